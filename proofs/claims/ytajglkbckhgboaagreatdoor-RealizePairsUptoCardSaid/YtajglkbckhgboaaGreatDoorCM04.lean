/- SxStB SxLi0 SxLi SxStub SxB SxC SxD SxE SxF SxG SxH SxVcC SxI SxJ SxK SxL SxM SxN SxO SxP SxQ SxR SxS SxT1 SxStubB SxT SxU SxV0 SxV SxW0 SxW SxX SxVcH SxY SxZ SxRp SxVcI SxMa SxMb SxMc SxMd SxMe SxNa SxNb SxNc SxNd SxNe SxVcK. -/
import Derived.Test.YtajglkbckhgboaaGreatDoorCM03
import Derived.Lib.TrailingZeros
import Derived.Maps.AppendAt
import Derived.DeepKeys4
set_option linter.all false
set_option maxRecDepth 100000
set_option maxHeartbeats 8000000

section
namespace Go.VC
open Go.Proofs Go.LexS
theorem und42:Pz.underlying 102=some (.slice 3):=by kernel_rfl
theorem size3:(Pz.info? 3).map (·.size)=some 1:=by kernel_rfl
theorem made3 (n:Nat):madeL Pz 3 n=List.replicate n (.int .i64 0):=by
 have hz:zeroC Pz 3=[.int .i64 0]:=by kernel_rfl
 unfold madeL;rw[hz]
 induction n with
 | zero=>rfl
 | succ n ih=>rw[List.replicate_succ,Yyu,ih];rfl
theorem rep_of {xs:List Value} {n:Nat} (hl:xs.length=n) (h:∀j,j<n->xs[j]?=some (.int .i64 (-1))):xs=((List.replicate n (-1:Int)).map inC).flatten:=by
 subst hl
 induction xs with
 | nil=>rfl
 | cons a r ih=>
  have h0:=h 0 (by simp);simp only[List.getElem?_cons_zero,Option.some.injEq] at h0;rw[Yyj,List.replicate_succ,Yyl,Yyu,<-ih fun j hj=>by have:=h (j+1) (by simpa using hj);simpa using this,h0];rfl
theorem wu64b {n:Int} (h0:0<=n) (h1:n<18446744073709551616):IntKind.wrap .u64 n=n:=by
 simp[IntKind.wrap,IntKind.signed,IntKind.bits];omega
theorem splice_rep {xs:List Value} {o m:Nat} (hm:o+m<=xs.length) (h:∀j,j<o->xs[j]?=some (.int .i64 (-1))):(splice xs o (List.replicate m (.int .i64 (-1)))).length=xs.length/\∀j,j<o+m->(splice xs o (List.replicate m (.int .i64 (-1))))[j]?=some (.int .i64 (-1)):=by
 unfold splice;refine⟨by simp only[Yh,Yu,List.length_drop,Yg];omega,fun j hj=>?_⟩;by_cases hjo:j<o
 .rw[Yz,Yyi (by rw[Yu];omega),Yyf,if_pos hjo];exact h j hjo
 .rw[Yyi (by simp only[Yh,Yu,Yg];omega),Yyc (by rw[Yu];omega),Yu,List.getElem?_replicate,if_pos (by omega)]
theorem ext_but {h h1 h2:Heap} {b:Nat} (E:Ext h h1) (B:But b h1 h2) (hb:h.size<=b):Ext h h2:=⟨by rw[B.1];exact E.1,fun k hk=>(B.2 k (by omega)).trans (E.2 k hk)⟩
theorem repeat60 (n:Int) (h0:0<=n) (h1:n<=200) (b:Nat) (h:Heap) (hb:hc h ⟨b,0,none⟩=some (.int .i64 (-1))) :
  Fn Pz 77 #[.slice (some ⟨b,0,none⟩) 1 1,.int .i64 n] h fun v h'=>Ext h h'/\∃s:Sl,v=.slice s.a s.n s.c/\OwnS h' h.size 3 1 s ((List.replicate n.toNat (-1)).map inC).flatten:=by
 obtain⟨N,rfl⟩:∃N:Nat,n=N:=⟨n.toNat,by omega⟩;have hN:N<=200:=by omega
 have hbl:b<h.size:=by
  rcases Nat.lt_or_ge b h.size with hlt | hge
  .exact hlt
  .unfold hc at hb;rw[Array.getElem?_eq_none (by simpa using hge)] at hb;cases hb
 apply vc77 ⟨some ⟨b,0,none⟩,1,1⟩;unfold W77;refine⟨fun h'=>h'=h,sB_f (decide_eq_false (by omega)) rfl,?_⟩;rintro-_ rfl;rw[show IntKind.wrap .u64 (((1:Nat):Int))=((1:Nat):Int) from wu64b (by omega) (by omega),show IntKind.wrap .u64 (N:Int)=((N:Nat):Int) from wu64b (by omega) (by omega)];refine (mul106 1 N (by omega) (by omega) _).mono ?_;rintro _ h6 ⟨rfl,rfl⟩;rw[show 1*N/18446744073709551616=0 by omega,show 1*N%18446744073709551616=N by omega];refine⟨_,_,rfl,fun h'=>h'=h6,sB_f rfl (sB_f (decide_eq_false (by omega)) rfl),?_⟩;rintro-h8 rfl;rw[show IntKind.wrap .i64 ((N:Nat):Int)=N from w64 (by omega) (by omega)];refine⟨⟨by omega,by omega,by omega⟩,?_⟩;rw[Ys,made3];intro h9 hh9;have o9:Own h9 h8.size (List.replicate N (.int .i64 0)) 3:=by rw[hh9];exact Own.push
 have E9:Ext h8 h9:=by rw[hh9];exact Ext.push _ _
 have hb9:hc h9 ⟨b,0,none⟩=some (.int .i64 (-1)):=by rw[E9.hc hbl];exact hb
 refine Cpy_row und42 size3 o9 (g2:=b) (o2:=0) (l:=List.replicate (min 1 N) (.int .i64 (-1))) (by simp) ?_ (by simp;omega) (fun v hv=>by rw[List.eq_of_mem_replicate hv];rfl) fun h11 B11 o11=>?_
 .intro j c hj;rw[List.getElem?_replicate] at hj;split at hj
  .cases hj;rw[show 0+j=0 by omega];exact hb9
  .cases hj
 obtain⟨e1,e2⟩:=splice_rep (xs:=List.replicate N (.int .i64 0)) (o:=0) (m:=min 1 N) (by simp;omega) (fun j hj=>by omega);generalize hxs:splice (List.replicate N (Value.int .i64 0)) 0 (List.replicate (min 1 N) (.int .i64 (-1)))=xs at o11 e1 e2;rw[Yg] at e1;have E11:=ext_but E9 B11 (Yyt _);clear hxs B11 o9;rw[Yg];refine⟨fun x h' m=>∃(i:Nat) (xs:List Value),x=i/\i<=N/\(1<=i\/N=0)/\m=N-i/\Own h' h8.size xs 3/\xs.length=N/\(∀j,j<i->xs[j]?=some (.int .i64 (-1)))/\Ext h8 h',
  ⟨_,min 1 N,xs,rfl,by omega,by omega,rfl,o11,e1,fun j hj=>e2 j (by omega),E11⟩,?_⟩
 rintro-x h16 m ⟨i,xs,rfl,hi,hi1,rfl,o16,hl,hall,E16⟩;refine sB_intro (fun c=>?_) (fun c=>?_)
 .replace c:=lt_t c;refine⟨⟨by omega,by omega,by omega⟩,⟨by omega,by omega,by omega⟩,?_⟩;rw[show Int.toNat ((i:Nat):Int)=i from Ys i,show Int.toNat ((N:Nat):Int)=N from Ys N,show Int.toNat 0=0 from rfl,subA_zero,subA_some c];refine Cpy_row und42 size3 o16 (g2:=h8.size) (o2:=0) (l:=List.replicate (min i (N-i)) (.int .i64 (-1))) (by simp) ?_ (by simp;omega) (fun v hv=>by rw[List.eq_of_mem_replicate hv];rfl) fun h18 B18 o18=>?_
  .intro j c hj;rw[List.getElem?_replicate] at hj;split at hj
   .cases hj;rw[o16.hc];exact hall _ (by omega)
   .cases hj
  obtain⟨e3,e4⟩:=splice_rep (xs:=xs) (o:=0+i*1) (m:=min i (N-i)) (by omega) (fun j hj=>hall j (by omega));rw[Yg];refine⟨N-(i+min i (N-i)),by omega,i+min i (N-i),_,by rw[w64 (by omega) (by omega)];omega,by omega,by omega,rfl,o18,by rw[e3];exact hl,fun j hj=>e4 j (by omega),ext_but E16 B18 (Yyt _)⟩
 .replace c:=lt_f c;have hiN:i=N:=by omega
  subst hiN;refine⟨E16,⟨some ⟨h8.size,0,none⟩,i,i⟩,rfl,?_,.inr ⟨h8.size,⟨xs⟩,rfl,Yyt _,o16,Yyt _,?_,?_,?_⟩⟩
  .rw[<-rep_of hl hall];show xs.length=i*1;omega
  .show i<=9223372036854775807;omega
  .show xs.length=i*1;omega
  .show xs.take (i*1)=_;rw[Yj (by omega)];exact rep_of hl hall
end Go.VC
end

section
namespace Go.VC

end Go.VC
end

section
namespace Go.VC
open Go.Proofs Go.LexS Go.Shelf Go.RowKit
attribute [local go_sem] Oper.semAt_some
end Go.VC
end

section

end

section
namespace Go.VC
open Go.Proofs Go.LexS
def isPath (l:Nm):Bool:=decide (l.length<=50)&&(pieces l).all isWord
theorem fn256 (l:Nm) (h:Heap):Fn Pz 299 #[.string (bs l)] h fun v h'=>v=.bool (!isWord l)/\Ext h h':=by
 apply vc299;unfold W299;refine (isword132 (bs l) h).mono ?_;rintro _ h3 ⟨rfl,E⟩;exact⟨_,rfl,rfl,E⟩
theorem cal256:callable Pz 299=true:=by kernel_rfl
theorem idx281 (L:List Nm) (s:Sl) (h:Heap) (hr:RL h 1 s nmC L) :
  Fn Pz 308 #[.slice s.a s.n s.c,.func (.func 299) #[] #[]] h fun v h'=>(∃k:Int,v=.int .i64 k/\decide (k>=0)=L.any fun x=>!isWord x)/\Ext h h':=by
 apply vc308;unfold W308;have hn:=hr.ln;have hm:=hr.sm;have hs:=St.refl h;refine up_loopS (n:=s.n) hs (fun i=>∀(j:Nat) (y:Nm),j<i->L[j]?=some y->(!isWord y)=false) (fun j y hj=>by omega) ?_;rintro-i h5 hi ⟨hs,hd⟩;refine sB_intro (fun l=>?_) (fun l=>?_)
 .replace l:=lt_t l;refine (hr.ext hs.ext).rw.nbI (by omega) (by omega) fun b o d g t=>?_;replace g:L[i]?=some d:=g;refine⟨_,t.hd,?_⟩;rw[cal256,cond_true];refine (fn256 d h5).mono ?_;rintro _ h11 ⟨rfl,E⟩;replace hs:=hs.step E;refine⟨_,rfl,sB_intro (fun c=>?_) (fun c=>?_)⟩
  .exact⟨⟨_,rfl,by rw[any_t g (p:=fun x=>!isWord x) c];exact decide_eq_true (by omega)⟩,hs.ext⟩
  .exact Up.next l (by omega) ⟨hs,scan_next (p:=fun x=>!isWord x) g c hd⟩
 .replace l:=lt_f l;refine⟨⟨_,rfl,?_⟩,hs.ext⟩;rw[any_f (p:=fun x=>!isWord x) fun j x hj=>hd j x (by have:=(Ya.1 hj).1;omega) hj];rfl
theorem any254 (L:List Nm) (s:Sl) (h:Heap) (hr:RL h 1 s nmC L) :
  Fn Pz 297 #[.slice s.a s.n s.c,.func (.func 299) #[] #[]] h fun v h'=>v=.bool (L.any fun x=>!isWord x)/\Ext h h':=by
 apply vc297;unfold W297;refine (idx281 L s h hr).mono ?_;rintro _ h3 ⟨⟨k,rfl,hk⟩,E⟩;exact⟨_,rfl,by rw[hk],E⟩
theorem any_not (L:List Nm):(!(L.any fun x=>!isWord x))=L.all isWord:=by
 induction L with
 | nil=>rfl
 | cons a L ih=>rw[List.any_cons,List.all_cons,<-ih];cases isWord a<;>simp
theorem path224 (l:Nm) (h:Heap) (hx:Gm h):Fn Pz 268 #[.string (bs l)] h fun v h'=>v=.bool (isPath l)/\Ext h h':=by
 apply vc268;unfold W268;rw[bs_size];refine sBi (fun c=>?_) (fun c=>?_)
 .have hl:l.length<=50:=by omega
  refine (split255 l h hx hl).mono ?_;rintro _ h3 ⟨E3,s,rfl,hr⟩;refine⟨_,rfl,?_⟩;refine (any254 _ s h3 hr).mono ?_;rintro _ h6 ⟨rfl,E6⟩;refine⟨_,rfl,?_,E3.trans E6⟩;unfold isPath;rw[decide_eq_true hl,any_not];rfl
 .refine⟨?_,(St.refl h).ext⟩;unfold isPath;rw[decide_eq_false (by omega)];rfl
def allF (L:List Dc):List Fld:=L.flatMap (·.fs)
theorem app130:appB Pz 166 260 4 40=true:=by kernel_rfl
theorem allF_le:∀(L:List Dc),(∀d∈L,d.fs.length<=1048576)->(allF L).length<=L.length*1048576
 | [],_=>by simp[allF]
 | d::L,h=>by
  have h1:=allF_le L fun x hx=>h x (Yn _ hx);have h2:=h d (by simp);unfold allF at *;rw[List.flatMap_cons,Yh,Yyj,Nat.succ_mul];omega
theorem allF_snoc (L:List Dc) (d:Dc):allF (L++[d])=allF L++d.fs:=by unfold allF;rw[List.flatMap_append,List.flatMap_singleton]
theorem fldrows (L:List Fld):∀r∈L.map Fld.cs,r.length=4:=fun r hr=>by obtain⟨x,_,rfl⟩:=Yp.1 hr;rfl
theorem one_of {α:Type} {cs:α->List Value} (h:∀x,(cs x).all oneB=true) (L:List α):(L.map cs).flatten.all oneB=true:=by
 induction L with
 | nil=>rfl
 | cons a L ih=>rw[Yyl,Yyu,List.all_append,h a,ih];rfl
theorem fields223 (L:List Dc) (s:Sl) (h:Heap) (hL:DL h s L) (h40:L.length<=40) :
  Fn Pz 267 #[.slice s.a s.n s.c] h fun v h'=>Ext h h'/\∃r:Sl,v=.slice r.a r.n r.c/\OwnS h' h.size 260 4 r ((allF L).map Fld.cs).flatten:=by
 apply vc267;unfold W267;have hn:=hL.r.ln;have hs:=(St.refl h).nil_ 260 4;refine up_loopA (n:=s.n) hs (fun i rows=>rows=(allF (L.take i)).map Fld.cs) rfl ?_;rintro-i out h6 rows hi hs q;refine sB_intro (fun l=>?_) (fun l=>?_)
 .replace l:=lt_t l;refine (hL.ext hs.ext).r.rw.nbI (by omega) (by omega) fun b o d g t=>?_;replace g:L[i]?=some d:=g;refine⟨_,_,_,_,_,t,?_⟩;refine hs.newput (vs:=d.cs) rfl rfl fun h15 hs=>?_;refine⟨_,hs.rd 0 rfl rfl,?_⟩;have hd:=(hL.i d (Yb g)).pf.ext hs.ext;have hlen:=(hs.len 1 rfl (by omega)).1;have h1:=allF_le (L.take i) fun x hx=>(hL.i x (List.mem_of_mem_take hx)).pf.sm;have h2:=hd.sm;have h3:=hd.ln;have h4:(L.take i).length*1048576<=40*1048576:=Nat.mul_le_mul_right _ (by rw[Yu];omega);rw[q,Yc] at hlen;refine hs.appRw 1 rfl app130 hd.rw (fldrows _) hd.nil (one_of (fun _=>rfl) _) (by omega) (by simp only[maxLen];omega) fun r h18 hr hs=>?_;refine UpA.next l (by omega) ⟨_,hs.drop 1,?_⟩;rw[q,take_snoc g,allF_snoc,Ym]
 .replace l:=lt_f l;rw[Yj (by omega)] at q;have:=hs.give 0 rfl;rw[q] at this;exact⟨hs.ext,out,rfl,this⟩
theorem cal226:callable Pz 270=true:=by kernel_rfl
theorem cal229:callable Pz 273=true:=by kernel_rfl
theorem bsEq (a b:Nm):(ByteArray.toList (bs a)==ByteArray.toList (bs b))=decide (a=b):=strEq _ _
theorem fn226 (d:Dc) (n:Nm) (c:Addr) (h:Heap) (hc0:hc h c=some (.string (bs n))):Fn Pz 270 #[.agg ⟨d.cs⟩,.pointer (some c)] h fun v h'=>v=.bool (decide (d.nm=n))/\Ext h h':=by
 apply vc270 (bs d.nm) d.hf d.first d.hd d.he c;unfold W270
 have hs:=St.refl h;refine hs.newb fun h6 hs=>?_;refine⟨_,hs.rd 0 rfl rfl,_,hc_ext hs.ext hc0,?_⟩;rw[bsEq];exact⟨rfl,hs.ext⟩
theorem fn229 (d:Fld) (n:Nm) (c:Addr) (h:Heap) (hc0:hc h c=some (.string (bs n))):Fn Pz 273 #[.agg ⟨d.cs⟩,.pointer (some c)] h fun v h'=>v=.bool (decide (d.nm=n))/\Ext h h':=by
 apply vc273 (bs d.nm) d.k d.lo d.hi c;unfold W273;have hs:=St.refl h;refine hs.newb fun h6 hs=>?_;refine⟨_,hs.rd 0 rfl rfl,_,hc_ext hs.ext hc0,?_⟩;rw[bsEq];exact⟨rfl,hs.ext⟩
theorem has225 (L:List Dc) (n:Nm) (c:Addr) (s:Sl) (h:Heap) (hr:RL h 5 s Dc.cs L) (hc0:hc h c=some (.string (bs n))) :
  Fn Pz 269 #[.slice s.a s.n s.c,.func (.func 270) #[] #[.pointer (some c)]] h fun v h'=>v=.bool (L.any fun d=>decide (d.nm=n))/\Ext h h':=by
 apply vc269;unfold W269;have key:Fn Pz 300 #[.slice s.a s.n s.c,.func (.func 270) #[] #[.pointer (some c)]] h fun v h'=>(∃k:Int,v=.int .i64 k/\decide (k>=0)=L.any fun d=>decide (d.nm=n))/\Ext h h':=by
  apply vc300;unfold W300;have hn:=hr.ln;have hm:=hr.sm;have hs:=St.refl h;refine up_loopS (n:=s.n) hs (fun i=>∀(j:Nat) (y:Dc),j<i->L[j]?=some y->decide (y.nm=n)=false) (fun j y hj=>by omega) ?_;rintro-i h5 hi ⟨hs,hd⟩;refine sB_intro (fun l=>?_) (fun l=>?_)
  .replace l:=lt_t l;refine (hr.ext hs.ext).rw.nbI (by omega) (by omega) fun b o d g t=>?_;replace g:L[i]?=some d:=g;refine⟨_,_,_,_,_,t,?_⟩;rw[cal226,cond_true];refine (fn226 d n c h5 (hc_ext hs.ext hc0)).mono ?_;rintro _ h11 ⟨rfl,E⟩;replace hs:=hs.step E;refine⟨_,rfl,sB_intro (fun c=>?_) (fun c=>?_)⟩
   .exact⟨⟨_,rfl,by rw[any_t g (p:=fun d=>decide (d.nm=n)) c];exact decide_eq_true (by omega)⟩,hs.ext⟩
   .exact Up.next l (by omega) ⟨hs,scan_next (p:=fun d=>decide (d.nm=n)) g c hd⟩
  .replace l:=lt_f l;refine⟨⟨_,rfl,?_⟩,hs.ext⟩;rw[any_f (p:=fun d:Dc=>decide (d.nm=n)) fun j x hj=>hd j x (by have:=(Ya.1 hj).1;omega) hj];rfl
 refine key.mono ?_;rintro _ h3 ⟨⟨k,rfl,hk⟩,E⟩;exact⟨_,rfl,by rw[hk],E⟩
theorem has228 (L:List Fld) (n:Nm) (c:Addr) (s:Sl) (h:Heap) (hr:RL h 4 s Fld.cs L) (hc0:hc h c=some (.string (bs n))) :
  Fn Pz 272 #[.slice s.a s.n s.c,.func (.func 273) #[] #[.pointer (some c)]] h fun v h'=>v=.bool (L.any fun d=>decide (d.nm=n))/\Ext h h':=by
 apply vc272;unfold W272;have key:Fn Pz 301 #[.slice s.a s.n s.c,.func (.func 273) #[] #[.pointer (some c)]] h fun v h'=>(∃k:Int,v=.int .i64 k/\decide (k>=0)=L.any fun d=>decide (d.nm=n))/\Ext h h':=by
  apply vc301;unfold W301;have hn:=hr.ln;have hm:=hr.sm;have hs:=St.refl h;refine up_loopS (n:=s.n) hs (fun i=>∀(j:Nat) (y:Fld),j<i->L[j]?=some y->decide (y.nm=n)=false) (fun j y hj=>by omega) ?_;rintro-i h5 hi ⟨hs,hd⟩;refine sB_intro (fun l=>?_) (fun l=>?_)
  .replace l:=lt_t l;refine (hr.ext hs.ext).rw.nbI (by omega) (by omega) fun b o d g t=>?_;replace g:L[i]?=some d:=g;refine⟨_,_,_,_,t,?_⟩;rw[cal229,cond_true];refine (fn229 d n c h5 (hc_ext hs.ext hc0)).mono ?_;rintro _ h11 ⟨rfl,E⟩;replace hs:=hs.step E;refine⟨_,rfl,sB_intro (fun c=>?_) (fun c=>?_)⟩
   .exact⟨⟨_,rfl,by rw[any_t g (p:=fun d=>decide (d.nm=n)) c];exact decide_eq_true (by omega)⟩,hs.ext⟩
   .exact Up.next l (by omega) ⟨hs,scan_next (p:=fun d=>decide (d.nm=n)) g c hd⟩
  .replace l:=lt_f l;refine⟨⟨_,rfl,?_⟩,hs.ext⟩;rw[any_f (p:=fun d:Fld=>decide (d.nm=n)) fun j x hj=>hd j x (by have:=(Ya.1 hj).1;omega) hj];rfl
 refine key.mono ?_;rintro _ h3 ⟨⟨k,rfl,hk⟩,E⟩;exact⟨_,rfl,by rw[hk],E⟩
def SortS (k lo hi:Int):Prop:=k=1 /\ -1000<=lo/\lo<=hi/\hi<=1000\/k=2/\0<=lo/\lo<=hi/\hi<=40
instance (k lo hi:Int):Decidable (SortS k lo hi):=by unfold SortS;infer_instance
theorem sorted227 (k lo hi:Int) (h:Heap):Fn Pz 271 #[.agg ⟨[.int .i64 k,.int .i64 lo,.int .i64 hi]⟩] h fun v h'=>v=.bool (decide (SortS k lo hi))/\Ext h h':=by
 apply vc271 k lo hi;unfold W271;have hs:=St.refl h;refine hs.newb fun h4 hs=>?_;have E:=hs.ext;have r0:=hs.rd 0 rfl (i:=0) rfl;have r1:=hs.rd 0 rfl (i:=1) rfl;have r2:=hs.rd 0 rfl (i:=2) rfl;clear hs
 repeat' first
  | refine Exists.intro k (And.intro r0 ?_)
  | refine Exists.intro lo (And.intro r1 ?_)
  | refine Exists.intro hi (And.intro r2 ?_)
  | refine sBi (fun _=>?_) (fun _=>?_)
  | refine sBe (fun _=>?_) (fun _=>?_)
 all_goals
  refine⟨?_,E⟩;clear r0 r1 r2 E;congr 1;rw[Bool.eq_iff_iff];simp only[decide_eq_true_eq,Bool.false_eq_true,false_iff];unfold SortS;omega
def TextS (all:List Fld) (x:Int):Prop:=0<=x/\∃f,all[x.toNat]?=some f/\f.k=2
structure GuardS (all:List Fld) (ds:List Df) (es:List Eqs):Prop where
 nd:ds.length<=20
 ne:es.length<=20
 d:∀x∈ds,-1<=min x.x x.y/\max x.x x.y<all.length /\ -20000<=x.c/\x.c<=20000
 e:∀x∈es,TextS all x.x/\TextS all x.y
noncomputable instance (all:List Fld) (ds:List Df) (es:List Eqs):Decidable (GuardS all ds es):=Classical.propDecidable _
theorem two_at {x y:Int} {i:Nat} (hi:i<2):List.take 1 (List.drop (Int.toNat (i:Int)*1) ([.int .i64 x,.int .i64 y]:List Value))=[.int .i64 (if i=0 then x else y)]:=by
 rcases i with _ | _ | i
 .rfl
 .rfl
 .omega
theorem guarded230 (all:List Fld) (ds:List Df) (es:List Eqs) (sd se sa:Sl) (h:Heap) (hd:RL h 3 sd Df.cs ds) (he:RL h 2 se Eqs.cs es) (ha:Rw h 4 sa (all.map Fld.cs)) :
  Fn Pz 274 #[.agg ⟨[.slice sd.a sd.n sd.c,.slice se.a se.n se.c]⟩,.slice sa.a sa.n sa.c] h fun v h'=>v=.bool (decide (GuardS all ds es))/\Ext h h':=by
 apply vc274 sd se sa;unfold W274;have hs:=St.refl h;have hnd:=hd.ln;have hne:=he.ln;have hna:=ha.ln;refine hs.newb fun h3 hs=>?_;refine⟨_,hs.rd 0 rfl rfl,?_⟩;refine sBi (fun c1=>?_) (fun c1=>?_)
 .exact⟨dF fun hG=>by have:=hG.nd;omega,hs.ext⟩
 .refine⟨_,hs.rd 0 rfl rfl,?_⟩;refine sBi (fun c2=>?_) (fun c2=>?_)
  .exact⟨dF fun hG=>by have:=hG.ne;omega,hs.ext⟩
  .refine⟨_,hs.rd 0 rfl rfl,?_⟩;refine up_loopS (n:=sd.n) hs (fun i=>∀(j:Nat) (x:Df),j<i->ds[j]?=some x -> -1<=min x.x x.y/\max x.x x.y<all.length /\ -20000<=x.c/\x.c<=20000) (fun j x hj=>by omega) ?_;rintro-i7 h11 k7 ⟨hs,q7⟩;refine sB_intro (fun l7=>?_) (fun l7=>?_)
   .have l7:=lt_t l7;refine (hd.ext hs.ext).rw.nbI (by omega) (by omega) fun b12 o13 d12 g12 t12=>?_;replace g12:_[i7]?=some d12:=g12;have hm:=Yb g12;refine⟨_,_,_,t12,?_⟩;refine hs.newput (vs:=d12.cs) rfl rfl fun h18 hs=>?_;refine⟨_,hs.rd 0 rfl rfl,?_⟩;refine⟨_,hs.rd 0 rfl rfl,?_⟩;rw[imin_min];refine sBi (fun c3=>?_) (fun c3=>?_)
    .exact⟨dF fun hG=>by have:=hG.d _ hm;omega,hs.ext⟩
    .refine⟨_,hs.rd 0 rfl rfl,?_⟩;refine⟨_,hs.rd 0 rfl rfl,?_⟩;rw[imax_max];refine sBi (fun c4=>?_) (fun c4=>?_)
     .exact⟨dF fun hG=>by have:=hG.d _ hm;omega,hs.ext⟩
     .refine⟨_,hs.rd 0 rfl rfl,?_⟩;refine sBi (fun c5=>?_) (fun c5=>?_)
      .exact⟨dF fun hG=>by have:=hG.d _ hm;omega,hs.ext⟩
      .refine⟨_,hs.rd 0 rfl rfl,?_⟩;refine sBi (fun c6=>?_) (fun c6=>?_)
       .exact⟨dF fun hG=>by have:=hG.d _ hm;omega,hs.ext⟩
       .refine Up.next l7 (by omega) ⟨hs.drop 1,fun j x hj hx=>?_⟩;by_cases e:j=i7
        .subst e;rw[g12] at hx;cases hx;refine⟨?_,?_,?_,?_⟩<;>omega
        .exact q7 j x (by omega) hx
   .have l7:=lt_f l7;have Q7:∀x∈ds,-1<=min x.x x.y/\max x.x x.y<all.length /\ -20000<=x.c/\x.c<=20000:=fun x hx=>by
     obtain⟨j,hj⟩:=Yf.1 hx;exact q7 j x (by have:=(Ya.1 hj).1;omega) hj
    clear q7;refine⟨_,hs.rd 0 rfl rfl,?_⟩;refine up_loopS (n:=se.n) hs (fun i=>∀(j:Nat) (x:Eqs),j<i->es[j]?=some x->TextS all x.x/\TextS all x.y) (fun j x hj=>by omega) ?_;rintro-i27 h31 k27 ⟨hs,q27⟩;refine sB_intro (fun l27=>?_) (fun l27=>?_)
    .have l27:=lt_t l27;refine (he.ext hs.ext).rw.nbI (by omega) (by omega) fun b32 o33 d32 g32 t32=>?_;replace g32:_[i27]?=some d32:=g32;have hm:=Yb g32;refine⟨_,_,t32,?_⟩;refine hs.newput (vs:=d32.cs) rfl rfl fun h37 hs=>?_;refine⟨_,_,hs.at 0 rfl (n:=2) rfl,?_⟩;refine up_loopS (n:=2) hs (fun i=>∀j,j<i->TextS all (if j=0 then d32.x else d32.y)) (fun j hj=>by omega) ?_;rintro-i40 h44 k40 ⟨hs,q40⟩;refine sBi (fun c7=>?_) (fun c7=>?_)
     .have l40:i40<2:=by omega
      refine⟨⟨by omega,by omega⟩,_,two_at l40,?_⟩;have hx:GuardS all ds es->TextS all (if i40=0 then d32.x else d32.y):=fun hG=>by
       have:=hG.e _ hm;split
       .exact this.1
       .exact this.2
      generalize hxe:(if i40=0 then d32.x else d32.y)=x at *;refine sBi (fun c8=>?_) (fun c8=>?_)
      .exact⟨dF fun hG=>by have:=(hx hG).1;omega,hs.ext⟩
      .refine sBi (fun c9=>?_) (fun c9=>?_)
       .exact⟨dF fun hG=>by obtain⟨f,hf,_⟩:=(hx hG).2;have:=(Ya.1 hf).1;omega,hs.ext⟩
       .refine (ha.ext hs.ext).nbI (by omega) (by omega) fun b46 o47 d46 g46 t46=>?_;refine⟨_,t46.nth 1 rfl,?_⟩;refine sBn (fun c10=>?_) (fun c10=>?_)
        .exact⟨dF fun hG=>by obtain⟨f,hf,hk⟩:=(hx hG).2;rw[g46] at hf;cases hf;exact c10 hk,hs.ext⟩
        .refine Up.next l40 (by omega) ⟨hs,fun j hj=>?_⟩;by_cases e:j=i40
         .subst e;rw[hxe];exact⟨by omega,d46,g46,c10⟩
         .exact q40 j (by omega)
     .have h0:=q40 0 (by omega);have h1:=q40 1 (by omega);refine Up.next l27 (by omega) ⟨hs.drop 1,fun j x hj hx=>?_⟩;by_cases e:j=i27
      .subst e;rw[g32] at hx;cases hx;exact⟨h0,h1⟩
      .exact q27 j x (by omega) hx
    .have l27:=lt_f l27;have Q27:∀x∈es,TextS all x.x/\TextS all x.y:=fun x hx=>by
      obtain⟨j,hj⟩:=Yf.1 hx;exact q27 j x (by have:=(Ya.1 hj).1;omega) hj
     exact⟨dT ⟨by omega,by omega,Q7,Q27⟩,hs.ext⟩
structure FldS (fs:List Fld) (i:Nat) (f:Fld):Prop where
 pw:isWord f.nm=true
 ps:SortS f.k f.lo f.hi
 pd:((fs.take i).any fun x=>decide (x.nm=f.nm))=false
structure DcS (L:List Dc) (i:Nat) (d:Dc):Prop where
 pp:isPath d.nm=true
 pn:d.fs.length<=4
 pf:d.first=((allF (L.take i)).length:Nat)
 pd:((L.take i).any fun x=>decide (x.nm=d.nm))=false
 pfs:∀k f,d.fs[k]?=some f->FldS d.fs k f
 pg:GuardS (allF L) d.ds d.es
structure DeclS (L:List Dc):Prop where
 pn:L.length<=40
 pv:(allF L).length<=24
 pd:∀i d,L[i]?=some d->DcS L i d
noncomputable instance (L:List Dc):Decidable (DeclS L):=Classical.propDecidable _
theorem allF_take (L:List Dc) (i:Nat):(allF (L.take i)).length<=(allF L).length:=by
 have:allF L=allF (L.take i)++allF (L.drop i):=by unfold allF;rw[<-List.flatMap_append,List.take_append_drop]
 rw[this,Yh];omega
theorem bF {b:Bool} (h:(!b)=true):b=false:=by cases b<;>simp_all
theorem bT {b:Bool} (h:(!b)=false):b=true:=by cases b<;>simp_all
theorem valid191 (L:List Dc) (s:Sl) (h:Heap) (hL:DL h s L) (hx:Gm h) :
  Fn Pz 224 #[.slice s.a s.n s.c] h fun v h'=>v=.bool (decide (DeclS L))/\Ext h h':=by
 apply vc224;unfold W224;have hs:=St.refl h;have hn:=hL.r.ln;have hsm:=hL.r.sm;refine sBi (fun c1=>?_) (fun c1=>?_)
 .exact⟨dF fun hG=>by have:=hG.pn;omega,hs.ext⟩
 .refine (fields223 L s h hL (by omega)).mono ?_;rintro _ h3 ⟨E3,x2,rfl,hall⟩;replace hs:=hs.gift E3 hall (fldrows _);have hxn:x2.n=(allF L).length:=(hs.rows 0 rfl (by omega)).ln;refine⟨_,rfl,?_⟩;refine sBi (fun c2=>?_) (fun c2=>?_)
  .exact⟨dF fun hG=>by have:=hG.pv;omega,hs.ext⟩
  .refine⟨fun at_7 x_8 h' m=>∃i:Nat,x_8=i/\m=s.n-i/\i<=s.n/\St h h' [.sl x2 260 4 ((allF L).map Fld.cs)]/\(at_7=((allF (L.take i)).length:Nat))/\∀j d,j<i->L[j]?=some d->DcS L j d,⟨_,0,rfl,rfl,by omega,hs,rfl,fun j d hj=>by omega⟩,?_⟩;rintro-_ _ h9 m ⟨i,rfl,rfl,hi,hs,rfl,q⟩;refine sBi (fun c3=>?_) (fun c3=>?_)
   .have l3:i<s.n:=by omega
    refine (hL.ext hs.ext).r.rw.nbI (by omega) (by omega) fun b10 o11 d10 g10 t10=>?_;replace g10:_[i]?=some d10:=g10;have hle:=allF_take L i;have hd:=hL.i d10 (Yb g10);refine⟨_,_,_,_,_,t10,?_⟩;refine hs.newput (vs:=d10.cs) rfl rfl fun h18 hs=>?_;refine⟨_,hs.rd 0 rfl rfl,?_⟩;refine (path224 d10.nm h18 (hx.ext hs.ext)).mono ?_;rintro _ h22 ⟨rfl,Eh22⟩;replace hs:=hs.step Eh22;refine⟨_,rfl,?_⟩;refine sB_intro (fun c4=>?_) (fun c4=>?_)
    .exact⟨dF fun hG=>(by have:=(hG.pd i _ g10).pp;rw[bF c4] at this;cases this),hs.ext⟩
    .refine⟨_,hs.rd 0 rfl rfl,?_⟩;have hfl:=hd.pf.ln;refine sBi (fun c5=>?_) (fun c5=>?_)
     .exact⟨dF fun hG=>by have:=(hG.pd i _ g10).pn;omega,hs.ext⟩
     .refine⟨_,hs.rd 0 rfl rfl,?_⟩;refine sBn (fun c6=>?_) (fun c6=>?_)
      .exact⟨dF fun hG=>c6 (hG.pd i _ g10).pf,hs.ext⟩
      .have hcap:=hL.r.cap;refine⟨by omega,?_⟩;refine (has225 (L.take i) d10.nm _ _ h22 ((hL.r.ext hs.ext).take (by omega)) (hs.rd 0 rfl rfl)).mono ?_;rintro _ h27 ⟨rfl,Eh27⟩;replace hs:=hs.step Eh27;refine⟨_,rfl,?_⟩;refine sB_intro (fun c7=>?_) (fun c7=>?_)
       .exact⟨dF fun hG=>(by have:=(hG.pd i _ g10).pd;rw[c7] at this;cases this),hs.ext⟩
       .refine⟨_,hs.rd 0 rfl rfl,?_⟩;refine⟨_,hs.rd 0 rfl rfl,?_⟩;refine up_loopS (n:=d10.hf.n) hs (fun k=>∀(j:Nat) (f:Fld),j<k->d10.fs[j]?=some f->FldS d10.fs j f) (fun j x hj=>by omega) ?_;rintro-i30 h34 k30 ⟨hs,q30⟩;refine sB_intro (fun l30=>?_) (fun l30=>?_)
        .have l30:=lt_t l30;refine (hd.pf.ext hs.ext).rw.nbI (by omega) (by omega) fun b35 o36 d35 g35 t35=>?_;replace g35:_[i30]?=some d35:=g35;refine⟨_,_,_,_,t35,?_⟩;refine hs.newput (vs:=d35.cs) rfl rfl fun h42 hs=>?_;refine⟨_,hs.rd 0 rfl rfl,?_⟩;refine (isword132 (bs d35.nm) h42).mono ?_;rintro _ h46 ⟨rfl,Eh46⟩;replace hs:=hs.step Eh46;refine⟨_,rfl,?_⟩;rw[bs_list];refine sB_intro (fun c8=>?_) (fun c8=>?_)
         .exact⟨dF fun hG=>(by have:=((hG.pd i _ g10).pfs _ _ g35).pw;rw[bF c8] at this;cases this),hs.ext⟩
         .refine⟨_,_,_,hs.at 0 rfl (n:=3) rfl,?_⟩;refine (sorted227 d35.k d35.lo d35.hi h46).mono ?_;rintro _ h52 ⟨rfl,Eh52⟩;replace hs:=hs.step Eh52;refine⟨_,rfl,?_⟩;refine sB_intro (fun c9=>?_) (fun c9=>?_)
          .exact⟨dF fun hG=>Yyo (bF c9) ((hG.pd i _ g10).pfs _ _ g35).ps,hs.ext⟩
          .refine⟨_,hs.rd 1 rfl rfl,?_⟩;have hcap:=hd.pf.cap;refine⟨⟨by omega,by omega,by omega⟩,?_⟩;refine (has228 (d10.fs.take i30) d35.nm _ _ h52 ((hd.pf.ext hs.ext).take (by omega)) (hs.rd 0 rfl rfl)).mono ?_;rintro _ h56 ⟨rfl,Eh56⟩;replace hs:=hs.step Eh56;refine⟨_,rfl,?_⟩;refine sB_intro (fun c10=>?_) (fun c10=>?_)
           .exact⟨dF fun hG=>(by have:=((hG.pd i _ g10).pfs _ _ g35).pd;rw[c10] at this;cases this),hs.ext⟩
           .refine Up.next l30 (by omega) ⟨hs.drop 1,fun j f hj hf=>?_⟩;by_cases e:j=i30
            .subst e;rw[g35] at hf;cases hf;exact⟨bT c8,Yyn (bT c9),c10⟩
            .exact q30 j f (by omega) hf
        .have l30:=lt_f l30;have Q30:∀k f,d10.fs[k]?=some f->FldS d10.fs k f:=fun k f hf=>q30 k f (by have:=(Ya.1 hf).1;omega) hf;refine⟨_,_,hs.at 0 rfl (n:=2) rfl,?_⟩;refine (guarded230 (allF L) d10.ds d10.es d10.hd d10.he x2 h34 (hd.pd.ext hs.ext) (hd.pe.ext hs.ext) (hs.rows 1 rfl (by omega))).mono ?_;rintro _ h62 ⟨rfl,Eh62⟩;replace hs:=hs.step Eh62;refine⟨_,rfl,?_⟩;refine sB_intro (fun c11=>?_) (fun c11=>?_)
         .exact⟨dF fun hG=>Yyo (bF c11) (hG.pd i _ g10).pg,hs.ext⟩
         .refine⟨_,by omega,i+1,?_,rfl,by omega,hs.drop 1,?_,fun j d hj hd'=>?_⟩
          .rw[w64 (by omega) (by omega)];omega
          .rw[take_snoc g10,allF_snoc,Yh,w64 (by omega) (by omega)];omega
          .by_cases e:j=i
           .subst e;rw[g10] at hd';cases hd';exact⟨bT c4,by omega,c6,c7,Q30,Yyn (bT c11)⟩
           .exact q j d (by omega) hd'
   .exact⟨dT ⟨by omega,by omega,fun i' d hd=>q i' d (by have:=(Ya.1 hd).1;omega) hd⟩,hs.ext⟩
theorem app131:appB Pz 167 263 3 24=true:=by kernel_rfl
theorem dfrows (L:List Df):∀r∈L.map Df.cs,r.length=3:=fun r hr=>by obtain⟨x,_,rfl⟩:=Yp.1 hr;rfl
theorem bounds192 (d:Dc) (h:Heap) (hd:DI h d) (h4:d.fs.length<=4) (h5:d.ds.length<=20) (h6:d.es.length<=20) :
  Fn Pz 225 #[.agg ⟨d.cs⟩] h fun v h'=>Ext h h'/\∃s:Sl,v=.slice s.a s.n s.c:=by
 apply vc225 (bs d.nm) d.hf d.first d.hd d.he;unfold W225
 have hs:=St.refl h;have n1:=hd.pf.ln;have n2:=hd.pd.ln;have n3:=hd.pe.ln;refine hs.newb fun h6 hs=>?_;refine⟨_,hs.rd 0 rfl rfl,?_⟩;refine up_loopA (n:=d.hf.n) (hs.nil_ 263 3) (fun i rows=>rows.length=2*i) rfl ?_;rintro-i out_11 h13 rows hi hs q;refine sB_intro (fun l=>?_) (fun l=>?_)
 .replace l:=lt_t l;refine (hd.pf.ext hs.ext).rw.nbI (by omega) (by omega) fun b14 o15 d14 g14 t14=>?_;refine⟨_,_,_,_,t14,?_⟩;refine hs.newput (vs:=d14.cs) rfl rfl fun h21 hs=>?_;refine⟨_,hs.rd 2 rfl rfl,?_⟩;refine⟨_,hs.rd 0 rfl rfl,?_⟩;refine⟨_,hs.rd 2 rfl rfl,?_⟩;refine⟨_,hs.rd 0 rfl rfl,?_⟩;have hl:=(hs.len 1 rfl (by omega)).1;refine hs.app 1 rfl app131 (m:=2) [[_,_,_],[_,_,_]] rfl rfl (by simp) rfl (by omega) (by simp only[maxLen];omega) fun s27 h28 ns27 hs=>?_;exact UpA.next l (by omega) ⟨_,hs.drop 1,by rw[Yh,q];rfl⟩
 .replace l:=lt_f l;refine⟨_,hs.rd 1 rfl rfl,?_⟩;have hl:=(hs.len 0 rfl (by omega)).1;refine hs.appRw 0 rfl app131 (hd.pd.ext hs.ext).rw (dfrows _) hd.pd.nil (one_of (fun _=>rfl) _) (by omega) (by simp only[maxLen];omega) fun s31 h32 ns31 hs=>?_;refine⟨_,hs.rd 1 rfl rfl,?_⟩;refine up_loopA (n:=d.he.n) hs (fun i rows=>rows.length<=28+2*i) (by rw[Yh,Yc];omega) ?_;rintro-i out_37 h39 rows hi hs q;refine sB_intro (fun l=>?_) (fun l=>?_)
  .replace l:=lt_t l;refine (hd.pe.ext hs.ext).rw.nbI (by omega) (by omega) fun b40 o41 d40 g40 t40=>?_;refine⟨_,_,t40,?_⟩;refine hs.newput (vs:=d40.cs) rfl rfl fun h45 hs=>?_;refine⟨by omega,_,hs.rd 0 rfl (i:=0) rfl,by omega,_,hs.rd 0 rfl (i:=1) rfl,by omega,_,hs.rd 0 rfl (i:=1) rfl,by omega,_,hs.rd 0 rfl (i:=0) rfl,?_⟩;have hl:=(hs.len 1 rfl (by omega)).1;refine hs.app 1 rfl app131 (m:=2) [[_,_,_],[_,_,_]] rfl rfl (by simp) rfl (by omega) (by simp only[maxLen];omega) fun s51 h52 ns51 hs=>?_;exact UpA.next l (by omega) ⟨_,hs.drop 1,by rw[Yh];show _+2<=_;omega⟩
  .exact⟨hs.ext,out_37,rfl⟩
theorem bounds134 (L:List Dc) (s:Sl) (h:Heap) (hL:DL h s L) (hx:Gm h) (hne:L≠[]) :
  Fn Pz 162 #[.slice s.a s.n s.c,.int .i64 0] h fun v h'=>Ext h h'/\∃s:Sl,v=.tuple ⟨[.slice s.a s.n s.c,.int .i64 (if DeclS L then 0 else 1)]⟩:=by
 apply vc162;unfold W162;have hn:=hL.r.ln;have hpos:0<L.length:=List.length_pos_iff.2 hne;have hs:=St.refl h;refine sBi (fun c1=>by omega) (fun c1=>?_);refine sBi (fun c2=>by omega) (fun c2=>?_);refine (valid191 L s h hL hx).mono ?_;rintro _ h3 ⟨rfl,Eh3⟩;replace hs:=hs.step Eh3;refine⟨_,rfl,?_⟩;refine sB_intro (fun c3=>?_) (fun c3=>?_)
 .rw[if_neg (Yyo (bF c3))];exact⟨hs.ext,⟨none,0,0⟩,rfl⟩
 .have hD:=Yyn (bT c3);rw[if_pos hD];refine (hL.ext hs.ext).r.rw.nbI (by omega) (by omega) fun b4 o5 d4 g4 t4=>?_;refine⟨_,_,_,_,_,t4,?_⟩;have hd:=hD.pd _ _ g4;refine (bounds192 d4 h3 ((hL.i d4 (Yb g4)).ext hs.ext) hd.pn hd.pg.nd hd.pg.ne).mono ?_;rintro _ h13 ⟨Eh13,r,rfl⟩;exact⟨_,rfl,(hs.step Eh13).ext,r,rfl⟩
theorem declared78 (L:List Dc) (s:Sl) (h:Heap) (hL:DL h s L) (hx:Gm h):Fn Pz 90 #[.slice s.a s.n s.c] h fun v h'=>v=.bool (decide (DeclS L))/\Ext h h':=by
 apply vc90;unfold W90;have hn:=hL.r.ln;refine sBe (fun c1=>?_) (fun c1=>?_)
 .have:L=[]:=List.length_eq_zero_iff.1 (by omega);subst this;exact⟨dT ⟨by simp,by simp[allF],fun i d hd=>by simp at hd⟩,(St.refl h).ext⟩
 .refine (bounds134 L s h hL hx (fun e=>by subst e;simp at hn;omega)).mono ?_;rintro _ h4 ⟨E,r,rfl⟩;refine⟨_,_,rfl,?_,E⟩;by_cases hD:DeclS L
  .rw[if_pos hD,decide_eq_true hD];rfl
  .rw[if_neg hD,decide_eq_false hD];rfl
structure NamedS (g:Gl):Prop where
 w:isWord g.nm=true
 n1:1<=g.rs.length
 n6:g.rs.length<=6
 r:∀i s,g.rs[i]?=some s->isWord s=true/\s∉g.rs.take i
noncomputable instance (g:Gl):Decidable (NamedS g):=Classical.propDecidable _
theorem named76 (g:Gl) (h:Heap) (hg:GI h g):Fn Pz 88 #[g.v] h fun v h'=>v=.bool (decide (NamedS g))/\Ext h h':=by
 apply vc88 (bs g.nm) g.hr g.hd g.n g.s g.e g.he g.ht;unfold W88;have hs:=St.refl h;have hn:=hg.r.ln;have hcap:=hg.r.cap;refine hs.newb fun h9 hs=>?_;refine⟨_,hs.rd 0 rfl rfl,?_⟩;refine (isword132 _ _).mono ?_;rintro _ h13 ⟨rfl,Eh13⟩;replace hs:=hs.step Eh13;refine⟨_,rfl,?_⟩;refine sB_intro (fun c1=>?_) (fun c1=>?_)
 .skip
  exact⟨dF fun hG=>(by have:=hG.w;rw[show isWord g.nm=false from bF c1] at this;cases this),hs.ext⟩
 .skip
  refine⟨_,hs.rd 0 rfl rfl,?_⟩;refine sBi (fun c2=>?_) (fun c2=>?_)
  .skip
   exact⟨dF fun hG=>(by have:=hG.n1;omega),hs.ext⟩
  .skip
   refine⟨_,hs.rd 0 rfl rfl,?_⟩;refine sBi (fun c3=>?_) (fun c3=>?_)
   .skip
    exact⟨dF fun hG=>(by have:=hG.n6;omega),hs.ext⟩
   .skip
    refine⟨_,hs.rd 0 rfl rfl,?_⟩;refine up_loopS (n:=g.hr.n) hs (fun i17=>∀(j:Nat) (s:Nm),j<i17->g.rs[j]?=some s->isWord s=true/\s∉g.rs.take j) (fun j s hj=>by omega) ?_;rintro-i17 h21 k17 ⟨hs,q17⟩;refine sB_intro (fun l17=>?_) (fun l17=>?_)
    .have l17:=lt_t l17;refine ((hg.r.ext hs.ext).rw).nbI (by omega) (by omega) fun b22 o23 d22 g22 t22=>?_;replace g22:_[i17]?=some d22:=g22;refine⟨_,t22.hd,?_⟩;refine (isword132 _ _).mono ?_;rintro _ h27 ⟨rfl,Eh27⟩;replace hs:=hs.step Eh27;refine⟨_,rfl,?_⟩;refine sB_intro (fun c4=>?_) (fun c4=>?_)
     .skip
      exact⟨dF fun hG=>(by have:=(hG.r _ _ g22).1;rw[show isWord d22=false from bF c4] at this;cases this),hs.ext⟩
     .skip
      refine⟨_,hs.rd 0 rfl rfl,?_⟩;refine⟨by omega,?_⟩;refine (has133 (g.rs.take i17) (bs d22) ⟨subA g.hr.a (Int.toNat 0) g.hr.c 1,Int.toNat (i17:Int)-Int.toNat 0,g.hr.c-Int.toNat 0⟩ _ ((hg.r.ext hs.ext).take (by omega))).mono ?_;rintro _ h31 ⟨rfl,rfl⟩;refine⟨_,rfl,?_⟩;refine sB_intro (fun c5=>?_) (fun c5=>?_)
      .skip
       exact⟨dF fun hG=>(hG.r _ _ g22).2 (Yyn c5),hs.ext⟩
      .skip
       exact Up.next l17 (by omega) ⟨hs,fun j s hj hx=>by by_cases e:j=i17;(subst e;rw[g22] at hx;cases hx;exact⟨bT c4,Yyo c5⟩);exact q17 j s (by omega) hx⟩
    .have l17:=lt_f l17;exact⟨dT ⟨bT c1,by omega,by omega,fun j s hx=>q17 j s (by have:=(Ya.1 hx).1;omega) hx⟩,hs.ext⟩
def EdS (g:Gl) (x:Ed):Prop:=0<=x.f/\0<=x.t/\0<=x.a/\0<=x.b/\0<=x.l/\x.f<g.n/\x.t<g.n/\x.a<g.rs.length/\x.b<g.rs.length/\x.a≠x.b/\x.l<g.ds.length
structure NumS (g:Gl):Prop where
 n:1<=g.n/\g.n<=200/\0<=g.s/\0<=g.e/\g.s<g.n/\g.e<g.n
 m:g.es.length<=400
 e:∀x∈g.es,EdS g x
noncomputable instance (g:Gl):Decidable (NumS g):=Classical.propDecidable _
theorem numbered77 (g:Gl) (h:Heap) (hg:GI h g):Fn Pz 89 #[g.v] h fun v h'=>v=.bool (decide (NumS g))/\Ext h h':=by
 apply vc89 (bs g.nm) g.hr g.hd g.n g.s g.e g.he g.ht;unfold W89;have hs:=St.refl h;have hn:=hg.e.ln;have hnr:=hg.r.ln;have hnd:=hg.d.r.ln;simp only[imin_min,imax_max];refine hs.newb fun h9 hs=>?_;refine⟨_,hs.rd 0 rfl rfl,?_⟩;refine sBi (fun c1=>?_) (fun c1=>?_);rotate_left;refine⟨_,hs.rd 0 rfl rfl,?_⟩;refine sBi (fun c2=>?_) (fun c2=>?_);rotate_left;refine⟨_,hs.rd 0 rfl rfl,?_⟩;refine⟨_,hs.rd 0 rfl rfl,?_⟩;refine sBi (fun c3=>?_) (fun c3=>?_);rotate_left;refine⟨_,hs.rd 0 rfl rfl,?_⟩;refine⟨_,hs.rd 0 rfl rfl,?_⟩;refine⟨_,hs.rd 0 rfl rfl,?_⟩;refine sBi (fun c4=>?_) (fun c4=>?_);rotate_left;refine⟨_,hs.rd 0 rfl rfl,?_⟩;refine sBi (fun c5=>?_) (fun c5=>?_);rotate_left;refine⟨_,hs.rd 0 rfl rfl,?_⟩;refine up_loopS (n:=g.he.n) hs (fun i19=>∀(j:Nat) (x:Ed),j<i19->g.es[j]?=some x->EdS g x) (fun j s hj=>by omega) ?_;rintro-i19 h23 k19 ⟨hs,q19⟩;refine sB_intro (fun l19=>?_) (fun l19=>?_);have l19:=lt_t l19;refine ((hg.e.ext hs.ext).rw).nbI (by omega) (by omega) fun b24 o25 d24 g24 t24=>?_;replace g24:_[i19]?=some d24:=g24;refine⟨_,_,_,_,_,_,t24,?_⟩;refine hs.newput rfl rfl fun h33 hs=>?_;refine⟨_,_,_,hs.at 0 rfl (n:=3) rfl,?_⟩;refine hs.newput rfl rfl fun h38 hs=>?_;refine⟨_,hs.rd 1 rfl rfl,?_⟩;refine⟨_,hs.rd 1 rfl rfl,?_⟩;refine⟨_,hs.rd 0 rfl rfl,?_⟩;refine⟨_,hs.rd 0 rfl rfl,?_⟩;refine⟨_,hs.rd 0 rfl rfl,?_⟩;refine sBi (fun c6=>?_) (fun c6=>?_);rotate_left;refine⟨_,hs.rd 1 rfl rfl,?_⟩;refine⟨_,hs.rd 1 rfl rfl,?_⟩;refine⟨_,hs.rd 2 rfl rfl,?_⟩;refine sBi (fun c7=>?_) (fun c7=>?_);rotate_left;refine⟨_,hs.rd 0 rfl rfl,?_⟩;refine⟨_,hs.rd 0 rfl rfl,?_⟩;refine⟨_,hs.rd 2 rfl rfl,?_⟩;refine sBi (fun c8=>?_) (fun c8=>?_);rotate_left;refine⟨_,hs.rd 0 rfl rfl,?_⟩;refine⟨_,hs.rd 0 rfl rfl,?_⟩;refine sBe (fun c9=>?_) (fun c9=>?_);rotate_left;refine⟨_,hs.rd 0 rfl rfl,?_⟩;refine⟨_,hs.rd 2 rfl rfl,?_⟩;refine sBi (fun c10=>?_) (fun c10=>?_);rotate_left;exact Up.next l19 (by omega) ⟨hs.drop 2,fun j x hj hx=>by by_cases e:j=i19;(subst e;rw[g24] at hx;cases hx;unfold EdS;omega);exact q19 j x (by omega) hx⟩;have l19:=lt_f l19;exact⟨dT ⟨by omega,by omega,fun x hx=>by obtain⟨j,hj⟩:=Yf.1 hx;exact q19 j x (by have:=(Ya.1 hj).1;omega) hj⟩,hs.ext⟩;all_goals first | exact⟨dF fun hG=>(by have:=hG.n;have:=hG.m;first | omega | (have:=hG.e _ (Yb g24);unfold EdS at this;omega)),hs.ext⟩
def PairBad (i k:Nat) (x y:Ed):Prop:=(i≠k/\x.f=y.f/\((x.a=y.a/\x.b=y.b/\x.l=y.l)\/x.a≠y.a\/x.ag=true))\/(x.ag=true/\y.t=x.f/\(x.a≠y.a\/x.l≠y.l))
structure OrdS (g:Gl):Prop where
 e:∀x∈g.es,x.f≠g.e
 s:∀x∈g.es,x.ag=true->x.f≠g.s
 p:∀i x,g.es[i]?=some x->∀k y,g.es[k]?=some y->¬PairBad i k x y
noncomputable instance (g:Gl):Decidable (OrdS g):=Classical.propDecidable _
theorem ordered79 (g:Gl) (h:Heap) (hg:GI h g):Fn Pz 91 #[g.v] h fun v h'=>v=.bool (decide (OrdS g))/\Ext h h':=by
 apply vc91 (bs g.nm) g.hr g.hd g.n g.s g.e g.he g.ht;unfold W91;have hs:=St.refl h;have hn:=hg.e.ln;have hsm:=hg.e.sm;refine hs.newb fun h9 hs=>?_;refine⟨_,hs.rd 0 rfl rfl,?_⟩;refine up_loopS (n:=g.he.n) hs (fun i11=>∀(j:Nat) (x:Ed),j<i11->g.es[j]?=some x->x.f≠g.e/\(x.ag=true->x.f≠g.s)/\∀k y,g.es[k]?=some y->¬PairBad j k x y) (fun j s hj=>by omega) ?_;rintro-i11 h15 k11 ⟨hs,q11⟩;refine sB_intro (fun l11=>?_) (fun l11=>?_);have l11:=lt_t l11;refine ((hg.e.ext hs.ext).rw).nbI (by omega) (by omega) fun b16 o17 d16 g16 t16=>?_;replace g16:_[i11]?=some d16:=g16;refine⟨_,_,_,_,_,_,t16,?_⟩;refine hs.newput rfl rfl fun h25 hs=>?_;refine⟨_,hs.rd 0 rfl rfl,?_⟩;refine⟨_,hs.rd 1 rfl rfl,?_⟩;refine sBe (fun c1=>?_) (fun c1=>?_);rotate_left;refine⟨_,hs.rd 0 rfl rfl,?_⟩;refine sB_intro (fun c2=>?_) (fun c2=>?_);refine⟨_,hs.rd 0 rfl rfl,?_⟩;refine⟨_,hs.rd 1 rfl rfl,?_⟩;refine sBe (fun c3=>?_) (fun c3=>?_);rotate_left;refine⟨_,hs.rd 1 rfl rfl,?_⟩;refine up_loopS (n:=g.he.n) hs (fun i32=>∀(k:Nat) (y:Ed),k<i32->g.es[k]?=some y->¬PairBad i11 k d16 y) (fun j s hj=>by omega) ?_;rintro-i32 h36 k32 ⟨hs,q32⟩;refine sB_intro (fun l32=>?_) (fun l32=>?_);have l32:=lt_t l32;refine ((hg.e.ext hs.ext).rw).nbI (by omega) (by omega) fun b37 o38 d37 g37 t37=>?_;replace g37:_[i32]?=some d37:=g37;refine⟨_,_,_,_,_,_,t37,?_⟩;refine hs.newput rfl rfl fun h46 hs=>?_;refine sBn (fun c4=>?_) (fun c4=>?_);refine⟨_,hs.rd 1 rfl rfl,?_⟩;refine⟨_,hs.rd 0 rfl rfl,?_⟩;refine sBe (fun c5=>?_) (fun c5=>?_);refine⟨_,_,_,hs.at 1 rfl (n:=3) rfl,?_⟩;refine⟨_,_,_,hs.at 0 rfl (n:=3) rfl,?_⟩;refine sB_intro (fun c6=>?_) (fun c6=>?_);rotate_left;refine⟨_,hs.rd 1 rfl rfl,?_⟩;refine⟨_,hs.rd 0 rfl rfl,?_⟩;refine sBn (fun c7=>?_) (fun c7=>?_);rotate_left;refine⟨_,hs.rd 1 rfl rfl,?_⟩;refine sB_intro (fun c8=>?_) (fun c8=>?_);rotate_left;refine⟨_,hs.rd 1 rfl rfl,?_⟩;refine sB_intro (fun c9=>?_) (fun c9=>?_);refine⟨_,hs.rd 0 rfl rfl,?_⟩;refine⟨_,hs.rd 1 rfl rfl,?_⟩;refine sBe (fun c10=>?_) (fun c10=>?_);refine⟨_,hs.rd 1 rfl rfl,?_⟩;refine⟨_,hs.rd 0 rfl rfl,?_⟩;refine sBn (fun c11=>?_) (fun c11=>?_);rotate_left;refine⟨_,hs.rd 1 rfl rfl,?_⟩;refine⟨_,hs.rd 0 rfl rfl,?_⟩;refine sBn (fun c12=>?_) (fun c12=>?_);rotate_left;rotate_left;rotate_left;rotate_left;refine⟨_,hs.rd 1 rfl rfl,?_⟩;refine sB_intro (fun c13=>?_) (fun c13=>?_);refine⟨_,hs.rd 0 rfl rfl,?_⟩;refine⟨_,hs.rd 1 rfl rfl,?_⟩;refine sBe (fun c14=>?_) (fun c14=>?_);refine⟨_,hs.rd 1 rfl rfl,?_⟩;refine⟨_,hs.rd 0 rfl rfl,?_⟩;refine sBn (fun c15=>?_) (fun c15=>?_);rotate_left;refine⟨_,hs.rd 1 rfl rfl,?_⟩;refine⟨_,hs.rd 0 rfl rfl,?_⟩;refine sBn (fun c16=>?_) (fun c16=>?_);rotate_left;rotate_left;rotate_left;rotate_left;refine⟨_,hs.rd 1 rfl rfl,?_⟩;refine sB_intro (fun c17=>?_) (fun c17=>?_);refine⟨_,hs.rd 0 rfl rfl,?_⟩;refine⟨_,hs.rd 1 rfl rfl,?_⟩;refine sBe (fun c18=>?_) (fun c18=>?_);refine⟨_,hs.rd 1 rfl rfl,?_⟩;refine⟨_,hs.rd 0 rfl rfl,?_⟩;refine sBn (fun c19=>?_) (fun c19=>?_);rotate_left;refine⟨_,hs.rd 1 rfl rfl,?_⟩;refine⟨_,hs.rd 0 rfl rfl,?_⟩;refine sBn (fun c20=>?_) (fun c20=>?_);rotate_left;rotate_left;rotate_left;rotate_left;have l32:=lt_f l32;exact Up.next l11 (by omega) ⟨hs.drop 1,fun j x hj hx=>by by_cases e:j=i11;(subst e;rw[g16] at hx;cases hx;exact⟨c1,by first | exact fun _=>c3 | exact fun hc=>(by rw[c2] at hc;cases hc),by first | exact fun k y hk=>q32 k y (by have:=(Ya.1 hk).1;omega) hk | exact fun k y hk=>q90 k y (by have:=(Ya.1 hk).1;omega) hk⟩);exact q11 j x (by omega) hx⟩;refine⟨_,hs.rd 1 rfl rfl,?_⟩;refine up_loopS (n:=g.he.n) hs (fun i90=>∀(k:Nat) (y:Ed),k<i90->g.es[k]?=some y->¬PairBad i11 k d16 y) (fun j s hj=>by omega) ?_;rintro-i90 h94 k90 ⟨hs,q90⟩;refine sB_intro (fun l90=>?_) (fun l90=>?_);have l90:=lt_t l90;refine ((hg.e.ext hs.ext).rw).nbI (by omega) (by omega) fun b95 o96 d95 g95 t95=>?_;replace g95:_[i90]?=some d95:=g95;refine⟨_,_,_,_,_,_,t95,?_⟩;refine hs.newput rfl rfl fun h104 hs=>?_;refine sBn (fun c21=>?_) (fun c21=>?_);refine⟨_,hs.rd 1 rfl rfl,?_⟩;refine⟨_,hs.rd 0 rfl rfl,?_⟩;refine sBe (fun c22=>?_) (fun c22=>?_);refine⟨_,_,_,hs.at 1 rfl (n:=3) rfl,?_⟩;refine⟨_,_,_,hs.at 0 rfl (n:=3) rfl,?_⟩;refine sB_intro (fun c23=>?_) (fun c23=>?_);rotate_left;refine⟨_,hs.rd 1 rfl rfl,?_⟩;refine⟨_,hs.rd 0 rfl rfl,?_⟩;refine sBn (fun c24=>?_) (fun c24=>?_);rotate_left;refine⟨_,hs.rd 1 rfl rfl,?_⟩;refine sB_intro (fun c25=>?_) (fun c25=>?_);rotate_left;refine⟨_,hs.rd 1 rfl rfl,?_⟩;refine sB_intro (fun c26=>?_) (fun c26=>?_);refine⟨_,hs.rd 0 rfl rfl,?_⟩;refine⟨_,hs.rd 1 rfl rfl,?_⟩;refine sBe (fun c27=>?_) (fun c27=>?_);refine⟨_,hs.rd 1 rfl rfl,?_⟩;refine⟨_,hs.rd 0 rfl rfl,?_⟩;refine sBn (fun c28=>?_) (fun c28=>?_);rotate_left;refine⟨_,hs.rd 1 rfl rfl,?_⟩;refine⟨_,hs.rd 0 rfl rfl,?_⟩;refine sBn (fun c29=>?_) (fun c29=>?_);rotate_left;rotate_left;rotate_left;rotate_left;refine⟨_,hs.rd 1 rfl rfl,?_⟩;refine sB_intro (fun c30=>?_) (fun c30=>?_);refine⟨_,hs.rd 0 rfl rfl,?_⟩;refine⟨_,hs.rd 1 rfl rfl,?_⟩;refine sBe (fun c31=>?_) (fun c31=>?_);refine⟨_,hs.rd 1 rfl rfl,?_⟩;refine⟨_,hs.rd 0 rfl rfl,?_⟩;refine sBn (fun c32=>?_) (fun c32=>?_);rotate_left;refine⟨_,hs.rd 1 rfl rfl,?_⟩;refine⟨_,hs.rd 0 rfl rfl,?_⟩;refine sBn (fun c33=>?_) (fun c33=>?_);rotate_left;rotate_left;rotate_left;rotate_left;refine⟨_,hs.rd 1 rfl rfl,?_⟩;refine sB_intro (fun c34=>?_) (fun c34=>?_);refine⟨_,hs.rd 0 rfl rfl,?_⟩;refine⟨_,hs.rd 1 rfl rfl,?_⟩;refine sBe (fun c35=>?_) (fun c35=>?_);refine⟨_,hs.rd 1 rfl rfl,?_⟩;refine⟨_,hs.rd 0 rfl rfl,?_⟩;refine sBn (fun c36=>?_) (fun c36=>?_);rotate_left;refine⟨_,hs.rd 1 rfl rfl,?_⟩;refine⟨_,hs.rd 0 rfl rfl,?_⟩;refine sBn (fun c37=>?_) (fun c37=>?_);rotate_left;rotate_left;rotate_left;rotate_left;have l90:=lt_f l90;exact Up.next l11 (by omega) ⟨hs.drop 1,fun j x hj hx=>by by_cases e:j=i11;(subst e;rw[g16] at hx;cases hx;exact⟨c1,by first | exact fun _=>c3 | exact fun hc=>(by rw[c2] at hc;cases hc),by first | exact fun k y hk=>q32 k y (by have:=(Ya.1 hk).1;omega) hk | exact fun k y hk=>q90 k y (by have:=(Ya.1 hk).1;omega) hk⟩);exact q11 j x (by omega) hx⟩;have l11:=lt_f l11;exact⟨dT ⟨fun x hx=>by obtain⟨j,hj⟩:=Yf.1 hx;exact (q11 j x (by have:=(Ya.1 hj).1;omega) hj).1,fun x hx=>by obtain⟨j,hj⟩:=Yf.1 hx;exact (q11 j x (by have:=(Ya.1 hj).1;omega) hj).2.1,fun i x hx=>(q11 i x (by have:=(Ya.1 hx).1;omega) hx).2.2⟩,hs.ext⟩;all_goals first | exact⟨dF fun hG=>(by first | exact hG.e _ (Yb g16) c1 | exact hG.s _ (Yb g16) c2 c3 | (refine hG.p _ _ g16 _ _ g37 ?_;clear hG q11 q32 t37 t16 hs hg;unfold PairBad;grind) | (refine hG.p _ _ g16 _ _ g95 ?_;clear hG q11 q90 t95 t16 hs hg;unfold PairBad;grind)),hs.ext⟩ | exact Up.next l32 (by omega) ⟨hs.drop 1,fun k y hk hy=>by by_cases e:k=i32;(subst e;rw[g37] at hy;cases hy;clear q11 q32 t37 t16 hs hg;unfold PairBad;grind);exact q32 k y (by omega) hy⟩ | exact Up.next l90 (by omega) ⟨hs.drop 1,fun k y hk hy=>by by_cases e:k=i90;(subst e;rw[g95] at hy;cases hy;clear q11 q90 t95 t16 hs hg;unfold PairBad;grind);exact q90 k y (by omega) hy⟩
def lastS (ts:List To) (i:Nat):Int:=if i=0 then -1 else match ts[i-1]? with | some t=>t.s | none=>-1
structure TmS (g:Gl) (i:Nat) (t:To):Prop where
 o:lastS g.ts i<t.s
 k:1<=t.k/\t.k<=1000
 e:0<=t.e/\∃x,g.es[t.e.toNat]?=some x/\x.f=t.s/\x.ag=false
def TimS (g:Gl):Prop:=∀i t,g.ts[i]?=some t->TmS g i t
noncomputable instance (g:Gl):Decidable (TimS g):=Classical.propDecidable _
theorem lastS_next {ts:List To} {i:Nat} {t:To} (h:ts[i]?=some t):lastS ts (i+1)=t.s:=by
 unfold lastS;rw[if_neg (by omega),Nat.add_sub_cancel,h]
theorem timed80 (g:Gl) (h:Heap) (hg:GI h g):Fn Pz 92 #[g.v] h fun v h'=>v=.bool (decide (TimS g))/\Ext h h':=by
 apply vc92 (bs g.nm) g.hr g.hd g.n g.s g.e g.he g.ht;unfold W92;have hs:=St.refl h;have hn:=hg.t.ln;have hne:=hg.e.ln;have hsm:=hg.t.sm;refine hs.newb fun h9 hs=>?_;refine⟨_,hs.rd 0 rfl rfl,?_⟩;refine⟨fun last_14 x_15 h' m=>∃i:Nat,x_15=i/\m=g.ht.n-i/\i<=g.ht.n/\St h h' [.blk h.size g.cs 27]/\last_14=lastS g.ts i/\∀j t,j<i->g.ts[j]?=some t->TmS g j t,⟨_,0,rfl,rfl,by omega,hs,rfl,fun j t hj=>by omega⟩,?_⟩;rintro-_ _ h16 m ⟨i,rfl,rfl,hi,hs,rfl,q⟩;refine sBi (fun c1=>?_) (fun c1=>?_);refine ((hg.t.ext hs.ext).rw).nbI (by omega) (by omega) fun b17 o18 d17 g17 t17=>?_;refine⟨_,_,_,t17,?_⟩;refine hs.newput rfl rfl fun h23 hs=>?_;refine⟨_,hs.rd 0 rfl rfl,?_⟩;refine sBi (fun c2=>?_) (fun c2=>?_);rotate_left;refine⟨_,hs.rd 0 rfl rfl,?_⟩;refine sBi (fun c3=>?_) (fun c3=>?_);rotate_left;refine⟨_,hs.rd 0 rfl rfl,?_⟩;refine sBi (fun c4=>?_) (fun c4=>?_);rotate_left;refine⟨_,hs.rd 0 rfl rfl,?_⟩;refine sBi (fun c5=>?_) (fun c5=>?_);rotate_left;refine⟨_,hs.rd 0 rfl rfl,?_⟩;refine⟨_,hs.rd 1 rfl rfl,?_⟩;refine sBi (fun c6=>?_) (fun c6=>?_);rotate_left;refine⟨_,hs.rd 1 rfl rfl,?_⟩;refine⟨_,hs.rd 0 rfl rfl,?_⟩;refine ((hg.e.ext hs.ext).rw).nbI (by omega) (by omega) fun b32 o33 d32 g32 t32=>?_;refine⟨_,t32.hd,?_⟩;refine⟨_,hs.rd 0 rfl rfl,?_⟩;refine sBn (fun c7=>?_) (fun c7=>?_);rotate_left;refine⟨_,hs.rd 1 rfl rfl,?_⟩;refine⟨_,hs.rd 0 rfl rfl,?_⟩;refine ((hg.e.ext hs.ext).rw).nbI (by omega) (by omega) fun b38 o39 d38 g38 t38=>?_;refine⟨_,t38.nth 5 rfl,?_⟩;refine sB_intro (fun c8=>?_) (fun c8=>?_);rotate_left;refine⟨_,hs.rd 0 rfl rfl,?_⟩;exact⟨_,by omega,i+1,by rw[w64 (by omega) (by omega)];omega,rfl,by omega,hs.drop 1,(lastS_next g17).symm,fun j t hj hx=>by by_cases e:j=i;(subst e;rw[show g.ts[j]?=some d17 from g17] at hx;cases hx;exact⟨by omega,by omega,by omega,d32,g32,c7,by rw[g38] at g32;cases g32;exact c8⟩);exact q j t (by omega) hx⟩;exact⟨dT fun j t hx=>q j t (by have:=(Ya.1 hx).1;omega) hx,hs.ext⟩;all_goals first | exact⟨dF fun hG=>(by replace hG:=hG i _ g17;have ho:=hG.o;have hk:=hG.k;obtain⟨he0,x,hx,hf,hag⟩:=hG.e;have hxl:=(Ya.1 hx).1;first | omega | (rw[g32] at hx;cases hx;first | exact c7 hf | (rw[g38] at g32;cases g32;rw[c8] at hag;cases hag))),hs.ext⟩
theorem app42:appB Pz 102 3 1 8=true:=by kernel_rfl
theorem inrows (L:List Int):∀r∈L.map inC,r.length=1:=fun r hr=>by obtain⟨x,_,rfl⟩:=Yp.1 hr;rfl
theorem index135 (L:List Int) (x:Int) (s:Sl) (h:Heap) (hr:Rw h 1 s (L.map inC)) (hm:L.length<=1048576) :
  Fn Pz 163 #[.slice s.a s.n s.c,.int .i64 x] h fun v h'=>(∃k:Int,v=.int .i64 k/\decide (k>=0)=decide (x∈L))/\h'=h:=by
 apply vc163;unfold W163;have hn:=hr.ln;refine up_loop (n:=s.n) (fun i h'=>h'=h/\∀(j:Nat) (y:Int),j<i->L[j]?=some y->decide (x=y)=false) ⟨rfl,fun j y hj=>by omega⟩ ?_;rintro-i h5 hi ⟨rfl,hd⟩;refine sB_intro (fun l=>?_) (fun l=>?_)
 .replace l:=lt_t l;refine hr.nbI (by omega) (by omega) fun b o d g t=>?_;replace g:L[i]?=some d:=g;refine⟨_,t.hd,?_⟩;refine sBe (fun he=>?_) (fun hne=>?_)
  .exact⟨⟨_,rfl,by rw[decide_eq_true (show (i:Int)>=0 by omega),decide_eq_true (by rw[he];exact Yb g)]⟩,rfl⟩
  .exact Up.next l (by omega) ⟨rfl,scan_next (p:=fun y=>decide (x=y)) g (decide_eq_false hne) hd⟩
 .replace l:=lt_f l;refine⟨⟨_,rfl,?_⟩,rfl⟩;rw[decide_eq_false (show ¬((-1:Int)>=0) by omega),decide_eq_false];intro hm;obtain⟨j,hj⟩:=Yf.1 hm;exact Yyo (hd j _ (by have:=(Ya.1 hj).1;omega) hj) rfl
theorem has81 (L:List Int) (x:Int) (s:Sl) (h:Heap) (hr:Rw h 1 s (L.map inC)) (hm:L.length<=1048576) :
  Fn Pz 93 #[.slice s.a s.n s.c,.int .i64 x] h fun v h'=>v=.bool (decide (x∈L))/\h'=h:=by
 apply vc93;unfold W93;refine (index135 L x s h hr hm).mono ?_;rintro v h3 ⟨⟨k,rfl,hk⟩,rfl⟩;exact⟨_,rfl,by rw[hk],rfl⟩
theorem spread82 (g:Gl) (src:Int) (bk:Bool) (h:Heap) (hg:GI h g) (hN:NumS g) (h0:0<=src) (h1:src<g.n) :
  Fn Pz 94 #[g.v,.int .i64 src,.bool bk] h fun v h'=>Ext h h'/\∃(s:Sl) (D:List Int),v=.slice s.a s.n s.c/\OwnS h' h.size 3 1 s (D.map inC).flatten/\BF g.es bk g.n.toNat src D []:=by
 apply vc94 (bs g.nm) g.hr g.hd g.n g.s g.e g.he g.ht;unfold W94;have hs:=St.refl h;have hn:=hg.e.ln;have hb:=hN.n;have he:=hN.e;have hm:=hN.m;refine hs.newb fun h9 hs=>?_;refine hs.newb fun h10 hs=>?_;refine⟨_,hs.rd 1 rfl rfl,?_⟩;refine (repeat60 g.n (by omega) (by omega) _ h10 (hs.rd 0 rfl rfl)).mono ?_;rintro _ h14 ⟨E14,x13,rfl,ho⟩;replace hs:=hs.gift E14 ho (inrows _);refine⟨_,rfl,?_⟩;have hxn:=(hs.rows 0 rfl (by omega)).ln;rw[Yg] at hxn;refine hs.set 0 rfl (by omega) h0 (by omega) 0 rfl rfl (fun b15 o16 h17 hs=>?_) rfl;refine hs.newb fun h18 hs=>?_;have hs:=(hs.blkS 1 1 [[.int .i64 src]] rfl (by simp) rfl (by decide)).toQ (by omega);have bf0:BF g.es bk g.n.toNat src ((List.replicate g.n.toNat (-1:Int)).set src.toNat 0) [src]:=BF.start h0 (by omega) (by omega);refine⟨fun todo h' m=>∃(D T:List Int),St h h' [.q todo 3 1 (T.map inC),.sl x13 3 1 (D.map inC),.blk h9.size [.int .i64 (-1)] 3,.blk h.size g.cs 27]/\BF g.es bk g.n.toNat src D T/\m=2*D.count (-1)+T.length/\m<=401,⟨_,_,[src],hs,bf0,rfl,?_⟩,?_⟩
 .have:List.count (-1) ((List.replicate g.n.toNat (-1:Int)).set src.toNat 0)<=_:=List.count_le_length;rw[Yyh,Yg] at this;rw[Yv];omega
 rintro-todo_22 h23 m ⟨D,T,hs,bf,rfl,hmm⟩;have hq:=(hs.qlen 0 rfl).1;rw[Yc] at hq;refine sBi (fun c1=>?_) (fun c1=>?_)
 .refine⟨_,hs.rd 3 rfl rfl,?_⟩;obtain⟨a0,R0,rfl⟩:∃a R,T=a::R:=by cases T with
   | nil=>simp at hq;omega
   | cons a R=>exact⟨a,R,rfl⟩
  refine⟨fun todo x h' m=>∃(i:Nat) (D' R:List Int),x=i/\m=g.he.n-i/\i<=g.he.n/\St h h' [.q todo 3 1 ((a0::R).map inC),.sl x13 3 1 (D'.map inC),.blk h9.size [.int .i64 (-1)] 3,.blk h.size g.cs 27]/\BF g.es bk g.n.toNat src D' (a0::R) /\
   (∀(j:Nat) (x:Ed),j<i->g.es[j]?=some x->src_ bk x=a0->Vis D' (dst_ bk x))/\2*D'.count (-1)+R.length+1<=2*D.count (-1)+(a0::R0).length,⟨_,0,D,R0,rfl,rfl,by omega,hs,bf,fun j x hj=>by omega,by rw[Yyj];omega⟩,?_⟩
  rintro-todo_28 _ h30 _ ⟨i,D',R,rfl,rfl,hi,hs,bf,hdone,hmea⟩;have hq:=(hs.qlen 0 rfl);rw[Yc,Yyj] at hq;have hlD:=bf.len;have hxn2:=(hs.rows 1 rfl (by omega)).ln;refine sBi (fun c2=>?_) (fun c2=>?_)
  .have l2:i<g.he.n:=by omega
   refine (hg.e.ext hs.ext).rw.nbI (by omega) (by omega) fun b31 o32 d31 g31 t31=>?_;replace g31:g.es[i]?=some d31:=g31;have hE:=he d31 (Yb g31);unfold EdS at hE;refine⟨_,_,_,_,_,_,t31,?_⟩;refine hs.newput (vs:=d31.cs) rfl rfl fun h40 hs=>?_;refine⟨_,hs.rd 0 rfl rfl,?_⟩;refine⟨_,hs.rd 0 rfl rfl,?_⟩;refine⟨fun a b h'=>St h h' [.blk h30.size d31.cs 67,.q todo_28 3 1 ((a0::R).map inC),.sl x13 3 1 (D'.map inC),.blk h9.size [.int .i64 (-1)] 3,.blk h.size g.cs 27]/\a=src_ bk d31/\b=dst_ bk d31,?_,?_⟩
   .cases bk
    .exact⟨hs,rfl,rfl⟩
    .exact⟨hs,rfl,rfl⟩
   .rintro-a b h46 ⟨hs,ha,hb'⟩;have ha0:0<=a/\a<g.n/\0<=b/\b<g.n:=by rw[ha,hb'];unfold src_ dst_;cases bk<;>simp<;>omega
    have next0:∀ {todo:Sl} {h':Heap} {D2 R2:List Int},St h h' [.blk h30.size d31.cs 67,.q todo 3 1 ((a0::R2).map inC),.sl x13 3 1 (D2.map inC),.blk h9.size [.int .i64 (-1)] 3,.blk h.size g.cs 27]->BF g.es bk g.n.toNat src D2 (a0::R2) ->
      (∀v,Vis D' v->Vis D2 v)->(a=a0->Vis D2 b)->2*D2.count (-1)+R2.length+1<=2*D.count (-1)+(a0::R0).length ->
      ∃m,m<g.he.n-i/\∃(i2:Nat) (D' R:List Int),IntKind.wrap .i64 ((i:Int)+1)=i2/\m=g.he.n-i2/\i2<=g.he.n/\St h h' [.q todo 3 1 ((a0::R).map inC),.sl x13 3 1 (D'.map inC),.blk h9.size [.int .i64 (-1)] 3,.blk h.size g.cs 27]/\BF g.es bk g.n.toNat src D' (a0::R) /\
       (∀(j:Nat) (x:Ed),j<i2->g.es[j]?=some x->src_ bk x=a0->Vis D' (dst_ bk x))/\2*D'.count (-1)+R.length+1<=2*D.count (-1)+(a0::R0).length:=by
     intro todo h' D2 R2 hs2 bf2 hmono hedge hm2;refine⟨_,by omega,i+1,D2,R2,by rw[w64 (by omega) (by omega)];omega,rfl,by omega,hs2.drop 1,bf2,fun j x hj hx hsx=>?_,hm2⟩;by_cases e:j=i
     .subst e;rw[g31] at hx;cases hx;rw[<-hb'];exact hedge (by rw[ha,hsx])
     .exact hmono _ (hdone j x (by omega) hx hsx)
    refine (hs.qrw 1 rfl (by omega)).nbI (cs:=inC) (L:=a0::R) (by omega) (by omega) fun b47 o48 d47 g47 t47=>?_;have ed:a0=d47:=by simpa using g47
    subst ed;refine⟨_,t47.hd,?_⟩;refine sBe (fun c4=>?_) (fun c4=>?_)
    .subst c4;have hva:Vis D' a:=bf.t a (by simp);obtain⟨_,da,hda,hda0⟩:=hva;refine (hs.rows 2 rfl (by omega)).nbI (by omega) (by omega) fun b50 o51 db g50 t50=>?_;refine⟨_,t50.hd,?_⟩;refine sBi (fun c5=>?_) (fun c5=>?_)
     .refine (hs.rows 2 rfl (by omega)).nbI (by omega) (by omega) fun b53 o54 d53 g53 t53=>?_;rw[hda] at g53;cases g53;refine⟨_,t53.hd,?_⟩;have hadj:Adj g.es bk a b:=⟨d31,Yb g31,ha.symm,hb'.symm⟩;obtain⟨bf2,hcnt,hd0,hd2⟩:=bf.push ⟨by omega,da,hda,hda0⟩ hda (by omega) g50 c5 hadj;rw[w64 (n:=da+1) (by omega) (by omega)];refine hs.set 2 rfl (by omega) (by omega) (by omega) (da+1) rfl rfl (fun b56 o57 h58 hs=>?_) rfl;have hcl:D'.count (-1)<=D'.length:=List.count_le_length;have hRl:R.length<=2000:=by omega
      refine hs.qapp 1 rfl app42 (m:=1) [[.int .i64 b]] rfl rfl (by omega) (by simp) rfl (by omega) (by simp only[maxLen];omega) fun s60 h61 ns60 hs=>?_;have hs':St h h61 [.blk h30.size d31.cs 67,.q s60 3 1 ((a::(R++[b])).map inC),.sl x13 3 1 ((D'.set b.toNat (da+1)).map inC),.blk h9.size [.int .i64 (-1)] 3,.blk h.size g.cs 27]:=by
       have e:(a::(R++[b])).map inC=(a::R).map inC++[[.int .i64 b]]:=by simp[inC]
       rw[e];exact hs
      refine next0 hs' bf2 (fun v hv=>(vis_set (by omega) (by have:=(Ya.1 g50).1;omega) (by omega)).2 (.inr hv)) (fun _=>(vis_set (by omega) (by have:=(Ya.1 g50).1;omega) (by omega)).2 (.inl rfl)) ?_;rw[Yh,Yv];omega
     .exact next0 hs bf (fun v hv=>hv) (fun _=>⟨by omega,db,g50,by omega⟩) hmea
    .exact next0 hs bf (fun v hv=>hv) (fun e=>absurd e c4) hmea
  .refine⟨⟨by omega,by omega,by omega⟩,?_⟩;rw[Yyl] at hs;refine⟨_,?_,D',R,hs.qtail,?_,rfl,?_⟩
   .rw[Yyj] at hmea ⊢;omega
   rotate_left
   .omega
   .refine⟨bf.len,bf.src,bf.r,fun t ht=>bf.t t (Yn _ ht),fun v w hv hn' hvw=>?_,bf.b⟩;by_cases hva:v=a0
    .subst hva;obtain⟨x,hx,h3,h4⟩:=hvw;obtain⟨j,hj⟩:=Yf.1 hx;rw[<-h4];exact hdone j x (by have:=(Ya.1 hj).1;omega) hj h3
    .exact bf.c v w hv (by rw[Yr,not_or];exact⟨hva,hn'⟩) hvw
 .have:T=[]:=List.length_eq_zero_iff.1 (by omega);subst this;exact⟨hs.ext,x13,D,rfl,hs.give 1 rfl,bf⟩
structure ValidS (g:Gl):Prop where
 nam:NamedS g
 num:NumS g
 dcl:DeclS g.ds
 ord:OrdS g
 tim:TimS g
 fwd:∀v:Int,0<=v->v<g.n->Rch g.es false g.s v
 bwd:∀v:Int,0<=v->v<g.n->Rch g.es true g.e v
noncomputable instance (g:Gl):Decidable (ValidS g):=Classical.propDecidable _
theorem valid38 (g:Gl) (h:Heap) (hg:GI h g) (hx:Gm h):Fn Pz 40 #[g.v] h fun v h'=>v=.bool (decide (ValidS g))/\Ext h h':=by
 apply vc40 (bs g.nm) g.hr g.hd g.n g.s g.e g.he g.ht;unfold W40;have hs:=St.refl h;refine hs.newb fun h9 hs=>?_;refine⟨_,_,_,_,_,_,_,_,hs.at 0 rfl (n:=8) rfl,?_⟩;refine (named76 g _ (hg.ext hs.ext)).mono ?_;rintro _ h20 ⟨rfl,Eh20⟩;replace hs:=hs.step Eh20;refine⟨_,rfl,?_⟩;refine sB_intro (fun c1=>?_) (fun c1=>?_)
 .skip
  refine⟨_,_,_,_,_,_,_,_,hs.at 0 rfl (n:=8) rfl,?_⟩;refine (numbered77 g _ (hg.ext hs.ext)).mono ?_;rintro _ h31 ⟨rfl,Eh31⟩;replace hs:=hs.step Eh31;refine⟨_,rfl,?_⟩;refine sB_intro (fun c2=>?_) (fun c2=>?_)
  .skip
   refine⟨_,hs.rd 0 rfl rfl,?_⟩;refine (declared78 g.ds _ _ (hg.d.ext hs.ext) (hx.ext hs.ext)).mono ?_;rintro _ h35 ⟨rfl,Eh35⟩;replace hs:=hs.step Eh35;refine⟨_,rfl,?_⟩;refine sB_intro (fun c3=>?_) (fun c3=>?_)
   .skip
    refine⟨_,_,_,_,_,_,_,_,hs.at 0 rfl (n:=8) rfl,?_⟩;refine (ordered79 g _ (hg.ext hs.ext)).mono ?_;rintro _ h46 ⟨rfl,Eh46⟩;replace hs:=hs.step Eh46;refine⟨_,rfl,?_⟩;refine sB_intro (fun c4=>?_) (fun c4=>?_)
    .skip
     refine⟨_,_,_,_,_,_,_,_,hs.at 0 rfl (n:=8) rfl,?_⟩;refine (timed80 g _ (hg.ext hs.ext)).mono ?_;rintro _ h57 ⟨rfl,Eh57⟩;replace hs:=hs.step Eh57;refine⟨_,rfl,?_⟩;refine sB_intro (fun c5=>?_) (fun c5=>?_)
     .skip
      refine⟨_,_,_,_,_,_,_,_,hs.at 0 rfl (n:=8) rfl,?_⟩;refine⟨_,hs.rd 0 rfl rfl,?_⟩;refine (spread82 g _ _ _ (hg.ext hs.ext) (Yyn c2) (by have:=(Yyn c2).n;omega) (by have:=(Yyn c2).n;omega)).mono ?_;rintro _ h69 ⟨E69,x68,D,rfl,ho,bf⟩;replace hs:=hs.gift E69 ho (inrows _);refine⟨_,rfl,?_⟩;refine (has81 _ _ _ _ (hs.rows 0 rfl (by omega)) (by have:=bf.len;have:=(Yyn c2).n;omega)).mono ?_;rintro _ h72 ⟨rfl,rfl⟩;refine⟨_,rfl,?_⟩;refine sB_intro (fun c6=>?_) (fun c6=>?_)
      .skip
       refine⟨_,_,_,_,_,_,_,_,hs.at 1 rfl (n:=8) rfl,?_⟩;refine⟨_,hs.rd 1 rfl rfl,?_⟩;refine (spread82 g _ _ _ (hg.ext hs.ext) (Yyn c2) (by have:=(Yyn c2).n;omega) (by have:=(Yyn c2).n;omega)).mono ?_;rintro _ h84 ⟨E84,x83,D2,rfl,ho2,bf2⟩;replace hs:=hs.gift E84 ho2 (inrows _);refine⟨_,rfl,?_⟩;refine (has81 _ _ _ _ (hs.rows 0 rfl (by omega)) (by have:=bf2.len;have:=(Yyn c2).n;omega)).mono ?_;rintro _ h87 ⟨rfl,rfl⟩;refine⟨_,rfl,?_⟩;refine⟨?_,hs.ext⟩;have hN:=(Yyn c2).n;have h1:∀v:Int,0<=v->v<g.n->Rch g.es false g.s v:=by
        intro v h0 h2;apply Classical.byContradiction;intro h3;have h4:(-1:Int)∈D:=bf.all.2 fun hall=>h3 (hall v h0 (by omega));rw[decide_eq_true h4] at c6;cases c6
       by_cases h2:∀v:Int,0<=v->v<g.n->Rch g.es true g.e v
       .have h4:¬((-1:Int)∈D2):=fun hm=>bf2.all.1 hm fun v h0 h3=>h2 v h0 (by omega);rw[decide_eq_false h4,decide_eq_true (show ValidS g from ⟨Yyn c1,Yyn c2,Yyn c3,Yyn c4,Yyn c5,h1,h2⟩)];rfl
       .have h4:(-1:Int)∈D2:=bf2.all.2 fun hall=>h2 fun v h0 h3=>hall v h0 (by omega);rw[decide_eq_true h4,decide_eq_false (fun hG:ValidS g=>h2 hG.bwd)];rfl
      .skip
       exact⟨dF fun hG=>by have h1:=bf.all.1 (by simpa using c6);exact h1 fun v h0 h2=>hG.fwd v h0 (by omega),hs.ext⟩
     .skip
      exact⟨dF fun hG=>Yyo c5 hG.tim,hs.ext⟩
    .skip
     exact⟨dF fun hG=>Yyo c4 hG.ord,hs.ext⟩
   .skip
    exact⟨dF fun hG=>Yyo c3 hG.dcl,hs.ext⟩
  .skip
   exact⟨dF fun hG=>Yyo c2 hG.num,hs.ext⟩
 .skip
  exact⟨dF fun hG=>Yyo c1 hG.nam,hs.ext⟩
end Go.VC
end

section
namespace Go.VC
open Go.Proofs
/- (farandole/bits.Set).word -/
/- farandole/bits.Has -/
/- farandole/bits.build
   loop rrrrlb: n_15:Int
   loop rrrlrb: x_5:Int -/
/- farandole/bits.Make$1 -/
/- farandole/bits.Make
   loop rrlrb: x_5:Int -/
/- farandole/bits.Sub
   loop rlrb: x_4:Int -/
/- farandole/bits.Equal -/
/- math/bits.TrailingZeros64 -/
/- (farandole/bits.Set).all
   loop rborrlbrrb: w_12:Int
   loop rb: x_4:Int -/
end Go.VC
end

section
namespace Go.VC
open Go.Proofs Go.LexS
def setB (b:Nat) (ws:List Nat):It:=.blk b (ws.map wC).flatten 144
instance {α:Type}:Inhabited (Sl × List α):=⟨⟨⟨none,0,0⟩,[]⟩⟩
theorem made4 (n:Nat):madeL Pz 4 n=(List.replicate n false).map Value.bool:=by
 have e:zeroC Pz 4=[.bool false]:=by kernel_rfl
 unfold madeL;rw[e,List.map_replicate]
 induction n with
 | zero=>rfl
 | succ n ih=>rw[List.replicate_succ,List.replicate_succ,Yyu,ih];rfl
theorem nan151 (x:Int) (h:Heap):Fn Pz 111 #[.int .i64 x] h fun v h'=>v=.bool false/\h'=h:=by
 apply vc111;unfold W111;exact⟨by rw[bne_self_eq_false],rfl⟩
theorem cmp110 (x y:Int) (h:Heap):Fn Pz 54 #[.int .i64 x,.int .i64 y] h fun v h'=>v=.int .i64 (cmpI x y)/\h'=h:=by
 apply vc54;unfold W54;refine (nan151 x h).mono ?_;rintro _ _ ⟨rfl,rfl⟩;refine⟨_,rfl,?_⟩;refine (nan151 y _).mono ?_;rintro _ _ ⟨rfl,rfl⟩;refine⟨_,rfl,?_⟩;refine sB_f rfl (sB_f rfl ?_);unfold cmpI;refine sBi (fun c=>?_) (fun c=>sBi (fun d=>?_) (fun d=>?_))
 .exact⟨by rw[if_pos c],rfl⟩
 .exact⟨by rw[if_neg c,if_pos d],rfl⟩
 .exact⟨by rw[if_neg c,if_neg d],rfl⟩
theorem or109 (l:List Int) (s:Sl) (h:Heap) (hr:Rw h 1 s (l.map inC)) (hm:l.length<=1048576) :
  Fn Pz 53 #[.slice s.a s.n s.c] h fun v h'=>v=.int .i64 (l.foldr orI3 0)/\h'=h:=by
 apply vc53;unfold W53;have hn:=hr.ln;refine up_loop (n:=s.n) (fun i h'=>h'=h/\l.foldr orI3 0=(l.drop i).foldr orI3 0) ⟨rfl,rfl⟩ ?_;rintro-i h5 hi ⟨rfl,hq⟩;refine sB_intro (fun l2=>?_) (fun l2=>?_)
 .replace l2:=lt_t l2;refine hr.nbI (by omega) (by omega) fun b o d g t=>?_;replace g:l[i]?=some d:=g;have hd:l.drop i=d::l.drop (i+1):=by
   obtain⟨hl,he⟩:=Ya.1 g;rw[List.drop_eq_getElem_cons hl,he]
  rw[hd,List.foldr_cons] at hq;refine⟨_,t.hd,?_⟩;refine sBn (fun c=>?_) (fun c=>?_)
  .refine⟨?_,rfl⟩;rw[hq];unfold orI3;rw[if_pos c]
  .refine Up.next l2 (by omega) ⟨rfl,?_⟩;rw[hq];unfold orI3;rw[if_neg (by omega)]
 .replace l2:=lt_f l2;rw[List.drop_eq_nil_of_le (by omega)] at hq;exact⟨by rw[hq];rfl,rfl⟩
theorem vis_total (es:List Ed) (role:Int):∀(l:List Nat),l.Nodup->(l.flatMap fun n=>visL es role n).length<=es.length
 | l,hl=>by
  induction es with
  | nil=>
   have key:∀l:List Nat,(l.flatMap fun n=>visL [] role n)=[]:=by
    intro l
    induction l with
    | nil=>rfl
    | cons a l ih=>rw[List.flatMap_cons,ih];rfl
   rw[key];exact Yyt _
  | cons x es ih=>
   have h1:∀n,(visL (x::es) role n).length=(visL es role n).length+(if x.f=(n:Int) then (if (vis1 role x).isSome then 1 else 0) else 0):=fun n=>by
    unfold visL;rw[List.filterMap_cons];by_cases h:x.f=(n:Int)
    .rw[if_pos h,if_pos h];cases vis1 role x<;>simp
    .rw[if_neg h,if_neg h];rfl
   have h2:∀l:List Nat,l.Nodup->(l.flatMap fun n=>visL (x::es) role n).length<=(l.flatMap fun n=>visL es role n).length+1:=by
    intro l hl;have h3:∀l:List Nat,l.Nodup->(l.flatMap fun n=>visL (x::es) role n).length<=(l.flatMap fun n=>visL es role n).length+(if x.f.toNat∈l then 1 else 0):=by
     intro l
     induction l with
     | nil=>simp
     | cons a l ihl=>
      intro hnd;obtain⟨hna,hnd⟩:=List.nodup_cons.1 hnd;have h4:=ihl hnd;rw[List.flatMap_cons,List.flatMap_cons,Yh,Yh,h1];by_cases hx:x.f=(a:Int)
      .have hxa:x.f.toNat=a:=by omega
       rw[hxa,if_neg hna] at h4;rw[if_pos hx,hxa,if_pos (Yx:a∈a::l)];split<;>omega
      .rw[if_neg hx];have:(if x.f.toNat∈l then 1 else 0)<=(if x.f.toNat∈a::l then 1 else 0):=by
        split
        .rw[if_pos (by simp_all)];omega
        .omega
       omega
    have:=h3 l hl;split at this<;>omega
   have:=h2 l hl;rw[Yyj];omega
theorem elems_nodup (p:Nat->Bool):(elems p).Nodup:=List.Nodup.sublist List.filter_sublist List.nodup_range
theorem flat_map_len {α β:Type} (L:List Nat) (f:Nat->List α) (g:α->β):(L.flatMap fun n=>(f n).map g).length=(L.flatMap f).length:=by
 induction L with
 | nil=>rfl
 | cons a L ih=>rw[List.flatMap_cons,List.flatMap_cons,Yh,Yh,ih,Yc]

def aC (role:Int) (x:Ev):List Value:=[.int .i64 role,.bool x.send,.int .i64 x.peer,.int .i64 x.label,.slice none 0 0]
theorem app56:appB Pz 57 33 5 56=true:=by kernel_rfl
theorem Qr.lt {g:Gl} {role:Int} {l:List Int} (hV:ValidS g) (hl:∀x∈l,0<=x/\x<g.n) {a:Int} (h:Qr g.es role l a):0<=a/\a<g.n:=by
 induction h with
 | base hm=>exact hl _ hm
 | step _ hx _=>
  obtain⟨x,hx,_,_,rfl⟩:=hx;have:=hV.num.e x hx;unfold EdS at this;omega
theorem clo_lt {g:Gl} {role:Int} {l:List Int} (hV:ValidS g) (hl:∀x∈l,0<=x/\x<g.n) (j:Nat) (h:clo g.es role l j=true):(j:Int)<g.n:=((clo_iff.1 h).lt hV hl).2
theorem evs_le (es:List Ed) (role:Int) (p:Nat->Bool):(evL es role p).length<=es.length:=by
 unfold evL;rw[flat_map_len];exact vis_total es role (elems p) (elems_nodup p)
theorem insE_len (x:Ev):∀l:List Ev,(insE x l).length<=l.length+1
 | []=>by simp[insE]
 | y::r=>by
  rw[insE];split
  .have:=insE_len x r;simp only[Yyj];omega
  .split<;>simp
theorem sortE_len (l:List Ev):(sortE l).length<=l.length:=by
 unfold sortE
 induction l with
 | nil=>simp
 | cons a l ih=>rw[List.foldr_cons,Yyj];have:=insE_len a (l.foldr insE []);omega
noncomputable def firstE (g:Gl) (role:Int) (st:Int):List Ev:=evs g.es role (clo g.es role [st])
noncomputable def firstB (g:Gl) (role:Int) (st:Int):Bool:=clo g.es role [st] g.e.toNat
structure SE where
 b:Nat
 k:Nat
 ws:List Nat
 p:PSet
def SE.hd (e:SE):List Value:=[.slice (some ⟨e.b,0,none⟩) e.k e.k]
def SE.s (e:SE):Sl:=⟨some ⟨e.b,0,none⟩,e.k,e.k⟩
def SE.it (e:SE):It:=setB e.b e.ws
def bC (b:Bool):List Value:=[.bool b]
theorem St.join {h0 h1 h:Heap} {L1 L2:List It} (hs1:St h0 h1 L1) (hs2:St h1 h L2):St h0 h (L1++L2):=by
 have h3:=hs1.step hs2.ext;refine⟨h3.ext,fun i hi=>?_,List.pairwise_append.2 ⟨h3.ap,hs2.ap,fun i hi j hj b hb hc=>?_⟩⟩
 .rcases Yk.1 hi with hi | hi
  .exact h3.ok i hi
  .exact⟨(hs2.ok i hi).1,fun b hb=>Yys hs1.ext.1 ((hs2.ok i hi).2 b hb)⟩
 .have h4:=(hs1.ok i hi).1.lt hb;have h5:=(hs2.ok j hj).2 b hc;omega
theorem evs_len {g:Gl} {role:Int} {p:PSet} (hV:ValidS g):(evs g.es role p).length<=400:=by
 have h1:=sortE_len (evL g.es role p);have h2:=evs_le g.es role p;have h3:=hV.num.m;show (sortE _).length<=400;omega
theorem made4b (n:Nat):madeL Pz 4 n=((List.replicate n false).map bC).flatten:=by
 have e:zeroC Pz 4=[.bool false]:=by kernel_rfl
 unfold madeL;rw[e,List.map_replicate];rfl
theorem rangeG {n i k:Nat} (h:(List.range n)[i]?=some k):i=k/\i<n:=by
 obtain⟨h1,h2⟩:=Ya.1 h;rw[List.getElem_range] at h2;rw[Yyd] at h1;exact⟨h2,h1⟩
noncomputable def vwG (g:Gl) (role:Int):List Nat->Option Ti:=viewV (fun j:Nat=>firstE g role j) (fun j:Nat=>firstB g role j) (ownE g.es role g.n.toNat).1 (ownT g.es g.ts role g.n.toNat)
noncomputable def raw (g:Gl) (role:Int):Option Mch × Int:=
 if ¬(ValidS g/\0<=role/\role<g.rs.length) then (none,1) else
 match views g role with
 | none=>(none,6)
 | some (S,M)=>if M.length>400 then (none,6) else
  match rawL (vwG g role) 0 S M [] with
  | none=>(none,18)
  | some (M',L)=>(some ⟨role,S.length,0,S.map (fun p=>p g.e.toNat),M',L⟩,0)
def m0:List Value:=[.int .i64 0,.int .i64 0,.int .i64 0,.slice none 0 0,.slice none 0 0,.slice none 0 0]
def mC (m:Mch) (sf sm sl:Sl):List Value:=[.int .i64 m.role,.int .i64 m.n,.int .i64 m.s,.slice sf.a sf.n sf.c,.slice sm.a sm.n sm.c,.slice sl.a sl.n sl.c]
end Go.VC
end

section
namespace Go.VC
open Go.Proofs Go.Maps
theorem kl_int {P:Program} {d t:Nat} {q:IntKind} {n:Int} (hu:P.underlying t=some (.int q)) (hw:(Lit.int q n).wf=true):P.keyLits (d+1) t [.int q n]=some [.int q n]:=by simp[Program.keyLits,hu,hw]
theorem kl_struct {P : Program} {d t : Nat} {fs : Array Field} {cs : List Value} (hu : P.underlying t = some (.struct fs)) (hl : cs.length = P.cellsOf t) (hn : fs.all (·.name != "_") = true) {l : List (TypeId × Nat)} (hf : fs.toList.map (fun f => (f.type, f.offset)) = l)
  {r:List (List Lit)} (hr:l.mapM (fun q=>P.keyLits d q.1 ((cs.drop q.2).take (P.cellsOf q.1)))=some r):P.keyLits (d+1) t cs=some r.flatten:=by
 have e:fs.toList.mapM (fun f=>P.keyLits d f.type ((cs.drop f.offset).take (P.cellsOf f.type)))=some r:=by
  rw[<-hr,<-hf,List.mapM_map];rfl
 unfold Program.keyLits;simp only[hu];rw[if_pos ⟨hl,hn⟩,e];rfl
def inR (n:Int):Prop:=-9223372036854775808<=n/\n<=9223372036854775807
theorem inR.wf {n:Int} (h:inR n):(Lit.int .i64 n).wf=true:=by
 unfold Lit.wf;simp only[Yt,decide_eq_true_eq];have e1:IntKind.i64.min=-9223372036854775808:=by decide
 have e2:IntKind.i64.max=9223372036854775807:=by decide
 rw[e1,e2];exact h
theorem u3:Pz.underlying 3=some (.int .i64):=by kernel_rfl
theorem u4:Pz.underlying 4=some .bool:=by kernel_rfl
theorem su {P : Program} {t : Nat} {l : List (TypeId × Nat)} (h : (match P.underlying t with | some (.struct fs) => decide (fs.toList.map (fun f => (f.type, f.offset)) = l) && fs.all (·.name != "_") | _ => false) = true) :
  ∃ fs, P.underlying t = some (.struct fs) /\ fs.all (·.name != "_") = true /\ fs.toList.map (fun f => (f.type, f.offset)) = l := by
 split at h
 .rename_i fs hu;simp only[Yt,decide_eq_true_eq] at h;exact⟨fs,hu,h.2,h.1⟩
 .cases h
theorem c3:Pz.cellsOf 3=1:=by kernel_rfl
theorem c4:Pz.cellsOf 4=1:=by kernel_rfl
theorem laid25:laidOutB Pz=true:=by kernel_rfl
end Go.VC
end

section

end

section
namespace Go.VC
open Go.Proofs Go.LexS

def natV (c:Nat):Value:=.int .i64 (c:Int)
theorem getD_some {α:Type} {l:List α} {i:Nat} {d x:α} (h:l[i]?=some x):l.getD i d=x:=by rw[Yo,h];rfl
end Go.VC
end

section
namespace Go.VC

end Go.VC
end

section
namespace Go.VC
open Go.Proofs Go.LexS
theorem St.nestLn {α:Type} {h0 h:Heap} {A B:List It} {Q:List (Sl × List α)} {e:TypeId} {n:Nat} {cs:α->List Value} (hs:St h0 h (A++Q.map (nest e n cs)++B)) {i:Nat} {q:Sl × List α} (hi:Q[i]?=some q) (hn:0<n):Rw h n q.1 (q.2.map cs):=by
 have hil:i<(Q.map (nest e n cs)).length:=by rw[Yc];exact (Ya.1 hi).1
 exact hs.rw (A.length+i) (rows:=q.2.map cs) (by rw[get_mid hil,Yd,hi];rfl) hn
def natI (L:List Nat):List Int:=L.map fun c:Nat=>(c:Int)
theorem natI_snoc (L:List Nat) (c:Nat):natI (L++[c])=natI L++[(c:Int)]:=by unfold natI;rw[Ym];rfl
theorem natI_get {L:List Nat} {i:Nat} {d:Int} (h:(natI L)[i]?=some d):∃c:Nat,L[i]?=some c/\d=c:=by
 unfold natI at h;rw[Yd] at h;obtain⟨c,hc,rfl⟩:=Yya.1 h;exact⟨c,hc,rfl⟩
end Go.VC
end

section
namespace Go.VC
open Go.LexS

end Go.VC
end

section
namespace Go.VC
open Go.Proofs Go.LexS

end Go.VC
end

section
namespace Go.VC
open Go.LexS

end Go.VC
end

section
namespace Go.VC
open Go.Proofs
/- farandole/farandolelaw23.Example -/
def W38 (p0:Bool) (h:Heap) (R:Value->Heap->Prop):Prop:=
 (Wn h [.string ⟨#[]⟩,.slice none 0 0,.slice none 0 0,vI 0,vI 0,vI 0,.slice none 0 0,.slice none 0 0] 27 fun h1=>
 (Wn h1 [.string ⟨#[112]⟩,.string ⟨#[113]⟩,.string ⟨#[114]⟩] 9 fun h2=>
 (Wn h2 [.string ⟨#[97]⟩,.slice none 0 0,vI 0,.slice none 0 0,.slice none 0 0,.string ⟨#[98]⟩,.slice none 0 0,vI 0,.slice none 0 0,.slice none 0 0,.string ⟨#[99]⟩,.slice none 0 0,vI 0,.slice none 0 0,.slice none 0 0,.string ⟨#[100]⟩,.slice none 0 0,vI 0,.slice none 0 0,.slice none 0 0] 171 fun h3=>
 (Wn h3 [.string ⟨#[]⟩,.slice none 0 0,.slice none 0 0,vI 0,vI 0,vI 0,.slice none 0 0,.slice none 0 0] 27 fun h4=>
 (Wp h4 (aS h3 0) 8 [.string ⟨#[101]⟩,.slice (some (aS h1 0)) 3 3,.slice (some (aS h2 0)) 4 4,vI 4,vI 0,vI 3,.slice none 0 0,.slice none 0 0] fun h5=>
 (Fn Pz 87 #[vI 0,vI 0,vI 1,vI 0,vI 1] h5 
 (fun v6 h13=>∃x7:Int,∃x8:Int,∃x9:Int,∃x10:Int,∃x11:Int,∃x12:Bool,v6=.agg ⟨[vI x7,vI x8,vI x9,vI x10,vI x11,.bool x12]⟩ /\ 
 (Fn Pz 87 #[vI 0,vI 0,vI 1,vI 1,vI 2] h13 
 (fun v14 h21=>∃x15:Int,∃x16:Int,∃x17:Int,∃x18:Int,∃x19:Int,∃x20:Bool,v14=.agg ⟨[vI x15,vI x16,vI x17,vI x18,vI x19,.bool x20]⟩ /\ 
 (Fn Pz 87 #[vI 1,vI 2,vI 1,vI 2,vI 3] h21 
 (fun v22 h29=>∃x23:Int,∃x24:Int,∃x25:Int,∃x26:Int,∃x27:Int,∃x28:Bool,v22=.agg ⟨[vI x23,vI x24,vI x25,vI x26,vI x27,.bool x28]⟩ /\ 
 (Fn Pz 87 #[vI 2,vI 2,vI 1,vI 3,vI 3] h29 
 (fun v30 h37=>∃x31:Int,∃x32:Int,∃x33:Int,∃x34:Int,∃x35:Int,∃x36:Bool,v30=.agg ⟨[vI x31,vI x32,vI x33,vI x34,vI x35,.bool x36]⟩ /\ 
 (Wn h37 [vI x7,vI x8,vI x9,vI x10,vI x11,.bool x12,vI x15,vI x16,vI x17,vI x18,vI x19,.bool x20,vI x23,vI x24,vI x25,vI x26,vI x27,.bool x28,vI x31,vI x32,vI x33,vI x34,vI x35,.bool x36] 67 fun h38=>
 (Wp h38 (aS h3 6) 1 [.slice (some (aS h37 0)) 4 4] fun h39=>
 (sB p0 
 ((Wp h39 (aS h3 3) 1 [vI 6] fun h40=>
 (Wp h40 (aS h3 5) 1 [vI 5] fun h41=>
 (Fn Pz 87 #[vI 0,vI 0,vI 1,vI 0,vI 1] h41 
 (fun v42 h49=>∃x43:Int,∃x44:Int,∃x45:Int,∃x46:Int,∃x47:Int,∃x48:Bool,v42=.agg ⟨[vI x43,vI x44,vI x45,vI x46,vI x47,.bool x48]⟩ /\ 
 (Fn Pz 87 #[vI 0,vI 0,vI 1,vI 1,vI 2] h49 
 (fun v50 h57=>∃x51:Int,∃x52:Int,∃x53:Int,∃x54:Int,∃x55:Int,∃x56:Bool,v50=.agg ⟨[vI x51,vI x52,vI x53,vI x54,vI x55,.bool x56]⟩ /\ 
 (Fn Pz 87 #[vI 1,vI 1,vI 2,vI 0,vI 3] h57 
 (fun v58 h65=>∃x59:Int,∃x60:Int,∃x61:Int,∃x62:Int,∃x63:Int,∃x64:Bool,v58=.agg ⟨[vI x59,vI x60,vI x61,vI x62,vI x63,.bool x64]⟩ /\ 
 (Fn Pz 87 #[vI 2,vI 1,vI 2,vI 1,vI 4] h65 
 (fun v66 h73=>∃x67:Int,∃x68:Int,∃x69:Int,∃x70:Int,∃x71:Int,∃x72:Bool,v66=.agg ⟨[vI x67,vI x68,vI x69,vI x70,vI x71,.bool x72]⟩ /\ 
 (Fn Pz 87 #[vI 3,vI 2,vI 1,vI 2,vI 5] h73 
 (fun v74 h81=>∃x75:Int,∃x76:Int,∃x77:Int,∃x78:Int,∃x79:Int,∃x80:Bool,v74=.agg ⟨[vI x75,vI x76,vI x77,vI x78,vI x79,.bool x80]⟩ /\ 
 (Fn Pz 87 #[vI 4,vI 2,vI 1,vI 3,vI 5] h81 
 (fun v82 h89=>∃x83:Int,∃x84:Int,∃x85:Int,∃x86:Int,∃x87:Int,∃x88:Bool,v82=.agg ⟨[vI x83,vI x84,vI x85,vI x86,vI x87,.bool x88]⟩ /\ 
 (Wn h89 [vI x43,vI x44,vI x45,vI x46,vI x47,.bool x48,vI x51,vI x52,vI x53,vI x54,vI x55,.bool x56,vI x59,vI x60,vI x61,vI x62,vI x63,.bool x64,vI x67,vI x68,vI x69,vI x70,vI x71,.bool x72,vI x75,vI x76,vI x77,vI x78,vI x79,.bool x80,vI x83,vI x84,vI x85,vI x86,vI x87,.bool x88] 67 fun h90=>
 (Wp h90 (aS h3 6) 1 [.slice (some (aS h89 0)) 6 6] fun h91=>
 (∃x92:ByteArray,∃x93:Sl,∃x94:Sl,∃x95:Int,∃x96:Int,∃x97:Int,∃x98:Sl,∃x99:Sl,atC h91 (aS h3 0) [.string x92,vS x93,vS x94,vI x95,vI x96,vI x97,vS x98,vS x99] /\ 
 (Wp h91 (aS h 0) 8 [.string x92,vS x93,vS x94,vI x95,vI x96,vI x97,vS x98,vS x99] fun h100=>
 (∃x101:ByteArray,∃x102:Sl,∃x103:Sl,∃x104:Int,∃x105:Int,∃x106:Int,∃x107:Sl,∃x108:Sl,atC h100 (aS h 0) [.string x101,vS x102,vS x103,vI x104,vI x105,vI x106,vS x107,vS x108] /\ 
 R (.agg ⟨[.string x101,vS x102,vS x103,vI x104,vI x105,vI x106,vS x107,vS x108]⟩) h100)))))))))))))))))))) 
 ((∃x109:ByteArray,∃x110:Sl,∃x111:Sl,∃x112:Int,∃x113:Int,∃x114:Int,∃x115:Sl,∃x116:Sl,atC h39 (aS h3 0) [.string x109,vS x110,vS x111,vI x112,vI x113,vI x114,vS x115,vS x116] /\ 
 (Wp h39 (aS h 0) 8 [.string x109,vS x110,vS x111,vI x112,vI x113,vI x114,vS x115,vS x116] fun h117=>
 (∃x118:ByteArray,∃x119:Sl,∃x120:Sl,∃x121:Int,∃x122:Int,∃x123:Int,∃x124:Sl,∃x125:Sl,atC h117 (aS h 0) [.string x118,vS x119,vS x120,vI x121,vI x122,vI x123,vS x124,vS x125] /\ 
 R (.agg ⟨[.string x118,vS x119,vS x120,vI x121,vI x122,vI x123,vS x124,vS x125]⟩) h117))))))))))))))))))))
theorem vc38e (p0:Bool) (h:Heap) (R:Value->Heap->Prop):W38 p0 h R=fnW Pz 38 .z #[.bool p0] h R:=by kernel_rfl
theorem vc38 (p0:Bool) (h:Heap) (R:Value->Heap->Prop) (H:W38 p0 h R):Fn Pz 38 #[.bool p0] h R:=fnI (vc38e p0 h R) H
/- farandole/farandolelaw23.Example$1 -/
def W87 (p0:Int) (p1:Int) (p2:Int) (p3:Int) (p4:Int) (h:Heap) (R:Value->Heap->Prop):Prop:=
 (∀h1:Heap,h1=h.push (.cells ⟨[.int .i64 0,.int .i64 0,.int .i64 0,.int .i64 0,.int .i64 0,.bool false]⟩ 67) -> 
 (okAt h1 ⟨h.size,0,none⟩ 6/\∀h2:Heap,h2=hputs h1 ⟨h.size,0,none⟩ 0 [.int .i64 p0,.int .i64 p1,.int .i64 p2,.int .i64 p3,.int .i64 p4,.bool false] -> 
 (∃x3:Int,∃x4:Int,∃x5:Int,∃x6:Int,∃x7:Int,∃x8:Bool,atC h2 ⟨h.size,0,none⟩ [.int .i64 x3,.int .i64 x4,.int .i64 x5,.int .i64 x6,.int .i64 x7,.bool x8] /\ 
 R (.agg ⟨[.int .i64 x3,.int .i64 x4,.int .i64 x5,.int .i64 x6,.int .i64 x7,.bool x8]⟩) h2)))
theorem vc87e (p0:Int) (p1:Int) (p2:Int) (p3:Int) (p4:Int) (h:Heap) (R:Value->Heap->Prop):W87 p0 p1 p2 p3 p4 h R=fnW Pz 87 .z #[.int .i64 p0,.int .i64 p1,.int .i64 p2,.int .i64 p3,.int .i64 p4] h R:=by kernel_rfl
theorem vc87 (p0:Int) (p1:Int) (p2:Int) (p3:Int) (p4:Int) (h:Heap) (R:Value->Heap->Prop) (H:W87 p0 p1 p2 p3 p4 h R):Fn Pz 87 #[.int .i64 p0,.int .i64 p1,.int .i64 p2,.int .i64 p3,.int .i64 p4] h R:=fnI (vc87e p0 p1 p2 p3 p4 h R) H
/- farandole/farandoleref23.Few -/
def W13 (p0_1:ByteArray) (p0_2:Sl) (p0_3:Sl) (p0_4:Int) (p0_5:Int) (p0_6:Int) (p0_7:Sl) (p0_8:Sl) (h:Heap) (R:Value->Heap->Prop):Prop:=
 (∀h9:Heap,h9=h.push (.cells ⟨[.string p0_1,.slice p0_2.a p0_2.n p0_2.c,.slice p0_3.a p0_3.n p0_3.c,.int .i64 p0_4,.int .i64 p0_5,.int .i64 p0_6,.slice p0_7.a p0_7.n p0_7.c,.slice p0_8.a p0_8.n p0_8.c]⟩ 27) -> 
 (∃x10:ByteArray,∃x11:Sl,∃x12:Sl,∃x13:Int,∃x14:Int,∃x15:Int,∃x16:Sl,∃x17:Sl,atC h9 ⟨h.size,0,none⟩ [.string x10,.slice x11.a x11.n x11.c,.slice x12.a x12.n x12.c,.int .i64 x13,.int .i64 x14,.int .i64 x15,.slice x16.a x16.n x16.c,.slice x17.a x17.n x17.c] /\ 
 (Fn Pz 39 #[.agg ⟨[.string x10,.slice x11.a x11.n x11.c,.slice x12.a x12.n x12.c,.int .i64 x13,.int .i64 x14,.int .i64 x15,.slice x16.a x16.n x16.c,.slice x17.a x17.n x17.c]⟩] h9 
 (fun v18 h20=>∃x19:Bool,v18=.bool x19 /\ 
 (sB x19 
  ((∃x21:Int,hc h20 ⟨h.size,3,none⟩=some (.int .i64 x21) /\ 
  R (.bool (decide (x21<=25))) h20)) 
  (R (.bool false) h20))))))
theorem vc13e (p0_1:ByteArray) (p0_2:Sl) (p0_3:Sl) (p0_4:Int) (p0_5:Int) (p0_6:Int) (p0_7:Sl) (p0_8:Sl) (h:Heap) (R:Value->Heap->Prop):W13 p0_1 p0_2 p0_3 p0_4 p0_5 p0_6 p0_7 p0_8 h R=fnW Pz 13 .z #[.agg ⟨[.string p0_1,.slice p0_2.a p0_2.n p0_2.c,.slice p0_3.a p0_3.n p0_3.c,.int .i64 p0_4,.int .i64 p0_5,.int .i64 p0_6,.slice p0_7.a p0_7.n p0_7.c,.slice p0_8.a p0_8.n p0_8.c]⟩] h R:=by kernel_rfl
theorem vc13 (p0_1:ByteArray) (p0_2:Sl) (p0_3:Sl) (p0_4:Int) (p0_5:Int) (p0_6:Int) (p0_7:Sl) (p0_8:Sl) (h:Heap) (R:Value->Heap->Prop) (H:W13 p0_1 p0_2 p0_3 p0_4 p0_5 p0_6 p0_7 p0_8 h R):Fn Pz 13 #[.agg ⟨[.string p0_1,.slice p0_2.a p0_2.n p0_2.c,.slice p0_3.a p0_3.n p0_3.c,.int .i64 p0_4,.int .i64 p0_5,.int .i64 p0_6,.slice p0_7.a p0_7.n p0_7.c,.slice p0_8.a p0_8.n p0_8.c]⟩] h R:=fnI (vc13e p0_1 p0_2 p0_3 p0_4 p0_5 p0_6 p0_7 p0_8 h R) H
end Go.VC
end

section
namespace Go.VC
open Go.Proofs Go.LexS
def exD (x:Nm):Dc:=⟨x,⟨none,0,0⟩,0,⟨none,0,0⟩,⟨none,0,0⟩,[],[],[]⟩
def exEs:Bool->List Ed
 | true=>[⟨0,0,1,0,1,false⟩,⟨0,0,1,1,2,false⟩,⟨1,1,2,0,3,false⟩,⟨2,1,2,1,4,false⟩,⟨3,2,1,2,5,false⟩,⟨4,2,1,3,5,false⟩]
 | false=>[⟨0,0,1,0,1,false⟩,⟨0,0,1,1,2,false⟩,⟨1,2,1,2,3,false⟩,⟨2,2,1,3,3,false⟩]
def exGl (b:Bool) (hr hd he ht:Sl):Gl:=⟨[101],hr,hd,if b then 6 else 4,0,if b then 5 else 3,he,ht,[[112],[113],[114]],[exD [97],exD [98],exD [99],exD [100]],exEs b,[]⟩
theorem edge70 (p0 p1 p2 p3 p4:Int) (h:Heap):Fn Pz 87 #[.int .i64 p0,.int .i64 p1,.int .i64 p2,.int .i64 p3,.int .i64 p4] h fun v h'=>v=.agg ⟨Ed.cs ⟨p0,p1,p2,p3,p4,false⟩⟩/\Ext h h':=by
 apply vc87;unfold W87;have hs:=St.refl h;refine hs.newput (vs:=Ed.cs ⟨p0,p1,p2,p3,p4,false⟩) rfl rfl fun h2 hs=>?_;exact⟨_,_,_,_,_,_,hs.at 0 rfl (n:=6) rfl,rfl,hs.ext⟩
theorem RL.none_ {α:Type} {h:Heap} {k:Nat} {cs:α->List Value}:RL h k ⟨none,0,0⟩ cs []:=⟨Rw.nil,Yyt _,fun _=>⟨rfl,rfl⟩,Nat.zero_le _⟩
theorem St.rl {α:Type} {h0 h:Heap} {L:List It} (hs:St h0 h L) (k:Nat) {s:Sl} {e:TypeId} {n:Nat} {cs:α->List Value} {l:List α} (hk:L[k]?=some (.sl s e n (l.map cs))) (hn:0<n) (hl:l.length<=1048576):RL h n s cs l:=by
 have:=hs.len k hk hn;exact⟨hs.rows k hk hn,this.2.1,this.2.2,hl⟩
theorem nmrows (L:List Nm):∀r∈L.map nmC,r.length=1:=fun r hr=>by obtain⟨x,_,rfl⟩:=Yp.1 hr;rfl
theorem dcrows (L:List Dc):∀r∈L.map Dc.cs,r.length=5:=fun r hr=>by obtain⟨x,_,rfl⟩:=Yp.1 hr;rfl
theorem edrows (L:List Ed):∀r∈L.map Ed.cs,r.length=6:=fun r hr=>by obtain⟨x,_,rfl⟩:=Yp.1 hr;rfl
theorem example34 (b:Bool) (h:Heap):Fn Pz 38 #[.bool b] h fun v h'=>Ext h h'/\∃hr hd he:Sl,v=(exGl b hr hd he ⟨none,0,0⟩).v/\GI h' (exGl b hr hd he ⟨none,0,0⟩):=by
 apply vc38;unfold W38;have hs:=St.refl h;refine hs.newb fun h1 hs=>?_;refine hs.newb fun h2 hs=>?_;have hs:=hs.blkS 3 1 ([[112],[113],[114]].map nmC) rfl (nmrows _) rfl (by decide);refine hs.newb fun h3 hs=>?_;have hs:=hs.blkS 4 5 ([exD [97],exD [98],exD [99],exD [100]].map Dc.cs) rfl (dcrows _) rfl (by decide);refine hs.newput (vs:=[.string (bs [101]),.slice (some ⟨h1.size,0,none⟩) 3 3,.slice (some ⟨h2.size,0,none⟩) 4 4,.int .i64 4,.int .i64 0,.int .i64 3,.slice none 0 0,.slice none 0 0]) rfl rfl fun h5 hs=>?_;refine (edge70 _ _ _ _ _ _).mono ?_;rintro _ _ ⟨rfl,E⟩;replace hs:=hs.step E;clear E;refine⟨_,_,_,_,_,_,rfl,?_⟩;refine (edge70 _ _ _ _ _ _).mono ?_;rintro _ _ ⟨rfl,E⟩;replace hs:=hs.step E;clear E;refine⟨_,_,_,_,_,_,rfl,?_⟩;refine (edge70 _ _ _ _ _ _).mono ?_;rintro _ _ ⟨rfl,E⟩;replace hs:=hs.step E;clear E;refine⟨_,_,_,_,_,_,rfl,?_⟩;refine (edge70 _ _ _ _ _ _).mono ?_;rintro _ _ ⟨rfl,E⟩;replace hs:=hs.step E;clear E;refine⟨_,_,_,_,_,_,rfl,?_⟩;refine hs.newb fun h38 hs=>?_;have hs:=hs.blkS 4 6 ((exEs false).map Ed.cs) rfl (edrows _) rfl (by decide);refine hs.put 1 rfl (o:=6) (vs:=[.slice (some ⟨_,0,none⟩) 4 4]) rfl (show 7<=8 by decide) fun h39 hs=>?_;cases b
 .refine sB_f rfl ?_;refine⟨_,⟨some ⟨h1.size,0,none⟩,3,3⟩,⟨some ⟨h2.size,0,none⟩,4,4⟩,_,_,_,⟨some ⟨_,0,none⟩,4,4⟩,⟨none,0,0⟩,hs.at 1 rfl (n:=8) rfl,?_⟩;refine hs.put 4 rfl (o:=0) (vs:=(exGl false ⟨some ⟨h1.size,0,none⟩,3,3⟩ ⟨some ⟨h2.size,0,none⟩,4,4⟩ ⟨some ⟨_,0,none⟩,4,4⟩ ⟨none,0,0⟩).cs) rfl (show 8<=8 by decide) fun h117 hs=>?_;refine⟨_,⟨some ⟨h1.size,0,none⟩,3,3⟩,⟨some ⟨h2.size,0,none⟩,4,4⟩,_,_,_,⟨some ⟨_,0,none⟩,4,4⟩,⟨none,0,0⟩,hs.at 4 rfl (n:=8) rfl,hs.ext,_,_,_,rfl,?_⟩;refine⟨hs.rl 3 rfl (by decide) (show 3<=1048576 by decide),⟨hs.rl 2 rfl (by decide) (show 4<=1048576 by decide),fun d hd=>?_⟩,hs.rl 0 rfl (by decide) (show 4<=1048576 by decide),RL.none_⟩;have hd:d∈[exD [97],exD [98],exD [99],exD [100]]:=hd;simp only[Yr,List.not_mem_nil,or_false] at hd;rcases hd with rfl | rfl | rfl | rfl<;>exact⟨RL.none_,RL.none_,RL.none_⟩
 .refine sB_t rfl ?_;refine hs.put 1 rfl (o:=3) (vs:=[.int .i64 6]) rfl (show 4<=8 by decide) fun h40 hs=>?_;refine hs.put 1 rfl (o:=5) (vs:=[.int .i64 5]) rfl (show 6<=8 by decide) fun h41 hs=>?_;refine (edge70 _ _ _ _ _ _).mono ?_;rintro _ _ ⟨rfl,E⟩;replace hs:=hs.step E;clear E;refine⟨_,_,_,_,_,_,rfl,?_⟩;refine (edge70 _ _ _ _ _ _).mono ?_;rintro _ _ ⟨rfl,E⟩;replace hs:=hs.step E;clear E;refine⟨_,_,_,_,_,_,rfl,?_⟩;refine (edge70 _ _ _ _ _ _).mono ?_;rintro _ _ ⟨rfl,E⟩;replace hs:=hs.step E;clear E;refine⟨_,_,_,_,_,_,rfl,?_⟩;refine (edge70 _ _ _ _ _ _).mono ?_;rintro _ _ ⟨rfl,E⟩;replace hs:=hs.step E;clear E;refine⟨_,_,_,_,_,_,rfl,?_⟩;refine (edge70 _ _ _ _ _ _).mono ?_;rintro _ _ ⟨rfl,E⟩;replace hs:=hs.step E;clear E;refine⟨_,_,_,_,_,_,rfl,?_⟩;refine (edge70 _ _ _ _ _ _).mono ?_;rintro _ _ ⟨rfl,E⟩;replace hs:=hs.step E;clear E;refine⟨_,_,_,_,_,_,rfl,?_⟩;refine hs.newb fun h90 hs=>?_;have hs:=hs.blkS 6 6 ((exEs true).map Ed.cs) rfl (edrows _) rfl (by decide);refine hs.put 2 rfl (o:=6) (vs:=[.slice (some ⟨_,0,none⟩) 6 6]) rfl (show 7<=8 by decide) fun h91 hs=>?_;refine⟨_,⟨some ⟨h1.size,0,none⟩,3,3⟩,⟨some ⟨h2.size,0,none⟩,4,4⟩,_,_,_,⟨some ⟨_,0,none⟩,6,6⟩,⟨none,0,0⟩,hs.at 2 rfl (n:=8) rfl,?_⟩;refine hs.put 5 rfl (o:=0) (vs:=(exGl true ⟨some ⟨h1.size,0,none⟩,3,3⟩ ⟨some ⟨h2.size,0,none⟩,4,4⟩ ⟨some ⟨_,0,none⟩,6,6⟩ ⟨none,0,0⟩).cs) rfl (show 8<=8 by decide) fun h117 hs=>?_;refine⟨_,⟨some ⟨h1.size,0,none⟩,3,3⟩,⟨some ⟨h2.size,0,none⟩,4,4⟩,_,_,_,⟨some ⟨_,0,none⟩,6,6⟩,⟨none,0,0⟩,hs.at 5 rfl (n:=8) rfl,hs.ext,_,_,_,rfl,?_⟩;refine⟨hs.rl 4 rfl (by decide) (show 3<=1048576 by decide),⟨hs.rl 3 rfl (by decide) (show 4<=1048576 by decide),fun d hd=>?_⟩,hs.rl 0 rfl (by decide) (show 6<=1048576 by decide),RL.none_⟩;have hd:d∈[exD [97],exD [98],exD [99],exD [100]]:=hd;simp only[Yr,List.not_mem_nil,or_false] at hd;rcases hd with rfl | rfl | rfl | rfl<;>exact⟨RL.none_,RL.none_,RL.none_⟩
deriving instance DecidableEq for Ed
theorem ex_valid (b:Bool) (hr hd he ht:Sl):ValidS (exGl b hr hd he ht):=by
 have hrs:(exGl b hr hd he ht).rs=[[112],[113],[114]]:=rfl;have hds:(exGl b hr hd he ht).ds=[exD [97],exD [98],exD [99],exD [100]]:=rfl;have hes:(exGl b hr hd he ht).es=exEs b:=rfl;have hall:allF [exD [97],exD [98],exD [99],exD [100]]=[]:=rfl;have get3:∀ {α:Type} {P:Nat->α->Prop} {l:List α},(∀i (hi:i<l.length),P i l[i])->∀i x,l[i]?=some x->P i x:=by
  intro α P l h i x hx;obtain⟨h1,h2⟩:=Ya.1 hx;rw[<-h2];exact h i h1
 refine⟨⟨by rfl,by rw[hrs];decide,by rw[hrs];decide,?_⟩,⟨?_,?_,?_⟩,?_,⟨?_,?_,?_⟩,?_,?_,?_⟩
 .rw[hrs];refine get3 (P:=fun i s=>isWord s=true/\s∉List.take i [[112],[113],[114]]) fun i hi=>?_;have hi:i<3:=hi
  match i,hi with
  | 0,_=>exact Yyn rfl
  | 1,_=>exact Yyn rfl
  | 2,_=>exact Yyn rfl
 .cases b<;>exact⟨Yyn rfl,Yyn rfl,Yyn rfl,Yyn rfl,Yyn rfl,Yyn rfl⟩
 .rw[hes];cases b<;>decide
 .rw[hes];unfold EdS;rw[hrs,hds];cases b
  .show ∀x∈exEs false,0<=x.f/\0<=x.t/\0<=x.a/\0<=x.b/\0<=x.l/\x.f<4/\x.t<4/\x.a<((3:Nat):Int)/\x.b<((3:Nat):Int)/\x.a≠x.b/\x.l<((4:Nat):Int);decide
  .show ∀x∈exEs true,0<=x.f/\0<=x.t/\0<=x.a/\0<=x.b/\0<=x.l/\x.f<6/\x.t<6/\x.a<((3:Nat):Int)/\x.b<((3:Nat):Int)/\x.a≠x.b/\x.l<((4:Nat):Int);decide
 .rw[hds];refine⟨by decide,by rw[hall];decide,?_⟩;refine get3 (P:=fun i d=>DcS [exD [97],exD [98],exD [99],exD [100]] i d) fun i hi=>?_;have hi:i<4:=hi;have hg:GuardS [] [] []:=⟨by decide,by decide,fun x hx=>(by cases hx),fun x hx=>(by cases hx)⟩
  match i,hi with
  | 0,_=>exact⟨by rfl,Yyn rfl,Yyn rfl,by rfl,fun k f hf=>(by cases hf),by rw[hall];exact hg⟩
  | 1,_=>exact⟨by rfl,Yyn rfl,Yyn rfl,by rfl,fun k f hf=>(by cases hf),by rw[hall];exact hg⟩
  | 2,_=>exact⟨by rfl,Yyn rfl,Yyn rfl,by rfl,fun k f hf=>(by cases hf),by rw[hall];exact hg⟩
  | 3,_=>exact⟨by rfl,Yyn rfl,Yyn rfl,by rfl,fun k f hf=>(by cases hf),by rw[hall];exact hg⟩
 .rw[hes];cases b
  .show ∀x∈exEs false,x.f≠3;decide
  .show ∀x∈exEs true,x.f≠5;decide
 .rw[hes];cases b
  .show ∀x∈exEs false,x.ag=true->x.f≠0;decide
  .show ∀x∈exEs true,x.ag=true->x.f≠0;decide
 .rw[hes];have key:((exEs b).zipIdx.all fun p=>(exEs b).zipIdx.all fun q=>!decide ((p.2≠q.2/\p.1.f=q.1.f/\((p.1.a=q.1.a/\p.1.b=q.1.b/\p.1.l=q.1.l)\/p.1.a≠q.1.a\/p.1.ag=true))\/(p.1.ag=true/\q.1.t=p.1.f/\(p.1.a≠q.1.a\/p.1.l≠q.1.l))))=true:=by
   cases b<;>decide
  intro i x hx k y hy hbad;have h1:=List.all_eq_true.1 key (x,i) (Yf.2 ⟨i,by rw[List.getElem?_zipIdx,hx];simp⟩);have h2:=List.all_eq_true.1 h1 (y,k) (Yf.2 ⟨k,by rw[List.getElem?_zipIdx,hy];simp⟩);have h3:=Yyo (Bool.not_eq_true' _ ▸ h2);exact h3 hbad
 .intro i t ht;exact absurd ht (by show ([]:List To)[i]?≠some t;simp)
 .intro v h0 h1;rw[hes];cases b
  .have h1:v<4:=h1;show Rch (exEs false) false 0 v;have s0:Rch (exEs false) false 0 0:=.refl;have s1:Rch (exEs false) false 0 1:=.step s0 ⟨⟨0,0,1,0,1,false⟩,by decide,rfl,rfl⟩;have s2:Rch (exEs false) false 0 2:=.step s0 ⟨⟨0,0,1,1,2,false⟩,by decide,rfl,rfl⟩;have s3:Rch (exEs false) false 0 3:=.step s1 ⟨⟨1,2,1,2,3,false⟩,by decide,rfl,rfl⟩;have:v=0\/v=1\/v=2\/v=3:=by omega
   rcases this with rfl | rfl | rfl | rfl<;>assumption
  .have h1:v<6:=h1;show Rch (exEs true) false 0 v;have s0:Rch (exEs true) false 0 0:=.refl;have s1:Rch (exEs true) false 0 1:=.step s0 ⟨⟨0,0,1,0,1,false⟩,by decide,rfl,rfl⟩;have s2:Rch (exEs true) false 0 2:=.step s0 ⟨⟨0,0,1,1,2,false⟩,by decide,rfl,rfl⟩;have s3:Rch (exEs true) false 0 3:=.step s1 ⟨⟨1,1,2,0,3,false⟩,by decide,rfl,rfl⟩;have s4:Rch (exEs true) false 0 4:=.step s2 ⟨⟨2,1,2,1,4,false⟩,by decide,rfl,rfl⟩;have s5:Rch (exEs true) false 0 5:=.step s3 ⟨⟨3,2,1,2,5,false⟩,by decide,rfl,rfl⟩;have:v=0\/v=1\/v=2\/v=3\/v=4\/v=5:=by omega
   rcases this with rfl | rfl | rfl | rfl | rfl | rfl<;>assumption
 .intro v h0 h1;rw[hes];cases b
  .have h1:v<4:=h1;show Rch (exEs false) true 3 v;have s3:Rch (exEs false) true 3 3:=.refl;have s1:Rch (exEs false) true 3 1:=.step s3 ⟨⟨1,2,1,2,3,false⟩,by decide,rfl,rfl⟩;have s2:Rch (exEs false) true 3 2:=.step s3 ⟨⟨2,2,1,3,3,false⟩,by decide,rfl,rfl⟩;have s0:Rch (exEs false) true 3 0:=.step s1 ⟨⟨0,0,1,0,1,false⟩,by decide,rfl,rfl⟩;have:v=0\/v=1\/v=2\/v=3:=by omega
   rcases this with rfl | rfl | rfl | rfl<;>assumption
  .have h1:v<6:=h1;show Rch (exEs true) true 5 v;have s5:Rch (exEs true) true 5 5:=.refl;have s3:Rch (exEs true) true 5 3:=.step s5 ⟨⟨3,2,1,2,5,false⟩,by decide,rfl,rfl⟩;have s4:Rch (exEs true) true 5 4:=.step s5 ⟨⟨4,2,1,3,5,false⟩,by decide,rfl,rfl⟩;have s1:Rch (exEs true) true 5 1:=.step s3 ⟨⟨1,1,2,0,3,false⟩,by decide,rfl,rfl⟩;have s2:Rch (exEs true) true 5 2:=.step s4 ⟨⟨2,1,2,1,4,false⟩,by decide,rfl,rfl⟩;have s0:Rch (exEs true) true 5 0:=.step s1 ⟨⟨0,0,1,0,1,false⟩,by decide,rfl,rfl⟩;have:v=0\/v=1\/v=2\/v=3\/v=4\/v=5:=by omega
   rcases this with rfl | rfl | rfl | rfl | rfl | rfl<;>assumption

def RBo (h:Heap) (v:Value) (h':Heap):Prop:=(∃b:Bool,v=.bool b)/\Ext h h'
theorem RBo.mk {h h':Heap} {b:Bool} (E:Ext h h'):RBo h (.bool b) h':=⟨⟨b,rfl⟩,E⟩
theorem Ext.rfl' {h:Heap}:Ext h h:=⟨Yyt _,fun _ _=>rfl⟩
def RP (p:Prop) (h:Heap) (v:Value) (h':Heap):Prop:=(∃b:Bool,v=.bool b/\(b=true ↔ p))/\Ext h h'
theorem RP.t {p:Prop} {h h':Heap} (hp:p) (E:Ext h h'):RP p h (.bool true) h':=⟨⟨true,rfl,iff_of_true rfl hp⟩,E⟩
theorem RP.f {p:Prop} {h h':Heap} (hp:¬p) (E:Ext h h'):RP p h (.bool false) h':=⟨⟨false,rfl,iff_of_false (by decide) hp⟩,E⟩
theorem RP.e {p:Prop} {h h':Heap} {b:Bool} (hb:b=true ↔ p) (E:Ext h h'):RP p h (.bool b) h':=⟨⟨b,rfl,hb⟩,E⟩
theorem iff_f {p:Prop} {b:Bool} (hp:b=true ↔ p) (c:b=false):¬p:=fun hq=>by
 rw[hp.2 hq] at c;cases c
theorem smx {al:List Addr} {h h':Heap} (E:Ext h h'):Sm al h h':=fun _ _ _ _ hv=>hc_ext E hv
theorem Sm_but {al:List Addr} {h h':Heap} {b:Nat} (hB:But b h h') (hn:∀a∈al,a.block≠b):Sm al h h':=fun a ha k v hv=>by
 rw[hc_of_block (hB.2 _ (by rw[addk_block'];exact hn a ha))];exact hv
theorem hc_blk {h:Heap} {a:Addr} {v:Value} (hv:hc h a=some v):a.block<h.size:=by
 rcases Nat.lt_or_ge a.block h.size with h1 | h1
 .exact h1
 .unfold VC.hc at hv;simp[Array.getElem?_eq_none h1] at hv
end Go.VC
end

section
namespace Go.VC
open Go.Proofs
/- farandole/farandoleref21.Few -/
def W39 (p0_1:ByteArray) (p0_2:Sl) (p0_3:Sl) (p0_4:Int) (p0_5:Int) (p0_6:Int) (p0_7:Sl) (p0_8:Sl) (h:Heap) (R:Value->Heap->Prop):Prop:=
 (∀h9:Heap,h9=h.push (.cells ⟨[.string p0_1,.slice p0_2.a p0_2.n p0_2.c,.slice p0_3.a p0_3.n p0_3.c,.int .i64 p0_4,.int .i64 p0_5,.int .i64 p0_6,.slice p0_7.a p0_7.n p0_7.c,.slice p0_8.a p0_8.n p0_8.c]⟩ 27) -> 
 (∃x10:Sl,hc h9 ⟨h.size,6,none⟩=some (.slice x10.a x10.n x10.c) /\ 
 (sB (decide ((x10.n:Int)<=50)) 
  ((∃x11:Sl,hc h9 ⟨h.size,1,none⟩=some (.slice x11.a x11.n x11.c) /\ 
  (sB (decide ((x11.n:Int)<=6)) 
  ((∃x12:Sl,hc h9 ⟨h.size,2,none⟩=some (.slice x12.a x12.n x12.c) /\ 
  (sB (decide ((x12.n:Int)<=40)) 
   ((∃x13:Sl,hc h9 ⟨h.size,7,none⟩=some (.slice x13.a x13.n x13.c) /\ 
   R (.bool (decide ((x13.n:Int)<=50))) h9)) 
   (R (.bool false) h9)))) 
  (R (.bool false) h9)))) 
  (R (.bool false) h9))))
theorem vc39e (p0_1:ByteArray) (p0_2:Sl) (p0_3:Sl) (p0_4:Int) (p0_5:Int) (p0_6:Int) (p0_7:Sl) (p0_8:Sl) (h:Heap) (R:Value->Heap->Prop):W39 p0_1 p0_2 p0_3 p0_4 p0_5 p0_6 p0_7 p0_8 h R=fnW Pz 39 .z #[.agg ⟨[.string p0_1,.slice p0_2.a p0_2.n p0_2.c,.slice p0_3.a p0_3.n p0_3.c,.int .i64 p0_4,.int .i64 p0_5,.int .i64 p0_6,.slice p0_7.a p0_7.n p0_7.c,.slice p0_8.a p0_8.n p0_8.c]⟩] h R:=by kernel_rfl
theorem vc39 (p0_1:ByteArray) (p0_2:Sl) (p0_3:Sl) (p0_4:Int) (p0_5:Int) (p0_6:Int) (p0_7:Sl) (p0_8:Sl) (h:Heap) (R:Value->Heap->Prop) (H:W39 p0_1 p0_2 p0_3 p0_4 p0_5 p0_6 p0_7 p0_8 h R):Fn Pz 39 #[.agg ⟨[.string p0_1,.slice p0_2.a p0_2.n p0_2.c,.slice p0_3.a p0_3.n p0_3.c,.int .i64 p0_4,.int .i64 p0_5,.int .i64 p0_6,.slice p0_7.a p0_7.n p0_7.c,.slice p0_8.a p0_8.n p0_8.c]⟩] h R:=fnI (vc39e p0_1 p0_2 p0_3 p0_4 p0_5 p0_6 p0_7 p0_8 h R) H
end Go.VC
end

section
namespace Go.VC
open Go.Proofs Go.LexS
def sameMv (x y:Mv):Bool:=decide (x.send=y.send/\x.peer=y.peer/\x.label=y.label/\x.ag=y.ag)
def limI (li:List To) (s:Int):Option Nat:=li.findIdx? fun t=>decide (t.s=s)
def sameLim (m:Mch) (a b:Int):Bool:=match limI m.li a,limI m.li b with
 | none,none=>true
 | some i,some k=>match m.li[i]?,m.li[k]? with
  | some x,some y=>match m.mv[x.e.toNat]?,m.mv[y.e.toNat]? with
   | some p,some q=>decide (x.k=y.k)&&sameMv p q
   | _,_=>false
  | _,_=>false
 | _,_=>false
def FewS (g:Gl):Prop:=g.es.length<=50/\g.rs.length<=6/\g.ds.length<=40/\g.ts.length<=50
instance (g:Gl):Decidable (FewS g):=by unfold FewS;infer_instance
theorem few35 (g:Gl) (h:Heap) (hg:GI h g):Fn Pz 39 #[g.v] h fun v h'=>v=.bool (decide (FewS g))/\Ext h h':=by
 apply vc39 (bs g.nm) g.hr g.hd g.n g.s g.e g.he g.ht;unfold W39;have hs:=St.refl h;have h1:=hg.e.ln;have h2:=hg.r.ln;have h3:=hg.d.r.ln;have h4:=hg.t.ln;refine hs.newb fun h9 hs=>?_;refine⟨_,hs.rd 0 rfl rfl,?_⟩;refine sBi (fun c1=>?_) (fun c1=>⟨dF fun hc=>by unfold FewS at hc;omega,hs.ext⟩);refine⟨_,hs.rd 0 rfl rfl,?_⟩;refine sBi (fun c2=>?_) (fun c2=>⟨dF fun hc=>by unfold FewS at hc;omega,hs.ext⟩);refine⟨_,hs.rd 0 rfl rfl,?_⟩;refine sBi (fun c3=>?_) (fun c3=>⟨dF fun hc=>by unfold FewS at hc;omega,hs.ext⟩);refine⟨_,hs.rd 0 rfl rfl,?_,hs.ext⟩;congr 1;rw[decide_eq_decide];unfold FewS;omega
theorem few11 (g:Gl) (h:Heap) (hg:GI h g):Fn Pz 13 #[g.v] h fun v h'=>v=.bool (decide (FewS g/\g.n<=25))/\Ext h h':=by
 apply vc13 (bs g.nm) g.hr g.hd g.n g.s g.e g.he g.ht;unfold W13;have hs:=St.refl h;refine hs.newb fun h9 hs=>?_;refine⟨_,_,_,_,_,_,_,_,hs.at 0 rfl (n:=8) rfl,?_⟩;refine (few35 g h9 (hg.ext hs.ext)).mono ?_;rintro _ h20 ⟨rfl,E20⟩;replace hs:=hs.step E20;refine⟨_,rfl,?_⟩;refine sBi (fun c1=>?_) (fun c1=>⟨dF fun hc=>c1 hc.1,hs.ext⟩);refine⟨_,hs.rd 0 rfl rfl,?_,hs.ext⟩;congr 1;rw[decide_eq_decide];exact⟨fun h=>⟨c1,h⟩,fun h=>h.2⟩

def base (m:Mch) (i k:Nat):Bool:=decide (m.fin.getD i false=m.fin.getD k false)&&sameLim m i k

end Go.VC
end

section
namespace Go.VC
open Go.LexS




end Go.VC
end

section
namespace Go.VC
open Go.Proofs Go.LexS

end Go.VC
end

section
namespace Go.VC
open Go.Proofs
/- farandole/farandoleref18.Valid -/
def W17 (p0_1:ByteArray) (p0_2:Sl) (p0_3:Sl) (p0_4:Int) (p0_5:Int) (p0_6:Int) (p0_7:Sl) (p0_8:Sl) (h:Heap) (R:Value->Heap->Prop):Prop:=
 (∀h9:Heap,h9=h.push (.cells ⟨[.string p0_1,.slice p0_2.a p0_2.n p0_2.c,.slice p0_3.a p0_3.n p0_3.c,.int .i64 p0_4,.int .i64 p0_5,.int .i64 p0_6,.slice p0_7.a p0_7.n p0_7.c,.slice p0_8.a p0_8.n p0_8.c]⟩ 27) -> 
 (∃x10:ByteArray,∃x11:Sl,∃x12:Sl,∃x13:Int,∃x14:Int,∃x15:Int,∃x16:Sl,∃x17:Sl,atC h9 ⟨h.size,0,none⟩ [.string x10,.slice x11.a x11.n x11.c,.slice x12.a x12.n x12.c,.int .i64 x13,.int .i64 x14,.int .i64 x15,.slice x16.a x16.n x16.c,.slice x17.a x17.n x17.c] /\ 
 (Fn Pz 43 #[.agg ⟨[.string x10,.slice x11.a x11.n x11.c,.slice x12.a x12.n x12.c,.int .i64 x13,.int .i64 x14,.int .i64 x15,.slice x16.a x16.n x16.c,.slice x17.a x17.n x17.c]⟩] h9 
 (fun v18 h20=>∃x19:Bool,v18=.bool x19 /\ 
 (sB x19 
  ((∃x21:ByteArray,∃x22:Sl,∃x23:Sl,∃x24:Int,∃x25:Int,∃x26:Int,∃x27:Sl,∃x28:Sl,atC h20 ⟨h.size,0,none⟩ [.string x21,.slice x22.a x22.n x22.c,.slice x23.a x23.n x23.c,.int .i64 x24,.int .i64 x25,.int .i64 x26,.slice x27.a x27.n x27.c,.slice x28.a x28.n x28.c] /\ 
  (Fn Pz 44 #[.agg ⟨[.string x21,.slice x22.a x22.n x22.c,.slice x23.a x23.n x23.c,.int .i64 x24,.int .i64 x25,.int .i64 x26,.slice x27.a x27.n x27.c,.slice x28.a x28.n x28.c]⟩] h20 
  (fun v29 h31=>∃x30:Bool,v29=.bool x30 /\ 
  (sB x30 
  ((∃x32:ByteArray,∃x33:Sl,∃x34:Sl,∃x35:Int,∃x36:Int,∃x37:Int,∃x38:Sl,∃x39:Sl,atC h31 ⟨h.size,0,none⟩ [.string x32,.slice x33.a x33.n x33.c,.slice x34.a x34.n x34.c,.int .i64 x35,.int .i64 x36,.int .i64 x37,.slice x38.a x38.n x38.c,.slice x39.a x39.n x39.c] /\ 
  (Fn Pz 45 #[.agg ⟨[.string x32,.slice x33.a x33.n x33.c,.slice x34.a x34.n x34.c,.int .i64 x35,.int .i64 x36,.int .i64 x37,.slice x38.a x38.n x38.c,.slice x39.a x39.n x39.c]⟩] h31 
  (fun v40 h42=>∃x41:Bool,v40=.bool x41 /\ 
  (sB x41 
   ((∃x43:ByteArray,∃x44:Sl,∃x45:Sl,∃x46:Int,∃x47:Int,∃x48:Int,∃x49:Sl,∃x50:Sl,atC h42 ⟨h.size,0,none⟩ [.string x43,.slice x44.a x44.n x44.c,.slice x45.a x45.n x45.c,.int .i64 x46,.int .i64 x47,.int .i64 x48,.slice x49.a x49.n x49.c,.slice x50.a x50.n x50.c] /\ 
   (Fn Pz 46 #[.agg ⟨[.string x43,.slice x44.a x44.n x44.c,.slice x45.a x45.n x45.c,.int .i64 x46,.int .i64 x47,.int .i64 x48,.slice x49.a x49.n x49.c,.slice x50.a x50.n x50.c]⟩] h42 
   (fun v51 h53=>∃x52:Bool,v51=.bool x52 /\ 
   (sB x52 
   ((∃x54:ByteArray,∃x55:Sl,∃x56:Sl,∃x57:Int,∃x58:Int,∃x59:Int,∃x60:Sl,∃x61:Sl,atC h53 ⟨h.size,0,none⟩ [.string x54,.slice x55.a x55.n x55.c,.slice x56.a x56.n x56.c,.int .i64 x57,.int .i64 x58,.int .i64 x59,.slice x60.a x60.n x60.c,.slice x61.a x61.n x61.c] /\ 
   (Fn Pz 47 #[.agg ⟨[.string x54,.slice x55.a x55.n x55.c,.slice x56.a x56.n x56.c,.int .i64 x57,.int .i64 x58,.int .i64 x59,.slice x60.a x60.n x60.c,.slice x61.a x61.n x61.c]⟩] h53 
   (fun v62 h64=>∃x63:Bool,v62=.bool x63 /\ 
   R (.bool x63) h64)))) 
   (R (.bool false) h53)))))) 
   (R (.bool false) h42)))))) 
  (R (.bool false) h31)))))) 
  (R (.bool false) h20))))))
theorem vc17e (p0_1:ByteArray) (p0_2:Sl) (p0_3:Sl) (p0_4:Int) (p0_5:Int) (p0_6:Int) (p0_7:Sl) (p0_8:Sl) (h:Heap) (R:Value->Heap->Prop):W17 p0_1 p0_2 p0_3 p0_4 p0_5 p0_6 p0_7 p0_8 h R=fnW Pz 17 .z #[.agg ⟨[.string p0_1,.slice p0_2.a p0_2.n p0_2.c,.slice p0_3.a p0_3.n p0_3.c,.int .i64 p0_4,.int .i64 p0_5,.int .i64 p0_6,.slice p0_7.a p0_7.n p0_7.c,.slice p0_8.a p0_8.n p0_8.c]⟩] h R:=by kernel_rfl
theorem vc17 (p0_1:ByteArray) (p0_2:Sl) (p0_3:Sl) (p0_4:Int) (p0_5:Int) (p0_6:Int) (p0_7:Sl) (p0_8:Sl) (h:Heap) (R:Value->Heap->Prop) (H:W17 p0_1 p0_2 p0_3 p0_4 p0_5 p0_6 p0_7 p0_8 h R):Fn Pz 17 #[.agg ⟨[.string p0_1,.slice p0_2.a p0_2.n p0_2.c,.slice p0_3.a p0_3.n p0_3.c,.int .i64 p0_4,.int .i64 p0_5,.int .i64 p0_6,.slice p0_7.a p0_7.n p0_7.c,.slice p0_8.a p0_8.n p0_8.c]⟩] h R:=fnI (vc17e p0_1 p0_2 p0_3 p0_4 p0_5 p0_6 p0_7 p0_8 h R) H
/- farandole/farandoleref21.Good -/
def W48 (p0_1:ByteArray) (p0_2:Sl) (p0_3:Sl) (p0_4:Int) (p0_5:Int) (p0_6:Int) (p0_7:Sl) (p0_8:Sl) (p1:Int) (h:Heap) (R:Value->Heap->Prop):Prop:=
 (∀h9:Heap,h9=h.push (.cells ⟨[.string p0_1,.slice p0_2.a p0_2.n p0_2.c,.slice p0_3.a p0_3.n p0_3.c,.int .i64 p0_4,.int .i64 p0_5,.int .i64 p0_6,.slice p0_7.a p0_7.n p0_7.c,.slice p0_8.a p0_8.n p0_8.c]⟩ 27) -> 
 (∃x10:ByteArray,∃x11:Sl,∃x12:Sl,∃x13:Int,∃x14:Int,∃x15:Int,∃x16:Sl,∃x17:Sl,atC h9 ⟨h.size,0,none⟩ [.string x10,.slice x11.a x11.n x11.c,.slice x12.a x12.n x12.c,.int .i64 x13,.int .i64 x14,.int .i64 x15,.slice x16.a x16.n x16.c,.slice x17.a x17.n x17.c] /\ 
 (Fn Pz 17 #[.agg ⟨[.string x10,.slice x11.a x11.n x11.c,.slice x12.a x12.n x12.c,.int .i64 x13,.int .i64 x14,.int .i64 x15,.slice x16.a x16.n x16.c,.slice x17.a x17.n x17.c]⟩] h9 
 (fun v18 h20=>∃x19:Bool,v18=.bool x19 /\ 
 (sB x19 
  ((sB (decide (p1>=0)) 
  ((∃x21:Sl,hc h20 ⟨h.size,1,none⟩=some (.slice x21.a x21.n x21.c) /\ 
  R (.bool (decide (p1<(x21.n:Int)))) h20)) 
  (R (.bool false) h20))) 
  (R (.bool false) h20))))))
theorem vc48e (p0_1:ByteArray) (p0_2:Sl) (p0_3:Sl) (p0_4:Int) (p0_5:Int) (p0_6:Int) (p0_7:Sl) (p0_8:Sl) (p1:Int) (h:Heap) (R:Value->Heap->Prop):W48 p0_1 p0_2 p0_3 p0_4 p0_5 p0_6 p0_7 p0_8 p1 h R=fnW Pz 48 .z #[.agg ⟨[.string p0_1,.slice p0_2.a p0_2.n p0_2.c,.slice p0_3.a p0_3.n p0_3.c,.int .i64 p0_4,.int .i64 p0_5,.int .i64 p0_6,.slice p0_7.a p0_7.n p0_7.c,.slice p0_8.a p0_8.n p0_8.c]⟩,.int .i64 p1] h R:=by kernel_rfl
theorem vc48 (p0_1:ByteArray) (p0_2:Sl) (p0_3:Sl) (p0_4:Int) (p0_5:Int) (p0_6:Int) (p0_7:Sl) (p0_8:Sl) (p1:Int) (h:Heap) (R:Value->Heap->Prop) (H:W48 p0_1 p0_2 p0_3 p0_4 p0_5 p0_6 p0_7 p0_8 p1 h R):Fn Pz 48 #[.agg ⟨[.string p0_1,.slice p0_2.a p0_2.n p0_2.c,.slice p0_3.a p0_3.n p0_3.c,.int .i64 p0_4,.int .i64 p0_5,.int .i64 p0_6,.slice p0_7.a p0_7.n p0_7.c,.slice p0_8.a p0_8.n p0_8.c]⟩,.int .i64 p1] h R:=fnI (vc48e p0_1 p0_2 p0_3 p0_4 p0_5 p0_6 p0_7 p0_8 p1 h R) H
/- farandole/farandoleref18.names
   loop rlrb: i_13:Int -/
def W43 (p0_1:ByteArray) (p0_2:Sl) (p0_3:Sl) (p0_4:Int) (p0_5:Int) (p0_6:Int) (p0_7:Sl) (p0_8:Sl) (h:Heap) (R:Value->Heap->Prop):Prop:=
 (∀h9:Heap,h9=h.push (.cells ⟨[.string p0_1,.slice p0_2.a p0_2.n p0_2.c,.slice p0_3.a p0_3.n p0_3.c,.int .i64 p0_4,.int .i64 p0_5,.int .i64 p0_6,.slice p0_7.a p0_7.n p0_7.c,.slice p0_8.a p0_8.n p0_8.c]⟩ 27) -> 
 (∃I10:Int->Heap->Nat->Prop,(∃m11,I10 0 h9 m11) /\ 
 (∀(_:Env) (i_13:Int) (h14:Heap) (m12:Nat),I10 i_13 h14 m12 -> 
 (∃x15:Sl,hc h14 ⟨h.size,1,none⟩=some (.slice x15.a x15.n x15.c) /\ 
  (sB (decide (i_13<(x15.n:Int))) 
  ((∃x16:Sl,hc h14 ⟨h.size,1,none⟩=some (.slice x16.a x16.n x16.c) /\ 
  (NB x16.a fun b17 o18=>((0<=(i_13:Int)/\(i_13:Int)<(x16.n:Nat)) /\ 
  (∃x19:ByteArray,hc h14 ⟨b17,o18+Int.toNat i_13*1,none⟩=some (.string x19) /\ 
  (Fn Pz 100 #[.string x19] h14 
  (fun v20 h22=>∃x21:Bool,v20=.bool x21 /\ 
  (sB (!x21) 
   (R (.bool false) h22) 
   ((∃x23:Sl,hc h22 ⟨h.size,1,none⟩=some (.slice x23.a x23.n x23.c) /\ 
   (∃x24:Sl,hc h22 ⟨h.size,1,none⟩=some (.slice x24.a x24.n x24.c) /\ 
   (NB x24.a fun b25 o26=>((0<=(i_13:Int)/\(i_13:Int)<(x24.n:Nat)) /\ 
   (∃x27:ByteArray,hc h22 ⟨b25,o26+Int.toNat i_13*1,none⟩=some (.string x27) /\ 
   (Fn Pz 101 #[.slice x23.a x23.n x23.c,.string x27] h22 
   (fun v28 h30=>∃x29:Int,v28=.int .i64 x29 /\ 
   (Sm [⟨b17,o18+Int.toNat i_13*1,none⟩,⟨h.size,1,none⟩] h22 h30 /\ 
   (sB (decide (x29<i_13)) 
   (R (.bool false) h30) 
   ((∃m31,m31<m12/\I10 (IntKind.wrap .i64 (i_13+1)) h30 m31)))))))))))))))))))) 
  ((∃x32:ByteArray,hc h14 ⟨h.size,0,none⟩=some (.string x32) /\ 
  (Fn Pz 100 #[.string x32] h14 
  (fun v33 h35=>∃x34:Bool,v33=.bool x34 /\ 
  (sB x34 
   ((∃x36:Sl,hc h35 ⟨h.size,1,none⟩=some (.slice x36.a x36.n x36.c) /\ 
   (sB (decide ((x36.n:Int)>=1)) 
   ((∃x37:Sl,hc h35 ⟨h.size,1,none⟩=some (.slice x37.a x37.n x37.c) /\ 
   (sB (decide ((x37.n:Int)<=6)) 
    ((∃x38:Sl,hc h35 ⟨h.size,2,none⟩=some (.slice x38.a x38.n x38.c) /\ 
    (Fn Pz 102 #[.slice x38.a x38.n x38.c] h35 
    (fun v39 h41=>∃x40:Bool,v39=.bool x40 /\ 
    R (.bool x40) h41)))) 
    (R (.bool false) h35)))) 
   (R (.bool false) h35)))) 
   (R (.bool false) h35)))))))))))
theorem vc43e (p0_1:ByteArray) (p0_2:Sl) (p0_3:Sl) (p0_4:Int) (p0_5:Int) (p0_6:Int) (p0_7:Sl) (p0_8:Sl) (h:Heap) (R:Value->Heap->Prop):W43 p0_1 p0_2 p0_3 p0_4 p0_5 p0_6 p0_7 p0_8 h R=fnW Pz 43 (.s .z (.s (.s .z (.b (.l [(3,.one (.int .i64))] .z))) .z)) #[.agg ⟨[.string p0_1,.slice p0_2.a p0_2.n p0_2.c,.slice p0_3.a p0_3.n p0_3.c,.int .i64 p0_4,.int .i64 p0_5,.int .i64 p0_6,.slice p0_7.a p0_7.n p0_7.c,.slice p0_8.a p0_8.n p0_8.c]⟩] h R:=by kernel_rfl
theorem vc43 (p0_1:ByteArray) (p0_2:Sl) (p0_3:Sl) (p0_4:Int) (p0_5:Int) (p0_6:Int) (p0_7:Sl) (p0_8:Sl) (h:Heap) (R:Value->Heap->Prop) (H:W43 p0_1 p0_2 p0_3 p0_4 p0_5 p0_6 p0_7 p0_8 h R):Fn Pz 43 #[.agg ⟨[.string p0_1,.slice p0_2.a p0_2.n p0_2.c,.slice p0_3.a p0_3.n p0_3.c,.int .i64 p0_4,.int .i64 p0_5,.int .i64 p0_6,.slice p0_7.a p0_7.n p0_7.c,.slice p0_8.a p0_8.n p0_8.c]⟩] h R:=fnI (vc43e p0_1 p0_2 p0_3 p0_4 p0_5 p0_6 p0_7 p0_8 h R) H
/- farandole/farandoleref18.numbers
   loop rlrb: i_13:Int -/
def W44 (p0_1:ByteArray) (p0_2:Sl) (p0_3:Sl) (p0_4:Int) (p0_5:Int) (p0_6:Int) (p0_7:Sl) (p0_8:Sl) (h:Heap) (R:Value->Heap->Prop):Prop:=
 (Wn h [.string p0_1,vS p0_2,vS p0_3,vI p0_4,vI p0_5,vI p0_6,vS p0_7,vS p0_8] 27 fun h9=>
 (QI 0 h9 fun I10 i_13 h14 m12=>(
 (∃x15,rS h14 (aS h 6) x15 /\ 
 (sB (decide (i_13<(x15.n:Int))) 
 ((∃x16,rS h14 (aS h 6) x16 /\ 
 (NB x16.a fun b17 o18=>(Ib i_13 x16.n /\ 
 (∃x19:Int,∃x20:Int,∃x21:Int,∃x22:Int,∃x23:Int,∃x24:Bool,atC h14 ⟨b17,o18+Int.toNat i_13*6,none⟩ [vI x19,vI x20,vI x21,vI x22,vI x23,.bool x24] /\ 
 (Wn h14 [vI 0,vI 0,vI 0,vI 0,vI 0,.bool false] 67 fun h25=>
 (Wp h25 (aS h14 0) 6 [vI x19,vI x20,vI x21,vI x22,vI x23,.bool x24] fun h26=>
 (∃x27:ByteArray,∃x28:Sl,∃x29:Sl,∃x30:Int,∃x31:Int,∃x32:Int,∃x33:Sl,∃x34:Sl,atC h26 (aS h 0) [.string x27,vS x28,vS x29,vI x30,vI x31,vI x32,vS x33,vS x34] /\ 
 (∃x35,rI h26 (aS h14 0) x35 /\ 
 (Fn Pz 103 #[.agg ⟨[.string x27,vS x28,vS x29,vI x30,vI x31,vI x32,vS x33,vS x34]⟩,vI x35] h26 
 (fun v36 h38=>∃x37,iB v36 x37 /\ 
 (sB (!x37) 
 (R (.bool false) h38) 
 ((∃x39:ByteArray,∃x40:Sl,∃x41:Sl,∃x42:Int,∃x43:Int,∃x44:Int,∃x45:Sl,∃x46:Sl,atC h38 (aS h 0) [.string x39,vS x40,vS x41,vI x42,vI x43,vI x44,vS x45,vS x46] /\ 
 (∃x47,rI h38 (aS h14 4) x47 /\ 
 (Fn Pz 103 #[.agg ⟨[.string x39,vS x40,vS x41,vI x42,vI x43,vI x44,vS x45,vS x46]⟩,vI x47] h38 
 (fun v48 h50=>∃x49,iB v48 x49 /\ 
 (sB (!x49) 
 (R (.bool false) h50) 
 ((∃x51,rI h50 (aS h14 1) x51 /\ 
 (sB (decide (x51<0)) 
 (R (.bool false) h50) 
 ((∃x52,rI h50 (aS h14 1) x52 /\ 
 (∃x53,rS h50 (aS h 1) x53 /\ 
 (sB (decide (x52>=(x53.n:Int))) 
 (R (.bool false) h50) 
 ((∃x54,rI h50 (aS h14 (1+1)) x54 /\ 
 (sB (decide (x54<0)) 
 (R (.bool false) h50) 
 ((∃x55,rI h50 (aS h14 (1+1)) x55 /\ 
 (∃x56,rS h50 (aS h 1) x56 /\ 
 (sB (decide (x55>=(x56.n:Int))) 
 (R (.bool false) h50) 
 ((∃x57,rI h50 (aS h14 1) x57 /\ 
 (∃x58,rI h50 (aS h14 (1+1)) x58 /\ 
 (sB (x57==x58) 
 (R (.bool false) h50) 
 ((∃x59,rI h50 (aS h14 (1+2)) x59 /\ 
 (sB (decide (x59<0)) 
 (R (.bool false) h50) 
 ((∃x60,rI h50 (aS h14 (1+2)) x60 /\ 
 (∃x61,rS h50 (aS h 2) x61 /\ 
 (sB (decide (x60>=(x61.n:Int))) 
 (R (.bool false) h50) 
 ((∃m62,m62<m12/\I10 (IntKind.wrap .i64 (i_13+1)) h50 m62))))))))))))))))))))))))))))))))))))))))))))) 
 ((∃x63,rI h14 (aS h 3) x63 /\ 
 (sB (decide (x63>=1)) 
 ((∃x64,rI h14 (aS h 3) x64 /\ 
 (sB (decide (x64<=200)) 
 ((∃x65:ByteArray,∃x66:Sl,∃x67:Sl,∃x68:Int,∃x69:Int,∃x70:Int,∃x71:Sl,∃x72:Sl,atC h14 (aS h 0) [.string x65,vS x66,vS x67,vI x68,vI x69,vI x70,vS x71,vS x72] /\ 
 (∃x73,rI h14 (aS h 4) x73 /\ 
 (Fn Pz 103 #[.agg ⟨[.string x65,vS x66,vS x67,vI x68,vI x69,vI x70,vS x71,vS x72]⟩,vI x73] h14 
 (fun v74 h76=>∃x75,iB v74 x75 /\ 
 (sB x75 
 ((∃x77:ByteArray,∃x78:Sl,∃x79:Sl,∃x80:Int,∃x81:Int,∃x82:Int,∃x83:Sl,∃x84:Sl,atC h76 (aS h 0) [.string x77,vS x78,vS x79,vI x80,vI x81,vI x82,vS x83,vS x84] /\ 
 (∃x85,rI h76 (aS h 5) x85 /\ 
 (Fn Pz 103 #[.agg ⟨[.string x77,vS x78,vS x79,vI x80,vI x81,vI x82,vS x83,vS x84]⟩,vI x85] h76 
 (fun v86 h88=>∃x87,iB v86 x87 /\ 
 (sB x87 
 ((∃x89,rS h88 (aS h 6) x89 /\ 
 R (.bool (decide ((x89.n:Int)<=400))) h88)) 
 (R (.bool false) h88))))))) 
 (R (.bool false) h76))))))) 
 (R (.bool false) h14)))) 
 (R (.bool false) h14)))))))))
theorem vc44e (p0_1:ByteArray) (p0_2:Sl) (p0_3:Sl) (p0_4:Int) (p0_5:Int) (p0_6:Int) (p0_7:Sl) (p0_8:Sl) (h:Heap) (R:Value->Heap->Prop):W44 p0_1 p0_2 p0_3 p0_4 p0_5 p0_6 p0_7 p0_8 h R=fnW Pz 44 (.s .z (.s (.s .z (.b (.l [(3,.one (.int .i64))] .z))) .z)) #[.agg ⟨[.string p0_1,.slice p0_2.a p0_2.n p0_2.c,.slice p0_3.a p0_3.n p0_3.c,.int .i64 p0_4,.int .i64 p0_5,.int .i64 p0_6,.slice p0_7.a p0_7.n p0_7.c,.slice p0_8.a p0_8.n p0_8.c]⟩] h R:=by kernel_rfl
theorem vc44 (p0_1:ByteArray) (p0_2:Sl) (p0_3:Sl) (p0_4:Int) (p0_5:Int) (p0_6:Int) (p0_7:Sl) (p0_8:Sl) (h:Heap) (R:Value->Heap->Prop) (H:W44 p0_1 p0_2 p0_3 p0_4 p0_5 p0_6 p0_7 p0_8 h R):Fn Pz 44 #[.agg ⟨[.string p0_1,.slice p0_2.a p0_2.n p0_2.c,.slice p0_3.a p0_3.n p0_3.c,.int .i64 p0_4,.int .i64 p0_5,.int .i64 p0_6,.slice p0_7.a p0_7.n p0_7.c,.slice p0_8.a p0_8.n p0_8.c]⟩] h R:=fnI (vc44e p0_1 p0_2 p0_3 p0_4 p0_5 p0_6 p0_7 p0_8 h R) H
/- farandole/farandoleref18.apart
   loop rlrborlbrrrb: k_33:Int
   loop rlrborlbrrrb: k_92:Int
   loop rlrb: i_13:Int -/
def W45 (p0_1:ByteArray) (p0_2:Sl) (p0_3:Sl) (p0_4:Int) (p0_5:Int) (p0_6:Int) (p0_7:Sl) (p0_8:Sl) (h:Heap) (R:Value->Heap->Prop):Prop:=
 (Wn h [.string p0_1,vS p0_2,vS p0_3,vI p0_4,vI p0_5,vI p0_6,vS p0_7,vS p0_8] 27 fun h9=>
 (QI 0 h9 fun I10 i_13 h14 m12=>(
 (∃x15,rS h14 (aS h 6) x15 /\ 
 (sB (decide (i_13<(x15.n:Int))) 
 ((∃x16,rS h14 (aS h 6) x16 /\ 
 (NB x16.a fun b17 o18=>(Ib i_13 x16.n /\ 
 (∃x19:Int,∃x20:Int,∃x21:Int,∃x22:Int,∃x23:Int,∃x24:Bool,atC h14 ⟨b17,o18+Int.toNat i_13*6,none⟩ [vI x19,vI x20,vI x21,vI x22,vI x23,.bool x24] /\ 
 (Wn h14 [vI 0,vI 0,vI 0,vI 0,vI 0,.bool false] 67 fun h25=>
 (Wp h25 (aS h14 0) 6 [vI x19,vI x20,vI x21,vI x22,vI x23,.bool x24] fun h26=>
 (∃x27,rB h26 (aS h14 5) x27 /\ 
 (sB x27 
 ((∃x28,rI h26 (aS h14 0) x28 /\ 
 (∃x29,rI h26 (aS h 4) x29 /\ 
 (sB (x28==x29) 
 (R (.bool false) h26) 
 ((QI 0 h26 fun I30 k_33 h34 m32=>(
 (∃x35,rS h34 (aS h 6) x35 /\ 
 (sB (decide (k_33<(x35.n:Int))) 
 ((∃x36,rS h34 (aS h 6) x36 /\ 
 (NB x36.a fun b37 o38=>(Ib k_33 x36.n /\ 
 (∃x39:Int,∃x40:Int,∃x41:Int,∃x42:Int,∃x43:Int,∃x44:Bool,atC h34 ⟨b37,o38+Int.toNat k_33*6,none⟩ [vI x39,vI x40,vI x41,vI x42,vI x43,.bool x44] /\ 
 (Wn h34 [vI 0,vI 0,vI 0,vI 0,vI 0,.bool false] 67 fun h45=>
 (Wp h45 (aS h34 0) 6 [vI x39,vI x40,vI x41,vI x42,vI x43,.bool x44] fun h46=>
 (sB (k_33 != i_13) 
 ((∃x47,rI h46 (aS h14 0) x47 /\ 
 (∃x48,rI h46 (aS h34 0) x48 /\ 
 (sB (x47==x48) 
 ((∃x49:Int,∃x50:Int,∃x51:Int,atC h46 (aS h14 1) [vI x49,vI x50,vI x51] /\ 
 (∃x52:Int,∃x53:Int,∃x54:Int,atC h46 (aS h34 1) [vI x52,vI x53,vI x54] /\ 
 (sB ((x49==x52)&&((x50==x53)&&((x51==x54)&&true))) 
 (R (.bool false) h46) 
 ((∃x55,rI h46 (aS h14 1) x55 /\ 
 (∃x56,rI h46 (aS h34 1) x56 /\ 
 (sB (x55 != x56) 
 (R (.bool false) h46) 
 ((∃x57,rB h46 (aS h14 5) x57 /\ 
 (sB x57 
 (R (.bool false) h46) 
 ((∃x58,rB h46 (aS h14 5) x58 /\ 
 (sB x58 
 ((∃x59,rI h46 (aS h34 4) x59 /\ 
 (∃x60,rI h46 (aS h14 0) x60 /\ 
 (sB (x59==x60) 
 ((∃x61,rI h46 (aS h34 1) x61 /\ 
 (∃x62,rI h46 (aS h14 1) x62 /\ 
 (sB (x61 != x62) 
 (R (.bool false) h46) 
 ((∃x63,rI h46 (aS h34 (1+2)) x63 /\ 
 (∃x64,rI h46 (aS h14 (1+2)) x64 /\ 
 (sB (x63 != x64) 
 (R (.bool false) h46) 
 ((∃m65,m65<m32/\I30 (IntKind.wrap .i64 (k_33+1)) h46 m65)))))))))) 
 ((∃m66,m66<m32/\I30 (IntKind.wrap .i64 (k_33+1)) h46 m66)))))) 
 ((∃m67,m67<m32/\I30 (IntKind.wrap .i64 (k_33+1)) h46 m67)))))))))))))))) 
 ((∃x68,rB h46 (aS h14 5) x68 /\ 
 (sB x68 
 ((∃x69,rI h46 (aS h34 4) x69 /\ 
 (∃x70,rI h46 (aS h14 0) x70 /\ 
 (sB (x69==x70) 
 ((∃x71,rI h46 (aS h34 1) x71 /\ 
 (∃x72,rI h46 (aS h14 1) x72 /\ 
 (sB (x71 != x72) 
 (R (.bool false) h46) 
 ((∃x73,rI h46 (aS h34 (1+2)) x73 /\ 
 (∃x74,rI h46 (aS h14 (1+2)) x74 /\ 
 (sB (x73 != x74) 
 (R (.bool false) h46) 
 ((∃m75,m75<m32/\I30 (IntKind.wrap .i64 (k_33+1)) h46 m75)))))))))) 
 ((∃m76,m76<m32/\I30 (IntKind.wrap .i64 (k_33+1)) h46 m76)))))) 
 ((∃m77,m77<m32/\I30 (IntKind.wrap .i64 (k_33+1)) h46 m77))))))))) 
 ((∃x78,rB h46 (aS h14 5) x78 /\ 
 (sB x78 
 ((∃x79,rI h46 (aS h34 4) x79 /\ 
 (∃x80,rI h46 (aS h14 0) x80 /\ 
 (sB (x79==x80) 
 ((∃x81,rI h46 (aS h34 1) x81 /\ 
 (∃x82,rI h46 (aS h14 1) x82 /\ 
 (sB (x81 != x82) 
 (R (.bool false) h46) 
 ((∃x83,rI h46 (aS h34 (1+2)) x83 /\ 
 (∃x84,rI h46 (aS h14 (1+2)) x84 /\ 
 (sB (x83 != x84) 
 (R (.bool false) h46) 
 ((∃m85,m85<m32/\I30 (IntKind.wrap .i64 (k_33+1)) h46 m85)))))))))) 
 ((∃m86,m86<m32/\I30 (IntKind.wrap .i64 (k_33+1)) h46 m86)))))) 
 ((∃m87,m87<m32/\I30 (IntKind.wrap .i64 (k_33+1)) h46 m87))))))))))))) 
 ((∃m88,m88<m12/\I10 (IntKind.wrap .i64 (i_13+1)) h34 m88))))))))))) 
 ((QI 0 h26 fun I89 k_92 h93 m91=>(
 (∃x94,rS h93 (aS h 6) x94 /\ 
 (sB (decide (k_92<(x94.n:Int))) 
 ((∃x95,rS h93 (aS h 6) x95 /\ 
 (NB x95.a fun b96 o97=>(Ib k_92 x95.n /\ 
 (∃x98:Int,∃x99:Int,∃x100:Int,∃x101:Int,∃x102:Int,∃x103:Bool,atC h93 ⟨b96,o97+Int.toNat k_92*6,none⟩ [vI x98,vI x99,vI x100,vI x101,vI x102,.bool x103] /\ 
 (Wn h93 [vI 0,vI 0,vI 0,vI 0,vI 0,.bool false] 67 fun h104=>
 (Wp h104 (aS h93 0) 6 [vI x98,vI x99,vI x100,vI x101,vI x102,.bool x103] fun h105=>
 (sB (k_92 != i_13) 
 ((∃x106,rI h105 (aS h14 0) x106 /\ 
 (∃x107,rI h105 (aS h93 0) x107 /\ 
 (sB (x106==x107) 
 ((∃x108:Int,∃x109:Int,∃x110:Int,atC h105 (aS h14 1) [vI x108,vI x109,vI x110] /\ 
 (∃x111:Int,∃x112:Int,∃x113:Int,atC h105 (aS h93 1) [vI x111,vI x112,vI x113] /\ 
 (sB ((x108==x111)&&((x109==x112)&&((x110==x113)&&true))) 
 (R (.bool false) h105) 
 ((∃x114,rI h105 (aS h14 1) x114 /\ 
 (∃x115,rI h105 (aS h93 1) x115 /\ 
 (sB (x114 != x115) 
 (R (.bool false) h105) 
 ((∃x116,rB h105 (aS h14 5) x116 /\ 
 (sB x116 
 (R (.bool false) h105) 
 ((∃x117,rB h105 (aS h14 5) x117 /\ 
 (sB x117 
 ((∃x118,rI h105 (aS h93 4) x118 /\ 
 (∃x119,rI h105 (aS h14 0) x119 /\ 
 (sB (x118==x119) 
 ((∃x120,rI h105 (aS h93 1) x120 /\ 
 (∃x121,rI h105 (aS h14 1) x121 /\ 
 (sB (x120 != x121) 
 (R (.bool false) h105) 
 ((∃x122,rI h105 (aS h93 (1+2)) x122 /\ 
 (∃x123,rI h105 (aS h14 (1+2)) x123 /\ 
 (sB (x122 != x123) 
 (R (.bool false) h105) 
 ((∃m124,m124<m91/\I89 (IntKind.wrap .i64 (k_92+1)) h105 m124)))))))))) 
 ((∃m125,m125<m91/\I89 (IntKind.wrap .i64 (k_92+1)) h105 m125)))))) 
 ((∃m126,m126<m91/\I89 (IntKind.wrap .i64 (k_92+1)) h105 m126)))))))))))))))) 
 ((∃x127,rB h105 (aS h14 5) x127 /\ 
 (sB x127 
 ((∃x128,rI h105 (aS h93 4) x128 /\ 
 (∃x129,rI h105 (aS h14 0) x129 /\ 
 (sB (x128==x129) 
 ((∃x130,rI h105 (aS h93 1) x130 /\ 
 (∃x131,rI h105 (aS h14 1) x131 /\ 
 (sB (x130 != x131) 
 (R (.bool false) h105) 
 ((∃x132,rI h105 (aS h93 (1+2)) x132 /\ 
 (∃x133,rI h105 (aS h14 (1+2)) x133 /\ 
 (sB (x132 != x133) 
 (R (.bool false) h105) 
 ((∃m134,m134<m91/\I89 (IntKind.wrap .i64 (k_92+1)) h105 m134)))))))))) 
 ((∃m135,m135<m91/\I89 (IntKind.wrap .i64 (k_92+1)) h105 m135)))))) 
 ((∃m136,m136<m91/\I89 (IntKind.wrap .i64 (k_92+1)) h105 m136))))))))) 
 ((∃x137,rB h105 (aS h14 5) x137 /\ 
 (sB x137 
 ((∃x138,rI h105 (aS h93 4) x138 /\ 
 (∃x139,rI h105 (aS h14 0) x139 /\ 
 (sB (x138==x139) 
 ((∃x140,rI h105 (aS h93 1) x140 /\ 
 (∃x141,rI h105 (aS h14 1) x141 /\ 
 (sB (x140 != x141) 
 (R (.bool false) h105) 
 ((∃x142,rI h105 (aS h93 (1+2)) x142 /\ 
 (∃x143,rI h105 (aS h14 (1+2)) x143 /\ 
 (sB (x142 != x143) 
 (R (.bool false) h105) 
 ((∃m144,m144<m91/\I89 (IntKind.wrap .i64 (k_92+1)) h105 m144)))))))))) 
 ((∃m145,m145<m91/\I89 (IntKind.wrap .i64 (k_92+1)) h105 m145)))))) 
 ((∃m146,m146<m91/\I89 (IntKind.wrap .i64 (k_92+1)) h105 m146))))))))))))) 
 ((∃m147,m147<m12/\I10 (IntKind.wrap .i64 (i_13+1)) h93 m147)))))))))))))))) 
 (R (.bool true) h14))))))
theorem vc45e (p0_1:ByteArray) (p0_2:Sl) (p0_3:Sl) (p0_4:Int) (p0_5:Int) (p0_6:Int) (p0_7:Sl) (p0_8:Sl) (h:Heap) (R:Value->Heap->Prop):W45 p0_1 p0_2 p0_3 p0_4 p0_5 p0_6 p0_7 p0_8 h R=fnW Pz 45 (.s .z (.s (.s .z (.b (.l [(3,.one (.int .i64))] (.s .z (.s (.b (.s .z (.s .z (.s .z (.b (.l [(5,.one (.int .i64))] .z)))))) .z))))) .z)) #[.agg ⟨[.string p0_1,.slice p0_2.a p0_2.n p0_2.c,.slice p0_3.a p0_3.n p0_3.c,.int .i64 p0_4,.int .i64 p0_5,.int .i64 p0_6,.slice p0_7.a p0_7.n p0_7.c,.slice p0_8.a p0_8.n p0_8.c]⟩] h R:=by kernel_rfl
theorem vc45 (p0_1:ByteArray) (p0_2:Sl) (p0_3:Sl) (p0_4:Int) (p0_5:Int) (p0_6:Int) (p0_7:Sl) (p0_8:Sl) (h:Heap) (R:Value->Heap->Prop) (H:W45 p0_1 p0_2 p0_3 p0_4 p0_5 p0_6 p0_7 p0_8 h R):Fn Pz 45 #[.agg ⟨[.string p0_1,.slice p0_2.a p0_2.n p0_2.c,.slice p0_3.a p0_3.n p0_3.c,.int .i64 p0_4,.int .i64 p0_5,.int .i64 p0_6,.slice p0_7.a p0_7.n p0_7.c,.slice p0_8.a p0_8.n p0_8.c]⟩] h R:=fnI (vc45e p0_1 p0_2 p0_3 p0_4 p0_5 p0_6 p0_7 p0_8 h R) H
/- farandole/farandoleref18.connected
   loop rrrlrborlbrb: i_23:Int
   loop rrrrrlrb: s_59:Int
   loop rrrlrb: n_17:Int -/
def W46 (p0_1:ByteArray) (p0_2:Sl) (p0_3:Sl) (p0_4:Int) (p0_5:Int) (p0_6:Int) (p0_7:Sl) (p0_8:Sl) (h:Heap) (R:Value->Heap->Prop):Prop:=
 (Wn h [.string p0_1,vS p0_2,vS p0_3,vI p0_4,vI p0_5,vI p0_6,vS p0_7,vS p0_8] 27 fun h9=>
 (∃x10,rI h9 (aS h 3) x10 /\ 
 (Mk x10 x10 1/\Wn h9 (madeL Pz 4 (Int.toNat x10)) 4 fun h11=>
 (∃x12,rI h11 (aS h 4) x12 /\ 
 ((0<=(x12:Int)/\(x12:Int)<((Int.toNat x10):Nat)) /\ 
 (Wp h11 (aS h9 (0+Int.toNat x12*1)) 1 [.bool true] fun h13=>
 (QI 0 h13 fun I14 n_17 h18 m16=>(
 (∃x19,rI h18 (aS h 3) x19 /\ 
 (sB (decide (n_17<x19)) 
 ((QI 0 h18 fun I20 i_23 h24 m22=>(
 (∃x25,rS h24 (aS h 6) x25 /\ 
 (sB (decide (i_23<(x25.n:Int))) 
 ((∃x26,rS h24 (aS h 6) x26 /\ 
 (NB x26.a fun b27 o28=>(Ib i_23 x26.n /\ 
 (∃x29,rI h24 ⟨b27,o28+Int.toNat i_23*6+4,none⟩ x29 /\ 
 (∃x30,rS h24 (aS h 6) x30 /\ 
 (NB x30.a fun b31 o32=>(Ib i_23 x30.n /\ 
 (∃x33,rI h24 ⟨b31,o32+Int.toNat i_23*6+4,none⟩ x33 /\ 
 ((0<=(x33:Int)/\(x33:Int)<((Int.toNat x10):Nat)) /\ 
 (∃x34,rB h24 (aS h9 (0+Int.toNat x33*1)) x34 /\ 
 (sB x34 
 (((0<=(x29:Int)/\(x29:Int)<((Int.toNat x10):Nat)) /\ 
 (Wp h24 (aS h9 (0+Int.toNat x29*1)) 1 [.bool true] fun h35=>
 (∃m36,m36<m22/\I20 (IntKind.wrap .i64 (i_23+1)) h35 m36)))) 
 ((∃x37,rS h24 (aS h 6) x37 /\ 
 (NB x37.a fun b38 o39=>(Ib i_23 x37.n /\ 
 (∃x40,rI h24 ⟨b38,o39+Int.toNat i_23*6,none⟩ x40 /\ 
 ((0<=(x40:Int)/\(x40:Int)<((Int.toNat x10):Nat)) /\ 
 (∃x41,rB h24 (aS h9 (0+Int.toNat x40*1)) x41 /\ 
 ((0<=(x29:Int)/\(x29:Int)<((Int.toNat x10):Nat)) /\ 
 (Wp h24 (aS h9 (0+Int.toNat x29*1)) 1 [.bool x41] fun h42=>
 (∃m43,m43<m22/\I20 (IntKind.wrap .i64 (i_23+1)) h42 m43)))))))))))))))))))))) 
 ((∃m44,m44<m16/\I14 (IntKind.wrap .i64 (n_17+1)) h24 m44))))))) 
 ((∃x45:ByteArray,∃x46:Sl,∃x47:Sl,∃x48:Int,∃x49:Int,∃x50:Int,∃x51:Sl,∃x52:Sl,atC h18 (aS h 0) [.string x45,vS x46,vS x47,vI x48,vI x49,vI x50,vS x51,vS x52] /\ 
 (Fn Pz 104 #[.agg ⟨[.string x45,vS x46,vS x47,vI x48,vI x49,vI x50,vS x51,vS x52]⟩] h18 
 (fun v53 h55=>∃x54,iS v53 x54 /\ 
 (QI 0 h55 fun I56 s_59 h60 m58=>(
 (∃x61,rI h60 (aS h 3) x61 /\ 
 (sB (decide (s_59<x61)) 
 (((0<=(s_59:Int)/\(s_59:Int)<((Int.toNat x10):Nat)) /\ 
 (∃x62,rB h60 (aS h9 (0+Int.toNat s_59*1)) x62 /\ 
 (sB (!x62) 
 (R (.bool false) h60) 
 ((NB x54.a fun b63 o64=>(Ib s_59 x54.n /\ 
 (∃x65,rI h60 ⟨b63,o64+Int.toNat s_59*1,none⟩ x65 /\ 
 (sB (decide (x65<0)) 
 (R (.bool false) h60) 
 ((∃m66,m66<m58/\I56 (IntKind.wrap .i64 (s_59+1)) h60 m66))))))))))) 
 ((∃x67:ByteArray,∃x68:Sl,∃x69:Sl,∃x70:Int,∃x71:Int,∃x72:Int,∃x73:Sl,∃x74:Sl,atC h60 (aS h 0) [.string x67,vS x68,vS x69,vI x70,vI x71,vI x72,vS x73,vS x74] /\ 
 (∃x75,rI h60 (aS h 5) x75 /\ 
 (Fn Pz 105 #[.agg ⟨[.string x67,vS x68,vS x69,vI x70,vI x71,vI x72,vS x73,vS x74]⟩,vI x75] h60 
 (fun v76 h78=>∃x77,iS v76 x77 /\ 
 R (.bool ((x77.n:Int)==0)) h78)))))))))))))))))))))))
theorem vc46e (p0_1:ByteArray) (p0_2:Sl) (p0_3:Sl) (p0_4:Int) (p0_5:Int) (p0_6:Int) (p0_7:Sl) (p0_8:Sl) (h:Heap) (R:Value->Heap->Prop):W46 p0_1 p0_2 p0_3 p0_4 p0_5 p0_6 p0_7 p0_8 h R=fnW Pz 46 (.s .z (.s .z (.s .z (.s (.s .z (.b (.l [(4,.one (.int .i64))] (.s .z (.s (.b (.s .z (.b (.l [(5,.one (.int .i64))] .z)))) .z))))) (.s .z (.s (.s .z (.b (.l [(7,.one (.int .i64))] .z))) .z)))))) #[.agg ⟨[.string p0_1,.slice p0_2.a p0_2.n p0_2.c,.slice p0_3.a p0_3.n p0_3.c,.int .i64 p0_4,.int .i64 p0_5,.int .i64 p0_6,.slice p0_7.a p0_7.n p0_7.c,.slice p0_8.a p0_8.n p0_8.c]⟩] h R:=by kernel_rfl
theorem vc46 (p0_1:ByteArray) (p0_2:Sl) (p0_3:Sl) (p0_4:Int) (p0_5:Int) (p0_6:Int) (p0_7:Sl) (p0_8:Sl) (h:Heap) (R:Value->Heap->Prop) (H:W46 p0_1 p0_2 p0_3 p0_4 p0_5 p0_6 p0_7 p0_8 h R):Fn Pz 46 #[.agg ⟨[.string p0_1,.slice p0_2.a p0_2.n p0_2.c,.slice p0_3.a p0_3.n p0_3.c,.int .i64 p0_4,.int .i64 p0_5,.int .i64 p0_6,.slice p0_7.a p0_7.n p0_7.c,.slice p0_8.a p0_8.n p0_8.c]⟩] h R:=fnI (vc46e p0_1 p0_2 p0_3 p0_4 p0_5 p0_6 p0_7 p0_8 h R) H
/- farandole/farandoleref18.timed
   loop rlrb: i_13:Int -/
def W47 (p0_1:ByteArray) (p0_2:Sl) (p0_3:Sl) (p0_4:Int) (p0_5:Int) (p0_6:Int) (p0_7:Sl) (p0_8:Sl) (h:Heap) (R:Value->Heap->Prop):Prop:=
 (Wn h [.string p0_1,vS p0_2,vS p0_3,vI p0_4,vI p0_5,vI p0_6,vS p0_7,vS p0_8] 27 fun h9=>
 (QI 0 h9 fun I10 i_13 h14 m12=>(
 (∃x15,rS h14 (aS h 7) x15 /\ 
 (sB (decide (i_13<(x15.n:Int))) 
 ((∃x16,rS h14 (aS h 7) x16 /\ 
 (NB x16.a fun b17 o18=>(Ib i_13 x16.n /\ 
 (∃x19:Int,∃x20:Int,∃x21:Int,atC h14 ⟨b17,o18+Int.toNat i_13*3,none⟩ [vI x19,vI x20,vI x21] /\ 
 (Wn h14 [vI 0,vI 0,vI 0] 149 fun h22=>
 (Wp h22 (aS h14 0) 3 [vI x19,vI x20,vI x21] fun h23=>
 (∃x24:ByteArray,∃x25:Sl,∃x26:Sl,∃x27:Int,∃x28:Int,∃x29:Int,∃x30:Sl,∃x31:Sl,atC h23 (aS h 0) [.string x24,vS x25,vS x26,vI x27,vI x28,vI x29,vS x30,vS x31] /\ 
 (∃x32,rI h23 (aS h14 0) x32 /\ 
 (Fn Pz 103 #[.agg ⟨[.string x24,vS x25,vS x26,vI x27,vI x28,vI x29,vS x30,vS x31]⟩,vI x32] h23 
 (fun v33 h35=>∃x34,iB v33 x34 /\ 
 (sB (!x34) 
 (R (.bool false) h35) 
 ((sB (decide (i_13>0)) 
 ((∃x36,rI h35 (aS h14 0) x36 /\ 
 (∃x37,rS h35 (aS h 7) x37 /\ 
 (NB x37.a fun b38 o39=>((0<=((IntKind.wrap .i64 (i_13-1)):Int)/\((IntKind.wrap .i64 (i_13-1)):Int)<(x37.n:Nat)) /\ 
 (∃x40,rI h35 ⟨b38,o39+Int.toNat (IntKind.wrap .i64 (i_13-1))*3,none⟩ x40 /\ 
 (sB (decide (x36<=x40)) 
 (R (.bool false) h35) 
 ((∃x41,rI h35 (aS h14 1) x41 /\ 
 (sB (decide (x41<1)) 
 (R (.bool false) h35) 
 ((∃x42,rI h35 (aS h14 1) x42 /\ 
 (sB (decide (x42>1000)) 
 (R (.bool false) h35) 
 ((∃x43,rI h35 (aS h14 2) x43 /\ 
 (sB (decide (x43<0)) 
 (R (.bool false) h35) 
 ((∃x44,rI h35 (aS h14 2) x44 /\ 
 (∃x45,rS h35 (aS h 6) x45 /\ 
 (sB (decide (x44>=(x45.n:Int))) 
 (R (.bool false) h35) 
 ((∃x46,rS h35 (aS h 6) x46 /\ 
 (∃x47,rI h35 (aS h14 2) x47 /\ 
 (NB x46.a fun b48 o49=>(Ib x47 x46.n /\ 
 (∃x50,rI h35 ⟨b48,o49+Int.toNat x47*6,none⟩ x50 /\ 
 (∃x51,rI h35 (aS h14 0) x51 /\ 
 (sB (x50 != x51) 
 (R (.bool false) h35) 
 ((∃x52,rS h35 (aS h 6) x52 /\ 
 (∃x53,rI h35 (aS h14 2) x53 /\ 
 (NB x52.a fun b54 o55=>(Ib x53 x52.n /\ 
 (∃x56,rB h35 ⟨b54,o55+Int.toNat x53*6+5,none⟩ x56 /\ 
 (sB x56 
 (R (.bool false) h35) 
 ((∃m57,m57<m12/\I10 (IntKind.wrap .i64 (i_13+1)) h35 m57))))))))))))))))))))))))))))))))))))) 
 ((∃x58,rI h35 (aS h14 1) x58 /\ 
 (sB (decide (x58<1)) 
 (R (.bool false) h35) 
 ((∃x59,rI h35 (aS h14 1) x59 /\ 
 (sB (decide (x59>1000)) 
 (R (.bool false) h35) 
 ((∃x60,rI h35 (aS h14 2) x60 /\ 
 (sB (decide (x60<0)) 
 (R (.bool false) h35) 
 ((∃x61,rI h35 (aS h14 2) x61 /\ 
 (∃x62,rS h35 (aS h 6) x62 /\ 
 (sB (decide (x61>=(x62.n:Int))) 
 (R (.bool false) h35) 
 ((∃x63,rS h35 (aS h 6) x63 /\ 
 (∃x64,rI h35 (aS h14 2) x64 /\ 
 (NB x63.a fun b65 o66=>(Ib x64 x63.n /\ 
 (∃x67,rI h35 ⟨b65,o66+Int.toNat x64*6,none⟩ x67 /\ 
 (∃x68,rI h35 (aS h14 0) x68 /\ 
 (sB (x67 != x68) 
 (R (.bool false) h35) 
 ((∃x69,rS h35 (aS h 6) x69 /\ 
 (∃x70,rI h35 (aS h14 2) x70 /\ 
 (NB x69.a fun b71 o72=>(Ib x70 x69.n /\ 
 (∃x73,rB h35 ⟨b71,o72+Int.toNat x70*6+5,none⟩ x73 /\ 
 (sB x73 
 (R (.bool false) h35) 
 ((∃m74,m74<m12/\I10 (IntKind.wrap .i64 (i_13+1)) h35 m74)))))))))))))))))))))))))))))))))))))))))))) 
 (R (.bool true) h14))))))
theorem vc47e (p0_1:ByteArray) (p0_2:Sl) (p0_3:Sl) (p0_4:Int) (p0_5:Int) (p0_6:Int) (p0_7:Sl) (p0_8:Sl) (h:Heap) (R:Value->Heap->Prop):W47 p0_1 p0_2 p0_3 p0_4 p0_5 p0_6 p0_7 p0_8 h R=fnW Pz 47 (.s .z (.s (.s .z (.b (.l [(3,.one (.int .i64))] .z))) .z)) #[.agg ⟨[.string p0_1,.slice p0_2.a p0_2.n p0_2.c,.slice p0_3.a p0_3.n p0_3.c,.int .i64 p0_4,.int .i64 p0_5,.int .i64 p0_6,.slice p0_7.a p0_7.n p0_7.c,.slice p0_8.a p0_8.n p0_8.c]⟩] h R:=by kernel_rfl
theorem vc47 (p0_1:ByteArray) (p0_2:Sl) (p0_3:Sl) (p0_4:Int) (p0_5:Int) (p0_6:Int) (p0_7:Sl) (p0_8:Sl) (h:Heap) (R:Value->Heap->Prop) (H:W47 p0_1 p0_2 p0_3 p0_4 p0_5 p0_6 p0_7 p0_8 h R):Fn Pz 47 #[.agg ⟨[.string p0_1,.slice p0_2.a p0_2.n p0_2.c,.slice p0_3.a p0_3.n p0_3.c,.int .i64 p0_4,.int .i64 p0_5,.int .i64 p0_6,.slice p0_7.a p0_7.n p0_7.c,.slice p0_8.a p0_8.n p0_8.c]⟩] h R:=fnI (vc47e p0_1 p0_2 p0_3 p0_4 p0_5 p0_6 p0_7 p0_8 h R) H
/- farandole/farandoleref09.IsWord -/
def W100 (p0:ByteArray) (h:Heap) (R:Value->Heap->Prop):Prop:=
 (Fn Pz 176 #[.string p0] h 
 (fun v1 h3=>∃x2:Bool,v1=.bool x2 /\ 
 (sB x2 
  ((Fn Pz 178 #[] h3 
  (fun v4 h6=>∃x5:Sl,v4=.slice x5.a x5.n x5.c /\ 
  (Fn Pz 177 #[.slice x5.a x5.n x5.c,.string p0] h6 
  (fun v7 h9=>∃x8:Bool,v7=.bool x8 /\ 
  R (.bool (!x8)) h9))))) 
  (R (.bool false) h3))))
theorem vc100e (p0:ByteArray) (h:Heap) (R:Value->Heap->Prop):W100 p0 h R=fnW Pz 100 .z #[.string p0] h R:=by kernel_rfl
theorem vc100 (p0:ByteArray) (h:Heap) (R:Value->Heap->Prop) (H:W100 p0 h R):Fn Pz 100 #[.string p0] h R:=fnI (vc100e p0 h R) H
/- farandole/farandoleref18.index
   loop rlrb: i_4:Int -/
def W101 (p0:Sl) (p1:ByteArray) (h:Heap) (R:Value->Heap->Prop):Prop:=
 (∃I1:Int->Heap->Nat->Prop,(∃m2,I1 0 h m2) /\ 
 (∀(_:Env) (i_4:Int) (h5:Heap) (m3:Nat),I1 i_4 h5 m3 -> 
 (sB (decide (i_4<(p0.n:Int))) 
  ((NB p0.a fun b6 o7=>((0<=(i_4:Int)/\(i_4:Int)<(p0.n:Nat)) /\ 
  (∃x8:ByteArray,hc h5 ⟨b6,o7+Int.toNat i_4*1,none⟩=some (.string x8) /\ 
  (sB ((ByteArray.toList x8)==(ByteArray.toList p1)) 
   (R (.int .i64 i_4) h5) 
   ((∃m9,m9<m3/\I1 (IntKind.wrap .i64 (i_4+1)) h5 m9))))))) 
  (R (.int .i64 (-1)) h5))))
theorem vc101e (p0:Sl) (p1:ByteArray) (h:Heap) (R:Value->Heap->Prop):W101 p0 p1 h R=fnW Pz 101 (.s .z (.s (.s .z (.b (.l [(5,.one (.int .i64))] .z))) .z)) #[.slice p0.a p0.n p0.c,.string p1] h R:=by kernel_rfl
theorem vc101 (p0:Sl) (p1:ByteArray) (h:Heap) (R:Value->Heap->Prop) (H:W101 p0 p1 h R):Fn Pz 101 #[.slice p0.a p0.n p0.c,.string p1] h R:=fnI (vc101e p0 p1 h R) H
/- farandole/farandoleref14.Valid
   loop rrrlrborlbrrlrborlbrrb: j_54:Int
   loop rrrlrborlbrrlrb: k_32:Int
   loop rrrlrborlbrlrb: k_22:Int
   loop rrrlrb: first_7:Int, i_8:Int -/
def W102 (p0:Sl) (h:Heap) (R:Value->Heap->Prop):Prop:=
 (sB (decide ((p0.n:Int)>40)) 
 (R (.bool false) h) 
 ((Fn Pz 179 #[vS p0] h 
 (fun v1 h3=>∃x2,iI v1 x2 /\ 
 (sB (decide (x2>24)) 
 (R (.bool false) h3) 
 ((QII 0 0 h3 fun I4 first_7 i_8 h9 m6=>(
 (sB (decide (i_8<(p0.n:Int))) 
 ((NB p0.a fun b10 o11=>(Ib i_8 p0.n /\ 
 (∃x12:ByteArray,∃x13:Sl,∃x14:Int,∃x15:Sl,∃x16:Sl,atC h9 ⟨b10,o11+Int.toNat i_8*5,none⟩ [.string x12,vS x13,vI x14,vS x15,vS x16] /\ 
 (Wn h9 [.string ⟨#[]⟩,.slice none 0 0,vI 0,.slice none 0 0,.slice none 0 0] 171 fun h17=>
 (Wp h17 (aS h9 0) 5 [.string x12,vS x13,vI x14,vS x15,vS x16] fun h18=>
 (QI 0 h18 fun I19 k_22 h23 m21=>(
 (sB (decide (k_22<i_8)) 
 ((NB p0.a fun b24 o25=>(Ib k_22 p0.n /\ 
 (∃x26,rT h23 ⟨b24,o25+Int.toNat k_22*5,none⟩ x26 /\ 
 (∃x27,rT h23 (aS h9 0) x27 /\ 
 (sB ((ByteArray.toList x26)==(ByteArray.toList x27)) 
 (R (.bool false) h23) 
 ((∃m28,m28<m21/\I19 (IntKind.wrap .i64 (k_22+1)) h23 m28)))))))) 
 ((QI 0 h23 fun I29 k_32 h33 m31=>(
 (∃x34,rS h33 (aS h9 1) x34 /\ 
 (sB (decide (k_32<(x34.n:Int))) 
 ((∃x35,rS h33 (aS h9 1) x35 /\ 
 (NB x35.a fun b36 o37=>(Ib k_32 x35.n /\ 
 (∃x38:Int,∃x39:Int,∃x40:Int,atC h33 ⟨b36,o37+Int.toNat k_32*4+1,none⟩ [vI x38,vI x39,vI x40] /\ 
 (Fn Pz 180 #[.agg ⟨[vI x38,vI x39,vI x40]⟩] h33 
 (fun v41 h43=>∃x42,iB v41 x42 /\ 
 (sB (!x42) 
 (R (.bool false) h43) 
 ((∃x44,rS h43 (aS h9 1) x44 /\ 
 (NB x44.a fun b45 o46=>(Ib k_32 x44.n /\ 
 (∃x47,rT h43 ⟨b45,o46+Int.toNat k_32*4,none⟩ x47 /\ 
 (Fn Pz 100 #[.string x47] h43 
 (fun v48 h50=>∃x49,iB v48 x49 /\ 
 (sB (!x49) 
 (R (.bool false) h50) 
 ((QI 0 h50 fun I51 j_54 h55 m53=>(
 (sB (decide (j_54<k_32)) 
 ((∃x56,rS h55 (aS h9 1) x56 /\ 
 (NB x56.a fun b57 o58=>(Ib j_54 x56.n /\ 
 (∃x59,rT h55 ⟨b57,o58+Int.toNat j_54*4,none⟩ x59 /\ 
 (∃x60,rS h55 (aS h9 1) x60 /\ 
 (NB x60.a fun b61 o62=>(Ib k_32 x60.n /\ 
 (∃x63,rT h55 ⟨b61,o62+Int.toNat k_32*4,none⟩ x63 /\ 
 (sB ((ByteArray.toList x59)==(ByteArray.toList x63)) 
 (R (.bool false) h55) 
 ((∃m64,m64<m53/\I51 (IntKind.wrap .i64 (j_54+1)) h55 m64)))))))))))) 
 ((∃m65,m65<m31/\I29 (IntKind.wrap .i64 (k_32+1)) h55 m65)))))))))))))))))))))) 
 ((∃x66,rT h33 (aS h9 0) x66 /\ 
 (Fn Pz 181 #[.string x66] h33 
 (fun v67 h69=>∃x68,iB v67 x68 /\ 
 (sB (!x68) 
 (R (.bool false) h69) 
 ((∃x70,rS h69 (aS h9 1) x70 /\ 
 (sB (decide ((x70.n:Int)>4)) 
 (R (.bool false) h69) 
 ((∃x71,rI h69 (aS h9 2) x71 /\ 
 (sB (x71 != first_7) 
 (R (.bool false) h69) 
 ((∃x72:Sl,∃x73:Sl,atC h69 (aS h9 3) [vS x72,vS x73] /\ 
 (Fn Pz 182 #[vS p0,.agg ⟨[vS x72,vS x73]⟩] h69 
 (fun v74 h76=>∃x75,iB v74 x75 /\ 
 (sB (!x75) 
 (R (.bool false) h76) 
 ((∃x77,rS h76 (aS h9 1) x77 /\ 
 (∃m78,m78<m6/\I4 (IntKind.wrap .i64 (first_7+(x77.n:Int))) (IntKind.wrap .i64 (i_8+1)) h76 m78))))))))))))))))))))))))))))))))) 
 (R (.bool true) h9))))))))))
theorem vc102e (p0:Sl) (h:Heap) (R:Value->Heap->Prop):W102 p0 h R=fnW Pz 102 (.s .z (.s .z (.s .z (.s (.s .z (.b (.l [(3,.one (.int .i64)),(4,.one (.int .i64))] (.s .z (.s (.b (.s .z (.s (.s .z (.b (.l [(6,.one (.int .i64))] .z))) (.s (.s .z (.b (.l [(7,.one (.int .i64))] (.s .z (.s (.b (.s .z (.s .z (.b (.l [(8,.one (.int .i64))] .z))))) .z))))) .z)))) .z))))) .z)))) #[.slice p0.a p0.n p0.c] h R:=by kernel_rfl
theorem vc102 (p0:Sl) (h:Heap) (R:Value->Heap->Prop) (H:W102 p0 h R):Fn Pz 102 #[.slice p0.a p0.n p0.c] h R:=fnI (vc102e p0 h R) H
/- farandole/farandoleref18.state -/
def W103 (p0_1:ByteArray) (p0_2:Sl) (p0_3:Sl) (p0_4:Int) (p0_5:Int) (p0_6:Int) (p0_7:Sl) (p0_8:Sl) (p1:Int) (h:Heap) (R:Value->Heap->Prop):Prop:=
 (∀h9:Heap,h9=h.push (.cells ⟨[.string p0_1,.slice p0_2.a p0_2.n p0_2.c,.slice p0_3.a p0_3.n p0_3.c,.int .i64 p0_4,.int .i64 p0_5,.int .i64 p0_6,.slice p0_7.a p0_7.n p0_7.c,.slice p0_8.a p0_8.n p0_8.c]⟩ 27) -> 
 (sB (decide (p1>=0)) 
  ((∃x10:Int,hc h9 ⟨h.size,3,none⟩=some (.int .i64 x10) /\ 
  R (.bool (decide (p1<x10))) h9)) 
  (R (.bool false) h9)))
theorem vc103e (p0_1:ByteArray) (p0_2:Sl) (p0_3:Sl) (p0_4:Int) (p0_5:Int) (p0_6:Int) (p0_7:Sl) (p0_8:Sl) (p1:Int) (h:Heap) (R:Value->Heap->Prop):W103 p0_1 p0_2 p0_3 p0_4 p0_5 p0_6 p0_7 p0_8 p1 h R=fnW Pz 103 .z #[.agg ⟨[.string p0_1,.slice p0_2.a p0_2.n p0_2.c,.slice p0_3.a p0_3.n p0_3.c,.int .i64 p0_4,.int .i64 p0_5,.int .i64 p0_6,.slice p0_7.a p0_7.n p0_7.c,.slice p0_8.a p0_8.n p0_8.c]⟩,.int .i64 p1] h R:=by kernel_rfl
theorem vc103 (p0_1:ByteArray) (p0_2:Sl) (p0_3:Sl) (p0_4:Int) (p0_5:Int) (p0_6:Int) (p0_7:Sl) (p0_8:Sl) (p1:Int) (h:Heap) (R:Value->Heap->Prop) (H:W103 p0_1 p0_2 p0_3 p0_4 p0_5 p0_6 p0_7 p0_8 p1 h R):Fn Pz 103 #[.agg ⟨[.string p0_1,.slice p0_2.a p0_2.n p0_2.c,.slice p0_3.a p0_3.n p0_3.c,.int .i64 p0_4,.int .i64 p0_5,.int .i64 p0_6,.slice p0_7.a p0_7.n p0_7.c,.slice p0_8.a p0_8.n p0_8.c]⟩,.int .i64 p1] h R:=fnI (vc103e p0_1 p0_2 p0_3 p0_4 p0_5 p0_6 p0_7 p0_8 p1 h R) H
/- farandole/farandoleref18.ends
   loop rrrrlrborlbrb: i_31:Int
   loop rrrrlrb: n_25:Int
   loop rrlrb: s_15:Int -/
def W104 (p0_1:ByteArray) (p0_2:Sl) (p0_3:Sl) (p0_4:Int) (p0_5:Int) (p0_6:Int) (p0_7:Sl) (p0_8:Sl) (h:Heap) (R:Value->Heap->Prop):Prop:=
 (Wn h [.string p0_1,vS p0_2,vS p0_3,vI p0_4,vI p0_5,vI p0_6,vS p0_7,vS p0_8] 27 fun h9=>
 (∃x10,rI h9 (aS h 3) x10 /\ 
 (Mk x10 x10 8/\Wn h9 (madeL Pz 3 (Int.toNat x10)) 3 fun h11=>
 (QI 0 h11 fun I12 s_15 h16 m14=>(
 (∃x17,rI h16 (aS h 3) x17 /\ 
 (sB (decide (s_15<x17)) 
 (((0<=(s_15:Int)/\(s_15:Int)<((Int.toNat x10):Nat)) /\ 
 (Wp h16 (aS h9 (0+Int.toNat s_15*1)) 1 [vI (-1)] fun h18=>
 (∃m19,m19<m14/\I12 (IntKind.wrap .i64 (s_15+1)) h18 m19)))) 
 ((∃x20,rI h16 (aS h 5) x20 /\ 
 ((0<=(x20:Int)/\(x20:Int)<((Int.toNat x10):Nat)) /\ 
 (Wp h16 (aS h9 (0+Int.toNat x20*1)) 1 [vI 0] fun h21=>
 (QI 0 h21 fun I22 n_25 h26 m24=>(
 (∃x27,rI h26 (aS h 3) x27 /\ 
 (sB (decide (n_25<x27)) 
 ((QI 0 h26 fun I28 i_31 h32 m30=>(
 (∃x33,rS h32 (aS h 6) x33 /\ 
 (sB (decide (i_31<(x33.n:Int))) 
 ((∃x34,rS h32 (aS h 6) x34 /\ 
 (NB x34.a fun b35 o36=>(Ib i_31 x34.n /\ 
 (∃x37:Int,∃x38:Int,∃x39:Int,∃x40:Int,∃x41:Int,∃x42:Bool,atC h32 ⟨b35,o36+Int.toNat i_31*6,none⟩ [vI x37,vI x38,vI x39,vI x40,vI x41,.bool x42] /\ 
 (Wn h32 [vI 0,vI 0,vI 0,vI 0,vI 0,.bool false] 67 fun h43=>
 (Wp h43 (aS h32 0) 6 [vI x37,vI x38,vI x39,vI x40,vI x41,.bool x42] fun h44=>
 (∃x45,rI h44 (aS h32 4) x45 /\ 
 ((0<=(x45:Int)/\(x45:Int)<((Int.toNat x10):Nat)) /\ 
 (∃x46,rI h44 (aS h9 (0+Int.toNat x45*1)) x46 /\ 
 (sB (x46==n_25) 
 ((∃x47,rI h44 (aS h32 0) x47 /\ 
 ((0<=(x47:Int)/\(x47:Int)<((Int.toNat x10):Nat)) /\ 
 (∃x48,rI h44 (aS h9 (0+Int.toNat x47*1)) x48 /\ 
 (sB (decide (x48<0)) 
 ((∃x49,rI h44 (aS h32 0) x49 /\ 
 ((0<=(x49:Int)/\(x49:Int)<((Int.toNat x10):Nat)) /\ 
 (Wp h44 (aS h9 (0+Int.toNat x49*1)) 1 [vI (IntKind.wrap .i64 (n_25+1))] fun h50=>
 (∃m51,m51<m30/\I28 (IntKind.wrap .i64 (i_31+1)) h50 m51))))) 
 ((∃m52,m52<m30/\I28 (IntKind.wrap .i64 (i_31+1)) h44 m52))))))) 
 ((∃m53,m53<m30/\I28 (IntKind.wrap .i64 (i_31+1)) h44 m53))))))))))))) 
 ((∃m54,m54<m24/\I22 (IntKind.wrap .i64 (n_25+1)) h32 m54))))))) 
 (R (.slice (some (aS h9 0)) (Int.toNat x10) (Int.toNat x10)) h26))))))))))))))))
theorem vc104e (p0_1:ByteArray) (p0_2:Sl) (p0_3:Sl) (p0_4:Int) (p0_5:Int) (p0_6:Int) (p0_7:Sl) (p0_8:Sl) (h:Heap) (R:Value->Heap->Prop):W104 p0_1 p0_2 p0_3 p0_4 p0_5 p0_6 p0_7 p0_8 h R=fnW Pz 104 (.s .z (.s .z (.s (.s .z (.b (.l [(4,.one (.int .i64))] .z))) (.s .z (.s (.s .z (.b (.l [(5,.one (.int .i64))] (.s .z (.s (.b (.s .z (.b (.l [(6,.one (.int .i64))] .z)))) .z))))) .z))))) #[.agg ⟨[.string p0_1,.slice p0_2.a p0_2.n p0_2.c,.slice p0_3.a p0_3.n p0_3.c,.int .i64 p0_4,.int .i64 p0_5,.int .i64 p0_6,.slice p0_7.a p0_7.n p0_7.c,.slice p0_8.a p0_8.n p0_8.c]⟩] h R:=by kernel_rfl
theorem vc104 (p0_1:ByteArray) (p0_2:Sl) (p0_3:Sl) (p0_4:Int) (p0_5:Int) (p0_6:Int) (p0_7:Sl) (p0_8:Sl) (h:Heap) (R:Value->Heap->Prop) (H:W104 p0_1 p0_2 p0_3 p0_4 p0_5 p0_6 p0_7 p0_8 h R):Fn Pz 104 #[.agg ⟨[.string p0_1,.slice p0_2.a p0_2.n p0_2.c,.slice p0_3.a p0_3.n p0_3.c,.int .i64 p0_4,.int .i64 p0_5,.int .i64 p0_6,.slice p0_7.a p0_7.n p0_7.c,.slice p0_8.a p0_8.n p0_8.c]⟩] h R:=fnI (vc104e p0_1 p0_2 p0_3 p0_4 p0_5 p0_6 p0_7 p0_8 h R) H
/- farandole/farandoleref18.Edges
   loop rrlrborlbrrlb: at_25:Int
   loop rrlrb: out_13:Sl, i_14:Int -/
def W105 (p0_1:ByteArray) (p0_2:Sl) (p0_3:Sl) (p0_4:Int) (p0_5:Int) (p0_6:Int) (p0_7:Sl) (p0_8:Sl) (p1:Int) (h:Heap) (R:Value->Heap->Prop):Prop:=
 (∀h9:Heap,h9=h.push (.cells ⟨[.string p0_1,.slice p0_2.a p0_2.n p0_2.c,.slice p0_3.a p0_3.n p0_3.c,.int .i64 p0_4,.int .i64 p0_5,.int .i64 p0_6,.slice p0_7.a p0_7.n p0_7.c,.slice p0_8.a p0_8.n p0_8.c]⟩ 27) -> 
 (∃I10:Sl->Int->Heap->Nat->Prop,(∃m11,I10 ⟨none,0,0⟩ 0 h9 m11) /\ 
 (∀(_:Env) (out_13:Sl) (i_14:Int) (h15:Heap) (m12:Nat),I10 out_13 i_14 h15 m12 -> 
 (∃x16:Sl,hc h15 ⟨h.size,6,none⟩=some (.slice x16.a x16.n x16.c) /\ 
  (sB (decide (i_14<(x16.n:Int))) 
  ((∃x17:Sl,hc h15 ⟨h.size,6,none⟩=some (.slice x17.a x17.n x17.c) /\ 
  (NB x17.a fun b18 o19=>((0<=(i_14:Int)/\(i_14:Int)<(x17.n:Nat)) /\ 
  (∃x20:Int,hc h15 ⟨b18,o19+Int.toNat i_14*6,none⟩=some (.int .i64 x20) /\ 
  (sB (x20 != p1) 
   ((∃m21,m21<m12/\I10 out_13 (IntKind.wrap .i64 (i_14+1)) h15 m21)) 
   ((∃I22:Int->Heap->Nat->Prop,(∃m23,I22 0 h15 m23) /\ 
   (∀(_:Env) (at_25:Int) (h26:Heap) (m24:Nat),I22 at_25 h26 m24 -> 
   (sB (decide (at_25<(out_13.n:Int))) 
    ((∃x27:ByteArray,∃x28:Sl,∃x29:Sl,∃x30:Int,∃x31:Int,∃x32:Int,∃x33:Sl,∃x34:Sl,atC h26 ⟨h.size,0,none⟩ [.string x27,.slice x28.a x28.n x28.c,.slice x29.a x29.n x29.c,.int .i64 x30,.int .i64 x31,.int .i64 x32,.slice x33.a x33.n x33.c,.slice x34.a x34.n x34.c] /\ 
    (NB out_13.a fun b35 o36=>((0<=(at_25:Int)/\(at_25:Int)<(out_13.n:Nat)) /\ 
    (∃x37:Int,hc h26 ⟨b35,o36+Int.toNat at_25*1,none⟩=some (.int .i64 x37) /\ 
    (Fn Pz 183 #[.agg ⟨[.string x27,.slice x28.a x28.n x28.c,.slice x29.a x29.n x29.c,.int .i64 x30,.int .i64 x31,.int .i64 x32,.slice x33.a x33.n x33.c,.slice x34.a x34.n x34.c]⟩,.int .i64 x37,.int .i64 i_14] h26 
    (fun v38 h40=>∃x39:Bool,v38=.bool x39 /\ 
    (sB x39 
    ((∃m41,m41<m24/\I22 (IntKind.wrap .i64 (at_25+1)) h40 m41)) 
    ((((0:Int)<=(0:Int)/\(0:Int)<=(at_25:Int)/\(at_25:Int)<=(out_13.c:Nat)) /\ 
    (((0:Int)<=(at_25:Int)/\(at_25:Int)<=((out_13.n:Nat):Int)/\((out_13.n:Nat):Int)<=(out_13.c:Nat)) /\ 
    (∀h42:Heap,h42=h40.push (.cells ⟨[.int .i64 i_14]⟩ 3) -> 
    (App Pz 102 102 (.slice (some ⟨h40.size,0,none⟩) 1 1) (.slice (subA out_13.a (Int.toNat at_25) out_13.c 1) (Int.toNat (out_13.n:Nat)-Int.toNat at_25) (out_13.c-Int.toNat at_25)) h42 fun s43 h44=>
    (App Pz 102 102 (.slice (subA out_13.a (Int.toNat 0) out_13.c 1) (Int.toNat at_25-Int.toNat 0) (out_13.c-Int.toNat 0)) (.slice s43.a s43.n s43.c) h44 fun s45 h46=>
    (∃m47,m47<m12/\I10 s45 (IntKind.wrap .i64 (i_14+1)) h46 m47))))))))))))))) 
    ((((0:Int)<=(0:Int)/\(0:Int)<=(at_25:Int)/\(at_25:Int)<=(out_13.c:Nat)) /\ 
    (((0:Int)<=(at_25:Int)/\(at_25:Int)<=((out_13.n:Nat):Int)/\((out_13.n:Nat):Int)<=(out_13.c:Nat)) /\ 
    (∀h48:Heap,h48=h26.push (.cells ⟨[.int .i64 i_14]⟩ 3) -> 
    (App Pz 102 102 (.slice (some ⟨h26.size,0,none⟩) 1 1) (.slice (subA out_13.a (Int.toNat at_25) out_13.c 1) (Int.toNat (out_13.n:Nat)-Int.toNat at_25) (out_13.c-Int.toNat at_25)) h48 fun s49 h50=>
    (App Pz 102 102 (.slice (subA out_13.a (Int.toNat 0) out_13.c 1) (Int.toNat at_25-Int.toNat 0) (out_13.c-Int.toNat 0)) (.slice s49.a s49.n s49.c) h50 fun s51 h52=>
    (∃m53,m53<m12/\I10 s51 (IntKind.wrap .i64 (i_14+1)) h52 m53))))))))))))))))) 
  (R (.slice out_13.a out_13.n out_13.c) h15))))))
theorem vc105e (p0_1:ByteArray) (p0_2:Sl) (p0_3:Sl) (p0_4:Int) (p0_5:Int) (p0_6:Int) (p0_7:Sl) (p0_8:Sl) (p1:Int) (h:Heap) (R:Value->Heap->Prop):W105 p0_1 p0_2 p0_3 p0_4 p0_5 p0_6 p0_7 p0_8 p1 h R=fnW Pz 105 (.s .z (.s .z (.s (.s .z (.b (.l [(5,.one (.slice)),(6,.one (.int .i64))] (.s .z (.s (.b (.s .z (.s .z (.s (.b (.l [(7,.one (.int .i64))] .z)) .z)))) .z))))) .z))) #[.agg ⟨[.string p0_1,.slice p0_2.a p0_2.n p0_2.c,.slice p0_3.a p0_3.n p0_3.c,.int .i64 p0_4,.int .i64 p0_5,.int .i64 p0_6,.slice p0_7.a p0_7.n p0_7.c,.slice p0_8.a p0_8.n p0_8.c]⟩,.int .i64 p1] h R:=by kernel_rfl
theorem vc105 (p0_1:ByteArray) (p0_2:Sl) (p0_3:Sl) (p0_4:Int) (p0_5:Int) (p0_6:Int) (p0_7:Sl) (p0_8:Sl) (p1:Int) (h:Heap) (R:Value->Heap->Prop) (H:W105 p0_1 p0_2 p0_3 p0_4 p0_5 p0_6 p0_7 p0_8 p1 h R):Fn Pz 105 #[.agg ⟨[.string p0_1,.slice p0_2.a p0_2.n p0_2.c,.slice p0_3.a p0_3.n p0_3.c,.int .i64 p0_4,.int .i64 p0_5,.int .i64 p0_6,.slice p0_7.a p0_7.n p0_7.c,.slice p0_8.a p0_8.n p0_8.c]⟩,.int .i64 p1] h R:=fnI (vc105e p0_1 p0_2 p0_3 p0_4 p0_5 p0_6 p0_7 p0_8 p1 h R) H
/- farandole/farandoleref09.IsName
   loop rrlrb: i_7:Int -/
def W176 (p0:ByteArray) (h:Heap) (R:Value->Heap->Prop):Prop:=
 (sB ((ByteArray.toList p0)==(ByteArray.toList ⟨#[]⟩)) 
  (R (.bool false) h) 
  (((0<=(0:Int)/\(0:Int)<(ByteArray.size p0:Nat)) /\ 
  (Fn Pz 227 #[.int .u8 (byteAt p0 (Int.toNat 0):Int)] h 
  (fun v1 h3=>∃x2:Bool,v1=.bool x2 /\ 
  (sB (!x2) 
  (R (.bool false) h3) 
  ((sB (decide ((ByteArray.size p0:Int)>16)) 
   (R (.bool false) h3) 
   ((∃I4:Int->Heap->Nat->Prop,(∃m5,I4 0 h3 m5) /\ 
   (∀(_:Env) (i_7:Int) (h8:Heap) (m6:Nat),I4 i_7 h8 m6 -> 
   (sB (decide (i_7<(ByteArray.size p0:Int))) 
    (((0<=(i_7:Int)/\(i_7:Int)<(ByteArray.size p0:Nat)) /\ 
    (Fn Pz 228 #[.int .u8 (byteAt p0 (Int.toNat i_7):Int)] h8 
    (fun v9 h11=>∃x10:Bool,v9=.bool x10 /\ 
    (sB (!x10) 
    (R (.bool false) h11) 
    ((∃m12,m12<m6/\I4 (IntKind.wrap .i64 (i_7+1)) h11 m12))))))) 
    (R (.bool true) h8)))))))))))))
theorem vc176e (p0:ByteArray) (h:Heap) (R:Value->Heap->Prop):W176 p0 h R=fnW Pz 176 (.s .z (.s .z (.s (.s .z (.b (.l [(3,.one (.int .i64))] .z))) .z))) #[.string p0] h R:=by kernel_rfl
theorem vc176 (p0:ByteArray) (h:Heap) (R:Value->Heap->Prop) (H:W176 p0 h R):Fn Pz 176 #[.string p0] h R:=fnI (vc176e p0 h R) H
/- farandole/farandoleref09.in
   loop rlrb: i_4:Int -/
def W177 (p0:Sl) (p1:ByteArray) (h:Heap) (R:Value->Heap->Prop):Prop:=
 (∃I1:Int->Heap->Nat->Prop,(∃m2,I1 0 h m2) /\ 
 (∀(_:Env) (i_4:Int) (h5:Heap) (m3:Nat),I1 i_4 h5 m3 -> 
 (sB (decide (i_4<(p0.n:Int))) 
  ((NB p0.a fun b6 o7=>((0<=(i_4:Int)/\(i_4:Int)<(p0.n:Nat)) /\ 
  (∃x8:ByteArray,hc h5 ⟨b6,o7+Int.toNat i_4*1,none⟩=some (.string x8) /\ 
  (sB ((ByteArray.toList x8)==(ByteArray.toList p1)) 
   (R (.bool true) h5) 
   ((∃m9,m9<m3/\I1 (IntKind.wrap .i64 (i_4+1)) h5 m9))))))) 
  (R (.bool false) h5))))
theorem vc177e (p0:Sl) (p1:ByteArray) (h:Heap) (R:Value->Heap->Prop):W177 p0 p1 h R=fnW Pz 177 (.s .z (.s (.s .z (.b (.l [(5,.one (.int .i64))] .z))) .z)) #[.slice p0.a p0.n p0.c,.string p1] h R:=by kernel_rfl
theorem vc177 (p0:Sl) (p1:ByteArray) (h:Heap) (R:Value->Heap->Prop) (H:W177 p0 p1 h R):Fn Pz 177 #[.slice p0.a p0.n p0.c,.string p1] h R:=fnI (vc177e p0 p1 h R) H
/- farandole/farandoleref09.Keywords -/
def W178  (h:Heap) (R:Value->Heap->Prop):Prop:=
 (∀h1:Heap,h1=h.push (.cells ⟨[.string ⟨#[97,103,97,105,110]⟩,.string ⟨#[97,110,100]⟩,.string ⟨#[97,115]⟩,.string ⟨#[97,116]⟩,.string ⟨#[99,97,108,108]⟩,.string ⟨#[99,104,111,105,99,101]⟩,.string ⟨#[101,108,115,101]⟩,.string ⟨#[102,114,111,109]⟩,.string ⟨#[105,102]⟩,.string ⟨#[105,110,116]⟩,.string ⟨#[108,101,110]⟩,.string ⟨#[108,111,111,112]⟩,.string ⟨#[109,101,115,115,97,103,101]⟩,.string ⟨#[111,102]⟩,.string ⟨#[111,102,102,101,114]⟩,.string ⟨#[111,110]⟩,.string ⟨#[111,114]⟩,.string ⟨#[112,97,114]⟩,.string ⟨#[112,108,97,121,115]⟩,.string ⟨#[112,114,111,116,111,99,111,108]⟩,.string ⟨#[115,101,114,118,105,99,101]⟩,.string ⟨#[116,101,120,116]⟩,.string ⟨#[116,105,109,101,115]⟩,.string ⟨#[116,111]⟩,.string ⟨#[118,97,114]⟩,.string ⟨#[119,104,101,114,101]⟩,.string ⟨#[119,104,105,108,101]⟩,.string ⟨#[119,105,116,104,105,110]⟩]⟩ 9) -> 
 R (.slice (some ⟨h.size,0,none⟩) 28 28) h1)
theorem vc178e  (h:Heap) (R:Value->Heap->Prop):W178  h R=fnW Pz 178 .z #[] h R:=by kernel_rfl
theorem vc178  (h:Heap) (R:Value->Heap->Prop) (H:W178  h R):Fn Pz 178 #[] h R:=fnI (vc178e  h R) H
/- farandole/farandoleref14.Vars
   loop rrlrb: n_4:Int, i_5:Int -/
def W179 (p0:Sl) (h:Heap) (R:Value->Heap->Prop):Prop:=
 (∃I1:Int->Int->Heap->Nat->Prop,(∃m2,I1 0 0 h m2) /\ 
 (∀(_:Env) (n_4:Int) (i_5:Int) (h6:Heap) (m3:Nat),I1 n_4 i_5 h6 m3 -> 
 (sB (decide (i_5<(p0.n:Int))) 
  ((NB p0.a fun b7 o8=>((0<=(i_5:Int)/\(i_5:Int)<(p0.n:Nat)) /\ 
  (∃x9:Sl,hc h6 ⟨b7,o8+Int.toNat i_5*5+1,none⟩=some (.slice x9.a x9.n x9.c) /\ 
  (∃m10,m10<m3/\I1 (IntKind.wrap .i64 (n_4+(x9.n:Int))) (IntKind.wrap .i64 (i_5+1)) h6 m10))))) 
  (R (.int .i64 n_4) h6))))
theorem vc179e (p0:Sl) (h:Heap) (R:Value->Heap->Prop):W179 p0 h R=fnW Pz 179 (.s .z (.s .z (.s (.s .z (.b (.l [(3,.one (.int .i64)),(4,.one (.int .i64))] .z))) .z))) #[.slice p0.a p0.n p0.c] h R:=by kernel_rfl
theorem vc179 (p0:Sl) (h:Heap) (R:Value->Heap->Prop) (H:W179 p0 h R):Fn Pz 179 #[.slice p0.a p0.n p0.c] h R:=fnI (vc179e p0 h R) H
/- farandole/farandoleref14.goodSort
   join rr: least_7:Int, most_8:Int -/
def W180 (p0_1:Int) (p0_2:Int) (p0_3:Int) (h:Heap) (R:Value->Heap->Prop):Prop:=
 (∀h4:Heap,h4=h.push (.cells ⟨[.int .i64 p0_1,.int .i64 p0_2,.int .i64 p0_3]⟩ 258) -> 
 (∃J5:Int->Int->Heap->Prop, 
 ((∃x6:Int,hc h4 ⟨h.size,0,none⟩=some (.int .i64 x6) /\ 
  (sB (x6==2) 
  ((J5 0 40 h4)) 
  ((J5 (-1000) 1000 h4))))) /\ 
 (∀(_:Env) (least_7:Int) (most_8:Int) (h9:Heap),J5 least_7 most_8 h9 -> 
 (∃x10:Int,hc h9 ⟨h.size,0,none⟩=some (.int .i64 x10) /\ 
  (sB (x10==1) 
  ((∃x11:Int,hc h9 ⟨h.size,1,none⟩=some (.int .i64 x11) /\ 
  (sB (decide (x11>=least_7)) 
   ((∃x12:Int,hc h9 ⟨h.size,2,none⟩=some (.int .i64 x12) /\ 
   (sB (decide (x12<=most_8)) 
   ((∃x13:Int,hc h9 ⟨h.size,1,none⟩=some (.int .i64 x13) /\ 
   (∃x14:Int,hc h9 ⟨h.size,2,none⟩=some (.int .i64 x14) /\ 
   R (.bool (decide (x13<=x14))) h9))) 
   (R (.bool false) h9)))) 
   (R (.bool false) h9)))) 
  ((∃x15:Int,hc h9 ⟨h.size,0,none⟩=some (.int .i64 x15) /\ 
  (sB (x15==2) 
   ((∃x16:Int,hc h9 ⟨h.size,1,none⟩=some (.int .i64 x16) /\ 
   (sB (decide (x16>=least_7)) 
   ((∃x17:Int,hc h9 ⟨h.size,2,none⟩=some (.int .i64 x17) /\ 
   (sB (decide (x17<=most_8)) 
    ((∃x18:Int,hc h9 ⟨h.size,1,none⟩=some (.int .i64 x18) /\ 
    (∃x19:Int,hc h9 ⟨h.size,2,none⟩=some (.int .i64 x19) /\ 
    R (.bool (decide (x18<=x19))) h9))) 
    (R (.bool false) h9)))) 
   (R (.bool false) h9)))) 
   (R (.bool false) h9)))))))))
theorem vc180e (p0_1:Int) (p0_2:Int) (p0_3:Int) (h:Heap) (R:Value->Heap->Prop):W180 p0_1 p0_2 p0_3 h R=fnW Pz 180 (.s .z (.s .z (.j [(3,.one (.int .i64)),(4,.one (.int .i64))] .z .z))) #[.agg ⟨[.int .i64 p0_1,.int .i64 p0_2,.int .i64 p0_3]⟩] h R:=by kernel_rfl
theorem vc180 (p0_1:Int) (p0_2:Int) (p0_3:Int) (h:Heap) (R:Value->Heap->Prop) (H:W180 p0_1 p0_2 p0_3 h R):Fn Pz 180 #[.agg ⟨[.int .i64 p0_1,.int .i64 p0_2,.int .i64 p0_3]⟩] h R:=fnI (vc180e p0_1 p0_2 p0_3 h R) H
/- farandole/farandoleref10.IsPath
   loop rrlrb: from_4:Int, i_5:Int -/
def W181 (p0:ByteArray) (h:Heap) (R:Value->Heap->Prop):Prop:=
 (∃I1:Int->Int->Heap->Nat->Prop,(∃m2,I1 0 0 h m2) /\ 
 (∀(_:Env) (from_4:Int) (i_5:Int) (h6:Heap) (m3:Nat),I1 from_4 i_5 h6 m3 -> 
 (sB (decide (i_5<=(ByteArray.size p0:Int))) 
  ((sB (i_5==(ByteArray.size p0:Int)) 
   ((((0:Int)<=(from_4:Int)/\(from_4:Int)<=(i_5:Int)/\(i_5:Int)<=(ByteArray.size p0:Nat)) /\ 
   (Fn Pz 229 #[.string (ByteArray.extract p0 (Int.toNat from_4) (Int.toNat i_5))] h6 
   (fun v7 h9=>∃x8:Bool,v7=.bool x8 /\ 
   (sB (!x8) 
   (R (.bool false) h9) 
   ((∃m10,m10<m3/\I1 (IntKind.wrap .i64 (i_5+1)) (IntKind.wrap .i64 (i_5+1)) h9 m10))))))) 
   (((0<=(i_5:Int)/\(i_5:Int)<(ByteArray.size p0:Nat)) /\ 
   (sB ((byteAt p0 (Int.toNat i_5):Int)==46) 
   ((((0:Int)<=(from_4:Int)/\(from_4:Int)<=(i_5:Int)/\(i_5:Int)<=(ByteArray.size p0:Nat)) /\ 
   (Fn Pz 229 #[.string (ByteArray.extract p0 (Int.toNat from_4) (Int.toNat i_5))] h6 
   (fun v11 h13=>∃x12:Bool,v11=.bool x12 /\ 
   (sB (!x12) 
    (R (.bool false) h13) 
    ((∃m14,m14<m3/\I1 (IntKind.wrap .i64 (i_5+1)) (IntKind.wrap .i64 (i_5+1)) h13 m14))))))) 
   ((∃m15,m15<m3/\I1 from_4 (IntKind.wrap .i64 (i_5+1)) h6 m15))))))) 
  (R (.bool (decide ((ByteArray.size p0:Int)<=50))) h6))))
theorem vc181e (p0:ByteArray) (h:Heap) (R:Value->Heap->Prop):W181 p0 h R=fnW Pz 181 (.s .z (.s .z (.s (.s .z (.b (.l [(3,.one (.int .i64)),(4,.one (.int .i64))] .z))) .z))) #[.string p0] h R:=by kernel_rfl
theorem vc181 (p0:ByteArray) (h:Heap) (R:Value->Heap->Prop) (H:W181 p0 h R):Fn Pz 181 #[.string p0] h R:=fnI (vc181e p0 h R) H
/- farandole/farandoleref14.goodGuard
   loop rrrlrb: i_31:Int
   loop rrlrb: i_10:Int -/
def W182 (p0:Sl) (p1_1:Sl) (p1_2:Sl) (h:Heap) (R:Value->Heap->Prop):Prop:=
 (Wn h [vS p1_1,vS p1_2] 169 fun h3=>
 (Fn Pz 179 #[vS p0] h3 
 (fun v4 h6=>∃x5,iI v4 x5 /\ 
 (QI 0 h6 fun I7 i_10 h11 m9=>(
 (∃x12,rS h11 (aS h 0) x12 /\ 
 (sB (decide (i_10<(x12.n:Int))) 
 ((∃x13,rS h11 (aS h 0) x13 /\ 
 (NB x13.a fun b14 o15=>(Ib i_10 x13.n /\ 
 (∃x16:Int,∃x17:Int,∃x18:Int,atC h11 ⟨b14,o15+Int.toNat i_10*3,none⟩ [vI x16,vI x17,vI x18] /\ 
 (Wn h11 [vI 0,vI 0,vI 0] 263 fun h19=>
 (Wp h19 (aS h11 0) 3 [vI x16,vI x17,vI x18] fun h20=>
 (∃x21,rI h20 (aS h11 0) x21 /\ 
 (sB (decide (x21<(-1))) 
 (R (.bool false) h20) 
 ((∃x22,rI h20 (aS h11 0) x22 /\ 
 (sB (decide (x22>=x5)) 
 (R (.bool false) h20) 
 ((∃x23,rI h20 (aS h11 1) x23 /\ 
 (sB (decide (x23<(-1))) 
 (R (.bool false) h20) 
 ((∃x24,rI h20 (aS h11 1) x24 /\ 
 (sB (decide (x24>=x5)) 
 (R (.bool false) h20) 
 ((∃x25,rI h20 (aS h11 2) x25 /\ 
 (sB (decide (x25<(-20000))) 
 (R (.bool false) h20) 
 ((∃x26,rI h20 (aS h11 2) x26 /\ 
 (sB (decide (x26>20000)) 
 (R (.bool false) h20) 
 ((∃m27,m27<m9/\I7 (IntKind.wrap .i64 (i_10+1)) h20 m27)))))))))))))))))))))))))) 
 ((QI 0 h11 fun I28 i_31 h32 m30=>(
 (∃x33,rS h32 (aS h 1) x33 /\ 
 (sB (decide (i_31<(x33.n:Int))) 
 ((∃x34,rS h32 (aS h 1) x34 /\ 
 (NB x34.a fun b35 o36=>(Ib i_31 x34.n /\ 
 (Ib 0 2 /\ 
 (∃x37,rI h32 ⟨b35,o36+Int.toNat i_31*2+Int.toNat 0*1,none⟩ x37 /\ 
 (Fn Pz 230 #[vS p0,vI x37] h32 
 (fun v38 h40=>∃x39,iB v38 x39 /\ 
 (sB (!x39) 
 (R (.bool false) h40) 
 ((∃x41,rS h40 (aS h 1) x41 /\ 
 (NB x41.a fun b42 o43=>(Ib i_31 x41.n /\ 
 (Ib 1 2 /\ 
 (∃x44,rI h40 ⟨b42,o43+Int.toNat i_31*2+Int.toNat 1*1,none⟩ x44 /\ 
 (Fn Pz 230 #[vS p0,vI x44] h40 
 (fun v45 h47=>∃x46,iB v45 x46 /\ 
 (sB (!x46) 
 (R (.bool false) h47) 
 ((∃m48,m48<m30/\I28 (IntKind.wrap .i64 (i_31+1)) h47 m48)))))))))))))))))))) 
 ((∃x49,rS h32 (aS h 0) x49 /\ 
 (sB (decide ((x49.n:Int)<=20)) 
 ((∃x50,rS h32 (aS h 1) x50 /\ 
 R (.bool (decide ((x50.n:Int)<=20))) h32)) 
 (R (.bool false) h32))))))))))))))))
theorem vc182e (p0:Sl) (p1_1:Sl) (p1_2:Sl) (h:Heap) (R:Value->Heap->Prop):W182 p0 p1_1 p1_2 h R=fnW Pz 182 (.s .z (.s .z (.s (.s .z (.b (.l [(6,.one (.int .i64))] .z))) (.s (.s .z (.b (.l [(8,.one (.int .i64))] .z))) .z)))) #[.slice p0.a p0.n p0.c,.agg ⟨[.slice p1_1.a p1_1.n p1_1.c,.slice p1_2.a p1_2.n p1_2.c]⟩] h R:=by kernel_rfl
theorem vc182 (p0:Sl) (p1_1:Sl) (p1_2:Sl) (h:Heap) (R:Value->Heap->Prop) (H:W182 p0 p1_1 p1_2 h R):Fn Pz 182 #[.slice p0.a p0.n p0.c,.agg ⟨[.slice p1_1.a p1_1.n p1_1.c,.slice p1_2.a p1_2.n p1_2.c]⟩] h R:=fnI (vc182e p0 p1_1 p1_2 h R) H
/- farandole/farandoleref18.before -/
def W183 (p0_1:ByteArray) (p0_2:Sl) (p0_3:Sl) (p0_4:Int) (p0_5:Int) (p0_6:Int) (p0_7:Sl) (p0_8:Sl) (p1:Int) (p2:Int) (h:Heap) (R:Value->Heap->Prop):Prop:=
 (Wn h [.string p0_1,vS p0_2,vS p0_3,vI p0_4,vI p0_5,vI p0_6,vS p0_7,vS p0_8] 27 fun h9=>
 (∃x10,rS h9 (aS h 6) x10 /\ 
 (NB x10.a fun b11 o12=>(Ib p1 x10.n /\ 
 (∃x13:Int,∃x14:Int,∃x15:Int,atC h9 ⟨b11,o12+Int.toNat p1*6+1,none⟩ [vI x13,vI x14,vI x15] /\ 
 (∃x16,rS h9 (aS h 6) x16 /\ 
 (NB x16.a fun b17 o18=>(Ib p2 x16.n /\ 
 (∃x19:Int,∃x20:Int,∃x21:Int,atC h9 ⟨b17,o18+Int.toNat p2*6+1,none⟩ [vI x19,vI x20,vI x21] /\ 
 ((Wn h9 [vI 0,vI 0,vI 0] 65 fun h22=>
 (Sm [⟨b17,o18+Int.toNat p2*6+1,none⟩,(aS h 6),⟨b11,o12+Int.toNat p1*6+1,none⟩,(aS h 6)] h9 h22 /\ 
 (Wn h22 [vI 0,vI 0,vI 0] 65 fun h23=>
 (Sm [⟨b17,o18+Int.toNat p2*6+1,none⟩,(aS h 6),⟨b11,o12+Int.toNat p1*6+1,none⟩,(aS h 6)] h22 h23 /\ 
 (Wp h23 (aS h9 0) 3 [vI x13,vI x14,vI x15] fun h24=>
 (Sm [⟨b17,o18+Int.toNat p2*6+1,none⟩,(aS h 6)] h23 h24 /\ 
 (Wp h24 (aS h22 0) 3 [vI x19,vI x20,vI x21] fun h25=>
 (∃x26,rI h25 (aS h9 1) x26 /\ 
 (∃x27,rI h25 (aS h22 1) x27 /\ 
 (sB (x26 != x27) 
 ((∃x28,rI h25 (aS h9 1) x28 /\ 
 (∃x29,rI h25 (aS h22 1) x29 /\ 
 R (.bool (decide (x28<x29))) h25))) 
 ((∃x30,rI h25 (aS h9 2) x30 /\ 
 (∃x31,rI h25 (aS h22 2) x31 /\ 
 (sB (x30 != x31) 
 ((∃x32,rI h25 (aS h9 2) x32 /\ 
 (∃x33,rI h25 (aS h22 2) x33 /\ 
 R (.bool (decide (x32<x33))) h25))) 
 (R (.bool (decide (p1<p2))) h25))))))))))))))))/\((Wn h9 [vI 0,vI 0,vI 0] 65 fun h34=>
 (Sm [⟨b17,o18+Int.toNat p2*6+1,none⟩,(aS h 6),⟨b11,o12+Int.toNat p1*6+1,none⟩,(aS h 6)] h9 h34 /\ 
 (Wn h34 [vI 0,vI 0,vI 0] 65 fun h35=>
 (Sm [⟨b17,o18+Int.toNat p2*6+1,none⟩,(aS h 6),⟨b11,o12+Int.toNat p1*6+1,none⟩,(aS h 6)] h34 h35 /\ 
 (Wp h35 (aS h34 0) 3 [vI x13,vI x14,vI x15] fun h36=>
 (Sm [⟨b17,o18+Int.toNat p2*6+1,none⟩,(aS h 6)] h35 h36 /\ 
 (Wp h36 (aS h9 0) 3 [vI x19,vI x20,vI x21] fun h37=>
 (∃x38,rI h37 (aS h34 1) x38 /\ 
 (∃x39,rI h37 (aS h9 1) x39 /\ 
 (sB (x38 != x39) 
 ((∃x40,rI h37 (aS h34 1) x40 /\ 
 (∃x41,rI h37 (aS h9 1) x41 /\ 
 R (.bool (decide (x40<x41))) h37))) 
 ((∃x42,rI h37 (aS h34 2) x42 /\ 
 (∃x43,rI h37 (aS h9 2) x43 /\ 
 (sB (x42 != x43) 
 ((∃x44,rI h37 (aS h34 2) x44 /\ 
 (∃x45,rI h37 (aS h9 2) x45 /\ 
 R (.bool (decide (x44<x45))) h37))) 
 (R (.bool (decide (p1<p2))) h37)))))))))))))))))))))))))
theorem vc183e (p0_1:ByteArray) (p0_2:Sl) (p0_3:Sl) (p0_4:Int) (p0_5:Int) (p0_6:Int) (p0_7:Sl) (p0_8:Sl) (p1:Int) (p2:Int) (h:Heap) (R:Value->Heap->Prop):W183 p0_1 p0_2 p0_3 p0_4 p0_5 p0_6 p0_7 p0_8 p1 p2 h R=fnW Pz 183 .z #[.agg ⟨[.string p0_1,.slice p0_2.a p0_2.n p0_2.c,.slice p0_3.a p0_3.n p0_3.c,.int .i64 p0_4,.int .i64 p0_5,.int .i64 p0_6,.slice p0_7.a p0_7.n p0_7.c,.slice p0_8.a p0_8.n p0_8.c]⟩,.int .i64 p1,.int .i64 p2] h R:=by kernel_rfl
theorem vc183 (p0_1:ByteArray) (p0_2:Sl) (p0_3:Sl) (p0_4:Int) (p0_5:Int) (p0_6:Int) (p0_7:Sl) (p0_8:Sl) (p1:Int) (p2:Int) (h:Heap) (R:Value->Heap->Prop) (H:W183 p0_1 p0_2 p0_3 p0_4 p0_5 p0_6 p0_7 p0_8 p1 p2 h R):Fn Pz 183 #[.agg ⟨[.string p0_1,.slice p0_2.a p0_2.n p0_2.c,.slice p0_3.a p0_3.n p0_3.c,.int .i64 p0_4,.int .i64 p0_5,.int .i64 p0_6,.slice p0_7.a p0_7.n p0_7.c,.slice p0_8.a p0_8.n p0_8.c]⟩,.int .i64 p1,.int .i64 p2] h R:=fnI (vc183e p0_1 p0_2 p0_3 p0_4 p0_5 p0_6 p0_7 p0_8 p1 p2 h R) H
/- farandole/farandoleref09.letter -/
def W227 (p0:Int) (h:Heap) (R:Value->Heap->Prop):Prop:=
 (sB (decide (p0>=97)) 
  ((sB (decide (p0<=122)) 
  (R (.bool true) h) 
  ((sB (decide (p0>=65)) 
   (R (.bool (decide (p0<=90))) h) 
   (R (.bool false) h))))) 
  ((sB (decide (p0>=65)) 
  (R (.bool (decide (p0<=90))) h) 
  (R (.bool false) h))))
theorem vc227e (p0:Int) (h:Heap) (R:Value->Heap->Prop):W227 p0 h R=fnW Pz 227 .z #[.int .u8 p0] h R:=by kernel_rfl
theorem vc227 (p0:Int) (h:Heap) (R:Value->Heap->Prop) (H:W227 p0 h R):Fn Pz 227 #[.int .u8 p0] h R:=fnI (vc227e p0 h R) H
/- farandole/farandoleref09.inner -/
def W228 (p0:Int) (h:Heap) (R:Value->Heap->Prop):Prop:=
 (Fn Pz 227 #[.int .u8 p0] h 
 (fun v1 h3=>∃x2:Bool,v1=.bool x2 /\ 
 (sB x2 
  (R (.bool true) h3) 
  ((Fn Pz 275 #[.int .u8 p0] h3 
  (fun v4 h6=>∃x5:Bool,v4=.bool x5 /\ 
  (sB x5 
  (R (.bool true) h6) 
  (R (.bool (p0==95)) h6))))))))
theorem vc228e (p0:Int) (h:Heap) (R:Value->Heap->Prop):W228 p0 h R=fnW Pz 228 .z #[.int .u8 p0] h R:=by kernel_rfl
theorem vc228 (p0:Int) (h:Heap) (R:Value->Heap->Prop) (H:W228 p0 h R):Fn Pz 228 #[.int .u8 p0] h R:=fnI (vc228e p0 h R) H
/- farandole/farandoleref10.word -/
def W229 (p0:ByteArray) (h:Heap) (R:Value->Heap->Prop):Prop:=
 (Fn Pz 100 #[.string p0] h 
 (fun v1 h3=>∃x2:Bool,v1=.bool x2 /\ 
 R (.bool x2) h3))
theorem vc229e (p0:ByteArray) (h:Heap) (R:Value->Heap->Prop):W229 p0 h R=fnW Pz 229 .z #[.string p0] h R:=by kernel_rfl
theorem vc229 (p0:ByteArray) (h:Heap) (R:Value->Heap->Prop) (H:W229 p0 h R):Fn Pz 229 #[.string p0] h R:=fnI (vc229e p0 h R) H
/- farandole/farandoleref14.text -/
def W230 (p0:Sl) (p1:Int) (h:Heap) (R:Value->Heap->Prop):Prop:=
 (sB (decide (p1>=0)) 
  ((Fn Pz 179 #[.slice p0.a p0.n p0.c] h 
  (fun v1 h3=>∃x2:Int,v1=.int .i64 x2 /\ 
  (sB (decide (p1<x2)) 
  ((Fn Pz 276 #[.slice p0.a p0.n p0.c,.int .i64 p1] h3 
  (fun v4 h9=>∃x5:ByteArray,∃x6:Int,∃x7:Int,∃x8:Int,v4=.agg ⟨[.string x5,.int .i64 x6,.int .i64 x7,.int .i64 x8]⟩ /\ 
  R (.bool (x6==2)) h9))) 
  (R (.bool false) h3))))) 
  (R (.bool false) h))
theorem vc230e (p0:Sl) (p1:Int) (h:Heap) (R:Value->Heap->Prop):W230 p0 p1 h R=fnW Pz 230 .z #[.slice p0.a p0.n p0.c,.int .i64 p1] h R:=by kernel_rfl
theorem vc230 (p0:Sl) (p1:Int) (h:Heap) (R:Value->Heap->Prop) (H:W230 p0 p1 h R):Fn Pz 230 #[.slice p0.a p0.n p0.c,.int .i64 p1] h R:=fnI (vc230e p0 p1 h R) H
/- farandole/farandoleref09.digit -/
def W275 (p0:Int) (h:Heap) (R:Value->Heap->Prop):Prop:=
 (sB (decide (p0>=48)) 
  (R (.bool (decide (p0<=57))) h) 
  (R (.bool false) h))
theorem vc275e (p0:Int) (h:Heap) (R:Value->Heap->Prop):W275 p0 h R=fnW Pz 275 .z #[.int .u8 p0] h R:=by kernel_rfl
theorem vc275 (p0:Int) (h:Heap) (R:Value->Heap->Prop) (H:W275 p0 h R):Fn Pz 275 #[.int .u8 p0] h R:=fnI (vc275e p0 h R) H
/- farandole/farandoleref14.Field
   loop rlrb: x_5:Int, i_6:Int -/
def W276 (p0:Sl) (p1:Int) (h:Heap) (R:Value->Heap->Prop):Prop:=
 (∀h1:Heap,h1=h.push (.cells ⟨[.string ⟨#[]⟩,.int .i64 0,.int .i64 0,.int .i64 0]⟩ 260) -> 
 (∃I2:Int->Int->Heap->Nat->Prop,(∃m3,I2 p1 0 h1 m3) /\ 
 (∀(_:Env) (x_5:Int) (i_6:Int) (h7:Heap) (m4:Nat),I2 x_5 i_6 h7 m4 -> 
 (sB (decide (i_6<(p0.n:Int))) 
  ((NB p0.a fun b8 o9=>((0<=(i_6:Int)/\(i_6:Int)<(p0.n:Nat)) /\ 
  (∃x10:Sl,hc h7 ⟨b8,o9+Int.toNat i_6*5+1,none⟩=some (.slice x10.a x10.n x10.c) /\ 
  (sB (decide (x_5<(x10.n:Int))) 
   ((NB p0.a fun b11 o12=>((0<=(i_6:Int)/\(i_6:Int)<(p0.n:Nat)) /\ 
   (∃x13:Sl,hc h7 ⟨b11,o12+Int.toNat i_6*5+1,none⟩=some (.slice x13.a x13.n x13.c) /\ 
   (NB x13.a fun b14 o15=>((0<=(x_5:Int)/\(x_5:Int)<(x13.n:Nat)) /\ 
   (∃x16:ByteArray,∃x17:Int,∃x18:Int,∃x19:Int,atC h7 ⟨b14,o15+Int.toNat x_5*4,none⟩ [.string x16,.int .i64 x17,.int .i64 x18,.int .i64 x19] /\ 
   (okAt h7 ⟨h.size,0,none⟩ 4/\∀h20:Heap,h20=hputs h7 ⟨h.size,0,none⟩ 0 [.string x16,.int .i64 x17,.int .i64 x18,.int .i64 x19] -> 
   (∃x21:ByteArray,∃x22:Int,∃x23:Int,∃x24:Int,atC h20 ⟨h.size,0,none⟩ [.string x21,.int .i64 x22,.int .i64 x23,.int .i64 x24] /\ 
   R (.agg ⟨[.string x21,.int .i64 x22,.int .i64 x23,.int .i64 x24]⟩) h20))))))))) 
   ((NB p0.a fun b25 o26=>((0<=(i_6:Int)/\(i_6:Int)<(p0.n:Nat)) /\ 
   (∃x27:Sl,hc h7 ⟨b25,o26+Int.toNat i_6*5+1,none⟩=some (.slice x27.a x27.n x27.c) /\ 
   (∃m28,m28<m4/\I2 (IntKind.wrap .i64 (x_5-(x27.n:Int))) (IntKind.wrap .i64 (i_6+1)) h7 m28)))))))))) 
  ((okAt h7 ⟨h.size,0,none⟩ 4/\∀h29:Heap,h29=hputs h7 ⟨h.size,0,none⟩ 0 [.string ⟨#[]⟩,.int .i64 0,.int .i64 0,.int .i64 0] -> 
  (∃x30:ByteArray,∃x31:Int,∃x32:Int,∃x33:Int,atC h29 ⟨h.size,0,none⟩ [.string x30,.int .i64 x31,.int .i64 x32,.int .i64 x33] /\ 
  R (.agg ⟨[.string x30,.int .i64 x31,.int .i64 x32,.int .i64 x33]⟩) h29)))))))
theorem vc276e (p0:Sl) (p1:Int) (h:Heap) (R:Value->Heap->Prop):W276 p0 p1 h R=fnW Pz 276 (.s .z (.s (.s .z (.b (.l [(1,.one (.int .i64)),(5,.one (.int .i64))] .z))) .z)) #[.slice p0.a p0.n p0.c,.int .i64 p1] h R:=by kernel_rfl
theorem vc276 (p0:Sl) (p1:Int) (h:Heap) (R:Value->Heap->Prop) (H:W276 p0 p1 h R):Fn Pz 276 #[.slice p0.a p0.n p0.c,.int .i64 p1] h R:=fnI (vc276e p0 p1 h R) H
end Go.VC
end
