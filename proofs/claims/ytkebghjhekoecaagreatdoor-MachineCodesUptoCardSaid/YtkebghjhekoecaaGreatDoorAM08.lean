/- RjDj RjDk RjDl RjDm RjDn RjDo RjDp RjArgs RjArgC. -/
import Derived.Test.YtkebghjhekoecaaGreatDoorAM07
import Derived.Laws.AppendOwn
import Derived.Test.YtkebghjhekoecaaGreatDoorRows
set_option linter.all false
set_option maxRecDepth 100000
set_option maxHeartbeats 8000000

section
namespace Go.VC
open Go.Proofs Go.LexS Go.RowKit
theorem cvS {h0 h:Heap} {L:List It} {b:Nat} {xs:List Value} (hs:St h0 h (.blk b xs 5::L)) (n:Nat) :
  RunW Pz (Go.convert 65 65 (.slice (some ⟨b,0,none⟩) n n)) h fun v h'=>v=.slice (some ⟨b,0,none⟩) n n/\St h0 h' L/\atC h' ⟨b,0,none⟩ xs/\(∀c,c<h.size->c≠b->h'[c]?=h[c]?):=by
 intro w hw;subst hw;have u1:Pz.underlying 65=some (.slice 5):=by kernel_rfl
 have u2:Pz.underlying 5=some (.int .u8):=by kernel_rfl
 have ho:Own w.heap b xs 5:=hs.get (k:=0) rfl;have hsh:w.shape? b=some (5,xs.length):=by
  unfold World.shape?;rw[show w.heap[b]?=some (.cells ⟨xs⟩ 5 (0,0)) from ho];rfl
 have hb:(w.freeze ⟨b,xs.length,none⟩ 1).heap[b]?=some (.cells ⟨xs⟩ 5 (xs.length,xs.length+1)):=by
  show (w.heap.modify b _)[b]?=_;rw[Array.getElem?_modify,if_pos rfl,show w.heap[b]?=some (.cells ⟨xs⟩ 5 (0,0)) from ho];rfl
 have hne:∀c,c≠b->(w.freeze ⟨b,xs.length,none⟩ 1).heap[c]?=w.heap[c]?:=fun c hc=>by
  show (w.heap.modify b _)[c]?=_;rw[Array.getElem?_modify,if_neg (Ne.symm hc)]
 refine⟨_,w.freeze ⟨b,xs.length,none⟩ 1,?_,⟨rfl,?_,?_,fun c _ hc=>hne c hc⟩,rfl,rfl,rfl⟩
 .unfold Go.convert;simp only[Sem.run_bind,run_underlying u1,Result.andThen_ok];simp[run_underlying u2,markStringish,hsh]
 .have h2:St h0 (w.freeze ⟨b,xs.length,none⟩ 1).heap (.sl ⟨none,0,0⟩ 5 1 []::L):=hs.turn (k:=0) (j:=.sl ⟨none,0,0⟩ 5 1 []) rfl (by show _<=(w.heap.modify b _).size;rw[Array.size_modify];exact Yyt _) ⟨OwnS.nil,fun r hr=>by cases hr⟩ (fun c hc=>by cases hc) fun c _ hc=>hne c fun e=>hc (by rw[e];rfl);exact h2.drop 1
 .intro i v hv;rw[addk_at];unfold hc;rw[hb];simpa using hv
theorem flatU (l:List Int):(l.map u8C).flatten=l.map u8V:=by
 induction l with
 | nil=>rfl
 | cons a l ih=>rw[Yyl,Yyu,ih];rfl
theorem App_fullU {h0 h:Heap} {L:List It} (hs:St h0 h L) {b x:Addr} {n cap m c:Nat} {xs ys:List Int} (hold:atC h b (xs.map u8V)) (hn:n=xs.length) (hx:atC h x (ys.map u8V)) (hm:m=ys.length) (hg:cap<n+m) (hb:n+m<=100000000) {K:Sl->Heap->Prop}
  (hK:∀(r:Sl) (h':Heap),r.n=n+m->St h0 h' (.sl r 5 1 ((xs++ys).map u8C)::L)->K r h'):App Pz 65 65 (.slice (some b) n cap) (.slice (some x) m c) h K:=by
 intro ty w hw;subst hw;have hT:=app48;unfold appB at hT;simp only[Yt] at hT;obtain⟨⟨⟨⟨⟨⟨⟨hsl,he⟩,ht⟩,hz⟩,hzl⟩,hsz⟩,hby⟩,hpos⟩:=hT;have hu:Pz.underlying 65=some (.slice 5):=by kernel_rfl
 obtain⟨i,hi⟩:=isT_info ht;obtain⟨z,hz'⟩:=Option.isSome_iff_exists.1 hz;rw[hi] at hz';simp only[Option.bind_some] at hz';have e1:i.size=1:=by have:=beqT hsz;simpa [szOf,hi] using this
 have e2:i.bytes=1:=by have:=beqT hby;simpa [byOf,hi] using this
 have e3:z.cells.size=1:=by have:=beqT hzl;simpa [zeroC,hi,hz'] using this
 have run:=run_append_grow (P:=Pz) w 65 ty 5 i z hu hi hz' b n cap (xs.map u8V) (by rw[e1,Yc];omega) (fun j u hj=>by rw[addk_add];exact hold j u hj) x m c (ys.map u8V) (by rw[e1,Yc];omega) (fun j u hj=>by rw[addk_add];exact hx j u hj) hg (by omega) (growslice_fits (by omega) (by rw[e2];omega));have hge:=grownCap_ge w (n+m) cap 5;have hle:=grownCap_le_maxLen w (n+m) cap 5 (by simp only[maxLen];omega);generalize grownCap w (n+m) cap 5=cp at *;refine⟨_,_,run,⟨⟨some ⟨w.heap.size,0,none⟩,n+m,cp⟩,rfl,hK _ _ rfl ?_⟩,rfl,rfl,rfl⟩;have hzl:=zeroCells_len z.cells (cp-(n+m));rw[e3] at hzl;refine hs.more (Ext.push _ _) ⟨⟨?_,.inr ⟨w.heap.size,_,rfl,Nat.zero_le _,push_eq,hge,hle,?_,?_⟩⟩,u8rows _⟩ (fun c hc=>?_)
 .rw[flatU,Yc,Yh];show _=(n+m)*1;omega
 .rw[<-Array.length_toList];simp only[Array.toList_append,Yh,Yc,hzl];show _=cp*1;omega
 .simp only[Array.toList_append];rw[flatU,Ym];exact List.take_left' (by rw[Yh,Yc,Yc];show _=(n+m)*1;omega)
 .injection hc with hc;rw[<-hc];exact Yyt _
theorem int69F (b:Addr) (xs:List Int) (n:Int) (h0 h:Heap) (L:List It) (hs:St h0 h L) (hold:atC h b (xs.map u8V)) (hn:I64 n) (hl:xs.length<=10000000) :
  Fn Pz 78 #[.slice (some b) xs.length xs.length,.int .i64 n] h fun v h'=>∃b':Sl,v=.slice b'.a b'.n b'.c/\St h0 h' (.sl b' 5 1 ((xs++encI n).map u8C)::L):=by
 apply vc78 ⟨some b,xs.length,xs.length⟩ n;unfold W78;rw[zig_bits hn];refine⟨by decide,by decide,?_⟩;have hz:=zig_lt hn.1 hn.2;refine⟨fun bb u h' μ=>∃(v:Nat) (pre:List Int),u=(v:Int)/\μ=v/\v<18446744073709551616/\pre++venc v=encI n/\((pre=[]/\bb=⟨some b,xs.length,xs.length⟩/\h'=h)\/St h0 h' (.sl bb 5 1 ((xs++pre).map u8C)::L)),⟨_,zigN n,[],rfl,rfl,hz,rfl,.inl ⟨rfl,rfl,rfl⟩⟩,?_⟩;rintro-b2 _ h6 μ ⟨v,pre,rfl,hμ,hv,he,hs6⟩;have hpl:pre.length<=10:=by
  have h1:=congrArg List.length he;rw[Yh] at h1;have h2:=encI_len hn;omega
 have app1:∀(y:Int) {K:Sl->Heap->Prop},(∀(r:Sl) (h':Heap),St h0 h' (.sl r 5 1 ((xs++pre++[y]).map u8C)::L)->K r h')->∀h2:Heap,h2=h6.push (.cells ⟨[.int .u8 y]⟩ 5)->App Pz 65 65 (.slice b2.a b2.n b2.c) (.slice (some ⟨h6.size,0,none⟩) 1 1) h2 K:=fun y K hK=>by
  rcases hs6 with ⟨rfl,rfl,rfl⟩ | hs
  .refine hs.newbE fun h2 E hs2=>?_;refine App_fullU (xs:=xs) (ys:=[y]) hs2 (atC_ext' E hold) rfl (hs2.at 0 rfl (o:=0) (n:=1) rfl) rfl (by show xs.length<xs.length+1;omega) (by show xs.length+1<=_;omega) fun r h' _ hs3=>hK r h' ?_;rw[Yw];exact hs3.eras 1
  .have hlen:=(hs.rows 0 (s:=b2) (cs:=u8C) rfl (by decide)).ln;rw[Yh] at hlen;refine hs.app 0 (s:=b2) (rows:=(xs++pre).map u8C) rfl app48 (m:=1) [[.int .u8 y]] rfl rfl (by simp) rfl (by omega) (by simp only[maxLen];omega) fun s8 h9 ns hs=>hK s8 h9 ?_;rw[Ym];exact hs
 refine sBi (fun c=>?_) (fun c=>?_)
 .have hv1:¬v<128:=by omega
  rw[venc_ge hv1] at he;rw[or_bits];refine app1 _ fun s8 h9 hs=>?_;refine⟨by decide,v/128,by omega,v/128,pre++[((v%128+128:Nat):Int)],shr7,rfl,by omega,by rw[Yz];exact he,.inr ?_⟩;rw[<-Yz];exact hs
 .have hv1:v<128:=by omega
  rw[venc_lt hv1] at he;rw[wu8 (n:=(v:Int)) (by omega) (by omega)];refine app1 _ fun s12 h13 hs=>?_;refine⟨s12,rfl,?_⟩;rw[<-he,<-Yz];exact hs
theorem refInt83 (n:Int) (h:Heap) (hn:I64 n) :
  Fn Pz 92 #[.int .i64 n] h fun v h'=>∃b:Sl,v=.slice b.a b.n b.c/\St h h' [.sl b 5 1 ((encI n).map u8C)]:=by
 apply vc92 n;unfold W92;have hz:=zig_lt hn.1 hn.2;refine⟨fun u h'=>u=(zigN n:Int)/\h'=h,sBi (fun c=>⟨?_,rfl⟩) (fun c=>⟨?_,rfl⟩),?_⟩
 .obtain⟨h0,h1⟩:=hn;rw[w64 (n:=n+1) (by omega) (by omega),w64 (n:=0-(n+1)) (by omega) (by omega),wu64 (n:=0-(n+1)) (by omega) (by omega),wu64 (n:=(0-(n+1))*2) (by omega) (by omega),wu64 (by omega) (by omega)];unfold zigN;rw[if_neg (by omega)];omega
 .obtain⟨h0,h1⟩:=hn;rw[wu64 (n:=n) (by omega) (by omega),wu64 (by omega) (by omega)];unfold zigN;rw[if_pos (by omega)];omega
 rintro-_ h3 ⟨rfl,rfl⟩;have hs:St h3 h3 [.sl ⟨none,0,0⟩ 5 1 (([]:List Int).map u8C)]:=(St.refl h3).nil_ 5 1;refine⟨fun u b h' μ=>∃(v:Nat) (pre:List Int),u=(v:Int)/\μ=v/\v<18446744073709551616/\pre++venc v=encI n/\St h3 h' [.sl b 5 1 (pre.map u8C)],⟨_,zigN n,[],rfl,rfl,hz,rfl,hs⟩,?_⟩;clear hs;rintro-_ b2 h6 μ ⟨v,pre,rfl,hμ,hv,he,hs⟩;have hlen:=(hs.rows 0 (s:=b2) (cs:=u8C) rfl (by omega)).ln;have hpl:pre.length<=10:=by
  have h1:=congrArg List.length he;rw[Yh] at h1;have h2:=encI_len hn;omega
 refine sBi (fun c=>?_) (fun c=>?_)
 .have hv1:¬v<128:=by omega
  rw[venc_ge hv1] at he;have eb:IntKind.wrap .u8 (IntKind.wrap .u8 (Int.tmod (v:Int) 128)+128)=((v%128+128:Nat):Int):=by
   rw[show Int.tmod (v:Int) 128=((v%128:Nat):Int) from rfl,wu8 (n:=((v%128:Nat):Int)) (by omega) (by omega),wu8 (by omega) (by omega)];omega
  rw[eb];refine⟨by decide,?_⟩;refine hs.app 0 (s:=b2) (rows:=pre.map u8C) rfl app48 (m:=1) [[.int .u8 ((v%128+128:Nat):Int)]] rfl rfl (by simp) rfl (by omega) (by simp only[maxLen];omega) fun s8 h9 ns hs=>?_;refine⟨by decide,v/128,by omega,v/128,pre++[((v%128+128:Nat):Int)],?_,rfl,by omega,by rw[Yz];exact he,?_⟩
  .rw[show Int.tdiv (v:Int) 128=((v/128:Nat):Int) from rfl,wu64 (by omega) (by omega)]
  .rw[Ym];exact hs
 .have hv1:v<128:=by omega
  rw[venc_lt hv1] at he;rw[wu8 (n:=(v:Int)) (by omega) (by omega)];refine hs.app 0 (s:=b2) (rows:=pre.map u8C) rfl app48 (m:=1) [[.int .u8 (v:Int)]] rfl rfl (by simp) rfl (by omega) (by simp only[maxLen];omega) fun s12 h13 ns hs=>?_;refine⟨s12,rfl,?_⟩;rw[<-he,Ym];exact hs
def RdVB (h0:Heap) (ty r:Nat) (s:Sl) (B:List Int) (L:List It) (x:Option (Bool × List Int)) (v:Value) (h':Heap):Prop:=∃n:Bool,v=.bool n/\Rds h0 h' ty r s B (x.map Prod.snd) L/\∀q,x=some q->n=q.1
def RdZB (h0:Heap) (ty r:Nat) (s:Sl) (B:List Int) (L:List It) (x:Option (Bool × List Int)) (v:Value) (h':Heap):Prop:=v=.bool ((x.map Prod.fst).getD false)/\Rds h0 h' ty r s B (x.map Prod.snd) L
theorem nb0 {h':Heap} {s8:Sl} {x:Int} {F:Nat->Nat->Prop} (hR:Rw h' 1 s8 ([x].map u8C)) (hF:∀b o,hc h' ⟨b,o+Int.toNat 0*1,none⟩=some (.int .u8 x)->F b o):NB s8.a fun b o=>(0<=(0:Int)/\(0:Int)<(s8.n:Nat))/\F b o:=by
 refine hR.nbI (x:=0) (by decide) (by rw[hR.ln];show (0:Int)<1;decide) fun b o d gd t=>hF b o ?_;injection gd with gd;rw[gd];exact t.hd
theorem boolean146 (r:Nat) (s:Sl) (B:List Int) (k:Nat) (h0 h:Heap) (L:List It) (hB:RL h0 1 s u8C B) (hb:Byt B) (hk:k<=B.length) (hs:St h0 h (.blk r (rdC s k false) 203::L)) :
  Fn Pz 146 #[.pointer (some ⟨r,0,none⟩)] h (RdVB h0 203 r s B L (rBo (B.drop k))):=by
 apply vc146 _;unfold W146 V146a;refine (next167 r s B k h0 h L hB hk hs).mono ?_;rintro _ h3 (⟨x,gx,s8,rfl,hR,hs⟩ | ⟨he,s8,rfl,hs⟩)
 .have hx:=hb x (Yb gx);have hkl:k+1<=B.length:=(Ya.1 gx).1;have er:rBo (B.drop k)=if x<=1 then some (x==1,B.drop (k+1)) else none:=by rw[dropG gx];rfl
  refine⟨s8,rfl,false,hs.rd 0 rfl (i:=2) rfl,sB_f rfl ?_⟩;refine nb0 (hR.rw.ext hs.ext) fun b o t=>⟨x,t,?_⟩;refine hs.put 0 rfl (o:=2) (vs:=[.bool (decide (x>1))]) rfl (Yyt 3) fun h13 hs=>?_;refine⟨decide (x>1),hs.rd 0 rfl (i:=2) rfl,?_⟩;by_cases c:x>1
  .rw[decide_eq_true c] at hs ⊢;refine sB_f rfl ?_;have e:rBo (B.drop k)=none:=by rw[er,if_neg (by omega)]
   exact⟨false,rfl,Rds.bad hkl hs (by rw[e];rfl),fun q hq=>by rw[e] at hq;cases hq⟩
  .rw[decide_eq_false c] at hs ⊢;refine sB_t rfl (nb0 (hR.rw.ext hs.ext) fun b o t=>⟨x,t,?_⟩);have e:rBo (B.drop k)=some (x==1,B.drop (k+1)):=by rw[er,if_pos (by omega)]
   exact⟨x==1,rfl,Rds.ok hkl hs (by rw[e];rfl),fun q hq=>by rw[e] at hq;injection hq with hq;rw[<-hq]⟩
 .have e:rBo (B.drop k)=none:=by rw[he,List.drop_length];rfl
  refine⟨s8,rfl,true,hs.rd 0 rfl (i:=2) rfl,sB_t rfl ?_⟩;refine hs.put 0 rfl (o:=2) (vs:=[.bool true]) rfl (Yyt 3) fun h5 hs=>?_;refine⟨true,hs.rd 0 rfl (i:=2) rfl,sB_f rfl ?_⟩;exact⟨false,rfl,Rds.bad hk hs (by rw[e];rfl),fun q hq=>by rw[e] at hq;cases hq⟩
theorem part145 {g:FuncId} {fa fc:Array Value} (hg:callable Pz g=true) (x:List Int->Option (Bool × List Int)) (r:Nat) (s:Sl) (B:List Int) (h0 h:Heap) (o:Option (List Int)) (L:List It) (hr:Rds h0 h 203 r s B o L)
  (hread:∀k,k<=B.length->St h0 h (.blk r (rdC s k false) 203::L)->Fn Pz g (fa ++ #[]++fc) h (RdVB h0 203 r s B L (x (B.drop k)))) :
  Fn Pz 145 #[.pointer (some ⟨r,0,none⟩),.func (.func g) fa fc] h (RdZB h0 203 r s B L (o.bind x)):=by
 apply vc145 _ _;unfold W145 V145a;obtain⟨k,hk,hs,ho⟩:=hr;refine⟨o.isNone,hs.rd 0 rfl (i:=2) rfl,?_⟩;cases o with
 | none=>exact⟨rfl,k,hk,hs,fun l hl=>by cases hl⟩
 | some l=>
  refine⟨(k:Int),hs.rd 0 rfl (i:=1) rfl,?_⟩;have el:=ho l rfl;subst el;simp only[hg,cond];refine (hread k hk hs).mono ?_;rintro _ h8 ⟨n,rfl,⟨k',hk',hs,ho'⟩,hv⟩;refine⟨n,rfl,_,hs.rd 0 rfl (i:=2) rfl,?_⟩;show sB (Option.map Prod.snd (x (B.drop k))).isNone _ _;show sB _ (okAt h8 ⟨r,0+1,none⟩ 1/\∀h10:Heap,h10=hputs h8 ⟨r,0+1,none⟩ 0 [.int .i64 (k:Int)]->RdZB h0 203 r s B L (x (B.drop k)) (.bool false) h10) (RdZB h0 203 r s B L (x (B.drop k)) (.bool n) h8);cases hx:x (B.drop k) with
  | none=>
   rw[hx] at hs;refine hs.put 0 rfl (o:=1) (vs:=[.int .i64 (k:Int)]) rfl (show 2<=3 by decide) fun h10 hs=>?_;exact⟨rfl,Rds.bad hk hs rfl⟩
  | some q=>
   rw[hx] at hs ho';exact⟨by rw[hv q hx];rfl,k',hk',hs,ho'⟩
theorem call146:callable Pz 146=true:=by kernel_rfl
theorem bool85 (r:Nat) (s:Sl) (B:List Int) (h0 h:Heap) (o:Option (List Int)) (L:List It) (hB:RL h0 1 s u8C B) (hb:Byt B) (hr:Rds h0 h 203 r s B o L) :
  Fn Pz 85 #[.pointer (some ⟨r,0,none⟩)] h (RdZB h0 203 r s B L (o.bind rBo)):=by
 apply vc85 _;unfold W85;refine (part145 (fa:=#[.pointer (some ⟨r,0,none⟩)]) (fc:=#[]) call146 rBo r s B h0 h o L hr fun k hk hs=>boolean146 r s B k h0 h L hB hb hk hs).mono ?_;rintro _ h' ⟨rfl,hz⟩;exact⟨_,rfl,rfl,hz⟩
theorem refBool90 (r:Nat) (s:Sl) (B:List Int) (h0 h:Heap) (o:Option (List Int)) (L:List It) (hB:RL h0 1 s u8C B) (hb:Byt B) (hr:Rds h0 h 139 r s B o L) :
  Fn Pz 90 #[.pointer (some ⟨r,0,none⟩)] h (RdZB h0 139 r s B L (o.bind rBo)):=by
 apply vc90 _;unfold W90;have hn:=hB.ln;have hsm:=hB.sm;obtain⟨k,hk,hs,ho⟩:=hr;have bad:∀ {f:Bool},o.bind rBo=none->St h0 h (.blk r (rdC s k f) 139::L)->okAt h ⟨r,0+2,none⟩ 1/\∀h2:Heap,h2=hputs h ⟨r,0+2,none⟩ 0 [.bool true]->RdZB h0 139 r s B L (o.bind rBo) (.bool false) h2:=fun {f} e hs=>by
  refine hs.put 0 rfl (o:=2) (vs:=[.bool true]) rfl (Yyt 3) fun h2 hs=>?_;exact⟨by rw[e];rfl,Rds.bad hk hs (by rw[e];rfl)⟩
 refine⟨o.isNone,hs.rd 0 rfl (i:=2) rfl,?_⟩;cases o with
 | none=>exact sB_t rfl (bad rfl hs)
 | some l=>
  have el:=ho l rfl;subst el;refine sB_f rfl ?_;refine⟨(k:Int),hs.rd 0 rfl (i:=1) rfl,s,hs.rd 0 rfl (i:=0) rfl,sBi (fun c=>?_) (fun c=>?_)⟩
  .refine bad ?_ hs;show rBo (B.drop k)=none;rw[List.drop_eq_nil_of_le (by omega)];rfl
  .obtain⟨x,gx⟩:∃x,B[k]?=some x:=⟨B[k],Yi (by omega)⟩;have hx:=hb x (Yb gx);have hkl:k+1<=B.length:=(Ya.1 gx).1;have er:rBo (B.drop k)=if x<=1 then some (x==1,B.drop (k+1)) else none:=by rw[dropG gx];rfl
   refine⟨s,hs.rd 0 rfl (i:=0) rfl,(k:Int),hs.rd 0 rfl (i:=1) rfl,?_⟩;refine (hB.rw.ext hs.ext).nbI (by omega) (by omega) fun b o y gy t=>?_;replace gy:B[k]?=some y:=gy;rw[gx] at gy;injection gy with gy;subst gy;refine⟨x,t.hd,sBi (fun c2=>bad (by show rBo (B.drop k)=none;rw[er,if_neg (by omega)]) hs) (fun c2=>?_)⟩;refine⟨(k:Int),hs.rd 0 rfl (i:=1) rfl,?_⟩;rw[w64 (n:=(k:Int)+1) (by omega) (by omega)];refine hs.put 0 rfl (o:=1) (vs:=[.int .i64 ((k:Int)+1)]) rfl (show 2<=3 by decide) fun h13 hs=>?_;replace hs:St h0 h13 (.blk r (rdC s (k+1) false) 139::L):=hs;refine⟨s,hs.rd 0 rfl (i:=0) rfl,((k+1:Nat):Int),hs.rd 0 rfl (i:=1) rfl,?_⟩;rw[show ((k+1:Nat):Int)-1=(k:Int) by omega,w64 (n:=(k:Int)) (by omega) (by omega)];refine (hB.rw.ext hs.ext).nbI (by omega) (by omega) fun b2 o2 y gy t=>?_;replace gy:B[k]?=some y:=gy;rw[gx] at gy;injection gy with gy;subst gy;have e:(some (B.drop k)).bind rBo=some (x==1,B.drop (k+1)):=by show rBo (B.drop k)=_;rw[er,if_pos (by omega)]
   refine⟨x,t.hd,?_⟩;rw[e];exact⟨rfl,Rds.ok hkl hs rfl⟩
theorem bool79 (b:Sl) (xs:List Int) (v:Bool) (h0 h:Heap) (L:List It) (hs:St h0 h (.sl b 5 1 (xs.map u8C)::L)) (hl:xs.length<=100000000) :
  Fn Pz 79 #[.slice b.a b.n b.c,.bool v] h fun w h'=>∃b':Sl,w=.slice b'.a b'.n b'.c/\St h0 h' (.sl b' 5 1 ((xs++encB v).map u8C)::L):=by
 apply vc79 b v;unfold W79;have hlen:=(hs.rows 0 (s:=b) (cs:=u8C) rfl (by decide)).ln;cases v with
 | true=>
  refine sB_t rfl ?_;refine hs.app 0 (s:=b) (rows:=xs.map u8C) rfl app48 (m:=1) [[.int .u8 1]] rfl rfl (by simp) rfl (by omega) (by simp only[maxLen];omega) fun s2 h3 ns hs=>?_;exact⟨s2,rfl,by rw[Ym];exact hs⟩
 | false=>
  refine sB_f rfl ?_;refine hs.app 0 (s:=b) (rows:=xs.map u8C) rfl app48 (m:=1) [[.int .u8 0]] rfl rfl (by simp) rfl (by omega) (by simp only[maxLen];omega) fun s2 h3 ns hs=>?_;exact⟨s2,rfl,by rw[Ym];exact hs⟩
theorem refBool93 (v:Bool) (h:Heap):Fn Pz 93 #[.bool v] h fun w h'=>∃b:Sl,w=.slice b.a b.n b.c/\St h h' [.sl b 5 1 ((encB v).map u8C)]:=by
 apply vc93 v;unfold W93;cases v with
 | true=>exact sB_t rfl ((St.refl h).newb fun h1 hs=>⟨⟨some ⟨h.size,0,none⟩,1,1⟩,rfl,hs.blkS 1 1 ([(1:Int)].map u8C) rfl (u8rows _) rfl (by decide)⟩)
 | false=>exact sB_f rfl ((St.refl h).newb fun h1 hs=>⟨⟨some ⟨h.size,0,none⟩,1,1⟩,rfl,hs.blkS 1 1 ([(0:Int)].map u8C) rfl (u8rows _) rfl (by decide)⟩)
end Go.VC
end

section
namespace Go.VC
open Go.Proofs Go.LexS Go.RowKit
theorem St.smbL {h0 h h1 h':Heap} {L L':List It} (hs:St h0 h L) (hs':St h1 h' L') (k k':Nat) {b:Nat} {xs:List Value} {e:TypeId} (hk:L[k]?=some (.blk b xs e)) (hk':L'[k']?=some (.blk b xs e)) (os:List Nat):Sm (os.map fun o=>(⟨b,o,none⟩:Addr)) h h':=by
 intro a ha i v hv;obtain⟨o,_,rfl⟩:=Yp.1 ha;exact hs.smbO hs' k k' o hk hk' _ (Ye.2 rfl) i v hv
open Classical in
noncomputable def encS (m:Mch):List Int:=if VM m then sealB (bodyM m) else []
theorem encS_no {m:Mch} (h:¬VM m):encS m=[]:=if_neg h
theorem encS_yes {m:Mch} (h:VM m):encS m=sealB (bodyM m):=if_pos h
def EncV (m:Mch) (h:Heap) (v:Value) (h':Heap):Prop:=∃s:Sl,v=.slice s.a s.n s.c/\St h h' [.sl s 5 1 ((encS m).map u8C)]
def hdM (m:Mch):List Int:=magicM++encI m.role++encI m.n++encI m.s
def hdM2 (m:Mch):List Int:=hdM m++m.fin.flatMap encB++encI m.mv.length
def hdM3 (m:Mch):List Int:=hdM2 m++m.mv.flatMap encMv++encI m.li.length
theorem bodyM_eq (m:Mch):bodyM m=hdM3 m++m.li.flatMap encTo:=by
 unfold bodyM encM hdM3 hdM2 hdM;simp only[Yz]
theorem take_flat {α:Type} {l:List α} {i:Nat} {x:α} (g:l[i]?=some x) (f:α->List Int):(l.take (i+1)).flatMap f=(l.take i).flatMap f++f x:=by
 rw[take_snoc g,List.flatMap_append,List.flatMap_cons,List.flatMap_nil,Yw]
theorem I64Mc.hd {m:Mch} (h:I64Mc m):(hdM m).length<=35:=by
 have hn:=h.n;have h1:=encI_len h.r;have h2:=encI_len (n:=m.n) ⟨by omega,by omega⟩;have h3:=encI_len h.s;have e:magicM.length=5:=rfl;unfold hdM;simp only[Yh];omega
theorem I64Mc.f1 {m:Mch} (h:I64Mc m) (i:Nat):((m.fin.take i).flatMap encB).length<=200:=by
 have h1:=flat_len (f:=encB) (c:=1) (m.fin.take i) fun b _=>Yyt 1;have h2:(m.fin.take i).length<=m.fin.length:=by rw[Yu];omega
 have:=h.f;have:=h.n;omega
theorem I64Mc.f2 {m:Mch} (h:I64Mc m) (i:Nat):((m.mv.take i).flatMap encMv).length<=16800:=by
 have h1:=flat_len (f:=encMv) (c:=42) (m.mv.take i) fun x hx=>encMv_len (h.m.2 x (List.mem_of_mem_take hx));have h2:(m.mv.take i).length<=m.mv.length:=by rw[Yu];omega
 have:=h.m.1;omega
theorem I64Mc.f3 {m:Mch} (h:I64Mc m) (i:Nat):((m.li.take i).flatMap encTo).length<=6000:=by
 have h1:=flat_len (f:=encTo) (c:=30) (m.li.take i) fun x hx=>encTo_len (h.l.2 x (List.mem_of_mem_take hx));have h2:(m.li.take i).length<=m.li.length:=by rw[Yu];omega
 have:=h.l.1;omega
theorem I64Mc.hd2 {m:Mch} (h:I64Mc m):(hdM2 m).length<=245:=by
 have h1:=h.hd;have h2:=h.f1 m.fin.length;rw[Yye] at h2;have h3:=encI_len (I64.nat (n:=m.mv.length) (by have:=h.m.1;omega));unfold hdM2;simp only[Yh];omega
theorem I64Mc.hd3 {m:Mch} (h:I64Mc m):(hdM3 m).length<=17055:=by
 have h1:=h.hd2;have h2:=h.f2 m.mv.length;rw[Yye] at h2;have h3:=encI_len (I64.nat (n:=m.li.length) (by have:=h.l.1;omega));unfold hdM3;simp only[Yh];omega
theorem encode42 (m:Mch) (sf sm sl:Sl) (h:Heap) (hM:MI h m sf sm sl):Fn Pz 42 #[.agg ⟨mC m sf sm sl⟩] h (EncV m h):=by
 apply vc42 m.role m.n m.s sf sm sl;unfold W42;have hfn:=hM.pf.ln;have hmn:=hM.pm.ln;have hln:=hM.pl.ln;refine (St.refl h).newb fun h7 hs=>?_;refine⟨m.role,m.n,m.s,sf,sm,sl,hs.at 0 rfl (o:=0) (n:=6) rfl,?_⟩;refine (valid23 m sf sm sl h7 (hM.ext hs.ext)).mono ?_;rintro _ h16 ⟨⟨b0,rfl,hb0⟩,E⟩;have hs:=hs.step E;refine⟨_,rfl,sB_intro (fun c=>?_) (fun c=>?_)⟩
 .exact⟨⟨none,0,0⟩,rfl,by rw[encS_no (iff_f hb0 (bF c))];exact (hs.drop 1).nil_ 5 1⟩
 have hV:VM m:=hb0.1 (bT c);have hI:=hV.i64;have hN:=hI.n;have hF:=hI.f;have hM1:=hI.m.1;have hL1:=hI.l.1;have hn64:I64 m.n:=⟨by omega,by omega⟩;have hhd:=hI.hd;have hhd2:=hI.hd2;have hhd3:=hI.hd3;have l1:=encI_len hI.r;have l2:=encI_len hn64;refine⟨m.role,hs.rd 0 rfl (i:=0) rfl,m.n,hs.rd 0 rfl (i:=1) rfl,m.s,hs.rd 0 rfl (i:=2) rfl,?_⟩;have hs1:=hs;refine hs.newb fun h20 hs=>?_;refine⟨hs1.smbL hs 0 1 rfl rfl [2,1,0],?_⟩;refine (cvS hs 5).mono ?_;rintro _ h23 ⟨rfl,hs2,hat,-⟩;refine⟨⟨some ⟨h16.size,0,none⟩,5,5⟩,rfl,hs.smbL hs2 1 0 rfl rfl [2,1,0],?_⟩;refine (int69F ⟨h16.size,0,none⟩ magicM m.role h h23 _ hs2 hat hI.r (by decide)).mono ?_;rintro _ h26 ⟨b1,rfl,hs3⟩;refine⟨b1,rfl,hs2.smbL hs3 0 1 rfl rfl [2,1],?_⟩;have e5:magicM.length=5:=rfl;refine (int65 b1 _ m.n h h26 _ hs3 hn64 (by simp only[Yh];omega)).mono ?_;rintro _ h29 ⟨b2,rfl,hs4⟩;refine⟨b2,rfl,hs3.smbL hs4 1 1 rfl rfl [2],?_⟩;refine (int65 b2 _ m.s h h29 _ hs4 hI.s (by simp only[Yh];omega)).mono ?_;rintro _ h32 ⟨b3,rfl,hs5⟩;replace hs5:St h h32 [.sl b3 5 1 ((hdM m).map u8C),.blk h.size (mC m sf sm sl) 26]:=hs5;refine⟨b3,rfl,sf,hs5.rd 1 rfl (i:=3) rfl,?_⟩;refine⟨fun b x h' μ=>∃i:Nat,x=(i:Int)/\μ=m.fin.length-i/\i<=m.fin.length/\St h h' [.sl b 5 1 ((hdM m++(m.fin.take i).flatMap encB).map u8C),.blk h.size (mC m sf sm sl) 26],⟨_,0,rfl,rfl,Nat.zero_le _,by rw[Yyk,List.flatMap_nil,Yw];exact hs5⟩,?_⟩;clear hs hs1 hs2 hs3 hs4 hs5 hat;rintro-b _ h39 μ ⟨i,rfl,rfl,hi,hs⟩;have hf1:=hI.f1 i;refine sBi (fun c=>?_) (fun c=>?_)
 .refine (hM.pf.rw.ext hs.ext).nbI (by omega) (by omega) fun b40 o41 x gx t=>?_;replace gx:m.fin[i]?=some x:=gx;refine⟨x,t.hd,?_⟩;refine (bool79 b _ x h h39 _ hs (by rw[Yh];omega)).mono ?_;rintro _ h45 ⟨b',rfl,hs⟩;refine⟨b',rfl,_,(show m.fin.length-(i+1)<m.fin.length-i by omega),i+1,by rw[w64 (by omega) (by omega)];omega,rfl,by omega,?_⟩;rw[take_flat gx,<-Yz];exact hs
 have hie:i=m.fin.length:=by omega
 subst hie;rw[Yye] at hs hf1;refine⟨sm,hs.rd 1 rfl (i:=4) rfl,?_⟩;refine (int65 b _ (sm.n:Int) h h39 _ hs (I64.nat (by omega)) (by rw[Yh];omega)).mono ?_;rintro _ h50 ⟨b4,rfl,hs⟩;rw[hmn] at hs;replace hs:St h h50 [.sl b4 5 1 ((hdM2 m).map u8C),.blk h.size (mC m sf sm sl) 26]:=hs;refine⟨b4,rfl,sm,hs.rd 1 rfl (i:=4) rfl,?_⟩;refine⟨fun b x h' μ=>∃i:Nat,x=(i:Int)/\μ=m.mv.length-i/\i<=m.mv.length/\St h h' [.sl b 5 1 ((hdM2 m++(m.mv.take i).flatMap encMv).map u8C),.blk h.size (mC m sf sm sl) 26],⟨_,0,rfl,rfl,Nat.zero_le _,by rw[Yyk,List.flatMap_nil,Yw];exact hs⟩,?_⟩;clear hs;rintro-b _ h57 μ ⟨i,rfl,rfl,hi,hs⟩;have hf2:=hI.f2 i;refine sBi (fun c=>?_) (fun c=>?_)
 .refine (hM.pm.rw.ext hs.ext).nbI (by omega) (by omega) fun b58 o59 x gx t=>?_;replace gx:m.mv[i]?=some x:=gx;obtain⟨x1,x2,x3,x4⟩:=hI.m.2 x (Yb gx);have y1:=encI_len x1;have y2:=encI_len x2;have y3:=encI_len x3;have y4:=encI_len x4;refine⟨x.f,x.send,x.peer,x.label,x.t,x.ag,t,?_⟩;refine hs.newput (vs:=x.cs) rfl rfl fun h67 hs=>?_;refine⟨x.f,hs.rd 0 rfl (i:=0) rfl,x.send,hs.rd 0 rfl (i:=1) rfl,x.peer,hs.rd 0 rfl (i:=2) rfl,x.label,hs.rd 0 rfl (i:=3) rfl,?_⟩;have k0:=hs.swap;have hX:(hdM2 m++(m.mv.take i).flatMap encMv).length<=20000:=by rw[Yh];omega
  have eX:hdM2 m++(m.mv.take (i+1)).flatMap encMv=hdM2 m++(m.mv.take i).flatMap encMv++encI x.f++encB x.send++encI x.peer++encI x.label++encI x.t++encB x.ag:=by
   rw[take_flat gx];unfold encMv;simp only[Yz]
  clear hs;generalize hdM2 m++(m.mv.take i).flatMap encMv=X at *;refine (int65 b X x.f h h67 _ k0 x1 (by omega)).mono ?_;rintro _ h74 ⟨c1,rfl,k1⟩;refine⟨c1,rfl,k0.smbL k1 1 1 rfl rfl [3,2,1],?_⟩;refine (bool79 c1 _ x.send h h74 _ k1 (by simp only[Yh,encB_len];omega)).mono ?_;rintro _ h77 ⟨c2,rfl,k2⟩;refine⟨c2,rfl,k1.smbL k2 1 1 rfl rfl [3,2],?_⟩;refine (int65 c2 _ x.peer h h77 _ k2 x2 (by simp only[Yh,encB_len];omega)).mono ?_;rintro _ h80 ⟨c3,rfl,k3⟩;refine⟨c3,rfl,k2.smbL k3 1 1 rfl rfl [3],?_⟩;refine (int65 c3 _ x.label h h80 _ k3 x3 (by simp only[Yh,encB_len];omega)).mono ?_;rintro _ h83 ⟨c4,rfl,k4⟩;refine⟨c4,rfl,x.t,k4.rd 1 rfl (i:=4) rfl,x.ag,k4.rd 1 rfl (i:=5) rfl,?_⟩;refine (int65 c4 _ x.t h h83 _ k4 x4 (by simp only[Yh,encB_len];omega)).mono ?_;rintro _ h88 ⟨c5,rfl,k5⟩;refine⟨c5,rfl,k4.smbL k5 1 1 rfl rfl [5],?_⟩;refine (bool79 c5 _ x.ag h h88 _ k5 (by simp only[Yh,encB_len];omega)).mono ?_;rintro _ h91 ⟨c6,rfl,k6⟩;refine⟨c6,rfl,_,(show m.mv.length-(i+1)<m.mv.length-i by omega),i+1,by rw[w64 (by omega) (by omega)];omega,rfl,by omega,?_⟩;rw[eX];exact k6.eras 1
 have hie:i=m.mv.length:=by omega
 subst hie;rw[Yye] at hs hf2;refine⟨sl,hs.rd 1 rfl (i:=5) rfl,?_⟩;refine (int65 b _ (sl.n:Int) h h57 _ hs (I64.nat (by omega)) (by rw[Yh];omega)).mono ?_;rintro _ h96 ⟨b6,rfl,hs⟩;rw[hln] at hs;replace hs:St h h96 [.sl b6 5 1 ((hdM3 m).map u8C),.blk h.size (mC m sf sm sl) 26]:=hs;refine⟨b6,rfl,sl,hs.rd 1 rfl (i:=5) rfl,?_⟩;refine⟨fun b x h' μ=>∃i:Nat,x=(i:Int)/\μ=m.li.length-i/\i<=m.li.length/\St h h' [.sl b 5 1 ((hdM3 m++(m.li.take i).flatMap encTo).map u8C),.blk h.size (mC m sf sm sl) 26],⟨_,0,rfl,rfl,Nat.zero_le _,by rw[Yyk,List.flatMap_nil,Yw];exact hs⟩,?_⟩;clear hs;rintro-b _ h103 μ ⟨i,rfl,rfl,hi,hs⟩;have hf3:=hI.f3 i;refine sBi (fun c=>?_) (fun c=>?_)
 .refine (hM.pl.rw.ext hs.ext).nbI (by omega) (by omega) fun b104 o105 x gx t=>?_;replace gx:m.li[i]?=some x:=gx;obtain⟨x1,x2,x3⟩:=hI.l.2 x (Yb gx);have y1:=encI_len x1;have y2:=encI_len x2;have y3:=encI_len x3;refine⟨x.s,x.k,x.e,t,?_⟩;refine hs.newput (vs:=x.cs) rfl rfl fun h110 hs=>?_;refine⟨x.s,hs.rd 0 rfl (i:=0) rfl,x.k,hs.rd 0 rfl (i:=1) rfl,x.e,hs.rd 0 rfl (i:=2) rfl,?_⟩;have k0:=hs.swap;have hX:(hdM3 m++(m.li.take i).flatMap encTo).length<=25000:=by rw[Yh];omega
  have eX:hdM3 m++(m.li.take (i+1)).flatMap encTo=hdM3 m++(m.li.take i).flatMap encTo++encI x.s++encI x.k++encI x.e:=by
   rw[take_flat gx];unfold encTo;simp only[Yz]
  clear hs;generalize hdM3 m++(m.li.take i).flatMap encTo=X at *;refine (int65 b X x.s h h110 _ k0 x1 (by omega)).mono ?_;rintro _ h116 ⟨c1,rfl,k1⟩;refine⟨c1,rfl,k0.smbL k1 1 1 rfl rfl [2,1],?_⟩;refine (int65 c1 _ x.k h h116 _ k1 x2 (by simp only[Yh];omega)).mono ?_;rintro _ h119 ⟨c2,rfl,k2⟩;refine⟨c2,rfl,k1.smbL k2 1 1 rfl rfl [2],?_⟩;refine (int65 c2 _ x.e h h119 _ k2 x3 (by simp only[Yh];omega)).mono ?_;rintro _ h122 ⟨c3,rfl,k3⟩;refine⟨c3,rfl,_,(show m.li.length-(i+1)<m.li.length-i by omega),i+1,by rw[w64 (by omega) (by omega)];omega,rfl,by omega,?_⟩;rw[eX];exact k3.eras 1
 have hie:i=m.li.length:=by omega
 subst hie;rw[Yye,<-bodyM_eq] at hs;have hbl:=bodyM_len hI;refine (seal70 b _ h103 (hs.rl 0 rfl (by decide) (by omega)) (bodyM_byt m)).mono ?_;rintro _ h126 ⟨s38,rfl,hs1⟩;exact⟨s38,rfl,s38,rfl,by rw[encS_yes hV];exact (hs.join hs1).drop 2⟩
theorem appI {h0 hX:Heap} {L:List It} {s y:Sl} {X Y:List Int} (hs:St h0 hX L) (j k:Nat) (hj:L[j]?=some (.sl s 5 1 (X.map u8C))) (hk:L[k]?=some (.sl y 5 1 (Y.map u8C))) (hX1:X.length<=100000) (hY1:Y.length<=100000) {K:Sl->Heap->Prop}
  (hK:∀(r:Sl) (h':Heap),St h0 h' (L.set j (.sl r 5 1 ((X++Y).map u8C)))->K r h'):App Pz 65 65 (.slice s.a s.n s.c) (.slice y.a y.n y.c) hX K:=by
 have h1:=(hs.rows j (s:=s) (cs:=u8C) hj (by decide)).ln;have h2:=hs.rows k (s:=y) (cs:=u8C) hk (by decide);have h2n:=h2.ln;refine hs.appRw j (s:=s) (y:=y) hj app48 h2 (u8rows _) (hs.len k (s:=y) (e:=5) (n:=1) hk (by decide)).2.2 (oneU _) (by omega) (by simp only[maxLen];omega) fun r h' ns hs=>hK r h' ?_;rw[Ym];exact hs
theorem refEncode45 (m:Mch) (sf sm sl:Sl) (h:Heap) (hM:MI h m sf sm sl):Fn Pz 45 #[.agg ⟨mC m sf sm sl⟩] h (EncV m h):=by
 apply vc45 m.role m.n m.s sf sm sl;unfold W45 V45a;have hfn:=hM.pf.ln;have hmn:=hM.pm.ln;have hln:=hM.pl.ln;refine (St.refl h).newb fun h7 hs=>?_;refine⟨m.role,m.n,m.s,sf,sm,sl,hs.at 0 rfl (o:=0) (n:=6) rfl,?_⟩;refine (refValid24 m sf sm sl h7 (hM.ext hs.ext)).mono ?_;rintro _ h16 ⟨⟨b0,rfl,hb0⟩,E⟩;have hs:=hs.step E;refine⟨_,rfl,sB_intro (fun c=>?_) (fun c=>?_)⟩
 .exact⟨⟨none,0,0⟩,rfl,by rw[encS_no (iff_f hb0 (bF c))];exact (hs.drop 1).nil_ 5 1⟩
 have hV:VM m:=hb0.1 (bT c);have hI:=hV.i64;have hN:=hI.n;have hF:=hI.f;have hM1:=hI.m.1;have hL1:=hI.l.1;have hn64:I64 m.n:=⟨by omega,by omega⟩;have hhd:=hI.hd;have hhd2:=hI.hd2;have hhd3:=hI.hd3;have l1:=encI_len hI.r;have l2:=encI_len hn64;have l3:=encI_len hI.s;have l4:=encI_len (I64.nat (n:=m.mv.length) (by omega));have l5:=encI_len (I64.nat (n:=m.li.length) (by omega));have e5:magicM.length=5:=rfl;refine hs.newb fun h17 hs=>?_;refine (cvS hs 5).mono ?_;rintro _ h20 ⟨rfl,hs,hat,-⟩;refine⟨⟨some ⟨h16.size,0,none⟩,5,5⟩,rfl,m.role,hs.rd 0 rfl (i:=0) rfl,?_⟩;refine (refInt83 m.role _ hI.r).mono ?_;rintro _ h24 ⟨b1,rfl,hs1⟩;have hat:=atC_ext' hs1.ext hat;have hs:=hs.join hs1;have r1:=hs.rl 1 (s:=b1) (cs:=u8C) rfl (by decide) (by omega);have r1l:=r1.ln;have p1:0<(encI m.role).length:=List.length_pos_iff.2 encI_pos;obtain⟨bb,oo,ha,hat1⟩:=r1.flat8 p1;refine⟨b1,rfl,?_⟩;show App Pz 65 65 _ (.slice b1.a b1.n b1.c) _ _;rw[ha];refine App_fullU (xs:=magicM) hs hat rfl hat1 r1l (by show 5<5+b1.n;omega) (by show 5+b1.n<=_;omega) fun s12 h26 n12 hs=>?_;replace n12:s12.n=5+b1.n:=n12;have hs:St h h26 [.sl s12 5 1 ((magicM++encI m.role).map u8C),.blk h.size (mC m sf sm sl) 26]:=hs.eras 2;refine⟨m.n,hs.rd 1 rfl (i:=1) rfl,?_⟩;refine (refInt83 m.n _ hn64).mono ?_;rintro _ h30 ⟨b2,rfl,hs2⟩;have hs:=hs.join hs2;refine⟨b2,rfl,appI hs 0 2 rfl rfl (by rw[Yh];omega) (by omega) fun s18 h32 hs=>?_⟩;have hs:=hs.eras 2;refine⟨m.s,hs.rd 1 rfl (i:=2) rfl,?_⟩;refine (refInt83 m.s _ hI.s).mono ?_;rintro _ h36 ⟨b3,rfl,hs2⟩;have hs:=hs.join hs2;refine⟨b3,rfl,appI hs 0 2 rfl rfl (by simp only[Yh];omega) (by omega) fun s37 h38 hs=>?_⟩;have hs:St h h38 [.sl s37 5 1 ((hdM m).map u8C),.blk h.size (mC m sf sm sl) 26]:=hs.eras 2;refine⟨fun b x h' μ=>∃i:Nat,x=(i:Int)/\μ=m.fin.length-i/\i<=m.fin.length/\St h h' [.sl b 5 1 ((hdM m++(m.fin.take i).flatMap encB).map u8C),.blk h.size (mC m sf sm sl) 26],⟨_,0,rfl,rfl,Nat.zero_le _,by rw[Yyk,List.flatMap_nil,Yw];exact hs⟩,?_⟩;clear hs;rintro-b _ h44 μ ⟨i,rfl,rfl,hi,hs⟩;have hf1:=hI.f1 i;refine⟨sf,hs.rd 1 rfl (i:=3) rfl,sBi (fun c=>?_) (fun c=>?_)⟩
 .refine⟨sf,hs.rd 1 rfl (i:=3) rfl,?_⟩;refine (hM.pf.rw.ext hs.ext).nbI (by omega) (by omega) fun b40 o41 x gx t=>?_;replace gx:m.fin[i]?=some x:=gx;refine⟨x,t.hd,?_⟩;refine (refBool93 x h44).mono ?_;rintro _ h52 ⟨y,rfl,hs2⟩;have hs:=hs.join hs2;refine⟨y,rfl,appI hs 0 2 rfl rfl (by rw[Yh];omega) (by rw[encB_len];omega) fun s53 h54 hs=>?_⟩;refine⟨_,(show m.fin.length-(i+1)<m.fin.length-i by omega),i+1,by rw[w64 (by omega) (by omega)];omega,rfl,by omega,?_⟩;rw[take_flat gx,<-Yz];exact hs.eras 2
 have hie:i=m.fin.length:=by omega
 subst hie;rw[Yye] at hs hf1;refine⟨sm,hs.rd 1 rfl (i:=4) rfl,?_⟩;rw[hmn];refine (refInt83 (m.mv.length:Int) _ (I64.nat (by omega))).mono ?_;rintro _ h59 ⟨y,rfl,hs2⟩;have hs:=hs.join hs2;refine⟨y,rfl,appI hs 0 2 rfl rfl (by rw[Yh];omega) (by omega) fun s60 h61 hs=>?_⟩;have hs:St h h61 [.sl s60 5 1 ((hdM2 m).map u8C),.blk h.size (mC m sf sm sl) 26]:=hs.eras 2;refine⟨fun b x h' μ=>∃i:Nat,x=(i:Int)/\μ=m.mv.length-i/\i<=m.mv.length/\St h h' [.sl b 5 1 ((hdM2 m++(m.mv.take i).flatMap encMv).map u8C),.blk h.size (mC m sf sm sl) 26],⟨_,0,rfl,rfl,Nat.zero_le _,by rw[Yyk,List.flatMap_nil,Yw];exact hs⟩,?_⟩;clear hs;rintro-b _ h67 μ ⟨i,rfl,rfl,hi,hs⟩;have hf2:=hI.f2 i;refine⟨sm,hs.rd 1 rfl (i:=4) rfl,sBi (fun c=>?_) (fun c=>?_)⟩
 .refine⟨sm,hs.rd 1 rfl (i:=4) rfl,?_⟩;refine (hM.pm.rw.ext hs.ext).nbI (by omega) (by omega) fun b58 o59 x gx t=>?_;replace gx:m.mv[i]?=some x:=gx;obtain⟨x1,x2,x3,x4⟩:=hI.m.2 x (Yb gx);have y1:=encI_len x1;have y2:=encI_len x2;have y3:=encI_len x3;have y4:=encI_len x4;refine⟨x.f,x.send,x.peer,x.label,x.t,x.ag,t,?_⟩;refine hs.newput (vs:=x.cs) rfl rfl fun h79 hs=>?_;have hX:(hdM2 m++(m.mv.take i).flatMap encMv).length<=20000:=by rw[Yh];omega
  have eX:hdM2 m++(m.mv.take (i+1)).flatMap encMv=hdM2 m++(m.mv.take i).flatMap encMv++encI x.f++encB x.send++encI x.peer++encI x.label++encI x.t++encB x.ag:=by
   rw[take_flat gx];unfold encMv;simp only[Yz]
  have k0:St h h79 (.sl b 5 1 ((hdM2 m++(m.mv.take i).flatMap encMv).map u8C) :: .blk h67.size x.cs 81::[.blk h.size (mC m sf sm sl) 26]):=hs.swap;clear hs;generalize hdM2 m++(m.mv.take i).flatMap encMv=X at *;refine⟨x.f,k0.rd 1 rfl (i:=0) rfl,?_⟩;refine (refInt83 x.f _ x1).mono ?_;rintro _ h83 ⟨c1,rfl,q⟩;refine⟨c1,rfl,appI (k0.join q) 0 3 rfl rfl (by omega) (by omega) fun s84 h85 k=>?_⟩;have k1:=k.eras 3;clear k0 k q;refine⟨x.send,k1.rd 1 rfl (i:=1) rfl,?_⟩;refine (refBool93 x.send _).mono ?_;rintro _ h89 ⟨c2,rfl,q⟩;refine⟨c2,rfl,appI (k1.join q) 0 3 rfl rfl (by simp only[Yh,encB_len];omega) (by rw[encB_len];omega) fun s90 h91 k=>?_⟩;have k2:=k.eras 3;clear k1 k q;refine⟨x.peer,k2.rd 1 rfl (i:=2) rfl,?_⟩;refine (refInt83 x.peer _ x2).mono ?_;rintro _ h95 ⟨c3,rfl,q⟩;refine⟨c3,rfl,appI (k2.join q) 0 3 rfl rfl (by simp only[Yh,encB_len];omega) (by omega) fun s96 h97 k=>?_⟩;have k3:=k.eras 3;clear k2 k q;refine⟨x.label,k3.rd 1 rfl (i:=3) rfl,?_⟩;refine (refInt83 x.label _ x3).mono ?_;rintro _ h101 ⟨c4,rfl,q⟩;refine⟨c4,rfl,appI (k3.join q) 0 3 rfl rfl (by simp only[Yh,encB_len];omega) (by omega) fun s102 h103 k=>?_⟩;have k4:=k.eras 3;clear k3 k q;refine⟨x.t,k4.rd 1 rfl (i:=4) rfl,?_⟩;refine (refInt83 x.t _ x4).mono ?_;rintro _ h107 ⟨c5,rfl,q⟩;refine⟨c5,rfl,appI (k4.join q) 0 3 rfl rfl (by simp only[Yh,encB_len];omega) (by omega) fun s108 h109 k=>?_⟩;have k5:=k.eras 3;clear k4 k q;refine⟨x.ag,k5.rd 1 rfl (i:=5) rfl,?_⟩;refine (refBool93 x.ag _).mono ?_;rintro _ h113 ⟨c6,rfl,q⟩;refine⟨c6,rfl,appI (k5.join q) 0 3 rfl rfl (by simp only[Yh,encB_len];omega) (by rw[encB_len];omega) fun s114 h115 k=>?_⟩;refine⟨_,(show m.mv.length-(i+1)<m.mv.length-i by omega),i+1,by rw[w64 (by omega) (by omega)];omega,rfl,by omega,?_⟩;rw[eX];exact (k.eras 3).eras 1
 have hie:i=m.mv.length:=by omega
 subst hie;rw[Yye] at hs hf2;refine⟨sl,hs.rd 1 rfl (i:=5) rfl,?_⟩;rw[hln];refine (refInt83 (m.li.length:Int) _ (I64.nat (by omega))).mono ?_;rintro _ h120 ⟨y,rfl,hs2⟩;have hs:=hs.join hs2;refine⟨y,rfl,appI hs 0 2 rfl rfl (by rw[Yh];omega) (by omega) fun s121 h122 hs=>?_⟩;have hs:St h h122 [.sl s121 5 1 ((hdM3 m).map u8C),.blk h.size (mC m sf sm sl) 26]:=hs.eras 2;refine⟨fun b x h' μ=>∃i:Nat,x=(i:Int)/\μ=m.li.length-i/\i<=m.li.length/\St h h' [.sl b 5 1 ((hdM3 m++(m.li.take i).flatMap encTo).map u8C),.blk h.size (mC m sf sm sl) 26],⟨_,0,rfl,rfl,Nat.zero_le _,by rw[Yyk,List.flatMap_nil,Yw];exact hs⟩,?_⟩;clear hs;rintro-b _ h128 μ ⟨i,rfl,rfl,hi,hs⟩;have hf3:=hI.f3 i;refine⟨sl,hs.rd 1 rfl (i:=5) rfl,sBi (fun c=>?_) (fun c=>?_)⟩
 .have hil:i<m.li.length:=by omega
  obtain⟨x,gx⟩:∃x,m.li[i]?=some x:=⟨m.li[i],Yi hil⟩;obtain⟨x1,x2,x3⟩:=hI.l.2 x (Yb gx);have y1:=encI_len x1;have y2:=encI_len x2;have y3:=encI_len x3;have hX:(hdM3 m++(m.li.take i).flatMap encTo).length<=25000:=by rw[Yh];omega
  have eX:hdM3 m++(m.li.take (i+1)).flatMap encTo=hdM3 m++(m.li.take i).flatMap encTo++encI x.s++encI x.k++encI x.e:=by
   rw[take_flat gx];unfold encTo;simp only[Yz]
  generalize hdM3 m++(m.li.take i).flatMap encTo=X at *;refine⟨sl,hs.rd 1 rfl (i:=5) rfl,?_⟩;refine (hM.pl.rw.ext hs.ext).nbI (by omega) (by omega) fun b131 o132 z gz t=>?_;replace gz:m.li[i]?=some z:=gz;rw[gx] at gz;injection gz with gz;subst gz;refine⟨x.s,t.nth 0 rfl,?_⟩;refine (refInt83 x.s _ x1).mono ?_;rintro _ h136 ⟨c1,rfl,q⟩;refine⟨c1,rfl,appI (hs.join q) 0 2 rfl rfl (by omega) (by omega) fun s137 h138 k=>?_⟩;have k1:=k.eras 2;clear hs k q;refine⟨sl,k1.rd 1 rfl (i:=5) rfl,?_⟩;refine (hM.pl.rw.ext k1.ext).nbI (by omega) (by omega) fun b140 o141 z gz t=>?_;replace gz:m.li[i]?=some z:=gz;rw[gx] at gz;injection gz with gz;subst gz;refine⟨x.k,t.nth 1 rfl,?_⟩;refine (refInt83 x.k _ x2).mono ?_;rintro _ h145 ⟨c2,rfl,q⟩;refine⟨c2,rfl,appI (k1.join q) 0 2 rfl rfl (by simp only[Yh];omega) (by omega) fun s146 h147 k=>?_⟩;have k2:=k.eras 2;clear k1 k q;refine⟨sl,k2.rd 1 rfl (i:=5) rfl,?_⟩;refine (hM.pl.rw.ext k2.ext).nbI (by omega) (by omega) fun b149 o150 z gz t=>?_;replace gz:m.li[i]?=some z:=gz;rw[gx] at gz;injection gz with gz;subst gz;refine⟨x.e,t.nth 2 rfl,?_⟩;refine (refInt83 x.e _ x3).mono ?_;rintro _ h154 ⟨c3,rfl,q⟩;refine⟨c3,rfl,appI (k2.join q) 0 2 rfl rfl (by simp only[Yh];omega) (by omega) fun s155 h156 k=>?_⟩;refine⟨_,(show m.li.length-(i+1)<m.li.length-i by omega),i+1,by rw[w64 (by omega) (by omega)];omega,rfl,by omega,?_⟩;rw[eX];exact k.eras 2
 have hie:i=m.li.length:=by omega
 subst hie;rw[Yye,<-bodyM_eq] at hs;have hbl:=bodyM_len hI;refine (seal85 b _ h128 (hs.rl 0 rfl (by decide) (by omega)) (bodyM_byt m)).mono ?_;rintro _ h160 ⟨s38,rfl,hs1⟩;exact⟨s38,rfl,s38,rfl,by rw[encS_yes hV];exact (hs.join hs1).drop 2⟩
end Go.VC
end

section
namespace Go.VC
open Go.Proofs Go.LexS Go.RowKit
def stR {α β:Type} (y:Option (β × List Int)) (f:List Int->Option (α × List Int)) (i:Nat):Option (List α × List Int):=y.bind fun q=>rMany f i q.2
theorem stR_zero {α β:Type} (y:Option (β × List Int)) (f:List Int->Option (α × List Int)):(stR y f 0).map Prod.snd=y.map Prod.snd/\∀q,stR y f 0=some q->([]:List α)=q.1:=by
 cases y with
 | none=>exact⟨rfl,fun q hq=>by cases hq⟩
 | some a=>exact⟨rfl,fun q hq=>by injection hq with hq;rw[<-hq]⟩
theorem stR_succ {α β:Type} (y:Option (β × List Int)) (f:List Int->Option (α × List Int)) (i:Nat):stR y f (i+1)=(stR y f i).bind fun p=>(f p.2).map fun q=>(p.1++[q.1],q.2):=by
 cases y<;>rfl
theorem stR_step {α β:Type} {y:Option (β × List Int)} {f:List Int->Option (α × List Int)} {i:Nat} {x:Option (α × List Int)} (hx:((stR y f i).map Prod.snd).bind f=x) :
  (stR y f (i+1)).map Prod.snd=x.map Prod.snd/\∀(X:List α) (v:α),(∀q,stR y f i=some q->X=q.1)->(∀p,x=some p->v=p.1)->∀q,stR y f (i+1)=some q->X++[v]=q.1:=by
 rw[stR_succ];cases hs:stR y f i with
 | none=>rw[hs] at hx;subst hx;exact⟨rfl,fun _ _ _ _ q hq=>by cases hq⟩
 | some a=>
  rw[hs] at hx;replace hx:f a.2=x:=hx;simp only[Option.bind_some];rw[hx];cases x with
  | none=>exact⟨rfl,fun _ _ _ _ q hq=>by cases hq⟩
  | some p=>
   refine⟨rfl,fun X v h1 h2 q hq=>?_⟩;injection hq with hq;rw[<-hq,h1 a rfl,h2 p rfl]
theorem rMv_chain {o:Option (List Int)} {x1 x3 x4 x5:Option (Int × List Int)} {x2 x6:Option (Bool × List Int)} (h1:o.bind rIq=x1) (h2:(x1.map Prod.snd).bind rBo=x2) (h3:(x2.map Prod.snd).bind rIq=x3) (h4:(x3.map Prod.snd).bind rIq=x4)
  (h5:(x4.map Prod.snd).bind rIq=x5) (h6:(x5.map Prod.snd).bind rBo=x6):o.bind rMv=x6.map fun g=>((⟨(x1.map Prod.fst).getD 0,(x2.map Prod.fst).getD false,(x3.map Prod.fst).getD 0,(x4.map Prod.fst).getD 0,(x5.map Prod.fst).getD 0,(x6.map Prod.fst).getD false⟩:Mv),g.2):=by
 cases o with
 | none=>subst h1 h2 h3 h4 h5 h6;rfl
 | some l=>
  replace h1:rIq l=x1:=h1;show rMv l=_;unfold rMv;rw[h1];cases x1 with
  | none=>subst h2 h3 h4 h5 h6;rfl
  | some a=>
   replace h2:rBo a.2=x2:=h2;simp only[Option.bind_some];rw[h2];cases x2 with
   | none=>subst h3 h4 h5 h6;rfl
   | some b=>
    replace h3:rIq b.2=x3:=h3;simp only[Option.bind_some];rw[h3];cases x3 with
    | none=>subst h4 h5 h6;rfl
    | some c=>
     replace h4:rIq c.2=x4:=h4;simp only[Option.bind_some];rw[h4];cases x4 with
     | none=>subst h5 h6;rfl
     | some d=>
      replace h5:rIq d.2=x5:=h5;simp only[Option.bind_some];rw[h5];cases x5 with
      | none=>subst h6;rfl
      | some e=>
       replace h6:rBo e.2=x6:=h6;simp only[Option.bind_some];rw[h6];cases x6<;>rfl
theorem rTo_chain {o:Option (List Int)} {x1 x2 x3:Option (Int × List Int)} (h1:o.bind rIq=x1) (h2:(x1.map Prod.snd).bind rIq=x2) (h3:(x2.map Prod.snd).bind rIq=x3) :
  o.bind rTo=x3.map fun g=>((⟨(x1.map Prod.fst).getD 0,(x2.map Prod.fst).getD 0,(x3.map Prod.fst).getD 0⟩:To),g.2):=by
 cases o with
 | none=>subst h1 h2 h3;rfl
 | some l=>
  replace h1:rIq l=x1:=h1;show rTo l=_;unfold rTo;rw[h1];cases x1 with
  | none=>subst h2 h3;rfl
  | some a=>
   replace h2:rIq a.2=x2:=h2;simp only[Option.bind_some];rw[h2];cases x2 with
   | none=>subst h3;rfl
   | some b=>
    replace h3:rIq b.2=x3:=h3;simp only[Option.bind_some];rw[h3];cases x3<;>rfl
theorem rMc_chain {B:List Int} {y1 y2 y3 y5 y7:Option (Int × List Int)} {y4:Option (List Bool × List Int)} {y6:Option (List Mv × List Int)} {y8:Option (List To × List Int)} {F:List Bool} {X:List Mv} {Z:List To}
  (h1:rIq B=y1) (h2:(y1.map Prod.snd).bind (rBd 1 200)=y2) (h3:(y2.map Prod.snd).bind rIq=y3) (h4:stR y3 rBo ((y2.map Prod.fst).getD 0).toNat=y4) (h5:(y4.map Prod.snd).bind (rBd 0 400)=y5) (h6:stR y5 rMv ((y5.map Prod.fst).getD 0).toNat=y6)
  (h7:(y6.map Prod.snd).bind (rBd 0 200)=y7) (h8:stR y7 rTo ((y7.map Prod.fst).getD 0).toNat=y8) (hF:∀q,y4=some q->F=q.1) (hX:∀q,y6=some q->X=q.1) (hZ:∀q,y8=some q->Z=q.1) :
  rMc B=y8.map fun g=>((⟨(y1.map Prod.fst).getD 0,(y2.map Prod.fst).getD 0,(y3.map Prod.fst).getD 0,F,X,Z⟩:Mch),g.2):=by
 unfold rMc rHd;rw[h1];cases y1 with
 | none=>subst h2 h3 h4 h5 h6 h7 h8;rfl
 | some a=>
  replace h2:rBd 1 200 a.2=y2:=h2;simp only[Option.bind_some];rw[h2];cases y2 with
  | none=>subst h3 h4 h5 h6 h7 h8;rfl
  | some b=>
   replace h3:rIq b.2=y3:=h3;simp only[Option.bind_some];rw[h3];cases y3 with
   | none=>subst h4 h5 h6 h7 h8;rfl
   | some c=>
    replace h4:rMany rBo b.1.toNat c.2=y4:=h4;simp only[Option.bind_some,Option.map_some];rw[h4];cases y4 with
    | none=>subst h5 h6 h7 h8;rfl
    | some d=>
     replace h5:rBd 0 400 d.2=y5:=h5;simp only[Option.bind_some];rw[h5];cases y5 with
     | none=>subst h6 h7 h8;rfl
     | some e=>
      replace h6:rMany rMv e.1.toNat e.2=y6:=h6;simp only[Option.bind_some];rw[h6];cases y6 with
      | none=>subst h7 h8;rfl
      | some f=>
       replace h7:rBd 0 200 f.2=y7:=h7;simp only[Option.bind_some];rw[h7];cases y7 with
       | none=>subst h8;rfl
       | some g=>
        replace h8:rMany rTo g.1.toNat g.2=y8:=h8;simp only[Option.bind_some];rw[h8];cases y8 with
        | none=>rfl
        | some t=>rw[hF d rfl,hX f rfl,hZ t rfl];rfl
theorem getD_bd {lo hi:Int} {o:Option (List Int)} {y:Option (Int × List Int)} (h:o.bind (rBd lo hi)=y) (h0:lo<=hi) (h1:0<=lo):0<=(y.map Prod.fst).getD 0/\(y.map Prod.fst).getD 0<=hi:=by
 cases y with
 | none=>exact⟨Int.le_refl 0,by show (0:Int)<=hi;omega⟩
 | some q=>
  cases o with
  | none=>cases h
  | some l=>have:=rBd_le (show rBd lo hi l=some q from h);show 0<=q.1/\q.1<=hi;omega
open Classical in
theorem decM_open {b:List Int} (h13:¬b.length<13) (hm:b.take 5=magicM) (h0:(openS b).1=0) {m:Mch} {z:Option (List Int)} (hz:rMc ((openS b).2.drop 5)=z.map fun l=>(m,l)) :
  (z≠some []->decM b=(4,mZ))/\(z=some []->¬VM m->decM b=(4,mZ))/\(z=some []->VM m->decM b=(0,m)):=by
 have e:decM b=match rMc ((openS b).2.drop 5) with
   | some (m,[])=>if VM m then (0,m) else (4,mZ)
   | _=>(4,mZ):=by
  unfold decM;unfold openS at h0 ⊢;rw[if_neg (by rintro (h | h);exact h13 h;exact h hm)];rw[if_neg (show ¬b.length<8 by omega)] at h0 ⊢;by_cases h:eight (hsh (b.take (b.length-8)))≠b.drop (b.length-8)
  .rw[if_pos h] at h0;cases h0
  .rw[if_neg h,if_neg h];rfl
 rw[e,hz];cases z with
 | none=>exact⟨fun _=>rfl,(fun h=>by cases h),(fun h=>by cases h)⟩
 | some l=>
  cases l with
  | nil=>exact⟨fun h=>absurd rfl h,fun _ h=>if_neg h,fun _ h=>if_pos h⟩
  | cons a l=>exact⟨fun _=>rfl,(fun h=>by cases h),(fun h=>by cases h)⟩
theorem decM_err {b:List Int} (h13:¬b.length<13) (hm:b.take 5=magicM) (h0:(openS b).1≠0):(openS b).1=5/\decM b=(5,mZ):=by
 by_cases h:eight (hsh (b.take (b.length-8)))≠b.drop (b.length-8)
 .have e:openS b=(5,[]):=by unfold openS;rw[if_neg (show ¬b.length<8 by omega),if_pos h]
  refine⟨by rw[e],?_⟩;unfold decM;rw[if_neg (by rintro (h | h);exact h13 h;exact h hm),if_pos h]
 .have e:openS b=(0,b.take (b.length-8)):=by unfold openS;rw[if_neg (show ¬b.length<8 by omega),if_neg h]
  rw[e] at h0;exact absurd rfl h0
theorem openS_lenM {b:List Int} (h13:¬b.length<13) (h0:(openS b).1=0):(openS b).2.length=b.length-8/\(openS b).2=b.take (b.length-8):=by
 unfold openS at *;rw[if_neg (show ¬b.length<8 by omega)] at *;by_cases h:eight (hsh (b.take (b.length-8)))≠b.drop (b.length-8)
 .rw[if_pos h] at h0;cases h0
 .rw[if_neg h];exact⟨by rw[Yu];omega,rfl⟩
theorem magicMB:(⟨#[70,82,68,77,49]⟩:ByteArray)=bs (toB magicM):=by decide
/-! ### memory -/
def DcV (b:List Int) (h:Heap) (v:Value) (h':Heap):Prop:=∃sf sm sl:Sl,v=.tuple ⟨[.agg ⟨mC (decM b).2 sf sm sl⟩,.int .i64 (decM b).1]⟩/\St h h' (mL (decM b).2 sf sm sl)/\((decM b).2.fin.length<=1048576/\(decM b).2.mv.length<=1048576/\(decM b).2.li.length<=1048576)
theorem dc_ret {b:List Int} {h hX:Heap} {x1 x2 x3 x4 x5 x6:Value} {A:List It} {m:Mch} {sf sm sl:Sl} (hs:St h hX (.blk h.size [x1,x2,x3,x4,x5,x6] 26 :: .sl sf 4 1 (m.fin.map bC) :: .sl sm 81 6 (m.mv.map Mv.cs) :: .sl sl 44 3 (m.li.map To.cs)::A))
  (b1:m.fin.length<=1048576) (b2:m.mv.length<=1048576) (b3:m.li.length<=1048576) {en:Int} (hd:decM b=(en,m)) :
  okAt hX ⟨h.size,0,none⟩ 6/\∀h2:Heap,h2=hputs hX ⟨h.size,0,none⟩ 0 [.int .i64 m.role,.int .i64 m.n,.int .i64 m.s,.slice sf.a sf.n sf.c,.slice sm.a sm.n sm.c,.slice sl.a sl.n sl.c] ->
   (∃x3:Int,∃x4:Int,∃x5:Int,∃x6:Sl,∃x7:Sl,∃x8:Sl,atC h2 ⟨h.size,0,none⟩ [.int .i64 x3,.int .i64 x4,.int .i64 x5,.slice x6.a x6.n x6.c,.slice x7.a x7.n x7.c,.slice x8.a x8.n x8.c] /\
   DcV b h (.tuple ⟨[.agg ⟨[.int .i64 x3,.int .i64 x4,.int .i64 x5,.slice x6.a x6.n x6.c,.slice x7.a x7.n x7.c,.slice x8.a x8.n x8.c]⟩,.int .i64 en]⟩) h2):=by
 refine hs.put 0 rfl (o:=0) (vs:=mC m sf sm sl) rfl (Yyt 6) fun h2 hs=>?_;exact⟨m.role,m.n,m.s,sf,sm,sl,hs.at 0 rfl (o:=0) (n:=6) rfl,sf,sm,sl,by rw[hd];rfl,by rw[hd];exact hs.picks [1,2,3] (by decide) rfl,by rw[hd];exact⟨b1,b2,b3⟩⟩
theorem dc_no {b:List Int} {h hX:Heap} {x1 x2 x3 x4 x5 x6:Value} {A:List It} (hs:St h hX (.blk h.size [x1,x2,x3,x4,x5,x6] 26::A)) {en:Int} (hd:decM b=(en,mZ)) :
  okAt hX ⟨h.size,0,none⟩ 6/\∀h2:Heap,h2=hputs hX ⟨h.size,0,none⟩ 0 [.int .i64 0,.int .i64 0,.int .i64 0,.slice none 0 0,.slice none 0 0,.slice none 0 0] ->
   (∃x3:Int,∃x4:Int,∃x5:Int,∃x6:Sl,∃x7:Sl,∃x8:Sl,atC h2 ⟨h.size,0,none⟩ [.int .i64 x3,.int .i64 x4,.int .i64 x5,.slice x6.a x6.n x6.c,.slice x7.a x7.n x7.c,.slice x8.a x8.n x8.c] /\
   DcV b h (.tuple ⟨[.agg ⟨[.int .i64 x3,.int .i64 x4,.int .i64 x5,.slice x6.a x6.n x6.c,.slice x7.a x7.n x7.c,.slice x8.a x8.n x8.c]⟩,.int .i64 en]⟩) h2):=by
 have hs2:St h hX [.blk h.size [x1,x2,x3,x4,x5,x6] 26,.sl ⟨none,0,0⟩ 4 1 (mZ.fin.map bC),.sl ⟨none,0,0⟩ 81 6 (mZ.mv.map Mv.cs),.sl ⟨none,0,0⟩ 44 3 (mZ.li.map To.cs)]:=(((hs.nil_ 44 3).nil_ 81 6).nil_ 4 1).picks [3,0,1,2] (by decide) rfl;exact dc_ret (m:=mZ) (sf:=⟨none,0,0⟩) (sm:=⟨none,0,0⟩) (sl:=⟨none,0,0⟩) hs2 (Nat.zero_le _) (Nat.zero_le _) (Nat.zero_le _) hd
theorem Rds.smb {h0 h h':Heap} {ty r:Nat} {s:Sl} {B:List Int} {o o':Option (List Int)} {L:List It} {b:Nat} {xs:List Value} {e:TypeId} (hr:Rds h0 h ty r s B o L) (hr':Rds h0 h' ty r s B o' L) (k:Nat) (hk:L[k]?=some (.blk b xs e)) (os:List Nat):Sm (os.map fun a=>(⟨b,a,none⟩:Addr)) h h':=by
 obtain⟨_,_,hs,_⟩:=hr;obtain⟨_,_,hs',_⟩:=hr';exact hs.smbL hs' (k+1) (k+1) hk hk os
theorem Rds.rd {h0 h:Heap} {ty r:Nat} {s:Sl} {B:List Int} {o:Option (List Int)} {L:List It} (hr:Rds h0 h ty r s B o L) (k:Nat) {b:Nat} {xs:List Value} {e:TypeId} (hk:L[k]?=some (.blk b xs e)) {i:Nat} {v:Value} (hi:xs[i]?=some v):hc h ⟨b,i,none⟩=some v:=by
 obtain⟨_,_,hs,_⟩:=hr;exact hs.rd (k+1) hk hi
theorem Rds.app {h0 h h2:Heap} {ty r:Nat} {s:Sl} {B:List Int} {o:Option (List Int)} {A:List It} {cb:Nat} {xs:List Value} {e0 t e:TypeId} {n bytes:Nat} {α:Type} {cs:α->List Value} {so:Sl} {X:List α} {x:α} (hr:Rds h0 h ty r s B o (.blk cb xs e0 :: .sl so e n (X.map cs)::A))
  (hT:appB Pz t e n bytes=true) (e2:h2=h.push (.cells ⟨cs x⟩ e)) (hc:(cs x).length=n) (ho:(cs x).all oneB=true) (hn:X.length<=1000) (hnb:0<n/\n<=6/\bytes<=48) (f:Nat) (hf:f<xs.length) {K:Heap->Prop}
  (hK:∀(s':Sl) (h':Heap),Rds h0 h' ty r s B o (.blk cb (splice xs f [.slice s'.a s'.n s'.c]) e0 :: .sl s' e n ((X++[x]).map cs)::A)->K h') :
  Sm [⟨cb,f,none⟩] h h2/\App Pz t t (.slice so.a so.n so.c) (.slice (some ⟨h.size,0,none⟩) 1 1) h2 fun s55 h56=>okAt h56 ⟨cb,f,none⟩ 1/\∀h57:Heap,h57=hputs h56 ⟨cb,f,none⟩ 0 [.slice s55.a s55.n s55.c]->K h57:=by
 obtain⟨k,hk,hs,hoo⟩:=hr;have hs2:St h0 h2 (.blk h.size (cs x) e :: .blk r (rdC s k o.isNone) ty :: .blk cb xs e0 :: .sl so e n (X.map cs)::A):=hs.newb (K:=fun h2=>St h0 h2 (.blk h.size (cs x) e :: .blk r (rdC s k o.isNone) ty :: .blk cb xs e0 :: .sl so e n (X.map cs)::A)) (fun _ h=>h) h2 e2;have hl:=(hs.len 2 (s:=so) rfl hnb.1).1;rw[Yc] at hl;refine⟨hs.smbO hs2 1 2 f rfl rfl,?_⟩;have hb1:(so.n+1)*bytes<=1001*48:=Nat.mul_le_mul (by omega) hnb.2.2;refine hs2.appended 3 (s:=so) rfl hT (x:=⟨h.size,0,none⟩) (m:=1) (c:=1) (news:=[cs x]) (hs2.at 0 rfl (o:=0) (n:=n) (by rw[List.drop_zero,<-hc,Yye];simp)) rfl (by intro r hr;rw[Ye.1 hr];exact hc) (by simpa using ho) (by omega) (by simp only[maxLen];omega) fun s55 h56 n55 hs3=>?_;refine hs3.put 2 rfl (o:=f) (vs:=[.slice s55.a s55.n s55.c]) rfl (by show f+1<=xs.length;omega) fun h57 hs4=>?_;refine hK s55 h57 ⟨k,hk,?_,hoo⟩;rw[Ym];exact hs4.drop 1
end Go.VC
end

section
namespace Go.VC
open Go.Proofs Go.LexS Go.RowKit
abbrev mcC (K N S:Int) (sf sm sl:Sl):List Value:=[.int .i64 K,.int .i64 N,.int .i64 S,.slice sf.a sf.n sf.c,.slice sm.a sm.n sm.c,.slice sl.a sl.n sl.c]
abbrev nilS:Sl:=⟨none,0,0⟩
theorem decode43 (p:Sl) (b:List Int) (h:Heap) (hb:RL h 1 p u8C b) (hB:Byt b):Fn Pz 43 #[.slice p.a p.n p.c] h (DcV b h):=by
 apply vc43 p;unfold W43 V43a;have hn:=hb.ln;have hsm:=hb.sm;have hcap:=hb.cap;refine (St.refl h).newb fun h1 hs=>?_;refine sBi (fun c=>?_) (fun c=>?_)
 .exact dc_no hs (if_pos (Or.inl (by omega)))
 have h13:¬b.length<13:=by omega
 refine⟨⟨by decide,by decide,by omega⟩,?_⟩;have hT5:=(hb.take (i:=5) (by omega)).ext hs.ext;refine (cv_rl hT5 (fun x hx=>hB x (List.mem_of_mem_take hx))).mono ?_;rintro _ _ ⟨rfl,rfl⟩;refine⟨_,rfl,?_⟩;rw[magicMB];refine sB_not (sBs (fun c5=>?_) (fun c5=>?_));rotate_left
 .exact dc_no hs (if_pos (Or.inr fun e=>c5 (by rw[e])))
 have hm:b.take 5=magicM:=toB_inj (fun x hx=>hB x (List.mem_of_mem_take hx)) (by decide) c5;refine (open71 p b _ (hb.ext hs.ext) hB).mono ?_;rintro _ h14 ⟨so,rfl,hs1⟩;have hs:=hs.join hs1;refine⟨so,_,rfl,?_⟩;refine sBn (fun c6=>?_) (fun c6=>?_)
 .obtain⟨e1,e2⟩:=decM_err h13 hm c6;exact dc_no hs (by rw[e1];exact e2)
 have hdo:=fun {m:Mch} {z:Option (List Int)}=>decM_open (m:=m) (z:=z) h13 hm c6;obtain⟨hl,htk⟩:=openS_lenM h13 c6;generalize (openS b).2=pl at *;have hpB:Byt pl:=fun x hx=>by rw[htk] at hx;exact hB x (List.mem_of_mem_take hx)
 have hR0:RL h14 1 so u8C pl:=hs.rl 1 rfl (by decide) (by omega);have hson:=hR0.ln;have hsoc:=hR0.cap;refine⟨⟨by decide,by omega,by omega⟩,?_⟩;have hR5:=hR0.from (i:=5) (by omega)
 refine (new72 _ (pl.drop 5) h14 hR5).mono ?_;rintro _ h20 ⟨s,hb0,rfl,hE,hRB,hr⟩;have hBy:Byt (pl.drop 5):=fun x hx=>hpB x (List.mem_of_mem_drop hx);generalize pl.drop 5=B at *;refine⟨_,rfl,?_⟩;have hs0:St h hb0 [.blk h.size [.int .i64 0,.int .i64 0,.int .i64 0,.slice none 0 0,.slice none 0 0,.slice none 0 0] 26]:=(hs.step hE).sub (.cons_cons _ (List.nil_sublist _));clear hs hs1;generalize hrb:hb0.size=rb at *
 refine (int73 rb s B hb0 h20 (some B) [] hRB hBy ⟨0,Nat.zero_le _,hr,fun l hl=>by injection hl⟩).mono ?_;rintro _ h35 ⟨rfl,hr1⟩;refine⟨_,rfl,?_⟩;generalize hy1:(some B).bind rIq=y1 at *;refine (bounded74 1 200 rb s B hb0 h35 _ _ hRB hBy hr1).mono ?_;clear hr hr1;rintro _ h38 ⟨rfl,hr⟩;refine⟨_,rfl,?_⟩;generalize hy2:(y1.map Prod.snd).bind (rBd 1 200)=y2 at *;refine (int73 rb s B hb0 h38 _ _ hRB hBy hr).mono ?_;clear hr;rintro _ h41 ⟨rfl,hr⟩;refine⟨_,rfl,?_⟩;generalize hy3:(y2.map Prod.snd).bind rIq=y3 at *;have hN:=getD_bd hy2 (by decide) (by decide);generalize hK:(y1.map Prod.fst).getD 0=K at *;generalize hNe:(y2.map Prod.fst).getD 0=N at *;generalize hS:(y3.map Prod.fst).getD 0=S at *;obtain⟨k0,hk0,hs,ho⟩:=hr;refine hs.newput (vs:=mcC K N S nilS nilS nilS) rfl rfl fun h43 hs=>?_;refine⟨N,hs.rd 0 rfl (i:=1) rfl,?_⟩
 refine⟨fun x h' μ=>∃(i:Nat) (F:List Bool) (sf:Sl),x=(i:Int)/\μ=200-i/\F.length=i/\(i:Int)<=N/\Rds hb0 h' 203 rb s B ((stR y3 rBo i).map Prod.snd) [.blk h41.size (mcC K N S sf nilS nilS) 26,.sl sf 4 1 (F.map bC)]/\∀q,stR y3 rBo i=some q->F=q.1,
  ⟨_,0,[],nilS,rfl,rfl,rfl,by omega,⟨k0,hk0,?_,?_⟩,(stR_zero y3 rBo).2⟩,?_⟩
 .rw[(stR_zero y3 rBo).1];exact (hs.nil_ 4 1).picks [2,1,0] (by decide) rfl
 .rw[(stR_zero y3 rBo).1];exact ho
 clear hs ho hk0;rintro-_ h49 μ ⟨i,F,sf,rfl,rfl,hFl,hiN,hr,hFq⟩;refine sBi (fun c=>?_) (fun c=>?_)
 .refine⟨sf,hr.rd 0 rfl (i:=3) rfl,?_⟩;refine (bool85 rb s B hb0 h49 _ _ hRB hBy hr).mono ?_;rintro _ h53 ⟨rfl,hr2⟩;generalize hx:((stR y3 rBo i).map Prod.snd).bind rBo=x at *;refine⟨_,rfl,hr.smb hr2 0 rfl [3],fun h54 e54=>?_⟩;obtain⟨st1,st2⟩:=stR_step hx;refine hr2.app (cs:=bC) (x:=(x.map Prod.fst).getD false) app30 e54 rfl rfl (by omega) ⟨by decide,by decide,by decide⟩ 3 (show 3<6 by decide) fun s' h' hr3=>?_;refine⟨_,(show 200-(i+1)<200-i by omega),i+1,F++[(x.map Prod.fst).getD false],s',by rw[w64 (by omega) (by omega)];omega,rfl,by rw[Yh,hFl];rfl,by omega,?_,st2 F _ hFq (fun p hp=>by rw[hp];rfl)⟩;rw[st1];exact hr3
 have hie:i=N.toNat:=by omega
 generalize hy4:stR y3 rBo i=y4 at *;rw[hie] at hy4;refine (bounded74 0 400 rb s B hb0 h49 _ _ hRB hBy hr).mono ?_;clear hr;rintro _ h61 ⟨rfl,hr⟩;refine⟨_,rfl,?_⟩;generalize hy5:(y4.map Prod.snd).bind (rBd 0 400)=y5 at *;have hM:=getD_bd hy5 (by decide) (by decide);generalize hMe:(y5.map Prod.fst).getD 0=M at *
 refine⟨fun x h' μ=>∃(j:Nat) (X:List Mv) (sm:Sl),x=(j:Int)/\μ=400-j/\X.length=j/\(j:Int)<=M/\Rds hb0 h' 203 rb s B ((stR y5 rMv j).map Prod.snd) [.blk h41.size (mcC K N S sf sm nilS) 26,.sl sm 81 6 (X.map Mv.cs),.sl sf 4 1 (F.map bC)]/\∀q,stR y5 rMv j=some q->X=q.1,
  ⟨_,0,[],nilS,rfl,rfl,rfl,by omega,?_,(stR_zero y5 rMv).2⟩,?_⟩
 .obtain⟨k1,hk1,hs,ho⟩:=hr;rw[(stR_zero y5 rMv).1];exact⟨k1,hk1,(hs.nil_ 81 6).picks [1,2,0,3] (by decide) rfl,ho⟩
 clear hr;rintro-_ h66 μ ⟨j,X,sm,rfl,rfl,hXl,hjM,hr,hXq⟩;refine sBi (fun c7=>?_) (fun c7=>?_)
 .refine⟨sm,hr.rd 0 rfl (i:=4) rfl,?_⟩;refine (int73 rb s B hb0 h66 _ _ hRB hBy hr).mono ?_;rintro _ h70 ⟨rfl,r1⟩;refine⟨_,rfl,hr.smb r1 0 rfl [4],?_⟩;have hr0:=hr;clear hr;generalize hx1:((stR y5 rMv j).map Prod.snd).bind rIq=x1 at *;refine (bool85 rb s B hb0 h70 _ _ hRB hBy r1).mono ?_;rintro _ h73 ⟨rfl,r2⟩;refine⟨_,rfl,r1.smb r2 0 rfl [4],?_⟩;clear r1;generalize hx2:(x1.map Prod.snd).bind rBo=x2 at *;refine (int73 rb s B hb0 h73 _ _ hRB hBy r2).mono ?_;rintro _ h76 ⟨rfl,r3⟩;refine⟨_,rfl,r2.smb r3 0 rfl [4],?_⟩;clear r2;generalize hx3:(x2.map Prod.snd).bind rIq=x3 at *;refine (int73 rb s B hb0 h76 _ _ hRB hBy r3).mono ?_;rintro _ h79 ⟨rfl,r4⟩;refine⟨_,rfl,r3.smb r4 0 rfl [4],?_⟩;clear r3;generalize hx4:(x3.map Prod.snd).bind rIq=x4 at *;refine (int73 rb s B hb0 h79 _ _ hRB hBy r4).mono ?_;rintro _ h82 ⟨rfl,r5⟩;refine⟨_,rfl,r4.smb r5 0 rfl [4],?_⟩;clear r4;generalize hx5:(x4.map Prod.snd).bind rIq=x5 at *;refine (bool85 rb s B hb0 h82 _ _ hRB hBy r5).mono ?_;rintro _ h85 ⟨rfl,r6⟩;refine⟨_,rfl,r5.smb r6 0 rfl [4],fun h86 e86=>?_⟩;clear r5 hr0;generalize hx6:(x5.map Prod.snd).bind rBo=x6 at *;have hch:=rMv_chain hx1 hx2 hx3 hx4 hx5 hx6;obtain⟨st1,st2⟩:=stR_step hch;have e1:((stR y5 rMv (j+1)).map Prod.snd)=x6.map Prod.snd:=by rw[st1];cases x6<;>rfl
  refine r6.app (cs:=Mv.cs) (x:=⟨(x1.map Prod.fst).getD 0,(x2.map Prod.fst).getD false,(x3.map Prod.fst).getD 0,(x4.map Prod.fst).getD 0,(x5.map Prod.fst).getD 0,(x6.map Prod.fst).getD false⟩) app31 e86 rfl rfl (by omega) ⟨by decide,by decide,by decide⟩ 4 (show 4<6 by decide) fun s' h' hr3=>?_;refine⟨_,(show 400-(j+1)<400-j by omega),j+1,X++[⟨(x1.map Prod.fst).getD 0,(x2.map Prod.fst).getD false,(x3.map Prod.fst).getD 0,(x4.map Prod.fst).getD 0,(x5.map Prod.fst).getD 0,(x6.map Prod.fst).getD false⟩],s',by rw[w64 (by omega) (by omega)];omega,rfl,by rw[Yh,hXl];rfl,by omega,?_,st2 X _ hXq (fun p hp=>?_)⟩
  .rw[e1];exact hr3
  .cases x6 with
   | none=>cases hp
   | some g=>injection hp with hp;rw[<-hp]
 have hje:j=M.toNat:=by omega
 generalize hy6:stR y5 rMv j=y6 at *;rw[hje] at hy6;refine (bounded74 0 200 rb s B hb0 h66 _ _ hRB hBy hr).mono ?_;clear hr;rintro _ h93 ⟨rfl,hr⟩;refine⟨_,rfl,?_⟩;generalize hy7:(y6.map Prod.snd).bind (rBd 0 200)=y7 at *;have hT:=getD_bd hy7 (by decide) (by decide);generalize hTe:(y7.map Prod.fst).getD 0=T at *
 refine⟨fun x h' μ=>∃(l:Nat) (Z:List To) (sl:Sl),x=(l:Int)/\μ=200-l/\Z.length=l/\(l:Int)<=T/\Rds hb0 h' 203 rb s B ((stR y7 rTo l).map Prod.snd) [.blk h41.size (mcC K N S sf sm sl) 26,.sl sl 44 3 (Z.map To.cs),.sl sf 4 1 (F.map bC),.sl sm 81 6 (X.map Mv.cs)]/\∀q,stR y7 rTo l=some q->Z=q.1,
  ⟨_,0,[],nilS,rfl,rfl,rfl,by omega,?_,(stR_zero y7 rTo).2⟩,?_⟩
 .obtain⟨k1,hk1,hs,ho⟩:=hr;rw[(stR_zero y7 rTo).1];exact⟨k1,hk1,(hs.nil_ 44 3).picks [1,2,0,4,3] (by decide) rfl,ho⟩
 clear hr;rintro-_ h98 μ ⟨l,Z,sl,rfl,rfl,hZl,hlT,hr,hZq⟩;refine sBi (fun c8=>?_) (fun c8=>?_)
 .refine⟨sl,hr.rd 0 rfl (i:=5) rfl,?_⟩;refine (int73 rb s B hb0 h98 _ _ hRB hBy hr).mono ?_;rintro _ h102 ⟨rfl,r1⟩;refine⟨_,rfl,hr.smb r1 0 rfl [5],?_⟩;clear hr;generalize hx1:((stR y7 rTo l).map Prod.snd).bind rIq=x1 at *;refine (int73 rb s B hb0 h102 _ _ hRB hBy r1).mono ?_;rintro _ h105 ⟨rfl,r2⟩;refine⟨_,rfl,r1.smb r2 0 rfl [5],?_⟩;clear r1;generalize hx2:(x1.map Prod.snd).bind rIq=x2 at *;refine (int73 rb s B hb0 h105 _ _ hRB hBy r2).mono ?_;rintro _ h108 ⟨rfl,r3⟩;refine⟨_,rfl,r2.smb r3 0 rfl [5],fun h109 e109=>?_⟩;clear r2;generalize hx3:(x2.map Prod.snd).bind rIq=x3 at *;have hch:=rTo_chain hx1 hx2 hx3;obtain⟨st1,st2⟩:=stR_step hch;have e1:((stR y7 rTo (l+1)).map Prod.snd)=x3.map Prod.snd:=by rw[st1];cases x3<;>rfl
  refine r3.app (cs:=To.cs) (x:=⟨(x1.map Prod.fst).getD 0,(x2.map Prod.fst).getD 0,(x3.map Prod.fst).getD 0⟩) app25 e109 rfl rfl (by omega) ⟨by decide,by decide,by decide⟩ 5 (show 5<6 by decide) fun s' h' hr3=>?_;refine⟨_,(show 200-(l+1)<200-l by omega),l+1,Z++[⟨(x1.map Prod.fst).getD 0,(x2.map Prod.fst).getD 0,(x3.map Prod.fst).getD 0⟩],s',by rw[w64 (by omega) (by omega)];omega,rfl,by rw[Yh,hZl];rfl,by omega,?_,st2 Z _ hZq (fun p hp=>?_)⟩
  .rw[e1];exact hr3
  .cases x3 with
   | none=>cases hp
   | some g=>injection hp with hp;rw[<-hp]
 have hle:l=T.toNat:=by omega
 generalize hy8:stR y7 rTo l=y8 at *;rw[hle] at hy8
 have hch:=rMc_chain (B:=B) (F:=F) (X:=X) (Z:=Z) hy1 hy2 hy3 (by rw[hNe];exact hy4) hy5 (by rw[hMe];exact hy6) hy7 (by rw[hTe];exact hy8) hFq hXq hZq;rw[hK,hNe,hS] at hch;have hD:=@hdo ⟨K,N,S,F,X,Z⟩ (y8.map Prod.snd) (by rw[hch];cases y8<;>rfl);obtain⟨d1,d2,d3⟩:=hD;refine (end77 rb s B hb0 h98 _ _ hRB hr).mono ?_;rintro _ _ ⟨rfl,rfl⟩;obtain⟨k2,hk2,hs,ho2⟩:=hr;have hj:=hs0.join hs;refine⟨_,rfl,sBn (fun c=>?_) (fun c=>?_)⟩
 .exact dc_no hj (d1 fun e=>c (by rw[e];rfl))
 have hz:y8.map Prod.snd=some []:=by
  unfold endE at c;split at c
  .assumption
  .cases c
 have hMI:MI _ ⟨K,N,S,F,X,Z⟩ sf sm sl:=(hs.picks (L':=[.sl sf 4 1 (F.map bC),.sl sm 81 6 (X.map Mv.cs),.sl sl 44 3 (Z.map To.cs)]) [3,4,2] (by decide) rfl).mi (m:=⟨K,N,S,F,X,Z⟩) 0 rfl rfl rfl (by show F.length<=_;omega) (by show X.length<=_;omega) (by show Z.length<=_;omega);refine⟨K,N,S,sf,sm,sl,hs.at 1 rfl (o:=0) (n:=6) rfl,?_⟩;refine (valid23 ⟨K,N,S,F,X,Z⟩ sf sm sl _ hMI).mono ?_;rintro _ h132 ⟨⟨b0,rfl,hv0⟩,E⟩;have hj:=hj.step E;have hs:=hs.step E;refine⟨_,rfl,sB_intro (fun cv=>?_) (fun cv=>?_)⟩
 .exact dc_no hj (d2 hz (iff_f hv0 (bF cv)))
 refine⟨K,N,S,sf,sm,sl,hs.at 1 rfl (o:=0) (n:=6) rfl,?_⟩;have hj2:St h h132 [.blk h.size [.int .i64 0,.int .i64 0,.int .i64 0,.slice none 0 0,.slice none 0 0,.slice none 0 0] 26,.sl sf 4 1 (F.map bC),.sl sm 81 6 (X.map Mv.cs),.sl sl 44 3 (Z.map To.cs)]:=hj.picks [0,4,5,3] (by decide) rfl;exact dc_ret (m:=⟨K,N,S,F,X,Z⟩) hj2 (by show F.length<=_;omega) (by show X.length<=_;omega) (by show Z.length<=_;omega) (d3 hz (hv0.1 (bT cv)))
theorem Rds.putf {h0 h:Heap} {ty r:Nat} {s:Sl} {B:List Int} {o:Option (List Int)} {A:List It} {cb:Nat} {xs:List Value} {e0:TypeId} (hr:Rds h0 h ty r s B o (.blk cb xs e0::A)) (f:Nat) (v:Value) (hf:f<xs.length) {K:Heap->Prop}
  (hK:∀h',Rds h0 h' ty r s B o (.blk cb (splice xs f [v]) e0::A)->K h'):okAt h ⟨cb,f,none⟩ 1/\∀h',h'=hputs h ⟨cb,f,none⟩ 0 [v]->K h':=by
 obtain⟨k,hk,hs,ho⟩:=hr;exact hs.put 1 rfl (o:=f) (vs:=[v]) rfl (by show f+1<=xs.length;omega) fun h' hs=>hK h' ⟨k,hk,hs,ho⟩
theorem Rds.nput {h0 h:Heap} {ty r:Nat} {s:Sl} {B:List Int} {o:Option (List Int)} {L:List It} (hr:Rds h0 h ty r s B o L) {zs vs:List Value} {e:TypeId} {n:Nat} (hn:n=vs.length) (hl:zs.length=vs.length) {K:Heap->Prop}
  (hK:∀h3,Rds h0 h3 ty r s B o (.blk h.size vs e::L)->K h3):∀h2:Heap,h2=h.push (.cells ⟨zs⟩ e)->okAt h2 ⟨h.size,0,none⟩ n/\∀h3:Heap,h3=hputs h2 ⟨h.size,0,none⟩ 0 vs->K h3:=by
 obtain⟨k,hk,hs,ho⟩:=hr;exact hs.newput hn hl fun h3 hs=>hK h3 ⟨k,hk,hs.swap,ho⟩
theorem Rds.at {h0 h:Heap} {ty r:Nat} {s:Sl} {B:List Int} {o:Option (List Int)} {L:List It} (hr:Rds h0 h ty r s B o L) (k:Nat) {b:Nat} {xs:List Value} {e:TypeId} (hk:L[k]?=some (.blk b xs e)):atC h ⟨b,0,none⟩ xs:=by
 obtain⟨_,_,hs,_⟩:=hr;exact hs.at (k+1) hk (o:=0) (n:=xs.length) (by rw[List.drop_zero,Yye])
theorem refDecode44 (p:Sl) (b:List Int) (h:Heap) (hb:RL h 1 p u8C b) (hB:Byt b):Fn Pz 44 #[.slice p.a p.n p.c] h (DcV b h):=by
 apply vc44 p;unfold W44 V44a;have hn:=hb.ln;have hsm:=hb.sm;have hcap:=hb.cap;refine (St.refl h).newb fun h1 hs=>?_;refine sBi (fun c=>?_) (fun c=>?_)
 .exact dc_no hs (if_pos (Or.inl (by omega)))
 have h13:¬b.length<13:=by omega
 refine⟨⟨by decide,by decide,by omega⟩,?_⟩;have hT5:=(hb.take (i:=5) (by omega)).ext hs.ext;refine (cv_rl hT5 (fun x hx=>hB x (List.mem_of_mem_take hx))).mono ?_;rintro _ _ ⟨rfl,rfl⟩;refine⟨_,rfl,?_⟩;rw[magicMB];refine sB_not (sBs (fun c5=>?_) (fun c5=>?_));rotate_left
 .exact dc_no hs (if_pos (Or.inr fun e=>c5 (by rw[e])))
 have hm:b.take 5=magicM:=toB_inj (fun x hx=>hB x (List.mem_of_mem_take hx)) (by decide) c5;refine (open78 p b _ (hb.ext hs.ext) hB).mono ?_;rintro _ h14 ⟨so,rfl,hs1⟩;have hs:=hs.join hs1;refine⟨so,_,rfl,?_⟩;refine sBn (fun c6=>?_) (fun c6=>?_)
 .exact dc_no hs (decM_err h13 hm c6).2
 have hdo:=fun {m:Mch} {z:Option (List Int)}=>decM_open (m:=m) (z:=z) h13 hm c6;obtain⟨hl,htk⟩:=openS_lenM h13 c6;generalize (openS b).2=pl at *;have hpB:Byt pl:=fun x hx=>by rw[htk] at hx;exact hB x (List.mem_of_mem_take hx)
 have hR0:RL h14 1 so u8C pl:=hs.rl 1 rfl (by decide) (by omega);have hson:=hR0.ln;have hsoc:=hR0.cap;refine⟨⟨by decide,by omega,by omega⟩,?_⟩;have hRB:=hR0.from (i:=5) (by omega)
 have hs0:St h h14 [.blk h.size [.int .i64 0,.int .i64 0,.int .i64 0,.slice none 0 0,.slice none 0 0,.slice none 0 0] 26]:=hs.sub (.cons_cons _ (List.nil_sublist _));refine (St.refl h14).newb fun h20 hr=>?_;replace hr:St h14 h20 (.blk h14.size (rdC ⟨subA so.a 5 so.c 1,so.n-5,so.c-5⟩ 0 false) 139::[]):=hr;have hBy:Byt (pl.drop 5):=fun x hx=>hpB x (List.mem_of_mem_drop hx);generalize pl.drop 5=B at *;generalize (⟨subA so.a 5 so.c 1,so.n-5,so.c-5⟩:Sl)=s at hRB hr;clear hs hs1
 refine (integer79 h14.size s B h14 h20 (some B) [] hRB hBy ⟨0,Nat.zero_le _,hr,fun l hl=>by injection hl⟩).mono ?_;rintro _ h33 ⟨rfl,r1⟩;clear hr;refine⟨_,rfl,?_⟩;generalize hy1:(some B).bind rIq=y1 at *;generalize hK:(y1.map Prod.fst).getD 0=K at *;refine r1.nput (vs:=mcC K 0 0 nilS nilS nilS) (by rfl) (by rfl) fun h35 r2=>?_;refine (bounded80 1 200 h14.size s B h14 h35 _ _ hRB hBy r2).mono ?_;clear r1 r2;rintro _ h38 ⟨rfl,r1⟩;refine⟨_,rfl,?_⟩;generalize hy2:(y1.map Prod.snd).bind (rBd 1 200)=y2 at *;have hN:=getD_bd hy2 (by decide) (by decide);generalize hNe:(y2.map Prod.fst).getD 0=N at *;refine r1.putf 1 (.int .i64 N) (show 1<6 by decide) fun h39 r2=>?_;replace r2:Rds h14 h39 139 h14.size s B (y2.map Prod.snd) [.blk h33.size (mcC K N 0 nilS nilS nilS) 26]:=r2;refine (integer79 h14.size s B h14 h39 _ _ hRB hBy r2).mono ?_;clear r1 r2;rintro _ h42 ⟨rfl,r1⟩;refine⟨_,rfl,?_⟩;generalize hy3:(y2.map Prod.snd).bind rIq=y3 at *;generalize hS:(y3.map Prod.fst).getD 0=S at *;refine r1.putf 2 (.int .i64 S) (show 2<6 by decide) fun h43 r2=>?_;replace r2:Rds h14 h43 139 h14.size s B (y3.map Prod.snd) [.blk h33.size (mcC K N S nilS nilS nilS) 26]:=r2;clear r1
 refine⟨fun x h' μ=>∃(i:Nat) (F:List Bool) (sf:Sl),x=(i:Int)/\μ=200-i/\F.length=i/\(i:Int)<=N/\Rds h14 h' 139 h14.size s B ((stR y3 rBo i).map Prod.snd) [.blk h33.size (mcC K N S sf nilS nilS) 26,.sl sf 4 1 (F.map bC)]/\∀q,stR y3 rBo i=some q->F=q.1,
  ⟨_,0,[],nilS,rfl,rfl,rfl,by omega,?_,(stR_zero y3 rBo).2⟩,?_⟩
 .obtain⟨k0,hk0,hs,ho⟩:=r2;rw[(stR_zero y3 rBo).1];exact⟨k0,hk0,(hs.nil_ 4 1).picks [1,2,0] (by decide) rfl,ho⟩
 clear r2;rintro-_ h49 μ ⟨i,F,sf,rfl,rfl,hFl,hiN,hr,hFq⟩;refine⟨N,hr.rd 0 rfl (i:=1) rfl,sBi (fun c=>?_) (fun c=>?_)⟩
 .refine⟨sf,hr.rd 0 rfl (i:=3) rfl,?_⟩;refine (refBool90 h14.size s B h14 h49 _ _ hRB hBy hr).mono ?_;rintro _ h53 ⟨rfl,hr2⟩;generalize hx:((stR y3 rBo i).map Prod.snd).bind rBo=x at *;refine⟨_,rfl,hr.smb hr2 0 rfl [3],fun h54 e54=>?_⟩;obtain⟨st1,st2⟩:=stR_step hx;refine hr2.app (cs:=bC) (x:=(x.map Prod.fst).getD false) app30 e54 rfl rfl (by omega) ⟨by decide,by decide,by decide⟩ 3 (show 3<6 by decide) fun s' h' hr3=>?_;refine⟨_,(show 200-(i+1)<200-i by omega),i+1,F++[(x.map Prod.fst).getD false],s',by rw[w64 (by omega) (by omega)];omega,rfl,by rw[Yh,hFl];rfl,by omega,?_,st2 F _ hFq (fun p hp=>by rw[hp];rfl)⟩;rw[st1];exact hr3
 have hie:i=N.toNat:=by omega
 generalize hy4:stR y3 rBo i=y4 at *;rw[hie] at hy4;refine (bounded80 0 400 h14.size s B h14 h49 _ _ hRB hBy hr).mono ?_;clear hr;rintro _ h61 ⟨rfl,hr⟩;refine⟨_,rfl,?_⟩;generalize hy5:(y4.map Prod.snd).bind (rBd 0 400)=y5 at *;have hM:=getD_bd hy5 (by decide) (by decide);generalize hMe:(y5.map Prod.fst).getD 0=M at *
 refine⟨fun x h' μ=>∃(j:Nat) (X:List Mv) (sm:Sl),x=(j:Int)/\μ=400-j/\X.length=j/\(j:Int)<=M/\Rds h14 h' 139 h14.size s B ((stR y5 rMv j).map Prod.snd) [.blk h33.size (mcC K N S sf sm nilS) 26,.sl sm 81 6 (X.map Mv.cs),.sl sf 4 1 (F.map bC)]/\∀q,stR y5 rMv j=some q->X=q.1,
  ⟨_,0,[],nilS,rfl,rfl,rfl,by omega,?_,(stR_zero y5 rMv).2⟩,?_⟩
 .obtain⟨k1,hk1,hs,ho⟩:=hr;rw[(stR_zero y5 rMv).1];exact⟨k1,hk1,(hs.nil_ 81 6).picks [1,2,0,3] (by decide) rfl,ho⟩
 clear hr;rintro-_ h66 μ ⟨j,X,sm,rfl,rfl,hXl,hjM,hr,hXq⟩;refine sBi (fun c7=>?_) (fun c7=>?_)
 .refine (integer79 h14.size s B h14 h66 _ _ hRB hBy hr).mono ?_;clear hr;rintro _ h69 ⟨rfl,r1⟩;refine⟨_,rfl,?_⟩;generalize hx1:((stR y5 rMv j).map Prod.snd).bind rIq=x1 at *;generalize hv1:(x1.map Prod.fst).getD 0=v1 at *;refine r1.nput (vs:=Mv.cs ⟨v1,false,0,0,0,false⟩) (by rfl) (by rfl) fun h71 r2=>?_;refine (refBool90 h14.size s B h14 h71 _ _ hRB hBy r2).mono ?_;clear r1 r2;rintro _ h74 ⟨rfl,r1⟩;refine⟨_,rfl,?_⟩;generalize hx2:(x1.map Prod.snd).bind rBo=x2 at *;generalize hv2:(x2.map Prod.fst).getD false=v2 at *;refine r1.putf 1 (.bool v2) (show 1<6 by decide) fun h75 r2=>?_;replace r2:Rds h14 h75 139 h14.size s B (x2.map Prod.snd) (.blk h69.size (Mv.cs ⟨v1,v2,0,0,0,false⟩) 81::_):=r2;refine (integer79 h14.size s B h14 h75 _ _ hRB hBy r2).mono ?_;clear r1 r2;rintro _ h78 ⟨rfl,r1⟩;refine⟨_,rfl,?_⟩;generalize hx3:(x2.map Prod.snd).bind rIq=x3 at *;generalize hv3:(x3.map Prod.fst).getD 0=v3 at *;refine r1.putf 2 (.int .i64 v3) (show 2<6 by decide) fun h79 r2=>?_;replace r2:Rds h14 h79 139 h14.size s B (x3.map Prod.snd) (.blk h69.size (Mv.cs ⟨v1,v2,v3,0,0,false⟩) 81::_):=r2;refine (integer79 h14.size s B h14 h79 _ _ hRB hBy r2).mono ?_;clear r1 r2;rintro _ h82 ⟨rfl,r1⟩;refine⟨_,rfl,?_⟩;generalize hx4:(x3.map Prod.snd).bind rIq=x4 at *;generalize hv4:(x4.map Prod.fst).getD 0=v4 at *;refine r1.putf 3 (.int .i64 v4) (show 3<6 by decide) fun h83 r2=>?_;replace r2:Rds h14 h83 139 h14.size s B (x4.map Prod.snd) (.blk h69.size (Mv.cs ⟨v1,v2,v3,v4,0,false⟩) 81::_):=r2;refine (integer79 h14.size s B h14 h83 _ _ hRB hBy r2).mono ?_;clear r1 r2;rintro _ h86 ⟨rfl,r1⟩;refine⟨_,rfl,?_⟩;generalize hx5:(x4.map Prod.snd).bind rIq=x5 at *;generalize hv5:(x5.map Prod.fst).getD 0=v5 at *;refine r1.putf 4 (.int .i64 v5) (show 4<6 by decide) fun h87 r2=>?_;replace r2:Rds h14 h87 139 h14.size s B (x5.map Prod.snd) (.blk h69.size (Mv.cs ⟨v1,v2,v3,v4,v5,false⟩) 81::_):=r2;refine (refBool90 h14.size s B h14 h87 _ _ hRB hBy r2).mono ?_;clear r1 r2;rintro _ h90 ⟨rfl,r1⟩;refine⟨_,rfl,?_⟩;generalize hx6:(x5.map Prod.snd).bind rBo=x6 at *;generalize hv6:(x6.map Prod.fst).getD false=v6 at *;refine r1.putf 5 (.bool v6) (show 5<6 by decide) fun h91 r2=>?_;replace r2:Rds h14 h91 139 h14.size s B (x6.map Prod.snd) (.blk h69.size (Mv.cs ⟨v1,v2,v3,v4,v5,v6⟩) 81::[.blk h33.size (mcC K N S sf sm nilS) 26,.sl sm 81 6 (X.map Mv.cs),.sl sf 4 1 (F.map bC)]):=r2;clear r1;refine⟨sm,r2.rd 1 rfl (i:=4) rfl,v1,v2,v3,v4,v5,v6,r2.at 0 rfl,fun h99 e99=>?_⟩;have hch:=rMv_chain hx1 hx2 hx3 hx4 hx5 hx6;rw[hv1,hv2,hv3,hv4,hv5,hv6] at hch;obtain⟨st1,st2⟩:=stR_step hch;have e1:((stR y5 rMv (j+1)).map Prod.snd)=x6.map Prod.snd:=by rw[st1];cases x6<;>rfl
  refine ((r2.sub (List.sublist_cons_self _ _)).app (cs:=Mv.cs) (x:=⟨v1,v2,v3,v4,v5,v6⟩) app31 e99 rfl rfl (by omega) ⟨by decide,by decide,by decide⟩ 4 (show 4<6 by decide) fun s' h' hr3=>?_).2;refine⟨_,(show 400-(j+1)<400-j by omega),j+1,X++[⟨v1,v2,v3,v4,v5,v6⟩],s',by rw[w64 (by omega) (by omega)];omega,rfl,by rw[Yh,hXl];rfl,by omega,?_,st2 X _ hXq (fun p hp=>?_)⟩
  .rw[e1];exact hr3
  .cases x6 with
   | none=>cases hp
   | some g=>injection hp with hp;rw[<-hp]
 have hje:j=M.toNat:=by omega
 generalize hy6:stR y5 rMv j=y6 at *;rw[hje] at hy6;refine (bounded80 0 200 h14.size s B h14 h66 _ _ hRB hBy hr).mono ?_;clear hr;rintro _ h93 ⟨rfl,hr⟩;refine⟨_,rfl,?_⟩;generalize hy7:(y6.map Prod.snd).bind (rBd 0 200)=y7 at *;have hT:=getD_bd hy7 (by decide) (by decide);generalize hTe:(y7.map Prod.fst).getD 0=T at *
 refine⟨fun x h' μ=>∃(l:Nat) (Z:List To) (sl:Sl),x=(l:Int)/\μ=200-l/\Z.length=l/\(l:Int)<=T/\Rds h14 h' 139 h14.size s B ((stR y7 rTo l).map Prod.snd) [.blk h33.size (mcC K N S sf sm sl) 26,.sl sl 44 3 (Z.map To.cs),.sl sf 4 1 (F.map bC),.sl sm 81 6 (X.map Mv.cs)]/\∀q,stR y7 rTo l=some q->Z=q.1,
  ⟨_,0,[],nilS,rfl,rfl,rfl,by omega,?_,(stR_zero y7 rTo).2⟩,?_⟩
 .obtain⟨k1,hk1,hs,ho⟩:=hr;rw[(stR_zero y7 rTo).1];exact⟨k1,hk1,(hs.nil_ 44 3).picks [1,2,0,4,3] (by decide) rfl,ho⟩
 clear hr;rintro-_ h98 μ ⟨l,Z,sl,rfl,rfl,hZl,hlT,hr,hZq⟩;refine sBi (fun c8=>?_) (fun c8=>?_)
 .refine (integer79 h14.size s B h14 h98 _ _ hRB hBy hr).mono ?_;clear hr;rintro _ h114 ⟨rfl,r1⟩;refine⟨_,rfl,?_⟩;generalize hx1:((stR y7 rTo l).map Prod.snd).bind rIq=x1 at *;generalize hv1:(x1.map Prod.fst).getD 0=v1 at *;refine r1.nput (vs:=To.cs ⟨v1,0,0⟩) (by rfl) (by rfl) fun h116 r2=>?_;refine (integer79 h14.size s B h14 h116 _ _ hRB hBy r2).mono ?_;clear r1 r2;rintro _ h119 ⟨rfl,r1⟩;refine⟨_,rfl,?_⟩;generalize hx2:(x1.map Prod.snd).bind rIq=x2 at *;generalize hv2:(x2.map Prod.fst).getD 0=v2 at *;refine r1.putf 1 (.int .i64 v2) (show 1<3 by decide) fun h120 r2=>?_;replace r2:Rds h14 h120 139 h14.size s B (x2.map Prod.snd) (.blk h114.size (To.cs ⟨v1,v2,0⟩) 44::_):=r2;refine (integer79 h14.size s B h14 h120 _ _ hRB hBy r2).mono ?_;clear r1 r2;rintro _ h123 ⟨rfl,r1⟩;refine⟨_,rfl,?_⟩;generalize hx3:(x2.map Prod.snd).bind rIq=x3 at *;generalize hv3:(x3.map Prod.fst).getD 0=v3 at *;refine r1.putf 2 (.int .i64 v3) (show 2<3 by decide) fun h124 r2=>?_;replace r2:Rds h14 h124 139 h14.size s B (x3.map Prod.snd) (.blk h114.size (To.cs ⟨v1,v2,v3⟩) 44::[.blk h33.size (mcC K N S sf sm sl) 26,.sl sl 44 3 (Z.map To.cs),.sl sf 4 1 (F.map bC),.sl sm 81 6 (X.map Mv.cs)]):=r2;clear r1;refine⟨sl,r2.rd 1 rfl (i:=5) rfl,v1,v2,v3,r2.at 0 rfl,fun h129 e129=>?_⟩;have hch:=rTo_chain hx1 hx2 hx3;rw[hv1,hv2,hv3] at hch;obtain⟨st1,st2⟩:=stR_step hch;have e1:((stR y7 rTo (l+1)).map Prod.snd)=x3.map Prod.snd:=by rw[st1];cases x3<;>rfl
  refine ((r2.sub (List.sublist_cons_self _ _)).app (cs:=To.cs) (x:=⟨v1,v2,v3⟩) app25 e129 rfl rfl (by omega) ⟨by decide,by decide,by decide⟩ 5 (show 5<6 by decide) fun s' h' hr3=>?_).2;refine⟨_,(show 200-(l+1)<200-l by omega),l+1,Z++[⟨v1,v2,v3⟩],s',by rw[w64 (by omega) (by omega)];omega,rfl,by rw[Yh,hZl];rfl,by omega,?_,st2 Z _ hZq (fun p hp=>?_)⟩
  .rw[e1];exact hr3
  .cases x3 with
   | none=>cases hp
   | some g=>injection hp with hp;rw[<-hp]
 have hle:l=T.toNat:=by omega
 generalize hy8:stR y7 rTo l=y8 at *;rw[hle] at hy8
 have hch:=rMc_chain (B:=B) (F:=F) (X:=X) (Z:=Z) hy1 hy2 hy3 (by rw[hNe];exact hy4) hy5 (by rw[hMe];exact hy6) hy7 (by rw[hTe];exact hy8) hFq hXq hZq;rw[hK,hNe,hS] at hch;have hD:=@hdo ⟨K,N,S,F,X,Z⟩ (y8.map Prod.snd) (by rw[hch];cases y8<;>rfl);obtain⟨d1,d2,d3⟩:=hD;refine (end82 h14.size s B h14 h98 _ _ hRB hr).mono ?_;rintro _ _ ⟨rfl,rfl⟩;obtain⟨k2,hk2,hs,ho2⟩:=hr;have hj:=hs0.join hs;refine⟨_,rfl,sBn (fun c=>?_) (fun c=>?_)⟩
 .exact dc_no hj (d1 fun e=>c (by rw[e];rfl))
 have hz:y8.map Prod.snd=some []:=by
  unfold endE at c;split at c
  .assumption
  .cases c
 have hMI:MI _ ⟨K,N,S,F,X,Z⟩ sf sm sl:=(hs.picks (L':=[.sl sf 4 1 (F.map bC),.sl sm 81 6 (X.map Mv.cs),.sl sl 44 3 (Z.map To.cs)]) [3,4,2] (by decide) rfl).mi (m:=⟨K,N,S,F,X,Z⟩) 0 rfl rfl rfl (by show F.length<=_;omega) (by show X.length<=_;omega) (by show Z.length<=_;omega);refine⟨K,N,S,sf,sm,sl,hs.at 1 rfl (o:=0) (n:=6) rfl,?_⟩;refine (refValid24 ⟨K,N,S,F,X,Z⟩ sf sm sl _ hMI).mono ?_;rintro _ h152 ⟨⟨b0,rfl,hv0⟩,E⟩;have hj:=hj.step E;have hs:=hs.step E;refine⟨_,rfl,sB_intro (fun cv=>?_) (fun cv=>?_)⟩
 .exact dc_no hj (d2 hz (iff_f hv0 (bF cv)))
 refine⟨K,N,S,sf,sm,sl,hs.at 1 rfl (o:=0) (n:=6) rfl,?_⟩;have hj2:St h h152 [.blk h.size [.int .i64 0,.int .i64 0,.int .i64 0,.slice none 0 0,.slice none 0 0,.slice none 0 0] 26,.sl sf 4 1 (F.map bC),.sl sm 81 6 (X.map Mv.cs),.sl sl 44 3 (Z.map To.cs)]:=hj.picks [0,4,5,3] (by decide) rfl;exact dc_ret (m:=⟨K,N,S,F,X,Z⟩) hj2 (by show F.length<=_;omega) (by show X.length<=_;omega) (by show Z.length<=_;omega) (d3 hz (hv0.1 (bT cv)))
theorem xor8 {m:Nat} {y:Int} (hm:m<256) (hy:0<=y):xorI .u8 (m:Int) (IntKind.wrap .u8 y)=((m ^^^ (y.toNat%256):Nat):Int):=by
 obtain⟨z,rfl⟩:∃z:Nat,y=(z:Int):=⟨y.toNat,by omega⟩;rw[wrap8,Ys];have hz:z%256<256:=Nat.mod_lt _ (by decide);generalize z%256=w at *;unfold xorI;have e:(BitVec.ofInt (IntKind.bits .u8) (m:Int) ^^^ BitVec.ofInt (IntKind.bits .u8) (w:Int)).toNat=m ^^^ w:=by
  show (BitVec.ofInt 8 (m:Int) ^^^ BitVec.ofInt 8 (w:Int)).toNat=_;rw[BitVec.ofInt_natCast,BitVec.ofInt_natCast,BitVec.toNat_xor,BitVec.toNat_ofNat,BitVec.toNat_ofNat,Nat.mod_eq_of_lt hm,Nat.mod_eq_of_lt hz]
 rw[e];have:=Nat.xor_lt_two_pow (n:=8) hm hz;exact wu8 (by omega) (by omega)
def TrM (h:Heap) (v:Value) (h':Heap):Prop:=v=.bool true/\Ext h h'
theorem sealB_len (b:List Int):(sealB b).length=b.length+8:=by unfold sealB;rw[Yh];rfl
theorem sealB_byt {b:List Int} (hb:Byt b):Byt (sealB b):=fun x hx=>by
 unfold sealB at hx;rcases Yk.1 hx with h | h
 .exact hb x h
 .exact eight_byt _ x h
theorem encS_byt (m:Mch):Byt (encS m):=by
 unfold encS;split
 .exact sealB_byt (bodyM_byt m)
 .exact fun x hx=>by cases hx
theorem encS_len (m:Mch):(encS m).length<=24013:=by
 unfold encS;split
 .rename_i h;rw[sealB_len];have:=bodyM_len h.i64;omega
 .exact Nat.zero_le _
theorem t11c {h hX h116:Heap} {L:List It} {m:Mch} {sf sm sl tf tm tl:Sl} (hs:St h hX (.blk h116.size (mC m tf tm tl) 26 :: .blk h.size (mC m sf sm sl) 26::L)) (h1:MI hX m tf tm tl) (h2:MI hX m sf sm sl):V11c 0 hX h116 h (TrM h):=by
 unfold V11c;refine sBe (fun _=>?_) (fun c=>absurd rfl c);refine⟨m.role,m.n,m.s,tf,tm,tl,hs.at 0 rfl (o:=0) (n:=6) rfl,m.role,m.n,m.s,sf,sm,sl,hs.at 1 rfl (o:=0) (n:=6) rfl,?_⟩;refine (same17 m m tf tm tl sf sm sl hX h1 h2).mono ?_;rintro _ h153 ⟨⟨b,rfl,hb⟩,E⟩;have hbt:b=true:=hb.2 rfl;subst hbt;exact⟨true,rfl,rfl,(hs.step E).ext⟩
theorem t11a {h hX h9:Heap} {m:Mch} {sf sm sl s:Sl} {x y:Int} (hM:MI h m sf sm sl) (hx:0<=x/\x<65536) (hy:0<=y/\y<65536)
  (hs:St h hX [.sl s 5 1 ((encS m).map u8C),.blk h9.size [.int .u16 x,.int .u16 y] 69,.blk h.size (mC m sf sm sl) 26]):V11a s hX h (TrM h) h9:=by
 unfold V11a;have hn:=(hs.rows 0 (s:=s) (cs:=u8C) rfl (by decide)).ln;by_cases hV:VM m
 .have hbl:=bodyM_len hV.i64;have hbb:=bodyM_byt m;rw[encS_yes hV] at hs hn;rw[sealB_len] at hn;refine sBe (fun c=>absurd c (by omega)) (fun _=>?_);refine (decode43 s _ hX (hs.rl 0 rfl (by decide) (by rw[sealB_len];omega)) (sealB_byt hbb)).mono ?_;rintro _ h116 ⟨tf,tm,tl,rfl,hs4,hl⟩;rw[decM_enc hV] at hs4 hl ⊢;have hs:=hs.join hs4;refine⟨m.role,m.n,m.s,tf,tm,tl,0,rfl,?_⟩;refine hs.newput (vs:=mC m tf tm tl) rfl rfl fun h118 hs=>?_;have hs:St h h118 [.blk h116.size (mC m tf tm tl) 26,.sl s 5 1 ((sealB (bodyM m)).map u8C),.blk h9.size [.int .u16 x,.int .u16 y] 69,.blk h.size (mC m sf sm sl) 26,.sl tf 4 1 (m.fin.map bC),.sl tm 81 6 (m.mv.map Mv.cs),.sl tl 44 3 (m.li.map To.cs)]:=hs;have fin:∀ {hZ:Heap} {l:List Int},St h hZ [.blk h116.size (mC m tf tm tl) 26,.sl s 5 1 (l.map u8C),.blk h9.size [.int .u16 x,.int .u16 y] 69,.blk h.size (mC m sf sm sl) 26,.sl tf 4 1 (m.fin.map bC),.sl tm 81 6 (m.mv.map Mv.cs),.sl tl 44 3 (m.li.map To.cs)]->V11c 0 hZ h116 h (TrM h):=fun {hZ l} hs=>
   t11c (L:=[]) (hs.picks [0,3] (by decide) rfl) (hs.mi 4 rfl rfl rfl hl.1 hl.2.1 hl.2.2) (hM.ext hs.ext)
  refine⟨⟨by decide,by decide⟩,x,hs.rd 2 rfl (i:=0) rfl,by omega,⟨by decide,by decide⟩,y,hs.rd 2 rfl (i:=1) rfl,sBn (fun c0=>?_) (fun _=>fin hs)⟩;rw[w64 (n:=x) (by omega) (by omega)];have i0:0<=Int.tmod x (s.n:Int):=Int.tmod_nonneg _ hx.1;have i1:Int.tmod x (s.n:Int)<(s.n:Nat):=Int.tmod_lt_of_pos _ (by omega);generalize Int.tmod x (s.n:Int)=i at *;refine (hs.rows 1 rfl (by decide)).nbI i0 i1 fun b o c gc t=>?_;have hc:=sealB_byt hbb c (Yb gc);obtain⟨k,rfl⟩:∃k:Nat,c=(k:Int):=⟨c.toNat,by omega⟩;refine⟨(k:Int),t.hd,⟨by decide,by decide⟩,y,hs.rd 2 rfl (i:=1) rfl,?_⟩;rw[xor8 (by omega) hy.1];have hw:=Nat.mod_lt y.toNat (show 256>0 by decide);have hxl:=Nat.xor_lt_two_pow (n:=8) (x:=k) (y:=y.toNat%256) (by omega) (by omega);refine hs.set 1 rfl (by decide) i0 i1 ((k ^^^ (y.toNat%256):Nat):Int) rfl rfl (fun _ _ h90 hs=>?_) rfl;have hl2:((sealB (bodyM m)).set i.toNat ((k ^^^ (y.toNat%256):Nat):Int)).length<=1048576:=by rw[Yyh,sealB_len];omega
  refine (decode43 s _ h90 (hs.rl 1 rfl (by decide) hl2) (fun z hz=>?_)).mono ?_
  .rcases List.mem_or_eq_of_mem_set hz with h1 | h1
   .exact sealB_byt hbb z h1
   .rw[h1];omega
  rintro _ h136 ⟨uf,um,ul,rfl,hs6,-⟩;have hs:=hs.step hs6.ext;refine⟨_,_,_,uf,um,ul,_,rfl,?_⟩;refine hs.newput (vs:=mC _ uf um ul) rfl rfl fun h138 hs=>?_;have hne:((k ^^^ (y.toNat%256):Nat):Int)≠(k:Int):=fun e=>by
   have e1:k ^^^ (y.toNat%256)=k ^^^ 0:=by rw[Nat.xor_zero];omega
   have e2:=c_xor e1;obtain⟨z,rfl⟩:∃z:Nat,y=(z:Int):=⟨y.toNat,by omega⟩;rw[wrap8] at c0;rw[Ys] at e2;omega
  have hd:=decM_change hbb gc (y:=((k ^^^ (y.toNat%256):Nat):Int)) ⟨by omega,by omega⟩ hne;exact sBe (fun e=>absurd e hd) (fun _=>fin (hs.drop 1))
 .rw[encS_no hV] at hn;have hn0:s.n=0:=hn;refine sBe (fun _=>?_) (fun c=>absurd (by rw[hn0];rfl) c);refine⟨m.role,m.n,m.s,sf,sm,sl,hs.at 2 rfl (o:=0) (n:=6) rfl,?_⟩;refine (refValid24 m sf sm sl hX (hM.ext hs.ext)).mono ?_;rintro _ h107 ⟨⟨b,rfl,hb⟩,E⟩;have hbf:b=false:=by
   cases b with
   | false=>rfl
   | true=>exact absurd (hb.1 rfl) hV
  subst hbf;exact⟨false,rfl,rfl,(hs.step E).ext⟩
theorem t11d {h hY h9 h40 h51:Heap} {m:Mch} {sf sm sl s s91:Sl} {x y:Int} {b:List Int} (hM:MI h m sf sm sl) (hx:0<=x/\x<65536) (hy:0<=y/\y<65536) (hB:Byt b) (hR:RL hY 1 s91 u8C b)
  (hs:St h hY [.sl s 5 1 ((encS m).map u8C),.blk h9.size [.int .u16 x,.int .u16 y] 69,.blk h.size (mC m sf sm sl) 26]):V11d s91 hY h51 h40 h (bs (toB b)) (TrM h) s h9:=by
 unfold V11d;refine (cv_rl hR hB).mono ?_;rintro _ _ ⟨rfl,rfl⟩;exact⟨_,rfl,(Ext.refl _).sm,sB_not (sBs (fun _=>t11a hM hx hy hs) (fun c=>absurd rfl c))⟩
theorem t11b {h hX h9 h40 h51:Heap} {m X:Mch} {sf sm sl tf tm tl uf um ul s p1:Sl} {x y e:Int} {b c:List Int} (hM:MI h m sf sm sl) (hb:RL h 1 p1 u8C b) (hB:Byt b) (hx:0<=x/\x<65536) (hy:0<=y/\y<65536) (hd:decM b=(e,X))
  (h1:MI hX X tf tm tl) (h2:MI hX X uf um ul)
  (hs:St h hX [.blk h51.size (mC X uf um ul) 26,.blk h40.size (mC X tf tm tl) 26,.sl s 5 1 ((encS m).map u8C),.blk h9.size [.int .u16 x,.int .u16 y] 69,.blk h.size (mC m sf sm sl) 26]) :
  V11b (bs (toB c)) (bs (toB c)) (TrM h) hX e e h40 h51 h p1 s h9:=by
 unfold V11b;refine sB_not (sBs (fun _=>?_) (fun c=>absurd rfl c));refine sBn (fun c=>absurd rfl c) (fun _=>?_);refine⟨X.role,X.n,X.s,tf,tm,tl,hs.at 1 rfl (o:=0) (n:=6) rfl,X.role,X.n,X.s,uf,um,ul,hs.at 0 rfl (o:=0) (n:=6) rfl,?_⟩;refine (same17 X X tf tm tl uf um ul hX h1 h2).mono ?_;rintro _ h83 ⟨⟨b1,rfl,hb1⟩,E⟩;have hbt:b1=true:=hb1.2 rfl;subst hbt;have hs:=hs.step E;have h1:=h1.ext E;refine⟨true,rfl,E.sm,?_⟩;have tailA:∀ {hZ:Heap},Ext h83 hZ->St h hZ [.sl s 5 1 ((encS m).map u8C),.blk h9.size [.int .u16 x,.int .u16 y] 69,.blk h.size (mC m sf sm sl) 26]:=fun E=>(hs.step E).drop 2;refine sBe (fun c0=>?_) (fun _=>⟨⟨t11a hM hx hy (tailA (Ext.refl _)),t11a hM hx hy (tailA (Ext.refl _))⟩,t11a hM hx hy (tailA (Ext.refl _))⟩);subst c0;obtain⟨hV,hbe⟩:=decM_conv hB hd;have hbs:encS X=b:=by rw[encS_yes hV];exact hbe.symm
 have hbl:b.length<=1048576:=by rw[<-hbs];have:=encS_len X;omega
 refine⟨X.role,X.n,X.s,tf,tm,tl,hs.at 1 rfl (o:=0) (n:=6) rfl,?_,?_⟩
 .refine (encode42 X tf tm tl h83 h1).mono ?_;rintro _ h92 ⟨s91,rfl,hs5⟩;rw[hbs] at hs5;have E5:=hs5.ext;have hR:RL h92 1 s91 u8C b:=hs5.rl 0 rfl (by decide) hbl;have hp:RL h92 1 p1 u8C b:=hb.ext (hs.step E5).ext;refine⟨s91,rfl,E5.sm,?_,?_⟩
  .refine (cv_rl hR hB).mono ?_;rintro _ _ ⟨rfl,rfl⟩;refine⟨_,rfl,(Ext.refl _).sm,(cv_rl hp hB).mono ?_⟩;rintro _ _ ⟨rfl,rfl⟩;exact⟨_,rfl,(Ext.refl _).sm,sB_not (sBs (fun _=>t11a hM hx hy (tailA E5)) (fun c=>absurd rfl c))⟩
  .refine (cv_rl hp hB).mono ?_;rintro _ _ ⟨rfl,rfl⟩;exact⟨_,rfl,(Ext.refl _).sm,t11d hM hx hy hB hR (tailA E5)⟩
 .refine (cv_rl (hb.ext hs.ext) hB).mono ?_;rintro _ _ ⟨rfl,rfl⟩;refine⟨_,rfl,(Ext.refl _).sm,(encode42 X tf tm tl _ h1).mono ?_⟩;rintro _ h250 ⟨s91,rfl,hs5⟩;rw[hbs] at hs5;have E5:=hs5.ext;exact⟨s91,rfl,E5.sm,t11d hM hx hy hB (hs5.rl 0 rfl (by decide) hbl) (tailA E5)⟩
theorem machineCodes11 (m:Mch) (sf sm sl p1:Sl) (b:List Int) (x y:Int) (h:Heap) (hG:Gx h) (hM:MI h m sf sm sl) (hb:RL h 1 p1 u8C b) (hB:Byt b) (hx:0<=x/\x<65536) (hy:0<=y/\y<65536) :
  Fn Pz 11 #[.agg ⟨mC m sf sm sl⟩,.slice p1.a p1.n p1.c,.agg ⟨[.int .u16 x,.int .u16 y]⟩] h fun v h'=>v=.bool true/\Ext h h':=by
 apply vc11 m.role m.n m.s sf sm sl p1 x y;unfold W11;refine (St.refl h).newb fun h9 hs=>?_;refine hs.newb fun h10 hs=>?_;refine (awake12 h10 (hG.ext hs.ext)).mono ?_;rintro _ h13 ⟨rfl,E⟩;have hs:=hs.step E;refine⟨true,rfl,sB_f rfl ?_⟩;refine⟨m.role,m.n,m.s,sf,sm,sl,hs.at 1 rfl (o:=0) (n:=6) rfl,?_⟩;refine (few13 m sf sm sl h13 (hM.ext hs.ext)).mono ?_;rintro _ h22 ⟨⟨b1,rfl,-⟩,E⟩;have hs:=hs.step E;refine⟨b1,rfl,sB_intro (fun _=>⟨rfl,hs.ext⟩) (fun _=>sBi (fun _=>⟨rfl,hs.ext⟩) (fun _=>?_))⟩;refine⟨m.role,m.n,m.s,sf,sm,sl,hs.at 1 rfl (o:=0) (n:=6) rfl,?_⟩;refine (encode42 m sf sm sl h22 (hM.ext hs.ext)).mono ?_;rintro _ h31 ⟨s,rfl,hs1⟩;have hs:=hs.join hs1;refine⟨s,rfl,?_⟩;refine (decode43 p1 b h31 (hb.ext hs.ext) hB).mono ?_;rintro _ h40 ⟨tf,tm,tl,rfl,hs2,l1,l2,l3⟩;have hs:=hs.join hs2;refine⟨_,_,_,tf,tm,tl,_,rfl,?_⟩;refine hs.newput (vs:=mC (decM b).2 tf tm tl) rfl rfl fun h42 hs=>?_;refine (refDecode44 p1 b h42 (hb.ext hs.ext) hB).mono ?_;rintro _ h51 ⟨uf,um,ul,rfl,hs3,k1,k2,k3⟩;have hs:=hs.join hs3;refine⟨_,_,_,uf,um,ul,_,rfl,?_⟩;refine hs.newput (vs:=mC (decM b).2 uf um ul) rfl rfl fun h53 hs=>?_;have h1:MI h53 (decM b).2 tf tm tl:=hs.mi 5 rfl rfl rfl l1 l2 l3;have h2:MI h53 (decM b).2 uf um ul:=hs.mi 8 rfl rfl rfl k1 k2 k3;have hs:St h h53 [.blk h51.size (mC (decM b).2 uf um ul) 26,.blk h40.size (mC (decM b).2 tf tm tl) 26,.sl s 5 1 ((encS m).map u8C),.blk h9.size [.int .u16 x,.int .u16 y] 69,.blk h.size (mC m sf sm sl) 26]:=hs.picks [0,1,4,2,3] (by decide) rfl;have fin:∀ {hZ:Heap},Ext h53 hZ->V11b (bs (toB (encS m))) (bs (toB (encS m))) (fun v h'=>v=.bool true/\Ext h h') hZ (decM b).1 (decM b).1 h40 h51 h p1 s h9:=fun E=>t11b hM hb hB hx hy rfl (h1.ext E) (h2.ext E) (hs.step E);have el:=encS_len m;have cvs:∀ {hZ:Heap},Ext h53 hZ->RunW Pz (Go.convert 65 9 (.slice s.a s.n s.c)) hZ fun v h'=>v=.string (bs (toB (encS m)))/\h'=hZ:=fun E=>cv_rl ((hs.step E).rl 2 rfl (by decide) (by omega)) (encS_byt m);refine⟨m.role,m.n,m.s,sf,sm,sl,hs.at 4 rfl (o:=0) (n:=6) rfl,?_,?_⟩
 .refine (cvs (Ext.refl _)).mono ?_;rintro _ _ ⟨rfl,rfl⟩;refine⟨_,rfl,(Ext.refl _).sm,?_⟩;refine (refEncode45 m sf sm sl _ (hM.ext hs.ext)).mono ?_;rintro _ h65 ⟨s',rfl,hs4⟩;refine⟨s',rfl,(cv_rl (hs4.rl 0 rfl (by decide) (by omega)) (encS_byt m)).mono ?_⟩;rintro _ _ ⟨rfl,rfl⟩;exact⟨_,rfl,fin hs4.ext⟩
 .refine (refEncode45 m sf sm sl _ (hM.ext hs.ext)).mono ?_;rintro _ h536 ⟨s',rfl,hs4⟩;have cv2:=cv_rl (hs4.rl 0 rfl (by decide) (by omega)) (encS_byt m);refine⟨s',rfl,?_,?_⟩
  .refine (cvs hs4.ext).mono ?_;rintro _ _ ⟨rfl,rfl⟩;refine⟨_,rfl,(Ext.refl _).sm,cv2.mono ?_⟩;rintro _ _ ⟨rfl,rfl⟩;exact⟨_,rfl,fin hs4.ext⟩
  .refine cv2.mono ?_;rintro _ _ ⟨rfl,rfl⟩;refine⟨_,rfl,(cvs hs4.ext).mono ?_⟩;rintro _ _ ⟨rfl,rfl⟩;exact⟨_,rfl,(Ext.refl _).sm,fin hs4.ext⟩
end Go.VC
end

section
namespace Go.VC
open Go.Proofs Go.LexS Go.RowKit Go.ChangeShapes Go.WideShapes Go.Proofs.YtkebghjhekoecaaGreatDoor
theorem bulk_pos {H:Type} (d:DataW H):1<=Rows.uptoBulk d:=by
 cases d with
 | lit l=>cases l<;>simp[Rows.uptoBulk]
 | _=>simp[Rows.uptoBulk]
theorem bulk_part {H:Type}:∀ {l:List (DataW H)} {d:DataW H},d∈l->Rows.uptoBulk d<=Rows.uptoBulkAll l
 | [],_,h=>by cases h
 | x::r,d,h=>by
  rw[Rows.uptoBulkAll];rcases Yr.1 h with rfl | h
  .omega
  .have:=bulk_part h;omega
theorem bulk_len {H:Type}:∀l:List (DataW H),l.length<=Rows.uptoBulkAll l
 | []=>by simp
 | x::r=>by
  have h1:=bulk_pos x;have h2:=bulk_len r;rw[Rows.uptoBulkAll,Yyj];omega
def Rdb (P:Program) (W:World) (t:TypeId) (cs:List Value):Prop:=
 ∃(H:Type) (enc:TypeId × Value->H) (n:Nat) (x:DataW H × List MemPlace),DataW.trod enc P W 0 (fun _=>true) true n t cs=some x/\Rows.uptoBulk x.1<=1048576
theorem Rdb.rdt {P:Program} {W:World} {t:TypeId} {cs:List Value} (h:Rdb P W t cs):Rdt P W t cs:=by
 obtain⟨H,enc,n,x,h1,_⟩:=h;exact⟨H,enc,n,x,h1⟩
theorem rdb_of_trod {H:Type} {enc:TypeId × Value->H} {P:Program} {W:World} {t:TypeId} {v:Value} {d:DataW H} {p:List MemPlace} (h:DataW.Trod enc P W 0 (fun _=>true) true t v d p) (hw:Rows.uptoBulk d<=1048576):Rdb P W t v.cells.toList:=by
 obtain⟨n,h⟩:=h;exact⟨H,enc,n,_,h,hw⟩
theorem Rdb.field {P:Program} {W:World} {t ft:TypeId} {cs:List Value} {i off:Nat} (h:Rdb P W t cs) (hf:fieldAt P t i=some (ft,off)):Rdb P W ft ((cs.drop off).take (P.cellsOf ft)):=by
 unfold fieldAt at hf;split at hf
 .rename_i fs hu;obtain⟨f,h1,h2⟩:=Yya.1 hf;cases h2;obtain⟨H,enc,n,x,h,hw⟩:=h;obtain⟨xs,m,_,hx,hl,hxl,hfi⟩:=DataW.trod_struct hu h;have hlt:i<xs.length:=by rw[hxl];exact (Yyg.1 h1).1
  refine⟨H,enc,m,xs[i],by rw[hfi i f h1,Yi hlt],?_⟩;rw[hx,Rows.uptoBulk] at hw;have:=bulk_part (l:=xs.map (·.1)) (d:=xs[i].1) (Yp.2 ⟨xs[i],List.getElem_mem hlt,rfl⟩);omega
 .cases hf
theorem Rdb.array {P:Program} {W:World} {t e:TypeId} {n:Nat} {cs:List Value} (ht:P.underlying t=some (.array n e)) (h:Rdb P W t cs) :
  cs.length=P.cellsOf t/\∀i,i<n->Rdb P W e ((cs.drop (i*P.cellsOf e)).take (P.cellsOf e)):=by
 obtain⟨H,enc,m,x,h,hw⟩:=h;obtain⟨xs,k,_,hx,hl,hxl,hf⟩:=DataW.trod_array ht h;refine⟨hl,fun i hi=>?_⟩;have hlt:i<xs.length:=by omega
 refine⟨H,enc,k,xs[i],by rw[hf i hi,Yi hlt],?_⟩;rw[hx,Rows.uptoBulk] at hw;have:=bulk_part (l:=xs.map (·.1)) (d:=xs[i].1) (Yp.2 ⟨xs[i],List.getElem_mem hlt,rfl⟩);omega
theorem Rdb.rows {P:Program} {W:World} {t e:TypeId} {cs:List Value} (ht:P.underlying t=some (.slice e)) (h:Rdb P W t cs) (hpos:0<P.cellsOf e) :
  ∃(s:Sl) (rows:List (List Value)),cs=[.slice s.a s.n s.c]/\s.n<=s.c/\s.n<=1048576/\(s.a=none->s.n=0/\s.c=0)/\Rw W.heap (P.cellsOf e) s rows/\∀r∈rows,r.length=P.cellsOf e/\Rdb P W e r:=by
 obtain⟨H,enc,n,x,h,hw⟩:=h;rcases DataW.trod_slice ht h with ⟨rfl,_⟩ | ⟨a,len,cap,elems,rest,m,_,rfl,hx,_,hlc,hcm,hel,helem,_,_⟩
 .exact⟨⟨none,0,0⟩,[],rfl,Yyt _,Nat.zero_le _,fun _=>⟨rfl,rfl⟩,Rw.nil,fun r hr=>by cases hr⟩
 .rw[hx,Rows.uptoBulk] at hw;have hle:len<=1048576:=by
   have:=bulk_len (elems.map (·.1));rw[Yc] at this;omega
  have hwe:∀(i:Nat) (hi:i<elems.length),Rows.uptoBulk elems[i].1<=1048576:=fun i hi=>by
   have:=bulk_part (l:=elems.map (·.1)) (d:=elems[i].1) (Yp.2 ⟨elems[i],List.getElem_mem hi,rfl⟩);omega
  by_cases h0:len=0
  .subst h0;exact⟨⟨some a,0,cap⟩,[],rfl,hlc,hle,fun e=>(by cases e),Rw.empty rfl,fun r hr=>by cases hr⟩
  .have hrow:∀i,i<len->∃r,W.cells? 0 (a.add (i*P.cellsOf e)) (P.cellsOf e)=some r/\Rdb P W e r:=by
    intro i hi;have h1:=helem i hi;rw[Yi (by omega)] at h1;obtain⟨r,hr,hx2⟩:=Option.bind_eq_some_iff.1 h1;exact⟨r,hr,H,enc,m,_,hx2,hwe i (by omega)⟩
   let row:Nat->List Value:=fun i=>(W.cells? 0 (a.add (i*P.cellsOf e)) (P.cellsOf e)).getD []
   have hrow':∀i,i<len->W.cells? 0 (a.add (i*P.cellsOf e)) (P.cellsOf e)=some (row i)/\Rdb P W e (row i):=fun i hi=>by
    obtain⟨r,hr,hx⟩:=hrow i hi;have:row i=r:=by show (W.cells? 0 _ _).getD []=r;rw[hr];rfl
    rw[this];exact⟨hr,hx⟩
   have hget:∀i,i<len->((List.range len).map row)[i]?=some (row i):=fun i hi=>by
    rw[Yd,Yyb hi];rfl
   have hspot:a=⟨a.block,a.off,none⟩:=by
    have hc:=(cells_at (hrow' 0 (by omega)).1);have hl0:0<(row 0).length:=by rw[hc.1];exact hpos
    have:=hc.2 0 _ (Yi hl0);rw[Nat.zero_mul,show (a.add 0).add 0=a from rfl] at this;unfold World.cell? at this;split at this
    .split at this
     .cases this
     .rename_i hs;cases a with
      | mk b o s=>
       cases s with
       | none=>rfl
       | some s=>exact absurd rfl hs
    .cases this
   refine⟨⟨some a,len,cap⟩,(List.range len).map row,rfl,hlc,hle,fun e=>(by cases e),⟨by simp,fun _=>⟨a.block,a.off,by rw[<-hspot],fun i r hi j v hj=>?_⟩⟩,fun r hr=>?_⟩
   .have hil:i<len:=by have:=(Ya.1 hi).1;simpa using this
    rw[hget i hil] at hi;cases hi;have h4:=(cells_at (hrow' i hil).1).2 _ _ hj;rw[hspot] at h4;have e:((⟨a.block,a.off,none⟩:Addr).add (i*P.cellsOf e)).add j=addk ⟨a.block,a.off+i*P.cellsOf e,none⟩ j:=by
     rw[addk_at,add_n,add_n]
    rw[e] at h4;exact h4
   .obtain⟨i,hi,rfl⟩:=Yp.1 hr;have:=hrow' i (List.mem_range.1 hi);exact⟨(cells_at this.1).1,this.2⟩
theorem Rdb.list {α:Type} {P:Program} {W:World} {t e:TypeId} {k:Nat} {v:Value} {cs:α->List Value} {Q:α->Prop} (ht:P.underlying t=some (.slice e)) (hk:P.cellsOf e=k) (hpos:0<k)
  (ho:∀r,Rdb P W e r->∃x,r=cs x/\Q x) (h:Rdb P W t [v]):∃(s:Sl) (L:List α),v=.slice s.a s.n s.c/\RL W.heap k s cs L/\∀x∈L,Q x:=by
 subst hk;obtain⟨s,rows,e1,hc,hm,hna,hrw,hr⟩:=h.rows ht hpos;have key:∀rows:List (List Value),(∀r∈rows,r.length=P.cellsOf e/\Rdb P W e r)->∃L:List α,rows=L.map cs/\∀x∈L,Q x:=by
  intro rows
  induction rows with
  | nil=>intro _;exact⟨[],rfl,fun x hx=>by cases hx⟩
  | cons r rows ih=>
   intro h;obtain⟨x,hx,hq⟩:=ho r (h r (by simp)).2;obtain⟨L,hL,hQ⟩:=ih fun y hy=>h y (Yn _ hy);exact⟨x::L,by rw[hx,hL];rfl,fun y hy=>by rcases Yr.1 hy with rfl | hy;exact hq;exact hQ y hy⟩
 obtain⟨L,rfl,hQ⟩:=key rows hr;have hn:=hrw.ln;exact⟨s,L,by simpa using e1,⟨hrw,hc,hna,by omega⟩,hQ⟩
theorem v3:Pz.underlying 3=some (.int .i64):=by kernel_rfl
theorem v4b:Pz.underlying 4=some .bool:=by kernel_rfl
theorem cz3:Pz.cellsOf 3=1:=by kernel_rfl
theorem cz4:Pz.cellsOf 4=1:=by kernel_rfl
theorem cz22:Pz.cellsOf 22=1:=by kernel_rfl
theorem cz23:Pz.cellsOf 23=1:=by kernel_rfl
theorem cz24:Pz.cellsOf 24=1:=by kernel_rfl
theorem cz26:Pz.cellsOf 26=6:=by kernel_rfl
theorem cz44:Pz.cellsOf 44=3:=by kernel_rfl
theorem cz81:Pz.cellsOf 81=6:=by kernel_rfl
theorem vs22:Pz.underlying 22=some (.slice 4):=by kernel_rfl
theorem vs23:Pz.underlying 23=some (.slice 81):=by kernel_rfl
theorem vs24:Pz.underlying 24=some (.slice 44):=by kernel_rfl
theorem open_three {W:World} {t:TypeId} {r:List Value} (hc:Pz.cellsOf t=3) (h0:fieldAt Pz t 0=some (3,0)) (h1:fieldAt Pz t 1=some (3,1)) (h2:fieldAt Pz t 2=some (3,2)) (h:Rdt Pz W t r) :
  ∃a b c:Int,r=[.int .i64 a,.int .i64 b,.int .i64 c]:=by
 have hl:=h.flen h0;rw[hc] at hl
 match r,hl with
 | [x0,x1,x2],_=>
  have f0:=h.field h0;have f1:=h.field h1;have f2:=h.field h2;rw[cz3] at f0 f1 f2;obtain⟨k0,e0,_⟩:=f0.int v3;obtain⟨k1,e1,_⟩:=f1.int v3;obtain⟨k2,e2,_⟩:=f2.int v3;simp only[List.drop_zero,List.take_succ_cons,Yyk,List.drop_succ_cons,List.cons.injEq,and_true] at e0 e1 e2;subst e0 e1 e2;exact⟨k0,k1,k2,rfl⟩
theorem open_boolv {W:World} {r:List Value} (h:Rdb Pz W 4 r):∃x:Bool,r=bC x/\True:=by
 obtain⟨k,e⟩:=h.rdt.bool v4b;exact⟨k,e,trivial⟩
theorem open_limit {W:World} {r:List Value} (h:Rdb Pz W 44 r):∃x:To,r=x.cs/\True:=by
 obtain⟨a,b,c,e⟩:=open_three cz44 (by kernel_rfl) (by kernel_rfl) (by kernel_rfl) h.rdt;exact⟨⟨a,b,c⟩,e,trivial⟩
theorem open_move {W:World} {r:List Value} (h:Rdb Pz W 81 r):∃x:Mv,r=x.cs/\True:=by
 have hl:=h.rdt.flen (i:=0) (ft:=3) (off:=0) (by kernel_rfl);rw[cz81] at hl
 match r,hl with
 | [x0,x1,x2,x3,x4,x5],_=>
  have f0:=h.rdt.field (i:=0) (ft:=3) (off:=0) (by kernel_rfl);have f1:=h.rdt.field (i:=1) (ft:=4) (off:=1) (by kernel_rfl);have f2:=h.rdt.field (i:=2) (ft:=3) (off:=2) (by kernel_rfl);have f3:=h.rdt.field (i:=3) (ft:=3) (off:=3) (by kernel_rfl);have f4:=h.rdt.field (i:=4) (ft:=3) (off:=4) (by kernel_rfl);have f5:=h.rdt.field (i:=5) (ft:=4) (off:=5) (by kernel_rfl);rw[cz3] at f0 f2 f3 f4;rw[cz4] at f1 f5;obtain⟨k0,e0,_⟩:=f0.int v3;obtain⟨k1,e1⟩:=f1.bool v4b;obtain⟨k2,e2,_⟩:=f2.int v3;obtain⟨k3,e3,_⟩:=f3.int v3;obtain⟨k4,e4,_⟩:=f4.int v3;obtain⟨k5,e5⟩:=f5.bool v4b;simp only[List.drop_zero,List.take_succ_cons,Yyk,List.drop_succ_cons,List.cons.injEq,and_true] at e0 e1 e2 e3 e4 e5;subst e0 e1 e2 e3 e4 e5;exact⟨⟨k0,k1,k2,k3,k4,k5⟩,rfl,trivial⟩
theorem open_machine {W:World} {r:List Value} (h:Rdb Pz W 26 r):∃(m:Mch) (sf sm sl:Sl),r=mC m sf sm sl/\MI W.heap m sf sm sl:=by
 have hl:=h.rdt.flen (i:=0) (ft:=3) (off:=0) (by kernel_rfl);rw[cz26] at hl
 match r,hl with
 | [x0,x1,x2,x3,x4,x5],_=>
  have f0:=h.rdt.field (i:=0) (ft:=3) (off:=0) (by kernel_rfl);have f1:=h.rdt.field (i:=1) (ft:=3) (off:=1) (by kernel_rfl);have f2:=h.rdt.field (i:=2) (ft:=3) (off:=2) (by kernel_rfl);have f3:=h.field (i:=3) (ft:=22) (off:=3) (by kernel_rfl);have f4:=h.field (i:=4) (ft:=23) (off:=4) (by kernel_rfl);have f5:=h.field (i:=5) (ft:=24) (off:=5) (by kernel_rfl);rw[cz3] at f0 f1 f2;rw[cz22] at f3;rw[cz23] at f4;rw[cz24] at f5;obtain⟨k0,e0,_⟩:=f0.int v3;obtain⟨k1,e1,_⟩:=f1.int v3;obtain⟨k2,e2,_⟩:=f2.int v3;obtain⟨sf,lf,e3,hf,_⟩:=Rdb.list vs22 cz4 (by omega) (fun r hr=>open_boolv hr) (show Rdb Pz W 22 [x3] from f3);obtain⟨sm,lm,e4,hm,_⟩:=Rdb.list vs23 cz81 (by omega) (fun r hr=>open_move hr) (show Rdb Pz W 23 [x4] from f4);obtain⟨sl,ll,e5,hl,_⟩:=Rdb.list vs24 cz44 (by omega) (fun r hr=>open_limit hr) (show Rdb Pz W 24 [x5] from f5);simp only[List.drop_zero,List.take_succ_cons,Yyk,List.drop_succ_cons,List.cons.injEq,and_true] at e0 e1 e2;subst e0 e1 e2 e3 e4 e5;exact⟨⟨k0,k1,k2,lf,lm,ll⟩,sf,sm,sl,rfl,⟨hf,hm,hl⟩⟩
theorem cz5:Pz.cellsOf 5=1:=by kernel_rfl
theorem vsS65:Pz.underlying 65=some (.slice 5):=by kernel_rfl
theorem v5u:Pz.underlying 5=some (.int .u8):=by kernel_rfl
theorem open_u8n {W:World} {r:List Value} (h:Rdb Pz W 5 r):∃x:Int,r=u8C x/\(0<=x/\x<256):=by
 obtain⟨n,e,hw⟩:=h.rdt.int v5u;have h3:(decide (IntKind.u8.min<=n)&&decide (n<=IntKind.u8.max))=true:=hw;rw[Yt] at h3;have h4:(0:Int)<=n:=Yyn h3.1;have h5:n<=(255:Int):=Yyn h3.2;exact⟨n,e,h4,by omega⟩
theorem open_u8s {W:World} {v:Value} (h:Rdb Pz W 65 [v]):∃(s:Sl) (L:List Int),v=.slice s.a s.n s.c/\(RL W.heap 1 s u8C L/\∀n∈L,0<=n/\n<256):=by
 obtain⟨s,L,e,hr,hb⟩:=Rdb.list vsS65 cz5 (by omega) (fun r hr=>open_u8n hr) h;exact⟨s,L,e,hr,hb⟩
theorem v69a:Pz.underlying 69=some (.array 2 68):=by kernel_rfl
theorem v69e:Pz.underlying 68=some (.int .u16):=by kernel_rfl
theorem cz69e:Pz.cellsOf 68=1:=by kernel_rfl
theorem czS69:Pz.cellsOf 69=2:=by kernel_rfl
theorem open_u16n {W:World} {r:List Value} (h:Rdb Pz W 68 r):∃x:Int,r=[.int .u16 x]/\(0<=x/\x<65536):=by
 obtain⟨n,e,hw⟩:=h.rdt.int v69e;have h3:(decide (IntKind.u16.min<=n)&&decide (n<=IntKind.u16.max))=true:=hw;rw[Yt] at h3;have h4:(0:Int)<=n:=Yyn h3.1;have h5:n<=(65535:Int):=Yyn h3.2;exact⟨n,e,h4,by omega⟩
theorem open_u16x2 {W:World} {r:List Value} (h:Rdb Pz W 69 r):∃a b:Int,r=[.int .u16 a,.int .u16 b]/\(0<=a/\a<65536)/\(0<=b/\b<65536):=by
 obtain⟨hl,hf⟩:=h.array v69a;rw[czS69] at hl;rw[cz69e] at hf
 match r,hl with
 | [x0,x1],_=>
  obtain⟨a,e0,h0⟩:=open_u16n (show Rdb Pz W 68 [x0] from hf 0 (by omega));obtain⟨b,e1,h1⟩:=open_u16n (show Rdb Pz W 68 [x1] from hf 1 (by omega));simp only[List.cons.injEq,and_true] at e0 e1;subst e0 e1;exact⟨a,b,rfl,h0,h1⟩
end Go.VC
end
