/- PjRa PjRb PjRc PjRd PjRe0 PjRe PjRf PjRg PjHa PjIa PjHb PjHc PjHd PjIb PjIc PjId PjIe PjUa PjKb PjKc PjKd PjKe PjKf PjUb PjUc PjUd. -/
import Derived.Test.YtfdhgcladnbdeaaGreatDoorCM06
set_option linter.all false
set_option maxRecDepth 100000
set_option maxHeartbeats 8000000

section
namespace Go.VC
open Go.Proofs Go.LexS
theorem letter199 (b:UInt8) (h:Heap):Fn Pz 199 #[.int .u8 b.toNat] h fun v h'=>v=.bool (lt b)/\h'=h:=by
 apply vc199;unfold W199;unfold lt isLetter;generalize (b.toNat:Int)=n
 repeat' first
  | refine sBi (fun _=>?_) (fun _=>?_)
 all_goals
  refine⟨?_,rfl⟩;congr 1;rw[Bool.eq_iff_iff];simp only[Bool.or_eq_true,Yt,decide_eq_true_eq,Bool.false_eq_true,true_iff,false_iff];omega
theorem digit240 (b:UInt8) (h:Heap):Fn Pz 240 #[.int .u8 b.toNat] h fun v h'=>v=.bool (dg b)/\h'=h:=by
 apply vc240;unfold W240;unfold dg isDigit;refine sBi (fun c=>⟨?_,rfl⟩) (fun c=>⟨?_,rfl⟩)
 .rw[decide_eq_true (p:=(48:Int)<=b.toNat) c,Bool.true_and]
 .rw[decide_eq_false (p:=(48:Int)<=b.toNat) c,Bool.false_and]
theorem inner200 (b:UInt8) (h:Heap):Fn Pz 200 #[.int .u8 b.toNat] h fun v h'=>v=.bool (inn b)/\h'=h:=by
 apply vc200;unfold W200;refine (letter199 b h).mono ?_;rintro _ h3 ⟨rfl,rfl⟩;refine⟨_,rfl,sB_intro (fun c=>?_) (fun c=>?_)⟩
 .exact⟨by rw[show inn b=(lt b||dg b||((b.toNat:Int)==95)) from rfl,c];rfl,rfl⟩
 .refine (digit240 b _).mono ?_;rintro _ h6 ⟨rfl,rfl⟩;refine⟨_,rfl,sB_intro (fun d=>?_) (fun d=>?_)⟩
  .exact⟨by rw[show inn b=(lt b||dg b||((b.toNat:Int)==95)) from rfl,c,d];rfl,rfl⟩
  .exact⟨by rw[show inn b=(lt b||dg b||((b.toNat:Int)==95)) from rfl,c,d];rfl,rfl⟩
theorem isName152 (s:ByteArray) (h:Heap):Fn Pz 152 #[.string s] h fun v h'=>v=.bool (isName s.data.toList)/\h'=h:=by
 apply vc152;unfold W152;have hsz:=size_len s;rw[strEq];generalize hL:s.data.toList=L at *;refine sB_intro (fun he=>?_) (fun he=>?_)
 .have:L=[]:=Yyn he;subst this;exact⟨rfl,rfl⟩
 .have hne:L≠[]:=Yyo he;have hpos:0<L.length:=List.length_pos_iff.2 hne;obtain⟨b,hb,hby⟩:=byte_get (s:=s) (i:=0) (by omega);rw[hL] at hb;have hcons:L=b::L.drop 1:=by have:=drop_cons hb;rwa [List.drop_zero] at this
  have hdef:isName L=(decide (L.length<=16)&&lt b&&L.all inn):=by
   conv=>lhs;rw[hcons]
   rw[isName,<-hcons]
  rw[hdef];refine⟨⟨by omega,by omega⟩,?_⟩;rw[show Int.toNat 0=0 from rfl,hby];refine (letter199 _ _).mono ?_;rintro v h3 ⟨rfl,rfl⟩;refine⟨_,rfl,sB_intro (fun hlet=>?_) (fun hlet=>?_)⟩
  .refine⟨?_,rfl⟩;rw[show lt b=false from by rw[Bool.not_eq_true'] at hlet;exact hlet,Bool.and_false];rfl
  rw[show lt b=true from by rw[Bool.not_eq_false'] at hlet;exact hlet];refine sB_intro (fun hgt=>?_) (fun hgt=>?_)
  .refine⟨?_,rfl⟩;rw[decide_eq_false (by have:=Yyn hgt;omega)];rfl
  .have h16:L.length<=16:=by have:=Yyo hgt;omega
   rw[decide_eq_true h16];refine up_loop (n:=s.size) (fun i h'=>h'=h3/\∀(j:Nat) (b:UInt8),j<i->L[j]?=some b->(!inn b)=false) ⟨rfl,fun j b hj=>by omega⟩ ?_;rintro-i h8 hi ⟨rfl,hd⟩;refine sB_intro (fun hlt=>?_) (fun hge=>?_)
   .have hlt':=lt_t hlt;obtain⟨y,hy,hby2⟩:=byte_get hlt';rw[hL] at hy;refine⟨⟨by omega,by omega⟩,?_⟩;rw[show Int.toNat (i:Int)=i from rfl,hby2];refine (inner200 _ _).mono ?_;rintro v h11 ⟨rfl,rfl⟩;refine⟨_,rfl,sB_intro (fun hp=>?_) (fun hp=>?_)⟩
    .refine⟨?_,rfl⟩;have:L.all inn=false:=by
      rw[<-Bool.not_eq_true,all_split];intro hh;have:=hh y i hy;rw[Bool.not_eq_true'] at hp;rw[show inn y=false from hp] at this;cases this
     rw[this];rfl
    .exact Up.next hlt' (by omega) ⟨rfl,scan_next (p:=fun b=>!inn b) hy hp hd⟩
   .have hge':=lt_f hge;refine⟨?_,rfl⟩;rw[(all_split inn L).2 fun b j hb=>by simpa using hd j b (by have:=(Ya.1 hb).1;omega) hb];rfl
theorem in153 (l:List Nm) (s:Sl) (x:ByteArray) (h:Heap) (hr:Rw h 1 s (l.map nmC)) (hm:l.length<=1048576):Fn Pz 153 #[.slice s.a s.n s.c,.string x] h fun v h'=>v=.bool (decide (x.data.toList∈l))/\h'=h:=by
 apply vc153;unfold W153;have hn:=hr.ln;refine up_loop (n:=s.n) (fun i h'=>h'=h/\x.data.toList∉l.take i) ⟨rfl,fun e=>by simp at e⟩ ?_;rintro-i h8 hi ⟨rfl,hd⟩;refine sB_intro (fun c=>?_) (fun c=>?_)
 .replace c:=lt_t c;refine hr.nbI (by omega) (by omega) fun b o d g t=>?_;replace g:l[i]?=some d:=g;refine⟨_,t.hd,?_⟩;rw[strEq,bs_list];refine sB_intro (fun he=>?_) (fun hne=>?_)
  .replace he:=Yyn he;exact⟨by rw[decide_eq_true (by first | (rw[he];exact Yb g) | (rw[<-he];exact Yb g))],rfl⟩
  .replace hne:=Yyo hne;refine Up.next c (by omega) ⟨rfl,fun hm2=>?_⟩;rw[List.take_add_one,g] at hm2;rcases Yk.1 hm2 with hm2 | hm2
   .exact hd hm2
   .first | exact hne (Ye.1 hm2) | exact hne (Ye.1 hm2).symm
 .replace c:=lt_f c;refine⟨?_,rfl⟩;rw[Yj (by omega)] at hd;rw[decide_eq_false hd]
theorem index112 (l:List Nm) (s:Sl) (x:ByteArray) (h:Heap) (hr:Rw h 1 s (l.map nmC)) (hm:l.length<=1048576):Fn Pz 112 #[.slice s.a s.n s.c,.string x] h fun v h'=>(∃k:Int,v=.int .i64 k/\(∀i:Nat,i<l.length->(k<(i:Int) ↔ x.data.toList∈l.take i\/x.data.toList∉l)))/\h'=h:=by
 apply vc112;unfold W112;have hn:=hr.ln;refine up_loop (n:=s.n) (fun i h'=>h'=h/\x.data.toList∉l.take i) ⟨rfl,fun e=>by simp at e⟩ ?_;rintro-i h8 hi ⟨rfl,hd⟩;refine sB_intro (fun c=>?_) (fun c=>?_)
 .replace c:=lt_t c;refine hr.nbI (by omega) (by omega) fun b o d g t=>?_;replace g:l[i]?=some d:=g;refine⟨_,t.hd,?_⟩;rw[strEq,bs_list];refine sB_intro (fun he=>?_) (fun hne=>?_)
  .replace he:=Yyn he;have he2:x.data.toList=d:=by first | exact he | exact he.symm
   have hmem:x.data.toList∈l:=by rw[he2];exact Yb g
   refine⟨⟨_,rfl,fun k hk=>⟨fun hik=>.inl ?_,fun hor=>?_⟩⟩,rfl⟩
   .have:l[i]?=some x.data.toList:=by rw[he2];exact g
    exact Yb (i:=i) (by rw[Yyf,if_pos (by omega)];exact this)
   .rcases hor with hor | hor
    .apply Classical.byContradiction;intro hki;have:l.take k=(l.take i).take k:=by rw[List.take_take,Nat.min_eq_left (by omega)]
     rw[this] at hor;exact hd (List.mem_of_mem_take hor)
    .exact absurd hmem hor
  .replace hne:=Yyo hne;refine Up.next c (by omega) ⟨rfl,fun hm2=>?_⟩;rw[List.take_add_one,g] at hm2;rcases Yk.1 hm2 with hm2 | hm2
   .exact hd hm2
   .first | exact hne (Ye.1 hm2) | exact hne (Ye.1 hm2).symm
 .replace c:=lt_f c;rw[Yj (by omega)] at hd;exact⟨⟨_,rfl,fun k hk=>⟨fun _=>.inr hd,fun _=>by omega⟩⟩,rfl⟩
def kwB:List ByteArray:=[⟨#[97,103,97,105,110]⟩,⟨#[97,110,100]⟩,⟨#[97,115]⟩,⟨#[97,116]⟩,⟨#[99,97,108,108]⟩,⟨#[99,104,111,105,99,101]⟩,⟨#[101,108,115,101]⟩,⟨#[102,114,111,109]⟩,⟨#[105,102]⟩,⟨#[105,110,116]⟩,⟨#[108,101,110]⟩,⟨#[108,111,111,112]⟩,⟨#[109,101,115,115,97,103,101]⟩,⟨#[111,102]⟩,⟨#[111,102,102,101,114]⟩,⟨#[111,110]⟩,⟨#[111,114]⟩,⟨#[112,97,114]⟩,⟨#[112,108,97,121,115]⟩,⟨#[112,114,111,116,111,99,111,108]⟩,⟨#[115,101,114,118,105,99,101]⟩,⟨#[116,101,120,116]⟩,⟨#[116,105,109,101,115]⟩,⟨#[116,111]⟩,⟨#[118,97,114]⟩,⟨#[119,104,101,114,101]⟩,⟨#[119,104,105,108,101]⟩,⟨#[119,105,116,104,105,110]⟩]
theorem kwB_eq:(kwB.map fun b=>b.data.toList)=keywords:=rfl
theorem keywords154 (h:Heap):Fn Pz 154 #[] h fun v h'=>Ext h h'/\∃s:Sl,v=.slice s.a s.n s.c/\Rw h' 1 s (keywords.map nmC):=by
 apply vc154;unfold W154;intro h1 e;have ho:Own h1 h.size (kwB.map Value.string) 9:=by rw[e];exact Own.push
 have hl:kwB.length=28:=rfl;rw[<-kwB_eq];refine⟨by rw[e];exact Ext.push _ _,⟨some ⟨h.size,0,none⟩,28,28⟩,rfl,by rw[Yc,Yc,hl],fun _=>⟨h.size,0,rfl,fun i row hi=>?_⟩⟩;rw[List.map_map,Yd] at hi;obtain⟨x,hx1,hx2⟩:=Yya.1 hi;subst hx2;refine ho.atC fun j v hj=>?_
 match j,hj with
 | 0,hj=>cases hj;rw[show 0+i*1+0=i by omega,Yd,hx1];rfl
theorem isWord111 (s:ByteArray) (h:Heap):Fn Pz 111 #[.string s] h fun v h'=>v=.bool (isWord s.data.toList)/\Ext h h':=by
 apply vc111;unfold W111;refine (isName152 s h).mono ?_;rintro _ h3 ⟨rfl,rfl⟩;refine⟨_,rfl,sB_intro (fun c=>?_) (fun c=>?_)⟩
 .refine (keywords154 h3).mono ?_;rintro _ h6 ⟨E2,k,rfl,hk⟩;refine⟨_,rfl,?_⟩;refine (in153 _ k s h6 hk (by decide)).mono ?_;rintro _ h9 ⟨rfl,rfl⟩;exact⟨_,rfl,by rw[isWord,c];rfl,E2⟩
 .exact⟨by rw[isWord,c];rfl,.rfl'⟩
theorem word201 (s:ByteArray) (h:Heap):Fn Pz 201 #[.string s] h fun v h'=>v=.bool (isWord s.data.toList)/\Ext h h':=by
 apply vc201;unfold W201;refine (isWord111 s h).mono ?_;rintro _ h3 ⟨rfl,E⟩;exact⟨_,rfl,rfl,E⟩
theorem ix_one {l:Nm}:Lib.index l [46]=Lib.indexByte l 46:=Lib.index_one l 46
theorem pieces_none {l:Nm} (hn:∀k:Nat,l[k]?≠some 46):pieces l=[l]:=by
 have h1:Lib.index l [46]=-1:=by
  have h0:=Lib.index_ge l [46];apply Classical.byContradiction;intro h2;obtain⟨o,ho⟩:∃o:Nat,Lib.index l [46]=o:=⟨(Lib.index l [46]).toNat,by omega⟩;rw[ix_one] at ho;exact hn o (Lib.indexByte_some ho).1
 unfold pieces Lib.split;rw[Lib.count_miss h1];rfl
theorem pieces_hit {l:Nm} {i:Nat} (hi:l[i]?=some 46) (hn:∀k:Nat,k<i->l[k]?≠some 46):pieces l=l.take i::pieces (l.drop (i+1)):=by
 have h1:Lib.index l [46]=(i:Int):=by
  have h0:=Lib.index_ge l [46];have h2:Lib.index l [46] ≠ -1:=fun h2=>by rw[ix_one] at h2;exact Lib.indexByte_none h2 i hi
  obtain⟨o,ho⟩:∃o:Nat,Lib.index l [46]=o:=⟨(Lib.index l [46]).toNat,by omega⟩;have h3:=Lib.indexByte_some (ix_one (l:=l) ▸ ho);have:o=i:=by
   rcases Nat.lt_trichotomy o i with h | h | h
   .exact absurd h3.1 (hn o h)
   .exact h
   .exact absurd hi (h3.2 i h)
  rw[ho,this]
 unfold pieces Lib.split;rw[Lib.count_hit (i:=i) (by decide) h1,Nat.add_comm 1,Lib.splitK,if_neg (by rw[h1];intro e;have:=eq_of_beq e;omega),h1];rfl
theorem isPath157 (s:ByteArray) (h:Heap) (hs:s.size<=1048576):Fn Pz 157 #[.string s] h fun v h'=>v=.bool (isPath s.data.toList)/\Ext h h':=by
 apply vc157;unfold W157 V157a;have hsz:=size_len s;generalize hL:s.data.toList=L at *;refine⟨fun f i h' m=>∃a b:Nat,f=a/\i=b/\a<=b/\b<=s.size+1/\m=s.size+1-b/\Ext h h'/\(b<=s.size->(∀k:Nat,a<=k->k<b->L[k]?≠some 46)/\(pieces L).all isWord=(pieces (L.drop a)).all isWord)/\(s.size<b->(pieces L).all isWord=true),⟨_,0,0,rfl,rfl,Yyt _,by omega,rfl,.rfl',fun _=>⟨fun k _ hk=>by omega,rfl⟩,fun hb=>by omega⟩,?_⟩;rintro-_ _ h6 m ⟨a,b,rfl,rfl,hab,hb,rfl,E,hq,hz⟩;refine sB_intro (fun c=>?_) (fun c=>?_)
 .replace c:=Yyn c;have hbs:b<=s.size:=by omega
  obtain⟨q1,q2⟩:=hq hbs;have hw:IntKind.wrap .i64 ((b:Int)+1)=((b+1:Nat):Int):=by rw[w64 (by omega) (by omega)];omega
  have hsl:(s.extract (Int.toNat (a:Int)) (Int.toNat (b:Int))).data.toList=(L.drop a).take (b-a):=by
   rw[show Int.toNat (a:Int)=a from rfl,show Int.toNat (b:Int)=b from rfl,ext_data,hL]
  refine sB_intro (fun c2=>?_) (fun c2=>?_)
  .have hbe:b=s.size:=by
    have:(b:Int)=s.size:=by simpa using c2
    omega
   have hp:pieces (L.drop a)=[L.drop a]:=pieces_none fun k hk=>by
    rw[List.getElem?_drop] at hk;exact q1 (a+k) (by omega) (by have:=(Ya.1 hk).1;omega) hk
   have hta:(L.drop a).take (b-a)=L.drop a:=Yj (by rw[List.length_drop];omega);refine⟨⟨by omega,by omega,by omega⟩,?_⟩;refine (word201 _ h6).mono ?_;rintro _ h9 ⟨rfl,E2⟩;rw[hsl,hta];rw[hp,List.all_cons,List.all_nil,Bool.and_true] at q2;refine⟨_,rfl,sB_intro (fun c3=>?_) (fun c3=>⟨_,by omega,b+1,b+1,hw,hw,by omega,by omega,rfl,E.trans E2,fun hb2=>by omega,fun _=>?_⟩)⟩
   .refine⟨?_,E.trans E2⟩;rw[isPath,q2,bF c3,Bool.and_false]
   .rw[q2,bT c3]
  .have hne:(b:Int)≠s.size:=by simpa using c2
   obtain⟨y,hy,hby⟩:=byte_get (s:=s) (i:=b) (by omega);rw[hL] at hy;refine⟨⟨by omega,by omega⟩,?_⟩;rw[show Int.toNat (b:Int)=b from rfl] at *;rw[hby];refine sB_intro (fun c3=>?_) (fun c3=>⟨_,by omega,a,b+1,rfl,hw,by omega,by omega,rfl,E,fun _=>⟨fun k hk1 hk2=>?_,q2⟩,fun hb2=>by omega⟩)
   .have hy46:y=46:=by
     have h4:(y.toNat:Int)=46:=by simpa using c3
     exact UInt8.toNat_inj.1 (by rw[show (46:UInt8).toNat=46 from rfl];omega)
    subst hy46;have hp:pieces (L.drop a)=(L.drop a).take (b-a)::pieces ((L.drop a).drop (b-a+1)):=pieces_hit (by rw[List.getElem?_drop,show a+(b-a)=b by omega];exact hy) fun k hk=>by
     rw[List.getElem?_drop];exact q1 (a+k) (by omega) (by omega)
    rw[List.drop_drop,show a+(b-a+1)=b+1 by omega] at hp;rw[hp,List.all_cons] at q2;refine⟨⟨by omega,by omega,by omega⟩,?_⟩;refine (word201 _ h6).mono ?_;rintro _ h9 ⟨rfl,E2⟩;rw[hsl];refine⟨_,rfl,sB_intro (fun c4=>?_) (fun c4=>⟨_,by omega,b+1,b+1,hw,hw,by omega,by omega,rfl,E.trans E2,fun hb2=>⟨fun k _ _=>by omega,?_⟩,fun hb2=>by omega⟩)⟩
    .refine⟨?_,E.trans E2⟩;rw[isPath,q2,bF c4,Bool.false_and,Bool.and_false]
    .rw[q2,bT c4,Bool.true_and]
   .by_cases hkb:k=b
    .subst hkb;rw[hy];intro e;cases e;simp at c3
    .exact q1 k hk1 (by omega)
 .replace c:=Yyo c;refine⟨?_,E⟩;rw[isPath,hz (by omega),Bool.and_true];first | rfl | (congr 1;rw[decide_eq_decide];omega)
theorem vars155 (ds:List Dc) (s:Sl) (h:Heap) (hd:DL h s ds):Fn Pz 155 #[.slice s.a s.n s.c] h fun v h'=>v=.int .i64 ((allF ds).length:Nat)/\(allF ds).length<=1099511627776/\h'=h:=by
 apply vc155;unfold W155;have hn:=hd.r.ln;have hm:=hd.r.sm;have hle:∀i,i<=ds.length->(allF (ds.take i)).length<=i*1048576:=fun i hi=>by
  have:=allF_le (ds.take i) fun d hd2=>(hd.i d (List.mem_of_mem_take hd2)).pf.sm;rw[Yu,Nat.min_eq_left hi] at this;exact this
 have hmx:∀i,i<=ds.length->(allF (ds.take i)).length<=1099511627776:=fun i hi=>by
  have:=hle i hi;have:i*1048576<=1048576*1048576:=Nat.mul_le_mul_right _ (by omega);omega
 refine⟨fun q i h' m=>∃b:Nat,i=b/\b<=s.n/\m=s.n-b/\h'=h/\q=((allF (ds.take b)).length:Nat),⟨_,0,rfl,by omega,rfl,rfl,rfl⟩,?_⟩;rintro-nn _ h6 m ⟨b,rfl,hb,rfl,rfl,rfl⟩;refine sB_intro (fun c=>?_) (fun c=>?_)
 .replace c:=lt_t c;refine hd.r.rw.nbI (by omega) (by omega) fun b7 o8 d g t=>?_;replace g:ds[b]?=some d:=g;have hfn:=(hd.i d (Yb g)).pf.ln;refine⟨_,t.nth 1 rfl,_,?_,b+1,by rw[w64 (by omega) (by omega)];omega,by omega,rfl,rfl,?_⟩
  .omega
  .have h1:=hmx (b+1) (by omega);rw[List.take_add_one,g,Option.toList_some,allF_snoc,Yh] at h1 ⊢;rw[w64 (by omega) (by omega)];omega
 .replace c:=lt_f c;have h1:=hmx ds.length (Yyt _);rw[Yye] at h1;rw[Yj (by omega)];exact⟨rfl,h1,rfl⟩
theorem goodSort156 (a b c:Int) (h:Heap):Fn Pz 156 #[.agg ⟨[.int .i64 a,.int .i64 b,.int .i64 c]⟩] h (RP (SortS a b c) h):=by
 apply vc156;unfold W156 V156a;refine (St.refl h).newb fun h4 hs=>?_;refine⟨fun l m h'=>h'=h4/\((a=2/\l=0/\m=40)\/(a≠2/\l=-1000/\m=1000)),⟨_,hs.rd 0 rfl rfl,sBi (fun c=>⟨rfl,.inl ⟨by simpa using c,rfl,rfl⟩⟩) (fun c=>⟨rfl,.inr ⟨by simpa using c,rfl,rfl⟩⟩)⟩,?_⟩;rintro-l m _ ⟨rfl,hlm⟩
 repeat' (first
  | (refine⟨_,hs.rd 0 rfl rfl,?_⟩)
  | (refine sBi (fun _=>?_) (fun _=>?_)))
 all_goals
  refine RP.e ?_ hs.ext;unfold SortS;simp only[Bool.false_eq_true,decide_eq_true_eq,beq_iff_eq,false_iff,true_iff] at *;omega
theorem field241 (ds:List Dc) (s:Sl) (p:Int) (h:Heap) (hd:DL h s ds) (h0:0<=p) (h1:p<(allF ds).length) (h2:(allF ds).length<=1099511627776) :
  Fn Pz 241 #[.slice s.a s.n s.c,.int .i64 p] h fun v h'=>(∃f,(allF ds)[p.toNat]?=some f/\v=.agg ⟨f.cs⟩)/\Ext h h':=by
 apply vc241;unfold W241 V241a;have hn:=hd.r.ln;have hm:=hd.r.sm;refine (St.refl h).newb fun h1' hs=>?_;refine⟨fun x i h' m=>∃b:Nat,i=b/\b<=s.n/\m=s.n-b/\h'=h1'/\0<=x/\x+((allF (ds.take b)).length:Nat)=p,⟨_,0,rfl,by omega,rfl,rfl,h0,by show p+((0:Nat):Int)=p;omega⟩,?_⟩;rintro-x _ h7 m ⟨b,rfl,hb,rfl,rfl,hx0,hx1⟩;refine sB_intro (fun c=>?_) (fun c=>?_)
 .replace c:=lt_t c;have hrw:=hd.r.rw.ext hs.ext;refine hrw.nbI (by omega) (by omega) fun b8 o9 d g t=>?_;replace g:ds[b]?=some d:=g;have hdi:=hd.i d (Yb g);have hfn:=hdi.pf.ln;have hfm:=hdi.pf.sm;have hsp:allF ds=allF (ds.take b)++(d.fs++allF (ds.drop (b+1))):=by
   have e:ds=ds.take b++d::ds.drop (b+1):=by
    have h3:=(List.take_append_drop b ds).symm;have hl:=(Ya.1 g).1;rw[List.drop_eq_getElem_cons hl,(Ya.1 g).2] at h3;exact h3
   conv=>lhs;rw[e]
   unfold allF;rw[List.flatMap_append,List.flatMap_cons]
  refine⟨_,t.nth 1 rfl,sB_intro (fun c2=>?_) (fun c2=>?_)⟩
  .replace c2:=Yyn c2;refine hrw.nbI (by omega) (by omega) fun b11 o12 d2 g2 t2=>?_;replace g2:ds[b]?=some d2:=g2;rw[g] at g2;cases g2;refine⟨_,t2.nth 1 rfl,?_⟩;refine (hdi.pf.rw.ext hs.ext).nbI hx0 c2 fun b14 o15 f g3 t3=>?_;refine⟨_,_,_,_,t3,?_⟩;refine hs.put 0 rfl (o:=0) (vs:=f.cs) rfl (show 4<=4 by decide) fun h20 hs=>?_;refine⟨_,_,_,_,hs.at 0 rfl (o:=0) (n:=4) rfl,⟨f,?_,rfl⟩,hs.ext⟩;have hxl:=(Ya.1 g3).1;rw[hsp,Yyc (by omega),Yyi (by omega),<-g3];congr 1;omega
  .replace c2:=Yyo c2;refine hrw.nbI (by omega) (by omega) fun b11 o12 d2 g2 t2=>?_;replace g2:ds[b]?=some d2:=g2;rw[g] at g2;cases g2;refine⟨_,t2.nth 1 rfl,s.n-(b+1),by omega,b+1,by rw[w64 (by omega) (by omega)];omega,by omega,rfl,rfl,?_⟩;rw[w64 (by omega) (by omega)];refine⟨by omega,?_⟩;rw[List.take_add_one,g,Option.toList_some,allF_snoc,Yh];omega
 .replace c:=lt_f c;rw[Yj (by omega)] at hx1;omega
theorem text202 (ds:List Dc) (s:Sl) (p:Int) (h:Heap) (hd:DL h s ds):Fn Pz 202 #[.slice s.a s.n s.c,.int .i64 p] h (RP (TextS (allF ds) p) h):=by
 apply vc202;unfold W202;refine sB_intro (fun c=>?_) (fun c=>?_)
 .replace c:=Yyn c;refine (vars155 ds s h hd).mono ?_;rintro _ h3 ⟨rfl,hk,rfl⟩;refine⟨_,rfl,sB_intro (fun c2=>?_) (fun c2=>?_)⟩
  .replace c2:=Yyn c2;refine (field241 ds s p _ hd (by omega) (by omega) hk).mono ?_;rintro _ h9 ⟨⟨f,hf,rfl⟩,E⟩;refine⟨_,_,_,_,rfl,RP.e ⟨fun hb=>⟨by omega,f,hf,by simpa using hb⟩,?_⟩ E⟩;rintro⟨_,f2,hf2,hk2⟩;rw[hf] at hf2;cases hf2;simpa using hk2
  .replace c2:=Yyo c2;refine RP.f ?_ .rfl';rintro⟨_,f2,hf2,_⟩;have:=(Ya.1 hf2).1;omega
 .replace c:=Yyo c;exact RP.f (fun hT=>by have:=hT.1;omega) .rfl'
theorem goodGuard158 (ds:List Dc) (s:Sl) (d:Dc) (h:Heap) (hd:DL h s ds) (hi:DI h d) :
  Fn Pz 158 #[.slice s.a s.n s.c,.agg ⟨[.slice d.hd.a d.hd.n d.hd.c,.slice d.he.a d.he.n d.he.c]⟩] h (RP (GuardS (allF ds) d.ds d.es) h):=by
 apply vc158 s d.hd d.he;unfold W158;have hdn:=hi.pd.ln;have hdm:=hi.pd.sm;have hen:=hi.pe.ln;have hem:=hi.pe.sm;refine (St.refl h).newb fun h3 hs=>?_;refine (vars155 ds s h3 (hd.ext hs.ext)).mono ?_;rintro _ h6 ⟨rfl,hk,rfl⟩;refine⟨_,rfl,?_⟩;refine up_loopS (n:=d.hd.n) hs (fun i=>∀(j:Nat) (x:Df),j<i->d.ds[j]?=some x -> -1<=min x.x x.y/\max x.x x.y<(allF ds).length /\ -20000<=x.c/\x.c<=20000) (fun j x hj=>by omega) ?_;rintro-i h11 hin ⟨hs,hq⟩;refine⟨_,hs.rd 0 rfl rfl,sB_intro (fun c=>?_) (fun c=>?_)⟩
 .replace c:=lt_t c;refine⟨_,hs.rd 0 rfl rfl,?_⟩;refine (hi.pd.rw.ext hs.ext).nbI (by omega) (by omega) fun b o x g t=>?_;replace g:d.ds[i]?=some x:=g;refine⟨_,_,_,t,?_⟩;refine hs.newput (vs:=x.cs) rfl rfl fun h20 hs=>?_
  repeat' (first
    | (refine⟨_,hs.rd 0 rfl rfl,?_⟩)
    | (refine⟨_,hs.rd 1 rfl rfl,?_⟩)
    | (refine sBi (fun _=>?_) (fun _=>?_))
    | (refine sBe (fun _=>?_) (fun _=>?_))
    | (refine sBn (fun _=>?_) (fun _=>?_)))
  all_goals first
   | exact RP.f (fun hG=>by have:=hG.d x (Yb g);omega) hs.ext
   | (refine Up.next c (by omega) ⟨hs.drop 1,fun j y hj hy=>?_⟩
      by_cases e:j=i
      .subst e;rw[g] at hy;cases hy;omega
      .exact hq j y (by omega) hy)
 .replace c:=lt_f c;have hqd:∀x∈d.ds,-1<=min x.x x.y/\max x.x x.y<(allF ds).length /\ -20000<=x.c/\x.c<=20000:=fun x hx=>by
   obtain⟨j,hj⟩:=Yf.1 hx;exact hq j x (by have:=(Ya.1 hj).1;omega) hj
  clear hq;refine up_loopS (n:=d.he.n) hs (fun i=>∀(j:Nat) (x:Eqs),j<i->d.es[j]?=some x->TextS (allF ds) x.x/\TextS (allF ds) x.y) (fun j x hj=>by omega) ?_;rintro-i h32 hin ⟨hs,hq⟩;refine⟨_,hs.rd 0 rfl rfl,sB_intro (fun c=>?_) (fun c=>?_)⟩
  .replace c:=lt_t c;refine⟨_,hs.rd 0 rfl rfl,?_⟩;refine (hi.pe.rw.ext hs.ext).nbI (by omega) (by omega) fun b o x g t=>?_;replace g:d.es[i]?=some x:=g;refine⟨⟨by omega,by omega⟩,_,t.nth 0 rfl,?_⟩;refine (text202 ds s _ h32 (hd.ext hs.ext)).mono ?_;rintro _ h40 ⟨⟨b1,rfl,hb1⟩,E⟩;have hs:=hs.step E;refine⟨_,rfl,sB_intro (fun c1=>RP.f (fun hG=>iff_f hb1 (bF c1) (hG.e x (Yb g)).1) hs.ext) (fun c1=>?_)⟩;refine⟨_,hs.rd 0 rfl rfl,?_⟩;refine (hi.pe.rw.ext hs.ext).nbI (by omega) (by omega) fun b o x' g' t=>?_;replace g':d.es[i]?=some x':=g';rw[g] at g';cases g';refine⟨⟨by omega,by omega⟩,_,t.nth 1 rfl,?_⟩;refine (text202 ds s _ h40 (hd.ext hs.ext)).mono ?_;rintro _ h47 ⟨⟨b2,rfl,hb2⟩,E⟩;have hs:=hs.step E;refine⟨_,rfl,sB_intro (fun c2=>RP.f (fun hG=>iff_f hb2 (bF c2) (hG.e x (Yb g)).2) hs.ext) (fun c2=>Up.next c (by omega) ⟨hs,fun j y hj hy=>?_⟩)⟩;by_cases e:j=i
   .subst e;rw[g] at hy;cases hy;exact⟨hb1.1 (bT c1),hb2.1 (bT c2)⟩
   .exact hq j y (by omega) hy
  .replace c:=lt_f c;have hqe:∀x∈d.es,TextS (allF ds) x.x/\TextS (allF ds) x.y:=fun x hx=>by
    obtain⟨j,hj⟩:=Yf.1 hx;exact hq j x (by have:=(Ya.1 hj).1;omega) hj
   refine⟨_,hs.rd 0 rfl rfl,sB_intro (fun c1=>⟨_,hs.rd 0 rfl rfl,?_⟩) (fun c1=>?_)⟩
   .replace c1:=Yyn c1;refine RP.e ⟨fun hb=>⟨by omega,by have:=Yyn hb;omega,hqd,hqe⟩,fun hG=>?_⟩ hs.ext;have:=hG.ne;exact decide_eq_true (by omega)
   .replace c1:=Yyo c1;exact RP.f (fun hG=>by have:=hG.nd;omega) hs.ext
def GNm (ds:List Dc):Prop:=∀d∈ds,d.nm.length<=1048576
theorem dup_iff {α:Type} {l:List α} {p:α->Bool}:(l.any p)=false ↔ ∀(j:Nat) (y:α),l[j]?=some y->p y=false:=by
 rw[List.any_eq_false];refine⟨fun h j y hj=>?_,fun h y hy=>?_⟩
 .have:=h y (Yb hj);cases hp:p y<;>simp_all
 .obtain⟨j,hj⟩:=Yf.1 hy;rw[h j y hj];decide
theorem refValid113 (ds:List Dc) (s:Sl) (h:Heap) (hd:DL h s ds) (hN:GNm ds):Fn Pz 113 #[.slice s.a s.n s.c] h (RP (DeclS ds) h):=by
 apply vc113;unfold W113;have hn:=hd.r.ln;have hm:=hd.r.sm;refine sB_intro (fun c0=>RP.f (fun hG=>by have:=hG.pn;have:=Yyn c0;omega) .rfl') (fun c0=>?_);replace c0:=Yyo c0;refine (vars155 ds s h hd).mono ?_;rintro _ h3 ⟨rfl,hk,rfl⟩;refine⟨_,rfl,sB_intro (fun c00=>RP.f (fun hG=>by have:=hG.pv;have:=Yyn c00;omega) .rfl') (fun c00=>?_)⟩;replace c00:=Yyo c00;refine⟨fun f i h' m=>∃b:Nat,i=b/\b<=s.n/\m=s.n-b/\St h3 h' []/\f=((allF (ds.take b)).length:Nat)/\∀(j:Nat) (y:Dc),j<b->ds[j]?=some y->DcS ds j y,⟨_,0,rfl,by omega,rfl,St.refl _,rfl,fun j y hj=>by omega⟩,?_⟩;rintro-_ _ h9 m ⟨b,rfl,hb,rfl,hs,rfl,hq⟩;refine sB_intro (fun c=>?_) (fun c=>RP.t ⟨by omega,by omega,fun j y hy=>hq j y (by have:=lt_f c;have:=(Ya.1 hy).1;omega) hy⟩ hs.ext);replace c:=lt_t c;refine (hd.r.rw.ext hs.ext).nbI (by omega) (by omega) fun b10 o11 d g t=>?_;replace g:ds[b]?=some d:=g;have hdm:=Yb g;have hdi:=hd.i d hdm;have hfn:=hdi.pf.ln;have hfm:=hdi.pf.sm;refine⟨_,_,_,_,_,t,?_⟩;refine hs.newput (vs:=d.cs) rfl rfl fun h18 hs=>?_;refine up_loopS (n:=b) hs (fun i=>∀(j:Nat) (y:Dc),j<i->ds[j]?=some y->y.nm≠d.nm) (fun j y hj=>by omega) ?_;rintro-k1 h23 hk1 ⟨hs,hq1⟩;refine sB_intro (fun c1=>?_) (fun c1=>?_)
 .replace c1:=lt_t c1;refine (hd.r.rw.ext hs.ext).nbI (by omega) (by omega) fun b24 o25 d2 g2 t2=>?_;replace g2:ds[k1]?=some d2:=g2;refine⟨_,t2.nth 0 rfl,_,hs.rd 0 rfl rfl,sBs (fun e=>?_) (fun e=>Up.next c1 (by omega) ⟨hs,fun j y hj hy=>?_⟩)⟩
  .refine RP.f (fun hG=>?_) hs.ext;have:=dup_iff.1 (hG.pd b d g).pd k1 d2 (by rw[Yyf,if_pos c1];exact g2);exact Yyo this e
  .by_cases e2:j=k1
   .subst e2;rw[g2] at hy;cases hy;exact e
   .exact hq1 j y (by omega) hy
 replace c1:=lt_f c1;have hdup:((ds.take b).any fun x=>decide (x.nm=d.nm))=false:=dup_iff.2 fun j y hy=>by
  rw[Yyf] at hy;split at hy
  .exact decide_eq_false (hq1 j y (by omega) hy)
  .cases hy
 clear hq1;refine up_loopS (n:=d.hf.n) hs (fun i=>∀(j:Nat) (y:Fld),j<i->d.fs[j]?=some y->FldS d.fs j y) (fun j y hj=>by omega) ?_;rintro-k2 h33 hk2 ⟨hs,hq2⟩;refine⟨_,hs.rd 0 rfl rfl,sB_intro (fun c2=>?_) (fun c2=>?_)⟩
 .replace c2:=lt_t c2;refine⟨_,hs.rd 0 rfl rfl,?_⟩;refine (hdi.pf.rw.ext hs.ext).nbI (by omega) (by omega) fun b36 o37 f g3 t3=>?_;replace g3:d.fs[k2]?=some f:=g3;refine⟨_,_,_,t3.sub 1 3 rfl,?_⟩;refine (goodSort156 _ _ _ h33).mono ?_;rintro _ h43 ⟨⟨b1,rfl,hb1⟩,E⟩;have hs:=hs.step E;refine⟨_,rfl,sB_intro (fun c3=>RP.f (fun hG=>iff_f hb1 (bF c3) ((hG.pd b d g).pfs k2 f g3).ps) hs.ext) (fun c3=>?_)⟩;refine⟨_,hs.rd 0 rfl rfl,?_⟩;refine (hdi.pf.rw.ext hs.ext).nbI (by omega) (by omega) fun b45 o46 f2 g4 t4=>?_;replace g4:d.fs[k2]?=some f2:=g4;rw[g3] at g4;cases g4;refine⟨_,t4.nth 0 rfl,?_⟩;refine (isWord111 (bs f.nm) h43).mono ?_;rintro _ h50 ⟨rfl,E⟩;have hs:=hs.step E;refine⟨_,rfl,sB_intro (fun c4=>RP.f (fun hG=>?_) hs.ext) (fun c4=>?_)⟩
  .have:=((hG.pd b d g).pfs k2 f g3).pw;rw[bs_list,this] at c4;cases c4
  refine up_loopS (n:=k2) hs (fun i=>∀(j:Nat) (y:Fld),j<i->d.fs[j]?=some y->y.nm≠f.nm) (fun j y hj=>by omega) ?_;rintro-j1 h55 hj1 ⟨hs,hq3⟩;refine sB_intro (fun c5=>?_) (fun c5=>?_)
  .replace c5:=lt_t c5;refine⟨_,hs.rd 0 rfl rfl,?_⟩;refine (hdi.pf.rw.ext hs.ext).nbI (by omega) (by omega) fun b57 o58 f3 g5 t5=>?_;replace g5:d.fs[j1]?=some f3:=g5;refine⟨_,t5.nth 0 rfl,_,hs.rd 0 rfl rfl,?_⟩;refine (hdi.pf.rw.ext hs.ext).nbI (by omega) (by omega) fun b61 o62 f4 g6 t6=>?_;replace g6:d.fs[k2]?=some f4:=g6;rw[g3] at g6;cases g6;refine⟨_,t6.nth 0 rfl,sBs (fun e=>?_) (fun e=>Up.next c5 (by omega) ⟨hs,fun j y hj hy=>?_⟩)⟩
   .refine RP.f (fun hG=>?_) hs.ext;have:=dup_iff.1 ((hG.pd b d g).pfs k2 f g3).pd j1 f3 (by rw[Yyf,if_pos c5];exact g5);exact Yyo this e
   .by_cases e2:j=j1
    .subst e2;rw[g5] at hy;cases hy;exact e
    .exact hq3 j y (by omega) hy
  .replace c5:=lt_f c5;refine Up.next c2 (by omega) ⟨hs,fun j y hj hy=>?_⟩;by_cases e2:j=k2
   .subst e2;rw[g3] at hy;cases hy;refine⟨?_,hb1.1 (bT c3),dup_iff.2 fun j' y' hy'=>?_⟩
    .have:=bT c4;rw[bs_list] at this;exact this
    .rw[Yyf] at hy';split at hy'
     .exact decide_eq_false (hq3 j' y' (by omega) hy')
     .cases hy'
   .exact hq2 j y (by omega) hy
 .replace c2:d.hf.n<=k2:=by have:=Yyo c2;omega
  have hfl:∀k f,d.fs[k]?=some f->FldS d.fs k f:=fun k f hf=>hq2 k f (by have:=(Ya.1 hf).1;omega) hf;refine⟨_,hs.rd 0 rfl rfl,?_⟩;refine (isPath157 (bs d.nm) h33 (hN d hdm)).mono ?_;rintro _ h69 ⟨rfl,E⟩;have hs:=hs.step E;refine⟨_,rfl,sB_intro (fun c3=>RP.f (fun hG=>?_) hs.ext) (fun c3=>?_)⟩
  .have:=(hG.pd b d g).pp;rw[bs_list,this] at c3;cases c3
  have hpp:isPath d.nm=true:=by have:=bT c3;rw[bs_list] at this;exact this
  refine⟨_,hs.rd 0 rfl rfl,sB_intro (fun c4=>RP.f (fun hG=>by have:=(hG.pd b d g).pn;have:=Yyn c4;omega) hs.ext) (fun c4=>?_)⟩;replace c4:=Yyo c4;refine⟨_,hs.rd 0 rfl rfl,sBn (fun c5=>RP.f (fun hG=>by have:=(hG.pd b d g).pf;omega) hs.ext) (fun c5=>?_)⟩;refine⟨_,_,hs.at 0 rfl (o:=3) (n:=2) rfl,?_⟩;refine (goodGuard158 ds s d h69 (hd.ext hs.ext) (hdi.ext hs.ext)).mono ?_;rintro _ h76 ⟨⟨b2,rfl,hb2⟩,E⟩;have hs:=hs.step E;refine⟨_,rfl,sB_intro (fun c6=>RP.f (fun hG=>iff_f hb2 (bF c6) (hG.pd b d g).pg) hs.ext) (fun c6=>?_)⟩;refine⟨_,hs.rd 0 rfl rfl,s.n-(b+1),by omega,b+1,by rw[w64 (by omega) (by omega)];omega,by omega,rfl,hs.drop 1,?_,fun j y hj hy=>?_⟩
  .have h1:(allF (ds.take (b+1))).length<=(allF ds).length:=allF_take ds (b+1);rw[List.take_add_one,g,Option.toList_some,allF_snoc,Yh] at h1 ⊢;rw[w64 (by omega) (by omega)];omega
  .by_cases e2:j=b
   .subst e2;rw[g] at hy;cases hy;exact⟨hpp,by omega,by omega,hdup,hfl,hb2.1 (bT c6)⟩
   .exact hq j y (by omega) hy
theorem St.cut {h0 h:Heap} {L:List It} (hs:St h0 h L) (k:Nat) {s:Sl} {e:TypeId} {n:Nat} {rows:List (List Value)} (hk:L[k]?=some (.sl s e n rows)) (hn:0<n) (i:Nat) (hi:i<=s.n) :
  St h0 h (L.set k (.sl ⟨s.a,i,s.c⟩ e n (rows.take i))):=by
 have hget:=hs.get hk;have hln:=(hs.rw k hk hn).1;refine hs.turn hk (Yyt _) (j:=.sl ⟨s.a,i,s.c⟩ e n (rows.take i)) ?_ (fun b hb=>.inr hb) (fun _ _ _=>rfl);have hrl:∀r∈rows.take i,r.length=n:=fun r hr=>hget.2 r (List.mem_of_mem_take hr);have hfl:(rows.take i).flatten=rows.flatten.take (i*n):=by
  have h5:rows=rows.take i++rows.drop i:=(List.take_append_drop i rows).symm;rw[congrArg List.flatten h5,List.flatten_append,Yyq (by rw[flatten_len _ hrl,Yu,Nat.min_eq_left (by omega)];exact Yyt _)];rw[Yj (l:=(rows.take i).flatten) (by rw[flatten_len _ hrl,Yu,Nat.min_eq_left (by omega)];exact Yyt _)]
 have hin:i*n<=s.n*n:=Nat.mul_le_mul_right _ hi;refine⟨⟨by rw[flatten_len _ hrl,Yu];show min i rows.length*n=i*n;rw[Nat.min_eq_left (by omega)],?_⟩,hrl⟩;rcases hget.1.2 with ⟨ha,h2,h3⟩ | ⟨g,cur,ha,hb0,hh,hnc,hcm,hsz,htk⟩
 .exact .inl ⟨ha,by show i=0;omega,h3⟩
 .refine .inr ⟨g,cur,ha,hb0,hh,by show i<=s.c;omega,hcm,hsz,?_⟩;show cur.toList.take (i*n)=_;rw[hfl,<-htk,List.take_take,Nat.min_eq_left hin]
theorem splice_set {xs:List Value} {i:Nat} {v:Value} (h:i<xs.length):splice xs i [v]=xs.set i v:=by
 unfold splice;rw[List.set_eq_take_append_cons_drop,if_pos h];simp
theorem state114 (g:Gl) (p:Int) (h:Heap):Fn Pz 114 #[g.v,.int .i64 p] h (RP (0<=p/\p<g.n) h):=by
 apply vc114 (bs g.nm) g.hr g.hd g.n g.s g.e g.he g.ht;unfold W114;refine (St.refl h).newb fun h9 hs=>?_;refine sB_intro (fun c=>?_) (fun c=>?_)
 .refine⟨_,hs.rd 0 rfl rfl,RP.e ?_ hs.ext⟩;have:=Yyn c;rw[decide_eq_true_eq];omega
 .exact RP.f (by have:=Yyo c;omega) hs.ext
structure NumR (g:Gl):Prop where
 n:1<=g.n/\g.n<=200
 s:0<=g.s/\g.s<g.n
 e:0<=g.e/\g.e<g.n
 es:∀x∈g.es,0<=x.f/\x.f<g.n/\0<=x.t/\x.t<g.n
theorem NumS.R {g:Gl} (h:NumS g):NumR g:=⟨⟨h.n.1,h.n.2.1⟩,⟨h.n.2.2.1,h.n.2.2.2.2.1⟩,⟨h.n.2.2.2.1,h.n.2.2.2.2.2⟩,fun x hx=>by
 have:=h.e x hx;unfold EdS at this;omega⟩
theorem numbers65 (g:Gl) (h:Heap) (hg:GI h g):Fn Pz 65 #[g.v] h (RP (NumS g) h):=by
 apply vc65 (bs g.nm) g.hr g.hd g.n g.s g.e g.he g.ht;unfold W65;have hen:=hg.e.ln;have hem:=hg.e.sm;have hrn:=hg.r.ln;have hdn:=hg.d.r.ln;refine (St.refl h).newb fun h9 hs=>?_;refine up_loopS (n:=g.he.n) hs (fun i=>∀j x,j<i->g.es[j]?=some x->EdS g x) (fun j x hj=>by omega) ?_;rintro-i h14 hi ⟨hs,hq⟩;refine⟨_,hs.rd 0 rfl rfl,sB_intro (fun c=>?_) (fun c=>?_)⟩
 .replace c:=lt_t c;refine⟨_,hs.rd 0 rfl rfl,?_⟩;refine (hg.e.rw.ext hs.ext).nbI (by omega) (by omega) fun b o x gx t=>?_;replace gx:g.es[i]?=some x:=gx;refine⟨_,_,_,_,_,_,t,?_⟩;refine hs.newput (vs:=x.cs) rfl rfl fun h26 hs=>?_;refine⟨_,_,_,_,_,_,_,_,hs.at 1 rfl (o:=0) (n:=8) rfl,_,hs.rd 0 rfl rfl,?_⟩;refine (state114 g x.f h26).mono ?_;rintro _ h38 ⟨⟨b1,rfl,hb1⟩,E⟩;have hs:=hs.step E;refine⟨_,rfl,sB_intro (fun c1=>RP.f (fun hG=>by have:=iff_f hb1 (bF c1);have:=hG.e x (Yb gx);unfold EdS at this;omega) hs.ext) (fun c1=>?_)⟩;refine⟨_,_,_,_,_,_,_,_,hs.at 1 rfl (o:=0) (n:=8) rfl,_,hs.rd 0 rfl rfl,?_⟩;refine (state114 g x.t h38).mono ?_;rintro _ h50 ⟨⟨b2,rfl,hb2⟩,E⟩;have hs:=hs.step E;refine⟨_,rfl,sB_intro (fun c2=>RP.f (fun hG=>by have:=iff_f hb2 (bF c2);have:=hG.e x (Yb gx);unfold EdS at this;omega) hs.ext) (fun c2=>?_)⟩;have f1:=hb1.1 (bT c1);have f2:=hb2.1 (bT c2)
  repeat' (first
     | (refine⟨_,hs.rd 0 rfl rfl,?_⟩)
     | (refine⟨_,hs.rd 1 rfl rfl,?_⟩)
     | (refine⟨_,hs.rd 2 rfl rfl,?_⟩)
     | (refine⟨_,_,_,hs.at 0 rfl (o:=1) (n:=3) rfl,?_⟩)
     | (refine⟨_,_,_,hs.at 1 rfl (o:=1) (n:=3) rfl,?_⟩)
     | (refine sBi (fun _=>?_) (fun _=>?_))
     | (refine sBe (fun _=>?_) (fun _=>?_))
     | (refine sBn (fun _=>?_) (fun _=>?_))
     | (refine sB_intro (fun _=>?_) (fun _=>?_)))
  all_goals first
   | exact RP.f (fun hG=>by have:=hG.e x (Yb gx);unfold EdS at this;omega) hs.ext
   | (refine Up.next c (by omega) ⟨hs.drop 1,fun j y hj hy=>?_⟩
      by_cases e:j=i
      .subst e;rw[gx] at hy;cases hy;unfold EdS;omega
      .exact hq j y (by omega) hy)
 .replace c:=lt_f c;refine⟨_,hs.rd 0 rfl rfl,sB_intro (fun c1=>?_) (fun c1=>RP.f (fun hG=>by have:=Yyo c1;have:=hG.n;omega) hs.ext)⟩;refine⟨_,hs.rd 0 rfl rfl,sB_intro (fun c2=>?_) (fun c2=>RP.f (fun hG=>by have:=Yyo c2;have:=hG.n;omega) hs.ext)⟩;refine⟨_,_,_,_,_,_,_,_,hs.at 0 rfl (o:=0) (n:=8) rfl,_,hs.rd 0 rfl rfl,?_⟩;refine (state114 g g.s h14).mono ?_;rintro _ h76 ⟨⟨b3,rfl,hb3⟩,E⟩;have hs:=hs.step E;refine⟨_,rfl,sB_intro (fun c3=>?_) (fun c3=>RP.f (fun hG=>by have:=iff_f hb3 c3;have:=hG.n;omega) hs.ext)⟩;refine⟨_,_,_,_,_,_,_,_,hs.at 0 rfl (o:=0) (n:=8) rfl,_,hs.rd 0 rfl rfl,?_⟩;refine (state114 g g.e h76).mono ?_;rintro _ h88 ⟨⟨b4,rfl,hb4⟩,E⟩;have hs:=hs.step E;refine⟨_,rfl,sB_intro (fun c4=>?_) (fun c4=>RP.f (fun hG=>by have:=iff_f hb4 c4;have:=hG.n;omega) hs.ext)⟩;have f1:=Yyn c1;have f2:=Yyn c2;have f3:=hb3.1 c3;have f4:=hb4.1 c4;refine⟨_,hs.rd 0 rfl rfl,RP.e ⟨fun hb=>⟨by omega,by have:=Yyn hb;omega,fun x hx=>?_⟩,fun hG=>decide_eq_true (by have:=hG.m;omega)⟩ hs.ext⟩;obtain⟨j,hj⟩:=Yf.1 hx;exact hq j x (by have:=(Ya.1 hj).1;omega) hj
structure ApS (g:Gl):Prop where
 s:∀x∈g.es,x.ag=true->x.f≠g.s
 p:∀i x,g.es[i]?=some x->∀k y,g.es[k]?=some y->¬PairBad i k x y
theorem apart66 (g:Gl) (h:Heap) (hg:GI h g):Fn Pz 66 #[g.v] h (RP (ApS g) h):=by
 apply vc66 (bs g.nm) g.hr g.hd g.n g.s g.e g.he g.ht;unfold W66 V66a V66b;have hen:=hg.e.ln;have hem:=hg.e.sm;refine (St.refl h).newb fun h9 hs=>?_;refine up_loopS (n:=g.he.n) hs (fun i=>∀(j:Nat) (x:Ed),j<i->g.es[j]?=some x->(x.ag=true->x.f≠g.s)/\∀k y,g.es[k]?=some y->¬PairBad j k x y) (fun j y hj=>by omega) ?_;rintro-i h14 hi ⟨hs,hq⟩;refine⟨_,hs.rd 0 rfl rfl,sB_intro (fun c=>?_) (fun c=>RP.t ⟨fun x hx=>?_,fun j x hx=>?_⟩ hs.ext)⟩
 .replace c:=lt_t c;refine⟨_,hs.rd 0 rfl rfl,?_⟩;refine (hg.e.rw.ext hs.ext).nbI (by omega) (by omega) fun b o x gx t=>?_;replace gx:g.es[i]?=some x:=gx;refine⟨_,_,_,_,_,_,t,?_⟩;refine hs.newput (vs:=x.cs) rfl rfl fun h26 hs=>?_;refine⟨_,hs.rd 0 rfl rfl,sB_intro (fun cg=>?_) (fun cg=>?_)⟩;refine⟨_,hs.rd 0 rfl rfl,_,hs.rd 1 rfl rfl,sBe (fun cs=>RP.f (fun hG=>hG.s x (Yb gx) cg cs) hs.ext) (fun cs=>?_)⟩;rotate_left;all_goals
   refine up_loopS (n:=g.he.n) hs (fun k=>∀(j:Nat) (y:Ed),j<k->g.es[j]?=some y->¬PairBad i j x y) (fun j y hj=>by omega) ?_;rintro-k h34 hk ⟨hs,hq2⟩;refine⟨_,hs.rd 1 rfl rfl,sB_intro (fun c2=>?_) (fun c2=>?_)⟩
   .replace c2:=lt_t c2;refine⟨_,hs.rd 1 rfl rfl,?_⟩;refine (hg.e.rw.ext hs.ext).nbI (by omega) (by omega) fun b o y gy ty=>?_;replace gy:g.es[k]?=some y:=gy;refine⟨_,_,_,_,_,_,ty,?_⟩;refine hs.newput (vs:=y.cs) rfl rfl fun h46 hs=>?_
    repeat' (first
       | (refine⟨_,hs.rd 0 rfl rfl,?_⟩)
       | (refine⟨_,hs.rd 1 rfl rfl,?_⟩)
       | (refine⟨_,hs.rd 2 rfl rfl,?_⟩)
       | (refine⟨_,_,_,hs.at 0 rfl (o:=1) (n:=3) rfl,?_⟩)
       | (refine⟨_,_,_,hs.at 1 rfl (o:=1) (n:=3) rfl,?_⟩)
       | (refine sBi (fun _=>?_) (fun _=>?_))
       | (refine sBe (fun _=>?_) (fun _=>?_))
       | (refine sBn (fun _=>?_) (fun _=>?_))
       | (refine sB_intro (fun _=>?_) (fun _=>?_)))
    all_goals first
     | (refine RP.f (fun hG=>hG.p i x gx k y gy ?_) hs.ext;clear hq hq2 hs hg t ty;unfold PairBad;grind)
     | (refine Up.next c2 (by omega) ⟨hs.drop 1,fun j z hj hz=>?_⟩
        by_cases e:j=k
        .subst e;rw[gy] at hz;cases hz;clear hq hq2 hs hg t ty;unfold PairBad;grind
        .exact hq2 j z (by omega) hz)
   .replace c2:g.he.n<=k:=by have:=Yyo c2;omega
    refine Up.next c (by omega) ⟨hs.drop 1,fun j z hj hz=>?_⟩;by_cases e:j=i
    .subst e;rw[gx] at hz;cases hz;exact⟨by grind,fun k' y' hy'=>hq2 k' y' (by have:=(Ya.1 hy').1;omega) hy'⟩
    .exact hq j z (by omega) hz
 .obtain⟨j,hj⟩:=Yf.1 hx;exact (hq j x (by have:=lt_f c;have:=(Ya.1 hj).1;omega) hj).1
 .exact (hq j x (by have:=lt_f c;have:=(Ya.1 hx).1;omega) hx).2
theorem timed68 (g:Gl) (h:Heap) (hg:GI h g) (hN:NumS g):Fn Pz 68 #[g.v] h (RP (TimS g) h):=by
 apply vc68 (bs g.nm) g.hr g.hd g.n g.s g.e g.he g.ht;unfold W68 V68a;have hen:=hg.e.ln;have hem:=hg.e.sm;have htn:=hg.t.ln;have htm:=hg.t.sm;refine (St.refl h).newb fun h9 hs=>?_;refine up_loopS (n:=g.ht.n) hs (fun i=>∀(j:Nat) (x:To),j<i->g.ts[j]?=some x->TmS g j x) (fun j y hj=>by omega) ?_;rintro-i h14 hi ⟨hs,hq⟩;refine⟨_,hs.rd 0 rfl rfl,sB_intro (fun c=>?_) (fun c=>RP.t (fun j x hx=>hq j x (by have:=lt_f c;have:=(Ya.1 hx).1;omega) hx) hs.ext)⟩;replace c:=lt_t c;refine⟨_,hs.rd 0 rfl rfl,?_⟩;refine (hg.t.rw.ext hs.ext).nbI (by omega) (by omega) fun b o x gx t=>?_;replace gx:g.ts[i]?=some x:=gx;have no:∀ {q:Prop},(TmS g i x->q)->TimS g->q:=fun f hT=>f (hT i x gx);refine⟨_,_,_,t,?_⟩;refine hs.newput (vs:=x.cs) rfl rfl fun h23 hs=>?_;refine⟨_,_,_,_,_,_,_,_,hs.at 1 rfl (o:=0) (n:=8) rfl,_,hs.rd 0 rfl rfl,?_⟩;refine (state114 g x.s h23).mono ?_;rintro _ h35 ⟨⟨b1,rfl,hb1⟩,E⟩;have hs:=hs.step E;refine⟨_,rfl,sB_intro (fun c1=>RP.f (no fun hT=>?_) hs.ext) (fun c1=>?_)⟩
 .obtain⟨_,y,hy,hf,_⟩:=hT.e;have:=iff_f hb1 (bF c1);have:=hN.R.es y (Yb hy);omega
 have f1:=hb1.1 (bT c1);refine sBi (fun c2=>?_) (fun c2=>?_);have hw:IntKind.wrap .i64 ((i:Int)-1)=((i-1:Nat):Int):=by rw[w64 (by omega) (by omega)];omega
 refine⟨_,hs.rd 0 rfl rfl,_,hs.rd 1 rfl rfl,?_⟩;rw[hw];refine (hg.t.rw.ext hs.ext).nbI (by omega) (by omega) fun b o z gz tz=>?_;replace gz:g.ts[i-1]?=some z:=gz;have hl:lastS g.ts i=z.s:=by unfold lastS;rw[if_neg (by omega),gz]
 refine⟨_,tz.nth 0 rfl,sBi (fun d0=>RP.f (no fun hT=>by have:=hT.o;omega) hs.ext) (fun d0=>?_)⟩;have ho:lastS g.ts i<x.s:=by omega
 rotate_left;have ho:lastS g.ts i<x.s:=by unfold lastS;rw[if_pos (by omega)];omega
 all_goals
  refine⟨_,hs.rd 0 rfl rfl,sBi (fun d1=>RP.f (no fun hT=>by have:=hT.k;omega) hs.ext) (fun d1=>?_)⟩;refine⟨_,hs.rd 0 rfl rfl,sBi (fun d2=>RP.f (no fun hT=>by have:=hT.k;omega) hs.ext) (fun d2=>?_)⟩;refine⟨_,hs.rd 0 rfl rfl,sBi (fun d3=>RP.f (no fun hT=>by have:=hT.e.1;omega) hs.ext) (fun d3=>?_)⟩;refine⟨_,hs.rd 0 rfl rfl,_,hs.rd 1 rfl rfl,sBi (fun d4=>RP.f (no fun hT=>by obtain⟨_,y,hy,_⟩:=hT.e;have:=(Ya.1 hy).1;omega) hs.ext) (fun d4=>?_)⟩;refine⟨_,hs.rd 1 rfl rfl,_,hs.rd 0 rfl rfl,?_⟩;refine (hg.e.rw.ext hs.ext).nbI (by omega) (by omega) fun b o y gy ty=>?_;refine⟨_,ty.nth 0 rfl,_,hs.rd 0 rfl rfl,sBn (fun d5=>RP.f (no fun hT=>by obtain⟨_,z,hz,hf,_⟩:=hT.e;rw[gy] at hz;cases hz;omega) hs.ext) (fun d5=>⟨_,hs.rd 1 rfl rfl,_,hs.rd 0 rfl rfl,?_⟩)⟩;refine (hg.e.rw.ext hs.ext).nbI (by omega) (by omega) fun b o y2 gy2 ty=>?_;rw[gy] at gy2;cases gy2;refine⟨_,ty.nth 5 rfl,sB_intro (fun d6=>RP.f (no fun hT=>by obtain⟨_,z,hz,_,hf⟩:=hT.e;rw[gy] at hz;cases hz;rw[hf] at d6;cases d6) hs.ext) (fun d6=>?_)⟩;refine Up.next c (by omega) ⟨hs.drop 1,fun j z hj hz=>?_⟩;by_cases e:j=i
  .subst e;rw[gx] at hz;cases hz;exact⟨ho,by omega,by omega,y,gy,by omega,d6⟩
  .exact hq j z (by omega) hz
theorem before159 (g:Gl) (p q:Int) (h:Heap) (hg:GI h g) (hp0:0<=p) (hp1:p<g.es.length) (hq0:0<=q) (hq1:q<g.es.length):Fn Pz 159 #[g.v,.int .i64 p,.int .i64 q] h (RBo h):=by
 apply vc159 (bs g.nm) g.hr g.hd g.n g.s g.e g.he g.ht;unfold W159 V159a;have hen:=hg.e.ln;refine (St.refl h).newb fun h9 hs=>?_;have hrw:=hg.e.rw.ext hs.ext;have hsz:h.size<h9.size:=hc_blk (hs.rd 0 rfl (i:=0) rfl);refine⟨_,hs.rd 0 rfl rfl,?_⟩;refine hrw.nbI (by omega) (by omega) fun b1 o1 x _ t1=>?_;refine⟨_,_,_,t1.sub 1 3 rfl,_,hs.rd 0 rfl rfl,?_⟩;refine hrw.nbI (by omega) (by omega) fun b2 o2 y _ t2=>?_;have hb2:b2<h9.size:=hc_blk t2.hd;refine⟨_,_,_,t2.sub 1 3 rfl,?_,?_⟩
 .intro h22 e22;have E22:Ext h9 h22:=by rw[e22];exact Ext.push _ _
  refine⟨smx E22,?_⟩;have hs:St h h22 [.blk h9.size [.int .i64 0,.int .i64 0,.int .i64 0] 53,.blk h.size g.cs 27]:=hs.newb (K:=fun h22=>St h h22 [.blk h9.size [.int .i64 0,.int .i64 0,.int .i64 0] 53,.blk h.size g.cs 27]) (fun _ hs=>hs) h22 e22;intro h23 e23;have E23:Ext h22 h23:=by rw[e23];exact Ext.push _ _
  refine⟨smx E23,?_⟩;have hs:St h h23 [.blk h22.size [.int .i64 0,.int .i64 0,.int .i64 0] 53,.blk h9.size [.int .i64 0,.int .i64 0,.int .i64 0] 53,.blk h.size g.cs 27]:=hs.newb (K:=fun h23=>St h h23 [.blk h22.size [.int .i64 0,.int .i64 0,.int .i64 0] 53,.blk h9.size [.int .i64 0,.int .i64 0,.int .i64 0] 53,.blk h.size g.cs 27]) (fun _ hs=>hs) h23 e23;obtain⟨k1,k2⟩:=hs.put (K:=fun h'=>St h h' [.blk h22.size [.int .i64 0,.int .i64 0,.int .i64 0] 53,.blk h9.size [.int .i64 x.a,.int .i64 x.b,.int .i64 x.l] 53,.blk h.size g.cs 27]) 1 rfl (o:=0) (vs:=[.int .i64 x.a,.int .i64 x.b,.int .i64 x.l]) (n:=3) rfl (show 3<=3 by decide) (fun h' hs=>hs);refine⟨k1,fun h24 e24=>?_⟩;have hs:=k2 h24 e24;have hB:But h9.size h23 h24:=by rw[e24];exact But.hputs (a:=⟨h9.size,0,none⟩) _ _ _
  refine⟨Sm_but hB (fun a ha=>?_),?_⟩
  .simp only[Yr,List.not_mem_nil,or_false] at ha;rcases ha with rfl | rfl
   .show b2≠h9.size;omega
   .show h.size≠h9.size;omega
  refine hs.put 0 rfl (o:=0) (vs:=[.int .i64 y.a,.int .i64 y.b,.int .i64 y.l]) rfl (show 3<=3 by decide) fun h25 hs=>?_
  repeat' (first
    | exact .mk hs.ext
    | (refine sB_intro (fun _=>?_) (fun _=>?_))
    | (refine⟨_,hs.rd 0 rfl rfl,?_⟩)
    | (refine⟨_,hs.rd 1 rfl rfl,?_⟩))
 .intro h34 e34;have E34:Ext h9 h34:=by rw[e34];exact Ext.push _ _
  refine⟨smx E34,?_⟩;have hs:St h h34 [.blk h9.size [.int .i64 0,.int .i64 0,.int .i64 0] 53,.blk h.size g.cs 27]:=hs.newb (K:=fun h34=>St h h34 [.blk h9.size [.int .i64 0,.int .i64 0,.int .i64 0] 53,.blk h.size g.cs 27]) (fun _ hs=>hs) h34 e34;intro h35 e35;have E35:Ext h34 h35:=by rw[e35];exact Ext.push _ _
  refine⟨smx E35,?_⟩;have hsz34:h9.size<h34.size:=by rw[e34];simp
  have hs:St h h35 [.blk h34.size [.int .i64 0,.int .i64 0,.int .i64 0] 53,.blk h9.size [.int .i64 0,.int .i64 0,.int .i64 0] 53,.blk h.size g.cs 27]:=hs.newb (K:=fun h35=>St h h35 [.blk h34.size [.int .i64 0,.int .i64 0,.int .i64 0] 53,.blk h9.size [.int .i64 0,.int .i64 0,.int .i64 0] 53,.blk h.size g.cs 27]) (fun _ hs=>hs) h35 e35;obtain⟨k1,k2⟩:=hs.put (K:=fun h'=>St h h' [.blk h34.size [.int .i64 x.a,.int .i64 x.b,.int .i64 x.l] 53,.blk h9.size [.int .i64 0,.int .i64 0,.int .i64 0] 53,.blk h.size g.cs 27]) 0 rfl (o:=0) (vs:=[.int .i64 x.a,.int .i64 x.b,.int .i64 x.l]) (n:=3) rfl (show 3<=3 by decide) (fun h' hs=>hs);refine⟨k1,fun h36 e36=>?_⟩;have hs:=k2 h36 e36;have hB:But h34.size h35 h36:=by rw[e36];exact But.hputs (a:=⟨h34.size,0,none⟩) _ _ _
  refine⟨Sm_but hB (fun a ha=>?_),?_⟩
  .simp only[Yr,List.not_mem_nil,or_false] at ha;rcases ha with rfl | rfl
   .show b2≠h34.size;omega
   .show h.size≠h34.size;omega
  refine hs.put 1 rfl (o:=0) (vs:=[.int .i64 y.a,.int .i64 y.b,.int .i64 y.l]) rfl (show 3<=3 by decide) fun h37 hs=>?_
  repeat' (first
    | exact .mk hs.ext
    | (refine sB_intro (fun _=>?_) (fun _=>?_))
    | (refine⟨_,hs.rd 0 rfl rfl,?_⟩)
    | (refine⟨_,hs.rd 1 rfl rfl,?_⟩))
theorem intrw {h:Heap} {s:Sl} {L:List Int} (hr:Rw h 1 s (L.map inC)) (hc:s.n<=s.c) {i:Nat} (hi:i<=s.n):Rw h 1 ⟨subA s.a i s.c 1,s.n-i,s.c-i⟩ ((L.drop i).map inC):=by
 have hn:=hr.ln;rw[List.map_drop];by_cases h0:i=s.n
 .rw[List.drop_eq_nil_of_le (by rw[Yc];omega)];exact Rw.empty (by show s.n-i=0;omega)
 .exact hr.from hc (by omega)
theorem subA_nil {s:Sl} {i:Nat} (hna:s.a=none->s.n=0/\s.c=0) (h:subA s.a i s.c 1=none):s.n-i=0/\s.c-i=0:=by
 unfold subA at h;split at h
 .have:=hna h;omega
 .cases ha:s.a with
  | none=>have:=hna ha;omega
  | some a=>rw[ha] at h;cases h
def LOk (g:Gl) (p:Int) (i:Nat) (L:List Int):Prop:=(∀y∈L,0<=y/\y<g.es.length)/\(L=[] ↔ ∀(j:Nat) (x:Ed),j<i->g.es[j]?=some x->x.f≠p)
theorem edges116 (g:Gl) (p:Int) (h:Heap) (hg:GI h g):Fn Pz 116 #[g.v,.int .i64 p] h fun v h'=>(∃s:Sl,v=.slice s.a s.n s.c/\(s.n=0 ↔ ∀x∈g.es,x.f≠p))/\Ext h h':=by
 apply vc116 (bs g.nm) g.hr g.hd g.n g.s g.e g.he g.ht;unfold W116 V116a;have hen:=hg.e.ln;have hem:=hg.e.sm;refine (St.refl h).newb fun h9 hs=>?_;have hs:=hs.nil_ 3 1;refine⟨fun out x h' m=>∃(i:Nat) (L:List Int),x=i/\i<=g.he.n/\m=g.he.n-i/\L.length<=i/\LOk g p i L/\St h h' [.sl out 3 1 (L.map inC),.blk h.size g.cs 27],
  ⟨_,0,[],rfl,by omega,rfl,Yyt _,⟨(fun y hy=>by cases hy),iff_of_true rfl fun j x hj=>by omega⟩,hs⟩,?_⟩
 rintro-out _ h15 m ⟨i,L,rfl,hi,rfl,hLl,hL,hs⟩;refine⟨_,hs.rd 1 rfl rfl,sB_intro (fun c=>?_) (fun c=>⟨⟨_,rfl,?_⟩,hs.ext⟩)⟩;rotate_left
 .replace c:=lt_f c;have hol:=hs.len 0 rfl (by omega);rw[Yc] at hol;have hLe:out.n=0 ↔ L=[]:=by rw[<-List.length_eq_zero_iff];omega
  rw[hLe,hL.2];exact⟨fun hq x hx=>by obtain⟨j,hj⟩:=Yf.1 hx;exact hq j x (by have:=(Ya.1 hj).1;omega) hj,fun hq j x _ hj=>hq x (Yb hj)⟩
 replace c:=lt_t c;refine⟨_,hs.rd 1 rfl rfl,?_⟩;refine (hg.e.rw.ext hs.ext).nbI (by omega) (by omega) fun b18 o19 x gx t=>?_;replace gx:g.es[i]?=some x:=gx;refine⟨_,t.nth 0 rfl,sBn (fun cf=>?_) (fun cf=>?_)⟩
 .refine⟨_,by omega,i+1,L,by rw[w64 (by omega) (by omega)];omega,by omega,rfl,by omega,⟨hL.1,hL.2.trans ⟨fun hq j y hj hy=>?_,fun hq j y hj hy=>hq j y (by omega) hy⟩⟩,hs⟩;by_cases e:j=i
  .subst e;rw[gx] at hy;cases hy;exact cf
  .exact hq j y (by omega) hy
 have hol:=hs.len 0 rfl (by omega);rw[Yc] at hol
 have ins:∀(a:Nat) (h40:Heap),a<=out.n->St h h40 [.sl out 3 1 (L.map inC),.blk h.size g.cs 27]->∀h42:Heap,h42=h40.push (.cells ⟨[.int .i64 i]⟩ 3) ->
   App Pz 42 42 (.slice (some ⟨h40.size,0,none⟩) 1 1) (.slice (subA out.a a out.c 1) (out.n-a) (out.c-a)) h42 fun s43 h44=>
    App Pz 42 42 (.slice out.a a out.c) (.slice s43.a s43.n s43.c) h44 fun s45 h46=>∃m47,m47<g.he.n-i/\(∃(i':Nat) (L:List Int),IntKind.wrap .i64 ((i:Int)+1)=i'/\i'<=g.he.n/\m47=g.he.n-i'/\L.length<=i'/\LOk g p i' L/\St h h46 [.sl s45 3 1 (L.map inC),.blk h.size g.cs 27]):=by
  intro a h40 ha hs;refine hs.newb fun h42 hs=>?_;have hs2:=hs.blkS 1 1 ([(i:Int)].map inC) rfl (inrows _) rfl (by decide);refine hs2.appRw 0 rfl app42 (y:=⟨subA out.a a out.c 1,out.n-a,out.c-a⟩) (intrw (hs2.rows 1 rfl (by omega)) hol.2.1 ha) (inrows _) (fun hn=>subA_nil hol.2.2 hn) (by rw[List.all_eq_true];intro v hv;obtain⟨r,hr,hv2⟩:=List.mem_flatten.1 hv;obtain⟨z,_,rfl⟩:=Yp.1 hr;rw[Ye.1 hv2];rfl) (by show (1+(out.n-a))*8<=_;omega) (by show 1+(out.n-a)<=9223372036854775807;omega) fun s43 h44 hn43 hs=>?_;replace hs:St h h44 [.sl s43 3 1 (((i:Int)::L.drop a).map inC),.sl out 3 1 (L.map inC),.blk h.size g.cs 27]:=hs;have hcut:=hs.cut 1 rfl (by omega) a ha;rw[<-List.map_take] at hcut;replace hcut:St h h44 [.sl s43 3 1 (((i:Int)::L.drop a).map inC),.sl ⟨out.a,a,out.c⟩ 3 1 ((L.take a).map inC),.blk h.size g.cs 27]:=hcut;have h43:=hcut.len 0 rfl (by omega);refine hcut.appRw 1 rfl app42 (hcut.rows 0 rfl (by omega)) (inrows _) h43.2.2 (by rw[List.all_eq_true];intro v hv;obtain⟨r,hr,hv2⟩:=List.mem_flatten.1 hv;obtain⟨z,_,rfl⟩:=Yp.1 hr;rw[Ye.1 hv2];rfl) (by show (a+s43.n)*8<=_;rw[hn43];show (a+(1+(out.n-a)))*8<=_;omega) (by show a+s43.n<=9223372036854775807;rw[hn43];show a+(1+(out.n-a))<=_;omega) fun s45 h46 hn45 hs=>?_;replace hs:St h h46 [.sl s43 3 1 (((i:Int)::L.drop a).map inC),.sl s45 3 1 ((L.take a).map inC++((i:Int)::L.drop a).map inC),.blk h.size g.cs 27]:=hs;rw[<-Ym] at hs;refine⟨g.he.n-(i+1),by omega,i+1,L.take a++((i:Int)::L.drop a),by rw[w64 (by omega) (by omega)];omega,by omega,rfl,?_,⟨fun y hy=>?_,iff_of_false (by simp) fun hq=>hq i x (by omega) gx cf⟩,hs.drop 1⟩
  .rw[Yh,Yyj,Yu,List.length_drop];omega
  .rcases Yk.1 hy with hy | hy
   .exact hL.1 y (List.mem_of_mem_take hy)
   .rcases Yr.1 hy with rfl | hy
    .omega
    .exact hL.1 y (List.mem_of_mem_drop hy)
 refine up_loopS (n:=out.n) hs (fun _=>True) trivial ?_;rintro-a h26 ha ⟨hs,-⟩;have ht1:Int.toNat ((a:Nat):Int)=a:=by simp
 have ht2:Int.toNat ((out.n:Nat):Int)=out.n:=by simp
 refine sB_intro (fun c1=>?_) (fun c1=>?_)
 .replace c1:=lt_t c1;refine⟨_,_,_,_,_,_,_,_,hs.at 1 rfl (o:=0) (n:=8) rfl,?_⟩;refine (hs.rows 0 rfl (by omega)).nbI (by omega) (by omega) fun b35 o36 y gy ty=>?_;have hy:=hL.1 y (Yb gy);refine⟨_,ty.nth 0 rfl,?_⟩;refine (before159 g y i h26 (hg.ext hs.ext) hy.1 hy.2 (by omega) (by omega)).mono ?_;rintro _ h40 ⟨⟨bb,rfl⟩,E⟩;have hs:=hs.step E;refine⟨_,rfl,sB_intro (fun _=>Up.next c1 (by omega) ⟨hs,trivial⟩) (fun _=>?_)⟩;refine⟨⟨by omega,by omega,by omega⟩,⟨by omega,by omega,by omega⟩,?_⟩;rw[ht1,ht2,show Int.toNat 0=0 from rfl,subA_zero,Nat.sub_zero,Nat.sub_zero];exact ins a h40 (by omega) hs
 .replace c1:=lt_f c1;refine⟨⟨by omega,by omega,by omega⟩,⟨by omega,by omega,by omega⟩,?_⟩;rw[ht1,ht2,show Int.toNat 0=0 from rfl,subA_zero,Nat.sub_zero,Nat.sub_zero];exact ins a h26 (by omega) hs
end Go.VC
end

section
namespace Go.VC
structure EN (es:List Ed) (e:Int) (N n:Nat) (D:List Int):Prop where
 len:D.length=N
 src:Vis D e
 r:∀v,Vis D v->Rch es true e v
 b:∀d∈D,-1<=d/\d+D.count (-1)<=(N:Int)-1
 c:∀x∈es,∀d,0<=x.t->D[x.t.toNat]?=some d->0<=d->d<n->Vis D x.f
def ENk (es:List Ed) (n k:Nat) (D:List Int):Prop:=∀(j:Nat) (y:Ed),j<k->es[j]?=some y->0<=y.t->D[y.t.toNat]?=some (n:Int)->Vis D y.f
theorem count_rep (N:Nat):(List.replicate N (-1:Int)).count (-1)=N:=by rw[List.count_replicate,if_pos (by simp)]
theorem EN.start {es:List Ed} {e:Int} {N:Nat} (h0:0<=e) (h1:e<N):EN es e N 0 ((List.replicate N (-1:Int)).set e.toNat 0):=by
 have hl:e<(List.replicate N (-1:Int)).length:=by rw[Yg];exact h1
 have hv:∀v,Vis ((List.replicate N (-1:Int)).set e.toNat 0) v ↔ v=e:=fun v=>by
  rw[vis_set h0 hl (by omega)];refine⟨fun h=>h.elim id fun h=>?_,.inl⟩;obtain⟨_,d,hd,h2⟩:=h;have:=List.eq_of_mem_replicate (Yb hd);omega
 have hc:((List.replicate N (-1:Int)).set e.toNat 0).count (-1)+1=N:=by
  rw[List.count_set (by rw[Yg];omega),count_rep,List.getElem_replicate];simp;omega
 refine⟨by rw[Yyh,Yg],(hv e).2 rfl,fun v h=>?_,fun d hd=>?_,fun x _ d _ _ hd0 hd1=>by omega⟩
 .rw[(hv v).1 h];exact .refl
 .rcases List.mem_or_eq_of_mem_set hd with hd | rfl
  .rw[List.eq_of_mem_replicate hd];omega
  .omega
theorem EN.set {es:List Ed} {e:Int} {N n k:Nat} {D:List Int} (h:EN es e N n D) (hk:ENk es n k D) {x:Ed} (hx:es[k]?=some x) {d:Int} (ht0:0<=x.t) (ht:D[x.t.toNat]?=some (n:Int)) (hf0:0<=x.f) (hf:D[x.f.toNat]?=some d) (hd:d<0) :
  EN es e N n (D.set x.f.toNat (n+1))/\ENk es n (k+1) (D.set x.f.toNat (n+1)):=by
 have hfl:=(Ya.1 hf).1;have hfe:=(Ya.1 hf).2;have hd1:d=-1:=by have:=(h.b d (Yb hf)).1;omega
 subst hd1;have hvs:∀v,Vis (D.set x.f.toNat (n+1)) v ↔ v=x.f\/Vis D v:=fun v=>vis_set hf0 (by omega) (by omega);have hpos:0<D.count (-1):=List.count_pos_iff.2 (Yb hf);have hcnt:(D.set x.f.toNat ((n:Int)+1)).count (-1)+1=D.count (-1):=by
  rw[List.count_set hfl,hfe];have:(((n:Int)+1)==(-1:Int))=false:=by simp;omega
  rw[this];simp;omega
 have hub:=(h.b n (Yb ht)).2;have hne:∀ {y:Int} {d:Int},0<=y->(D.set x.f.toNat ((n:Int)+1))[y.toNat]?=some d->d<=n->D[y.toNat]?=some d:=fun {y d} hy hg hle=>by
  by_cases e:y.toNat=x.f.toNat
  .rw[e,Yq hfl] at hg;cases hg;omega
  .rwa [Yy (by omega)] at hg
 refine⟨⟨by rw[Yyh];exact h.len,(hvs e).2 (.inr h.src),fun v hv=>?_,fun d hd=>?_,fun y hy d h0 hg hd0 hd1=>?_⟩,fun j y hj hy h0 hg=>?_⟩
 .rcases (hvs v).1 hv with rfl | hv
  .exact (h.r x.t ⟨ht0,_,ht,by omega⟩).step ⟨x,Yb hx,rfl,rfl⟩
  .exact h.r v hv
 .rcases List.mem_or_eq_of_mem_set hd with hd | rfl
  .have:=h.b d hd;omega
  .omega
 .exact (hvs y.f).2 (.inr (h.c y hy d h0 (hne h0 hg (by omega)) hd0 hd1))
 .by_cases e:j=k
  .subst e;rw[hx] at hy;cases hy;exact (hvs x.f).2 (.inl rfl)
  .exact (hvs y.f).2 (.inr (hk j y (by omega) hy h0 (hne h0 hg (by omega))))
theorem ENk.skip {es:List Ed} {n k:Nat} {D:List Int} (hk:ENk es n k D) {x:Ed} (hx:es[k]?=some x) (h:0<=x.t->D[x.t.toNat]?=some (n:Int)->Vis D x.f):ENk es n (k+1) D:=fun j y hj hy h0 hg=>by
 by_cases e:j=k
 .subst e;rw[hx] at hy;cases hy;exact h h0 hg
 .exact hk j y (by omega) hy h0 hg
theorem EN.next {es:List Ed} {e:Int} {N n k:Nat} {D:List Int} (h:EN es e N n D) (hk:ENk es n k D) (hl:es.length<=k):EN es e N (n+1) D:=
 ⟨h.len,h.src,h.r,h.b,fun x hx d h0 hg hd0 hd1=>by
  obtain⟨j,hj⟩:=Yf.1 hx;by_cases hd:d=n
  .subst hd;exact hk j x (by have:=(Ya.1 hj).1;omega) hj h0 hg
  .exact h.c x hx d h0 hg hd0 (by omega)⟩
theorem EN.end_ {es:List Ed} {e:Int} {N:Nat} {D:List Int} (h:EN es e N N D) (v:Int):Vis D v ↔ Rch es true e v:=by
 refine⟨h.r v,fun hr=>?_⟩
 induction hr with
 | refl=>exact h.src
 | step _ hbc ih=>
  obtain⟨x,hx,h1,h2⟩:=hbc;obtain⟨h0,d,hd,hd0⟩:=ih;have hb:=(h.b d (Yb hd)).2;have h1':x.t=_:=h1;have h2':x.f=_:=h2;rw[<-h2'];rw[<-h1'] at hd h0;exact h.c x hx d h0 hd hd0 (by omega)
def VB (R:List Bool) (v:Int):Prop:=0<=v/\R[v.toNat]?=some true
def ClB (es:List Ed) (k:Nat) (R:List Bool):Prop:=∀(j:Nat) (y:Ed),j<k->es[j]?=some y->VB R y.f->VB R y.t
structure RE (es:List Ed) (s:Int) (N:Nat) (R:List Bool):Prop where
 len:R.length=N
 src:VB R s
 r:∀v,VB R v->Rch es false s v
def RN (es:List Ed) (n k:Nat) (R:List Bool):Prop:=ClB es es.length R\/(n+1<=R.count true/\(ClB es k R\/n+2<=R.count true))
theorem vb_set {R:List Bool} {b v:Int} (hb0:0<=b) (hb:b.toNat<R.length):VB (R.set b.toNat true) v ↔ v=b\/VB R v:=by
 unfold VB;constructor
 .rintro⟨h0,h1⟩;by_cases e:v=b
  .exact .inl e
  .rw[Yy (by omega)] at h1;exact .inr ⟨h0,h1⟩
 .rintro (rfl | ⟨h0,h1⟩)
  .exact⟨hb0,by rw[Yq hb]⟩
  .by_cases e:v=b
   .subst e;exact⟨hb0,by rw[Yq hb]⟩
   .exact⟨h0,by rw[Yy (by omega)];exact h1⟩
theorem RE.start {es:List Ed} {s:Int} {N:Nat} (h0:0<=s) (h1:s<N):RE es s N ((List.replicate N false).set s.toNat true)/\RN es 0 0 ((List.replicate N false).set s.toNat true):=by
 have hv:∀v,VB ((List.replicate N false).set s.toNat true) v ↔ v=s:=fun v=>by
  rw[vb_set h0 (by rw[Yg];omega)];refine⟨fun h=>h.elim id fun h=>?_,.inl⟩;have:=List.eq_of_mem_replicate (Yb h.2);cases this
 refine⟨⟨by rw[Yyh,Yg],(hv s).2 rfl,fun v h=>by rw[(hv v).1 h];exact .refl⟩,.inr ⟨?_,.inl fun j y hj=>by omega⟩⟩;exact List.count_pos_iff.2 (Yb (i:=s.toNat) (by rw[Yq (by rw[Yg];omega)]))
theorem RE.set {es:List Ed} {s:Int} {N n k:Nat} {R:List Bool} (h:RE es s N R) (hn:RN es n k R) {x:Ed} (hx:es[k]?=some x) (ht0:0<=x.t) (ht:R[x.t.toNat]?=some false) (hf0:0<=x.f) (hf:R[x.f.toNat]?=some true) :
  RE es s N (R.set x.t.toNat true)/\RN es n (k+1) (R.set x.t.toNat true):=by
 have htl:=(Ya.1 ht).1;have hte:=(Ya.1 ht).2;have hvs:∀v,VB (R.set x.t.toNat true) v ↔ v=x.t\/VB R v:=fun v=>vb_set ht0 htl;have hcnt:(R.set x.t.toNat true).count true=R.count true+1:=by
  rw[List.count_set htl,hte];simp
 refine⟨⟨by rw[Yyh];exact h.len,(hvs s).2 (.inr h.src),fun v hv=>?_⟩,?_⟩
 .rcases (hvs v).1 hv with rfl | hv
  .exact (h.r x.f ⟨hf0,hf⟩).step ⟨x,Yb hx,rfl,rfl⟩
  .exact h.r v hv
 .rcases hn with hn | ⟨h1,_⟩
  .have:=hn k x (Ya.1 hx).1 hx ⟨hf0,hf⟩;rw[this.2] at ht;cases ht
  .exact .inr ⟨by omega,.inr (by omega)⟩
theorem RN.skip {es:List Ed} {n k:Nat} {R:List Bool} (hn:RN es n k R) {x:Ed} (hx:es[k]?=some x) (h:VB R x.f->VB R x.t):RN es n (k+1) R:=by
 rcases hn with hn | ⟨h1,h2⟩
 .exact .inl hn
 .refine .inr ⟨h1,h2.imp_left fun hc j y hj hy hv=>?_⟩;by_cases e:j=k
  .subst e;rw[hx] at hy;cases hy;exact h hv
  .exact hc j y (by omega) hy hv
theorem RN.next {es:List Ed} {n k:Nat} {R:List Bool} (hn:RN es n k R) (hl:es.length<=k):RN es (n+1) 0 R:=by
 rcases hn with hn | ⟨h1,h2 | h2⟩
 .exact .inl hn
 .exact .inl fun j y hj hy=>h2 j y (by omega) hy
 .exact .inr ⟨by omega,.inl fun j y hj=>by omega⟩
theorem RE.end_ {es:List Ed} {s:Int} {N:Nat} {R:List Bool} (h:RE es s N R) (hn:RN es N 0 R) (v:Int):VB R v ↔ Rch es false s v:=by
 refine⟨h.r v,fun hr=>?_⟩;have hc:ClB es es.length R:=by
  rcases hn with hn | ⟨h1,_⟩
  .exact hn
  .have:=h.len;have:R.count true<=R.length:=List.count_le_length;omega
 induction hr with
 | refl=>exact h.src
 | step _ hbc ih=>
  obtain⟨x,hx,h1,h2⟩:=hbc;obtain⟨j,hj⟩:=Yf.1 hx;have h1':x.f=_:=h1;have h2':x.t=_:=h2;rw[<-h2'];exact hc j x (Ya.1 hj).1 hj (by rw[h1'];exact ih)
end Go.VC
end

section
namespace Go.VC
open Go.Proofs Go.LexS
theorem ints_set {L:List Int} {i:Nat} (h:i<L.length) (y:Int):splice (L.map (Value.int .i64)) i [.int .i64 y]=(L.set i y).map (Value.int .i64):=by
 rw[splice_set (by rw[Yc];exact h),List.map_set]
theorem bools_set {L:List Bool} {i:Nat} (h:i<L.length) (y:Bool):splice (L.map Value.bool) i [.bool y]=(L.set i y).map Value.bool:=by
 rw[splice_set (by rw[Yc];exact h),List.map_set]
theorem ints_flat:∀L:List Int,L.map (Value.int .i64)=(L.map inC).flatten
 | []=>rfl
 | a::L=>by rw[Yyl,Yyl,Yyu,ints_flat L];rfl
theorem made3I (n:Nat):madeL Pz 3 n=(List.replicate n (0:Int)).map (Value.int .i64):=by rw[made3,List.map_replicate]
theorem at_ints {L:List Int} {i:Nat} (h:i<L.length):∃y,(L.map (Value.int .i64))[i]?=some (.int .i64 y)/\L[i]?=some y:=⟨L[i],by rw[Yd,Yi h];rfl,Yi h⟩
theorem at_bools {L:List Bool} {i:Nat} (h:i<L.length):∃y,(L.map Value.bool)[i]?=some (.bool y)/\L[i]?=some y:=⟨L[i],by rw[Yd,Yi h];rfl,Yi h⟩
theorem ends115 (g:Gl) (h:Heap) (hg:GI h g) (hN:NumR g):Fn Pz 115 #[g.v] h fun v h'=>Ext h h'/\∃(s:Sl) (L:List Int),v=.slice s.a s.n s.c/\Rw h' 1 s (L.map inC)/\L.length=g.n.toNat/\∀v,Vis L v ↔ Rch g.es true g.e v:=by
 apply vc115 (bs g.nm) g.hr g.hd g.n g.s g.e g.he g.ht;unfold W115;have hen:=hg.e.ln;have hem:=hg.e.sm;obtain⟨N,hNn⟩:∃N:Nat,g.n=N:=⟨g.n.toNat,by have:=hN.n;omega⟩;have hn1:=hN.n;have hE:=hN.e;have htN:g.n.toNat=N:=by omega
 refine (St.refl h).newb fun h9 hs=>?_;refine⟨_,hs.rd 0 rfl rfl,⟨by omega,by omega,by omega⟩,?_⟩;rw[made3I];refine hs.newb fun h11 hs=>?_;refine⟨fun x h' m=>∃(i:Nat) (L:List Int),x=i/\i<=N/\m=N-i/\(L.length=N/\∀(j:Nat),j<i->L[j]?=some (-1))/\St h h' [.blk h9.size (L.map (Value.int .i64)) 3,.blk h.size g.cs 27],⟨_,0,_,rfl,by omega,rfl,⟨by rw[Yg];exact htN,fun j hj=>by omega⟩,hs⟩,?_⟩;rintro-_ h16 m ⟨i,L,rfl,hi,rfl,⟨hL,hLv⟩,hs⟩;refine⟨_,hs.rd 1 rfl rfl,sB_intro (fun c=>?_) (fun c0=>?_)⟩
 .replace c:=Yyn c;refine⟨⟨by omega,by omega⟩,?_⟩;rw[show 0+Int.toNat (i:Int)*1=i by simp];refine hs.put 0 rfl (o:=i) (vs:=[.int .i64 (-1)]) rfl (by rw[Yc];show i+1<=_;omega) fun h18 hs=>?_;rw[ints_set (by omega)] at hs;refine⟨_,by omega,i+1,L.set i (-1),by rw[w64 (by omega) (by omega)];omega,by omega,rfl,⟨by rw[Yyh];exact hL,fun j hj=>?_⟩,hs⟩;by_cases e:j=i
  .subst e;rw[Yq (by omega)]
  .rw[Yy (by omega)];exact hLv j (by omega)
 replace c0:=Yyo c0;have hLr:L=List.replicate N (-1):=Yyr fun j=>by
  by_cases hj:j<N
  .rw[hLv j (by omega),List.getElem?_replicate,if_pos hj]
  .rw[Yl (by omega),List.getElem?_replicate,if_neg hj]
 subst hLr;refine⟨_,hs.rd 1 rfl rfl,⟨by omega,by omega⟩,?_⟩;obtain⟨e,he⟩:∃e:Nat,g.e=e:=⟨g.e.toNat,by omega⟩;rw[he,show 0+Int.toNat (e:Int)*1=e by simp];refine hs.put 0 rfl (o:=e) (vs:=[.int .i64 0]) rfl (by rw[Yc];show e+1<=_;omega) fun h21 hs=>?_;rw[ints_set (by omega)] at hs;refine⟨fun x h' m=>∃(i:Nat) (L:List Int),x=i/\i<=N/\m=N-i/\EN g.es g.e N i L/\St h h' [.blk h9.size (L.map (Value.int .i64)) 3,.blk h.size g.cs 27],⟨_,0,_,rfl,by omega,rfl,?_,hs⟩,?_⟩
 .have:=EN.start (es:=g.es) (e:=g.e) (N:=N) (by omega) (by omega);rw[he] at this ⊢;exact this
 rintro-_ h26 m ⟨n,L2,rfl,hn,rfl,en2,hs⟩;have hL2:=en2.len;refine⟨_,hs.rd 1 rfl rfl,sB_intro (fun c=>?_) (fun cE=>?_)⟩
 .replace c:=Yyn c;refine⟨fun x h' m=>∃(i:Nat) (L:List Int),x=i/\i<=g.he.n/\m=g.he.n-i/\(EN g.es g.e N n L/\ENk g.es n i L)/\St h h' [.blk h9.size (L.map (Value.int .i64)) 3,.blk h.size g.cs 27],⟨_,0,L2,rfl,by omega,rfl,⟨en2,fun j y hj=>by omega⟩,hs⟩,?_⟩;rintro-_ h32 m ⟨k,L3,rfl,hk,rfl,⟨en3,ek⟩,hs⟩;have hL3:=en3.len;refine⟨_,hs.rd 1 rfl rfl,sB_intro (fun c2=>?_) (fun c2=>⟨_,by omega,n+1,L3,by rw[w64 (by omega) (by omega)];omega,by omega,rfl,en3.next ek (by have:=lt_f c2;omega),hs⟩)⟩;replace c2:=lt_t c2;refine⟨_,hs.rd 1 rfl rfl,?_⟩;refine (hg.e.rw.ext hs.ext).nbI (by omega) (by omega) fun b o x gx t=>?_;replace gx:g.es[k]?=some x:=gx;have hx:=hN.es x (Yb gx);obtain⟨xt,hxt⟩:∃a:Nat,x.t=a:=⟨x.t.toNat,by omega⟩;obtain⟨xf,hxf⟩:∃a:Nat,x.f=a:=⟨x.f.toNat,by omega⟩;refine⟨_,_,_,_,_,_,t,?_⟩;refine hs.newput (vs:=x.cs) rfl rfl fun h44 hs=>?_;obtain⟨y1,hy1,hz1⟩:=at_ints (L:=L3) (i:=xt) (by omega);obtain⟨y2,hy2,hz2⟩:=at_ints (L:=L3) (i:=xf) (by omega);have htt:x.t.toNat=xt:=by omega
  have htf:x.f.toNat=xf:=by omega
  have nxt:∀ {h':Heap} {L4:List Int},(EN g.es g.e N n L4/\ENk g.es n (k+1) L4)->St h h' [.blk h9.size (L4.map (Value.int .i64)) 3,.blk h.size g.cs 27]->∃m53,m53<g.he.n-k/\∃(i:Nat) (L:List Int),IntKind.wrap .i64 ((k:Int)+1)=i/\i<=g.he.n/\m53=g.he.n-i/\(EN g.es g.e N n L/\ENk g.es n i L)/\St h h' [.blk h9.size (L.map (Value.int .i64)) 3,.blk h.size g.cs 27]:=fun h4 hs=>
   ⟨_,by omega,k+1,_,by rw[w64 (by omega) (by omega)];omega,by omega,rfl,h4,hs⟩
  refine⟨x.t,hs.rd 0 rfl rfl,⟨by omega,by omega⟩,?_⟩;rw[hxt,show 0+Int.toNat (xt:Int)*1=xt by simp];refine⟨y1,hs.rd 1 rfl hy1,sBe (fun e1=>?_) (fun e1=>nxt ⟨en3,ek.skip gx fun _ hg1=>by rw[htt,hz1] at hg1;cases hg1;exact absurd rfl e1⟩ (hs.drop 1))⟩;refine⟨x.f,hs.rd 0 rfl rfl,⟨by omega,by omega⟩,?_⟩;rw[hxf,show 0+Int.toNat (xf:Int)*1=xf by simp];refine⟨y2,hs.rd 1 rfl hy2,sBi (fun e2=>?_) (fun e2=>nxt ⟨en3,ek.skip gx fun _ _=>⟨by omega,y2,by rw[htf];exact hz2,by omega⟩⟩ (hs.drop 1))⟩;refine⟨x.f,hs.rd 0 rfl rfl,⟨by omega,by omega⟩,?_⟩;rw[hxf,show 0+Int.toNat (xf:Int)*1=xf by simp];refine hs.put 1 rfl (o:=xf) (vs:=[.int .i64 (IntKind.wrap .i64 ((n:Int)+1))]) rfl (by rw[Yc];show xf+1<=_;omega) fun h50 hs=>?_;rw[ints_set (by omega)] at hs;rw[show IntKind.wrap .i64 ((n:Int)+1)=(n:Int)+1 from w64 (by omega) (by omega)] at hs;refine nxt ?_ (hs.drop 1);have:=en3.set ek gx (by omega) (by rw[htt,hz1,e1]) (by omega) (by rw[htf];exact hz2) e2;rw[htf] at this;exact this
 .have hfl:=ints_flat L2;rw[htN];have hs2:=hs.blkS N 1 (L2.map inC) hfl (inrows _) (by rw[Yc];exact hL2) (by show N<=9223372036854775807;omega);have hnN:n=N:=by have:=Yyo cE;omega
  have en3:EN g.es g.e N N L2:=by rw[hnN] at en2;exact en2
  exact⟨hs.ext,⟨some ⟨h9.size,0,none⟩,N,N⟩,L2,rfl,hs2.rows 0 rfl (by omega),hL2,fun v=>by rw[<-he];exact en3.end_ v⟩
theorem made4l (n:Nat):madeL Pz 4 n=(List.replicate n false).map Value.bool:=made4 n
structure ConS (g:Gl):Prop where
 f:∀v:Int,0<=v->v<g.n->Rch g.es false g.s v
 b:∀v:Int,0<=v->v<g.n->Rch g.es true g.e v
 e:∀x∈g.es,x.f≠g.e
theorem connected67 (g:Gl) (h:Heap) (hg:GI h g) (hN:NumR g):Fn Pz 67 #[g.v] h (RP (ConS g) h):=by
 apply vc67 (bs g.nm) g.hr g.hd g.n g.s g.e g.he g.ht;unfold W67;have hen:=hg.e.ln;have hem:=hg.e.sm;obtain⟨N,hNn⟩:∃N:Nat,g.n=N:=⟨g.n.toNat,by have:=hN.n;omega⟩;have hn1:=hN.n;have hS:=hN.s;have htN:g.n.toNat=N:=by omega
 refine (St.refl h).newb fun h9 hs=>?_;refine⟨_,hs.rd 0 rfl rfl,⟨by omega,by omega,by omega⟩,?_⟩;rw[made4l];refine hs.newb fun h11 hs=>?_;refine⟨_,hs.rd 1 rfl rfl,⟨by omega,by omega⟩,?_⟩;obtain⟨s0,hs0⟩:∃e:Nat,g.s=e:=⟨g.s.toNat,by omega⟩;rw[hs0,show 0+Int.toNat (s0:Int)*1=s0 by simp];refine hs.put 0 rfl (o:=s0) (vs:=[.bool true]) rfl (by rw[Yc,Yg];show s0+1<=_;omega) fun h13 hs=>?_;rw[bools_set (by rw[Yg];omega)] at hs;refine⟨fun x h' m=>∃(i:Nat) (L:List Bool),x=i/\i<=N/\m=N-i/\(RE g.es g.s N L/\RN g.es i 0 L)/\St h h' [.blk h9.size (L.map Value.bool) 4,.blk h.size g.cs 27],⟨_,0,_,rfl,by omega,rfl,?_,hs⟩,?_⟩
 .have:=RE.start (es:=g.es) (s:=g.s) (N:=N) (by omega) (by omega);rw[htN];rw[hs0] at this ⊢;exact this
 rintro-_ h18 m ⟨n,L,rfl,hn,rfl,⟨re1,rn1⟩,hs⟩;have hL:=re1.len;refine⟨_,hs.rd 1 rfl rfl,sB_intro (fun c=>?_) (fun cE=>?_)⟩
 .replace c:=Yyn c;refine⟨fun x h' m=>∃(i:Nat) (L:List Bool),x=i/\i<=g.he.n/\m=g.he.n-i/\(RE g.es g.s N L/\RN g.es n i L)/\St h h' [.blk h9.size (L.map Value.bool) 4,.blk h.size g.cs 27],⟨_,0,L,rfl,by omega,rfl,⟨re1,rn1⟩,hs⟩,?_⟩;rintro-_ h24 m ⟨k,L3,rfl,hk,rfl,⟨re3,rn3⟩,hs⟩;have hL3:=re3.len;refine⟨_,hs.rd 1 rfl rfl,sB_intro (fun c2=>?_) (fun c2=>⟨_,by omega,n+1,L3,by rw[w64 (by omega) (by omega)];omega,by omega,rfl,⟨re3,rn3.next (by have:=lt_f c2;omega)⟩,hs⟩)⟩;replace c2:=lt_t c2;have nxt:∀ {h':Heap} {L4:List Bool},(RE g.es g.s N L4/\RN g.es n (k+1) L4)->St h h' [.blk h9.size (L4.map Value.bool) 4,.blk h.size g.cs 27]->∃m53,m53<g.he.n-k/\∃(i:Nat) (L:List Bool),IntKind.wrap .i64 ((k:Int)+1)=i/\i<=g.he.n/\m53=g.he.n-i/\(RE g.es g.s N L/\RN g.es n i L)/\St h h' [.blk h9.size (L.map Value.bool) 4,.blk h.size g.cs 27]:=fun h4 hs=>
   ⟨_,by omega,k+1,_,by rw[w64 (by omega) (by omega)];omega,by omega,rfl,h4,hs⟩
  refine⟨_,hs.rd 1 rfl rfl,?_⟩;have hrw:=hg.e.rw.ext hs.ext;refine hrw.nbI (by omega) (by omega) fun b o x gx t=>?_;replace gx:g.es[k]?=some x:=gx;have hx:=hN.es x (Yb gx);obtain⟨xt,hxt⟩:∃a:Nat,x.t=a:=⟨x.t.toNat,by omega⟩;obtain⟨xf,hxf⟩:∃a:Nat,x.f=a:=⟨x.f.toNat,by omega⟩;obtain⟨y1,hy1,hz1⟩:=at_bools (L:=L3) (i:=xt) (by omega);obtain⟨y2,hy2,hz2⟩:=at_bools (L:=L3) (i:=xf) (by omega);have htt:x.t.toNat=xt:=by omega
  have htf:x.f.toNat=xf:=by omega
  have same:∀ {b:Bool},L3[xt]?=some b->L3.set xt b=L3:=fun {b} hb=>by
   obtain⟨hl,he⟩:=Ya.1 hb;rw[<-he,List.set_getElem_self]
  refine⟨x.t,t.nth 4 rfl,?_⟩;refine⟨_,hs.rd 1 rfl rfl,?_⟩;refine hrw.nbI (by omega) (by omega) fun b o x' gx' t'=>?_;replace gx':g.es[k]?=some x':=gx';rw[gx] at gx';cases gx';refine⟨x.t,t'.nth 4 rfl,⟨by omega,by omega⟩,?_⟩;rw[hxt,show 0+Int.toNat (xt:Int)*1=xt by simp];refine⟨y1,hs.rd 0 rfl hy1,sB_intro (fun e1=>?_) (fun e1=>?_)⟩
  .refine⟨⟨by omega,by omega⟩,?_⟩;refine hs.put 0 rfl (o:=xt) (vs:=[.bool true]) rfl (by rw[Yc];show xt+1<=_;omega) fun h35 hs=>?_;rw[bools_set (by omega),same (by rw[hz1,e1])] at hs;exact nxt ⟨re3,rn3.skip gx fun _=>⟨by omega,by rw[htt,hz1,e1]⟩⟩ hs
  .refine⟨_,hs.rd 1 rfl rfl,?_⟩;refine hrw.nbI (by omega) (by omega) fun b o x' gx' t'=>?_;replace gx':g.es[k]?=some x':=gx';rw[gx] at gx';cases gx';refine⟨x.f,t'.nth 0 rfl,⟨by omega,by omega⟩,?_⟩;rw[hxf,show 0+Int.toNat (xf:Int)*1=xf by simp];refine⟨y2,hs.rd 0 rfl hy2,⟨by omega,by omega⟩,?_⟩;refine hs.put 0 rfl (o:=xt) (vs:=[.bool y2]) rfl (by rw[Yc];show xt+1<=_;omega) fun h42 hs=>?_;rw[bools_set (by omega)] at hs;refine nxt ?_ hs;cases y2 with
   | true=>
    have:=re3.set rn3 gx (by omega) (by rw[htt,hz1,e1]) (by omega) (by rw[htf];exact hz2);rw[htt] at this;exact this
   | false=>
    rw[same (by rw[hz1,e1])];exact⟨re3,rn3.skip gx fun hv=>by have:=hv.2;rw[htf,hz2] at this;cases this⟩
 .refine⟨_,_,_,_,_,_,_,_,hs.at 1 rfl (o:=0) (n:=8) rfl,?_⟩;refine (ends115 g h18 (hg.ext hs.ext) hN).mono ?_;rintro _ h55 ⟨E,l,L2,rfl,hl,hl2,hvis⟩;have hnN:n=N:=by have:=Yyo cE;omega
  have rn2:RN g.es N 0 L:=by rw[hnN] at rn1;exact rn1
  have hreach:=re1.end_ rn2;have hs:=hs.step E;have hln:=hl.ln;refine⟨_,rfl,?_⟩;refine⟨fun x h' m=>∃i:Nat,x=i/\i<=N/\m=N-i/\h'=h55/\∀v:Int,0<=v->v<i->Rch g.es false g.s v/\Rch g.es true g.e v,⟨_,0,rfl,by omega,rfl,rfl,fun v h1 h2=>by omega⟩,?_⟩;rintro-_ h60 m ⟨i,rfl,hi,rfl,rfl,hq⟩;refine⟨_,hs.rd 1 rfl rfl,sB_intro (fun c=>?_) (fun c=>?_)⟩
  .replace c:=Yyn c;obtain⟨y1,hy1,hz1⟩:=at_bools (L:=L) (i:=i) (by omega);refine⟨⟨by omega,by omega⟩,?_⟩;rw[show 0+Int.toNat (i:Int)*1=i by simp];refine⟨y1,hs.rd 0 rfl hy1,sB_intro (fun e1=>RP.f (fun hG=>?_) hs.ext) (fun e1=>?_)⟩
   .have:=((hreach i).2 (hG.f i (by omega) (by omega))).2;rw[show ((i:Int)).toNat=i from rfl,hz1] at this;cases this;cases e1
   refine hl.nbI (by omega) (by omega) fun b o y gy t=>?_;replace gy:L2[i]?=some y:=gy;refine⟨_,t.nth 0 rfl,sBi (fun e2=>RP.f (fun hG=>?_) hs.ext) (fun e2=>⟨_,by omega,i+1,by rw[w64 (by omega) (by omega)];omega,by omega,rfl,rfl,fun v h1 h2=>?_⟩)⟩
   .obtain⟨_,d,hd,hd0⟩:=(hvis i).2 (hG.b i (by omega) (by omega));rw[show ((i:Int)).toNat=i from rfl,gy] at hd;cases hd;omega
   .by_cases e:v=(i:Int)
    .subst e;exact⟨(hreach i).1 ⟨by omega,by rw[show ((i:Int)).toNat=i from rfl,hz1,bT e1]⟩,(hvis i).1 ⟨by omega,y,gy,by omega⟩⟩
    .exact hq v h1 (by omega)
  .refine⟨_,_,_,_,_,_,_,_,hs.at 1 rfl (o:=0) (n:=8) rfl,_,hs.rd 1 rfl rfl,?_⟩;refine (edges116 g g.e _ (hg.ext hs.ext)).mono ?_;rintro _ h78 ⟨⟨q,rfl,hqe⟩,E⟩;replace c:=Yyo c;refine⟨_,rfl,RP.e ?_ (hs.step E).ext⟩;have hb:∀b:Bool,(b=true ↔ q.n=0)->(b=true ↔ ConS g):=fun b hb=>hb.trans (hqe.trans ⟨fun he=>⟨fun v h1 h2=>(hq v h1 (by omega)).1,fun v h1 h2=>(hq v h1 (by omega)).2,he⟩,fun hG=>hG.e⟩);refine hb _ ?_;simp
theorem names64 (g:Gl) (h:Heap) (hg:GI h g) (hM:GNm g.ds):Fn Pz 64 #[g.v] h (RP (NamedS g/\DeclS g.ds) h):=by
 apply vc64 (bs g.nm) g.hr g.hd g.n g.s g.e g.he g.ht;unfold W64;have hrn:=hg.r.ln;have hrm:=hg.r.sm;refine (St.refl h).newb fun h9 hs=>?_;refine up_loopS (n:=g.hr.n) hs (fun i=>∀(j:Nat) (s:Nm),j<i->g.rs[j]?=some s->isWord s=true/\s∉g.rs.take j) (fun j s hj=>by omega) ?_;rintro-i h14 hi ⟨hs,hq⟩;refine⟨_,hs.rd 0 rfl rfl,sB_intro (fun c=>?_) (fun c=>?_)⟩
 .replace c:=lt_t c;refine⟨_,hs.rd 0 rfl rfl,?_⟩;refine (hg.r.rw.ext hs.ext).nbI (by omega) (by omega) fun b o x gx t=>?_;replace gx:g.rs[i]?=some x:=gx;refine⟨_,t.nth 0 rfl,?_⟩;refine (isWord111 (bs x) h14).mono ?_;rintro _ h22 ⟨rfl,E⟩;have hs:=hs.step E;refine⟨_,rfl,sB_intro (fun c1=>RP.f (fun hG=>?_) hs.ext) (fun c1=>?_)⟩
  .have:=(hG.1.r i x gx).1;rw[bs_list,this] at c1;cases c1
  refine⟨_,hs.rd 0 rfl rfl,_,hs.rd 0 rfl rfl,?_⟩;refine (hg.r.rw.ext hs.ext).nbI (by omega) (by omega) fun b o x2 gx2 t=>?_;replace gx2:g.rs[i]?=some x2:=gx2;rw[gx] at gx2;cases gx2;refine⟨_,t.nth 0 rfl,?_⟩;refine (index112 g.rs g.hr (bs x) h22 (hg.r.rw.ext hs.ext) hrm).mono ?_;rintro _ h30 ⟨⟨k,rfl,hk⟩,rfl⟩;replace hk:=hk i (by omega);rw[bs_list] at hk;have hxm:x∈g.rs:=Yb gx;refine⟨_,rfl,fun _ _ _ _ hv=>hv,sBi (fun c2=>RP.f (fun hG=>?_) hs.ext) (fun c2=>Up.next c (by omega) ⟨hs,fun j s hj hj2=>?_⟩)⟩
  .rcases hk.1 c2 with h1 | h1
   .exact (hG.1.r i x gx).2 h1
   .exact h1 hxm
  .by_cases e:j=i
   .subst e;rw[gx] at hj2;cases hj2;refine⟨by have:=bT c1;rw[bs_list] at this;exact this,fun hm=>c2 (hk.2 (.inl hm))⟩
   .exact hq j s (by omega) hj2
 .replace c:=lt_f c;refine⟨_,hs.rd 0 rfl rfl,?_⟩;refine (isWord111 (bs g.nm) h14).mono ?_;rintro _ h35 ⟨rfl,E⟩;have hs:=hs.step E;refine⟨_,rfl,sB_intro (fun c1=>⟨_,hs.rd 0 rfl rfl,sBi (fun c2=>⟨_,hs.rd 0 rfl rfl,sBi (fun c3=>⟨_,hs.rd 0 rfl rfl,?_⟩) (fun c3=>RP.f (fun hG=>c3 (by have:=hG.1.n6;omega)) hs.ext)⟩) (fun c2=>RP.f (fun hG=>c2 (by have:=hG.1.n1;omega)) hs.ext)⟩) (fun c1=>RP.f (fun hG=>by rw[bs_list,hG.1.w] at c1;cases c1) hs.ext)⟩;refine (refValid113 g.ds g.hd h35 (hg.d.ext hs.ext) hM).mono ?_;rintro _ h41 ⟨⟨b2,rfl,hb2⟩,E⟩;refine⟨_,rfl,RP.e (hb2.trans ⟨fun hd=>⟨⟨by rw[bs_list] at c1;exact c1,by omega,by omega,fun j s hj=>hq j s (by have:=(Ya.1 hj).1;omega) hj⟩,hd⟩,fun hG=>hG.2⟩) (hs.step E).ext⟩
theorem refValid31 (g:Gl) (h:Heap) (hg:GI h g) (hM:GNm g.ds):Fn Pz 31 #[g.v] h (RP (ValidS g) h):=by
 apply vc31 (bs g.nm) g.hr g.hd g.n g.s g.e g.he g.ht;unfold W31;refine (St.refl h).newb fun h9 hs=>?_;refine⟨_,_,_,_,_,_,_,_,hs.at 0 rfl (o:=0) (n:=8) rfl,?_⟩;refine (names64 g h9 (hg.ext hs.ext) hM).mono ?_;rintro _ h20 ⟨⟨b1,rfl,hb1⟩,E⟩;have hs:=hs.step E;refine⟨_,rfl,sB_intro (fun c1=>?_) (fun c1=>RP.f (fun hG=>iff_f hb1 c1 ⟨hG.nam,hG.dcl⟩) hs.ext)⟩;refine⟨_,_,_,_,_,_,_,_,hs.at 0 rfl (o:=0) (n:=8) rfl,?_⟩;refine (numbers65 g h20 (hg.ext hs.ext)).mono ?_;rintro _ h31 ⟨⟨b2,rfl,hb2⟩,E⟩;have hs:=hs.step E;refine⟨_,rfl,sB_intro (fun c2=>?_) (fun c2=>RP.f (fun hG=>iff_f hb2 c2 hG.num) hs.ext)⟩;have hN:=hb2.1 c2;refine⟨_,_,_,_,_,_,_,_,hs.at 0 rfl (o:=0) (n:=8) rfl,?_⟩;refine (apart66 g h31 (hg.ext hs.ext)).mono ?_;rintro _ h42 ⟨⟨b3,rfl,hb3⟩,E⟩;have hs:=hs.step E;refine⟨_,rfl,sB_intro (fun c3=>?_) (fun c3=>RP.f (fun hG=>iff_f hb3 c3 ⟨hG.ord.s,hG.ord.p⟩) hs.ext)⟩;refine⟨_,_,_,_,_,_,_,_,hs.at 0 rfl (o:=0) (n:=8) rfl,?_⟩;refine (connected67 g h42 (hg.ext hs.ext) hN.R).mono ?_;rintro _ h53 ⟨⟨b4,rfl,hb4⟩,E⟩;have hs:=hs.step E;refine⟨_,rfl,sB_intro (fun c4=>?_) (fun c4=>RP.f (fun hG=>iff_f hb4 c4 ⟨hG.fwd,hG.bwd,hG.ord.e⟩) hs.ext)⟩;refine⟨_,_,_,_,_,_,_,_,hs.at 0 rfl (o:=0) (n:=8) rfl,?_⟩;refine (timed68 g h53 (hg.ext hs.ext) hN).mono ?_;rintro _ h64 ⟨⟨b5,rfl,hb5⟩,E⟩;have f1:=hb1.1 c1;have f3:=hb3.1 c3;have f4:=hb4.1 c4;exact⟨_,rfl,RP.e (hb5.trans ⟨fun ht=>⟨f1.1,hN,f1.2,⟨f4.e,f3.s,f3.p⟩,ht,f4.f,f4.b⟩,fun hG=>hG.tim⟩) (hs.step E).ext⟩
theorem good49 (g:Gl) (role:Int) (h:Heap) (hg:GI h g) (hM:GNm g.ds):Fn Pz 49 #[g.v,.int .i64 role] h (RP (ValidS g/\0<=role/\role<g.rs.length) h):=by
 apply vc49 (bs g.nm) g.hr g.hd g.n g.s g.e g.he g.ht;unfold W49;have hrn:=hg.r.ln;refine (St.refl h).newb fun h9 hs=>?_;refine⟨_,_,_,_,_,_,_,_,hs.at 0 rfl (o:=0) (n:=8) rfl,?_⟩;refine (refValid31 g h9 (hg.ext hs.ext) hM).mono ?_;rintro _ h20 ⟨⟨b1,rfl,hb1⟩,E⟩;have hs:=hs.step E;exact⟨_,rfl,sB_intro (fun c1=>sBi (fun c2=>⟨_,hs.rd 0 rfl rfl,RP.e ⟨fun hb=>⟨hb1.1 c1,by omega,by have:=Yyn hb;omega⟩,fun hG=>decide_eq_true (by omega)⟩ hs.ext⟩) (fun c2=>RP.f (fun hG=>c2 (by omega)) hs.ext)) (fun c1=>RP.f (fun hG=>iff_f hb1 c1 hG.1) hs.ext)⟩
theorem small21 (g:Gl) (role:Int) (h:Heap) (hg:GI h g) (hM:GNm g.ds):Fn Pz 21 #[g.v,.int .i64 role] h fun v h'=>(∃b:Bool,v=.bool b/\(b=true->ValidS g/\0<=role/\role<g.rs.length))/\Ext h h':=by
 apply vc21 (bs g.nm) g.hr g.hd g.n g.s g.e g.he g.ht;unfold W21;refine (St.refl h).newb fun h9 hs=>?_;refine⟨_,_,_,_,_,_,_,_,hs.at 0 rfl (o:=0) (n:=8) rfl,?_⟩;refine (few11 g h9 (hg.ext hs.ext)).mono ?_;rintro _ h20 ⟨rfl,E⟩;have hs:=hs.step E;refine⟨_,rfl,sB_intro (fun _=>?_) (fun _=>⟨⟨false,rfl,fun e=>(by cases e)⟩,hs.ext⟩)⟩;refine⟨_,_,_,_,_,_,_,_,hs.at 0 rfl (o:=0) (n:=8) rfl,?_⟩;refine (good49 g role h20 (hg.ext hs.ext) hM).mono ?_;rintro _ h31 ⟨⟨b2,rfl,hb2⟩,E⟩;exact⟨_,rfl,⟨_,rfl,hb2.1⟩,(hs.step E).ext⟩
structure Hv where
 role:Int
 send:Bool
 peer:Int
 label:Int
 vs:Sl
def Hv.cs (x:Hv):List Value:=[.int .i64 x.role,.bool x.send,.int .i64 x.peer,.int .i64 x.label,.slice x.vs.a x.vs.n x.vs.c]
end Go.VC
end

section
namespace Go.VC
open Go.LexS

def Hv.ev (x:Hv):Ev:=⟨x.send,x.peer,x.label⟩
end Go.VC
end

section
namespace Go.VC
open Go.Proofs Go.LexS
def outGP (es:List Ed) (s:Int) (i:Nat):Bool:=match es[i]? with | some x=>decide (x.f=s) | none=>false
def outG (es:List Ed) (s:Int):List Nat:=(List.range es.length).filter (outGP es s)
theorem outG_mem {es:List Ed} {s:Int} {k:Nat}:k∈outG es s ↔ ∃x,es[k]?=some x/\x.f=s:=by
 unfold outG;rw[List.mem_filter,List.mem_range];constructor
 .rintro⟨h1,h2⟩;unfold outGP at h2;rw[Yi h1] at h2;exact⟨_,Yi h1,Yyn h2⟩
 .rintro⟨x,hx,hf⟩;refine⟨(Ya.1 hx).1,?_⟩;unfold outGP;rw[hx];exact decide_eq_true hf
theorem outG_len (es:List Ed) (s:Int):(outG es s).length<=es.length:=Yys (List.length_filter_le _ _) (by rw[Yyd];exact Yyt _)
end Go.VC
end

section
namespace Go.VC
def mk8 (c:Nat):Nat->Nat
 | 0=>0
 | k+1=>c+256*mk8 c k
def s1 (k x:Nat):Nat:=((x/2)&&&mk8 0x55 k)+(x&&&mk8 0x55 k)
def s2 (k x:Nat):Nat:=((x/4)&&&mk8 0x33 k)+(x&&&mk8 0x33 k)
def s3 (k x:Nat):Nat:=(x/16+x)&&&mk8 0x0f k
def b1 (b:Nat):Nat:=((b/2)&&&0x55)+(b&&&0x55)
def b2 (b:Nat):Nat:=((b/4)&&&0x33)+(b&&&0x33)
def b3 (b:Nat):Nat:=(b/16+b)&&&0x0f
set_option maxRecDepth 100000 in
theorem f1:∀b,b<256->∀t,t<2->(b/2+128*t)&&&0x55=(b/2)&&&0x55:=by decide
set_option maxRecDepth 100000 in
theorem f2:∀b,b<256->∀t,t<4->(b/4+64*t)&&&0x33=(b/4)&&&0x33:=by decide
set_option maxRecDepth 100000 in
theorem f3:∀b,b<69->∀t,t<5->(b/16+16*t+b)&&&0x0f=b3 b:=by decide
set_option maxRecDepth 100000 in
theorem f4:∀b,b<256->b1 b<256/\b2 (b1 b)<69/\b2 (b1 b)%16<5/\b3 (b2 (b1 b))<9/\(b3 (b2 (b1 b))=0->b=0):=by decide
end Go.VC
end

section
namespace Go.VC
open Go.Proofs Go.LexS


theorem tim_lt {g:Gl} (hT:TimS g):∀(j i:Nat) (a b:To),i<j->g.ts[i]?=some a->g.ts[j]?=some b->a.s<b.s
 | 0,i,a,b,h,_,_=>by omega
 | j+1,i,a,b,h,ha,hb=>by
  have h1:=(hT (j+1) b hb).o;have hl:=(Ya.1 hb).1;obtain⟨c,hc⟩:=get_some (l:=g.ts) (i:=j) (by omega);rw[lastS_next hc] at h1;by_cases e:i=j
  .subst e;rw[ha] at hc;cases hc;exact h1
  .have:=tim_lt hT j i a c (by omega) ha hc;omega
theorem tim_uniq {g:Gl} (hT:TimS g) {a b:To} (ha:a∈g.ts) (hb:b∈g.ts) (e:a.s=b.s):a=b:=by
 obtain⟨i,hi⟩:=Yf.1 ha;obtain⟨j,hj⟩:=Yf.1 hb;rcases Nat.lt_trichotomy i j with h | h | h
 .have:=tim_lt hT j i a b h hi hj;omega
 .subst h;rw[hi] at hj;cases hj;rfl
 .have:=tim_lt hT i j b a h hj hi;omega
end Go.VC
end

section
namespace Go.VC
open Go.LexS
theorem foldV {F:Nat->List Ev} {en:Nat->Bool} {O:List Bool} {T:List Ti} {l:List Nat}:∀(m:List Nat) (k:Bool) (o:Ti) {k':Bool} {o':Ti},m.foldl (stepV F en O T l) (some (k,o))=some (k',o') ->
  (k=true->k'=true/\o'=o)/\∀n∈m,badV F en l n=false/\∀t,O[n]?=some true->T[n]?=some t->k'=true/\o'=t
 | [],k,o,k',o',h=>by cases h;exact⟨fun h=>⟨h,rfl⟩,fun n hn=>by cases hn⟩
 | n::m,k,o,k',o',h=>by
  rw[List.foldl_cons] at h;cases hb:badV F en l n with
  | true=>
   have e:stepV F en O T l (some (k,o)) n=none:=by simp only[stepV,hb,if_true]
   rw[e,stepV_none] at h;cases h
  | false=>
   cases hO:O[n]? with
   | none=>
    have e:stepV F en O T l (some (k,o)) n=some (k,o):=by simp[stepV,hb,hO]
    rw[e] at h;obtain⟨h1,h2⟩:=foldV m k o h;refine⟨h1,fun n' hn'=>?_⟩;rcases Yr.1 hn' with rfl | hn'
    .exact⟨hb,fun t h3=>by rw[hO] at h3;cases h3⟩
    .exact h2 n' hn'
   | some b=>
    cases b with
    | false=>
     have e:stepV F en O T l (some (k,o)) n=some (k,o):=by simp[stepV,hb,hO]
     rw[e] at h;obtain⟨h1,h2⟩:=foldV m k o h;refine⟨h1,fun n' hn'=>?_⟩;rcases Yr.1 hn' with rfl | hn'
     .exact⟨hb,fun t h3=>by rw[hO] at h3;cases h3⟩
     .exact h2 n' hn'
    | true=>
     cases hT:T[n]? with
     | none=>
      have e:stepV F en O T l (some (k,o)) n=some (k,o):=by simp[stepV,hb,hO,hT]
      rw[e] at h;obtain⟨h1,h2⟩:=foldV m k o h;refine⟨h1,fun n' hn'=>?_⟩;rcases Yr.1 hn' with rfl | hn'
      .exact⟨hb,fun t _ h4=>by rw[hT] at h4;cases h4⟩
      .exact h2 n' hn'
     | some t=>
      have e:stepV F en O T l (some (k,o)) n=if k&&decide (t≠o) then none else some (true,t):=by simp[stepV,hb,hO,hT]
      rw[e] at h;split at h
      .rw[stepV_none] at h;cases h
      .rename_i hk;obtain⟨h1,h2⟩:=foldV m true t h;obtain⟨h3,h4⟩:=h1 rfl;refine⟨fun hkt=>⟨h3,?_⟩,fun n' hn'=>?_⟩
       .rw[hkt,Bool.true_and,decide_eq_true_eq,Classical.not_not] at hk;rw[h4,hk]
       .rcases Yr.1 hn' with rfl | hn'
        .exact⟨hb,fun t' _ h6=>by rw[hT] at h6;cases h6;exact⟨h3,h4⟩⟩
        .exact h2 n' hn'
theorem viewV_row {F:Nat->List Ev} {en:Nat->Bool} {O:List Bool} {T:List Ti} {l:List Nat} {o:Ti} (h:viewV F en O T l=some o) {n:Nat} (hn:n∈l):badV F en l n=false/\∀t,O[n]?=some true->T[n]?=some t->o=t:=by
 unfold viewV at h;obtain⟨⟨k,o'⟩,h1,h2⟩:=Yya.1 h;obtain⟨_,h3⟩:=foldV l false ti0 h1;obtain⟨h4,h5⟩:=h3 n hn;exact⟨h4,fun t hO hT=>by rw[<-h2];exact (h5 t hO hT).2⟩
theorem updT_at (T:List Ti) (n:Nat) (f:Ti->Ti) (k:Nat):(updT T n f)[k]?=if k=n then (T[k]?).map f else T[k]?:=by
 unfold updT;split
 .rename_i t ht;by_cases e:k=n
  .subst e;rw[if_pos rfl,Yq (Ya.1 ht).1,ht];rfl
  .rw[if_neg e,Yy (fun h=>e h.symm)]
 .rename_i ht;by_cases e:k=n
  .subst e;rw[if_pos rfl,ht];rfl
  .rw[if_neg e]
theorem ownE_row {es:List Ed} {role:Int} {n k:Nat} (hk:k<n):(∀x∈es,0<=x.f)->(∀x∈es,¬(x.f=(k:Int)/\x.a=role))/\(ownE es role n).1[k]?=some false/\(ownE es role n).2[k]?=some ti0\/∃x∈es,x.f=(k:Int)/\x.a=role/\(ownE es role n).1[k]?=some true/\(ownE es role n).2[k]?=some ⟨x.ag,0,ti0.x⟩:=by
 intro hf;unfold ownE
 suffices h:∀(l:List Ed) (s:List Bool × List Ti),s.1.length=n->(∀x∈l,0<=x.f)->((l.foldl (own1 role) s).1[k]?=s.1[k]?/\(l.foldl (own1 role) s).2[k]?=s.2[k]?/\∀x∈l,¬(x.f=(k:Int)/\x.a=role))\/∃x∈l,x.f=(k:Int)/\x.a=role/\(l.foldl (own1 role) s).1[k]?=some true/\∀t,s.2[k]?=some t->(l.foldl (own1 role) s).2[k]?=some ⟨x.ag,t.k,t.x⟩ by
  rcases h es (List.replicate n false,List.replicate n ti0) (by rw[Yg]) hf with ⟨h1,h2,h3⟩ | ⟨x,h1,h2,h3,h4,h5⟩
  .refine .inl ⟨h3,?_,?_⟩
   .rw[h1,List.getElem?_replicate,if_pos hk]
   .rw[h2,List.getElem?_replicate,if_pos hk]
  .exact .inr ⟨x,h1,h2,h3,h4,h5 ti0 (by rw[List.getElem?_replicate,if_pos hk])⟩
 intro l
 induction l with
 | nil=>intro s _ _;exact .inl ⟨rfl,rfl,fun x hx=>by cases hx⟩
 | cons a l ih=>
  intro s hs hf;rw[List.foldl_cons];have hfa:=hf a (Yx ..);have hfl:∀x∈l,0<=x.f:=fun x hx=>hf x (Yn _ hx);by_cases ha:a.a=role
  .have e:own1 role s a=(s.1.set a.f.toNat true,updT s.2 a.f.toNat fun t=>{ t with ag:=a.ag }):=by unfold own1;rw[if_pos ha]
   rw[e];have hs':(s.1.set a.f.toNat true).length=n:=by rw[Yyh];exact hs
   by_cases hk2:a.f=(k:Int)
   .have hkn:a.f.toNat=k:=by omega
    rw[hkn] at hs' ⊢;have g1:(s.1.set k true)[k]?=some true:=Yq (by omega);have g2:∀t,s.2[k]?=some t->(updT s.2 k fun t=>{ t with ag:=a.ag })[k]?=some ⟨a.ag,t.k,t.x⟩:=fun t ht=>by rw[updT_at,if_pos rfl,ht];rfl
    rcases ih (s.1.set k true,updT s.2 k fun t=>{ t with ag:=a.ag }) hs' hfl with ⟨h1,h2,h3⟩ | ⟨x,h1,h2,h3,h4,h5⟩
    .exact .inr ⟨a,Yx ..,hk2,ha,by rw[h1];exact g1,fun t ht=>by rw[h2];exact g2 t ht⟩
    .exact .inr ⟨x,Yn _ h1,h2,h3,h4,fun t ht=>h5 ⟨a.ag,t.k,t.x⟩ (g2 t ht)⟩
   .have hkn:¬k=a.f.toNat:=by omega
    have g1:(s.1.set a.f.toNat true)[k]?=s.1[k]?:=Yy (by omega);have g2:(updT s.2 a.f.toNat fun t=>{ t with ag:=a.ag })[k]?=s.2[k]?:=by rw[updT_at,if_neg hkn]
    rcases ih (s.1.set a.f.toNat true,updT s.2 a.f.toNat fun t=>{ t with ag:=a.ag }) hs' hfl with ⟨h1,h2,h3⟩ | ⟨x,h1,h2,h3,h4,h5⟩
    .refine .inl ⟨by rw[h1];exact g1,by rw[h2];exact g2,fun x hx=>?_⟩;rcases Yr.1 hx with rfl | hx
     .exact fun h=>hk2 h.1
     .exact h3 x hx
    .exact .inr ⟨x,Yn _ h1,h2,h3,h4,fun t ht=>h5 t (by rw[g2];exact ht)⟩
  .have e:own1 role s a=s:=by unfold own1;rw[if_neg ha]
   rw[e];rcases ih s hs hfl with ⟨h1,h2,h3⟩ | ⟨x,h1,h2,h3,h4,h5⟩
   .refine .inl ⟨h1,h2,fun x hx=>?_⟩;rcases Yr.1 hx with rfl | hx
    .exact fun h=>ha h.2
    .exact h3 x hx
   .exact .inr ⟨x,Yn _ h1,h2,h3,h4,h5⟩
theorem ownT_row {es:List Ed} {O:List Bool} {k:Nat} (hO:O[k]?=some true):∀(l:List To) (T:List Ti) (t:Ti),(∀u∈l,0<=u.s/\∃z,es[u.e.toNat]?=some z)->T[k]?=some t ->
  ((∀u∈l,u.s≠(k:Int))/\(l.foldl (own2 es O) T)[k]?=some t)\/∃u∈l,u.s=(k:Int)/\∃z,es[u.e.toNat]?=some z/\(l.foldl (own2 es O) T)[k]?=some ⟨t.ag,u.k,⟨true,z.b,z.l⟩⟩
 | [],T,t,_,ht=>.inl ⟨fun u hu=>(by cases hu),ht⟩
 | u::l,T,t,hl,ht=>by
  rw[List.foldl_cons];obtain⟨hu0,z,hz⟩:=hl u (Yx ..);have hl':∀u∈l,0<=u.s/\∃z,es[u.e.toNat]?=some z:=fun u hu=>hl u (Yn _ hu);by_cases hk:u.s=(k:Int)
  .have hkn:u.s.toNat=k:=by omega
   have e:own2 es O T u=updT T k fun q=>⟨q.ag,u.k,⟨true,z.b,z.l⟩⟩:=by
    unfold own2;rw[hkn,hO,hz]
   have g:(own2 es O T u)[k]?=some ⟨t.ag,u.k,⟨true,z.b,z.l⟩⟩:=by rw[e,updT_at,if_pos rfl,ht];rfl
   rcases ownT_row hO l _ _ hl' g with ⟨_,h2⟩ | ⟨v,h1,h2,z',h3,h4⟩
   .exact .inr ⟨u,Yx ..,hk,z,hz,h2⟩
   .exact .inr ⟨v,Yn _ h1,h2,z',h3,h4⟩
  .have g:(own2 es O T u)[k]?=some t:=by
    unfold own2;split
    .rw[updT_at,if_neg (by omega)];exact ht
    .exact ht
   rcases ownT_row hO l _ _ hl' g with ⟨h1,h2⟩ | ⟨v,h1,h2,z',h3,h4⟩
   .refine .inl ⟨fun v hv=>?_,h2⟩;rcases Yr.1 hv with rfl | hv
    .exact hk
    .exact h1 v hv
   .exact .inr ⟨v,Yn _ h1,h2,z',h3,h4⟩
theorem row_same {g:Gl} (hV:ValidS g) {x y:Ed} (hx:x∈g.es) (hy:y∈g.es) (e:x.f=y.f):x.a=y.a/\x.ag=y.ag:=by
 obtain⟨i,hi⟩:=Yf.1 hx;obtain⟨k,hk⟩:=Yf.1 hy;by_cases eik:i=k
 .subst eik;rw[hi] at hk;cases hk;exact⟨rfl,rfl⟩
 .have h1:=hV.ord.p i x hi k y hk;have h2:=hV.ord.p k y hk i x hi;unfold PairBad at h1 h2;have e1:x.ag=false:=by cases h:x.ag with | false=>rfl | true=>exact absurd (.inl ⟨eik,e,.inr (.inr h)⟩) h1
  have e2:y.ag=false:=by cases h:y.ag with | false=>rfl | true=>exact absurd (.inl ⟨fun h=>eik h.symm,e.symm,.inr (.inr h)⟩) h2
  refine⟨Classical.byContradiction fun h=>h1 (.inl ⟨eik,e,.inr (.inl h)⟩),by rw[e1,e2]⟩

end Go.VC
end

section
namespace Go.VC
open Go.Proofs Go.LexS
def setI (p:PSet):List Int:=natI (elems p)
theorem setI_mem {p:PSet} {v:Int}:v∈setI p ↔ 0<=v/\v<4096/\p v.toNat=true:=by
 unfold setI natI;rw[Yp];constructor
 .rintro⟨j,hj,rfl⟩;have:=elems_mem.1 hj;exact⟨by omega,by omega,by rw[Ys];exact this.2⟩
 .rintro⟨h0,h1,h2⟩;exact⟨v.toNat,elems_mem.2 ⟨by omega,h2⟩,by omega⟩
theorem half64 {x:Int} (h0:0<=x) (h1:x<=4611686018427387903):IntKind.wrap .i64 (shrI .u64 (IntKind.wrap .u64 (IntKind.wrap .i64 x)) 1)=x/2:=by
 rw[w64 (n:=x) (by omega) (by omega)];have e1:IntKind.wrap .u64 x=x:=by
  simp[IntKind.wrap,IntKind.signed,IntKind.bits];omega
 rw[e1];have e2:shrI .u64 x 1=x/2:=by
  show x.fdiv (2^1)=x/2;rw[Int.fdiv_eq_ediv_of_nonneg _ (by decide)];rfl
 rw[e2,w64 (by omega) (by omega)]
abbrev rwF (s:Sl) (N:Nat) (f:Nat->Int):It:=.sl s 3 1 ((fL N f).map inC)
theorem rwF.n {h0 h:Heap} {I:List It} {s:Sl} {N:Nat} {f:Nat->Int} (hs:St h0 h (rwF s N f::I)):s.n=N:=by
 have:=(hs.rows 0 (s:=s) (cs:=inC) (l:=fL N f) rfl (by decide)).ln
 rwa [fL_len] at this
theorem rwF.get {h0 h hZ:Heap} {I:List It} {s:Sl} {N:Nat} {f:Nat->Int} {x:Int} {F:Nat->Nat->Prop} (hs:St h0 h (rwF s N f::I)) (E:Ext h hZ) (k:Nat) (hx:x=(k:Int)) (hk:k<N) (hF:∀b o,hc hZ ⟨b,o+x.toNat*1,none⟩=some (.int .i64 (f k))->F b o) :
  NB s.a fun b o=>(0<=x/\x<(s.n:Nat))/\F b o:=by
 have hn:=rwF.n hs;subst hx;refine ((hs.rows 0 (s:=s) (cs:=inC) (l:=fL N f) rfl (by decide)).ext E).nbI (by omega) (by omega) fun b o d gd t=>hF b o ?_;rw[show ((k:Int)).toNat=k from rfl,fL_get hk] at gd;cases gd;exact t.hd
theorem rwF.swap {h0 h:Heap} {I:List It} {s:Sl} {N:Nat} {f:Nat->Int} {x y u v:Int} {K:Heap->Prop} (hs:St h0 h (rwF s N f::I)) (p q:Nat) (hx:x=(p:Int)) (hy:y=(q:Int)) (hp:p<N) (hq:q<N) (hu:u=f q) (hv:v=f p) (hpq:p≠q)
  (hK:∀h',St h0 h' (rwF s N (swF p q f)::I)->K h') :
  NB s.a fun b o=>(0<=x/\x<(s.n:Nat))/\(okAt h ⟨b,o+x.toNat*1,none⟩ 1/\∀h1,h1=hputs h ⟨b,o+x.toNat*1,none⟩ 0 [.int .i64 u] ->
   NB s.a fun b o=>(0<=y/\y<(s.n:Nat))/\(okAt h1 ⟨b,o+y.toNat*1,none⟩ 1/\∀h2,h2=hputs h1 ⟨b,o+y.toNat*1,none⟩ 0 [.int .i64 v]->K h2)):=by
 have hn:=rwF.n hs;subst hx hy hu hv;refine hs.set 0 (cs:=inC) (l:=fL N f) rfl (by decide) (by omega) (by omega) (f q) rfl rfl (fun _ _ h1 hs1=>?_) rfl;rw[show ((p:Int)).toNat=p from rfl,fL_set] at hs1;refine St.set (cs:=inC) (l:=fL N fun i=>if i=p then f q else f i) hs1 0 rfl (by decide) (by omega) (by omega) (f p) rfl rfl (fun _ _ h2 hs2=>hK h2 ?_) rfl;rw[show ((q:Int)).toNat=q from rfl,fL_set] at hs2;have e:fL N (fun i=>if i=q then f p else if i=p then f q else f i)=fL N (swF p q f):=fL_ext fun i _=>by
  unfold swF;by_cases c:i=p
  .rw[if_pos c,if_neg (by omega),if_pos c]
  .rw[if_neg c,if_neg c]
 show St h0 h2 (.sl s 3 1 ((fL N (swF p q f)).map inC)::I);rw[<-e];exact hs2
theorem swap262 (s:Sl) (N a b n:Nat) (f:Nat->Int) (fv:Value) {h0 h:Heap} {I:List It} (hs:St h0 h (rwF s N f::I)) (hab:a+n<=b) (hb:b+n<=N) (hN:N<=1048576) :
  Fn Pz 262 #[.slice s.a s.n s.c,.int .i64 (a:Nat),.int .i64 (b:Nat),.int .i64 (n:Nat),fv] h fun v h'=>v=.tuple ⟨[]⟩/\St h0 h' (rwF s N (swR a b n f)::I):=by
 apply vc262 s (a:Nat) (b:Nat) (n:Nat) fv;unfold W262;refine up_loop (n:=n) (fun i h'=>∃g,St h0 h' (rwF s N g::I)/\∀t,g t=swR a b i f t) ⟨f,hs,fun t=>by unfold swR;rw[if_neg (by omega),if_neg (by omega)]⟩ ?_;clear hs;rintro-i h5 hi ⟨g,hs,hg⟩;refine sB_intro (fun c=>?_) (fun c=>?_)
 .replace c:=lt_t c;have e1:IntKind.wrap .i64 ((b:Int)+(i:Int))=((b+i:Nat):Int):=by rw[w64 (by omega) (by omega)];omega
  have e2:IntKind.wrap .i64 ((a:Int)+(i:Int))=((a+i:Nat):Int):=by rw[w64 (by omega) (by omega)];omega
  refine rwF.get hs .rfl' (b+i) e1 (by omega) fun _ _ t=>⟨_,t,?_⟩;refine rwF.get hs .rfl' (a+i) e2 (by omega) fun _ _ t=>⟨_,t,?_⟩;refine rwF.swap hs (a+i) (b+i) e2 e1 (by omega) (by omega) rfl rfl (by omega) fun h17 hs=>?_;refine Up.next c (by omega) ⟨_,hs,fun t=>?_⟩;have g1:g (b+i)=f (b+i):=by rw[hg];unfold swR;rw[if_neg (by omega),if_neg (by omega)]
  have g2:g (a+i)=f (a+i):=by rw[hg];unfold swR;rw[if_neg (by omega),if_neg (by omega)]
  unfold swF;rw[g1,g2,hg];unfold swR;by_cases c1:t=a+i
  .rw[if_pos c1,if_pos (by omega)];congr 1;omega
  .rw[if_neg c1];by_cases c2:t=b+i
   .rw[if_pos c2,if_neg (by omega),if_pos (by omega)];congr 1;omega
   .rw[if_neg c2];by_cases c3:a<=t/\t<a+i
    .rw[if_pos c3,if_pos (by omega)]
    .rw[if_neg c3,if_neg (c:=a<=t/\_) (by omega)];by_cases c4:b<=t/\t<b+i
     .rw[if_pos c4,if_pos (by omega)]
     .rw[if_neg c4,if_neg (by omega)]
 .replace c:=lt_f c;have:i=n:=by omega
  subst this;refine⟨rfl,?_⟩;rw[show rwF s N (swR a b i f)=rwF s N g by unfold rwF;rw[fL_ext fun t _=>hg t]];exact hs
theorem rotate239 (s:Sl) (N a m b:Nat) (f:Nat->Int) (fv:Value) {h0 h:Heap} {I:List It} (hs:St h0 h (rwF s N f::I)) (ham:a<m) (hmb:m<b) (hb:b<=N) (hN:N<=1048576) :
  Fn Pz 239 #[.slice s.a s.n s.c,.int .i64 (a:Nat),.int .i64 (m:Nat),.int .i64 (b:Nat),fv] h fun v h'=>v=.tuple ⟨[]⟩/\St h0 h' (rwF s N (rotF a m b f)::I):=by
 apply vc239 s (a:Nat) (m:Nat) (b:Nat) fv;unfold W239;refine⟨fun x y h' μ=>∃(i j:Nat) (g:Nat->Int),x=(i:Int)/\y=(j:Int)/\μ=i+j/\0<i/\0<j/\i<=m-a/\j<=b-m/\St h0 h' (rwF s N g::I)/\RoI (rotF a m b f) m i j g,⟨_,m-a,b-m,f,by rw[w64 (by omega) (by omega)];omega,by rw[w64 (by omega) (by omega)];omega,rfl,by omega,by omega,Yyt _,Yyt _,hs,RoI.start f (by omega) (by omega)⟩,?_⟩;clear hs;rintro-_ _ h6 μ ⟨i,j,g,rfl,rfl,rfl,hi,hj,hia,hjb,hs,hR⟩;have e1:IntKind.wrap .i64 ((m:Int)-(i:Int))=((m-i:Nat):Int):=by rw[w64 (by omega) (by omega)];omega
 refine sBn (fun c=>?_) (fun c=>?_)
 .refine sBi (fun c2=>?_) (fun c2=>?_)
  .rw[e1];refine (swap262 s N (m-i) m j g fv hs (by omega) (by omega) hN).mono ?_;rintro _ h8 ⟨rfl,hs⟩;exact⟨rfl,_,(show i-j+j<i+j by omega),i-j,j,_,by rw[w64 (by omega) (by omega)];omega,rfl,rfl,by omega,hj,by omega,hjb,hs,hR.more (by omega)⟩
  .have e2:IntKind.wrap .i64 ((IntKind.wrap .i64 ((m:Int)+(j:Int)))-(i:Int))=((m+j-i:Nat):Int):=by rw[w64 (n:=(m:Int)+(j:Int)) (by omega) (by omega),w64 (by omega) (by omega)];omega
   rw[e1,e2];refine (swap262 s N (m-i) (m+j-i) i g fv hs (by omega) (by omega) hN).mono ?_;rintro _ h8 ⟨rfl,hs⟩;exact⟨rfl,_,(show i+(j-i)<i+j by omega),i,j-i,_,rfl,by rw[w64 (by omega) (by omega)];omega,rfl,hi,by omega,hia,by omega,hs,hR.less (by omega)⟩
 .have:i=j:=by omega
  subst this;rw[e1];refine (swap262 s N (m-i) m i g fv hs (by omega) (by omega) hN).mono ?_;rintro _ h8 ⟨rfl,hs⟩;refine⟨rfl,rfl,?_⟩;rw[show rwF s N (rotF a m b f)=rwF s N (swR (m-i) m i g) by unfold rwF;rw[fL_ext fun t _=>(hR.done t).symm]];exact hs
def CmpOk (fv:Value) (s:Sl) (N:Nat) (I:List It) (h0:Heap) (R:Int->Int->Prop) (D:Int->Prop):Prop:=∃(g:Nat) (fa fc:Array Value),fv=.func (.func g) fa fc/\callable Pz g=true /\
 ∀(h:Heap) (k:Nat->Int) (x y:Int),D x->D y->0<N->St h0 h (rwF s N k::I)->Fn Pz g (fa ++ #[.int .i64 x,.int .i64 y]++fc) h fun v h'=>∃c:Int,v=.int .i64 c/\Ext h h'/\(c<0 ↔ R x y)
theorem insert197 (s:Sl) (N a b:Nat) (f:Nat->Int) (fv:Value) {h0 h:Heap} {I:List It} {R:Int->Int->Prop} {D:Int->Prop} (hW:Wo R D) (hD:∀i,D (f i)) (hC:CmpOk fv s N I h0 R D) (hs:St h0 h (rwF s N f::I)) (hab:a<=b) (hb:b<=N) (hN:N<=1048576) :
  Fn Pz 197 #[.slice s.a s.n s.c,.int .i64 (a:Nat),.int .i64 (b:Nat),fv] h fun v h'=>v=.tuple ⟨[]⟩/\∃g,St h0 h' (rwF s N g::I)/\Pm a b f g/\So R g a b:=by
 obtain⟨cg,fa,fc,rfl,hcall,hcmp⟩:=hC;apply vc197 s (a:Nat) (b:Nat);unfold W197 V197a;have e1:IntKind.wrap .i64 ((a:Int)+1)=((a+1:Nat):Int):=by rw[w64 (by omega) (by omega)];omega
 rw[e1];refine⟨fun x h' μ=>∃(i:Nat) (g:Nat->Int),x=(i:Int)/\μ=b+1-i/\a+1<=i/\i<=b+1/\St h0 h' (rwF s N g::I)/\Pm a b f g/\So R g a (min i b),⟨_,a+1,f,rfl,rfl,Yyt _,by omega,hs,Pm.refl _ _ _,fun i j h1 h2 h3=>by omega⟩,?_⟩;clear hs;rintro-_ h5 μ ⟨i,g,rfl,rfl,hai,hib,hs,hP,hS⟩;refine sB_intro (fun c=>?_) (fun c=>?_)
 .replace c:=lt_t c;rw[Nat.min_eq_left (by omega)] at hS;refine⟨fun x h' μ=>∃(j:Nat) (k:Nat->Int),x=(j:Int)/\μ=0+j/\a<=j/\j<=i/\St h0 h' (rwF s N k::I)/\Pm a b f k/\(∀u v,a<=u->u<v->v<=i->v≠j->¬R (k v) (k u)),⟨_,i,g,rfl,rfl,by omega,Yyt _,hs,hP,fun u v h1 h2 h3 h4=>hS u v h1 h2 (by omega)⟩,?_⟩;clear hs;rintro-_ h10 μ ⟨j,k,rfl,rfl,haj,hji,hs,hP,hK⟩;have hDk:=hP.dom hD;have fin:(∀u v,a<=u->u<v->v<=i->¬R (k v) (k u))->∀ {hZ:Heap},Ext h10 hZ->∃m32,m32<b+1-i/\∃(i_1:Nat) (g:Nat->Int),IntKind.wrap .i64 ((i:Int)+1)=(i_1:Int)/\m32=b+1-i_1/\a+1<=i_1/\i_1<=b+1/\St h0 hZ (rwF s N g::I)/\Pm a b f g/\So R g a (min i_1 b):=fun hq {hZ} E=>
   ⟨_,(show b+1-(i+1)<b+1-i by omega),i+1,k,by rw[w64 (by omega) (by omega)];omega,rfl,by omega,by omega,hs.step E,hP,fun u v h1 h2 h3=>hq u v h1 h2 (by omega)⟩
  refine sBi (fun c2=>?_) (fun c2=>?_)
  .have e2:IntKind.wrap .i64 ((j:Int)-1)=((j-1:Nat):Int):=by rw[w64 (by omega) (by omega)];omega
   refine rwF.get hs .rfl' j rfl (by omega) fun _ _ t=>⟨_,t,?_⟩;refine rwF.get hs .rfl' (j-1) e2 (by omega) fun _ _ t=>⟨_,t,?_⟩;show (bif callable Pz cg then _ else _);rw[hcall,cond_true];refine (hcmp h10 k (k j) (k (j-1)) (hDk _) (hDk _) (by omega) hs).mono ?_;rintro _ h22 ⟨cc,rfl,E,hcc⟩;have hs:=hs.step E;refine⟨cc,rfl,sBi (fun c3=>?_) (fun c3=>?_)⟩
   .have hR:=hcc.1 c3;refine rwF.get hs .rfl' (j-1) e2 (by omega) fun _ _ t=>⟨_,t,?_⟩;refine rwF.get hs .rfl' j rfl (by omega) fun _ _ t=>⟨_,t,?_⟩;refine rwF.swap hs j (j-1) rfl e2 (by omega) (by omega) rfl rfl (by omega) fun h34 hs=>?_;refine⟨_,(show 0+(j-1)<0+j by omega),j-1,_,e2,rfl,by omega,by omega,hs,hP.trans (Pm.swap k ⟨by omega,by omega⟩ ⟨by omega,by omega⟩),fun u v h1 h2 h3 h4=>?_⟩;unfold swF;by_cases v1:v=j
    .rw[if_pos v1];by_cases u1:u=j-1
     .rw[if_neg (by omega),if_pos u1];exact hW.asy _ _ (hDk _) (hDk _) hR
     .rw[if_neg (by omega),if_neg u1];exact hK u (j-1) h1 (by omega) (by omega) (by omega)
    .rw[if_neg v1,if_neg h4];by_cases u1:u=j
     .rw[if_pos u1];exact hK (j-1) v (by omega) (by omega) h3 v1
     .rw[if_neg u1];by_cases u2:u=j-1
      .rw[if_pos u2];exact hK j v (by omega) (by omega) h3 v1
      .rw[if_neg u2];exact hK u v h1 h2 h3 v1
   .refine fin (fun u v h1 h2 h3=>?_) E;by_cases v1:v=j
    .subst v1;have hR:¬R (k v) (k (v-1)):=fun c=>c3 (hcc.2 c);by_cases u1:u=v-1
     .subst u1;exact hR
     .exact hW.tr _ _ _ (hDk _) (hDk _) (hDk _) (hK u (v-1) h1 (by omega) (by omega) (by omega)) hR
    .exact hK u v h1 h2 h3 v1
  .exact fin (fun u v h1 h2 h3=>hK u v h1 h2 h3 (by omega)) .rfl'
 .replace c:=lt_f c;rw[Nat.min_eq_right (by omega)] at hS;exact⟨rfl,g,hs,hP,hS⟩
theorem mvR_step {a p:Nat} {f g:Nat->Int} (hap:a<=p) (hg:∀t,g t=mvR a p f t):∀t,swF p (p+1) g t=mvR a (p+1) f t:=by
 intro t;have g1:g p=f a:=by
  rw[hg];unfold mvR;rw[if_neg (by omega),if_pos rfl]
 have g2:g (p+1)=f (p+1):=by rw[hg];unfold mvR;rw[if_neg (by omega),if_neg (by omega)]
 unfold swF;rw[g1,g2,hg];unfold mvR;by_cases c1:t=p
 .rw[if_pos c1,if_pos (by omega),c1]
 .rw[if_neg c1];by_cases c2:t=p+1
  .rw[if_pos c2,if_neg (by omega),if_pos c2]
  .rw[if_neg c2,if_neg c1,if_neg c2];by_cases c3:a<=t/\t<p
   .rw[if_pos c3,if_pos (by omega)]
   .rw[if_neg c3,if_neg (by omega)]
theorem mvL_step {p m:Nat} {f g:Nat->Int} (h0:0<p) (hpm:p<=m) (hg:∀t,g t=mvL p m f t):∀t,swF p (p-1) g t=mvL (p-1) m f t:=by
 intro t;have g1:g p=f m:=by rw[hg];unfold mvL;rw[if_pos rfl]
 have g2:g (p-1)=f (p-1):=by rw[hg];unfold mvL;rw[if_neg (by omega),if_neg (by omega)]
 unfold swF;rw[g1,g2,hg];unfold mvL;by_cases c1:t=p
 .rw[if_pos c1,if_neg (by omega),if_pos (by omega),c1]
 .rw[if_neg c1];by_cases c2:t=p-1
  .rw[if_pos c2,if_pos c2]
  .rw[if_neg c2,if_neg c1,if_neg c2];by_cases c3:p<t/\t<=m
   .rw[if_pos c3,if_pos (by omega)]
   .rw[if_neg c3,if_neg (by omega)]
theorem merge198 {R:Int->Int->Prop} {D:Int->Prop} (hW:Wo R D) (s:Sl) (N:Nat) (fv:Value) {h0:Heap} {I:List It} (hC:CmpOk fv s N I h0 R D) (hN:N<=1048576):∀(z a m b:Nat) (f:Nat->Int) (h:Heap),b-a<=z->a<m->m<b->b<=N->(∀i,D (f i))->So R f a m->So R f m b->St h0 h (rwF s N f::I) ->
  Fn Pz 198 #[.slice s.a s.n s.c,.int .i64 (a:Nat),.int .i64 (m:Nat),.int .i64 (b:Nat),fv] h fun v h'=>v=.tuple ⟨[]⟩/\∃g,St h0 h' (rwF s N g::I)/\Pm a b f g/\So R g a b:=by
 obtain⟨cg,fa,fc,rfl,hcall,hcmp⟩:=hC;intro z
 induction z with
 | zero=>intro a m b f h hz ham hmb;omega
 | succ z ih=>
 intro a m b f h hz ham hmb hb hD hX hY hs;have ih':∀(a m b:Nat) (f:Nat->Int) (h:Heap),b-a<=z->a<m->m<b->b<=N->(∀i,D (f i))->So R f a m->So R f m b->St h0 h (rwF s N f::I) ->
  Fn Pz 198 #[.slice s.a s.n s.c,.int .i64 (a:Nat),.int .i64 (m:Nat),.int .i64 (b:Nat),.func (.func cg) fa fc] h fun v h'=>v=.tuple ⟨[]⟩/\∃g,St h0 h' (rwF s N g::I)/\Pm a b f g/\So R g a b:=ih
 clear ih;apply vc198 s (a:Nat) (m:Nat) (b:Nat);unfold W198 V198c V198b V198a;have s1:IntKind.wrap .i64 ((m:Int)-(a:Int))=((m-a:Nat):Int):=by rw[w64 (by omega) (by omega)];omega
 have s2:IntKind.wrap .i64 ((b:Int)-(m:Int))=((b-m:Nat):Int):=by rw[w64 (by omega) (by omega)];omega
 rw[s1,s2];refine sB_intro (fun c0=>?_) (fun c0=>?_)
 .-- one element on the left
  have c0:m=a+1:=by have:=eq_of_beq c0;omega
  subst c0;refine⟨fun x y h' μ=>∃i j:Nat,x=(i:Int)/\y=(j:Int)/\μ=j-i/\a+1<=i/\i<=j/\j<=b/\St h0 h' (rwF s N f::I)/\(i=a+1\/R (f (i-1)) (f a))/\(j=b\/¬R (f j) (f a)),⟨_,a+1,b,rfl,rfl,rfl,Yyt _,by omega,Yyt _,hs,.inl rfl,.inl rfl⟩,?_⟩;clear hs;rintro-_ _ h6 μ ⟨i,j,rfl,rfl,rfl,hai,hij,hjb,hs,hl,hr⟩;have e1:IntKind.wrap .i64 (shrI .u64 (IntKind.wrap .u64 (IntKind.wrap .i64 ((i:Int)+(j:Int)))) 1)=(((i+j)/2:Nat):Int):=by rw[half64 (by omega) (by omega)];omega
  rw[e1];refine sB_intro (fun c=>?_) (fun c=>?_)
  .replace c:=lt_t c;refine⟨by decide,?_⟩;refine rwF.get hs .rfl' ((i+j)/2) rfl (by omega) fun _ _ t=>⟨_,t,?_⟩;refine rwF.get hs .rfl' a rfl (by omega) fun _ _ t=>⟨_,t,?_⟩;show (bif callable Pz cg then _ else _);rw[hcall,cond_true];refine (hcmp h6 f (f ((i+j)/2)) (f a) (hD _) (hD _) (by omega) hs).mono ?_;rintro _ h18 ⟨cc,rfl,E,hcc⟩;have hs:=hs.step E;refine⟨cc,rfl,sBi (fun c3=>?_) (fun c3=>?_)⟩
   .refine⟨_,(show j-((i+j)/2+1)<j-i by omega),(i+j)/2+1,j,by rw[w64 (by omega) (by omega)];omega,rfl,rfl,by omega,by omega,hjb,hs,.inr ?_,hr⟩;rw[Nat.add_sub_cancel];exact hcc.1 c3
   .exact⟨_,(show (i+j)/2-i<j-i by omega),i,(i+j)/2,rfl,rfl,rfl,hai,by omega,by omega,hs,hl,.inr fun c=>c3 (hcc.2 c)⟩
  .replace c:=lt_f c;have:j=i:=by omega
   subst this;have e2:IntKind.wrap .i64 ((j:Int)-1)=((j-1:Nat):Int):=by rw[w64 (by omega) (by omega)];omega
   rw[e2];refine⟨fun x h' μ=>∃(k:Nat) (g:Nat->Int),x=(k:Int)/\μ=j-k/\a<=k/\k<=j-1/\St h0 h' (rwF s N g::I)/\(∀t,g t=mvR a k f t)/\Pm a b f g,⟨_,a,f,rfl,rfl,Yyt _,by omega,hs,fun t=>by
    unfold mvR;rw[if_neg (by omega)];by_cases c:t=a
    .rw[if_pos c,c]
    .rw[if_neg c],Pm.refl _ _ _⟩,?_⟩
   clear hs;rintro-_ h25 μ ⟨k,g,rfl,rfl,hak,hkj,hs,hg,hP⟩;have e3:IntKind.wrap .i64 ((k:Int)+1)=((k+1:Nat):Int):=by rw[w64 (by omega) (by omega)];omega
   refine sB_intro (fun c4=>?_) (fun c4=>?_)
   .replace c4:=lt_t c4;refine rwF.get hs .rfl' (k+1) e3 (by omega) fun _ _ t=>⟨_,t,?_⟩;refine rwF.get hs .rfl' k rfl (by omega) fun _ _ t=>⟨_,t,?_⟩;refine rwF.swap hs k (k+1) rfl e3 (by omega) (by omega) rfl rfl (by omega) fun h37 hs=>?_;exact⟨_,(show j-(k+1)<j-k by omega),k+1,_,e3,rfl,by omega,by omega,hs,mvR_step hak hg,hP.trans (Pm.swap g ⟨by omega,by omega⟩ ⟨by omega,by omega⟩)⟩
   .replace c4:=lt_f c4;have:k=j-1:=by omega
    subst this;exact⟨rfl,g,hs,hP,(mvR_sorted hW hD hY hai hjb hl hr).of fun i _ _=>hg i⟩
 refine sB_intro (fun c1=>?_) (fun c1=>?_)
 .-- one element on the right
  have c1:b=m+1:=by have:=eq_of_beq c1;omega
  subst c1;refine⟨fun x y h' μ=>∃i j:Nat,x=(i:Int)/\y=(j:Int)/\μ=j-i/\a<=i/\i<=j/\j<=m/\St h0 h' (rwF s N f::I)/\(i=a\/¬R (f m) (f (i-1)))/\(j=m\/R (f m) (f j)),⟨_,a,m,rfl,rfl,rfl,Yyt _,by omega,Yyt _,hs,.inl rfl,.inl rfl⟩,?_⟩;clear hs;rintro-_ _ h44 μ ⟨i,j,rfl,rfl,rfl,hai,hij,hjm,hs,hl,hr⟩;have e1:IntKind.wrap .i64 (shrI .u64 (IntKind.wrap .u64 (IntKind.wrap .i64 ((i:Int)+(j:Int)))) 1)=(((i+j)/2:Nat):Int):=by rw[half64 (by omega) (by omega)];omega
  rw[e1];refine sB_intro (fun c=>?_) (fun c=>?_)
  .replace c:=lt_t c;refine⟨by decide,?_⟩;refine rwF.get hs .rfl' m rfl (by omega) fun _ _ t=>⟨_,t,?_⟩;refine rwF.get hs .rfl' ((i+j)/2) rfl (by omega) fun _ _ t=>⟨_,t,?_⟩;show (bif callable Pz cg then _ else _);rw[hcall,cond_true];refine (hcmp h44 f (f m) (f ((i+j)/2)) (hD _) (hD _) (by omega) hs).mono ?_;rintro _ h56 ⟨cc,rfl,E,hcc⟩;have hs:=hs.step E;refine⟨cc,rfl,sB_intro (fun c3=>?_) (fun c3=>?_)⟩
   .have c3:=Yyo (bF c3);refine⟨_,(show j-((i+j)/2+1)<j-i by omega),(i+j)/2+1,j,by rw[w64 (by omega) (by omega)];omega,rfl,rfl,by omega,by omega,hjm,hs,.inr ?_,hr⟩;rw[Nat.add_sub_cancel];exact fun c=>c3 (hcc.2 c)
   .have c3:=Yyn (bT c3);exact⟨_,(show (i+j)/2-i<j-i by omega),i,(i+j)/2,rfl,rfl,rfl,hai,by omega,by omega,hs,hl,.inr (hcc.1 c3)⟩
  .replace c:=lt_f c;have:j=i:=by omega
   subst this;refine⟨fun x h' μ=>∃(k:Nat) (g:Nat->Int),x=(k:Int)/\μ=0+k/\j<=k/\k<=m/\St h0 h' (rwF s N g::I)/\(∀t,g t=mvL k m f t)/\Pm a (m+1) f g,⟨_,m,f,rfl,rfl,hjm,Yyt _,hs,fun t=>by
    unfold mvL;by_cases c:t=m
    .rw[if_pos c,c]
    .rw[if_neg c,if_neg (by omega)],Pm.refl _ _ _⟩,?_⟩
   clear hs;rintro-_ h63 μ ⟨k,g,rfl,rfl,hjk,hkm,hs,hg,hP⟩;refine sBi (fun c4=>?_) (fun c4=>?_)
   .have e3:IntKind.wrap .i64 ((k:Int)-1)=((k-1:Nat):Int):=by rw[w64 (by omega) (by omega)];omega
    refine rwF.get hs .rfl' (k-1) e3 (by omega) fun _ _ t=>⟨_,t,?_⟩;refine rwF.get hs .rfl' k rfl (by omega) fun _ _ t=>⟨_,t,?_⟩;refine rwF.swap hs k (k-1) rfl e3 (by omega) (by omega) rfl rfl (by omega) fun h75 hs=>?_;exact⟨_,(show 0+(k-1)<0+k by omega),k-1,_,e3,rfl,by omega,by omega,hs,mvL_step (by omega) hkm hg,hP.trans (Pm.swap g ⟨by omega,by omega⟩ ⟨by omega,by omega⟩)⟩
   .have:k=j:=by omega
    subst this;exact⟨rfl,g,hs,hP,(mvL_sorted hW hD hX hai hjm hl hr).of fun i _ _=>hg i⟩
 have c0:m≠a+1:=fun e=>by rw[e,Nat.add_sub_cancel_left] at c0;exact absurd c0 (by decide)
 have c1:b≠m+1:=fun e=>by rw[e,Nat.add_sub_cancel_left] at c1;exact absurd c1 (by decide)
 have e1:IntKind.wrap .i64 (shrI .u64 (IntKind.wrap .u64 (IntKind.wrap .i64 ((a:Int)+(b:Int)))) 1)=(((a+b)/2:Nat):Int):=by rw[half64 (by omega) (by omega)];omega
 rw[e1];generalize hd:(a+b)/2=d;have e2:IntKind.wrap .i64 ((d:Int)+(m:Int))=((d+m:Nat):Int):=by rw[w64 (by omega) (by omega)];omega
 rw[e2];refine⟨by decide,fun x y h'=>∃i j:Nat,x=(i:Int)/\y=(j:Int)/\h'=h/\((d<m/\i=d+m-b/\j=d)\/(m<=d/\i=a/\j=m)),?_,?_⟩
 .refine sBi (fun c=>?_) (fun c=>?_)
  .exact⟨d+m-b,d,by rw[w64 (by omega) (by omega)];omega,rfl,rfl,.inl ⟨by omega,rfl,rfl⟩⟩
  .exact⟨a,m,rfl,rfl,rfl,.inr ⟨by omega,rfl,rfl⟩⟩
 rintro-_ _ _ ⟨i0,j0,rfl,rfl,rfl,hst⟩;have hst2:a<=i0/\i0<=j0/\j0<=m/\j0<=d/\d+m-i0<=b/\(i0=a\/d+m-i0=b)/\(j0=m\/j0=d):=by omega
 clear hst;refine⟨fun x y h' μ=>∃i j:Nat,x=(i:Int)/\y=(j:Int)/\μ=j-i/\i0<=i/\i<=j/\j<=j0/\St h0 h' (rwF s N f::I)/\(i=i0\/¬R (f (d+m-i)) (f (i-1)))/\(j=j0\/R (f (d+m-1-j)) (f j)),⟨_,i0,j0,rfl,rfl,rfl,Yyt _,hst2.2.1,Yyt _,hs,.inl rfl,.inl rfl⟩,?_⟩;clear hs;rintro-_ _ h86 μ ⟨i,j,rfl,rfl,rfl,hi0,hij,hj0,hs,hl,hr⟩;have e3:IntKind.wrap .i64 (shrI .u64 (IntKind.wrap .u64 (IntKind.wrap .i64 ((i:Int)+(j:Int)))) 1)=(((i+j)/2:Nat):Int):=by rw[half64 (by omega) (by omega)];omega
 have e4:IntKind.wrap .i64 (((d+m:Nat):Int)-1)=((d+m-1:Nat):Int):=by rw[w64 (by omega) (by omega)];omega
 rw[e3,e4];refine sB_intro (fun c=>?_) (fun c=>?_)
 .replace c:=lt_t c;have e5:IntKind.wrap .i64 (((d+m-1:Nat):Int)-(((i+j)/2:Nat):Int))=((d+m-1-(i+j)/2:Nat):Int):=by rw[w64 (by omega) (by omega)];omega
  refine⟨by decide,?_⟩;refine rwF.get hs .rfl' (d+m-1-(i+j)/2) e5 (by omega) fun _ _ t=>⟨_,t,?_⟩;refine rwF.get hs .rfl' ((i+j)/2) rfl (by omega) fun _ _ t=>⟨_,t,?_⟩;show (bif callable Pz cg then _ else _);rw[hcall,cond_true];refine (hcmp h86 f (f (d+m-1-(i+j)/2)) (f ((i+j)/2)) (hD _) (hD _) (by omega) hs).mono ?_;rintro _ h98 ⟨cc,rfl,E,hcc⟩;have hs:=hs.step E;refine⟨cc,rfl,sB_intro (fun c3=>?_) (fun c3=>?_)⟩
  .have c3:=Yyo (bF c3);refine⟨_,(show j-((i+j)/2+1)<j-i by omega),(i+j)/2+1,j,by rw[w64 (by omega) (by omega)];omega,rfl,rfl,by omega,by omega,hj0,hs,.inr ?_,hr⟩;rw[Nat.add_sub_cancel,show d+m-((i+j)/2+1)=d+m-1-(i+j)/2 by omega];exact fun c=>c3 (hcc.2 c)
  .have c3:=Yyn (bT c3);exact⟨_,(show (i+j)/2-i<j-i by omega),i,(i+j)/2,rfl,rfl,rfl,hi0,by omega,by omega,hs,hl,.inr (hcc.1 c3)⟩
 .replace c:=lt_f c;have:j=i:=by omega
  subst this;have hCut:CutI R f a m b j:=by
   refine⟨by rw[hd];omega,fun h1 h2=>?_,fun h1 h2=>?_⟩
   .rw[hd] at h2 ⊢;rcases hl with hl | hl
    .omega
    .exact hl
   .rw[hd] at h2 ⊢;rcases hr with hr | hr
    .omega
    .rw[show d+m-j-1=d+m-1-j by omega];exact hr
  have e6:IntKind.wrap .i64 (((d+m:Nat):Int)-(j:Int))=((d+m-j:Nat):Int):=by rw[w64 (by omega) (by omega)];omega
  rw[e6];obtain⟨L1,L2⟩:=cut_left hX hY hCut;obtain⟨R1,R2⟩:=cut_right hX hY hCut;have fin:=@cut_all R D f;have hrot:=Pm.rot (a:=j) (m:=m) (b:=d+m-j) f (by omega) (by omega);rw[hd] at L1 L2 R1 R2;have rsame:(j=m\/m=d+m-j)->∀t,rotF j m (d+m-j) f t=f t:=fun hc t=>by
   unfold rotF;rcases hc with hc | hc
   .subst hc;by_cases c2:j<=t/\t<j+(d+j-j-j)
    .rw[if_pos c2,Nat.sub_self,Nat.add_zero]
    .rw[if_neg c2,if_neg (by omega)]
   .rw[if_neg (by omega)];by_cases c2:j+(d+m-j-m)<=t/\t<d+m-j
    .rw[if_pos c2];congr 1;omega
    .rw[if_neg c2]
  refine⟨fun h'=>St h0 h' (rwF s N (rotF j m (d+m-j) f)::I),?_,?_⟩
  .have stay:(j=m\/m=d+m-j)->St h0 h86 (rwF s N (rotF j m (d+m-j) f)::I):=fun hc=>by
    rw[show rwF s N (rotF j m (d+m-j) f)=rwF s N f by unfold rwF;rw[fL_ext fun t _=>rsame hc t]];exact hs
   refine sB_intro (fun c2=>?_) (fun c2=>stay ?_)
   .replace c2:=lt_t c2;refine sB_intro (fun c3=>?_) (fun c3=>stay ?_)
    .replace c3:=lt_t c3;refine (rotate239 s N j m (d+m-j) f _ hs c2 c3 (by omega) hN).mono ?_;rintro _ h103 ⟨rfl,hs⟩;exact⟨rfl,hs⟩
    .replace c3:=lt_f c3;omega
   .replace c2:=lt_f c2;omega
  clear hs;rintro-h104 hs;have hD2:=hrot.dom hD;generalize hF:rotF j m (d+m-j) f=F at *;refine⟨fun h'=>∃g,St h0 h' (rwF s N g::I)/\Pm a d F g/\So R g a d,?_,?_⟩
  .have stay:(a=j\/j=d)->So R F a d:=fun hc=>by
    rcases hc with hc | hc
    .rw[hc];exact L2
    .rw[<-hc];exact L1
   refine sB_intro (fun c2=>?_) (fun c2=>⟨F,hs,Pm.refl _ _ _,stay ?_⟩)
   .replace c2:=lt_t c2;refine sB_intro (fun c3=>?_) (fun c3=>⟨F,hs,Pm.refl _ _ _,stay ?_⟩)
    .replace c3:=lt_t c3;refine (ih' a j d F h104 (by omega) c2 c3 (by omega) hD2 L1 L2 hs).mono ?_;rintro _ h107 ⟨rfl,g,hs,hP,hS⟩;exact⟨rfl,g,hs,hP,hS⟩
    .replace c3:=lt_f c3;omega
   .replace c2:=lt_f c2;omega
  clear hs;rintro-h108 ⟨g,hs,hP,hS⟩;have hD3:=hP.dom hD2;have R1':So R g d (d+m-j):=R1.of fun i h1 h2=>hP.out (.inr h1);have R2':So R g (d+m-j) b:=R2.of fun i h1 h2=>hP.out (.inr (by omega));have done:∀ {hZ:Heap} {k:Nat->Int},St h0 hZ (rwF s N k::I)->Pm d b g k->So R k d b->(Value.tuple ⟨[]⟩=.tuple ⟨[]⟩/\∃g,St h0 hZ (rwF s N g::I)/\Pm a b f g/\So R g a b):=fun {hZ k} hs hP2 hS2=>by
   have:=cut_all (k:=k) (g:=g) hW hD hX hY hCut (by rw[hd,hF];exact hP) (by rw[hd];exact hS) (by rw[hd];exact hP2) (by rw[hd];exact hS2);exact⟨rfl,k,hs,this.1,this.2⟩
  have stay:(d=d+m-j\/d+m-j=b)->So R g d b:=fun hc=>by
   rcases hc with hc | hc
   .rw[<-hc] at R2';exact R2'
   .rw[<-hc];exact R1'
  refine sB_intro (fun c2=>?_) (fun c2=>done hs (Pm.refl _ _ _) (stay ?_))
  .replace c2:=lt_t c2;refine sB_intro (fun c3=>?_) (fun c3=>done hs (Pm.refl _ _ _) (stay ?_))
   .replace c3:=lt_t c3;refine (ih' d (d+m-j) b g h108 (by omega) c2 c3 hb hD3 R1' R2' hs).mono ?_;rintro _ h110 ⟨rfl,k,hs,hP2,hS2⟩;exact⟨rfl,done hs hP2 hS2⟩
   .replace c3:=lt_f c3;omega
  .replace c2:=lt_f c2;omega
theorem stable150 {R:Int->Int->Prop} {D:Int->Prop} (hW:Wo R D) (s:Sl) (N:Nat) (fv:Value) (f:Nat->Int) {h0 h:Heap} {I:List It} (hC:CmpOk fv s N I h0 R D) (hN:N<=1048576) (hD:∀i,D (f i)) (hs:St h0 h (rwF s N f::I)) :
  Fn Pz 150 #[.slice s.a s.n s.c,.int .i64 (N:Nat),fv] h fun v h'=>v=.tuple ⟨[]⟩/\∃g,St h0 h' (rwF s N g::I)/\Pm 0 N f g/\So R g 0 N:=by
 apply vc150 s (N:Nat) fv;unfold W150;refine⟨fun x y h' μ=>∃(k:Nat) (g:Nat->Int),x=((20*k:Nat):Int)/\y=((20*k+20:Nat):Int)/\μ=N-20*k/\20*k<=N/\St h0 h' (rwF s N g::I)/\Pm 0 N f g/\∀i,i<k->So R g (20*i) (20*i+20),⟨_,0,f,rfl,rfl,rfl,Nat.zero_le _,hs,Pm.refl _ _ _,fun i hi=>by omega⟩,?_⟩;clear hs;rintro-_ _ h6 μ ⟨k,g,rfl,rfl,rfl,hk,hs,hP,hB⟩;refine sBi (fun c=>?_) (fun c=>?_)
 .refine (insert197 s N (20*k) (20*k+20) g fv hW (hP.dom hD) hC hs (by omega) (by omega) hN).mono ?_;rintro _ h8 ⟨rfl,g',hs,hP',hS'⟩;refine⟨rfl,_,(show N-20*(k+1)<N-20*k by omega),k+1,g',by omega,by rw[w64 (by omega) (by omega)];omega,rfl,by omega,hs,hP.trans (hP'.wide (by omega) (by omega)),fun i hi=>?_⟩;by_cases e:i=k
  .subst e;exact hS'
  .exact (hB i (by omega)).of fun t h1 h2=>hP'.out (.inl (by omega))
 refine (insert197 s N (20*k) N g fv hW (hP.dom hD) hC hs hk (Yyt _) hN).mono ?_;rintro _ h11 ⟨rfl,g1,hs,hP1,hS1⟩;refine⟨rfl,?_⟩;have hB20:∀i,20*i<N->So R g1 (20*i) (min (20*i+20) N):=fun i hi=>by
  rcases Nat.lt_trichotomy i k with e | e | e
  .rw[Nat.min_eq_left (by omega)];exact (hB i e).of fun t h1 h2=>hP1.out (.inl (by omega))
  .subst e;rw[Nat.min_eq_right (by omega)];exact hS1
  .omega
 refine⟨fun x h' μ=>∃(z:Nat) (g:Nat->Int),x=(z:Int)/\μ=N-z/\20<=z/\z<=4194304/\St h0 h' (rwF s N g::I)/\Pm 0 N f g/\∀i,z*i<N->So R g (z*i) (min (z*i+z) N),⟨_,20,g1,rfl,rfl,Yyt _,by decide,hs,hP.trans (hP1.wide (by omega) (by omega)),hB20⟩,?_⟩;clear hs hP hB hP1 hS1 hB20;rintro-_ h16 μ ⟨z,g,rfl,rfl,hz,hz2,hs,hP,hB⟩;refine sBi (fun c2=>?_) (fun c2=>?_)
 .refine⟨fun x y h' μ=>∃(k:Nat) (g:Nat->Int),x=((2*z*k:Nat):Int)/\y=((2*z*k+2*z:Nat):Int)/\μ=N-2*z*k/\2*z*k<=N/\St h0 h' (rwF s N g::I)/\Pm 0 N f g/\(∀i,i<k->So R g (2*z*i) (2*z*i+2*z))/\∀i,2*k<=i->z*i<N->So R g (z*i) (min (z*i+z) N),
   ⟨_,0,g,by rw[Nat.mul_zero];rfl,by rw[Nat.mul_zero,w64 (by omega) (by omega)];omega,rfl,by rw[Nat.mul_zero];exact Nat.zero_le _,hs,hP,fun i hi=>by omega,fun i _=>hB i⟩,?_⟩
  clear hs hP hB;rintro-_ _ h22 μ ⟨k,g,rfl,rfl,rfl,hk,hs,hP,hA,hB⟩;have z2k:z*(2*k)=2*z*k:=by rw[Nat.mul_comm 2 z,Nat.mul_assoc]
  have z2k1:z*(2*k+1)=2*z*k+z:=by rw[Nat.mul_add,Nat.mul_one,z2k]
  have z2k2:z*(2*k+2)=2*z*k+2*z:=by rw[Nat.mul_add,z2k,Nat.mul_comm z 2]
  have nxt:2*z*(k+1)=2*z*k+2*z:=by rw[Nat.mul_add,Nat.mul_one]
  have up:∀ {i j:Nat},i+1<=j->2*z*i+2*z<=2*z*j:=fun {i j} h=>by
   have:=Nat.mul_le_mul_left (2*z) h
   rwa [Nat.mul_add,Nat.mul_one] at this
  have e3:IntKind.wrap .i64 (((2*z*k:Nat):Int)+(z:Int))=((2*z*k+z:Nat):Int):=by rw[w64 (by omega) (by omega)];omega
  rw[e3];have b1:2*z*k+z<=N->So R g (2*z*k) (2*z*k+z):=fun hle=>by
   have:=hB (2*k) (Yyt _) (by rw[z2k];omega);rw[z2k,Nat.min_eq_left (by omega)] at this;exact this
  refine sBi (fun c3=>?_) (fun c3=>?_)
  .have b2:So R g (2*z*k+z) (2*z*k+2*z):=by
    have:=hB (2*k+1) (by omega) (by rw[z2k1];omega);rw[z2k1,Nat.min_eq_left (by omega),show 2*z*k+z+z=2*z*k+2*z by omega] at this;exact this
   refine (merge198 hW s N fv hC hN _ (2*z*k) (2*z*k+z) (2*z*k+2*z) g h22 (Yyt _) (by omega) (by omega) (by omega) (hP.dom hD) (b1 (by omega)) b2 hs).mono ?_;rintro _ h24 ⟨rfl,g',hs,hP',hS'⟩;refine⟨rfl,_,(show N-2*z*(k+1)<N-2*z*k by rw[nxt];omega),k+1,g',by rw[nxt],by rw[nxt,w64 (n:=2*(z:Int)) (by omega) (by omega),w64 (by omega) (by omega)];omega,rfl,by rw[nxt];omega,hs,hP.trans (hP'.wide (by omega) (by omega)),fun i hi=>?_,fun i hi hlt=>?_⟩
   .by_cases e:i=k
    .subst e;exact hS'
    .have:=up (show i+1<=k by omega);exact (hA i (by omega)).of fun t h1 h2=>hP'.out (.inl (by omega))
   .have:=Nat.mul_le_mul_left z (show 2*k+2<=i by omega);rw[z2k2] at this;exact (hB i (by omega) hlt).of fun t h1 h2=>hP'.out (.inr (by omega))
  .have fin:∀ {hZ:Heap} {g':Nat->Int},St h0 hZ (rwF s N g'::I)->Pm 0 N f g'->(∀i,2*z*i<N->So R g' (2*z*i) (min (2*z*i+2*z) N))->∃m29,m29<N-z/\∃(z_1:Nat) (g:Nat->Int),IntKind.wrap .i64 ((z:Int)*2)=(z_1:Int)/\m29=N-z_1/\20<=z_1/\z_1<=4194304/\St h0 hZ (rwF s N g::I)/\Pm 0 N f g/\∀i,z_1*i<N->So R g (z_1*i) (min (z_1*i+z_1) N):=fun {hZ g'} hs hP hq=>
    ⟨_,(show N-2*z<N-z by omega),2*z,g',by rw[w64 (by omega) (by omega)];omega,rfl,by omega,by omega,hs,hP,hq⟩
   refine sBi (fun c4=>?_) (fun c4=>?_)
   .have b2:So R g (2*z*k+z) N:=by
     have:=hB (2*k+1) (by omega) (by rw[z2k1];omega);rw[z2k1,Nat.min_eq_right (by omega)] at this;exact this
    refine (merge198 hW s N fv hC hN _ (2*z*k) (2*z*k+z) N g h22 (Yyt _) (by omega) (by omega) (Yyt _) (hP.dom hD) (b1 (by omega)) b2 hs).mono ?_;rintro _ h27 ⟨rfl,g',hs,hP',hS'⟩;refine⟨rfl,fin hs (hP.trans (hP'.wide (by omega) (by omega))) fun i hi=>?_⟩;rcases Nat.lt_trichotomy i k with e | e | e
    .have:=up (show i+1<=k by omega);rw[Nat.min_eq_left (by omega)];exact (hA i e).of fun t h1 h2=>hP'.out (.inl (by omega))
    .subst e;rw[Nat.min_eq_right (by omega)];exact hS'
    .have:=up (show k+1<=i by omega);omega
   .refine fin hs hP fun i hi=>?_;rcases Nat.lt_trichotomy i k with e | e | e
    .have:=up (show i+1<=k by omega);rw[Nat.min_eq_left (by omega)];exact hA i e
    .subst e;have:=hB (2*i) (Yyt _) (by rw[z2k];omega);rw[z2k,Nat.min_eq_right (by omega)] at this;rw[Nat.min_eq_right (by omega)];exact this
    .have:=up (show k+1<=i by omega);omega
 .refine⟨rfl,g,hs,hP,?_⟩;by_cases e:N=0
  .subst e;exact fun i j _ _ h3=>by omega
  .have:=hB 0 (by rw[Nat.mul_zero];omega);rw[Nat.mul_zero,Nat.zero_add,Nat.min_eq_right (by omega)] at this;exact this
theorem sortStable107 {R:Int->Int->Prop} {D:Int->Prop} (hW:Wo R D) (s:Sl) (N:Nat) (fv:Value) (f:Nat->Int) {h0 h:Heap} {I:List It} (hC:CmpOk fv s N I h0 R D) (hN:N<=1048576) (hD:∀i,D (f i)) (hs:St h0 h (rwF s N f::I)) :
  Fn Pz 107 #[.slice s.a s.n s.c,fv] h fun v h'=>v=.tuple ⟨[]⟩/\∃g,St h0 h' (rwF s N g::I)/\Pm 0 N f g/\So R g 0 N:=by
 apply vc107 s fv;unfold W107;rw[show (s.n:Int)=((N:Nat):Int) by rw[rwF.n hs]];refine (stable150 hW s N fv f hC hN hD hs).mono ?_;rintro _ h2 ⟨rfl,hq⟩;exact⟨rfl,rfl,hq⟩
theorem sm_two {h h1 h2:Heap} {al:List Addr} (E1:Ext h h1) (E2:Ext h h2) (ha:∀a∈al,a.block<h.size):Sm al h1 h2:=fun a hm k v hv=>by
 have hb:=ha a hm;have e:h2[(addk a k).block]?=h1[(addk a k).block]?:=by rw[addk_block',E1.2 _ hb,E2.2 _ hb]
 rw[hc_of_block e];exact hv
def edLt (g:Gl) (x y:Int):Prop:=∃p q,g.es[x.toNat]?=some p/\g.es[y.toNat]?=some q/\(p.b<q.b\/(p.b=q.b/\p.l<q.l))
def edD (g:Gl) (x:Int):Prop:=g.es=[]\/(0<=x/\x<(g.es.length:Nat))
theorem edLt_iff {g:Gl} {x y:Int} {p q:Ed} (hp:g.es[x.toNat]?=some p) (hq:g.es[y.toNat]?=some q):edLt g x y ↔ (p.b<q.b\/(p.b=q.b/\p.l<q.l)):=by
 constructor
 .rintro⟨p',q',h1,h2,h3⟩;rw[hp] at h1;rw[hq] at h2;cases h1;cases h2;exact h3
 .exact fun h=>⟨p,q,hp,hq,h⟩
theorem edLt_nil {g:Gl} {x y:Int} (h:g.es=[]):¬edLt g x y:=by
 rintro⟨p,q,h1,_⟩;rw[h] at h1;cases h1
theorem edD_get {g:Gl} {x:Int} (h:edD g x) (hn:g.es≠[]):∃p,g.es[x.toNat]?=some p:=by
 rcases h with h | h
 .exact absurd h hn
 .exact get_some (by omega)
theorem wo_ed (g:Gl):Wo (edLt g) (edD g):=by
 by_cases hn:g.es=[]
 .exact⟨fun _ _ _ _ _ _ _ _=>edLt_nil hn,fun _ _ _ _ _=>edLt_nil hn⟩
 .refine⟨fun x y z hx hy hz h1 h2=>?_,fun x y hx hy h1=>?_⟩
  .obtain⟨p,gp⟩:=edD_get hx hn;obtain⟨q,gq⟩:=edD_get hy hn;obtain⟨r,gr⟩:=edD_get hz hn;rw[edLt_iff gq gp] at h1;rw[edLt_iff gr gq] at h2;rw[edLt_iff gr gp];omega
  .obtain⟨p,gp⟩:=edD_get hx hn;obtain⟨q,gq⟩:=edD_get hy hn;rw[edLt_iff gp gq] at h1;rw[edLt_iff gq gp];omega
theorem cmpI_lt {p q:Ed}:orI3 (cmpI p.b q.b) (orI3 (cmpI p.l q.l) 0)<0 ↔ (p.b<q.b\/(p.b=q.b/\p.l<q.l)):=by
 unfold orI3 cmpI
 repeat' split
 all_goals omega
theorem cmp108 (g:Gl) (b:Nat) (x y:Int) {h:Heap} (hg:GI h g) (hb:atC h ⟨b,0,none⟩ g.cs) (hx:0<=x/\x<(g.es.length:Nat)) (hy:0<=y/\y<(g.es.length:Nat)) :
  Fn Pz 108 #[.int .i64 x,.int .i64 y,.pointer (some ⟨b,0,none⟩)] h fun v h'=>∃c:Int,v=.int .i64 c/\Ext h h'/\(c<0 ↔ edLt g x y):=by
 apply vc108 x y ⟨b,0,none⟩;unfold W108 V108a;have hen:=hg.e.ln;have h6:hc h ⟨b,0+6,none⟩=some (.slice g.he.a g.he.n g.he.c):=hb.nth 6 rfl;have l0:b<h.size:=hc_lt h6;refine⟨g.he,h6,?_⟩;refine hg.e.rw.nbI (by omega) (by omega) fun b2 o3 p gp t=>⟨p.a,p.b,p.l,t.sub 1 3 rfl,g.he,h6,?_⟩;refine hg.e.rw.nbI (by omega) (by omega) fun b8 o9 q gq t2=>⟨q.a,q.b,q.l,t2.sub 1 3 rfl,?_⟩;have l1:b2<h.size:=hc_lt (t.nth 1 rfl);have l2:b8<h.size:=hc_lt (t2.nth 1 rfl);have a4:∀a∈[(⟨b8,o9+Int.toNat y*6+1,none⟩:Addr),⟨b,0+6,none⟩,⟨b2,o3+Int.toNat x*6+1,none⟩,⟨b,0+6,none⟩],a.block<h.size:=fun a ha=>by
  rcases Yr.1 ha with rfl | ha
  .exact l2
  rcases Yr.1 ha with rfl | ha
  .exact l0
  rcases Yr.1 ha with rfl | ha
  .exact l1
  rw[Ye.1 ha];exact l0
 have a2:∀a∈[(⟨b8,o9+Int.toNat y*6+1,none⟩:Addr),⟨b,0+6,none⟩],a.block<h.size:=fun a ha=>by
  rcases Yr.1 ha with rfl | ha
  .exact l2
  rw[Ye.1 ha];exact l0
 have hR:=edLt_iff gp gq;refine⟨?_,?_⟩
 .refine (St.refl h).newb fun h13 hs=>⟨hs.ext.sm,?_⟩;have E13:=hs.ext;refine hs.newb fun h14 hs=>⟨sm_two E13 hs.ext a4,?_⟩;have E14:=hs.ext;refine hs.put 1 rfl (o:=0) (vs:=[.int .i64 p.a,.int .i64 p.b,.int .i64 p.l]) rfl (Yyt 3) fun h15 hs=>⟨sm_two E14 hs.ext a2,?_⟩;refine hs.put 0 rfl (o:=0) (vs:=[.int .i64 q.a,.int .i64 q.b,.int .i64 q.l]) rfl (Yyt 3) fun h16 hs=>?_;refine⟨p.b,hs.rd 1 rfl (i:=1) rfl,q.b,hs.rd 0 rfl (i:=1) rfl,p.l,hs.rd 1 rfl (i:=2) rfl,q.l,hs.rd 0 rfl (i:=2) rfl,?_⟩;refine (cmp110 _ _ _).mono ?_;rintro _ _ ⟨rfl,rfl⟩;refine⟨_,rfl,Ext.sm .rfl',?_⟩;refine (cmp110 _ _ _).mono ?_;rintro _ _ ⟨rfl,rfl⟩;refine⟨_,rfl,Ext.sm .rfl',?_⟩;refine hs.newb fun h27 hs=>?_;have hs:=hs.blkS 2 1 ([cmpI p.b q.b,cmpI p.l q.l].map inC) rfl (inrows _) rfl (by decide);refine (or109 [cmpI p.b q.b,cmpI p.l q.l] _ h27 (hs.rows 0 rfl (by decide)) (show 2<=1048576 by decide)).mono ?_;rintro _ _ ⟨rfl,rfl⟩;exact⟨_,rfl,_,rfl,hs.ext,cmpI_lt.trans hR.symm⟩
 .refine (St.refl h).newb fun h31 hs=>⟨hs.ext.sm,?_⟩;have E13:=hs.ext;refine hs.newb fun h32 hs=>⟨sm_two E13 hs.ext a4,?_⟩;have E14:=hs.ext;refine hs.put 0 rfl (o:=0) (vs:=[.int .i64 p.a,.int .i64 p.b,.int .i64 p.l]) rfl (Yyt 3) fun h33 hs=>⟨sm_two E14 hs.ext a2,?_⟩;refine hs.put 1 rfl (o:=0) (vs:=[.int .i64 q.a,.int .i64 q.b,.int .i64 q.l]) rfl (Yyt 3) fun h34 hs=>?_;refine⟨p.b,hs.rd 0 rfl (i:=1) rfl,q.b,hs.rd 1 rfl (i:=1) rfl,p.l,hs.rd 0 rfl (i:=2) rfl,q.l,hs.rd 1 rfl (i:=2) rfl,?_⟩;refine (cmp110 _ _ _).mono ?_;rintro _ _ ⟨rfl,rfl⟩;refine⟨_,rfl,Ext.sm .rfl',?_⟩;refine (cmp110 _ _ _).mono ?_;rintro _ _ ⟨rfl,rfl⟩;refine⟨_,rfl,Ext.sm .rfl',?_⟩;refine hs.newb fun h45 hs=>?_;have hs:=hs.blkS 2 1 ([cmpI p.b q.b,cmpI p.l q.l].map inC) rfl (inrows _) rfl (by decide);refine (or109 [cmpI p.b q.b,cmpI p.l q.l] _ h45 (hs.rows 0 rfl (by decide)) (show 2<=1048576 by decide)).mono ?_;rintro _ _ ⟨rfl,rfl⟩;exact⟨_,rfl,_,rfl,hs.ext,cmpI_lt.trans hR.symm⟩
theorem call108:callable Pz 108=true:=by kernel_rfl
theorem natI_dom {g:Gl} {O:List Nat} (h:∀n∈O,n<g.es.length) (i:Nat):edD g ((natI O).getD i 0):=by
 by_cases hn:g.es=[]
 .exact .inl hn
 .have hpos:0<g.es.length:=List.length_pos_iff.2 hn;refine .inr ?_;rw[Yo];cases hc:(natI O)[i]? with
  | none=>show 0<=(0:Int)/\(0:Int)<_;omega
  | some d=>
   obtain⟨c,gc,rfl⟩:=natI_get hc;have:=h c (Yb gc);show 0<=((c:Nat):Int)/\((c:Nat):Int)<_;omega
theorem edges63 (g:Gl) (st:Int) (h:Heap) (hg:GI h g):Fn Pz 63 #[g.v,.int .i64 st] h fun v h'=>∃(r:Sl) (O:List Nat),v=.slice r.a r.n r.c/\St h h' [.sl r 3 1 ((natI O).map inC)]/\O.Perm (outG g.es st)/\O.Pairwise fun (i j:Nat)=>¬edLt g (j:Int) (i:Int):=by
 apply vc63 (bs g.nm) g.hr g.hd g.n g.s g.e g.he g.ht;unfold W63;have hen:=hg.e.ln;have hem:=hg.e.sm;refine (St.refl h).newb fun h9 hs=>?_;refine⟨g.he,hs.rd 0 rfl (i:=6) rfl,?_⟩;have hs:=hs.nil_ 3 1;refine up_loopA (n:=g.he.n) hs (fun i rows=>rows=(natI ((List.range i).filter (outGP g.es st))).map inC) rfl ?_;clear hs;rintro-i out h15 rows hi hs rfl;have hocap:=hs.len 0 (s:=out) (e:=3) (n:=1) rfl (by omega);rw[Yc,show (natI ((List.range i).filter (outGP g.es st))).length=((List.range i).filter (outGP g.es st)).length from Yc _] at hocap;have hol:((List.range i).filter (outGP g.es st)).length<=i:=Yys (List.length_filter_le _ _) (by rw[Yyd];exact Yyt _);refine sBi (fun c=>?_) (fun c=>?_)
 .refine (hg.e.rw.ext hs.ext).nbI (by omega) (by omega) fun b o x gx t=>?_;replace gx:g.es[i]?=some x:=gx;have hrs:(List.range (i+1)).filter (outGP g.es st)=if x.f=st then (List.range i).filter (outGP g.es st)++[i] else (List.range i).filter (outGP g.es st):=by
   rw[List.range_succ,List.filter_append];have hp:outGP g.es st i=decide (x.f=st):=by unfold outGP;rw[gx]
   by_cases e:x.f=st
   .rw[if_pos e,List.filter_cons_of_pos (by rw[hp];exact decide_eq_true e)];rfl
   .rw[if_neg e,List.filter_cons_of_neg (by rw[hp,decide_eq_false e];simp)];simp
  refine⟨x.f,x.a,x.b,x.l,x.t,x.ag,t,?_⟩;refine hs.newput (vs:=x.cs) rfl rfl fun h26 hs=>?_;refine⟨x.f,hs.rd 0 rfl (i:=0) rfl,sBe (fun c2=>?_) (fun c2=>?_)⟩
  .have hs:=hs.drop 1;refine hs.app 0 rfl app42 (m:=1) [inC (i:Int)] rfl rfl (fun r hr=>by rw[Ye] at hr;rw[hr];rfl) rfl (by omega) (by simp only[maxLen];omega) fun r h27 ns hs=>?_;refine UpA.next (by omega) (by omega) ⟨_,hs,?_⟩;rw[hrs,if_pos c2,natI_snoc,Ym];rfl
  .exact UpA.next (by omega) (by omega) ⟨_,hs.drop 1,by rw[hrs,if_neg c2]⟩
 .have hie:i=g.es.length:=by omega
  subst hie;have hO:(List.range g.es.length).filter (outGP g.es st)=outG g.es st:=rfl;rw[hO] at hs hol;have hlt:∀n∈outG g.es st,n<g.es.length:=fun n hn=>by
   obtain⟨x,gx,_⟩:=outG_mem.1 hn;exact (Ya.1 gx).1
  have hNl:(natI (outG g.es st)).length=(outG g.es st).length:=Yc _;have hf:=fL_of (natI (outG g.es st));have hs:St h h15 (rwF out (natI (outG g.es st)).length (fun i=>(natI (outG g.es st)).getD i 0)::[.blk h.size g.cs 27]):=by
   unfold rwF;rw[<-hf];exact hs
  refine (sortStable107 (wo_ed g) out _ (.func (.func 108) #[] #[.pointer (some ⟨h.size,0,none⟩)]) _ ⟨108,#[],#[.pointer (some ⟨h.size,0,none⟩)],rfl,call108,fun h1 k x y dx dy hN hs1=>?_⟩ (by omega) (natI_dom hlt) hs).mono ?_
  .have hne:g.es≠[]:=fun e=>by
    rw[hNl] at hN;have h2:g.es.length=0:=by rw[e];rfl
    omega
   rcases dx with dx | dx
   .exact absurd dx hne
   rcases dy with dy | dy
   .exact absurd dy hne
   exact cmp108 g h.size x y (hg.ext hs1.ext) (hs1.at 1 rfl (o:=0) (n:=8) rfl) dx dy
  rintro _ h34 ⟨rfl,k,hs,hP,hS⟩;have hperm:=hP.perm (Yyt _);rw[<-hf] at hperm;have hnat:∀x∈fL (natI (outG g.es st)).length k,0<=x:=fun x hx=>by
   have:=hperm.subset hx;obtain⟨c,_,rfl⟩:=Yp.1 this;omega
  have hback:natI ((fL (natI (outG g.es st)).length k).map Int.toNat)=fL (natI (outG g.es st)).length k:=by
   unfold natI;rw[List.map_map]
   conv=>rhs;rw[<-List.map_id (fL _ k)]
   refine List.map_congr_left fun x hx=>?_;have:=hnat x hx;show ((x.toNat:Nat):Int)=x;omega
  refine⟨rfl,out,(fL (natI (outG g.es st)).length k).map Int.toNat,rfl,?_,?_,?_⟩
  .rw[hback];exact hs.sub (.cons_cons _ (List.nil_sublist _))
  .have h1:=hperm.map Int.toNat;have e:(natI (outG g.es st)).map Int.toNat=outG g.es st:=by
    unfold natI;rw[List.map_map]
    conv=>rhs;rw[<-List.map_id (outG g.es st)]
    exact List.map_congr_left fun n _=>rfl
   rw[e] at h1;exact h1
  .rw[List.pairwise_map];refine List.pairwise_iff_getElem.2 fun i j hi hj hij=>?_;rw[fL_len] at hi hj;have ei:(fL (natI (outG g.es st)).length k)[i]'(by rw[fL_len];exact hi)=k i:=Yyp (by rw[<-Yi,fL_get hi]);have ej:(fL (natI (outG g.es st)).length k)[j]'(by rw[fL_len];exact hj)=k j:=Yyp (by rw[<-Yi,fL_get hj]);rw[ei,ej];have n1:=hnat (k i) (fL_mem.2 ⟨i,hi,rfl⟩);have n2:=hnat (k j) (fL_mem.2 ⟨j,hj,rfl⟩);rw[show ((Int.toNat (k j):Nat):Int)=k j by omega,show ((Int.toNat (k i):Nat):Int)=k i by omega];exact hS i j (Nat.zero_le _) hij hj
theorem app22k:appB Pz 22 9 1 16=true:=by kernel_rfl
theorem app132k:appB Pz 132 189 2 16=true:=by kernel_rfl
theorem app23k:appB Pz 23 136 5 96=true:=by kernel_rfl
theorem cloneC {α:Type} {t e:TypeId} {n bytes:Nat} {cs:α->List Value} {L:List α} {s:Sl} {h:Heap} (hr:RL h n s cs L) (hT:appB Pz t e n bytes=true) (hrow:∀r∈L.map cs,r.length=n) (hone:(L.map cs).flatten.all oneB=true) (hn:0<n) (hb:bytes<=96)
  {R:Value->Heap->Prop} (hR:∀(r:Sl) (h':Heap),St h h' [.sl r e n (L.map cs)]->R (.slice r.a r.n r.c) h') :
  sB (Option.isNone s.a) (R (.slice none 0 0) h) (∀h1:Heap,h1=h.push (.cells ⟨[]⟩ e)->App Pz t t (.slice (some ⟨h.size,0,none⟩) 0 0) (.slice s.a s.n s.c) h1 fun s2 h3=>R (.slice s2.a s2.n s2.c) h3):=by
 have hln:=hr.ln;have hsm:=hr.sm;refine sB_intro (fun c=>?_) (fun c=>?_)
 .have hna:s.a=none:=by
   cases ha:s.a with
   | none=>rfl
   | some a=>rw[ha] at c;cases c
  have h0:=(hr.nil hna).1;have hL:L=[]:=List.length_eq_zero_iff.1 (by omega);refine hR ⟨none,0,0⟩ h ?_;rw[hL];exact (St.refl h).nil_ e n
 .refine (St.refl h).newb fun h1 hs=>?_;have hs:=hs.blkS 0 n [] rfl (fun r hr=>by cases hr) rfl (Nat.zero_le _);refine hs.appRw 0 rfl hT (hr.ext hs.ext).rw hrow hr.nil hone ?_ (by show 0+s.n<=_;simp only[maxLen];omega) fun r h3 _ hs2=>hR r h3 hs2;have h1:(0+s.n)*bytes<=1048576*96:=Nat.mul_le_mul (by omega) hb;exact Yys h1 (by decide)
theorem nmrowsK (L:List Nm):∀r∈L.map nmC,r.length=1:=fun r hr=>by obtain⟨x,_,rfl⟩:=Yp.1 hr;rfl
theorem eqrows (L:List Eqs):∀r∈L.map Eqs.cs,r.length=2:=fun r hr=>by obtain⟨x,_,rfl⟩:=Yp.1 hr;rfl
theorem clone102 (L:List Nm) (s:Sl) (h:Heap) (hr:RL h 1 s nmC L):Fn Pz 102 #[.slice s.a s.n s.c] h fun v h'=>∃r:Sl,v=.slice r.a r.n r.c/\St h h' [.sl r 9 1 (L.map nmC)]:=by
 apply vc102 s;unfold W102;exact cloneC (R:=fun v h'=>∃r:Sl,v=.slice r.a r.n r.c/\St h h' [.sl r 9 1 (L.map nmC)]) hr app22k (nmrowsK _) (one_of (fun _=>rfl) _) (by decide) (by decide) fun r h' hs=>⟨r,rfl,hs⟩
theorem clone103 (L:List Fld) (s:Sl) (h:Heap) (hr:RL h 4 s Fld.cs L):Fn Pz 103 #[.slice s.a s.n s.c] h fun v h'=>∃r:Sl,v=.slice r.a r.n r.c/\St h h' [.sl r 184 4 (L.map Fld.cs)]:=by
 apply vc103 s;unfold W103;exact cloneC (R:=fun v h'=>∃r:Sl,v=.slice r.a r.n r.c/\St h h' [.sl r 184 4 (L.map Fld.cs)]) hr app130 (fldrows _) (one_of (fun _=>rfl) _) (by decide) (by decide) fun r h' hs=>⟨r,rfl,hs⟩
theorem clone104 (L:List Df) (s:Sl) (h:Heap) (hr:RL h 3 s Df.cs L):Fn Pz 104 #[.slice s.a s.n s.c] h fun v h'=>∃r:Sl,v=.slice r.a r.n r.c/\St h h' [.sl r 187 3 (L.map Df.cs)]:=by
 apply vc104 s;unfold W104;exact cloneC (R:=fun v h'=>∃r:Sl,v=.slice r.a r.n r.c/\St h h' [.sl r 187 3 (L.map Df.cs)]) hr app131 (dfrows _) (one_of (fun _=>rfl) _) (by decide) (by decide) fun r h' hs=>⟨r,rfl,hs⟩
theorem clone105 (L:List Eqs) (s:Sl) (h:Heap) (hr:RL h 2 s Eqs.cs L):Fn Pz 105 #[.slice s.a s.n s.c] h fun v h'=>∃r:Sl,v=.slice r.a r.n r.c/\St h h' [.sl r 189 2 (L.map Eqs.cs)]:=by
 apply vc105 s;unfold W105;exact cloneC (R:=fun v h'=>∃r:Sl,v=.slice r.a r.n r.c/\St h h' [.sl r 189 2 (L.map Eqs.cs)]) hr app132k (eqrows _) (one_of (fun _=>rfl) _) (by decide) (by decide) fun r h' hs=>⟨r,rfl,hs⟩
theorem St.appg {h0 h h2:Heap} {L:List It} (hs:St h0 h L) (kb ks:Nat) {cb:Nat} {xs:List Value} {e0 t e:TypeId} {n bytes:Nat} {α:Type} {cs:α->List Value} {so:Sl} {X:List α} {x:α} (hkb:L[kb]?=some (.blk cb xs e0)) (hks:L[ks]?=some (.sl so e n (X.map cs)))
  (hT:appB Pz t e n bytes=true) (e2:h2=h.push (.cells ⟨cs x⟩ e)) (hc:(cs x).length=n) (ho:(cs x).all oneB=true) (hn:X.length<=1048576) (hnb:0<n/\bytes<=128) (f:Nat) (hf:f<xs.length) (hne:ks≠kb) {K:Heap->Prop}
  (hK:∀(s':Sl) (h':Heap),St h0 h' ((L.set ks (.sl s' e n ((X++[x]).map cs))).set kb (.blk cb (splice xs f [.slice s'.a s'.n s'.c]) e0))->K h') :
  App Pz t t (.slice so.a so.n so.c) (.slice (some ⟨h.size,0,none⟩) 1 1) h2 fun s55 h56=>okAt h56 ⟨cb,f,none⟩ 1/\∀h57:Heap,h57=hputs h56 ⟨cb,f,none⟩ 0 [.slice s55.a s55.n s55.c]->K h57:=by
 have hs2:St h0 h2 (.blk h.size (cs x) e::L):=hs.newb (K:=fun h2=>St h0 h2 (.blk h.size (cs x) e::L)) (fun _ h=>h) h2 e2;have hl:=(hs.len ks (s:=so) hks hnb.1).1;rw[Yc] at hl;have hb1:(so.n+1)*bytes<=1048577*128:=Nat.mul_le_mul (by omega) hnb.2;refine hs2.appended (ks+1) (s:=so) hks hT (x:=⟨h.size,0,none⟩) (m:=1) (c:=1) (news:=[cs x]) (hs2.at 0 rfl (o:=0) (n:=n) (by rw[List.drop_zero,<-hc,Yye];simp)) rfl (by intro r hr;rw[Ye.1 hr];exact hc) (by simpa using ho) (by omega) (by simp only[maxLen];omega) fun s55 h56 n55 hs3=>?_;have hs3:St h0 h56 (L.set ks (.sl s55 e n (X.map cs++[cs x]))):=hs3.drop 1;refine hs3.put kb (by rw[Yy hne];exact hkb) (o:=f) (vs:=[.slice s55.a s55.n s55.c]) rfl (by show f+1<=xs.length;omega) fun h57 hs4=>hK s55 h57 ?_;rw[Ym];exact hs4
def DcSm (d c:Dc):Prop:=c.nm=d.nm/\c.first=d.first/\c.fs=d.fs/\c.ds=d.ds/\c.es=d.es
def dItems (d:Dc):List It:=[.sl d.hf 184 4 (d.fs.map Fld.cs),.sl d.hd 187 3 (d.ds.map Df.cs),.sl d.he 189 2 (d.es.map Eqs.cs)]
def z8:List Value:=[.string ⟨#[]⟩,.slice none 0 0,.slice none 0 0,.int .i64 0,.int .i64 0,.int .i64 0,.slice none 0 0,.slice none 0 0]
def o8 (g:Gl) (r hd:Sl):List Value:=[.string (bs g.nm),.slice r.a r.n r.c,.slice hd.a hd.n hd.c,.int .i64 0,.int .i64 0,.int .i64 0,.slice none 0 0,.slice none 0 0]
def CpR (g:Gl) (h:Heap) (v:Value) (h':Heap):Prop:=∃(r hd:Sl) (D:List Dc) (A:List It),v=.agg ⟨o8 g r hd⟩/\St h h' (.sl hd 136 5 (D.map Dc.cs) :: .sl r 9 1 (g.rs.map nmC)::A)/\D.length=g.ds.length/\(∀(i:Nat) d c,g.ds[i]?=some d->D[i]?=some c->DcSm d c)/\∀d∈D,∀x∈dItems d,x∈A
abbrev cpS (ob rb gb:Nat) (g:Gl) (r hd:Sl) (D:List Dc) (A:List It):List It:=
 .sl hd 136 5 (D.map Dc.cs) :: .blk ob (o8 g r hd) 27 :: .blk rb z8 27 :: .blk gb g.cs 27 :: .sl r 9 1 (g.rs.map nmC)::A
theorem copyIn59 (g:Gl) (r:Sl) {h h9 h15 h16:Heap} (hg:GI h g) (hs:St h h16 [.blk h15.size z8 27,.blk h9.size z8 27,.blk h.size g.cs 27,.sl r 9 1 (g.rs.map nmC)]):V59a h16 h15 (bs g.nm) r h h9 (CpR g h):=by
 unfold V59a;have hdn:=hg.d.r.ln;have hdm:=hg.d.r.sm;refine hs.put 0 rfl (o:=0) (vs:=o8 g r ⟨none,0,0⟩) rfl (show 8<=8 by decide) fun h17 hs=>?_;have hs:St h h17 (cpS h15.size h9.size h.size g r ⟨none,0,0⟩ [] []):=hs.nil_ 136 5;refine⟨g.hd,hs.rd 3 rfl (i:=2) rfl,?_⟩;refine up_loop (n:=g.hd.n) (fun i h'=>∃(hd:Sl) (D:List Dc) (A:List It),St h h' (cpS h15.size h9.size h.size g r hd D A)/\D.length=i/\(∀(j:Nat) d c,g.ds[j]?=some d->D[j]?=some c->DcSm d c)/\∀d∈D,∀x∈dItems d,x∈A) ⟨_,[],[],hs,rfl,fun j d c _ hc=>(by cases hc),fun d hd=>(by cases hd)⟩ ?_;clear hs;rintro-i h23 hi ⟨hd,D,A,hs,hD,hS,hA⟩;refine sB_intro (fun c=>?_) (fun c=>?_)
 .replace c:=lt_t c;refine (hg.d.r.ext hs.ext).rw.nbI (by omega) (by omega) fun b o d gd t=>?_;replace gd:g.ds[i]?=some d:=gd;have hdI:=hg.d.i d (Yb gd);refine⟨bs d.nm,d.hf,d.first,d.hd,d.he,t,?_⟩;refine hs.newput (vs:=d.cs) rfl rfl fun h32 hs=>?_;refine⟨d.hf,hs.rd 0 rfl (i:=1) rfl,?_⟩;refine (clone103 d.fs d.hf h32 (hdI.pf.ext hs.ext)).mono ?_;rintro _ h36 ⟨f',rfl,h1⟩;have hs:=hs.join h1;refine⟨f',rfl,?_⟩;refine hs.put 0 rfl (o:=1) (vs:=[.slice f'.a f'.n f'.c]) rfl (show 2<=5 by decide) fun h37 hs=>?_;refine⟨d.hd,hs.rd 0 rfl (i:=3) rfl,d.he,hs.rd 0 rfl (i:=4) rfl,?_⟩;refine (clone104 d.ds d.hd h37 (hdI.pd.ext hs.ext)).mono ?_;rintro _ h42 ⟨d',rfl,h2⟩;refine⟨d',rfl,h2.ext.sm,?_⟩;have hs:=hs.join h2;refine (clone105 d.es d.he h42 (hdI.pe.ext hs.ext)).mono ?_;rintro _ h45 ⟨e',rfl,h3⟩;refine⟨e',rfl,h3.ext.sm,?_⟩;have hs:=hs.join h3;refine hs.put 0 rfl (o:=3) (vs:=[.slice d'.a d'.n d'.c,.slice e'.a e'.n e'.c]) rfl (show 5<=5 by decide) fun h46 hs=>?_;refine⟨hd,hs.rd 2 rfl (i:=2) rfl,bs d.nm,f',d.first,d',e',hs.at 0 rfl (o:=0) (n:=5) rfl,fun h53 e53=>?_⟩;refine hs.appg 2 1 rfl rfl (cs:=Dc.cs) (x:=⟨d.nm,f',d.first,d',e',d.fs,d.ds,d.es⟩) app23k e53 rfl rfl (by omega) (by decide) 2 (show 2<8 by decide) (by decide) fun hd' h56 hs=>?_;have hs:St h h56 (cpS h15.size h9.size h.size g r hd' (D++[(⟨d.nm,f',d.first,d',e',d.fs,d.ds,d.es⟩:Dc)]) (A++[It.sl f' 184 4 (d.fs.map Fld.cs)]++[It.sl d' 187 3 (d.ds.map Df.cs)]++[It.sl e' 189 2 (d.es.map Eqs.cs)])):=hs.drop 1;refine Up.next c (by omega) ⟨hd',_,_,hs,by rw[Yh,hD];rfl,fun j x y gx gy=>?_,fun x hx y hy=>?_⟩
  .by_cases e:j=i
   .subst e;rw[gd] at gx;cases gx;rw[Yyc (by omega),hD,Nat.sub_self] at gy;cases gy;exact⟨rfl,rfl,rfl,rfl,rfl⟩
   .have hj:j<D.length:=by
     have:=(Ya.1 gy).1;rw[Yh] at this;have e1:([(⟨d.nm,f',d.first,d',e',d.fs,d.ds,d.es⟩:Dc)]).length=1:=rfl;omega
    rw[Yyi hj] at gy;exact hS j x y gx gy
  .rcases Yk.1 hx with hx | hx
   .have:=hA x hx y hy;simp only[Yk];exact .inl (.inl (.inl this))
   .rw[Ye.1 hx] at hy;unfold dItems at hy;simp only[Yk];rcases Yr.1 hy with rfl | hy
    .exact .inl (.inl (.inr (Ye.2 rfl)))
    rcases Yr.1 hy with rfl | hy
    .exact .inl (.inr (Ye.2 rfl))
    rw[Ye.1 hy];exact .inr (Ye.2 rfl)
 .replace c:=lt_f c;refine⟨bs g.nm,r,hd,0,0,0,⟨none,0,0⟩,⟨none,0,0⟩,hs.at 1 rfl (o:=0) (n:=8) rfl,?_⟩;refine hs.put 2 rfl (o:=0) (vs:=o8 g r hd) rfl (show 8<=8 by decide) fun h66 hs=>?_;refine⟨bs g.nm,r,hd,0,0,0,⟨none,0,0⟩,⟨none,0,0⟩,hs.at 2 rfl (o:=0) (n:=8) rfl,r,hd,D,A,rfl,?_,by omega,hS,hA⟩;refine hs.sub (.cons_cons _ (.cons _ (.cons _ (.cons _ (.cons_cons _ (List.Sublist.refl _))))))
theorem copied59 (g:Gl) (h:Heap) (hg:GI h g):Fn Pz 59 #[g.v] h (CpR g h):=by
 apply vc59 (bs g.nm) g.hr g.hd g.n g.s g.e g.he g.ht;unfold W59;refine (St.refl h).newb fun h9 hs=>?_;refine hs.newb fun h10 hs=>?_;refine⟨bs g.nm,hs.rd 1 rfl (i:=0) rfl,g.hr,hs.rd 1 rfl (i:=1) rfl,?_,?_⟩
 .refine (clone102 g.rs g.hr h10 (hg.r.ext hs.ext)).mono ?_;rintro _ h15 ⟨r,rfl,h1⟩;refine⟨r,rfl,h1.ext.sm,?_⟩;have hs:=hs.join h1;intro h16 e16;have hx:St h15 h16 [.blk h15.size z8 27]:=(St.refl h15).newb (K:=fun h2=>St h15 h2 [.blk h15.size z8 27]) (fun _ h=>h) h16 e16;exact⟨hx.ext.sm,copyIn59 g r hg ((hs.join hx).perm List.perm_append_comm)⟩
 .intro h75 e75;have hx:St h10 h75 [.blk h10.size z8 27]:=(St.refl h10).newb (K:=fun h2=>St h10 h2 [.blk h10.size z8 27]) (fun _ h=>h) h75 e75;refine⟨hx.ext.sm,?_⟩;have hs:=(hs.join hx).perm List.perm_append_comm;refine (clone102 g.rs g.hr h75 (hg.r.ext hs.ext)).mono ?_;rintro _ h78 ⟨r,rfl,h1⟩;exact⟨r,rfl,h1.ext.sm,copyIn59 g r hg (hs.join h1)⟩
end Go.VC
end

section
namespace Go.VC
open Go.LexS
def ed0:Ed:=⟨0,0,0,0,0,false⟩
def gE (g:Gl) (e:Nat):Ed:=g.es.getD e ed0
theorem gE_of {g:Gl} {e:Nat} {x:Ed} (h:g.es[e]?=some x):gE g e=x:=by unfold gE;rw[Yo,h];rfl
def nv (num:List Int) (v:Int):Int:=num.getD v.toNat (-1)
theorem nv_of {num:List Int} {v d:Int} (h:num[v.toNat]?=some d):nv num v=d:=by unfold nv;rw[Yo,h];rfl
def mE (g:Gl) (num:List Int) (e:Nat):Ed:=⟨nv num (gE g e).f,(gE g e).a,(gE g e).b,(gE g e).l,nv num (gE g e).t,(gE g e).ag⟩
structure NuI (n:Nat) (ord:List Nat) (num:List Int):Prop where
 ln:num.length=n
 a:∀(i s:Nat),ord[i]?=some s->num[s]?=some (i:Int)
 b:∀(s:Nat) v,num[s]?=some v->v=-1\/∃i:Nat,v=(i:Int)/\ord[i]?=some s
theorem NuI.lt {n:Nat} {ord:List Nat} {num:List Int} (h:NuI n ord num) {s:Nat} (hs:s∈ord):s<n:=by
 obtain⟨i,hi⟩:=Yf.1 hs;have:=(Ya.1 (h.a i s hi)).1;rw[h.ln] at this;exact this
theorem NuI.nd {n:Nat} {ord:List Nat} {num:List Int} (h:NuI n ord num):ord.Nodup:=by
 refine List.pairwise_iff_getElem.2 fun i j hi hj hij e=>?_;have h1:=h.a i _ (Yi hi);have h2:=h.a j _ (Yi hj);rw[e,h2] at h1;have:=Yyp h1;omega
theorem nodup_lek:∀(n:Nat) (l:List Nat),l.Nodup->(∀x∈l,x<n)->l.length<=n
 | 0,l,_,h=>by
  cases l with
  | nil=>exact Yyt _
  | cons a l=>have:=h a Yx;omega
 | n+1,l,hn,h=>by
  by_cases hm:n∈l
  .have h1:=nodup_lek n (l.erase n) (hn.erase n) fun x hx=>by
    have:=(hn.mem_erase_iff).1 hx;have h2:=h x this.2;have h3:x≠n:=this.1;omega
   rw[List.length_erase_of_mem hm] at h1;omega
  .have h1:=nodup_lek n l hn fun x hx=>by
    have h2:=h x hx;have h3:x≠n:=fun e=>hm (e ▸ hx);omega
   omega
theorem NuI.len {n:Nat} {ord:List Nat} {num:List Int} (h:NuI n ord num):ord.length<=n:=by
 exact nodup_lek n ord h.nd fun s hs=>h.lt hs
theorem NuI.push {n:Nat} {ord:List Nat} {num:List Int} (h:NuI n ord num) {t:Nat} (ht:num[t]?=some (-1)):NuI n (ord++[t]) (num.set t (ord.length:Int)):=by
 have htl:=(Ya.1 ht).1;have hno:∀(i:Nat),ord[i]?≠some t:=fun i hi=>by
  have:=h.a i t hi;rw[ht] at this;have:=Yyp this;omega
 refine⟨by rw[Yyh];exact h.ln,fun i s hi=>?_,fun s v hv=>?_⟩
 .by_cases c:i<ord.length
  .rw[Yyi c] at hi;have e:t≠s:=fun e=>hno i (by rw[hi,e]);rw[Yy e];exact h.a i s hi
  .have hl:=(Ya.1 hi).1;rw[Yh] at hl;have e1:([t]:List Nat).length=1:=rfl;have:i=ord.length:=by omega
   subst this;rw[Yyc (Yyt _),Nat.sub_self] at hi;cases hi;rw[Yq htl]
 .by_cases e:t=s
  .subst e;rw[Yq htl] at hv;cases hv;exact .inr ⟨ord.length,rfl,by rw[Yyc (Yyt _),Nat.sub_self];rfl⟩
  .rw[Yy e] at hv;rcases h.b s v hv with h1 | ⟨i,h1,h2⟩
   .exact .inl h1
   .exact .inr ⟨i,h1,by rw[Yyi (Ya.1 h2).1];exact h2⟩
def NumK (num num':List Int):Prop:=∀v:Int,0<=nv num v->nv num' v=nv num v
theorem NumK.refl (num:List Int):NumK num num:=fun _ _=>rfl
theorem NumK.push {num:List Int} {t:Nat} {v:Int} (ht:num[t]?=some (-1)):NumK num (num.set t v):=fun w hw=>by
 unfold nv at hw ⊢;rw[Yo] at hw ⊢;rw[Yo];by_cases e:t=w.toNat
 .rw[<-e,ht] at hw;replace hw:(0:Int) <= -1:=hw;omega
 .rw[Yy e]
structure CnI (g:Gl) (k:Nat) (P:List Nat) (ord:List Nat) (num:List Int) (Q:List Nat) (es:List Ed) (ts:List To):Prop where
 n:NuI g.n.toNat ord num
 z:ord[0]?=some g.s.toNat
 kl:k<=ord.length
 q:∀e,e∈Q ↔ (∃x i,g.es[e]?=some x/\i<k/\ord[i]?=some x.f.toNat)\/e∈P
 qn:Q.Nodup
 f:∀e∈Q,0<=nv num (gE g e).f/\nv num (gE g e).f<=k/\0<=nv num (gE g e).t
 es:es=Q.map (mE g num)
 ta:∀y∈ts,∃t∈g.ts,y.s=nv num t.s/\y.k=t.k/\∃j:Nat,y.e=(j:Int)/\Q[j]?=some t.e.toNat
 tb:∀t∈g.ts,t.e.toNat∈Q->∃y∈ts,y.s=nv num t.s/\y.k=t.k/\∃j:Nat,y.e=(j:Int)/\Q[j]?=some t.e.toNat
 tc:ts.Pairwise fun a b=>a.s<b.s
 td:∀y∈ts,0<=y.s/\y.s<=k
theorem mE_keep {g:Gl} {num num':List Int} (hK:NumK num num') {e:Nat} (h:0<=nv num (gE g e).f/\0<=nv num (gE g e).t):mE g num' e=mE g num e:=by
 unfold mE;rw[hK _ h.1,hK _ h.2]
theorem CnI.keep {g:Gl} {k:Nat} {P ord ord':List Nat} {num num':List Int} {Q:List Nat} {es:List Ed} {ts:List To} (h:CnI g k P ord num Q es ts) (hn:NuI g.n.toNat ord' num') (hK:NumK num num') (ho:∀(i s:Nat),ord[i]?=some s->ord'[i]?=some s) (hl:ord.length<=ord'.length) (hV:∀t∈g.ts,(gE g t.e.toNat).f=t.s):CnI g k P ord' num' Q es ts:=by
 have hts:∀ {t:To} {j:Nat},t∈g.ts->Q[j]?=some t.e.toNat->nv num' t.s=nv num t.s:=fun {t j} ht hj=>by
  have:=(h.f _ (Yb hj)).1;rw[hV t ht] at this;exact hK _ this
 have ho2:∀(i s:Nat),i<k->(ord'[i]?=some s ↔ ord[i]?=some s):=fun i s hi=>by
  obtain⟨z,hz⟩:=get_some (l:=ord) (i:=i) (by have:=h.kl;omega);rw[ho i z hz,hz]
 refine⟨hn,ho 0 _ h.z,Yys h.kl hl,fun e=>?_,h.qn,fun e he=>?_,?_,fun y hy=>?_,fun t ht hq=>?_,h.tc,h.td⟩
 .rw[h.q e];constructor
  .rintro (⟨x,i,h1,h2,h3⟩ | h1)
   .exact .inl ⟨x,i,h1,h2,(ho2 i _ h2).2 h3⟩
   .exact .inr h1
  .rintro (⟨x,i,h1,h2,h3⟩ | h1)
   .exact .inl ⟨x,i,h1,h2,(ho2 i _ h2).1 h3⟩
   .exact .inr h1
 .obtain⟨h1,h2,h3⟩:=h.f e he;rw[hK _ h1,hK _ h3];exact⟨h1,h2,h3⟩
 .rw[h.es];refine List.map_congr_left fun e he=>?_;obtain⟨h1,_,h3⟩:=h.f e he;exact (mE_keep hK ⟨h1,h3⟩).symm
 .obtain⟨t,ht,h1,h2,j,h3,h4⟩:=h.ta y hy;exact⟨t,ht,by rw[h1,hts ht h4],h2,j,h3,h4⟩
 .obtain⟨y,hy,h1,h2,j,h3,h4⟩:=h.tb t ht hq;exact⟨y,hy,by rw[h1,hts ht h4],h2,j,h3,h4⟩
theorem CnI.edge {g:Gl} {k:Nat} {P ord:List Nat} {num:List Int} {Q:List Nat} {es:List Ed} {ts ts':List To} (h:CnI g k P ord num Q es ts) {e:Nat} {x:Ed} (gx:g.es[e]?=some x) (hf:nv num x.f=(k:Int)) (hk:ord[k]?=some x.f.toNat) (hx0:0<=x.f) (ht0:0<=nv num x.t) (hP:e∉P)
  (hts:((∀t∈g.ts,t.e.toNat≠e)/\ts'=ts)\/∃t∈g.ts,t.e.toNat=e/\t.s=x.f/\(∀t'∈g.ts,t'.e.toNat=e->t'=t)/\(∀y∈ts,y.s<(k:Int))/\ts'=ts++[⟨k,t.k,(Q.length:Nat)⟩]) :
  CnI g k (P++[e]) ord num (Q++[e]) (es++[mE g num e]) ts':=by
 have hg:=gE_of gx;have heQ:e∉Q:=fun c=>by
  rcases (h.q e).1 c with ⟨z,i,h1,h2,h3⟩ | h1
  .rw[gx] at h1;cases h1;have a1:=h.n.a i _ h3;have a2:=h.n.a k _ hk;rw[a1] at a2;have:=Yyp a2;omega
  .exact hP h1
 have gl:∀ {j:Nat} {z:Nat},Q[j]?=some z->(Q++[e])[j]?=some z:=fun {j z} hj=>by rw[Yyi (Ya.1 hj).1];exact hj
 have glast:(Q++[e])[Q.length]?=some e:=by rw[Yyc (Yyt _),Nat.sub_self];rfl
 refine⟨h.n,h.z,h.kl,fun z=>?_,?_,fun z hz=>?_,?_,fun y hy=>?_,fun t ht hq=>?_,?_,fun y hy=>?_⟩
 .rw[Yk,Yk,h.q z,or_assoc]
 .refine List.nodup_append.2 ⟨h.qn,List.pairwise_singleton _ _,fun a ha b hb=>?_⟩;rw[Ye.1 hb];exact fun c=>heQ (c ▸ ha)
 .rcases Yk.1 hz with hz | hz
  .exact h.f z hz
  .rw[Ye.1 hz,hg,hf];exact⟨by omega,Int.le_refl _,ht0⟩
 .rw[h.es,Ym];rfl
 .have old:y∈ts->∃t∈g.ts,y.s=nv num t.s/\y.k=t.k/\∃j:Nat,y.e=(j:Int)/\(Q++[e])[j]?=some t.e.toNat:=fun hy=>by
   obtain⟨t,ht,h1,h2,j,h3,h4⟩:=h.ta y hy;exact⟨t,ht,h1,h2,j,h3,gl h4⟩
  rcases hts with ⟨_,rfl⟩ | ⟨t,ht,h1,h2,_,_,rfl⟩
  .exact old hy
  .rcases Yk.1 hy with hy | hy
   .exact old hy
   .rw[Ye.1 hy];exact⟨t,ht,by rw[h2,hf],rfl,Q.length,rfl,by rw[glast,h1]⟩
 .rcases Yk.1 hq with hq | hq
  .obtain⟨y,hy,h1,h2,j,h3,h4⟩:=h.tb t ht hq;refine⟨y,?_,h1,h2,j,h3,gl h4⟩;rcases hts with ⟨_,rfl⟩ | ⟨_,_,_,_,_,_,rfl⟩
   .exact hy
   .exact List.mem_append_left _ hy
  .rw[Ye] at hq;rcases hts with ⟨h1,rfl⟩ | ⟨t',ht',h1,h2,h3,_,rfl⟩
   .exact absurd hq (h1 t ht)
   .rw[h3 t ht hq];exact⟨_,List.mem_append_right _ (Ye.2 rfl),by rw[h2,hf],rfl,Q.length,rfl,by rw[glast,h1]⟩
 .rcases hts with ⟨_,rfl⟩ | ⟨t,_,_,_,_,h4,rfl⟩
  .exact h.tc
  .refine List.pairwise_append.2 ⟨h.tc,List.pairwise_singleton _ _,fun a ha b hb=>?_⟩;rw[Ye.1 hb];exact h4 a ha
 .rcases hts with ⟨_,rfl⟩ | ⟨t,_,_,_,_,h4,rfl⟩
  .exact h.td y hy
  .rcases Yk.1 hy with hy | hy
   .exact h.td y hy
   .rw[Ye.1 hy];exact⟨by show (0:Int)<=(k:Int);omega,Int.le_refl _⟩
theorem CnI.next {g:Gl} {k s:Nat} {P ord:List Nat} {num:List Int} {Q:List Nat} {es:List Ed} {ts:List To} (h:CnI g k P ord num Q es ts) (hk:ord[k]?=some s) (hP:∀e,e∈P ↔ ∃x,g.es[e]?=some x/\x.f=(s:Int)) (h0:∀x∈g.es,0<=x.f):CnI g (k+1) [] ord num Q es ts:=by
 refine⟨h.n,h.z,(Ya.1 hk).1,fun e=>?_,h.qn,fun e he=>?_,h.es,h.ta,h.tb,h.tc,fun y hy=>?_⟩
 .rw[h.q e,hP e];constructor
  .rintro (⟨x,i,h1,h2,h3⟩ | ⟨x,h1,h2⟩)
   .exact .inl ⟨x,i,h1,by omega,h3⟩
   .exact .inl ⟨x,k,h1,by omega,by rw[hk,h2];rfl⟩
  .rintro (⟨x,i,h1,h2,h3⟩ | h1)
   .by_cases e:i=k
    .subst e;rw[hk] at h3;have:=Yyp h3;have:=h0 x (Yb h1);exact .inr ⟨x,h1,by omega⟩
    .exact .inl ⟨x,i,h1,by omega,h3⟩
   .cases h1
 .obtain⟨h1,h2,h3⟩:=h.f e he;exact⟨h1,by omega,h3⟩
 .have:=h.td y hy;omega
end Go.VC
end

section
namespace Go.VC
open Go.Proofs Go.LexS
/-! ### events -/
theorem evs_in {g:Gl} (hV:ValidS g) {role:Int} {p:PSet} {e:Ev}:e∈evs g.es role p ↔ ∃x∈g.es,vis1 role x=some e/\x.f∈setI p:=by
 have hN:=hV.num.n;unfold evs;rw[sortE_mem];unfold evL;rw[List.mem_flatMap];constructor
 .rintro⟨n,hn,hm⟩;obtain⟨a,ha,rfl⟩:=Yp.1 hm;unfold visL at ha;obtain⟨x,hx,h2⟩:=Yym.1 ha;split at h2
  .rename_i hf;cases hv:vis1 role x with
   | none=>rw[hv] at h2;cases h2
   | some e=>
    rw[hv] at h2;injection h2 with h2;refine⟨x,hx,by rw[<-h2];exact hv,setI_mem.2 ?_⟩;have:=elems_mem.1 hn;rw[hf];exact⟨by omega,by omega,this.2⟩
  .cases h2
 .rintro⟨x,hx,hv,hf⟩;obtain⟨h0,h1,h2⟩:=setI_mem.1 hf;refine⟨x.f.toNat,elems_mem.2 ⟨by omega,h2⟩,Yp.2 ⟨⟨e,x.t⟩,?_,rfl⟩⟩;unfold visL;refine Yym.2 ⟨x,hx,?_⟩;rw[if_pos (by omega),hv];rfl
theorem toL_in {g:Gl} {role:Int} {p:PSet} {e:Ev} {v:Int}:v∈toL g.es role p e ↔ ∃x∈g.es,vis1 role x=some e/\x.f∈setI p/\v=x.t:=by
 unfold toL;rw[List.mem_flatMap];constructor
 .rintro⟨n,hn,hm⟩;obtain⟨a,ha,h3⟩:=Yym.1 hm;unfold visL at ha;obtain⟨x,hx,h2⟩:=Yym.1 ha;split at h2
  .rename_i hf;cases hv:vis1 role x with
   | none=>rw[hv] at h2;cases h2
   | some e'=>
    rw[hv] at h2;injection h2 with h2;subst h2;split at h3
    .rename_i he;injection h3 with h3;replace he:e'=e:=he;refine⟨x,hx,by rw[hv,he],setI_mem.2 ?_,h3.symm⟩;have:=elems_mem.1 hn;rw[hf];exact⟨by omega,by omega,this.2⟩
    .cases h3
  .cases h2
 .rintro⟨x,hx,hv,hf,rfl⟩;obtain⟨h0,h1,h2⟩:=setI_mem.1 hf;refine⟨x.f.toNat,elems_mem.2 ⟨by omega,h2⟩,Yym.2 ⟨⟨e,x.t⟩,?_,if_pos rfl⟩⟩;unfold visL;refine Yym.2 ⟨x,hx,?_⟩;rw[if_pos (by omega),hv];rfl
/-! ### sets in memory -/
structure SR where
 s:Sl
 p:PSet
def SR.cs (x:SR):List Value:=slC x.s
def Below (p:PSet):Prop:=∀j,p j=true->j<4096
theorem St.rlm {h0 h:Heap} {L:List It} (hs:St h0 h L) {s:Sl} {e n:Nat} {α:Type} {cs:α->List Value} {X:List α} (hk:It.sl s e n (X.map cs)∈L) (hn:0<n) (hX:X.length<=1048576):RL h n s cs X:=by
 obtain⟨k,hk⟩:=Yf.1 hk;exact hs.rl k hk hn hX
theorem St.keepb {h0 h h1 h':Heap} {L L':List It} (hs:St h0 h L) (hs':St h1 h' L') (k k' o:Nat) {b:Nat} {xs:List Value} {e:TypeId} (hk:L[k]?=some (.blk b xs e)) (hk':L'[k']?=some (.blk b xs e)):Sm [⟨b,o,none⟩] h h':=by
 intro a ha i v hv;rw[Ye.1 ha] at hv ⊢;have e1:h[b]?=some (.cells ⟨xs⟩ e):=hs.get hk;have e2:h'[b]?=some (.cells ⟨xs⟩ e):=hs'.get hk';have e3:h'[b]?=h[b]?:=by rw[e1,e2]
 rw[hc_of_block (h:=h) (h':=h') (a:=addk ⟨b,o,none⟩ i) (by rw[addk_block'];exact e3)];exact hv
theorem St.appf {h0 h h2:Heap} {L:List It} (hs:St h0 h L) (kb ks:Nat) {cb:Nat} {xs:List Value} {e0 t e:TypeId} {n bytes:Nat} {α:Type} {cs:α->List Value} {so:Sl} {X:List α} {x:α} (hkb:L[kb]?=some (.blk cb xs e0)) (hks:L[ks]?=some (.sl so e n (X.map cs)))
  (hT:appB Pz t e n bytes=true) (e2:h2=h.push (.cells ⟨cs x⟩ e)) (hc:(cs x).length=n) (ho:(cs x).all oneB=true) (hn:X.length<=1000000) (hnb:0<n/\bytes<=56) (f:Nat) (hf:f<xs.length) (hne:ks≠kb) {K:Heap->Prop}
  (hK:∀(s':Sl) (h':Heap),St h0 h' ((L.set ks (.sl s' e n ((X++[x]).map cs))).set kb (.blk cb (splice xs f [.slice s'.a s'.n s'.c]) e0))->K h') :
  Sm [⟨cb,f,none⟩] h h2/\App Pz t t (.slice so.a so.n so.c) (.slice (some ⟨h.size,0,none⟩) 1 1) h2 fun s55 h56=>okAt h56 ⟨cb,f,none⟩ 1/\∀h57:Heap,h57=hputs h56 ⟨cb,f,none⟩ 0 [.slice s55.a s55.n s55.c]->K h57:=by
 have hs2:St h0 h2 (.blk h.size (cs x) e::L):=hs.newb (K:=fun h2=>St h0 h2 (.blk h.size (cs x) e::L)) (fun _ h=>h) h2 e2;have hl:=(hs.len ks (s:=so) hks hnb.1).1;rw[Yc] at hl;refine⟨hs.keepb hs2 kb (kb+1) f hkb hkb,?_⟩;have hb1:(so.n+1)*bytes<=1000001*56:=Nat.mul_le_mul (by omega) hnb.2;refine hs2.appended (ks+1) (s:=so) hks hT (x:=⟨h.size,0,none⟩) (m:=1) (c:=1) (news:=[cs x]) (hs2.at 0 rfl (o:=0) (n:=n) (by rw[List.drop_zero,<-hc,Yye];simp)) rfl (by intro r hr;rw[Ye.1 hr];exact hc) (by simpa using ho) (by omega) (by simp only[maxLen];omega) fun s55 h56 n55 hs3=>?_;have hs3:St h0 h56 (L.set ks (.sl s55 e n (X.map cs++[cs x]))):=hs3.drop 1;refine hs3.put kb (by rw[Yy hne];exact hkb) (o:=f) (vs:=[.slice s55.a s55.n s55.c]) rfl (by show f+1<=xs.length;omega) fun h57 hs4=>hK s55 h57 ?_;rw[Ym];exact hs4
/-! ### the view table -/
def SR.it (q:SR):It:=.sl q.s 3 1 ((setI q.p).map inC)
def TmR (g:Gl) (x:Ed) (t:Ti):Prop:=(∃u∈g.ts,u.s=x.f/\∃z,g.es[u.e.toNat]?=some z/\t=⟨x.ag,u.k,⟨true,z.b,z.l⟩⟩)\/((∀u∈g.ts,u.s≠x.f)/\t=⟨x.ag,0,ti0.x⟩)
theorem tim_ex {g:Gl} (hV:ValidS g) {u:To} (hu:u∈g.ts):0<=u.s/\1<=u.k/\0<=u.e/\∃z,g.es[u.e.toNat]?=some z/\z.f=u.s:=by
 obtain⟨i,hi⟩:=Yf.1 hu;obtain⟨_,hk,he,z,hz,hf,_⟩:=hV.tim i u hi;have hz2:=hV.num.e z (Yb hz);unfold EdS at hz2;exact⟨by omega,hk.1,he,z,hz,hf⟩
theorem own_row2 {g:Gl} (hV:ValidS g) {role:Int} {x:Ed} (hx:x∈g.es) (ha:x.a=role):(ownE g.es role g.n.toNat).1[x.f.toNat]?=some true/\∃t,(ownT g.es g.ts role g.n.toNat)[x.f.toNat]?=some t/\TmR g x t:=by
 have hr:=hV.num.e x hx;unfold EdS at hr;have hkf:((x.f.toNat:Nat):Int)=x.f:=by omega
 rcases ownE_row (es:=g.es) (role:=role) (n:=g.n.toNat) (k:=x.f.toNat) (by omega) (fun y hy=>by have:=hV.num.e y hy;unfold EdS at this;omega) with ⟨h1,_⟩ | ⟨y,h1,h2,h3,h4,h5⟩
 .exact absurd ⟨hkf.symm,ha⟩ (h1 x hx)
 .have hsame:=(row_same hV h1 hx (by omega)).2;refine⟨h4,?_⟩;unfold ownT;rcases ownT_row (es:=g.es) h4 g.ts _ _ (fun u hu=>by obtain⟨h0,_,_,z,hz,_⟩:=tim_ex hV hu;exact⟨h0,z,hz⟩) h5 with ⟨h6,h7⟩ | ⟨u,hu,hus,z,hz,h7⟩
  .exact⟨_,h7,.inr ⟨fun u hu=>by have:=h6 u hu;omega,by rw[hsame]⟩⟩
  .exact⟨_,h7,.inl ⟨u,hu,by omega,z,hz,by rw[hsame]⟩⟩
def OwnS_ (g:Gl) (p s:Int):Prop:=∃x∈g.es,x.f=s/\x.a=p
theorem own_iff {g:Gl} (hV:ValidS g) {p:Int} {k:Nat} (hk:(k:Int)<g.n):(ownE g.es p g.n.toNat).1[k]?=some true ↔ OwnS_ g p (k:Int):=by
 rcases ownE_row (es:=g.es) (role:=p) (n:=g.n.toNat) (k:=k) (by omega) (fun y hy=>by have:=hV.num.e y hy;unfold EdS at this;omega) with ⟨h1,h2,_⟩ | ⟨y,h1,h2,h3,h4,_⟩
 .rw[h2];exact⟨fun h=>(by cases h),fun ⟨x,hx,hf,ha⟩=>absurd ⟨hf,ha⟩ (h1 x hx)⟩
 .exact⟨fun _=>⟨y,h1,h2,h3⟩,fun _=>h4⟩
/-! ### the timing of a view -/
theorem fold_some {F:Nat->List Ev} {en:Nat->Bool} {O:List Bool} {T:List Ti} {l:List Nat}:∀(m:List Nat) (k:Bool) (o:Ti),(∀n∈m,badV F en l n=false) ->
  (∀n∈m,∀t,O[n]?=some true->T[n]?=some t->(k=true->t=o)/\∀n'∈m,∀t',O[n']?=some true->T[n']?=some t'->t=t')->∃r,m.foldl (stepV F en O T l) (some (k,o))=some r
 | [],k,o,_,_=>⟨_,rfl⟩
 | n::m,k,o,hb,hp=>by
  rw[List.foldl_cons];have hbn:=hb n Yx;have hb':∀n∈m,badV F en l n=false:=fun n hn=>hb n (Yn _ hn);cases hO:O[n]? with
  | none=>
   have e:stepV F en O T l (some (k,o)) n=some (k,o):=by simp[stepV,hbn,hO]
   rw[e];exact fold_some m k o hb' fun n1 h1 t a1 a2=>⟨(hp n1 (Yn _ h1) t a1 a2).1,fun n2 h2=>(hp n1 (Yn _ h1) t a1 a2).2 n2 (Yn _ h2)⟩
  | some b=>
   cases b with
   | false=>
    have e:stepV F en O T l (some (k,o)) n=some (k,o):=by simp[stepV,hbn,hO]
    rw[e];exact fold_some m k o hb' fun n1 h1 t a1 a2=>⟨(hp n1 (Yn _ h1) t a1 a2).1,fun n2 h2=>(hp n1 (Yn _ h1) t a1 a2).2 n2 (Yn _ h2)⟩
   | true=>
    cases hT:T[n]? with
    | none=>
     have e:stepV F en O T l (some (k,o)) n=some (k,o):=by simp[stepV,hbn,hO,hT]
     rw[e];exact fold_some m k o hb' fun n1 h1 t a1 a2=>⟨(hp n1 (Yn _ h1) t a1 a2).1,fun n2 h2=>(hp n1 (Yn _ h1) t a1 a2).2 n2 (Yn _ h2)⟩
    | some t=>
     have h1:=hp n Yx t hO hT;have e:stepV F en O T l (some (k,o)) n=some (true,t):=by
      simp only[stepV,hbn,hO,hT];cases k with
      | false=>rfl
      | true=>rw[h1.1 rfl];simp
     rw[e];exact fold_some m true t hb' fun n1 hn1 t' a1 a2=>⟨fun _=>((h1.2 n1 (Yn _ hn1) t' a1 a2)).symm,fun n2 hn2=>(hp n1 (Yn _ hn1) t' a1 a2).2 n2 (Yn _ hn2)⟩
theorem vw_iff {F:Nat->List Ev} {en:Nat->Bool} {O:List Bool} {T:List Ti} {l:List Nat}:(∃o,viewV F en O T l=some o) ↔ (∀n∈l,badV F en l n=false)/\∀n∈l,∀k∈l,∀t u,O[n]?=some true->T[n]?=some t->O[k]?=some true->T[k]?=some u->t=u:=by
 constructor
 .rintro⟨o,h⟩;refine⟨fun n hn=>(viewV_row h hn).1,fun n hn k hk t u a1 a2 b1 b2=>?_⟩;rw[<- (viewV_row h hn).2 t a1 a2,<- (viewV_row h hk).2 u b1 b2]
 .rintro⟨h1,h2⟩;obtain⟨r,hr⟩:=fold_some (F:=F) (en:=en) (O:=O) (T:=T) (l:=l) l false ti0 h1 fun n hn t a1 a2=>⟨fun h=>(by cases h),fun n' hn' t' b1 b2=>h2 n hn n' hn' t t' a1 a2 b1 b2⟩;exact⟨r.2,by unfold viewV;rw[hr];rfl⟩
theorem vw_none {F:Nat->List Ev} {en:Nat->Bool} {O:List Bool} {T:List Ti} {l:List Nat} {o:Ti} (h:viewV F en O T l=some o) (hn:∀n∈l,O[n]?≠some true):o=ti0:=by
 unfold viewV at h;have key:∀(m:List Nat) (k:Bool) (o:Ti),(∀n∈m,O[n]?≠some true)->∀r,m.foldl (stepV F en O T l) (some (k,o))=some r->r=(k,o):=by
  intro m
  induction m with
  | nil=>intro k o _ r h;cases h;rfl
  | cons n m ih=>
   intro k o hm r h;rw[List.foldl_cons] at h;cases hb:badV F en l n with
   | true=>
    have e:stepV F en O T l (some (k,o)) n=none:=by simp only[stepV,hb,if_true]
    rw[e,stepV_none] at h;cases h
   | false=>
    have hno:=hm n Yx;have e:stepV F en O T l (some (k,o)) n=some (k,o):=by
     simp only[stepV,hb];cases hO:O[n]? with
     | none=>simp
     | some b=>cases b with
      | false=>simp
      | true=>exact absurd hO hno
    rw[e] at h;exact ih k o (fun n hn=>hm n (Yn _ hn)) r h
 obtain⟨r,hr,e⟩:=Yya.1 h;rw[key l false ti0 hn r hr] at e;exact e.symm
/-! ### the sending conditions al the reference asks them -/
end Go.VC
end
