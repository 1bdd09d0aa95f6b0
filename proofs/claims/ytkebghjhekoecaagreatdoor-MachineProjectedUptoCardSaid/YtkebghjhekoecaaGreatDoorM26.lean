/- QjRe RjCa RjCb RjY RjZ RjAb RjCc RjArgs RjVcQ RjBe QjArgG. -/
import Derived.Test.YtkebghjhekoecaaGreatDoorM25
import Derived.Test.YtkebghjhekoecaaGreatDoorM01
import Derived.Test.YtkebghjhekoecaaGreatDoorM24
import Derived.Test.YtkebghjhekoecaaGreatDoorM03
import Derived.Test.YtkebghjhekoecaaGreatDoorM05
import Derived.Test.YtkebghjhekoecaaGreatDoorM19
import Derived.Test.YtkebghjhekoecaaGreatDoorM23
import Derived.Test.YtkebghjhekoecaaGreatDoorRows
import Derived.Test.YtkebghjhekoecaaGreatDoorM02
import Derived.Test.YtkebghjhekoecaaGreatDoorProg
import Derived.KernelRfl
set_option linter.unusedVariables false
set_option linter.unusedSimpArgs false
set_option maxRecDepth 100000

section
/- Contracts: the reference of validity: distances, reach, names; Valid, Good, small. -/
namespace Go.VC
open Go.Proofs Go.LexS
theorem ints_set {L : List Int} {i : Nat} (h : i < L.length) (y : Int) : splice (L.map (Value.int .i64)) i [.int .i64 y] = (L.set i y).map (Value.int .i64) := by
 rw [splice_set (by rw [Yc]; exact h), List.map_set]
theorem bools_set {L : List Bool} {i : Nat} (h : i < L.length) (y : Bool) : splice (L.map Value.bool) i [.bool y] = (L.set i y).map Value.bool := by
 rw [splice_set (by rw [Yc]; exact h), List.map_set]
theorem ints_flat : ∀ L : List Int, L.map (Value.int .i64) = (L.map inC).flatten
 | [] => rfl
 | a :: L => by rw [Yyl, Yyl, Yyu, ints_flat L]; rfl
theorem made3I (n : Nat) : madeL Pz 3 n = (List.replicate n (0 : Int)).map (Value.int .i64) := by rw [made3, List.map_replicate]
theorem at_ints {L : List Int} {i : Nat} (h : i < L.length) : ∃ y, (L.map (Value.int .i64))[i]? = some (.int .i64 y) /\ L[i]? = some y := ⟨L[i], by rw [Yd, Yi h]; rfl, Yi h⟩
theorem at_bools {L : List Bool} {i : Nat} (h : i < L.length) : ∃ y, (L.map Value.bool)[i]? = some (.bool y) /\ L[i]? = some y := ⟨L[i], by rw [Yd, Yi h]; rfl, Yi h⟩
theorem ends115 (g : Gl) (h : Heap) (hg : GI h g) (hN : NumR g) : Fn Pz 160 #[g.v] h fun v h' => Ext h h' /\ ∃ (s : Sl) (L : List Int), v = .slice s.a s.n s.c /\ Rw h' 1 s (L.map inC) /\ L.length = g.n.toNat /\ ∀ v, Vis L v ↔ Rch g.es true g.e v := by
 apply vc160 (bs g.nm) g.hr g.hd g.n g.s g.e g.he g.ht; unfold W160
 have hen := hg.e.ln
 have hem := hg.e.sm
 obtain ⟨N, hNn⟩ : ∃ N : Nat, g.n = N := ⟨g.n.toNat, by have := hN.n; omega⟩
 have hn1 := hN.n
 have hE := hN.e
 have htN : g.n.toNat = N := by omega
 refine (St.refl h).newb fun h9 hs => ?_
 refine ⟨_, hs.rd 0 rfl rfl, ⟨by omega, by omega, by omega⟩, ?_⟩
 rw [made3I]
 refine hs.newb fun h11 hs => ?_
 refine ⟨fun x h' m => ∃ (i : Nat) (L : List Int), x = i /\ i <= N /\ m = N - i /\ (L.length = N /\ ∀ (j : Nat), j < i -> L[j]? = some (-1)) /\ St h h' [.blk h9.size (L.map (Value.int .i64)) 3, .blk h.size g.cs 59], ⟨_, 0, _, rfl, by omega, rfl, ⟨by rw [Yg]; exact htN, fun j hj => by omega⟩, hs⟩, ?_⟩
 rintro - _ h16 m ⟨i, L, rfl, hi, rfl, ⟨hL, hLv⟩, hs⟩
 refine ⟨_, hs.rd 1 rfl rfl, sB_intro (fun c => ?_) (fun c0 => ?_)⟩
 ·
  replace c := Yyn c
  refine ⟨⟨by omega, by omega⟩, ?_⟩
  rw [show 0 + Int.toNat (i : Int) * 1 = i by simp]
  refine hs.put 0 rfl (o := i) (vs := [.int .i64 (-1)]) rfl (by rw [Yc]; show i + 1 <= _; omega) fun h18 hs => ?_
  rw [ints_set (by omega)] at hs
  refine ⟨_, by omega, i + 1, L.set i (-1), by rw [w64 (by omega) (by omega)]; omega, by omega, rfl, ⟨by rw [Yyh]; exact hL, fun j hj => ?_⟩, hs⟩
  by_cases e : j = i
  ·
   subst e; rw [Yq (by omega)]
  ·
   rw [Yy (by omega)]; exact hLv j (by omega)
 replace c0 := Yyo c0
 have hLr : L = List.replicate N (-1) := Yyr fun j => by
  by_cases hj : j < N
  ·
   rw [hLv j (by omega), List.getElem?_replicate, if_pos hj]
  ·
   rw [Yl (by omega), List.getElem?_replicate, if_neg hj]
 subst hLr
 refine ⟨_, hs.rd 1 rfl rfl, ⟨by omega, by omega⟩, ?_⟩
 obtain ⟨e, he⟩ : ∃ e : Nat, g.e = e := ⟨g.e.toNat, by omega⟩
 rw [he, show 0 + Int.toNat (e : Int) * 1 = e by simp]
 refine hs.put 0 rfl (o := e) (vs := [.int .i64 0]) rfl (by rw [Yc]; show e + 1 <= _; omega) fun h21 hs => ?_
 rw [ints_set (by omega)] at hs
 refine ⟨fun x h' m => ∃ (i : Nat) (L : List Int), x = i /\ i <= N /\ m = N - i /\ EN g.es g.e N i L /\ St h h' [.blk h9.size (L.map (Value.int .i64)) 3, .blk h.size g.cs 59], ⟨_, 0, _, rfl, by omega, rfl, ?_, hs⟩, ?_⟩
 ·
  have := EN.start (es := g.es) (e := g.e) (N := N) (by omega) (by omega)
  rw [he] at this ⊢; exact this
 rintro - _ h26 m ⟨n, L2, rfl, hn, rfl, en2, hs⟩
 have hL2 := en2.len
 refine ⟨_, hs.rd 1 rfl rfl, sB_intro (fun c => ?_) (fun cE => ?_)⟩
 ·
  replace c := Yyn c
  refine ⟨fun x h' m => ∃ (i : Nat) (L : List Int), x = i /\ i <= g.he.n /\ m = g.he.n - i /\ (EN g.es g.e N n L /\ ENk g.es n i L) /\ St h h' [.blk h9.size (L.map (Value.int .i64)) 3, .blk h.size g.cs 59], ⟨_, 0, L2, rfl, by omega, rfl, ⟨en2, fun j y hj => by omega⟩, hs⟩, ?_⟩
  rintro - _ h32 m ⟨k, L3, rfl, hk, rfl, ⟨en3, ek⟩, hs⟩
  have hL3 := en3.len
  refine ⟨_, hs.rd 1 rfl rfl, sB_intro (fun c2 => ?_) (fun c2 => ⟨_, by omega, n + 1, L3, by rw [w64 (by omega) (by omega)]; omega, by omega, rfl, en3.next ek (by have := lt_f c2; omega), hs⟩)⟩
  replace c2 := lt_t c2
  refine ⟨_, hs.rd 1 rfl rfl, ?_⟩
  refine (hg.e.rw.ext hs.ext).nbI (by omega) (by omega) fun b o x gx t => ?_
  replace gx : g.es[k]? = some x := gx
  have hx := hN.es x (Yb gx)
  obtain ⟨xt, hxt⟩ : ∃ a : Nat, x.t = a := ⟨x.t.toNat, by omega⟩
  obtain ⟨xf, hxf⟩ : ∃ a : Nat, x.f = a := ⟨x.f.toNat, by omega⟩
  refine ⟨_, _, _, _, _, _, t, ?_⟩
  refine hs.newput (vs := x.cs) rfl rfl fun h44 hs => ?_
  obtain ⟨y1, hy1, hz1⟩ := at_ints (L := L3) (i := xt) (by omega)
  obtain ⟨y2, hy2, hz2⟩ := at_ints (L := L3) (i := xf) (by omega)
  have htt : x.t.toNat = xt := by omega
  have htf : x.f.toNat = xf := by omega
  have nxt : ∀ {h' : Heap} {L4 : List Int}, (EN g.es g.e N n L4 /\ ENk g.es n (k + 1) L4) -> St h h' [.blk h9.size (L4.map (Value.int .i64)) 3, .blk h.size g.cs 59] -> ∃ m53, m53 < g.he.n - k /\ ∃ (i : Nat) (L : List Int), IntKind.wrap .i64 ((k : Int) + 1) = i /\ i <= g.he.n /\ m53 = g.he.n - i /\ (EN g.es g.e N n L /\ ENk g.es n i L) /\ St h h' [.blk h9.size (L.map (Value.int .i64)) 3, .blk h.size g.cs 59] := fun h4 hs =>
   ⟨_, by omega, k + 1, _, by rw [w64 (by omega) (by omega)]; omega, by omega, rfl, h4, hs⟩
  refine ⟨x.t, hs.rd 0 rfl rfl, ⟨by omega, by omega⟩, ?_⟩
  rw [hxt, show 0 + Int.toNat (xt : Int) * 1 = xt by simp]
  refine ⟨y1, hs.rd 1 rfl hy1, sBe (fun e1 => ?_) (fun e1 => nxt ⟨en3, ek.skip gx fun _ hg1 => by rw [htt, hz1] at hg1; cases hg1; exact absurd rfl e1⟩ (hs.drop 1))⟩
  refine ⟨x.f, hs.rd 0 rfl rfl, ⟨by omega, by omega⟩, ?_⟩
  rw [hxf, show 0 + Int.toNat (xf : Int) * 1 = xf by simp]
  refine ⟨y2, hs.rd 1 rfl hy2, sBi (fun e2 => ?_) (fun e2 => nxt ⟨en3, ek.skip gx fun _ _ => ⟨by omega, y2, by rw [htf]; exact hz2, by omega⟩⟩ (hs.drop 1))⟩
  refine ⟨x.f, hs.rd 0 rfl rfl, ⟨by omega, by omega⟩, ?_⟩
  rw [hxf, show 0 + Int.toNat (xf : Int) * 1 = xf by simp]
  refine hs.put 1 rfl (o := xf) (vs := [.int .i64 (IntKind.wrap .i64 ((n : Int) + 1))]) rfl (by rw [Yc]; show xf + 1 <= _; omega) fun h50 hs => ?_
  rw [ints_set (by omega)] at hs
  rw [show IntKind.wrap .i64 ((n : Int) + 1) = (n : Int) + 1 from w64 (by omega) (by omega)] at hs
  refine nxt ?_ (hs.drop 1)
  have := en3.set ek gx (by omega) (by rw [htt, hz1, e1]) (by omega) (by rw [htf]; exact hz2) e2
  rw [htf] at this; exact this
 ·
  have hfl := ints_flat L2
  rw [htN]
  have hs2 := hs.blkS N 1 (L2.map inC) hfl (inrows _) (by rw [Yc]; exact hL2) (by show N <= 9223372036854775807; omega)
  have hnN : n = N := by have := Yyo cE; omega
  have en3 : EN g.es g.e N N L2 := by rw [hnN] at en2; exact en2
  exact ⟨hs.ext, ⟨some ⟨h9.size, 0, none⟩, N, N⟩, L2, rfl, hs2.rows 0 rfl (by omega), hL2, fun v => by rw [<- he]; exact en3.end_ v⟩
theorem made4l (n : Nat) : madeL Pz 4 n = (List.replicate n false).map Value.bool := made4 n
structure ConS (g : Gl) : Prop where
 f : ∀ v : Int, 0 <= v -> v < g.n -> Rch g.es false g.s v
 b : ∀ v : Int, 0 <= v -> v < g.n -> Rch g.es true g.e v
 e : ∀ x ∈ g.es, x.f ≠ g.e
theorem connected67 (g : Gl) (h : Heap) (hg : GI h g) (hN : NumR g) : Fn Pz 111 #[g.v] h (RP (ConS g) h) := by
 apply vc111 (bs g.nm) g.hr g.hd g.n g.s g.e g.he g.ht; unfold W111
 have hen := hg.e.ln
 have hem := hg.e.sm
 obtain ⟨N, hNn⟩ : ∃ N : Nat, g.n = N := ⟨g.n.toNat, by have := hN.n; omega⟩
 have hn1 := hN.n
 have hS := hN.s
 have htN : g.n.toNat = N := by omega
 refine (St.refl h).newb fun h9 hs => ?_
 refine ⟨_, hs.rd 0 rfl rfl, ⟨by omega, by omega, by omega⟩, ?_⟩
 rw [made4l]
 refine hs.newb fun h11 hs => ?_
 refine ⟨_, hs.rd 1 rfl rfl, ⟨by omega, by omega⟩, ?_⟩
 obtain ⟨s0, hs0⟩ : ∃ e : Nat, g.s = e := ⟨g.s.toNat, by omega⟩
 rw [hs0, show 0 + Int.toNat (s0 : Int) * 1 = s0 by simp]
 refine hs.put 0 rfl (o := s0) (vs := [.bool true]) rfl (by rw [Yc, Yg]; show s0 + 1 <= _; omega) fun h13 hs => ?_
 rw [bools_set (by rw [Yg]; omega)] at hs
 refine ⟨fun x h' m => ∃ (i : Nat) (L : List Bool), x = i /\ i <= N /\ m = N - i /\ (RE g.es g.s N L /\ RN g.es i 0 L) /\ St h h' [.blk h9.size (L.map Value.bool) 4, .blk h.size g.cs 59], ⟨_, 0, _, rfl, by omega, rfl, ?_, hs⟩, ?_⟩
 ·
  have := RE.start (es := g.es) (s := g.s) (N := N) (by omega) (by omega)
  rw [htN]
  rw [hs0] at this ⊢; exact this
 rintro - _ h18 m ⟨n, L, rfl, hn, rfl, ⟨re1, rn1⟩, hs⟩
 have hL := re1.len
 refine ⟨_, hs.rd 1 rfl rfl, sB_intro (fun c => ?_) (fun cE => ?_)⟩
 ·
  replace c := Yyn c
  refine ⟨fun x h' m => ∃ (i : Nat) (L : List Bool), x = i /\ i <= g.he.n /\ m = g.he.n - i /\ (RE g.es g.s N L /\ RN g.es n i L) /\ St h h' [.blk h9.size (L.map Value.bool) 4, .blk h.size g.cs 59], ⟨_, 0, L, rfl, by omega, rfl, ⟨re1, rn1⟩, hs⟩, ?_⟩
  rintro - _ h24 m ⟨k, L3, rfl, hk, rfl, ⟨re3, rn3⟩, hs⟩
  have hL3 := re3.len
  refine ⟨_, hs.rd 1 rfl rfl, sB_intro (fun c2 => ?_) (fun c2 => ⟨_, by omega, n + 1, L3, by rw [w64 (by omega) (by omega)]; omega, by omega, rfl, ⟨re3, rn3.next (by have := lt_f c2; omega)⟩, hs⟩)⟩
  replace c2 := lt_t c2
  have nxt : ∀ {h' : Heap} {L4 : List Bool}, (RE g.es g.s N L4 /\ RN g.es n (k + 1) L4) -> St h h' [.blk h9.size (L4.map Value.bool) 4, .blk h.size g.cs 59] -> ∃ m53, m53 < g.he.n - k /\ ∃ (i : Nat) (L : List Bool), IntKind.wrap .i64 ((k : Int) + 1) = i /\ i <= g.he.n /\ m53 = g.he.n - i /\ (RE g.es g.s N L /\ RN g.es n i L) /\ St h h' [.blk h9.size (L.map Value.bool) 4, .blk h.size g.cs 59] := fun h4 hs =>
   ⟨_, by omega, k + 1, _, by rw [w64 (by omega) (by omega)]; omega, by omega, rfl, h4, hs⟩
  refine ⟨_, hs.rd 1 rfl rfl, ?_⟩
  have hrw := hg.e.rw.ext hs.ext
  refine hrw.nbI (by omega) (by omega) fun b o x gx t => ?_
  replace gx : g.es[k]? = some x := gx
  have hx := hN.es x (Yb gx)
  obtain ⟨xt, hxt⟩ : ∃ a : Nat, x.t = a := ⟨x.t.toNat, by omega⟩
  obtain ⟨xf, hxf⟩ : ∃ a : Nat, x.f = a := ⟨x.f.toNat, by omega⟩
  obtain ⟨y1, hy1, hz1⟩ := at_bools (L := L3) (i := xt) (by omega)
  obtain ⟨y2, hy2, hz2⟩ := at_bools (L := L3) (i := xf) (by omega)
  have htt : x.t.toNat = xt := by omega
  have htf : x.f.toNat = xf := by omega
  have same : ∀ {b : Bool}, L3[xt]? = some b -> L3.set xt b = L3 := fun {b} hb => by
   obtain ⟨hl, he⟩ := Ya.1 hb
   rw [<- he, List.set_getElem_self]
  refine ⟨x.t, t.nth 4 rfl, ?_⟩
  refine ⟨_, hs.rd 1 rfl rfl, ?_⟩
  refine hrw.nbI (by omega) (by omega) fun b o x' gx' t' => ?_
  replace gx' : g.es[k]? = some x' := gx'
  rw [gx] at gx'; cases gx'
  refine ⟨x.t, t'.nth 4 rfl, ⟨by omega, by omega⟩, ?_⟩
  rw [hxt, show 0 + Int.toNat (xt : Int) * 1 = xt by simp]
  refine ⟨y1, hs.rd 0 rfl hy1, sB_intro (fun e1 => ?_) (fun e1 => ?_)⟩
  ·
   refine ⟨⟨by omega, by omega⟩, ?_⟩
   refine hs.put 0 rfl (o := xt) (vs := [.bool true]) rfl (by rw [Yc]; show xt + 1 <= _; omega) fun h35 hs => ?_
   rw [bools_set (by omega), same (by rw [hz1, e1])] at hs
   exact nxt ⟨re3, rn3.skip gx fun _ => ⟨by omega, by rw [htt, hz1, e1]⟩⟩ hs
  ·
   refine ⟨_, hs.rd 1 rfl rfl, ?_⟩
   refine hrw.nbI (by omega) (by omega) fun b o x' gx' t' => ?_
   replace gx' : g.es[k]? = some x' := gx'
   rw [gx] at gx'; cases gx'
   refine ⟨x.f, t'.nth 0 rfl, ⟨by omega, by omega⟩, ?_⟩
   rw [hxf, show 0 + Int.toNat (xf : Int) * 1 = xf by simp]
   refine ⟨y2, hs.rd 0 rfl hy2, ⟨by omega, by omega⟩, ?_⟩
   refine hs.put 0 rfl (o := xt) (vs := [.bool y2]) rfl (by rw [Yc]; show xt + 1 <= _; omega) fun h42 hs => ?_
   rw [bools_set (by omega)] at hs
   refine nxt ?_ hs
   cases y2 with
   | true =>
    have := re3.set rn3 gx (by omega) (by rw [htt, hz1, e1]) (by omega) (by rw [htf]; exact hz2)
    rw [htt] at this; exact this
   | false =>
    rw [same (by rw [hz1, e1])]
    exact ⟨re3, rn3.skip gx fun hv => by have := hv.2; rw [htf, hz2] at this; cases this⟩
 ·
  refine ⟨_, _, _, _, _, _, _, _, hs.at 1 rfl (o := 0) (n := 8) rfl, ?_⟩
  refine (ends115 g h18 (hg.ext hs.ext) hN).mono ?_
  rintro _ h55 ⟨E, l, L2, rfl, hl, hl2, hvis⟩
  have hnN : n = N := by have := Yyo cE; omega
  have rn2 : RN g.es N 0 L := by rw [hnN] at rn1; exact rn1
  have hreach := re1.end_ rn2
  have hs := hs.step E
  have hln := hl.ln
  refine ⟨_, rfl, ?_⟩
  refine ⟨fun x h' m => ∃ i : Nat, x = i /\ i <= N /\ m = N - i /\ h' = h55 /\ ∀ v : Int, 0 <= v -> v < i -> Rch g.es false g.s v /\ Rch g.es true g.e v, ⟨_, 0, rfl, by omega, rfl, rfl, fun v h1 h2 => by omega⟩, ?_⟩
  rintro - _ h60 m ⟨i, rfl, hi, rfl, rfl, hq⟩
  refine ⟨_, hs.rd 1 rfl rfl, sB_intro (fun c => ?_) (fun c => ?_)⟩
  ·
   replace c := Yyn c
   obtain ⟨y1, hy1, hz1⟩ := at_bools (L := L) (i := i) (by omega)
   refine ⟨⟨by omega, by omega⟩, ?_⟩
   rw [show 0 + Int.toNat (i : Int) * 1 = i by simp]
   refine ⟨y1, hs.rd 0 rfl hy1, sB_intro (fun e1 => RP.f (fun hG => ?_) hs.ext) (fun e1 => ?_)⟩
   ·
    have := ((hreach i).2 (hG.f i (by omega) (by omega))).2
    rw [show ((i : Int)).toNat = i from rfl, hz1] at this
    cases this; cases e1
   refine hl.nbI (by omega) (by omega) fun b o y gy t => ?_
   replace gy : L2[i]? = some y := gy
   refine ⟨_, t.nth 0 rfl, sBi (fun e2 => RP.f (fun hG => ?_) hs.ext) (fun e2 => ⟨_, by omega, i + 1, by rw [w64 (by omega) (by omega)]; omega, by omega, rfl, rfl, fun v h1 h2 => ?_⟩)⟩
   ·
    obtain ⟨_, d, hd, hd0⟩ := (hvis i).2 (hG.b i (by omega) (by omega))
    rw [show ((i : Int)).toNat = i from rfl, gy] at hd
    cases hd; omega
   ·
    by_cases e : v = (i : Int)
    ·
     subst e
     exact ⟨(hreach i).1 ⟨by omega, by rw [show ((i : Int)).toNat = i from rfl, hz1, bT e1]⟩, (hvis i).1 ⟨by omega, y, gy, by omega⟩⟩
    ·
     exact hq v h1 (by omega)
  ·
   refine ⟨_, _, _, _, _, _, _, _, hs.at 1 rfl (o := 0) (n := 8) rfl, _, hs.rd 1 rfl rfl, ?_⟩
   refine (edges116 g g.e _ (hg.ext hs.ext)).mono ?_
   rintro _ h78 ⟨⟨q, rfl, hqe⟩, E⟩
   replace c := Yyo c
   refine ⟨_, rfl, RP.e ?_ (hs.step E).ext⟩
   have hb : ∀ b : Bool, (b = true ↔ q.n = 0) -> (b = true ↔ ConS g) := fun b hb => hb.trans (hqe.trans ⟨fun he => ⟨fun v h1 h2 => (hq v h1 (by omega)).1, fun v h1 h2 => (hq v h1 (by omega)).2, he⟩, fun hG => hG.e⟩)
   refine hb _ ?_
   simp
theorem names64 (g : Gl) (h : Heap) (hg : GI h g) (hM : GNm g.ds) : Fn Pz 108 #[g.v] h (RP (NamedS g /\ DeclS g.ds) h) := by
 apply vc108 (bs g.nm) g.hr g.hd g.n g.s g.e g.he g.ht; unfold W108
 have hrn := hg.r.ln
 have hrm := hg.r.sm
 refine (St.refl h).newb fun h9 hs => ?_
 refine up_loopS (n := g.hr.n) hs (fun i => ∀ (j : Nat) (s : Nm), j < i -> g.rs[j]? = some s -> isWord s = true /\ s ∉ g.rs.take j) (fun j s hj => by omega) ?_
 rintro - i h14 hi ⟨hs, hq⟩
 refine ⟨_, hs.rd 0 rfl rfl, sB_intro (fun c => ?_) (fun c => ?_)⟩
 ·
  replace c := lt_t c
  refine ⟨_, hs.rd 0 rfl rfl, ?_⟩
  refine (hg.r.rw.ext hs.ext).nbI (by omega) (by omega) fun b o x gx t => ?_
  replace gx : g.rs[i]? = some x := gx
  refine ⟨_, t.nth 0 rfl, ?_⟩
  refine (isWord111 (bs x) h14).mono ?_
  rintro _ h22 ⟨rfl, E⟩
  have hs := hs.step E
  refine ⟨_, rfl, sB_intro (fun c1 => RP.f (fun hG => ?_) hs.ext) (fun c1 => ?_)⟩
  ·
   have := (hG.1.r i x gx).1
   rw [bs_list, this] at c1; cases c1
  refine ⟨_, hs.rd 0 rfl rfl, _, hs.rd 0 rfl rfl, ?_⟩
  refine (hg.r.rw.ext hs.ext).nbI (by omega) (by omega) fun b o x2 gx2 t => ?_
  replace gx2 : g.rs[i]? = some x2 := gx2
  rw [gx] at gx2; cases gx2
  refine ⟨_, t.nth 0 rfl, ?_⟩
  refine (index112 g.rs g.hr (bs x) h22 (hg.r.rw.ext hs.ext) hrm).mono ?_
  rintro _ h30 ⟨⟨k, rfl, hk⟩, rfl⟩
  replace hk := hk i (by omega)
  rw [bs_list] at hk
  have hxm : x ∈ g.rs := Yb gx
  refine ⟨_, rfl, fun _ _ _ _ hv => hv, sBi (fun c2 => RP.f (fun hG => ?_) hs.ext) (fun c2 => Up.next c (by omega) ⟨hs, fun j s hj hj2 => ?_⟩)⟩
  ·
   rcases hk.1 c2 with h1 | h1
   ·
    exact (hG.1.r i x gx).2 h1
   ·
    exact h1 hxm
  ·
   by_cases e : j = i
   ·
    subst e; rw [gx] at hj2; cases hj2
    refine ⟨by have := bT c1; rw [bs_list] at this; exact this, fun hm => c2 (hk.2 (.inl hm))⟩
   ·
    exact hq j s (by omega) hj2
 ·
  replace c := lt_f c
  refine ⟨_, hs.rd 0 rfl rfl, ?_⟩
  refine (isWord111 (bs g.nm) h14).mono ?_
  rintro _ h35 ⟨rfl, E⟩
  have hs := hs.step E
  refine ⟨_, rfl, sB_intro (fun c1 => ⟨_, hs.rd 0 rfl rfl, sBi (fun c2 => ⟨_, hs.rd 0 rfl rfl, sBi (fun c3 => ⟨_, hs.rd 0 rfl rfl, ?_⟩) (fun c3 => RP.f (fun hG => c3 (by have := hG.1.n6; omega)) hs.ext)⟩) (fun c2 => RP.f (fun hG => c2 (by have := hG.1.n1; omega)) hs.ext)⟩) (fun c1 => RP.f (fun hG => by rw [bs_list, hG.1.w] at c1; cases c1) hs.ext)⟩
  refine (refValid113 g.ds g.hd h35 (hg.d.ext hs.ext) hM).mono ?_
  rintro _ h41 ⟨⟨b2, rfl, hb2⟩, E⟩
  refine ⟨_, rfl, RP.e (hb2.trans ⟨fun hd => ⟨⟨by rw [bs_list] at c1; exact c1, by omega, by omega, fun j s hj => hq j s (by have := (Ya.1 hj).1; omega) hj⟩, hd⟩, fun hG => hG.2⟩) (hs.step E).ext⟩
theorem refValid31 (g : Gl) (h : Heap) (hg : GI h g) (hM : GNm g.ds) : Fn Pz 67 #[g.v] h (RP (ValidS g) h) := by
 apply vc67 (bs g.nm) g.hr g.hd g.n g.s g.e g.he g.ht; unfold W67
 refine (St.refl h).newb fun h9 hs => ?_
 refine ⟨_, _, _, _, _, _, _, _, hs.at 0 rfl (o := 0) (n := 8) rfl, ?_⟩
 refine (names64 g h9 (hg.ext hs.ext) hM).mono ?_
 rintro _ h20 ⟨⟨b1, rfl, hb1⟩, E⟩
 have hs := hs.step E
 refine ⟨_, rfl, sB_intro (fun c1 => ?_) (fun c1 => RP.f (fun hG => iff_f hb1 c1 ⟨hG.nam, hG.dcl⟩) hs.ext)⟩
 refine ⟨_, _, _, _, _, _, _, _, hs.at 0 rfl (o := 0) (n := 8) rfl, ?_⟩
 refine (numbers65 g h20 (hg.ext hs.ext)).mono ?_
 rintro _ h31 ⟨⟨b2, rfl, hb2⟩, E⟩
 have hs := hs.step E
 refine ⟨_, rfl, sB_intro (fun c2 => ?_) (fun c2 => RP.f (fun hG => iff_f hb2 c2 hG.num) hs.ext)⟩
 have hN := hb2.1 c2
 refine ⟨_, _, _, _, _, _, _, _, hs.at 0 rfl (o := 0) (n := 8) rfl, ?_⟩
 refine (apart66 g h31 (hg.ext hs.ext)).mono ?_
 rintro _ h42 ⟨⟨b3, rfl, hb3⟩, E⟩
 have hs := hs.step E
 refine ⟨_, rfl, sB_intro (fun c3 => ?_) (fun c3 => RP.f (fun hG => iff_f hb3 c3 ⟨hG.ord.s, hG.ord.p⟩) hs.ext)⟩
 refine ⟨_, _, _, _, _, _, _, _, hs.at 0 rfl (o := 0) (n := 8) rfl, ?_⟩
 refine (connected67 g h42 (hg.ext hs.ext) hN.R).mono ?_
 rintro _ h53 ⟨⟨b4, rfl, hb4⟩, E⟩
 have hs := hs.step E
 refine ⟨_, rfl, sB_intro (fun c4 => ?_) (fun c4 => RP.f (fun hG => iff_f hb4 c4 ⟨hG.fwd, hG.bwd, hG.ord.e⟩) hs.ext)⟩
 refine ⟨_, _, _, _, _, _, _, _, hs.at 0 rfl (o := 0) (n := 8) rfl, ?_⟩
 refine (timed68 g h53 (hg.ext hs.ext) hN).mono ?_
 rintro _ h64 ⟨⟨b5, rfl, hb5⟩, E⟩
 have f1 := hb1.1 c1
 have f3 := hb3.1 c3
 have f4 := hb4.1 c4
 exact ⟨_, rfl, RP.e (hb5.trans ⟨fun ht => ⟨f1.1, hN, f1.2, ⟨f4.e, f3.s, f3.p⟩, ht, f4.f, f4.b⟩, fun hG => hG.tim⟩) (hs.step E).ext⟩
theorem good49 (g : Gl) (role : Int) (h : Heap) (hg : GI h g) (hM : GNm g.ds) : Fn Pz 34 #[g.v, .int .i64 role] h (RP (ValidS g /\ 0 <= role /\ role < g.rs.length) h) := by
 apply vc34 (bs g.nm) g.hr g.hd g.n g.s g.e g.he g.ht; unfold W34
 have hrn := hg.r.ln
 refine (St.refl h).newb fun h9 hs => ?_
 refine ⟨_, _, _, _, _, _, _, _, hs.at 0 rfl (o := 0) (n := 8) rfl, ?_⟩
 refine (refValid31 g h9 (hg.ext hs.ext) hM).mono ?_
 rintro _ h20 ⟨⟨b1, rfl, hb1⟩, E⟩
 have hs := hs.step E
 exact ⟨_, rfl, sB_intro (fun c1 => sBi (fun c2 => ⟨_, hs.rd 0 rfl rfl, RP.e ⟨fun hb => ⟨hb1.1 c1, by omega, by have := Yyn hb; omega⟩, fun hG => decide_eq_true (by omega)⟩ hs.ext⟩) (fun c2 => RP.f (fun hG => c2 (by omega)) hs.ext)) (fun c1 => RP.f (fun hG => iff_f hb1 c1 hG.1) hs.ext)⟩
end Go.VC
end

section
/- Plain: the rows of the view table, what a view asks, who owns a state (turned from the texts of layer 25). No program here. -/
namespace Go.VC
open Go.LexS
theorem rowI_get {S : List PSet} {p : PSet} : (rowS S p)[rowI S p]? = some p := by
 classical
 unfold rowS
 split
 ·
  rename_i h
  induction S with
  | nil => cases h
  | cons q r ih =>
   rw [rowI]
   split
   ·
    rename_i e; rw [e]; rfl
   ·
    rename_i e
    rw [List.getElem?_cons_succ]
    refine ih ?_
    rcases Yr.1 h with h | h
    ·
     exact absurd h.symm e
    ·
     exact h
 ·
  rename_i h
  rw [rowI_of_not h, Yyc (Yyt _), Nat.sub_self]; rfl
def RowOk (es : List Ed) (role : Int) (S : List PSet) (k : Nat) (m : Mv) : Prop := ∃ (r : Nat) (p : PSet), m.f = (r : Int) /\ r < k /\ S[r]? = some p /\ m.ev ∈ evs es role p /\ ∃ t : Nat, m.t = (t : Int) /\ S[t]? = some (clo es role (toL es role p m.ev))
theorem RowOk.ext {es : List Ed} {role : Int} {S : List PSet} {k : Nat} {m : Mv} {q : PSet} (h : RowOk es role S k m) : RowOk es role (rowS S q) k m := by
 obtain ⟨r, p, h1, h2, h3, h4, t, h5, h6⟩ := h
 exact ⟨r, p, h1, h2, rowS_get h3, h4, t, h5, rowS_get h6⟩
structure VR (es : List Ed) (role : Int) (S : List PSet) (M : List Mv) (i : Nat) : Prop where
 a : ∀ m ∈ M, RowOk es role S i m
 b : ∀ (r : Nat) p, r < i -> S[r]? = some p -> ∀ x ∈ evs es role p, ∃ m ∈ M, m.f = (r : Int) /\ m.ev = x
theorem arcsF_vr {es : List Ed} {role : Int} {i : Nat} {p : PSet} : ∀ (l : List Ev) (S : List PSet) (M : List Mv), S[i]? = some p -> (∀ x ∈ l, x ∈ evs es role p) -> (∀ m ∈ M, RowOk es role S (i + 1) m) ->
  (∀ (r : Nat) q, r < i -> S[r]? = some q -> ∀ x ∈ evs es role q, ∃ m ∈ M, m.f = (r : Int) /\ m.ev = x) -> (∀ x ∈ evs es role p, x ∈ l \/ ∃ m ∈ M, m.f = (i : Int) /\ m.ev = x) ->
  VR es role (arcsF es role i p l S M).1 (arcsF es role i p l S M).2 (i + 1) /\ ∀ (j : Nat) q, S[j]? = some q -> (arcsF es role i p l S M).1[j]? = some q
 | [], S, M, hi, hl, hA, hB, hC => ⟨⟨hA, fun r q hr hq x hx => by
   by_cases e : r = i
   ·
    subst e
    show ∃ m ∈ M, _
    have hq' : S[r]? = some q := hq
    rw [hi] at hq'; cases hq'
    rcases hC x hx with h | h
    ·
     cases h
    ·
     exact h
   ·
    exact hB r q (by omega) hq x hx⟩, fun j q hq => hq⟩
 | x :: l, S, M, hi, hl, hA, hB, hC => by
  rw [arcsF]
  have hil := (Ya.1 hi).1
  have ih := arcsF_vr (es := es) (role := role) (i := i) (p := p) l (rowS S (clo es role (toL es role p x))) (M ++ [⟨i, x.send, x.peer, x.label, rowI S (clo es role (toL es role p x)), false⟩]) (rowS_get hi) (fun y hy => hl y (Yn _ hy)) ?_ ?_ ?_
  ·
   exact ⟨ih.1, fun j q hq => ih.2 j q (rowS_get hq)⟩
  ·
   intro m hm
   rcases Yk.1 hm with hm | hm
   ·
    exact (hA m hm).ext
   ·
    rw [Ye] at hm
    subst hm
    exact ⟨i, p, rfl, by omega, rowS_get hi, hl x (Yx ..), _, rfl, rowI_get⟩
  ·
   intro r q hr hq y hy
   have hrl : r < S.length := by omega
   have hq' : S[r]? = some q := by
    have h2 := rowS_get (p := clo es role (toL es role p x)) (Yi hrl)
    rw [hq] at h2
    rw [Yi hrl]; exact h2.symm ▸ rfl
   obtain ⟨m, hm, h1, h2⟩ := hB r q hr hq' y hy
   exact ⟨m, List.mem_append_left _ hm, h1, h2⟩
  ·
   intro y hy
   rcases hC y hy with h | ⟨m, hm, h1, h2⟩
   ·
    rcases Yr.1 h with rfl | h
    ·
     exact .inr ⟨_, List.mem_append_right _ (Ye.2 rfl), rfl, rfl⟩
    ·
     exact .inl h
   ·
    exact .inr ⟨m, List.mem_append_left _ hm, h1, h2⟩
theorem viewsF_vr {es : List Ed} {role : Int} : ∀ (f i : Nat) (S : List PSet) (M : List Mv) {S' : List PSet} {M' : List Mv}, VR es role S M i -> i <= S.length -> viewsF es role f i S M = some (S', M') -> VR es role S' M' S'.length /\ ∀ (j : Nat) q, S[j]? = some q -> S'[j]? = some q
 | 0, _, _, _, _, _, _, _, h => by cases h
 | f + 1, i, S, M, S', M', hv, hi, h => by
  rw [viewsF] at h
  cases hg : S[i]? with
  | none =>
   rw [hg] at h
   cases h
   have : i = S.length := by have := List.getElem?_eq_none_iff.1 hg; omega
   subst this
   exact ⟨hv, fun j q hq => hq⟩
  | some p =>
   rw [hg] at h
   replace h : (if (arcsF es role i p (evs es role p) S M).1.length > 200 then none else viewsF es role f (i + 1) (arcsF es role i p (evs es role p) S M).1 (arcsF es role i p (evs es role p) S M).2) = some (S', M') := h
   have hil := (Ya.1 hg).1
   obtain ⟨h1, h2⟩ := arcsF_vr (es := es) (role := role) (i := i) (p := p) (evs es role p) S M hg (fun x hx => hx) (fun m hm => by
    obtain ⟨r, q, a1, a2, a3⟩ := hv.a m hm
    exact ⟨r, q, a1, by omega, a3⟩) hv.b (fun x hx => .inl hx)
   split at h
   ·
    cases h
   ·
    have hi2 := (Ya.1 (h2 i p hg)).1
    have ih := viewsF_vr f (i + 1) _ _ h1 (by omega) h
    exact ⟨ih.1, fun j q hq => ih.2 j q (h2 j q hq)⟩
theorem views_vr {g : Gl} {role : Int} {S : List PSet} {M : List Mv} (h : views g role = some (S, M)) : VR g.es role S M S.length /\ S[0]? = some (clo g.es role [g.s]) := by
 unfold views at h
 obtain ⟨h1, h2⟩ := viewsF_vr 202 0 _ [] ⟨fun m hm => (by cases hm), fun r _ hr => (by omega)⟩ (by simp) h
 exact ⟨h1, h2 0 _ rfl⟩
def skM (m : Mv) : Int × Ev × Int := (m.f, m.ev, m.t)
theorem updR_sk (n : Nat) (x : Ti) (y : Mv) : skM (updR n x y) = skM y := by
 obtain ⟨h1, h2, h3, h4, h5⟩ := updR_same n x y
 unfold skM Mv.ev
 rw [h1, h2, h3, h4, h5]
theorem rawL_sk {vw : List Nat -> Option Ti} : ∀ (n : Nat) (S : List PSet) (M : List Mv) (L : List To) {M' : List Mv} {L' : List To}, rawL vw n S M L = some (M', L') -> M'.map skM = M.map skM
 | _, [], M, L, M', L', h => by cases h; rfl
 | n, p :: S, M, L, M', L', h => by
  rw [rawL] at h
  cases hv : vw (elems p) with
  | none => rw [hv] at h; cases h
  | some x =>
   rw [hv] at h
   have := rawL_sk (n + 1) S _ _ h
   rw [this, List.map_map]
   exact List.map_congr_left fun y _ => updR_sk n x y
structure RawV (g : Gl) (role : Int) (w : Mch) (S : List PSet) : Prop where
 ro : w.role = role
 n : w.n = (S.length : Nat)
 s : w.s = 0
 f : w.fin = S.map (fun p => p g.e.toNat)
 z : S[0]? = some (clo g.es role [g.s])
 a : ∀ m ∈ w.mv, RowOk g.es role S S.length m
 b : ∀ (r : Nat) p, S[r]? = some p -> ∀ x ∈ evs g.es role p, ∃ m ∈ w.mv, m.f = (r : Int) /\ m.ev = x
theorem raw_v {g : Gl} {role : Int} {w : Mch} (h : raw g role = (some w, 0)) : (ValidS g /\ 0 <= role /\ role < g.rs.length) /\ ∃ S, RawV g role w S /\ ∃ M, views g role = some (S, M) /\ rawL (vwG g role) 0 S M [] = some (w.mv, w.li) := by
 unfold raw at h
 split at h
 ·
  cases h
 ·
  rename_i hv
  refine ⟨Classical.not_not.1 hv, ?_⟩
  split at h
  ·
   cases h
  ·
   rename_i S M hvw
   split at h
   ·
    cases h
   ·
    split at h
    ·
     cases h
    ·
     rename_i M' L hrl
     cases h
     obtain ⟨h1, h2⟩ := views_vr hvw
     have hsk := rawL_sk 0 S M [] hrl
     have back : ∀ m ∈ M', ∃ m0 ∈ M, skM m0 = skM m := fun m hm => by
      have : skM m ∈ M.map skM := by rw [<- hsk]; exact List.mem_map_of_mem hm
      obtain ⟨m0, hm0, e⟩ := Yp.1 this
      exact ⟨m0, hm0, e⟩
     have forth : ∀ m ∈ M, ∃ m0 ∈ M', skM m0 = skM m := fun m hm => by
      have : skM m ∈ M'.map skM := by rw [hsk]; exact List.mem_map_of_mem hm
      obtain ⟨m0, hm0, e⟩ := Yp.1 this
      exact ⟨m0, hm0, e⟩
     refine ⟨S, ⟨rfl, rfl, rfl, rfl, h2, fun m hm => ?_, fun r p hr x hx => ?_⟩, M, hvw, hrl⟩
     ·
      obtain ⟨m0, hm0, e⟩ := back m hm
      obtain ⟨r, p, a1, a2, a3, a4, t, a5, a6⟩ := h1.a m0 hm0
      have e1 : m0.f = m.f := congrArg Prod.fst e
      have e2 : m0.ev = m.ev := congrArg (fun q => q.2.1) e
      have e3 : m0.t = m.t := congrArg (fun q => q.2.2) e
      rw [e1] at a1; rw [e2] at a4 a6; rw [e3] at a5
      exact ⟨r, p, a1, a2, a3, a4, t, a5, a6⟩
     ·
      obtain ⟨m, hm, b1, b2⟩ := h1.b r p (Ya.1 hr).1 hr x hx
      obtain ⟨m0, hm0, e⟩ := forth m hm
      have e1 : m0.f = m.f := congrArg Prod.fst e
      have e2 : m0.ev = m.ev := congrArg (fun q => q.2.1) e
      exact ⟨m0, hm0, by rw [e1, b1], by rw [e2, b2]⟩
theorem rawL_keep {vw : List Nat -> Option Ti} : ∀ (n : Nat) (S : List PSet) (M : List Mv) (L : List To) {M' : List Mv} {L' : List To}, rawL vw n S M L = some (M', L') ->
  (∀ (k : Nat) y, M[k]? = some y -> y.f < (n : Int) -> M'[k]? = some y) /\ ∃ E, L' = L ++ E /\ ∀ t ∈ E, (n : Int) <= t.s
 | _, [], M, L, M', L', h => by cases h; exact ⟨fun k y hy _ => hy, [], by simp, fun t ht => by cases ht⟩
 | n, p :: S, M, L, M', L', h => by
  rw [rawL] at h
  cases hv : vw (elems p) with
  | none => rw [hv] at h; cases h
  | some x =>
   rw [hv] at h
   obtain ⟨h1, E, h2, h3⟩ := rawL_keep (n + 1) S _ _ h
   refine ⟨fun k y hy hf => h1 k y ?_ (by omega), limR n x M ++ E, by rw [h2, Yz], fun t ht => ?_⟩
   ·
    rw [Yd, hy]
    show some (updR n x y) = some y
    unfold updR
    rw [if_neg (fun e => by have := e.1; omega)]
   ·
    rcases Yk.1 ht with ht | ht
    ·
     unfold limR at ht
     obtain ⟨q, _, hq⟩ := Yym.1 ht
     unfold limC at hq
     split at hq
     ·
      cases hq; show (n : Int) <= (n : Int); omega
     ·
      cases hq
    ·
     have := h3 t ht; omega
theorem zip_mem {α : Type} {l : List α} {q : α × Nat} : q ∈ l.zipIdx ↔ l[q.2]? = some q.1 := by
 obtain ⟨a, i⟩ := q
 rw [List.mk_mem_zipIdx_iff_getElem?]
theorem rawL_row {vw : List Nat -> Option Ti} : ∀ (n : Nat) (S : List PSet) (M : List Mv) (L : List To) {M' : List Mv} {L' : List To}, rawL vw n S M L = some (M', L') -> (∀ t ∈ L, t.s < (n : Int)) ->
  ∀ (i : Nat) p, S[i]? = some p -> ∃ x, vw (elems p) = some x /\ (∀ y ∈ M', y.f = ((n + i : Nat) : Int) -> y.send = true -> y.ag = x.ag) /\
   (∀ t ∈ L', t.s = ((n + i : Nat) : Int) -> t.k = x.k /\ 0 < x.k /\ ∃ y, M'[t.e.toNat]? = some y /\ y.f = ((n + i : Nat) : Int) /\ y.send = true /\ y.ev = x.x) /\
   (0 < x.k -> ∀ y ∈ M', y.f = ((n + i : Nat) : Int) -> y.send = true -> y.ev = x.x -> ∃ t ∈ L', t.s = ((n + i : Nat) : Int))
 | _, [], M, L, M', L', h, _, i, p, hp => by simp at hp
 | n, p0 :: S, M, L, M', L', h, hL, i, p, hp => by
  rw [rawL] at h
  cases hv : vw (elems p0) with
  | none => rw [hv] at h; cases h
  | some x =>
   rw [hv] at h
   replace h : rawL vw (n + 1) S (M.map (updR n x)) (L ++ limR n x M) = some (M', L') := h
   have hlim : ∀ t ∈ limR n x M, t.s = (n : Int) /\ t.k = x.k /\ 0 < x.k /\ ∃ (k : Nat) (y : Mv), t.e = (k : Int) /\ M[k]? = some y /\ y.f = (n : Int) /\ y.send = true /\ y.ev = x.x := fun t ht => by
    unfold limR at ht
    obtain ⟨q, hq1, hq⟩ := Yym.1 ht
    unfold limC at hq
    split at hq
    ·
     rename_i hc
     cases hq
     refine ⟨rfl, rfl, hc.2.2.1, q.2, q.1, rfl, zip_mem.1 hq1, hc.1, hc.2.1, ?_⟩
     unfold Mv.ev
     rw [hc.2.1, hc.2.2.2]
    ·
     cases hq
   cases i with
   | succ i =>
    have ih := rawL_row (n + 1) S _ _ h (fun t ht => by
     rcases Yk.1 ht with ht | ht
     ·
      have := hL t ht; omega
     ·
      have := (hlim t ht).1; omega) i p (by simpa using hp)
    rw [show n + 1 + i = n + (i + 1) by omega] at ih
    exact ih
   | zero =>
    have hp' : p0 = p := by simpa using hp
    subst hp'
    rw [Nat.add_zero]
    have hsk := rawL_sk (n + 1) S _ _ h
    obtain ⟨k1, E, k2, k3⟩ := rawL_keep (n + 1) S _ _ h
    have back : ∀ (k : Nat) y, M'[k]? = some y -> y.f = (n : Int) -> ∃ y0, M[k]? = some y0 /\ y = updR n x y0 := fun k y hy hf => by
     have hl : k < (M.map (updR n x)).length := by
      have h1 := congrArg List.length hsk
      rw [Yc, Yc] at h1
      rw [<- h1]; exact (Ya.1 hy).1
     obtain ⟨y1, hy1⟩ := get_some hl
     have h2 : skM y = skM y1 := by
      have h3 := congrArg (·[k]?) hsk
      simp only [Yd, hy, hy1] at h3
      exact Yyp h3
     have h4 : y.f = y1.f := congrArg Prod.fst h2
     have h5 := k1 k y1 hy1 (by omega)
     rw [hy] at h5
     rw [Yd] at hy1
     obtain ⟨y0, hy0, e⟩ := Yya.1 hy1
     exact ⟨y0, hy0, by rw [e]; exact Yyp h5⟩
    have forth : ∀ (k : Nat) y0, M[k]? = some y0 -> y0.f = (n : Int) -> M'[k]? = some (updR n x y0) := fun k y0 hy0 hf => by
     refine k1 k _ (by rw [Yd, hy0]; rfl) ?_
     rw [(updR_same n x y0).1]; omega
    have evu : ∀ y0 : Mv, (updR n x y0).ev = y0.ev := fun y0 => by
     obtain ⟨_, h2, h3, h4, _⟩ := updR_same n x y0
     unfold Mv.ev; rw [h2, h3, h4]
    refine ⟨x, hv, fun y hy hf hsd => ?_, fun t ht hts => ?_, fun hk y hy hf hsd hev => ?_⟩
    ·
     obtain ⟨k, hk⟩ := Yf.1 hy
     obtain ⟨y0, hy0, e⟩ := back k y hk hf
     have hf0 : y0.f = (n : Int) := by rw [<- (updR_same n x y0).1, <- e]; exact hf
     have hs0 : y0.send = true := by rw [<- (updR_same n x y0).2.1, <- e]; exact hsd
     rw [e]; unfold updR; rw [if_pos ⟨hf0, hs0⟩]
    ·
     rw [k2] at ht
     rcases Yk.1 ht with ht | ht
     ·
      rcases Yk.1 ht with ht | ht
      ·
       have := hL t ht; omega
      ·
       obtain ⟨_, a2, a3, k, y, a4, a5, a6, a7, a8⟩ := hlim t ht
       refine ⟨a2, a3, updR n x y, by rw [a4]; exact forth k y a5 a6, ?_, ?_, by rw [evu]; exact a8⟩
       ·
        rw [(updR_same n x y).1]; exact a6
       ·
        rw [(updR_same n x y).2.1]; exact a7
     ·
      have := k3 t ht; omega
    ·
     obtain ⟨k, hk2⟩ := Yf.1 hy
     obtain ⟨y0, hy0, e⟩ := back k y hk2 hf
     have hf0 : y0.f = (n : Int) := by rw [<- (updR_same n x y0).1, <- e]; exact hf
     have hs0 : y0.send = true := by rw [<- (updR_same n x y0).2.1, <- e]; exact hsd
     have he0 : y0.ev = x.x := by rw [<- evu, <- e]; exact hev
     refine ⟨⟨n, x.k, k⟩, ?_, rfl⟩
     rw [k2]
     refine List.mem_append_left _ (List.mem_append_right _ ?_)
     unfold limR
     refine Yym.2 ⟨(y0, k), zip_mem.2 hy0, ?_⟩
     unfold limC
     rw [if_pos ⟨hf0, hs0, hk, by rw [<- he0]; unfold Mv.ev; rw [hs0]⟩]
theorem foldV {F : Nat -> List Ev} {en : Nat -> Bool} {O : List Bool} {T : List Ti} {l : List Nat} : ∀ (m : List Nat) (k : Bool) (o : Ti) {k' : Bool} {o' : Ti}, m.foldl (stepV F en O T l) (some (k, o)) = some (k', o') ->
  (k = true -> k' = true /\ o' = o) /\ ∀ n ∈ m, badV F en l n = false /\ ∀ t, O[n]? = some true -> T[n]? = some t -> k' = true /\ o' = t
 | [], k, o, k', o', h => by cases h; exact ⟨fun h => ⟨h, rfl⟩, fun n hn => by cases hn⟩
 | n :: m, k, o, k', o', h => by
  rw [List.foldl_cons] at h
  cases hb : badV F en l n with
  | true =>
   have e : stepV F en O T l (some (k, o)) n = none := by simp only [stepV, hb, if_true]
   rw [e, stepV_none] at h; cases h
  | false =>
   cases hO : O[n]? with
   | none =>
    have e : stepV F en O T l (some (k, o)) n = some (k, o) := by simp [stepV, hb, hO]
    rw [e] at h
    obtain ⟨h1, h2⟩ := foldV m k o h
    refine ⟨h1, fun n' hn' => ?_⟩
    rcases Yr.1 hn' with rfl | hn'
    ·
     exact ⟨hb, fun t h3 => by rw [hO] at h3; cases h3⟩
    ·
     exact h2 n' hn'
   | some b =>
    cases b with
    | false =>
     have e : stepV F en O T l (some (k, o)) n = some (k, o) := by simp [stepV, hb, hO]
     rw [e] at h
     obtain ⟨h1, h2⟩ := foldV m k o h
     refine ⟨h1, fun n' hn' => ?_⟩
     rcases Yr.1 hn' with rfl | hn'
     ·
      exact ⟨hb, fun t h3 => by rw [hO] at h3; cases h3⟩
     ·
      exact h2 n' hn'
    | true =>
     cases hT : T[n]? with
     | none =>
      have e : stepV F en O T l (some (k, o)) n = some (k, o) := by simp [stepV, hb, hO, hT]
      rw [e] at h
      obtain ⟨h1, h2⟩ := foldV m k o h
      refine ⟨h1, fun n' hn' => ?_⟩
      rcases Yr.1 hn' with rfl | hn'
      ·
       exact ⟨hb, fun t _ h4 => by rw [hT] at h4; cases h4⟩
      ·
       exact h2 n' hn'
     | some t =>
      have e : stepV F en O T l (some (k, o)) n = if k && decide (t ≠ o) then none else some (true, t) := by simp [stepV, hb, hO, hT]
      rw [e] at h
      split at h
      ·
       rw [stepV_none] at h; cases h
      ·
       rename_i hk
       obtain ⟨h1, h2⟩ := foldV m true t h
       obtain ⟨h3, h4⟩ := h1 rfl
       refine ⟨fun hkt => ⟨h3, ?_⟩, fun n' hn' => ?_⟩
       ·
        rw [hkt, Bool.true_and, decide_eq_true_eq, Classical.not_not] at hk
        rw [h4, hk]
       ·
        rcases Yr.1 hn' with rfl | hn'
        ·
         exact ⟨hb, fun t' _ h6 => by rw [hT] at h6; cases h6; exact ⟨h3, h4⟩⟩
        ·
         exact h2 n' hn'
theorem viewV_row {F : Nat -> List Ev} {en : Nat -> Bool} {O : List Bool} {T : List Ti} {l : List Nat} {o : Ti} (h : viewV F en O T l = some o) {n : Nat} (hn : n ∈ l) : badV F en l n = false /\ ∀ t, O[n]? = some true -> T[n]? = some t -> o = t := by
 unfold viewV at h
 obtain ⟨⟨k, o'⟩, h1, h2⟩ := Yya.1 h
 obtain ⟨_, h3⟩ := foldV l false ti0 h1
 obtain ⟨h4, h5⟩ := h3 n hn
 exact ⟨h4, fun t hO hT => by rw [<- h2]; exact (h5 t hO hT).2⟩
theorem updT_at (T : List Ti) (n : Nat) (f : Ti -> Ti) (k : Nat) : (updT T n f)[k]? = if k = n then (T[k]?).map f else T[k]? := by
 unfold updT
 split
 ·
  rename_i t ht
  by_cases e : k = n
  ·
   subst e
   rw [if_pos rfl, Yq (Ya.1 ht).1, ht]; rfl
  ·
   rw [if_neg e, Yy (fun h => e h.symm)]
 ·
  rename_i ht
  by_cases e : k = n
  ·
   subst e; rw [if_pos rfl, ht]; rfl
  ·
   rw [if_neg e]
theorem ownE_row {es : List Ed} {role : Int} {n k : Nat} (hk : k < n) : (∀ x ∈ es, 0 <= x.f) -> (∀ x ∈ es, ¬ (x.f = (k : Int) /\ x.a = role)) /\ (ownE es role n).1[k]? = some false /\ (ownE es role n).2[k]? = some ti0 \/ ∃ x ∈ es, x.f = (k : Int) /\ x.a = role /\ (ownE es role n).1[k]? = some true /\ (ownE es role n).2[k]? = some ⟨x.ag, 0, ti0.x⟩ := by
 intro hf
 unfold ownE
 suffices h : ∀ (l : List Ed) (s : List Bool × List Ti), s.1.length = n -> (∀ x ∈ l, 0 <= x.f) -> ((l.foldl (own1 role) s).1[k]? = s.1[k]? /\ (l.foldl (own1 role) s).2[k]? = s.2[k]? /\ ∀ x ∈ l, ¬ (x.f = (k : Int) /\ x.a = role)) \/ ∃ x ∈ l, x.f = (k : Int) /\ x.a = role /\ (l.foldl (own1 role) s).1[k]? = some true /\ ∀ t, s.2[k]? = some t -> (l.foldl (own1 role) s).2[k]? = some ⟨x.ag, t.k, t.x⟩ by
  rcases h es (List.replicate n false, List.replicate n ti0) (by rw [Yg]) hf with ⟨h1, h2, h3⟩ | ⟨x, h1, h2, h3, h4, h5⟩
  ·
   refine .inl ⟨h3, ?_, ?_⟩
   ·
    rw [h1, List.getElem?_replicate, if_pos hk]
   ·
    rw [h2, List.getElem?_replicate, if_pos hk]
  ·
   exact .inr ⟨x, h1, h2, h3, h4, h5 ti0 (by rw [List.getElem?_replicate, if_pos hk])⟩
 intro l
 induction l with
 | nil => intro s _ _; exact .inl ⟨rfl, rfl, fun x hx => by cases hx⟩
 | cons a l ih =>
  intro s hs hf
  rw [List.foldl_cons]
  have hfa := hf a (Yx ..)
  have hfl : ∀ x ∈ l, 0 <= x.f := fun x hx => hf x (Yn _ hx)
  by_cases ha : a.a = role
  ·
   have e : own1 role s a = (s.1.set a.f.toNat true, updT s.2 a.f.toNat fun t => { t with ag := a.ag }) := by unfold own1; rw [if_pos ha]
   rw [e]
   have hs' : (s.1.set a.f.toNat true).length = n := by rw [Yyh]; exact hs
   by_cases hk2 : a.f = (k : Int)
   ·
    have hkn : a.f.toNat = k := by omega
    rw [hkn] at hs' ⊢
    have g1 : (s.1.set k true)[k]? = some true := Yq (by omega)
    have g2 : ∀ t, s.2[k]? = some t -> (updT s.2 k fun t => { t with ag := a.ag })[k]? = some ⟨a.ag, t.k, t.x⟩ := fun t ht => by rw [updT_at, if_pos rfl, ht]; rfl
    rcases ih (s.1.set k true, updT s.2 k fun t => { t with ag := a.ag }) hs' hfl with ⟨h1, h2, h3⟩ | ⟨x, h1, h2, h3, h4, h5⟩
    ·
     exact .inr ⟨a, Yx .., hk2, ha, by rw [h1]; exact g1, fun t ht => by rw [h2]; exact g2 t ht⟩
    ·
     exact .inr ⟨x, Yn _ h1, h2, h3, h4, fun t ht => h5 ⟨a.ag, t.k, t.x⟩ (g2 t ht)⟩
   ·
    have hkn : ¬ k = a.f.toNat := by omega
    have g1 : (s.1.set a.f.toNat true)[k]? = s.1[k]? := Yy (by omega)
    have g2 : (updT s.2 a.f.toNat fun t => { t with ag := a.ag })[k]? = s.2[k]? := by rw [updT_at, if_neg hkn]
    rcases ih (s.1.set a.f.toNat true, updT s.2 a.f.toNat fun t => { t with ag := a.ag }) hs' hfl with ⟨h1, h2, h3⟩ | ⟨x, h1, h2, h3, h4, h5⟩
    ·
     refine .inl ⟨by rw [h1]; exact g1, by rw [h2]; exact g2, fun x hx => ?_⟩
     rcases Yr.1 hx with rfl | hx
     ·
      exact fun h => hk2 h.1
     ·
      exact h3 x hx
    ·
     exact .inr ⟨x, Yn _ h1, h2, h3, h4, fun t ht => h5 t (by rw [g2]; exact ht)⟩
  ·
   have e : own1 role s a = s := by unfold own1; rw [if_neg ha]
   rw [e]
   rcases ih s hs hfl with ⟨h1, h2, h3⟩ | ⟨x, h1, h2, h3, h4, h5⟩
   ·
    refine .inl ⟨h1, h2, fun x hx => ?_⟩
    rcases Yr.1 hx with rfl | hx
    ·
     exact fun h => ha h.2
    ·
     exact h3 x hx
   ·
    exact .inr ⟨x, Yn _ h1, h2, h3, h4, h5⟩
theorem ownT_row {es : List Ed} {O : List Bool} {k : Nat} (hO : O[k]? = some true) : ∀ (l : List To) (T : List Ti) (t : Ti), (∀ u ∈ l, 0 <= u.s /\ ∃ z, es[u.e.toNat]? = some z) -> T[k]? = some t ->
  ((∀ u ∈ l, u.s ≠ (k : Int)) /\ (l.foldl (own2 es O) T)[k]? = some t) \/ ∃ u ∈ l, u.s = (k : Int) /\ ∃ z, es[u.e.toNat]? = some z /\ (l.foldl (own2 es O) T)[k]? = some ⟨t.ag, u.k, ⟨true, z.b, z.l⟩⟩
 | [], T, t, _, ht => .inl ⟨fun u hu => (by cases hu), ht⟩
 | u :: l, T, t, hl, ht => by
  rw [List.foldl_cons]
  obtain ⟨hu0, z, hz⟩ := hl u (Yx ..)
  have hl' : ∀ u ∈ l, 0 <= u.s /\ ∃ z, es[u.e.toNat]? = some z := fun u hu => hl u (Yn _ hu)
  by_cases hk : u.s = (k : Int)
  ·
   have hkn : u.s.toNat = k := by omega
   have e : own2 es O T u = updT T k fun q => ⟨q.ag, u.k, ⟨true, z.b, z.l⟩⟩ := by
    unfold own2; rw [hkn, hO, hz]
   have g : (own2 es O T u)[k]? = some ⟨t.ag, u.k, ⟨true, z.b, z.l⟩⟩ := by rw [e, updT_at, if_pos rfl, ht]; rfl
   rcases ownT_row hO l _ _ hl' g with ⟨_, h2⟩ | ⟨v, h1, h2, z', h3, h4⟩
   ·
    exact .inr ⟨u, Yx .., hk, z, hz, h2⟩
   ·
    exact .inr ⟨v, Yn _ h1, h2, z', h3, h4⟩
  ·
   have g : (own2 es O T u)[k]? = some t := by
    unfold own2
    split
    ·
     rw [updT_at, if_neg (by omega)]; exact ht
    ·
     exact ht
   rcases ownT_row hO l _ _ hl' g with ⟨h1, h2⟩ | ⟨v, h1, h2, z', h3, h4⟩
   ·
    refine .inl ⟨fun v hv => ?_, h2⟩
    rcases Yr.1 hv with rfl | hv
    ·
     exact hk
    ·
     exact h1 v hv
   ·
    exact .inr ⟨v, Yn _ h1, h2, z', h3, h4⟩
theorem row_same {g : Gl} (hV : ValidS g) {x y : Ed} (hx : x ∈ g.es) (hy : y ∈ g.es) (e : x.f = y.f) : x.a = y.a /\ x.ag = y.ag := by
 obtain ⟨i, hi⟩ := Yf.1 hx
 obtain ⟨k, hk⟩ := Yf.1 hy
 by_cases eik : i = k
 ·
  subst eik; rw [hi] at hk; cases hk; exact ⟨rfl, rfl⟩
 ·
  have h1 := hV.ord.p i x hi k y hk
  have h2 := hV.ord.p k y hk i x hi
  unfold PairBad at h1 h2
  have e1 : x.ag = false := by cases h : x.ag with | false => rfl | true => exact absurd (.inl ⟨eik, e, .inr (.inr h)⟩) h1
  have e2 : y.ag = false := by cases h : y.ag with | false => rfl | true => exact absurd (.inl ⟨fun h => eik h.symm, e.symm, .inr (.inr h)⟩) h2
  refine ⟨Classical.byContradiction fun h => h1 (.inl ⟨eik, e, .inr (.inl h)⟩), by rw [e1, e2]⟩
structure OwnR (g : Gl) (q : Int) (x : Ed) (t : Ti) : Prop where
 ag : t.ag = x.ag
 k : (∃ u ∈ g.ts, u.s = q /\ t.k = u.k /\ ∃ z, g.es[u.e.toNat]? = some z /\ t.x = ⟨true, z.b, z.l⟩) \/ (t.k = 0 /\ ∀ u ∈ g.ts, u.s ≠ q)
theorem own_row {g : Gl} (hV : ValidS g) {role : Int} {x : Ed} (hx : x ∈ g.es) (ha : x.a = role) : ∃ t, (ownE g.es role g.n.toNat).1[x.f.toNat]? = some true /\ (ownT g.es g.ts role g.n.toNat)[x.f.toNat]? = some t /\ OwnR g x.f x t := by
 have hr := hV.num.R.es x hx
 have hkf : ((x.f.toNat : Nat) : Int) = x.f := by omega
 rcases ownE_row (es := g.es) (role := role) (n := g.n.toNat) (k := x.f.toNat) (by omega) (fun y hy => (hV.num.R.es y hy).1) with ⟨h1, _⟩ | ⟨y, h1, h2, h3, h4, h5⟩
 ·
  exact absurd ⟨hkf.symm, ha⟩ (h1 x hx)
 ·
  have hsame := (row_same hV h1 hx (by omega)).2
  have hts : ∀ u ∈ g.ts, 0 <= u.s /\ ∃ z, g.es[u.e.toNat]? = some z := fun u hu => by
   obtain ⟨i, hi⟩ := Yf.1 hu
   obtain ⟨_, z, hz, hzf, _⟩ := (hV.tim i u hi).e
   have := hV.num.R.es z (Yb hz)
   exact ⟨by omega, z, hz⟩
  unfold ownT
  rcases ownT_row h4 g.ts (ownE g.es role g.n.toNat).2 _ hts h5 with ⟨k1, k2⟩ | ⟨u, k1, k2, z, k3, k4⟩
  ·
   exact ⟨_, h4, k2, hsame, .inr ⟨rfl, fun u hu => by have := k1 u hu; omega⟩⟩
  ·
   exact ⟨_, h4, k4, hsame, .inl ⟨u, k1, by omega, rfl, z, k3, rfl⟩⟩
theorem first_own {g : Gl} (hV : ValidS g) {role : Int} {x : Ed} (hx : x ∈ g.es) (ha : x.a = role) (e : Ev) : e ∈ firstE g role x.f ↔ ∃ y ∈ g.es, y.f = x.f /\ e = ⟨true, y.b, y.l⟩ := by
 have hr := hV.num.R.es x hx
 have hn := hV.num.n
 have own : ∀ y ∈ g.es, y.f = x.f -> vis1 role y = some ⟨true, y.b, y.l⟩ := fun y hy hf => by
  unfold vis1; rw [if_pos (by rw [(row_same hV hy hx hf).1, ha])]
 have hq : ∀ b, Qr g.es role [x.f] b -> b = x.f := fun b hb => by
  induction hb with
  | base h => exact Ye.1 h
  | step _ hstep ih =>
   obtain ⟨y, hy, hv, hf, _⟩ := hstep
   rw [own y hy (by omega)] at hv; cases hv
 unfold firstE evs
 rw [sortE_mem]
 unfold evL
 rw [List.mem_flatMap]
 constructor
 ·
  rintro ⟨n, hn1, hn2⟩
  obtain ⟨a, ha1, rfl⟩ := Yp.1 hn2
  have hnx := hq _ (clo_iff.1 (elems_mem.1 hn1).2)
  unfold visL at ha1
  obtain ⟨y, hy, h2⟩ := Yym.1 ha1
  split at h2
  ·
   rename_i hyf
   rw [own y hy (by omega)] at h2
   cases h2
   exact ⟨y, hy, by omega, rfl⟩
  ·
   cases h2
 ·
  rintro ⟨y, hy, hf, rfl⟩
  refine ⟨x.f.toNat, elems_mem.2 ⟨by omega, clo_iff.2 (.base (by rw [show ((x.f.toNat : Nat) : Int) = x.f by omega]; exact Ye.2 rfl))⟩, Yp.2 ⟨⟨⟨true, y.b, y.l⟩, y.t⟩, ?_, rfl⟩⟩
  unfold visL
  refine Yym.2 ⟨y, hy, ?_⟩
  rw [if_pos (by omega), own y hy hf]; rfl
theorem evs_own {g : Gl} (hV : ValidS g) {role : Int} {x : Ed} (hx : x ∈ g.es) (ha : x.a = role) {P : PSet} (hP : P x.f.toNat = true) {en : Nat -> Bool}
  (hb : badV (fun j : Nat => firstE g role j) en (elems P) x.f.toNat = false) (hlt : ∀ j, P j = true -> (j : Int) < g.n) (e : Ev) : e ∈ evs g.es role P ↔ ∃ y ∈ g.es, y.f = x.f /\ e = ⟨true, y.b, y.l⟩ := by
 have hr := hV.num.R.es x hx
 have hn := hV.num.n
 have hxf : ((x.f.toNat : Nat) : Int) = x.f := by omega
 have hfo := first_own hV hx ha
 have hF : ∀ k ∈ elems P, firstE g role x.f = firstE g role (k : Int) := by
  have hsnd : sndAt (firstE g role ((x.f.toNat : Nat) : Int)) 0 = true := by
   rw [hxf]
   have hm : (⟨true, x.b, x.l⟩ : Ev) ∈ firstE g role x.f := (hfo _).2 ⟨x, hx, rfl, rfl⟩
   obtain ⟨e0, h0⟩ := get_some (l := firstE g role x.f) (i := 0) (List.length_pos_of_mem hm)
   unfold sndAt
   rw [h0]
   obtain ⟨y, _, _, he⟩ := (hfo e0).1 (Yb h0)
   rw [he]
  unfold badV at hb
  rw [hsnd, Bool.true_and, Bool.or_eq_false_iff, List.any_eq_false] at hb
  intro k hk
  have := hb.2 k hk
  rw [Bool.not_eq_true, Bool.or_eq_false_iff, decide_eq_false_iff_not, Classical.not_not] at this
  have h9 : firstE g role ((x.f.toNat : Nat) : Int) = firstE g role (k : Int) := this.2
  rw [hxf] at h9
  exact h9
 rw [<- hfo]
 constructor
 ·
  intro he
  obtain ⟨n, hn1, hn2⟩ := List.mem_flatMap.1 ((sortE_mem _ _).1 he)
  rw [hF n hn1]
  refine (sortE_mem _ _).2 (List.mem_flatMap.2 ⟨n, elems_mem.2 ⟨(elems_mem.1 hn1).1, clo_iff.2 (.base (Ye.2 rfl))⟩, hn2⟩)
 ·
  intro he
  obtain ⟨y, hy, hf, rfl⟩ := (hfo e).1 he
  have own : vis1 role y = some ⟨true, y.b, y.l⟩ := by
   unfold vis1; rw [if_pos (by rw [(row_same hV hy hx hf).1, ha])]
  refine (sortE_mem _ _).2 (List.mem_flatMap.2 ⟨x.f.toNat, elems_mem.2 ⟨by omega, hP⟩, Yp.2 ⟨⟨⟨true, y.b, y.l⟩, y.t⟩, ?_, rfl⟩⟩)
  unfold visL
  refine Yym.2 ⟨y, hy, ?_⟩
  rw [if_pos (by omega), own]; rfl
theorem limR_facts {n : Nat} {o : Ti} {M : List Mv} (hM : M.Pairwise mvLt) : (limR n o M).length <= 1 /\ ∀ t ∈ limR n o M, t.s = (n : Int) /\ ∃ y, M[t.e.toNat]? = some y /\ y.f = (n : Int) := by
 have hmem : ∀ t ∈ limR n o M, t.s = (n : Int) /\ ∃ (i : Nat) (y : Mv), t.e = (i : Int) /\ M[i]? = some y /\ y.f = (n : Int) /\ y.ev = o.x := by
  intro t ht
  unfold limR at ht
  obtain ⟨q, hq, h2⟩ := Yym.1 ht
  obtain ⟨y, i⟩ := q
  rw [List.mem_zipIdx_iff_getElem?] at hq
  unfold limC at h2
  split at h2
  ·
   rename_i hc
   cases h2
   refine ⟨rfl, i, y, rfl, hq, hc.1, ?_⟩
   rw [hc.2.2.2]
   exact ev_ext hc.2.1 rfl rfl
  ·
   cases h2
 refine ⟨?_, fun t ht => ?_⟩
 ·
  have key : ∀ k, k <= M.length -> ((M.take k).zipIdx.filterMap (limC n o)).length <= 1 /\ ((∃ i y, i < k /\ M[i]? = some y /\ limC n o (y, i) ≠ none) \/ (M.take k).zipIdx.filterMap (limC n o) = []) := by
   intro k
   induction k with
   | zero => intro _; exact ⟨by simp, .inr rfl⟩
   | succ k ih =>
    intro hk
    obtain ⟨y, hy⟩ := get_some (l := M) (i := k) (by omega)
    obtain ⟨h1, h2⟩ := ih (by omega)
    rw [zip_snoc hy, List.filterMap_append]
    cases hl : limC n o (y, k) with
    | none =>
     have e : [(y, k)].filterMap (limC n o) = [] := by simp [hl]
     rw [e, Yw]
     refine ⟨h1, ?_⟩
     rcases h2 with ⟨i, z, hi, h3, h4⟩ | h2
     ·
      exact .inl ⟨i, z, by omega, h3, h4⟩
     ·
      exact .inr h2
    | some t =>
     have e : [(y, k)].filterMap (limC n o) = [t] := by simp [hl]
     rw [e]
     rcases h2 with ⟨i, z, hi, h3, h4⟩ | h2
     ·
      exfalso
      have hz : z.f = (n : Int) /\ z.ev = o.x := by
       unfold limC at h4
       split at h4
       ·
        rename_i hc; exact ⟨hc.1, by rw [hc.2.2.2]; exact ev_ext hc.2.1 rfl rfl⟩
       ·
        exact absurd rfl h4
      have hyy : y.f = (n : Int) /\ y.ev = o.x := by
       unfold limC at hl
       split at hl
       ·
        rename_i hc; exact ⟨hc.1, by rw [hc.2.2.2]; exact ev_ext hc.2.1 rfl rfl⟩
       ·
        cases hl
      rcases mvLt_get hM hi h3 hy with h5 | ⟨_, h5⟩
      ·
       omega
      ·
       rw [hz.2, hyy.2] at h5; exact evLt_irr _ h5
     ·
      rw [h2]
      exact ⟨by simp, .inl ⟨k, y, by omega, hy, by rw [hl]; simp⟩⟩
  have := (key M.length (Yyt _)).1
  rw [Yye] at this
  exact this
 ·
  obtain ⟨h1, i, y, h2, h3, h4, _⟩ := hmem t ht
  exact ⟨h1, y, by rw [h2, Ys]; exact h3, h4⟩
end Go.VC
end

section
/- Plain: the view machine of a valid automaton is valid, and its moves are sorted. No program here. -/
namespace Go.VC
open Go.LexS
structure VN (S : List PSet) (M : List Mv) : Prop where
 n : nxL M = (S.length : Int)
 a : ∀ (i : Nat) x, M[i]? = some x -> x.t <= nxL (M.take i) /\ x.f < nxL (M.take i)
theorem vn_snoc {S : List PSet} {M : List Mv} (h : VN S M) {x : Mv} {q : PSet} (hf : x.f < (S.length : Int)) (ht : x.t = (rowI S q : Nat)) : VN (rowS S q) (M ++ [x]) := by
 have hle : rowI S q <= S.length := by have h1 := rowI_le S q; have h2 := (rowS_len (S := S) (p := q)).1; omega
 refine ⟨?_, fun i y hy => ?_⟩
 ·
  rw [nxL_snoc, h.n, ht]
  unfold rowS
  by_cases hq : q ∈ S
  ·
   have := rowI_lt.2 hq
   rw [if_pos hq, if_neg (by omega)]
  ·
   rw [if_neg hq, rowI_of_not hq, if_pos rfl, Yh, Yv]; omega
 ·
  by_cases c : i < M.length
  ·
   rw [Yyi c] at hy
   rw [Yyq (by omega)]
   exact h.a i y hy
  ·
   have hl := (Ya.1 hy).1
   rw [Yh, Yv] at hl
   have e : i = M.length := by omega
   subst e
   rw [Yyc (Yyt _), Nat.sub_self] at hy
   cases hy
   rw [Yyq (Yyt _), Yye, h.n, ht]
   exact ⟨by omega, hf⟩
theorem arcsF_vn {es : List Ed} {role : Int} {i : Nat} {p : PSet} : ∀ (l : List Ev) (S : List PSet) (M : List Mv), i < S.length -> VN S M -> (∀ m ∈ M, m.ag = false) ->
  VN (arcsF es role i p l S M).1 (arcsF es role i p l S M).2 /\ S.length <= (arcsF es role i p l S M).1.length /\ ∀ m ∈ (arcsF es role i p l S M).2, m.ag = false
 | [], S, M, _, h, ha => ⟨h, Yyt _, ha⟩
 | x :: r, S, M, hi, h, ha => by
  rw [arcsF]
  have h1 := (rowS_len (S := S) (p := clo es role (toL es role p x))).2
  obtain ⟨g1, g2, g3⟩ := arcsF_vn (es := es) (role := role) (i := i) (p := p) r (rowS S (clo es role (toL es role p x))) (M ++ [⟨i, x.send, x.peer, x.label, rowI S (clo es role (toL es role p x)), false⟩]) (by omega) (vn_snoc h (by show ((i : Nat) : Int) < _; omega) rfl) (fun m hm => by
   rcases Yk.1 hm with hm | hm
   ·
    exact ha m hm
   ·
    rw [Ye] at hm; rw [hm])
  exact ⟨g1, by omega, g3⟩
theorem viewsF_vn {es : List Ed} {role : Int} : ∀ (f i : Nat) (S : List PSet) (M : List Mv) {S' : List PSet} {M' : List Mv}, VN S M -> (∀ m ∈ M, m.ag = false) -> viewsF es role f i S M = some (S', M') -> VN S' M' /\ ∀ m ∈ M', m.ag = false
 | 0, i, S, M, S', M', _, _, h => by cases h
 | f + 1, i, S, M, S', M', h1, h2, h => by
  rw [viewsF] at h
  split at h
  ·
   cases h; exact ⟨h1, h2⟩
  ·
   rename_i p hp
   split at h
   ·
    cases h
   ·
    obtain ⟨g1, _, g3⟩ := arcsF_vn (es := es) (role := role) (p := p) (evs es role p) S M (Ya.1 hp).1 h1 h2
    exact viewsF_vn f (i + 1) _ _ g1 g3 h
theorem views_vn {g : Gl} {role : Int} {S : List PSet} {M : List Mv} (h : views g role = some (S, M)) : VN S M /\ ∀ m ∈ M, m.ag = false := by
 unfold views at h
 exact viewsF_vn 202 0 _ [] ⟨rfl, fun i x hx => by simp at hx⟩ (fun m hm => by cases hm) h
theorem arcsF_all {es : List Ed} {role : Int} {i : Nat} {p : PSet} {P : PSet -> Prop} (hc : ∀ x, P (clo es role (toL es role p x))) : ∀ (l : List Ev) (S : List PSet) (M : List Mv), (∀ s ∈ S, P s) -> ∀ s ∈ (arcsF es role i p l S M).1, P s
 | [], S, M, h => h
 | x :: r, S, M, h => by
  rw [arcsF]
  refine arcsF_all hc r _ _ fun s hs => ?_
  unfold rowS at hs
  split at hs
  ·
   exact h s hs
  ·
   rcases Yk.1 hs with hs | hs
   ·
    exact h s hs
   ·
    rw [Ye.1 hs]; exact hc x
theorem viewsF_all {es : List Ed} {role : Int} {P : PSet -> Prop} (hc : ∀ p x, P (clo es role (toL es role p x))) : ∀ (f i : Nat) (S : List PSet) (M : List Mv) {S' : List PSet} {M' : List Mv}, (∀ s ∈ S, P s) -> viewsF es role f i S M = some (S', M') -> ∀ s ∈ S', P s
 | 0, i, S, M, S', M', _, h => by cases h
 | f + 1, i, S, M, S', M', h1, h => by
  rw [viewsF] at h
  split at h
  ·
   cases h; exact h1
  ·
   rename_i p hp
   split at h
   ·
    cases h
   ·
    exact viewsF_all hc f (i + 1) _ _ (arcsF_all (hc p) _ _ _ h1) h
theorem views_lt {g : Gl} {role : Int} (hV : ValidS g) {S : List PSet} {M : List Mv} (h : views g role = some (S, M)) : ∀ p ∈ S, ∀ j, p j = true -> (j : Int) < g.n := by
 unfold views at h
 refine viewsF_all (P := fun p => ∀ j, p j = true -> (j : Int) < g.n) (fun p x => clo_lt hV (toL_lt hV)) 202 0 _ [] (fun s hs => ?_) h
 rw [Ye.1 hs]
 refine clo_lt hV fun x hx => ?_
 rw [Ye.1 hx]
 exact hV.num.R.s
theorem nxL_sk {l k : List Mv} (h : l.map skM = k.map skM) : nxL l = nxL k := by
 have e : ∀ l : List Mv, nxL l = (l.map skM).foldl (fun n q => if q.2.2 = n then n + 1 else n) 1 := fun l => by
  unfold nxL
  rw [List.foldl_map]; rfl
 rw [e, e, h]
theorem rawL_ag {vw : List Nat -> Option Ti} : ∀ (n : Nat) (S : List PSet) (M : List Mv) (L : List To) {M' : List Mv} {L' : List To}, (∀ y ∈ M, y.ag = true -> y.send = true) -> rawL vw n S M L = some (M', L') -> ∀ y ∈ M', y.ag = true -> y.send = true
 | _, [], M, L, M', L', hM, h => by cases h; exact hM
 | n, p :: S, M, L, M', L', hM, h => by
  rw [rawL] at h
  cases hv : vw (elems p) with
  | none => rw [hv] at h; cases h
  | some o =>
   rw [hv] at h
   refine rawL_ag (n + 1) S _ _ (fun y hy ha => ?_) h
   obtain ⟨z, hz, rfl⟩ := Yp.1 hy
   have hs := (updR_same n o z).2.1
   rw [hs]
   unfold updR at ha
   split at ha
   ·
    rename_i c; exact c.2
   ·
    exact hM z hz ha
theorem rawL_so {vw : List Nat -> Option Ti} : ∀ (n : Nat) (S : List PSet) (M : List Mv) (L : List To) {M' : List Mv} {L' : List To}, M.Pairwise mvLt -> (L.Pairwise fun a b => a.s < b.s) -> (∀ t ∈ L, t.s < (n : Int)) -> rawL vw n S M L = some (M', L') -> L'.Pairwise fun a b => a.s < b.s
 | _, [], M, L, M', L', _, hL, _, h => by cases h; exact hL
 | n, p :: S, M, L, M', L', hM, hL, hl, h => by
  rw [rawL] at h
  cases hv : vw (elems p) with
  | none => rw [hv] at h; cases h
  | some o =>
   rw [hv] at h
   replace h : rawL vw (n + 1) S (M.map (updR n o)) (L ++ limR n o M) = some (M', L') := h
   have hup : ∀ x, (updR n o x).f = x.f /\ (updR n o x).ev = x.ev := fun x => by
    obtain ⟨h1, h2, h3, h4, h5⟩ := updR_same n o x
    exact ⟨h1, by unfold Mv.ev; rw [h2, h3, h4]⟩
   obtain ⟨f1, f2⟩ := limR_facts (n := n) (o := o) hM
   refine rawL_so (n + 1) S (M.map (updR n o)) (L ++ limR n o M) ?_ ?_ ?_ h
   ·
    rw [List.pairwise_map]
    refine hM.imp fun {a b} hab => ?_
    unfold mvLt at hab ⊢
    rw [(hup a).1, (hup b).1, (hup a).2, (hup b).2]; exact hab
   ·
    rw [List.pairwise_append]
    refine ⟨hL, ?_, fun a ha b hb => ?_⟩
    ·
     generalize limR n o M = l at f1
     match l, f1 with
     | [], _ => exact List.Pairwise.nil
     | [a], _ => exact List.pairwise_singleton _ _
    ·
     have h5 := hl a ha
     have h6 := (f2 b hb).1
     omega
   ·
    intro t ht
    rcases Yk.1 ht with ht | ht
    ·
     have := hl t ht; omega
    ·
     have := (f2 t ht).1; omega
theorem evs_send {g : Gl} {role : Int} {p : PSet} {e : Ev} (h : e ∈ evs g.es role p) (hs : e.send = true) : ∃ z ∈ g.es, z.a = role /\ 0 <= z.f /\ z.f.toNat ∈ elems p /\ e = ⟨true, z.b, z.l⟩ := by
 obtain ⟨n, hn1, hn2⟩ := List.mem_flatMap.1 ((sortE_mem _ _).1 h)
 obtain ⟨a, ha1, rfl⟩ := Yp.1 hn2
 unfold visL at ha1
 obtain ⟨y, hy, h2⟩ := Yym.1 ha1
 split at h2
 ·
  rename_i hyf
  obtain ⟨e', he', rfl⟩ := Yya.1 h2
  unfold vis1 at he'
  split at he'
  ·
   rename_i hr
   cases he'
   exact ⟨y, hy, hr.symm, by omega, by rw [hyf, Ys]; exact hn1, rfl⟩
  ·
   split at he'
   ·
    cases he'; cases hs
   ·
    cases he'
 ·
  cases h2
structure RowS (g : Gl) (role : Int) (p : PSet) (o : Ti) (z : Ed) : Prop where
 zm : z ∈ g.es
 a : z.a = role
 el : z.f.toNat ∈ elems p
 ag : o.ag = z.ag
 k : (∃ u ∈ g.ts, u.s = z.f /\ o.k = u.k) \/ o.k = 0
 ev : ∀ e, e ∈ evs g.es role p ↔ ∃ y ∈ g.es, y.f = z.f /\ e = ⟨true, y.b, y.l⟩
 ne : p g.e.toNat = false
theorem row_s {g : Gl} (hV : ValidS g) {role : Int} {p : PSet} {o : Ti} (ho : vwG g role (elems p) = some o) (hlt : ∀ j, p j = true -> (j : Int) < g.n) {e : Ev} (he : e ∈ evs g.es role p) (hs : e.send = true) : ∃ z, RowS g role p o z /\ e = ⟨true, z.b, z.l⟩ := by
 obtain ⟨z, hz, ha, h0, hel, rfl⟩ := evs_send he hs
 have hr := hV.num.R.es z hz
 have hn := hV.num.R.n
 obtain ⟨hb, hT⟩ := viewV_row ho hel
 obtain ⟨t, k1, k2, k3⟩ := own_row hV hz ha
 have hot : o = t := hT t k1 k2
 subst hot
 have hev := evs_own hV hz ha (elems_mem.1 hel).2 hb hlt
 refine ⟨z, ⟨hz, ha, hel, k3.ag, ?_, hev, ?_⟩, rfl⟩
 ·
  rcases k3.k with ⟨u, hu, h1, h2, _⟩ | ⟨h1, _⟩
  ·
   exact .inl ⟨u, hu, h1, h2⟩
  ·
   exact .inr h1
 ·
  cases hpe : p g.e.toNat with
  | false => rfl
  | true =>
   exfalso
   have hge := hV.num.R.e
   have hzf : ((z.f.toNat : Nat) : Int) = z.f := by omega
   have hsnd : sndAt (firstE g role ((z.f.toNat : Nat) : Int)) 0 = true := by
    rw [hzf]
    have hm : (⟨true, z.b, z.l⟩ : Ev) ∈ firstE g role z.f := (first_own hV hz ha _).2 ⟨z, hz, rfl, rfl⟩
    obtain ⟨e0, h0⟩ := get_some (l := firstE g role z.f) (i := 0) (List.length_pos_of_mem hm)
    unfold sndAt
    rw [h0]
    obtain ⟨y, _, _, he⟩ := (first_own hV hz ha e0).1 (Yb h0)
    rw [he]
   unfold badV at hb
   rw [hsnd, Bool.true_and, Bool.or_eq_false_iff, List.any_eq_false] at hb
   have h9 := hb.2 g.e.toNat (elems_mem.2 ⟨by omega, hpe⟩)
   rw [Bool.not_eq_true, Bool.or_eq_false_iff] at h9
   have h10 : firstB g role ((g.e.toNat : Nat) : Int) = false := h9.1
   have h11 : firstB g role ((g.e.toNat : Nat) : Int) = true := by
    unfold firstB
    exact clo_iff.2 (.base (Ye.2 rfl))
   rw [h10] at h11; cases h11
theorem vis1_own {role : Int} {x : Ed} (h : x.a = role) : vis1 role x = some ⟨true, x.b, x.l⟩ := by
 unfold vis1; rw [if_pos h.symm]
theorem ag_in {g : Gl} (hV : ValidS g) {z y : Ed} (hz : z ∈ g.es) (hy : y ∈ g.es) (hag : z.ag = true) (ht : y.t = z.f) : y.a = z.a /\ y.l = z.l := by
 obtain ⟨i, hi⟩ := Yf.1 hz
 obtain ⟨k, hk⟩ := Yf.1 hy
 have h1 := hV.ord.p i z hi k y hk
 unfold PairBad at h1
 refine ⟨Classical.byContradiction fun c => h1 (.inr ⟨hag, ht, .inl fun e => c e.symm⟩), Classical.byContradiction fun c => h1 (.inr ⟨hag, ht, .inr fun e => c e.symm⟩)⟩
theorem ag_one {g : Gl} (hV : ValidS g) {z y : Ed} (hz : z ∈ g.es) (hy : y ∈ g.es) (hag : z.ag = true) (hf : y.f = z.f) : y = z := by
 obtain ⟨i, hi⟩ := Yf.1 hz
 obtain ⟨k, hk⟩ := Yf.1 hy
 have h1 := hV.ord.p i z hi k y hk
 unfold PairBad at h1
 by_cases e : i = k
 ·
  subst e; rw [hi] at hk; cases hk; rfl
 ·
  exact absurd (.inl ⟨e, hf.symm, .inr (.inr hag)⟩) h1
theorem ag_base {g : Gl} (hV : ValidS g) {z : Ed} (hz : z ∈ g.es) (hag : z.ag = true) {l : List Int} (h : Qr g.es z.a l z.f) : z.f ∈ l := by
 cases h with
 | base h => exact h
 | step _ hst =>
  obtain ⟨y, hy, hv, _, ht⟩ := hst
  rw [vis1_own (ag_in hV hz hy hag ht).1] at hv; cases hv
theorem srt_wm {w : Mch} (hN : NumM w) (hD : DetM w) (hT : TimM w) (hS : w.mv.Pairwise mvLt) : srtM w = w := by
 have e : srtV w = w.mv := srt_ext mvLt_irr (fun a b c => mvLt_trans) (srtV_lt hD) hS fun x => srtV_mem hN
 have hnd : w.mv.Nodup := hS.imp fun {a b} hab (e : a = b) => mvLt_irr b (by rw [e] at hab; exact hab)
 have hl : w.li.map (srtE w) = w.li := by
  have h1 : w.li.map (srtE w) = w.li.map id := List.map_congr_left fun t ht => by
   obtain ⟨i, hi⟩ := Yf.1 ht
   obtain ⟨h0, x, hx, _⟩ := (hT i t hi).e
   have h2 : idxF w.mv x = t.e.toNat := by
    have h3 := idxF_get (Yb hx)
    exact (List.getElem?_inj (idxF_lt (Yb hx)) hnd).1 (by rw [h3, hx])
   show (⟨t.s, t.k, ((idxF (srtV w) (w.mv.getD t.e.toNat ⟨0, false, 0, 0, 0, false⟩) : Nat) : Int)⟩ : To) = t
   rw [e, getD_some hx, h2, Int.toNat_of_nonneg h0]
  rw [h1, List.map_id]
 unfold srtM
 rw [e, hl]
theorem raw_vm {g : Gl} {role : Int} {w : Mch} (h : raw g role = (some w, 0)) : VM w /\ srtM w = w := by
 obtain ⟨⟨hV, hr0, hr1⟩, S, hR, M, hvw, hrl⟩ := raw_v h
 have hr6 := hV.nam.n6
 have hd40 := hV.dcl.pn
 obtain ⟨hO, hso⟩ := raw_ok (by omega) (by omega) h
 obtain ⟨hvn, hva⟩ := views_vn hvw
 obtain ⟨hvi, hS2, hS1⟩ := views_vi hV hvw
 have hsk := rawL_sk 0 S M [] hrl
 have hn := hR.n
 have hn200 := hO.n
 have hge := hV.num.R.e
 have row : ∀ x ∈ w.mv, ∃ (r : Nat) (p : PSet) (o : Ti), x.f = (r : Int) /\ r < S.length /\ S[r]? = some p /\ x.ev ∈ evs g.es role p /\ vwG g role (elems p) = some o /\ (x.send = true -> x.ag = o.ag) /\ (∀ j, p j = true -> (j : Int) < g.n) /\ ∃ t : Nat, x.t = (t : Int) /\ S[t]? = some (clo g.es role (toL g.es role p x.ev)) := fun x hx => by
  obtain ⟨r, p, h1, h2, h3, h4, t, h5, h6⟩ := hR.a x hx
  obtain ⟨o, ho, ha, _, _⟩ := rawL_row 0 S M [] hrl (fun t ht => by cases ht) r p h3
  rw [Nat.zero_add] at ha
  exact ⟨r, p, o, h1, h2, h3, h4, ho, ha x hx h1, views_lt hV hvw p (Yb h3), t, h5, h6⟩
 have hmv : ∀ x ∈ w.mv, 0 <= x.peer /\ x.peer < 6 /\ x.peer ≠ w.role /\ 0 <= x.label /\ x.label < 40 := fun x hx => by
  obtain ⟨r, p, o, h1, h2, h3, h4, _⟩ := row x hx
  obtain ⟨n, hn1, hn2⟩ := List.mem_flatMap.1 ((sortE_mem _ _).1 h4)
  obtain ⟨a, ha1, ha2⟩ := Yp.1 hn2
  unfold visL at ha1
  obtain ⟨y, hy, h6⟩ := Yym.1 ha1
  have hE := hV.num.e y hy
  unfold EdS at hE
  rw [hR.ro]
  split at h6
  ·
   obtain ⟨e', he', rfl⟩ := Yya.1 h6
   unfold vis1 at he'
   split at he'
   ·
    cases he'
    have e1 : y.b = x.peer := congrArg Ev.peer ha2
    have e2 : y.l = x.label := congrArg Ev.label ha2
    omega
   ·
    split at he'
    ·
     cases he'
     have e1 : y.a = x.peer := congrArg Ev.peer ha2
     have e2 : y.l = x.label := congrArg Ev.label ha2
     omega
    ·
     cases he'
  ·
   cases h6
 have hN : NumM w := by
  refine ⟨by rw [hR.ro]; omega, hO.n, hO.s, by have := hO.fl; omega, hO.ml, fun x hx => ?_⟩
  have h1 := hO.mv x hx
  have h2 := hmv x hx
  omega
 have one : ∀ {i k : Nat} {x y : Mv}, w.mv[i]? = some x -> w.mv[k]? = some y -> x.f = y.f -> x.ev = y.ev -> i = k := fun hx hy hf he => mv_pos hso hx hy hf he
 have same : ∀ {x y : Mv}, x ∈ w.mv -> y ∈ w.mv -> x.f = y.f -> x.send = true -> y.send = true := fun {x y} hx hy hf hs => by
  obtain ⟨r, p, o, h1, h2, h3, h4, h5, _, hlt, _⟩ := row x hx
  obtain ⟨r', p', o', h1', h2', h3', h4', _⟩ := row y hy
  have : r = r' := by omega
  subst this
  rw [h3] at h3'; cases h3'
  obtain ⟨z, hz, _⟩ := row_s hV h5 hlt h4 hs
  obtain ⟨y', _, _, he⟩ := (hz.ev _).1 h4'
  exact congrArg Ev.send he
 have hD : DetM w := fun i k x y hx hy hne hf => by
  refine ⟨fun he => hne (one hx hy hf he), ?_⟩
  have hxm := Yb hx
  have hym := Yb hy
  cases hxs : x.send with
  | true => exact (same hxm hym hf hxs).symm
  | false =>
   cases hys : y.send with
   | false => rfl
   | true => rw [same hym hxm hf.symm hys] at hxs; cases hxs
 have hags := rawL_ag 0 S M [] (fun y hy ha => by rw [hva y hy] at ha; cases ha) hrl
 have agz : ∀ x ∈ w.mv, x.ag = true -> ∃ (r : Nat) (p : PSet) (o : Ti) (z : Ed), x.f = (r : Int) /\ S[r]? = some p /\ RowS g role p o z /\ x.ev = ⟨true, z.b, z.l⟩ /\ z.ag = true := fun x hx ha => by
  obtain ⟨r, p, o, h1, h2, h3, h4, h5, h6, hlt, _⟩ := row x hx
  have hs := hags x hx ha
  obtain ⟨z, hz, he⟩ := row_s hV h5 hlt h4 hs
  exact ⟨r, p, o, z, h1, h3, hz, he, by rw [<- hz.ag, <- h6 hs]; exact ha⟩
 have hA : AgM w := by
  refine ⟨hags, fun x hx ha => ?_, fun x hx ha => ?_, fun x hx ha => ?_, fun x hx ha y hy ht => ?_⟩
  ·
   obtain ⟨r, p, o, z, h1, h3, hz, he, hzag⟩ := agz x hx ha
   obtain ⟨i, hi⟩ := Yf.1 hx
   have hall : ∀ k ∈ outIx w x.f, k = i := fun k hk => by
    obtain ⟨y, hy, hf⟩ := outIx_mem.1 hk
    obtain ⟨r', p', o', h1', h2', h3', h4', _⟩ := row y (Yb hy)
    have : r = r' := by omega
    subst this
    rw [h3] at h3'; cases h3'
    obtain ⟨y', hy', hf', he'⟩ := (hz.ev _).1 h4'
    rw [ag_one hV hz.zm hy' hzag hf'] at he'
    exact one hy hi hf (by rw [he, he'])
   have hmem : i ∈ outIx w x.f := outIx_mem.2 ⟨x, hi, rfl⟩
   have hnd := outIx_nodup w x.f
   generalize outIx w x.f = O at hall hmem hnd
   match O, hall, hmem, hnd with
   | [], _, hm, _ => cases hm
   | [a], _, _, _ => rfl
   | a :: b :: O, hall, _, hnd =>
    exfalso
    have e1 := hall a Yx
    have e2 := hall b (Yn _ Yx)
    rw [e1, e2] at hnd
    exact (List.nodup_cons.1 hnd).1 Yx
  ·
   obtain ⟨r, p, o, z, h1, h3, hz, he, hzag⟩ := agz x hx ha
   intro hf
   rw [hR.s] at hf
   have : r = 0 := by omega
   subst this
   rw [hR.z] at h3; cases h3
   have hr := hV.num.R.es z hz.zm
   have hq := clo_iff.1 (elems_mem.1 hz.el).2
   rw [Int.toNat_of_nonneg hr.1] at hq
   rw [<- hz.a] at hq
   exact hV.ord.s z hz.zm hzag (Ye.1 (ag_base hV hz.zm hzag hq))
  ·
   obtain ⟨r, p, o, z, h1, h3, hz, he, hzag⟩ := agz x hx ha
   rw [hR.f, h1, Ys, Yd, h3]
   show some (p g.e.toNat) = some false
   rw [hz.ne]
  ·
   obtain ⟨r, p, o, z, h1, h3, hz, he, hzag⟩ := agz x hx ha
   obtain ⟨r', p', o', _, _, _, h4', _, _, _, t, h7, h8⟩ := row y hy
   have : t = r := by omega
   subst this
   rw [h3] at h8; cases h8
   have hr := hV.num.R.es z hz.zm
   have hq := clo_iff.1 (elems_mem.1 hz.el).2
   rw [Int.toNat_of_nonneg hr.1] at hq
   rw [<- hz.a] at hq
   have hin := ag_base hV hz.zm hzag hq
   unfold toL at hin
   obtain ⟨n, _, h9⟩ := List.mem_flatMap.1 hin
   obtain ⟨a, ha9, h10⟩ := Yym.1 h9
   split at h10
   ·
    rename_i hax
    replace h10 := Yyp h10
    unfold visL at ha9
    obtain ⟨u, hu, h11⟩ := Yym.1 ha9
    split at h11
    ·
     obtain ⟨e', he', rfl⟩ := Yya.1 h11
     replace h10 : u.t = z.f := h10
     replace hax : e' = y.ev := hax
     obtain ⟨g1, g2⟩ := ag_in hV hz.zm hu hzag h10
     rw [vis1_own g1] at he'
     cases he'
     have e1 : true = y.send := congrArg Ev.send hax
     have e2 : u.l = y.label := congrArg Ev.label hax
     have e3 : x.label = z.l := congrArg Ev.label he
     exact ⟨e1.symm, by omega⟩
    ·
     cases h11
   ·
    cases h10
 have hT : TimM w := by
  have hls := rawL_so 0 S M [] hvi.so List.Pairwise.nil (fun t ht => by cases ht) hrl
  intro i t hi
  have htm := Yb hi
  obtain ⟨hs0, hs1, he0, he1, _⟩ := hO.li t htm
  obtain ⟨p, hp⟩ := get_some (l := S) (i := t.s.toNat) (by omega)
  obtain ⟨o, ho, ha, hl, _⟩ := rawL_row 0 S M [] hrl (fun t ht => by cases ht) t.s.toNat p hp
  rw [Nat.zero_add] at ha hl
  obtain ⟨k1, k2, y, k3, k4, k5, k6⟩ := hl t htm (by omega)
  have hym := Yb k3
  obtain ⟨r, p', o', h1, h2, h3, h4, h5, h6, hlt, _⟩ := row y hym
  have : r = t.s.toNat := by omega
  subst this
  rw [hp] at h3; cases h3
  rw [ho] at h5; cases h5
  obtain ⟨z, hz, he⟩ := row_s hV ho hlt h4 k5
  rcases hz.k with ⟨u, hu, hu1, hu2⟩ | h0
  ·
   obtain ⟨j, hj⟩ := Yf.1 hu
   have hu3 := hV.tim j u hj
   obtain ⟨_, x, hx, hxf, hxa⟩ := hu3.e
   have hza : z.ag = false := by
    rw [<- (row_same hV (Yb hx) hz.zm (by omega)).2]; exact hxa
   refine ⟨fun z hpos hz => ?_, ?_, he0, y, k3, by omega, k5, ?_⟩
   ·
    obtain ⟨a1, a2⟩ := Ya.1 hz
    obtain ⟨b1, b2⟩ := Ya.1 hi
    have h := List.pairwise_iff_getElem.1 hls (i - 1) i a1 b1 (by omega)
    rw [a2, b2] at h; exact h
   ·
    have := hu3.k; omega
   ·
    rw [h6 k5, hz.ag, hza]
  ·
   omega
 have hRc : RchM w := by
  refine num_reach ?_ (fun i x hx => ?_) hR.s fun x hx => (hN.mv x hx).1
  ·
   rw [nxL_sk hsk, hvn.n, hn]
  ·
   have h1 : (w.mv.take i).map skM = (M.take i).map skM := by rw [List.map_take, hsk, <- List.map_take]
   rw [nxL_sk h1]
   have h2 : (M.map skM)[i]? = some (skM x) := by rw [<- hsk, Yd, hx]; rfl
   rw [Yd] at h2
   obtain ⟨y, hy, e⟩ := Yya.1 h2
   have e1 : y.f = x.f := congrArg Prod.fst e
   have e3 : y.t = x.t := congrArg (fun q => q.2.2) e
   rw [<- e1, <- e3]
   exact hvn.a i y hy
 exact ⟨⟨hN, hD, hRc, hA, hT⟩, srt_wm hN hD hT hso⟩
end Go.VC
end

section
/- Contracts: equal time limits, states alike, the reference's classes, its minimal machine. (Numbers of layer 26's seat.) -/
namespace Go.VC
open Go.Proofs Go.LexS Go.Maps
end Go.VC
end

section
/- Contracts: the reference's classes, its minimal machine, its forms. (Numbers of layer 26's seat.) -/
namespace Go.VC
open Go.Proofs Go.LexS Go.Maps
end Go.VC
end

section
/- Contract: the law of a machine's forms. (Numbers of layer 26's seat.) -/
namespace Go.VC
open Go.Proofs Go.LexS Go.Maps
structure SmM (m : Mch) : Prop where
 f : m.fin.length <= 1048576
 v : m.mv.length <= 1048576
 l : m.li.length <= 1048576
theorem VM.smm {m : Mch} (h : VM m) : SmM m := ⟨by have := h.n.fl; have := h.n.n; omega, by have := h.n.ml; omega, by have := li_len h.w; omega⟩
theorem mZ_sm : SmM mZ := ⟨by decide, by decide, by decide⟩
theorem minM_sm (m : Mch) : SmM (minM m) := by
 by_cases h : VM m
 ·
  rw [minM_pos h]; exact (minF_vm h).smm
 ·
  rw [minM_neg h]; exact mZ_sm
theorem St.mism {h0 h : Heap} {L : List It} {M : Mch} {f g l : Sl} (hs : St h0 h L) (k : Nat) (hS : SmM M) (a0 : L[k]? = (mL M f g l)[0]?) (a1 : L[k + 1]? = (mL M f g l)[1]?) (a2 : L[k + 2]? = (mL M f g l)[2]?) : MI h M f g l :=
 ⟨hs.rl k a0 (by omega) hS.f, hs.rl (k + 1) a1 (by omega) hS.v, hs.rl (k + 2) a2 (by omega) hS.l⟩
end Go.VC
end

section
/- The walk of the law of projected machines. (Numbers of layer 26's seat.) -/
namespace Go.VC
open Go.Proofs Go.LexS Go.Maps
theorem proj_some {g : Gl} {role : Int} {w : Mch} {e : Int} (h : raw g role = (some w, e)) : proj g role = (some (minF w), 0) := by unfold proj; rw [h]
theorem proj_none {g : Gl} {role : Int} {e : Int} (h : raw g role = (none, e)) : proj g role = (none, e) := by unfold proj; rw [h]
set_option maxHeartbeats 4000000 in
theorem projected8 (g : Gl) (role : Int) (h : Heap) (hg : GI h g) (hM : GNm g.ds) (hx : Gx h) :
  Fn Pz 8 #[g.v, .int .i64 role] h fun v h' => v = .bool true /\ Ext h h' := by
 apply vc8 (bs g.nm) g.hr g.hd g.n g.s g.e g.he g.ht; unfold W8
 refine (St.refl h).newb fun h9 hs => ?_
 refine (awake12 h9 (hx.ext hs.ext)).mono ?_
 rintro _ h12 ⟨rfl, E⟩
 have hs := hs.step E
 refine ⟨_, rfl, sB_f rfl ?_⟩
 refine ⟨_, _, _, _, _, _, _, _, hs.at 0 rfl (o := 0) (n := 8) rfl, ?_⟩
 refine (few11 g h12 (hg.ext hs.ext)).mono ?_
 rintro _ h23 ⟨rfl, E⟩
 have hs := hs.step E
 refine ⟨_, rfl, sB_intro (fun _ => ⟨rfl, hs.ext⟩) (fun _ => ?_)⟩
 refine ⟨_, _, _, _, _, _, _, _, hs.at 0 rfl (o := 0) (n := 8) rfl, ?_⟩
 refine (good49 g role h23 (hg.ext hs.ext) hM).mono ?_
 rintro _ h34 ⟨⟨b1, rfl, _⟩, E⟩
 have hs := hs.step E
 refine ⟨_, rfl, sB_intro (fun _ => ⟨rfl, hs.ext⟩) (fun _ => ?_)⟩
 refine ⟨_, _, _, _, _, _, _, _, hs.at 0 rfl (o := 0) (n := 8) rfl, ?_⟩
 refine (project12 g role h34 (hg.ext hs.ext) (hx.ext hs.ext)).mono ?_
 rintro _ h51 ⟨E1, hP⟩
 cases hP with
 | @err e1 he h0 =>
  have hs := hs.step E1
  refine ⟨0, 0, 0, ⟨none, 0, 0⟩, ⟨none, 0, 0⟩, ⟨none, 0, 0⟩, e1, rfl, ?_⟩
  refine hs.newput (vs := m0) rfl rfl fun h53 hs => ?_
  refine ⟨_, _, _, _, _, _, _, _, hs.at 1 rfl (o := 0) (n := 8) rfl, ?_⟩
  refine (raw14 g role h53 (hg.ext hs.ext) (hx.ext hs.ext)).mono ?_
  rintro _ h70 ⟨E2, hR⟩
  have hs := hs.step E2
  cases hR with
  | @err e2 he2 h02 =>
   refine ⟨0, 0, 0, ⟨none, 0, 0⟩, ⟨none, 0, 0⟩, ⟨none, 0, 0⟩, e2, rfl, ?_⟩
   refine hs.newput (vs := m0) rfl rfl fun h72 hs => ?_
   rw [proj_none he2] at he
   cases he
   exact sB_t (by simpa using h0) ⟨by rw [beq_self_eq_true], hs.ext⟩
  | ok he2 _ => rw [proj_some he2] at he; cases he
 | @ok m f1 g1 l1 he s1 =>
  have hs := hs.join s1
  refine ⟨_, _, _, f1, g1, l1, 0, rfl, ?_⟩
  refine hs.newput (vs := mC m f1 g1 l1) rfl rfl fun h53 hs => ?_
  refine ⟨_, _, _, _, _, _, _, _, hs.at 1 rfl (o := 0) (n := 8) rfl, ?_⟩
  refine (raw14 g role h53 (hg.ext hs.ext) (hx.ext hs.ext)).mono ?_
  rintro _ h70 ⟨E2, hR⟩
  cases hR with
  | err he2 _ => rw [proj_none he2] at he; cases he
  | @ok w f2 g2 l2 he2 s2 =>
   have hm : m = minF w := by rw [proj_some he2] at he; cases he; rfl
   subst hm
   obtain ⟨hVw, hsrt⟩ := raw_vm he2
   have hVm : VM (minF w) := by have := minF_vm hVw; rwa [hsrt] at this
   have hid : minM (minF w) = minF w := by
    have := minF_idem hVw
    rw [hsrt] at this
    rw [minM_pos hVm, this]
   have hmw : minM w = minF w := by rw [minM_pos hVw, hsrt]
   have hs := hs.join s2
   refine ⟨_, _, _, f2, g2, l2, 0, rfl, ?_⟩
   refine hs.newput (vs := mC w f2 g2 l2) rfl rfl fun h72 hs => ?_
   refine sB_f rfl (sB_f rfl ?_)
   refine ⟨_, _, _, f1, g1, l1, hs.at 1 rfl (o := 0) (n := 6) rfl, ?_⟩
   refine (minimize37 (minF w) f1 g1 l1 h72 (hs.mism 3 hVm.smm rfl rfl rfl)).mono ?_
   rintro _ h87 ⟨f3, g3, l3, rfl, s3⟩
   have hs := hs.join s3
   refine ⟨_, _, _, f3, g3, l3, _, rfl, ?_⟩
   refine hs.newput (vs := mC (minM (minF w)) f3 g3 l3) rfl rfl fun h89 hs => ?_
   refine ⟨_, _, _, f2, g2, l2, hs.at 1 rfl (o := 0) (n := 6) rfl, ?_⟩
   refine (minimize37 w f2 g2 l2 h89 (hs.mism 7 hVw.smm rfl rfl rfl)).mono ?_
   rintro _ h104 ⟨f4, g4, l4, rfl, s4⟩
   have hs := hs.join s4
   refine ⟨_, _, _, f4, g4, l4, _, rfl, ?_⟩
   refine hs.newput (vs := mC (minM w) f4 g4 l4) rfl rfl fun h106 hs => ?_
   refine sB_t (by rw [erM_pos hVm]; rfl) (sB_t (by rw [erM_pos hVw]; rfl) ?_)
   refine ⟨_, _, _, f1, g1, l1, hs.at 3 rfl (o := 0) (n := 6) rfl, ?_⟩
   refine (valid23 (minF w) f1 g1 l1 h106 (hs.mism 5 hVm.smm rfl rfl rfl)).mono ?_
   rintro _ h115 ⟨⟨b2, rfl, hb2⟩, E⟩
   have hs := hs.step E
   refine ⟨_, rfl, sB_t (hb2.2 hVm) ?_⟩
   refine ⟨_, _, _, f2, g2, l2, hs.at 2 rfl (o := 0) (n := 6) rfl, ?_⟩
   refine (valid23 w f2 g2 l2 h115 (hs.mism 8 hVw.smm rfl rfl rfl)).mono ?_
   rintro _ h124 ⟨⟨b3, rfl, hb3⟩, E⟩
   have hs := hs.step E
   refine ⟨_, rfl, sB_t (hb3.2 hVw) ?_⟩
   refine ⟨_, _, _, f3, g3, l3, hs.at 1 rfl (o := 0) (n := 6) rfl, _, _, _, f1, g1, l1, hs.at 3 rfl (o := 0) (n := 6) rfl, ?_⟩
   refine (equal16 (minM (minF w)) (minF w) f3 g3 l3 f1 g1 l1 h124 (hs.mism 11 (minM_sm _) rfl rfl rfl) (hs.mism 5 hVm.smm rfl rfl rfl)).mono ?_
   rintro _ h139 ⟨⟨b4, rfl, hb4⟩, E⟩
   have hs := hs.step E
   refine ⟨_, rfl, sB_t (hb4.2 hid) ?_⟩
   refine ⟨_, _, _, f4, g4, l4, hs.at 0 rfl (o := 0) (n := 6) rfl, _, _, _, f1, g1, l1, hs.at 3 rfl (o := 0) (n := 6) rfl, ?_⟩
   refine (equal16 (minM w) (minF w) f4 g4 l4 f1 g1 l1 h139 (hs.mism 14 (minM_sm _) rfl rfl rfl) (hs.mism 5 hVm.smm rfl rfl rfl)).mono ?_
   rintro _ h154 ⟨⟨b5, rfl, hb5⟩, E⟩
   exact ⟨_, rfl, by rw [hb5.2 hmw], (hs.step E).ext⟩
end Go.VC
end

section
/- What a machine and a history look like in memory where all that is read is of bulk at most 1048576. -/
namespace Go.VC
open Go.Proofs Go.LexS Go.RowKit Go.ChangeShapes Go.WideShapes Go.Proofs.YtkebghjhekoecaaGreatDoor
theorem bulk_pos {H : Type} (d : DataW H) : 1 <= Rows.uptoBulk d := by
 cases d with
 | lit l => cases l <;> simp [Rows.uptoBulk]
 | _ => simp [Rows.uptoBulk]
theorem bulk_part {H : Type} : ∀ {l : List (DataW H)} {d : DataW H}, d ∈ l -> Rows.uptoBulk d <= Rows.uptoBulkAll l
 | [], _, h => by cases h
 | x :: r, d, h => by
  rw [Rows.uptoBulkAll]
  rcases Yr.1 h with rfl | h
  ·
   omega
  ·
   have := bulk_part h; omega
theorem bulk_len {H : Type} : ∀ l : List (DataW H), l.length <= Rows.uptoBulkAll l
 | [] => by simp
 | x :: r => by
  have h1 := bulk_pos x
  have h2 := bulk_len r
  rw [Rows.uptoBulkAll, Yyj]; omega
def Rdb (P : Program) (W : World) (t : TypeId) (cs : List Value) : Prop :=
 ∃ (H : Type) (enc : TypeId × Value -> H) (n : Nat) (x : DataW H × List MemPlace), DataW.trod enc P W 0 (fun _ => true) true n t cs = some x /\ Rows.uptoBulk x.1 <= 1048576
theorem Rdb.rdt {P : Program} {W : World} {t : TypeId} {cs : List Value} (h : Rdb P W t cs) : Rdt P W t cs := by
 obtain ⟨H, enc, n, x, h1, _⟩ := h; exact ⟨H, enc, n, x, h1⟩
theorem rdb_of_trod {H : Type} {enc : TypeId × Value -> H} {P : Program} {W : World} {t : TypeId} {v : Value} {d : DataW H} {p : List MemPlace} (h : DataW.Trod enc P W 0 (fun _ => true) true t v d p) (hw : Rows.uptoBulk d <= 1048576) : Rdb P W t v.cells.toList := by
 obtain ⟨n, h⟩ := h
 exact ⟨H, enc, n, _, h, hw⟩
theorem Rdb.field {P : Program} {W : World} {t ft : TypeId} {cs : List Value} {i off : Nat} (h : Rdb P W t cs) (hf : fieldAt P t i = some (ft, off)) : Rdb P W ft ((cs.drop off).take (P.cellsOf ft)) := by
 unfold fieldAt at hf
 split at hf
 ·
  rename_i fs hu
  obtain ⟨f, h1, h2⟩ := Yya.1 hf
  cases h2
  obtain ⟨H, enc, n, x, h, hw⟩ := h
  obtain ⟨xs, m, _, hx, hl, hxl, hfi⟩ := DataW.trod_struct hu h
  have hlt : i < xs.length := by rw [hxl]; exact (Yyg.1 h1).1
  refine ⟨H, enc, m, xs[i], by rw [hfi i f h1, Yi hlt], ?_⟩
  rw [hx, Rows.uptoBulk] at hw
  have := bulk_part (l := xs.map (·.1)) (d := xs[i].1) (Yp.2 ⟨xs[i], List.getElem_mem hlt, rfl⟩)
  omega
 ·
  cases hf
theorem Rdb.rows {P : Program} {W : World} {t e : TypeId} {cs : List Value} (ht : P.underlying t = some (.slice e)) (h : Rdb P W t cs) (hpos : 0 < P.cellsOf e) :
  ∃ (s : Sl) (rows : List (List Value)), cs = [.slice s.a s.n s.c] /\ s.n <= s.c /\ s.n <= 1048576 /\ (s.a = none -> s.n = 0 /\ s.c = 0) /\ Rw W.heap (P.cellsOf e) s rows /\ ∀ r ∈ rows, r.length = P.cellsOf e /\ Rdb P W e r := by
 obtain ⟨H, enc, n, x, h, hw⟩ := h
 rcases DataW.trod_slice ht h with ⟨rfl, _⟩ | ⟨a, len, cap, elems, rest, m, _, rfl, hx, _, hlc, hcm, hel, helem, _, _⟩
 ·
  exact ⟨⟨none, 0, 0⟩, [], rfl, Yyt _, Nat.zero_le _, fun _ => ⟨rfl, rfl⟩, Rw.nil, fun r hr => by cases hr⟩
 ·
  rw [hx, Rows.uptoBulk] at hw
  have hle : len <= 1048576 := by
   have := bulk_len (elems.map (·.1))
   rw [Yc] at this; omega
  have hwe : ∀ (i : Nat) (hi : i < elems.length), Rows.uptoBulk elems[i].1 <= 1048576 := fun i hi => by
   have := bulk_part (l := elems.map (·.1)) (d := elems[i].1) (Yp.2 ⟨elems[i], List.getElem_mem hi, rfl⟩)
   omega
  by_cases h0 : len = 0
  ·
   subst h0
   exact ⟨⟨some a, 0, cap⟩, [], rfl, hlc, hle, fun e => (by cases e), Rw.empty rfl, fun r hr => by cases hr⟩
  ·
   have hrow : ∀ i, i < len -> ∃ r, W.cells? 0 (a.add (i * P.cellsOf e)) (P.cellsOf e) = some r /\ Rdb P W e r := by
    intro i hi
    have h1 := helem i hi
    rw [Yi (by omega)] at h1
    obtain ⟨r, hr, hx2⟩ := Option.bind_eq_some_iff.1 h1
    exact ⟨r, hr, H, enc, m, _, hx2, hwe i (by omega)⟩
   let row : Nat -> List Value := fun i => (W.cells? 0 (a.add (i * P.cellsOf e)) (P.cellsOf e)).getD []
   have hrow' : ∀ i, i < len -> W.cells? 0 (a.add (i * P.cellsOf e)) (P.cellsOf e) = some (row i) /\ Rdb P W e (row i) := fun i hi => by
    obtain ⟨r, hr, hx⟩ := hrow i hi
    have : row i = r := by show (W.cells? 0 _ _).getD [] = r; rw [hr]; rfl
    rw [this]; exact ⟨hr, hx⟩
   have hget : ∀ i, i < len -> ((List.range len).map row)[i]? = some (row i) := fun i hi => by
    rw [Yd, Yyb hi]; rfl
   have hspot : a = ⟨a.block, a.off, none⟩ := by
    have hc := (cells_at (hrow' 0 (by omega)).1)
    have hl0 : 0 < (row 0).length := by rw [hc.1]; exact hpos
    have := hc.2 0 _ (Yi hl0)
    rw [Nat.zero_mul, show (a.add 0).add 0 = a from rfl] at this
    unfold World.cell? at this
    split at this
    ·
     split at this
     ·
      cases this
     ·
      rename_i hs
      cases a with
      | mk b o s =>
       cases s with
       | none => rfl
       | some s => exact absurd rfl hs
    ·
     cases this
   refine ⟨⟨some a, len, cap⟩, (List.range len).map row, rfl, hlc, hle, fun e => (by cases e), ⟨by simp, fun _ => ⟨a.block, a.off, by rw [<- hspot], fun i r hi j v hj => ?_⟩⟩, fun r hr => ?_⟩
   ·
    have hil : i < len := by have := (Ya.1 hi).1; simpa using this
    rw [hget i hil] at hi; cases hi
    have h4 := (cells_at (hrow' i hil).1).2 _ _ hj
    rw [hspot] at h4
    have e : ((⟨a.block, a.off, none⟩ : Addr).add (i * P.cellsOf e)).add j = addk ⟨a.block, a.off + i * P.cellsOf e, none⟩ j := by
     rw [addk_at, add_n, add_n]
    rw [e] at h4
    exact h4
   ·
    obtain ⟨i, hi, rfl⟩ := Yp.1 hr
    have := hrow' i (List.mem_range.1 hi)
    exact ⟨(cells_at this.1).1, this.2⟩
theorem Rdb.list {α : Type} {P : Program} {W : World} {t e : TypeId} {k : Nat} {v : Value} {cs : α -> List Value} {Q : α -> Prop} (ht : P.underlying t = some (.slice e)) (hk : P.cellsOf e = k) (hpos : 0 < k)
  (ho : ∀ r, Rdb P W e r -> ∃ x, r = cs x /\ Q x) (h : Rdb P W t [v]) : ∃ (s : Sl) (L : List α), v = .slice s.a s.n s.c /\ RL W.heap k s cs L /\ ∀ x ∈ L, Q x := by
 subst hk
 obtain ⟨s, rows, e1, hc, hm, hna, hrw, hr⟩ := h.rows ht hpos
 have key : ∀ rows : List (List Value), (∀ r ∈ rows, r.length = P.cellsOf e /\ Rdb P W e r) -> ∃ L : List α, rows = L.map cs /\ ∀ x ∈ L, Q x := by
  intro rows
  induction rows with
  | nil => intro _; exact ⟨[], rfl, fun x hx => by cases hx⟩
  | cons r rows ih =>
   intro h
   obtain ⟨x, hx, hq⟩ := ho r (h r (by simp)).2
   obtain ⟨L, hL, hQ⟩ := ih fun y hy => h y (Yn _ hy)
   exact ⟨x :: L, by rw [hx, hL]; rfl, fun y hy => by rcases Yr.1 hy with rfl | hy; exact hq; exact hQ y hy⟩
 obtain ⟨L, rfl, hQ⟩ := key rows hr
 have hn := hrw.ln
 exact ⟨s, L, by simpa using e1, ⟨hrw, hc, hna, by omega⟩, hQ⟩
theorem v3 : Pz.underlying 3 = some (.int .i64) := by kernel_rfl
theorem v4b : Pz.underlying 4 = some .bool := by kernel_rfl
theorem cz3 : Pz.cellsOf 3 = 1 := by kernel_rfl
theorem cz4 : Pz.cellsOf 4 = 1 := by kernel_rfl
theorem cz22 : Pz.cellsOf 22 = 1 := by kernel_rfl
theorem cz23 : Pz.cellsOf 23 = 1 := by kernel_rfl
theorem cz24 : Pz.cellsOf 24 = 1 := by kernel_rfl
theorem vs22 : Pz.underlying 22 = some (.slice 4) := by kernel_rfl
theorem vs23 : Pz.underlying 23 = some (.slice 81) := by kernel_rfl
theorem vs24 : Pz.underlying 24 = some (.slice 44) := by kernel_rfl
theorem open_three {W : World} {t : TypeId} {r : List Value} (hc : Pz.cellsOf t = 3) (h0 : fieldAt Pz t 0 = some (3, 0)) (h1 : fieldAt Pz t 1 = some (3, 1)) (h2 : fieldAt Pz t 2 = some (3, 2)) (h : Rdt Pz W t r) :
  ∃ a b c : Int, r = [.int .i64 a, .int .i64 b, .int .i64 c] := by
 have hl := h.flen h0
 rw [hc] at hl
 match r, hl with
 | [x0, x1, x2], _ =>
  have f0 := h.field h0
  have f1 := h.field h1
  have f2 := h.field h2
  rw [cz3] at f0 f1 f2
  obtain ⟨k0, e0, _⟩ := f0.int v3
  obtain ⟨k1, e1, _⟩ := f1.int v3
  obtain ⟨k2, e2, _⟩ := f2.int v3
  simp only [List.drop_zero, List.take_succ_cons, Yyk, List.drop_succ_cons, List.cons.injEq, and_true] at e0 e1 e2
  subst e0 e1 e2
  exact ⟨k0, k1, k2, rfl⟩
end Go.VC
end

section
namespace Go.VC
open Go.Proofs

end Go.VC
end

section
/- Contract: a machine with its states renamed. (Numbers of layer 26's seat.) -/
namespace Go.VC
open Go.Proofs Go.LexS Go.Maps
end Go.VC
end

section
/- What an automaton and a list of bytes look like in memory where all that is read is of bulk at most 1048576 (turned from the texts of layer 25). -/
namespace Go.VC
open Go.Proofs Go.LexS Go.RowKit Go.ChangeShapes Go.WideShapes Go.Proofs.YtkebghjhekoecaaGreatDoor
theorem Rdb.str {P : Program} {W : World} {t : TypeId} {cs : List Value} (ht : P.underlying t = some .string) (h : Rdb P W t cs) : ∃ s : ByteArray, cs = [.string s] /\ s.size <= 1048576 := by
 obtain ⟨H, enc, n, x, h, hw⟩ := h
 obtain ⟨m, h1, hx, _⟩ := DataW.trod_string ht h
 refine ⟨m, h1, ?_⟩
 rw [hx, Rows.uptoBulk] at hw
 have e : m.data.toList.length = m.size := rfl
 omega
namespace G
theorem v3 : Pz.underlying 3 = some (.int .i64) := by kernel_rfl
theorem v4b : Pz.underlying 4 = some .bool := by kernel_rfl
theorem v9 : Pz.underlying 9 = some .string := by kernel_rfl
theorem cz3 : Pz.cellsOf 3 = 1 := by kernel_rfl
theorem cz4 : Pz.cellsOf 4 = 1 := by kernel_rfl
theorem cz9 : Pz.cellsOf 9 = 1 := by kernel_rfl
theorem cz22 : Pz.cellsOf 55 = 1 := by kernel_rfl
theorem cz23 : Pz.cellsOf 56 = 1 := by kernel_rfl
theorem cz24 : Pz.cellsOf 57 = 1 := by kernel_rfl
theorem cz25 : Pz.cellsOf 24 = 1 := by kernel_rfl
theorem cz27 : Pz.cellsOf 59 = 8 := by kernel_rfl
theorem cz53 : Pz.cellsOf 143 = 3 := by kernel_rfl
theorem cz55 : Pz.cellsOf 145 = 6 := by kernel_rfl
theorem cz63 : Pz.cellsOf 44 = 3 := by kernel_rfl
theorem cz130 : Pz.cellsOf 147 = 1 := by kernel_rfl
theorem cz131 : Pz.cellsOf 148 = 1 := by kernel_rfl
theorem cz132 : Pz.cellsOf 149 = 1 := by kernel_rfl
theorem cz134 : Pz.cellsOf 151 = 2 := by kernel_rfl
theorem cz136 : Pz.cellsOf 153 = 5 := by kernel_rfl
theorem cz182 : Pz.cellsOf 246 = 3 := by kernel_rfl
theorem cz184 : Pz.cellsOf 248 = 4 := by kernel_rfl
theorem cz187 : Pz.cellsOf 277 = 3 := by kernel_rfl
theorem cz189 : Pz.cellsOf 94 = 2 := by kernel_rfl
theorem vs22 : Pz.underlying 55 = some (.slice 9) := by kernel_rfl
theorem vs23 : Pz.underlying 56 = some (.slice 153) := by kernel_rfl
theorem vs24 : Pz.underlying 57 = some (.slice 145) := by kernel_rfl
theorem vs25 : Pz.underlying 24 = some (.slice 44) := by kernel_rfl
theorem vs130 : Pz.underlying 147 = some (.slice 248) := by kernel_rfl
theorem vs131 : Pz.underlying 148 = some (.slice 277) := by kernel_rfl
theorem vs132 : Pz.underlying 149 = some (.slice 94) := by kernel_rfl
theorem va189 : Pz.underlying 94 = some (.array 2 3) := by kernel_rfl
theorem open_name {W : World} {r : List Value} (h : Rdb Pz W 9 r) : ∃ x : Nm, r = nmC x /\ True := by
 obtain ⟨s, e, _⟩ := h.rdt.str v9
 exact ⟨s.data.toList, by rw [e]; rfl, trivial⟩
theorem open_field {W : World} {r : List Value} (h : Rdb Pz W 248 r) : ∃ x : Fld, r = x.cs /\ True := by
 have hl := h.rdt.flen (i := 0) (ft := 9) (off := 0) (by kernel_rfl)
 rw [cz184] at hl
 match r, hl with
 | [x0, x1, x2, x3], _ =>
  have f0 := h.rdt.field (i := 0) (ft := 9) (off := 0) (by kernel_rfl)
  have f1 := h.rdt.field (i := 1) (ft := 246) (off := 1) (by kernel_rfl)
  rw [cz9] at f0
  rw [cz182] at f1
  have g0 := f1.field (i := 0) (ft := 3) (off := 0) (by kernel_rfl)
  have g1 := f1.field (i := 1) (ft := 3) (off := 1) (by kernel_rfl)
  have g2 := f1.field (i := 2) (ft := 3) (off := 2) (by kernel_rfl)
  rw [cz3] at g0 g1 g2
  obtain ⟨s, e0, _⟩ := f0.str v9
  obtain ⟨k1, e1, _⟩ := g0.int v3
  obtain ⟨k2, e2, _⟩ := g1.int v3
  obtain ⟨k3, e3, _⟩ := g2.int v3
  simp only [List.drop_zero, List.take_succ_cons, Yyk, List.drop_succ_cons, List.cons.injEq, and_true] at e0 e1 e2 e3
  subst e0 e1 e2 e3
  exact ⟨⟨s.data.toList, k1, k2, k3⟩, rfl, trivial⟩
theorem open_three {W : World} {t : TypeId} {r : List Value} (hc : Pz.cellsOf t = 3) (h0 : fieldAt Pz t 0 = some (3, 0)) (h1 : fieldAt Pz t 1 = some (3, 1)) (h2 : fieldAt Pz t 2 = some (3, 2)) (h : Rdt Pz W t r) :
  ∃ a b c : Int, r = [.int .i64 a, .int .i64 b, .int .i64 c] := by
 have hl := h.flen h0
 rw [hc] at hl
 match r, hl with
 | [x0, x1, x2], _ =>
  have f0 := h.field h0
  have f1 := h.field h1
  have f2 := h.field h2
  rw [cz3] at f0 f1 f2
  obtain ⟨k0, e0, _⟩ := f0.int v3
  obtain ⟨k1, e1, _⟩ := f1.int v3
  obtain ⟨k2, e2, _⟩ := f2.int v3
  simp only [List.drop_zero, List.take_succ_cons, Yyk, List.drop_succ_cons, List.cons.injEq, and_true] at e0 e1 e2
  subst e0 e1 e2
  exact ⟨k0, k1, k2, rfl⟩
theorem open_diff {W : World} {r : List Value} (h : Rdb Pz W 277 r) : ∃ x : Df, r = x.cs /\ True := by
 obtain ⟨a, b, c, e⟩ := open_three cz187 (by kernel_rfl) (by kernel_rfl) (by kernel_rfl) h.rdt
 exact ⟨⟨a, b, c⟩, e, trivial⟩
theorem open_timeout {W : World} {r : List Value} (h : Rdb Pz W 44 r) : ∃ x : To, r = x.cs /\ True := by
 obtain ⟨a, b, c, e⟩ := open_three cz63 (by kernel_rfl) (by kernel_rfl) (by kernel_rfl) h.rdt
 exact ⟨⟨a, b, c⟩, e, trivial⟩
theorem open_pair {W : World} {r : List Value} (h : Rdb Pz W 94 r) : ∃ x : Eqs, r = x.cs /\ True := by
 obtain ⟨hl, ha⟩ := h.rdt.array va189
 rw [cz189] at hl
 rw [cz3] at ha
 match r, hl with
 | [x0, x1], _ =>
  obtain ⟨k0, e0, _⟩ := (ha 0 (by omega)).int v3
  obtain ⟨k1, e1, _⟩ := (ha 1 (by omega)).int v3
  simp only [Nat.zero_mul, Nat.one_mul, List.drop_zero, List.take_succ_cons, Yyk, List.drop_succ_cons, List.cons.injEq, and_true] at e0 e1
  subst e0 e1
  exact ⟨⟨k0, k1⟩, rfl, trivial⟩
theorem open_edge {W : World} {r : List Value} (h : Rdb Pz W 145 r) : ∃ x : Ed, r = x.cs /\ True := by
 have hl := h.rdt.flen (i := 0) (ft := 3) (off := 0) (by kernel_rfl)
 rw [cz55] at hl
 match r, hl with
 | [x0, x1, x2, x3, x4, x5], _ =>
  have f0 := h.rdt.field (i := 0) (ft := 3) (off := 0) (by kernel_rfl)
  have f1 := h.rdt.field (i := 1) (ft := 143) (off := 1) (by kernel_rfl)
  have f2 := h.rdt.field (i := 2) (ft := 3) (off := 4) (by kernel_rfl)
  have f3 := h.rdt.field (i := 3) (ft := 4) (off := 5) (by kernel_rfl)
  rw [cz3] at f0 f2
  rw [cz53] at f1
  rw [cz4] at f3
  obtain ⟨a, b, c, e1⟩ := open_three cz53 (by kernel_rfl) (by kernel_rfl) (by kernel_rfl) f1
  obtain ⟨k0, e0, _⟩ := f0.int v3
  obtain ⟨k2, e2, _⟩ := f2.int v3
  obtain ⟨k3, e3⟩ := f3.bool v4b
  simp only [List.drop_zero, List.take_succ_cons, Yyk, List.drop_succ_cons, List.cons.injEq, and_true] at e0 e1 e2 e3
  obtain ⟨e1a, e1b, e1c⟩ := e1
  subst e0 e1a e1b e1c e2 e3
  exact ⟨⟨k0, a, b, c, k2, k3⟩, rfl, trivial⟩
theorem open_decl {W : World} {r : List Value} (h : Rdb Pz W 153 r) : ∃ x : Dc, r = x.cs /\ DI W.heap x /\ x.nm.length <= 1048576 := by
 have hl := h.rdt.flen (i := 0) (ft := 9) (off := 0) (by kernel_rfl)
 rw [cz136] at hl
 match r, hl with
 | [x0, x1, x2, x3, x4], _ =>
  have f0 := h.field (i := 0) (ft := 9) (off := 0) (by kernel_rfl)
  have f1 := h.field (i := 1) (ft := 147) (off := 1) (by kernel_rfl)
  have f2 := h.rdt.field (i := 2) (ft := 3) (off := 2) (by kernel_rfl)
  have f3 := h.field (i := 3) (ft := 151) (off := 3) (by kernel_rfl)
  rw [cz9] at f0
  rw [cz130] at f1
  rw [cz3] at f2
  rw [cz134] at f3
  have g0 := f3.field (i := 0) (ft := 148) (off := 0) (by kernel_rfl)
  have g1 := f3.field (i := 1) (ft := 149) (off := 1) (by kernel_rfl)
  rw [cz131] at g0
  rw [cz132] at g1
  obtain ⟨s, e0, hs0⟩ := f0.str v9
  obtain ⟨sf, fs, e1, hf, _⟩ := Rdb.list vs130 cz184 (by omega) (fun r hr => open_field hr) f1
  obtain ⟨k, e2, _⟩ := f2.int v3
  obtain ⟨sd, ds, e3, hd, _⟩ := Rdb.list vs131 cz187 (by omega) (fun r hr => open_diff hr) g0
  obtain ⟨se, es, e4, he, _⟩ := Rdb.list vs132 cz189 (by omega) (fun r hr => open_pair hr) g1
  simp only [List.drop_zero, List.take_succ_cons, Yyk, List.drop_succ_cons, List.cons.injEq, and_true] at e0 e2
  subst e0 e1 e2 e3 e4
  exact ⟨⟨s.data.toList, sf, k, sd, se, fs, ds, es⟩, rfl, ⟨hf, hd, he⟩, hs0⟩
theorem open_global {W : World} {cs : List Value} (h : Rdb Pz W 59 cs) : ∃ g : Gl, cs = g.cs /\ GI W.heap g /\ ∀ d ∈ g.ds, d.nm.length <= 1048576 := by
 have hl := h.rdt.flen (i := 0) (ft := 9) (off := 0) (by kernel_rfl)
 rw [cz27] at hl
 match cs, hl with
 | [x0, x1, x2, x3, x4, x5, x6, x7], _ =>
  have f0 := h.rdt.field (i := 0) (ft := 9) (off := 0) (by kernel_rfl)
  have f1 := h.field (i := 1) (ft := 55) (off := 1) (by kernel_rfl)
  have f2 := h.field (i := 2) (ft := 56) (off := 2) (by kernel_rfl)
  have f3 := h.rdt.field (i := 3) (ft := 3) (off := 3) (by kernel_rfl)
  have f4 := h.rdt.field (i := 4) (ft := 3) (off := 4) (by kernel_rfl)
  have f5 := h.rdt.field (i := 5) (ft := 3) (off := 5) (by kernel_rfl)
  have f6 := h.field (i := 6) (ft := 57) (off := 6) (by kernel_rfl)
  have f7 := h.field (i := 7) (ft := 24) (off := 7) (by kernel_rfl)
  rw [cz9] at f0
  rw [cz22] at f1
  rw [cz23] at f2
  rw [cz3] at f3 f4 f5
  rw [cz24] at f6
  rw [cz25] at f7
  obtain ⟨s, e0, _⟩ := f0.str v9
  obtain ⟨sr, rs, e1, hr, _⟩ := Rdb.list vs22 cz9 (by omega) (fun r hr => open_name hr) f1
  obtain ⟨sd, ds, e2, hd, hdi⟩ := Rdb.list vs23 cz136 (by omega) (fun r hr => open_decl hr) f2
  obtain ⟨k3, e3, _⟩ := f3.int v3
  obtain ⟨k4, e4, _⟩ := f4.int v3
  obtain ⟨k5, e5, _⟩ := f5.int v3
  obtain ⟨se, es, e6, he, _⟩ := Rdb.list vs24 cz55 (by omega) (fun r hr => open_edge hr) f6
  obtain ⟨st, ts, e7, ht, _⟩ := Rdb.list vs25 cz63 (by omega) (fun r hr => open_timeout hr) f7
  simp only [List.drop_zero, List.take_succ_cons, Yyk, List.drop_succ_cons, List.cons.injEq, and_true] at e0 e3 e4 e5
  subst e0 e1 e2 e3 e4 e5 e6 e7
  exact ⟨⟨s.data.toList, sr, sd, k3, k4, k5, se, st, rs, ds, es, ts⟩, rfl, ⟨hr, ⟨hd, fun d hm => (hdi d hm).1⟩, he, ht⟩, fun d hm => (hdi d hm).2⟩
end G
theorem open_global {W : World} {cs : List Value} (h : Rdb Pz W 59 cs) : ∃ g : Gl, cs = g.cs /\ GI W.heap g /\ ∀ d ∈ g.ds, d.nm.length <= 1048576 := G.open_global h
end Go.VC
end
