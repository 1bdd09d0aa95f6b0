/- Texts of this claim, joined: VcSort, PjVcJ, PjCa, PjShelf, PjSh, VcClr, PjVcF, PjStA. -/
import Derived.Test.YtfdhgcladnbdeaaGreatDoorM03
import Derived.Test.YtfdhgcladnbdeaaGreatDoorM05
import Derived.Shelf.SlSortCmp.NoneTotal
import Derived.Test.YtfdhgcladnbdeaaGreatDoorM02
import Derived.Test.YtfdhgcladnbdeaaGreatDoorProg
import Derived.KernelRfl
import Derived.Test.YtfdhgcladnbdeaaGreatDoorM04
import Derived.Shelf.Strings.Split
import Derived.Shelf.Bits.Mul64
import Derived.Shelf.Spec.TrailingZeros
import Derived.Shelf.SlLaysF0
import Derived.Ground.NamesProg
import Derived.Ground.Names7Prog
import Derived.Ground.SlsfProg
set_option linter.unusedVariables false
set_option linter.unusedSimpArgs false

section
/- For every program: slices.SortFunc at a row of structs of the call's own, from the kit's contract. -/
namespace Go.VC
open Go.Proofs Go.Shelf Go.RowKit Go.Lib Go.Sort
/-- a comparison that lays blocks and draws, but takes nothing back -/
theorem cmp_calls {P : Program} {g : FuncId} {args : Array Value} {v : Value} {W : World}
    (hc : @Fn monoDrawn P g args W.heap fun u h' => u = v ∧ Ext W.heap h') :
    Calls P g args W fun e w' => e = .returned v ∧ ∃ q os', w' = grow (W.drewN q) os' := by
  refine (hc W rfl).mono ?_
  rintro e w' ⟨_, rfl, ⟨rfl, hE⟩, h1, h2, h3, h4⟩
  refine ⟨rfl, w'.drawn - W.drawn, w'.heap.extract W.heap.size w'.heap.size, ?_⟩
  replace h4 : W.drawn ≤ w'.drawn := h4
  obtain ⟨hp, tp, dr, os, ou⟩ := w'
  obtain ⟨hp0, tp0, dr0, os0, ou0⟩ := W
  simp only at h1 h2 h3 h4 hE
  subst h1 h2 h3
  unfold Sort.grow World.drewN
  simp only [World.mk.injEq, and_true, true_and]
  refine ⟨?_, by omega⟩
  apply Array.ext_getElem?
  intro i
  rw [Array.getElem?_append]
  by_cases hi : i < hp0.size
  · rw [if_pos hi]; exact hE.2 i hi
  · rw [if_neg hi, Array.getElem?_extract]
    by_cases hj : i < hp.size
    · rw [if_pos (by omega)]; congr 1; omega
    · rw [if_neg (by omega)]; exact Array.getElem?_eq_none (by omega)
theorem rows_get {α : Type} [Inhabited α] {enc : α → List Value} {k : Nat} (l : List α) {t : Nat} (ht : t < l.length * k) (hl : ∀ x, (enc x).length = k) :
    (l.map enc).flatten[t]? = some ((enc l.toArray[t / k]!)[t % k]!) := by
  have hk : 0 < k := by rcases Nat.eq_zero_or_pos k with h | h; (subst h; simp at ht); exact h
  have hi : t / k < l.length := Nat.div_lt_of_lt_mul (by rwa [Nat.mul_comm] at ht)
  have hm : t % k < k := Nat.mod_lt _ hk
  have he : l.toArray[t / k]! = l[t / k] := by simp [hi]
  have h1 := getElem?_flatten (k := k) (l.map enc) (t / k) (t % k) (enc l[t / k]) (fun r hr => by obtain ⟨x, _, rfl⟩ := List.mem_map.1 hr; exact hl x) (by rw [List.getElem?_map, List.getElem?_eq_getElem hi]; rfl) hm
  rw [show t / k * k + t % k = t by rw [Nat.mul_comm]; exact Nat.div_add_mod t k] at h1
  rw [h1, he, List.getElem?_eq_getElem (by rw [hl]; exact hm), getElem!_pos _ _ (by rw [hl]; exact hm)]
theorem sorted_pair {α : Type} [Inhabited α] {lt : α → α → Bool} {d : Array α} (h : SortedIn lt 0 d.size d) : d.toList.Pairwise fun a b => lt b a = false := by
  rw [List.pairwise_iff_getElem]
  intro i j hi hj hij
  have := h i j (Nat.zero_le _) hij (by simpa using hj)
  rw [getElem!_pos d i (by simpa using hi), getElem!_pos d j (by simpa using hj)] at this
  simpa using this
theorem sort_own {P : Program} {ρ : Ren} {α : Type} [Inhabited α] (L : SlLaysF0.n6 P ρ) (k : Nat) (e : TypeId) (aE : ∀ w, (isAgg (ρ.t 24)).run P w = .ok true w) (zE : ∀ w, (Go.sizeOf (ρ.t 24)).run P w = .ok k w)
    (enc : α → List Value) (hl : ∀ x, (enc x).length = k) (h1 : ∀ x, ∀ v ∈ enc x, v.oneCell' = true) (cf : α → α → Int) (hO : SWO (ltOf cf)) (g : Nat)
    (eg : ∀ args w, (callFunc g args).run P w = .ok (.enter g args) w)
    (hcmp : ∀ (x y : α) (h : Heap), @Fn monoDrawn P g #[.agg ⟨enc x⟩, .agg ⟨enc y⟩] h fun v h' => v = .int .i64 (cf x y) ∧ Ext h h')
    {h0 h : Heap} {Ls : List It} (hs : St h0 h Ls) (i : Nat) {s : Sl} {l : List α} (hi : Ls[i]? = some (.sl s e k (l.map enc))) (hk0 : 0 < k) (hm : l.length < 4611686018427387904) :
    Fn P (ρ.f 6) #[.slice s.a s.n s.c, .func (.func g) #[] #[]] h fun v h' => v = .tuple ⟨[]⟩ ∧ ∃ l' : List α, l'.Perm l ∧ l'.Pairwise (fun a b => ltOf cf b a = false) ∧ St h0 h' (Ls.set i (.sl s e k (l'.map enc))) := by
  intro w hw
  subst hw
  have hget := hs.get hi
  have hrw := hs.rw i hi hk0
  have hn : s.n = l.length := by have := hrw.1; simpa using this
  have hset : Ls.set i (.sl s e k (l.map enc)) = Ls := by
    obtain ⟨a, b⟩ := List.getElem?_eq_some_iff.1 hi
    rw [← b]; exact List.set_getElem_self a
  rcases hget.1.2 with ⟨ha, hn0, hc0⟩ | ⟨b, cur, ha, hb0, hh, hnc, hcm, hsz, htk⟩
  · have hl0 : l = [] := List.length_eq_zero_iff.1 (by omega)
    rw [ha, hn0, hc0]
    refine (AnyF.slices_SortFunc_none L none ((0 : Nat) : Nat) (.func (.func g) #[] #[]) w).mono ?_
    rintro e' w' ⟨rfl, rfl⟩
    refine ⟨_, rfl, ⟨rfl, l, List.Perm.refl _, by rw [hl0]; exact List.Pairwise.nil, ?_⟩, rfl, rfl, rfl, trivial⟩
    rw [hset]; exact hs
  · have hblk : b < w.heap.size := (Array.getElem?_eq_some_iff.1 hh).1
    have hkm : s.n * k ≤ s.c * k := Nat.mul_le_mul_right _ hnc
    have hcell : ∀ t, t < s.n * k → cur[t]? = some ((enc l.toArray[t / k]!)[t % k]!) := by
      intro t ht
      have h2 := rows_get (enc := enc) (k := k) l (t := t) (by rw [← hn]; exact ht) hl
      rw [← htk, List.getElem?_take, if_pos ht] at h2
      simpa using h2
    have hH : HoldsK enc k w b 0 l.toArray := by
      intro t ht
      rw [size_flatK] at ht
      have ht' : t < s.n * k := by rw [hn]; simpa using ht
      refine ⟨?_, ?_⟩
      · rw [get_flatK _ _ _ _ ht]
        unfold World.cell?
        simp only [hh, Nat.zero_add]
        rw [hcell t ht']; rfl
      · unfold World.frozen?
        simp only [hh]
        simp
    have hcon := AnyQ.slices_SortFunc L k aE zE enc hl h1 cf hO g #[] b 0 s.c l.toArray w eg
      (fun m os dk _ x y => by
        have := cmp_calls (P := P) (g := g) (args := #[.agg (enc x).toArray, .agg (enc y).toArray] ++ #[]) (W := sortWorldK enc k w b 0 m dk os) (v := .int .i64 (cf x y)) (by simpa using hcmp x y _)
        exact this) hH hblk (by simpa using hm)
    have harg : (l.toArray.size : Nat) = s.n := by rw [hn]; simp
    rw [harg] at hcon
    rw [ha]
    refine hcon.mono ?_
    rintro e' w' ⟨rfl, d', n, os, hp, hsd, rfl⟩
    have hsz' : d'.size = s.n := by rw [hp.1]; exact harg
    have hperm : d'.toList.Perm l := by
      have h2 := hp.2.2
      rw [← harg, show d'.extract 0 l.toArray.size = d' by rw [← hp.1]; simp, show l.toArray.extract 0 l.toArray.size = l.toArray by simp] at h2
      exact h2
    have hlen' : d'.toList.length = s.n := by simpa using hsz'
    refine ⟨_, rfl, ⟨rfl, d'.toList, hperm, sorted_pair (by rw [hsz']; exact hsd), ?_⟩, rfl, rfl, rfl, trivial⟩
    have hb' : (sortWorldK enc k w b 0 n d' os).heap[b]? = some (.cells (putCells id 0 (flatK enc k d') cur) e (0, 0)) := by
      unfold sortWorldK Sort.grow putRowK putRow mapBlock
      show ((w.heap.modify b _) ++ os)[b]? = _
      rw [Array.getElem?_append_left (by simpa using hblk), Array.getElem?_modify, if_pos rfl, hh]
      rfl
    have hother : ∀ c, c < w.heap.size → c ≠ b → (sortWorldK enc k w b 0 n d' os).heap[c]? = w.heap[c]? := by
      intro c hc hne
      unfold sortWorldK Sort.grow putRowK putRow mapBlock
      show ((w.heap.modify b _) ++ os)[c]? = _
      rw [Array.getElem?_append_left (by simpa using hc), Array.getElem?_modify, if_neg (fun e => hne e.symm)]
    refine hs.turn hi (by
        unfold sortWorldK Sort.grow putRowK putRow mapBlock
        show _ ≤ ((w.heap.modify b _) ++ os).size
        rw [Array.size_append, Array.size_modify]
        exact Nat.le_add_right _ _) (j := .sl s e k (d'.toList.map enc)) ?_ (fun c hc => .inr hc) (fun c hc hne => hother c hc fun e => hne (by subst e; show s.a.map (·.block) = _; rw [ha]; rfl))
    refine ⟨⟨?_, .inr ⟨b, _, ha, Nat.zero_le _, hb', hnc, hcm, by rw [← hsz]; simp [putCells], ?_⟩⟩, fun r hr => by obtain ⟨x, _, rfl⟩ := List.mem_map.1 hr; exact hl x⟩
    · rw [flatten_len (k := k) _ (fun r hr => by obtain ⟨x, _, rfl⟩ := List.mem_map.1 hr; exact hl x), List.length_map, hlen']
    · apply List.ext_getElem?
      intro t
      rw [List.getElem?_take]
      by_cases ht : t < s.n * k
      · rw [if_pos ht, rows_get d'.toList (by rw [hlen']; exact ht) hl]
        have hc := hcell t ht
        simp only [putCells, Array.getElem?_toList, Array.getElem?_mapIdx, hc, Option.map_some]
        rw [if_pos ⟨Nat.zero_le _, by rw [size_flatK, hsz']; omega⟩, Nat.sub_zero, get_flatK _ _ _ _ (by rw [hsz']; exact ht)]
        rfl
      · rw [if_neg ht, List.getElem?_eq_none (by rw [flatten_len (k := k) _ (fun r hr => by obtain ⟨x, _, rfl⟩ := List.mem_map.1 hr; exact hl x), List.length_map, hlen']; omega)]
end Go.VC
end

section
namespace Go.VC
open Go.Proofs
set_option maxRecDepth 100000
set_option linter.unusedVariables false
variable [Mono]
namespace M

/- cmp.isNaN[int] -/
def W151 (p0 : Int) (h : Heap) (R : Value → Heap → Prop) : Prop :=
  R (.bool (p0 != p0)) h
theorem vc151e (p0 : Int) (h : Heap) (R : Value → Heap → Prop) : W151 p0 h R = fnW Tryz.prog 151 .z #[.int .i64 p0] h R := by kernel_rfl
theorem vc151 (p0 : Int) (h : Heap) (R : Value → Heap → Prop) (H : W151 p0 h R) : Fn Tryz.prog 151 #[.int .i64 p0] h R := fnI (vc151e p0 h R) H

/- cmp.Compare[int] -/
def W110 (p0 : Int) (p1 : Int) (h : Heap) (R : Value → Heap → Prop) : Prop :=
  (Fn Tryz.prog 151 #[.int .i64 p0] h 
  (fun v1 h3 => ∃ x2 : Bool, v1 = .bool x2 ∧ 
  (Fn Tryz.prog 151 #[.int .i64 p1] h3 
  (fun v4 h6 => ∃ x5 : Bool, v4 = .bool x5 ∧ 
  (sB x2 
   ((sB x5 
    (R (.int .i64 0) h6) 
    (R (.int .i64 (-1)) h6))) 
   ((sB x5 
    (R (.int .i64 1) h6) 
    ((sB (decide (p0 < p1)) 
     (R (.int .i64 (-1)) h6) 
     ((sB (decide (p0 > p1)) 
      (R (.int .i64 1) h6) 
      (R (.int .i64 0) h6))))))))))))
theorem vc110e (p0 : Int) (p1 : Int) (h : Heap) (R : Value → Heap → Prop) : W110 p0 p1 h R = fnW Tryz.prog 110 .z #[.int .i64 p0, .int .i64 p1] h R := by kernel_rfl
theorem vc110 (p0 : Int) (p1 : Int) (h : Heap) (R : Value → Heap → Prop) (H : W110 p0 p1 h R) : Fn Tryz.prog 110 #[.int .i64 p0, .int .i64 p1] h R := fnI (vc110e p0 p1 h R) H

/- cmp.Or[int]
   loop rrlrb: x_4:Int -/
def W109 (p0 : Sl) (h : Heap) (R : Value → Heap → Prop) : Prop :=
  (∃ I1 : Int → Heap → Nat → Prop, (∃ m2, I1 0 h m2) ∧ 
  (∀ (_ : Env) (x_4 : Int) (h5 : Heap) (m3 : Nat), I1 x_4 h5 m3 → 
  (sB (decide (x_4 < (p0.n : Int))) 
    ((NB p0.a fun b6 o7 => ((0 ≤ (x_4 : Int) ∧ (x_4 : Int) < (p0.n : Nat)) ∧ 
    (∃ x8 : Int, hc h5 ⟨b6, o7 + Int.toNat x_4 * 1, none⟩ = some (.int .i64 x8) ∧ 
    (sB (x8 != 0) 
     (R (.int .i64 x8) h5) 
     ((∃ m9, m9 < m3 ∧ I1 (IntKind.wrap .i64 (x_4 + 1)) h5 m9))))))) 
    (R (.int .i64 0) h5))))
theorem vc109e (p0 : Sl) (h : Heap) (R : Value → Heap → Prop) : W109 p0 h R = fnW Tryz.prog 109 (.s .z (.s .z (.s (.s .z (.b (.l [(8, .one (.int .i64))] .z))) .z))) #[.slice p0.a p0.n p0.c] h R := by kernel_rfl
theorem vc109 (p0 : Sl) (h : Heap) (R : Value → Heap → Prop) (H : W109 p0 h R) : Fn Tryz.prog 109 #[.slice p0.a p0.n p0.c] h R := fnI (vc109e p0 h R) H

/- (farandole/view.event).compare -/
def W138 (p0_1 : Bool) (p0_2 : Int) (p0_3 : Int) (p1_4 : Bool) (p1_5 : Int) (p1_6 : Int) (h : Heap) (R : Value → Heap → Prop) : Prop :=
  (∀ h7 : Heap, h7 = h.push (.cells ⟨[.bool p0_1, .int .i64 p0_2, .int .i64 p0_3]⟩ 116) → 
  (∀ h8 : Heap, h8 = h7.push (.cells ⟨[.bool p1_4, .int .i64 p1_5, .int .i64 p1_6]⟩ 116) → 
  (∃ x9 : Bool, hc h8 ⟨h.size, 0, none⟩ = some (.bool x9) ∧ 
  (∃ x10 : Bool, hc h8 ⟨h7.size, 0, none⟩ = some (.bool x10) ∧ 
  (sB (!(x9 == x10)) 
   ((∃ x11 : Bool, hc h8 ⟨h.size, 0, none⟩ = some (.bool x11) ∧ 
   (sB x11 
    (R (.int .i64 (-1)) h8) 
    (R (.int .i64 1) h8)))) 
   ((∃ x12 : Int, hc h8 ⟨h.size, 1, none⟩ = some (.int .i64 x12) ∧ 
   (∃ x13 : Int, hc h8 ⟨h7.size, 1, none⟩ = some (.int .i64 x13) ∧ 
   (∃ x14 : Int, hc h8 ⟨h.size, 2, none⟩ = some (.int .i64 x14) ∧ 
   (∃ x15 : Int, hc h8 ⟨h7.size, 2, none⟩ = some (.int .i64 x15) ∧ 
   (Fn Tryz.prog 110 #[.int .i64 x12, .int .i64 x13] h8 
   (fun v16 h18 => ∃ x17 : Int, v16 = .int .i64 x17 ∧ 
   (Sm [⟨h7.size, 2, none⟩, ⟨h.size, 2, none⟩] h8 h18 ∧ 
   (Fn Tryz.prog 110 #[.int .i64 x14, .int .i64 x15] h18 
   (fun v19 h21 => ∃ x20 : Int, v19 = .int .i64 x20 ∧ 
   (Sm [⟨h7.size, 1, none⟩, ⟨h.size, 1, none⟩] h18 h21 ∧ 
   (∀ h22 : Heap, h22 = h21.push (.cells ⟨[.int .i64 x17, .int .i64 x20]⟩ 3) → 
   (Fn Tryz.prog 109 #[.slice (some ⟨h21.size, 0, none⟩) 2 2] h22 
   (fun v23 h25 => ∃ x24 : Int, v23 = .int .i64 x24 ∧ 
   R (.int .i64 x24) h25)))))))))))))))))))
theorem vc138e (p0_1 : Bool) (p0_2 : Int) (p0_3 : Int) (p1_4 : Bool) (p1_5 : Int) (p1_6 : Int) (h : Heap) (R : Value → Heap → Prop) : W138 p0_1 p0_2 p0_3 p1_4 p1_5 p1_6 h R = fnW Tryz.prog 138 .z #[.agg ⟨[.bool p0_1, .int .i64 p0_2, .int .i64 p0_3]⟩, .agg ⟨[.bool p1_4, .int .i64 p1_5, .int .i64 p1_6]⟩] h R := by kernel_rfl
theorem vc138 (p0_1 : Bool) (p0_2 : Int) (p0_3 : Int) (p1_4 : Bool) (p1_5 : Int) (p1_6 : Int) (h : Heap) (R : Value → Heap → Prop) (H : W138 p0_1 p0_2 p0_3 p1_4 p1_5 p1_6 h R) : Fn Tryz.prog 138 #[.agg ⟨[.bool p0_1, .int .i64 p0_2, .int .i64 p0_3]⟩, .agg ⟨[.bool p1_4, .int .i64 p1_5, .int .i64 p1_6]⟩] h R := fnI (vc138e p0_1 p0_2 p0_3 p1_4 p1_5 p1_6 h R) H

/- farandole/project.order$1 -/
def W129 (p0_1 : Int) (p0_2 : Bool) (p0_3 : Int) (p0_4 : Int) (p0_5 : Int) (p0_6 : Bool) (h : Heap) (R : Value → Heap → Prop) : Prop :=
  (∀ h7 : Heap, h7 = h.push (.cells ⟨[.int .i64 p0_1, .bool p0_2, .int .i64 p0_3, .int .i64 p0_4, .int .i64 p0_5, .bool p0_6]⟩ 45) → 
  (∃ x8 : Bool, hc h7 ⟨h.size, 1, none⟩ = some (.bool x8) ∧ 
  (sB x8 
   (R (.int .i64 0) h7) 
   (R (.int .i64 1) h7))))
theorem vc129e (p0_1 : Int) (p0_2 : Bool) (p0_3 : Int) (p0_4 : Int) (p0_5 : Int) (p0_6 : Bool) (h : Heap) (R : Value → Heap → Prop) : W129 p0_1 p0_2 p0_3 p0_4 p0_5 p0_6 h R = fnW Tryz.prog 129 .z #[.agg ⟨[.int .i64 p0_1, .bool p0_2, .int .i64 p0_3, .int .i64 p0_4, .int .i64 p0_5, .bool p0_6]⟩] h R := by kernel_rfl
theorem vc129 (p0_1 : Int) (p0_2 : Bool) (p0_3 : Int) (p0_4 : Int) (p0_5 : Int) (p0_6 : Bool) (h : Heap) (R : Value → Heap → Prop) (H : W129 p0_1 p0_2 p0_3 p0_4 p0_5 p0_6 h R) : Fn Tryz.prog 129 #[.agg ⟨[.int .i64 p0_1, .bool p0_2, .int .i64 p0_3, .int .i64 p0_4, .int .i64 p0_5, .bool p0_6]⟩] h R := fnI (vc129e p0_1 p0_2 p0_3 p0_4 p0_5 p0_6 h R) H

/- farandole/project.order -/
def W73 (p0_1 : Int) (p0_2 : Bool) (p0_3 : Int) (p0_4 : Int) (p0_5 : Int) (p0_6 : Bool) (p1_7 : Int) (p1_8 : Bool) (p1_9 : Int) (p1_10 : Int) (p1_11 : Int) (p1_12 : Bool) (h : Heap) (R : Value → Heap → Prop) : Prop :=
  (∀ h13 : Heap, h13 = h.push (.cells ⟨[.int .i64 p0_1, .bool p0_2, .int .i64 p0_3, .int .i64 p0_4, .int .i64 p0_5, .bool p0_6]⟩ 45) → 
  (∀ h14 : Heap, h14 = h13.push (.cells ⟨[.int .i64 p1_7, .bool p1_8, .int .i64 p1_9, .int .i64 p1_10, .int .i64 p1_11, .bool p1_12]⟩ 45) → 
  (∃ x15 : Int, hc h14 ⟨h.size, 0, none⟩ = some (.int .i64 x15) ∧ 
  (∃ x16 : Int, hc h14 ⟨h13.size, 0, none⟩ = some (.int .i64 x16) ∧ 
  (∃ x17 : Int, ∃ x18 : Bool, ∃ x19 : Int, ∃ x20 : Int, ∃ x21 : Int, ∃ x22 : Bool, atC h14 ⟨h.size, 0, none⟩ [.int .i64 x17, .bool x18, .int .i64 x19, .int .i64 x20, .int .i64 x21, .bool x22] ∧ 
  (∃ x23 : Int, ∃ x24 : Bool, ∃ x25 : Int, ∃ x26 : Int, ∃ x27 : Int, ∃ x28 : Bool, atC h14 ⟨h13.size, 0, none⟩ [.int .i64 x23, .bool x24, .int .i64 x25, .int .i64 x26, .int .i64 x27, .bool x28] ∧ 
  (∃ x29 : Int, hc h14 ⟨h.size, 2, none⟩ = some (.int .i64 x29) ∧ 
  (∃ x30 : Int, hc h14 ⟨h13.size, 2, none⟩ = some (.int .i64 x30) ∧ 
  (∃ x31 : Int, hc h14 ⟨h.size, 3, none⟩ = some (.int .i64 x31) ∧ 
  (∃ x32 : Int, hc h14 ⟨h13.size, 3, none⟩ = some (.int .i64 x32) ∧ 
  (Fn Tryz.prog 110 #[.int .i64 x15, .int .i64 x16] h14 
  (fun v33 h35 => ∃ x34 : Int, v33 = .int .i64 x34 ∧ 
  (Sm [⟨h13.size, 3, none⟩, ⟨h.size, 3, none⟩, ⟨h13.size, 2, none⟩, ⟨h.size, 2, none⟩, ⟨h13.size, 0, none⟩, ⟨h.size, 0, none⟩] h14 h35 ∧ 
  (Fn Tryz.prog 129 #[.agg ⟨[.int .i64 x17, .bool x18, .int .i64 x19, .int .i64 x20, .int .i64 x21, .bool x22]⟩] h35 
  (fun v36 h38 => ∃ x37 : Int, v36 = .int .i64 x37 ∧ 
  (Sm [⟨h13.size, 3, none⟩, ⟨h.size, 3, none⟩, ⟨h13.size, 2, none⟩, ⟨h.size, 2, none⟩, ⟨h13.size, 0, none⟩, ⟨h13.size, 0, none⟩, ⟨h.size, 0, none⟩] h35 h38 ∧ 
  (Fn Tryz.prog 129 #[.agg ⟨[.int .i64 x23, .bool x24, .int .i64 x25, .int .i64 x26, .int .i64 x27, .bool x28]⟩] h38 
  (fun v39 h41 => ∃ x40 : Int, v39 = .int .i64 x40 ∧ 
  (Sm [⟨h13.size, 3, none⟩, ⟨h.size, 3, none⟩, ⟨h13.size, 2, none⟩, ⟨h.size, 2, none⟩, ⟨h.size, 0, none⟩, ⟨h13.size, 0, none⟩, ⟨h.size, 0, none⟩] h38 h41 ∧ 
  (Fn Tryz.prog 110 #[.int .i64 x37, .int .i64 x40] h41 
  (fun v42 h44 => ∃ x43 : Int, v42 = .int .i64 x43 ∧ 
  (Sm [⟨h13.size, 3, none⟩, ⟨h.size, 3, none⟩, ⟨h13.size, 2, none⟩, ⟨h.size, 2, none⟩, ⟨h13.size, 0, none⟩, ⟨h.size, 0, none⟩] h41 h44 ∧ 
  (Fn Tryz.prog 110 #[.int .i64 x29, .int .i64 x30] h44 
  (fun v45 h47 => ∃ x46 : Int, v45 = .int .i64 x46 ∧ 
  (Sm [⟨h13.size, 3, none⟩, ⟨h.size, 3, none⟩, ⟨h13.size, 0, none⟩, ⟨h.size, 0, none⟩, ⟨h13.size, 0, none⟩, ⟨h.size, 0, none⟩] h44 h47 ∧ 
  (Fn Tryz.prog 110 #[.int .i64 x31, .int .i64 x32] h47 
  (fun v48 h50 => ∃ x49 : Int, v48 = .int .i64 x49 ∧ 
  (Sm [⟨h13.size, 2, none⟩, ⟨h.size, 2, none⟩, ⟨h13.size, 0, none⟩, ⟨h.size, 0, none⟩, ⟨h13.size, 0, none⟩, ⟨h.size, 0, none⟩] h47 h50 ∧ 
  (∀ h51 : Heap, h51 = h50.push (.cells ⟨[.int .i64 x34, .int .i64 x43, .int .i64 x46, .int .i64 x49]⟩ 3) → 
  (Fn Tryz.prog 109 #[.slice (some ⟨h50.size, 0, none⟩) 4 4] h51 
  (fun v52 h54 => ∃ x53 : Int, v52 = .int .i64 x53 ∧ 
  R (.int .i64 x53) h54)))))))))))))))))))))))))))))))
theorem vc73e (p0_1 : Int) (p0_2 : Bool) (p0_3 : Int) (p0_4 : Int) (p0_5 : Int) (p0_6 : Bool) (p1_7 : Int) (p1_8 : Bool) (p1_9 : Int) (p1_10 : Int) (p1_11 : Int) (p1_12 : Bool) (h : Heap) (R : Value → Heap → Prop) : W73 p0_1 p0_2 p0_3 p0_4 p0_5 p0_6 p1_7 p1_8 p1_9 p1_10 p1_11 p1_12 h R = fnW Tryz.prog 73 .z #[.agg ⟨[.int .i64 p0_1, .bool p0_2, .int .i64 p0_3, .int .i64 p0_4, .int .i64 p0_5, .bool p0_6]⟩, .agg ⟨[.int .i64 p1_7, .bool p1_8, .int .i64 p1_9, .int .i64 p1_10, .int .i64 p1_11, .bool p1_12]⟩] h R := by kernel_rfl
theorem vc73 (p0_1 : Int) (p0_2 : Bool) (p0_3 : Int) (p0_4 : Int) (p0_5 : Int) (p0_6 : Bool) (p1_7 : Int) (p1_8 : Bool) (p1_9 : Int) (p1_10 : Int) (p1_11 : Int) (p1_12 : Bool) (h : Heap) (R : Value → Heap → Prop) (H : W73 p0_1 p0_2 p0_3 p0_4 p0_5 p0_6 p1_7 p1_8 p1_9 p1_10 p1_11 p1_12 h R) : Fn Tryz.prog 73 #[.agg ⟨[.int .i64 p0_1, .bool p0_2, .int .i64 p0_3, .int .i64 p0_4, .int .i64 p0_5, .bool p0_6]⟩, .agg ⟨[.int .i64 p1_7, .bool p1_8, .int .i64 p1_9, .int .i64 p1_10, .int .i64 p1_11, .bool p1_12]⟩] h R := fnI (vc73e p0_1 p0_2 p0_3 p0_4 p0_5 p0_6 p1_7 p1_8 p1_9 p1_10 p1_11 p1_12 h R) H

end M
end Go.VC
end

section
/- The comparisons of events and of moves, over every relation of worlds. -/
namespace Go.VC
open Go.Proofs Go.LexS
set_option maxRecDepth 100000
def sideM (x : Mv) : Int := if x.send then 0 else 1
def cmpM (x y : Mv) : Int := orI3 (cmpI x.f y.f) (orI3 (cmpI (sideM x) (sideM y)) (orI3 (cmpI x.peer y.peer) (cmpI x.label y.label)))
theorem cmpM_neg {x y : Mv} : cmpM x y < 0 ↔ mvLt x y := by
  unfold cmpM mvLt evLt orI3 cmpI sideM Mv.ev
  obtain ⟨f, s, p, l, t, a⟩ := x
  obtain ⟨f', s', p', l', t', a'⟩ := y
  cases s <;> cases s' <;> simp <;> (repeat' split) <;> omega
namespace M
theorem inrows (L : List Int) : ∀ r ∈ L.map inC, r.length = 1 := fun r hr => by obtain ⟨x, _, rfl⟩ := List.mem_map.1 hr; rfl
end M
variable [Mono]
namespace M
theorem nan151 (x : Int) (h : Heap) : Fn Tryz.prog 151 #[.int .i64 x] h fun v h' => v = .bool false ∧ h' = h := by
  apply vc151; unfold W151
  exact ⟨by rw [bne_self_eq_false], rfl⟩
theorem cmp110 (x y : Int) (h : Heap) : Fn Tryz.prog 110 #[.int .i64 x, .int .i64 y] h fun v h' => v = .int .i64 (cmpI x y) ∧ h' = h := by
  apply vc110; unfold W110
  refine (nan151 x h).mono ?_
  rintro _ _ ⟨rfl, rfl⟩
  refine ⟨_, rfl, ?_⟩
  refine (nan151 y _).mono ?_
  rintro _ _ ⟨rfl, rfl⟩
  refine ⟨_, rfl, ?_⟩
  refine sB_f rfl (sB_f rfl ?_)
  unfold cmpI
  refine sBi (fun c => ?_) (fun c => sBi (fun d => ?_) (fun d => ?_))
  · exact ⟨by rw [if_pos c], rfl⟩
  · exact ⟨by rw [if_neg c, if_pos d], rfl⟩
  · exact ⟨by rw [if_neg c, if_neg d], rfl⟩
theorem or109 (l : List Int) (s : Sl) (h : Heap) (hr : Rw h 1 s (l.map inC)) (hm : l.length ≤ 1048576) :
    Fn Tryz.prog 109 #[.slice s.a s.n s.c] h fun v h' => v = .int .i64 (l.foldr orI3 0) ∧ h' = h := by
  apply vc109; unfold W109
  have hn := hr.ln
  refine up_loop (n := s.n) (fun i h' => h' = h ∧ l.foldr orI3 0 = (l.drop i).foldr orI3 0) ⟨rfl, rfl⟩ ?_
  rintro - i h5 hi ⟨rfl, hq⟩
  refine sB_intro (fun l2 => ?_) (fun l2 => ?_)
  · replace l2 := lt_t l2
    refine hr.nbI (by omega) (by omega) fun b o d g t => ?_
    replace g : l[i]? = some d := g
    have hd : l.drop i = d :: l.drop (i + 1) := by
      obtain ⟨hl, he⟩ := List.getElem?_eq_some_iff.1 g
      rw [List.drop_eq_getElem_cons hl, he]
    rw [hd, List.foldr_cons] at hq
    refine ⟨_, t.hd, ?_⟩
    refine sBn (fun c => ?_) (fun c => ?_)
    · refine ⟨?_, rfl⟩
      rw [hq]; unfold orI3; rw [if_pos c]
    · refine Up.next l2 (by omega) ⟨rfl, ?_⟩
      rw [hq]; unfold orI3; rw [if_neg (by omega)]
  · replace l2 := lt_f l2
    rw [List.drop_eq_nil_of_le (by omega)] at hq
    exact ⟨by rw [hq]; rfl, rfl⟩
theorem compare138 (x y : Ev) (h : Heap) : Fn Tryz.prog 138 #[.agg ⟨x.cs⟩, .agg ⟨y.cs⟩] h fun v h' => v = .int .i64 (cmpE x y) ∧ Ext h h' := by
  apply vc138 x.send x.peer x.label y.send y.peer y.label; unfold W138
  have hs := St.refl h
  refine hs.newb fun h7 hs => ?_
  refine hs.newb fun h8 hs => ?_
  refine ⟨_, hs.rd 1 rfl rfl, ?_⟩
  refine ⟨_, hs.rd 0 rfl rfl, ?_⟩
  refine sB_intro (fun c => ?_) (fun c => ?_)
  · have hne : x.send ≠ y.send := by simpa using c
    refine ⟨_, hs.rd 1 rfl rfl, ?_⟩
    unfold cmpE
    rw [if_pos hne]
    refine sB_intro (fun d => ?_) (fun d => ?_)
    · exact ⟨by rw [if_pos d], hs.ext⟩
    · exact ⟨by rw [if_neg (by rw [d]; simp)], hs.ext⟩
  · have he : x.send = y.send := by simpa using c
    refine ⟨_, hs.rd 1 rfl rfl, _, hs.rd 0 rfl rfl, _, hs.rd 1 rfl rfl, _, hs.rd 0 rfl rfl, ?_⟩
    refine (cmp110 _ _ _).mono ?_
    rintro _ _ ⟨rfl, rfl⟩
    refine ⟨_, rfl, fun _ _ _ _ hv => hv, ?_⟩
    refine (cmp110 _ _ _).mono ?_
    rintro _ _ ⟨rfl, rfl⟩
    refine ⟨_, rfl, fun _ _ _ _ hv => hv, ?_⟩
    refine hs.newb fun h22 hs => ?_
    have hs2 := hs.blkS 2 1 ([cmpI x.peer y.peer, cmpI x.label y.label].map inC) rfl (inrows _) rfl (by decide)
    refine (or109 [cmpI x.peer y.peer, cmpI x.label y.label] _ h22 (hs2.rows 0 rfl (by omega)) (show 2 ≤ 1048576 by decide)).mono ?_
    rintro _ _ ⟨rfl, rfl⟩
    refine ⟨_, rfl, ?_, hs.ext⟩
    unfold cmpE
    rw [if_neg (by simpa using he)]
    show Value.int .i64 (orI3 _ (orI3 _ 0)) = _
    congr 1
    unfold orI3
    split
    · rfl
    · split <;> omega
theorem side129 (x : Mv) (h : Heap) : Fn Tryz.prog 129 #[.agg ⟨x.cs⟩] h fun v h' => v = .int .i64 (sideM x) ∧ Ext h h' := by
  apply vc129 x.f x.send x.peer x.label x.t x.ag; unfold W129
  have hs := St.refl h
  refine hs.newb fun h7 hs => ?_
  refine ⟨_, hs.rd 0 rfl rfl, ?_⟩
  unfold sideM
  refine sB_intro (fun c => ?_) (fun c => ?_)
  · exact ⟨by rw [if_pos c], hs.ext⟩
  · exact ⟨by rw [if_neg (by rw [c]; simp)], hs.ext⟩
theorem Sm_ext {al : List Addr} {h h' : Heap} (E : Ext h h') : Sm al h h' := fun _ _ _ _ hv => hc_ext E hv
theorem order73 (x y : Mv) (h : Heap) : Fn Tryz.prog 73 #[.agg ⟨x.cs⟩, .agg ⟨y.cs⟩] h fun v h' => v = .int .i64 (cmpM x y) ∧ Ext h h' := by
  apply vc73 x.f x.send x.peer x.label x.t x.ag y.f y.send y.peer y.label y.t y.ag; unfold W73
  have hs := St.refl h
  refine hs.newb fun h13 hs => ?_
  refine hs.newb fun h14 hs => ?_
  refine ⟨_, hs.rd 1 rfl rfl, _, hs.rd 0 rfl rfl, _, _, _, _, _, _, hs.at 1 rfl (o := 0) (n := 6) rfl, _, _, _, _, _, _, hs.at 0 rfl (o := 0) (n := 6) rfl, _, hs.rd 1 rfl rfl, _, hs.rd 0 rfl rfl, _, hs.rd 1 rfl rfl, _, hs.rd 0 rfl rfl, ?_⟩
  refine (cmp110 _ _ _).mono ?_
  rintro _ _ ⟨rfl, rfl⟩
  refine ⟨_, rfl, fun _ _ _ _ hv => hv, ?_⟩
  refine (side129 x _).mono ?_
  rintro _ h38 ⟨rfl, E1⟩
  refine ⟨_, rfl, Sm_ext E1, ?_⟩
  have hs := hs.step E1
  refine (side129 y _).mono ?_
  rintro _ h41 ⟨rfl, E2⟩
  refine ⟨_, rfl, Sm_ext E2, ?_⟩
  have hs := hs.step E2
  refine (cmp110 _ _ _).mono ?_
  rintro _ _ ⟨rfl, rfl⟩
  refine ⟨_, rfl, fun _ _ _ _ hv => hv, ?_⟩
  refine (cmp110 _ _ _).mono ?_
  rintro _ _ ⟨rfl, rfl⟩
  refine ⟨_, rfl, fun _ _ _ _ hv => hv, ?_⟩
  refine (cmp110 _ _ _).mono ?_
  rintro _ _ ⟨rfl, rfl⟩
  refine ⟨_, rfl, fun _ _ _ _ hv => hv, ?_⟩
  refine hs.newb fun h51 hs => ?_
  have hs2 := hs.blkS 4 1 ([cmpI x.f y.f, cmpI (sideM x) (sideM y), cmpI x.peer y.peer, cmpI x.label y.label].map inC) rfl (inrows _) rfl (by decide)
  refine (or109 [cmpI x.f y.f, cmpI (sideM x) (sideM y), cmpI x.peer y.peer, cmpI x.label y.label] _ h51 (hs2.rows 0 rfl (by omega)) (show 4 ≤ 1048576 by decide)).mono ?_
  rintro _ _ ⟨rfl, rfl⟩
  refine ⟨_, rfl, ?_, hs.ext⟩
  unfold cmpM
  show Value.int .i64 (orI3 _ (orI3 _ (orI3 _ (orI3 _ 0)))) = _
  congr 3
  unfold orI3
  split
  · rfl
  · omega
end M
end Go.VC
end

section
/-
  DERIVED: THE SHELF's CONTRACTS AT THIS DUMP, IN PLAIN WORDS (tools/lay-plain.mjs out of 'PjShelfT.lean', which tools/lay-shelf.mjs wrote): THE SAME DECLARATIONS UNDER THE SAME NAMES: 'import', 'namespace', 'open', 'def', 'theorem' AND NOTHING ELSE: no command of the shelf's: FOR A HAND-IN. Each laying: the table of numbers ('.._ren') and one theorem, a field a fact of the dump's own or the kernel's comparison; each contract: ONE APPLICATION.
-/
namespace Go.Proofs
open Go.Shelf
def Tryz.lays146_ren : Go.Shelf.Ren := ⟨fun | 146 => 255 | 221 => 282 | 268 => 298 | 138 => 299 | 143 => 300 | 195 => 306 | 197 => 307 | 218 => 308 | 219 => 309 | 260 => 311 | 217 => 312 | 225 => 313 | 224 => 314 | 267 => 315 | 266 => 316 | 314 => 317 | n => n, fun | 9 => 9 | 31 => 22 | 3 => 3 | 4 => 4 | 0 => 0 | 105 => 402 | 21 => 21 | 5 => 5 | 46 => 178 | 119 => 407 | 139 => 410 | 138 => 409 | 146 => 237 | 51 => 236 | n => n, fun | 1 => 1 | 3 => 2 | 4 => 3 | n => n⟩
theorem Tryz.lays146 : Go.Proofs.Lays.n146 Tryz.prog Tryz.lays146_ren := {
  mixed := by kernel_rfl
  f138 := Tryz.func299.trans (congrArg some (by kernel_rfl))
  f143 := Tryz.func300.trans (congrArg some (by kernel_rfl))
  f146 := Tryz.func255.trans (congrArg some (by kernel_rfl))
  f195 := Tryz.func306.trans (congrArg some (by kernel_rfl))
  f197 := Tryz.func307.trans (congrArg some (by kernel_rfl))
  f217 := Tryz.func312.trans (congrArg some (by kernel_rfl))
  f218 := Tryz.func308.trans (congrArg some (by kernel_rfl))
  f219 := Tryz.func309.trans (congrArg some (by kernel_rfl))
  f221 := Tryz.func282.trans (congrArg some (by kernel_rfl))
  f224 := Tryz.func314.trans (congrArg some (by kernel_rfl))
  f225 := Tryz.func313.trans (congrArg some (by kernel_rfl))
  f260 := Tryz.func311.trans (congrArg some (by kernel_rfl))
  f266 := Tryz.func316.trans (congrArg some (by kernel_rfl))
  f267 := Tryz.func315.trans (congrArg some (by kernel_rfl))
  f268 := Tryz.func298.trans (congrArg some (by kernel_rfl))
  f314 := Tryz.func317.trans (congrArg some (by kernel_rfl))
  t0 := Tryz.underlying0
  a0 := Tryz.isAgg0
  z0 := Tryz.sizeOf0
  v0 := Tryz.zeroValue0
  t3 := Tryz.underlying3
  a3 := Tryz.isAgg3
  z3 := Tryz.sizeOf3
  v3 := Tryz.zeroValue3
  t4 := Tryz.underlying4
  a4 := Tryz.isAgg4
  z4 := Tryz.sizeOf4
  v4 := Tryz.zeroValue4
  t5 := Tryz.underlying5
  a5 := Tryz.isAgg5
  z5 := Tryz.sizeOf5
  v5 := Tryz.zeroValue5
  t9 := Tryz.underlying9
  a9 := Tryz.isAgg9
  z9 := Tryz.sizeOf9
  v9 := Tryz.zeroValue9
  t21 := Tryz.underlying21
  a21 := Tryz.isAgg21
  z21 := Tryz.sizeOf21
  v21 := Tryz.zeroValue21
  t31 := Tryz.underlying22
  a31 := Tryz.isAgg22
  z31 := Tryz.sizeOf22
  v31 := Tryz.zeroValue22
  t46 := Tryz.underlying178
  a46 := Tryz.isAgg178
  z46 := Tryz.sizeOf178
  v46 := Tryz.zeroValue178
  t51 := Tryz.underlying236
  a51 := Tryz.isAgg236
  z51 := Tryz.sizeOf236
  v51 := Tryz.zeroValue236
  t105 := Tryz.underlying402
  a105 := Tryz.isAgg402
  z105 := Tryz.sizeOf402
  v105 := Tryz.zeroValue402
  t119 := Tryz.underlying407
  a119 := Tryz.isAgg407
  z119 := Tryz.sizeOf407
  t138 := Tryz.underlying409
  a138 := Tryz.isAgg409
  z138 := Tryz.sizeOf409
  v138 := Tryz.zeroValue409
  t139 := Tryz.underlying410
  a139 := Tryz.isAgg410
  z139 := Tryz.sizeOf410
  v139 := Tryz.zeroValue410
  t146 := Tryz.underlying237
  a146 := Tryz.isAgg237
  z146 := Tryz.sizeOf237
  v146 := Tryz.zeroValue237
  g1 := by kernel_rfl
  g3 := by kernel_rfl
  g4 := by kernel_rfl }
def Tryz.lays212_ren : Go.Shelf.Ren := ⟨fun | 212 => 106 | 263 => 148 | 264 => 149 | n => n, fun | 46 => 178 | 51 => 236 | 146 => 237 | 53 => 121 | 148 => 239 | n => n, fun | n => n⟩
theorem Tryz.lays212 : Go.Proofs.Lays.n212 Tryz.prog Tryz.lays212_ren := {
  mixed := by kernel_rfl
  f212 := Tryz.func106.trans (congrArg some (by kernel_rfl))
  f263 := Tryz.func148.trans (congrArg some (by kernel_rfl))
  f264 := Tryz.func149.trans (congrArg some (by kernel_rfl))
  t46 := Tryz.underlying178
  a46 := Tryz.isAgg178
  z46 := Tryz.sizeOf178
  v46 := Tryz.zeroValue178
  t51 := Tryz.underlying236
  a51 := Tryz.isAgg236
  z51 := Tryz.sizeOf236
  v51 := Tryz.zeroValue236
  t53 := Tryz.underlying121
  a53 := Tryz.isAgg121
  z53 := Tryz.sizeOf121
  v53 := Tryz.zeroValue121
  t146 := Tryz.underlying237
  a146 := Tryz.isAgg237
  z146 := Tryz.sizeOf237
  v146 := Tryz.zeroValue237
  t148 := Tryz.underlying239
  a148 := Tryz.isAgg239
  z148 := Tryz.sizeOf239
  v148 := Tryz.zeroValue239 }
def Tryz.lays7_29_ren : Go.Shelf.Ren := ⟨fun | 29 => 141 | n => n, fun | 22 => 121 | 3 => 3 | 4 => 4 | 25 => 178 | 54 => 304 | 0 => 0 | 5 => 5 | n => n, fun | 1 => 0 | n => n⟩
theorem Tryz.lays7_29 : Go.Proofs.Lays7.n29 Tryz.prog Tryz.lays7_29_ren := {
  mixed := by kernel_rfl
  f29 := Tryz.func141.trans (congrArg some (by kernel_rfl))
  t0 := Tryz.underlying0
  a0 := Tryz.isAgg0
  z0 := Tryz.sizeOf0
  v0 := Tryz.zeroValue0
  i0 := by kernel_rfl
  t3 := Tryz.underlying3
  a3 := Tryz.isAgg3
  z3 := Tryz.sizeOf3
  v3 := Tryz.zeroValue3
  i3 := by kernel_rfl
  t4 := Tryz.underlying4
  a4 := Tryz.isAgg4
  z4 := Tryz.sizeOf4
  v4 := Tryz.zeroValue4
  i4 := by kernel_rfl
  t5 := Tryz.underlying5
  a5 := Tryz.isAgg5
  z5 := Tryz.sizeOf5
  v5 := Tryz.zeroValue5
  i5 := by kernel_rfl
  t22 := Tryz.underlying121
  a22 := Tryz.isAgg121
  z22 := Tryz.sizeOf121
  v22 := Tryz.zeroValue121
  i22 := by kernel_rfl
  t25 := Tryz.underlying178
  a25 := Tryz.isAgg178
  z25 := Tryz.sizeOf178
  v25 := Tryz.zeroValue178
  i25 := by kernel_rfl
  t54 := Tryz.underlying304
  a54 := Tryz.isAgg304
  z54 := Tryz.sizeOf304
  g1 := by kernel_rfl }
def Tryz.sortL137_ren : Go.Shelf.Ren := ⟨fun | 6 => 137 | 15 => 128 | 14 => 193 | 28 => 187 | 29 => 188 | 20 => 231 | 21 => 232 | 22 => 233 | 23 => 234 | 24 => 235 | 25 => 236 | 26 => 237 | 27 => 238 | 46 => 259 | 47 => 217 | 48 => 218 | 49 => 260 | 50 => 261 | 57 => 283 | n => n, fun | 22 => 151 | 24 => 116 | 25 => 225 | 3 => 3 | 39 => 178 | 0 => 0 | 53 => 236 | 55 => 121 | 4 => 4 | 46 => 294 | 45 => 293 | 50 => 213 | 5 => 5 | 9 => 9 | 66 => 327 | 70 => 331 | 76 => 362 | 77 => 363 | n => n, fun | n => n⟩
theorem Tryz.sortL137 : Go.Proofs.SlLaysF0.n6 Tryz.prog Tryz.sortL137_ren := {
  mixed := by kernel_rfl
  f6 := ⟨Tryz.f137.name, by decide, Tryz.func137.trans (congrArg some (by kernel_rfl))⟩
  f14 := ⟨Tryz.f193.name, by decide, Tryz.func193.trans (congrArg some (by kernel_rfl))⟩
  f15 := Tryz.func128.trans (congrArg some (by kernel_rfl))
  f20 := ⟨Tryz.f231.name, by decide, Tryz.func231.trans (congrArg some (by kernel_rfl))⟩
  f21 := ⟨Tryz.f232.name, by decide, Tryz.func232.trans (congrArg some (by kernel_rfl))⟩
  f22 := ⟨Tryz.f233.name, by decide, Tryz.func233.trans (congrArg some (by kernel_rfl))⟩
  f23 := ⟨Tryz.f234.name, by decide, Tryz.func234.trans (congrArg some (by kernel_rfl))⟩
  f24 := ⟨Tryz.f235.name, by decide, Tryz.func235.trans (congrArg some (by kernel_rfl))⟩
  f25 := ⟨Tryz.f236.name, by decide, Tryz.func236.trans (congrArg some (by kernel_rfl))⟩
  f26 := ⟨Tryz.f237.name, by decide, Tryz.func237.trans (congrArg some (by kernel_rfl))⟩
  f27 := ⟨Tryz.f238.name, by decide, Tryz.func238.trans (congrArg some (by kernel_rfl))⟩
  f28 := Tryz.func187.trans (congrArg some (by kernel_rfl))
  f29 := Tryz.func188.trans (congrArg some (by kernel_rfl))
  f46 := ⟨Tryz.f259.name, by decide, Tryz.func259.trans (congrArg some (by kernel_rfl))⟩
  f47 := Tryz.func217.trans (congrArg some (by kernel_rfl))
  f48 := Tryz.func218.trans (congrArg some (by kernel_rfl))
  f49 := ⟨Tryz.f260.name, by decide, Tryz.func260.trans (congrArg some (by kernel_rfl))⟩
  f50 := ⟨Tryz.f261.name, by decide, Tryz.func261.trans (congrArg some (by kernel_rfl))⟩
  f57 := ⟨Tryz.f283.name, by decide, Tryz.func283.trans (congrArg some (by kernel_rfl))⟩
  t0 := Tryz.underlying0
  a0 := Tryz.isAgg0
  z0 := Tryz.sizeOf0
  v0 := Tryz.zeroValue0
  t3 := Tryz.underlying3
  a3 := Tryz.isAgg3
  z3 := Tryz.sizeOf3
  v3 := Tryz.zeroValue3
  t4 := Tryz.underlying4
  a4 := Tryz.isAgg4
  z4 := Tryz.sizeOf4
  v4 := Tryz.zeroValue4
  t5 := Tryz.underlying5
  a5 := Tryz.isAgg5
  z5 := Tryz.sizeOf5
  v5 := Tryz.zeroValue5
  t9 := Tryz.underlying9
  a9 := Tryz.isAgg9
  z9 := Tryz.sizeOf9
  v9 := Tryz.zeroValue9
  t22 := Tryz.underlying151
  a22 := Tryz.isAgg151
  z22 := Tryz.sizeOf151
  v22 := Tryz.zeroValue151
  t25 := Tryz.underlying225
  a25 := Tryz.isAgg225
  z25 := Tryz.sizeOf225
  v25 := Tryz.zeroValue225
  t39 := Tryz.underlying178
  a39 := Tryz.isAgg178
  z39 := Tryz.sizeOf178
  v39 := Tryz.zeroValue178
  t45 := Tryz.underlying293
  a45 := Tryz.isAgg293
  z45 := Tryz.sizeOf293
  v45 := Tryz.zeroValue293
  t46 := Tryz.underlying294
  a46 := Tryz.isAgg294
  z46 := Tryz.sizeOf294
  v46 := Tryz.zeroValue294
  t50 := Tryz.underlying213
  a50 := Tryz.isAgg213
  z50 := Tryz.sizeOf213
  v50 := Tryz.zeroValue213
  t53 := Tryz.underlying236
  a53 := Tryz.isAgg236
  z53 := Tryz.sizeOf236
  v53 := Tryz.zeroValue236
  t55 := Tryz.underlying121
  a55 := Tryz.isAgg121
  z55 := Tryz.sizeOf121
  v55 := Tryz.zeroValue121
  t66 := Tryz.underlying327
  a66 := Tryz.isAgg327
  z66 := Tryz.sizeOf327
  v66 := Tryz.zeroValue327
  t70 := Tryz.underlying331
  a70 := Tryz.isAgg331
  z70 := Tryz.sizeOf331
  v70 := Tryz.zeroValue331
  t76 := Tryz.underlying362
  a76 := Tryz.isAgg362
  z76 := Tryz.sizeOf362
  v76 := Tryz.zeroValue362
  t77 := Tryz.underlying363
  a77 := Tryz.isAgg363
  z77 := Tryz.sizeOf363
  v77 := Tryz.zeroValue363 }
def Tryz.sortL72_ren : Go.Shelf.Ren := ⟨fun | 6 => 72 | 15 => 128 | 14 => 127 | 28 => 187 | 29 => 188 | 20 => 179 | 21 => 180 | 22 => 181 | 23 => 182 | 24 => 183 | 25 => 184 | 26 => 185 | 27 => 186 | 46 => 216 | 47 => 217 | 48 => 218 | 49 => 219 | 50 => 220 | 57 => 252 | n => n, fun | 22 => 31 | 24 => 45 | 25 => 142 | 3 => 3 | 39 => 178 | 0 => 0 | 53 => 236 | 55 => 121 | 4 => 4 | 46 => 294 | 45 => 293 | 50 => 213 | 5 => 5 | 9 => 9 | 66 => 327 | 70 => 331 | 76 => 362 | 77 => 363 | n => n, fun | n => n⟩
theorem Tryz.sortL72 : Go.Proofs.SlLaysF0.n6 Tryz.prog Tryz.sortL72_ren := {
  mixed := by kernel_rfl
  f6 := ⟨Tryz.f72.name, by decide, Tryz.func72.trans (congrArg some (by kernel_rfl))⟩
  f14 := ⟨Tryz.f127.name, by decide, Tryz.func127.trans (congrArg some (by kernel_rfl))⟩
  f15 := Tryz.func128.trans (congrArg some (by kernel_rfl))
  f20 := ⟨Tryz.f179.name, by decide, Tryz.func179.trans (congrArg some (by kernel_rfl))⟩
  f21 := ⟨Tryz.f180.name, by decide, Tryz.func180.trans (congrArg some (by kernel_rfl))⟩
  f22 := ⟨Tryz.f181.name, by decide, Tryz.func181.trans (congrArg some (by kernel_rfl))⟩
  f23 := ⟨Tryz.f182.name, by decide, Tryz.func182.trans (congrArg some (by kernel_rfl))⟩
  f24 := ⟨Tryz.f183.name, by decide, Tryz.func183.trans (congrArg some (by kernel_rfl))⟩
  f25 := ⟨Tryz.f184.name, by decide, Tryz.func184.trans (congrArg some (by kernel_rfl))⟩
  f26 := ⟨Tryz.f185.name, by decide, Tryz.func185.trans (congrArg some (by kernel_rfl))⟩
  f27 := ⟨Tryz.f186.name, by decide, Tryz.func186.trans (congrArg some (by kernel_rfl))⟩
  f28 := Tryz.func187.trans (congrArg some (by kernel_rfl))
  f29 := Tryz.func188.trans (congrArg some (by kernel_rfl))
  f46 := ⟨Tryz.f216.name, by decide, Tryz.func216.trans (congrArg some (by kernel_rfl))⟩
  f47 := Tryz.func217.trans (congrArg some (by kernel_rfl))
  f48 := Tryz.func218.trans (congrArg some (by kernel_rfl))
  f49 := ⟨Tryz.f219.name, by decide, Tryz.func219.trans (congrArg some (by kernel_rfl))⟩
  f50 := ⟨Tryz.f220.name, by decide, Tryz.func220.trans (congrArg some (by kernel_rfl))⟩
  f57 := ⟨Tryz.f252.name, by decide, Tryz.func252.trans (congrArg some (by kernel_rfl))⟩
  t0 := Tryz.underlying0
  a0 := Tryz.isAgg0
  z0 := Tryz.sizeOf0
  v0 := Tryz.zeroValue0
  t3 := Tryz.underlying3
  a3 := Tryz.isAgg3
  z3 := Tryz.sizeOf3
  v3 := Tryz.zeroValue3
  t4 := Tryz.underlying4
  a4 := Tryz.isAgg4
  z4 := Tryz.sizeOf4
  v4 := Tryz.zeroValue4
  t5 := Tryz.underlying5
  a5 := Tryz.isAgg5
  z5 := Tryz.sizeOf5
  v5 := Tryz.zeroValue5
  t9 := Tryz.underlying9
  a9 := Tryz.isAgg9
  z9 := Tryz.sizeOf9
  v9 := Tryz.zeroValue9
  t22 := Tryz.underlying31
  a22 := Tryz.isAgg31
  z22 := Tryz.sizeOf31
  v22 := Tryz.zeroValue31
  t25 := Tryz.underlying142
  a25 := Tryz.isAgg142
  z25 := Tryz.sizeOf142
  v25 := Tryz.zeroValue142
  t39 := Tryz.underlying178
  a39 := Tryz.isAgg178
  z39 := Tryz.sizeOf178
  v39 := Tryz.zeroValue178
  t45 := Tryz.underlying293
  a45 := Tryz.isAgg293
  z45 := Tryz.sizeOf293
  v45 := Tryz.zeroValue293
  t46 := Tryz.underlying294
  a46 := Tryz.isAgg294
  z46 := Tryz.sizeOf294
  v46 := Tryz.zeroValue294
  t50 := Tryz.underlying213
  a50 := Tryz.isAgg213
  z50 := Tryz.sizeOf213
  v50 := Tryz.zeroValue213
  t53 := Tryz.underlying236
  a53 := Tryz.isAgg236
  z53 := Tryz.sizeOf236
  v53 := Tryz.zeroValue236
  t55 := Tryz.underlying121
  a55 := Tryz.isAgg121
  z55 := Tryz.sizeOf121
  v55 := Tryz.zeroValue121
  t66 := Tryz.underlying327
  a66 := Tryz.isAgg327
  z66 := Tryz.sizeOf327
  v66 := Tryz.zeroValue327
  t70 := Tryz.underlying331
  a70 := Tryz.isAgg331
  z70 := Tryz.sizeOf331
  v70 := Tryz.zeroValue331
  t76 := Tryz.underlying362
  a76 := Tryz.isAgg362
  z76 := Tryz.sizeOf362
  v76 := Tryz.zeroValue362
  t77 := Tryz.underlying363
  a77 := Tryz.isAgg363
  z77 := Tryz.sizeOf363
  v77 := Tryz.zeroValue363 }
end Go.Proofs
end

section
/- Contracts of the library taken from the kit's shelf. -/
namespace Go.VC
open Go.Proofs Go.LexS Go.Shelf
/-- what the named variables of the library hold -/
structure Gx (h : Heap) : Prop where
  m : ∃ m : Int, hc h ⟨1, 0, none⟩ = some (.int .i64 m)
  t : ∀ j, j < Lib.deBruijn64tab.length → hc h ⟨0, j, none⟩ = some (.int .u8 (Lib.deBruijn64tab.getD j 0))
theorem Gx.ext {h h' : Heap} (hx : Gx h) (E : Ext h h') : Gx h' := by
  obtain ⟨m, hm⟩ := hx.m
  exact ⟨⟨m, hc_ext E hm⟩, fun j hj => hc_ext E (hx.t j hj)⟩
theorem mul106 (x y : Nat) (hx : x < 18446744073709551616) (hy : y < 18446744073709551616) (h : Heap) : Fn Tryz.prog 106 #[.int .u64 x, .int .u64 y] h fun v h' => v = .tuple ⟨[.int .u64 ((x * y / 18446744073709551616 : Nat) : Int), .int .u64 ((x * y % 18446744073709551616 : Nat) : Int)]⟩ ∧ h' = h :=
  Fn.of_same fun w => Any.bits_Mul Tryz.lays212 x y hx hy w
def pieces (l : Nm) : List Nm := Go.Lib.split l [46]
theorem split255 (l : Nm) (h : Heap) (hx : Gx h) (hl : l.length ≤ 50) : Fn Tryz.prog 255 #[.string (bs l), .string (bs [46])] h fun v h' => Ext h h' ∧ ∃ s : Sl, v = .slice s.a s.n s.c ∧ RL h' 1 s nmC (pieces l) := by
  intro w hw
  subst hw
  obtain ⟨m, hm⟩ := hx.m
  have hle := Lib.countB_le (bs [46]) (by decide) (bs l).size (bs l) (Nat.le_refl _)
  have hlen := Lib.splitB_all (bs [46]) (by decide) 0 _ (bs l) rfl
  have hdat := Lib.splitB_data (bs [46]) 0 (Lib.countB (bs l) (bs [46])) (bs l)
  have hp : pieces l = (Lib.splitB (bs [46]) 0 (Lib.countB (bs l) (bs [46])) (bs l)).map (·.data.toList) := hdat.symm
  have hcells : (Lib.splitB (bs [46]) 0 (Lib.countB (bs l) (bs [46])) (bs l)).map Value.string = (pieces l).map fun x => Value.string (bs x) := by
    rw [hp, List.map_map]; rfl
  have hpl : (pieces l).length = Lib.countB (bs l) (bs [46]) + 1 := by rw [hp, List.length_map, hlen]
  rw [bs_size] at hle
  refine (Any.strings_Split Tryz.lays146 (by kernel_rfl) (bs l) (bs [46]) m w (by rw [bs_size]; omega) hm (by decide)).mono ?_
  rintro e w' ⟨rfl, rfl⟩
  rw [hcells]
  have ho : Own (w.alloc (.cells ((pieces l).map fun x => Value.string (bs x)).toArray (Tryz.lays146_ren.t 9))).heap w.heap.size ((pieces l).map fun x => Value.string (bs x)) (Tryz.lays146_ren.t 9) := Own.push
  refine ⟨_, rfl, ⟨Ext.push _ _, ⟨some ⟨w.heap.size, 0, none⟩, Lib.countB (bs l) (bs [46]) + 1, Lib.countB (bs l) (bs [46]) + 1⟩, rfl, ⟨⟨by rw [List.length_map, hpl], fun _ => ⟨w.heap.size, 0, rfl, fun i row hi => ?_⟩⟩, Nat.le_refl _, (fun e => by cases e), by rw [hpl]; omega⟩⟩, rfl, rfl, rfl, trivial⟩
  rw [List.getElem?_map] at hi
  obtain ⟨x, hx1, hx2⟩ := Option.map_eq_some_iff.1 hi
  subst hx2
  refine ho.atC fun j v hj => ?_
  match j, hj with
  | 0, hj => cases hj; rw [show 0 + i * 1 + 0 = i by omega, List.getElem?_map, hx1]; rfl
theorem swoE : Go.Sort.SWO (ltOf cmpE) where
  irrefl x := by unfold ltOf; rw [decide_eq_false_iff_not, cmpE_neg]; exact evLt_irr x
  trans x y z h1 h2 := by unfold ltOf at *; rw [decide_eq_true_eq, cmpE_neg] at *; exact evLt_trans h1 h2
  ntrans x y z h1 h2 := by
    unfold ltOf at *
    rw [decide_eq_false_iff_not, cmpE_neg] at *
    obtain ⟨a, b, c⟩ := x
    obtain ⟨a', b', c'⟩ := y
    obtain ⟨a'', b'', c''⟩ := z
    unfold evLt at *
    cases a <;> cases a' <;> cases a'' <;> simp at * <;> omega
theorem swoM : Go.Sort.SWO (ltOf cmpM) where
  irrefl x := by unfold ltOf; rw [decide_eq_false_iff_not, cmpM_neg]; exact mvLt_irr x
  trans x y z h1 h2 := by unfold ltOf at *; rw [decide_eq_true_eq, cmpM_neg] at *; exact mvLt_trans h1 h2
  ntrans x y z h1 h2 := by
    unfold ltOf at *
    rw [decide_eq_false_iff_not, cmpM_neg] at *
    obtain ⟨f, a, b, c, t, g⟩ := x
    obtain ⟨f', a', b', c', t', g'⟩ := y
    obtain ⟨f'', a'', b'', c'', t'', g''⟩ := z
    unfold mvLt evLt Mv.ev at *
    cases a <;> cases a' <;> cases a'' <;> simp at * <;> omega
instance : Inhabited Ev := ⟨⟨false, 0, 0⟩⟩
instance : Inhabited Mv := ⟨⟨0, false, 0, 0, 0, false⟩⟩
theorem sort137 {h0 h : Heap} {L : List It} (hs : St h0 h L) (k : Nat) {s : Sl} {l : List Ev} (hk : L[k]? = some (.sl s 116 3 (l.map Ev.cs))) (hm : l.length ≤ 1048576) :
    Fn Tryz.prog 137 #[.slice s.a s.n s.c, .func (.func 138) #[] #[]] h fun v h' => v = .tuple ⟨[]⟩ ∧ ∃ l' : List Ev, l'.Perm l ∧ l'.Pairwise (fun a b => ¬ evLt b a) ∧ St h0 h' (L.set k (.sl s 116 3 (l'.map Ev.cs))) := by
  refine Fn.mono (sort_own Tryz.sortL137 3 116 Tryz.isAgg116 Tryz.sizeOf116 Ev.cs (fun _ => rfl) (fun x v hv => by simp [Ev.cs] at hv; rcases hv with rfl | rfl | rfl <;> rfl) cmpE swoE 138 (enters_of Tryz.func138 (by kernel_rfl) rfl) (fun x y h => @M.compare138 monoDrawn x y h) hs k hk (by omega) (by omega)) ?_
  rintro v h' ⟨rfl, l', hp, hw, hs'⟩
  exact ⟨rfl, l', hp, hw.imp fun {a b} hab => by unfold ltOf at hab; rw [decide_eq_false_iff_not, cmpE_neg] at hab; exact hab, hs'⟩
theorem sort72 {h0 h : Heap} {L : List It} (hs : St h0 h L) (k : Nat) {s : Sl} {l : List Mv} (hk : L[k]? = some (.sl s 45 6 (l.map Mv.cs))) (hm : l.length ≤ 1048576) :
    Fn Tryz.prog 72 #[.slice s.a s.n s.c, .func (.func 73) #[] #[]] h fun v h' => v = .tuple ⟨[]⟩ ∧ ∃ l' : List Mv, l'.Perm l ∧ l'.Pairwise (fun a b => ¬ mvLt b a) ∧ St h0 h' (L.set k (.sl s 45 6 (l'.map Mv.cs))) := by
  refine Fn.mono (sort_own Tryz.sortL72 6 45 Tryz.isAgg45 Tryz.sizeOf45 Mv.cs (fun _ => rfl) (fun x v hv => by simp [Mv.cs] at hv; rcases hv with rfl | rfl | rfl | rfl | rfl | rfl <;> rfl) cmpM swoM 73 (enters_of Tryz.func73 (by kernel_rfl) rfl) (fun x y h => @M.order73 monoDrawn x y h) hs k hk (by omega) (by omega)) ?_
  rintro v h' ⟨rfl, l', hp, hw, hs'⟩
  exact ⟨rfl, l', hp, hw.imp fun {a b} hab => by unfold ltOf at hab; rw [decide_eq_false_iff_not, cmpM_neg] at hab; exact hab, hs'⟩
end Go.VC
end

section
/- For every program: the rest of a slice read as a slice; clear of the rest of a slice of the call's own; a copy of cells. -/
namespace Go.VC
open Go.RowKit
theorem subA_some {b o i c k : Nat} (h : i < c) : subA (some ⟨b, o, none⟩) i c k = some ⟨b, o + i * k, none⟩ := by
  unfold subA
  rw [if_neg (by omega)]
  show some ((⟨b, o, none⟩ : Addr).add (i * k)) = _
  rw [show (⟨b, o, none⟩ : Addr).add (i * k) = ⟨b, o + i * k, none⟩ from add_n _ _ _]
theorem Rw.from {h : Heap} {k : Nat} {s : Sl} {rows : List (List Value)} (hr : Rw h k s rows) {i : Nat} (hc : s.n ≤ s.c) (hi : i < s.n) : Rw h k ⟨subA s.a i s.c k, s.n - i, s.c - i⟩ (rows.drop i) := by
  obtain ⟨h1, h2⟩ := hr
  refine ⟨by rw [List.length_drop]; show s.n - i = _; omega, fun _ => ?_⟩
  obtain ⟨b, o, ha, hat⟩ := h2 (by omega)
  refine ⟨b, o + i * k, by rw [ha]; exact subA_some (by omega), fun j row hj => ?_⟩
  rw [List.getElem?_drop] at hj
  have := hat (i + j) row hj
  rw [Nat.add_mul, ← Nat.add_assoc] at this
  exact this
theorem zeroCells_len (z : Array Value) (n : Nat) : (Builtin.zeroCells z n).toList.length = n * z.size := by
  simp [Builtin.zeroCells]
theorem zeroCells_mem {z : Array Value} {n : Nat} {v : Value} (h : v ∈ (Builtin.zeroCells z n).toList) (hz : 0 < z.size) : v ∈ z.toList := by
  simp only [Builtin.zeroCells] at h
  simp only [Array.mem_toList_iff, Array.mem_map] at h
  obtain ⟨i, _, rfl⟩ := h
  rw [getElem!_pos z _ (Nat.mod_lt _ hz)]
  simp
theorem St.clear {P : Program} {h0 h : Heap} {L : List It} (hs : St h0 h L) (k : Nat) {s : Sl} {e : TypeId} {n : Nat} {rows : List (List Value)} (hk : L[k]? = some (.sl s e n rows)) (hn : 0 < n) (i : Nat) (hi : i ≤ s.n) {t ty e2 : TypeId} {z : Value}
    (hu : P.underlying t = some (.slice e2)) (hz : ∀ w, (zeroValue e2).run P w = .ok z w) (hzn : z.cells.size = n) (hz1 : z.cells.toList.all oneB = true) {K : Value → Heap → Prop}
    (hK : ∀ v h', St h0 h' (L.set k (.sl ⟨s.a, i, s.c⟩ e n (rows.take i))) → K v h') : RunW P (Builtin.clear_ #[t] ty #[.slice (subA s.a i s.c n) (s.n - i) (s.c - i)]) h K := by
  intro w hw
  subst hw
  have hget := hs.get hk
  have hln := (hs.rw k hk hn).1
  have hcap := hget.1.cap
  by_cases hin : i = s.n
  · refine ⟨.tuple #[], w, ?_, hK _ _ ?_, rfl, rfl, rfl⟩
    · rw [show s.n - i = 0 by omega]
      cases subA s.a i s.c n <;> simp [Builtin.clear_, run_underlying hu]
    · have e1 : rows.take i = rows := List.take_of_length_le (by omega)
      have e2 : (⟨s.a, i, s.c⟩ : Sl) = s := by rw [hin]
      rw [e1, e2]
      obtain ⟨a, b⟩ := List.getElem?_eq_some_iff.1 hk
      rw [← b, List.set_getElem_self a]; exact hs
  · have hlt : i < s.n := by omega
    rcases hget.1.2 with ⟨_, hn0, _⟩ | ⟨g, cur, ha, hb0, hh, hnc, hcm, hsz, htk⟩
    · omega
    · have hm : (s.n - i) * n + i * n = s.n * n := by rw [← Nat.add_mul]; congr 1; omega
      have hmc : s.n * n ≤ s.c * n := Nat.mul_le_mul_right _ hnc
      have hsub : subA s.a i s.c n = some ⟨g, 0 + i * n, none⟩ := by rw [ha]; exact subA_some (by omega)
      have hlen := zeroCells_len z.cells (s.n - i)
      rw [hzn] at hlen
      have hone : (Builtin.zeroCells z.cells (s.n - i)).toList.all oneB = true := by
        rw [List.all_eq_true] at hz1 ⊢
        exact fun v hv => hz1 v (zeroCells_mem hv (by omega))
      have hown : Own w.heap g cur.toList e := by unfold Own; rw [hh]
      have hok := hown.okAt (o := 0 + i * n) (n := (Builtin.zeroCells z.cells (s.n - i)).toList.length) (by rw [hlen]; simp; omega)
      obtain ⟨w', hr, hh', hf⟩ := storeCells_run (P := P) (a := ⟨g, 0 + i * n, none⟩) (Builtin.zeroCells z.cells (s.n - i)).toList 0 w hone (fun j hj => by rw [show 0 + j = j from Nat.zero_add j]; exact hok j hj)
      have hown' := Own.hputs (o := 0 + i * n) (Builtin.zeroCells z.cells (s.n - i)).toList 0 w.heap cur.toList hown (by rw [hlen]; simp; omega)
      have hbut := But.hputs (a := ⟨g, 0 + i * n, none⟩) (Builtin.zeroCells z.cells (s.n - i)).toList 0 w.heap
      rw [← hh'] at hown' hbut
      refine ⟨.tuple #[], w', ?_, hK _ _ ?_, hf.1, hf.2.1, hf.2.2.1⟩
      · rw [hsub]
        obtain ⟨m, hm⟩ : ∃ m, s.n - i = m + 1 := ⟨s.n - i - 1, by omega⟩
        rw [hm] at hr ⊢
        simp only [Nat.zero_add] at hr
        simp [Builtin.clear_, run_underlying hu, hz, hr]
      · refine hs.turn hk (by rw [hbut.1]; exact Nat.le_refl _) (j := .sl ⟨s.a, i, s.c⟩ e n (rows.take i)) ?_ (fun b hb => .inr hb) (fun b hb hne => hbut.2 b fun e => hne (by subst e; show s.a.map (·.block) = _; rw [ha]; rfl))
        have hrl : ∀ r ∈ rows.take i, r.length = n := fun r hr => hget.2 r (List.mem_of_mem_take hr)
        refine ⟨⟨by rw [flatten_len _ hrl, List.length_take]; show min i rows.length * n = i * n; rw [Nat.min_eq_left (by omega)], .inr ⟨g, _, ha, Nat.zero_le _, hown', by show i ≤ s.c; omega, hcm, ?_, ?_⟩⟩, hrl⟩
        · show (splice _ _ _).length = s.c * n
          rw [← hsz]
          have : 0 + i * n + 0 + (Builtin.zeroCells z.cells (s.n - i)).toList.length ≤ cur.toList.length := by rw [hlen]; simp; omega
          unfold splice
          simp only [List.length_append, List.length_take, List.length_drop, Array.length_toList] at this ⊢
          omega
        · show (splice cur.toList (0 + i * n + 0) _).take (i * n) = _
          have h3 : (rows.take i).flatten = rows.flatten.take (i * n) := by
            have h5 : rows = rows.take i ++ rows.drop i := (List.take_append_drop i rows).symm
            rw [congrArg List.flatten h5, List.flatten_append, List.take_append_of_le_length (by rw [flatten_len _ hrl, List.length_take, Nat.min_eq_left (by omega)]; exact Nat.le_refl _)]
            rw [List.take_of_length_le (l := (rows.take i).flatten) (by rw [flatten_len _ hrl, List.length_take, Nat.min_eq_left (by omega)]; exact Nat.le_refl _)]
          rw [h3, ← htk, List.take_take, Nat.min_eq_left (by omega)]
          unfold splice
          rw [List.append_assoc, List.take_append_of_le_length (by rw [List.length_take, Array.length_toList]; omega), List.take_take, Nat.min_eq_left (by omega)]
/-- a copy of cells into a block of the call's own -/
theorem Cpy_row {P : Program} {t u e : TypeId} (hu : P.underlying t = some (.slice e)) (hs : (P.info? e).map (·.size) = some 1) {h : Heap} {b o dLen dCap : Nat} {xs : List Value} {ty : TypeId} (ho : Own h b xs ty)
    {g2 o2 sLen sCap : Nat} {l : List Value} (hn : l.length = min sLen dLen) (hsrc : ∀ (j : Nat) (c : Value), l[j]? = some c → hc h ⟨g2, o2 + j, none⟩ = some c) (hfit : o + l.length ≤ xs.length) (h1 : ∀ v ∈ l, v.oneCell' = true)
    {K : Int → Heap → Prop} (hK : ∀ h', But b h h' → Own h' b (splice xs o l) ty → K l.length h') :
    Cpy P t u (.slice (some ⟨b, o, none⟩) dLen dCap) (.slice (some ⟨g2, o2, none⟩) sLen sCap) h K := by
  intro ty' w hw
  subst hw
  have hrun := run_copy_row (P := P) w t u ty' e b o dLen dCap ⟨g2, o2, none⟩ sLen sCap ⟨xs⟩ ty l hu hs ho hn
    (fun j v hj => by
      have e : (⟨g2, o2, none⟩ : Addr).add j = ⟨g2, o2 + j, none⟩ := add_n _ _ _
      rw [e]; exact hsrc j v hj)
    (by simp; omega) h1
  obtain ⟨h2, h3⟩ := setRow_own (ys := splice xs o l) ho
  exact ⟨_, _, hrun, ⟨l.length, rfl, hK _ h3 h2⟩, rfl, rfl, rfl⟩
end Go.VC
end

section
namespace Go.VC
open Go.Proofs
set_option maxRecDepth 100000
set_option linter.unusedVariables false

/- slices.Compact[[]farandole/view.event,farandole/view.event]
   loop rrlrborlbrtrlrb: k_19:Int, x_20:Int
   loop rrlrb: k_4:Int -/
def W139 (p0 : Sl) (h : Heap) (R : Value → Heap → Prop) : Prop :=
  (sB (decide ((p0.n : Int) < 2)) 
   (R (.slice p0.a p0.n p0.c) h) 
   ((∃ I1 : Int → Heap → Nat → Prop, (∃ m2, I1 1 h m2) ∧ 
   (∀ (_ : Env) (k_4 : Int) (h5 : Heap) (m3 : Nat), I1 k_4 h5 m3 → 
   (sB (decide (k_4 < (p0.n : Int))) 
     ((NB p0.a fun b6 o7 => ((0 ≤ (k_4 : Int) ∧ (k_4 : Int) < (p0.n : Nat)) ∧ 
     (∃ x8 : Bool, ∃ x9 : Int, ∃ x10 : Int, atC h5 ⟨b6, o7 + Int.toNat k_4 * 3, none⟩ [.bool x8, .int .i64 x9, .int .i64 x10] ∧ 
     (NB p0.a fun b11 o12 => ((0 ≤ ((IntKind.wrap .i64 (k_4 - 1)) : Int) ∧ ((IntKind.wrap .i64 (k_4 - 1)) : Int) < (p0.n : Nat)) ∧ 
     (∃ x13 : Bool, ∃ x14 : Int, ∃ x15 : Int, atC h5 ⟨b11, o12 + Int.toNat (IntKind.wrap .i64 (k_4 - 1)) * 3, none⟩ [.bool x13, .int .i64 x14, .int .i64 x15] ∧ 
     (sB ((x8 == x13) && ((x9 == x14) && ((x10 == x15) && true))) 
      ((((0 : Int) ≤ (k_4 : Int) ∧ (k_4 : Int) ≤ ((p0.n : Nat) : Int) ∧ ((p0.n : Nat) : Int) ≤ (p0.c : Nat)) ∧ 
      (∃ I16 : Int → Int → Heap → Nat → Prop, (∃ m17, I16 k_4 1 h5 m17) ∧ 
      (∀ (_ : Env) (k_19 : Int) (x_20 : Int) (h21 : Heap) (m18 : Nat), I16 k_19 x_20 h21 m18 → 
      (sB (decide (x_20 < (((Int.toNat (p0.n : Nat) - Int.toNat k_4) : Nat) : Int))) 
        ((NB (subA p0.a (Int.toNat k_4) p0.c 3) fun b22 o23 => ((0 ≤ (x_20 : Int) ∧ (x_20 : Int) < ((Int.toNat (p0.n : Nat) - Int.toNat k_4) : Nat)) ∧ 
        (∃ x24 : Bool, ∃ x25 : Int, ∃ x26 : Int, atC h21 ⟨b22, o23 + Int.toNat x_20 * 3, none⟩ [.bool x24, .int .i64 x25, .int .i64 x26] ∧ 
        (NB (subA p0.a (Int.toNat k_4) p0.c 3) fun b27 o28 => ((0 ≤ ((IntKind.wrap .i64 (x_20 - 1)) : Int) ∧ ((IntKind.wrap .i64 (x_20 - 1)) : Int) < ((Int.toNat (p0.n : Nat) - Int.toNat k_4) : Nat)) ∧ 
        (∃ x29 : Bool, ∃ x30 : Int, ∃ x31 : Int, atC h21 ⟨b27, o28 + Int.toNat (IntKind.wrap .i64 (x_20 - 1)) * 3, none⟩ [.bool x29, .int .i64 x30, .int .i64 x31] ∧ 
        (sB (!((x24 == x29) && ((x25 == x30) && ((x26 == x31) && true)))) 
         ((NB (subA p0.a (Int.toNat k_4) p0.c 3) fun b32 o33 => ((0 ≤ (x_20 : Int) ∧ (x_20 : Int) < ((Int.toNat (p0.n : Nat) - Int.toNat k_4) : Nat)) ∧ 
         (∃ x34 : Bool, ∃ x35 : Int, ∃ x36 : Int, atC h21 ⟨b32, o33 + Int.toNat x_20 * 3, none⟩ [.bool x34, .int .i64 x35, .int .i64 x36] ∧ 
         (NB p0.a fun b37 o38 => ((0 ≤ (k_19 : Int) ∧ (k_19 : Int) < (p0.n : Nat)) ∧ 
         (okAt h21 ⟨b37, o38 + Int.toNat k_19 * 3, none⟩ 3 ∧ ∀ h39 : Heap, h39 = hputs h21 ⟨b37, o38 + Int.toNat k_19 * 3, none⟩ 0 [.bool x34, .int .i64 x35, .int .i64 x36] → 
         (∃ m40, m40 < m18 ∧ I16 (IntKind.wrap .i64 (k_19 + 1)) (IntKind.wrap .i64 (x_20 + 1)) h39 m40)))))))) 
         ((∃ m41, m41 < m18 ∧ I16 k_19 (IntKind.wrap .i64 (x_20 + 1)) h21 m41)))))))))) 
        ((((0 : Int) ≤ (k_19 : Int) ∧ (k_19 : Int) ≤ ((p0.n : Nat) : Int) ∧ ((p0.n : Nat) : Int) ≤ (p0.c : Nat)) ∧ 
        (RunW Tryz.prog (Builtin.clear_ #[151] 0 #[.slice (subA p0.a (Int.toNat k_19) p0.c 3) (Int.toNat (p0.n : Nat) - Int.toNat k_19) (p0.c - Int.toNat k_19)]) h21 (fun v43 h42 => 
        (((0 : Int) ≤ (0 : Int) ∧ (0 : Int) ≤ (k_19 : Int) ∧ (k_19 : Int) ≤ (p0.c : Nat)) ∧ 
        R (.slice (subA p0.a (Int.toNat 0) p0.c 3) (Int.toNat k_19 - Int.toNat 0) (p0.c - Int.toNat 0)) h42)))))))))) 
      ((∃ m44, m44 < m3 ∧ I1 (IntKind.wrap .i64 (k_4 + 1)) h5 m44)))))))))) 
     (R (.slice p0.a p0.n p0.c) h5))))))
theorem vc139e (p0 : Sl) (h : Heap) (R : Value → Heap → Prop) : W139 p0 h R = fnW Tryz.prog 139 (.s .z (.s .z (.s (.s .z (.b (.l [(3, .one (.int .i64))] (.s .z (.s (.b (.s .z (.c (.s .z (.s (.s .z (.b (.l [(3, .one (.int .i64)), (5, .one (.int .i64))] .z))) .z)) .z))) .z))))) .z))) #[.slice p0.a p0.n p0.c] h R := by kernel_rfl
theorem vc139 (p0 : Sl) (h : Heap) (R : Value → Heap → Prop) (H : W139 p0 h R) : Fn Tryz.prog 139 #[.slice p0.a p0.n p0.c] h R := fnI (vc139e p0 h R) H

/- slices.SortFunc[[]farandole/view.event,farandole/view.event] -/
def W137 (p0 : Sl) (p1 : Value) (h : Heap) (R : Value → Heap → Prop) : Prop :=
  (Fn Tryz.prog 128 #[.int .u64 (IntKind.wrap .u64 (p0.n : Int))] h 
  (fun v1 h3 => ∃ x2 : Int, v1 = .int .i64 x2 ∧ 
  (Fn Tryz.prog 193 #[.slice p0.a p0.n p0.c, .int .i64 0, .int .i64 (p0.n : Int), .int .i64 x2, p1] h3 
  (fun v4 h5 => v4 = .tuple ⟨[]⟩ ∧ 
  R (.tuple ⟨[]⟩) h5))))
theorem vc137e (p0 : Sl) (p1 : Value) (h : Heap) (R : Value → Heap → Prop) : W137 p0 p1 h R = fnW Tryz.prog 137 .z #[.slice p0.a p0.n p0.c, p1] h R := by kernel_rfl
theorem vc137 (p0 : Sl) (p1 : Value) (h : Heap) (R : Value → Heap → Prop) (H : W137 p0 p1 h R) : Fn Tryz.prog 137 #[.slice p0.a p0.n p0.c, p1] h R := fnI (vc137e p0 p1 h R) H

/- slices.SortFunc[[]farandole/api.Move,farandole/api.Move] -/
def W72 (p0 : Sl) (p1 : Value) (h : Heap) (R : Value → Heap → Prop) : Prop :=
  (Fn Tryz.prog 128 #[.int .u64 (IntKind.wrap .u64 (p0.n : Int))] h 
  (fun v1 h3 => ∃ x2 : Int, v1 = .int .i64 x2 ∧ 
  (Fn Tryz.prog 127 #[.slice p0.a p0.n p0.c, .int .i64 0, .int .i64 (p0.n : Int), .int .i64 x2, p1] h3 
  (fun v4 h5 => v4 = .tuple ⟨[]⟩ ∧ 
  R (.tuple ⟨[]⟩) h5))))
theorem vc72e (p0 : Sl) (p1 : Value) (h : Heap) (R : Value → Heap → Prop) : W72 p0 p1 h R = fnW Tryz.prog 72 .z #[.slice p0.a p0.n p0.c, p1] h R := by kernel_rfl
theorem vc72 (p0 : Sl) (p1 : Value) (h : Heap) (R : Value → Heap → Prop) (H : W72 p0 p1 h R) : Fn Tryz.prog 72 #[.slice p0.a p0.n p0.c, p1] h R := fnI (vc72e p0 p1 h R) H

/- (*farandole/project.states).view
   loop rrrlrborrlbrlrrtrrb: x_64:Int
   join rrrlrborrlbr: 
   loop rrrlrb: known_6:Bool, x_7:Int -/
def W41 (p0 : Addr) (p1 : Sl) (h : Heap) (R : Value → Heap → Prop) : Prop :=
  (∀ h1 : Heap, h1 = h.push (.cells ⟨[.bool false, .int .i64 0, .bool false, .int .i64 0, .int .i64 0]⟩ 93) → 
  (∀ h2 : Heap, h2 = h1.push (.cells ⟨[.bool false, .int .i64 0, .bool false, .int .i64 0, .int .i64 0]⟩ 93) → 
  (∃ I3 : Bool → Int → Heap → Nat → Prop, (∃ m4, I3 false 0 h2 m4) ∧ 
  (∀ (_ : Env) (known_6 : Bool) (x_7 : Int) (h8 : Heap) (m5 : Nat), I3 known_6 x_7 h8 m5 → 
  (sB (decide (x_7 < (p1.n : Int))) 
    ((NB p1.a fun b9 o10 => ((0 ≤ (x_7 : Int) ∧ (x_7 : Int) < (p1.n : Nat)) ∧ 
    (∃ x11 : Int, hc h8 ⟨b9, o10 + Int.toNat x_7 * 1, none⟩ = some (.int .i64 x11) ∧ 
    (∃ J12 : Heap → Prop, 
    ((∃ x13 : Sl, hc h8 p0 = some (.slice x13.a x13.n x13.c) ∧ 
     (NB x13.a fun b14 o15 => ((0 ≤ (x11 : Int) ∧ (x11 : Int) < (x13.n : Nat)) ∧ 
     (∃ x16 : Sl, hc h8 ⟨b14, o15 + Int.toNat x11 * 1, none⟩ = some (.slice x16.a x16.n x16.c) ∧ 
     (sB (decide ((x16.n : Int) > 0)) 
      ((∃ x17 : Sl, hc h8 p0 = some (.slice x17.a x17.n x17.c) ∧ 
      (NB x17.a fun b18 o19 => ((0 ≤ (x11 : Int) ∧ (x11 : Int) < (x17.n : Nat)) ∧ 
      (∃ x20 : Sl, hc h8 ⟨b18, o19 + Int.toNat x11 * 1, none⟩ = some (.slice x20.a x20.n x20.c) ∧ 
      (NB x20.a fun b21 o22 => ((0 ≤ (0 : Int) ∧ (0 : Int) < (x20.n : Nat)) ∧ 
      (∃ x23 : Bool, hc h8 ⟨b21, o22 + Int.toNat 0 * 3, none⟩ = some (.bool x23) ∧ 
      (sB x23 
       ((∃ x24 : Sl, hc h8 ⟨p0.block, p0.off + 1, none⟩ = some (.slice x24.a x24.n x24.c) ∧ 
       (NB x24.a fun b25 o26 => ((0 ≤ (x11 : Int) ∧ (x11 : Int) < (x24.n : Nat)) ∧ 
       (∃ x27 : Bool, hc h8 ⟨b25, o26 + Int.toNat x11 * 1, none⟩ = some (.bool x27) ∧ 
       (sB x27 
        ((∃ x28 : Bool, ∃ x29 : Int, ∃ x30 : Bool, ∃ x31 : Int, ∃ x32 : Int, atC h8 ⟨h1.size, 0, none⟩ [.bool x28, .int .i64 x29, .bool x30, .int .i64 x31, .int .i64 x32] ∧ 
        (okAt h8 ⟨h.size, 0, none⟩ 5 ∧ ∀ h33 : Heap, h33 = hputs h8 ⟨h.size, 0, none⟩ 0 [.bool x28, .int .i64 x29, .bool x30, .int .i64 x31, .int .i64 x32] → 
        (∃ x34 : Bool, ∃ x35 : Int, ∃ x36 : Bool, ∃ x37 : Int, ∃ x38 : Int, atC h33 ⟨h.size, 0, none⟩ [.bool x34, .int .i64 x35, .bool x36, .int .i64 x37, .int .i64 x38] ∧ 
        R (.tuple ⟨[.agg ⟨[.bool x34, .int .i64 x35, .bool x36, .int .i64 x37, .int .i64 x38]⟩, .bool false]⟩) h33)))) 
        ((∃ x39 : Sl, hc h8 p0 = some (.slice x39.a x39.n x39.c) ∧ 
        (NB x39.a fun b40 o41 => ((0 ≤ (x11 : Int) ∧ (x11 : Int) < (x39.n : Nat)) ∧ 
        (∃ x42 : Sl, hc h8 ⟨b40, o41 + Int.toNat x11 * 1, none⟩ = some (.slice x42.a x42.n x42.c) ∧ 
        (∃ x43 : Sl, hc h8 p0 = some (.slice x43.a x43.n x43.c) ∧ 
        (NB x43.a fun b44 o45 => ((0 ≤ (x11 : Int) ∧ (x11 : Int) < (x43.n : Nat)) ∧ 
        (∃ x46 : Sl, hc h8 ⟨b44, o45 + Int.toNat x11 * 1, none⟩ = some (.slice x46.a x46.n x46.c) ∧ 
        (NB x42.a fun b47 o48 => ((0 ≤ ((IntKind.wrap .i64 ((x46.n : Int) - 1)) : Int) ∧ ((IntKind.wrap .i64 ((x46.n : Int) - 1)) : Int) < (x42.n : Nat)) ∧ 
        (∃ x49 : Bool, hc h8 ⟨b47, o48 + Int.toNat (IntKind.wrap .i64 ((x46.n : Int) - 1)) * 3, none⟩ = some (.bool x49) ∧ 
        (sB (!x49) 
         ((∃ x50 : Bool, ∃ x51 : Int, ∃ x52 : Bool, ∃ x53 : Int, ∃ x54 : Int, atC h8 ⟨h1.size, 0, none⟩ [.bool x50, .int .i64 x51, .bool x52, .int .i64 x53, .int .i64 x54] ∧ 
         (okAt h8 ⟨h.size, 0, none⟩ 5 ∧ ∀ h55 : Heap, h55 = hputs h8 ⟨h.size, 0, none⟩ 0 [.bool x50, .int .i64 x51, .bool x52, .int .i64 x53, .int .i64 x54] → 
         (∃ x56 : Bool, ∃ x57 : Int, ∃ x58 : Bool, ∃ x59 : Int, ∃ x60 : Int, atC h55 ⟨h.size, 0, none⟩ [.bool x56, .int .i64 x57, .bool x58, .int .i64 x59, .int .i64 x60] ∧ 
         R (.tuple ⟨[.agg ⟨[.bool x56, .int .i64 x57, .bool x58, .int .i64 x59, .int .i64 x60]⟩, .bool false]⟩) h55)))) 
         ((∃ I61 : Int → Heap → Nat → Prop, (∃ m62, I61 0 h8 m62) ∧ 
         (∀ (_ : Env) (x_64 : Int) (h65 : Heap) (m63 : Nat), I61 x_64 h65 m63 → 
         (sB (decide (x_64 < (p1.n : Int))) 
           ((NB p1.a fun b66 o67 => ((0 ≤ (x_64 : Int) ∧ (x_64 : Int) < (p1.n : Nat)) ∧ 
           (∃ x68 : Int, hc h65 ⟨b66, o67 + Int.toNat x_64 * 1, none⟩ = some (.int .i64 x68) ∧ 
           (∃ x69 : Sl, hc h65 ⟨p0.block, p0.off + 1, none⟩ = some (.slice x69.a x69.n x69.c) ∧ 
           (NB x69.a fun b70 o71 => ((0 ≤ (x68 : Int) ∧ (x68 : Int) < (x69.n : Nat)) ∧ 
           (∃ x72 : Bool, hc h65 ⟨b70, o71 + Int.toNat x68 * 1, none⟩ = some (.bool x72) ∧ 
           (sB x72 
            ((∃ x73 : Bool, ∃ x74 : Int, ∃ x75 : Bool, ∃ x76 : Int, ∃ x77 : Int, atC h65 ⟨h1.size, 0, none⟩ [.bool x73, .int .i64 x74, .bool x75, .int .i64 x76, .int .i64 x77] ∧ 
            (okAt h65 ⟨h.size, 0, none⟩ 5 ∧ ∀ h78 : Heap, h78 = hputs h65 ⟨h.size, 0, none⟩ 0 [.bool x73, .int .i64 x74, .bool x75, .int .i64 x76, .int .i64 x77] → 
            (∃ x79 : Bool, ∃ x80 : Int, ∃ x81 : Bool, ∃ x82 : Int, ∃ x83 : Int, atC h78 ⟨h.size, 0, none⟩ [.bool x79, .int .i64 x80, .bool x81, .int .i64 x82, .int .i64 x83] ∧ 
            R (.tuple ⟨[.agg ⟨[.bool x79, .int .i64 x80, .bool x81, .int .i64 x82, .int .i64 x83]⟩, .bool false]⟩) h78)))) 
            ((∃ x84 : Sl, hc h65 p0 = some (.slice x84.a x84.n x84.c) ∧ 
            (NB x84.a fun b85 o86 => ((0 ≤ (x11 : Int) ∧ (x11 : Int) < (x84.n : Nat)) ∧ 
            (∃ x87 : Sl, hc h65 ⟨b85, o86 + Int.toNat x11 * 1, none⟩ = some (.slice x87.a x87.n x87.c) ∧ 
            (∃ x88 : Sl, hc h65 p0 = some (.slice x88.a x88.n x88.c) ∧ 
            (NB x88.a fun b89 o90 => ((0 ≤ (x68 : Int) ∧ (x68 : Int) < (x88.n : Nat)) ∧ 
            (∃ x91 : Sl, hc h65 ⟨b89, o90 + Int.toNat x68 * 1, none⟩ = some (.slice x91.a x91.n x91.c) ∧ 
            (Fn Tryz.prog 89 #[.slice x87.a x87.n x87.c, .slice x91.a x91.n x91.c] h65 
            (fun v92 h94 => ∃ x93 : Bool, v92 = .bool x93 ∧ 
            (Sm [⟨b70, o71 + Int.toNat x68 * 1, none⟩, ⟨p0.block, p0.off + 1, none⟩] h65 h94 ∧ 
            (sB (!x93) 
             ((∃ x95 : Bool, ∃ x96 : Int, ∃ x97 : Bool, ∃ x98 : Int, ∃ x99 : Int, atC h94 ⟨h1.size, 0, none⟩ [.bool x95, .int .i64 x96, .bool x97, .int .i64 x98, .int .i64 x99] ∧ 
             (okAt h94 ⟨h.size, 0, none⟩ 5 ∧ ∀ h100 : Heap, h100 = hputs h94 ⟨h.size, 0, none⟩ 0 [.bool x95, .int .i64 x96, .bool x97, .int .i64 x98, .int .i64 x99] → 
             (∃ x101 : Bool, ∃ x102 : Int, ∃ x103 : Bool, ∃ x104 : Int, ∃ x105 : Int, atC h100 ⟨h.size, 0, none⟩ [.bool x101, .int .i64 x102, .bool x103, .int .i64 x104, .int .i64 x105] ∧ 
             R (.tuple ⟨[.agg ⟨[.bool x101, .int .i64 x102, .bool x103, .int .i64 x104, .int .i64 x105]⟩, .bool false]⟩) h100)))) 
             ((∃ m106, m106 < m63 ∧ I61 (IntKind.wrap .i64 (x_64 + 1)) h94 m106)))))))))))))))))))))))) 
           ((J12 h65))))))))))))))))))))))))) 
       ((J12 h8))))))))))) 
      ((J12 h8)))))))) ∧ 
    (∀ (_ : Env) (h107 : Heap), J12 h107 → 
    (∃ x108 : Sl, hc h107 ⟨p0.block, p0.off + 2, none⟩ = some (.slice x108.a x108.n x108.c) ∧ 
     (NB x108.a fun b109 o110 => ((0 ≤ (x11 : Int) ∧ (x11 : Int) < (x108.n : Nat)) ∧ 
     (∃ x111 : Bool, hc h107 ⟨b109, o110 + Int.toNat x11 * 1, none⟩ = some (.bool x111) ∧ 
     (sB (!x111) 
      ((∃ m112, m112 < m5 ∧ I3 known_6 (IntKind.wrap .i64 (x_7 + 1)) h107 m112)) 
      ((sB known_6 
       ((∃ x113 : Sl, hc h107 ⟨p0.block, p0.off + 3, none⟩ = some (.slice x113.a x113.n x113.c) ∧ 
       (NB x113.a fun b114 o115 => ((0 ≤ (x11 : Int) ∧ (x11 : Int) < (x113.n : Nat)) ∧ 
       (∃ x116 : Bool, ∃ x117 : Int, ∃ x118 : Bool, ∃ x119 : Int, ∃ x120 : Int, atC h107 ⟨b114, o115 + Int.toNat x11 * 5, none⟩ [.bool x116, .int .i64 x117, .bool x118, .int .i64 x119, .int .i64 x120] ∧ 
       (∃ x121 : Bool, ∃ x122 : Int, ∃ x123 : Bool, ∃ x124 : Int, ∃ x125 : Int, atC h107 ⟨h1.size, 0, none⟩ [.bool x121, .int .i64 x122, .bool x123, .int .i64 x124, .int .i64 x125] ∧ 
       (sB (!((x116 == x121) && ((x117 == x122) && (((x118 == x123) && ((x119 == x124) && ((x120 == x125) && true))) && true)))) 
        ((∃ x126 : Bool, ∃ x127 : Int, ∃ x128 : Bool, ∃ x129 : Int, ∃ x130 : Int, atC h107 ⟨h1.size, 0, none⟩ [.bool x126, .int .i64 x127, .bool x128, .int .i64 x129, .int .i64 x130] ∧ 
        (okAt h107 ⟨h.size, 0, none⟩ 5 ∧ ∀ h131 : Heap, h131 = hputs h107 ⟨h.size, 0, none⟩ 0 [.bool x126, .int .i64 x127, .bool x128, .int .i64 x129, .int .i64 x130] → 
        (∃ x132 : Bool, ∃ x133 : Int, ∃ x134 : Bool, ∃ x135 : Int, ∃ x136 : Int, atC h131 ⟨h.size, 0, none⟩ [.bool x132, .int .i64 x133, .bool x134, .int .i64 x135, .int .i64 x136] ∧ 
        R (.tuple ⟨[.agg ⟨[.bool x132, .int .i64 x133, .bool x134, .int .i64 x135, .int .i64 x136]⟩, .bool false]⟩) h131)))) 
        ((∃ x137 : Sl, hc h107 ⟨p0.block, p0.off + 3, none⟩ = some (.slice x137.a x137.n x137.c) ∧ 
        (NB x137.a fun b138 o139 => ((0 ≤ (x11 : Int) ∧ (x11 : Int) < (x137.n : Nat)) ∧ 
        (∃ x140 : Bool, ∃ x141 : Int, ∃ x142 : Bool, ∃ x143 : Int, ∃ x144 : Int, atC h107 ⟨b138, o139 + Int.toNat x11 * 5, none⟩ [.bool x140, .int .i64 x141, .bool x142, .int .i64 x143, .int .i64 x144] ∧ 
        (okAt h107 ⟨h1.size, 0, none⟩ 5 ∧ ∀ h145 : Heap, h145 = hputs h107 ⟨h1.size, 0, none⟩ 0 [.bool x140, .int .i64 x141, .bool x142, .int .i64 x143, .int .i64 x144] → 
        (∃ m146, m146 < m5 ∧ I3 true (IntKind.wrap .i64 (x_7 + 1)) h145 m146)))))))))))))) 
       ((∃ x147 : Sl, hc h107 ⟨p0.block, p0.off + 3, none⟩ = some (.slice x147.a x147.n x147.c) ∧ 
       (NB x147.a fun b148 o149 => ((0 ≤ (x11 : Int) ∧ (x11 : Int) < (x147.n : Nat)) ∧ 
       (∃ x150 : Bool, ∃ x151 : Int, ∃ x152 : Bool, ∃ x153 : Int, ∃ x154 : Int, atC h107 ⟨b148, o149 + Int.toNat x11 * 5, none⟩ [.bool x150, .int .i64 x151, .bool x152, .int .i64 x153, .int .i64 x154] ∧ 
       (okAt h107 ⟨h1.size, 0, none⟩ 5 ∧ ∀ h155 : Heap, h155 = hputs h107 ⟨h1.size, 0, none⟩ 0 [.bool x150, .int .i64 x151, .bool x152, .int .i64 x153, .int .i64 x154] → 
       (∃ m156, m156 < m5 ∧ I3 true (IntKind.wrap .i64 (x_7 + 1)) h155 m156)))))))))))))))))))) 
    ((∃ x157 : Bool, ∃ x158 : Int, ∃ x159 : Bool, ∃ x160 : Int, ∃ x161 : Int, atC h8 ⟨h1.size, 0, none⟩ [.bool x157, .int .i64 x158, .bool x159, .int .i64 x160, .int .i64 x161] ∧ 
    (okAt h8 ⟨h.size, 0, none⟩ 5 ∧ ∀ h162 : Heap, h162 = hputs h8 ⟨h.size, 0, none⟩ 0 [.bool x157, .int .i64 x158, .bool x159, .int .i64 x160, .int .i64 x161] → 
    (∃ x163 : Bool, ∃ x164 : Int, ∃ x165 : Bool, ∃ x166 : Int, ∃ x167 : Int, atC h162 ⟨h.size, 0, none⟩ [.bool x163, .int .i64 x164, .bool x165, .int .i64 x166, .int .i64 x167] ∧ 
    R (.tuple ⟨[.agg ⟨[.bool x163, .int .i64 x164, .bool x165, .int .i64 x166, .int .i64 x167]⟩, .bool true]⟩) h162)))))))))
theorem vc41e (p0 : Addr) (p1 : Sl) (h : Heap) (R : Value → Heap → Prop) : W41 p0 p1 h R = fnW Tryz.prog 41 (.s .z (.s .z (.s .z (.s (.s .z (.b (.l [(7, .one (.bool)), (15, .one (.int .i64))] (.s .z (.s .z (.s (.b (.s .z (.j [] (.s .z (.s .z (.c (.s .z (.s .z (.b (.l [(73, .one (.int .i64))] .z)))) .z))) .z))) .z)))))) .z)))) #[.pointer (some p0), .slice p1.a p1.n p1.c] h R := by kernel_rfl
theorem vc41 (p0 : Addr) (p1 : Sl) (h : Heap) (R : Value → Heap → Prop) (H : W41 p0 p1 h R) : Fn Tryz.prog 41 #[.pointer (some p0), .slice p1.a p1.n p1.c] h R := fnI (vc41e p0 p1 h R) H

end Go.VC
end

section
/- Contract: slices.Compact at events. -/
namespace Go.VC
open Go.Proofs Go.LexS
set_option maxRecDepth 100000

theorem compactL_ne {l : List Ev} (h : l ≠ []) : compactL l ≠ [] := by
  cases l with
  | nil => exact absurd rfl h
  | cons a r =>
    intro e
    have := (compactL_mem (a :: r) a).2 (by simp)
    rw [e] at this; cases this
theorem compactL_snoc : ∀ (l : List Ev) (x : Ev), compactL (l ++ [x]) = if l.getLast? = some x then compactL l else compactL l ++ [x]
  | [], x => by simp [compactL]
  | a :: r, x => by
    have ih := compactL_snoc r x
    cases r with
    | nil =>
      by_cases h : a = x
      · subst h; simp [compactL]
      · simp [compactL, h]
    | cons b r' =>
      have hne := compactL_ne (l := b :: r') (by simp)
      have hl : (a :: b :: r').getLast? = (b :: r').getLast? := by simp [List.getLast?_cons_cons]
      rw [List.cons_append, compactL, ih, hl]
      by_cases h : (b :: r').getLast? = some x
      · rw [if_pos h, if_pos h]
        conv => rhs; rw [compactL]
      · rw [if_neg h, if_neg h]
        conv => rhs; rw [compactL]
        cases hc : compactL (b :: r') with
        | nil => exact absurd hc hne
        | cons y t =>
          simp only [List.cons_append]
          split <;> rfl
theorem compactL_step {l : List Ev} {k : Nat} {x y : Ev} (hx : l[k]? = some x) (hk : 1 ≤ k) (hy : l[k - 1]? = some y) : compactL (l.take (k + 1)) = if x = y then compactL (l.take k) else compactL (l.take k) ++ [x] := by
  rw [take_snoc hx, compactL_snoc]
  have hl : (l.take k).getLast? = some y := by
    have hkl := (List.getElem?_eq_some_iff.1 hx).1
    rw [List.getLast?_eq_getElem?, List.length_take, Nat.min_eq_left (by omega), List.getElem?_take, if_pos (by omega)]
    exact hy
  rw [hl]
  by_cases e : x = y
  · rw [if_pos e, if_pos (by rw [e])]
  · rw [if_neg e, if_neg (fun h => e (by cases h; rfl))]
theorem evEq (x y : Ev) : ((x.send == y.send) && ((x.peer == y.peer) && ((x.label == y.label) && true))) = decide (x = y) := by
  obtain ⟨a, b, c⟩ := x
  obtain ⟨d, e, f⟩ := y
  rw [Bool.eq_iff_iff]
  simp
theorem und151 : Tryz.prog.underlying 151 = some (.slice 116) := by kernel_rfl
theorem zero116 (w : World) : (zeroValue 116).run Tryz.prog w = .ok (.agg #[.bool false, .int .i64 0, .int .i64 0]) w := by
  have hi : (Tryz.prog.info? 116).bind (·.zero) = some (.agg #[.bool false, .int .i64 0, .int .i64 0]) := by kernel_rfl
  cases h : Tryz.prog.info? 116 with
  | none => rw [h] at hi; cases hi
  | some i => rw [h] at hi; simp only [Option.bind_some] at hi; simp [zeroValue, typeInfo, h, hi]
theorem compact139 {h0 h : Heap} {L : List It} (hs : St h0 h L) (k : Nat) {s : Sl} {l : List Ev} (hk : L[k]? = some (.sl s 116 3 (l.map Ev.cs))) (hm : l.length ≤ 1048576) :
    Fn Tryz.prog 139 #[.slice s.a s.n s.c] h fun v h' => ∃ r : Sl, v = .slice r.a r.n r.c ∧ St h0 h' (L.set k (.sl r 116 3 ((compactL l).map Ev.cs))) := by
  apply vc139 s; unfold W139
  have hlen := hs.len k hk (by omega)
  have hn : s.n = l.length := by rw [hlen.1, List.length_map]
  have hkl : k < L.length := (List.getElem?_eq_some_iff.1 hk).1
  have hset : L.set k (.sl s 116 3 (l.map Ev.cs)) = L := by
    obtain ⟨a, b⟩ := List.getElem?_eq_some_iff.1 hk
    rw [← b]; exact List.set_getElem_self a
  have hself : compactL l = l → (∃ r : Sl, Value.slice s.a s.n s.c = .slice r.a r.n r.c ∧ St h0 h (L.set k (.sl r 116 3 ((compactL l).map Ev.cs)))) := fun e => ⟨s, rfl, by rw [e, hset]; exact hs⟩
  refine sB_intro (fun c => ?_) (fun c => ?_)
  · have : l.length < 2 := by have := of_decide_eq_true c; omega
    refine hself ?_
    match l, this with
    | [], _ => rfl
    | [a], _ => rfl
  · have h2 : 2 ≤ l.length := by have := of_decide_eq_false c; omega
    refine ⟨fun x h' m => ∃ i : Nat, x = i ∧ 1 ≤ i ∧ i ≤ l.length ∧ m = l.length - i ∧ h' = h ∧ compactL (l.take i) = l.take i, ⟨_, 1, rfl, by omega, by omega, rfl, rfl, ?_⟩, ?_⟩
    · match l, h2 with
      | a :: r, _ => rfl
    rintro - x h5 m ⟨i, rfl, hi1, hin, rfl, rfl, hcc⟩
    refine sB_intro (fun l2 => ?_) (fun l2 => ?_)
    · replace l2 := lt_t l2
      have hrw := hs.rows k hk (by omega)
      refine hrw.nbI (by omega) (by omega) fun b o x1 g t => ?_
      replace g : l[i]? = some x1 := g
      refine ⟨_, _, _, t, ?_⟩
      have hw1 : IntKind.wrap .i64 ((i : Int) - 1) = ((i - 1 : Nat) : Int) := by rw [w64 (by omega) (by omega)]; omega
      rw [hw1]
      refine hrw.nbI (x := ((i - 1 : Nat) : Int)) (by omega) (by omega) fun b' o' y1 g' t' => ?_
      replace g' : l[i - 1]? = some y1 := g'
      refine ⟨_, _, _, t', ?_⟩
      rw [evEq]
      have hstep := compactL_step g hi1 g'
      refine sB_intro (fun e => ?_) (fun e => ?_)
      · replace e := of_decide_eq_true e
        rw [if_pos e, hcc] at hstep
        have hcap := hlen.2.1
        refine ⟨⟨by omega, by omega, by omega⟩, ?_⟩
        refine ⟨fun kk x h' m => ∃ (q j : Nat) (cl : List Ev), kk = q ∧ x = j ∧ 1 ≤ j ∧ i + j ≤ l.length ∧ q ≤ i + j - 1 ∧ m = l.length - j ∧ cl.length = l.length ∧ cl.take q = compactL (l.take (i + j)) ∧ (∀ a, i + j - 1 ≤ a → cl[a]? = l[a]?) ∧ St h0 h' (L.set k (.sl s 116 3 (cl.map Ev.cs))),
          ⟨_, i, 1, l, rfl, rfl, by omega, by omega, by omega, rfl, rfl, hstep.symm, fun _ _ => rfl, by rw [hset]; exact hs⟩, ?_⟩
        rintro - kk x h21 m' ⟨q, j, cl, rfl, rfl, hj1, hjn, hq, rfl, hcl, hct, hun, hs⟩
        have hkI : (L.set k (.sl s 116 3 (cl.map Ev.cs)))[k]? = some (.sl s 116 3 (cl.map Ev.cs)) := by rw [List.getElem?_set_self hkl]
        have hfrom := (hs.rows k hkI (by omega)).from (i := i) (by omega) (by omega)
        rw [← List.map_drop] at hfrom
        have hti : Int.toNat ((s.n : Nat) : Int) - Int.toNat ((i : Nat) : Int) = s.n - i := by simp
        have htI : Int.toNat ((i : Nat) : Int) = i := by simp
        refine sB_intro (fun c2 => ?_) (fun c2 => ?_)
        · have hjl : i + j < l.length := by have := of_decide_eq_true c2; rw [hti] at this; omega
          rw [hti, htI]
          refine hfrom.nbI (x := (j : Int)) (by omega) (by show (j : Int) < ((s.n - i : Nat) : Int); omega) fun b2 o2 x2 g2 t2 => ?_
          replace g2 : (cl.drop i)[j]? = some x2 := g2
          rw [List.getElem?_drop, hun _ (by omega)] at g2
          refine ⟨_, _, _, t2, ?_⟩
          have hw2 : IntKind.wrap .i64 ((j : Int) - 1) = ((j - 1 : Nat) : Int) := by rw [w64 (by omega) (by omega)]; omega
          rw [hw2]
          refine hfrom.nbI (x := ((j - 1 : Nat) : Int)) (by omega) (by show ((j - 1 : Nat) : Int) < ((s.n - i : Nat) : Int); omega) fun b3 o3 y2 g3 t3 => ?_
          replace g3 : (cl.drop i)[j - 1]? = some y2 := g3
          rw [List.getElem?_drop, show i + (j - 1) = i + j - 1 by omega, hun _ (by omega)] at g3
          refine ⟨_, _, _, t3, ?_⟩
          rw [evEq]
          have hst2 := compactL_step g2 (by omega) g3
          have hwj : IntKind.wrap .i64 ((j : Int) + 1) = ((j + 1 : Nat) : Int) := by rw [w64 (by omega) (by omega)]; omega
          have hwq : IntKind.wrap .i64 ((q : Int) + 1) = ((q + 1 : Nat) : Int) := by rw [w64 (by omega) (by omega)]; omega
          refine sB_intro (fun e2 => ?_) (fun e2 => ?_)
          · have hne : x2 ≠ y2 := by simpa using e2
            rw [if_neg hne] at hst2
            refine hfrom.nbI (x := (j : Int)) (by omega) (by show (j : Int) < ((s.n - i : Nat) : Int); omega) fun b4 o4 x3 g4 t4 => ?_
            replace g4 : (cl.drop i)[j]? = some x3 := g4
            rw [List.getElem?_drop, hun _ (by omega)] at g4
            rw [g2] at g4
            cases g4
            refine ⟨_, _, _, t4, ?_⟩
            refine hs.set k hkI (by omega) (x := (q : Int)) (by omega) (by omega) x2 rfl rfl (fun b5 o5 h39 hs => ?_) rfl
            rw [List.set_set] at hs
            refine ⟨l.length - (j + 1), by omega, q + 1, j + 1, cl.set q x2, hwq, hwj, by omega, by omega, by omega, rfl, by rw [List.length_set]; exact hcl, ?_, ?_, hs⟩
            · rw [show i + (j + 1) = i + j + 1 by omega, hst2, ← hct, take_snoc (x := x2) (by rw [List.getElem?_set_self (by omega)]), List.take_set_of_le (Nat.le_refl _)]
            · intro a ha
              rw [List.getElem?_set_ne (by omega)]
              exact hun a (by omega)
          · have heq : x2 = y2 := by simpa using e2
            rw [if_pos heq] at hst2
            refine ⟨l.length - (j + 1), by omega, q, j + 1, cl, rfl, hwj, by omega, by omega, by omega, rfl, hcl, ?_, fun a ha => hun a (by omega), hs⟩
            rw [show i + (j + 1) = i + j + 1 by omega, hst2]; exact hct
        · have hjl : i + j = l.length := by have := of_decide_eq_false c2; rw [hti] at this; omega
          refine ⟨⟨by omega, by omega, by omega⟩, ?_⟩
          have htq : Int.toNat ((q : Nat) : Int) = q := by simp
          have htn : Int.toNat ((s.n : Nat) : Int) = s.n := by simp
          rw [htq, htn]
          refine hs.clear k hkI (by omega) q (by omega) und151 zero116 rfl rfl fun v h42 hs => ?_
          refine ⟨⟨by omega, by omega, by omega⟩, ⟨s.a, q, s.c⟩, ?_, ?_⟩
          · rw [show Int.toNat 0 = 0 from rfl, subA_zero]; rfl
          · rw [List.set_set, ← List.map_take, hct, hjl, List.take_length] at hs
            exact hs
      · replace e := of_decide_eq_false e
        rw [if_neg e, hcc] at hstep
        refine ⟨l.length - (i + 1), by omega, i + 1, by rw [w64 (by omega) (by omega)]; omega, by omega, by omega, rfl, rfl, ?_⟩
        rw [hstep, take_snoc g]
    · replace l2 := lt_f l2
      rw [List.take_of_length_le (by omega)] at hcc
      exact hself hcc
end Go.VC
end
