/- Lemmas for proving the conditions of VcCore by hand: branches, numbers, heaps, blocks of the call's own, append, copy. -/
import Derived.Test.YtcaahhppapnbhaaDoorVcSound7
set_option linter.unusedVariables false
set_option linter.unusedSimpArgs false

namespace Go.VC

theorem sB_iff {b : Bool} {p q : Prop} : sB b p q ↔ (b = true → p) ∧ (b = false → q) := by cases b <;> simp [sB]
theorem sB_intro {b : Bool} {p q : Prop} (h1 : b = true → p) (h2 : b = false → q) : sB b p q := sB_iff.2 ⟨h1, h2⟩
theorem sB_t {b : Bool} {p q : Prop} (hb : b = true) (h : p) : sB b p q := by subst hb; exact h
theorem sB_f {b : Bool} {p q : Prop} (hb : b = false) (h : q) : sB b p q := by subst hb; exact h
theorem w64 {n : Int} (h0 : -9223372036854775808 ≤ n) (h1 : n ≤ 9223372036854775807) : IntKind.wrap .i64 n = n := IntWalk.i64_in n ⟨h0, h1⟩
theorem wu8 {n : Int} (h0 : 0 ≤ n) (h1 : n ≤ 255) : IntKind.wrap .u8 n = n := by
  simp [IntKind.wrap, IntKind.signed, IntKind.bits]; omega
theorem wi32 {n : Int} (h0 : -2147483648 ≤ n) (h1 : n ≤ 2147483647) : IntKind.wrap .i32 n = n := by
  simp [IntKind.wrap, IntKind.signed, IntKind.bits]; omega
theorem NC_some {a : Addr} {F : Addr → Prop} : NC (some a) F = F a := rfl
theorem NB_some {b o : Nat} {F : Nat → Nat → Prop} : NB (some ⟨b, o, none⟩) F = F b o := rfl
theorem byteAt_lt (s : ByteArray) (i : Nat) : byteAt s i < 256 := by unfold byteAt; exact UInt8.toNat_lt _

/-- a contract of the kit's that leaves the world as it is -/
theorem Fn.of_same {P : Program} {f : FuncId} {args : Array Value} {h : Heap} {v : Value} (hc : ∀ w, Calls P f args w fun e w' => e = .returned v ∧ w' = w) :
    Fn P f args h fun u h' => u = v ∧ h' = h := by
  intro w hw
  refine (hc w).mono ?_
  rintro e w' ⟨he, rfl⟩
  exact ⟨v, he, ⟨rfl, hw⟩, rfl, rfl, rfl⟩

/- heaps -/
theorem hc_of_block {h h' : Heap} {a : Addr} (hb : h'[a.block]? = h[a.block]?) : hc h' a = hc h a := by unfold hc; rw [hb]
theorem fz_of_block {h h' : Heap} {a : Addr} (hb : h'[a.block]? = h[a.block]?) : fz h' a = fz h a := by unfold fz; rw [hb]
theorem push_lt {h : Heap} {o : Obj} {k : Nat} (hk : k < h.size) : (h.push o)[k]? = h[k]? := by rw [Array.getElem?_push, if_neg (by omega)]
theorem push_eq {h : Heap} {o : Obj} : (h.push o)[h.size]? = some o := by simp
theorem Ext.push (h : Heap) (o : Obj) : Ext h (h.push o) := ⟨by simp, fun _ hk => push_lt hk⟩
theorem Ext.hc {h h' : Heap} (hE : Ext h h') {a : Addr} (ha : a.block < h.size) : hc h' a = VC.hc h a := hc_of_block (hE.2 _ ha)
theorem Ext.fz {h h' : Heap} (hE : Ext h h') {a : Addr} (ha : a.block < h.size) : fz h' a = VC.fz h a := fz_of_block (hE.2 _ ha)
theorem atC_ext {h h' : Heap} (hE : Ext h h') {a : Addr} {vs : List Value} (hv : atC h a vs) : atC h' a vs := fun i v hi => hc_ext hE (hv i v hi)

/-- block b is a row of cells xs of element type e that may be written -/
def Own (h : Heap) (b : Nat) (xs : List Value) (e : TypeId) : Prop := h[b]? = some (.cells ⟨xs⟩ e (0, 0))
theorem Own.lt {h : Heap} {b : Nat} {xs : List Value} {e : TypeId} (ho : Own h b xs e) : b < h.size := (Array.getElem?_eq_some_iff.1 ho).1
theorem Own.hc {h : Heap} {b : Nat} {xs : List Value} {e : TypeId} (ho : Own h b xs e) (i : Nat) : hc h ⟨b, i, none⟩ = xs[i]? := by
  unfold VC.hc; rw [ho]; simp
theorem Own.fz {h : Heap} {b : Nat} {xs : List Value} {e : TypeId} (ho : Own h b xs e) (i : Nat) : fz h ⟨b, i, none⟩ = false := by
  unfold VC.fz; rw [ho]; simp
theorem Own.push {h : Heap} {xs : List Value} {e : TypeId} : Own (h.push (.cells ⟨xs⟩ e)) h.size xs e := push_eq
theorem Own.ext {h h' : Heap} {b : Nat} {xs : List Value} {e : TypeId} (ho : Own h b xs e) (hE : Ext h h') : Own h' b xs e := (hE.2 _ ho.lt).trans ho
theorem addk_at (b o i : Nat) : addk ⟨b, o, none⟩ i = ⟨b, o + i, none⟩ := by cases i <;> rfl
theorem Own.okAt {h : Heap} {b : Nat} {xs : List Value} {e : TypeId} (ho : Own h b xs e) {o n : Nat} (hn : o + n ≤ xs.length) : okAt h ⟨b, o, none⟩ n := by
  intro i hi
  rw [addk_at, ho.hc, ho.fz]
  have : o + i < xs.length := by omega
  simp [this]
theorem Own.atC {h : Heap} {b : Nat} {xs : List Value} {e : TypeId} (ho : Own h b xs e) {o : Nat} {vs : List Value} (hv : ∀ i v, vs[i]? = some v → xs[o + i]? = some v) : atC h ⟨b, o, none⟩ vs := by
  intro i v hi
  rw [addk_at, ho.hc]
  exact hv i v hi
/-- but for block b the heap is as it was -/
def But (b : Nat) (h h' : Heap) : Prop := h'.size = h.size ∧ ∀ k, k ≠ b → h'[k]? = h[k]?
theorem But.refl (b : Nat) (h : Heap) : But b h h := ⟨rfl, fun _ _ => rfl⟩
theorem But.trans {b : Nat} {h1 h2 h3 : Heap} (h : But b h1 h2) (k : But b h2 h3) : But b h1 h3 := ⟨k.1.trans h.1, fun i hi => (k.2 i hi).trans (h.2 i hi)⟩
theorem But.own {b c : Nat} {h h' : Heap} (hb : But b h h') {xs : List Value} {e : TypeId} (ho : Own h c xs e) (hne : c ≠ b) : Own h' c xs e := (hb.2 c hne).trans ho
theorem But.hset {h : Heap} {a : Addr} {v : Value} : But a.block h (hset h a v) := ⟨by simp [VC.hset], fun k hk => hset_other hk⟩
theorem addk_block' (a : Addr) (i : Nat) : (addk a i).block = a.block := by cases i <;> rfl
theorem But.hputs {a : Addr} : ∀ (vs : List Value) (i : Nat) (h : Heap), But a.block h (hputs h a i vs)
  | [], i, h => But.refl _ h
  | v :: vs, i, h => by
    have h1 : But a.block h (VC.hset h (addk a i) v) := by have := But.hset (h := h) (a := addk a i) (v := v); rwa [addk_block'] at this
    exact h1.trans (But.hputs vs (i + 1) _)
theorem Own.hset {h : Heap} {b : Nat} {xs : List Value} {e : TypeId} (ho : Own h b xs e) (i : Nat) (v : Value) : Own (hset h ⟨b, i, none⟩ v) b (xs.set i v) e := by
  unfold Own VC.hset at *
  rw [Array.getElem?_modify, if_pos rfl, ho]
  simp
theorem Own.hputs {b o : Nat} {e : TypeId} : ∀ (vs : List Value) (i : Nat) (h : Heap) (xs : List Value), Own h b xs e → o + i + vs.length ≤ xs.length → Own (hputs h ⟨b, o, none⟩ i vs) b (splice xs (o + i) vs) e
  | [], i, h, xs, ho, hl => by simp only [VC.hputs, splice]; simpa using ho
  | v :: vs, i, h, xs, ho, hl => by
    simp only [List.length_cons] at hl
    have h1 := ho.hset (o + i) v
    have h2 := Own.hputs vs (i + 1) _ _ h1 (show o + (i + 1) + vs.length ≤ (xs.set (o + i) v).length by simp; omega)
    simp only [VC.hputs, addk_at]
    have := set_fold o (v :: vs) i xs (by simp; omega)
    have h3 := set_fold o vs (i + 1) (xs.set (o + i) v) (by simp; omega)
    rw [List.zipIdx_cons, List.foldl_cons] at this
    simp only [] at this
    rw [show (Array.mk xs).setIfInBounds (o + i) v = ⟨xs.set (o + i) v⟩ by simp, h3] at this
    have e1 : splice (xs.set (o + i) v) (o + (i + 1)) vs = splice xs (o + i) (v :: vs) := by simpa using this
    rw [← e1]; exact h2
theorem Ext.of_but {b : Nat} {h h' : Heap} {n : Nat} (hb : But b h h') (hn : n ≤ b) : ∀ k, k < n → h'[k]? = h[k]? := fun k hk => hb.2 k (by omega)
end Go.VC
