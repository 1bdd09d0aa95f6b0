import Derived.Test.YtcaahhppapnbhaaDoorVcLib2
import Derived.ChangeSame
import Derived.ChangeMaps5
import Derived.JoinedOf
import Derived.JoinedAt
import Derived.RowKit3
import Derived.WalkKit
import Derived.ProofKit
import Derived.OpenShut
import Derived.Carry
set_option linter.unusedVariables false
set_option linter.unusedSimpArgs false

namespace Go.VC
open Go.ChangeShapes Go.WideShapes Go.RowKit
/-- the arguments read as they did, whatever their types, where old blocks are as they were -/
theorem trodAll_stays {H : Type} {enc : TypeId × Value → H} {P : Program} (hl : laidOutB P = true) {W W' : World} (hb : Below W.heap.size W W') {sp : Nat → Bool} :
    ∀ (ts : List TypeId) (vs : List Value) (ds : List (DataW H)) (ps : List MemPlace), (∀ t ∈ ts, P.readableRec t = true ∧ t < P.types.size) → DataW.TrodAll enc P W 0 (fun _ => true) true ts vs ds ps →
      (∀ x ∈ ps, x.block < W.heap.size) → (∀ x ∈ ps, sp x.block = true) → DataW.TrodAll enc P W' 0 sp true ts vs ds ps
  | [], vs, ds, ps, _, h, _, _ => by
    obtain ⟨rfl, rfl, rfl⟩ := trodAll_nil h
    exact trodAll_mk0
  | t :: ts, vs, ds, ps, ht, h, hlt, hsp => by
    obtain ⟨v, vs', d, ds', p, q, rfl, rfl, rfl, h0, r0⟩ := trodAll_cons h
    have h1 := ht t List.mem_cons_self
    exact trodAll_cons_mk (WideElems.Trod_stays hl h1.1 h1.2 h0 (fun x hx => hb.same (hlt x (List.mem_append_left _ hx))) (fun x hx => hsp x (List.mem_append_left _ hx)))
      (trodAll_stays hl hb ts vs' ds' q (fun t ht' => ht t (List.mem_cons_of_mem _ ht')) r0 (fun x hx => hlt x (List.mem_append_right _ hx)) (fun x hx => hsp x (List.mem_append_right _ hx)))
/-- the end of a law: it answered true and has changed no block that stood there -/
theorem post_law {H : Type} {enc : TypeId × Value → H} {P : Program} {f : Func} {s : ChangeSpec} {apart fresh handsOn again : Bool} {W W' : World} {args : Array Value} {ds gs : List (DataW H)} {before : List MemPlace} {tb : TypeId}
    (hl : laidOutB P = true) (hts : ∀ t ∈ f.params.toList, P.readableRec t = true ∧ t < P.types.size) (hvars : s.vars = [])
    (hW : DataW.Whole enc P f.params.toList s.vars apart W args.toList ds gs before)
    (hres : (s.fn H (ds ++ gs)).results = [.lit (.bool true)]) (hargs : (s.fn H (ds ++ gs)).args = ds) (hvr : (s.fn H (ds ++ gs)).vars = [])
    (hrt : f.resultTypes = #[tb]) (htb : P.underlying tb = some .bool) (hE : Ext W.heap W'.heap) (hos : W'.os = W.os) (htape : W'.tape = W.tape) (hout : W'.output = W.output) :
    s.post enc P f apart fresh handsOn again W args (.bool true) W' := by
  have hb : Below W.heap.size W W' := ⟨hos, htape, hout, hE.1, hE.2⟩
  have hk : W.keptBut W' (· ∈ before) := ⟨hos, hout, fun i hi => by
    rw [hE.2 i hi]
    exact (World.keptBut_refl W (· ∈ before)).2.2 i hi⟩
  have hfz : ∀ a : Addr, a.block < W.heap.size → W'.frozen? a = W.frozen? a := fun a ha => fz_of_block (h := W.heap) (h' := W'.heap) (hE.2 _ ha)
  have hlt := hW.lt
  have hold : ∀ p ∈ before, (fun b => decide (b < W.heap.size)) p.block = true := fun p hp => by simpa using hlt p hp
  have hW' := hW
  obtain ⟨p, q, hA, hV, hps, hz, hn⟩ := hW
  rw [hvars] at hV
  obtain ⟨rfl, rfl⟩ := trodVars_none hV
  have hpb : before = p := by rw [hps, List.append_nil]
  have targs : ∀ sp : Nat → Bool, (∀ x ∈ before, sp x.block = true) → DataW.TrodAll enc P W' 0 sp true f.params.toList args.toList (s.fn H (ds ++ [])).args p := fun sp hsp => by
    rw [hargs]
    exact trodAll_stays hl hb _ _ _ _ hts hA (fun x hx => hlt x (by rw [hpb]; exact hx)) (fun x hx => hsp x (by rw [hpb]; exact hx))
  have tres : ∀ (b : Nat) (sp : Nat → Bool) (hd : Bool), DataW.TrodAll enc P W' b sp hd f.resultTypes.toList ((Value.bool true).resultList f.resultTypes.size) (s.fn H (ds ++ [])).results [] := fun b sp hd => by
    rw [hres, hrt]
    exact trodAll_cons_mk (shut_bool htb _) trodAll_mk0
  have tvars : ∀ sp : Nat → Bool, DataW.TrodVars enc P W' sp s.vars (s.fn H (ds ++ [])).vars [] := fun sp => by
    rw [hvars, hvr]; rfl
  refine ⟨ds, [], before, [], p, [], hW', tres _ _ _, targs _ hold, tvars _, World.keptBut_mono (fun x hx => ⟨hx, ?_⟩) hk, fun _ => ?_⟩
  · rw [hpb] at hx; exact Or.inr (by simpa using hx)
  · refine ⟨ok_one hrt rfl (okWide_bool_mk htb _), _, _, ([] ++ p) ++ [], ⟨[] ++ p, [], trodAll_append (targs _ (fun _ _ => rfl)) (tres _ _ _), tvars _, rfl, ?_, ?_⟩, ?_⟩
    · intro b off hp
      have hp' : MemPlace.cell b off ∈ before := by rw [hpb]; simpa using hp
      rw [hfz _ (hlt _ hp')]
      exact hz b off hp'
    · intro ha
      have := hn ha
      rw [hpb] at this
      simpa using this
    · intro x hx _
      rw [hpb]
      simpa using hx
theorem Fn.calls {P : Program} {f : FuncId} {args : Array Value} {W : World} {R : Value → Heap → Prop} (hf : Fn P f args W.heap R) :
    Calls P f args W fun e w' => ∃ v, e = .returned v ∧ R v w'.heap ∧ w'.os = W.os ∧ w'.tape = W.tape ∧ w'.output = W.output := hf W rfl
end Go.VC
