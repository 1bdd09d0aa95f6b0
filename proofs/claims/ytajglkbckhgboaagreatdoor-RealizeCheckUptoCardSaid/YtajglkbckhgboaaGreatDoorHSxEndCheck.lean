/- The last step: each law of project as a row and as a card, where what it reads is of bulk at most 1048576: true, and the arguments read as before. Conditions: the row's own (the tables that it lists, as the program's text lays them, which the card ties). -/
import Derived.Test.YtajglkbckhgboaaGreatDoorHM11
import Derived.Test.YtajglkbckhgboaaGreatDoorCards
import Derived.Test.YtajglkbckhgboaaGreatDoorTie
import Derived.Deep.DeepHandedRow
import Derived.Lib.LaidTab
import Derived.Shelf.Vars
import Derived.Lay
import Derived.LaidMore
import Derived.SevenTiedAt
import Derived.Stop.Joined
import Derived.Handed
set_option linter.all false
set_option maxRecDepth 100000
set_option maxHeartbeats 8000000

namespace Go.Proofs.YtajglkbckhgboaaGreatDoor
open Go.ChangeShapes Go.WideShapes Go.ChangeAt Go.RowKit Go.VC
set_option maxRecDepth 100000
theorem own : ownKnob Tryz.prog.godebug = none := by kernel_rfl
theorem wZ : laidOutB Tryz.prog = true := by kernel_rfl
theorem zv : mapsRowed Tryz.prog = true := by kernel_rfl
theorem dy{a b : Bool}(h1 : a = true)(h2 : b = true): (a && b) = true := by rw [h1, h2]; rfl
theorem ahC : Tryz.prog.globalNamed "math/bits.deBruijn64tab" = some 0 := by kernel_rfl
theorem Xo : (Tryz.prog.globals[0]?).map (·.type) = some 383 := by kernel_rfl
theorem X6 : Tryz.prog.cellsOf 383 = 64 := by kernel_rfl
theorem wX{W : World}(h : W.ShapedOpen Tryz.prog): ∃ m : Int, W.cell? ⟨1, 0, none⟩ = some (.int .i64 m) :=
  cell_of_shapedOpen_int (P := Tryz.prog) (g := 1) (t := 3) (zero := #[.int .i64 0]) h (of_decide_eq_true (by kernel_rfl)) (by kernel_rfl) rfl (by kernel_rfl) (by kernel_rfl) Tryz.underlying3
theorem Ox{W : World}(hS : W.ShapedOpen Tryz.prog): Gm W.heap := ⟨wX hS⟩
noncomputable def fp(os : Os): World := World.laidAll Tryz.prog os Rows.realizeCheckUptoRow.laid
theorem kC(os : Os){H : Type}(enc : TypeId × Value → H): ∃ places, DataW.whole enc Tryz.prog ((fp os).forCall (fun _ _ => 0) ⟨#[], #[.agg #[.string ⟨#[]⟩, .slice none 0 0, .slice none 0 0, .int .i64 0, .int .i64 0, .int .i64 0, .slice none 0 0, .slice none 0 0]], []⟩).memory Tryz.f3.params.toList Rows.realizeCheckSpec.vars false #[.agg #[.string ⟨#[]⟩, .slice none 0 0, .slice none 0 0, .int .i64 0, .int .i64 0, .int .i64 0, .slice none 0 0, .slice none 0 0]].toList 8 = some ([.agg [.lit (.string []), .nil, .nil, .lit (.int .i64 0), .lit (.int .i64 0), .lit (.int .i64 0), .nil, .nil]], [], places) :=
  ⟨[], by kernel_rfl⟩
theorem jV(os : Os)(started : os.Started)(H : Type)(enc : TypeId × Value → H)(F : Stop.Interp):
    ReturnsInHanded {} Tryz.checked os 3 .any ((Rows.OpenSpec.upto Rows.realizeCheckSpec).preRow enc Tryz.prog Tryz.f3 Rows.realizeCheckUptoRow.domain false Rows.realizeCheckUptoRow.laid) (((Rows.OpenSpec.upto Rows.realizeCheckSpec).at F).post enc Tryz.prog Tryz.f3 false true false false) := by
  obtain ⟨places, hx⟩ := kC os enc
  refine returnsInHanded_of_row (C := Tryz.checked) (s := Rows.OpenSpec.upto Rows.realizeCheckSpec) own started (by kernel_rfl) Tryz.func3
    (witness_row_at (enc := enc) (C := Tryz.checked) false (fp os) #[.agg #[.string ⟨#[]⟩, .slice none 0 0, .slice none 0 0, .int .i64 0, .int .i64 0, .int .i64 0, .slice none 0 0, .slice none 0 0]] (World.laidAll_os _ _ _) (by kernel_rfl) (by kernel_rfl) (by kernel_rfl)
      (OpenSpec.preRow_of_cond 8 hx (by kernel_rfl) (fun k hk => by cases hk; kernel_rfl) (by kernel_rfl) (by rw [MakeChecks.laidMetH_plain _ _ _ (by kernel_rfl)]; exact laidMet_laidAll _ (by kernel_rfl) (by kernel_rfl)))) ?_
  intro W base args ds gs before Nk hW _ NG _ hL hS _
  have hval : ∀ (j : Nat) t v, Tryz.f3.params[j]? = some t → args[j]? = some v → Value.okWide Tryz.prog W .any base t v := Nk
  have hbulk : Rows.uptoBulkAll (ds ++ gs) ≤ 1048576 := of_decide_eq_true (NG _ rfl)
  have jJ : Gm W.heap := Ox hS
  clear NG hL hS hx
  have WN := hW
  obtain ⟨p, q, hA0, hV, rfl, _, _⟩ := hW
  have hA : DataW.TrodAll enc Tryz.prog W 0 (fun _ => true) true Tryz.f3.params.toList args.toList ds p := hA0
  rw [Tryz.params3] at hA hval
  obtain ⟨v0, vs0, d0, ds0, p0, q0, NL, rfl, rfl, h0, r0⟩ := trodAll_cons hA
  obtain ⟨rfl, rfl, rfl⟩ := trodAll_nil r0
  obtain rfl : args = #[v0] := by cases args; simp_all
  obtain ⟨rfl, rfl⟩ := trodVars_none hV
  have m0 : j9 Tryz.prog W 27 v0.cells.toList := wv h0 (Nat.le_trans (jO (by simp)) hbulk)
  obtain ⟨⟨cs0⟩, rfl⟩ := yX (by kernel_rfl) (hval 0 27 v0 rfl rfl)
  obtain ⟨g0, e0, hg0, vG⟩ := wJ m0
  obtain rfl : cs0 = _ := e0
  clear hA0 Nk
  simp only [List.append_nil] at WN
  refine (ug g0 W.heap hg0 jJ vG).calls.mono ?_
  rintro e W' ⟨v, rfl, ⟨rfl, hE⟩, hos, G9, xk⟩
  exact ⟨_, rfl, Gc wZ (by rw [Tryz.params3]; exact of_decide_eq_true (by kernel_rfl)) rfl (by simp at WN ⊢; exact WN) rfl rfl rfl rfl Tryz.underlying4 hE hos G9 xk⟩
theorem mV : (Rows.realizeCheckUptoRow.inPlace == Tryz.prog.inPlace 3) = true := by kernel_rfl
theorem mU : (Rows.realizeCheckUptoRow.unfollowed == Tryz.prog.unfollowed 3) = true := by kernel_rfl
theorem mT : (Rows.realizeCheckUptoRow.recurses == Tryz.prog.recurses 3) = true := by kernel_rfl
theorem mS : (Rows.realizeCheckUptoRow.named == Tryz.prog.varsNamed 3) = true := by kernel_rfl
theorem mR : (Rows.realizeCheckUptoRow.plainKeys == Tryz.prog.plainKeys) = true := by kernel_rfl
theorem mQ : Tryz.prog.stopsHeard = true := by kernel_rfl
theorem mP : Tryz.prog.mayEnter = true := by kernel_rfl
theorem mO : (Rows.realizeCheckUptoRow.lifted == Tryz.prog.liftsFinal) = true := by kernel_rfl
theorem mN : (Tryz.prog.make == some Rows.realizeCheckUptoRow.make) = true := by kernel_rfl
theorem jW : joinedFacts Tryz.prog 3 Tryz.f3 (Rows.OpenSpec.upto Rows.realizeCheckSpec).bare Rows.realizeCheckUptoRow = true := by
  unfold joinedFacts
  exact dy (dy (dy (dy (dy (dy (dy (dy (dy (dy (dy (dy (dy (dy (dy (dy (dy (dy (dy (dy (dy (dy (dy (dy (dy (dy (dy (dy (dy (dy (dy (by kernel_rfl) wZ) zv) (by kernel_rfl)) (by kernel_rfl)) (by kernel_rfl)) (by kernel_rfl)) (by kernel_rfl)) (by kernel_rfl)) mV) mU) mT) mS) (by kernel_rfl)) (by kernel_rfl)) (by kernel_rfl)) (by kernel_rfl)) (by kernel_rfl)) (by kernel_rfl)) (by kernel_rfl)) (by kernel_rfl)) (by kernel_rfl)) mR) (by kernel_rfl)) mQ) mP) mO) mN) (by kernel_rfl)) (by kernel_rfl)) (by kernel_rfl)) (by kernel_rfl)
theorem fq : Tryz.prog.funcNamed "farandole/farandolelaw23.RealizeCheck" = some 3 := by kernel_rfl
theorem lA : Tryz.f3.isInstance Tryz.prog Rows.realizeCheckUptoRow.origin Rows.realizeCheckUptoRow.targs := of_decide_eq_true (by kernel_rfl)
theorem lv : Tryz.f3.isWrapper Tryz.prog Rows.realizeCheckUptoRow.wrapper Rows.realizeCheckUptoRow.mainSum := by unfold Func.isWrapper; first | (rw [if_pos (by decide +kernel)]; kernel_rfl) | (rw [if_neg (by decide +kernel)]; exact ⟨rfl, rfl⟩)
theorem kE : Rows.RealizeCheckUptoSaid :=
  OpenClaim.holds_of_cond 3 Tryz.f3 rfl rfl rfl rfl rfl rfl rfl ⟨rfl, rfl, rfl, rfl, rfl⟩ rfl rfl rfl rfl rfl fq Tryz.func3 jW lA lv
    (fun os started H enc _ F => by rw [OpenClaim.pre_eq_preRow]; exact jV os started H enc F)
theorem ly : Rows.realizeCheckUptoRow.wfByText (Rows.OpenSpec.upto Rows.realizeCheckSpec) = true := by kernel_rfl
theorem lz : Tryz.prog.mainIs = some ((Rows.realizeCheckUptoCard.stood.harness).1, (Rows.realizeCheckUptoCard.stood.harness).2.toList) := by kernel_rfl
theorem kD : false = Tryz.prog.looks [] := by kernel_rfl
theorem kB : ([27].all fun u => !Tryz.prog.wantsStandIn u) = true := by kernel_rfl
theorem lB : false = Rows.realizeCheckUptoRow.goesBy Tryz.prog := by kernel_rfl
theorem realizeCheck_proved : Rows.RealizeCheckUptoCardSaid :=
  Claim7.holds_tied_plain_at .later [] _ _ _ _ kE (fun _ h => by cases h) ly (fun _ h => by cases h) realizeCheckUpto_row_tie rfl ⟨rfl, rfl⟩ lz rfl
    (fun f fn hf BQ => by
      obtain rfl : f = 3 := Option.some.inj (fq.symm.trans hf) |>.symm
      obtain rfl : fn = Tryz.f3 := (Option.some.inj (Tryz.func3.symm.trans BQ)).symm
      exact ⟨kD, fun j t ht => by
        rw [Tryz.params3] at ht
        have hm : t ∈ [27] := by simpa using Array.mem_of_getElem? ht
        exact (show Tryz.prog.wantsStandIn t = false by simpa using List.all_eq_true.1 kB t hm)⟩)
    lB
end Go.Proofs.YtajglkbckhgboaaGreatDoor
