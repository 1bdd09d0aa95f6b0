/- The last step: each law of project as a row and as a card, where what it reads is of bulk at most 1048576: true, and the arguments read as before. Conditions: the row's own (the tables that it lists, as the program's text lays them, which the card ties). -/
import Derived.Test.YtkebghjhekoecaaGreatDoorM22
import Derived.Test.YtkebghjhekoecaaGreatDoorM04
import Derived.Test.YtkebghjhekoecaaGreatDoorCards
import Derived.Test.YtkebghjhekoecaaGreatDoorTie
import Derived.Deep.DeepHandedRow
import Derived.Lib.LaidTab
import Derived.Shelf.Vars
import Derived.Lay
import Derived.LaidMore
import Derived.SevenTiedAt
import Derived.Stop.Joined
import Derived.Handed
set_option linter.unusedVariables false
set_option linter.unusedSimpArgs false
set_option maxRecDepth 100000

namespace Go.Proofs.YtkebghjhekoecaaGreatDoor
open Go.ChangeShapes Go.WideShapes Go.ChangeAt Go.RowKit Go.VC
set_option maxRecDepth 100000
theorem own : ownKnob Tryz.prog.godebug = none := by kernel_rfl
theorem laid_out : laidOutB Tryz.prog = true := by kernel_rfl
theorem maps_rowed : mapsRowed Tryz.prog = true := by kernel_rfl
theorem and2 {a b : Bool} (h1 : a = true) (h2 : b = true) : (a && b) = true := by rw [h1, h2]; rfl
theorem gTab : Tryz.prog.globalNamed "math/bits.deBruijn64tab" = some 0 := by kernel_rfl
theorem gTabType : (Tryz.prog.globals[0]?).map (·.type) = some 268 := by kernel_rfl
theorem cells304 : Tryz.prog.cellsOf 268 = 64 := by kernel_rfl
theorem maxLen_cell {W : World} (h : W.ShapedOpen Tryz.prog) : ∃ m : Int, W.cell? ⟨1, 0, none⟩ = some (.int .i64 m) :=
  cell_of_shapedOpen_int (P := Tryz.prog) (g := 1) (t := 3) (zero := #[.int .i64 0]) h (of_decide_eq_true (by kernel_rfl)) (by kernel_rfl) rfl (by kernel_rfl) (by kernel_rfl) Tryz.underlying3
theorem elem_u8 : ∃ e, Tryz.prog.underlying 268 = some (.array 64 e) ∧ Tryz.prog.underlying e = some (.int .u8) ∧ Tryz.prog.cellsOf e = 1 := ⟨5, Tryz.underlying268, Tryz.underlying5, by kernel_rfl⟩
theorem row_gx {W : World} (hL : laidMetH Tryz.prog Rows.machineIncludesUptoRow.laid W) (hS : W.ShapedOpen Tryz.prog) : Gx W.heap := by
  obtain ⟨e, h1, h2, h3⟩ := elem_u8
  have hT : Lib.TabIs Tryz.prog W "math/bits.deBruijn64tab" .u8 (Lib.deBruijn64tab.map fun n : Nat => (n : Int)) := Lib.tabIs_of_head (rest := Rows.machineIncludesUptoRow.laid.tail) gTab gTabType h1 h2 h3 cells304 hL
  refine ⟨maxLen_cell hS, fun j hj => ?_⟩
  have := hT.cell gTab j (by rw [List.length_map]; exact hj)
  have e2 : (Lib.deBruijn64tab.map fun n : Nat => (n : Int)).getD j 0 = ((Lib.deBruijn64tab.getD j 0 : Nat) : Int) := by
    rw [List.getD_eq_getElem?_getD, List.getD_eq_getElem?_getD, List.getElem?_map]
    cases Lib.deBruijn64tab[j]? <;> rfl
  rw [e2] at this
  exact this
noncomputable def machineIncludes_world (os : Os) : World := World.laidAll Tryz.prog os Rows.machineIncludesUptoRow.laid
theorem machineIncludes_reads (os : Os) {H : Type} (enc : TypeId × Value → H) : ∃ places, DataW.whole enc Tryz.prog ((machineIncludes_world os).forCall (fun _ _ => 0) ⟨#[], #[.agg #[.int .i64 0, .int .i64 0, .int .i64 0, .slice none 0 0, .slice none 0 0, .slice none 0 0], .agg #[.int .i64 0, .int .i64 0, .int .i64 0, .slice none 0 0, .slice none 0 0, .slice none 0 0]], []⟩).memory Tryz.f6.params.toList Rows.machineIncludesSpec.vars false #[.agg #[.int .i64 0, .int .i64 0, .int .i64 0, .slice none 0 0, .slice none 0 0, .slice none 0 0], .agg #[.int .i64 0, .int .i64 0, .int .i64 0, .slice none 0 0, .slice none 0 0, .slice none 0 0]].toList 8 = some ([.agg [.lit (.int .i64 0), .lit (.int .i64 0), .lit (.int .i64 0), .nil, .nil, .nil], .agg [.lit (.int .i64 0), .lit (.int .i64 0), .lit (.int .i64 0), .nil, .nil, .nil]], [], places) :=
  ⟨[], by kernel_rfl⟩
theorem machineIncludes_lifted (os : Os) (started : os.Started) (H : Type) (enc : TypeId × Value → H) (F : Stop.Interp) :
    ReturnsInHanded {} Tryz.checked os 6 .any ((Rows.OpenSpec.upto Rows.machineIncludesSpec).preRow enc Tryz.prog Tryz.f6 Rows.machineIncludesUptoRow.domain false Rows.machineIncludesUptoRow.laid) (((Rows.OpenSpec.upto Rows.machineIncludesSpec).at F).post enc Tryz.prog Tryz.f6 false true false false) := by
  obtain ⟨places, hx⟩ := machineIncludes_reads os enc
  refine returnsInHanded_of_row (C := Tryz.checked) (s := Rows.OpenSpec.upto Rows.machineIncludesSpec) own started (by kernel_rfl) Tryz.func6
    (witness_row_at (enc := enc) (C := Tryz.checked) false (machineIncludes_world os) #[.agg #[.int .i64 0, .int .i64 0, .int .i64 0, .slice none 0 0, .slice none 0 0, .slice none 0 0], .agg #[.int .i64 0, .int .i64 0, .int .i64 0, .slice none 0 0, .slice none 0 0, .slice none 0 0]] (World.laidAll_os _ _ _) (by kernel_rfl) (by kernel_rfl) (by kernel_rfl)
      (OpenSpec.preRow_of_cond 8 hx (by kernel_rfl) (fun k hk => by cases hk; kernel_rfl) (by kernel_rfl) (by rw [MakeChecks.laidMetH_plain _ _ _ (by kernel_rfl)]; exact laidMet_laidAll _ (by kernel_rfl) (by kernel_rfl)))) ?_
  intro W base args ds gs before hval0 hW _ hcond _ hL hS _
  have hval : ∀ (j : Nat) t v, Tryz.f6.params[j]? = some t → args[j]? = some v → Value.okWide Tryz.prog W .any base t v := hval0
  have hbulk : Rows.uptoBulkAll (ds ++ gs) ≤ 1048576 := of_decide_eq_true (hcond _ rfl)
  have hx0 : Gx W.heap := row_gx hL hS
  clear hcond hL hS hx
  have hW' := hW
  obtain ⟨p, q, hA0, hV, rfl, _, _⟩ := hW
  have hA : DataW.TrodAll enc Tryz.prog W 0 (fun _ => true) true Tryz.f6.params.toList args.toList ds p := hA0
  rw [Tryz.params6] at hA hval
  obtain ⟨v0, vs0, d0, ds0, p0, q0, hargs, rfl, rfl, h0, r0⟩ := trodAll_cons hA
  obtain ⟨v1, vs1, d1, ds1, p1, q1, rfl, rfl, rfl, h1, r1⟩ := trodAll_cons r0
  obtain ⟨rfl, rfl, rfl⟩ := trodAll_nil r1
  obtain rfl : args = #[v0, v1] := by cases args; simp_all
  obtain ⟨rfl, rfl⟩ := trodVars_none hV
  have m0 : Rdb Tryz.prog W 26 v0.cells.toList := rdb_of_trod h0 (Nat.le_trans (bulk_part (by simp)) hbulk)
  obtain ⟨⟨cs0⟩, rfl⟩ := okWide_agg (by kernel_rfl) (hval 0 26 v0 rfl rfl)
  obtain ⟨g0, sf0, sm0, sl0, e0, hg0⟩ := open_machine m0
  obtain rfl : cs0 = _ := e0
  have m1 : Rdb Tryz.prog W 26 v1.cells.toList := rdb_of_trod h1 (Nat.le_trans (bulk_part (by simp)) hbulk)
  obtain ⟨⟨cs1⟩, rfl⟩ := okWide_agg (by kernel_rfl) (hval 1 26 v1 rfl rfl)
  obtain ⟨g1, sf1, sm1, sl1, e1, hg1⟩ := open_machine m1
  obtain rfl : cs1 = _ := e1
  clear hA0 hval0
  simp only [List.append_nil] at hW'
  refine (includes6 g0 g1 sf0 sm0 sl0 sf1 sm1 sl1 W.heap hg0 hg1 hx0).calls.mono ?_
  rintro e W' ⟨v, rfl, ⟨rfl, hE⟩, hos, htape, hout⟩
  exact ⟨_, rfl, post_law laid_out (by rw [Tryz.params6]; exact of_decide_eq_true (by kernel_rfl)) rfl (by simp at hW' ⊢; exact hW') rfl rfl rfl rfl Tryz.underlying4 hE hos htape hout⟩
theorem machineIncludes_c10 : (Rows.machineIncludesUptoRow.inPlace == Tryz.prog.inPlace 6) = true := by kernel_rfl
theorem machineIncludes_c11 : (Rows.machineIncludesUptoRow.unfollowed == Tryz.prog.unfollowed 6) = true := by kernel_rfl
theorem machineIncludes_c12 : (Rows.machineIncludesUptoRow.recurses == Tryz.prog.recurses 6) = true := by kernel_rfl
theorem machineIncludes_c13 : (Rows.machineIncludesUptoRow.named == Tryz.prog.varsNamed 6) = true := by kernel_rfl
theorem machineIncludes_c23 : (Rows.machineIncludesUptoRow.plainKeys == Tryz.prog.plainKeys) = true := by kernel_rfl
theorem machineIncludes_c25 : Tryz.prog.stopsHeard = true := by kernel_rfl
theorem machineIncludes_c26 : Tryz.prog.mayEnter = true := by kernel_rfl
theorem machineIncludes_c27 : (Rows.machineIncludesUptoRow.lifted == Tryz.prog.liftsFinal) = true := by kernel_rfl
theorem machineIncludes_c28 : (Tryz.prog.make == some Rows.machineIncludesUptoRow.make) = true := by kernel_rfl
theorem machineIncludes_closed : joinedFacts Tryz.prog 6 Tryz.f6 (Rows.OpenSpec.upto Rows.machineIncludesSpec).bare Rows.machineIncludesUptoRow = true := by
  unfold joinedFacts
  exact and2 (and2 (and2 (and2 (and2 (and2 (and2 (and2 (and2 (and2 (and2 (and2 (and2 (and2 (and2 (and2 (and2 (and2 (and2 (and2 (and2 (and2 (and2 (and2 (and2 (and2 (and2 (and2 (and2 (and2 (and2 (by kernel_rfl) laid_out) maps_rowed) (by kernel_rfl)) (by kernel_rfl)) (by kernel_rfl)) (by kernel_rfl)) (by kernel_rfl)) (by kernel_rfl)) machineIncludes_c10) machineIncludes_c11) machineIncludes_c12) machineIncludes_c13) (by kernel_rfl)) (by kernel_rfl)) (by kernel_rfl)) (by kernel_rfl)) (by kernel_rfl)) (by kernel_rfl)) (by kernel_rfl)) (by kernel_rfl)) (by kernel_rfl)) machineIncludes_c23) (by kernel_rfl)) machineIncludes_c25) machineIncludes_c26) machineIncludes_c27) machineIncludes_c28) (by kernel_rfl)) (by kernel_rfl)) (by kernel_rfl)) (by kernel_rfl)
theorem machineIncludes_named : Tryz.prog.funcNamed "farandole/farandolelaw26.MachineIncludes" = some 6 := by kernel_rfl
theorem machineIncludes_inst : Tryz.f6.isInstance Tryz.prog Rows.machineIncludesUptoRow.origin Rows.machineIncludesUptoRow.targs := of_decide_eq_true (by kernel_rfl)
theorem machineIncludes_wrap : Tryz.f6.isWrapper Tryz.prog Rows.machineIncludesUptoRow.wrapper Rows.machineIncludesUptoRow.mainSum := by unfold Func.isWrapper; first | (rw [if_pos (by decide +kernel)]; kernel_rfl) | (rw [if_neg (by decide +kernel)]; exact ⟨rfl, rfl⟩)
theorem machineIncludes_holds : Rows.MachineIncludesUptoSaid :=
  OpenClaim.holds_of_cond 6 Tryz.f6 rfl rfl rfl rfl rfl rfl rfl ⟨rfl, rfl, rfl, rfl, rfl⟩ rfl rfl rfl rfl rfl machineIncludes_named Tryz.func6 machineIncludes_closed machineIncludes_inst machineIncludes_wrap
    (fun os started H enc _ F => by rw [OpenClaim.pre_eq_preRow]; exact machineIncludes_lifted os started H enc F)
theorem machineIncludes_text : Rows.machineIncludesUptoRow.wfByText (Rows.OpenSpec.upto Rows.machineIncludesSpec) = true := by kernel_rfl
theorem machineIncludes_main : Tryz.prog.mainIs = some ((Rows.machineIncludesUptoCard.stood.harness).1, (Rows.machineIncludesUptoCard.stood.harness).2.toList) := by kernel_rfl
theorem machineIncludes_looks : false = Tryz.prog.looks [] := by kernel_rfl
theorem machineIncludes_stand : ([26, 26].all fun u => !Tryz.prog.wantsStandIn u) = true := by kernel_rfl
theorem machineIncludes_goes : false = Rows.machineIncludesUptoRow.goesBy Tryz.prog := by kernel_rfl
theorem machineIncludes_proved : Rows.MachineIncludesUptoCardSaid :=
  Claim7.holds_tied_plain_at .later [] _ _ _ _ machineIncludes_holds (fun _ h => by cases h) machineIncludes_text (fun _ h => by cases h) machineIncludesUpto_row_tie rfl ⟨rfl, rfl⟩ machineIncludes_main rfl
    (fun f fn hf hfn => by
      obtain rfl : f = 6 := Option.some.inj (machineIncludes_named.symm.trans hf) |>.symm
      obtain rfl : fn = Tryz.f6 := (Option.some.inj (Tryz.func6.symm.trans hfn)).symm
      exact ⟨machineIncludes_looks, fun j t ht => by
        rw [Tryz.params6] at ht
        have hm : t ∈ [26, 26] := by simpa using Array.mem_of_getElem? ht
        exact (show Tryz.prog.wantsStandIn t = false by simpa using List.all_eq_true.1 machineIncludes_stand t hm)⟩)
    machineIncludes_goes
end Go.Proofs.YtkebghjhekoecaaGreatDoor
