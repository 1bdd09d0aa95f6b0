/- The last step: each law of project as a row and as a card, where what it reads is of bulk at most 1048576: true, and the arguments read as before. Conditions: the row's own (the tables that it lists, as the program's text lays them, which the card ties). -/
import Derived.Test.YtkebghjhekoecaaGreatDoorAM08
import Derived.Test.YtkebghjhekoecaaGreatDoorCards
import Derived.Test.YtkebghjhekoecaaGreatDoorTie
import Derived.Deep.DeepHandedRow
import Derived.Lib.LaidTab
import Derived.Shelf.Vars
import Derived.Lay
import Derived.LaidMore
import Derived.SevenTiedAt
import Derived.Stop.Joined
import Derived.Handed
set_option linter.all false
set_option maxRecDepth 100000
set_option maxHeartbeats 8000000

namespace Go.Proofs.YtkebghjhekoecaaGreatDoor
open Go.ChangeShapes Go.WideShapes Go.ChangeAt Go.RowKit Go.VC
set_option maxRecDepth 100000
theorem own : ownKnob Tryz.prog.godebug = none := by kernel_rfl
theorem laid_out : laidOutB Tryz.prog = true := by kernel_rfl
theorem maps_rowed : mapsRowed Tryz.prog = true := by kernel_rfl
theorem and2 {a b : Bool} (h1 : a = true) (h2 : b = true) : (a && b) = true := by rw [h1, h2]; rfl
theorem gTab : Tryz.prog.globalNamed "math/bits.deBruijn64tab" = some 0 := by kernel_rfl
theorem gTabType : (Tryz.prog.globals[0]?).map (·.type) = some 268 := by kernel_rfl
theorem cells304 : Tryz.prog.cellsOf 268 = 64 := by kernel_rfl
theorem maxLen_cell {W : World} (h : W.ShapedOpen Tryz.prog) : ∃ m : Int, W.cell? ⟨1, 0, none⟩ = some (.int .i64 m) :=
  cell_of_shapedOpen_int (P := Tryz.prog) (g := 1) (t := 3) (zero := #[.int .i64 0]) h (of_decide_eq_true (by kernel_rfl)) (by kernel_rfl) rfl (by kernel_rfl) (by kernel_rfl) Tryz.underlying3
theorem elem_u8 : ∃ e, Tryz.prog.underlying 268 = some (.array 64 e) ∧ Tryz.prog.underlying e = some (.int .u8) ∧ Tryz.prog.cellsOf e = 1 := ⟨5, Tryz.underlying268, Tryz.underlying5, by kernel_rfl⟩
theorem row_gx {W : World} (hL : laidMetH Tryz.prog Rows.machineCodesUptoRow.laid W) (hS : W.ShapedOpen Tryz.prog) : Gx W.heap := by
  obtain ⟨e, h1, h2, h3⟩ := elem_u8
  have hT : Lib.TabIs Tryz.prog W "math/bits.deBruijn64tab" .u8 (Lib.deBruijn64tab.map fun n : Nat => (n : Int)) := Lib.tabIs_of_head (rest := Rows.machineCodesUptoRow.laid.tail) gTab gTabType h1 h2 h3 cells304 hL
  refine ⟨maxLen_cell hS, fun j hj => ?_⟩
  have := hT.cell gTab j (by rw [List.length_map]; exact hj)
  have e2 : (Lib.deBruijn64tab.map fun n : Nat => (n : Int)).getD j 0 = ((Lib.deBruijn64tab.getD j 0 : Nat) : Int) := by
    rw [List.getD_eq_getElem?_getD, List.getD_eq_getElem?_getD, List.getElem?_map]
    cases Lib.deBruijn64tab[j]? <;> rfl
  rw [e2] at this
  exact this
noncomputable def machineCodes_world (os : Os) : World := World.laidAll Tryz.prog os Rows.machineCodesUptoRow.laid
theorem machineCodes_reads (os : Os) {H : Type} (enc : TypeId × Value → H) : ∃ places, DataW.whole enc Tryz.prog ((machineCodes_world os).forCall (fun _ _ => 0) ⟨#[], #[.agg #[.int .i64 0, .int .i64 0, .int .i64 0, .slice none 0 0, .slice none 0 0, .slice none 0 0], .slice none 0 0, .agg #[.int .u16 0, .int .u16 0]], []⟩).memory Tryz.f11.params.toList Rows.machineCodesSpec.vars false #[.agg #[.int .i64 0, .int .i64 0, .int .i64 0, .slice none 0 0, .slice none 0 0, .slice none 0 0], .slice none 0 0, .agg #[.int .u16 0, .int .u16 0]].toList 8 = some ([.agg [.lit (.int .i64 0), .lit (.int .i64 0), .lit (.int .i64 0), .nil, .nil, .nil], .nil, .agg [.lit (.int .u16 0), .lit (.int .u16 0)]], [], places) :=
  ⟨[], by kernel_rfl⟩
theorem machineCodes_lifted (os : Os) (started : os.Started) (H : Type) (enc : TypeId × Value → H) (F : Stop.Interp) :
    ReturnsInHanded {} Tryz.checked os 11 .any ((Rows.OpenSpec.upto Rows.machineCodesSpec).preRow enc Tryz.prog Tryz.f11 Rows.machineCodesUptoRow.domain false Rows.machineCodesUptoRow.laid) (((Rows.OpenSpec.upto Rows.machineCodesSpec).at F).post enc Tryz.prog Tryz.f11 false true false false) := by
  obtain ⟨places, hx⟩ := machineCodes_reads os enc
  refine returnsInHanded_of_row (C := Tryz.checked) (s := Rows.OpenSpec.upto Rows.machineCodesSpec) own started (by kernel_rfl) Tryz.func11
    (witness_row_at (enc := enc) (C := Tryz.checked) false (machineCodes_world os) #[.agg #[.int .i64 0, .int .i64 0, .int .i64 0, .slice none 0 0, .slice none 0 0, .slice none 0 0], .slice none 0 0, .agg #[.int .u16 0, .int .u16 0]] (World.laidAll_os _ _ _) (by kernel_rfl) (by kernel_rfl) (by kernel_rfl)
      (OpenSpec.preRow_of_cond 8 hx (by kernel_rfl) (fun k hk => by cases hk; kernel_rfl) (by kernel_rfl) (by rw [MakeChecks.laidMetH_plain _ _ _ (by kernel_rfl)]; exact laidMet_laidAll _ (by kernel_rfl) (by kernel_rfl)))) ?_
  intro W base args ds gs before hval0 hW _ hcond _ hL hS _
  have hval : ∀ (j : Nat) t v, Tryz.f11.params[j]? = some t → args[j]? = some v → Value.okWide Tryz.prog W .any base t v := hval0
  have hbulk : Rows.uptoBulkAll (ds ++ gs) ≤ 1048576 := of_decide_eq_true (hcond _ rfl)
  have hx0 : Gx W.heap := row_gx hL hS
  clear hcond hL hS hx
  have hW' := hW
  obtain ⟨p, q, hA0, hV, rfl, _, _⟩ := hW
  have hA : DataW.TrodAll enc Tryz.prog W 0 (fun _ => true) true Tryz.f11.params.toList args.toList ds p := hA0
  rw [Tryz.params11] at hA hval
  obtain ⟨v0, vs0, d0, ds0, p0, q0, hargs, rfl, rfl, h0, r0⟩ := trodAll_cons hA
  obtain ⟨v1, vs1, d1, ds1, p1, q1, rfl, rfl, rfl, h1, r1⟩ := trodAll_cons r0
  obtain ⟨v2, vs2, d2, ds2, p2, q2, rfl, rfl, rfl, h2, r2⟩ := trodAll_cons r1
  obtain ⟨rfl, rfl, rfl⟩ := trodAll_nil r2
  obtain rfl : args = #[v0, v1, v2] := by cases args; simp_all
  obtain ⟨rfl, rfl⟩ := trodVars_none hV
  have m0 : Rdb Tryz.prog W 26 v0.cells.toList := rdb_of_trod h0 (Nat.le_trans (bulk_part (by simp)) hbulk)
  obtain ⟨⟨cs0⟩, rfl⟩ := okWide_agg (by kernel_rfl) (hval 0 26 v0 rfl rfl)
  obtain ⟨g0, sf0, sm0, sl0, e0, hg0⟩ := open_machine m0
  obtain rfl : cs0 = _ := e0
  have m1 : Rdb Tryz.prog W 65 v1.cells.toList := rdb_of_trod h1 (Nat.le_trans (bulk_part (by simp)) hbulk)
  obtain ⟨la1, ln1, lc1, rfl⟩ := okWide_slice Tryz.underlying65 (hval 1 65 v1 rfl rfl)
  obtain ⟨s1, L1, e1, hs1⟩ := open_u8s (show Rdb Tryz.prog W 65 [_] from m1)
  obtain ⟨rfl, rfl, rfl⟩ : la1 = s1.a ∧ ln1 = s1.n ∧ lc1 = s1.c := by injection e1 with e1 e2 e3; exact ⟨e1, e2, e3⟩
  have m2 : Rdb Tryz.prog W 69 v2.cells.toList := rdb_of_trod h2 (Nat.le_trans (bulk_part (by simp)) hbulk)
  obtain ⟨⟨cs2⟩, rfl⟩ := okWide_agg (by kernel_rfl) (hval 2 69 v2 rfl rfl)
  obtain ⟨a2, b2, e2, ha2, hb2⟩ := open_u16x2 m2
  obtain rfl : cs2 = _ := e2
  clear hA0 hval0
  simp only [List.append_nil] at hW'
  refine (machineCodes11 g0 sf0 sm0 sl0 s1 L1 a2 b2 W.heap hx0 hg0 hs1.1 hs1.2 ha2 hb2).calls.mono ?_
  rintro e W' ⟨v, rfl, ⟨rfl, hE⟩, hos, htape, hout⟩
  exact ⟨_, rfl, post_law laid_out (by rw [Tryz.params11]; exact of_decide_eq_true (by kernel_rfl)) rfl (by simp at hW' ⊢; exact hW') rfl rfl rfl rfl Tryz.underlying4 hE hos htape hout⟩
theorem machineCodes_c10 : (Rows.machineCodesUptoRow.inPlace == Tryz.prog.inPlace 11) = true := by kernel_rfl
theorem machineCodes_c11 : (Rows.machineCodesUptoRow.unfollowed == Tryz.prog.unfollowed 11) = true := by kernel_rfl
theorem machineCodes_c12 : (Rows.machineCodesUptoRow.recurses == Tryz.prog.recurses 11) = true := by kernel_rfl
theorem machineCodes_c13 : (Rows.machineCodesUptoRow.named == Tryz.prog.varsNamed 11) = true := by kernel_rfl
theorem machineCodes_c23 : (Rows.machineCodesUptoRow.plainKeys == Tryz.prog.plainKeys) = true := by kernel_rfl
theorem machineCodes_c25 : Tryz.prog.stopsHeard = true := by kernel_rfl
theorem machineCodes_c26 : Tryz.prog.mayEnter = true := by kernel_rfl
theorem machineCodes_c27 : (Rows.machineCodesUptoRow.lifted == Tryz.prog.liftsFinal) = true := by kernel_rfl
theorem machineCodes_c28 : (Tryz.prog.make == some Rows.machineCodesUptoRow.make) = true := by kernel_rfl
theorem machineCodes_closed : joinedFacts Tryz.prog 11 Tryz.f11 (Rows.OpenSpec.upto Rows.machineCodesSpec).bare Rows.machineCodesUptoRow = true := by
  unfold joinedFacts
  exact and2 (and2 (and2 (and2 (and2 (and2 (and2 (and2 (and2 (and2 (and2 (and2 (and2 (and2 (and2 (and2 (and2 (and2 (and2 (and2 (and2 (and2 (and2 (and2 (and2 (and2 (and2 (and2 (and2 (and2 (and2 (by kernel_rfl) laid_out) maps_rowed) (by kernel_rfl)) (by kernel_rfl)) (by kernel_rfl)) (by kernel_rfl)) (by kernel_rfl)) (by kernel_rfl)) machineCodes_c10) machineCodes_c11) machineCodes_c12) machineCodes_c13) (by kernel_rfl)) (by kernel_rfl)) (by kernel_rfl)) (by kernel_rfl)) (by kernel_rfl)) (by kernel_rfl)) (by kernel_rfl)) (by kernel_rfl)) (by kernel_rfl)) machineCodes_c23) (by kernel_rfl)) machineCodes_c25) machineCodes_c26) machineCodes_c27) machineCodes_c28) (by kernel_rfl)) (by kernel_rfl)) (by kernel_rfl)) (by kernel_rfl)
theorem machineCodes_named : Tryz.prog.funcNamed "farandole/farandolelaw26.MachineCodes" = some 11 := by kernel_rfl
theorem machineCodes_inst : Tryz.f11.isInstance Tryz.prog Rows.machineCodesUptoRow.origin Rows.machineCodesUptoRow.targs := of_decide_eq_true (by kernel_rfl)
theorem machineCodes_wrap : Tryz.f11.isWrapper Tryz.prog Rows.machineCodesUptoRow.wrapper Rows.machineCodesUptoRow.mainSum := by unfold Func.isWrapper; first | (rw [if_pos (by decide +kernel)]; kernel_rfl) | (rw [if_neg (by decide +kernel)]; exact ⟨rfl, rfl⟩)
theorem machineCodes_holds : Rows.MachineCodesUptoSaid :=
  OpenClaim.holds_of_cond 11 Tryz.f11 rfl rfl rfl rfl rfl rfl rfl ⟨rfl, rfl, rfl, rfl, rfl⟩ rfl rfl rfl rfl rfl machineCodes_named Tryz.func11 machineCodes_closed machineCodes_inst machineCodes_wrap
    (fun os started H enc _ F => by rw [OpenClaim.pre_eq_preRow]; exact machineCodes_lifted os started H enc F)
theorem machineCodes_text : Rows.machineCodesUptoRow.wfByText (Rows.OpenSpec.upto Rows.machineCodesSpec) = true := by kernel_rfl
theorem machineCodes_main : Tryz.prog.mainIs = some ((Rows.machineCodesUptoCard.stood.harness).1, (Rows.machineCodesUptoCard.stood.harness).2.toList) := by kernel_rfl
theorem machineCodes_looks : false = Tryz.prog.looks [] := by kernel_rfl
theorem machineCodes_stand : ([26, 65, 69].all fun u => !Tryz.prog.wantsStandIn u) = true := by kernel_rfl
theorem machineCodes_goes : false = Rows.machineCodesUptoRow.goesBy Tryz.prog := by kernel_rfl
theorem machineCodes_proved : Rows.MachineCodesUptoCardSaid :=
  Claim7.holds_tied_plain_at .later [] _ _ _ _ machineCodes_holds (fun _ h => by cases h) machineCodes_text (fun _ h => by cases h) machineCodesUpto_row_tie rfl ⟨rfl, rfl⟩ machineCodes_main rfl
    (fun f fn hf hfn => by
      obtain rfl : f = 11 := Option.some.inj (machineCodes_named.symm.trans hf) |>.symm
      obtain rfl : fn = Tryz.f11 := (Option.some.inj (Tryz.func11.symm.trans hfn)).symm
      exact ⟨machineCodes_looks, fun j t ht => by
        rw [Tryz.params11] at ht
        have hm : t ∈ [26, 65, 69] := by simpa using Array.mem_of_getElem? ht
        exact (show Tryz.prog.wantsStandIn t = false by simpa using List.all_eq_true.1 machineCodes_stand t hm)⟩)
    machineCodes_goes
end Go.Proofs.YtkebghjhekoecaaGreatDoor
