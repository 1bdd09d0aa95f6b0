/- The last step: each law of project as a row and as a card, where what it reads is of bulk at most 1048576: true, and the arguments read as before. Conditions: the row's own (the tables that it lists, as the program's text lays them, which the card ties). -/
import Derived.Test.YtkebghjhekoecaaGreatDoorM25
import Derived.Test.YtkebghjhekoecaaGreatDoorM26
import Derived.Test.YtkebghjhekoecaaGreatDoorM04
import Derived.Test.YtkebghjhekoecaaGreatDoorCards
import Derived.Test.YtkebghjhekoecaaGreatDoorTie
import Derived.Deep.DeepHandedRow
import Derived.Lib.LaidTab
import Derived.Shelf.Vars
import Derived.Lay
import Derived.LaidMore
import Derived.SevenTiedAt
import Derived.Stop.Joined
import Derived.Handed
set_option linter.unusedVariables false
set_option linter.unusedSimpArgs false
set_option maxRecDepth 100000

namespace Go.Proofs.YtkebghjhekoecaaGreatDoor
open Go.ChangeShapes Go.WideShapes Go.ChangeAt Go.RowKit Go.VC
set_option maxRecDepth 100000
theorem own : ownKnob Tryz.prog.godebug = none := by kernel_rfl
theorem laid_out : laidOutB Tryz.prog = true := by kernel_rfl
theorem maps_rowed : mapsRowed Tryz.prog = true := by kernel_rfl
theorem and2 {a b : Bool} (h1 : a = true) (h2 : b = true) : (a && b) = true := by rw [h1, h2]; rfl
theorem gTab : Tryz.prog.globalNamed "math/bits.deBruijn64tab" = some 0 := by kernel_rfl
theorem gTabType : (Tryz.prog.globals[0]?).map (·.type) = some 268 := by kernel_rfl
theorem cells304 : Tryz.prog.cellsOf 268 = 64 := by kernel_rfl
theorem maxLen_cell {W : World} (h : W.ShapedOpen Tryz.prog) : ∃ m : Int, W.cell? ⟨1, 0, none⟩ = some (.int .i64 m) :=
  cell_of_shapedOpen_int (P := Tryz.prog) (g := 1) (t := 3) (zero := #[.int .i64 0]) h (of_decide_eq_true (by kernel_rfl)) (by kernel_rfl) rfl (by kernel_rfl) (by kernel_rfl) Tryz.underlying3
theorem elem_u8 : ∃ e, Tryz.prog.underlying 268 = some (.array 64 e) ∧ Tryz.prog.underlying e = some (.int .u8) ∧ Tryz.prog.cellsOf e = 1 := ⟨5, Tryz.underlying268, Tryz.underlying5, by kernel_rfl⟩
theorem row_gx {W : World} (hL : laidMetH Tryz.prog Rows.machineMinimalUptoRow.laid W) (hS : W.ShapedOpen Tryz.prog) : Gx W.heap := by
  obtain ⟨e, h1, h2, h3⟩ := elem_u8
  have hT : Lib.TabIs Tryz.prog W "math/bits.deBruijn64tab" .u8 (Lib.deBruijn64tab.map fun n : Nat => (n : Int)) := Lib.tabIs_of_head (rest := Rows.machineMinimalUptoRow.laid.tail) gTab gTabType h1 h2 h3 cells304 hL
  refine ⟨maxLen_cell hS, fun j hj => ?_⟩
  have := hT.cell gTab j (by rw [List.length_map]; exact hj)
  have e2 : (Lib.deBruijn64tab.map fun n : Nat => (n : Int)).getD j 0 = ((Lib.deBruijn64tab.getD j 0 : Nat) : Int) := by
    rw [List.getD_eq_getElem?_getD, List.getD_eq_getElem?_getD, List.getElem?_map]
    cases Lib.deBruijn64tab[j]? <;> rfl
  rw [e2] at this
  exact this
noncomputable def machineMinimal_world (os : Os) : World := World.laidAll Tryz.prog os Rows.machineMinimalUptoRow.laid
theorem machineMinimal_reads (os : Os) {H : Type} (enc : TypeId × Value → H) : ∃ places, DataW.whole enc Tryz.prog ((machineMinimal_world os).forCall (fun _ _ => 0) ⟨#[], #[.agg #[.int .i64 0, .int .i64 0, .int .i64 0, .slice none 0 0, .slice none 0 0, .slice none 0 0], .slice none 0 0, .slice none 0 0], []⟩).memory Tryz.f10.params.toList Rows.machineMinimalSpec.vars false #[.agg #[.int .i64 0, .int .i64 0, .int .i64 0, .slice none 0 0, .slice none 0 0, .slice none 0 0], .slice none 0 0, .slice none 0 0].toList 8 = some ([.agg [.lit (.int .i64 0), .lit (.int .i64 0), .lit (.int .i64 0), .nil, .nil, .nil], .nil, .nil], [], places) :=
  ⟨[], by kernel_rfl⟩
theorem machineMinimal_lifted (os : Os) (started : os.Started) (H : Type) (enc : TypeId × Value → H) (F : Stop.Interp) :
    ReturnsInHanded {} Tryz.checked os 10 .any ((Rows.OpenSpec.upto Rows.machineMinimalSpec).preRow enc Tryz.prog Tryz.f10 Rows.machineMinimalUptoRow.domain false Rows.machineMinimalUptoRow.laid) (((Rows.OpenSpec.upto Rows.machineMinimalSpec).at F).post enc Tryz.prog Tryz.f10 false true false false) := by
  obtain ⟨places, hx⟩ := machineMinimal_reads os enc
  refine returnsInHanded_of_row (C := Tryz.checked) (s := Rows.OpenSpec.upto Rows.machineMinimalSpec) own started (by kernel_rfl) Tryz.func10
    (witness_row_at (enc := enc) (C := Tryz.checked) false (machineMinimal_world os) #[.agg #[.int .i64 0, .int .i64 0, .int .i64 0, .slice none 0 0, .slice none 0 0, .slice none 0 0], .slice none 0 0, .slice none 0 0] (World.laidAll_os _ _ _) (by kernel_rfl) (by kernel_rfl) (by kernel_rfl)
      (OpenSpec.preRow_of_cond 8 hx (by kernel_rfl) (fun k hk => by cases hk; kernel_rfl) (by kernel_rfl) (by rw [MakeChecks.laidMetH_plain _ _ _ (by kernel_rfl)]; exact laidMet_laidAll _ (by kernel_rfl) (by kernel_rfl)))) ?_
  intro W base args ds gs before hval0 hW _ hcond _ hL hS _
  have hval : ∀ (j : Nat) t v, Tryz.f10.params[j]? = some t → args[j]? = some v → Value.okWide Tryz.prog W .any base t v := hval0
  have hbulk : Rows.uptoBulkAll (ds ++ gs) ≤ 1048576 := of_decide_eq_true (hcond _ rfl)
  have hx0 : Gx W.heap := row_gx hL hS
  clear hcond hL hS hx
  have hW' := hW
  obtain ⟨p, q, hA0, hV, rfl, _, _⟩ := hW
  have hA : DataW.TrodAll enc Tryz.prog W 0 (fun _ => true) true Tryz.f10.params.toList args.toList ds p := hA0
  rw [Tryz.params10] at hA hval
  obtain ⟨v0, vs0, d0, ds0, p0, q0, hargs, rfl, rfl, h0, r0⟩ := trodAll_cons hA
  obtain ⟨v1, vs1, d1, ds1, p1, q1, rfl, rfl, rfl, h1, r1⟩ := trodAll_cons r0
  obtain ⟨v2, vs2, d2, ds2, p2, q2, rfl, rfl, rfl, h2, r2⟩ := trodAll_cons r1
  obtain ⟨rfl, rfl, rfl⟩ := trodAll_nil r2
  obtain rfl : args = #[v0, v1, v2] := by cases args; simp_all
  obtain ⟨rfl, rfl⟩ := trodVars_none hV
  have m0 : Rdb Tryz.prog W 26 v0.cells.toList := rdb_of_trod h0 (Nat.le_trans (bulk_part (by simp)) hbulk)
  obtain ⟨⟨cs0⟩, rfl⟩ := okWide_agg (by kernel_rfl) (hval 0 26 v0 rfl rfl)
  obtain ⟨g0, sf0, sm0, sl0, e0, hg0⟩ := open_machine m0
  obtain rfl : cs0 = _ := e0
  have m1 : Rdb Tryz.prog W 27 v1.cells.toList := rdb_of_trod h1 (Nat.le_trans (bulk_part (by simp)) hbulk)
  obtain ⟨la1, ln1, lc1, rfl⟩ := okWide_slice Tryz.underlying27 (hval 1 27 v1 rfl rfl)
  obtain ⟨s1, L1, e1, hs1⟩ := open_events (show Rdb Tryz.prog W 27 [_] from m1)
  obtain ⟨rfl, rfl, rfl⟩ : la1 = s1.a ∧ ln1 = s1.n ∧ lc1 = s1.c := by injection e1 with e1 e2 e3; exact ⟨e1, e2, e3⟩
  have m2 : Rdb Tryz.prog W 65 v2.cells.toList := rdb_of_trod h2 (Nat.le_trans (bulk_part (by simp)) hbulk)
  obtain ⟨la2, ln2, lc2, rfl⟩ := okWide_slice Tryz.underlying65 (hval 2 65 v2 rfl rfl)
  obtain ⟨s2, L2, e2, hs2⟩ := open_u8s (show Rdb Tryz.prog W 65 [_] from m2)
  obtain ⟨rfl, rfl, rfl⟩ : la2 = s2.a ∧ ln2 = s2.n ∧ lc2 = s2.c := by injection e2 with e1 e2 e3; exact ⟨e1, e2, e3⟩
  clear hA0 hval0
  simp only [List.append_nil] at hW'
  refine (minimal10 g0 sf0 sm0 sl0 L1 s1 L2 s2 W.heap hg0 hs1 hs2.1.rw hs2.2 hx0).calls.mono ?_
  rintro e W' ⟨v, rfl, ⟨rfl, hE⟩, hos, htape, hout⟩
  exact ⟨_, rfl, post_law laid_out (by rw [Tryz.params10]; exact of_decide_eq_true (by kernel_rfl)) rfl (by simp at hW' ⊢; exact hW') rfl rfl rfl rfl Tryz.underlying4 hE hos htape hout⟩
theorem machineMinimal_c10 : (Rows.machineMinimalUptoRow.inPlace == Tryz.prog.inPlace 10) = true := by kernel_rfl
theorem machineMinimal_c11 : (Rows.machineMinimalUptoRow.unfollowed == Tryz.prog.unfollowed 10) = true := by kernel_rfl
theorem machineMinimal_c12 : (Rows.machineMinimalUptoRow.recurses == Tryz.prog.recurses 10) = true := by kernel_rfl
theorem machineMinimal_c13 : (Rows.machineMinimalUptoRow.named == Tryz.prog.varsNamed 10) = true := by kernel_rfl
theorem machineMinimal_c23 : (Rows.machineMinimalUptoRow.plainKeys == Tryz.prog.plainKeys) = true := by kernel_rfl
theorem machineMinimal_c25 : Tryz.prog.stopsHeard = true := by kernel_rfl
theorem machineMinimal_c26 : Tryz.prog.mayEnter = true := by kernel_rfl
theorem machineMinimal_c27 : (Rows.machineMinimalUptoRow.lifted == Tryz.prog.liftsFinal) = true := by kernel_rfl
theorem machineMinimal_c28 : (Tryz.prog.make == some Rows.machineMinimalUptoRow.make) = true := by kernel_rfl
theorem machineMinimal_closed : joinedFacts Tryz.prog 10 Tryz.f10 (Rows.OpenSpec.upto Rows.machineMinimalSpec).bare Rows.machineMinimalUptoRow = true := by
  unfold joinedFacts
  exact and2 (and2 (and2 (and2 (and2 (and2 (and2 (and2 (and2 (and2 (and2 (and2 (and2 (and2 (and2 (and2 (and2 (and2 (and2 (and2 (and2 (and2 (and2 (and2 (and2 (and2 (and2 (and2 (and2 (and2 (and2 (by kernel_rfl) laid_out) maps_rowed) (by kernel_rfl)) (by kernel_rfl)) (by kernel_rfl)) (by kernel_rfl)) (by kernel_rfl)) (by kernel_rfl)) machineMinimal_c10) machineMinimal_c11) machineMinimal_c12) machineMinimal_c13) (by kernel_rfl)) (by kernel_rfl)) (by kernel_rfl)) (by kernel_rfl)) (by kernel_rfl)) (by kernel_rfl)) (by kernel_rfl)) (by kernel_rfl)) (by kernel_rfl)) machineMinimal_c23) (by kernel_rfl)) machineMinimal_c25) machineMinimal_c26) machineMinimal_c27) machineMinimal_c28) (by kernel_rfl)) (by kernel_rfl)) (by kernel_rfl)) (by kernel_rfl)
theorem machineMinimal_named : Tryz.prog.funcNamed "farandole/farandolelaw26.MachineMinimal" = some 10 := by kernel_rfl
theorem machineMinimal_inst : Tryz.f10.isInstance Tryz.prog Rows.machineMinimalUptoRow.origin Rows.machineMinimalUptoRow.targs := of_decide_eq_true (by kernel_rfl)
theorem machineMinimal_wrap : Tryz.f10.isWrapper Tryz.prog Rows.machineMinimalUptoRow.wrapper Rows.machineMinimalUptoRow.mainSum := by unfold Func.isWrapper; first | (rw [if_pos (by decide +kernel)]; kernel_rfl) | (rw [if_neg (by decide +kernel)]; exact ⟨rfl, rfl⟩)
theorem machineMinimal_holds : Rows.MachineMinimalUptoSaid :=
  OpenClaim.holds_of_cond 10 Tryz.f10 rfl rfl rfl rfl rfl rfl rfl ⟨rfl, rfl, rfl, rfl, rfl⟩ rfl rfl rfl rfl rfl machineMinimal_named Tryz.func10 machineMinimal_closed machineMinimal_inst machineMinimal_wrap
    (fun os started H enc _ F => by rw [OpenClaim.pre_eq_preRow]; exact machineMinimal_lifted os started H enc F)
theorem machineMinimal_text : Rows.machineMinimalUptoRow.wfByText (Rows.OpenSpec.upto Rows.machineMinimalSpec) = true := by kernel_rfl
theorem machineMinimal_main : Tryz.prog.mainIs = some ((Rows.machineMinimalUptoCard.stood.harness).1, (Rows.machineMinimalUptoCard.stood.harness).2.toList) := by kernel_rfl
theorem machineMinimal_looks : false = Tryz.prog.looks [] := by kernel_rfl
theorem machineMinimal_stand : ([26, 27, 65].all fun u => !Tryz.prog.wantsStandIn u) = true := by kernel_rfl
theorem machineMinimal_goes : false = Rows.machineMinimalUptoRow.goesBy Tryz.prog := by kernel_rfl
theorem machineMinimal_proved : Rows.MachineMinimalUptoCardSaid :=
  Claim7.holds_tied_plain_at .later [] _ _ _ _ machineMinimal_holds (fun _ h => by cases h) machineMinimal_text (fun _ h => by cases h) machineMinimalUpto_row_tie rfl ⟨rfl, rfl⟩ machineMinimal_main rfl
    (fun f fn hf hfn => by
      obtain rfl : f = 10 := Option.some.inj (machineMinimal_named.symm.trans hf) |>.symm
      obtain rfl : fn = Tryz.f10 := (Option.some.inj (Tryz.func10.symm.trans hfn)).symm
      exact ⟨machineMinimal_looks, fun j t ht => by
        rw [Tryz.params10] at ht
        have hm : t ∈ [26, 27, 65] := by simpa using Array.mem_of_getElem? ht
        exact (show Tryz.prog.wantsStandIn t = false by simpa using List.all_eq_true.1 machineMinimal_stand t hm)⟩)
    machineMinimal_goes
end Go.Proofs.YtkebghjhekoecaaGreatDoor
