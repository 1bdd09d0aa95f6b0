/- The last step: each law of project as a row and as a card, where what it reads is of bulk at most 1048576: true, and the arguments read as before. Conditions: the row's own (the tables that it lists, as the program's text lays them, which the card ties). -/
import Derived.Test.YtajglkbckhgboaaGreatDoorDM11
import Derived.Test.YtajglkbckhgboaaGreatDoorCards
import Derived.Test.YtajglkbckhgboaaGreatDoorTie
import Derived.Deep.DeepHandedRow
import Derived.Lib.LaidTab
import Derived.Shelf.Vars
import Derived.Lay
import Derived.LaidMore
import Derived.SevenTiedAt
import Derived.Stop.Joined
import Derived.Handed
set_option linter.all false
set_option maxRecDepth 100000
set_option maxHeartbeats 8000000

namespace Go.Proofs.YtajglkbckhgboaaGreatDoor
open Go.ChangeShapes Go.WideShapes Go.ChangeAt Go.RowKit Go.VC
set_option maxRecDepth 100000
theorem own : ownKnob Tryz.prog.godebug = none := by kernel_rfl
theorem xc : laidOutB Tryz.prog = true := by kernel_rfl
theorem Ad : mapsRowed Tryz.prog = true := by kernel_rfl
theorem dM{a b : Bool}(h1 : a = true)(h2 : b = true): (a && b) = true := by rw [h1, h2]; rfl
theorem Zn : Tryz.prog.globalNamed "math/bits.deBruijn64tab" = some 0 := by kernel_rfl
theorem IW : (Tryz.prog.globals[0]?).map (·.type) = some 383 := by kernel_rfl
theorem Jr : Tryz.prog.cellsOf 383 = 64 := by kernel_rfl
theorem xa{W : World}(h : W.ShapedOpen Tryz.prog): ∃ m : Int, W.cell? ⟨1, 0, none⟩ = some (.int .i64 m) :=
  cell_of_shapedOpen_int (P := Tryz.prog) (g := 1) (t := 3) (zero := #[.int .i64 0]) h (of_decide_eq_true (by kernel_rfl)) (by kernel_rfl) rfl (by kernel_rfl) (by kernel_rfl) Tryz.underlying3
theorem NA : ∃ e, Tryz.prog.underlying 383 = some (.array 64 e) ∧ Tryz.prog.underlying e = some (.int .u8) ∧ Tryz.prog.cellsOf e = 1 := ⟨5, Tryz.underlying383, Tryz.underlying5, by kernel_rfl⟩
theorem Qa{W : World}(hL : laidMetH Tryz.prog Rows.realizeViewsUptoRow.laid W)(hS : W.ShapedOpen Tryz.prog): Gx W.heap := by
  obtain ⟨e, h1, h2, h3⟩ := NA
  have hT : Lib.TabIs Tryz.prog W "math/bits.deBruijn64tab" .u8 (Lib.deBruijn64tab.map fun n : Nat => (n : Int)) := Lib.tabIs_of_head (rest := Rows.realizeViewsUptoRow.laid.tail) Zn IW h1 h2 h3 Jr hL
  refine ⟨xa hS, fun j hj => ?_⟩
  have := hT.cell Zn j (by rw [List.length_map]; exact hj)
  have e2 : (Lib.deBruijn64tab.map fun n : Nat => (n : Int)).getD j 0 = ((Lib.deBruijn64tab.getD j 0 : Nat) : Int) := by
    rw [List.getD_eq_getElem?_getD, List.getD_eq_getElem?_getD, List.getElem?_map]
    cases Lib.deBruijn64tab[j]? <;> rfl
  rw [e2] at this
  exact this
noncomputable def fE(os : Os): World := World.laidAll Tryz.prog os Rows.realizeViewsUptoRow.laid
theorem kE(os : Os){H : Type}(enc : TypeId × Value → H): ∃ places, DataW.whole enc Tryz.prog ((fE os).forCall (fun _ _ => 0) ⟨#[], #[.agg #[.string ⟨#[]⟩, .slice none 0 0, .slice none 0 0, .int .i64 0, .int .i64 0, .int .i64 0, .slice none 0 0, .slice none 0 0], .int .i64 0], []⟩).memory Tryz.f11.params.toList Rows.realizeViewsSpec.vars false #[.agg #[.string ⟨#[]⟩, .slice none 0 0, .slice none 0 0, .int .i64 0, .int .i64 0, .int .i64 0, .slice none 0 0, .slice none 0 0], .int .i64 0].toList 8 = some ([.agg [.lit (.string []), .nil, .nil, .lit (.int .i64 0), .lit (.int .i64 0), .lit (.int .i64 0), .nil, .nil], .lit (.int .i64 0)], [], places) :=
  ⟨[], by kernel_rfl⟩
theorem j4(os : Os)(started : os.Started)(H : Type)(enc : TypeId × Value → H)(F : Stop.Interp):
    ReturnsInHanded {} Tryz.checked os 11 .any ((Rows.OpenSpec.upto Rows.realizeViewsSpec).preRow enc Tryz.prog Tryz.f11 Rows.realizeViewsUptoRow.domain false Rows.realizeViewsUptoRow.laid) (((Rows.OpenSpec.upto Rows.realizeViewsSpec).at F).post enc Tryz.prog Tryz.f11 false true false false) := by
  obtain ⟨places, hx⟩ := kE os enc
  refine returnsInHanded_of_row (C := Tryz.checked) (s := Rows.OpenSpec.upto Rows.realizeViewsSpec) own started (by kernel_rfl) Tryz.func11
    (witness_row_at (enc := enc) (C := Tryz.checked) false (fE os) #[.agg #[.string ⟨#[]⟩, .slice none 0 0, .slice none 0 0, .int .i64 0, .int .i64 0, .int .i64 0, .slice none 0 0, .slice none 0 0], .int .i64 0] (World.laidAll_os _ _ _) (by kernel_rfl) (by kernel_rfl) (by kernel_rfl)
      (OpenSpec.preRow_of_cond 8 hx (by kernel_rfl) (fun k hk => by cases hk; kernel_rfl) (by kernel_rfl) (by rw [MakeChecks.laidMetH_plain _ _ _ (by kernel_rfl)]; exact laidMet_laidAll _ (by kernel_rfl) (by kernel_rfl)))) ?_
  intro W base args ds gs before OQ hW _ O8 _ hL hS _
  have hval : ∀ (j : Nat) t v, Tryz.f11.params[j]? = some t → args[j]? = some v → Value.okWide Tryz.prog W .any base t v := OQ
  have hbulk : Rows.uptoBulkAll (ds ++ gs) ≤ 1048576 := of_decide_eq_true (O8 _ rfl)
  have kL : Gx W.heap := Qa hL hS
  clear O8 hL hS hx
  have YZ := hW
  obtain ⟨p, q, hA0, hV, rfl, _, _⟩ := hW
  have hA : DataW.TrodAll enc Tryz.prog W 0 (fun _ => true) true Tryz.f11.params.toList args.toList ds p := hA0
  rw [Tryz.params11] at hA hval
  obtain ⟨v0, vs0, d0, ds0, p0, q0, Pc, rfl, rfl, h0, r0⟩ := trodAll_cons hA
  obtain ⟨v1, vs1, d1, ds1, p1, q1, rfl, rfl, rfl, h1, r1⟩ := trodAll_cons r0
  obtain ⟨rfl, rfl, rfl⟩ := trodAll_nil r1
  obtain rfl : args = #[v0, v1] := by cases args; simp_all
  obtain ⟨rfl, rfl⟩ := trodVars_none hV
  have m0 : jY Tryz.prog W 27 v0.cells.toList := og h0 (Nat.le_trans (gZ (by simp)) hbulk)
  obtain ⟨⟨cs0⟩, rfl⟩ := zC (by kernel_rfl) (hval 0 27 v0 rfl rfl)
  obtain ⟨g0, e0, M6, sg⟩ := wQ m0
  obtain rfl : cs0 = _ := e0
  have m1 : jY Tryz.prog W 3 v1.cells.toList := og h1 (Nat.le_trans (gZ (by simp)) hbulk)
  obtain ⟨k1, rfl⟩ := okWide_int Tryz.underlying3 (hval 1 3 v1 rfl rfl)
  clear hA0 OQ
  simp only [List.append_nil] at YZ
  refine (uk g0 k1 W.heap M6 kL sg).calls.mono ?_
  rintro e W' ⟨v, rfl, ⟨rfl, hE⟩, hos, H5, ET⟩
  exact ⟨_, rfl, Hm xc (by rw [Tryz.params11]; exact of_decide_eq_true (by kernel_rfl)) rfl (by simp at YZ ⊢; exact YZ) rfl rfl rfl rfl Tryz.underlying4 hE hos H5 ET⟩
theorem nq : (Rows.realizeViewsUptoRow.inPlace == Tryz.prog.inPlace 11) = true := by kernel_rfl
theorem np : (Rows.realizeViewsUptoRow.unfollowed == Tryz.prog.unfollowed 11) = true := by kernel_rfl
theorem nj : (Rows.realizeViewsUptoRow.recurses == Tryz.prog.recurses 11) = true := by kernel_rfl
theorem ni : (Rows.realizeViewsUptoRow.named == Tryz.prog.varsNamed 11) = true := by kernel_rfl
theorem nh : (Rows.realizeViewsUptoRow.plainKeys == Tryz.prog.plainKeys) = true := by kernel_rfl
theorem ng : Tryz.prog.stopsHeard = true := by kernel_rfl
theorem nc : Tryz.prog.mayEnter = true := by kernel_rfl
theorem mZ : (Rows.realizeViewsUptoRow.lifted == Tryz.prog.liftsFinal) = true := by kernel_rfl
theorem mY : (Tryz.prog.make == some Rows.realizeViewsUptoRow.make) = true := by kernel_rfl
theorem j5 : joinedFacts Tryz.prog 11 Tryz.f11 (Rows.OpenSpec.upto Rows.realizeViewsSpec).bare Rows.realizeViewsUptoRow = true := by
  unfold joinedFacts
  exact dM (dM (dM (dM (dM (dM (dM (dM (dM (dM (dM (dM (dM (dM (dM (dM (dM (dM (dM (dM (dM (dM (dM (dM (dM (dM (dM (dM (dM (dM (dM (by kernel_rfl) xc) Ad) (by kernel_rfl)) (by kernel_rfl)) (by kernel_rfl)) (by kernel_rfl)) (by kernel_rfl)) (by kernel_rfl)) nq) np) nj) ni) (by kernel_rfl)) (by kernel_rfl)) (by kernel_rfl)) (by kernel_rfl)) (by kernel_rfl)) (by kernel_rfl)) (by kernel_rfl)) (by kernel_rfl)) (by kernel_rfl)) nh) (by kernel_rfl)) ng) nc) mZ) mY) (by kernel_rfl)) (by kernel_rfl)) (by kernel_rfl)) (by kernel_rfl)
theorem fF : Tryz.prog.funcNamed "farandole/farandolelaw23.RealizeViews" = some 11 := by kernel_rfl
theorem lM : Tryz.f11.isInstance Tryz.prog Rows.realizeViewsUptoRow.origin Rows.realizeViewsUptoRow.targs := of_decide_eq_true (by kernel_rfl)
theorem lJ : Tryz.f11.isWrapper Tryz.prog Rows.realizeViewsUptoRow.wrapper Rows.realizeViewsUptoRow.mainSum := by unfold Func.isWrapper; first | (rw [if_pos (by decide +kernel)]; kernel_rfl) | (rw [if_neg (by decide +kernel)]; exact ⟨rfl, rfl⟩)
theorem kG : Rows.RealizeViewsUptoSaid :=
  OpenClaim.holds_of_cond 11 Tryz.f11 rfl rfl rfl rfl rfl rfl rfl ⟨rfl, rfl, rfl, rfl, rfl⟩ rfl rfl rfl rfl rfl fF Tryz.func11 j5 lM lJ
    (fun os started H enc _ F => by rw [OpenClaim.pre_eq_preRow]; exact j4 os started H enc F)
theorem lK : Rows.realizeViewsUptoRow.wfByText (Rows.OpenSpec.upto Rows.realizeViewsSpec) = true := by kernel_rfl
theorem lL : Tryz.prog.mainIs = some ((Rows.realizeViewsUptoCard.stood.harness).1, (Rows.realizeViewsUptoCard.stood.harness).2.toList) := by kernel_rfl
theorem kF : false = Tryz.prog.looks [] := by kernel_rfl
theorem kD : ([27, 3].all fun u => !Tryz.prog.wantsStandIn u) = true := by kernel_rfl
theorem lN : false = Rows.realizeViewsUptoRow.goesBy Tryz.prog := by kernel_rfl
theorem realizeViews_proved : Rows.RealizeViewsUptoCardSaid :=
  Claim7.holds_tied_plain_at .later [] _ _ _ _ kG (fun _ h => by cases h) lK (fun _ h => by cases h) realizeViewsUpto_row_tie rfl ⟨rfl, rfl⟩ lL rfl
    (fun f fn hf yU => by
      obtain rfl : f = 11 := Option.some.inj (fF.symm.trans hf) |>.symm
      obtain rfl : fn = Tryz.f11 := (Option.some.inj (Tryz.func11.symm.trans yU)).symm
      exact ⟨kF, fun j t ht => by
        rw [Tryz.params11] at ht
        have hm : t ∈ [27, 3] := by simpa using Array.mem_of_getElem? ht
        exact (show Tryz.prog.wantsStandIn t = false by simpa using List.all_eq_true.1 kD t hm)⟩)
    lN
end Go.Proofs.YtajglkbckhgboaaGreatDoor
