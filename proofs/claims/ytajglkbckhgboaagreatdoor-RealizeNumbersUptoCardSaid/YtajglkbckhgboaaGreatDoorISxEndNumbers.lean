/- The last step: each law of project as a row and as a card, where what it reads is of bulk at most 1048576: true, and the arguments read as before. Conditions: the row's own (the tables that it lists, as the program's text lays them, which the card ties). -/
import Derived.Test.YtajglkbckhgboaaGreatDoorIM09
import Derived.Test.YtajglkbckhgboaaGreatDoorCards
import Derived.Test.YtajglkbckhgboaaGreatDoorTie
import Derived.Deep.DeepHandedRow
import Derived.Lib.LaidTab
import Derived.Shelf.Vars
import Derived.Lay
import Derived.LaidMore
import Derived.SevenTiedAt
import Derived.Stop.Joined
import Derived.Handed
set_option linter.all false
set_option maxRecDepth 100000
set_option maxHeartbeats 8000000

namespace Go.Proofs.YtajglkbckhgboaaGreatDoor
open Go.ChangeShapes Go.WideShapes Go.ChangeAt Go.RowKit Go.VC
set_option maxRecDepth 100000
theorem own : ownKnob Tryz.prog.godebug = none := by kernel_rfl
theorem uq : laidOutB Tryz.prog = true := by kernel_rfl
theorem xg : mapsRowed Tryz.prog = true := by kernel_rfl
theorem cS{a b : Bool}(h1 : a = true)(h2 : b = true): (a && b) = true := by rw [h1, h2]; rfl
theorem acL : Tryz.prog.globalNamed "math/bits.deBruijn64tab" = some 0 := by kernel_rfl
theorem SX : (Tryz.prog.globals[0]?).map (·.type) = some 383 := by kernel_rfl
theorem Ty : Tryz.prog.cellsOf 383 = 64 := by kernel_rfl
theorem uh{W : World}(h : W.ShapedOpen Tryz.prog): ∃ m : Int, W.cell? ⟨1, 0, none⟩ = some (.int .i64 m) :=
  cell_of_shapedOpen_int (P := Tryz.prog) (g := 1) (t := 3) (zero := #[.int .i64 0]) h (of_decide_eq_true (by kernel_rfl)) (by kernel_rfl) rfl (by kernel_rfl) (by kernel_rfl) Tryz.underlying3
theorem KT{W : World}(hS : W.ShapedOpen Tryz.prog): Gm W.heap := ⟨uh hS⟩
noncomputable def dB(os : Os): World := World.laidAll Tryz.prog os Rows.realizeNumbersUptoRow.laid
theorem gW(os : Os){H : Type}(enc : TypeId × Value → H): ∃ places, DataW.whole enc Tryz.prog ((dB os).forCall (fun _ _ => 0) ⟨#[], #[.agg #[.string ⟨#[]⟩, .slice none 0 0, .slice none 0 0, .int .i64 0, .int .i64 0, .int .i64 0, .slice none 0 0, .slice none 0 0]], []⟩).memory Tryz.f10.params.toList Rows.realizeNumbersSpec.vars false #[.agg #[.string ⟨#[]⟩, .slice none 0 0, .slice none 0 0, .int .i64 0, .int .i64 0, .int .i64 0, .slice none 0 0, .slice none 0 0]].toList 8 = some ([.agg [.lit (.string []), .nil, .nil, .lit (.int .i64 0), .lit (.int .i64 0), .lit (.int .i64 0), .nil, .nil]], [], places) :=
  ⟨[], by kernel_rfl⟩
theorem gF(os : Os)(started : os.Started)(H : Type)(enc : TypeId × Value → H)(F : Stop.Interp):
    ReturnsInHanded {} Tryz.checked os 10 .any ((Rows.OpenSpec.upto Rows.realizeNumbersSpec).preRow enc Tryz.prog Tryz.f10 Rows.realizeNumbersUptoRow.domain false Rows.realizeNumbersUptoRow.laid) (((Rows.OpenSpec.upto Rows.realizeNumbersSpec).at F).post enc Tryz.prog Tryz.f10 false true false false) := by
  obtain ⟨places, hx⟩ := gW os enc
  refine returnsInHanded_of_row (C := Tryz.checked) (s := Rows.OpenSpec.upto Rows.realizeNumbersSpec) own started (by kernel_rfl) Tryz.func10
    (witness_row_at (enc := enc) (C := Tryz.checked) false (dB os) #[.agg #[.string ⟨#[]⟩, .slice none 0 0, .slice none 0 0, .int .i64 0, .int .i64 0, .int .i64 0, .slice none 0 0, .slice none 0 0]] (World.laidAll_os _ _ _) (by kernel_rfl) (by kernel_rfl) (by kernel_rfl)
      (OpenSpec.preRow_of_cond 8 hx (by kernel_rfl) (fun k hk => by cases hk; kernel_rfl) (by kernel_rfl) (by rw [MakeChecks.laidMetH_plain _ _ _ (by kernel_rfl)]; exact laidMet_laidAll _ (by kernel_rfl) (by kernel_rfl)))) ?_
  intro W base args ds gs before J8 hW _ Kr _ hL hS _
  have hval : ∀ (j : Nat) t v, Tryz.f10.params[j]? = some t → args[j]? = some v → Value.okWide Tryz.prog W .any base t v := J8
  have hbulk : Rows.uptoBulkAll (ds ++ gs) ≤ 1048576 := of_decide_eq_true (Kr _ rfl)
  have jr : Gm W.heap := KT hS
  clear Kr hL hS hx
  have Sy := hW
  obtain ⟨p, q, hA0, hV, rfl, _, _⟩ := hW
  have hA : DataW.TrodAll enc Tryz.prog W 0 (fun _ => true) true Tryz.f10.params.toList args.toList ds p := hA0
  rw [Tryz.params10] at hA hval
  obtain ⟨v0, vs0, d0, ds0, p0, q0, Ku, rfl, rfl, h0, r0⟩ := trodAll_cons hA
  obtain ⟨rfl, rfl, rfl⟩ := trodAll_nil r0
  obtain rfl : args = #[v0] := by cases args; simp_all
  obtain ⟨rfl, rfl⟩ := trodVars_none hV
  have m0 : ji Tryz.prog W 27 v0.cells.toList := tE h0 (Nat.le_trans (iT (by simp)) hbulk)
  obtain ⟨⟨cs0⟩, rfl⟩ := wL (by kernel_rfl) (hval 0 27 v0 rfl rfl)
  obtain ⟨g0, e0, hg0, sS⟩ := tN m0
  obtain rfl : cs0 = _ := e0
  clear hA0 J8
  simp only [List.append_nil] at Sy
  refine (nB g0 W.heap hg0 jr sS).calls.mono ?_
  rintro e W' ⟨v, rfl, ⟨rfl, hE⟩, VJ, Eb, Ix⟩
  exact ⟨_, rfl, Dm uq (by rw [Tryz.params10]; exact of_decide_eq_true (by kernel_rfl)) rfl (by simp at Sy ⊢; exact Sy) rfl rfl rfl rfl Tryz.underlying4 hE VJ Eb Ix⟩
theorem jN : (Rows.realizeNumbersUptoRow.inPlace == Tryz.prog.inPlace 10) = true := by kernel_rfl
theorem jM : (Rows.realizeNumbersUptoRow.unfollowed == Tryz.prog.unfollowed 10) = true := by kernel_rfl
theorem jL : (Rows.realizeNumbersUptoRow.recurses == Tryz.prog.recurses 10) = true := by kernel_rfl
theorem jK : (Rows.realizeNumbersUptoRow.named == Tryz.prog.varsNamed 10) = true := by kernel_rfl
theorem jJ : (Rows.realizeNumbersUptoRow.plainKeys == Tryz.prog.plainKeys) = true := by kernel_rfl
theorem jI : Tryz.prog.stopsHeard = true := by kernel_rfl
theorem jH : Tryz.prog.mayEnter = true := by kernel_rfl
theorem jG : (Rows.realizeNumbersUptoRow.lifted == Tryz.prog.liftsFinal) = true := by kernel_rfl
theorem jF : (Tryz.prog.make == some Rows.realizeNumbersUptoRow.make) = true := by kernel_rfl
theorem gG : joinedFacts Tryz.prog 10 Tryz.f10 (Rows.OpenSpec.upto Rows.realizeNumbersSpec).bare Rows.realizeNumbersUptoRow = true := by
  unfold joinedFacts
  exact cS (cS (cS (cS (cS (cS (cS (cS (cS (cS (cS (cS (cS (cS (cS (cS (cS (cS (cS (cS (cS (cS (cS (cS (cS (cS (cS (cS (cS (cS (cS (by kernel_rfl) uq) xg) (by kernel_rfl)) (by kernel_rfl)) (by kernel_rfl)) (by kernel_rfl)) (by kernel_rfl)) (by kernel_rfl)) jN) jM) jL) jK) (by kernel_rfl)) (by kernel_rfl)) (by kernel_rfl)) (by kernel_rfl)) (by kernel_rfl)) (by kernel_rfl)) (by kernel_rfl)) (by kernel_rfl)) (by kernel_rfl)) jJ) (by kernel_rfl)) jI) jH) jG) jF) (by kernel_rfl)) (by kernel_rfl)) (by kernel_rfl)) (by kernel_rfl)
theorem dC : Tryz.prog.funcNamed "farandole/farandolelaw23.RealizeNumbers" = some 10 := by kernel_rfl
theorem jb : Tryz.f10.isInstance Tryz.prog Rows.realizeNumbersUptoRow.origin Rows.realizeNumbersUptoRow.targs := of_decide_eq_true (by kernel_rfl)
theorem iY : Tryz.f10.isWrapper Tryz.prog Rows.realizeNumbersUptoRow.wrapper Rows.realizeNumbersUptoRow.mainSum := by unfold Func.isWrapper; first | (rw [if_pos (by decide +kernel)]; kernel_rfl) | (rw [if_neg (by decide +kernel)]; exact ⟨rfl, rfl⟩)
theorem gY : Rows.RealizeNumbersUptoSaid :=
  OpenClaim.holds_of_cond 10 Tryz.f10 rfl rfl rfl rfl rfl rfl rfl ⟨rfl, rfl, rfl, rfl, rfl⟩ rfl rfl rfl rfl rfl dC Tryz.func10 gG jb iY
    (fun os started H enc _ F => by rw [OpenClaim.pre_eq_preRow]; exact gF os started H enc F)
theorem iZ : Rows.realizeNumbersUptoRow.wfByText (Rows.OpenSpec.upto Rows.realizeNumbersSpec) = true := by kernel_rfl
theorem ja : Tryz.prog.mainIs = some ((Rows.realizeNumbersUptoCard.stood.harness).1, (Rows.realizeNumbersUptoCard.stood.harness).2.toList) := by kernel_rfl
theorem gX : false = Tryz.prog.looks [] := by kernel_rfl
theorem gV : ([27].all fun u => !Tryz.prog.wantsStandIn u) = true := by kernel_rfl
theorem jc : false = Rows.realizeNumbersUptoRow.goesBy Tryz.prog := by kernel_rfl
theorem realizeNumbers_proved : Rows.RealizeNumbersUptoCardSaid :=
  Claim7.holds_tied_plain_at .later [] _ _ _ _ gY (fun _ h => by cases h) iZ (fun _ h => by cases h) realizeNumbersUpto_row_tie rfl ⟨rfl, rfl⟩ ja rfl
    (fun f fn hf Ct => by
      obtain rfl : f = 10 := Option.some.inj (dC.symm.trans hf) |>.symm
      obtain rfl : fn = Tryz.f10 := (Option.some.inj (Tryz.func10.symm.trans Ct)).symm
      exact ⟨gX, fun j t ht => by
        rw [Tryz.params10] at ht
        have hm : t ∈ [27] := by simpa using Array.mem_of_getElem? ht
        exact (show Tryz.prog.wantsStandIn t = false by simpa using List.all_eq_true.1 gV t hm)⟩)
    jc
end Go.Proofs.YtajglkbckhgboaaGreatDoor
