/- The last step: each law of project as a row and as a card, where what it reads is of bulk at most 1048576: true, and the arguments read as before. Conditions: the row's own (the tables that it lists, as the program's text lays them, which the card ties). -/
import Derived.Test.YtajglkbckhgboaaGreatDoorGM11
import Derived.Test.YtajglkbckhgboaaGreatDoorCards
import Derived.Test.YtajglkbckhgboaaGreatDoorTie
import Derived.Deep.DeepHandedRow
import Derived.Lib.LaidTab
import Derived.Shelf.Vars
import Derived.Lay
import Derived.LaidMore
import Derived.SevenTiedAt
import Derived.Stop.Joined
import Derived.Handed
set_option linter.all false
set_option maxRecDepth 100000
set_option maxHeartbeats 8000000

namespace Go.Proofs.YtajglkbckhgboaaGreatDoor
open Go.ChangeShapes Go.WideShapes Go.ChangeAt Go.RowKit Go.VC
set_option maxRecDepth 100000
theorem own : ownKnob Tryz.prog.godebug = none := by kernel_rfl
theorem w6 : laidOutB Tryz.prog = true := by kernel_rfl
theorem zB : mapsRowed Tryz.prog = true := by kernel_rfl
theorem dB{a b : Bool}(h1 : a = true)(h2 : b = true): (a && b) = true := by rw [h1, h2]; rfl
theorem ahZ : Tryz.prog.globalNamed "math/bits.deBruijn64tab" = some 0 := by kernel_rfl
theorem XK : (Tryz.prog.globals[0]?).map (·.type) = some 383 := by kernel_rfl
theorem YR : Tryz.prog.cellsOf 383 = 64 := by kernel_rfl
theorem wY{W : World}(h : W.ShapedOpen Tryz.prog): ∃ m : Int, W.cell? ⟨1, 0, none⟩ = some (.int .i64 m) :=
  cell_of_shapedOpen_int (P := Tryz.prog) (g := 1) (t := 3) (zero := #[.int .i64 0]) h (of_decide_eq_true (by kernel_rfl)) (by kernel_rfl) rfl (by kernel_rfl) (by kernel_rfl) Tryz.underlying3
theorem OK{W : World}(hS : W.ShapedOpen Tryz.prog): Gm W.heap := ⟨wY hS⟩
noncomputable def fx(os : Os): World := World.laidAll Tryz.prog os Rows.realizeRolesUptoRow.laid
theorem kA(os : Os){H : Type}(enc : TypeId × Value → H): ∃ places, DataW.whole enc Tryz.prog ((fx os).forCall (fun _ _ => 0) ⟨#[], #[.agg #[.string ⟨#[]⟩, .slice none 0 0, .slice none 0 0, .int .i64 0, .int .i64 0, .int .i64 0, .slice none 0 0, .slice none 0 0], .int .i64 0], []⟩).memory Tryz.f7.params.toList Rows.realizeRolesSpec.vars false #[.agg #[.string ⟨#[]⟩, .slice none 0 0, .slice none 0 0, .int .i64 0, .int .i64 0, .int .i64 0, .slice none 0 0, .slice none 0 0], .int .i64 0].toList 8 = some ([.agg [.lit (.string []), .nil, .nil, .lit (.int .i64 0), .lit (.int .i64 0), .lit (.int .i64 0), .nil, .nil], .lit (.int .i64 0)], [], places) :=
  ⟨[], by kernel_rfl⟩
theorem jU(os : Os)(started : os.Started)(H : Type)(enc : TypeId × Value → H)(F : Stop.Interp):
    ReturnsInHanded {} Tryz.checked os 7 .any ((Rows.OpenSpec.upto Rows.realizeRolesSpec).preRow enc Tryz.prog Tryz.f7 Rows.realizeRolesUptoRow.domain false Rows.realizeRolesUptoRow.laid) (((Rows.OpenSpec.upto Rows.realizeRolesSpec).at F).post enc Tryz.prog Tryz.f7 false true false false) := by
  obtain ⟨places, hx⟩ := kA os enc
  refine returnsInHanded_of_row (C := Tryz.checked) (s := Rows.OpenSpec.upto Rows.realizeRolesSpec) own started (by kernel_rfl) Tryz.func7
    (witness_row_at (enc := enc) (C := Tryz.checked) false (fx os) #[.agg #[.string ⟨#[]⟩, .slice none 0 0, .slice none 0 0, .int .i64 0, .int .i64 0, .int .i64 0, .slice none 0 0, .slice none 0 0], .int .i64 0] (World.laidAll_os _ _ _) (by kernel_rfl) (by kernel_rfl) (by kernel_rfl)
      (OpenSpec.preRow_of_cond 8 hx (by kernel_rfl) (fun k hk => by cases hk; kernel_rfl) (by kernel_rfl) (by rw [MakeChecks.laidMetH_plain _ _ _ (by kernel_rfl)]; exact laidMet_laidAll _ (by kernel_rfl) (by kernel_rfl)))) ?_
  intro W base args ds gs before Nz hW _ NQ _ hL hS _
  have hval : ∀ (j : Nat) t v, Tryz.f7.params[j]? = some t → args[j]? = some v → Value.okWide Tryz.prog W .any base t v := Nz
  have hbulk : Rows.uptoBulkAll (ds ++ gs) ≤ 1048576 := of_decide_eq_true (NQ _ rfl)
  have jG : Gm W.heap := OK hS
  clear NQ hL hS hx
  have Xf := hW
  obtain ⟨p, q, hA0, hV, rfl, _, _⟩ := hW
  have hA : DataW.TrodAll enc Tryz.prog W 0 (fun _ => true) true Tryz.f7.params.toList args.toList ds p := hA0
  rw [Tryz.params7] at hA hval
  obtain ⟨v0, vs0, d0, ds0, p0, q0, NW, rfl, rfl, h0, r0⟩ := trodAll_cons hA
  obtain ⟨v1, vs1, d1, ds1, p1, q1, rfl, rfl, rfl, h1, r1⟩ := trodAll_cons r0
  obtain ⟨rfl, rfl, rfl⟩ := trodAll_nil r1
  obtain rfl : args = #[v0, v1] := by cases args; simp_all
  obtain ⟨rfl, rfl⟩ := trodVars_none hV
  have m0 : jT Tryz.prog W 27 v0.cells.toList := nY h0 (Nat.le_trans (gR (by simp)) hbulk)
  obtain ⟨⟨cs0⟩, rfl⟩ := y5 (by kernel_rfl) (hval 0 27 v0 rfl rfl)
  obtain ⟨g0, e0, hg0, vJ⟩ := wK m0
  obtain rfl : cs0 = _ := e0
  have m1 : jT Tryz.prog W 3 v1.cells.toList := nY h1 (Nat.le_trans (gR (by simp)) hbulk)
  obtain ⟨k1, rfl⟩ := okWide_int Tryz.underlying3 (hval 1 3 v1 rfl rfl)
  clear hA0 Nz
  simp only [List.append_nil] at Xf
  refine (uj g0 k1 W.heap hg0 jG vJ).calls.mono ?_
  rintro e W' ⟨v, rfl, ⟨rfl, hE⟩, hos, Hd, xl⟩
  exact ⟨_, rfl, Gg w6 (by rw [Tryz.params7]; exact of_decide_eq_true (by kernel_rfl)) rfl (by simp at Xf ⊢; exact Xf) rfl rfl rfl rfl Tryz.underlying4 hE hos Hd xl⟩
theorem mY : (Rows.realizeRolesUptoRow.inPlace == Tryz.prog.inPlace 7) = true := by kernel_rfl
theorem mX : (Rows.realizeRolesUptoRow.unfollowed == Tryz.prog.unfollowed 7) = true := by kernel_rfl
theorem mW : (Rows.realizeRolesUptoRow.recurses == Tryz.prog.recurses 7) = true := by kernel_rfl
theorem mV : (Rows.realizeRolesUptoRow.named == Tryz.prog.varsNamed 7) = true := by kernel_rfl
theorem mU : (Rows.realizeRolesUptoRow.plainKeys == Tryz.prog.plainKeys) = true := by kernel_rfl
theorem mT : Tryz.prog.stopsHeard = true := by kernel_rfl
theorem mS : Tryz.prog.mayEnter = true := by kernel_rfl
theorem mR : (Rows.realizeRolesUptoRow.lifted == Tryz.prog.liftsFinal) = true := by kernel_rfl
theorem mQ : (Tryz.prog.make == some Rows.realizeRolesUptoRow.make) = true := by kernel_rfl
theorem jV : joinedFacts Tryz.prog 7 Tryz.f7 (Rows.OpenSpec.upto Rows.realizeRolesSpec).bare Rows.realizeRolesUptoRow = true := by
  unfold joinedFacts
  exact dB (dB (dB (dB (dB (dB (dB (dB (dB (dB (dB (dB (dB (dB (dB (dB (dB (dB (dB (dB (dB (dB (dB (dB (dB (dB (dB (dB (dB (dB (dB (by kernel_rfl) w6) zB) (by kernel_rfl)) (by kernel_rfl)) (by kernel_rfl)) (by kernel_rfl)) (by kernel_rfl)) (by kernel_rfl)) mY) mX) mW) mV) (by kernel_rfl)) (by kernel_rfl)) (by kernel_rfl)) (by kernel_rfl)) (by kernel_rfl)) (by kernel_rfl)) (by kernel_rfl)) (by kernel_rfl)) (by kernel_rfl)) mU) (by kernel_rfl)) mT) mS) mR) mQ) (by kernel_rfl)) (by kernel_rfl)) (by kernel_rfl)) (by kernel_rfl)
theorem fy : Tryz.prog.funcNamed "farandole/farandolelaw23.RealizeRoles" = some 7 := by kernel_rfl
theorem lB : Tryz.f7.isInstance Tryz.prog Rows.realizeRolesUptoRow.origin Rows.realizeRolesUptoRow.targs := of_decide_eq_true (by kernel_rfl)
theorem ly : Tryz.f7.isWrapper Tryz.prog Rows.realizeRolesUptoRow.wrapper Rows.realizeRolesUptoRow.mainSum := by unfold Func.isWrapper; first | (rw [if_pos (by decide +kernel)]; kernel_rfl) | (rw [if_neg (by decide +kernel)]; exact ⟨rfl, rfl⟩)
theorem kC : Rows.RealizeRolesUptoSaid :=
  OpenClaim.holds_of_cond 7 Tryz.f7 rfl rfl rfl rfl rfl rfl rfl ⟨rfl, rfl, rfl, rfl, rfl⟩ rfl rfl rfl rfl rfl fy Tryz.func7 jV lB ly
    (fun os started H enc _ F => by rw [OpenClaim.pre_eq_preRow]; exact jU os started H enc F)
theorem lz : Rows.realizeRolesUptoRow.wfByText (Rows.OpenSpec.upto Rows.realizeRolesSpec) = true := by kernel_rfl
theorem lA : Tryz.prog.mainIs = some ((Rows.realizeRolesUptoCard.stood.harness).1, (Rows.realizeRolesUptoCard.stood.harness).2.toList) := by kernel_rfl
theorem kB : false = Tryz.prog.looks [] := by kernel_rfl
theorem kz : ([27, 3].all fun u => !Tryz.prog.wantsStandIn u) = true := by kernel_rfl
theorem lC : false = Rows.realizeRolesUptoRow.goesBy Tryz.prog := by kernel_rfl
theorem realizeRoles_proved : Rows.RealizeRolesUptoCardSaid :=
  Claim7.holds_tied_plain_at .later [] _ _ _ _ kC (fun _ h => by cases h) lz (fun _ h => by cases h) realizeRolesUpto_row_tie rfl ⟨rfl, rfl⟩ lA rfl
    (fun f fn hf BZ => by
      obtain rfl : f = 7 := Option.some.inj (fy.symm.trans hf) |>.symm
      obtain rfl : fn = Tryz.f7 := (Option.some.inj (Tryz.func7.symm.trans BZ)).symm
      exact ⟨kB, fun j t ht => by
        rw [Tryz.params7] at ht
        have hm : t ∈ [27, 3] := by simpa using Array.mem_of_getElem? ht
        exact (show Tryz.prog.wantsStandIn t = false by simpa using List.all_eq_true.1 kz t hm)⟩)
    lC
end Go.Proofs.YtajglkbckhgboaaGreatDoor
