/- What is proved: whatever the configuration and the deeds, the law SpaceCounts answers true: as many frames and numbers are free as should be, no two living spaces share one, and when all are destroyed all is as it was at the beginning. Conditions: none of its own; the listed variables read as the program's text lays them, which the tied card derives. -/
import Derived.Test.YtkffmaeiplgjeaaGreatDoorRows
import Derived.Test.YtkffmaeiplgjeaaGreatDoorCards
import Derived.Test.YtkffmaeiplgjeaaGreatDoorTie
import Derived.Test.YtkffmaeiplgjeaaGreatDoorM14
import Derived.Test.YtkffmaeiplgjeaaGreatDoorM21
import Derived.WalkKit
import Derived.ProofKit
import Derived.OpenShut
import Derived.ShutString
import Derived.ChangeOld
import Derived.Below
import Derived.SizedLaws
import Derived.LaidMore
import Derived.Lib.LaidTab
import Derived.SevenTiedAt
import Derived.LaidHandle
namespace Go.Proofs.YtkffmaeiplgjeaaGreatDoor.spaceCounts
open Go.ChangeShapes Go.WideShapes Go.ChangeAt Go.RowKit Go.Proofs.YtkffmaeiplgjeaaGreatDoor.Ax Go.Proofs.YtkffmaeiplgjeaaGreatDoor.Laid
set_option linter.unusedVariables false
theorem own : ownKnob Tryz.prog.godebug = none := by kernel_rfl
theorem door_met (os : Os) (args : Array Value) : laidMetH Tryz.prog laidS ((World.doorLaid Tryz.prog 24 os).forCall (fun _ _ => 0) ⟨#[], args, []⟩).memory :=
  laidMetH_of_parts3 (fuel := 8) (laidMet_of_run' 8 (by kernel_rfl) (by kernel_rfl)) (by kernel_rfl) (by kernel_rfl)
set_option maxRecDepth 100000 in
theorem lifted (os : Os) (started : os.Started) (H : Type) (enc : TypeId × Value → H) :
    ReturnsInHanded {} Tryz.checked os 5 .any (fun w args => (Rows.spaceCountsSpec.pre enc Tryz.prog Tryz.f5 [] false w args ∧ laidMetH Tryz.prog laidS w) ∧ sizedMet enc Tryz.prog Tryz.f5 (OpenSpec.ofChange Rows.spaceCountsSpec) false w args)
      (Rows.spaceCountsSpec.post enc Tryz.prog Tryz.f5 false true false false) := by
  refine returnsInHanded_of_change_and (C := Tryz.checked) (X := fun w _ => laidMetH Tryz.prog laidS w) (fun _ _ _ hh h => h.of_heap hh) own started (by kernel_rfl) Tryz.func5
    (ChangeSpec.witness_shaped (enc := enc) (C := Tryz.checked) (os := os) (X := fun w _ => laidMetH Tryz.prog laidS w) false (World.doorLaid Tryz.prog 24 os) #[.agg #[.int .i64 0, .int .i64 0, .int .i64 0, .int .i64 0], .slice none 0 0] 8 rfl (World.shaped_of_RefB (by kernel_rfl) (by kernel_rfl)) (by kernel_rfl) (by kernel_rfl) (by kernel_rfl) (door_met os _)) ?_
  intro W base args ds gs before hval0 hW _ _ hL _
  have hval : ∀ (j : Nat) t v, Tryz.f5.params[j]? = some t → args[j]? = some v → Value.okWide Tryz.prog W .any base t v := hval0
  have hW' := hW
  obtain ⟨p, q, hA0, hV, rfl, hfz, hnd⟩ := hW
  have hA : DataW.TrodAll enc Tryz.prog W 0 (fun _ => true) true Tryz.f5.params.toList args.toList ds p := hA0
  rw [Tryz.params5] at hA hval
  have hA9 := hA
  obtain ⟨v0, vs0, d0, ds0, p0, q0, hargs, rfl, rfl, h0, r0⟩ := trodAll_cons hA
  obtain ⟨v1, vs1, d1, ds1, p1, q1, rfl, rfl, rfl, h1, r1⟩ := trodAll_cons r0
  obtain ⟨rfl, rfl, rfl⟩ := trodAll_nil r1
  obtain rfl : args = #[v0, v1] := by cases args; simp_all
  obtain ⟨rfl, rfl⟩ := trodVars_none hV
  obtain ⟨x0_0, x0_1, x0_2, x0_3, rfl⟩ := open_conf (hval 0 23 v0 rfl rfl) h0
  obtain ⟨l1, hl1, hr1⟩ := open_deeds (hval 1 50 v1 rfl rfl) h1
  have hT := gg_of_laid hL
  clear hA0 hval0
  refine ((RfM.counts_ok x0_0 x0_1 x0_2 x0_3 l1 hl1).2.2 (fun _ => True) W #[_, _] hT ⟨⟨#[_, _, _, _], rfl, rfl, rfl, rfl, rfl, trivial⟩, hr1, trivial⟩).mono fun e W' ⟨v, he, bel, hv⟩ => ?_
  obtain rfl : v = .bool true := hv
  subst he
  exact ⟨_, rfl, _, _, _, [], _, [], hW', trodAll_mk1 (shut_bool Tryz.underlying4 _), Open.keepAll (by kernel_rfl) bel (by kernel_rfl) hA9, rfl, bel.frame _, fun h => by cases h⟩
theorem over : Rows.spaceCountsRow.holds Tryz.pinned (OpenSpec.ofChange Rows.spaceCountsSpec) :=
  OpenClaim.holds_of_wide 5 Tryz.f5 rfl rfl rfl rfl rfl rfl rfl ⟨rfl, rfl, rfl, rfl, rfl⟩ rfl rfl rfl rfl rfl (by kernel_rfl) Tryz.func5 (by kernel_rfl)
    (of_decide_eq_true (by kernel_rfl)) (by unfold Func.isWrapper; first | (rw [if_pos (by decide +kernel)]; kernel_rfl) | (rw [if_neg (by decide +kernel)]; exact ⟨rfl, rfl⟩))
    (fun os started H enc _ => lifted os started H enc)
theorem proved : Rows.SpaceCountsCardSaid :=
  Claim7.holds_tied_plain_at .later [] [.data, .data, .funcs] true (true, "7f6cc36edf79ea2d41772b06b7254aaf99ea8a8e16b300f9be5f14e180d94ebf") false
    over (fun _ h => by cases h) (by kernel_rfl) (fun _ h => by cases h) spaceCounts_row_tie rfl ⟨rfl, rfl⟩ (by kernel_rfl) rfl
    (fun f fn hf hfn => by
      obtain rfl : f = 5 := Option.some.inj ((show Tryz.prog.funcNamed "atlas/atlaslaw21.SpaceCounts" = some 5 by kernel_rfl).symm.trans hf) |>.symm
      obtain rfl : fn = Tryz.f5 := (Option.some.inj (Tryz.func5.symm.trans hfn)).symm
      exact ⟨by kernel_rfl, fun j t ht => by
        rw [Tryz.params5] at ht
        have hm : t ∈ [23, 50] := by simpa using Array.mem_of_getElem? ht
        have hall : ([23, 50].all fun u => !Tryz.prog.wantsStandIn u) = true := by kernel_rfl
        exact (show Tryz.prog.wantsStandIn t = false by simpa using List.all_eq_true.1 hall t hm)⟩)
    (by kernel_rfl)
#print axioms proved
end Go.Proofs.YtkffmaeiplgjeaaGreatDoor.spaceCounts
namespace Go.Proofs.YtkffmaeiplgjeaaGreatDoor
theorem spaceCounts_holds : Rows.SpaceCountsCardSaid := spaceCounts.proved
end Go.Proofs.YtkffmaeiplgjeaaGreatDoor
