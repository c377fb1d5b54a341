/- The law PteOne is proved for every input, its table of sizes tied to the program's text: an entry is just one of three, and what is not bad at a higher level is not at a lower one, but a link at the lowest. No other condition. -/
import Derived.Test.YtjgnckhbafgalaaDoorRows
import Derived.Test.YtjgnckhbafgalaaDoorCards
import Derived.Test.YtjgnckhbafgalaaDoorTie
import Derived.Test.YtjgnckhbafgalaaDoorPteOne
import Derived.Test.YtjgnckhbafgalaaDoorOpen
import Derived.WalkKit
import Derived.ProofKit
import Derived.OpenShut
import Derived.ShutString
import Derived.ChangeOld
import Derived.Below
import Derived.SizedLaws
import Derived.LaidMore
import Derived.Lib.LaidTab
import Derived.SevenTiedAt
namespace Go.Proofs.YtjgnckhbafgalaaDoor.pteOne
open Go.ChangeShapes Go.WideShapes Go.ChangeAt Go.RowKit
open Go.ChangeMaps (open_string shut_string)
set_option linter.unusedVariables false
theorem own : ownKnob Tryd.prog.godebug = none := by kernel_rfl
/-- what the row lists -/
def laidS : List (String × DataW Unit) := [("atlas/va.sizes", Rows.laid_atlas_va_sizes)]
theorem of_laid {W : World} (h : laidMetH Tryd.prog laidS W) : Base.G W := by
  rw [MakeChecks.laidMetH_plain _ _ _ (by kernel_rfl)] at h
  have hT := Lib.tabIs_of_head (P := Tryd.prog) (name := "atlas/va.sizes") (k := .u64) (zs := [4096, 2097152, 1073741824]) (rest := []) (g := 0) (t := 71) (e := 22) (n := 3) (by kernel_rfl) (by kernel_rfl) Tryd.underlying71 Tryd.underlying22 (by kernel_rfl) (by kernel_rfl) h
  exact ⟨hT.cell (by kernel_rfl) 0 (by decide), hT.cell (by kernel_rfl) 1 (by decide), hT.cell (by kernel_rfl) 2 (by decide)⟩
theorem door_met (os : Os) (args : Array Value) : laidMetH Tryd.prog laidS ((World.doorLaid Tryd.prog 14 os).forCall (fun _ _ => 0) ⟨#[], args, []⟩).memory :=
  laidMetH_of_parts3 (fuel := 8) (laidMet_of_run' 8 (by kernel_rfl) (by kernel_rfl)) (by kernel_rfl) (by kernel_rfl)
set_option maxRecDepth 100000 in
theorem lifted (os : Os) (started : os.Started) (H : Type) (enc : TypeId × Value → H) :
    ReturnsInHanded {} Tryd.checked os 11 .any (fun w args => (Rows.pteOneSpec.pre enc Tryd.prog Tryd.f11 [] false w args ∧ laidMetH Tryd.prog laidS w) ∧ sizedMet enc Tryd.prog Tryd.f11 (OpenSpec.ofChange Rows.pteOneSpec) false w args)
      (Rows.pteOneSpec.post enc Tryd.prog Tryd.f11 false true false false) := by
  refine returnsInHanded_of_change_and (C := Tryd.checked) (X := fun w _ => laidMetH Tryd.prog laidS w) (fun _ _ _ hh h => h.of_heap hh) own started (by kernel_rfl) Tryd.func11
    (ChangeSpec.witness_shaped (enc := enc) (C := Tryd.checked) (os := os) (X := fun w _ => laidMetH Tryd.prog laidS w) false (World.doorLaid Tryd.prog 14 os) #[.agg #[.bool false, .bool false, .bool false, .bool false, .bool false, .bool false, .bool false, .bool false, .int .u64 0, .int .u64 0, .int .u64 0], .agg #[.bool false, .bool false, .bool false, .bool false, .bool false, .bool false, .bool false, .bool false, .int .u64 0, .int .u64 0, .int .u64 0]] 8 rfl (World.shaped_of_RefB (by kernel_rfl) (by kernel_rfl)) (by kernel_rfl) (by kernel_rfl) (by kernel_rfl) (door_met os _)) ?_
  intro W base args ds gs before hval0 hW _ _ hL _
  have hval : ∀ (j : Nat) t v, Tryd.f11.params[j]? = some t → args[j]? = some v → Value.okWide Tryd.prog W .any base t v := hval0
  have hW' := hW
  obtain ⟨p, q, hA0, hV, rfl, hfz, hnd⟩ := hW
  have hA : DataW.TrodAll enc Tryd.prog W 0 (fun _ => true) true Tryd.f11.params.toList args.toList ds p := hA0
  rw [Tryd.params11] at hA hval
  have hA9 := hA
  obtain ⟨v0, vs0, d0, ds0, p0, q0, hargs, rfl, rfl, h0, r0⟩ := trodAll_cons hA
  obtain ⟨v1, vs1, d1, ds1, p1, q1, rfl, rfl, rfl, h1, r1⟩ := trodAll_cons r0
  obtain ⟨rfl, rfl, rfl⟩ := trodAll_nil r1
  obtain rfl : args = #[v0, v1] := by cases args; simp_all
  obtain ⟨rfl, rfl⟩ := trodVars_none hV
  obtain ⟨x0_0, x0_1, x0_2, x0_3, x0_4, x0_5, x0_6, x0_7, x0_8, x0_9, x0_10, rfl, u0_0, u0_1, u0_2⟩ := Open.open_pte (hval 0 24 v0 rfl rfl) h0
  obtain ⟨x1_0, x1_1, x1_2, x1_3, x1_4, x1_5, x1_6, x1_7, x1_8, x1_9, x1_10, rfl, u1_0, u1_1, u1_2⟩ := Open.open_pte (hval 1 24 v1 rfl rfl) h1
  have hT := of_laid hL
  clear hA0 hval0
  skip
  refine (PteOne.one_walk x0_0 x0_1 x0_2 x0_3 x0_4 x0_5 x0_6 x0_7 x0_8 x0_9 x0_10 x1_0 x1_1 x1_2 x1_3 x1_4 x1_5 x1_6 x1_7 x1_8 x1_9 x1_10 W u0_0 u0_1 u0_2 u1_0 hT).mono fun e W' ⟨he, bel⟩ => ?_
  subst he
  exact ⟨_, rfl, _, _, _, [], _, [], hW', trodAll_mk1 (shut_bool Tryd.underlying4 _), Open.keepAll (by kernel_rfl) bel (by kernel_rfl) hA9, rfl, bel.frame _, fun h => by cases h⟩
theorem over : Rows.pteOneRow.holds Tryd.pinned (OpenSpec.ofChange Rows.pteOneSpec) :=
  OpenClaim.holds_of_wide 11 Tryd.f11 rfl rfl rfl rfl rfl rfl rfl ⟨rfl, rfl, rfl, rfl, rfl⟩ rfl rfl rfl rfl rfl (by kernel_rfl) Tryd.func11 (by kernel_rfl)
    (of_decide_eq_true (by kernel_rfl)) (by unfold Func.isWrapper; first | (rw [if_pos (by decide +kernel)]; kernel_rfl) | (rw [if_neg (by decide +kernel)]; exact ⟨rfl, rfl⟩))
    (fun os started H enc _ => lifted os started H enc)
theorem proved : Rows.PteOneCardSaid :=
  Claim7.holds_tied_plain_at .later [] [.data] true (true, "41801fd2d7afc48f211caab6618c503a818fdbfba14a1f643196fd1e1c878cb3") false
    over (fun _ h => by cases h) (by kernel_rfl) (fun _ h => by cases h) pteOne_row_tie rfl ⟨rfl, rfl⟩ (by kernel_rfl) rfl
    (fun f fn hf hfn => by
      obtain rfl : f = 11 := Option.some.inj ((show Tryd.prog.funcNamed "atlas/atlaslaw06.PteOne" = some 11 by kernel_rfl).symm.trans hf) |>.symm
      obtain rfl : fn = Tryd.f11 := (Option.some.inj (Tryd.func11.symm.trans hfn)).symm
      exact ⟨by kernel_rfl, fun j t ht => by
        rw [Tryd.params11] at ht
        have hm : t ∈ [24, 24] := by simpa using Array.mem_of_getElem? ht
        have hall : ([24, 24].all fun u => !Tryd.prog.wantsStandIn u) = true := by kernel_rfl
        exact (show Tryd.prog.wantsStandIn t = false by simpa using List.all_eq_true.1 hall t hm)⟩)
    (by kernel_rfl)
#print axioms proved
end Go.Proofs.YtjgnckhbafgalaaDoor.pteOne
namespace Go.Proofs.YtjgnckhbafgalaaDoor
theorem pteOne_holds : Rows.PteOneCardSaid := pteOne.proved
end Go.Proofs.YtjgnckhbafgalaaDoor
