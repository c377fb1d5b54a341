/- The walks of the laws of the layer pte. -/
import Derived.Test.YtjgnckhbafgalaaDoorPteC4
import Derived.Test.YtjgnckhbafgalaaDoorPteR
import Derived.Test.YtjgnckhbafgalaaDoorEqS
import Derived.Outline
namespace Go.Proofs.YtjgnckhbafgalaaDoor.PteW
open Go.RowKit Go.Proofs.YtjgnckhbafgalaaDoor.Bv Go.Proofs.YtjgnckhbafgalaaDoor.VaSpec Go.Proofs.YtjgnckhbafgalaaDoor.Base Go.Proofs.YtjgnckhbafgalaaDoor.BitsC Go.Proofs.YtjgnckhbafgalaaDoor.VaC Go.Proofs.YtjgnckhbafgalaaDoor.PteSpec Go.Proofs.YtjgnckhbafgalaaDoor.EntrySpec Go.Proofs.YtjgnckhbafgalaaDoor.EqS
set_option linter.unusedVariables false
set_option linter.unusedSimpArgs false
attribute [local go_sem high] eq_perm eq_pte eq_ent
set_option maxHeartbeats 4000000 in
set_option maxRecDepth 100000 in
theorem awake_calls (W : World) (hG : G W) : Calls Tryd.prog 32 #[] W fun e w' => e = .returned (.bool true) ∧ Below W.heap.size W w' := by
  have e1 : PteC.putE ⟨true, true, false, false, true, false, false, false, 0, 5, 0⟩ = 5139 := by decide +kernel
  have e2 : PteC.putErr ⟨true, true, false, false, true, false, false, false, 0, 5, 0⟩ = 0 := by decide +kernel
  have e3 : PteC.putErr ⟨false, false, false, false, false, false, false, false, 4, 0, 0⟩ = 1 := by decide +kernel
  have e4 : PteC.putE ⟨false, false, false, false, false, false, false, false, 4, 0, 0⟩ = 0 := by decide +kernel
  have e5 : pteOf 5139 = ⟨true, true, false, false, true, false, false, false, 0, 5, 0⟩ := by decide +kernel
  have E5 := Lib.hid e5; clear e5
  have e6 : leafP ⟨true, true, false, false, true, false, false, false, 0, 5, 0⟩ = true := by decide +kernel
  have e7 : linkP ⟨true, true, false, false, true, false, false, false, 0, 5, 0⟩ = false := by decide +kernel
  have e8 : badP ⟨true, true, false, false, true, false, false, false, 0, 5, 0⟩ 0 = false := by decide +kernel
  have e9 : badP ⟨true, true, false, false, true, false, false, false, 0, 5, 0⟩ 1 = true := by decide +kernel
  have e10 : linkP ⟨true, false, false, false, false, false, false, false, 0, 0, 0⟩ = true := by decide +kernel
  have e11 : badP ⟨true, false, false, false, false, false, false, false, 0, 0, 0⟩ 0 = true := by decide +kernel
  have e12 : badP ⟨true, false, false, false, false, false, false, false, 0, 0, 0⟩ 1 = false := by decide +kernel
  have e13 : mayP ⟨true, true, false, false, true, false, false, false, 0, 5, 0⟩ = true := by decide +kernel
  have e14 : eqPte ⟨true, true, false, false, true, false, false, false, 0, 5, 0⟩ ⟨true, true, false, false, true, false, false, false, 0, 5, 0⟩ = true := by decide +kernel
  have e15 : eqPerm ⟨true, false, false, true⟩ ⟨true, false, false, true⟩ = true := by decide +kernel
  go_enter Tryd.func32, Tryd.ntmps32
  go_wp2_with fail
  refine (PteC.make_calls _ _ _ _ _ _ _).mono ?_
  rintro e w1 ⟨rfl, h1⟩
  go_wp2_with fail
  refine (PteC.put_calls _ _ _ _ _ _ _ _ _ _ _ _ ⟨by omega, by omega⟩ ⟨by omega, by omega⟩ ⟨by omega, by omega⟩).mono ?_
  rintro e w2 ⟨rfl, h2⟩
  rw [e1, e2]
  go_wp2_with fail
  refine (PteC.put_calls _ _ _ _ _ _ _ _ _ _ _ _ ⟨by omega, by omega⟩ ⟨by omega, by omega⟩ ⟨by omega, by omega⟩).mono ?_
  rintro e w3 ⟨rfl, h3⟩
  rw [e3, e4]
  go_wp2_with fail
  obtain ⟨c2, _⟩ := bcell h2
  obtain ⟨c3, _⟩ := bcell h3
  have z2 : w1.heap.size + 1 ≤ w2.heap.size := by have := h2.size; simpa using this
  have z3 := h3.size
  have hcell : ∀ i, w3.cell? ⟨w1.heap.size, i, none⟩ = (w1.alloc (Obj.cells #[.bool true, .bool true, .bool false, .bool false, .bool true, .bool false, .bool false, .bool false, .int .u64 0, .int .u64 5, .int .u64 0] 24)).cell? ⟨w1.heap.size, i, none⟩ := fun i => by
    rw [c3 _ _ (by omega), c2 _ _ (by simp)]
  have hlt : w1.heap.size < w3.heap.size := by omega
  have HB : Below W.heap.size W w3 := (by repeat (first | (with_reducible exact Below.refl _ _) | (with_reducible apply bel_drewN) | (with_reducible apply bel_alloc) | (with_reducible apply bel_trans; rotate_left; with_reducible assumption) | (with_reducible refine bel_setCell _ _ _ (by first | omega | (simp; done) | (simp; omega) | (simp at *; omega)) ?_)))
  have hG0 : G w3 := hG.to HB
  clear c2 c3 z2 z3 h1 h2 h3 hG
  refine region_below (by kernel_rfl) (by kernel_rfl) ?_
  repeat (with_reducible refine wpQuiet_step (fun K hK => ?_)
          go_simp
          first
            | (refine hK _ ?_; clear hK K)
            | (refine ⟨_, fun _ _ => rfl, hK _ ?_⟩; clear hK K)
            | (apply Exists.intro
               refine ⟨fun w' hw' => ?_, hK _ ?_⟩
               · first
                 | (go_at_call 34; (with_reducible refine (PteC.may_calls _ _ _ _ _ _ _ _ _ _ _ _ (by first | assumption | exact ⟨by omega, by omega⟩) (by first | assumption | exact ⟨by omega, by omega⟩) (by first | assumption | exact ⟨by omega, by omega⟩)).mono ?_); rintro e w2 ⟨rfl, hb⟩; exact ⟨rfl, hw'.trans (hb.mono hw'.size)⟩)
                 | (go_at_call 36; (with_reducible refine (PteC.pget_calls _ _ (by first | assumption | exact ⟨by omega, by omega⟩)).mono ?_); rintro e w2 ⟨rfl, hb⟩; exact ⟨rfl, hw'.trans (hb.mono hw'.size)⟩)
                 | (go_at_call 39; (with_reducible refine (PteC.leaf_calls _ _ _ _ _ _ _ _ _ _ _ _).mono ?_); rintro e w2 ⟨rfl, hb⟩; exact ⟨rfl, hw'.trans (hb.mono hw'.size)⟩)
                 | (go_at_call 41; (with_reducible refine (PteC.link_calls _ _ _ _ _ _ _ _ _ _ _ _).mono ?_); rintro e w2 ⟨rfl, hb⟩; exact ⟨rfl, hw'.trans (hb.mono hw'.size)⟩)
                 | (go_at_call 43; (with_reducible refine (PteC.bad_calls _ _ _ _ _ _ _ _ _ _ _ _ _ (by first | assumption | exact ⟨by omega, by omega⟩) (by first | assumption | exact ⟨by omega, by omega⟩) (by first | assumption | exact ⟨by omega, by omega⟩) (by omega) (by omega) (hG0.below hw' (Nat.le_refl _))).mono ?_); rintro e w2 ⟨rfl, hb⟩; exact ⟨rfl, hw'.trans (hb.mono hw'.size)⟩)
                 | (go_at_call 47; (with_reducible refine (PteC.perm_calls _ _ _ _ _ _ _ _ _ _ _ _).mono ?_); rintro e w2 ⟨rfl, hb⟩; exact ⟨rfl, hw'.trans (hb.mono hw'.size)⟩)
                 | (go_at_call 37; (with_reducible refine (PteR.rget_calls _ _ (by first | assumption | exact ⟨by omega, by omega⟩)).mono ?_); rintro e w2 ⟨rfl, hb⟩; exact ⟨rfl, hw'.trans (hb.mono hw'.size)⟩)
                 | (go_at_call 35; (with_reducible refine (PteR.rmay_calls _ _ _ _ _ _ _ _ _ _ _ _ (by first | assumption | exact ⟨by omega, by omega⟩) (by first | assumption | exact ⟨by omega, by omega⟩) (by first | assumption | exact ⟨by omega, by omega⟩)).mono ?_); rintro e w2 ⟨rfl, hb⟩; exact ⟨rfl, hw'.trans (hb.mono hw'.size)⟩)
                 | (go_at_call 40; (with_reducible refine (PteR.rleaf_calls _ _ _ _ _ _ _ _ _ _ _ _).mono ?_); rintro e w2 ⟨rfl, hb⟩; exact ⟨rfl, hw'.trans (hb.mono hw'.size)⟩)
                 | (go_at_call 42; (with_reducible refine (PteR.rlink_calls _ _ _ _ _ _ _ _ _ _ _ _).mono ?_); rintro e w2 ⟨rfl, hb⟩; exact ⟨rfl, hw'.trans (hb.mono hw'.size)⟩)
                 | (go_at_call 44; (with_reducible refine (PteR.rbad_calls _ _ _ _ _ _ _ _ _ _ _ _ _ (by first | assumption | exact ⟨by omega, by omega⟩) (by first | assumption | exact ⟨by omega, by omega⟩) (by first | assumption | exact ⟨by omega, by omega⟩) (by omega) (by omega)).mono ?_); rintro e w2 ⟨rfl, hb⟩; exact ⟨rfl, hw'.trans (hb.mono hw'.size)⟩)
                 | (go_at_call 46; (with_reducible refine (PteR.rmake_calls _ _ _ _ _ _ _).mono ?_); rintro e w2 ⟨rfl, hb⟩; exact ⟨rfl, hw'.trans (hb.mono hw'.size)⟩)
                 | (go_at_call 48; (with_reducible refine (PteR.rperm_calls _ _ _ _ _ _ _ _ _ _ _ _).mono ?_); rintro e w2 ⟨rfl, hb⟩; exact ⟨rfl, hw'.trans (hb.mono hw'.size)⟩)
                 | (go_at_call 45; (with_reducible refine (PteC.make_calls _ _ _ _ _ _ _).mono ?_); rintro e w2 ⟨rfl, hb⟩; exact ⟨rfl, hw'.trans (hb.mono hw'.size)⟩)
                 | (obtain ⟨hcc, _⟩ := bcell hw'; go_simp; done)
                 | (obtain ⟨hcc, _⟩ := bcell hw'; go_simp; rfl)
               clear hK K))
  refine wpQuiet_nil ?_
  intro w4 h4
  go_wp2
  go_ret
  exact ⟨rfl, bel_trans HB h4⟩
end Go.Proofs.YtjgnckhbafgalaaDoor.PteW
