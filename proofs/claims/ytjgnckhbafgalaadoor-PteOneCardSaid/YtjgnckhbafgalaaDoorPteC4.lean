/- The contracts of the layer pte, the fourth part: Get. -/
import Derived.Test.YtjgnckhbafgalaaDoorPteC3
import Derived.StillTailTactics
namespace Go.Proofs.YtjgnckhbafgalaaDoor.PteC
open Go.RowKit Go.Proofs.YtjgnckhbafgalaaDoor.Bv Go.Proofs.YtjgnckhbafgalaaDoor.VaSpec Go.Proofs.YtjgnckhbafgalaaDoor.Base Go.Proofs.YtjgnckhbafgalaaDoor.BitsC Go.Proofs.YtjgnckhbafgalaaDoor.VaC Go.Proofs.YtjgnckhbafgalaaDoor.PteSpec
set_option linter.unusedVariables false
set_option linter.unusedSimpArgs false
set_option maxHeartbeats 1000000 in
theorem pget_calls (x : Int) (W : World) (hx : U x) :
    Calls Tryd.prog 36 #[.int .u64 x] W fun e w' => e = .returned (.agg #[.bool (pteOf x).v, .bool (pteOf x).r, .bool (pteOf x).w, .bool (pteOf x).x, .bool (pteOf x).u, .bool (pteOf x).g, .bool (pteOf x).a, .bool (pteOf x).d, .int .u64 (pteOf x).rsw, .int .u64 (pteOf x).ppn, .int .u64 (pteOf x).high]) ∧ Below W.heap.size W w' := by
  have Ha := Lib.hid (show getI x 8 2 = (pteOf x).rsw by rw [getI_val x 8 2 hx (by omega)]; rfl)
  have Hb := Lib.hid (show getI x 10 44 = (pteOf x).ppn by rw [getI_val x 10 44 hx (by omega)]; rfl)
  have Hc := Lib.hid (show getI x 54 10 = (pteOf x).high by
    rw [getI_val x 54 10 hx (by omega)]; show x / 2 ^ 54 % 2 ^ 10 = x / 18014398509481984; obtain ⟨p, q⟩ := hx; omega)
  go_enter Tryd.func36, Tryd.ntmps36
  go_wp2_with fail
  refine still_tail 23 (by kernel_rfl) (by kernel_rfl) ?_
  intro W2 hW2
  simp only [List.take_succ_cons, List.take_zero, List.drop_succ_cons, List.drop_zero]
  have hcell : W2.cell? ⟨W.heap.size, 0, none⟩ = some (.int .u64 x) := by rw [hW2]; simp
  have hHW := Lib.hid hW2; clear hW2
  repeat (first
    | still_step
    | still_call (get1_same _ _ _ _ hx (by omega) (by omega) hcell)
    | still_call (get_same _ _ _ _ hx (by omega) (by omega) (by omega) (by omega)))
  refine wpStill_nil ?_
  rw [Ha.out, Hb.out, Hc.out, show bitI x 0 = (pteOf x).v from rfl, show bitI x 1 = (pteOf x).r from rfl, show bitI x 2 = (pteOf x).w from rfl, show bitI x 3 = (pteOf x).x from rfl, show bitI x 4 = (pteOf x).u from rfl, show bitI x 5 = (pteOf x).g from rfl, show bitI x 6 = (pteOf x).a from rfl, show bitI x 7 = (pteOf x).d from rfl]
  have hW2 := hHW.out
  clear hcell
  subst hW2
  go_wp2
  refine bodyPost_ret (v := .agg #[.bool (pteOf x).v, .bool (pteOf x).r, .bool (pteOf x).w, .bool (pteOf x).x, .bool (pteOf x).u, .bool (pteOf x).g, .bool (pteOf x).a, .bool (pteOf x).d, .int .u64 (pteOf x).rsw, .int .u64 (pteOf x).ppn, .int .u64 (pteOf x).high]) ?_ rfl ?_
  · simp [results, Tryd.results36, go_sem]
  · exact ⟨rfl, (by repeat (first | (with_reducible exact Below.refl _ _) | (with_reducible apply bel_drewN) | (with_reducible apply bel_alloc) | (with_reducible apply bel_trans; rotate_left; with_reducible assumption) | (with_reducible refine bel_setCell _ _ _ (by first | omega | (simp; done) | (simp; omega) | (simp at *; omega)) ?_)))⟩
end Go.Proofs.YtjgnckhbafgalaaDoor.PteC
