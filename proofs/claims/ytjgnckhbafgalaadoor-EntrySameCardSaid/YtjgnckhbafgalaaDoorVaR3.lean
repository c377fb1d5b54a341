/- The contract of the reference's address of a page number. -/
import Derived.Test.YtjgnckhbafgalaaDoorVaR
import Derived.Test.YtjgnckhbafgalaaDoorRefS
namespace Go.Proofs.YtjgnckhbafgalaaDoor.VaR
open Go.RowKit Go.Proofs.YtjgnckhbafgalaaDoor.Bv Go.Proofs.YtjgnckhbafgalaaDoor.VaSpec Go.Proofs.YtjgnckhbafgalaaDoor.Base Go.Proofs.YtjgnckhbafgalaaDoor.BitsC Go.Proofs.YtjgnckhbafgalaaDoor.VaC
set_option linter.unusedVariables false
set_option linter.unusedSimpArgs false
theorem rof_calls (n : Int) (w : World) (a0 : 0 ≤ n) (a1 : n < 18446744073709551616) : Calls Tryd.prog 30 #[.int .u64 n] w fun e w' => e = .returned (.int .u64 (ofv n)) ∧ Below w.heap.size w w' := by
  obtain ⟨x, hx⟩ := u64_B (a := n % 134217728 * 4096) (by omega) (by omega)
  have hs := signB_39 x
  have Hv := Lib.hid (show B (signB x 39) = ofv n by rw [hs, ← hx, Int.emod_eq_of_lt (by omega) (by omega)]; rfl)
  have Hx := Lib.hid hx
  clear hx hs
  go_enter Tryd.func30, Tryd.ntmps30
  go_wp2_with fail
  rw [Hx.out]
  refine (RefS.sign_any x 39 _ (by omega) (by omega)).mono ?_
  rintro e w' ⟨rfl, bel⟩
  rw [Hv.out]
  go_wp2
  go_ret
  exact ⟨rfl, bel⟩
end Go.Proofs.YtjgnckhbafgalaaDoor.VaR
