/- The contracts of the layer va: each call comes to the plain number of VaSpec, where the table of sizes reads as the program's text lays it. -/
import Derived.Test.YtjgnckhbafgalaaDoorBitsC
namespace Go.Proofs.YtjgnckhbafgalaaDoor.VaC
open Go.RowKit Go.Proofs.YtjgnckhbafgalaaDoor.Bv Go.Proofs.YtjgnckhbafgalaaDoor.VaSpec Go.Proofs.YtjgnckhbafgalaaDoor.Base Go.Proofs.YtjgnckhbafgalaaDoor.BitsC
set_option linter.unusedVariables false
set_option linter.unusedSimpArgs false
theorem size_calls (l : Int) (w : World) (h0 : 0 ≤ l) (h2 : l ≤ 2) (hG : G w) : Calls Tryd.prog 66 #[.int .i64 l] w fun e w' => e = .returned (.int .u64 (sz l)) ∧ Q w w' := by
  obtain ⟨t0, t1, t2⟩ := hG.tabS
  rcases lev h0 h2 with rfl | rfl | rfl
  all_goals
    go_enter Tryd.func66, Tryd.ntmps66
    go_wp2
    go_ret
    exact ⟨rfl, Q.refl _⟩
theorem off_calls (a l : Int) (w : World) (a0 : 0 ≤ a) (a1 : a < 18446744073709551616) (h0 : 0 ≤ l) (h2 : l ≤ 2) (hG : G w) : Calls Tryd.prog 56 #[.int .u64 a, .int .i64 l] w fun e w' => e = .returned (.int .u64 (off a l)) ∧ Q w w' := by
  have m0 := Lib.hid (andMask a 12 (by decide) a0 a1)
  have m1 := Lib.hid (andMask a 21 (by decide) a0 a1)
  have m2 := Lib.hid (andMask a 30 (by decide) a0 a1)
  obtain ⟨t0, t1, t2⟩ := hG.tabS
  rcases lev h0 h2 with rfl | rfl | rfl
  all_goals
    go_enter Tryd.func56, Tryd.ntmps56
    go_wp2
    go_ret
    refine ⟨?_, Q.refl _⟩
  · exact congrArg (fun z => Ending.returned (.int .u64 z)) m0.out
  · exact congrArg (fun z => Ending.returned (.int .u64 z)) m1.out
  · exact congrArg (fun z => Ending.returned (.int .u64 z)) m2.out
theorem off_bd (a l : Int) (a0 : 0 ≤ a) : 0 ≤ off a l ∧ off a l < sz l ∧ off a l ≤ a := by
  have := sz_pos l
  unfold off
  refine ⟨Int.emod_nonneg _ (sz_ne l), Int.emod_lt_of_pos _ this, ?_⟩
  have h1 := Int.mul_ediv_add_emod a (sz l)
  have h2 : 0 ≤ sz l * (a / sz l) := Int.mul_nonneg (by omega) (Int.ediv_nonneg a0 (by omega))
  omega
theorem base_calls (a l : Int) (w : World) (a0 : 0 ≤ a) (a1 : a < 18446744073709551616) (h0 : 0 ≤ l) (h2 : l ≤ 2) (hG : G w) : Calls Tryd.prog 53 #[.int .u64 a, .int .i64 l] w fun e w' => e = .returned (.int .u64 (base a l)) ∧ Q w w' := by
  obtain ⟨b0, b1, b2⟩ := off_bd a l a0
  have hw := Lib.hid (show IntKind.u64.wrap (a - off a l) = a - off a l by rw [wrap_u64]; omega)
  clear b0 b1 b2
  go_enter Tryd.func53, Tryd.ntmps53
  go_wp2_with (go_at_call 56; refine (off_calls a l _ a0 a1 h0 h2 ?_).mono ?_; exact hG; rintro e w' ⟨rfl, ⟨nd, rfl⟩⟩)
  go_ret
  refine ⟨?_, by repeat (first | exact Q.refl _ | apply Q.step)⟩
  exact congrArg (fun z => Ending.returned (.int .u64 z)) (by first | exact hw.out | rfl)
theorem ext39_sign (a : Int) (h : U a) : signI a 39 = ext39 (a % 549755813888) := by
  unfold signI; rw [show (39 : Int).toNat = 39 from rfl, signB_39, B_X h]
theorem idx_bd (a l : Int) : 0 ≤ idx a l ∧ idx a l < 512 := by unfold idx; omega
theorem num_bd (a : Int) : 0 ≤ num a ∧ num a < 134217728 := by unfold num; omega
theorem ofv_bd (n : Int) : 0 ≤ ofv n ∧ ofv n < 18446744073709551616 := by unfold ofv ext39; split <;> omega
theorem sz_bd (l : Int) : 4096 ≤ sz l ∧ sz l ≤ 1073741824 := by unfold sz; split; decide; split <;> decide
theorem num_calls (a : Int) (w : World) (a0 : 0 ≤ a) (a1 : a < 18446744073709551616) : Calls Tryd.prog 52 #[.int .u64 a] w fun e w' => e = .returned (.int .u64 (num a)) ∧ Q w w' := by
  have H := Lib.hid (show getI a 12 27 = num a by rw [getI_val a 12 27 ⟨a0, a1⟩ (by omega)]; rfl)
  go_enter Tryd.func52, Tryd.ntmps52
  go_wp2_with (go_at_call 64; (with_reducible refine (get_calls _ _ _ _ ⟨a0, a1⟩ (by omega) (by omega) (by omega) (by omega)).mono ?_); rintro e w' ⟨rfl, ⟨nd, rfl⟩⟩)
  go_ret
  exact ⟨congrArg (fun z => Ending.returned (.int .u64 z)) H.out, ⟨_, rfl⟩⟩
theorem setI_zero (lo n v : Int) (h : U v) (h1 : 0 ≤ lo) (h0 : 0 ≤ n) (h2 : lo + n ≤ 64) : setI 0 lo n v = v % 2 ^ n.toNat * 2 ^ lo.toNat := by
  unfold setI; rw [show X 0 = 0#64 from rfl, setB_zero_val _ _ _ (by omega), B_X h]
theorem of_calls (n : Int) (w : World) (a0 : 0 ≤ n) (a1 : n < 18446744073709551616) : Calls Tryd.prog 55 #[.int .u64 n] w fun e w' => e = .returned (.int .u64 (ofv n)) ∧ Q w w' := by
  have hs := setI_zero 12 27 n ⟨a0, a1⟩ (by omega) (by omega) (by omega)
  have H := Lib.hid (show signI (setI 0 12 27 n) 39 = ofv n by
    rw [ext39_sign _ (setI_U _ _ _ _), hs]; unfold ofv; congr 1
    simp only [show (27 : Int).toNat = 27 from rfl, show (12 : Int).toNat = 12 from rfl]; omega)
  clear hs
  go_enter Tryd.func55, Tryd.ntmps55
  go_wp2_with (first
    | (go_at_call 61; (with_reducible refine (set_calls _ _ _ _ _ ⟨by omega, by omega⟩ ⟨a0, a1⟩ (by omega) (by omega) (by omega) (by omega)).mono ?_); rintro e w' ⟨rfl, ⟨nd, rfl⟩⟩)
    | (go_at_call 67; (with_reducible refine (sign_calls _ _ _ (setI_U _ _ _ _) (by omega) (by omega)).mono ?_); rintro e w' ⟨rfl, ⟨nd, rfl⟩⟩))
  go_ret
  exact ⟨congrArg (fun z => Ending.returned (.int .u64 z)) H.out, ⟨_, rfl⟩⟩
end Go.Proofs.YtjgnckhbafgalaaDoor.VaC
