/- The contracts of the layer va's reference: each call comes to the plain number of VaSpec. -/
import Derived.Test.YtjgnckhbafgalaaDoorVaC
namespace Go.Proofs.YtjgnckhbafgalaaDoor.VaR
open Go.RowKit Go.Proofs.YtjgnckhbafgalaaDoor.Bv Go.Proofs.YtjgnckhbafgalaaDoor.VaSpec Go.Proofs.YtjgnckhbafgalaaDoor.Base Go.Proofs.YtjgnckhbafgalaaDoor.BitsC Go.Proofs.YtjgnckhbafgalaaDoor.VaC
set_option linter.unusedVariables false
set_option linter.unusedSimpArgs false
theorem ris_calls (a : Int) (w : World) : Calls Tryd.prog 17 #[.int .u64 a] w fun e w' => e = .returned (.bool (isv a)) ∧ Q w w' := by
  have H := Lib.hid (show (decide (a < 274877906944) || decide (18446743798831644672 ≤ a)) = isv a from rfl)
  by_cases h : a < 274877906944
  · have H2 := Lib.hid (show isv a = true by unfold isv; simp [h])
    go_enter Tryd.func17, Tryd.ntmps17
    go_wp2
    go_ret
    exact ⟨congrArg (fun z => Ending.returned (.bool z)) H2.out.symm, Q.refl _⟩
  · have hd : decide (a < 274877906944) = false := by simpa using h
    by_cases h2 : 18446743798831644672 ≤ a
    · have H2 := Lib.hid (show isv a = true by unfold isv; simp [h2])
      go_enter Tryd.func17, Tryd.ntmps17
      go_wp2
      go_ret
      exact ⟨congrArg (fun z => Ending.returned (.bool z)) H2.out.symm, Q.refl _⟩
    · have H2 := Lib.hid (show isv a = false by unfold isv; simp [h2]; omega)
      go_enter Tryd.func17, Tryd.ntmps17
      go_wp2
      go_ret
      exact ⟨congrArg (fun z => Ending.returned (.bool z)) H2.out.symm, Q.refl _⟩
set_option maxHeartbeats 400000 in
theorem rsize_calls (l : Int) (w : World) (h0 : 0 ≤ l) (h2 : l ≤ 2) : Calls Tryd.prog 58 #[.int .i64 l] w fun e w' => e = .returned (.int .u64 (sz l)) ∧ Q w w' := by
  obtain ⟨n, rfl⟩ := Int.eq_ofNat_of_zero_le h0
  go_enter Tryd.func58, Tryd.ntmps58
  go_wp2
  go_loop [3, 4] (fun x k => ∃ j : Nat, j ≤ n ∧ k = .int .i64 j ∧ x = .int .u64 (sz j)) (fun _ k => n - (intOf k).toNat)
  case atStart => exact ⟨0, by omega, rfl, rfl⟩
  case round =>
    obtain ⟨j, hj, rfl, rfl⟩ := hrel
    by_cases hlt : j < n
    · have hp := sz_pos j
      have hq := sz_le j
      go_wp2
      refine ⟨⟨j + 1, by omega, by go_num, ?_⟩, ?_⟩
      · have : j = 0 ∨ j = 1 := by omega
        rcases this with rfl | rfl <;> rfl
      · simp [intOf]; omega
    · obtain rfl : j = n := by omega
      go_wp2
      go_ret
      exact ⟨rfl, Q.refl _⟩
theorem div_u64 (a l : Int) (a0 : 0 ≤ a) (a1 : a < 18446744073709551616) : IntKind.u64.wrap (Int.tdiv a (sz l)) = a / sz l := by
  have := sz_pos l
  rw [Int.tdiv_eq_ediv_of_nonneg a0, wrap_u64]
  have h1 : 0 ≤ a / sz l := Int.ediv_nonneg a0 (by omega)
  have h2 : a / sz l ≤ a := Int.ediv_le_self _ a0
  omega
theorem rnum_calls (a : Int) (w : World) (a0 : 0 ≤ a) (a1 : a < 18446744073709551616) : Calls Tryd.prog 54 #[.int .u64 a] w fun e w' => e = .returned (.int .u64 (num a)) ∧ Q w w' := by
  go_enter Tryd.func54, Tryd.ntmps54
  go_wp2
  go_ret
  exact ⟨rfl, Q.refl _⟩
theorem roff_calls (a l : Int) (w : World) (a0 : 0 ≤ a) (a1 : a < 18446744073709551616) (h0 : 0 ≤ l) (h2 : l ≤ 2) : Calls Tryd.prog 57 #[.int .u64 a, .int .i64 l] w fun e w' => e = .returned (.int .u64 (off a l)) ∧ Q w w' := by
  have hz : (sz l == 0) = false := by simpa using sz_ne l
  have hp := sz_pos l
  go_enter Tryd.func57, Tryd.ntmps57
  go_wp2_with (go_at_call 58; refine (rsize_calls l _ h0 h2).mono ?_; rintro e w' ⟨rfl, ⟨nd, rfl⟩⟩)
  go_ret
  exact ⟨rfl, by repeat (first | exact Q.refl _ | apply Q.step)⟩
theorem rbase_calls (a l : Int) (w : World) (a0 : 0 ≤ a) (a1 : a < 18446744073709551616) (h0 : 0 ≤ l) (h2 : l ≤ 2) : Calls Tryd.prog 28 #[.int .u64 a, .int .i64 l] w fun e w' => e = .returned (.int .u64 (base a l)) ∧ Q w w' := by
  have hz : (sz l == 0) = false := by simpa using sz_ne l
  have hp := sz_pos l
  go_enter Tryd.func28, Tryd.ntmps28
  go_wp2_with fail
  go_quiet ((go_at_call 58; exact Calls.quiet_of ((rsize_calls l _ h0 h2).mono fun _ _ ⟨he, d⟩ => ⟨he, d.out⟩)))
  go_wp2
  go_ret
  refine ⟨?_, ⟨nq, rfl⟩⟩
  obtain ⟨b0, b1, b2⟩ := off_bd a l a0
  have h1 := Int.mul_ediv_add_emod a (sz l)
  rw [Int.mul_comm] at h1
  exact congrArg (fun z => Ending.returned (.int .u64 z)) (by unfold off at *; unfold base; rw [wrap_u64]; omega)
end Go.Proofs.YtjgnckhbafgalaaDoor.VaR
