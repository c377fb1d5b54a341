/- The contracts of the reference of the layer va: each call comes to the plain number of VaSpec. -/
import Derived.Test.YtkloaohmcenfhaaDoorVaC
import Derived.Test.YtkloaohmcenfhaaDoorRefS
import Derived.Lib.Hide
namespace Go.Proofs.YtkloaohmcenfhaaDoor.VaR
open Go.RowKit Go.Proofs.YtkloaohmcenfhaaDoor.PVaApart Go.Proofs.YtkloaohmcenfhaaDoorW.PrintWords Go.Proofs.YtkloaohmcenfhaaDoorW.PrintLast Go.Proofs.YtkloaohmcenfhaaDoorW.PrintMore Go.Proofs.YtkloaohmcenfhaaDoor.Bv Go.Proofs.YtkloaohmcenfhaaDoor.VaSpec Go.Proofs.YtkloaohmcenfhaaDoor.VaC
set_option linter.unusedVariables false
set_option linter.unusedSimpArgs false
set_option maxHeartbeats 400000 in
theorem rsize_calls (l : Int) (w : World) (h0 : 0 ≤ l) (h2 : l ≤ 2) : Calls Tryd.prog 9 #[.int .i64 l] w fun e w' => e = .returned (.int .u64 (sz l)) ∧ Drawn0 w w' := by
  obtain ⟨n, rfl⟩ := Int.eq_ofNat_of_zero_le h0
  go_enter Tryd.func9, Tryd.ntmps9
  go_wp2
  go_loop [3, 4] (fun x k => ∃ j : Nat, j ≤ n ∧ k = .int .i64 j ∧ x = .int .u64 (sz j)) (fun _ k => n - (intOf k).toNat)
  case atStart => exact ⟨0, by omega, rfl, rfl⟩
  case round =>
    obtain ⟨j, hj, rfl, rfl⟩ := hrel
    by_cases hlt : j < n
    · have hp := sz_pos j
      have hq := sz_le j
      go_wp2
      refine ⟨⟨j + 1, by omega, by go_num, ?_⟩, ?_⟩
      · have : j = 0 ∨ j = 1 := by omega
        rcases this with rfl | rfl <;> rfl
      · simp [intOf]; omega
    · obtain rfl : j = n := by omega
      go_wp2
      go_ret
      exact ⟨rfl, Drawn0.refl _⟩
theorem div_u64 (a l : Int) (a0 : 0 ≤ a) (a1 : a < 18446744073709551616) : IntKind.u64.wrap (Int.tdiv a (sz l)) = a / sz l := by
  have := sz_pos l
  rw [Int.tdiv_eq_ediv_of_nonneg a0, wrap_u64]
  have h1 : 0 ≤ a / sz l := Int.ediv_nonneg a0 (by omega)
  have h2 : a / sz l ≤ a := Int.ediv_le_self _ a0
  omega
theorem ridx_calls (a l : Int) (w : World) (a0 : 0 ≤ a) (a1 : a < 18446744073709551616) (h0 : 0 ≤ l) (h2 : l ≤ 2) : Calls Tryd.prog 13 #[.int .u64 a, .int .i64 l] w fun e w' => e = .returned (.int .i64 (idx a l)) ∧ Drawn0 w w' := by
  have hz : (sz l == 0) = false := by simpa using sz_ne l
  have hp := sz_pos l
  go_enter Tryd.func13, Tryd.ntmps13
  go_wp2_with (go_at_call 9; refine (rsize_calls l _ h0 h2).mono ?_; rintro e w' ⟨rfl, ⟨nd, rfl⟩⟩)
  go_ret
  refine ⟨?_, by repeat (first | exact Drawn0.refl _ | apply Drawn0.step)⟩
  have h1 : 0 ≤ a / sz l := Int.ediv_nonneg a0 (by omega)
  exact congrArg (fun z => Ending.returned (.int .i64 z)) (by rw [Int.tmod_eq_emod_of_nonneg h1]; unfold idx wrap64; omega)
theorem rnum_calls (a : Int) (w : World) (a0 : 0 ≤ a) (a1 : a < 18446744073709551616) : Calls Tryd.prog 15 #[.int .u64 a] w fun e w' => e = .returned (.int .u64 (num a)) ∧ Drawn0 w w' := by
  go_enter Tryd.func15, Tryd.ntmps15
  go_wp2
  go_ret
  exact ⟨rfl, Drawn0.refl _⟩
theorem roff_calls (a l : Int) (w : World) (a0 : 0 ≤ a) (a1 : a < 18446744073709551616) (h0 : 0 ≤ l) (h2 : l ≤ 2) : Calls Tryd.prog 21 #[.int .u64 a, .int .i64 l] w fun e w' => e = .returned (.int .u64 (off a l)) ∧ Drawn0 w w' := by
  have hz : (sz l == 0) = false := by simpa using sz_ne l
  have hp := sz_pos l
  go_enter Tryd.func21, Tryd.ntmps21
  go_wp2_with (go_at_call 9; refine (rsize_calls l _ h0 h2).mono ?_; rintro e w' ⟨rfl, ⟨nd, rfl⟩⟩)
  go_ret
  exact ⟨rfl, by repeat (first | exact Drawn0.refl _ | apply Drawn0.step)⟩
theorem rbase_calls (a l : Int) (w : World) (a0 : 0 ≤ a) (a1 : a < 18446744073709551616) (h0 : 0 ≤ l) (h2 : l ≤ 2) : Calls Tryd.prog 19 #[.int .u64 a, .int .i64 l] w fun e w' => e = .returned (.int .u64 (base a l)) ∧ Drawn0 w w' := by
  have hz : (sz l == 0) = false := by simpa using sz_ne l
  have hp := sz_pos l
  go_enter Tryd.func19, Tryd.ntmps19
  go_wp2_with fail
  go_quiet ((go_at_call 9; exact Calls.quiet_of ((rsize_calls l _ h0 h2).mono fun _ _ ⟨he, d⟩ => ⟨he, d.out⟩)))
  go_wp2
  go_ret
  refine ⟨?_, ⟨nq, rfl⟩⟩
  obtain ⟨b0, b1, b2⟩ := off_bd a l a0
  have h1 := Int.mul_ediv_add_emod a (sz l)
  rw [Int.mul_comm] at h1
  exact congrArg (fun z => Ending.returned (.int .u64 z)) (by unfold off at *; unfold base; rw [wrap_u64]; omega)
theorem rfits_calls (a l : Int) (w : World) (a0 : 0 ≤ a) (a1 : a < 18446744073709551616) (h0 : 0 ≤ l) (h2 : l ≤ 2) : Calls Tryd.prog 23 #[.int .u64 a, .int .i64 l] w fun e w' => e = .returned (.bool (fits a l)) ∧ Drawn0 w w' := by
  cases hi : isv a
  all_goals
    have hf : fits a l = (isv a && (off a l == 0)) := rfl
    rw [hi] at hf
    have Hf := Lib.hid hf; clear hf
    have Hi := Lib.hid hi; clear hi
    go_enter Tryd.func23, Tryd.ntmps23
    go_wp2_with (first | (go_at_call 11; refine (ris_calls a _).mono ?_; rw [Hi.out]; rintro e w' ⟨rfl, ⟨nd, rfl⟩⟩) | (go_at_call 21; refine (roff_calls a l _ a0 a1 h0 h2).mono ?_; rintro e w' ⟨rfl, ⟨nd, rfl⟩⟩))
    go_ret
    refine ⟨?_, by repeat (first | exact Drawn0.refl _ | apply Drawn0.step)⟩
    rw [Hf.out]; rfl
theorem rof_calls (n : Int) (w : World) (a0 : 0 ≤ n) (a1 : n < 18446744073709551616) : Calls Tryd.prog 17 #[.int .u64 n] w fun e w' => e = .returned (.int .u64 (ofv n)) ∧ Below w.heap.size w w' := by
  obtain ⟨x, hx⟩ := u64_B (a := n % 134217728 * 4096) (by omega) (by omega)
  have hs := ext39_sign x (by rw [← hx]; omega)
  have Hv := Lib.hid (show B (signB x 39) = ofv n by rw [hs, ← hx]; rfl)
  have Hx := Lib.hid hx
  clear hx hs
  go_enter Tryd.func17, Tryd.ntmps17
  go_wp2_with fail
  rw [Hx.out]
  refine (RefS.sign_any x 39 _ (by omega) (by omega)).mono ?_
  rintro e w' ⟨rfl, bel⟩
  rw [Hv.out]
  go_wp2
  go_ret
  exact ⟨rfl, bel⟩
end Go.Proofs.YtkloaohmcenfhaaDoor.VaR

