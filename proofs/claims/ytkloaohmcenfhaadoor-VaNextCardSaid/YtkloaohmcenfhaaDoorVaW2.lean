/- The walks of VaApart and VaNext. -/
import Derived.Test.YtkloaohmcenfhaaDoorVaW
import Derived.Lib.Hide
import Derived.Deep.RegionWith
namespace Go.Proofs.YtkloaohmcenfhaaDoor.VaW2
open Go.RowKit Go.Proofs.YtkloaohmcenfhaaDoor.PVaApart Go.Proofs.YtkloaohmcenfhaaDoorW.PrintWords Go.Proofs.YtkloaohmcenfhaaDoorW.PrintLast Go.Proofs.YtkloaohmcenfhaaDoorW.PrintMore Go.Proofs.YtkloaohmcenfhaaDoor.Bv Go.Proofs.YtkloaohmcenfhaaDoor.VaSpec Go.Proofs.YtkloaohmcenfhaaDoor.VaC Go.Proofs.YtkloaohmcenfhaaDoor.VaR Go.Proofs.YtkloaohmcenfhaaDoor.VaW
set_option linter.unusedVariables false
set_option linter.unusedSimpArgs false
theorem next_off (a l : Int) (a0 : 0 ≤ a) (a1 : a < 18446744073709551616) (l0 : 0 ≤ l) (l2 : l ≤ 2) : (off (IntKind.u64.wrap (base a l + sz l)) l != 0) = false := by
  rw [bne_eq_false_iff_eq, wrap_u64]; unfold off base
  rcases lev l0 l2 with rfl | rfl | rfl <;> simp only [show sz 0 = 4096 from rfl, show sz 1 = 2097152 from rfl, show sz 2 = 1073741824 from rfl] <;> omega
theorem next_num (a l : Int) (a0 : 0 ≤ a) (a1 : a < 18446744073709551616) (l0 : 0 ≤ l) (l2 : l ≤ 2) : (num (IntKind.u64.wrap (base a l + sz l)) != (num (base a l) + sz l / 4096) % 134217728) = false := by
  rw [bne_eq_false_iff_eq, wrap_u64]; unfold num base
  rcases lev l0 l2 with rfl | rfl | rfl <;> simp only [show sz 0 = 4096 from rfl, show sz 1 = 2097152 from rfl, show sz 2 = 1073741824 from rfl] <;> omega
theorem next_base (a l : Int) (a0 : 0 ≤ a) (a1 : a < 18446744073709551616) (l0 : 0 ≤ l) (l2 : l ≤ 2) : (base (IntKind.u64.wrap (IntKind.u64.wrap (base a l + sz l) - 1)) l != base a l) = false := by
  rw [bne_eq_false_iff_eq, wrap_u64, wrap_u64]; unfold base
  rcases lev l0 l2 with rfl | rfl | rfl <;> simp only [show sz 0 = 4096 from rfl, show sz 1 = 2097152 from rfl, show sz 2 = 1073741824 from rfl] <;> omega
theorem next_of (a l : Int) (a0 : 0 ≤ a) (a1 : a < 18446744073709551616) (l0 : 0 ≤ l) (l2 : l ≤ 2) (h : isv a = true) : (ofv (num (base a l)) == base a l) = true := by
  rw [isv_iff] at h; rw [beq_iff_eq]; unfold ofv num base ext39
  rcases lev l0 l2 with rfl | rfl | rfl <;> simp only [show sz 0 = 4096 from rfl, show sz 1 = 2097152 from rfl, show sz 2 = 1073741824 from rfl] <;> split <;> omega
theorem next_sz (l : Int) (l0 : 0 < l) (l2 : l ≤ 2) : (sz l != IntKind.u64.wrap (512 * sz (l - 1))) = false := by
  have : l = 1 ∨ l = 2 := by omega
  rcases this with rfl | rfl <;> decide
set_option maxHeartbeats 1000000 in
set_option maxRecDepth 100000 in
theorem next_walk (a : Int) (v : Nat) (w : World) (a0 : 0 ≤ a) (a1 : a < 18446744073709551616) (hv : v < 256) (hT : TabS w) :
    Calls Tryd.prog 6 #[.int .u64 a, .int .u8 v] w fun e w' => e = .returned (.bool true) ∧ Below w.heap.size w w' := by
  obtain ⟨l, l0, l2, el⟩ : ∃ l : Int, 0 ≤ l ∧ l ≤ 2 ∧ (v : Int) % 3 = l := ⟨_, by omega, by omega, rfl⟩
  have El := Lib.hid el; clear el
  cases hi : isv a
  · have HI := Lib.hid hi; clear hi
    go_enter Tryd.func6, Tryd.ntmps6
    go_wp2_with (first
      | (go_at_call 7; refine (awake_calls _ (by first | exact hT.drewN _ | exact hT)).mono ?_; rintro e w' ⟨rfl, ⟨nd, rfl⟩⟩)
      | (go_at_call 11; refine (ris_calls a _).mono ?_; rw [HI.out]; rintro e w' ⟨rfl, ⟨nd, rfl⟩⟩))
    go_ret
    exact ⟨rfl, Drawn0.below (by repeat (first | exact Drawn0.refl _ | apply Drawn0.step))⟩
  · have f1 := next_off a l a0 a1 l0 l2
    have f2 := next_num a l a0 a1 l0 l2
    have f3 := next_base a l a0 a1 l0 l2
    have f4 := next_of a l a0 a1 l0 l2 hi
    have hbb := base_bd a l a0 a1
    have hw1 := wrap_bd (base a l + sz l)
    have hw2 := wrap_bd (IntKind.u64.wrap (base a l + sz l) - 1)
    have in0 : 0 ≤ num (base a l) ∧ num (base a l) < 134217728 := by unfold num; omega
    have hp := sz_pos l
    have hq := sz_le l
    have HI := Lib.hid hi; clear hi
    by_cases hl0 : 0 < l
    · have f5 := next_sz l hl0 l2
      go_enter Tryd.func6, Tryd.ntmps6
      go_wp2_with (first
        | (go_at_call 7; refine (awake_calls _ (by first | exact hT.drewN _ | exact hT)).mono ?_; rintro e w' ⟨rfl, ⟨nd, rfl⟩⟩)
        | (go_at_call 11; refine (ris_calls a _).mono ?_; rw [HI.out]; rintro e w' ⟨rfl, ⟨nd, rfl⟩⟩))
      rw [El.out]
      refine (base_calls _ _ _ a0 a1 l0 l2 (by first | exact hT.drewN _ | exact hT)).mono ?_
      rintro e w' ⟨rfl, ⟨nd, rfl⟩⟩
      go_wp2_with (first
    | (go_at_call 12; (with_reducible refine (idx_calls _ _ _ (by omega) (by omega) (by omega) (by omega)).mono ?_); rintro e w' ⟨rfl, ⟨nd, rfl⟩⟩)
    | (go_at_call 8; (with_reducible refine (size_calls _ _ (by omega) (by omega) (by first | exact hT.drewN _ | exact hT)).mono ?_); rintro e w' ⟨rfl, ⟨nd, rfl⟩⟩)
    | (go_at_call 10; (with_reducible refine (is_calls _ _ (by omega) (by omega)).mono ?_); rintro e w' ⟨rfl, ⟨nd, rfl⟩⟩)
    | (go_at_call 14; (with_reducible refine (num_calls _ _ (by omega) (by omega)).mono ?_); rintro e w' ⟨rfl, ⟨nd, rfl⟩⟩)
    | (go_at_call 16; (with_reducible refine (of_calls _ _ (by omega) (by omega)).mono ?_); rintro e w' ⟨rfl, ⟨nd, rfl⟩⟩)
    | (go_at_call 18; (with_reducible refine (base_calls _ _ _ (by omega) (by omega) (by omega) (by omega) (by first | exact hT.drewN _ | exact hT)).mono ?_); rintro e w' ⟨rfl, ⟨nd, rfl⟩⟩)
    | (go_at_call 20; (with_reducible refine (off_calls _ _ _ (by omega) (by omega) (by omega) (by omega) (by first | exact hT.drewN _ | exact hT)).mono ?_); rintro e w' ⟨rfl, ⟨nd, rfl⟩⟩)
    | (go_at_call 22; (with_reducible refine (fits_calls _ _ _ (by omega) (by omega) (by omega) (by omega) (by first | exact hT.drewN _ | exact hT)).mono ?_); rintro e w' ⟨rfl, ⟨nd, rfl⟩⟩)
        | fail)
      go_ret
      exact ⟨rfl, Drawn0.below (by repeat (first | exact Drawn0.refl _ | apply Drawn0.step))⟩
    · have hl0' : ¬ (l > 0) := hl0
      go_enter Tryd.func6, Tryd.ntmps6
      go_wp2_with (first
        | (go_at_call 7; refine (awake_calls _ (by first | exact hT.drewN _ | exact hT)).mono ?_; rintro e w' ⟨rfl, ⟨nd, rfl⟩⟩)
        | (go_at_call 11; refine (ris_calls a _).mono ?_; rw [HI.out]; rintro e w' ⟨rfl, ⟨nd, rfl⟩⟩))
      rw [El.out]
      refine (base_calls _ _ _ a0 a1 l0 l2 (by first | exact hT.drewN _ | exact hT)).mono ?_
      rintro e w' ⟨rfl, ⟨nd, rfl⟩⟩
      go_wp2_with (first
    | (go_at_call 12; (with_reducible refine (idx_calls _ _ _ (by omega) (by omega) (by omega) (by omega)).mono ?_); rintro e w' ⟨rfl, ⟨nd, rfl⟩⟩)
    | (go_at_call 8; (with_reducible refine (size_calls _ _ (by omega) (by omega) (by first | exact hT.drewN _ | exact hT)).mono ?_); rintro e w' ⟨rfl, ⟨nd, rfl⟩⟩)
    | (go_at_call 10; (with_reducible refine (is_calls _ _ (by omega) (by omega)).mono ?_); rintro e w' ⟨rfl, ⟨nd, rfl⟩⟩)
    | (go_at_call 14; (with_reducible refine (num_calls _ _ (by omega) (by omega)).mono ?_); rintro e w' ⟨rfl, ⟨nd, rfl⟩⟩)
    | (go_at_call 16; (with_reducible refine (of_calls _ _ (by omega) (by omega)).mono ?_); rintro e w' ⟨rfl, ⟨nd, rfl⟩⟩)
    | (go_at_call 18; (with_reducible refine (base_calls _ _ _ (by omega) (by omega) (by omega) (by omega) (by first | exact hT.drewN _ | exact hT)).mono ?_); rintro e w' ⟨rfl, ⟨nd, rfl⟩⟩)
    | (go_at_call 20; (with_reducible refine (off_calls _ _ _ (by omega) (by omega) (by omega) (by omega) (by first | exact hT.drewN _ | exact hT)).mono ?_); rintro e w' ⟨rfl, ⟨nd, rfl⟩⟩)
    | (go_at_call 22; (with_reducible refine (fits_calls _ _ _ (by omega) (by omega) (by omega) (by omega) (by first | exact hT.drewN _ | exact hT)).mono ?_); rintro e w' ⟨rfl, ⟨nd, rfl⟩⟩)
        | fail)
      go_ret
      exact ⟨rfl, Drawn0.below (by repeat (first | exact Drawn0.refl _ | apply Drawn0.step))⟩

/-- the indexes from l on, below k, are the same -/
def sm (a b l k : Int) : Bool := (!(decide (l ≤ 0) && decide (0 < k)) || (idx a 0 == idx b 0)) && (!(decide (l ≤ 1) && decide (1 < k)) || (idx a 1 == idx b 1)) && (!(decide (l ≤ 2) && decide (2 < k)) || (idx a 2 == idx b 2))
theorem sm_zero (a b l : Int) (l0 : 0 ≤ l) (l2 : l ≤ 2) : sm a b l l = true := by
  rcases lev l0 l2 with rfl | rfl | rfl <;> rfl
theorem sm_succ (a b l k : Int) (l0 : 0 ≤ l) (lk : l ≤ k) (k3 : k < 3) : sm a b l (k + 1) = (sm a b l k && (idx a k == idx b k)) := by
  rcases lev l0 (by omega) with rfl | rfl | rfl <;> rcases lev (l := k) (by omega) (by omega) with rfl | rfl | rfl <;> first | omega | (unfold sm; generalize (idx a 0 == idx b 0) = p; generalize (idx a 1 == idx b 1) = q; generalize (idx a 2 == idx b 2) = r; revert p q r; decide)
theorem apart_same (a b l : Int) (a0 : 0 ≤ a) (a1 : a < 18446744073709551616) (b0 : 0 ≤ b) (b1 : b < 18446744073709551616) (l0 : 0 ≤ l) (l2 : l ≤ 2) (ha : isv a = true) (hb : isv b = true) :
    sm a b l 3 = (base a l == base b l) := by
  have half : ∀ x : Int, 0 ≤ x → x < 18446744073709551616 → isv x = true → (x < 274877906944 ∧ x / 1073741824 % 512 < 256) ∨ (18446743798831644672 ≤ x ∧ 256 ≤ x / 1073741824 % 512) := by
    intro x x0 x1 hx; rw [isv_iff] at hx; omega
  have ha2 := half a a0 a1 ha
  have hb2 := half b b0 b1 hb
  rw [Bool.eq_iff_iff, beq_iff_eq]
  unfold sm idx base
  rcases lev l0 l2 with rfl | rfl | rfl <;> simp only [show sz 0 = 4096 from rfl, show sz 1 = 2097152 from rfl, show sz 2 = 1073741824 from rfl, Bool.and_eq_true, Bool.or_eq_true, Bool.not_eq_true', beq_iff_eq, Bool.and_eq_false_iff, decide_eq_false_iff_not] <;> omega
theorem apart_num (a b : Int) (a0 : 0 ≤ a) (a1 : a < 18446744073709551616) (b0 : 0 ≤ b) (b1 : b < 18446744073709551616) (ha : isv a = true) (hb : isv b = true) :
    (num a == num b) = (base a 0 == base b 0) := by
  rw [isv_iff] at ha hb
  rw [Bool.eq_iff_iff, beq_iff_eq, beq_iff_eq]
  unfold num base
  simp only [show sz 0 = 4096 from rfl]; omega
set_option maxHeartbeats 1000000 in
set_option maxRecDepth 100000 in
theorem apart_walk (a b : Int) (v : Nat) (w : World) (a0 : 0 ≤ a) (a1 : a < 18446744073709551616) (b0 : 0 ≤ b) (b1 : b < 18446744073709551616) (hv : v < 256) (hT : TabS w) :
    Calls Tryd.prog 5 #[.int .u64 a, .int .u64 b, .int .u8 v] w fun e w' => e = .returned (.bool true) ∧ Below w.heap.size w w' := by
  obtain ⟨l, l0, l2, el⟩ : ∃ l : Int, 0 ≤ l ∧ l ≤ 2 ∧ (v : Int) % 3 = l := ⟨_, by omega, by omega, rfl⟩
  have El := Lib.hid el; clear el
  cases hi : isv a
  · have HI := Lib.hid hi; clear hi
    go_enter Tryd.func5, Tryd.ntmps5
    go_wp2_with (first
      | (go_at_call 7; refine (awake_calls _ (by first | exact hT.drewN _ | exact hT)).mono ?_; rintro e w' ⟨rfl, ⟨nd, rfl⟩⟩)
      | (go_at_call 11; refine (ris_calls a _).mono ?_; rw [HI.out]; rintro e w' ⟨rfl, ⟨nd, rfl⟩⟩))
    go_ret
    exact ⟨rfl, Drawn0.below (by repeat (first | exact Drawn0.refl _ | apply Drawn0.step))⟩
  · cases hj : isv b
    · have HI := Lib.hid hi; clear hi
      have HJ := Lib.hid hj; clear hj
      go_enter Tryd.func5, Tryd.ntmps5
      go_wp2_with (first
        | (go_at_call 7; refine (awake_calls _ (by first | exact hT.drewN _ | exact hT)).mono ?_; rintro e w' ⟨rfl, ⟨nd, rfl⟩⟩)
        | (go_at_call_of 11 a; refine (ris_calls a _).mono ?_; rw [HI.out]; rintro e w' ⟨rfl, ⟨nd, rfl⟩⟩)
        | (go_at_call_of 11 b; refine (ris_calls b _).mono ?_; rw [HJ.out]; rintro e w' ⟨rfl, ⟨nd, rfl⟩⟩))
      go_ret
      exact ⟨rfl, Drawn0.below (by repeat (first | exact Drawn0.refl _ | apply Drawn0.step))⟩
    · have f1 := Lib.hid (apart_same a b l a0 a1 b0 b1 l0 l2 hi hj)
      have f2 := Lib.hid (apart_num a b a0 a1 b0 b1 hi hj)
      have HI := Lib.hid hi; clear hi
      have HJ := Lib.hid hj; clear hj
      go_enter Tryd.func5, Tryd.ntmps5
      go_wp2_with (first
        | (go_at_call 7; refine (awake_calls _ (by first | exact hT.drewN _ | exact hT)).mono ?_; rintro e w' ⟨rfl, ⟨nd, rfl⟩⟩)
        | (go_at_call_of 11 a; refine (ris_calls a _).mono ?_; rw [HI.out]; rintro e w' ⟨rfl, ⟨nd, rfl⟩⟩)
        | (go_at_call_of 11 b; refine (ris_calls b _).mono ?_; rw [HJ.out]; rintro e w' ⟨rfl, ⟨nd, rfl⟩⟩))
      rw [El.out]
      go_loopw [8, 9] (fun x i wr => ∃ k : Int, l ≤ k ∧ k ≤ 3 ∧ i = .int .i64 k ∧ x = .bool (sm a b l k) ∧ TabS wr ∧ Drawn0 w wr) (fun _ i _ => (3 - intOf i).toNat)
      case atStart => exact ⟨l, by omega, by omega, rfl, by rw [sm_zero a b l l0 l2], hT.drewN _, ⟨_, rfl⟩⟩
      case round =>
        obtain ⟨k, hk0, hk3, rfl, rfl, hT, hd⟩ := hrel
        by_cases hlt : k < 3
        · have hs := Lib.hid (sm_succ a b l k l0 hk0 hlt)
          cases hsm : sm a b l k
          all_goals
            have hsm' := Lib.hid hsm; clear hsm
            go_wp2_with (first
    | (go_at_call 12; (with_reducible refine (idx_calls _ _ _ (by omega) (by omega) (by omega) (by omega)).mono ?_); rintro e w' ⟨rfl, ⟨nd, rfl⟩⟩)
    | (go_at_call 8; (with_reducible refine (size_calls _ _ (by omega) (by omega) (by first | exact hT.drewN _ | exact hT)).mono ?_); rintro e w' ⟨rfl, ⟨nd, rfl⟩⟩)
    | (go_at_call 10; (with_reducible refine (is_calls _ _ (by omega) (by omega)).mono ?_); rintro e w' ⟨rfl, ⟨nd, rfl⟩⟩)
    | (go_at_call 14; (with_reducible refine (num_calls _ _ (by omega) (by omega)).mono ?_); rintro e w' ⟨rfl, ⟨nd, rfl⟩⟩)
    | (go_at_call 16; (with_reducible refine (of_calls _ _ (by omega) (by omega)).mono ?_); rintro e w' ⟨rfl, ⟨nd, rfl⟩⟩)
    | (go_at_call 18; (with_reducible refine (base_calls _ _ _ (by omega) (by omega) (by omega) (by omega) (by first | exact hT.drewN _ | exact hT)).mono ?_); rintro e w' ⟨rfl, ⟨nd, rfl⟩⟩)
    | (go_at_call 20; (with_reducible refine (off_calls _ _ _ (by omega) (by omega) (by omega) (by omega) (by first | exact hT.drewN _ | exact hT)).mono ?_); rintro e w' ⟨rfl, ⟨nd, rfl⟩⟩)
    | (go_at_call 22; (with_reducible refine (fits_calls _ _ _ (by omega) (by omega) (by omega) (by omega) (by first | exact hT.drewN _ | exact hT)).mono ?_); rintro e w' ⟨rfl, ⟨nd, rfl⟩⟩)
              | fail)
            refine ⟨⟨k + 1, by omega, by omega, by go_num, by rw [hs.out, hsm'.out]; simp, by first | exact hT.drewN _ | exact hT, by repeat (first | exact hd | apply Drawn0.step)⟩, ?_⟩
            simp [intOf]; omega
        · obtain rfl : k = 3 := by omega
          rw [f1.out]
          go_wp2_with (first
    | (go_at_call 12; (with_reducible refine (idx_calls _ _ _ (by omega) (by omega) (by omega) (by omega)).mono ?_); rintro e w' ⟨rfl, ⟨nd, rfl⟩⟩)
    | (go_at_call 8; (with_reducible refine (size_calls _ _ (by omega) (by omega) (by first | exact hT.drewN _ | exact hT)).mono ?_); rintro e w' ⟨rfl, ⟨nd, rfl⟩⟩)
    | (go_at_call 10; (with_reducible refine (is_calls _ _ (by omega) (by omega)).mono ?_); rintro e w' ⟨rfl, ⟨nd, rfl⟩⟩)
    | (go_at_call 14; (with_reducible refine (num_calls _ _ (by omega) (by omega)).mono ?_); rintro e w' ⟨rfl, ⟨nd, rfl⟩⟩)
    | (go_at_call 16; (with_reducible refine (of_calls _ _ (by omega) (by omega)).mono ?_); rintro e w' ⟨rfl, ⟨nd, rfl⟩⟩)
    | (go_at_call 18; (with_reducible refine (base_calls _ _ _ (by omega) (by omega) (by omega) (by omega) (by first | exact hT.drewN _ | exact hT)).mono ?_); rintro e w' ⟨rfl, ⟨nd, rfl⟩⟩)
    | (go_at_call 20; (with_reducible refine (off_calls _ _ _ (by omega) (by omega) (by omega) (by omega) (by first | exact hT.drewN _ | exact hT)).mono ?_); rintro e w' ⟨rfl, ⟨nd, rfl⟩⟩)
    | (go_at_call 22; (with_reducible refine (fits_calls _ _ _ (by omega) (by omega) (by omega) (by omega) (by first | exact hT.drewN _ | exact hT)).mono ?_); rintro e w' ⟨rfl, ⟨nd, rfl⟩⟩)
            | fail)
          go_ret
          exact ⟨congrArg (fun z => Ending.returned (.bool z)) (by rw [f2.out]; simp), Drawn0.below (by repeat (first | exact hd | apply Drawn0.step))⟩
end Go.Proofs.YtkloaohmcenfhaaDoor.VaW2
