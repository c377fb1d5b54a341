/- The walks of the four laws of the layer va. -/
import Derived.Test.YtkloaohmcenfhaaDoorVaC
import Derived.Test.YtkloaohmcenfhaaDoorVaR
import Derived.Lib.Hide
import Derived.Deep.RegionWith
namespace Go.Proofs.YtkloaohmcenfhaaDoor.VaW
open Go.RowKit Go.Proofs.YtkloaohmcenfhaaDoor.PVaApart Go.Proofs.YtkloaohmcenfhaaDoorW.PrintWords Go.Proofs.YtkloaohmcenfhaaDoorW.PrintLast Go.Proofs.YtkloaohmcenfhaaDoorW.PrintMore Go.Proofs.YtkloaohmcenfhaaDoor.Bv Go.Proofs.YtkloaohmcenfhaaDoor.VaSpec Go.Proofs.YtkloaohmcenfhaaDoor.VaC Go.Proofs.YtkloaohmcenfhaaDoor.VaR
set_option linter.unusedVariables false
set_option linter.unusedSimpArgs false
set_option maxHeartbeats 1000000 in
set_option maxRecDepth 100000 in
theorem awake_calls (w : World) (hT : TabS w) : Calls Tryd.prog 7 #[] w fun e w' => e = .returned (.bool true) ∧ Drawn0 w w' := by
  have e1 : (idx 1075843072 2 == 1) = true := by decide
  have e2 : (idx 1075843072 1 == 1) = true := by decide
  have e3 : (idx 1075843072 0 == 1) = true := by decide
  have e4 : (sz 1 == 2097152) = true := by decide
  have e5 : isv 274877906943 = true := by decide
  have e6 : isv 274877906944 = false := by decide
  have e7 : isv 18446743798831644672 = true := by decide
  have e8 : (num 20771 == 5) = true := by decide
  have e9 : (ofv 5 == 20480) = true := by decide
  have e10 : (base 20771 0 == 20480) = true := by decide
  have e11 : (off 20771 0 == 291) = true := by decide
  have e12 : fits 2097152 1 = true := by decide
  have e13 : fits 2101248 1 = false := by decide
  go_enter Tryd.func7, Tryd.ntmps7
  go_wp2_with (first
    | (go_at_call 12; (with_reducible refine (idx_calls _ _ _ (by omega) (by omega) (by omega) (by omega)).mono ?_); rintro e w' ⟨rfl, ⟨nd, rfl⟩⟩)
    | (go_at_call 8; (with_reducible refine (size_calls _ _ (by omega) (by omega) (by first | exact hT.drewN _ | exact hT)).mono ?_); rintro e w' ⟨rfl, ⟨nd, rfl⟩⟩)
    | (go_at_call 10; (with_reducible refine (is_calls _ _ (by omega) (by omega)).mono ?_); rintro e w' ⟨rfl, ⟨nd, rfl⟩⟩)
    | (go_at_call 14; (with_reducible refine (num_calls _ _ (by omega) (by omega)).mono ?_); rintro e w' ⟨rfl, ⟨nd, rfl⟩⟩)
    | (go_at_call 16; (with_reducible refine (of_calls _ _ (by omega) (by omega)).mono ?_); rintro e w' ⟨rfl, ⟨nd, rfl⟩⟩)
    | (go_at_call 18; (with_reducible refine (base_calls _ _ _ (by omega) (by omega) (by omega) (by omega) (by first | exact hT.drewN _ | exact hT)).mono ?_); rintro e w' ⟨rfl, ⟨nd, rfl⟩⟩)
    | (go_at_call 20; (with_reducible refine (off_calls _ _ _ (by omega) (by omega) (by omega) (by omega) (by first | exact hT.drewN _ | exact hT)).mono ?_); rintro e w' ⟨rfl, ⟨nd, rfl⟩⟩)
    | (go_at_call 22; (with_reducible refine (fits_calls _ _ _ (by omega) (by omega) (by omega) (by omega) (by first | exact hT.drewN _ | exact hT)).mono ?_); rintro e w' ⟨rfl, ⟨nd, rfl⟩⟩)
    | fail)
  go_ret
  exact ⟨rfl, ⟨_, rfl⟩⟩
set_option maxHeartbeats 1000000 in
set_option maxRecDepth 100000 in
theorem asks_walk (a n : Int) (v : Nat) (w : World) (a0 : 0 ≤ a) (a1 : a < 18446744073709551616) (n0 : 0 ≤ n) (n1 : n < 18446744073709551616) (hv : v < 256) (hT : TabS w) :
    Calls Tryd.prog 3 #[.int .u64 a, .int .u64 n, .int .u8 v] w fun e w' => e = .returned (.bool true) ∧ Below w.heap.size w w' := by
  obtain ⟨l, l0, l2, el⟩ : ∃ l : Int, 0 ≤ l ∧ l ≤ 2 ∧ (v : Int) % 3 = l := ⟨_, by omega, by omega, rfl⟩
  have El := Lib.hid el; clear el
  go_enter Tryd.func3, Tryd.ntmps3
  go_wp2_with (first | (go_at_call 7; refine (awake_calls _ hT).mono ?_; rintro e w' ⟨rfl, ⟨nd, rfl⟩⟩))
  rw [El.out]
  refine (size_calls _ _ l0 l2 (hT.drewN _)).mono ?_
  rintro e w' ⟨rfl, ⟨nd, rfl⟩⟩
  go_wp2_with (first
    | (go_at_call 12; (with_reducible refine (idx_calls _ _ _ (by omega) (by omega) (by omega) (by omega)).mono ?_); rintro e w' ⟨rfl, ⟨nd, rfl⟩⟩)
    | (go_at_call 8; (with_reducible refine (size_calls _ _ (by omega) (by omega) (by first | exact hT.drewN _ | exact hT)).mono ?_); rintro e w' ⟨rfl, ⟨nd, rfl⟩⟩)
    | (go_at_call 10; (with_reducible refine (is_calls _ _ (by omega) (by omega)).mono ?_); rintro e w' ⟨rfl, ⟨nd, rfl⟩⟩)
    | (go_at_call 14; (with_reducible refine (num_calls _ _ (by omega) (by omega)).mono ?_); rintro e w' ⟨rfl, ⟨nd, rfl⟩⟩)
    | (go_at_call 16; (with_reducible refine (of_calls _ _ (by omega) (by omega)).mono ?_); rintro e w' ⟨rfl, ⟨nd, rfl⟩⟩)
    | (go_at_call 18; (with_reducible refine (base_calls _ _ _ (by omega) (by omega) (by omega) (by omega) (by first | exact hT.drewN _ | exact hT)).mono ?_); rintro e w' ⟨rfl, ⟨nd, rfl⟩⟩)
    | (go_at_call 20; (with_reducible refine (off_calls _ _ _ (by omega) (by omega) (by omega) (by omega) (by first | exact hT.drewN _ | exact hT)).mono ?_); rintro e w' ⟨rfl, ⟨nd, rfl⟩⟩)
    | (go_at_call 22; (with_reducible refine (fits_calls _ _ _ (by omega) (by omega) (by omega) (by omega) (by first | exact hT.drewN _ | exact hT)).mono ?_); rintro e w' ⟨rfl, ⟨nd, rfl⟩⟩)
    | (go_at_call 13; (with_reducible refine (ridx_calls _ _ _ (by omega) (by omega) (by omega) (by omega)).mono ?_); rintro e w' ⟨rfl, ⟨nd, rfl⟩⟩)
    | (go_at_call 9; (with_reducible refine (rsize_calls _ _ (by omega) (by omega)).mono ?_); rintro e w' ⟨rfl, ⟨nd, rfl⟩⟩)
    | (go_at_call 11; (with_reducible refine (ris_calls _ _).mono ?_); rintro e w' ⟨rfl, ⟨nd, rfl⟩⟩)
    | (go_at_call 15; (with_reducible refine (rnum_calls _ _ (by omega) (by omega)).mono ?_); rintro e w' ⟨rfl, ⟨nd, rfl⟩⟩)
    | (go_at_call 19; (with_reducible refine (rbase_calls _ _ _ (by omega) (by omega) (by omega) (by omega)).mono ?_); rintro e w' ⟨rfl, ⟨nd, rfl⟩⟩)
    | (go_at_call 21; (with_reducible refine (roff_calls _ _ _ (by omega) (by omega) (by omega) (by omega)).mono ?_); rintro e w' ⟨rfl, ⟨nd, rfl⟩⟩)
    | (go_at_call 23; (with_reducible refine (rfits_calls _ _ _ (by omega) (by omega) (by omega) (by omega)).mono ?_); rintro e w' ⟨rfl, ⟨nd, rfl⟩⟩)
    | (go_at_call 17; (with_reducible refine (rof_calls _ _ (by omega) (by omega)).mono ?_); rintro e wb ⟨rfl, bel⟩))
  replace hT : TabS wb := TabS.below (hT.drewN _) bel
  have hb : Below w.heap.size w wb := (Drawn0.below ⟨_, rfl⟩).trans bel
  clear bel
  go_wp2_with (first
    | (go_at_call 12; (with_reducible refine (idx_calls _ _ _ (by omega) (by omega) (by omega) (by omega)).mono ?_); rintro e w' ⟨rfl, ⟨nd, rfl⟩⟩)
    | (go_at_call 8; (with_reducible refine (size_calls _ _ (by omega) (by omega) (by first | exact hT.drewN _ | exact hT)).mono ?_); rintro e w' ⟨rfl, ⟨nd, rfl⟩⟩)
    | (go_at_call 10; (with_reducible refine (is_calls _ _ (by omega) (by omega)).mono ?_); rintro e w' ⟨rfl, ⟨nd, rfl⟩⟩)
    | (go_at_call 14; (with_reducible refine (num_calls _ _ (by omega) (by omega)).mono ?_); rintro e w' ⟨rfl, ⟨nd, rfl⟩⟩)
    | (go_at_call 16; (with_reducible refine (of_calls _ _ (by omega) (by omega)).mono ?_); rintro e w' ⟨rfl, ⟨nd, rfl⟩⟩)
    | (go_at_call 18; (with_reducible refine (base_calls _ _ _ (by omega) (by omega) (by omega) (by omega) (by first | exact hT.drewN _ | exact hT)).mono ?_); rintro e w' ⟨rfl, ⟨nd, rfl⟩⟩)
    | (go_at_call 20; (with_reducible refine (off_calls _ _ _ (by omega) (by omega) (by omega) (by omega) (by first | exact hT.drewN _ | exact hT)).mono ?_); rintro e w' ⟨rfl, ⟨nd, rfl⟩⟩)
    | (go_at_call 22; (with_reducible refine (fits_calls _ _ _ (by omega) (by omega) (by omega) (by omega) (by first | exact hT.drewN _ | exact hT)).mono ?_); rintro e w' ⟨rfl, ⟨nd, rfl⟩⟩)
    | (go_at_call 13; (with_reducible refine (ridx_calls _ _ _ (by omega) (by omega) (by omega) (by omega)).mono ?_); rintro e w' ⟨rfl, ⟨nd, rfl⟩⟩)
    | (go_at_call 9; (with_reducible refine (rsize_calls _ _ (by omega) (by omega)).mono ?_); rintro e w' ⟨rfl, ⟨nd, rfl⟩⟩)
    | (go_at_call 11; (with_reducible refine (ris_calls _ _).mono ?_); rintro e w' ⟨rfl, ⟨nd, rfl⟩⟩)
    | (go_at_call 15; (with_reducible refine (rnum_calls _ _ (by omega) (by omega)).mono ?_); rintro e w' ⟨rfl, ⟨nd, rfl⟩⟩)
    | (go_at_call 19; (with_reducible refine (rbase_calls _ _ _ (by omega) (by omega) (by omega) (by omega)).mono ?_); rintro e w' ⟨rfl, ⟨nd, rfl⟩⟩)
    | (go_at_call 21; (with_reducible refine (roff_calls _ _ _ (by omega) (by omega) (by omega) (by omega)).mono ?_); rintro e w' ⟨rfl, ⟨nd, rfl⟩⟩)
    | (go_at_call 23; (with_reducible refine (rfits_calls _ _ _ (by omega) (by omega) (by omega) (by omega)).mono ?_); rintro e w' ⟨rfl, ⟨nd, rfl⟩⟩)
    | fail)
  go_ret
  exact ⟨rfl, hb.trans ((Drawn0.below ⟨_, rfl⟩).mono hb.size)⟩
theorem parts_num (a : Int) (a0 : 0 ≤ a) (a1 : a < 18446744073709551616) : num a = idx a 2 * 262144 + idx a 1 * 512 + idx a 0 := by
  unfold num idx
  rw [show sz 2 = 1073741824 from rfl, show sz 1 = 2097152 from rfl, show sz 0 = 4096 from rfl]; omega
theorem parts_is (a : Int) (a0 : 0 ≤ a) (a1 : a < 18446744073709551616) : isv a = (IntKind.u64.wrap (ofv (num a) + off a 0) == a) := by
  unfold isv ofv ext39 num off
  rw [show sz 0 = 4096 from rfl, wrap_u64]
  by_cases h : a / 4096 % 134217728 % 134217728 * 4096 < 274877906944
  · rw [if_pos h]
    by_cases k : a < 274877906944
    · rw [decide_eq_true k, Bool.true_or, eq_comm, beq_iff_eq]; omega
    · rw [decide_eq_false k, Bool.false_or, decide_eq_false (by omega), eq_comm, beq_eq_false_iff_ne]; omega
  · rw [if_neg h, decide_eq_false (by omega), Bool.false_or]
    by_cases k : 18446743798831644672 ≤ a
    · rw [decide_eq_true k, eq_comm, beq_iff_eq]; omega
    · rw [decide_eq_false k, eq_comm, beq_eq_false_iff_ne]; omega
theorem parts_f1 (a : Int) (a0 : 0 ≤ a) (a1 : a < 18446744073709551616) : (num a != idx a 2 * 512 * 512 + idx a 1 * 512 + idx a 0) = false := by
  have := parts_num a a0 a1; rw [bne_eq_false_iff_eq]; omega
theorem parts_f2 (a : Int) (a0 : 0 ≤ a) (a1 : a < 18446744073709551616) : (isv a != (IntKind.u64.wrap (ofv (num a) + off a 0) == a)) = false := by
  rw [← parts_is a a0 a1]; simp
theorem parts_f3 (a l : Int) (a0 : 0 ≤ a) (a1 : a < 18446744073709551616) : (IntKind.u64.wrap (base a l + off a l) != a) = false := by
  rw [bne_eq_false_iff_eq, wrap_u64]; unfold base off; omega
theorem parts_off (a l k : Int) (l0 : 0 ≤ l) (l2 : l ≤ 2) (k0 : 0 ≤ k) (kl : k ≤ l) : (off (base a l) k != 0) = false := by
  rw [bne_eq_false_iff_eq]; unfold off base
  rcases lev l0 l2 with rfl | rfl | rfl <;> rcases lev k0 (by omega) with rfl | rfl | rfl <;> simp only [show sz 0 = 4096 from rfl, show sz 1 = 2097152 from rfl, show sz 2 = 1073741824 from rfl] <;> omega
theorem parts_idx (a l k : Int) (l0 : 0 ≤ l) (l2 : l ≤ 2) (k0 : 0 ≤ k) (kl : k < l) : (idx (base a l) k != 0) = false := by
  rw [bne_eq_false_iff_eq]; unfold idx base
  rcases lev l0 l2 with rfl | rfl | rfl <;> rcases lev k0 (by omega) with rfl | rfl | rfl <;> simp only [show sz 0 = 4096 from rfl, show sz 1 = 2097152 from rfl, show sz 2 = 1073741824 from rfl] <;> omega
theorem isv_iff (a : Int) : isv a = true ↔ (a < 274877906944 ∨ 18446743798831644672 ≤ a) := by
  unfold isv; simp
theorem parts_last (a l : Int) (a0 : 0 ≤ a) (a1 : a < 18446744073709551616) (l0 : 0 ≤ l) (l2 : l ≤ 2) (h : isv a = true) :
    isv (base a l) = true ∧ fits (base a l) l = true ∧ isv (IntKind.u64.wrap (IntKind.u64.wrap (base a l + sz l) - 1)) = true := by
  have ho := parts_off a l l l0 l2 l0 (Int.le_refl _)
  rw [bne_eq_false_iff_eq] at ho
  have hb : isv (base a l) = true := by
    rw [isv_iff] at *; unfold base
    rcases lev l0 l2 with rfl | rfl | rfl <;> simp only [show sz 0 = 4096 from rfl, show sz 1 = 2097152 from rfl, show sz 2 = 1073741824 from rfl] <;> omega
  refine ⟨hb, by unfold fits; rw [hb, ho]; rfl, ?_⟩
  rw [isv_iff] at *; unfold base; rw [wrap_u64, wrap_u64]
  rcases lev l0 l2 with rfl | rfl | rfl <;> simp only [show sz 0 = 4096 from rfl, show sz 1 = 2097152 from rfl, show sz 2 = 1073741824 from rfl] <;> omega
theorem base_bd (a l : Int) (a0 : 0 ≤ a) (a1 : a < 18446744073709551616) : 0 ≤ base a l ∧ base a l < 18446744073709551616 := by
  have := off_bd a l a0; unfold base; unfold off at this; omega
theorem wrap_bd (n : Int) : 0 ≤ IntKind.u64.wrap n ∧ IntKind.u64.wrap n < 18446744073709551616 := by rw [wrap_u64]; omega
set_option maxHeartbeats 1000000 in
set_option maxRecDepth 100000 in
theorem parts_walk (a : Int) (v : Nat) (w : World) (a0 : 0 ≤ a) (a1 : a < 18446744073709551616) (hv : v < 256) (hT : TabS w) :
    Calls Tryd.prog 4 #[.int .u64 a, .int .u8 v] w fun e w' => e = .returned (.bool true) ∧ Below w.heap.size w w' := by
  obtain ⟨l, l0, l2, el⟩ : ∃ l : Int, 0 ≤ l ∧ l ≤ 2 ∧ (v : Int) % 3 = l := ⟨_, by omega, by omega, rfl⟩
  have El := Lib.hid el; clear el
  have f1 := parts_f1 a a0 a1
  have f2 := (parts_is a a0 a1).symm
  have f3 := parts_f3 a l a0 a1
  have f4 : decide (sz l ≤ off a l) = false := by have := off_bd a l a0; simp; omega
  have i2 : 0 ≤ idx a 2 ∧ idx a 2 < 512 := by unfold idx; omega
  have i1 : 0 ≤ idx a 1 ∧ idx a 1 < 512 := by unfold idx; omega
  have i0 : 0 ≤ idx a 0 ∧ idx a 0 < 512 := by unfold idx; omega
  have in0 : 0 ≤ num a ∧ num a < 134217728 := by unfold num; omega
  have hbb := base_bd a l a0 a1
  have hwb := wrap_bd (IntKind.u64.wrap (base a l + sz l) - 1)
  have Hl := fun h => Lib.hid (parts_last a l a0 a1 l0 l2 h)
  have Ho := Lib.hid (fun k => parts_off a l k l0 l2)
  have Hi := Lib.hid (fun k => parts_idx a l k l0 l2)
  cases hi : isv a
  all_goals
    rw [hi] at f2
    have HI := Lib.hid hi; clear hi
    go_enter Tryd.func4, Tryd.ntmps4
    go_wp2_with (first | (go_at_call 7; refine (awake_calls _ hT).mono ?_; rintro e w' ⟨rfl, ⟨nd, rfl⟩⟩))
    rw [El.out]
    refine (idx_calls _ _ _ a0 a1 (by omega) (by omega)).mono ?_
    rintro e w' ⟨rfl, ⟨nd, rfl⟩⟩
    go_wp2_with (first
    | (go_at_call 10; refine (is_calls a _ a0 a1).mono ?_; rw [HI.out]; rintro e w' ⟨rfl, ⟨nd, rfl⟩⟩)
    | (go_at_call 12; (with_reducible refine (idx_calls _ _ _ (by omega) (by omega) (by omega) (by omega)).mono ?_); rintro e w' ⟨rfl, ⟨nd, rfl⟩⟩)
    | (go_at_call 8; (with_reducible refine (size_calls _ _ (by omega) (by omega) (by first | exact hT.drewN _ | exact hT)).mono ?_); rintro e w' ⟨rfl, ⟨nd, rfl⟩⟩)
    | (go_at_call 10; (with_reducible refine (is_calls _ _ (by omega) (by omega)).mono ?_); rintro e w' ⟨rfl, ⟨nd, rfl⟩⟩)
    | (go_at_call 14; (with_reducible refine (num_calls _ _ (by omega) (by omega)).mono ?_); rintro e w' ⟨rfl, ⟨nd, rfl⟩⟩)
    | (go_at_call 16; (with_reducible refine (of_calls _ _ (by omega) (by omega)).mono ?_); rintro e w' ⟨rfl, ⟨nd, rfl⟩⟩)
    | (go_at_call 18; (with_reducible refine (base_calls _ _ _ (by omega) (by omega) (by omega) (by omega) (by first | exact hT.drewN _ | exact hT)).mono ?_); rintro e w' ⟨rfl, ⟨nd, rfl⟩⟩)
    | (go_at_call 20; (with_reducible refine (off_calls _ _ _ (by omega) (by omega) (by omega) (by omega) (by first | exact hT.drewN _ | exact hT)).mono ?_); rintro e w' ⟨rfl, ⟨nd, rfl⟩⟩)
    | (go_at_call 22; (with_reducible refine (fits_calls _ _ _ (by omega) (by omega) (by omega) (by omega) (by first | exact hT.drewN _ | exact hT)).mono ?_); rintro e w' ⟨rfl, ⟨nd, rfl⟩⟩)
      | fail)
    go_loopw [8] (fun i wr => ∃ k : Nat, (k : Int) ≤ l + 1 ∧ i = .int .i64 k ∧ TabS wr ∧ Drawn0 w wr) (fun i _ => (l + 1 - intOf i).toNat)
    case atStart => exact ⟨0, by omega, rfl, hT.drewN _, ⟨_, rfl⟩⟩
    case round =>
      obtain ⟨k, hk, rfl, hT, hd⟩ := hrel
      by_cases hlt : (k : Int) ≤ l
      · have g1 := Ho.out k (by omega) hlt
        by_cases hl2 : (k : Int) < l
        · have g2 := Hi.out k (by omega) hl2
          go_wp2_with (first
    | (go_at_call 12; (with_reducible refine (idx_calls _ _ _ (by omega) (by omega) (by omega) (by omega)).mono ?_); rintro e w' ⟨rfl, ⟨nd, rfl⟩⟩)
    | (go_at_call 8; (with_reducible refine (size_calls _ _ (by omega) (by omega) (by first | exact hT.drewN _ | exact hT)).mono ?_); rintro e w' ⟨rfl, ⟨nd, rfl⟩⟩)
    | (go_at_call 10; (with_reducible refine (is_calls _ _ (by omega) (by omega)).mono ?_); rintro e w' ⟨rfl, ⟨nd, rfl⟩⟩)
    | (go_at_call 14; (with_reducible refine (num_calls _ _ (by omega) (by omega)).mono ?_); rintro e w' ⟨rfl, ⟨nd, rfl⟩⟩)
    | (go_at_call 16; (with_reducible refine (of_calls _ _ (by omega) (by omega)).mono ?_); rintro e w' ⟨rfl, ⟨nd, rfl⟩⟩)
    | (go_at_call 18; (with_reducible refine (base_calls _ _ _ (by omega) (by omega) (by omega) (by omega) (by first | exact hT.drewN _ | exact hT)).mono ?_); rintro e w' ⟨rfl, ⟨nd, rfl⟩⟩)
    | (go_at_call 20; (with_reducible refine (off_calls _ _ _ (by omega) (by omega) (by omega) (by omega) (by first | exact hT.drewN _ | exact hT)).mono ?_); rintro e w' ⟨rfl, ⟨nd, rfl⟩⟩)
    | (go_at_call 22; (with_reducible refine (fits_calls _ _ _ (by omega) (by omega) (by omega) (by omega) (by first | exact hT.drewN _ | exact hT)).mono ?_); rintro e w' ⟨rfl, ⟨nd, rfl⟩⟩)
            | fail)
          refine ⟨⟨k + 1, by omega, by go_num, by first | exact hT.drewN _ | exact hT, by repeat (first | exact hd | apply Drawn0.step)⟩, ?_⟩
          simp [intOf]; omega
        · go_wp2_with (first
    | (go_at_call 12; (with_reducible refine (idx_calls _ _ _ (by omega) (by omega) (by omega) (by omega)).mono ?_); rintro e w' ⟨rfl, ⟨nd, rfl⟩⟩)
    | (go_at_call 8; (with_reducible refine (size_calls _ _ (by omega) (by omega) (by first | exact hT.drewN _ | exact hT)).mono ?_); rintro e w' ⟨rfl, ⟨nd, rfl⟩⟩)
    | (go_at_call 10; (with_reducible refine (is_calls _ _ (by omega) (by omega)).mono ?_); rintro e w' ⟨rfl, ⟨nd, rfl⟩⟩)
    | (go_at_call 14; (with_reducible refine (num_calls _ _ (by omega) (by omega)).mono ?_); rintro e w' ⟨rfl, ⟨nd, rfl⟩⟩)
    | (go_at_call 16; (with_reducible refine (of_calls _ _ (by omega) (by omega)).mono ?_); rintro e w' ⟨rfl, ⟨nd, rfl⟩⟩)
    | (go_at_call 18; (with_reducible refine (base_calls _ _ _ (by omega) (by omega) (by omega) (by omega) (by first | exact hT.drewN _ | exact hT)).mono ?_); rintro e w' ⟨rfl, ⟨nd, rfl⟩⟩)
    | (go_at_call 20; (with_reducible refine (off_calls _ _ _ (by omega) (by omega) (by omega) (by omega) (by first | exact hT.drewN _ | exact hT)).mono ?_); rintro e w' ⟨rfl, ⟨nd, rfl⟩⟩)
    | (go_at_call 22; (with_reducible refine (fits_calls _ _ _ (by omega) (by omega) (by omega) (by omega) (by first | exact hT.drewN _ | exact hT)).mono ?_); rintro e w' ⟨rfl, ⟨nd, rfl⟩⟩)
            | fail)
          refine ⟨⟨k + 1, by omega, by go_num, by first | exact hT.drewN _ | exact hT, by repeat (first | exact hd | apply Drawn0.step)⟩, ?_⟩
          simp [intOf]; omega
      · try (have Hl' := Hl HI.out)
        try (obtain ⟨q1, q2, q3⟩ := Hl'.out)
        go_wp2_with (first
    | (go_at_call_of 10 a; refine (is_calls a _ a0 a1).mono ?_; rw [HI.out]; rintro e w' ⟨rfl, ⟨nd, rfl⟩⟩)
    | (go_at_call 12; (with_reducible refine (idx_calls _ _ _ (by omega) (by omega) (by omega) (by omega)).mono ?_); rintro e w' ⟨rfl, ⟨nd, rfl⟩⟩)
    | (go_at_call 8; (with_reducible refine (size_calls _ _ (by omega) (by omega) (by first | exact hT.drewN _ | exact hT)).mono ?_); rintro e w' ⟨rfl, ⟨nd, rfl⟩⟩)
    | (go_at_call 10; (with_reducible refine (is_calls _ _ (by omega) (by omega)).mono ?_); rintro e w' ⟨rfl, ⟨nd, rfl⟩⟩)
    | (go_at_call 14; (with_reducible refine (num_calls _ _ (by omega) (by omega)).mono ?_); rintro e w' ⟨rfl, ⟨nd, rfl⟩⟩)
    | (go_at_call 16; (with_reducible refine (of_calls _ _ (by omega) (by omega)).mono ?_); rintro e w' ⟨rfl, ⟨nd, rfl⟩⟩)
    | (go_at_call 18; (with_reducible refine (base_calls _ _ _ (by omega) (by omega) (by omega) (by omega) (by first | exact hT.drewN _ | exact hT)).mono ?_); rintro e w' ⟨rfl, ⟨nd, rfl⟩⟩)
    | (go_at_call 20; (with_reducible refine (off_calls _ _ _ (by omega) (by omega) (by omega) (by omega) (by first | exact hT.drewN _ | exact hT)).mono ?_); rintro e w' ⟨rfl, ⟨nd, rfl⟩⟩)
    | (go_at_call 22; (with_reducible refine (fits_calls _ _ _ (by omega) (by omega) (by omega) (by omega) (by first | exact hT.drewN _ | exact hT)).mono ?_); rintro e w' ⟨rfl, ⟨nd, rfl⟩⟩)
            | fail)
        go_ret
        exact ⟨rfl, Drawn0.below (by repeat (first | exact hd | apply Drawn0.step))⟩
end Go.Proofs.YtkloaohmcenfhaaDoor.VaW
