/- Texts of this claim, one behind the other: SpP, SpQ, Open, Laid, RfP, RefS, RefSet, AxQ. -/
import Derived.Test.YtkffmaeiplgjeaaGreatDoorM13
import Derived.Test.YtkffmaeiplgjeaaGreatDoorM5
import Derived.ProofKit
import Derived.Carry
import Derived.ChangeOld
import Derived.ChangeArms
import Derived.WideShapes
import Derived.Test.YtkffmaeiplgjeaaGreatDoorRows
import Derived.LaidMore
import Derived.Lib.LaidTab
import Derived.SevenTiedAt
import Derived.LaidHandle
import Derived.Deep.SlicePairs
import Derived.OwnWalk
import Derived.Test.YtkffmaeiplgjeaaGreatDoorM6
import Derived.Test.YtkffmaeiplgjeaaGreatDoorM11
/- The abstract walk: the anchor. -/
namespace Go.Proofs.YtkffmaeiplgjeaaGreatDoor.SpP
open Go.RowKit Go.Proofs.YtkffmaeiplgjeaaGreatDoor.Bv Go.Proofs.YtkffmaeiplgjeaaGreatDoor.VaSpec Go.Proofs.YtkffmaeiplgjeaaGreatDoor.Base Go.Proofs.YtkffmaeiplgjeaaGreatDoor.MemL Go.Proofs.YtkffmaeiplgjeaaGreatDoor.RegR Go.Proofs.YtkffmaeiplgjeaaGreatDoor.Ax Go.Proofs.YtkffmaeiplgjeaaGreatDoor.MemC Go.Proofs.YtkffmaeiplgjeaaGreatDoor.PutC Go.Proofs.YtkffmaeiplgjeaaGreatDoor.MemC3 Go.Proofs.YtkffmaeiplgjeaaGreatDoor.TzC Go.Proofs.YtkffmaeiplgjeaaGreatDoor.OkS Go.Proofs.YtkffmaeiplgjeaaGreatDoor.SpA Go.Proofs.YtkffmaeiplgjeaaGreatDoor.SpB Go.Proofs.YtkffmaeiplgjeaaGreatDoor.SpC Go.Proofs.YtkffmaeiplgjeaaGreatDoor.SpD Go.Proofs.YtkffmaeiplgjeaaGreatDoor.IterC Go.Proofs.YtkffmaeiplgjeaaGreatDoor.SpE Go.Proofs.YtkffmaeiplgjeaaGreatDoor.SpF Go.Proofs.YtkffmaeiplgjeaaGreatDoor.SpG Go.Proofs.YtkffmaeiplgjeaaGreatDoor.SpH Go.Proofs.YtkffmaeiplgjeaaGreatDoor.SpI Go.Proofs.YtkffmaeiplgjeaaGreatDoor.SpJ Go.Proofs.YtkffmaeiplgjeaaGreatDoor.SpK Go.Proofs.YtkffmaeiplgjeaaGreatDoor.SpN Go.Proofs.YtkffmaeiplgjeaaGreatDoor.SpO
open Go.Proofs.YtkffmaeiplgjeaaGreatDoor.BitsC Go.Proofs.YtkffmaeiplgjeaaGreatDoor.PteSpec
set_option linter.unusedVariables false
set_option linter.unusedSimpArgs false
set_option maxRecDepth 10000
set_option maxHeartbeats 800000
attribute [local irreducible] Go.Proofs.YtkffmaeiplgjeaaGreatDoor.Ax.CallOk
theorem awake_ok : Ok 6 [] (.m (ib true)) := by
  have hN : Ok 9 [confA 4 4 1 1] (.tu [.ag k0.ce, ii 0]) := by rw [← n0]; exact new_yes 4 4 1 1 (by decide)
  have hZ := new_no 0 0 0 0 (by decide)
  have hA := create_all i0 (by omega)
  rw [eA] at hA
  have hH := create_all iA (by omega)
  rw [eH] at hH
  have hB := switch_all kAa 0
  rw [eB] at hB
  have hJ := destroy_all iB (by omega) 0
  rw [eJ] at hJ
  have hC := destroy_all iA (by omega) 0
  rw [eC] at hC
  have hM := switch_all kC 0
  rw [eM] at hM
  have hD := create_all iC (by omega)
  rw [eD] at hD
  have hW := where_ok kAa 0 20480 0 ⟨by omega, by omega⟩
  rw [show whereR kAa 0 20480 0 = (5, 2, 0) by decide] at hW
  have hV := where_ok kAa (-1) 20480 0 ⟨by omega, by omega⟩
  rw [show whereR kAa (-1) 20480 0 = (0, 0, 3) by decide] at hV
  have e1 : ∀ w, (Op.equalIn 10000 34 (.agg #[.int .u64 8, .int .u64 1, .int .u64 5]) (.agg #[.int .u64 8, .int .u64 1, .int .u64 5])).run Tryz.prog w = .ok true w := fun w => by rw [SpL.eq_satp]; simp
  have e2 : ∀ w, (Op.equalIn 10000 73 (.agg #[.bool false, .int .u64 0, .bool true, .int .u64 1]) (.agg #[.bool false, .int .u64 0, .bool true, .int .u64 1])).run Tryz.prog w = .ok true w := fun w => by rw [SpL.eq_fence]; simp
  have hx : ((flF [⟨false, 0, true, 1⟩]).drop ((0 : Int).toNat * 4)).take 4 = [.bool false, .int .u64 0, .bool true, .int .u64 1] := rfl
  refine callOk_of 195 Tryz.func6 rfl rfl rfl rfl ?_ GG.to
  intro W A hG
  repeat (first
    | (refine go_at rfl ?_; first
        | refine go_do (valid_mv (.inr rfl) rfl) rfl ?_)
    | refine aw_text rfl ?_
    | refine aw_seq_k (fun K hK => ?_))
  first
    | (refine hK _ ?_; clear hK K)
    | (rename_i K1 hK1; refine hK1 _ ?_; clear hK hK1; clear K)
    | (rename_i K1 hK1; refine hK1 _ ?_; clear hK1)
  repeat (first
    | (refine go_at rfl ?_; first
        | refine go_do (valid_mv (.inl rfl) rfl) rfl ?_
        | refine go_do (valid_mv (.inr rfl) rfl) rfl ?_
        | refine go_do (valid_extract rfl rfl rfl rfl) rfl ?_
        | refine go_do (valid_alloc rfl rfl rfl rfl rfl) rfl ?_
        | (refine nxt_s 1 rfl ?_; refine go_do (valid_store_p rfl rfl rfl rfl rfl rfl (by first | kernel_rfl | rfl) rfl) (by first | kernel_rfl | rfl) ?_)
        | refine go_do (valid_build rfl rfl rfl rfl) rfl ?_
        | refine go_do (valid_call rfl rfl rfl (hN) (by kernel_rfl)) rfl ?_)
    | refine aw_text rfl ?_
    | refine aw_seq_k (fun K hK => ?_))
  first
    | (refine hK _ ?_; clear hK K)
    | (rename_i K1 hK1; refine hK1 _ ?_; clear hK hK1; clear K)
    | (rename_i K1 hK1; refine hK1 _ ?_; clear hK1)
  refine aw_sub (sub_of [(1, .m (.c (.p 1 0))), (2, .m (ii 0))] [(1, .live (.box k0.ce))] ⟨by kernel_rfl, by kernel_rfl, trivial⟩ ⟨by kernel_rfl, trivial⟩ (by kernel_rfl)) ?_
  repeat (first
    | (refine go_at rfl ?_; first
        | refine go_do (valid_mv (.inl rfl) rfl) rfl ?_
        | refine go_do (valid_mv (.inr rfl) rfl) rfl ?_
        | refine go_do (valid_extract rfl rfl rfl rfl) rfl ?_
        | refine go_do (valid_alloc rfl rfl rfl rfl rfl) rfl ?_
        | (refine nxt_s 1 rfl ?_; refine go_do (valid_store_p rfl rfl rfl rfl rfl rfl (by first | kernel_rfl | rfl) rfl) (by first | kernel_rfl | rfl) ?_)
        | refine go_do (valid_build rfl rfl rfl rfl) rfl ?_
        | refine go_do (valid_call rfl rfl rfl (hZ) (by kernel_rfl)) rfl ?_)
    | refine aw_text rfl ?_
    | refine aw_seq_k (fun K hK => ?_))
  first
    | (refine hK _ ?_; clear hK K)
    | (rename_i K1 hK1; refine hK1 _ ?_; clear hK hK1; clear K)
    | (rename_i K1 hK1; refine hK1 _ ?_; clear hK1)
  refine aw_sub (sub_of [(1, .m (.c (.p 1 0))), (2, .m (ii 0)), (4, .m (ii 1))] [(1, .live (.box k0.ce))] ⟨by kernel_rfl, by kernel_rfl, by kernel_rfl, trivial⟩ ⟨by kernel_rfl, trivial⟩ (by kernel_rfl)) ?_
  repeat (first
    | (refine go_at rfl ?_; first
        | refine go_do (valid_mv (.inl rfl) rfl) rfl ?_
        | (refine nxt_s 1 rfl ?_; refine go_do (valid_load_p tb rfl rfl rfl rfl rfl (by first | kernel_rfl | rfl)) (by first | kernel_rfl | rfl) ?_)
        | refine go_do (valid_mv (.inr rfl) rfl) rfl ?_
        | refine go_do (valid_extract rfl rfl rfl rfl) rfl ?_
        | refine go_do (valid_alloc rfl rfl rfl rfl rfl) rfl ?_
        | (refine nxt_s 1 rfl ?_; refine go_do (valid_store_p rfl rfl rfl rfl rfl rfl (by first | kernel_rfl | rfl) rfl) (by first | kernel_rfl | rfl) ?_)
        | refine go_do (valid_call rfl rfl rfl (hA) (by kernel_rfl)) rfl ?_)
    | refine aw_text rfl ?_
    | refine aw_seq_k (fun K hK => ?_))
  first
    | (refine hK _ ?_; clear hK K)
    | (rename_i K1 hK1; refine hK1 _ ?_; clear hK hK1; clear K)
    | (rename_i K1 hK1; refine hK1 _ ?_; clear hK1)
  refine aw_sub (sub_of [(1, .m (.c (.p 1 0))), (2, .m (ii 0)), (4, .m (ii 1)), (5, .m (.c (.p 5 0))), (6, .m (ii 0)), (7, .m (ii 0))] [(1, .live (.box k0.ce)), (5, .live (.box kAa.ce))] ⟨by kernel_rfl, by kernel_rfl, by kernel_rfl, by kernel_rfl, by kernel_rfl, by kernel_rfl, trivial⟩ ⟨by kernel_rfl, by kernel_rfl, trivial⟩ (by kernel_rfl)) ?_
  repeat (first
    | (refine go_at rfl ?_; first
        | refine go_do (valid_mv (.inl rfl) rfl) rfl ?_
        | (refine nxt_s 1 rfl ?_; refine go_do (valid_load_p tb rfl rfl rfl rfl rfl (by first | kernel_rfl | rfl)) (by first | kernel_rfl | rfl) ?_)
        | refine go_do (valid_mv (.inr rfl) rfl) rfl ?_
        | refine go_do (valid_extract rfl rfl rfl rfl) rfl ?_
        | refine go_do (valid_alloc rfl rfl rfl rfl rfl) rfl ?_
        | (refine nxt_s 1 rfl ?_; refine go_do (valid_store_p rfl rfl rfl rfl rfl rfl (by first | kernel_rfl | rfl) rfl) (by first | kernel_rfl | rfl) ?_)
        | refine go_do (valid_call rfl rfl rfl (hH) (by kernel_rfl)) rfl ?_)
    | refine aw_text rfl ?_
    | refine aw_seq_k (fun K hK => ?_))
  first
    | (refine hK _ ?_; clear hK K)
    | (rename_i K1 hK1; refine hK1 _ ?_; clear hK hK1; clear K)
    | (rename_i K1 hK1; refine hK1 _ ?_; clear hK1)
  refine aw_sub (sub_of [(1, .m (.c (.p 1 0))), (2, .m (ii 0)), (4, .m (ii 1)), (5, .m (.c (.p 5 0))), (6, .m (ii 0)), (7, .m (ii 0)), (10, .m (ii 9))] [(1, .live (.box k0.ce)), (5, .live (.box kAa.ce))] ⟨by kernel_rfl, by kernel_rfl, by kernel_rfl, by kernel_rfl, by kernel_rfl, by kernel_rfl, by kernel_rfl, trivial⟩ ⟨by kernel_rfl, by kernel_rfl, trivial⟩ (by kernel_rfl)) ?_
  repeat (first
    | (refine go_at rfl ?_; first
        | refine go_do (valid_mv (.inl rfl) rfl) rfl ?_
        | (refine nxt_s 1 rfl ?_; refine go_do (valid_load_p tb rfl rfl rfl rfl rfl (by first | kernel_rfl | rfl)) (by first | kernel_rfl | rfl) ?_)
        | refine go_do (valid_mv (.inr rfl) rfl) rfl ?_
        | refine go_do (valid_extract rfl rfl rfl rfl) rfl ?_
        | refine go_do (valid_alloc rfl rfl rfl rfl rfl) rfl ?_
        | (refine nxt_s 1 rfl ?_; refine go_do (valid_store_p rfl rfl rfl rfl rfl rfl (by first | kernel_rfl | rfl) rfl) (by first | kernel_rfl | rfl) ?_)
        | refine go_do (valid_call rfl rfl rfl (hB) (by kernel_rfl)) rfl ?_)
    | refine aw_text rfl ?_
    | refine aw_seq_k (fun K hK => ?_))
  first
    | (refine hK _ ?_; clear hK K)
    | (rename_i K1 hK1; refine hK1 _ ?_; clear hK hK1; clear K)
    | (rename_i K1 hK1; refine hK1 _ ?_; clear hK1)
  refine aw_sub (sub_of [(1, .m (.c (.p 1 0))), (2, .m (ii 0)), (4, .m (ii 1)), (5, .m (.c (.p 5 0))), (6, .m (ii 0)), (7, .m (ii 0)), (10, .m (ii 9)), (11, .m (.c (.p 11 0))), (12, .m (ii 0))] [(1, .live (.box k0.ce)), (5, .live (.box kAa.ce)), (11, .live (.box kB.ce))] ⟨by kernel_rfl, by kernel_rfl, by kernel_rfl, by kernel_rfl, by kernel_rfl, by kernel_rfl, by kernel_rfl, by kernel_rfl, by kernel_rfl, trivial⟩ ⟨by kernel_rfl, by kernel_rfl, by kernel_rfl, trivial⟩ (by kernel_rfl)) ?_
  repeat (first
    | (refine go_at rfl ?_; first
        | refine go_do (valid_mv (.inl rfl) rfl) rfl ?_
        | (refine nxt_s 1 rfl ?_; refine go_do (valid_load_p tb rfl rfl rfl rfl rfl (by first | kernel_rfl | rfl)) (by first | kernel_rfl | rfl) ?_)
        | refine go_do (valid_mv (.inr rfl) rfl) rfl ?_
        | refine go_do (valid_extract rfl rfl rfl rfl) rfl ?_
        | refine go_do (valid_alloc rfl rfl rfl rfl rfl) rfl ?_
        | (refine nxt_s 1 rfl ?_; refine go_do (valid_store_p rfl rfl rfl rfl rfl rfl (by first | kernel_rfl | rfl) rfl) (by first | kernel_rfl | rfl) ?_)
        | refine go_do (valid_call rfl rfl rfl (hJ) (by kernel_rfl)) rfl ?_)
    | refine aw_text rfl ?_
    | refine aw_seq_k (fun K hK => ?_))
  first
    | (refine hK _ ?_; clear hK K)
    | (rename_i K1 hK1; refine hK1 _ ?_; clear hK hK1; clear K)
    | (rename_i K1 hK1; refine hK1 _ ?_; clear hK1)
  refine aw_sub (sub_of [(1, .m (.c (.p 1 0))), (2, .m (ii 0)), (4, .m (ii 1)), (5, .m (.c (.p 5 0))), (6, .m (ii 0)), (7, .m (ii 0)), (10, .m (ii 9)), (11, .m (.c (.p 11 0))), (12, .m (ii 0)), (14, .m (ii 10))] [(1, .live (.box k0.ce)), (5, .live (.box kAa.ce)), (11, .live (.box kB.ce))] ⟨by kernel_rfl, by kernel_rfl, by kernel_rfl, by kernel_rfl, by kernel_rfl, by kernel_rfl, by kernel_rfl, by kernel_rfl, by kernel_rfl, by kernel_rfl, trivial⟩ ⟨by kernel_rfl, by kernel_rfl, by kernel_rfl, trivial⟩ (by kernel_rfl)) ?_
  repeat (first
    | (refine go_at rfl ?_; first
        | refine go_do (valid_mv (.inl rfl) rfl) rfl ?_
        | (refine nxt_s 1 rfl ?_; refine go_do (valid_load_p tb rfl rfl rfl rfl rfl (by first | kernel_rfl | rfl)) (by first | kernel_rfl | rfl) ?_)
        | refine go_do (valid_mv (.inr rfl) rfl) rfl ?_
        | refine go_do (valid_extract rfl rfl rfl rfl) rfl ?_
        | refine go_do (valid_alloc rfl rfl rfl rfl rfl) rfl ?_
        | (refine nxt_s 1 rfl ?_; refine go_do (valid_store_p rfl rfl rfl rfl rfl rfl (by first | kernel_rfl | rfl) rfl) (by first | kernel_rfl | rfl) ?_)
        | refine go_do (valid_call rfl rfl rfl (hC) (by kernel_rfl)) rfl ?_)
    | refine aw_text rfl ?_
    | refine aw_seq_k (fun K hK => ?_))
  first
    | (refine hK _ ?_; clear hK K)
    | (rename_i K1 hK1; refine hK1 _ ?_; clear hK hK1; clear K)
    | (rename_i K1 hK1; refine hK1 _ ?_; clear hK1)
  refine aw_sub (sub_of [(1, .m (.c (.p 1 0))), (2, .m (ii 0)), (4, .m (ii 1)), (5, .m (.c (.p 5 0))), (6, .m (ii 0)), (7, .m (ii 0)), (10, .m (ii 9)), (11, .m (.c (.p 11 0))), (12, .m (ii 0)), (14, .m (ii 10)), (15, .m (.c (.p 15 0))), (16, .m (ii 0))] [(1, .live (.box k0.ce)), (5, .live (.box kAa.ce)), (11, .live (.box kB.ce)), (15, .live (.box kC.ce))] ⟨by kernel_rfl, by kernel_rfl, by kernel_rfl, by kernel_rfl, by kernel_rfl, by kernel_rfl, by kernel_rfl, by kernel_rfl, by kernel_rfl, by kernel_rfl, by kernel_rfl, by kernel_rfl, trivial⟩ ⟨by kernel_rfl, by kernel_rfl, by kernel_rfl, by kernel_rfl, trivial⟩ (by kernel_rfl)) ?_
  repeat (first
    | (refine go_at rfl ?_; first
        | refine go_do (valid_mv (.inl rfl) rfl) rfl ?_
        | (refine nxt_s 1 rfl ?_; refine go_do (valid_load_p tb rfl rfl rfl rfl rfl (by first | kernel_rfl | rfl)) (by first | kernel_rfl | rfl) ?_)
        | refine go_do (valid_mv (.inr rfl) rfl) rfl ?_
        | refine go_do (valid_extract rfl rfl rfl rfl) rfl ?_
        | refine go_do (valid_alloc rfl rfl rfl rfl rfl) rfl ?_
        | (refine nxt_s 1 rfl ?_; refine go_do (valid_store_p rfl rfl rfl rfl rfl rfl (by first | kernel_rfl | rfl) rfl) (by first | kernel_rfl | rfl) ?_)
        | refine go_do (valid_call rfl rfl rfl (hM) (by kernel_rfl)) rfl ?_)
    | refine aw_text rfl ?_
    | refine aw_seq_k (fun K hK => ?_))
  first
    | (refine hK _ ?_; clear hK K)
    | (rename_i K1 hK1; refine hK1 _ ?_; clear hK hK1; clear K)
    | (rename_i K1 hK1; refine hK1 _ ?_; clear hK1)
  refine aw_sub (sub_of [(1, .m (.c (.p 1 0))), (2, .m (ii 0)), (4, .m (ii 1)), (5, .m (.c (.p 5 0))), (6, .m (ii 0)), (7, .m (ii 0)), (10, .m (ii 9)), (11, .m (.c (.p 11 0))), (12, .m (ii 0)), (14, .m (ii 10)), (15, .m (.c (.p 15 0))), (16, .m (ii 0)), (18, .m (ii 4))] [(1, .live (.box k0.ce)), (5, .live (.box kAa.ce)), (11, .live (.box kB.ce)), (15, .live (.box kC.ce))] ⟨by kernel_rfl, by kernel_rfl, by kernel_rfl, by kernel_rfl, by kernel_rfl, by kernel_rfl, by kernel_rfl, by kernel_rfl, by kernel_rfl, by kernel_rfl, by kernel_rfl, by kernel_rfl, by kernel_rfl, trivial⟩ ⟨by kernel_rfl, by kernel_rfl, by kernel_rfl, by kernel_rfl, trivial⟩ (by kernel_rfl)) ?_
  repeat (first
    | (refine go_at rfl ?_; first
        | refine go_do (valid_mv (.inl rfl) rfl) rfl ?_
        | (refine nxt_s 1 rfl ?_; refine go_do (valid_load_p tb rfl rfl rfl rfl rfl (by first | kernel_rfl | rfl)) (by first | kernel_rfl | rfl) ?_)
        | refine go_do (valid_mv (.inr rfl) rfl) rfl ?_
        | refine go_do (valid_extract rfl rfl rfl rfl) rfl ?_
        | refine go_do (valid_alloc rfl rfl rfl rfl rfl) rfl ?_
        | (refine nxt_s 1 rfl ?_; refine go_do (valid_store_p rfl rfl rfl rfl rfl rfl (by first | kernel_rfl | rfl) rfl) (by first | kernel_rfl | rfl) ?_)
        | refine go_do (valid_call rfl rfl rfl (hD) (by kernel_rfl)) rfl ?_)
    | refine aw_text rfl ?_
    | refine aw_seq_k (fun K hK => ?_))
  first
    | (refine hK _ ?_; clear hK K)
    | (rename_i K1 hK1; refine hK1 _ ?_; clear hK hK1; clear K)
    | (rename_i K1 hK1; refine hK1 _ ?_; clear hK1)
  refine aw_sub (sub_of [(1, .m (.c (.p 1 0))), (2, .m (ii 0)), (4, .m (ii 1)), (5, .m (.c (.p 5 0))), (6, .m (ii 0)), (7, .m (ii 0)), (10, .m (ii 9)), (11, .m (.c (.p 11 0))), (12, .m (ii 0)), (14, .m (ii 10)), (15, .m (.c (.p 15 0))), (16, .m (ii 0)), (18, .m (ii 4)), (19, .m (.c (.p 19 0))), (20, .m (ii 1)), (21, .m (ii 0))] [(1, .live (.box k0.ce)), (5, .live (.box kAa.ce)), (11, .live (.box kB.ce)), (15, .live (.box kC.ce)), (19, .live (.box kD.ce))] ⟨by kernel_rfl, by kernel_rfl, by kernel_rfl, by kernel_rfl, by kernel_rfl, by kernel_rfl, by kernel_rfl, by kernel_rfl, by kernel_rfl, by kernel_rfl, by kernel_rfl, by kernel_rfl, by kernel_rfl, by kernel_rfl, by kernel_rfl, by kernel_rfl, trivial⟩ ⟨by kernel_rfl, by kernel_rfl, by kernel_rfl, by kernel_rfl, by kernel_rfl, trivial⟩ (by kernel_rfl)) ?_
  repeat (first
    | (refine go_at rfl ?_; first
        | refine go_do (valid_mv (.inl rfl) rfl) rfl ?_
        | (refine nxt_s 1 rfl ?_; refine go_do (valid_load_p tb rfl rfl rfl rfl rfl (by first | kernel_rfl | rfl)) (by first | kernel_rfl | rfl) ?_)
        | refine go_do (valid_mv (.inr rfl) rfl) rfl ?_
        | refine go_do (valid_extract rfl rfl rfl rfl) rfl ?_
        | refine go_do (valid_call rfl rfl rfl (hW) (by kernel_rfl)) rfl ?_)
    | refine aw_text rfl ?_
    | refine aw_seq_k (fun K hK => ?_))
  first
    | (refine hK _ ?_; clear hK K)
    | (rename_i K1 hK1; refine hK1 _ ?_; clear hK hK1; clear K)
    | (rename_i K1 hK1; refine hK1 _ ?_; clear hK1)
  refine aw_sub (sub_of [(1, .m (.c (.p 1 0))), (2, .m (ii 0)), (4, .m (ii 1)), (5, .m (.c (.p 5 0))), (6, .m (ii 0)), (7, .m (ii 0)), (10, .m (ii 9)), (11, .m (.c (.p 11 0))), (12, .m (ii 0)), (14, .m (ii 10)), (15, .m (.c (.p 15 0))), (16, .m (ii 0)), (18, .m (ii 4)), (19, .m (.c (.p 19 0))), (20, .m (ii 1)), (21, .m (ii 0)), (22, .m (iu 5)), (23, .m (ii 2)), (24, .m (ii 0))] [(1, .live (.box k0.ce)), (5, .live (.box kAa.ce)), (11, .live (.box kB.ce)), (15, .live (.box kC.ce)), (19, .live (.box kD.ce))] ⟨by kernel_rfl, by kernel_rfl, by kernel_rfl, by kernel_rfl, by kernel_rfl, by kernel_rfl, by kernel_rfl, by kernel_rfl, by kernel_rfl, by kernel_rfl, by kernel_rfl, by kernel_rfl, by kernel_rfl, by kernel_rfl, by kernel_rfl, by kernel_rfl, by kernel_rfl, by kernel_rfl, by kernel_rfl, trivial⟩ ⟨by kernel_rfl, by kernel_rfl, by kernel_rfl, by kernel_rfl, by kernel_rfl, trivial⟩ (by kernel_rfl)) ?_
  repeat (first
    | (refine go_at rfl ?_; first
        | refine go_do (valid_mv (.inl rfl) rfl) rfl ?_
        | (refine nxt_s 1 rfl ?_; refine go_do (valid_load_p tb rfl rfl rfl rfl rfl (by first | kernel_rfl | rfl)) (by first | kernel_rfl | rfl) ?_)
        | refine go_do (valid_mv (.inr rfl) rfl) rfl ?_
        | refine go_do (valid_extract rfl rfl rfl rfl) rfl ?_
        | refine go_do (valid_call rfl rfl rfl (hV) (by kernel_rfl)) rfl ?_)
    | refine aw_text rfl ?_
    | refine aw_seq_k (fun K hK => ?_))
  first
    | (refine hK _ ?_; clear hK K)
    | (rename_i K1 hK1; refine hK1 _ ?_; clear hK hK1; clear K)
    | (rename_i K1 hK1; refine hK1 _ ?_; clear hK1)
  refine aw_sub (sub_of [(1, .m (.c (.p 1 0))), (2, .m (ii 0)), (4, .m (ii 1)), (5, .m (.c (.p 5 0))), (6, .m (ii 0)), (7, .m (ii 0)), (10, .m (ii 9)), (11, .m (.c (.p 11 0))), (12, .m (ii 0)), (14, .m (ii 10)), (15, .m (.c (.p 15 0))), (16, .m (ii 0)), (18, .m (ii 4)), (19, .m (.c (.p 19 0))), (20, .m (ii 1)), (21, .m (ii 0)), (22, .m (iu 5)), (23, .m (ii 2)), (24, .m (ii 0)), (27, .m (ii 3))] [(1, .live (.box k0.ce)), (5, .live (.box kAa.ce)), (11, .live (.box kB.ce)), (15, .live (.box kC.ce)), (19, .live (.box kD.ce))] ⟨by kernel_rfl, by kernel_rfl, by kernel_rfl, by kernel_rfl, by kernel_rfl, by kernel_rfl, by kernel_rfl, by kernel_rfl, by kernel_rfl, by kernel_rfl, by kernel_rfl, by kernel_rfl, by kernel_rfl, by kernel_rfl, by kernel_rfl, by kernel_rfl, by kernel_rfl, by kernel_rfl, by kernel_rfl, by kernel_rfl, trivial⟩ ⟨by kernel_rfl, by kernel_rfl, by kernel_rfl, by kernel_rfl, by kernel_rfl, trivial⟩ (by kernel_rfl)) ?_
  repeat (first
    | (refine go_at rfl ?_; first
        | refine go_do (valid_mv (.inl rfl) rfl) rfl ?_
        | (refine nxt_s 1 rfl ?_; refine go_do (valid_load_p tb rfl rfl rfl rfl rfl (by first | kernel_rfl | rfl)) (by first | kernel_rfl | rfl) ?_)
        | (refine nxt_s 1 rfl ?_; refine go_do (valid_fld_p tb rfl rfl rfl (by kernel_rfl)) rfl ?_)
        | refine go_do (valid_mv (.inr rfl) rfl) rfl ?_
        | refine go_do (valid_pick rfl rfl rfl) rfl ?_
        | refine go_do (valid_cmp rfl rfl rfl rfl (by first | exact .eql1 (by omega) | exact .eql0 (by omega) | exact .neq1 (by omega) | exact .neq0 (by omega) | exact .lss1 (by omega) | exact .lss0 (by omega) | exact .leq1 (by omega) | exact .leq0 (by omega) | exact .gtr1 (by omega) | exact .gtr0 (by omega) | exact .geq1 (by omega) | exact .geq0 (by omega) | constructor)) rfl ?_
        | refine go_do (valid_len_s rfl rfl rfl rfl) rfl ?_
        | (refine nxt_s 3 rfl ?_; refine go_do (valid_load_q tb rfl rfl rfl rfl (by first | kernel_rfl | rfl)) rfl ?_)
        | refine go_do (valid_build rfl rfl rfl rfl) rfl ?_
        | refine go_do (valid_call rfl rfl rfl (free3 4 4) rfl) rfl ?_
        | refine go_do (valid_call rfl rfl rfl (free2 4 4) rfl) rfl ?_
        | refine go_do (valid_idx_s rfl rfl rfl rfl rfl rfl (by decide) (by decide) _ hx) rfl ?_
        | refine go_do (valid_eql (us := [.int .u64 8, .int .u64 1, .int .u64 5]) (vs := [.int .u64 8, .int .u64 1, .int .u64 5]) e1 (by kernel_rfl) rfl rfl rfl rfl) rfl ?_
        | refine go_do (valid_eql (us := [.bool false, .int .u64 0, .bool true, .int .u64 1]) (vs := [.bool false, .int .u64 0, .bool true, .int .u64 1]) e2 (by kernel_rfl) rfl rfl rfl rfl) rfl ?_)
    | (refine hK _ ?_; clear hK K)
    | refine aw_text rfl ?_
    | exact aw_ret (show resA _ _ _ = some _ by kernel_rfl)
    | refine aw_seq_k (fun K hK => ?_))
end Go.Proofs.YtkffmaeiplgjeaaGreatDoor.SpP
/- The abstract walk: the law SpaceKeeps. -/
namespace Go.Proofs.YtkffmaeiplgjeaaGreatDoor.SpQ
open Go.RowKit Go.Proofs.YtkffmaeiplgjeaaGreatDoor.Bv Go.Proofs.YtkffmaeiplgjeaaGreatDoor.VaSpec Go.Proofs.YtkffmaeiplgjeaaGreatDoor.Base Go.Proofs.YtkffmaeiplgjeaaGreatDoor.MemL Go.Proofs.YtkffmaeiplgjeaaGreatDoor.RegR Go.Proofs.YtkffmaeiplgjeaaGreatDoor.Ax Go.Proofs.YtkffmaeiplgjeaaGreatDoor.MemC Go.Proofs.YtkffmaeiplgjeaaGreatDoor.PutC Go.Proofs.YtkffmaeiplgjeaaGreatDoor.MemC3 Go.Proofs.YtkffmaeiplgjeaaGreatDoor.TzC Go.Proofs.YtkffmaeiplgjeaaGreatDoor.OkS Go.Proofs.YtkffmaeiplgjeaaGreatDoor.SpA Go.Proofs.YtkffmaeiplgjeaaGreatDoor.SpB Go.Proofs.YtkffmaeiplgjeaaGreatDoor.SpC Go.Proofs.YtkffmaeiplgjeaaGreatDoor.SpD Go.Proofs.YtkffmaeiplgjeaaGreatDoor.IterC Go.Proofs.YtkffmaeiplgjeaaGreatDoor.SpE Go.Proofs.YtkffmaeiplgjeaaGreatDoor.SpF Go.Proofs.YtkffmaeiplgjeaaGreatDoor.SpG Go.Proofs.YtkffmaeiplgjeaaGreatDoor.SpH Go.Proofs.YtkffmaeiplgjeaaGreatDoor.SpI Go.Proofs.YtkffmaeiplgjeaaGreatDoor.SpJ Go.Proofs.YtkffmaeiplgjeaaGreatDoor.SpK Go.Proofs.YtkffmaeiplgjeaaGreatDoor.SpN Go.Proofs.YtkffmaeiplgjeaaGreatDoor.SpO Go.Proofs.YtkffmaeiplgjeaaGreatDoor.SpP
open Go.Proofs.YtkffmaeiplgjeaaGreatDoor.BitsC Go.Proofs.YtkffmaeiplgjeaaGreatDoor.PteSpec
set_option linter.unusedVariables false
set_option linter.unusedSimpArgs false
set_option maxRecDepth 10000
set_option maxHeartbeats 800000
attribute [local irreducible] Go.Proofs.YtkffmaeiplgjeaaGreatDoor.Ax.CallOk
def flD (l : List (Int × Int)) : List Value := l.flatMap fun d => [.int .u8 d.1, .int .u8 d.2]
theorem flD_at {l : List (Int × Int)} {k : Nat} {c : Int × Int} (h : l[k]? = some c) : ((flD l).drop (k * 2)).take 2 = [.int .u8 c.1, .int .u8 c.2] := flat_at (fun c : Int × Int => [.int .u8 c.1, .int .u8 c.2]) 2 (fun _ => rfl) l _ c h
def D8 (d : Int × Int) : Prop := (0 ≤ d.1 ∧ d.1 < 256) ∧ (0 ≤ d.2 ∧ d.2 < 256)
def keepsH (l : List (Int × Int)) (e : Int × Int) (i : Nat) (k : Kr) : St := St.of [(1, .m (.c (.s l.length 2 (flD l)))), (5, .m (.c (.p 5 0))), (7, .m (.c (.p 7 0))), (9, .m (ii i))] [(5, .live (.box [i8 e.1, i8 e.2])), (7, .live (.box k.ce))]
end Go.Proofs.YtkffmaeiplgjeaaGreatDoor.SpQ
/- Arguments opened (structs by value), and all arguments read again where nothing below has changed. -/
namespace Go.Proofs.YtkffmaeiplgjeaaGreatDoor.Open
open Go.RowKit Go.WideShapes Go.ChangeShapes Go.Proofs.YtkffmaeiplgjeaaGreatDoor.Base
set_option linter.unusedVariables false
set_option linter.unusedSimpArgs false
set_option maxRecDepth 10000
section
variable {H : Type} {enc : TypeId × Value → H} {P : Program}
theorem keepAll (hl : laidOutB P = true) {W W' : World} (hb : Below W.heap.size W W') : ∀ {ts : List TypeId} {vs : List Value} {ds : List (DataW H)} {ps : List MemPlace},
    (ts.all fun t => P.readableRec t && decide (t < P.types.size)) = true → DataW.TrodAll enc P W 0 (fun _ => true) true ts vs ds ps → DataW.TrodAll enc P W' 0 (fun b => decide (b < W.heap.size)) true ts vs ds ps
  | [], [], [], _, _, h => h
  | t :: ts, v :: vs, d :: ds, ps, ht, ⟨a, b, h1, h2, e⟩ => by
    simp only [List.all_cons, Bool.and_eq_true, decide_eq_true_eq] at ht
    have h1' := h1
    obtain ⟨n, hn⟩ := h1
    exact ⟨a, b, Below.trod hl ht.1.1 ht.1.2 h1' hb (fun x hx => DataW.trod_lt n t _ _ hn x hx), keepAll hl hb ht.2 h2, e⟩
end
section
variable {H : Type} {enc : TypeId × Value → H} {W : World} {base b0 : Nat} {sp : Nat → Bool} {held : Bool} {n : Nat} {r : Reach}
theorem cell_bool {c : Value} {x : Option (DataW H × List MemPlace)} {y : DataW H × List MemPlace} (h : DataW.trod enc Tryz.prog W base sp held n 4 [c] = x) (hx : x = some y) : ∃ b, c = .bool b := by
  rw [hx] at h
  obtain ⟨b, e, _⟩ := DataW.trod_bool Tryz.underlying4 h
  exact ⟨b, by simpa using e⟩
theorem cell_u64 {c : Value} {x : Option (DataW H × List MemPlace)} {y : DataW H × List MemPlace} (h : DataW.trod enc Tryz.prog W base sp held n 26 [c] = x) (hx : x = some y) : ∃ a, c = .int .u64 a ∧ U a := by
  rw [hx] at h
  obtain ⟨b, e, _, wf⟩ := DataW.trod_int Tryz.underlying26 h
  exact ⟨b, by simpa using e, U.of wf⟩
theorem cell_int {c : Value} {x : Option (DataW H × List MemPlace)} {y : DataW H × List MemPlace} (h : DataW.trod enc Tryz.prog W base sp held n 3 [c] = x) (hx : x = some y) : ∃ a, c = .int .i64 a ∧ (-9223372036854775808 ≤ a ∧ a ≤ 9223372036854775807) := by
  rw [hx] at h
  obtain ⟨b, e, _, wf⟩ := DataW.trod_int Tryz.underlying3 h
  refine ⟨b, by simpa using e, ?_⟩
  simp [Lit.wf, IntKind.min, IntKind.max, IntKind.bits, IntKind.signed] at wf; omega
theorem some_of {α : Type} {xs : List α} {m i : Nat} (h : xs.length = m) (hi : i < m) : ∃ y, xs[i]? = some y := ⟨xs[i]'(by omega), List.getElem?_eq_getElem _⟩
theorem open_pte {v : Value} {d : DataW H} {p : List MemPlace} (hv : Value.okWide Tryz.prog W r b0 102 v) (h : DataW.Trod enc Tryz.prog W base sp held 102 v d p) :
    ∃ x0 x1 x2 x3 x4 x5 x6 x7 x8 x9 x10, v = .agg #[.bool x0, .bool x1, .bool x2, .bool x3, .bool x4, .bool x5, .bool x6, .bool x7, .int .u64 x8, .int .u64 x9, .int .u64 x10] ∧ U x8 ∧ U x9 ∧ U x10 := by
  obtain ⟨⟨l⟩, rfl, hsz⟩ := okWide_struct Tryz.underlying102 hv
  rw [show Tryz.prog.cellsOf 102 = 11 by kernel_rfl] at hsz
  obtain ⟨fuel, hf⟩ := h
  obtain ⟨xs, n, _, _, _, hlen, hfd⟩ := DataW.trod_struct Tryz.underlying102 hf
  match l, hsz with
  | [c0, c1, c2, c3, c4, c5, c6, c7, c8, c9, c10], _ =>
    have g := fun i f (e : _ = some f) => hfd i f e
    have k4 : Tryz.prog.cellsOf 4 = 1 := by kernel_rfl
    have k64 : Tryz.prog.cellsOf 26 = 1 := by kernel_rfl
    have h0 : DataW.trod enc Tryz.prog W base sp held n 4 [c0] = xs[0]? := by have := g 0 _ rfl; simpa [Value.cells, k4, k64] using this
    have h1 : DataW.trod enc Tryz.prog W base sp held n 4 [c1] = xs[1]? := by have := g 1 _ rfl; simpa [Value.cells, k4, k64] using this
    have h2 : DataW.trod enc Tryz.prog W base sp held n 4 [c2] = xs[2]? := by have := g 2 _ rfl; simpa [Value.cells, k4, k64] using this
    have h3 : DataW.trod enc Tryz.prog W base sp held n 4 [c3] = xs[3]? := by have := g 3 _ rfl; simpa [Value.cells, k4, k64] using this
    have h4 : DataW.trod enc Tryz.prog W base sp held n 4 [c4] = xs[4]? := by have := g 4 _ rfl; simpa [Value.cells, k4, k64] using this
    have h5 : DataW.trod enc Tryz.prog W base sp held n 4 [c5] = xs[5]? := by have := g 5 _ rfl; simpa [Value.cells, k4, k64] using this
    have h6 : DataW.trod enc Tryz.prog W base sp held n 4 [c6] = xs[6]? := by have := g 6 _ rfl; simpa [Value.cells, k4, k64] using this
    have h7 : DataW.trod enc Tryz.prog W base sp held n 4 [c7] = xs[7]? := by have := g 7 _ rfl; simpa [Value.cells, k4, k64] using this
    have h8 : DataW.trod enc Tryz.prog W base sp held n 26 [c8] = xs[8]? := by have := g 8 _ rfl; simpa [Value.cells, k4, k64] using this
    have h9 : DataW.trod enc Tryz.prog W base sp held n 26 [c9] = xs[9]? := by have := g 9 _ rfl; simpa [Value.cells, k4, k64] using this
    have h10 : DataW.trod enc Tryz.prog W base sp held n 26 [c10] = xs[10]? := by have := g 10 _ rfl; simpa [Value.cells, k4, k64] using this
    have hl : xs.length = 11 := hlen
    obtain ⟨y0, q0⟩ := some_of hl (show 0 < 11 by decide)
    obtain ⟨y1, q1⟩ := some_of hl (show 1 < 11 by decide)
    obtain ⟨y2, q2⟩ := some_of hl (show 2 < 11 by decide)
    obtain ⟨y3, q3⟩ := some_of hl (show 3 < 11 by decide)
    obtain ⟨y4, q4⟩ := some_of hl (show 4 < 11 by decide)
    obtain ⟨y5, q5⟩ := some_of hl (show 5 < 11 by decide)
    obtain ⟨y6, q6⟩ := some_of hl (show 6 < 11 by decide)
    obtain ⟨y7, q7⟩ := some_of hl (show 7 < 11 by decide)
    obtain ⟨y8, q8⟩ := some_of hl (show 8 < 11 by decide)
    obtain ⟨y9, q9⟩ := some_of hl (show 9 < 11 by decide)
    obtain ⟨y10, q10⟩ := some_of hl (show 10 < 11 by decide)
    obtain ⟨x0, rfl⟩ := cell_bool (c := c0) h0 q0
    obtain ⟨x1, rfl⟩ := cell_bool (c := c1) h1 q1
    obtain ⟨x2, rfl⟩ := cell_bool (c := c2) h2 q2
    obtain ⟨x3, rfl⟩ := cell_bool (c := c3) h3 q3
    obtain ⟨x4, rfl⟩ := cell_bool (c := c4) h4 q4
    obtain ⟨x5, rfl⟩ := cell_bool (c := c5) h5 q5
    obtain ⟨x6, rfl⟩ := cell_bool (c := c6) h6 q6
    obtain ⟨x7, rfl⟩ := cell_bool (c := c7) h7 q7
    obtain ⟨x8, rfl, u8⟩ := cell_u64 (c := c8) h8 q8
    obtain ⟨x9, rfl, u9⟩ := cell_u64 (c := c9) h9 q9
    obtain ⟨x10, rfl, u10⟩ := cell_u64 (c := c10) h10 q10
    exact ⟨x0, x1, x2, x3, x4, x5, x6, x7, x8, x9, x10, rfl, u8, u9, u10⟩
theorem open_perm {v : Value} {d : DataW H} {p : List MemPlace} (hv : Value.okWide Tryz.prog W r b0 158 v) (h : DataW.Trod enc Tryz.prog W base sp held 158 v d p) :
    ∃ x0 x1 x2 x3, v = .agg #[.bool x0, .bool x1, .bool x2, .bool x3] := by
  obtain ⟨⟨l⟩, rfl, hsz⟩ := okWide_struct Tryz.underlying158 hv
  rw [show Tryz.prog.cellsOf 158 = 4 by kernel_rfl] at hsz
  obtain ⟨fuel, hf⟩ := h
  obtain ⟨xs, n, _, _, _, hlen, hfd⟩ := DataW.trod_struct Tryz.underlying158 hf
  match l, hsz with
  | [c0, c1, c2, c3], _ =>
    have g := fun i f (e : _ = some f) => hfd i f e
    have k4 : Tryz.prog.cellsOf 4 = 1 := by kernel_rfl
    have hl : xs.length = 4 := hlen
    have h0 : DataW.trod enc Tryz.prog W base sp held n 4 [c0] = xs[0]? := by have := g 0 _ rfl; simpa [Value.cells, k4] using this
    obtain ⟨y0, q0⟩ := some_of hl (show 0 < 4 by decide)
    obtain ⟨x0, rfl⟩ := cell_bool (c := c0) h0 q0
    have h1 : DataW.trod enc Tryz.prog W base sp held n 4 [c1] = xs[1]? := by have := g 1 _ rfl; simpa [Value.cells, k4] using this
    obtain ⟨y1, q1⟩ := some_of hl (show 1 < 4 by decide)
    obtain ⟨x1, rfl⟩ := cell_bool (c := c1) h1 q1
    have h2 : DataW.trod enc Tryz.prog W base sp held n 4 [c2] = xs[2]? := by have := g 2 _ rfl; simpa [Value.cells, k4] using this
    obtain ⟨y2, q2⟩ := some_of hl (show 2 < 4 by decide)
    obtain ⟨x2, rfl⟩ := cell_bool (c := c2) h2 q2
    have h3 : DataW.trod enc Tryz.prog W base sp held n 4 [c3] = xs[3]? := by have := g 3 _ rfl; simpa [Value.cells, k4] using this
    obtain ⟨y3, q3⟩ := some_of hl (show 3 < 4 by decide)
    obtain ⟨x3, rfl⟩ := cell_bool (c := c3) h3 q3
    exact ⟨x0, x1, x2, x3, rfl⟩
end
end Go.Proofs.YtkffmaeiplgjeaaGreatDoor.Open
/- What the program's text lays ahead of the call; arguments opened: configurations, deeds. -/
namespace Go.Proofs.YtkffmaeiplgjeaaGreatDoor.Laid
open Go.ChangeShapes Go.WideShapes Go.ChangeAt Go.RowKit Go.Proofs.YtkffmaeiplgjeaaGreatDoor.Ax Go.Proofs.YtkffmaeiplgjeaaGreatDoor.OkS Go.Proofs.YtkffmaeiplgjeaaGreatDoor.SpQ Go.Proofs.YtkffmaeiplgjeaaGreatDoor.MemL
set_option linter.unusedVariables false
set_option linter.unusedSimpArgs false
set_option maxRecDepth 10000
def laidS : List (String × DataW Unit) := [("atlas/va.sizes", Rows.laid_atlas_va_sizes), ("math/bits.deBruijn64tab", Rows.laid_math_bits_deBruijn64tab), ("atlas/fence.asks", Rows.laid_atlas_fence_asks)]
theorem g_sizes : Tryz.prog.globalNamed "atlas/va.sizes" = some 0 := by kernel_rfl
theorem g_tab : Tryz.prog.globalNamed "math/bits.deBruijn64tab" = some 1 := by kernel_rfl
theorem g_asks : Tryz.prog.globalNamed "atlas/fence.asks" = some 2 := by kernel_rfl
theorem t_sizes : (Tryz.prog.globals[0]?).map (·.type) = some 168 := by kernel_rfl
theorem t_tab : (Tryz.prog.globals[1]?).map (·.type) = some 176 := by kernel_rfl
theorem t_asks : (Tryz.prog.globals[2]?).map (·.type) = some 180 := by kernel_rfl
theorem gg_of_laid {W : World} (h : laidMetH Tryz.prog laidS W) : GG W := by
  have hp := (show laidMet Tryz.prog _ W ∧ handlesMet Tryz.prog _ W from h).1
  obtain ⟨ps, ⟨g1, t1, cs1, f1, p1, q1, hg1, ht1, hv1, hd1, hr, _⟩, _, _⟩ := hp
  obtain ⟨g2, t2, cs2, f2, p2, q2, hg2, ht2, hv2, hd2, _, _⟩ := hr
  obtain rfl := Option.some.inj (g_sizes.symm.trans hg1)
  obtain rfl := Option.some.inj (t_sizes.symm.trans ht1)
  obtain rfl := Option.some.inj (g_tab.symm.trans hg2)
  obtain rfl := Option.some.inj (t_tab.symm.trans ht2)
  have e1 := Lib.cells_of_tab (k := .u64) (zs := [4096, 2097152, 1073741824]) Tryz.underlying168 Tryz.underlying26 (by kernel_rfl) (by kernel_rfl) hd1
  have e2 := Lib.cells_of_tab (k := .u8) (zs := List.map (fun n : Nat => (n : Int)) Lib.deBruijn64tab) Tryz.underlying176 Tryz.underlying5 (by kernel_rfl) (by kernel_rfl) hd2
  obtain ⟨g, t, cs, fuel, p, hg, ht, hv, hd⟩ := h.funcs (n := "atlas/fence.asks") (List.mem_cons_of_mem _ (List.mem_cons_of_mem _ (List.mem_cons_self ..)))
  obtain rfl := Option.some.inj (g_asks.symm.trans hg)
  obtain rfl := Option.some.inj (t_asks.symm.trans ht)
  have hd' : DataW.trod (funcToken Tryz.prog) Tryz.prog W 0 (fun _ => true) true fuel 180 cs.toList = some (.slice [.held [40, 97, 116, 108, 97, 115, 47, 102, 101, 110, 99, 101, 46, 102, 111, 114, 109, 41, 46, 97, 100, 100, 114], .held [40, 97, 116, 108, 97, 115, 47, 102, 101, 110, 99, 101, 46, 102, 111, 114, 109, 41, 46, 97, 115, 105, 100]] [], p) := hd
  obtain ⟨a, cap, hcs, _, hel⟩ := open_row Tryz.underlying180 (by kernel_rfl) hd'
  obtain ⟨v0, n0, q0, hc0, hr0⟩ := hel 0 _ rfl
  obtain ⟨v1, n1, q1', hc1, hr1⟩ := hel 1 _ rfl
  obtain rfl := func_of_trod (f0 := 163) Tryz.underlying181 (by kernel_rfl) hr0
  obtain rfl := func_of_trod (f0 := 165) Tryz.underlying181 (by kernel_rfl) hr1
  obtain ⟨b, off, spot⟩ := a
  have hspot : spot = none := by simpa [Addr.add] using World.cell?_spot hc0
  subst hspot
  have c1 : ∀ i, W.cell? ⟨0, i, none⟩ = cs1[i]? := fun i => by simpa using World.var?_cell hg1 hv1 i
  have c2 : ∀ i, W.cell? ⟨1, i, none⟩ = cs2[i]? := fun i => by simpa using World.var?_cell hg2 hv2 i
  have c3 : ∀ i, W.cell? ⟨2, i, none⟩ = cs[i]? := fun i => by simpa using World.var?_cell hg hv i
  refine ⟨⟨?_, ?_, ?_⟩, fun j hj => ?_, b, off, cap, ?_, by simpa [Addr.add, askF] using hc0, by simpa [Addr.add, askF] using hc1⟩
  · rw [c1, ← Array.getElem?_toList, e1]; rfl
  · rw [c1, ← Array.getElem?_toList, e1]; rfl
  · rw [c1, ← Array.getElem?_toList, e1]; rfl
  · rw [c2, ← Array.getElem?_toList, e2]
    simp [List.getD, hj]
  · rw [c3, ← Array.getElem?_toList, hcs]; rfl
theorem u8_of {a : Int} (wf : (Lit.int .u8 a).wf = true) : 0 ≤ a ∧ a < 256 := by
  simp [Lit.wf, IntKind.min, IntKind.max, IntKind.bits, IntKind.signed] at wf; omega
section
variable {H : Type} {enc : TypeId × Value → H} {W : World} {base b0 : Nat} {sp : Nat → Bool} {held : Bool} {n : Nat} {r : Reach}
theorem cell_u8 {c : Value} {x : Option (DataW H × List MemPlace)} {y : DataW H × List MemPlace} (h : DataW.trod enc Tryz.prog W base sp held n 5 [c] = x) (hx : x = some y) : ∃ a, c = .int .u8 a ∧ (0 ≤ a ∧ a < 256) := by
  rw [hx] at h
  obtain ⟨b, e, _, wf⟩ := DataW.trod_int Tryz.underlying5 h
  refine ⟨b, by simpa using e, ?_⟩
  simp [Lit.wf, IntKind.min, IntKind.max, IntKind.bits, IntKind.signed] at wf; omega
theorem open_conf {v : Value} {d : DataW H} {p : List MemPlace} (hv : Value.okWide Tryz.prog W r b0 23 v) (h : DataW.Trod enc Tryz.prog W base sp held 23 v d p) :
    ∃ x0 x1 x2 x3, v = .agg #[.int .i64 x0, .int .i64 x1, .int .i64 x2, .int .i64 x3] := by
  obtain ⟨⟨l⟩, rfl, hsz⟩ := okWide_struct Tryz.underlying23 hv
  rw [show Tryz.prog.cellsOf 23 = 4 by kernel_rfl] at hsz
  obtain ⟨fuel, hf⟩ := h
  obtain ⟨xs, n, _, _, _, hlen, hfd⟩ := DataW.trod_struct Tryz.underlying23 hf
  match l, hsz with
  | [c0, c1, c2, c3], _ =>
    have g := fun i f (e : _ = some f) => hfd i f e
    have k4 : Tryz.prog.cellsOf 3 = 1 := by kernel_rfl
    have hl : xs.length = 4 := hlen
    have h0 : DataW.trod enc Tryz.prog W base sp held n 3 [c0] = xs[0]? := by have := g 0 _ rfl; simpa [Value.cells, k4] using this
    obtain ⟨y0, q0⟩ := Open.some_of hl (show 0 < 4 by decide)
    obtain ⟨x0, rfl, _⟩ := Open.cell_int (c := c0) h0 q0
    have h1 : DataW.trod enc Tryz.prog W base sp held n 3 [c1] = xs[1]? := by have := g 1 _ rfl; simpa [Value.cells, k4] using this
    obtain ⟨y1, q1⟩ := Open.some_of hl (show 1 < 4 by decide)
    obtain ⟨x1, rfl, _⟩ := Open.cell_int (c := c1) h1 q1
    have h2 : DataW.trod enc Tryz.prog W base sp held n 3 [c2] = xs[2]? := by have := g 2 _ rfl; simpa [Value.cells, k4] using this
    obtain ⟨y2, q2⟩ := Open.some_of hl (show 2 < 4 by decide)
    obtain ⟨x2, rfl, _⟩ := Open.cell_int (c := c2) h2 q2
    have h3 : DataW.trod enc Tryz.prog W base sp held n 3 [c3] = xs[3]? := by have := g 3 _ rfl; simpa [Value.cells, k4] using this
    obtain ⟨y3, q3⟩ := Open.some_of hl (show 3 < 4 by decide)
    obtain ⟨x3, rfl, _⟩ := Open.cell_int (c := c3) h3 q3
    exact ⟨x0, x1, x2, x3, rfl⟩
theorem open_deed {v : Value} {d : DataW H} {p : List MemPlace} (hv : Value.okWide Tryz.prog W r b0 54 v) (h : DataW.Trod enc Tryz.prog W base sp held 54 v d p) :
    ∃ x : Int × Int, v = .agg #[.int .u8 x.1, .int .u8 x.2] ∧ D8 x := by
  obtain ⟨⟨l⟩, rfl, hsz⟩ := okWide_struct Tryz.underlying54 hv
  rw [show Tryz.prog.cellsOf 54 = 2 by kernel_rfl] at hsz
  obtain ⟨fuel, hf⟩ := h
  obtain ⟨xs, n, _, _, _, hlen, hfd⟩ := DataW.trod_struct Tryz.underlying54 hf
  match l, hsz with
  | [c0, c1], _ =>
    have g := fun i f (e : _ = some f) => hfd i f e
    have k4 : Tryz.prog.cellsOf 5 = 1 := by kernel_rfl
    have hl : xs.length = 2 := hlen
    have h0 : DataW.trod enc Tryz.prog W base sp held n 5 [c0] = xs[0]? := by have := g 0 _ rfl; simpa [Value.cells, k4] using this
    obtain ⟨y0, q0⟩ := Open.some_of hl (show 0 < 2 by decide)
    obtain ⟨x0, rfl, u0⟩ := cell_u8 (c := c0) h0 q0
    have h1 : DataW.trod enc Tryz.prog W base sp held n 5 [c1] = xs[1]? := by have := g 1 _ rfl; simpa [Value.cells, k4] using this
    obtain ⟨y1, q1⟩ := Open.some_of hl (show 1 < 2 by decide)
    obtain ⟨x1, rfl, u1⟩ := cell_u8 (c := c1) h1 q1
    exact ⟨(x0, x1), rfl, u0, u1⟩
theorem addk (b off k : Nat) : (⟨b, off, none⟩ : Addr).add k = ⟨b, off + k, none⟩ := by
  unfold Addr.add; split
  · rename_i h; subst h; rfl
  · rfl
theorem flD_len (l : List (Int × Int)) : (flD l).length = l.length * 2 := by
  induction l with
  | nil => rfl
  | cons c l ih => show ((_ :: _ :: flD l).length) = _; simp only [List.length_cons, ih]; omega
theorem flD_get : ∀ (l : List (Int × Int)) (i : Nat) (c : Int × Int), l[i]? = some c → (flD l)[i * 2]? = some (.int .u8 c.1) ∧ (flD l)[i * 2 + 1]? = some (.int .u8 c.2)
  | [], i, c, h => by simp at h
  | x :: l, 0, c, h => by simp at h; subst h; exact ⟨rfl, rfl⟩
  | x :: l, i + 1, c, h => by
    have := flD_get l i c (by simpa using h)
    rw [show (i + 1) * 2 = i * 2 + 1 + 1 by omega]
    exact this
theorem open_deeds {v : Value} {d : DataW H} {p : List MemPlace} (hv : Value.okWide Tryz.prog W r b0 50 v) (h : DataW.Trod enc Tryz.prog W base (fun _ => true) held 50 v d p) :
    ∃ l : List (Int × Int), (∀ x ∈ l, D8 x) ∧ Ce.R (en0 (fun _ => True) W) (.s l.length 2 (flD l)) v := by
  obtain ⟨a, len, cap, rfl⟩ := okWide_slice Tryz.underlying50 hv
  obtain ⟨fuel, hf⟩ := h
  have hf : DataW.trod enc Tryz.prog W base (fun _ => true) held fuel 50 [.slice a len cap] = some (d, p) := hf
  rcases Deep.open_slice_pairs Tryz.underlying50 Tryz.underlying54 (by kernel_rfl) rfl rfl (by kernel_rfl) (by kernel_rfl) hf with ⟨e, _⟩ | ⟨a', len', cap', m, k, V0, V1, D0, D1, P0, P1, e, _, hl, hm, hmm, _, hx⟩
  · simp only [List.cons.injEq, and_true] at e
    refine ⟨[], fun x hx => (by cases hx), ?_⟩
    rw [e]
    exact ⟨⟨rfl, .inl ⟨rfl, rfl⟩⟩, fun a l c e => by cases e⟩
  · simp only [List.cons.injEq, and_true, Value.slice.injEq] at e
    obtain ⟨rfl, rfl, rfl⟩ := e
    have hok : Cell.ok Tryz.prog W r b0 50 (.slice (some a') len cap) := by
      have hv := hv
      unfold Value.okWide at hv
      rw [Tryz.underlying50] at hv
      unfold Cell.okWide at hv
      rw [Tryz.underlying50] at hv
      exact hv
    unfold Cell.ok at hok
    rw [Tryz.underlying50] at hok
    obtain ⟨_, _, _, hsp, row, cells, hsh, _⟩ := hok
    obtain ⟨b, off, spot⟩ := a'
    have hsp : spot = none := hsp
    subst hsp
    have hb : b < W.heap.size := by
      rcases Nat.lt_or_ge b W.heap.size with h | h
      · exact h
      · have hsh : W.shape? b = some (row, cells) := hsh
        unfold World.shape? at hsh
        rw [Array.getElem?_eq_none h] at hsh
        cases hsh
    have ku : ∀ i, i < len → ∃ c : Int × Int, V0 i = .int .u8 c.1 ∧ V1 i = .int .u8 c.2 ∧ D8 c := fun i hi => by
      obtain ⟨_, _, h0, h1⟩ := hx i (by rw [hmm]; simp; omega)
      obtain ⟨x0, e0, u0⟩ := cell_u8 h0 rfl
      obtain ⟨x1, e1, u1⟩ := cell_u8 h1 rfl
      exact ⟨(x0, x1), e0, e1, u0, u1⟩
    obtain ⟨f, hf⟩ := Deep.choose_lt (α := Int × Int) (p := fun i c => V0 i = .int .u8 c.1 ∧ V1 i = .int .u8 c.2 ∧ D8 c) ku
    have hlen : ((List.range len).map f).length = len := by simp
    refine ⟨(List.range len).map f, fun x hx => ?_, ⟨by rw [flD_len], .inr ⟨b, off, cap, by rw [hlen], hb, by rw [hlen]; exact hl, hm, fun i hi => ?_⟩⟩, fun _ _ _ _ => trivial⟩
    · obtain ⟨i, hi, rfl⟩ := List.mem_map.1 hx
      exact (hf i (List.mem_range.1 hi)).2.2
    · rw [hlen] at hi
      have hi2 : i / 2 < len := by omega
      obtain ⟨c0, c1, _, _⟩ := hx (i / 2) (by rw [hmm]; simp; omega)
      obtain ⟨e0, e1, _⟩ := hf (i / 2) hi2
      have hg := flD_get ((List.range len).map f) (i / 2) (f (i / 2)) (by simp [hi2])
      rcases (by omega : i = i / 2 * 2 ∨ i = i / 2 * 2 + 1) with e | e
      · rw [e, hg.1, ← e0]
        rw [addk] at c0
        exact c0
      · rw [e, hg.2, ← e1]
        rw [addk] at c1
        exact c1
theorem flF_len (l : List SpB.Fe) : (SpB.flF l).length = l.length * 4 := by
  induction l with
  | nil => rfl
  | cons c l ih => show ((_ :: _ :: _ :: _ :: SpB.flF l).length) = _; simp only [List.length_cons, ih]; omega
theorem flF_get : ∀ (l : List SpB.Fe) (i : Nat) (c : SpB.Fe), l[i]? = some c → (SpB.flF l)[i * 4]? = some (.bool c.ha) ∧ (SpB.flF l)[i * 4 + 1]? = some (.int .u64 c.ad) ∧ (SpB.flF l)[i * 4 + 2]? = some (.bool c.hs) ∧ (SpB.flF l)[i * 4 + 3]? = some (.int .u64 c.sn)
  | [], i, c, h => by simp at h
  | x :: l, 0, c, h => by simp at h; subst h; exact ⟨rfl, rfl, rfl, rfl⟩
  | x :: l, i + 1, c, h => by
    have := flF_get l i c (by simpa using h)
    rw [show (i + 1) * 4 = i * 4 + 1 + 1 + 1 + 1 by omega]
    exact this
theorem open_fences {v : Value} {d : DataW H} {p : List MemPlace} (hv : Value.okWide Tryz.prog W r b0 42 v) (h : DataW.Trod enc Tryz.prog W base (fun _ => true) held 42 v d p) :
    ∃ l : List SpB.Fe, (∀ x ∈ l, Base.U x.ad) ∧ Ce.R (en0 (fun _ => True) W) (.s l.length 4 (SpB.flF l)) v := by
  obtain ⟨a, len, cap, rfl⟩ := okWide_slice Tryz.underlying42 hv
  obtain ⟨fuel, hf⟩ := h
  have hf : DataW.trod enc Tryz.prog W base (fun _ => true) held fuel 42 [.slice a len cap] = some (d, p) := hf
  have k4 : Tryz.prog.cellsOf 4 = 1 := by kernel_rfl
  have k64 : Tryz.prog.cellsOf 26 = 1 := by kernel_rfl
  have ke : Tryz.prog.cellsOf 73 = 4 := by kernel_rfl
  rcases Deep.open_slice Tryz.underlying42 hf with ⟨e, _⟩ | ⟨a', len', cap', m, k, D, Pl, e, _, hl, hm, hmm, _, hx⟩
  · simp only [List.cons.injEq, and_true] at e
    refine ⟨[], fun x hx => (by cases hx), ?_⟩
    rw [e]
    exact ⟨⟨rfl, .inl ⟨rfl, rfl⟩⟩, fun a l c e => by cases e⟩
  · simp only [List.cons.injEq, and_true, Value.slice.injEq] at e
    obtain ⟨rfl, rfl, rfl⟩ := e
    have hok : Cell.ok Tryz.prog W r b0 42 (.slice (some a') len cap) := by
      have hv := hv
      unfold Value.okWide at hv
      rw [Tryz.underlying42] at hv
      unfold Cell.okWide at hv
      rw [Tryz.underlying42] at hv
      exact hv
    unfold Cell.ok at hok
    rw [Tryz.underlying42] at hok
    obtain ⟨_, _, _, hsp, row, cells, hsh, _⟩ := hok
    obtain ⟨b, off, spot⟩ := a'
    have hsp : spot = none := hsp
    subst hsp
    have hb : b < W.heap.size := by
      rcases Nat.lt_or_ge b W.heap.size with h | h
      · exact h
      · have hsh : W.shape? b = some (row, cells) := hsh
        unfold World.shape? at hsh
        rw [Array.getElem?_eq_none h] at hsh
        cases hsh
    have ku : ∀ i, i < len → ∃ c : SpB.Fe, (W.cell? ⟨b, off + i * 4, none⟩ = some (.bool c.ha) ∧ W.cell? ⟨b, off + (i * 4 + 1), none⟩ = some (.int .u64 c.ad) ∧ W.cell? ⟨b, off + (i * 4 + 2), none⟩ = some (.bool c.hs) ∧ W.cell? ⟨b, off + (i * 4 + 3), none⟩ = some (.int .u64 c.sn)) ∧ Base.U c.ad := fun i hi => by
      obtain ⟨cs, g1, g2⟩ := hx i (by rw [hmm]; simp; omega)
      rw [ke] at g1
      obtain ⟨_, hlen, hcell⟩ := World.cells?_some g1
      obtain ⟨xs, n, _, _, _, hlx, hfd⟩ := DataW.trod_struct Tryz.underlying73 g2
      have g := fun i f (e : _ = some f) => hfd i f e
      have hl4 : xs.length = 4 := hlx
      match cs, hlen with
      | [c0, c1, c2, c3], _ =>
        have h0 : DataW.trod enc Tryz.prog W base (fun _ => true) held n 4 [c0] = xs[0]? := by have := g 0 _ rfl; simpa [k4, k64] using this
        obtain ⟨y0, q0⟩ := Open.some_of hl4 (show 0 < 4 by decide)
        obtain ⟨x0, rfl⟩ := Open.cell_bool (c := c0) h0 q0
        have h1 : DataW.trod enc Tryz.prog W base (fun _ => true) held n 26 [c1] = xs[1]? := by have := g 1 _ rfl; simpa [k4, k64] using this
        obtain ⟨y1, q1⟩ := Open.some_of hl4 (show 1 < 4 by decide)
        obtain ⟨x1, rfl, u1⟩ := Open.cell_u64 (c := c1) h1 q1
        have h2 : DataW.trod enc Tryz.prog W base (fun _ => true) held n 4 [c2] = xs[2]? := by have := g 2 _ rfl; simpa [k4, k64] using this
        obtain ⟨y2, q2⟩ := Open.some_of hl4 (show 2 < 4 by decide)
        obtain ⟨x2, rfl⟩ := Open.cell_bool (c := c2) h2 q2
        have h3 : DataW.trod enc Tryz.prog W base (fun _ => true) held n 26 [c3] = xs[3]? := by have := g 3 _ rfl; simpa [k4, k64] using this
        obtain ⟨y3, q3⟩ := Open.some_of hl4 (show 3 < 4 by decide)
        obtain ⟨x3, rfl, u3⟩ := Open.cell_u64 (c := c3) h3 q3
        have e0 := hcell 0 (by omega)
        have e1 := hcell 1 (by omega)
        have e2 := hcell 2 (by omega)
        have e3 := hcell 3 (by omega)
        rw [addk, addk] at e0 e1 e2 e3
        exact ⟨⟨x0, x1, x2, x3⟩, ⟨by simpa using e0, by simpa [Nat.add_assoc] using e1, by simpa [Nat.add_assoc] using e2, by simpa [Nat.add_assoc] using e3⟩, u1⟩
    haveI : Inhabited SpB.Fe := ⟨⟨false, 0, false, 0⟩⟩
    obtain ⟨f, hf⟩ := Deep.choose_lt (α := SpB.Fe) (p := fun i c => (W.cell? ⟨b, off + i * 4, none⟩ = some (.bool c.ha) ∧ W.cell? ⟨b, off + (i * 4 + 1), none⟩ = some (.int .u64 c.ad) ∧ W.cell? ⟨b, off + (i * 4 + 2), none⟩ = some (.bool c.hs) ∧ W.cell? ⟨b, off + (i * 4 + 3), none⟩ = some (.int .u64 c.sn)) ∧ Base.U c.ad) ku
    have hlen : ((List.range len).map f).length = len := by simp
    refine ⟨(List.range len).map f, fun x hx => ?_, ⟨by rw [flF_len], .inr ⟨b, off, cap, by rw [hlen], hb, by rw [hlen]; exact hl, hm, fun i hi => ?_⟩⟩, fun _ _ _ _ => trivial⟩
    · obtain ⟨i, hi, rfl⟩ := List.mem_map.1 hx
      exact (hf i (List.mem_range.1 hi)).2
    · rw [hlen] at hi
      have hi2 : i / 4 < len := by omega
      obtain ⟨⟨e0, e1, e2, e3⟩, _⟩ := hf (i / 4) hi2
      have hg := flF_get ((List.range len).map f) (i / 4) (f (i / 4)) (by simp [hi2])
      rcases (by omega : i = i / 4 * 4 ∨ i = i / 4 * 4 + 1 ∨ i = i / 4 * 4 + 2 ∨ i = i / 4 * 4 + 3) with e | e | e | e
      · rw [e, hg.1]; exact e0
      · rw [e, hg.2.1]; exact e1
      · rw [e, hg.2.2.1]; exact e2
      · rw [e, hg.2.2.2]; exact e3
end
end Go.Proofs.YtkffmaeiplgjeaaGreatDoor.Laid
/- Plain facts on words of bits: the lowest one, all of them; lists of cells, told anew. -/
namespace Go.Proofs.YtkffmaeiplgjeaaGreatDoor.RfP
open Go.RowKit Go.Proofs.YtkffmaeiplgjeaaGreatDoor.Bv Go.Proofs.YtkffmaeiplgjeaaGreatDoor.VaSpec Go.Proofs.YtkffmaeiplgjeaaGreatDoor.Base Go.Proofs.YtkffmaeiplgjeaaGreatDoor.MemL Go.Proofs.YtkffmaeiplgjeaaGreatDoor.RegR Go.Proofs.YtkffmaeiplgjeaaGreatDoor.Ax Go.Proofs.YtkffmaeiplgjeaaGreatDoor.MemC Go.Proofs.YtkffmaeiplgjeaaGreatDoor.PutC Go.Proofs.YtkffmaeiplgjeaaGreatDoor.MemC3 Go.Proofs.YtkffmaeiplgjeaaGreatDoor.TzC Go.Proofs.YtkffmaeiplgjeaaGreatDoor.OkS Go.Proofs.YtkffmaeiplgjeaaGreatDoor.SpA Go.Proofs.YtkffmaeiplgjeaaGreatDoor.SpB Go.Proofs.YtkffmaeiplgjeaaGreatDoor.SpC Go.Proofs.YtkffmaeiplgjeaaGreatDoor.SpD Go.Proofs.YtkffmaeiplgjeaaGreatDoor.IterC Go.Proofs.YtkffmaeiplgjeaaGreatDoor.SpE Go.Proofs.YtkffmaeiplgjeaaGreatDoor.SpF Go.Proofs.YtkffmaeiplgjeaaGreatDoor.SpG Go.Proofs.YtkffmaeiplgjeaaGreatDoor.SpH Go.Proofs.YtkffmaeiplgjeaaGreatDoor.SpI Go.Proofs.YtkffmaeiplgjeaaGreatDoor.SpJ Go.Proofs.YtkffmaeiplgjeaaGreatDoor.SpK Go.Proofs.YtkffmaeiplgjeaaGreatDoor.SpN
open Go.Proofs.YtkffmaeiplgjeaaGreatDoor.BitsC Go.Proofs.YtkffmaeiplgjeaaGreatDoor.PteSpec
set_option linter.unusedVariables false
set_option linter.unusedSimpArgs false
theorem low_nat {x : Int} (h : U x) (h0 : x ≠ 0) : ∃ m, x.toNat = 2 ^ (tzI x).toNat * (2 * m + 1) := by
  obtain ⟨h1, h2⟩ := h
  obtain ⟨m, hm, _⟩ := Lib.ctzFrom_spec 64 x.toNat (by omega) (by omega)
  refine ⟨m, ?_⟩
  have : (tzI x).toNat = Lib.ctzFrom 64 x.toNat := by
    unfold tzI Lib.ctz
    rw [if_neg (by omega)]; simp
  rw [this]; exact hm
theorem low_at {x : Int} (h : U x) (h0 : x ≠ 0) : bitB x (tzI x) = true := by
  obtain ⟨m, hm⟩ := low_nat h h0
  rw [bitB_eq (by unfold tzI; omega), ← BitVec.testBit_toNat, X_nat h, hm, Nat.testBit_two_pow_mul]
  simp
theorem low_under {x i : Int} (h : U x) (h0 : x ≠ 0) (hi : 0 ≤ i) (hlt : i < tzI x) : bitB x i = false := by
  obtain ⟨m, hm⟩ := low_nat h h0
  rw [bitB_eq hi, ← BitVec.testBit_toNat, X_nat h, hm, Nat.testBit_two_pow_mul]
  simp; omega
theorem bit_zero (i : Int) (hi : 0 ≤ i) : bitB 0 i = false := by
  rw [bitB_eq hi]
  rw [show X 0 = 0#64 from rfl, BitVec.getLsbD_zero]
theorem getI_bit (x i : Int) (hi : 0 ≤ i) : (getI x i 1 == 0) = !bitB x i := by
  have hu := getI_U x i 1
  have hlt : getI x i 1 < 2 := by
    unfold getI
    have hb := fun j => getB_bit (X x) i.toNat 1 j
    have : (getB (X x) i.toNat 1).toNat < 2 ^ 1 := lt_of_bits fun j hj => by rw [hb j, decide_eq_false (by omega), Bool.false_and]
    rw [show (1 : Int).toNat = 1 from rfl]; unfold B; omega
  unfold bitB
  rcases (by have := hu.1; omega : getI x i 1 = 0 ∨ getI x i 1 = 1) with e | e <;> rw [e] <;> rfl
theorem ones_bit (j : Nat) (hj : j < 64) : (X 18446744073709551615).getLsbD j = true := by
  rw [show X 18446744073709551615 = BitVec.allOnes 64 from rfl, BitVec.getLsbD_allOnes, decide_eq_true hj]
theorem allI_step (i : Int) (h0 : 0 ≤ i) (h : i < 64) : setI (allI i) i 1 1 = allI (i + 1) := by
  unfold setI allI getI
  rw [X_B]
  congr 1
  apply BitVec.eq_of_getLsbD_eq
  intro j hj
  rw [setB_bit, getB_bit, getB_bit, decide_eq_true hj, Bool.true_and, show (1 : Int).toNat = 1 from rfl, show (0 : Int).toNat = 0 from rfl, Nat.zero_add, ones_bit j hj, Bool.and_true, Bool.and_true]
  by_cases e : j = i.toNat
  · rw [if_pos ⟨by omega, by omega⟩, e, Nat.sub_self, decide_eq_true (by omega)]; rfl
  · rw [if_neg (by omega)]
    by_cases e2 : j < i.toNat
    · rw [decide_eq_true e2, decide_eq_true (by omega)]
    · rw [decide_eq_false e2, decide_eq_false (by omega)]
theorem allI_zero : allI 0 = 0 := by
  unfold allI
  rw [getI_val _ _ _ ⟨by omega, by omega⟩ (by omega)]
  decide
theorem allI_U (n : Int) : U (allI n) := getI_U _ _ _
end Go.Proofs.YtkffmaeiplgjeaaGreatDoor.RfP
/- The reference's bits, and words with their sign, made of arrays of bits: they come to the same words. -/
namespace Go.Proofs.YtkffmaeiplgjeaaGreatDoor.RefS
set_option linter.unusedVariables false
open Go.RowKit Go.Proofs.YtkffmaeiplgjeaaGreatDoor.Bv Go.Proofs.YtkffmaeiplgjeaaGreatDoor.VaSpec Go.Proofs.YtkffmaeiplgjeaaGreatDoor.Base
def hi (f : Nat → Bool) : Nat → Nat
  | 0 => 0
  | k + 1 => 2 * hi f k + (f (63 - k)).toNat
theorem hi_succ (f : Nat → Bool) (k : Nat) : hi f (k + 1) = 2 * hi f k + (f (63 - k)).toNat := rfl
theorem hi_lt (f : Nat → Bool) (k : Nat) : hi f k < 2 ^ k := by
  induction k with
  | zero => simp [hi]
  | succ k ih => rw [hi_succ]; have := Bool.toNat_le (f (63 - k)); rw [Nat.pow_succ]; omega
set_option maxHeartbeats 400000 in
set_option maxRecDepth 100000 in
theorem of_calls (f : Nat → Bool) (cs : Array Value) (w : World) (hsz : cs.size = 64) (hget : ∀ k, k < 64 → cs[k]? = some (.bool (f k))) :
    Calls Tryz.prog 100 #[.agg cs] w fun e w' => e = .returned (.int .u64 (hi f 64)) ∧ Below w.heap.size w w' := by
  have Hs := Lib.hid hsz; clear hsz
  have Hg := Lib.hid hget; clear hget
  go_enter Tryz.func100, Tryz.ntmps100
  go_wp2
  go_loop [3, 4] (fun x i => ∃ k : Nat, k ≤ 64 ∧ i = .int .i64 (63 - k) ∧ x = .int .u64 (hi f k)) (fun _ i => (intOf i + 1).toNat)
  case atStart => exact ⟨0, by omega, rfl, rfl⟩
  case round =>
    obtain ⟨k, hk, rfl, rfl⟩ := hrel
    by_cases hlt : k < 64
    · obtain ⟨j, hj⟩ : ∃ j : Nat, j = 63 - k := ⟨_, rfl⟩
      have hb := hi_lt f k
      have hp : 2 ^ k ≤ 2 ^ 63 := Nat.pow_le_pow_right (by decide) (by omega)
      have hb2 : (hi f k : Int) ≤ 9223372036854775807 := by omega
      clear hb hp
      have hc : (w.alloc (.cells cs 164)).cell? ⟨w.heap.size, j, none⟩ = some (.bool (f j)) := by
        rw [cell_of_row _ _ _ cs 164 (0, 0) (heap_alloc_new w _)]; exact Hg.out j (by omega)
      rw [show (63 : Int) - k = (j : Int) by omega]
      have hj2 : j < 64 := by omega
      have Hj := Lib.hid hj; clear hj
      cases hf : f j
      all_goals
        rw [hf] at hc
        go_wp2
        go_round
        case rel =>
          refine ⟨k + 1, by omega, by rw [show (j : Int) - 1 = 63 - ((k + 1 : Nat) : Int) by have := Hj.out; omega], ?_⟩
          rw [hi_succ, ← Hj.out, hf]; go_num
        case measure => have := Hj.out; simp [intOf]
    · obtain rfl : k = 64 := by omega
      go_wp2
      go_ret
      exact ⟨rfl, (Below.refl _ _).alloc (Nat.le_refl _) _⟩

theorem hi_shift (y : BitVec 64) (f : Nat → Bool) (h : ∀ j, j < 64 → f j = y.getLsbD j) : ∀ k, k ≤ 64 → hi f k = y.toNat / 2 ^ (64 - k) := by
  intro k
  induction k with
  | zero => intro _; have := y.isLt; rw [Nat.div_eq_of_lt (by simpa using this)]; rfl
  | succ k ih =>
    intro hk
    rw [hi_succ, ih (by omega), h _ (by omega), BitVec.getLsbD, Nat.testBit, Nat.shiftRight_eq_div_pow, Nat.and_comm, Nat.and_one_is_mod, show 64 - k = (63 - k) + 1 by omega, show 64 - (k + 1) = 63 - k by omega, Nat.pow_succ, ← Nat.div_div_eq_div_mul]
    generalize y.toNat / 2 ^ (63 - k) = q
    rcases Nat.mod_two_eq_zero_or_one q with e | e <;> rw [e] <;> simp <;> omega
theorem hi_val (y : BitVec 64) (f : Nat → Bool) (h : ∀ j, j < 64 → f j = y.getLsbD j) : ((hi f 64 : Nat) : Int) = B y := by
  rw [hi_shift y f h 64 (by omega)]; simp [B]
def bt (x : BitVec 64) (i : Nat) : Bool := x.getLsbD i
theorem shr_step (x : BitVec 64) (j : Nat) : IntKind.u64.wrap (Int.tdiv (B (x >>> j)) 2) = B (x >>> (j + 1)) := by
  rw [show Int.tdiv (B (x >>> j)) 2 = (((x >>> j).toNat / 2 : Nat) : Int) from rfl, wrap_u64]
  unfold B
  rw [BitVec.toNat_ushiftRight, BitVec.toNat_ushiftRight, Nat.shiftRight_eq_div_pow, Nat.shiftRight_eq_div_pow, Nat.div_div_eq_div_mul, ← Nat.pow_succ]
  rw [Nat.succ_eq_add_one]
  have h1 := x.isLt
  have h2 : x.toNat / 2 ^ (j + 1) ≤ x.toNat := Nat.div_le_self _ _
  generalize x.toNat / 2 ^ (j + 1) = q at *
  omega
theorem shr_bit (x : BitVec 64) (j : Nat) : (Int.tmod (B (x >>> j)) 2 == 1) = bt x j := by
  unfold B bt
  rw [BitVec.toNat_ushiftRight, BitVec.getLsbD, Nat.testBit, Nat.shiftRight_eq_div_pow]
  rw [show Int.tmod ((x.toNat / 2 ^ j : Nat) : Int) 2 = ((x.toNat / 2 ^ j % 2 : Nat) : Int) from rfl]
  rw [Nat.and_comm, Nat.and_one_is_mod]
  rcases Nat.mod_two_eq_zero_or_one (x.toNat / 2 ^ j) with h | h <;> rw [h] <;> rfl
theorem half_eq (x : BitVec 64) (j : Nat) : B (x >>> j) / 2 = B (x >>> (j + 1)) := by
  rw [← shr_step, show Int.tdiv (B (x >>> j)) 2 = (((x >>> j).toNat / 2 : Nat) : Int) from rfl, wrap_u64]
  unfold B; have := (x >>> j).isLt; omega
theorem odd_eq (x : BitVec 64) (j : Nat) : (B (x >>> j) % 2 == 1) = bt x j := by
  rw [← shr_bit]; rfl
set_option maxHeartbeats 400000 in
set_option maxRecDepth 100000 in
theorem bit_same (x : BitVec 64) (i : Int) (w : World) (h0 : 0 ≤ i) (h : i ≤ 200) :
    Calls Tryz.prog 70 #[.int .u64 (B x), .int .i64 i] w fun e w' => e = .returned (.bool (bt x i.toNat)) ∧ w' = w := by
  obtain ⟨n, rfl⟩ := Int.eq_ofNat_of_zero_le h0
  by_cases h63 : n ≤ 63
  · go_enter Tryz.func70, Tryz.ntmps70
    go_wp2
    go_loop [0, 5] (fun y k => ∃ j : Nat, j ≤ n ∧ k = .int .i64 j ∧ y = .int .u64 (B (x >>> j))) (fun _ k => n - (intOf k).toNat)
    case atStart => exact ⟨0, by omega, rfl, by simp⟩
    case round =>
      obtain ⟨j, hj, rfl, rfl⟩ := hrel
      have hb := B_nonneg (x >>> j)
      have hb2 := B_lt (x >>> j)
      by_cases hlt : j < n
      · go_wp2
        refine ⟨⟨j + 1, by omega, by go_num, by rw [half_eq]⟩, ?_⟩
        simp [intOf]; omega
      · obtain rfl : j = n := by omega
        have Ho := Lib.hid (odd_eq x j)
        go_wp2
        go_ret
        refine ⟨?_, rfl⟩
        exact congrArg (fun z => Ending.returned (.bool z)) Ho.out
  · have hf := Lib.hid (show bt x n = false by unfold bt; exact BitVec.getLsbD_of_ge _ _ (by omega))
    go_enter Tryz.func70, Tryz.ntmps70
    go_wp2
    go_ret
    refine ⟨?_, rfl⟩
    exact congrArg (fun z => Ending.returned (.bool z)) hf.out.symm
theorem bit_any (x : BitVec 64) (i : Int) (w : World) (h0 : 0 ≤ i) (h : i ≤ 200) :
    Calls Tryz.prog 70 #[.int .u64 (B x), .int .i64 i] w fun e w' => e = .returned (.bool (bt x i.toNat)) ∧ Q w w' := (bit_same x i w h0 h).mono fun _ _ ⟨a, b⟩ => ⟨a, by subst b; exact Q.refl _⟩
def Arr (w : World) (b : Nat) (f : Nat → Bool) : Prop := ∃ cs, w.heap[b]? = some (Obj.cells cs 164 (0, 0)) ∧ cs.size = 64 ∧ ∀ k, k < 64 → cs[k]? = some (.bool (f k))
theorem Arr.cell {w : World} {b : Nat} {f : Nat → Bool} (h : Arr w b f) (k : Nat) (hk : k < 64) : w.cell? ⟨b, k, none⟩ = some (.bool (f k)) := by
  obtain ⟨cs, h1, _, h3⟩ := h; rw [cell_of_row _ _ _ cs 164 (0, 0) h1]; exact h3 k hk
theorem Arr.frozen {w : World} {b : Nat} {f : Nat → Bool} (h : Arr w b f) (k : Nat) : w.frozen? ⟨b, k, none⟩ = false := by
  obtain ⟨cs, h1, _, h3⟩ := h; exact frozen_of_row _ _ _ cs 164 h1
theorem Arr.drewN {w : World} {b : Nat} {f : Nat → Bool} (h : Arr w b f) (n : Nat) : Arr (w.drewN n) b f := h
theorem Arr.set {w : World} {b : Nat} {f : Nat → Bool} (h : Arr w b f) (k : Nat) (v : Bool) : Arr (w.setCell ⟨b, k, none⟩ (.bool v)) b (fun j => if j = k then v else f j) := by
  obtain ⟨cs, h1, h2, h3⟩ := h
  refine ⟨_, heap_setCell_same w b k cs 164 _ h1, by simp [h2], ?_⟩
  intro j hj
  rw [Array.getElem?_setIfInBounds]
  by_cases e : k = j
  · subst e; simp [h2, hj]
  · simp [e, Ne.symm e, h3 j hj]
theorem Arr.congr {w : World} {b : Nat} {f g : Nat → Bool} (h : Arr w b f) (e : ∀ k, k < 64 → f k = g k) : Arr w b g := by
  obtain ⟨cs, h1, h2, h3⟩ := h; exact ⟨cs, h1, h2, fun k hk => by rw [h3 k hk, e k hk]⟩
theorem Arr.zero (w : World) : Arr (w.alloc (Obj.cells #[.bool false, .bool false, .bool false, .bool false, .bool false, .bool false, .bool false, .bool false, .bool false, .bool false, .bool false, .bool false, .bool false, .bool false, .bool false, .bool false, .bool false, .bool false, .bool false, .bool false, .bool false, .bool false, .bool false, .bool false, .bool false, .bool false, .bool false, .bool false, .bool false, .bool false, .bool false, .bool false, .bool false, .bool false, .bool false, .bool false, .bool false, .bool false, .bool false, .bool false, .bool false, .bool false, .bool false, .bool false, .bool false, .bool false, .bool false, .bool false, .bool false, .bool false, .bool false, .bool false, .bool false, .bool false, .bool false, .bool false, .bool false, .bool false, .bool false, .bool false, .bool false, .bool false, .bool false, .bool false] 164)) w.heap.size (fun _ => false) := by
  refine ⟨_, heap_alloc_new w _, by rfl, ?_⟩
  intro k hk
  have : ∀ k : Fin 64, (Array.replicate 64 (Value.bool false))[k.val]? = some (.bool false) := by intro k; simp
  exact this ⟨k, hk⟩
theorem Arr.next {wr : World} {b k nd : Nat} {g : Nat → Bool} {v : Bool} (ha : Arr wr b (fun j => decide (j < k) && g j)) (e : v = g k) :
    Arr ((wr.drewN nd).setCell ⟨b, k, none⟩ (.bool v)) b (fun j => decide (j < k + 1) && g j) := by
  refine (Arr.set (w := wr.drewN nd) ha k _).congr ?_
  intro j hj
  by_cases e1 : j = k
  · subst e1; simp [e]
  · rw [if_neg e1]; by_cases e2 : j < k
    · simp [e2, show j < k + 1 by omega]
    · simp [e2, show ¬ j < k + 1 by omega]
theorem Arr.next2 {wr : World} {b k nd nd2 : Nat} {g : Nat → Bool} {u v : Bool} (ha : Arr wr b (fun j => decide (j < k) && g j)) (e : v = g k) :
    Arr ((((wr.drewN nd).setCell ⟨b, k, none⟩ (.bool u)).drewN nd2).setCell ⟨b, k, none⟩ (.bool v)) b (fun j => decide (j < k + 1) && g j) := by
  refine (Arr.set (Arr.drewN (Arr.set (w := wr.drewN nd) ha k u) nd2) k v).congr ?_
  intro j hj
  by_cases e1 : j = k
  · subst e1; simp [e]
  · rw [if_neg e1, if_neg e1]; by_cases e2 : j < k
    · simp [e2, show j < k + 1 by omega]
    · simp [e2, show ¬ j < k + 1 by omega]
theorem below_put {w wr : World} (hb : Below w.heap.size w wr) (k nd : Nat) (v : Value) : Below w.heap.size w ((wr.drewN nd).setCell ⟨w.heap.size, k, none⟩ v) :=
  (hb.trans ((Q.below ⟨nd, rfl⟩).mono hb.size)).setCell (Nat.le_refl _) _
end Go.Proofs.YtkffmaeiplgjeaaGreatDoor.RefS
/- The reference's Set of one bit, made of an array of bits. -/
namespace Go.Proofs.YtkffmaeiplgjeaaGreatDoor.RefSet
set_option linter.unusedVariables false
set_option linter.unusedSimpArgs false
open Go.RowKit Go.Proofs.YtkffmaeiplgjeaaGreatDoor.Bv Go.Proofs.YtkffmaeiplgjeaaGreatDoor.VaSpec Go.Proofs.YtkffmaeiplgjeaaGreatDoor.Base Go.Proofs.YtkffmaeiplgjeaaGreatDoor.RefS Go.Proofs.YtkffmaeiplgjeaaGreatDoor.BitsC
def g1 (x v : BitVec 64) (lo : Nat) (j : Nat) : Bool := if j = lo then bt v 0 else bt x j
set_option maxHeartbeats 400000 in
set_option maxRecDepth 100000 in
theorem set_any (x v : BitVec 64) (lo : Nat) (w : World) (hlo : lo < 64) :
    Calls Tryz.prog 69 #[.int .u64 (B x), .int .i64 lo, .int .i64 1, .int .u64 (B v)] w fun e w' => e = .returned (.int .u64 (B (setB x lo 1 v))) ∧ Below w.heap.size w w' := by
  have hw1 : IntKind.i64.wrap ((lo : Int) + 1) = (lo : Int) + 1 := by rw [IntKind.wrap_i64]; omega
  go_enter Tryz.func69, Tryz.ntmps69
  go_wp2
  go_loopw [10] (fun i wr => ∃ k : Nat, k ≤ 64 ∧ i = .int .i64 k ∧ Arr wr w.heap.size (fun j => decide (j < k) && g1 x v lo j) ∧ Below w.heap.size w wr) (fun i _ => 64 - (intOf i).toNat)
  case atStart => exact ⟨0, by omega, rfl, (Arr.zero w).congr (by intro k _; simp), (Below.refl _ _).alloc (Nat.le_refl _) _⟩
  case round =>
    obtain ⟨k, hk, rfl, ha, hb⟩ := hrel
    by_cases hlt : k < 64
    · have hc := ha.cell k (by omega)
      have hz := ha.frozen k
      rcases Nat.lt_trichotomy k lo with hm | rfl | hm
      · go_wp2_with (go_at_call 70; (with_reducible refine (bit_any _ _ _ (by omega) (by omega)).mono ?_); rintro e w' ⟨rfl, ⟨nd, rfl⟩⟩)
        refine ⟨⟨k + 1, by omega, by go_num, ha.next (by unfold g1; rw [if_neg (by omega)]), below_put hb _ _ _⟩, ?_⟩
        simp [intOf]; omega
      · go_wp2_with (go_at_call 70; (with_reducible refine (bit_any _ _ _ (by omega) (by omega)).mono ?_); rintro e w' ⟨rfl, ⟨nd, rfl⟩⟩)
        refine ⟨⟨k + 1, by omega, by go_num, ha.next2 (by unfold g1; rw [if_pos rfl]), below_put (below_put hb _ _ _) _ _ _⟩, ?_⟩
        simp [intOf]; omega
      · go_wp2_with (go_at_call 70; (with_reducible refine (bit_any _ _ _ (by omega) (by omega)).mono ?_); rintro e w' ⟨rfl, ⟨nd, rfl⟩⟩)
        refine ⟨⟨k + 1, by omega, by go_num, ha.next (by unfold g1; rw [if_neg (by omega)]), below_put hb _ _ _⟩, ?_⟩
        simp [intOf]; omega
    · obtain rfl : k = 64 := by omega
      obtain ⟨cs, h1, h2, h3⟩ := ha
      have Hh := Lib.hid h1; clear h1
      have Hs := Lib.hid h2; clear h2
      have H3 := Lib.hid h3; clear h3
      go_wp2_with (first | (with_reducible refine wpList_load_row rfl 164 _ rfl w.heap.size rfl 164 cs (0, 0) _ Hh.out Tryz.underlying164 rfl (by rw [Hs.out]; kernel_rfl) ?_) | (go_at_call 100; refine (of_calls _ cs _ Hs.out H3.out).mono ?_; rintro e w' ⟨rfl, bel⟩))
      go_ret
      refine ⟨?_, hb.trans (bel.mono hb.size)⟩
      show Ending.returned (.int .u64 (hi (fun j => decide (j < 64) && g1 x v lo j) 64 : Nat)) = _
      rw [hi_val (setB x lo 1 v) _ (fun j hj => by
        rw [setB_bit, decide_eq_true hj]
        unfold g1
        by_cases e : j = lo
        · subst e; rw [if_pos rfl, if_pos ⟨Nat.le_refl _, by omega⟩, Nat.sub_self]; rfl
        · rw [if_neg e, if_neg (by omega)]; rfl)]
end Go.Proofs.YtkffmaeiplgjeaaGreatDoor.RefSet
/- The abstract walk: a rule for one operation alone, told by its answer's name. -/
namespace Go.Proofs.YtkffmaeiplgjeaaGreatDoor.Ax
open Go.RowKit Go.Proofs.YtkffmaeiplgjeaaGreatDoor.MemL Go.Proofs.YtkffmaeiplgjeaaGreatDoor.RegR
set_option linter.unusedVariables false
variable {P : Program} {ops : Array Oper} {X : Cx} {anc : Nat → Nat → Bool} {R : St → Prop} {T : List (Nat × List Rd × List Rd)} {S : St} {i : Nat} {r : List Nat} {o : Oper}
theorem nxt_dst (d : Tmp) (_ : o.dst = some d) (h : Nxt P ops X anc R T S i r o) : Nxt P ops X anc R T S i r o := h
end Go.Proofs.YtkffmaeiplgjeaaGreatDoor.Ax
