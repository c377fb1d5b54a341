/- Texts of this claim, one behind the other: SpP. -/
import Derived.Test.YtkffmaeiplgjeaaDoorM20
/- The abstract walk: the anchor. -/
namespace Go.Proofs.YtkffmaeiplgjeaaDoor.SpP
open Go.RowKit Go.Proofs.YtkffmaeiplgjeaaDoor.Bv Go.Proofs.YtkffmaeiplgjeaaDoor.VaSpec Go.Proofs.YtkffmaeiplgjeaaDoor.Base Go.Proofs.YtkffmaeiplgjeaaDoor.MemL Go.Proofs.YtkffmaeiplgjeaaDoor.RegR Go.Proofs.YtkffmaeiplgjeaaDoor.Ax Go.Proofs.YtkffmaeiplgjeaaDoor.MemC Go.Proofs.YtkffmaeiplgjeaaDoor.PutC Go.Proofs.YtkffmaeiplgjeaaDoor.MemC3 Go.Proofs.YtkffmaeiplgjeaaDoor.TzC Go.Proofs.YtkffmaeiplgjeaaDoor.OkS Go.Proofs.YtkffmaeiplgjeaaDoor.SpA Go.Proofs.YtkffmaeiplgjeaaDoor.SpB Go.Proofs.YtkffmaeiplgjeaaDoor.SpC Go.Proofs.YtkffmaeiplgjeaaDoor.SpD Go.Proofs.YtkffmaeiplgjeaaDoor.IterC Go.Proofs.YtkffmaeiplgjeaaDoor.SpE Go.Proofs.YtkffmaeiplgjeaaDoor.SpF Go.Proofs.YtkffmaeiplgjeaaDoor.SpG Go.Proofs.YtkffmaeiplgjeaaDoor.SpH Go.Proofs.YtkffmaeiplgjeaaDoor.SpI Go.Proofs.YtkffmaeiplgjeaaDoor.SpJ Go.Proofs.YtkffmaeiplgjeaaDoor.SpK Go.Proofs.YtkffmaeiplgjeaaDoor.SpN Go.Proofs.YtkffmaeiplgjeaaDoor.SpO
open Go.Proofs.YtkffmaeiplgjeaaDoor.BitsC Go.Proofs.YtkffmaeiplgjeaaDoor.PteSpec
set_option linter.unusedVariables false
set_option linter.unusedSimpArgs false
set_option maxRecDepth 10000
set_option maxHeartbeats 800000
attribute [local irreducible] Go.Proofs.YtkffmaeiplgjeaaDoor.Ax.CallOk
theorem awake_ok : Ok 6 [] (.m (ib true)) := by
  have hN : Ok 8 [confA 4 4 1 1] (.tu [.ag k0.ce, ii 0]) := by rw [← n0]; exact new_yes 4 4 1 1 (by decide)
  have hZ := new_no 0 0 0 0 (by decide)
  have hA := create_all i0 (by omega)
  rw [eA] at hA
  have hH := create_all iA (by omega)
  rw [eH] at hH
  have hB := switch_all kAa 0
  rw [eB] at hB
  have hJ := destroy_all iB (by omega) 0
  rw [eJ] at hJ
  have hC := destroy_all iA (by omega) 0
  rw [eC] at hC
  have hM := switch_all kC 0
  rw [eM] at hM
  have hD := create_all iC (by omega)
  rw [eD] at hD
  have hW := where_ok kAa 0 20480 0 ⟨by omega, by omega⟩
  rw [show whereR kAa 0 20480 0 = (5, 2, 0) by decide] at hW
  have hV := where_ok kAa (-1) 20480 0 ⟨by omega, by omega⟩
  rw [show whereR kAa (-1) 20480 0 = (0, 0, 3) by decide] at hV
  have e1 : ∀ w, (Op.equalIn 10000 35 (.agg #[.int .u64 8, .int .u64 1, .int .u64 5]) (.agg #[.int .u64 8, .int .u64 1, .int .u64 5])).run Tryd.prog w = .ok true w := fun w => by rw [SpL.eq_satp]; simp
  have e2 : ∀ w, (Op.equalIn 10000 57 (.agg #[.bool false, .int .u64 0, .bool true, .int .u64 1]) (.agg #[.bool false, .int .u64 0, .bool true, .int .u64 1])).run Tryd.prog w = .ok true w := fun w => by rw [SpL.eq_fence]; simp
  have hx : ((flF [⟨false, 0, true, 1⟩]).drop ((0 : Int).toNat * 4)).take 4 = [.bool false, .int .u64 0, .bool true, .int .u64 1] := rfl
  refine callOk_of 195 Tryd.func6 rfl rfl rfl rfl ?_ GG.to
  intro W A hG
  repeat (first
    | (refine go_at rfl ?_; first
        | refine go_do (valid_skip rfl) rfl ?_
        | refine go_do (valid_mv (.inl rfl) rfl) rfl ?_
        | (refine nxt_s 1 rfl ?_; refine go_do (valid_load_p tb rfl rfl rfl rfl rfl (by first | kernel_rfl | rfl)) (by first | kernel_rfl | rfl) ?_)
        | (refine nxt_s 1 rfl ?_; refine go_do (valid_fld_p tb rfl rfl rfl (by kernel_rfl)) rfl ?_)
        | refine go_do (valid_mv (.inr rfl) rfl) rfl ?_
        | refine go_do (valid_pick rfl rfl rfl) rfl ?_
        | refine go_do (valid_extract rfl rfl rfl rfl) rfl ?_
        | refine go_do (valid_field tb rfl rfl rfl rfl rfl rfl) rfl ?_
        | refine go_do (valid_cmp rfl rfl rfl rfl (by first | exact .eql1 (by omega) | exact .eql0 (by omega) | exact .neq1 (by omega) | exact .neq0 (by omega) | exact .lss1 (by omega) | exact .lss0 (by omega) | exact .leq1 (by omega) | exact .leq0 (by omega) | exact .gtr1 (by omega) | exact .gtr0 (by omega) | exact .geq1 (by omega) | exact .geq0 (by omega) | constructor)) rfl ?_
        | refine go_do (valid_ar rfl rfl rfl rfl (by constructor) (by first | exact wr_u64 (by omega) (by omega) | exact wr_i64 (by omega) (by omega) | rfl)) rfl ?_
        | refine go_do (valid_cv rfl rfl rfl rfl rfl (by first | exact wr_u64 (by omega) (by omega) | exact wr_i64 (by omega) (by omega) | rfl)) rfl ?_
        | refine go_do (valid_quo rfl rfl rfl rfl (by omega) (by omega) (by first | exact wr_u64 (by omega) (by omega) | exact wr_i64 (by omega) (by omega))) rfl ?_
        | refine go_do (valid_rem rfl rfl rfl rfl (by omega) (by omega)) rfl ?_
        | refine go_do (valid_box rfl rfl rfl rfl rfl rfl) rfl ?_
        | refine go_do (valid_alloc rfl rfl rfl rfl rfl) rfl ?_
        | (refine nxt_s 1 rfl ?_; refine go_do (valid_store_p rfl rfl rfl rfl rfl rfl (by first | kernel_rfl | rfl) rfl) (by first | kernel_rfl | rfl) ?_)
        | refine go_do (valid_len_s rfl rfl rfl rfl) rfl ?_
        | (refine nxt_s 3 rfl ?_; refine go_do (valid_load_q tb rfl rfl rfl rfl (by first | kernel_rfl | rfl)) rfl ?_)
        | (refine nxt_s 3 rfl ?_; refine go_do (valid_fld_q tb rfl rfl rfl rfl) rfl ?_)
        | refine go_do (valid_not rfl rfl rfl) rfl ?_
        | refine go_do (valid_build rfl rfl rfl rfl) rfl ?_
        | refine go_do (valid_nil rfl rfl rfl rfl) rfl ?_
        | (refine nxt_s 4 rfl ?_; refine go_do (valid_idx_s rfl rfl rfl rfl rfl rfl (by omega) (by omega) _ (by assumption)) rfl ?_)
        | (refine nxt_s 5 rfl ?_; refine go_do (valid_store_rp rfl rfl rfl rfl rfl rfl rfl rfl rfl (by first | omega | (simp; omega)) rfl) rfl ?_)
        | (refine nxt_s 5 rfl ?_; refine go_do (valid_load_rp tb rfl rfl rfl rfl rfl rfl) rfl ?_)
        | (refine nxt_s 2 rfl ?_; refine go_do (valid_idx_o rfl rfl rfl rfl rfl rfl rfl (by omega) (by omega)) rfl ?_)
        | (refine nxt_s 1 rfl ?_; refine go_do (valid_idx_p rfl rfl rfl rfl rfl rfl (by omega) (by omega)) rfl ?_)
        | refine go_do (valid_index tb rfl rfl rfl rfl rfl rfl (by omega) (by omega) rfl) rfl ?_
        | refine go_do (valid_len_o rfl rfl rfl rfl rfl) rfl ?_
        | refine go_do (valid_len_v rfl rfl rfl rfl) rfl ?_
        | (refine nxt_s 5 rfl ?_; refine go_do (valid_fld_rp tb rfl rfl rfl rfl) rfl ?_)
        | refine go_do (valid_bslice rfl rfl rfl rfl rfl rfl rfl rfl rfl rfl rfl) rfl ?_
        | refine go_do (valid_bslice0 rfl rfl rfl rfl rfl rfl rfl) rfl ?_
        | refine go_do (valid_eqb rfl rfl rfl rfl rfl) rfl ?_
        | refine go_do (valid_neb rfl rfl rfl rfl rfl) rfl ?_)
    | refine aw_text rfl ?_
    | refine aw_any (by kernel_rfl) (by kernel_rfl) rfl ?_
    | exact aw_ret (show resA _ _ _ = some _ by kernel_rfl)
    | refine aw_cond1 rfl rfl ?_
    | refine aw_cond0 rfl rfl ?_
    | refine aw_block ?_
    | refine aw_exit ?_
    | refine aw_skip ?_
    | refine aw_seq_k (fun K hK => ?_))
  first
    | (refine hK _ ?_; clear hK K)
    | (rename_i K1 hK1; refine hK1 _ ?_; clear hK hK1; clear K)
    | (rename_i K1 hK1; refine hK1 _ ?_; clear hK1)
  repeat (first
    | (refine go_at rfl ?_; first
        | refine go_do (valid_skip rfl) rfl ?_
        | refine go_do (valid_mv (.inl rfl) rfl) rfl ?_
        | (refine nxt_s 1 rfl ?_; refine go_do (valid_load_p tb rfl rfl rfl rfl rfl (by first | kernel_rfl | rfl)) (by first | kernel_rfl | rfl) ?_)
        | (refine nxt_s 1 rfl ?_; refine go_do (valid_fld_p tb rfl rfl rfl (by kernel_rfl)) rfl ?_)
        | refine go_do (valid_mv (.inr rfl) rfl) rfl ?_
        | refine go_do (valid_pick rfl rfl rfl) rfl ?_
        | refine go_do (valid_extract rfl rfl rfl rfl) rfl ?_
        | refine go_do (valid_field tb rfl rfl rfl rfl rfl rfl) rfl ?_
        | refine go_do (valid_cmp rfl rfl rfl rfl (by first | exact .eql1 (by omega) | exact .eql0 (by omega) | exact .neq1 (by omega) | exact .neq0 (by omega) | exact .lss1 (by omega) | exact .lss0 (by omega) | exact .leq1 (by omega) | exact .leq0 (by omega) | exact .gtr1 (by omega) | exact .gtr0 (by omega) | exact .geq1 (by omega) | exact .geq0 (by omega) | constructor)) rfl ?_
        | refine go_do (valid_ar rfl rfl rfl rfl (by constructor) (by first | exact wr_u64 (by omega) (by omega) | exact wr_i64 (by omega) (by omega) | rfl)) rfl ?_
        | refine go_do (valid_cv rfl rfl rfl rfl rfl (by first | exact wr_u64 (by omega) (by omega) | exact wr_i64 (by omega) (by omega) | rfl)) rfl ?_
        | refine go_do (valid_quo rfl rfl rfl rfl (by omega) (by omega) (by first | exact wr_u64 (by omega) (by omega) | exact wr_i64 (by omega) (by omega))) rfl ?_
        | refine go_do (valid_rem rfl rfl rfl rfl (by omega) (by omega)) rfl ?_
        | refine go_do (valid_box rfl rfl rfl rfl rfl rfl) rfl ?_
        | refine go_do (valid_alloc rfl rfl rfl rfl rfl) rfl ?_
        | (refine nxt_s 1 rfl ?_; refine go_do (valid_store_p rfl rfl rfl rfl rfl rfl (by first | kernel_rfl | rfl) rfl) (by first | kernel_rfl | rfl) ?_)
        | refine go_do (valid_len_s rfl rfl rfl rfl) rfl ?_
        | (refine nxt_s 3 rfl ?_; refine go_do (valid_load_q tb rfl rfl rfl rfl (by first | kernel_rfl | rfl)) rfl ?_)
        | (refine nxt_s 3 rfl ?_; refine go_do (valid_fld_q tb rfl rfl rfl rfl) rfl ?_)
        | refine go_do (valid_not rfl rfl rfl) rfl ?_
        | refine go_do (valid_build rfl rfl rfl rfl) rfl ?_
        | refine go_do (valid_nil rfl rfl rfl rfl) rfl ?_
        | (refine nxt_s 4 rfl ?_; refine go_do (valid_idx_s rfl rfl rfl rfl rfl rfl (by omega) (by omega) _ (by assumption)) rfl ?_)
        | (refine nxt_s 5 rfl ?_; refine go_do (valid_store_rp rfl rfl rfl rfl rfl rfl rfl rfl rfl (by first | omega | (simp; omega)) rfl) rfl ?_)
        | (refine nxt_s 5 rfl ?_; refine go_do (valid_load_rp tb rfl rfl rfl rfl rfl rfl) rfl ?_)
        | (refine nxt_s 2 rfl ?_; refine go_do (valid_idx_o rfl rfl rfl rfl rfl rfl rfl (by omega) (by omega)) rfl ?_)
        | (refine nxt_s 1 rfl ?_; refine go_do (valid_idx_p rfl rfl rfl rfl rfl rfl (by omega) (by omega)) rfl ?_)
        | refine go_do (valid_index tb rfl rfl rfl rfl rfl rfl (by omega) (by omega) rfl) rfl ?_
        | refine go_do (valid_len_o rfl rfl rfl rfl rfl) rfl ?_
        | refine go_do (valid_len_v rfl rfl rfl rfl) rfl ?_
        | (refine nxt_s 5 rfl ?_; refine go_do (valid_fld_rp tb rfl rfl rfl rfl) rfl ?_)
        | refine go_do (valid_bslice rfl rfl rfl rfl rfl rfl rfl rfl rfl rfl rfl) rfl ?_
        | refine go_do (valid_bslice0 rfl rfl rfl rfl rfl rfl rfl) rfl ?_
        | refine go_do (valid_eqb rfl rfl rfl rfl rfl) rfl ?_
        | refine go_do (valid_neb rfl rfl rfl rfl rfl) rfl ?_
        | refine go_do (valid_call rfl rfl rfl (hN) (by kernel_rfl)) rfl ?_)
    | refine aw_text rfl ?_
    | refine aw_any (by kernel_rfl) (by kernel_rfl) rfl ?_
    | exact aw_ret (show resA _ _ _ = some _ by kernel_rfl)
    | refine aw_cond1 rfl rfl ?_
    | refine aw_cond0 rfl rfl ?_
    | refine aw_block ?_
    | refine aw_exit ?_
    | refine aw_skip ?_
    | refine aw_seq_k (fun K hK => ?_))
  first
    | (refine hK _ ?_; clear hK K)
    | (rename_i K1 hK1; refine hK1 _ ?_; clear hK hK1; clear K)
    | (rename_i K1 hK1; refine hK1 _ ?_; clear hK1)
  refine aw_sub (sub_of [(1, .m (.c (.p 1 0))), (2, .m (ii 0))] [(1, .live (.box k0.ce))] ⟨by kernel_rfl, by kernel_rfl, trivial⟩ ⟨by kernel_rfl, trivial⟩ (by kernel_rfl)) ?_
  repeat (first
    | (refine go_at rfl ?_; first
        | refine go_do (valid_skip rfl) rfl ?_
        | refine go_do (valid_mv (.inl rfl) rfl) rfl ?_
        | (refine nxt_s 1 rfl ?_; refine go_do (valid_load_p tb rfl rfl rfl rfl rfl (by first | kernel_rfl | rfl)) (by first | kernel_rfl | rfl) ?_)
        | (refine nxt_s 1 rfl ?_; refine go_do (valid_fld_p tb rfl rfl rfl (by kernel_rfl)) rfl ?_)
        | refine go_do (valid_mv (.inr rfl) rfl) rfl ?_
        | refine go_do (valid_pick rfl rfl rfl) rfl ?_
        | refine go_do (valid_extract rfl rfl rfl rfl) rfl ?_
        | refine go_do (valid_field tb rfl rfl rfl rfl rfl rfl) rfl ?_
        | refine go_do (valid_cmp rfl rfl rfl rfl (by first | exact .eql1 (by omega) | exact .eql0 (by omega) | exact .neq1 (by omega) | exact .neq0 (by omega) | exact .lss1 (by omega) | exact .lss0 (by omega) | exact .leq1 (by omega) | exact .leq0 (by omega) | exact .gtr1 (by omega) | exact .gtr0 (by omega) | exact .geq1 (by omega) | exact .geq0 (by omega) | constructor)) rfl ?_
        | refine go_do (valid_ar rfl rfl rfl rfl (by constructor) (by first | exact wr_u64 (by omega) (by omega) | exact wr_i64 (by omega) (by omega) | rfl)) rfl ?_
        | refine go_do (valid_cv rfl rfl rfl rfl rfl (by first | exact wr_u64 (by omega) (by omega) | exact wr_i64 (by omega) (by omega) | rfl)) rfl ?_
        | refine go_do (valid_quo rfl rfl rfl rfl (by omega) (by omega) (by first | exact wr_u64 (by omega) (by omega) | exact wr_i64 (by omega) (by omega))) rfl ?_
        | refine go_do (valid_rem rfl rfl rfl rfl (by omega) (by omega)) rfl ?_
        | refine go_do (valid_box rfl rfl rfl rfl rfl rfl) rfl ?_
        | refine go_do (valid_alloc rfl rfl rfl rfl rfl) rfl ?_
        | (refine nxt_s 1 rfl ?_; refine go_do (valid_store_p rfl rfl rfl rfl rfl rfl (by first | kernel_rfl | rfl) rfl) (by first | kernel_rfl | rfl) ?_)
        | refine go_do (valid_len_s rfl rfl rfl rfl) rfl ?_
        | (refine nxt_s 3 rfl ?_; refine go_do (valid_load_q tb rfl rfl rfl rfl (by first | kernel_rfl | rfl)) rfl ?_)
        | (refine nxt_s 3 rfl ?_; refine go_do (valid_fld_q tb rfl rfl rfl rfl) rfl ?_)
        | refine go_do (valid_not rfl rfl rfl) rfl ?_
        | refine go_do (valid_build rfl rfl rfl rfl) rfl ?_
        | refine go_do (valid_nil rfl rfl rfl rfl) rfl ?_
        | (refine nxt_s 4 rfl ?_; refine go_do (valid_idx_s rfl rfl rfl rfl rfl rfl (by omega) (by omega) _ (by assumption)) rfl ?_)
        | (refine nxt_s 5 rfl ?_; refine go_do (valid_store_rp rfl rfl rfl rfl rfl rfl rfl rfl rfl (by first | omega | (simp; omega)) rfl) rfl ?_)
        | (refine nxt_s 5 rfl ?_; refine go_do (valid_load_rp tb rfl rfl rfl rfl rfl rfl) rfl ?_)
        | (refine nxt_s 2 rfl ?_; refine go_do (valid_idx_o rfl rfl rfl rfl rfl rfl rfl (by omega) (by omega)) rfl ?_)
        | (refine nxt_s 1 rfl ?_; refine go_do (valid_idx_p rfl rfl rfl rfl rfl rfl (by omega) (by omega)) rfl ?_)
        | refine go_do (valid_index tb rfl rfl rfl rfl rfl rfl (by omega) (by omega) rfl) rfl ?_
        | refine go_do (valid_len_o rfl rfl rfl rfl rfl) rfl ?_
        | refine go_do (valid_len_v rfl rfl rfl rfl) rfl ?_
        | (refine nxt_s 5 rfl ?_; refine go_do (valid_fld_rp tb rfl rfl rfl rfl) rfl ?_)
        | refine go_do (valid_bslice rfl rfl rfl rfl rfl rfl rfl rfl rfl rfl rfl) rfl ?_
        | refine go_do (valid_bslice0 rfl rfl rfl rfl rfl rfl rfl) rfl ?_
        | refine go_do (valid_eqb rfl rfl rfl rfl rfl) rfl ?_
        | refine go_do (valid_neb rfl rfl rfl rfl rfl) rfl ?_
        | refine go_do (valid_call rfl rfl rfl (hZ) (by kernel_rfl)) rfl ?_)
    | refine aw_text rfl ?_
    | refine aw_any (by kernel_rfl) (by kernel_rfl) rfl ?_
    | exact aw_ret (show resA _ _ _ = some _ by kernel_rfl)
    | refine aw_cond1 rfl rfl ?_
    | refine aw_cond0 rfl rfl ?_
    | refine aw_block ?_
    | refine aw_exit ?_
    | refine aw_skip ?_
    | refine aw_seq_k (fun K hK => ?_))
  first
    | (refine hK _ ?_; clear hK K)
    | (rename_i K1 hK1; refine hK1 _ ?_; clear hK hK1; clear K)
    | (rename_i K1 hK1; refine hK1 _ ?_; clear hK1)
  refine aw_sub (sub_of [(1, .m (.c (.p 1 0))), (2, .m (ii 0)), (4, .m (ii 1))] [(1, .live (.box k0.ce))] ⟨by kernel_rfl, by kernel_rfl, by kernel_rfl, trivial⟩ ⟨by kernel_rfl, trivial⟩ (by kernel_rfl)) ?_
  repeat (first
    | (refine go_at rfl ?_; first
        | refine go_do (valid_skip rfl) rfl ?_
        | refine go_do (valid_mv (.inl rfl) rfl) rfl ?_
        | (refine nxt_s 1 rfl ?_; refine go_do (valid_load_p tb rfl rfl rfl rfl rfl (by first | kernel_rfl | rfl)) (by first | kernel_rfl | rfl) ?_)
        | (refine nxt_s 1 rfl ?_; refine go_do (valid_fld_p tb rfl rfl rfl (by kernel_rfl)) rfl ?_)
        | refine go_do (valid_mv (.inr rfl) rfl) rfl ?_
        | refine go_do (valid_pick rfl rfl rfl) rfl ?_
        | refine go_do (valid_extract rfl rfl rfl rfl) rfl ?_
        | refine go_do (valid_field tb rfl rfl rfl rfl rfl rfl) rfl ?_
        | refine go_do (valid_cmp rfl rfl rfl rfl (by first | exact .eql1 (by omega) | exact .eql0 (by omega) | exact .neq1 (by omega) | exact .neq0 (by omega) | exact .lss1 (by omega) | exact .lss0 (by omega) | exact .leq1 (by omega) | exact .leq0 (by omega) | exact .gtr1 (by omega) | exact .gtr0 (by omega) | exact .geq1 (by omega) | exact .geq0 (by omega) | constructor)) rfl ?_
        | refine go_do (valid_ar rfl rfl rfl rfl (by constructor) (by first | exact wr_u64 (by omega) (by omega) | exact wr_i64 (by omega) (by omega) | rfl)) rfl ?_
        | refine go_do (valid_cv rfl rfl rfl rfl rfl (by first | exact wr_u64 (by omega) (by omega) | exact wr_i64 (by omega) (by omega) | rfl)) rfl ?_
        | refine go_do (valid_quo rfl rfl rfl rfl (by omega) (by omega) (by first | exact wr_u64 (by omega) (by omega) | exact wr_i64 (by omega) (by omega))) rfl ?_
        | refine go_do (valid_rem rfl rfl rfl rfl (by omega) (by omega)) rfl ?_
        | refine go_do (valid_box rfl rfl rfl rfl rfl rfl) rfl ?_
        | refine go_do (valid_alloc rfl rfl rfl rfl rfl) rfl ?_
        | (refine nxt_s 1 rfl ?_; refine go_do (valid_store_p rfl rfl rfl rfl rfl rfl (by first | kernel_rfl | rfl) rfl) (by first | kernel_rfl | rfl) ?_)
        | refine go_do (valid_len_s rfl rfl rfl rfl) rfl ?_
        | (refine nxt_s 3 rfl ?_; refine go_do (valid_load_q tb rfl rfl rfl rfl (by first | kernel_rfl | rfl)) rfl ?_)
        | (refine nxt_s 3 rfl ?_; refine go_do (valid_fld_q tb rfl rfl rfl rfl) rfl ?_)
        | refine go_do (valid_not rfl rfl rfl) rfl ?_
        | refine go_do (valid_build rfl rfl rfl rfl) rfl ?_
        | refine go_do (valid_nil rfl rfl rfl rfl) rfl ?_
        | (refine nxt_s 4 rfl ?_; refine go_do (valid_idx_s rfl rfl rfl rfl rfl rfl (by omega) (by omega) _ (by assumption)) rfl ?_)
        | (refine nxt_s 5 rfl ?_; refine go_do (valid_store_rp rfl rfl rfl rfl rfl rfl rfl rfl rfl (by first | omega | (simp; omega)) rfl) rfl ?_)
        | (refine nxt_s 5 rfl ?_; refine go_do (valid_load_rp tb rfl rfl rfl rfl rfl rfl) rfl ?_)
        | (refine nxt_s 2 rfl ?_; refine go_do (valid_idx_o rfl rfl rfl rfl rfl rfl rfl (by omega) (by omega)) rfl ?_)
        | (refine nxt_s 1 rfl ?_; refine go_do (valid_idx_p rfl rfl rfl rfl rfl rfl (by omega) (by omega)) rfl ?_)
        | refine go_do (valid_index tb rfl rfl rfl rfl rfl rfl (by omega) (by omega) rfl) rfl ?_
        | refine go_do (valid_len_o rfl rfl rfl rfl rfl) rfl ?_
        | refine go_do (valid_len_v rfl rfl rfl rfl) rfl ?_
        | (refine nxt_s 5 rfl ?_; refine go_do (valid_fld_rp tb rfl rfl rfl rfl) rfl ?_)
        | refine go_do (valid_bslice rfl rfl rfl rfl rfl rfl rfl rfl rfl rfl rfl) rfl ?_
        | refine go_do (valid_bslice0 rfl rfl rfl rfl rfl rfl rfl) rfl ?_
        | refine go_do (valid_eqb rfl rfl rfl rfl rfl) rfl ?_
        | refine go_do (valid_neb rfl rfl rfl rfl rfl) rfl ?_
        | refine go_do (valid_call rfl rfl rfl (hA) (by kernel_rfl)) rfl ?_)
    | refine aw_text rfl ?_
    | refine aw_any (by kernel_rfl) (by kernel_rfl) rfl ?_
    | exact aw_ret (show resA _ _ _ = some _ by kernel_rfl)
    | refine aw_cond1 rfl rfl ?_
    | refine aw_cond0 rfl rfl ?_
    | refine aw_block ?_
    | refine aw_exit ?_
    | refine aw_skip ?_
    | refine aw_seq_k (fun K hK => ?_))
  first
    | (refine hK _ ?_; clear hK K)
    | (rename_i K1 hK1; refine hK1 _ ?_; clear hK hK1; clear K)
    | (rename_i K1 hK1; refine hK1 _ ?_; clear hK1)
  refine aw_sub (sub_of [(1, .m (.c (.p 1 0))), (2, .m (ii 0)), (4, .m (ii 1)), (5, .m (.c (.p 5 0))), (6, .m (ii 0)), (7, .m (ii 0))] [(1, .live (.box k0.ce)), (5, .live (.box kAa.ce))] ⟨by kernel_rfl, by kernel_rfl, by kernel_rfl, by kernel_rfl, by kernel_rfl, by kernel_rfl, trivial⟩ ⟨by kernel_rfl, by kernel_rfl, trivial⟩ (by kernel_rfl)) ?_
  repeat (first
    | (refine go_at rfl ?_; first
        | refine go_do (valid_skip rfl) rfl ?_
        | refine go_do (valid_mv (.inl rfl) rfl) rfl ?_
        | (refine nxt_s 1 rfl ?_; refine go_do (valid_load_p tb rfl rfl rfl rfl rfl (by first | kernel_rfl | rfl)) (by first | kernel_rfl | rfl) ?_)
        | (refine nxt_s 1 rfl ?_; refine go_do (valid_fld_p tb rfl rfl rfl (by kernel_rfl)) rfl ?_)
        | refine go_do (valid_mv (.inr rfl) rfl) rfl ?_
        | refine go_do (valid_pick rfl rfl rfl) rfl ?_
        | refine go_do (valid_extract rfl rfl rfl rfl) rfl ?_
        | refine go_do (valid_field tb rfl rfl rfl rfl rfl rfl) rfl ?_
        | refine go_do (valid_cmp rfl rfl rfl rfl (by first | exact .eql1 (by omega) | exact .eql0 (by omega) | exact .neq1 (by omega) | exact .neq0 (by omega) | exact .lss1 (by omega) | exact .lss0 (by omega) | exact .leq1 (by omega) | exact .leq0 (by omega) | exact .gtr1 (by omega) | exact .gtr0 (by omega) | exact .geq1 (by omega) | exact .geq0 (by omega) | constructor)) rfl ?_
        | refine go_do (valid_ar rfl rfl rfl rfl (by constructor) (by first | exact wr_u64 (by omega) (by omega) | exact wr_i64 (by omega) (by omega) | rfl)) rfl ?_
        | refine go_do (valid_cv rfl rfl rfl rfl rfl (by first | exact wr_u64 (by omega) (by omega) | exact wr_i64 (by omega) (by omega) | rfl)) rfl ?_
        | refine go_do (valid_quo rfl rfl rfl rfl (by omega) (by omega) (by first | exact wr_u64 (by omega) (by omega) | exact wr_i64 (by omega) (by omega))) rfl ?_
        | refine go_do (valid_rem rfl rfl rfl rfl (by omega) (by omega)) rfl ?_
        | refine go_do (valid_box rfl rfl rfl rfl rfl rfl) rfl ?_
        | refine go_do (valid_alloc rfl rfl rfl rfl rfl) rfl ?_
        | (refine nxt_s 1 rfl ?_; refine go_do (valid_store_p rfl rfl rfl rfl rfl rfl (by first | kernel_rfl | rfl) rfl) (by first | kernel_rfl | rfl) ?_)
        | refine go_do (valid_len_s rfl rfl rfl rfl) rfl ?_
        | (refine nxt_s 3 rfl ?_; refine go_do (valid_load_q tb rfl rfl rfl rfl (by first | kernel_rfl | rfl)) rfl ?_)
        | (refine nxt_s 3 rfl ?_; refine go_do (valid_fld_q tb rfl rfl rfl rfl) rfl ?_)
        | refine go_do (valid_not rfl rfl rfl) rfl ?_
        | refine go_do (valid_build rfl rfl rfl rfl) rfl ?_
        | refine go_do (valid_nil rfl rfl rfl rfl) rfl ?_
        | (refine nxt_s 4 rfl ?_; refine go_do (valid_idx_s rfl rfl rfl rfl rfl rfl (by omega) (by omega) _ (by assumption)) rfl ?_)
        | (refine nxt_s 5 rfl ?_; refine go_do (valid_store_rp rfl rfl rfl rfl rfl rfl rfl rfl rfl (by first | omega | (simp; omega)) rfl) rfl ?_)
        | (refine nxt_s 5 rfl ?_; refine go_do (valid_load_rp tb rfl rfl rfl rfl rfl rfl) rfl ?_)
        | (refine nxt_s 2 rfl ?_; refine go_do (valid_idx_o rfl rfl rfl rfl rfl rfl rfl (by omega) (by omega)) rfl ?_)
        | (refine nxt_s 1 rfl ?_; refine go_do (valid_idx_p rfl rfl rfl rfl rfl rfl (by omega) (by omega)) rfl ?_)
        | refine go_do (valid_index tb rfl rfl rfl rfl rfl rfl (by omega) (by omega) rfl) rfl ?_
        | refine go_do (valid_len_o rfl rfl rfl rfl rfl) rfl ?_
        | refine go_do (valid_len_v rfl rfl rfl rfl) rfl ?_
        | (refine nxt_s 5 rfl ?_; refine go_do (valid_fld_rp tb rfl rfl rfl rfl) rfl ?_)
        | refine go_do (valid_bslice rfl rfl rfl rfl rfl rfl rfl rfl rfl rfl rfl) rfl ?_
        | refine go_do (valid_bslice0 rfl rfl rfl rfl rfl rfl rfl) rfl ?_
        | refine go_do (valid_eqb rfl rfl rfl rfl rfl) rfl ?_
        | refine go_do (valid_neb rfl rfl rfl rfl rfl) rfl ?_
        | refine go_do (valid_call rfl rfl rfl (hH) (by kernel_rfl)) rfl ?_)
    | refine aw_text rfl ?_
    | refine aw_any (by kernel_rfl) (by kernel_rfl) rfl ?_
    | exact aw_ret (show resA _ _ _ = some _ by kernel_rfl)
    | refine aw_cond1 rfl rfl ?_
    | refine aw_cond0 rfl rfl ?_
    | refine aw_block ?_
    | refine aw_exit ?_
    | refine aw_skip ?_
    | refine aw_seq_k (fun K hK => ?_))
  first
    | (refine hK _ ?_; clear hK K)
    | (rename_i K1 hK1; refine hK1 _ ?_; clear hK hK1; clear K)
    | (rename_i K1 hK1; refine hK1 _ ?_; clear hK1)
  refine aw_sub (sub_of [(1, .m (.c (.p 1 0))), (2, .m (ii 0)), (4, .m (ii 1)), (5, .m (.c (.p 5 0))), (6, .m (ii 0)), (7, .m (ii 0)), (10, .m (ii 9))] [(1, .live (.box k0.ce)), (5, .live (.box kAa.ce))] ⟨by kernel_rfl, by kernel_rfl, by kernel_rfl, by kernel_rfl, by kernel_rfl, by kernel_rfl, by kernel_rfl, trivial⟩ ⟨by kernel_rfl, by kernel_rfl, trivial⟩ (by kernel_rfl)) ?_
  repeat (first
    | (refine go_at rfl ?_; first
        | refine go_do (valid_skip rfl) rfl ?_
        | refine go_do (valid_mv (.inl rfl) rfl) rfl ?_
        | (refine nxt_s 1 rfl ?_; refine go_do (valid_load_p tb rfl rfl rfl rfl rfl (by first | kernel_rfl | rfl)) (by first | kernel_rfl | rfl) ?_)
        | (refine nxt_s 1 rfl ?_; refine go_do (valid_fld_p tb rfl rfl rfl (by kernel_rfl)) rfl ?_)
        | refine go_do (valid_mv (.inr rfl) rfl) rfl ?_
        | refine go_do (valid_pick rfl rfl rfl) rfl ?_
        | refine go_do (valid_extract rfl rfl rfl rfl) rfl ?_
        | refine go_do (valid_field tb rfl rfl rfl rfl rfl rfl) rfl ?_
        | refine go_do (valid_cmp rfl rfl rfl rfl (by first | exact .eql1 (by omega) | exact .eql0 (by omega) | exact .neq1 (by omega) | exact .neq0 (by omega) | exact .lss1 (by omega) | exact .lss0 (by omega) | exact .leq1 (by omega) | exact .leq0 (by omega) | exact .gtr1 (by omega) | exact .gtr0 (by omega) | exact .geq1 (by omega) | exact .geq0 (by omega) | constructor)) rfl ?_
        | refine go_do (valid_ar rfl rfl rfl rfl (by constructor) (by first | exact wr_u64 (by omega) (by omega) | exact wr_i64 (by omega) (by omega) | rfl)) rfl ?_
        | refine go_do (valid_cv rfl rfl rfl rfl rfl (by first | exact wr_u64 (by omega) (by omega) | exact wr_i64 (by omega) (by omega) | rfl)) rfl ?_
        | refine go_do (valid_quo rfl rfl rfl rfl (by omega) (by omega) (by first | exact wr_u64 (by omega) (by omega) | exact wr_i64 (by omega) (by omega))) rfl ?_
        | refine go_do (valid_rem rfl rfl rfl rfl (by omega) (by omega)) rfl ?_
        | refine go_do (valid_box rfl rfl rfl rfl rfl rfl) rfl ?_
        | refine go_do (valid_alloc rfl rfl rfl rfl rfl) rfl ?_
        | (refine nxt_s 1 rfl ?_; refine go_do (valid_store_p rfl rfl rfl rfl rfl rfl (by first | kernel_rfl | rfl) rfl) (by first | kernel_rfl | rfl) ?_)
        | refine go_do (valid_len_s rfl rfl rfl rfl) rfl ?_
        | (refine nxt_s 3 rfl ?_; refine go_do (valid_load_q tb rfl rfl rfl rfl (by first | kernel_rfl | rfl)) rfl ?_)
        | (refine nxt_s 3 rfl ?_; refine go_do (valid_fld_q tb rfl rfl rfl rfl) rfl ?_)
        | refine go_do (valid_not rfl rfl rfl) rfl ?_
        | refine go_do (valid_build rfl rfl rfl rfl) rfl ?_
        | refine go_do (valid_nil rfl rfl rfl rfl) rfl ?_
        | (refine nxt_s 4 rfl ?_; refine go_do (valid_idx_s rfl rfl rfl rfl rfl rfl (by omega) (by omega) _ (by assumption)) rfl ?_)
        | (refine nxt_s 5 rfl ?_; refine go_do (valid_store_rp rfl rfl rfl rfl rfl rfl rfl rfl rfl (by first | omega | (simp; omega)) rfl) rfl ?_)
        | (refine nxt_s 5 rfl ?_; refine go_do (valid_load_rp tb rfl rfl rfl rfl rfl rfl) rfl ?_)
        | (refine nxt_s 2 rfl ?_; refine go_do (valid_idx_o rfl rfl rfl rfl rfl rfl rfl (by omega) (by omega)) rfl ?_)
        | (refine nxt_s 1 rfl ?_; refine go_do (valid_idx_p rfl rfl rfl rfl rfl rfl (by omega) (by omega)) rfl ?_)
        | refine go_do (valid_index tb rfl rfl rfl rfl rfl rfl (by omega) (by omega) rfl) rfl ?_
        | refine go_do (valid_len_o rfl rfl rfl rfl rfl) rfl ?_
        | refine go_do (valid_len_v rfl rfl rfl rfl) rfl ?_
        | (refine nxt_s 5 rfl ?_; refine go_do (valid_fld_rp tb rfl rfl rfl rfl) rfl ?_)
        | refine go_do (valid_bslice rfl rfl rfl rfl rfl rfl rfl rfl rfl rfl rfl) rfl ?_
        | refine go_do (valid_bslice0 rfl rfl rfl rfl rfl rfl rfl) rfl ?_
        | refine go_do (valid_eqb rfl rfl rfl rfl rfl) rfl ?_
        | refine go_do (valid_neb rfl rfl rfl rfl rfl) rfl ?_
        | refine go_do (valid_call rfl rfl rfl (hB) (by kernel_rfl)) rfl ?_)
    | refine aw_text rfl ?_
    | refine aw_any (by kernel_rfl) (by kernel_rfl) rfl ?_
    | exact aw_ret (show resA _ _ _ = some _ by kernel_rfl)
    | refine aw_cond1 rfl rfl ?_
    | refine aw_cond0 rfl rfl ?_
    | refine aw_block ?_
    | refine aw_exit ?_
    | refine aw_skip ?_
    | refine aw_seq_k (fun K hK => ?_))
  first
    | (refine hK _ ?_; clear hK K)
    | (rename_i K1 hK1; refine hK1 _ ?_; clear hK hK1; clear K)
    | (rename_i K1 hK1; refine hK1 _ ?_; clear hK1)
  refine aw_sub (sub_of [(1, .m (.c (.p 1 0))), (2, .m (ii 0)), (4, .m (ii 1)), (5, .m (.c (.p 5 0))), (6, .m (ii 0)), (7, .m (ii 0)), (10, .m (ii 9)), (11, .m (.c (.p 11 0))), (12, .m (ii 0))] [(1, .live (.box k0.ce)), (5, .live (.box kAa.ce)), (11, .live (.box kB.ce))] ⟨by kernel_rfl, by kernel_rfl, by kernel_rfl, by kernel_rfl, by kernel_rfl, by kernel_rfl, by kernel_rfl, by kernel_rfl, by kernel_rfl, trivial⟩ ⟨by kernel_rfl, by kernel_rfl, by kernel_rfl, trivial⟩ (by kernel_rfl)) ?_
  repeat (first
    | (refine go_at rfl ?_; first
        | refine go_do (valid_skip rfl) rfl ?_
        | refine go_do (valid_mv (.inl rfl) rfl) rfl ?_
        | (refine nxt_s 1 rfl ?_; refine go_do (valid_load_p tb rfl rfl rfl rfl rfl (by first | kernel_rfl | rfl)) (by first | kernel_rfl | rfl) ?_)
        | (refine nxt_s 1 rfl ?_; refine go_do (valid_fld_p tb rfl rfl rfl (by kernel_rfl)) rfl ?_)
        | refine go_do (valid_mv (.inr rfl) rfl) rfl ?_
        | refine go_do (valid_pick rfl rfl rfl) rfl ?_
        | refine go_do (valid_extract rfl rfl rfl rfl) rfl ?_
        | refine go_do (valid_field tb rfl rfl rfl rfl rfl rfl) rfl ?_
        | refine go_do (valid_cmp rfl rfl rfl rfl (by first | exact .eql1 (by omega) | exact .eql0 (by omega) | exact .neq1 (by omega) | exact .neq0 (by omega) | exact .lss1 (by omega) | exact .lss0 (by omega) | exact .leq1 (by omega) | exact .leq0 (by omega) | exact .gtr1 (by omega) | exact .gtr0 (by omega) | exact .geq1 (by omega) | exact .geq0 (by omega) | constructor)) rfl ?_
        | refine go_do (valid_ar rfl rfl rfl rfl (by constructor) (by first | exact wr_u64 (by omega) (by omega) | exact wr_i64 (by omega) (by omega) | rfl)) rfl ?_
        | refine go_do (valid_cv rfl rfl rfl rfl rfl (by first | exact wr_u64 (by omega) (by omega) | exact wr_i64 (by omega) (by omega) | rfl)) rfl ?_
        | refine go_do (valid_quo rfl rfl rfl rfl (by omega) (by omega) (by first | exact wr_u64 (by omega) (by omega) | exact wr_i64 (by omega) (by omega))) rfl ?_
        | refine go_do (valid_rem rfl rfl rfl rfl (by omega) (by omega)) rfl ?_
        | refine go_do (valid_box rfl rfl rfl rfl rfl rfl) rfl ?_
        | refine go_do (valid_alloc rfl rfl rfl rfl rfl) rfl ?_
        | (refine nxt_s 1 rfl ?_; refine go_do (valid_store_p rfl rfl rfl rfl rfl rfl (by first | kernel_rfl | rfl) rfl) (by first | kernel_rfl | rfl) ?_)
        | refine go_do (valid_len_s rfl rfl rfl rfl) rfl ?_
        | (refine nxt_s 3 rfl ?_; refine go_do (valid_load_q tb rfl rfl rfl rfl (by first | kernel_rfl | rfl)) rfl ?_)
        | (refine nxt_s 3 rfl ?_; refine go_do (valid_fld_q tb rfl rfl rfl rfl) rfl ?_)
        | refine go_do (valid_not rfl rfl rfl) rfl ?_
        | refine go_do (valid_build rfl rfl rfl rfl) rfl ?_
        | refine go_do (valid_nil rfl rfl rfl rfl) rfl ?_
        | (refine nxt_s 4 rfl ?_; refine go_do (valid_idx_s rfl rfl rfl rfl rfl rfl (by omega) (by omega) _ (by assumption)) rfl ?_)
        | (refine nxt_s 5 rfl ?_; refine go_do (valid_store_rp rfl rfl rfl rfl rfl rfl rfl rfl rfl (by first | omega | (simp; omega)) rfl) rfl ?_)
        | (refine nxt_s 5 rfl ?_; refine go_do (valid_load_rp tb rfl rfl rfl rfl rfl rfl) rfl ?_)
        | (refine nxt_s 2 rfl ?_; refine go_do (valid_idx_o rfl rfl rfl rfl rfl rfl rfl (by omega) (by omega)) rfl ?_)
        | (refine nxt_s 1 rfl ?_; refine go_do (valid_idx_p rfl rfl rfl rfl rfl rfl (by omega) (by omega)) rfl ?_)
        | refine go_do (valid_index tb rfl rfl rfl rfl rfl rfl (by omega) (by omega) rfl) rfl ?_
        | refine go_do (valid_len_o rfl rfl rfl rfl rfl) rfl ?_
        | refine go_do (valid_len_v rfl rfl rfl rfl) rfl ?_
        | (refine nxt_s 5 rfl ?_; refine go_do (valid_fld_rp tb rfl rfl rfl rfl) rfl ?_)
        | refine go_do (valid_bslice rfl rfl rfl rfl rfl rfl rfl rfl rfl rfl rfl) rfl ?_
        | refine go_do (valid_bslice0 rfl rfl rfl rfl rfl rfl rfl) rfl ?_
        | refine go_do (valid_eqb rfl rfl rfl rfl rfl) rfl ?_
        | refine go_do (valid_neb rfl rfl rfl rfl rfl) rfl ?_
        | refine go_do (valid_call rfl rfl rfl (hJ) (by kernel_rfl)) rfl ?_)
    | refine aw_text rfl ?_
    | refine aw_any (by kernel_rfl) (by kernel_rfl) rfl ?_
    | exact aw_ret (show resA _ _ _ = some _ by kernel_rfl)
    | refine aw_cond1 rfl rfl ?_
    | refine aw_cond0 rfl rfl ?_
    | refine aw_block ?_
    | refine aw_exit ?_
    | refine aw_skip ?_
    | refine aw_seq_k (fun K hK => ?_))
  first
    | (refine hK _ ?_; clear hK K)
    | (rename_i K1 hK1; refine hK1 _ ?_; clear hK hK1; clear K)
    | (rename_i K1 hK1; refine hK1 _ ?_; clear hK1)
  refine aw_sub (sub_of [(1, .m (.c (.p 1 0))), (2, .m (ii 0)), (4, .m (ii 1)), (5, .m (.c (.p 5 0))), (6, .m (ii 0)), (7, .m (ii 0)), (10, .m (ii 9)), (11, .m (.c (.p 11 0))), (12, .m (ii 0)), (14, .m (ii 10))] [(1, .live (.box k0.ce)), (5, .live (.box kAa.ce)), (11, .live (.box kB.ce))] ⟨by kernel_rfl, by kernel_rfl, by kernel_rfl, by kernel_rfl, by kernel_rfl, by kernel_rfl, by kernel_rfl, by kernel_rfl, by kernel_rfl, by kernel_rfl, trivial⟩ ⟨by kernel_rfl, by kernel_rfl, by kernel_rfl, trivial⟩ (by kernel_rfl)) ?_
  repeat (first
    | (refine go_at rfl ?_; first
        | refine go_do (valid_skip rfl) rfl ?_
        | refine go_do (valid_mv (.inl rfl) rfl) rfl ?_
        | (refine nxt_s 1 rfl ?_; refine go_do (valid_load_p tb rfl rfl rfl rfl rfl (by first | kernel_rfl | rfl)) (by first | kernel_rfl | rfl) ?_)
        | (refine nxt_s 1 rfl ?_; refine go_do (valid_fld_p tb rfl rfl rfl (by kernel_rfl)) rfl ?_)
        | refine go_do (valid_mv (.inr rfl) rfl) rfl ?_
        | refine go_do (valid_pick rfl rfl rfl) rfl ?_
        | refine go_do (valid_extract rfl rfl rfl rfl) rfl ?_
        | refine go_do (valid_field tb rfl rfl rfl rfl rfl rfl) rfl ?_
        | refine go_do (valid_cmp rfl rfl rfl rfl (by first | exact .eql1 (by omega) | exact .eql0 (by omega) | exact .neq1 (by omega) | exact .neq0 (by omega) | exact .lss1 (by omega) | exact .lss0 (by omega) | exact .leq1 (by omega) | exact .leq0 (by omega) | exact .gtr1 (by omega) | exact .gtr0 (by omega) | exact .geq1 (by omega) | exact .geq0 (by omega) | constructor)) rfl ?_
        | refine go_do (valid_ar rfl rfl rfl rfl (by constructor) (by first | exact wr_u64 (by omega) (by omega) | exact wr_i64 (by omega) (by omega) | rfl)) rfl ?_
        | refine go_do (valid_cv rfl rfl rfl rfl rfl (by first | exact wr_u64 (by omega) (by omega) | exact wr_i64 (by omega) (by omega) | rfl)) rfl ?_
        | refine go_do (valid_quo rfl rfl rfl rfl (by omega) (by omega) (by first | exact wr_u64 (by omega) (by omega) | exact wr_i64 (by omega) (by omega))) rfl ?_
        | refine go_do (valid_rem rfl rfl rfl rfl (by omega) (by omega)) rfl ?_
        | refine go_do (valid_box rfl rfl rfl rfl rfl rfl) rfl ?_
        | refine go_do (valid_alloc rfl rfl rfl rfl rfl) rfl ?_
        | (refine nxt_s 1 rfl ?_; refine go_do (valid_store_p rfl rfl rfl rfl rfl rfl (by first | kernel_rfl | rfl) rfl) (by first | kernel_rfl | rfl) ?_)
        | refine go_do (valid_len_s rfl rfl rfl rfl) rfl ?_
        | (refine nxt_s 3 rfl ?_; refine go_do (valid_load_q tb rfl rfl rfl rfl (by first | kernel_rfl | rfl)) rfl ?_)
        | (refine nxt_s 3 rfl ?_; refine go_do (valid_fld_q tb rfl rfl rfl rfl) rfl ?_)
        | refine go_do (valid_not rfl rfl rfl) rfl ?_
        | refine go_do (valid_build rfl rfl rfl rfl) rfl ?_
        | refine go_do (valid_nil rfl rfl rfl rfl) rfl ?_
        | (refine nxt_s 4 rfl ?_; refine go_do (valid_idx_s rfl rfl rfl rfl rfl rfl (by omega) (by omega) _ (by assumption)) rfl ?_)
        | (refine nxt_s 5 rfl ?_; refine go_do (valid_store_rp rfl rfl rfl rfl rfl rfl rfl rfl rfl (by first | omega | (simp; omega)) rfl) rfl ?_)
        | (refine nxt_s 5 rfl ?_; refine go_do (valid_load_rp tb rfl rfl rfl rfl rfl rfl) rfl ?_)
        | (refine nxt_s 2 rfl ?_; refine go_do (valid_idx_o rfl rfl rfl rfl rfl rfl rfl (by omega) (by omega)) rfl ?_)
        | (refine nxt_s 1 rfl ?_; refine go_do (valid_idx_p rfl rfl rfl rfl rfl rfl (by omega) (by omega)) rfl ?_)
        | refine go_do (valid_index tb rfl rfl rfl rfl rfl rfl (by omega) (by omega) rfl) rfl ?_
        | refine go_do (valid_len_o rfl rfl rfl rfl rfl) rfl ?_
        | refine go_do (valid_len_v rfl rfl rfl rfl) rfl ?_
        | (refine nxt_s 5 rfl ?_; refine go_do (valid_fld_rp tb rfl rfl rfl rfl) rfl ?_)
        | refine go_do (valid_bslice rfl rfl rfl rfl rfl rfl rfl rfl rfl rfl rfl) rfl ?_
        | refine go_do (valid_bslice0 rfl rfl rfl rfl rfl rfl rfl) rfl ?_
        | refine go_do (valid_eqb rfl rfl rfl rfl rfl) rfl ?_
        | refine go_do (valid_neb rfl rfl rfl rfl rfl) rfl ?_
        | refine go_do (valid_call rfl rfl rfl (hC) (by kernel_rfl)) rfl ?_)
    | refine aw_text rfl ?_
    | refine aw_any (by kernel_rfl) (by kernel_rfl) rfl ?_
    | exact aw_ret (show resA _ _ _ = some _ by kernel_rfl)
    | refine aw_cond1 rfl rfl ?_
    | refine aw_cond0 rfl rfl ?_
    | refine aw_block ?_
    | refine aw_exit ?_
    | refine aw_skip ?_
    | refine aw_seq_k (fun K hK => ?_))
  first
    | (refine hK _ ?_; clear hK K)
    | (rename_i K1 hK1; refine hK1 _ ?_; clear hK hK1; clear K)
    | (rename_i K1 hK1; refine hK1 _ ?_; clear hK1)
  refine aw_sub (sub_of [(1, .m (.c (.p 1 0))), (2, .m (ii 0)), (4, .m (ii 1)), (5, .m (.c (.p 5 0))), (6, .m (ii 0)), (7, .m (ii 0)), (10, .m (ii 9)), (11, .m (.c (.p 11 0))), (12, .m (ii 0)), (14, .m (ii 10)), (15, .m (.c (.p 15 0))), (16, .m (ii 0))] [(1, .live (.box k0.ce)), (5, .live (.box kAa.ce)), (11, .live (.box kB.ce)), (15, .live (.box kC.ce))] ⟨by kernel_rfl, by kernel_rfl, by kernel_rfl, by kernel_rfl, by kernel_rfl, by kernel_rfl, by kernel_rfl, by kernel_rfl, by kernel_rfl, by kernel_rfl, by kernel_rfl, by kernel_rfl, trivial⟩ ⟨by kernel_rfl, by kernel_rfl, by kernel_rfl, by kernel_rfl, trivial⟩ (by kernel_rfl)) ?_
  repeat (first
    | (refine go_at rfl ?_; first
        | refine go_do (valid_skip rfl) rfl ?_
        | refine go_do (valid_mv (.inl rfl) rfl) rfl ?_
        | (refine nxt_s 1 rfl ?_; refine go_do (valid_load_p tb rfl rfl rfl rfl rfl (by first | kernel_rfl | rfl)) (by first | kernel_rfl | rfl) ?_)
        | (refine nxt_s 1 rfl ?_; refine go_do (valid_fld_p tb rfl rfl rfl (by kernel_rfl)) rfl ?_)
        | refine go_do (valid_mv (.inr rfl) rfl) rfl ?_
        | refine go_do (valid_pick rfl rfl rfl) rfl ?_
        | refine go_do (valid_extract rfl rfl rfl rfl) rfl ?_
        | refine go_do (valid_field tb rfl rfl rfl rfl rfl rfl) rfl ?_
        | refine go_do (valid_cmp rfl rfl rfl rfl (by first | exact .eql1 (by omega) | exact .eql0 (by omega) | exact .neq1 (by omega) | exact .neq0 (by omega) | exact .lss1 (by omega) | exact .lss0 (by omega) | exact .leq1 (by omega) | exact .leq0 (by omega) | exact .gtr1 (by omega) | exact .gtr0 (by omega) | exact .geq1 (by omega) | exact .geq0 (by omega) | constructor)) rfl ?_
        | refine go_do (valid_ar rfl rfl rfl rfl (by constructor) (by first | exact wr_u64 (by omega) (by omega) | exact wr_i64 (by omega) (by omega) | rfl)) rfl ?_
        | refine go_do (valid_cv rfl rfl rfl rfl rfl (by first | exact wr_u64 (by omega) (by omega) | exact wr_i64 (by omega) (by omega) | rfl)) rfl ?_
        | refine go_do (valid_quo rfl rfl rfl rfl (by omega) (by omega) (by first | exact wr_u64 (by omega) (by omega) | exact wr_i64 (by omega) (by omega))) rfl ?_
        | refine go_do (valid_rem rfl rfl rfl rfl (by omega) (by omega)) rfl ?_
        | refine go_do (valid_box rfl rfl rfl rfl rfl rfl) rfl ?_
        | refine go_do (valid_alloc rfl rfl rfl rfl rfl) rfl ?_
        | (refine nxt_s 1 rfl ?_; refine go_do (valid_store_p rfl rfl rfl rfl rfl rfl (by first | kernel_rfl | rfl) rfl) (by first | kernel_rfl | rfl) ?_)
        | refine go_do (valid_len_s rfl rfl rfl rfl) rfl ?_
        | (refine nxt_s 3 rfl ?_; refine go_do (valid_load_q tb rfl rfl rfl rfl (by first | kernel_rfl | rfl)) rfl ?_)
        | (refine nxt_s 3 rfl ?_; refine go_do (valid_fld_q tb rfl rfl rfl rfl) rfl ?_)
        | refine go_do (valid_not rfl rfl rfl) rfl ?_
        | refine go_do (valid_build rfl rfl rfl rfl) rfl ?_
        | refine go_do (valid_nil rfl rfl rfl rfl) rfl ?_
        | (refine nxt_s 4 rfl ?_; refine go_do (valid_idx_s rfl rfl rfl rfl rfl rfl (by omega) (by omega) _ (by assumption)) rfl ?_)
        | (refine nxt_s 5 rfl ?_; refine go_do (valid_store_rp rfl rfl rfl rfl rfl rfl rfl rfl rfl (by first | omega | (simp; omega)) rfl) rfl ?_)
        | (refine nxt_s 5 rfl ?_; refine go_do (valid_load_rp tb rfl rfl rfl rfl rfl rfl) rfl ?_)
        | (refine nxt_s 2 rfl ?_; refine go_do (valid_idx_o rfl rfl rfl rfl rfl rfl rfl (by omega) (by omega)) rfl ?_)
        | (refine nxt_s 1 rfl ?_; refine go_do (valid_idx_p rfl rfl rfl rfl rfl rfl (by omega) (by omega)) rfl ?_)
        | refine go_do (valid_index tb rfl rfl rfl rfl rfl rfl (by omega) (by omega) rfl) rfl ?_
        | refine go_do (valid_len_o rfl rfl rfl rfl rfl) rfl ?_
        | refine go_do (valid_len_v rfl rfl rfl rfl) rfl ?_
        | (refine nxt_s 5 rfl ?_; refine go_do (valid_fld_rp tb rfl rfl rfl rfl) rfl ?_)
        | refine go_do (valid_bslice rfl rfl rfl rfl rfl rfl rfl rfl rfl rfl rfl) rfl ?_
        | refine go_do (valid_bslice0 rfl rfl rfl rfl rfl rfl rfl) rfl ?_
        | refine go_do (valid_eqb rfl rfl rfl rfl rfl) rfl ?_
        | refine go_do (valid_neb rfl rfl rfl rfl rfl) rfl ?_
        | refine go_do (valid_call rfl rfl rfl (hM) (by kernel_rfl)) rfl ?_)
    | refine aw_text rfl ?_
    | refine aw_any (by kernel_rfl) (by kernel_rfl) rfl ?_
    | exact aw_ret (show resA _ _ _ = some _ by kernel_rfl)
    | refine aw_cond1 rfl rfl ?_
    | refine aw_cond0 rfl rfl ?_
    | refine aw_block ?_
    | refine aw_exit ?_
    | refine aw_skip ?_
    | refine aw_seq_k (fun K hK => ?_))
  first
    | (refine hK _ ?_; clear hK K)
    | (rename_i K1 hK1; refine hK1 _ ?_; clear hK hK1; clear K)
    | (rename_i K1 hK1; refine hK1 _ ?_; clear hK1)
  refine aw_sub (sub_of [(1, .m (.c (.p 1 0))), (2, .m (ii 0)), (4, .m (ii 1)), (5, .m (.c (.p 5 0))), (6, .m (ii 0)), (7, .m (ii 0)), (10, .m (ii 9)), (11, .m (.c (.p 11 0))), (12, .m (ii 0)), (14, .m (ii 10)), (15, .m (.c (.p 15 0))), (16, .m (ii 0)), (18, .m (ii 4))] [(1, .live (.box k0.ce)), (5, .live (.box kAa.ce)), (11, .live (.box kB.ce)), (15, .live (.box kC.ce))] ⟨by kernel_rfl, by kernel_rfl, by kernel_rfl, by kernel_rfl, by kernel_rfl, by kernel_rfl, by kernel_rfl, by kernel_rfl, by kernel_rfl, by kernel_rfl, by kernel_rfl, by kernel_rfl, by kernel_rfl, trivial⟩ ⟨by kernel_rfl, by kernel_rfl, by kernel_rfl, by kernel_rfl, trivial⟩ (by kernel_rfl)) ?_
  repeat (first
    | (refine go_at rfl ?_; first
        | refine go_do (valid_skip rfl) rfl ?_
        | refine go_do (valid_mv (.inl rfl) rfl) rfl ?_
        | (refine nxt_s 1 rfl ?_; refine go_do (valid_load_p tb rfl rfl rfl rfl rfl (by first | kernel_rfl | rfl)) (by first | kernel_rfl | rfl) ?_)
        | (refine nxt_s 1 rfl ?_; refine go_do (valid_fld_p tb rfl rfl rfl (by kernel_rfl)) rfl ?_)
        | refine go_do (valid_mv (.inr rfl) rfl) rfl ?_
        | refine go_do (valid_pick rfl rfl rfl) rfl ?_
        | refine go_do (valid_extract rfl rfl rfl rfl) rfl ?_
        | refine go_do (valid_field tb rfl rfl rfl rfl rfl rfl) rfl ?_
        | refine go_do (valid_cmp rfl rfl rfl rfl (by first | exact .eql1 (by omega) | exact .eql0 (by omega) | exact .neq1 (by omega) | exact .neq0 (by omega) | exact .lss1 (by omega) | exact .lss0 (by omega) | exact .leq1 (by omega) | exact .leq0 (by omega) | exact .gtr1 (by omega) | exact .gtr0 (by omega) | exact .geq1 (by omega) | exact .geq0 (by omega) | constructor)) rfl ?_
        | refine go_do (valid_ar rfl rfl rfl rfl (by constructor) (by first | exact wr_u64 (by omega) (by omega) | exact wr_i64 (by omega) (by omega) | rfl)) rfl ?_
        | refine go_do (valid_cv rfl rfl rfl rfl rfl (by first | exact wr_u64 (by omega) (by omega) | exact wr_i64 (by omega) (by omega) | rfl)) rfl ?_
        | refine go_do (valid_quo rfl rfl rfl rfl (by omega) (by omega) (by first | exact wr_u64 (by omega) (by omega) | exact wr_i64 (by omega) (by omega))) rfl ?_
        | refine go_do (valid_rem rfl rfl rfl rfl (by omega) (by omega)) rfl ?_
        | refine go_do (valid_box rfl rfl rfl rfl rfl rfl) rfl ?_
        | refine go_do (valid_alloc rfl rfl rfl rfl rfl) rfl ?_
        | (refine nxt_s 1 rfl ?_; refine go_do (valid_store_p rfl rfl rfl rfl rfl rfl (by first | kernel_rfl | rfl) rfl) (by first | kernel_rfl | rfl) ?_)
        | refine go_do (valid_len_s rfl rfl rfl rfl) rfl ?_
        | (refine nxt_s 3 rfl ?_; refine go_do (valid_load_q tb rfl rfl rfl rfl (by first | kernel_rfl | rfl)) rfl ?_)
        | (refine nxt_s 3 rfl ?_; refine go_do (valid_fld_q tb rfl rfl rfl rfl) rfl ?_)
        | refine go_do (valid_not rfl rfl rfl) rfl ?_
        | refine go_do (valid_build rfl rfl rfl rfl) rfl ?_
        | refine go_do (valid_nil rfl rfl rfl rfl) rfl ?_
        | (refine nxt_s 4 rfl ?_; refine go_do (valid_idx_s rfl rfl rfl rfl rfl rfl (by omega) (by omega) _ (by assumption)) rfl ?_)
        | (refine nxt_s 5 rfl ?_; refine go_do (valid_store_rp rfl rfl rfl rfl rfl rfl rfl rfl rfl (by first | omega | (simp; omega)) rfl) rfl ?_)
        | (refine nxt_s 5 rfl ?_; refine go_do (valid_load_rp tb rfl rfl rfl rfl rfl rfl) rfl ?_)
        | (refine nxt_s 2 rfl ?_; refine go_do (valid_idx_o rfl rfl rfl rfl rfl rfl rfl (by omega) (by omega)) rfl ?_)
        | (refine nxt_s 1 rfl ?_; refine go_do (valid_idx_p rfl rfl rfl rfl rfl rfl (by omega) (by omega)) rfl ?_)
        | refine go_do (valid_index tb rfl rfl rfl rfl rfl rfl (by omega) (by omega) rfl) rfl ?_
        | refine go_do (valid_len_o rfl rfl rfl rfl rfl) rfl ?_
        | refine go_do (valid_len_v rfl rfl rfl rfl) rfl ?_
        | (refine nxt_s 5 rfl ?_; refine go_do (valid_fld_rp tb rfl rfl rfl rfl) rfl ?_)
        | refine go_do (valid_bslice rfl rfl rfl rfl rfl rfl rfl rfl rfl rfl rfl) rfl ?_
        | refine go_do (valid_bslice0 rfl rfl rfl rfl rfl rfl rfl) rfl ?_
        | refine go_do (valid_eqb rfl rfl rfl rfl rfl) rfl ?_
        | refine go_do (valid_neb rfl rfl rfl rfl rfl) rfl ?_
        | refine go_do (valid_call rfl rfl rfl (hD) (by kernel_rfl)) rfl ?_)
    | refine aw_text rfl ?_
    | refine aw_any (by kernel_rfl) (by kernel_rfl) rfl ?_
    | exact aw_ret (show resA _ _ _ = some _ by kernel_rfl)
    | refine aw_cond1 rfl rfl ?_
    | refine aw_cond0 rfl rfl ?_
    | refine aw_block ?_
    | refine aw_exit ?_
    | refine aw_skip ?_
    | refine aw_seq_k (fun K hK => ?_))
  first
    | (refine hK _ ?_; clear hK K)
    | (rename_i K1 hK1; refine hK1 _ ?_; clear hK hK1; clear K)
    | (rename_i K1 hK1; refine hK1 _ ?_; clear hK1)
  refine aw_sub (sub_of [(1, .m (.c (.p 1 0))), (2, .m (ii 0)), (4, .m (ii 1)), (5, .m (.c (.p 5 0))), (6, .m (ii 0)), (7, .m (ii 0)), (10, .m (ii 9)), (11, .m (.c (.p 11 0))), (12, .m (ii 0)), (14, .m (ii 10)), (15, .m (.c (.p 15 0))), (16, .m (ii 0)), (18, .m (ii 4)), (19, .m (.c (.p 19 0))), (20, .m (ii 1)), (21, .m (ii 0))] [(1, .live (.box k0.ce)), (5, .live (.box kAa.ce)), (11, .live (.box kB.ce)), (15, .live (.box kC.ce)), (19, .live (.box kD.ce))] ⟨by kernel_rfl, by kernel_rfl, by kernel_rfl, by kernel_rfl, by kernel_rfl, by kernel_rfl, by kernel_rfl, by kernel_rfl, by kernel_rfl, by kernel_rfl, by kernel_rfl, by kernel_rfl, by kernel_rfl, by kernel_rfl, by kernel_rfl, by kernel_rfl, trivial⟩ ⟨by kernel_rfl, by kernel_rfl, by kernel_rfl, by kernel_rfl, by kernel_rfl, trivial⟩ (by kernel_rfl)) ?_
  repeat (first
    | (refine go_at rfl ?_; first
        | refine go_do (valid_skip rfl) rfl ?_
        | refine go_do (valid_mv (.inl rfl) rfl) rfl ?_
        | (refine nxt_s 1 rfl ?_; refine go_do (valid_load_p tb rfl rfl rfl rfl rfl (by first | kernel_rfl | rfl)) (by first | kernel_rfl | rfl) ?_)
        | (refine nxt_s 1 rfl ?_; refine go_do (valid_fld_p tb rfl rfl rfl (by kernel_rfl)) rfl ?_)
        | refine go_do (valid_mv (.inr rfl) rfl) rfl ?_
        | refine go_do (valid_pick rfl rfl rfl) rfl ?_
        | refine go_do (valid_extract rfl rfl rfl rfl) rfl ?_
        | refine go_do (valid_field tb rfl rfl rfl rfl rfl rfl) rfl ?_
        | refine go_do (valid_cmp rfl rfl rfl rfl (by first | exact .eql1 (by omega) | exact .eql0 (by omega) | exact .neq1 (by omega) | exact .neq0 (by omega) | exact .lss1 (by omega) | exact .lss0 (by omega) | exact .leq1 (by omega) | exact .leq0 (by omega) | exact .gtr1 (by omega) | exact .gtr0 (by omega) | exact .geq1 (by omega) | exact .geq0 (by omega) | constructor)) rfl ?_
        | refine go_do (valid_ar rfl rfl rfl rfl (by constructor) (by first | exact wr_u64 (by omega) (by omega) | exact wr_i64 (by omega) (by omega) | rfl)) rfl ?_
        | refine go_do (valid_cv rfl rfl rfl rfl rfl (by first | exact wr_u64 (by omega) (by omega) | exact wr_i64 (by omega) (by omega) | rfl)) rfl ?_
        | refine go_do (valid_quo rfl rfl rfl rfl (by omega) (by omega) (by first | exact wr_u64 (by omega) (by omega) | exact wr_i64 (by omega) (by omega))) rfl ?_
        | refine go_do (valid_rem rfl rfl rfl rfl (by omega) (by omega)) rfl ?_
        | refine go_do (valid_box rfl rfl rfl rfl rfl rfl) rfl ?_
        | refine go_do (valid_alloc rfl rfl rfl rfl rfl) rfl ?_
        | (refine nxt_s 1 rfl ?_; refine go_do (valid_store_p rfl rfl rfl rfl rfl rfl (by first | kernel_rfl | rfl) rfl) (by first | kernel_rfl | rfl) ?_)
        | refine go_do (valid_len_s rfl rfl rfl rfl) rfl ?_
        | (refine nxt_s 3 rfl ?_; refine go_do (valid_load_q tb rfl rfl rfl rfl (by first | kernel_rfl | rfl)) rfl ?_)
        | (refine nxt_s 3 rfl ?_; refine go_do (valid_fld_q tb rfl rfl rfl rfl) rfl ?_)
        | refine go_do (valid_not rfl rfl rfl) rfl ?_
        | refine go_do (valid_build rfl rfl rfl rfl) rfl ?_
        | refine go_do (valid_nil rfl rfl rfl rfl) rfl ?_
        | (refine nxt_s 4 rfl ?_; refine go_do (valid_idx_s rfl rfl rfl rfl rfl rfl (by omega) (by omega) _ (by assumption)) rfl ?_)
        | (refine nxt_s 5 rfl ?_; refine go_do (valid_store_rp rfl rfl rfl rfl rfl rfl rfl rfl rfl (by first | omega | (simp; omega)) rfl) rfl ?_)
        | (refine nxt_s 5 rfl ?_; refine go_do (valid_load_rp tb rfl rfl rfl rfl rfl rfl) rfl ?_)
        | (refine nxt_s 2 rfl ?_; refine go_do (valid_idx_o rfl rfl rfl rfl rfl rfl rfl (by omega) (by omega)) rfl ?_)
        | (refine nxt_s 1 rfl ?_; refine go_do (valid_idx_p rfl rfl rfl rfl rfl rfl (by omega) (by omega)) rfl ?_)
        | refine go_do (valid_index tb rfl rfl rfl rfl rfl rfl (by omega) (by omega) rfl) rfl ?_
        | refine go_do (valid_len_o rfl rfl rfl rfl rfl) rfl ?_
        | refine go_do (valid_len_v rfl rfl rfl rfl) rfl ?_
        | (refine nxt_s 5 rfl ?_; refine go_do (valid_fld_rp tb rfl rfl rfl rfl) rfl ?_)
        | refine go_do (valid_bslice rfl rfl rfl rfl rfl rfl rfl rfl rfl rfl rfl) rfl ?_
        | refine go_do (valid_bslice0 rfl rfl rfl rfl rfl rfl rfl) rfl ?_
        | refine go_do (valid_eqb rfl rfl rfl rfl rfl) rfl ?_
        | refine go_do (valid_neb rfl rfl rfl rfl rfl) rfl ?_
        | refine go_do (valid_call rfl rfl rfl (hW) (by kernel_rfl)) rfl ?_)
    | refine aw_text rfl ?_
    | refine aw_any (by kernel_rfl) (by kernel_rfl) rfl ?_
    | exact aw_ret (show resA _ _ _ = some _ by kernel_rfl)
    | refine aw_cond1 rfl rfl ?_
    | refine aw_cond0 rfl rfl ?_
    | refine aw_block ?_
    | refine aw_exit ?_
    | refine aw_skip ?_
    | refine aw_seq_k (fun K hK => ?_))
  first
    | (refine hK _ ?_; clear hK K)
    | (rename_i K1 hK1; refine hK1 _ ?_; clear hK hK1; clear K)
    | (rename_i K1 hK1; refine hK1 _ ?_; clear hK1)
  refine aw_sub (sub_of [(1, .m (.c (.p 1 0))), (2, .m (ii 0)), (4, .m (ii 1)), (5, .m (.c (.p 5 0))), (6, .m (ii 0)), (7, .m (ii 0)), (10, .m (ii 9)), (11, .m (.c (.p 11 0))), (12, .m (ii 0)), (14, .m (ii 10)), (15, .m (.c (.p 15 0))), (16, .m (ii 0)), (18, .m (ii 4)), (19, .m (.c (.p 19 0))), (20, .m (ii 1)), (21, .m (ii 0)), (22, .m (iu 5)), (23, .m (ii 2)), (24, .m (ii 0))] [(1, .live (.box k0.ce)), (5, .live (.box kAa.ce)), (11, .live (.box kB.ce)), (15, .live (.box kC.ce)), (19, .live (.box kD.ce))] ⟨by kernel_rfl, by kernel_rfl, by kernel_rfl, by kernel_rfl, by kernel_rfl, by kernel_rfl, by kernel_rfl, by kernel_rfl, by kernel_rfl, by kernel_rfl, by kernel_rfl, by kernel_rfl, by kernel_rfl, by kernel_rfl, by kernel_rfl, by kernel_rfl, by kernel_rfl, by kernel_rfl, by kernel_rfl, trivial⟩ ⟨by kernel_rfl, by kernel_rfl, by kernel_rfl, by kernel_rfl, by kernel_rfl, trivial⟩ (by kernel_rfl)) ?_
  repeat (first
    | (refine go_at rfl ?_; first
        | refine go_do (valid_skip rfl) rfl ?_
        | refine go_do (valid_mv (.inl rfl) rfl) rfl ?_
        | (refine nxt_s 1 rfl ?_; refine go_do (valid_load_p tb rfl rfl rfl rfl rfl (by first | kernel_rfl | rfl)) (by first | kernel_rfl | rfl) ?_)
        | (refine nxt_s 1 rfl ?_; refine go_do (valid_fld_p tb rfl rfl rfl (by kernel_rfl)) rfl ?_)
        | refine go_do (valid_mv (.inr rfl) rfl) rfl ?_
        | refine go_do (valid_pick rfl rfl rfl) rfl ?_
        | refine go_do (valid_extract rfl rfl rfl rfl) rfl ?_
        | refine go_do (valid_field tb rfl rfl rfl rfl rfl rfl) rfl ?_
        | refine go_do (valid_cmp rfl rfl rfl rfl (by first | exact .eql1 (by omega) | exact .eql0 (by omega) | exact .neq1 (by omega) | exact .neq0 (by omega) | exact .lss1 (by omega) | exact .lss0 (by omega) | exact .leq1 (by omega) | exact .leq0 (by omega) | exact .gtr1 (by omega) | exact .gtr0 (by omega) | exact .geq1 (by omega) | exact .geq0 (by omega) | constructor)) rfl ?_
        | refine go_do (valid_ar rfl rfl rfl rfl (by constructor) (by first | exact wr_u64 (by omega) (by omega) | exact wr_i64 (by omega) (by omega) | rfl)) rfl ?_
        | refine go_do (valid_cv rfl rfl rfl rfl rfl (by first | exact wr_u64 (by omega) (by omega) | exact wr_i64 (by omega) (by omega) | rfl)) rfl ?_
        | refine go_do (valid_quo rfl rfl rfl rfl (by omega) (by omega) (by first | exact wr_u64 (by omega) (by omega) | exact wr_i64 (by omega) (by omega))) rfl ?_
        | refine go_do (valid_rem rfl rfl rfl rfl (by omega) (by omega)) rfl ?_
        | refine go_do (valid_box rfl rfl rfl rfl rfl rfl) rfl ?_
        | refine go_do (valid_alloc rfl rfl rfl rfl rfl) rfl ?_
        | (refine nxt_s 1 rfl ?_; refine go_do (valid_store_p rfl rfl rfl rfl rfl rfl (by first | kernel_rfl | rfl) rfl) (by first | kernel_rfl | rfl) ?_)
        | refine go_do (valid_len_s rfl rfl rfl rfl) rfl ?_
        | (refine nxt_s 3 rfl ?_; refine go_do (valid_load_q tb rfl rfl rfl rfl (by first | kernel_rfl | rfl)) rfl ?_)
        | (refine nxt_s 3 rfl ?_; refine go_do (valid_fld_q tb rfl rfl rfl rfl) rfl ?_)
        | refine go_do (valid_not rfl rfl rfl) rfl ?_
        | refine go_do (valid_build rfl rfl rfl rfl) rfl ?_
        | refine go_do (valid_nil rfl rfl rfl rfl) rfl ?_
        | (refine nxt_s 4 rfl ?_; refine go_do (valid_idx_s rfl rfl rfl rfl rfl rfl (by omega) (by omega) _ (by assumption)) rfl ?_)
        | (refine nxt_s 5 rfl ?_; refine go_do (valid_store_rp rfl rfl rfl rfl rfl rfl rfl rfl rfl (by first | omega | (simp; omega)) rfl) rfl ?_)
        | (refine nxt_s 5 rfl ?_; refine go_do (valid_load_rp tb rfl rfl rfl rfl rfl rfl) rfl ?_)
        | (refine nxt_s 2 rfl ?_; refine go_do (valid_idx_o rfl rfl rfl rfl rfl rfl rfl (by omega) (by omega)) rfl ?_)
        | (refine nxt_s 1 rfl ?_; refine go_do (valid_idx_p rfl rfl rfl rfl rfl rfl (by omega) (by omega)) rfl ?_)
        | refine go_do (valid_index tb rfl rfl rfl rfl rfl rfl (by omega) (by omega) rfl) rfl ?_
        | refine go_do (valid_len_o rfl rfl rfl rfl rfl) rfl ?_
        | refine go_do (valid_len_v rfl rfl rfl rfl) rfl ?_
        | (refine nxt_s 5 rfl ?_; refine go_do (valid_fld_rp tb rfl rfl rfl rfl) rfl ?_)
        | refine go_do (valid_bslice rfl rfl rfl rfl rfl rfl rfl rfl rfl rfl rfl) rfl ?_
        | refine go_do (valid_bslice0 rfl rfl rfl rfl rfl rfl rfl) rfl ?_
        | refine go_do (valid_eqb rfl rfl rfl rfl rfl) rfl ?_
        | refine go_do (valid_neb rfl rfl rfl rfl rfl) rfl ?_
        | refine go_do (valid_call rfl rfl rfl (hV) (by kernel_rfl)) rfl ?_)
    | refine aw_text rfl ?_
    | refine aw_any (by kernel_rfl) (by kernel_rfl) rfl ?_
    | exact aw_ret (show resA _ _ _ = some _ by kernel_rfl)
    | refine aw_cond1 rfl rfl ?_
    | refine aw_cond0 rfl rfl ?_
    | refine aw_block ?_
    | refine aw_exit ?_
    | refine aw_skip ?_
    | refine aw_seq_k (fun K hK => ?_))
  first
    | (refine hK _ ?_; clear hK K)
    | (rename_i K1 hK1; refine hK1 _ ?_; clear hK hK1; clear K)
    | (rename_i K1 hK1; refine hK1 _ ?_; clear hK1)
  refine aw_sub (sub_of [(1, .m (.c (.p 1 0))), (2, .m (ii 0)), (4, .m (ii 1)), (5, .m (.c (.p 5 0))), (6, .m (ii 0)), (7, .m (ii 0)), (10, .m (ii 9)), (11, .m (.c (.p 11 0))), (12, .m (ii 0)), (14, .m (ii 10)), (15, .m (.c (.p 15 0))), (16, .m (ii 0)), (18, .m (ii 4)), (19, .m (.c (.p 19 0))), (20, .m (ii 1)), (21, .m (ii 0)), (22, .m (iu 5)), (23, .m (ii 2)), (24, .m (ii 0)), (27, .m (ii 3))] [(1, .live (.box k0.ce)), (5, .live (.box kAa.ce)), (11, .live (.box kB.ce)), (15, .live (.box kC.ce)), (19, .live (.box kD.ce))] ⟨by kernel_rfl, by kernel_rfl, by kernel_rfl, by kernel_rfl, by kernel_rfl, by kernel_rfl, by kernel_rfl, by kernel_rfl, by kernel_rfl, by kernel_rfl, by kernel_rfl, by kernel_rfl, by kernel_rfl, by kernel_rfl, by kernel_rfl, by kernel_rfl, by kernel_rfl, by kernel_rfl, by kernel_rfl, by kernel_rfl, trivial⟩ ⟨by kernel_rfl, by kernel_rfl, by kernel_rfl, by kernel_rfl, by kernel_rfl, trivial⟩ (by kernel_rfl)) ?_
  repeat (first
    | (refine go_at rfl ?_; first
        | refine go_do (valid_skip rfl) rfl ?_
        | refine go_do (valid_mv (.inl rfl) rfl) rfl ?_
        | (refine nxt_s 1 rfl ?_; refine go_do (valid_load_p tb rfl rfl rfl rfl rfl (by first | kernel_rfl | rfl)) (by first | kernel_rfl | rfl) ?_)
        | (refine nxt_s 1 rfl ?_; refine go_do (valid_fld_p tb rfl rfl rfl (by kernel_rfl)) rfl ?_)
        | refine go_do (valid_mv (.inr rfl) rfl) rfl ?_
        | refine go_do (valid_pick rfl rfl rfl) rfl ?_
        | refine go_do (valid_extract rfl rfl rfl rfl) rfl ?_
        | refine go_do (valid_field tb rfl rfl rfl rfl rfl rfl) rfl ?_
        | refine go_do (valid_cmp rfl rfl rfl rfl (by first | exact .eql1 (by omega) | exact .eql0 (by omega) | exact .neq1 (by omega) | exact .neq0 (by omega) | exact .lss1 (by omega) | exact .lss0 (by omega) | exact .leq1 (by omega) | exact .leq0 (by omega) | exact .gtr1 (by omega) | exact .gtr0 (by omega) | exact .geq1 (by omega) | exact .geq0 (by omega) | constructor)) rfl ?_
        | refine go_do (valid_ar rfl rfl rfl rfl (by constructor) (by first | exact wr_u64 (by omega) (by omega) | exact wr_i64 (by omega) (by omega) | rfl)) rfl ?_
        | refine go_do (valid_cv rfl rfl rfl rfl rfl (by first | exact wr_u64 (by omega) (by omega) | exact wr_i64 (by omega) (by omega) | rfl)) rfl ?_
        | refine go_do (valid_quo rfl rfl rfl rfl (by omega) (by omega) (by first | exact wr_u64 (by omega) (by omega) | exact wr_i64 (by omega) (by omega))) rfl ?_
        | refine go_do (valid_rem rfl rfl rfl rfl (by omega) (by omega)) rfl ?_
        | refine go_do (valid_box rfl rfl rfl rfl rfl rfl) rfl ?_
        | refine go_do (valid_alloc rfl rfl rfl rfl rfl) rfl ?_
        | (refine nxt_s 1 rfl ?_; refine go_do (valid_store_p rfl rfl rfl rfl rfl rfl (by first | kernel_rfl | rfl) rfl) (by first | kernel_rfl | rfl) ?_)
        | refine go_do (valid_len_s rfl rfl rfl rfl) rfl ?_
        | (refine nxt_s 3 rfl ?_; refine go_do (valid_load_q tb rfl rfl rfl rfl (by first | kernel_rfl | rfl)) rfl ?_)
        | (refine nxt_s 3 rfl ?_; refine go_do (valid_fld_q tb rfl rfl rfl rfl) rfl ?_)
        | refine go_do (valid_not rfl rfl rfl) rfl ?_
        | refine go_do (valid_build rfl rfl rfl rfl) rfl ?_
        | refine go_do (valid_nil rfl rfl rfl rfl) rfl ?_
        | (refine nxt_s 4 rfl ?_; refine go_do (valid_idx_s rfl rfl rfl rfl rfl rfl (by omega) (by omega) _ (by assumption)) rfl ?_)
        | (refine nxt_s 5 rfl ?_; refine go_do (valid_store_rp rfl rfl rfl rfl rfl rfl rfl rfl rfl (by first | omega | (simp; omega)) rfl) rfl ?_)
        | (refine nxt_s 5 rfl ?_; refine go_do (valid_load_rp tb rfl rfl rfl rfl rfl rfl) rfl ?_)
        | (refine nxt_s 2 rfl ?_; refine go_do (valid_idx_o rfl rfl rfl rfl rfl rfl rfl (by omega) (by omega)) rfl ?_)
        | (refine nxt_s 1 rfl ?_; refine go_do (valid_idx_p rfl rfl rfl rfl rfl rfl (by omega) (by omega)) rfl ?_)
        | refine go_do (valid_index tb rfl rfl rfl rfl rfl rfl (by omega) (by omega) rfl) rfl ?_
        | refine go_do (valid_len_o rfl rfl rfl rfl rfl) rfl ?_
        | refine go_do (valid_len_v rfl rfl rfl rfl) rfl ?_
        | (refine nxt_s 5 rfl ?_; refine go_do (valid_fld_rp tb rfl rfl rfl rfl) rfl ?_)
        | refine go_do (valid_bslice rfl rfl rfl rfl rfl rfl rfl rfl rfl rfl rfl) rfl ?_
        | refine go_do (valid_bslice0 rfl rfl rfl rfl rfl rfl rfl) rfl ?_
        | refine go_do (valid_eqb rfl rfl rfl rfl rfl) rfl ?_
        | refine go_do (valid_neb rfl rfl rfl rfl rfl) rfl ?_
        | refine go_do (valid_call rfl rfl rfl (free3 4 4) rfl) rfl ?_
        | refine go_do (valid_call rfl rfl rfl (free2 4 4) rfl) rfl ?_
        | refine go_do (valid_idx_s rfl rfl rfl rfl rfl rfl (by decide) (by decide) _ hx) rfl ?_
        | refine go_do (valid_eql (us := [.int .u64 8, .int .u64 1, .int .u64 5]) (vs := [.int .u64 8, .int .u64 1, .int .u64 5]) e1 (by kernel_rfl) rfl rfl rfl rfl) rfl ?_
        | refine go_do (valid_eql (us := [.bool false, .int .u64 0, .bool true, .int .u64 1]) (vs := [.bool false, .int .u64 0, .bool true, .int .u64 1]) e2 (by kernel_rfl) rfl rfl rfl rfl) rfl ?_)
    | (refine hK _ ?_; clear hK K)
    | (rename_i K1 hK1; refine hK1 _ ?_; clear hK hK1; clear K)
    | (rename_i K1 hK1; refine hK1 _ ?_; clear hK1)
    | refine aw_text rfl ?_
    | refine aw_any (by kernel_rfl) (by kernel_rfl) rfl ?_
    | exact aw_ret (show resA _ _ _ = some _ by kernel_rfl)
    | refine aw_cond1 rfl rfl ?_
    | refine aw_cond0 rfl rfl ?_
    | refine aw_block ?_
    | refine aw_exit ?_
    | refine aw_skip ?_
    | refine aw_seq_k (fun K hK => ?_))
end Go.Proofs.YtkffmaeiplgjeaaDoor.SpP
