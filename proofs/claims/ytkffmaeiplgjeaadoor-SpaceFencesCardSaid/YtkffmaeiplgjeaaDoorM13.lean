/- Texts of this claim, one behind the other: SpD. -/
import Derived.Test.YtkffmaeiplgjeaaDoorM12
/- The abstract walk: fences over entries that are zero. -/
namespace Go.Proofs.YtkffmaeiplgjeaaDoor.SpD
open Go.RowKit Go.Proofs.YtkffmaeiplgjeaaDoor.Bv Go.Proofs.YtkffmaeiplgjeaaDoor.VaSpec Go.Proofs.YtkffmaeiplgjeaaDoor.Base Go.Proofs.YtkffmaeiplgjeaaDoor.MemL Go.Proofs.YtkffmaeiplgjeaaDoor.RegR Go.Proofs.YtkffmaeiplgjeaaDoor.Ax Go.Proofs.YtkffmaeiplgjeaaDoor.MemC Go.Proofs.YtkffmaeiplgjeaaDoor.PutC Go.Proofs.YtkffmaeiplgjeaaDoor.MemC3 Go.Proofs.YtkffmaeiplgjeaaDoor.TzC Go.Proofs.YtkffmaeiplgjeaaDoor.OkS Go.Proofs.YtkffmaeiplgjeaaDoor.SpA Go.Proofs.YtkffmaeiplgjeaaDoor.SpB Go.Proofs.YtkffmaeiplgjeaaDoor.SpC
open Go.Proofs.YtkffmaeiplgjeaaDoor.BitsC Go.Proofs.YtkffmaeiplgjeaaDoor.PteSpec
set_option linter.unusedVariables false
set_option linter.unusedSimpArgs false
set_option maxRecDepth 10000
set_option maxHeartbeats 1000000
def Fe.ce (f : Fe) : List Ce := [cb f.ha, cu f.ad, cb f.hs, cu f.sn]
def zE : List Ce := [cb false, cu 0, cb false, ci 0, cu 0, cu 0, cb false, cb false, cb false, cb false, cb false]
theorem covers0_ok (a : Int) : Ok 121 [.ag zE, iu a] (.m (ib false)) := by
  refine callOk_of 17 Tryd.func121 rfl rfl rfl rfl ?_ GG.to
  intro W A hG
  repeat (first
    | (refine go_at rfl ?_; first
        | refine go_do (valid_skip rfl) rfl ?_
        | refine go_do (valid_mv (.inl rfl) rfl) rfl ?_
        | (refine nxt_s 1 rfl ?_; refine go_do (valid_load_p tb rfl rfl rfl rfl rfl (by first | kernel_rfl | rfl)) (by first | kernel_rfl | rfl) ?_)
        | (refine nxt_s 1 rfl ?_; refine go_do (valid_fld_p tb rfl rfl rfl (by kernel_rfl)) rfl ?_)
        | refine go_do (valid_mv (.inr rfl) rfl) rfl ?_
        | refine go_do (valid_pick rfl rfl rfl) rfl ?_
        | refine go_do (valid_extract rfl rfl rfl rfl) rfl ?_
        | refine go_do (valid_field tb rfl rfl rfl rfl rfl rfl) rfl ?_
        | refine go_do (valid_cmp rfl rfl rfl rfl (by first | exact .eql1 (by omega) | exact .eql0 (by omega) | exact .neq1 (by omega) | exact .neq0 (by omega) | exact .lss1 (by omega) | exact .lss0 (by omega) | exact .leq1 (by omega) | exact .leq0 (by omega) | exact .gtr1 (by omega) | exact .gtr0 (by omega) | exact .geq1 (by omega) | exact .geq0 (by omega) | constructor)) rfl ?_
        | refine go_do (valid_ar rfl rfl rfl rfl (by constructor) (by first | exact wr_u64 (by omega) (by omega) | exact wr_i64 (by omega) (by omega) | rfl)) rfl ?_
        | refine go_do (valid_cv rfl rfl rfl rfl rfl (by first | exact wr_u64 (by omega) (by omega) | exact wr_i64 (by omega) (by omega) | rfl)) rfl ?_
        | refine go_do (valid_quo rfl rfl rfl rfl (by omega) (by omega) (by first | exact wr_u64 (by omega) (by omega) | exact wr_i64 (by omega) (by omega))) rfl ?_
        | refine go_do (valid_rem rfl rfl rfl rfl (by omega) (by omega)) rfl ?_
        | refine go_do (valid_box rfl rfl rfl rfl rfl rfl) rfl ?_
        | refine go_do (valid_alloc rfl rfl rfl rfl rfl) rfl ?_
        | (refine nxt_s 1 rfl ?_; refine go_do (valid_store_p rfl rfl rfl rfl rfl rfl (by first | kernel_rfl | rfl) rfl) (by first | kernel_rfl | rfl) ?_)
        | refine go_do (valid_len_s rfl rfl rfl rfl) rfl ?_
        | (refine nxt_s 3 rfl ?_; refine go_do (valid_load_q tb rfl rfl rfl rfl (by first | kernel_rfl | rfl)) rfl ?_)
        | (refine nxt_s 3 rfl ?_; refine go_do (valid_fld_q tb rfl rfl rfl rfl) rfl ?_)
        | refine go_do (valid_not rfl rfl rfl) rfl ?_
        | refine go_do (valid_build rfl rfl rfl rfl) rfl ?_
        | refine go_do (valid_nil rfl rfl rfl rfl) rfl ?_
        | (refine nxt_s 4 rfl ?_; refine go_do (valid_idx_s rfl rfl rfl rfl rfl rfl (by omega) (by omega) _ (by assumption)) rfl ?_)
        | (refine nxt_s 5 rfl ?_; refine go_do (valid_store_rp rfl rfl rfl rfl rfl rfl rfl rfl rfl (by first | omega | (simp; omega)) rfl) rfl ?_)
        | (refine nxt_s 5 rfl ?_; refine go_do (valid_load_rp tb rfl rfl rfl rfl rfl rfl) rfl ?_)
        | (refine nxt_s 2 rfl ?_; refine go_do (valid_idx_o rfl rfl rfl rfl rfl rfl rfl (by omega) (by omega)) rfl ?_)
        | (refine nxt_s 1 rfl ?_; refine go_do (valid_idx_p rfl rfl rfl rfl rfl rfl (by omega) (by omega)) rfl ?_)
        | refine go_do (valid_index tb rfl rfl rfl rfl rfl rfl (by omega) (by omega) rfl) rfl ?_
        | refine go_do (valid_len_o rfl rfl rfl rfl rfl) rfl ?_
        | refine go_do (valid_len_v rfl rfl rfl rfl) rfl ?_
        | (refine nxt_s 5 rfl ?_; refine go_do (valid_fld_rp tb rfl rfl rfl rfl) rfl ?_)
        | refine go_do (valid_bslice rfl rfl rfl rfl rfl rfl rfl rfl rfl rfl rfl) rfl ?_
        | refine go_do (valid_bslice0 rfl rfl rfl rfl rfl rfl rfl) rfl ?_
        | refine go_do (valid_eqb rfl rfl rfl rfl rfl) rfl ?_
        | refine go_do (valid_neb rfl rfl rfl rfl rfl) rfl ?_)
    | (refine hK _ ?_; clear hK K)
    | (rename_i K1 hK1; refine hK1 _ ?_; clear hK hK1; clear K)
    | (rename_i K1 hK1; refine hK1 _ ?_; clear hK1)
    | refine aw_text rfl ?_
    | refine aw_any (by kernel_rfl) (by kernel_rfl) rfl ?_
    | exact aw_ret (show resA _ _ _ = some _ by kernel_rfl)
    | refine aw_cond1 rfl rfl ?_
    | refine aw_cond0 rfl rfl ?_
    | refine aw_block ?_
    | refine aw_exit ?_
    | refine aw_skip ?_
    | refine aw_seq_k (fun K hK => ?_))
theorem addr0_ok (f : Fe) (h : U f.ad) : Ok 118 [.ag (Fe.ce f), .ag zE] (.m (ib (!f.ha))) := by
  obtain ⟨ha, ad, hs, sn⟩ := f
  cases ha with
  | false =>
    refine callOk_of 19 Tryd.func118 rfl rfl rfl rfl ?_ GG.to
    intro W A hG
    repeat (first
      | (refine go_at rfl ?_; first
          | refine go_do (valid_skip rfl) rfl ?_
          | refine go_do (valid_mv (.inl rfl) rfl) rfl ?_
          | (refine nxt_s 1 rfl ?_; refine go_do (valid_load_p tb rfl rfl rfl rfl rfl (by first | kernel_rfl | rfl)) (by first | kernel_rfl | rfl) ?_)
          | (refine nxt_s 1 rfl ?_; refine go_do (valid_fld_p tb rfl rfl rfl (by kernel_rfl)) rfl ?_)
          | refine go_do (valid_mv (.inr rfl) rfl) rfl ?_
          | refine go_do (valid_pick rfl rfl rfl) rfl ?_
          | refine go_do (valid_extract rfl rfl rfl rfl) rfl ?_
          | refine go_do (valid_field tb rfl rfl rfl rfl rfl rfl) rfl ?_
          | refine go_do (valid_cmp rfl rfl rfl rfl (by first | exact .eql1 (by omega) | exact .eql0 (by omega) | exact .neq1 (by omega) | exact .neq0 (by omega) | exact .lss1 (by omega) | exact .lss0 (by omega) | exact .leq1 (by omega) | exact .leq0 (by omega) | exact .gtr1 (by omega) | exact .gtr0 (by omega) | exact .geq1 (by omega) | exact .geq0 (by omega) | constructor)) rfl ?_
          | refine go_do (valid_ar rfl rfl rfl rfl (by constructor) (by first | exact wr_u64 (by omega) (by omega) | exact wr_i64 (by omega) (by omega) | rfl)) rfl ?_
          | refine go_do (valid_cv rfl rfl rfl rfl rfl (by first | exact wr_u64 (by omega) (by omega) | exact wr_i64 (by omega) (by omega) | rfl)) rfl ?_
          | refine go_do (valid_quo rfl rfl rfl rfl (by omega) (by omega) (by first | exact wr_u64 (by omega) (by omega) | exact wr_i64 (by omega) (by omega))) rfl ?_
          | refine go_do (valid_rem rfl rfl rfl rfl (by omega) (by omega)) rfl ?_
          | refine go_do (valid_box rfl rfl rfl rfl rfl rfl) rfl ?_
          | refine go_do (valid_alloc rfl rfl rfl rfl rfl) rfl ?_
          | (refine nxt_s 1 rfl ?_; refine go_do (valid_store_p rfl rfl rfl rfl rfl rfl (by first | kernel_rfl | rfl) rfl) (by first | kernel_rfl | rfl) ?_)
          | refine go_do (valid_len_s rfl rfl rfl rfl) rfl ?_
          | (refine nxt_s 3 rfl ?_; refine go_do (valid_load_q tb rfl rfl rfl rfl (by first | kernel_rfl | rfl)) rfl ?_)
          | (refine nxt_s 3 rfl ?_; refine go_do (valid_fld_q tb rfl rfl rfl rfl) rfl ?_)
          | refine go_do (valid_not rfl rfl rfl) rfl ?_
          | refine go_do (valid_build rfl rfl rfl rfl) rfl ?_
          | refine go_do (valid_nil rfl rfl rfl rfl) rfl ?_
          | (refine nxt_s 4 rfl ?_; refine go_do (valid_idx_s rfl rfl rfl rfl rfl rfl (by omega) (by omega) _ (by assumption)) rfl ?_)
          | (refine nxt_s 5 rfl ?_; refine go_do (valid_store_rp rfl rfl rfl rfl rfl rfl rfl rfl rfl (by first | omega | (simp; omega)) rfl) rfl ?_)
          | (refine nxt_s 5 rfl ?_; refine go_do (valid_load_rp tb rfl rfl rfl rfl rfl rfl) rfl ?_)
          | (refine nxt_s 2 rfl ?_; refine go_do (valid_idx_o rfl rfl rfl rfl rfl rfl rfl (by omega) (by omega)) rfl ?_)
          | (refine nxt_s 1 rfl ?_; refine go_do (valid_idx_p rfl rfl rfl rfl rfl rfl (by omega) (by omega)) rfl ?_)
          | refine go_do (valid_index tb rfl rfl rfl rfl rfl rfl (by omega) (by omega) rfl) rfl ?_
          | refine go_do (valid_len_o rfl rfl rfl rfl rfl) rfl ?_
          | refine go_do (valid_len_v rfl rfl rfl rfl) rfl ?_
          | (refine nxt_s 5 rfl ?_; refine go_do (valid_fld_rp tb rfl rfl rfl rfl) rfl ?_)
          | refine go_do (valid_bslice rfl rfl rfl rfl rfl rfl rfl rfl rfl rfl rfl) rfl ?_
          | refine go_do (valid_bslice0 rfl rfl rfl rfl rfl rfl rfl) rfl ?_
          | refine go_do (valid_eqb rfl rfl rfl rfl rfl) rfl ?_
          | refine go_do (valid_neb rfl rfl rfl rfl rfl) rfl ?_)
      | (refine hK _ ?_; clear hK K)
      | (rename_i K1 hK1; refine hK1 _ ?_; clear hK hK1; clear K)
      | (rename_i K1 hK1; refine hK1 _ ?_; clear hK1)
      | refine aw_text rfl ?_
      | refine aw_any (by kernel_rfl) (by kernel_rfl) rfl ?_
      | exact aw_ret (show resA _ _ _ = some _ by kernel_rfl)
      | refine aw_cond1 rfl rfl ?_
      | refine aw_cond0 rfl rfl ?_
      | refine aw_block ?_
      | refine aw_exit ?_
      | refine aw_skip ?_
      | refine aw_seq_k (fun K hK => ?_))
  | true =>
    cases hi : isv ad with
    | false =>
      refine callOk_of 19 Tryd.func118 rfl rfl rfl rfl ?_ GG.to
      intro W A hG
      repeat (first
        | (refine go_at rfl ?_; first
            | refine go_do (valid_skip rfl) rfl ?_
            | refine go_do (valid_mv (.inl rfl) rfl) rfl ?_
            | (refine nxt_s 1 rfl ?_; refine go_do (valid_load_p tb rfl rfl rfl rfl rfl (by first | kernel_rfl | rfl)) (by first | kernel_rfl | rfl) ?_)
            | (refine nxt_s 1 rfl ?_; refine go_do (valid_fld_p tb rfl rfl rfl (by kernel_rfl)) rfl ?_)
            | refine go_do (valid_mv (.inr rfl) rfl) rfl ?_
            | refine go_do (valid_pick rfl rfl rfl) rfl ?_
            | refine go_do (valid_extract rfl rfl rfl rfl) rfl ?_
            | refine go_do (valid_field tb rfl rfl rfl rfl rfl rfl) rfl ?_
            | refine go_do (valid_cmp rfl rfl rfl rfl (by first | exact .eql1 (by omega) | exact .eql0 (by omega) | exact .neq1 (by omega) | exact .neq0 (by omega) | exact .lss1 (by omega) | exact .lss0 (by omega) | exact .leq1 (by omega) | exact .leq0 (by omega) | exact .gtr1 (by omega) | exact .gtr0 (by omega) | exact .geq1 (by omega) | exact .geq0 (by omega) | constructor)) rfl ?_
            | refine go_do (valid_ar rfl rfl rfl rfl (by constructor) (by first | exact wr_u64 (by omega) (by omega) | exact wr_i64 (by omega) (by omega) | rfl)) rfl ?_
            | refine go_do (valid_cv rfl rfl rfl rfl rfl (by first | exact wr_u64 (by omega) (by omega) | exact wr_i64 (by omega) (by omega) | rfl)) rfl ?_
            | refine go_do (valid_quo rfl rfl rfl rfl (by omega) (by omega) (by first | exact wr_u64 (by omega) (by omega) | exact wr_i64 (by omega) (by omega))) rfl ?_
            | refine go_do (valid_rem rfl rfl rfl rfl (by omega) (by omega)) rfl ?_
            | refine go_do (valid_box rfl rfl rfl rfl rfl rfl) rfl ?_
            | refine go_do (valid_alloc rfl rfl rfl rfl rfl) rfl ?_
            | (refine nxt_s 1 rfl ?_; refine go_do (valid_store_p rfl rfl rfl rfl rfl rfl (by first | kernel_rfl | rfl) rfl) (by first | kernel_rfl | rfl) ?_)
            | refine go_do (valid_len_s rfl rfl rfl rfl) rfl ?_
            | (refine nxt_s 3 rfl ?_; refine go_do (valid_load_q tb rfl rfl rfl rfl (by first | kernel_rfl | rfl)) rfl ?_)
            | (refine nxt_s 3 rfl ?_; refine go_do (valid_fld_q tb rfl rfl rfl rfl) rfl ?_)
            | refine go_do (valid_not rfl rfl rfl) rfl ?_
            | refine go_do (valid_build rfl rfl rfl rfl) rfl ?_
            | refine go_do (valid_nil rfl rfl rfl rfl) rfl ?_
            | (refine nxt_s 4 rfl ?_; refine go_do (valid_idx_s rfl rfl rfl rfl rfl rfl (by omega) (by omega) _ (by assumption)) rfl ?_)
            | (refine nxt_s 5 rfl ?_; refine go_do (valid_store_rp rfl rfl rfl rfl rfl rfl rfl rfl rfl (by first | omega | (simp; omega)) rfl) rfl ?_)
            | (refine nxt_s 5 rfl ?_; refine go_do (valid_load_rp tb rfl rfl rfl rfl rfl rfl) rfl ?_)
            | (refine nxt_s 2 rfl ?_; refine go_do (valid_idx_o rfl rfl rfl rfl rfl rfl rfl (by omega) (by omega)) rfl ?_)
            | (refine nxt_s 1 rfl ?_; refine go_do (valid_idx_p rfl rfl rfl rfl rfl rfl (by omega) (by omega)) rfl ?_)
            | refine go_do (valid_index tb rfl rfl rfl rfl rfl rfl (by omega) (by omega) rfl) rfl ?_
            | refine go_do (valid_len_o rfl rfl rfl rfl rfl) rfl ?_
            | refine go_do (valid_len_v rfl rfl rfl rfl) rfl ?_
            | (refine nxt_s 5 rfl ?_; refine go_do (valid_fld_rp tb rfl rfl rfl rfl) rfl ?_)
            | refine go_do (valid_bslice rfl rfl rfl rfl rfl rfl rfl rfl rfl rfl rfl) rfl ?_
            | refine go_do (valid_bslice0 rfl rfl rfl rfl rfl rfl rfl) rfl ?_
            | refine go_do (valid_eqb rfl rfl rfl rfl rfl) rfl ?_
            | refine go_do (valid_neb rfl rfl rfl rfl rfl) rfl ?_
            | refine go_do (valid_call rfl rfl rfl (hi ▸ vis_ok ad h) rfl) rfl ?_)
        | (refine hK _ ?_; clear hK K)
        | (rename_i K1 hK1; refine hK1 _ ?_; clear hK hK1; clear K)
        | (rename_i K1 hK1; refine hK1 _ ?_; clear hK1)
        | refine aw_text rfl ?_
        | refine aw_any (by kernel_rfl) (by kernel_rfl) rfl ?_
        | exact aw_ret (show resA _ _ _ = some _ by kernel_rfl)
        | refine aw_cond1 rfl rfl ?_
        | refine aw_cond0 rfl rfl ?_
        | refine aw_block ?_
        | refine aw_exit ?_
        | refine aw_skip ?_
        | refine aw_seq_k (fun K hK => ?_))
    | true =>
      refine callOk_of 19 Tryd.func118 rfl rfl rfl rfl ?_ GG.to
      intro W A hG
      repeat (first
        | (refine go_at rfl ?_; first
            | refine go_do (valid_skip rfl) rfl ?_
            | refine go_do (valid_mv (.inl rfl) rfl) rfl ?_
            | (refine nxt_s 1 rfl ?_; refine go_do (valid_load_p tb rfl rfl rfl rfl rfl (by first | kernel_rfl | rfl)) (by first | kernel_rfl | rfl) ?_)
            | (refine nxt_s 1 rfl ?_; refine go_do (valid_fld_p tb rfl rfl rfl (by kernel_rfl)) rfl ?_)
            | refine go_do (valid_mv (.inr rfl) rfl) rfl ?_
            | refine go_do (valid_pick rfl rfl rfl) rfl ?_
            | refine go_do (valid_extract rfl rfl rfl rfl) rfl ?_
            | refine go_do (valid_field tb rfl rfl rfl rfl rfl rfl) rfl ?_
            | refine go_do (valid_cmp rfl rfl rfl rfl (by first | exact .eql1 (by omega) | exact .eql0 (by omega) | exact .neq1 (by omega) | exact .neq0 (by omega) | exact .lss1 (by omega) | exact .lss0 (by omega) | exact .leq1 (by omega) | exact .leq0 (by omega) | exact .gtr1 (by omega) | exact .gtr0 (by omega) | exact .geq1 (by omega) | exact .geq0 (by omega) | constructor)) rfl ?_
            | refine go_do (valid_ar rfl rfl rfl rfl (by constructor) (by first | exact wr_u64 (by omega) (by omega) | exact wr_i64 (by omega) (by omega) | rfl)) rfl ?_
            | refine go_do (valid_cv rfl rfl rfl rfl rfl (by first | exact wr_u64 (by omega) (by omega) | exact wr_i64 (by omega) (by omega) | rfl)) rfl ?_
            | refine go_do (valid_quo rfl rfl rfl rfl (by omega) (by omega) (by first | exact wr_u64 (by omega) (by omega) | exact wr_i64 (by omega) (by omega))) rfl ?_
            | refine go_do (valid_rem rfl rfl rfl rfl (by omega) (by omega)) rfl ?_
            | refine go_do (valid_box rfl rfl rfl rfl rfl rfl) rfl ?_
            | refine go_do (valid_alloc rfl rfl rfl rfl rfl) rfl ?_
            | (refine nxt_s 1 rfl ?_; refine go_do (valid_store_p rfl rfl rfl rfl rfl rfl (by first | kernel_rfl | rfl) rfl) (by first | kernel_rfl | rfl) ?_)
            | refine go_do (valid_len_s rfl rfl rfl rfl) rfl ?_
            | (refine nxt_s 3 rfl ?_; refine go_do (valid_load_q tb rfl rfl rfl rfl (by first | kernel_rfl | rfl)) rfl ?_)
            | (refine nxt_s 3 rfl ?_; refine go_do (valid_fld_q tb rfl rfl rfl rfl) rfl ?_)
            | refine go_do (valid_not rfl rfl rfl) rfl ?_
            | refine go_do (valid_build rfl rfl rfl rfl) rfl ?_
            | refine go_do (valid_nil rfl rfl rfl rfl) rfl ?_
            | (refine nxt_s 4 rfl ?_; refine go_do (valid_idx_s rfl rfl rfl rfl rfl rfl (by omega) (by omega) _ (by assumption)) rfl ?_)
            | (refine nxt_s 5 rfl ?_; refine go_do (valid_store_rp rfl rfl rfl rfl rfl rfl rfl rfl rfl (by first | omega | (simp; omega)) rfl) rfl ?_)
            | (refine nxt_s 5 rfl ?_; refine go_do (valid_load_rp tb rfl rfl rfl rfl rfl rfl) rfl ?_)
            | (refine nxt_s 2 rfl ?_; refine go_do (valid_idx_o rfl rfl rfl rfl rfl rfl rfl (by omega) (by omega)) rfl ?_)
            | (refine nxt_s 1 rfl ?_; refine go_do (valid_idx_p rfl rfl rfl rfl rfl rfl (by omega) (by omega)) rfl ?_)
            | refine go_do (valid_index tb rfl rfl rfl rfl rfl rfl (by omega) (by omega) rfl) rfl ?_
            | refine go_do (valid_len_o rfl rfl rfl rfl rfl) rfl ?_
            | refine go_do (valid_len_v rfl rfl rfl rfl) rfl ?_
            | (refine nxt_s 5 rfl ?_; refine go_do (valid_fld_rp tb rfl rfl rfl rfl) rfl ?_)
            | refine go_do (valid_bslice rfl rfl rfl rfl rfl rfl rfl rfl rfl rfl rfl) rfl ?_
            | refine go_do (valid_bslice0 rfl rfl rfl rfl rfl rfl rfl) rfl ?_
            | refine go_do (valid_eqb rfl rfl rfl rfl rfl) rfl ?_
            | refine go_do (valid_neb rfl rfl rfl rfl rfl) rfl ?_
            | refine go_do (valid_call rfl rfl rfl (hi ▸ vis_ok ad h) rfl) rfl ?_
            | refine go_do (valid_call rfl rfl rfl (covers0_ok ad) rfl) rfl ?_)
        | (refine hK _ ?_; clear hK K)
        | (rename_i K1 hK1; refine hK1 _ ?_; clear hK hK1; clear K)
        | (rename_i K1 hK1; refine hK1 _ ?_; clear hK1)
        | refine aw_text rfl ?_
        | refine aw_any (by kernel_rfl) (by kernel_rfl) rfl ?_
        | exact aw_ret (show resA _ _ _ = some _ by kernel_rfl)
        | refine aw_cond1 rfl rfl ?_
        | refine aw_cond0 rfl rfl ?_
        | refine aw_block ?_
        | refine aw_exit ?_
        | refine aw_skip ?_
        | refine aw_seq_k (fun K hK => ?_))
theorem asid0_ok (f : Fe) : Ok 120 [.ag (Fe.ce f), .ag zE] (.m (ib (!f.hs || (0 == f.sn)))) := by
  obtain ⟨ha, ad, hs, sn⟩ := f
  cases hs with
  | false =>
    refine callOk_of 20 Tryd.func120 rfl rfl rfl rfl ?_ GG.to
    intro W A hG
    repeat (first
      | (refine go_at rfl ?_; first
          | refine go_do (valid_skip rfl) rfl ?_
          | refine go_do (valid_mv (.inl rfl) rfl) rfl ?_
          | (refine nxt_s 1 rfl ?_; refine go_do (valid_load_p tb rfl rfl rfl rfl rfl (by first | kernel_rfl | rfl)) (by first | kernel_rfl | rfl) ?_)
          | (refine nxt_s 1 rfl ?_; refine go_do (valid_fld_p tb rfl rfl rfl (by kernel_rfl)) rfl ?_)
          | refine go_do (valid_mv (.inr rfl) rfl) rfl ?_
          | refine go_do (valid_pick rfl rfl rfl) rfl ?_
          | refine go_do (valid_extract rfl rfl rfl rfl) rfl ?_
          | refine go_do (valid_field tb rfl rfl rfl rfl rfl rfl) rfl ?_
          | refine go_do (valid_cmp rfl rfl rfl rfl (by first | exact .eql1 (by omega) | exact .eql0 (by omega) | exact .neq1 (by omega) | exact .neq0 (by omega) | exact .lss1 (by omega) | exact .lss0 (by omega) | exact .leq1 (by omega) | exact .leq0 (by omega) | exact .gtr1 (by omega) | exact .gtr0 (by omega) | exact .geq1 (by omega) | exact .geq0 (by omega) | constructor)) rfl ?_
          | refine go_do (valid_ar rfl rfl rfl rfl (by constructor) (by first | exact wr_u64 (by omega) (by omega) | exact wr_i64 (by omega) (by omega) | rfl)) rfl ?_
          | refine go_do (valid_cv rfl rfl rfl rfl rfl (by first | exact wr_u64 (by omega) (by omega) | exact wr_i64 (by omega) (by omega) | rfl)) rfl ?_
          | refine go_do (valid_quo rfl rfl rfl rfl (by omega) (by omega) (by first | exact wr_u64 (by omega) (by omega) | exact wr_i64 (by omega) (by omega))) rfl ?_
          | refine go_do (valid_rem rfl rfl rfl rfl (by omega) (by omega)) rfl ?_
          | refine go_do (valid_box rfl rfl rfl rfl rfl rfl) rfl ?_
          | refine go_do (valid_alloc rfl rfl rfl rfl rfl) rfl ?_
          | (refine nxt_s 1 rfl ?_; refine go_do (valid_store_p rfl rfl rfl rfl rfl rfl (by first | kernel_rfl | rfl) rfl) (by first | kernel_rfl | rfl) ?_)
          | refine go_do (valid_len_s rfl rfl rfl rfl) rfl ?_
          | (refine nxt_s 3 rfl ?_; refine go_do (valid_load_q tb rfl rfl rfl rfl (by first | kernel_rfl | rfl)) rfl ?_)
          | (refine nxt_s 3 rfl ?_; refine go_do (valid_fld_q tb rfl rfl rfl rfl) rfl ?_)
          | refine go_do (valid_not rfl rfl rfl) rfl ?_
          | refine go_do (valid_build rfl rfl rfl rfl) rfl ?_
          | refine go_do (valid_nil rfl rfl rfl rfl) rfl ?_
          | (refine nxt_s 4 rfl ?_; refine go_do (valid_idx_s rfl rfl rfl rfl rfl rfl (by omega) (by omega) _ (by assumption)) rfl ?_)
          | (refine nxt_s 5 rfl ?_; refine go_do (valid_store_rp rfl rfl rfl rfl rfl rfl rfl rfl rfl (by first | omega | (simp; omega)) rfl) rfl ?_)
          | (refine nxt_s 5 rfl ?_; refine go_do (valid_load_rp tb rfl rfl rfl rfl rfl rfl) rfl ?_)
          | (refine nxt_s 2 rfl ?_; refine go_do (valid_idx_o rfl rfl rfl rfl rfl rfl rfl (by omega) (by omega)) rfl ?_)
          | (refine nxt_s 1 rfl ?_; refine go_do (valid_idx_p rfl rfl rfl rfl rfl rfl (by omega) (by omega)) rfl ?_)
          | refine go_do (valid_index tb rfl rfl rfl rfl rfl rfl (by omega) (by omega) rfl) rfl ?_
          | refine go_do (valid_len_o rfl rfl rfl rfl rfl) rfl ?_
          | refine go_do (valid_len_v rfl rfl rfl rfl) rfl ?_
          | (refine nxt_s 5 rfl ?_; refine go_do (valid_fld_rp tb rfl rfl rfl rfl) rfl ?_)
          | refine go_do (valid_bslice rfl rfl rfl rfl rfl rfl rfl rfl rfl rfl rfl) rfl ?_
          | refine go_do (valid_bslice0 rfl rfl rfl rfl rfl rfl rfl) rfl ?_
          | refine go_do (valid_eqb rfl rfl rfl rfl rfl) rfl ?_
          | refine go_do (valid_neb rfl rfl rfl rfl rfl) rfl ?_)
      | (refine hK _ ?_; clear hK K)
      | (rename_i K1 hK1; refine hK1 _ ?_; clear hK hK1; clear K)
      | (rename_i K1 hK1; refine hK1 _ ?_; clear hK1)
      | refine aw_text rfl ?_
      | refine aw_any (by kernel_rfl) (by kernel_rfl) rfl ?_
      | exact aw_ret (show resA _ _ _ = some _ by kernel_rfl)
      | refine aw_cond1 rfl rfl ?_
      | refine aw_cond0 rfl rfl ?_
      | refine aw_block ?_
      | refine aw_exit ?_
      | refine aw_skip ?_
      | refine aw_seq_k (fun K hK => ?_))
  | true =>
    refine callOk_of 20 Tryd.func120 rfl rfl rfl rfl ?_ GG.to
    intro W A hG
    repeat (first
      | (refine go_at rfl ?_; first
          | refine go_do (valid_skip rfl) rfl ?_
          | refine go_do (valid_mv (.inl rfl) rfl) rfl ?_
          | (refine nxt_s 1 rfl ?_; refine go_do (valid_load_p tb rfl rfl rfl rfl rfl (by first | kernel_rfl | rfl)) (by first | kernel_rfl | rfl) ?_)
          | (refine nxt_s 1 rfl ?_; refine go_do (valid_fld_p tb rfl rfl rfl (by kernel_rfl)) rfl ?_)
          | refine go_do (valid_mv (.inr rfl) rfl) rfl ?_
          | refine go_do (valid_pick rfl rfl rfl) rfl ?_
          | refine go_do (valid_extract rfl rfl rfl rfl) rfl ?_
          | refine go_do (valid_field tb rfl rfl rfl rfl rfl rfl) rfl ?_
          | refine go_do (valid_cmp rfl rfl rfl rfl (by first | exact .eql1 (by omega) | exact .eql0 (by omega) | exact .neq1 (by omega) | exact .neq0 (by omega) | exact .lss1 (by omega) | exact .lss0 (by omega) | exact .leq1 (by omega) | exact .leq0 (by omega) | exact .gtr1 (by omega) | exact .gtr0 (by omega) | exact .geq1 (by omega) | exact .geq0 (by omega) | constructor)) rfl ?_
          | refine go_do (valid_ar rfl rfl rfl rfl (by constructor) (by first | exact wr_u64 (by omega) (by omega) | exact wr_i64 (by omega) (by omega) | rfl)) rfl ?_
          | refine go_do (valid_cv rfl rfl rfl rfl rfl (by first | exact wr_u64 (by omega) (by omega) | exact wr_i64 (by omega) (by omega) | rfl)) rfl ?_
          | refine go_do (valid_quo rfl rfl rfl rfl (by omega) (by omega) (by first | exact wr_u64 (by omega) (by omega) | exact wr_i64 (by omega) (by omega))) rfl ?_
          | refine go_do (valid_rem rfl rfl rfl rfl (by omega) (by omega)) rfl ?_
          | refine go_do (valid_box rfl rfl rfl rfl rfl rfl) rfl ?_
          | refine go_do (valid_alloc rfl rfl rfl rfl rfl) rfl ?_
          | (refine nxt_s 1 rfl ?_; refine go_do (valid_store_p rfl rfl rfl rfl rfl rfl (by first | kernel_rfl | rfl) rfl) (by first | kernel_rfl | rfl) ?_)
          | refine go_do (valid_len_s rfl rfl rfl rfl) rfl ?_
          | (refine nxt_s 3 rfl ?_; refine go_do (valid_load_q tb rfl rfl rfl rfl (by first | kernel_rfl | rfl)) rfl ?_)
          | (refine nxt_s 3 rfl ?_; refine go_do (valid_fld_q tb rfl rfl rfl rfl) rfl ?_)
          | refine go_do (valid_not rfl rfl rfl) rfl ?_
          | refine go_do (valid_build rfl rfl rfl rfl) rfl ?_
          | refine go_do (valid_nil rfl rfl rfl rfl) rfl ?_
          | (refine nxt_s 4 rfl ?_; refine go_do (valid_idx_s rfl rfl rfl rfl rfl rfl (by omega) (by omega) _ (by assumption)) rfl ?_)
          | (refine nxt_s 5 rfl ?_; refine go_do (valid_store_rp rfl rfl rfl rfl rfl rfl rfl rfl rfl (by first | omega | (simp; omega)) rfl) rfl ?_)
          | (refine nxt_s 5 rfl ?_; refine go_do (valid_load_rp tb rfl rfl rfl rfl rfl rfl) rfl ?_)
          | (refine nxt_s 2 rfl ?_; refine go_do (valid_idx_o rfl rfl rfl rfl rfl rfl rfl (by omega) (by omega)) rfl ?_)
          | (refine nxt_s 1 rfl ?_; refine go_do (valid_idx_p rfl rfl rfl rfl rfl rfl (by omega) (by omega)) rfl ?_)
          | refine go_do (valid_index tb rfl rfl rfl rfl rfl rfl (by omega) (by omega) rfl) rfl ?_
          | refine go_do (valid_len_o rfl rfl rfl rfl rfl) rfl ?_
          | refine go_do (valid_len_v rfl rfl rfl rfl) rfl ?_
          | (refine nxt_s 5 rfl ?_; refine go_do (valid_fld_rp tb rfl rfl rfl rfl) rfl ?_)
          | refine go_do (valid_bslice rfl rfl rfl rfl rfl rfl rfl rfl rfl rfl rfl) rfl ?_
          | refine go_do (valid_bslice0 rfl rfl rfl rfl rfl rfl rfl) rfl ?_
          | refine go_do (valid_eqb rfl rfl rfl rfl rfl) rfl ?_
          | refine go_do (valid_neb rfl rfl rfl rfl rfl) rfl ?_)
      | (refine hK _ ?_; clear hK K)
      | (rename_i K1 hK1; refine hK1 _ ?_; clear hK hK1; clear K)
      | (rename_i K1 hK1; refine hK1 _ ?_; clear hK1)
      | refine aw_text rfl ?_
      | refine aw_any (by kernel_rfl) (by kernel_rfl) rfl ?_
      | exact aw_ret (show resA _ _ _ = some _ by kernel_rfl)
      | refine aw_cond1 rfl rfl ?_
      | refine aw_cond0 rfl rfl ?_
      | refine aw_block ?_
      | refine aw_exit ?_
      | refine aw_skip ?_
      | refine aw_seq_k (fun K hK => ?_))
theorem names0_ok (f : Fe) (h : U f.ad) : Ok 66 [.ag (Fe.ce f), .ag zE] (.m (ib false)) := by
  refine callOk_of 21 Tryd.func66 rfl rfl rfl rfl ?_ GG.to
  intro W A hG
  obtain ⟨b, o, c, g1, g2, g3⟩ := (hG W (Below.refl _ _)).k
  have q1 : ∀ w, Below W.heap.size W w → w.cell? ⟨2, 0, none⟩ = some (.slice (some ⟨b, o, none⟩) 2 c) := fun w hb => (hb.cell (p := ⟨2, 0, none⟩) (block_lt_of_cell g1)).trans g1
  have q2 : ∀ w, Below W.heap.size W w → w.cell? ⟨b, o, none⟩ = some (askF 0) := fun w hb => (hb.cell (p := ⟨b, o, none⟩) (block_lt_of_cell g2)).trans g2
  have q3 : ∀ w, Below W.heap.size W w → w.cell? ⟨b, o + 1, none⟩ = some (askF 1) := fun w hb => (hb.cell (p := ⟨b, o + 1, none⟩) (block_lt_of_cell g3)).trans g3
  repeat (first
    | (refine go_at rfl ?_; first
        | refine go_do (valid_skip rfl) rfl ?_
        | refine go_do (valid_mv (.inl rfl) rfl) rfl ?_
        | (refine nxt_s 1 rfl ?_; refine go_do (valid_load_p tb rfl rfl rfl rfl rfl (by first | kernel_rfl | rfl)) (by first | kernel_rfl | rfl) ?_)
        | (refine nxt_s 1 rfl ?_; refine go_do (valid_fld_p tb rfl rfl rfl (by kernel_rfl)) rfl ?_)
        | refine go_do (valid_mv (.inr rfl) rfl) rfl ?_
        | refine go_do (valid_pick rfl rfl rfl) rfl ?_
        | refine go_do (valid_extract rfl rfl rfl rfl) rfl ?_
        | refine go_do (valid_field tb rfl rfl rfl rfl rfl rfl) rfl ?_
        | refine go_do (valid_cmp rfl rfl rfl rfl (by first | exact .eql1 (by omega) | exact .eql0 (by omega) | exact .neq1 (by omega) | exact .neq0 (by omega) | exact .lss1 (by omega) | exact .lss0 (by omega) | exact .leq1 (by omega) | exact .leq0 (by omega) | exact .gtr1 (by omega) | exact .gtr0 (by omega) | exact .geq1 (by omega) | exact .geq0 (by omega) | constructor)) rfl ?_
        | refine go_do (valid_ar rfl rfl rfl rfl (by constructor) (by first | exact wr_u64 (by omega) (by omega) | exact wr_i64 (by omega) (by omega) | rfl)) rfl ?_
        | refine go_do (valid_cv rfl rfl rfl rfl rfl (by first | exact wr_u64 (by omega) (by omega) | exact wr_i64 (by omega) (by omega) | rfl)) rfl ?_
        | refine go_do (valid_quo rfl rfl rfl rfl (by omega) (by omega) (by first | exact wr_u64 (by omega) (by omega) | exact wr_i64 (by omega) (by omega))) rfl ?_
        | refine go_do (valid_rem rfl rfl rfl rfl (by omega) (by omega)) rfl ?_
        | refine go_do (valid_box rfl rfl rfl rfl rfl rfl) rfl ?_
        | refine go_do (valid_alloc rfl rfl rfl rfl rfl) rfl ?_
        | (refine nxt_s 1 rfl ?_; refine go_do (valid_store_p rfl rfl rfl rfl rfl rfl (by first | kernel_rfl | rfl) rfl) (by first | kernel_rfl | rfl) ?_)
        | refine go_do (valid_len_s rfl rfl rfl rfl) rfl ?_
        | (refine nxt_s 3 rfl ?_; refine go_do (valid_load_q tb rfl rfl rfl rfl (by first | kernel_rfl | rfl)) rfl ?_)
        | (refine nxt_s 3 rfl ?_; refine go_do (valid_fld_q tb rfl rfl rfl rfl) rfl ?_)
        | refine go_do (valid_not rfl rfl rfl) rfl ?_
        | refine go_do (valid_build rfl rfl rfl rfl) rfl ?_
        | refine go_do (valid_nil rfl rfl rfl rfl) rfl ?_
        | (refine nxt_s 4 rfl ?_; refine go_do (valid_idx_s rfl rfl rfl rfl rfl rfl (by omega) (by omega) _ (by assumption)) rfl ?_)
        | (refine nxt_s 5 rfl ?_; refine go_do (valid_store_rp rfl rfl rfl rfl rfl rfl rfl rfl rfl (by first | omega | (simp; omega)) rfl) rfl ?_)
        | (refine nxt_s 5 rfl ?_; refine go_do (valid_load_rp tb rfl rfl rfl rfl rfl rfl) rfl ?_)
        | (refine nxt_s 2 rfl ?_; refine go_do (valid_idx_o rfl rfl rfl rfl rfl rfl rfl (by omega) (by omega)) rfl ?_)
        | (refine nxt_s 1 rfl ?_; refine go_do (valid_idx_p rfl rfl rfl rfl rfl rfl (by omega) (by omega)) rfl ?_)
        | refine go_do (valid_index tb rfl rfl rfl rfl rfl rfl (by omega) (by omega) rfl) rfl ?_
        | refine go_do (valid_len_o rfl rfl rfl rfl rfl) rfl ?_
        | refine go_do (valid_len_v rfl rfl rfl rfl) rfl ?_
        | (refine nxt_s 5 rfl ?_; refine go_do (valid_fld_rp tb rfl rfl rfl rfl) rfl ?_)
        | refine go_do (valid_bslice rfl rfl rfl rfl rfl rfl rfl rfl rfl rfl rfl) rfl ?_
        | refine go_do (valid_bslice0 rfl rfl rfl rfl rfl rfl rfl) rfl ?_
        | refine go_do (valid_eqb rfl rfl rfl rfl rfl) rfl ?_
        | refine go_do (valid_neb rfl rfl rfl rfl rfl) rfl ?_
        | refine go_do (valid_load_v rfl rfl rfl rfl rfl q1) rfl ?_
        | refine go_do (valid_idx_v rfl rfl rfl rfl rfl rfl (by omega) (by omega)) rfl ?_)
    | (refine hK _ ?_; clear hK K)
    | (rename_i K1 hK1; refine hK1 _ ?_; clear hK hK1; clear K)
    | (rename_i K1 hK1; refine hK1 _ ?_; clear hK1)
    | refine aw_text rfl ?_
    | refine aw_any (by kernel_rfl) (by kernel_rfl) rfl ?_
    | exact aw_ret (show resA _ _ _ = some _ by kernel_rfl)
    | refine aw_cond1 rfl rfl ?_
    | refine aw_cond0 rfl rfl ?_
    | refine aw_block ?_
    | refine aw_exit ?_
    | refine aw_skip ?_
    | refine aw_seq_k (fun K hK => ?_))
  refine aw_loopH (α := Nat) (fun i => i ≤ 2) (fun i => St.of [(2, .m (.c (.p 2 0))), (3, .m (.c (.p 3 0))), (7, .m (.c (.v (.slice (some ⟨b, o, none⟩) 2 c)))), (8, .m (ii 2)), (9, .m (ii i))] [(2, .live (.box (Fe.ce f))), (3, .live (.box zE))]) (fun i => 2 - i) 0 (by omega) (sub_of _ _ ⟨rfl, rfl, rfl, rfl, rfl, trivial⟩ ⟨rfl, rfl, trivial⟩ rfl) ?_
  intro i hi
  rcases (by omega : i = 0 ∨ i = 1 ∨ i = 2) with rfl | rfl | rfl
  · skip
    repeat (first
      | (refine go_at rfl ?_; first
          | refine go_do (valid_skip rfl) rfl ?_
          | refine go_do (valid_mv (.inl rfl) rfl) rfl ?_
          | (refine nxt_s 1 rfl ?_; refine go_do (valid_load_p tb rfl rfl rfl rfl rfl (by first | kernel_rfl | rfl)) (by first | kernel_rfl | rfl) ?_)
          | (refine nxt_s 1 rfl ?_; refine go_do (valid_fld_p tb rfl rfl rfl (by kernel_rfl)) rfl ?_)
          | refine go_do (valid_mv (.inr rfl) rfl) rfl ?_
          | refine go_do (valid_pick rfl rfl rfl) rfl ?_
          | refine go_do (valid_extract rfl rfl rfl rfl) rfl ?_
          | refine go_do (valid_field tb rfl rfl rfl rfl rfl rfl) rfl ?_
          | refine go_do (valid_cmp rfl rfl rfl rfl (by first | exact .eql1 (by omega) | exact .eql0 (by omega) | exact .neq1 (by omega) | exact .neq0 (by omega) | exact .lss1 (by omega) | exact .lss0 (by omega) | exact .leq1 (by omega) | exact .leq0 (by omega) | exact .gtr1 (by omega) | exact .gtr0 (by omega) | exact .geq1 (by omega) | exact .geq0 (by omega) | constructor)) rfl ?_
          | refine go_do (valid_ar rfl rfl rfl rfl (by constructor) (by first | exact wr_u64 (by omega) (by omega) | exact wr_i64 (by omega) (by omega) | rfl)) rfl ?_
          | refine go_do (valid_cv rfl rfl rfl rfl rfl (by first | exact wr_u64 (by omega) (by omega) | exact wr_i64 (by omega) (by omega) | rfl)) rfl ?_
          | refine go_do (valid_quo rfl rfl rfl rfl (by omega) (by omega) (by first | exact wr_u64 (by omega) (by omega) | exact wr_i64 (by omega) (by omega))) rfl ?_
          | refine go_do (valid_rem rfl rfl rfl rfl (by omega) (by omega)) rfl ?_
          | refine go_do (valid_box rfl rfl rfl rfl rfl rfl) rfl ?_
          | refine go_do (valid_alloc rfl rfl rfl rfl rfl) rfl ?_
          | (refine nxt_s 1 rfl ?_; refine go_do (valid_store_p rfl rfl rfl rfl rfl rfl (by first | kernel_rfl | rfl) rfl) (by first | kernel_rfl | rfl) ?_)
          | refine go_do (valid_len_s rfl rfl rfl rfl) rfl ?_
          | (refine nxt_s 3 rfl ?_; refine go_do (valid_load_q tb rfl rfl rfl rfl (by first | kernel_rfl | rfl)) rfl ?_)
          | (refine nxt_s 3 rfl ?_; refine go_do (valid_fld_q tb rfl rfl rfl rfl) rfl ?_)
          | refine go_do (valid_not rfl rfl rfl) rfl ?_
          | refine go_do (valid_build rfl rfl rfl rfl) rfl ?_
          | refine go_do (valid_nil rfl rfl rfl rfl) rfl ?_
          | (refine nxt_s 4 rfl ?_; refine go_do (valid_idx_s rfl rfl rfl rfl rfl rfl (by omega) (by omega) _ (by assumption)) rfl ?_)
          | (refine nxt_s 5 rfl ?_; refine go_do (valid_store_rp rfl rfl rfl rfl rfl rfl rfl rfl rfl (by first | omega | (simp; omega)) rfl) rfl ?_)
          | (refine nxt_s 5 rfl ?_; refine go_do (valid_load_rp tb rfl rfl rfl rfl rfl rfl) rfl ?_)
          | (refine nxt_s 2 rfl ?_; refine go_do (valid_idx_o rfl rfl rfl rfl rfl rfl rfl (by omega) (by omega)) rfl ?_)
          | (refine nxt_s 1 rfl ?_; refine go_do (valid_idx_p rfl rfl rfl rfl rfl rfl (by omega) (by omega)) rfl ?_)
          | refine go_do (valid_index tb rfl rfl rfl rfl rfl rfl (by omega) (by omega) rfl) rfl ?_
          | refine go_do (valid_len_o rfl rfl rfl rfl rfl) rfl ?_
          | refine go_do (valid_len_v rfl rfl rfl rfl) rfl ?_
          | (refine nxt_s 5 rfl ?_; refine go_do (valid_fld_rp tb rfl rfl rfl rfl) rfl ?_)
          | refine go_do (valid_bslice rfl rfl rfl rfl rfl rfl rfl rfl rfl rfl rfl) rfl ?_
          | refine go_do (valid_bslice0 rfl rfl rfl rfl rfl rfl rfl) rfl ?_
          | refine go_do (valid_eqb rfl rfl rfl rfl rfl) rfl ?_
          | refine go_do (valid_neb rfl rfl rfl rfl rfl) rfl ?_
          | refine go_do (valid_load_v rfl rfl rfl rfl rfl q2) rfl ?_
          | refine go_do (valid_load_v rfl rfl rfl rfl rfl q3) rfl ?_
          | refine go_do (valid_idx_v rfl rfl rfl rfl rfl rfl (by omega) (by omega)) rfl ?_
          | refine go_do (valid_call_f rfl rfl rfl rfl (addr0_ok f h) rfl) rfl ?_
          | refine go_do (valid_call_f rfl rfl rfl rfl (asid0_ok f) rfl) rfl ?_)
      | (refine hK _ ?_; clear hK K)
      | (rename_i K1 hK1; refine hK1 _ ?_; clear hK hK1; clear K)
      | (rename_i K1 hK1; refine hK1 _ ?_; clear hK1)
      | refine aw_text rfl ?_
      | refine aw_any (by kernel_rfl) (by kernel_rfl) rfl ?_
      | exact aw_ret (show resA _ _ _ = some _ by kernel_rfl)
      | refine aw_cond1 rfl rfl ?_
      | refine aw_cond0 rfl rfl ?_
      | refine aw_block ?_
      | refine aw_exit ?_
      | refine aw_skip ?_
      | refine aw_seq_k (fun K hK => ?_))
    refine aw_cond rfl rfl (fun hc => ?_) (fun hc => ?_)
    · skip
      repeat (first
        | (refine go_at rfl ?_; first
            | refine go_do (valid_skip rfl) rfl ?_
            | refine go_do (valid_mv (.inl rfl) rfl) rfl ?_
            | (refine nxt_s 1 rfl ?_; refine go_do (valid_load_p tb rfl rfl rfl rfl rfl (by first | kernel_rfl | rfl)) (by first | kernel_rfl | rfl) ?_)
            | (refine nxt_s 1 rfl ?_; refine go_do (valid_fld_p tb rfl rfl rfl (by kernel_rfl)) rfl ?_)
            | refine go_do (valid_mv (.inr rfl) rfl) rfl ?_
            | refine go_do (valid_pick rfl rfl rfl) rfl ?_
            | refine go_do (valid_extract rfl rfl rfl rfl) rfl ?_
            | refine go_do (valid_field tb rfl rfl rfl rfl rfl rfl) rfl ?_
            | refine go_do (valid_cmp rfl rfl rfl rfl (by first | exact .eql1 (by omega) | exact .eql0 (by omega) | exact .neq1 (by omega) | exact .neq0 (by omega) | exact .lss1 (by omega) | exact .lss0 (by omega) | exact .leq1 (by omega) | exact .leq0 (by omega) | exact .gtr1 (by omega) | exact .gtr0 (by omega) | exact .geq1 (by omega) | exact .geq0 (by omega) | constructor)) rfl ?_
            | refine go_do (valid_ar rfl rfl rfl rfl (by constructor) (by first | exact wr_u64 (by omega) (by omega) | exact wr_i64 (by omega) (by omega) | rfl)) rfl ?_
            | refine go_do (valid_cv rfl rfl rfl rfl rfl (by first | exact wr_u64 (by omega) (by omega) | exact wr_i64 (by omega) (by omega) | rfl)) rfl ?_
            | refine go_do (valid_quo rfl rfl rfl rfl (by omega) (by omega) (by first | exact wr_u64 (by omega) (by omega) | exact wr_i64 (by omega) (by omega))) rfl ?_
            | refine go_do (valid_rem rfl rfl rfl rfl (by omega) (by omega)) rfl ?_
            | refine go_do (valid_box rfl rfl rfl rfl rfl rfl) rfl ?_
            | refine go_do (valid_alloc rfl rfl rfl rfl rfl) rfl ?_
            | (refine nxt_s 1 rfl ?_; refine go_do (valid_store_p rfl rfl rfl rfl rfl rfl (by first | kernel_rfl | rfl) rfl) (by first | kernel_rfl | rfl) ?_)
            | refine go_do (valid_len_s rfl rfl rfl rfl) rfl ?_
            | (refine nxt_s 3 rfl ?_; refine go_do (valid_load_q tb rfl rfl rfl rfl (by first | kernel_rfl | rfl)) rfl ?_)
            | (refine nxt_s 3 rfl ?_; refine go_do (valid_fld_q tb rfl rfl rfl rfl) rfl ?_)
            | refine go_do (valid_not rfl rfl rfl) rfl ?_
            | refine go_do (valid_build rfl rfl rfl rfl) rfl ?_
            | refine go_do (valid_nil rfl rfl rfl rfl) rfl ?_
            | (refine nxt_s 4 rfl ?_; refine go_do (valid_idx_s rfl rfl rfl rfl rfl rfl (by omega) (by omega) _ (by assumption)) rfl ?_)
            | (refine nxt_s 5 rfl ?_; refine go_do (valid_store_rp rfl rfl rfl rfl rfl rfl rfl rfl rfl (by first | omega | (simp; omega)) rfl) rfl ?_)
            | (refine nxt_s 5 rfl ?_; refine go_do (valid_load_rp tb rfl rfl rfl rfl rfl rfl) rfl ?_)
            | (refine nxt_s 2 rfl ?_; refine go_do (valid_idx_o rfl rfl rfl rfl rfl rfl rfl (by omega) (by omega)) rfl ?_)
            | (refine nxt_s 1 rfl ?_; refine go_do (valid_idx_p rfl rfl rfl rfl rfl rfl (by omega) (by omega)) rfl ?_)
            | refine go_do (valid_index tb rfl rfl rfl rfl rfl rfl (by omega) (by omega) rfl) rfl ?_
            | refine go_do (valid_len_o rfl rfl rfl rfl rfl) rfl ?_
            | refine go_do (valid_len_v rfl rfl rfl rfl) rfl ?_
            | (refine nxt_s 5 rfl ?_; refine go_do (valid_fld_rp tb rfl rfl rfl rfl) rfl ?_)
            | refine go_do (valid_bslice rfl rfl rfl rfl rfl rfl rfl rfl rfl rfl rfl) rfl ?_
            | refine go_do (valid_bslice0 rfl rfl rfl rfl rfl rfl rfl) rfl ?_
            | refine go_do (valid_eqb rfl rfl rfl rfl rfl) rfl ?_
            | refine go_do (valid_neb rfl rfl rfl rfl rfl) rfl ?_
            | refine go_do (valid_load_v rfl rfl rfl rfl rfl q2) rfl ?_
            | refine go_do (valid_load_v rfl rfl rfl rfl rfl q3) rfl ?_
            | refine go_do (valid_idx_v rfl rfl rfl rfl rfl rfl (by omega) (by omega)) rfl ?_
            | refine go_do (valid_call_f rfl rfl rfl rfl (addr0_ok f h) rfl) rfl ?_
            | refine go_do (valid_call_f rfl rfl rfl rfl (asid0_ok f) rfl) rfl ?_)
        | (refine hK _ ?_; clear hK K)
        | (rename_i K1 hK1; refine hK1 _ ?_; clear hK hK1; clear K)
        | (rename_i K1 hK1; refine hK1 _ ?_; clear hK1)
        | refine aw_text rfl ?_
        | refine aw_any (by kernel_rfl) (by kernel_rfl) rfl ?_
        | exact aw_ret (show resA _ _ _ = some _ by kernel_rfl)
        | refine aw_cond1 rfl rfl ?_
        | refine aw_cond0 rfl rfl ?_
        | refine aw_block ?_
        | refine aw_exit ?_
        | refine aw_skip ?_
        | refine aw_seq_k (fun K hK => ?_))
    · skip
      repeat (first
        | (refine go_at rfl ?_; first
            | refine go_do (valid_skip rfl) rfl ?_
            | refine go_do (valid_mv (.inl rfl) rfl) rfl ?_
            | (refine nxt_s 1 rfl ?_; refine go_do (valid_load_p tb rfl rfl rfl rfl rfl (by first | kernel_rfl | rfl)) (by first | kernel_rfl | rfl) ?_)
            | (refine nxt_s 1 rfl ?_; refine go_do (valid_fld_p tb rfl rfl rfl (by kernel_rfl)) rfl ?_)
            | refine go_do (valid_mv (.inr rfl) rfl) rfl ?_
            | refine go_do (valid_pick rfl rfl rfl) rfl ?_
            | refine go_do (valid_extract rfl rfl rfl rfl) rfl ?_
            | refine go_do (valid_field tb rfl rfl rfl rfl rfl rfl) rfl ?_
            | refine go_do (valid_cmp rfl rfl rfl rfl (by first | exact .eql1 (by omega) | exact .eql0 (by omega) | exact .neq1 (by omega) | exact .neq0 (by omega) | exact .lss1 (by omega) | exact .lss0 (by omega) | exact .leq1 (by omega) | exact .leq0 (by omega) | exact .gtr1 (by omega) | exact .gtr0 (by omega) | exact .geq1 (by omega) | exact .geq0 (by omega) | constructor)) rfl ?_
            | refine go_do (valid_ar rfl rfl rfl rfl (by constructor) (by first | exact wr_u64 (by omega) (by omega) | exact wr_i64 (by omega) (by omega) | rfl)) rfl ?_
            | refine go_do (valid_cv rfl rfl rfl rfl rfl (by first | exact wr_u64 (by omega) (by omega) | exact wr_i64 (by omega) (by omega) | rfl)) rfl ?_
            | refine go_do (valid_quo rfl rfl rfl rfl (by omega) (by omega) (by first | exact wr_u64 (by omega) (by omega) | exact wr_i64 (by omega) (by omega))) rfl ?_
            | refine go_do (valid_rem rfl rfl rfl rfl (by omega) (by omega)) rfl ?_
            | refine go_do (valid_box rfl rfl rfl rfl rfl rfl) rfl ?_
            | refine go_do (valid_alloc rfl rfl rfl rfl rfl) rfl ?_
            | (refine nxt_s 1 rfl ?_; refine go_do (valid_store_p rfl rfl rfl rfl rfl rfl (by first | kernel_rfl | rfl) rfl) (by first | kernel_rfl | rfl) ?_)
            | refine go_do (valid_len_s rfl rfl rfl rfl) rfl ?_
            | (refine nxt_s 3 rfl ?_; refine go_do (valid_load_q tb rfl rfl rfl rfl (by first | kernel_rfl | rfl)) rfl ?_)
            | (refine nxt_s 3 rfl ?_; refine go_do (valid_fld_q tb rfl rfl rfl rfl) rfl ?_)
            | refine go_do (valid_not rfl rfl rfl) rfl ?_
            | refine go_do (valid_build rfl rfl rfl rfl) rfl ?_
            | refine go_do (valid_nil rfl rfl rfl rfl) rfl ?_
            | (refine nxt_s 4 rfl ?_; refine go_do (valid_idx_s rfl rfl rfl rfl rfl rfl (by omega) (by omega) _ (by assumption)) rfl ?_)
            | (refine nxt_s 5 rfl ?_; refine go_do (valid_store_rp rfl rfl rfl rfl rfl rfl rfl rfl rfl (by first | omega | (simp; omega)) rfl) rfl ?_)
            | (refine nxt_s 5 rfl ?_; refine go_do (valid_load_rp tb rfl rfl rfl rfl rfl rfl) rfl ?_)
            | (refine nxt_s 2 rfl ?_; refine go_do (valid_idx_o rfl rfl rfl rfl rfl rfl rfl (by omega) (by omega)) rfl ?_)
            | (refine nxt_s 1 rfl ?_; refine go_do (valid_idx_p rfl rfl rfl rfl rfl rfl (by omega) (by omega)) rfl ?_)
            | refine go_do (valid_index tb rfl rfl rfl rfl rfl rfl (by omega) (by omega) rfl) rfl ?_
            | refine go_do (valid_len_o rfl rfl rfl rfl rfl) rfl ?_
            | refine go_do (valid_len_v rfl rfl rfl rfl) rfl ?_
            | (refine nxt_s 5 rfl ?_; refine go_do (valid_fld_rp tb rfl rfl rfl rfl) rfl ?_)
            | refine go_do (valid_bslice rfl rfl rfl rfl rfl rfl rfl rfl rfl rfl rfl) rfl ?_
            | refine go_do (valid_bslice0 rfl rfl rfl rfl rfl rfl rfl) rfl ?_
            | refine go_do (valid_eqb rfl rfl rfl rfl rfl) rfl ?_
            | refine go_do (valid_neb rfl rfl rfl rfl rfl) rfl ?_
            | refine go_do (valid_load_v rfl rfl rfl rfl rfl q2) rfl ?_
            | refine go_do (valid_load_v rfl rfl rfl rfl rfl q3) rfl ?_
            | refine go_do (valid_idx_v rfl rfl rfl rfl rfl rfl (by omega) (by omega)) rfl ?_
            | refine go_do (valid_call_f rfl rfl rfl rfl (addr0_ok f h) rfl) rfl ?_
            | refine go_do (valid_call_f rfl rfl rfl rfl (asid0_ok f) rfl) rfl ?_)
        | (refine hK _ ?_; clear hK K)
        | (rename_i K1 hK1; refine hK1 _ ?_; clear hK hK1; clear K)
        | (rename_i K1 hK1; refine hK1 _ ?_; clear hK1)
        | refine aw_text rfl ?_
        | refine aw_any (by kernel_rfl) (by kernel_rfl) rfl ?_
        | exact aw_ret (show resA _ _ _ = some _ by kernel_rfl)
        | refine aw_cond1 rfl rfl ?_
        | refine aw_cond0 rfl rfl ?_
        | refine aw_block ?_
        | refine aw_exit ?_
        | refine aw_skip ?_
        | refine aw_seq_k (fun K hK => ?_))
      exact ⟨1, by omega, by omega, sub_of _ _ ⟨rfl, rfl, rfl, rfl, rfl, trivial⟩ ⟨rfl, rfl, trivial⟩ rfl⟩
  · skip
    repeat (first
      | (refine go_at rfl ?_; first
          | refine go_do (valid_skip rfl) rfl ?_
          | refine go_do (valid_mv (.inl rfl) rfl) rfl ?_
          | (refine nxt_s 1 rfl ?_; refine go_do (valid_load_p tb rfl rfl rfl rfl rfl (by first | kernel_rfl | rfl)) (by first | kernel_rfl | rfl) ?_)
          | (refine nxt_s 1 rfl ?_; refine go_do (valid_fld_p tb rfl rfl rfl (by kernel_rfl)) rfl ?_)
          | refine go_do (valid_mv (.inr rfl) rfl) rfl ?_
          | refine go_do (valid_pick rfl rfl rfl) rfl ?_
          | refine go_do (valid_extract rfl rfl rfl rfl) rfl ?_
          | refine go_do (valid_field tb rfl rfl rfl rfl rfl rfl) rfl ?_
          | refine go_do (valid_cmp rfl rfl rfl rfl (by first | exact .eql1 (by omega) | exact .eql0 (by omega) | exact .neq1 (by omega) | exact .neq0 (by omega) | exact .lss1 (by omega) | exact .lss0 (by omega) | exact .leq1 (by omega) | exact .leq0 (by omega) | exact .gtr1 (by omega) | exact .gtr0 (by omega) | exact .geq1 (by omega) | exact .geq0 (by omega) | constructor)) rfl ?_
          | refine go_do (valid_ar rfl rfl rfl rfl (by constructor) (by first | exact wr_u64 (by omega) (by omega) | exact wr_i64 (by omega) (by omega) | rfl)) rfl ?_
          | refine go_do (valid_cv rfl rfl rfl rfl rfl (by first | exact wr_u64 (by omega) (by omega) | exact wr_i64 (by omega) (by omega) | rfl)) rfl ?_
          | refine go_do (valid_quo rfl rfl rfl rfl (by omega) (by omega) (by first | exact wr_u64 (by omega) (by omega) | exact wr_i64 (by omega) (by omega))) rfl ?_
          | refine go_do (valid_rem rfl rfl rfl rfl (by omega) (by omega)) rfl ?_
          | refine go_do (valid_box rfl rfl rfl rfl rfl rfl) rfl ?_
          | refine go_do (valid_alloc rfl rfl rfl rfl rfl) rfl ?_
          | (refine nxt_s 1 rfl ?_; refine go_do (valid_store_p rfl rfl rfl rfl rfl rfl (by first | kernel_rfl | rfl) rfl) (by first | kernel_rfl | rfl) ?_)
          | refine go_do (valid_len_s rfl rfl rfl rfl) rfl ?_
          | (refine nxt_s 3 rfl ?_; refine go_do (valid_load_q tb rfl rfl rfl rfl (by first | kernel_rfl | rfl)) rfl ?_)
          | (refine nxt_s 3 rfl ?_; refine go_do (valid_fld_q tb rfl rfl rfl rfl) rfl ?_)
          | refine go_do (valid_not rfl rfl rfl) rfl ?_
          | refine go_do (valid_build rfl rfl rfl rfl) rfl ?_
          | refine go_do (valid_nil rfl rfl rfl rfl) rfl ?_
          | (refine nxt_s 4 rfl ?_; refine go_do (valid_idx_s rfl rfl rfl rfl rfl rfl (by omega) (by omega) _ (by assumption)) rfl ?_)
          | (refine nxt_s 5 rfl ?_; refine go_do (valid_store_rp rfl rfl rfl rfl rfl rfl rfl rfl rfl (by first | omega | (simp; omega)) rfl) rfl ?_)
          | (refine nxt_s 5 rfl ?_; refine go_do (valid_load_rp tb rfl rfl rfl rfl rfl rfl) rfl ?_)
          | (refine nxt_s 2 rfl ?_; refine go_do (valid_idx_o rfl rfl rfl rfl rfl rfl rfl (by omega) (by omega)) rfl ?_)
          | (refine nxt_s 1 rfl ?_; refine go_do (valid_idx_p rfl rfl rfl rfl rfl rfl (by omega) (by omega)) rfl ?_)
          | refine go_do (valid_index tb rfl rfl rfl rfl rfl rfl (by omega) (by omega) rfl) rfl ?_
          | refine go_do (valid_len_o rfl rfl rfl rfl rfl) rfl ?_
          | refine go_do (valid_len_v rfl rfl rfl rfl) rfl ?_
          | (refine nxt_s 5 rfl ?_; refine go_do (valid_fld_rp tb rfl rfl rfl rfl) rfl ?_)
          | refine go_do (valid_bslice rfl rfl rfl rfl rfl rfl rfl rfl rfl rfl rfl) rfl ?_
          | refine go_do (valid_bslice0 rfl rfl rfl rfl rfl rfl rfl) rfl ?_
          | refine go_do (valid_eqb rfl rfl rfl rfl rfl) rfl ?_
          | refine go_do (valid_neb rfl rfl rfl rfl rfl) rfl ?_
          | refine go_do (valid_load_v rfl rfl rfl rfl rfl q2) rfl ?_
          | refine go_do (valid_load_v rfl rfl rfl rfl rfl q3) rfl ?_
          | refine go_do (valid_idx_v rfl rfl rfl rfl rfl rfl (by omega) (by omega)) rfl ?_
          | refine go_do (valid_call_f rfl rfl rfl rfl (addr0_ok f h) rfl) rfl ?_
          | refine go_do (valid_call_f rfl rfl rfl rfl (asid0_ok f) rfl) rfl ?_)
      | (refine hK _ ?_; clear hK K)
      | (rename_i K1 hK1; refine hK1 _ ?_; clear hK hK1; clear K)
      | (rename_i K1 hK1; refine hK1 _ ?_; clear hK1)
      | refine aw_text rfl ?_
      | refine aw_any (by kernel_rfl) (by kernel_rfl) rfl ?_
      | exact aw_ret (show resA _ _ _ = some _ by kernel_rfl)
      | refine aw_cond1 rfl rfl ?_
      | refine aw_cond0 rfl rfl ?_
      | refine aw_block ?_
      | refine aw_exit ?_
      | refine aw_skip ?_
      | refine aw_seq_k (fun K hK => ?_))
    refine aw_cond rfl rfl (fun hc => ?_) (fun hc => ?_)
    · skip
      repeat (first
        | (refine go_at rfl ?_; first
            | refine go_do (valid_skip rfl) rfl ?_
            | refine go_do (valid_mv (.inl rfl) rfl) rfl ?_
            | (refine nxt_s 1 rfl ?_; refine go_do (valid_load_p tb rfl rfl rfl rfl rfl (by first | kernel_rfl | rfl)) (by first | kernel_rfl | rfl) ?_)
            | (refine nxt_s 1 rfl ?_; refine go_do (valid_fld_p tb rfl rfl rfl (by kernel_rfl)) rfl ?_)
            | refine go_do (valid_mv (.inr rfl) rfl) rfl ?_
            | refine go_do (valid_pick rfl rfl rfl) rfl ?_
            | refine go_do (valid_extract rfl rfl rfl rfl) rfl ?_
            | refine go_do (valid_field tb rfl rfl rfl rfl rfl rfl) rfl ?_
            | refine go_do (valid_cmp rfl rfl rfl rfl (by first | exact .eql1 (by omega) | exact .eql0 (by omega) | exact .neq1 (by omega) | exact .neq0 (by omega) | exact .lss1 (by omega) | exact .lss0 (by omega) | exact .leq1 (by omega) | exact .leq0 (by omega) | exact .gtr1 (by omega) | exact .gtr0 (by omega) | exact .geq1 (by omega) | exact .geq0 (by omega) | constructor)) rfl ?_
            | refine go_do (valid_ar rfl rfl rfl rfl (by constructor) (by first | exact wr_u64 (by omega) (by omega) | exact wr_i64 (by omega) (by omega) | rfl)) rfl ?_
            | refine go_do (valid_cv rfl rfl rfl rfl rfl (by first | exact wr_u64 (by omega) (by omega) | exact wr_i64 (by omega) (by omega) | rfl)) rfl ?_
            | refine go_do (valid_quo rfl rfl rfl rfl (by omega) (by omega) (by first | exact wr_u64 (by omega) (by omega) | exact wr_i64 (by omega) (by omega))) rfl ?_
            | refine go_do (valid_rem rfl rfl rfl rfl (by omega) (by omega)) rfl ?_
            | refine go_do (valid_box rfl rfl rfl rfl rfl rfl) rfl ?_
            | refine go_do (valid_alloc rfl rfl rfl rfl rfl) rfl ?_
            | (refine nxt_s 1 rfl ?_; refine go_do (valid_store_p rfl rfl rfl rfl rfl rfl (by first | kernel_rfl | rfl) rfl) (by first | kernel_rfl | rfl) ?_)
            | refine go_do (valid_len_s rfl rfl rfl rfl) rfl ?_
            | (refine nxt_s 3 rfl ?_; refine go_do (valid_load_q tb rfl rfl rfl rfl (by first | kernel_rfl | rfl)) rfl ?_)
            | (refine nxt_s 3 rfl ?_; refine go_do (valid_fld_q tb rfl rfl rfl rfl) rfl ?_)
            | refine go_do (valid_not rfl rfl rfl) rfl ?_
            | refine go_do (valid_build rfl rfl rfl rfl) rfl ?_
            | refine go_do (valid_nil rfl rfl rfl rfl) rfl ?_
            | (refine nxt_s 4 rfl ?_; refine go_do (valid_idx_s rfl rfl rfl rfl rfl rfl (by omega) (by omega) _ (by assumption)) rfl ?_)
            | (refine nxt_s 5 rfl ?_; refine go_do (valid_store_rp rfl rfl rfl rfl rfl rfl rfl rfl rfl (by first | omega | (simp; omega)) rfl) rfl ?_)
            | (refine nxt_s 5 rfl ?_; refine go_do (valid_load_rp tb rfl rfl rfl rfl rfl rfl) rfl ?_)
            | (refine nxt_s 2 rfl ?_; refine go_do (valid_idx_o rfl rfl rfl rfl rfl rfl rfl (by omega) (by omega)) rfl ?_)
            | (refine nxt_s 1 rfl ?_; refine go_do (valid_idx_p rfl rfl rfl rfl rfl rfl (by omega) (by omega)) rfl ?_)
            | refine go_do (valid_index tb rfl rfl rfl rfl rfl rfl (by omega) (by omega) rfl) rfl ?_
            | refine go_do (valid_len_o rfl rfl rfl rfl rfl) rfl ?_
            | refine go_do (valid_len_v rfl rfl rfl rfl) rfl ?_
            | (refine nxt_s 5 rfl ?_; refine go_do (valid_fld_rp tb rfl rfl rfl rfl) rfl ?_)
            | refine go_do (valid_bslice rfl rfl rfl rfl rfl rfl rfl rfl rfl rfl rfl) rfl ?_
            | refine go_do (valid_bslice0 rfl rfl rfl rfl rfl rfl rfl) rfl ?_
            | refine go_do (valid_eqb rfl rfl rfl rfl rfl) rfl ?_
            | refine go_do (valid_neb rfl rfl rfl rfl rfl) rfl ?_
            | refine go_do (valid_load_v rfl rfl rfl rfl rfl q2) rfl ?_
            | refine go_do (valid_load_v rfl rfl rfl rfl rfl q3) rfl ?_
            | refine go_do (valid_idx_v rfl rfl rfl rfl rfl rfl (by omega) (by omega)) rfl ?_
            | refine go_do (valid_call_f rfl rfl rfl rfl (addr0_ok f h) rfl) rfl ?_
            | refine go_do (valid_call_f rfl rfl rfl rfl (asid0_ok f) rfl) rfl ?_)
        | (refine hK _ ?_; clear hK K)
        | (rename_i K1 hK1; refine hK1 _ ?_; clear hK hK1; clear K)
        | (rename_i K1 hK1; refine hK1 _ ?_; clear hK1)
        | refine aw_text rfl ?_
        | refine aw_any (by kernel_rfl) (by kernel_rfl) rfl ?_
        | exact aw_ret (show resA _ _ _ = some _ by kernel_rfl)
        | refine aw_cond1 rfl rfl ?_
        | refine aw_cond0 rfl rfl ?_
        | refine aw_block ?_
        | refine aw_exit ?_
        | refine aw_skip ?_
        | refine aw_seq_k (fun K hK => ?_))
    · skip
      repeat (first
        | (refine go_at rfl ?_; first
            | refine go_do (valid_skip rfl) rfl ?_
            | refine go_do (valid_mv (.inl rfl) rfl) rfl ?_
            | (refine nxt_s 1 rfl ?_; refine go_do (valid_load_p tb rfl rfl rfl rfl rfl (by first | kernel_rfl | rfl)) (by first | kernel_rfl | rfl) ?_)
            | (refine nxt_s 1 rfl ?_; refine go_do (valid_fld_p tb rfl rfl rfl (by kernel_rfl)) rfl ?_)
            | refine go_do (valid_mv (.inr rfl) rfl) rfl ?_
            | refine go_do (valid_pick rfl rfl rfl) rfl ?_
            | refine go_do (valid_extract rfl rfl rfl rfl) rfl ?_
            | refine go_do (valid_field tb rfl rfl rfl rfl rfl rfl) rfl ?_
            | refine go_do (valid_cmp rfl rfl rfl rfl (by first | exact .eql1 (by omega) | exact .eql0 (by omega) | exact .neq1 (by omega) | exact .neq0 (by omega) | exact .lss1 (by omega) | exact .lss0 (by omega) | exact .leq1 (by omega) | exact .leq0 (by omega) | exact .gtr1 (by omega) | exact .gtr0 (by omega) | exact .geq1 (by omega) | exact .geq0 (by omega) | constructor)) rfl ?_
            | refine go_do (valid_ar rfl rfl rfl rfl (by constructor) (by first | exact wr_u64 (by omega) (by omega) | exact wr_i64 (by omega) (by omega) | rfl)) rfl ?_
            | refine go_do (valid_cv rfl rfl rfl rfl rfl (by first | exact wr_u64 (by omega) (by omega) | exact wr_i64 (by omega) (by omega) | rfl)) rfl ?_
            | refine go_do (valid_quo rfl rfl rfl rfl (by omega) (by omega) (by first | exact wr_u64 (by omega) (by omega) | exact wr_i64 (by omega) (by omega))) rfl ?_
            | refine go_do (valid_rem rfl rfl rfl rfl (by omega) (by omega)) rfl ?_
            | refine go_do (valid_box rfl rfl rfl rfl rfl rfl) rfl ?_
            | refine go_do (valid_alloc rfl rfl rfl rfl rfl) rfl ?_
            | (refine nxt_s 1 rfl ?_; refine go_do (valid_store_p rfl rfl rfl rfl rfl rfl (by first | kernel_rfl | rfl) rfl) (by first | kernel_rfl | rfl) ?_)
            | refine go_do (valid_len_s rfl rfl rfl rfl) rfl ?_
            | (refine nxt_s 3 rfl ?_; refine go_do (valid_load_q tb rfl rfl rfl rfl (by first | kernel_rfl | rfl)) rfl ?_)
            | (refine nxt_s 3 rfl ?_; refine go_do (valid_fld_q tb rfl rfl rfl rfl) rfl ?_)
            | refine go_do (valid_not rfl rfl rfl) rfl ?_
            | refine go_do (valid_build rfl rfl rfl rfl) rfl ?_
            | refine go_do (valid_nil rfl rfl rfl rfl) rfl ?_
            | (refine nxt_s 4 rfl ?_; refine go_do (valid_idx_s rfl rfl rfl rfl rfl rfl (by omega) (by omega) _ (by assumption)) rfl ?_)
            | (refine nxt_s 5 rfl ?_; refine go_do (valid_store_rp rfl rfl rfl rfl rfl rfl rfl rfl rfl (by first | omega | (simp; omega)) rfl) rfl ?_)
            | (refine nxt_s 5 rfl ?_; refine go_do (valid_load_rp tb rfl rfl rfl rfl rfl rfl) rfl ?_)
            | (refine nxt_s 2 rfl ?_; refine go_do (valid_idx_o rfl rfl rfl rfl rfl rfl rfl (by omega) (by omega)) rfl ?_)
            | (refine nxt_s 1 rfl ?_; refine go_do (valid_idx_p rfl rfl rfl rfl rfl rfl (by omega) (by omega)) rfl ?_)
            | refine go_do (valid_index tb rfl rfl rfl rfl rfl rfl (by omega) (by omega) rfl) rfl ?_
            | refine go_do (valid_len_o rfl rfl rfl rfl rfl) rfl ?_
            | refine go_do (valid_len_v rfl rfl rfl rfl) rfl ?_
            | (refine nxt_s 5 rfl ?_; refine go_do (valid_fld_rp tb rfl rfl rfl rfl) rfl ?_)
            | refine go_do (valid_bslice rfl rfl rfl rfl rfl rfl rfl rfl rfl rfl rfl) rfl ?_
            | refine go_do (valid_bslice0 rfl rfl rfl rfl rfl rfl rfl) rfl ?_
            | refine go_do (valid_eqb rfl rfl rfl rfl rfl) rfl ?_
            | refine go_do (valid_neb rfl rfl rfl rfl rfl) rfl ?_
            | refine go_do (valid_load_v rfl rfl rfl rfl rfl q2) rfl ?_
            | refine go_do (valid_load_v rfl rfl rfl rfl rfl q3) rfl ?_
            | refine go_do (valid_idx_v rfl rfl rfl rfl rfl rfl (by omega) (by omega)) rfl ?_
            | refine go_do (valid_call_f rfl rfl rfl rfl (addr0_ok f h) rfl) rfl ?_
            | refine go_do (valid_call_f rfl rfl rfl rfl (asid0_ok f) rfl) rfl ?_)
        | (refine hK _ ?_; clear hK K)
        | (rename_i K1 hK1; refine hK1 _ ?_; clear hK hK1; clear K)
        | (rename_i K1 hK1; refine hK1 _ ?_; clear hK1)
        | refine aw_text rfl ?_
        | refine aw_any (by kernel_rfl) (by kernel_rfl) rfl ?_
        | exact aw_ret (show resA _ _ _ = some _ by kernel_rfl)
        | refine aw_cond1 rfl rfl ?_
        | refine aw_cond0 rfl rfl ?_
        | refine aw_block ?_
        | refine aw_exit ?_
        | refine aw_skip ?_
        | refine aw_seq_k (fun K hK => ?_))
      exact ⟨2, by omega, by omega, sub_of _ _ ⟨rfl, rfl, rfl, rfl, rfl, trivial⟩ ⟨rfl, rfl, trivial⟩ rfl⟩
  · skip
    repeat (first
      | (refine go_at rfl ?_; first
          | refine go_do (valid_skip rfl) rfl ?_
          | refine go_do (valid_mv (.inl rfl) rfl) rfl ?_
          | (refine nxt_s 1 rfl ?_; refine go_do (valid_load_p tb rfl rfl rfl rfl rfl (by first | kernel_rfl | rfl)) (by first | kernel_rfl | rfl) ?_)
          | (refine nxt_s 1 rfl ?_; refine go_do (valid_fld_p tb rfl rfl rfl (by kernel_rfl)) rfl ?_)
          | refine go_do (valid_mv (.inr rfl) rfl) rfl ?_
          | refine go_do (valid_pick rfl rfl rfl) rfl ?_
          | refine go_do (valid_extract rfl rfl rfl rfl) rfl ?_
          | refine go_do (valid_field tb rfl rfl rfl rfl rfl rfl) rfl ?_
          | refine go_do (valid_cmp rfl rfl rfl rfl (by first | exact .eql1 (by omega) | exact .eql0 (by omega) | exact .neq1 (by omega) | exact .neq0 (by omega) | exact .lss1 (by omega) | exact .lss0 (by omega) | exact .leq1 (by omega) | exact .leq0 (by omega) | exact .gtr1 (by omega) | exact .gtr0 (by omega) | exact .geq1 (by omega) | exact .geq0 (by omega) | constructor)) rfl ?_
          | refine go_do (valid_ar rfl rfl rfl rfl (by constructor) (by first | exact wr_u64 (by omega) (by omega) | exact wr_i64 (by omega) (by omega) | rfl)) rfl ?_
          | refine go_do (valid_cv rfl rfl rfl rfl rfl (by first | exact wr_u64 (by omega) (by omega) | exact wr_i64 (by omega) (by omega) | rfl)) rfl ?_
          | refine go_do (valid_quo rfl rfl rfl rfl (by omega) (by omega) (by first | exact wr_u64 (by omega) (by omega) | exact wr_i64 (by omega) (by omega))) rfl ?_
          | refine go_do (valid_rem rfl rfl rfl rfl (by omega) (by omega)) rfl ?_
          | refine go_do (valid_box rfl rfl rfl rfl rfl rfl) rfl ?_
          | refine go_do (valid_alloc rfl rfl rfl rfl rfl) rfl ?_
          | (refine nxt_s 1 rfl ?_; refine go_do (valid_store_p rfl rfl rfl rfl rfl rfl (by first | kernel_rfl | rfl) rfl) (by first | kernel_rfl | rfl) ?_)
          | refine go_do (valid_len_s rfl rfl rfl rfl) rfl ?_
          | (refine nxt_s 3 rfl ?_; refine go_do (valid_load_q tb rfl rfl rfl rfl (by first | kernel_rfl | rfl)) rfl ?_)
          | (refine nxt_s 3 rfl ?_; refine go_do (valid_fld_q tb rfl rfl rfl rfl) rfl ?_)
          | refine go_do (valid_not rfl rfl rfl) rfl ?_
          | refine go_do (valid_build rfl rfl rfl rfl) rfl ?_
          | refine go_do (valid_nil rfl rfl rfl rfl) rfl ?_
          | (refine nxt_s 4 rfl ?_; refine go_do (valid_idx_s rfl rfl rfl rfl rfl rfl (by omega) (by omega) _ (by assumption)) rfl ?_)
          | (refine nxt_s 5 rfl ?_; refine go_do (valid_store_rp rfl rfl rfl rfl rfl rfl rfl rfl rfl (by first | omega | (simp; omega)) rfl) rfl ?_)
          | (refine nxt_s 5 rfl ?_; refine go_do (valid_load_rp tb rfl rfl rfl rfl rfl rfl) rfl ?_)
          | (refine nxt_s 2 rfl ?_; refine go_do (valid_idx_o rfl rfl rfl rfl rfl rfl rfl (by omega) (by omega)) rfl ?_)
          | (refine nxt_s 1 rfl ?_; refine go_do (valid_idx_p rfl rfl rfl rfl rfl rfl (by omega) (by omega)) rfl ?_)
          | refine go_do (valid_index tb rfl rfl rfl rfl rfl rfl (by omega) (by omega) rfl) rfl ?_
          | refine go_do (valid_len_o rfl rfl rfl rfl rfl) rfl ?_
          | refine go_do (valid_len_v rfl rfl rfl rfl) rfl ?_
          | (refine nxt_s 5 rfl ?_; refine go_do (valid_fld_rp tb rfl rfl rfl rfl) rfl ?_)
          | refine go_do (valid_bslice rfl rfl rfl rfl rfl rfl rfl rfl rfl rfl rfl) rfl ?_
          | refine go_do (valid_bslice0 rfl rfl rfl rfl rfl rfl rfl) rfl ?_
          | refine go_do (valid_eqb rfl rfl rfl rfl rfl) rfl ?_
          | refine go_do (valid_neb rfl rfl rfl rfl rfl) rfl ?_
          | refine go_do (valid_load_v rfl rfl rfl rfl rfl q2) rfl ?_
          | refine go_do (valid_load_v rfl rfl rfl rfl rfl q3) rfl ?_
          | refine go_do (valid_idx_v rfl rfl rfl rfl rfl rfl (by omega) (by omega)) rfl ?_
          | refine go_do (valid_call_f rfl rfl rfl rfl (addr0_ok f h) rfl) rfl ?_
          | refine go_do (valid_call_f rfl rfl rfl rfl (asid0_ok f) rfl) rfl ?_)
      | (refine hK _ ?_; clear hK K)
      | (rename_i K1 hK1; refine hK1 _ ?_; clear hK hK1; clear K)
      | (rename_i K1 hK1; refine hK1 _ ?_; clear hK1)
      | refine aw_text rfl ?_
      | refine aw_any (by kernel_rfl) (by kernel_rfl) rfl ?_
      | exact aw_ret (show resA _ _ _ = some _ by kernel_rfl)
      | refine aw_cond1 rfl rfl ?_
      | refine aw_cond0 rfl rfl ?_
      | refine aw_block ?_
      | refine aw_exit ?_
      | refine aw_skip ?_
      | refine aw_seq_k (fun K hK => ?_))
def zEv : List Value := [.bool false, .int .u64 0, .bool false, .int .i64 0, .int .u64 0, .int .u64 0, .bool false, .bool false, .bool false, .bool false, .bool false]
def zS : List Value := zEv ++ zEv ++ zEv ++ zEv ++ [.int .u8 0]
def zsL (n : Nat) : List Value := (List.replicate n ()).flatMap (fun _ => zS)
theorem zsL_at (n k : Nat) (h : k < n) : ((zsL n).drop (k * 45)).take 45 = [.bool false, .int .u64 0, .bool false, .int .i64 0, .int .u64 0, .int .u64 0, .bool false, .bool false, .bool false, .bool false, .bool false, .bool false, .int .u64 0, .bool false, .int .i64 0, .int .u64 0, .int .u64 0, .bool false, .bool false, .bool false, .bool false, .bool false, .bool false, .int .u64 0, .bool false, .int .i64 0, .int .u64 0, .int .u64 0, .bool false, .bool false, .bool false, .bool false, .bool false, .bool false, .int .u64 0, .bool false, .int .i64 0, .int .u64 0, .int .u64 0, .bool false, .bool false, .bool false, .bool false, .bool false, .int .u8 0] :=
  flat_at (fun _ => zS) 45 (fun _ => rfl) (List.replicate n ()) k () (by rw [List.getElem?_replicate, if_pos h])
theorem zsL_one (n : Nat) : (zsL n).all (·.oneCell') = true := by
  rw [List.all_eq_true]
  intro v hv
  obtain ⟨_, _, hv⟩ := List.mem_flatMap.1 hv
  exact List.all_eq_true.1 (show zS.all (·.oneCell') = true from rfl) v hv
def zs44 : List Ce := (zEv ++ zEv ++ zEv ++ zEv).map .v
theorem do0_ok (f : Fe) (h : U f.ad) (n : Nat) (hn : n ≤ 16) : Ok 48 [.ag [.s n 45 (zsL n)], .ag (Fe.ce f)] (.m (.ag [.s n 45 (zsL n)])) := by
  refine callOk_of 40 Tryd.func48 rfl rfl rfl rfl ?_ GG.to
  intro W A hG
  repeat (first
    | (refine go_at rfl ?_; first
        | refine go_do (valid_skip rfl) rfl ?_
        | refine go_do (valid_mv (.inl rfl) rfl) rfl ?_
        | (refine nxt_s 1 rfl ?_; refine go_do (valid_load_p tb rfl rfl rfl rfl rfl (by first | kernel_rfl | rfl)) (by first | kernel_rfl | rfl) ?_)
        | (refine nxt_s 1 rfl ?_; refine go_do (valid_fld_p tb rfl rfl rfl (by kernel_rfl)) rfl ?_)
        | refine go_do (valid_mv (.inr rfl) rfl) rfl ?_
        | refine go_do (valid_pick rfl rfl rfl) rfl ?_
        | refine go_do (valid_extract rfl rfl rfl rfl) rfl ?_
        | refine go_do (valid_field tb rfl rfl rfl rfl rfl rfl) rfl ?_
        | refine go_do (valid_cmp rfl rfl rfl rfl (by first | exact .eql1 (by omega) | exact .eql0 (by omega) | exact .neq1 (by omega) | exact .neq0 (by omega) | exact .lss1 (by omega) | exact .lss0 (by omega) | exact .leq1 (by omega) | exact .leq0 (by omega) | exact .gtr1 (by omega) | exact .gtr0 (by omega) | exact .geq1 (by omega) | exact .geq0 (by omega) | constructor)) rfl ?_
        | refine go_do (valid_ar rfl rfl rfl rfl (by constructor) (by first | exact wr_u64 (by omega) (by omega) | exact wr_i64 (by omega) (by omega) | rfl)) rfl ?_
        | refine go_do (valid_cv rfl rfl rfl rfl rfl (by first | exact wr_u64 (by omega) (by omega) | exact wr_i64 (by omega) (by omega) | rfl)) rfl ?_
        | refine go_do (valid_quo rfl rfl rfl rfl (by omega) (by omega) (by first | exact wr_u64 (by omega) (by omega) | exact wr_i64 (by omega) (by omega))) rfl ?_
        | refine go_do (valid_rem rfl rfl rfl rfl (by omega) (by omega)) rfl ?_
        | refine go_do (valid_box rfl rfl rfl rfl rfl rfl) rfl ?_
        | refine go_do (valid_alloc rfl rfl rfl rfl rfl) rfl ?_
        | (refine nxt_s 1 rfl ?_; refine go_do (valid_store_p rfl rfl rfl rfl rfl rfl (by first | kernel_rfl | rfl) rfl) (by first | kernel_rfl | rfl) ?_)
        | refine go_do (valid_len_s rfl rfl rfl rfl) rfl ?_
        | (refine nxt_s 3 rfl ?_; refine go_do (valid_load_q tb rfl rfl rfl rfl (by first | kernel_rfl | rfl)) rfl ?_)
        | (refine nxt_s 3 rfl ?_; refine go_do (valid_fld_q tb rfl rfl rfl rfl) rfl ?_)
        | refine go_do (valid_not rfl rfl rfl) rfl ?_
        | refine go_do (valid_build rfl rfl rfl rfl) rfl ?_
        | refine go_do (valid_nil rfl rfl rfl rfl) rfl ?_
        | (refine nxt_s 4 rfl ?_; refine go_do (valid_idx_s rfl rfl rfl rfl rfl rfl (by omega) (by omega) _ (by assumption)) rfl ?_)
        | (refine nxt_s 5 rfl ?_; refine go_do (valid_store_rp rfl rfl rfl rfl rfl rfl rfl rfl rfl (by first | omega | (simp; omega)) rfl) rfl ?_)
        | (refine nxt_s 5 rfl ?_; refine go_do (valid_load_rp tb rfl rfl rfl rfl rfl rfl) rfl ?_)
        | (refine nxt_s 2 rfl ?_; refine go_do (valid_idx_o rfl rfl rfl rfl rfl rfl rfl (by omega) (by omega)) rfl ?_)
        | (refine nxt_s 1 rfl ?_; refine go_do (valid_idx_p rfl rfl rfl rfl rfl rfl (by omega) (by omega)) rfl ?_)
        | refine go_do (valid_index tb rfl rfl rfl rfl rfl rfl (by omega) (by omega) rfl) rfl ?_
        | refine go_do (valid_len_o rfl rfl rfl rfl rfl) rfl ?_
        | refine go_do (valid_len_v rfl rfl rfl rfl) rfl ?_
        | (refine nxt_s 5 rfl ?_; refine go_do (valid_fld_rp tb rfl rfl rfl rfl) rfl ?_)
        | refine go_do (valid_bslice rfl rfl rfl rfl rfl rfl rfl rfl rfl rfl rfl) rfl ?_
        | refine go_do (valid_bslice0 rfl rfl rfl rfl rfl rfl rfl) rfl ?_
        | refine go_do (valid_eqb rfl rfl rfl rfl rfl) rfl ?_
        | refine go_do (valid_neb rfl rfl rfl rfl rfl) rfl ?_)
    | (refine hK _ ?_; clear hK K)
    | (rename_i K1 hK1; refine hK1 _ ?_; clear hK hK1; clear K)
    | (rename_i K1 hK1; refine hK1 _ ?_; clear hK1)
    | refine aw_text rfl ?_
    | refine aw_any (by kernel_rfl) (by kernel_rfl) rfl ?_
    | exact aw_ret (show resA _ _ _ = some _ by kernel_rfl)
    | refine aw_cond1 rfl rfl ?_
    | refine aw_cond0 rfl rfl ?_
    | refine aw_block ?_
    | refine aw_exit ?_
    | refine aw_skip ?_
    | refine aw_seq_k (fun K hK => ?_))
  refine aw_loopH (α := Nat) (fun k => k ≤ n) (fun k => St.of [(2, .m (.c (.p 2 0))), (3, .m (.c (.p 3 0))), (4, .m (.c (.p 4 0))), (10, .m (.c (.s n 45 (zsL n)))), (11, .m (ii n)), (12, .m (ii k))] [(2, .live (.box [.s n 45 (zsL n)])), (3, .live (.box (Fe.ce f))), (4, .live (.box [.v (.slice none 0 0)]))]) (fun k => n - k) 0 (by omega) (sub_of _ _ ⟨rfl, rfl, rfl, rfl, rfl, rfl, trivial⟩ ⟨rfl, rfl, rfl, trivial⟩ rfl) ?_
  intro k hk
  by_cases hlt : k < n
  · have hx := zsL_at n k hlt
    repeat (first
      | (refine go_at rfl ?_; first
          | refine go_do (valid_skip rfl) rfl ?_
          | refine go_do (valid_mv (.inl rfl) rfl) rfl ?_
          | (refine nxt_s 1 rfl ?_; refine go_do (valid_load_p tb rfl rfl rfl rfl rfl (by first | kernel_rfl | rfl)) (by first | kernel_rfl | rfl) ?_)
          | (refine nxt_s 1 rfl ?_; refine go_do (valid_fld_p tb rfl rfl rfl (by kernel_rfl)) rfl ?_)
          | refine go_do (valid_mv (.inr rfl) rfl) rfl ?_
          | refine go_do (valid_pick rfl rfl rfl) rfl ?_
          | refine go_do (valid_extract rfl rfl rfl rfl) rfl ?_
          | refine go_do (valid_field tb rfl rfl rfl rfl rfl rfl) rfl ?_
          | refine go_do (valid_cmp rfl rfl rfl rfl (by first | exact .eql1 (by omega) | exact .eql0 (by omega) | exact .neq1 (by omega) | exact .neq0 (by omega) | exact .lss1 (by omega) | exact .lss0 (by omega) | exact .leq1 (by omega) | exact .leq0 (by omega) | exact .gtr1 (by omega) | exact .gtr0 (by omega) | exact .geq1 (by omega) | exact .geq0 (by omega) | constructor)) rfl ?_
          | refine go_do (valid_ar rfl rfl rfl rfl (by constructor) (by first | exact wr_u64 (by omega) (by omega) | exact wr_i64 (by omega) (by omega) | rfl)) rfl ?_
          | refine go_do (valid_cv rfl rfl rfl rfl rfl (by first | exact wr_u64 (by omega) (by omega) | exact wr_i64 (by omega) (by omega) | rfl)) rfl ?_
          | refine go_do (valid_quo rfl rfl rfl rfl (by omega) (by omega) (by first | exact wr_u64 (by omega) (by omega) | exact wr_i64 (by omega) (by omega))) rfl ?_
          | refine go_do (valid_rem rfl rfl rfl rfl (by omega) (by omega)) rfl ?_
          | refine go_do (valid_box rfl rfl rfl rfl rfl rfl) rfl ?_
          | refine go_do (valid_alloc rfl rfl rfl rfl rfl) rfl ?_
          | (refine nxt_s 1 rfl ?_; refine go_do (valid_store_p rfl rfl rfl rfl rfl rfl (by first | kernel_rfl | rfl) rfl) (by first | kernel_rfl | rfl) ?_)
          | refine go_do (valid_len_s rfl rfl rfl rfl) rfl ?_
          | (refine nxt_s 3 rfl ?_; refine go_do (valid_load_q tb rfl rfl rfl rfl (by first | kernel_rfl | rfl)) rfl ?_)
          | (refine nxt_s 3 rfl ?_; refine go_do (valid_fld_q tb rfl rfl rfl rfl) rfl ?_)
          | refine go_do (valid_not rfl rfl rfl) rfl ?_
          | refine go_do (valid_build rfl rfl rfl rfl) rfl ?_
          | refine go_do (valid_nil rfl rfl rfl rfl) rfl ?_
          | (refine nxt_s 4 rfl ?_; refine go_do (valid_idx_s rfl rfl rfl rfl rfl rfl (by omega) (by omega) _ (by assumption)) rfl ?_)
          | (refine nxt_s 5 rfl ?_; refine go_do (valid_store_rp rfl rfl rfl rfl rfl rfl rfl rfl rfl (by first | omega | (simp; omega)) rfl) rfl ?_)
          | (refine nxt_s 5 rfl ?_; refine go_do (valid_load_rp tb rfl rfl rfl rfl rfl rfl) rfl ?_)
          | (refine nxt_s 2 rfl ?_; refine go_do (valid_idx_o rfl rfl rfl rfl rfl rfl rfl (by omega) (by omega)) rfl ?_)
          | (refine nxt_s 1 rfl ?_; refine go_do (valid_idx_p rfl rfl rfl rfl rfl rfl (by omega) (by omega)) rfl ?_)
          | refine go_do (valid_index tb rfl rfl rfl rfl rfl rfl (by omega) (by omega) rfl) rfl ?_
          | refine go_do (valid_len_o rfl rfl rfl rfl rfl) rfl ?_
          | refine go_do (valid_len_v rfl rfl rfl rfl) rfl ?_
          | (refine nxt_s 5 rfl ?_; refine go_do (valid_fld_rp tb rfl rfl rfl rfl) rfl ?_)
          | refine go_do (valid_bslice rfl rfl rfl rfl rfl rfl rfl rfl rfl rfl rfl) rfl ?_
          | refine go_do (valid_bslice0 rfl rfl rfl rfl rfl rfl rfl) rfl ?_
          | refine go_do (valid_eqb rfl rfl rfl rfl rfl) rfl ?_
          | refine go_do (valid_neb rfl rfl rfl rfl rfl) rfl ?_)
      | (refine hK _ ?_; clear hK K)
      | (rename_i K1 hK1; refine hK1 _ ?_; clear hK hK1; clear K)
      | (rename_i K1 hK1; refine hK1 _ ?_; clear hK1)
      | refine aw_text rfl ?_
      | refine aw_any (by kernel_rfl) (by kernel_rfl) rfl ?_
      | exact aw_ret (show resA _ _ _ = some _ by kernel_rfl)
      | refine aw_cond1 rfl rfl ?_
      | refine aw_cond0 rfl rfl ?_
      | refine aw_block ?_
      | refine aw_exit ?_
      | refine aw_skip ?_
      | refine aw_seq_k (fun K hK => ?_))
    refine aw_loopH (α := Nat) (fun w => w ≤ 4) (fun w => St.of [(2, .m (.c (.p 2 0))), (3, .m (.c (.p 3 0))), (4, .m (.c (.p 4 0))), (10, .m (.c (.s n 45 (zsL n)))), (11, .m (ii n)), (12, .m (ii k)), (18, .m (.ag zs44)), (19, .m (ii w))] [(2, .live (.box [.s n 45 (zsL n)])), (3, .live (.box (Fe.ce f))), (4, .live (.box [.v (.slice none 0 0)]))]) (fun w => 4 - w) 0 (by omega) (sub_of _ _ ⟨rfl, rfl, rfl, rfl, rfl, rfl, rfl, rfl, trivial⟩ ⟨rfl, rfl, rfl, trivial⟩ rfl) ?_
    intro w hw
    rcases (by omega : w = 0 ∨ w = 1 ∨ w = 2 ∨ w = 3 ∨ w = 4) with rfl | rfl | rfl | rfl | rfl
    · skip
      repeat (first
        | (refine go_at rfl ?_; first
            | refine go_do (valid_skip rfl) rfl ?_
            | refine go_do (valid_mv (.inl rfl) rfl) rfl ?_
            | (refine nxt_s 1 rfl ?_; refine go_do (valid_load_p tb rfl rfl rfl rfl rfl (by first | kernel_rfl | rfl)) (by first | kernel_rfl | rfl) ?_)
            | (refine nxt_s 1 rfl ?_; refine go_do (valid_fld_p tb rfl rfl rfl (by kernel_rfl)) rfl ?_)
            | refine go_do (valid_mv (.inr rfl) rfl) rfl ?_
            | refine go_do (valid_pick rfl rfl rfl) rfl ?_
            | refine go_do (valid_extract rfl rfl rfl rfl) rfl ?_
            | refine go_do (valid_field tb rfl rfl rfl rfl rfl rfl) rfl ?_
            | refine go_do (valid_cmp rfl rfl rfl rfl (by first | exact .eql1 (by omega) | exact .eql0 (by omega) | exact .neq1 (by omega) | exact .neq0 (by omega) | exact .lss1 (by omega) | exact .lss0 (by omega) | exact .leq1 (by omega) | exact .leq0 (by omega) | exact .gtr1 (by omega) | exact .gtr0 (by omega) | exact .geq1 (by omega) | exact .geq0 (by omega) | constructor)) rfl ?_
            | refine go_do (valid_ar rfl rfl rfl rfl (by constructor) (by first | exact wr_u64 (by omega) (by omega) | exact wr_i64 (by omega) (by omega) | rfl)) rfl ?_
            | refine go_do (valid_cv rfl rfl rfl rfl rfl (by first | exact wr_u64 (by omega) (by omega) | exact wr_i64 (by omega) (by omega) | rfl)) rfl ?_
            | refine go_do (valid_quo rfl rfl rfl rfl (by omega) (by omega) (by first | exact wr_u64 (by omega) (by omega) | exact wr_i64 (by omega) (by omega))) rfl ?_
            | refine go_do (valid_rem rfl rfl rfl rfl (by omega) (by omega)) rfl ?_
            | refine go_do (valid_box rfl rfl rfl rfl rfl rfl) rfl ?_
            | refine go_do (valid_alloc rfl rfl rfl rfl rfl) rfl ?_
            | (refine nxt_s 1 rfl ?_; refine go_do (valid_store_p rfl rfl rfl rfl rfl rfl (by first | kernel_rfl | rfl) rfl) (by first | kernel_rfl | rfl) ?_)
            | refine go_do (valid_len_s rfl rfl rfl rfl) rfl ?_
            | (refine nxt_s 3 rfl ?_; refine go_do (valid_load_q tb rfl rfl rfl rfl (by first | kernel_rfl | rfl)) rfl ?_)
            | (refine nxt_s 3 rfl ?_; refine go_do (valid_fld_q tb rfl rfl rfl rfl) rfl ?_)
            | refine go_do (valid_not rfl rfl rfl) rfl ?_
            | refine go_do (valid_build rfl rfl rfl rfl) rfl ?_
            | refine go_do (valid_nil rfl rfl rfl rfl) rfl ?_
            | (refine nxt_s 4 rfl ?_; refine go_do (valid_idx_s rfl rfl rfl rfl rfl rfl (by omega) (by omega) _ (by assumption)) rfl ?_)
            | (refine nxt_s 5 rfl ?_; refine go_do (valid_store_rp rfl rfl rfl rfl rfl rfl rfl rfl rfl (by first | omega | (simp; omega)) rfl) rfl ?_)
            | (refine nxt_s 5 rfl ?_; refine go_do (valid_load_rp tb rfl rfl rfl rfl rfl rfl) rfl ?_)
            | (refine nxt_s 2 rfl ?_; refine go_do (valid_idx_o rfl rfl rfl rfl rfl rfl rfl (by omega) (by omega)) rfl ?_)
            | (refine nxt_s 1 rfl ?_; refine go_do (valid_idx_p rfl rfl rfl rfl rfl rfl (by omega) (by omega)) rfl ?_)
            | refine go_do (valid_index tb rfl rfl rfl rfl rfl rfl (by omega) (by omega) rfl) rfl ?_
            | refine go_do (valid_len_o rfl rfl rfl rfl rfl) rfl ?_
            | refine go_do (valid_len_v rfl rfl rfl rfl) rfl ?_
            | (refine nxt_s 5 rfl ?_; refine go_do (valid_fld_rp tb rfl rfl rfl rfl) rfl ?_)
            | refine go_do (valid_bslice rfl rfl rfl rfl rfl rfl rfl rfl rfl rfl rfl) rfl ?_
            | refine go_do (valid_bslice0 rfl rfl rfl rfl rfl rfl rfl) rfl ?_
            | refine go_do (valid_eqb rfl rfl rfl rfl rfl) rfl ?_
            | refine go_do (valid_neb rfl rfl rfl rfl rfl) rfl ?_
            | refine go_do (valid_call rfl rfl rfl (names0_ok f h) rfl) rfl ?_)
        | (refine hK _ ?_; clear hK K)
        | (rename_i K1 hK1; refine hK1 _ ?_; clear hK hK1; clear K)
        | (rename_i K1 hK1; refine hK1 _ ?_; clear hK1)
        | refine aw_text rfl ?_
        | refine aw_any (by kernel_rfl) (by kernel_rfl) rfl ?_
        | exact aw_ret (show resA _ _ _ = some _ by kernel_rfl)
        | refine aw_cond1 rfl rfl ?_
        | refine aw_cond0 rfl rfl ?_
        | refine aw_block ?_
        | refine aw_exit ?_
        | refine aw_skip ?_
        | refine aw_seq_k (fun K hK => ?_))
      exact ⟨1, by omega, by omega, sub_of _ _ ⟨rfl, rfl, rfl, rfl, rfl, rfl, rfl, rfl, trivial⟩ ⟨rfl, rfl, rfl, trivial⟩ rfl⟩
    · skip
      repeat (first
        | (refine go_at rfl ?_; first
            | refine go_do (valid_skip rfl) rfl ?_
            | refine go_do (valid_mv (.inl rfl) rfl) rfl ?_
            | (refine nxt_s 1 rfl ?_; refine go_do (valid_load_p tb rfl rfl rfl rfl rfl (by first | kernel_rfl | rfl)) (by first | kernel_rfl | rfl) ?_)
            | (refine nxt_s 1 rfl ?_; refine go_do (valid_fld_p tb rfl rfl rfl (by kernel_rfl)) rfl ?_)
            | refine go_do (valid_mv (.inr rfl) rfl) rfl ?_
            | refine go_do (valid_pick rfl rfl rfl) rfl ?_
            | refine go_do (valid_extract rfl rfl rfl rfl) rfl ?_
            | refine go_do (valid_field tb rfl rfl rfl rfl rfl rfl) rfl ?_
            | refine go_do (valid_cmp rfl rfl rfl rfl (by first | exact .eql1 (by omega) | exact .eql0 (by omega) | exact .neq1 (by omega) | exact .neq0 (by omega) | exact .lss1 (by omega) | exact .lss0 (by omega) | exact .leq1 (by omega) | exact .leq0 (by omega) | exact .gtr1 (by omega) | exact .gtr0 (by omega) | exact .geq1 (by omega) | exact .geq0 (by omega) | constructor)) rfl ?_
            | refine go_do (valid_ar rfl rfl rfl rfl (by constructor) (by first | exact wr_u64 (by omega) (by omega) | exact wr_i64 (by omega) (by omega) | rfl)) rfl ?_
            | refine go_do (valid_cv rfl rfl rfl rfl rfl (by first | exact wr_u64 (by omega) (by omega) | exact wr_i64 (by omega) (by omega) | rfl)) rfl ?_
            | refine go_do (valid_quo rfl rfl rfl rfl (by omega) (by omega) (by first | exact wr_u64 (by omega) (by omega) | exact wr_i64 (by omega) (by omega))) rfl ?_
            | refine go_do (valid_rem rfl rfl rfl rfl (by omega) (by omega)) rfl ?_
            | refine go_do (valid_box rfl rfl rfl rfl rfl rfl) rfl ?_
            | refine go_do (valid_alloc rfl rfl rfl rfl rfl) rfl ?_
            | (refine nxt_s 1 rfl ?_; refine go_do (valid_store_p rfl rfl rfl rfl rfl rfl (by first | kernel_rfl | rfl) rfl) (by first | kernel_rfl | rfl) ?_)
            | refine go_do (valid_len_s rfl rfl rfl rfl) rfl ?_
            | (refine nxt_s 3 rfl ?_; refine go_do (valid_load_q tb rfl rfl rfl rfl (by first | kernel_rfl | rfl)) rfl ?_)
            | (refine nxt_s 3 rfl ?_; refine go_do (valid_fld_q tb rfl rfl rfl rfl) rfl ?_)
            | refine go_do (valid_not rfl rfl rfl) rfl ?_
            | refine go_do (valid_build rfl rfl rfl rfl) rfl ?_
            | refine go_do (valid_nil rfl rfl rfl rfl) rfl ?_
            | (refine nxt_s 4 rfl ?_; refine go_do (valid_idx_s rfl rfl rfl rfl rfl rfl (by omega) (by omega) _ (by assumption)) rfl ?_)
            | (refine nxt_s 5 rfl ?_; refine go_do (valid_store_rp rfl rfl rfl rfl rfl rfl rfl rfl rfl (by first | omega | (simp; omega)) rfl) rfl ?_)
            | (refine nxt_s 5 rfl ?_; refine go_do (valid_load_rp tb rfl rfl rfl rfl rfl rfl) rfl ?_)
            | (refine nxt_s 2 rfl ?_; refine go_do (valid_idx_o rfl rfl rfl rfl rfl rfl rfl (by omega) (by omega)) rfl ?_)
            | (refine nxt_s 1 rfl ?_; refine go_do (valid_idx_p rfl rfl rfl rfl rfl rfl (by omega) (by omega)) rfl ?_)
            | refine go_do (valid_index tb rfl rfl rfl rfl rfl rfl (by omega) (by omega) rfl) rfl ?_
            | refine go_do (valid_len_o rfl rfl rfl rfl rfl) rfl ?_
            | refine go_do (valid_len_v rfl rfl rfl rfl) rfl ?_
            | (refine nxt_s 5 rfl ?_; refine go_do (valid_fld_rp tb rfl rfl rfl rfl) rfl ?_)
            | refine go_do (valid_bslice rfl rfl rfl rfl rfl rfl rfl rfl rfl rfl rfl) rfl ?_
            | refine go_do (valid_bslice0 rfl rfl rfl rfl rfl rfl rfl) rfl ?_
            | refine go_do (valid_eqb rfl rfl rfl rfl rfl) rfl ?_
            | refine go_do (valid_neb rfl rfl rfl rfl rfl) rfl ?_
            | refine go_do (valid_call rfl rfl rfl (names0_ok f h) rfl) rfl ?_)
        | (refine hK _ ?_; clear hK K)
        | (rename_i K1 hK1; refine hK1 _ ?_; clear hK hK1; clear K)
        | (rename_i K1 hK1; refine hK1 _ ?_; clear hK1)
        | refine aw_text rfl ?_
        | refine aw_any (by kernel_rfl) (by kernel_rfl) rfl ?_
        | exact aw_ret (show resA _ _ _ = some _ by kernel_rfl)
        | refine aw_cond1 rfl rfl ?_
        | refine aw_cond0 rfl rfl ?_
        | refine aw_block ?_
        | refine aw_exit ?_
        | refine aw_skip ?_
        | refine aw_seq_k (fun K hK => ?_))
      exact ⟨2, by omega, by omega, sub_of _ _ ⟨rfl, rfl, rfl, rfl, rfl, rfl, rfl, rfl, trivial⟩ ⟨rfl, rfl, rfl, trivial⟩ rfl⟩
    · skip
      repeat (first
        | (refine go_at rfl ?_; first
            | refine go_do (valid_skip rfl) rfl ?_
            | refine go_do (valid_mv (.inl rfl) rfl) rfl ?_
            | (refine nxt_s 1 rfl ?_; refine go_do (valid_load_p tb rfl rfl rfl rfl rfl (by first | kernel_rfl | rfl)) (by first | kernel_rfl | rfl) ?_)
            | (refine nxt_s 1 rfl ?_; refine go_do (valid_fld_p tb rfl rfl rfl (by kernel_rfl)) rfl ?_)
            | refine go_do (valid_mv (.inr rfl) rfl) rfl ?_
            | refine go_do (valid_pick rfl rfl rfl) rfl ?_
            | refine go_do (valid_extract rfl rfl rfl rfl) rfl ?_
            | refine go_do (valid_field tb rfl rfl rfl rfl rfl rfl) rfl ?_
            | refine go_do (valid_cmp rfl rfl rfl rfl (by first | exact .eql1 (by omega) | exact .eql0 (by omega) | exact .neq1 (by omega) | exact .neq0 (by omega) | exact .lss1 (by omega) | exact .lss0 (by omega) | exact .leq1 (by omega) | exact .leq0 (by omega) | exact .gtr1 (by omega) | exact .gtr0 (by omega) | exact .geq1 (by omega) | exact .geq0 (by omega) | constructor)) rfl ?_
            | refine go_do (valid_ar rfl rfl rfl rfl (by constructor) (by first | exact wr_u64 (by omega) (by omega) | exact wr_i64 (by omega) (by omega) | rfl)) rfl ?_
            | refine go_do (valid_cv rfl rfl rfl rfl rfl (by first | exact wr_u64 (by omega) (by omega) | exact wr_i64 (by omega) (by omega) | rfl)) rfl ?_
            | refine go_do (valid_quo rfl rfl rfl rfl (by omega) (by omega) (by first | exact wr_u64 (by omega) (by omega) | exact wr_i64 (by omega) (by omega))) rfl ?_
            | refine go_do (valid_rem rfl rfl rfl rfl (by omega) (by omega)) rfl ?_
            | refine go_do (valid_box rfl rfl rfl rfl rfl rfl) rfl ?_
            | refine go_do (valid_alloc rfl rfl rfl rfl rfl) rfl ?_
            | (refine nxt_s 1 rfl ?_; refine go_do (valid_store_p rfl rfl rfl rfl rfl rfl (by first | kernel_rfl | rfl) rfl) (by first | kernel_rfl | rfl) ?_)
            | refine go_do (valid_len_s rfl rfl rfl rfl) rfl ?_
            | (refine nxt_s 3 rfl ?_; refine go_do (valid_load_q tb rfl rfl rfl rfl (by first | kernel_rfl | rfl)) rfl ?_)
            | (refine nxt_s 3 rfl ?_; refine go_do (valid_fld_q tb rfl rfl rfl rfl) rfl ?_)
            | refine go_do (valid_not rfl rfl rfl) rfl ?_
            | refine go_do (valid_build rfl rfl rfl rfl) rfl ?_
            | refine go_do (valid_nil rfl rfl rfl rfl) rfl ?_
            | (refine nxt_s 4 rfl ?_; refine go_do (valid_idx_s rfl rfl rfl rfl rfl rfl (by omega) (by omega) _ (by assumption)) rfl ?_)
            | (refine nxt_s 5 rfl ?_; refine go_do (valid_store_rp rfl rfl rfl rfl rfl rfl rfl rfl rfl (by first | omega | (simp; omega)) rfl) rfl ?_)
            | (refine nxt_s 5 rfl ?_; refine go_do (valid_load_rp tb rfl rfl rfl rfl rfl rfl) rfl ?_)
            | (refine nxt_s 2 rfl ?_; refine go_do (valid_idx_o rfl rfl rfl rfl rfl rfl rfl (by omega) (by omega)) rfl ?_)
            | (refine nxt_s 1 rfl ?_; refine go_do (valid_idx_p rfl rfl rfl rfl rfl rfl (by omega) (by omega)) rfl ?_)
            | refine go_do (valid_index tb rfl rfl rfl rfl rfl rfl (by omega) (by omega) rfl) rfl ?_
            | refine go_do (valid_len_o rfl rfl rfl rfl rfl) rfl ?_
            | refine go_do (valid_len_v rfl rfl rfl rfl) rfl ?_
            | (refine nxt_s 5 rfl ?_; refine go_do (valid_fld_rp tb rfl rfl rfl rfl) rfl ?_)
            | refine go_do (valid_bslice rfl rfl rfl rfl rfl rfl rfl rfl rfl rfl rfl) rfl ?_
            | refine go_do (valid_bslice0 rfl rfl rfl rfl rfl rfl rfl) rfl ?_
            | refine go_do (valid_eqb rfl rfl rfl rfl rfl) rfl ?_
            | refine go_do (valid_neb rfl rfl rfl rfl rfl) rfl ?_
            | refine go_do (valid_call rfl rfl rfl (names0_ok f h) rfl) rfl ?_)
        | (refine hK _ ?_; clear hK K)
        | (rename_i K1 hK1; refine hK1 _ ?_; clear hK hK1; clear K)
        | (rename_i K1 hK1; refine hK1 _ ?_; clear hK1)
        | refine aw_text rfl ?_
        | refine aw_any (by kernel_rfl) (by kernel_rfl) rfl ?_
        | exact aw_ret (show resA _ _ _ = some _ by kernel_rfl)
        | refine aw_cond1 rfl rfl ?_
        | refine aw_cond0 rfl rfl ?_
        | refine aw_block ?_
        | refine aw_exit ?_
        | refine aw_skip ?_
        | refine aw_seq_k (fun K hK => ?_))
      exact ⟨3, by omega, by omega, sub_of _ _ ⟨rfl, rfl, rfl, rfl, rfl, rfl, rfl, rfl, trivial⟩ ⟨rfl, rfl, rfl, trivial⟩ rfl⟩
    · skip
      repeat (first
        | (refine go_at rfl ?_; first
            | refine go_do (valid_skip rfl) rfl ?_
            | refine go_do (valid_mv (.inl rfl) rfl) rfl ?_
            | (refine nxt_s 1 rfl ?_; refine go_do (valid_load_p tb rfl rfl rfl rfl rfl (by first | kernel_rfl | rfl)) (by first | kernel_rfl | rfl) ?_)
            | (refine nxt_s 1 rfl ?_; refine go_do (valid_fld_p tb rfl rfl rfl (by kernel_rfl)) rfl ?_)
            | refine go_do (valid_mv (.inr rfl) rfl) rfl ?_
            | refine go_do (valid_pick rfl rfl rfl) rfl ?_
            | refine go_do (valid_extract rfl rfl rfl rfl) rfl ?_
            | refine go_do (valid_field tb rfl rfl rfl rfl rfl rfl) rfl ?_
            | refine go_do (valid_cmp rfl rfl rfl rfl (by first | exact .eql1 (by omega) | exact .eql0 (by omega) | exact .neq1 (by omega) | exact .neq0 (by omega) | exact .lss1 (by omega) | exact .lss0 (by omega) | exact .leq1 (by omega) | exact .leq0 (by omega) | exact .gtr1 (by omega) | exact .gtr0 (by omega) | exact .geq1 (by omega) | exact .geq0 (by omega) | constructor)) rfl ?_
            | refine go_do (valid_ar rfl rfl rfl rfl (by constructor) (by first | exact wr_u64 (by omega) (by omega) | exact wr_i64 (by omega) (by omega) | rfl)) rfl ?_
            | refine go_do (valid_cv rfl rfl rfl rfl rfl (by first | exact wr_u64 (by omega) (by omega) | exact wr_i64 (by omega) (by omega) | rfl)) rfl ?_
            | refine go_do (valid_quo rfl rfl rfl rfl (by omega) (by omega) (by first | exact wr_u64 (by omega) (by omega) | exact wr_i64 (by omega) (by omega))) rfl ?_
            | refine go_do (valid_rem rfl rfl rfl rfl (by omega) (by omega)) rfl ?_
            | refine go_do (valid_box rfl rfl rfl rfl rfl rfl) rfl ?_
            | refine go_do (valid_alloc rfl rfl rfl rfl rfl) rfl ?_
            | (refine nxt_s 1 rfl ?_; refine go_do (valid_store_p rfl rfl rfl rfl rfl rfl (by first | kernel_rfl | rfl) rfl) (by first | kernel_rfl | rfl) ?_)
            | refine go_do (valid_len_s rfl rfl rfl rfl) rfl ?_
            | (refine nxt_s 3 rfl ?_; refine go_do (valid_load_q tb rfl rfl rfl rfl (by first | kernel_rfl | rfl)) rfl ?_)
            | (refine nxt_s 3 rfl ?_; refine go_do (valid_fld_q tb rfl rfl rfl rfl) rfl ?_)
            | refine go_do (valid_not rfl rfl rfl) rfl ?_
            | refine go_do (valid_build rfl rfl rfl rfl) rfl ?_
            | refine go_do (valid_nil rfl rfl rfl rfl) rfl ?_
            | (refine nxt_s 4 rfl ?_; refine go_do (valid_idx_s rfl rfl rfl rfl rfl rfl (by omega) (by omega) _ (by assumption)) rfl ?_)
            | (refine nxt_s 5 rfl ?_; refine go_do (valid_store_rp rfl rfl rfl rfl rfl rfl rfl rfl rfl (by first | omega | (simp; omega)) rfl) rfl ?_)
            | (refine nxt_s 5 rfl ?_; refine go_do (valid_load_rp tb rfl rfl rfl rfl rfl rfl) rfl ?_)
            | (refine nxt_s 2 rfl ?_; refine go_do (valid_idx_o rfl rfl rfl rfl rfl rfl rfl (by omega) (by omega)) rfl ?_)
            | (refine nxt_s 1 rfl ?_; refine go_do (valid_idx_p rfl rfl rfl rfl rfl rfl (by omega) (by omega)) rfl ?_)
            | refine go_do (valid_index tb rfl rfl rfl rfl rfl rfl (by omega) (by omega) rfl) rfl ?_
            | refine go_do (valid_len_o rfl rfl rfl rfl rfl) rfl ?_
            | refine go_do (valid_len_v rfl rfl rfl rfl) rfl ?_
            | (refine nxt_s 5 rfl ?_; refine go_do (valid_fld_rp tb rfl rfl rfl rfl) rfl ?_)
            | refine go_do (valid_bslice rfl rfl rfl rfl rfl rfl rfl rfl rfl rfl rfl) rfl ?_
            | refine go_do (valid_bslice0 rfl rfl rfl rfl rfl rfl rfl) rfl ?_
            | refine go_do (valid_eqb rfl rfl rfl rfl rfl) rfl ?_
            | refine go_do (valid_neb rfl rfl rfl rfl rfl) rfl ?_
            | refine go_do (valid_call rfl rfl rfl (names0_ok f h) rfl) rfl ?_)
        | (refine hK _ ?_; clear hK K)
        | (rename_i K1 hK1; refine hK1 _ ?_; clear hK hK1; clear K)
        | (rename_i K1 hK1; refine hK1 _ ?_; clear hK1)
        | refine aw_text rfl ?_
        | refine aw_any (by kernel_rfl) (by kernel_rfl) rfl ?_
        | exact aw_ret (show resA _ _ _ = some _ by kernel_rfl)
        | refine aw_cond1 rfl rfl ?_
        | refine aw_cond0 rfl rfl ?_
        | refine aw_block ?_
        | refine aw_exit ?_
        | refine aw_skip ?_
        | refine aw_seq_k (fun K hK => ?_))
      exact ⟨4, by omega, by omega, sub_of _ _ ⟨rfl, rfl, rfl, rfl, rfl, rfl, rfl, rfl, trivial⟩ ⟨rfl, rfl, rfl, trivial⟩ rfl⟩
    · skip
      repeat (first
        | (refine go_at rfl ?_; first
            | refine go_do (valid_skip rfl) rfl ?_
            | refine go_do (valid_mv (.inl rfl) rfl) rfl ?_
            | (refine nxt_s 1 rfl ?_; refine go_do (valid_load_p tb rfl rfl rfl rfl rfl (by first | kernel_rfl | rfl)) (by first | kernel_rfl | rfl) ?_)
            | (refine nxt_s 1 rfl ?_; refine go_do (valid_fld_p tb rfl rfl rfl (by kernel_rfl)) rfl ?_)
            | refine go_do (valid_mv (.inr rfl) rfl) rfl ?_
            | refine go_do (valid_pick rfl rfl rfl) rfl ?_
            | refine go_do (valid_extract rfl rfl rfl rfl) rfl ?_
            | refine go_do (valid_field tb rfl rfl rfl rfl rfl rfl) rfl ?_
            | refine go_do (valid_cmp rfl rfl rfl rfl (by first | exact .eql1 (by omega) | exact .eql0 (by omega) | exact .neq1 (by omega) | exact .neq0 (by omega) | exact .lss1 (by omega) | exact .lss0 (by omega) | exact .leq1 (by omega) | exact .leq0 (by omega) | exact .gtr1 (by omega) | exact .gtr0 (by omega) | exact .geq1 (by omega) | exact .geq0 (by omega) | constructor)) rfl ?_
            | refine go_do (valid_ar rfl rfl rfl rfl (by constructor) (by first | exact wr_u64 (by omega) (by omega) | exact wr_i64 (by omega) (by omega) | rfl)) rfl ?_
            | refine go_do (valid_cv rfl rfl rfl rfl rfl (by first | exact wr_u64 (by omega) (by omega) | exact wr_i64 (by omega) (by omega) | rfl)) rfl ?_
            | refine go_do (valid_quo rfl rfl rfl rfl (by omega) (by omega) (by first | exact wr_u64 (by omega) (by omega) | exact wr_i64 (by omega) (by omega))) rfl ?_
            | refine go_do (valid_rem rfl rfl rfl rfl (by omega) (by omega)) rfl ?_
            | refine go_do (valid_box rfl rfl rfl rfl rfl rfl) rfl ?_
            | refine go_do (valid_alloc rfl rfl rfl rfl rfl) rfl ?_
            | (refine nxt_s 1 rfl ?_; refine go_do (valid_store_p rfl rfl rfl rfl rfl rfl (by first | kernel_rfl | rfl) rfl) (by first | kernel_rfl | rfl) ?_)
            | refine go_do (valid_len_s rfl rfl rfl rfl) rfl ?_
            | (refine nxt_s 3 rfl ?_; refine go_do (valid_load_q tb rfl rfl rfl rfl (by first | kernel_rfl | rfl)) rfl ?_)
            | (refine nxt_s 3 rfl ?_; refine go_do (valid_fld_q tb rfl rfl rfl rfl) rfl ?_)
            | refine go_do (valid_not rfl rfl rfl) rfl ?_
            | refine go_do (valid_build rfl rfl rfl rfl) rfl ?_
            | refine go_do (valid_nil rfl rfl rfl rfl) rfl ?_
            | (refine nxt_s 4 rfl ?_; refine go_do (valid_idx_s rfl rfl rfl rfl rfl rfl (by omega) (by omega) _ (by assumption)) rfl ?_)
            | (refine nxt_s 5 rfl ?_; refine go_do (valid_store_rp rfl rfl rfl rfl rfl rfl rfl rfl rfl (by first | omega | (simp; omega)) rfl) rfl ?_)
            | (refine nxt_s 5 rfl ?_; refine go_do (valid_load_rp tb rfl rfl rfl rfl rfl rfl) rfl ?_)
            | (refine nxt_s 2 rfl ?_; refine go_do (valid_idx_o rfl rfl rfl rfl rfl rfl rfl (by omega) (by omega)) rfl ?_)
            | (refine nxt_s 1 rfl ?_; refine go_do (valid_idx_p rfl rfl rfl rfl rfl rfl (by omega) (by omega)) rfl ?_)
            | refine go_do (valid_index tb rfl rfl rfl rfl rfl rfl (by omega) (by omega) rfl) rfl ?_
            | refine go_do (valid_len_o rfl rfl rfl rfl rfl) rfl ?_
            | refine go_do (valid_len_v rfl rfl rfl rfl) rfl ?_
            | (refine nxt_s 5 rfl ?_; refine go_do (valid_fld_rp tb rfl rfl rfl rfl) rfl ?_)
            | refine go_do (valid_bslice rfl rfl rfl rfl rfl rfl rfl rfl rfl rfl rfl) rfl ?_
            | refine go_do (valid_bslice0 rfl rfl rfl rfl rfl rfl rfl) rfl ?_
            | refine go_do (valid_eqb rfl rfl rfl rfl rfl) rfl ?_
            | refine go_do (valid_neb rfl rfl rfl rfl rfl) rfl ?_)
        | (refine hK _ ?_; clear hK K)
        | (rename_i K1 hK1; refine hK1 _ ?_; clear hK hK1; clear K)
        | (rename_i K1 hK1; refine hK1 _ ?_; clear hK1)
        | refine aw_text rfl ?_
        | refine aw_any (by kernel_rfl) (by kernel_rfl) rfl ?_
        | exact aw_ret (show resA _ _ _ = some _ by kernel_rfl)
        | refine aw_cond1 rfl rfl ?_
        | refine aw_cond0 rfl rfl ?_
        | refine aw_block ?_
        | refine aw_exit ?_
        | refine aw_skip ?_
        | refine aw_seq_k (fun K hK => ?_))
      exact ⟨k + 1, by omega, by omega, sub_of _ _ ⟨rfl, rfl, rfl, rfl, rfl, rfl, trivial⟩ ⟨rfl, rfl, rfl, trivial⟩ rfl⟩
  · skip
    repeat (first
      | (refine go_at rfl ?_; first
          | refine go_do (valid_skip rfl) rfl ?_
          | refine go_do (valid_mv (.inl rfl) rfl) rfl ?_
          | (refine nxt_s 1 rfl ?_; refine go_do (valid_load_p tb rfl rfl rfl rfl rfl (by first | kernel_rfl | rfl)) (by first | kernel_rfl | rfl) ?_)
          | (refine nxt_s 1 rfl ?_; refine go_do (valid_fld_p tb rfl rfl rfl (by kernel_rfl)) rfl ?_)
          | refine go_do (valid_mv (.inr rfl) rfl) rfl ?_
          | refine go_do (valid_pick rfl rfl rfl) rfl ?_
          | refine go_do (valid_extract rfl rfl rfl rfl) rfl ?_
          | refine go_do (valid_field tb rfl rfl rfl rfl rfl rfl) rfl ?_
          | refine go_do (valid_cmp rfl rfl rfl rfl (by first | exact .eql1 (by omega) | exact .eql0 (by omega) | exact .neq1 (by omega) | exact .neq0 (by omega) | exact .lss1 (by omega) | exact .lss0 (by omega) | exact .leq1 (by omega) | exact .leq0 (by omega) | exact .gtr1 (by omega) | exact .gtr0 (by omega) | exact .geq1 (by omega) | exact .geq0 (by omega) | constructor)) rfl ?_
          | refine go_do (valid_ar rfl rfl rfl rfl (by constructor) (by first | exact wr_u64 (by omega) (by omega) | exact wr_i64 (by omega) (by omega) | rfl)) rfl ?_
          | refine go_do (valid_cv rfl rfl rfl rfl rfl (by first | exact wr_u64 (by omega) (by omega) | exact wr_i64 (by omega) (by omega) | rfl)) rfl ?_
          | refine go_do (valid_quo rfl rfl rfl rfl (by omega) (by omega) (by first | exact wr_u64 (by omega) (by omega) | exact wr_i64 (by omega) (by omega))) rfl ?_
          | refine go_do (valid_rem rfl rfl rfl rfl (by omega) (by omega)) rfl ?_
          | refine go_do (valid_box rfl rfl rfl rfl rfl rfl) rfl ?_
          | refine go_do (valid_alloc rfl rfl rfl rfl rfl) rfl ?_
          | (refine nxt_s 1 rfl ?_; refine go_do (valid_store_p rfl rfl rfl rfl rfl rfl (by first | kernel_rfl | rfl) rfl) (by first | kernel_rfl | rfl) ?_)
          | refine go_do (valid_len_s rfl rfl rfl rfl) rfl ?_
          | (refine nxt_s 3 rfl ?_; refine go_do (valid_load_q tb rfl rfl rfl rfl (by first | kernel_rfl | rfl)) rfl ?_)
          | (refine nxt_s 3 rfl ?_; refine go_do (valid_fld_q tb rfl rfl rfl rfl) rfl ?_)
          | refine go_do (valid_not rfl rfl rfl) rfl ?_
          | refine go_do (valid_build rfl rfl rfl rfl) rfl ?_
          | refine go_do (valid_nil rfl rfl rfl rfl) rfl ?_
          | (refine nxt_s 4 rfl ?_; refine go_do (valid_idx_s rfl rfl rfl rfl rfl rfl (by omega) (by omega) _ (by assumption)) rfl ?_)
          | (refine nxt_s 5 rfl ?_; refine go_do (valid_store_rp rfl rfl rfl rfl rfl rfl rfl rfl rfl (by first | omega | (simp; omega)) rfl) rfl ?_)
          | (refine nxt_s 5 rfl ?_; refine go_do (valid_load_rp tb rfl rfl rfl rfl rfl rfl) rfl ?_)
          | (refine nxt_s 2 rfl ?_; refine go_do (valid_idx_o rfl rfl rfl rfl rfl rfl rfl (by omega) (by omega)) rfl ?_)
          | (refine nxt_s 1 rfl ?_; refine go_do (valid_idx_p rfl rfl rfl rfl rfl rfl (by omega) (by omega)) rfl ?_)
          | refine go_do (valid_index tb rfl rfl rfl rfl rfl rfl (by omega) (by omega) rfl) rfl ?_
          | refine go_do (valid_len_o rfl rfl rfl rfl rfl) rfl ?_
          | refine go_do (valid_len_v rfl rfl rfl rfl) rfl ?_
          | (refine nxt_s 5 rfl ?_; refine go_do (valid_fld_rp tb rfl rfl rfl rfl) rfl ?_)
          | refine go_do (valid_bslice rfl rfl rfl rfl rfl rfl rfl rfl rfl rfl rfl) rfl ?_
          | refine go_do (valid_bslice0 rfl rfl rfl rfl rfl rfl rfl) rfl ?_
          | refine go_do (valid_eqb rfl rfl rfl rfl rfl) rfl ?_
          | refine go_do (valid_neb rfl rfl rfl rfl rfl) rfl ?_
          | refine go_do (valid_app_e rfl rfl rfl rfl rfl rfl rfl rfl rfl rfl rfl rfl (zsL_one n) (by omega)) rfl ?_)
      | (refine hK _ ?_; clear hK K)
      | (rename_i K1 hK1; refine hK1 _ ?_; clear hK hK1; clear K)
      | (rename_i K1 hK1; refine hK1 _ ?_; clear hK1)
      | refine aw_text rfl ?_
      | refine aw_any (by kernel_rfl) (by kernel_rfl) rfl ?_
      | exact aw_ret (show resA _ _ _ = some _ by kernel_rfl)
      | refine aw_cond1 rfl rfl ?_
      | refine aw_cond0 rfl rfl ?_
      | refine aw_block ?_
      | refine aw_exit ?_
      | refine aw_skip ?_
      | refine aw_seq_k (fun K hK => ?_))
theorem flF_one (l : List Fe) : (flF l).all (·.oneCell') = true := by
  rw [List.all_eq_true]
  intro v hv
  obtain ⟨f, _, hv⟩ := List.mem_flatMap.1 hv
  exact List.all_eq_true.1 (show f.vs.all (·.oneCell') = true from rfl) v hv
theorem flF_at {l : List Fe} {k : Nat} {f : Fe} (h : l[k]? = some f) : ((flF l).drop (k * 4)).take 4 = [.bool f.ha, .int .u64 f.ad, .bool f.hs, .int .u64 f.sn] := flat_at Fe.vs 4 (fun _ => rfl) l _ f h
theorem all0_ok (l : List Fe) (h : ∀ f ∈ l, U f.ad) (hl : l.length ≤ 1000000) (n : Nat) (hn : n ≤ 16) : Ok 25 [.ag [.s n 45 (zsL n)], .c (.s l.length 4 (flF l))] (.m (.ag [.s n 45 (zsL n)])) := by
  refine callOk_of 23 Tryd.func25 rfl rfl rfl rfl ?_ GG.to
  intro W A hG
  repeat (first
    | (refine go_at rfl ?_; first
        | refine go_do (valid_skip rfl) rfl ?_
        | refine go_do (valid_mv (.inl rfl) rfl) rfl ?_
        | (refine nxt_s 1 rfl ?_; refine go_do (valid_load_p tb rfl rfl rfl rfl rfl (by first | kernel_rfl | rfl)) (by first | kernel_rfl | rfl) ?_)
        | (refine nxt_s 1 rfl ?_; refine go_do (valid_fld_p tb rfl rfl rfl (by kernel_rfl)) rfl ?_)
        | refine go_do (valid_mv (.inr rfl) rfl) rfl ?_
        | refine go_do (valid_pick rfl rfl rfl) rfl ?_
        | refine go_do (valid_extract rfl rfl rfl rfl) rfl ?_
        | refine go_do (valid_field tb rfl rfl rfl rfl rfl rfl) rfl ?_
        | refine go_do (valid_cmp rfl rfl rfl rfl (by first | exact .eql1 (by omega) | exact .eql0 (by omega) | exact .neq1 (by omega) | exact .neq0 (by omega) | exact .lss1 (by omega) | exact .lss0 (by omega) | exact .leq1 (by omega) | exact .leq0 (by omega) | exact .gtr1 (by omega) | exact .gtr0 (by omega) | exact .geq1 (by omega) | exact .geq0 (by omega) | constructor)) rfl ?_
        | refine go_do (valid_ar rfl rfl rfl rfl (by constructor) (by first | exact wr_u64 (by omega) (by omega) | exact wr_i64 (by omega) (by omega) | rfl)) rfl ?_
        | refine go_do (valid_cv rfl rfl rfl rfl rfl (by first | exact wr_u64 (by omega) (by omega) | exact wr_i64 (by omega) (by omega) | rfl)) rfl ?_
        | refine go_do (valid_quo rfl rfl rfl rfl (by omega) (by omega) (by first | exact wr_u64 (by omega) (by omega) | exact wr_i64 (by omega) (by omega))) rfl ?_
        | refine go_do (valid_rem rfl rfl rfl rfl (by omega) (by omega)) rfl ?_
        | refine go_do (valid_box rfl rfl rfl rfl rfl rfl) rfl ?_
        | refine go_do (valid_alloc rfl rfl rfl rfl rfl) rfl ?_
        | (refine nxt_s 1 rfl ?_; refine go_do (valid_store_p rfl rfl rfl rfl rfl rfl (by first | kernel_rfl | rfl) rfl) (by first | kernel_rfl | rfl) ?_)
        | refine go_do (valid_len_s rfl rfl rfl rfl) rfl ?_
        | (refine nxt_s 3 rfl ?_; refine go_do (valid_load_q tb rfl rfl rfl rfl (by first | kernel_rfl | rfl)) rfl ?_)
        | (refine nxt_s 3 rfl ?_; refine go_do (valid_fld_q tb rfl rfl rfl rfl) rfl ?_)
        | refine go_do (valid_not rfl rfl rfl) rfl ?_
        | refine go_do (valid_build rfl rfl rfl rfl) rfl ?_
        | refine go_do (valid_nil rfl rfl rfl rfl) rfl ?_
        | (refine nxt_s 4 rfl ?_; refine go_do (valid_idx_s rfl rfl rfl rfl rfl rfl (by omega) (by omega) _ (by assumption)) rfl ?_)
        | (refine nxt_s 5 rfl ?_; refine go_do (valid_store_rp rfl rfl rfl rfl rfl rfl rfl rfl rfl (by first | omega | (simp; omega)) rfl) rfl ?_)
        | (refine nxt_s 5 rfl ?_; refine go_do (valid_load_rp tb rfl rfl rfl rfl rfl rfl) rfl ?_)
        | (refine nxt_s 2 rfl ?_; refine go_do (valid_idx_o rfl rfl rfl rfl rfl rfl rfl (by omega) (by omega)) rfl ?_)
        | (refine nxt_s 1 rfl ?_; refine go_do (valid_idx_p rfl rfl rfl rfl rfl rfl (by omega) (by omega)) rfl ?_)
        | refine go_do (valid_index tb rfl rfl rfl rfl rfl rfl (by omega) (by omega) rfl) rfl ?_
        | refine go_do (valid_len_o rfl rfl rfl rfl rfl) rfl ?_
        | refine go_do (valid_len_v rfl rfl rfl rfl) rfl ?_
        | (refine nxt_s 5 rfl ?_; refine go_do (valid_fld_rp tb rfl rfl rfl rfl) rfl ?_)
        | refine go_do (valid_bslice rfl rfl rfl rfl rfl rfl rfl rfl rfl rfl rfl) rfl ?_
        | refine go_do (valid_bslice0 rfl rfl rfl rfl rfl rfl rfl) rfl ?_
        | refine go_do (valid_eqb rfl rfl rfl rfl rfl) rfl ?_
        | refine go_do (valid_neb rfl rfl rfl rfl rfl) rfl ?_
        | refine go_do (valid_app_e rfl rfl rfl rfl rfl rfl rfl rfl rfl rfl rfl rfl (zsL_one n) (by omega)) rfl ?_)
    | (refine hK _ ?_; clear hK K)
    | (rename_i K1 hK1; refine hK1 _ ?_; clear hK hK1; clear K)
    | (rename_i K1 hK1; refine hK1 _ ?_; clear hK1)
    | refine aw_text rfl ?_
    | refine aw_any (by kernel_rfl) (by kernel_rfl) rfl ?_
    | exact aw_ret (show resA _ _ _ = some _ by kernel_rfl)
    | refine aw_cond1 rfl rfl ?_
    | refine aw_cond0 rfl rfl ?_
    | refine aw_block ?_
    | refine aw_exit ?_
    | refine aw_skip ?_
    | refine aw_seq_k (fun K hK => ?_))
  refine aw_loopH (α := Nat) (fun k => k ≤ l.length) (fun k => St.of [(2, .m (.c (.p 2 0))), (4, .m (.c (.p 4 0))), (12, .m (.c (.s l.length 4 (flF l)))), (13, .m (ii l.length)), (14, .m (ii k))] [(2, .live (.box [.s n 45 (zsL n)])), (4, .live (.box [.v (.slice none 0 0)]))]) (fun k => l.length - k) 0 (by omega) (Sub.trans (sub_fr (b := 10) rfl) (sub_of _ _ ⟨rfl, rfl, rfl, rfl, rfl, trivial⟩ ⟨rfl, rfl, trivial⟩ rfl)) ?_
  intro k hk
  by_cases hlt : k < l.length
  · obtain ⟨f, hf⟩ : ∃ f, l[k]? = some f := ⟨_, List.getElem?_eq_getElem hlt⟩
    have hx := flF_at hf
    repeat (first
      | (refine go_at rfl ?_; first
          | refine go_do (valid_skip rfl) rfl ?_
          | refine go_do (valid_mv (.inl rfl) rfl) rfl ?_
          | (refine nxt_s 1 rfl ?_; refine go_do (valid_load_p tb rfl rfl rfl rfl rfl (by first | kernel_rfl | rfl)) (by first | kernel_rfl | rfl) ?_)
          | (refine nxt_s 1 rfl ?_; refine go_do (valid_fld_p tb rfl rfl rfl (by kernel_rfl)) rfl ?_)
          | refine go_do (valid_mv (.inr rfl) rfl) rfl ?_
          | refine go_do (valid_pick rfl rfl rfl) rfl ?_
          | refine go_do (valid_extract rfl rfl rfl rfl) rfl ?_
          | refine go_do (valid_field tb rfl rfl rfl rfl rfl rfl) rfl ?_
          | refine go_do (valid_cmp rfl rfl rfl rfl (by first | exact .eql1 (by omega) | exact .eql0 (by omega) | exact .neq1 (by omega) | exact .neq0 (by omega) | exact .lss1 (by omega) | exact .lss0 (by omega) | exact .leq1 (by omega) | exact .leq0 (by omega) | exact .gtr1 (by omega) | exact .gtr0 (by omega) | exact .geq1 (by omega) | exact .geq0 (by omega) | constructor)) rfl ?_
          | refine go_do (valid_ar rfl rfl rfl rfl (by constructor) (by first | exact wr_u64 (by omega) (by omega) | exact wr_i64 (by omega) (by omega) | rfl)) rfl ?_
          | refine go_do (valid_cv rfl rfl rfl rfl rfl (by first | exact wr_u64 (by omega) (by omega) | exact wr_i64 (by omega) (by omega) | rfl)) rfl ?_
          | refine go_do (valid_quo rfl rfl rfl rfl (by omega) (by omega) (by first | exact wr_u64 (by omega) (by omega) | exact wr_i64 (by omega) (by omega))) rfl ?_
          | refine go_do (valid_rem rfl rfl rfl rfl (by omega) (by omega)) rfl ?_
          | refine go_do (valid_box rfl rfl rfl rfl rfl rfl) rfl ?_
          | refine go_do (valid_alloc rfl rfl rfl rfl rfl) rfl ?_
          | (refine nxt_s 1 rfl ?_; refine go_do (valid_store_p rfl rfl rfl rfl rfl rfl (by first | kernel_rfl | rfl) rfl) (by first | kernel_rfl | rfl) ?_)
          | refine go_do (valid_len_s rfl rfl rfl rfl) rfl ?_
          | (refine nxt_s 3 rfl ?_; refine go_do (valid_load_q tb rfl rfl rfl rfl (by first | kernel_rfl | rfl)) rfl ?_)
          | (refine nxt_s 3 rfl ?_; refine go_do (valid_fld_q tb rfl rfl rfl rfl) rfl ?_)
          | refine go_do (valid_not rfl rfl rfl) rfl ?_
          | refine go_do (valid_build rfl rfl rfl rfl) rfl ?_
          | refine go_do (valid_nil rfl rfl rfl rfl) rfl ?_
          | (refine nxt_s 4 rfl ?_; refine go_do (valid_idx_s rfl rfl rfl rfl rfl rfl (by omega) (by omega) _ (by assumption)) rfl ?_)
          | (refine nxt_s 5 rfl ?_; refine go_do (valid_store_rp rfl rfl rfl rfl rfl rfl rfl rfl rfl (by first | omega | (simp; omega)) rfl) rfl ?_)
          | (refine nxt_s 5 rfl ?_; refine go_do (valid_load_rp tb rfl rfl rfl rfl rfl rfl) rfl ?_)
          | (refine nxt_s 2 rfl ?_; refine go_do (valid_idx_o rfl rfl rfl rfl rfl rfl rfl (by omega) (by omega)) rfl ?_)
          | (refine nxt_s 1 rfl ?_; refine go_do (valid_idx_p rfl rfl rfl rfl rfl rfl (by omega) (by omega)) rfl ?_)
          | refine go_do (valid_index tb rfl rfl rfl rfl rfl rfl (by omega) (by omega) rfl) rfl ?_
          | refine go_do (valid_len_o rfl rfl rfl rfl rfl) rfl ?_
          | refine go_do (valid_len_v rfl rfl rfl rfl) rfl ?_
          | (refine nxt_s 5 rfl ?_; refine go_do (valid_fld_rp tb rfl rfl rfl rfl) rfl ?_)
          | refine go_do (valid_bslice rfl rfl rfl rfl rfl rfl rfl rfl rfl rfl rfl) rfl ?_
          | refine go_do (valid_bslice0 rfl rfl rfl rfl rfl rfl rfl) rfl ?_
          | refine go_do (valid_eqb rfl rfl rfl rfl rfl) rfl ?_
          | refine go_do (valid_neb rfl rfl rfl rfl rfl) rfl ?_
          | refine go_do (valid_call rfl rfl rfl (do0_ok f (h f (List.mem_of_getElem? hf)) n hn) rfl) rfl ?_)
      | (refine hK _ ?_; clear hK K)
      | (rename_i K1 hK1; refine hK1 _ ?_; clear hK hK1; clear K)
      | (rename_i K1 hK1; refine hK1 _ ?_; clear hK1)
      | refine aw_text rfl ?_
      | refine aw_any (by kernel_rfl) (by kernel_rfl) rfl ?_
      | exact aw_ret (show resA _ _ _ = some _ by kernel_rfl)
      | refine aw_cond1 rfl rfl ?_
      | refine aw_cond0 rfl rfl ?_
      | refine aw_block ?_
      | refine aw_exit ?_
      | refine aw_skip ?_
      | refine aw_seq_k (fun K hK => ?_))
    exact ⟨k + 1, by omega, by omega, sub_of _ _ ⟨rfl, rfl, rfl, rfl, rfl, trivial⟩ ⟨rfl, rfl, trivial⟩ rfl⟩
  · skip
    repeat (first
      | (refine go_at rfl ?_; first
          | refine go_do (valid_skip rfl) rfl ?_
          | refine go_do (valid_mv (.inl rfl) rfl) rfl ?_
          | (refine nxt_s 1 rfl ?_; refine go_do (valid_load_p tb rfl rfl rfl rfl rfl (by first | kernel_rfl | rfl)) (by first | kernel_rfl | rfl) ?_)
          | (refine nxt_s 1 rfl ?_; refine go_do (valid_fld_p tb rfl rfl rfl (by kernel_rfl)) rfl ?_)
          | refine go_do (valid_mv (.inr rfl) rfl) rfl ?_
          | refine go_do (valid_pick rfl rfl rfl) rfl ?_
          | refine go_do (valid_extract rfl rfl rfl rfl) rfl ?_
          | refine go_do (valid_field tb rfl rfl rfl rfl rfl rfl) rfl ?_
          | refine go_do (valid_cmp rfl rfl rfl rfl (by first | exact .eql1 (by omega) | exact .eql0 (by omega) | exact .neq1 (by omega) | exact .neq0 (by omega) | exact .lss1 (by omega) | exact .lss0 (by omega) | exact .leq1 (by omega) | exact .leq0 (by omega) | exact .gtr1 (by omega) | exact .gtr0 (by omega) | exact .geq1 (by omega) | exact .geq0 (by omega) | constructor)) rfl ?_
          | refine go_do (valid_ar rfl rfl rfl rfl (by constructor) (by first | exact wr_u64 (by omega) (by omega) | exact wr_i64 (by omega) (by omega) | rfl)) rfl ?_
          | refine go_do (valid_cv rfl rfl rfl rfl rfl (by first | exact wr_u64 (by omega) (by omega) | exact wr_i64 (by omega) (by omega) | rfl)) rfl ?_
          | refine go_do (valid_quo rfl rfl rfl rfl (by omega) (by omega) (by first | exact wr_u64 (by omega) (by omega) | exact wr_i64 (by omega) (by omega))) rfl ?_
          | refine go_do (valid_rem rfl rfl rfl rfl (by omega) (by omega)) rfl ?_
          | refine go_do (valid_box rfl rfl rfl rfl rfl rfl) rfl ?_
          | refine go_do (valid_alloc rfl rfl rfl rfl rfl) rfl ?_
          | (refine nxt_s 1 rfl ?_; refine go_do (valid_store_p rfl rfl rfl rfl rfl rfl (by first | kernel_rfl | rfl) rfl) (by first | kernel_rfl | rfl) ?_)
          | refine go_do (valid_len_s rfl rfl rfl rfl) rfl ?_
          | (refine nxt_s 3 rfl ?_; refine go_do (valid_load_q tb rfl rfl rfl rfl (by first | kernel_rfl | rfl)) rfl ?_)
          | (refine nxt_s 3 rfl ?_; refine go_do (valid_fld_q tb rfl rfl rfl rfl) rfl ?_)
          | refine go_do (valid_not rfl rfl rfl) rfl ?_
          | refine go_do (valid_build rfl rfl rfl rfl) rfl ?_
          | refine go_do (valid_nil rfl rfl rfl rfl) rfl ?_
          | (refine nxt_s 4 rfl ?_; refine go_do (valid_idx_s rfl rfl rfl rfl rfl rfl (by omega) (by omega) _ (by assumption)) rfl ?_)
          | (refine nxt_s 5 rfl ?_; refine go_do (valid_store_rp rfl rfl rfl rfl rfl rfl rfl rfl rfl (by first | omega | (simp; omega)) rfl) rfl ?_)
          | (refine nxt_s 5 rfl ?_; refine go_do (valid_load_rp tb rfl rfl rfl rfl rfl rfl) rfl ?_)
          | (refine nxt_s 2 rfl ?_; refine go_do (valid_idx_o rfl rfl rfl rfl rfl rfl rfl (by omega) (by omega)) rfl ?_)
          | (refine nxt_s 1 rfl ?_; refine go_do (valid_idx_p rfl rfl rfl rfl rfl rfl (by omega) (by omega)) rfl ?_)
          | refine go_do (valid_index tb rfl rfl rfl rfl rfl rfl (by omega) (by omega) rfl) rfl ?_
          | refine go_do (valid_len_o rfl rfl rfl rfl rfl) rfl ?_
          | refine go_do (valid_len_v rfl rfl rfl rfl) rfl ?_
          | (refine nxt_s 5 rfl ?_; refine go_do (valid_fld_rp tb rfl rfl rfl rfl) rfl ?_)
          | refine go_do (valid_bslice rfl rfl rfl rfl rfl rfl rfl rfl rfl rfl rfl) rfl ?_
          | refine go_do (valid_bslice0 rfl rfl rfl rfl rfl rfl rfl) rfl ?_
          | refine go_do (valid_eqb rfl rfl rfl rfl rfl) rfl ?_
          | refine go_do (valid_neb rfl rfl rfl rfl rfl) rfl ?_)
      | (refine hK _ ?_; clear hK K)
      | (rename_i K1 hK1; refine hK1 _ ?_; clear hK hK1; clear K)
      | (rename_i K1 hK1; refine hK1 _ ?_; clear hK1)
      | refine aw_text rfl ?_
      | refine aw_any (by kernel_rfl) (by kernel_rfl) rfl ?_
      | exact aw_ret (show resA _ _ _ = some _ by kernel_rfl)
      | refine aw_cond1 rfl rfl ?_
      | refine aw_cond0 rfl rfl ?_
      | refine aw_block ?_
      | refine aw_exit ?_
      | refine aw_skip ?_
      | refine aw_seq_k (fun K hK => ?_))
end Go.Proofs.YtkffmaeiplgjeaaDoor.SpD
