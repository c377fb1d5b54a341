/- Texts of this claim, one behind the other: SpQ, Open, Laid, AxQ. -/
import Derived.Test.YtkffmaeiplgjeaaDoorM21
import Derived.Test.YtkffmaeiplgjeaaDoorM6
import Derived.ProofKit
import Derived.Carry
import Derived.ChangeOld
import Derived.ChangeArms
import Derived.WideShapes
import Derived.Test.YtkffmaeiplgjeaaDoorRows
import Derived.LaidMore
import Derived.Lib.LaidTab
import Derived.SevenTiedAt
import Derived.LaidHandle
import Derived.Deep.SlicePairs
import Derived.Test.YtkffmaeiplgjeaaDoorM15
/- The abstract walk: the law SpaceKeeps. -/
namespace Go.Proofs.YtkffmaeiplgjeaaDoor.SpQ
open Go.RowKit Go.Proofs.YtkffmaeiplgjeaaDoor.Bv Go.Proofs.YtkffmaeiplgjeaaDoor.VaSpec Go.Proofs.YtkffmaeiplgjeaaDoor.Base Go.Proofs.YtkffmaeiplgjeaaDoor.MemL Go.Proofs.YtkffmaeiplgjeaaDoor.RegR Go.Proofs.YtkffmaeiplgjeaaDoor.Ax Go.Proofs.YtkffmaeiplgjeaaDoor.MemC Go.Proofs.YtkffmaeiplgjeaaDoor.PutC Go.Proofs.YtkffmaeiplgjeaaDoor.MemC3 Go.Proofs.YtkffmaeiplgjeaaDoor.TzC Go.Proofs.YtkffmaeiplgjeaaDoor.OkS Go.Proofs.YtkffmaeiplgjeaaDoor.SpA Go.Proofs.YtkffmaeiplgjeaaDoor.SpB Go.Proofs.YtkffmaeiplgjeaaDoor.SpC Go.Proofs.YtkffmaeiplgjeaaDoor.SpD Go.Proofs.YtkffmaeiplgjeaaDoor.IterC Go.Proofs.YtkffmaeiplgjeaaDoor.SpE Go.Proofs.YtkffmaeiplgjeaaDoor.SpF Go.Proofs.YtkffmaeiplgjeaaDoor.SpG Go.Proofs.YtkffmaeiplgjeaaDoor.SpH Go.Proofs.YtkffmaeiplgjeaaDoor.SpI Go.Proofs.YtkffmaeiplgjeaaDoor.SpJ Go.Proofs.YtkffmaeiplgjeaaDoor.SpK Go.Proofs.YtkffmaeiplgjeaaDoor.SpN Go.Proofs.YtkffmaeiplgjeaaDoor.SpO Go.Proofs.YtkffmaeiplgjeaaDoor.SpP
open Go.Proofs.YtkffmaeiplgjeaaDoor.BitsC Go.Proofs.YtkffmaeiplgjeaaDoor.PteSpec
set_option linter.unusedVariables false
set_option linter.unusedSimpArgs false
set_option maxRecDepth 10000
set_option maxHeartbeats 800000
attribute [local irreducible] Go.Proofs.YtkffmaeiplgjeaaDoor.Ax.CallOk
def flD (l : List (Int × Int)) : List Value := l.flatMap fun d => [.int .u8 d.1, .int .u8 d.2]
theorem flD_at {l : List (Int × Int)} {k : Nat} {c : Int × Int} (h : l[k]? = some c) : ((flD l).drop (k * 2)).take 2 = [.int .u8 c.1, .int .u8 c.2] := flat_at (fun c : Int × Int => [.int .u8 c.1, .int .u8 c.2]) 2 (fun _ => rfl) l _ c h
def D8 (d : Int × Int) : Prop := (0 ≤ d.1 ∧ d.1 < 256) ∧ (0 ≤ d.2 ∧ d.2 < 256)
def keepsH (l : List (Int × Int)) (e : Int × Int) (i : Nat) (k : Kr) : St := St.of [(1, .m (.c (.s l.length 2 (flD l)))), (5, .m (.c (.p 5 0))), (7, .m (.c (.p 7 0))), (9, .m (ii i))] [(5, .live (.box [i8 e.1, i8 e.2])), (7, .live (.box k.ce))]
theorem keeps_ok (a b c d : Int) (l : List (Int × Int)) (e : Int × Int) (hl : ∀ x ∈ l, D8 x) (he : D8 e) : Ok 4 [confA a b c d, .c (.s l.length 2 (flD l)), .ag [i8 e.1, i8 e.2]] (.m (ib true)) := by
  have hm := rmay_ok a b c d
  cases hc : confB a b c d with
  | false =>
    rw [hc] at hm
    refine callOk_of 57 Tryd.func4 rfl rfl rfl rfl ?_ GG.to
    intro W A hG
    repeat (first
      | (refine go_at rfl ?_; first
          | refine go_do (valid_skip rfl) rfl ?_
          | refine go_do (valid_mv (.inl rfl) rfl) rfl ?_
          | (refine nxt_s 1 rfl ?_; refine go_do (valid_load_p tb rfl rfl rfl rfl rfl (by first | kernel_rfl | rfl)) (by first | kernel_rfl | rfl) ?_)
          | (refine nxt_s 1 rfl ?_; refine go_do (valid_fld_p tb rfl rfl rfl (by kernel_rfl)) rfl ?_)
          | refine go_do (valid_mv (.inr rfl) rfl) rfl ?_
          | refine go_do (valid_pick rfl rfl rfl) rfl ?_
          | refine go_do (valid_extract rfl rfl rfl rfl) rfl ?_
          | refine go_do (valid_field tb rfl rfl rfl rfl rfl rfl) rfl ?_
          | refine go_do (valid_cmp rfl rfl rfl rfl (by first | exact .eql1 (by omega) | exact .eql0 (by omega) | exact .neq1 (by omega) | exact .neq0 (by omega) | exact .lss1 (by omega) | exact .lss0 (by omega) | exact .leq1 (by omega) | exact .leq0 (by omega) | exact .gtr1 (by omega) | exact .gtr0 (by omega) | exact .geq1 (by omega) | exact .geq0 (by omega) | constructor)) rfl ?_
          | refine go_do (valid_ar rfl rfl rfl rfl (by constructor) (by first | exact wr_u64 (by omega) (by omega) | exact wr_i64 (by omega) (by omega) | rfl)) rfl ?_
          | refine go_do (valid_cv rfl rfl rfl rfl rfl (by first | exact wr_u64 (by omega) (by omega) | exact wr_i64 (by omega) (by omega) | rfl)) rfl ?_
          | refine go_do (valid_quo rfl rfl rfl rfl (by omega) (by omega) (by first | exact wr_u64 (by omega) (by omega) | exact wr_i64 (by omega) (by omega))) rfl ?_
          | refine go_do (valid_rem rfl rfl rfl rfl (by omega) (by omega)) rfl ?_
          | refine go_do (valid_box rfl rfl rfl rfl rfl rfl) rfl ?_
          | refine go_do (valid_alloc rfl rfl rfl rfl rfl) rfl ?_
          | (refine nxt_s 1 rfl ?_; refine go_do (valid_store_p rfl rfl rfl rfl rfl rfl (by first | kernel_rfl | rfl) rfl) (by first | kernel_rfl | rfl) ?_)
          | refine go_do (valid_len_s rfl rfl rfl rfl) rfl ?_
          | (refine nxt_s 3 rfl ?_; refine go_do (valid_load_q tb rfl rfl rfl rfl (by first | kernel_rfl | rfl)) rfl ?_)
          | (refine nxt_s 3 rfl ?_; refine go_do (valid_fld_q tb rfl rfl rfl rfl) rfl ?_)
          | refine go_do (valid_not rfl rfl rfl) rfl ?_
          | refine go_do (valid_build rfl rfl rfl rfl) rfl ?_
          | refine go_do (valid_nil rfl rfl rfl rfl) rfl ?_
          | (refine nxt_s 4 rfl ?_; refine go_do (valid_idx_s rfl rfl rfl rfl rfl rfl (by omega) (by omega) _ (by assumption)) rfl ?_)
          | (refine nxt_s 5 rfl ?_; refine go_do (valid_store_rp rfl rfl rfl rfl rfl rfl rfl rfl rfl (by first | omega | (simp; omega)) rfl) rfl ?_)
          | (refine nxt_s 5 rfl ?_; refine go_do (valid_load_rp tb rfl rfl rfl rfl rfl rfl) rfl ?_)
          | (refine nxt_s 2 rfl ?_; refine go_do (valid_idx_o rfl rfl rfl rfl rfl rfl rfl (by omega) (by omega)) rfl ?_)
          | (refine nxt_s 1 rfl ?_; refine go_do (valid_idx_p rfl rfl rfl rfl rfl rfl (by omega) (by omega)) rfl ?_)
          | refine go_do (valid_index tb rfl rfl rfl rfl rfl rfl (by omega) (by omega) rfl) rfl ?_
          | refine go_do (valid_len_o rfl rfl rfl rfl rfl) rfl ?_
          | refine go_do (valid_len_v rfl rfl rfl rfl) rfl ?_
          | (refine nxt_s 5 rfl ?_; refine go_do (valid_fld_rp tb rfl rfl rfl rfl) rfl ?_)
          | refine go_do (valid_bslice rfl rfl rfl rfl rfl rfl rfl rfl rfl rfl rfl) rfl ?_
          | refine go_do (valid_bslice0 rfl rfl rfl rfl rfl rfl rfl) rfl ?_
          | refine go_do (valid_eqb rfl rfl rfl rfl rfl) rfl ?_
          | refine go_do (valid_neb rfl rfl rfl rfl rfl) rfl ?_
          | refine go_do (valid_call rfl rfl rfl (awake_ok) (by kernel_rfl)) rfl ?_
          | refine go_do (valid_call rfl rfl rfl (hm) (by kernel_rfl)) rfl ?_)
      | (refine hK _ ?_; clear hK K)
      | (rename_i K1 hK1; refine hK1 _ ?_; clear hK hK1; clear K)
      | (rename_i K1 hK1; refine hK1 _ ?_; clear hK1)
      | refine aw_text rfl ?_
      | refine aw_any (by kernel_rfl) (by kernel_rfl) rfl ?_
      | exact aw_ret (show resA _ _ _ = some _ by kernel_rfl)
      | refine aw_cond1 rfl rfl ?_
      | refine aw_cond0 rfl rfl ?_
      | refine aw_block ?_
      | refine aw_exit ?_
      | refine aw_skip ?_
      | refine aw_seq_k (fun K hK => ?_))
  | true =>
    rw [hc] at hm
    by_cases hlen : 80 < l.length
    · refine callOk_of 57 Tryd.func4 rfl rfl rfl rfl ?_ GG.to
      intro W A hG
      repeat (first
        | (refine go_at rfl ?_; first
            | refine go_do (valid_skip rfl) rfl ?_
            | refine go_do (valid_mv (.inl rfl) rfl) rfl ?_
            | (refine nxt_s 1 rfl ?_; refine go_do (valid_load_p tb rfl rfl rfl rfl rfl (by first | kernel_rfl | rfl)) (by first | kernel_rfl | rfl) ?_)
            | (refine nxt_s 1 rfl ?_; refine go_do (valid_fld_p tb rfl rfl rfl (by kernel_rfl)) rfl ?_)
            | refine go_do (valid_mv (.inr rfl) rfl) rfl ?_
            | refine go_do (valid_pick rfl rfl rfl) rfl ?_
            | refine go_do (valid_extract rfl rfl rfl rfl) rfl ?_
            | refine go_do (valid_field tb rfl rfl rfl rfl rfl rfl) rfl ?_
            | refine go_do (valid_cmp rfl rfl rfl rfl (by first | exact .eql1 (by omega) | exact .eql0 (by omega) | exact .neq1 (by omega) | exact .neq0 (by omega) | exact .lss1 (by omega) | exact .lss0 (by omega) | exact .leq1 (by omega) | exact .leq0 (by omega) | exact .gtr1 (by omega) | exact .gtr0 (by omega) | exact .geq1 (by omega) | exact .geq0 (by omega) | constructor)) rfl ?_
            | refine go_do (valid_ar rfl rfl rfl rfl (by constructor) (by first | exact wr_u64 (by omega) (by omega) | exact wr_i64 (by omega) (by omega) | rfl)) rfl ?_
            | refine go_do (valid_cv rfl rfl rfl rfl rfl (by first | exact wr_u64 (by omega) (by omega) | exact wr_i64 (by omega) (by omega) | rfl)) rfl ?_
            | refine go_do (valid_quo rfl rfl rfl rfl (by omega) (by omega) (by first | exact wr_u64 (by omega) (by omega) | exact wr_i64 (by omega) (by omega))) rfl ?_
            | refine go_do (valid_rem rfl rfl rfl rfl (by omega) (by omega)) rfl ?_
            | refine go_do (valid_box rfl rfl rfl rfl rfl rfl) rfl ?_
            | refine go_do (valid_alloc rfl rfl rfl rfl rfl) rfl ?_
            | (refine nxt_s 1 rfl ?_; refine go_do (valid_store_p rfl rfl rfl rfl rfl rfl (by first | kernel_rfl | rfl) rfl) (by first | kernel_rfl | rfl) ?_)
            | refine go_do (valid_len_s rfl rfl rfl rfl) rfl ?_
            | (refine nxt_s 3 rfl ?_; refine go_do (valid_load_q tb rfl rfl rfl rfl (by first | kernel_rfl | rfl)) rfl ?_)
            | (refine nxt_s 3 rfl ?_; refine go_do (valid_fld_q tb rfl rfl rfl rfl) rfl ?_)
            | refine go_do (valid_not rfl rfl rfl) rfl ?_
            | refine go_do (valid_build rfl rfl rfl rfl) rfl ?_
            | refine go_do (valid_nil rfl rfl rfl rfl) rfl ?_
            | (refine nxt_s 4 rfl ?_; refine go_do (valid_idx_s rfl rfl rfl rfl rfl rfl (by omega) (by omega) _ (by assumption)) rfl ?_)
            | (refine nxt_s 5 rfl ?_; refine go_do (valid_store_rp rfl rfl rfl rfl rfl rfl rfl rfl rfl (by first | omega | (simp; omega)) rfl) rfl ?_)
            | (refine nxt_s 5 rfl ?_; refine go_do (valid_load_rp tb rfl rfl rfl rfl rfl rfl) rfl ?_)
            | (refine nxt_s 2 rfl ?_; refine go_do (valid_idx_o rfl rfl rfl rfl rfl rfl rfl (by omega) (by omega)) rfl ?_)
            | (refine nxt_s 1 rfl ?_; refine go_do (valid_idx_p rfl rfl rfl rfl rfl rfl (by omega) (by omega)) rfl ?_)
            | refine go_do (valid_index tb rfl rfl rfl rfl rfl rfl (by omega) (by omega) rfl) rfl ?_
            | refine go_do (valid_len_o rfl rfl rfl rfl rfl) rfl ?_
            | refine go_do (valid_len_v rfl rfl rfl rfl) rfl ?_
            | (refine nxt_s 5 rfl ?_; refine go_do (valid_fld_rp tb rfl rfl rfl rfl) rfl ?_)
            | refine go_do (valid_bslice rfl rfl rfl rfl rfl rfl rfl rfl rfl rfl rfl) rfl ?_
            | refine go_do (valid_bslice0 rfl rfl rfl rfl rfl rfl rfl) rfl ?_
            | refine go_do (valid_eqb rfl rfl rfl rfl rfl) rfl ?_
            | refine go_do (valid_neb rfl rfl rfl rfl rfl) rfl ?_
            | refine go_do (valid_call rfl rfl rfl (awake_ok) (by kernel_rfl)) rfl ?_
            | refine go_do (valid_call rfl rfl rfl (hm) (by kernel_rfl)) rfl ?_)
        | (refine hK _ ?_; clear hK K)
        | (rename_i K1 hK1; refine hK1 _ ?_; clear hK hK1; clear K)
        | (rename_i K1 hK1; refine hK1 _ ?_; clear hK1)
        | refine aw_text rfl ?_
        | refine aw_any (by kernel_rfl) (by kernel_rfl) rfl ?_
        | exact aw_ret (show resA _ _ _ = some _ by kernel_rfl)
        | refine aw_cond1 rfl rfl ?_
        | refine aw_cond0 rfl rfl ?_
        | refine aw_block ?_
        | refine aw_exit ?_
        | refine aw_skip ?_
        | refine aw_seq_k (fun K hK => ?_))
    obtain ⟨n, rfl⟩ := Int.eq_ofNat_of_zero_le (confB_iff.1 hc).2.2.2.1
    have hn := new_yes a b c n hc
    refine callOk_of 57 Tryd.func4 rfl rfl rfl rfl ?_ GG.to
    intro W A hG
    repeat (first
      | (refine go_at rfl ?_; first
          | refine go_do (valid_skip rfl) rfl ?_
          | refine go_do (valid_mv (.inl rfl) rfl) rfl ?_
          | (refine nxt_s 1 rfl ?_; refine go_do (valid_load_p tb rfl rfl rfl rfl rfl (by first | kernel_rfl | rfl)) (by first | kernel_rfl | rfl) ?_)
          | (refine nxt_s 1 rfl ?_; refine go_do (valid_fld_p tb rfl rfl rfl (by kernel_rfl)) rfl ?_)
          | refine go_do (valid_mv (.inr rfl) rfl) rfl ?_
          | refine go_do (valid_pick rfl rfl rfl) rfl ?_
          | refine go_do (valid_extract rfl rfl rfl rfl) rfl ?_
          | refine go_do (valid_field tb rfl rfl rfl rfl rfl rfl) rfl ?_
          | refine go_do (valid_cmp rfl rfl rfl rfl (by first | exact .eql1 (by omega) | exact .eql0 (by omega) | exact .neq1 (by omega) | exact .neq0 (by omega) | exact .lss1 (by omega) | exact .lss0 (by omega) | exact .leq1 (by omega) | exact .leq0 (by omega) | exact .gtr1 (by omega) | exact .gtr0 (by omega) | exact .geq1 (by omega) | exact .geq0 (by omega) | constructor)) rfl ?_
          | refine go_do (valid_ar rfl rfl rfl rfl (by constructor) (by first | exact wr_u64 (by omega) (by omega) | exact wr_i64 (by omega) (by omega) | rfl)) rfl ?_
          | refine go_do (valid_cv rfl rfl rfl rfl rfl (by first | exact wr_u64 (by omega) (by omega) | exact wr_i64 (by omega) (by omega) | rfl)) rfl ?_
          | refine go_do (valid_quo rfl rfl rfl rfl (by omega) (by omega) (by first | exact wr_u64 (by omega) (by omega) | exact wr_i64 (by omega) (by omega))) rfl ?_
          | refine go_do (valid_rem rfl rfl rfl rfl (by omega) (by omega)) rfl ?_
          | refine go_do (valid_box rfl rfl rfl rfl rfl rfl) rfl ?_
          | refine go_do (valid_alloc rfl rfl rfl rfl rfl) rfl ?_
          | (refine nxt_s 1 rfl ?_; refine go_do (valid_store_p rfl rfl rfl rfl rfl rfl (by first | kernel_rfl | rfl) rfl) (by first | kernel_rfl | rfl) ?_)
          | refine go_do (valid_len_s rfl rfl rfl rfl) rfl ?_
          | (refine nxt_s 3 rfl ?_; refine go_do (valid_load_q tb rfl rfl rfl rfl (by first | kernel_rfl | rfl)) rfl ?_)
          | (refine nxt_s 3 rfl ?_; refine go_do (valid_fld_q tb rfl rfl rfl rfl) rfl ?_)
          | refine go_do (valid_not rfl rfl rfl) rfl ?_
          | refine go_do (valid_build rfl rfl rfl rfl) rfl ?_
          | refine go_do (valid_nil rfl rfl rfl rfl) rfl ?_
          | (refine nxt_s 4 rfl ?_; refine go_do (valid_idx_s rfl rfl rfl rfl rfl rfl (by omega) (by omega) _ (by assumption)) rfl ?_)
          | (refine nxt_s 5 rfl ?_; refine go_do (valid_store_rp rfl rfl rfl rfl rfl rfl rfl rfl rfl (by first | omega | (simp; omega)) rfl) rfl ?_)
          | (refine nxt_s 5 rfl ?_; refine go_do (valid_load_rp tb rfl rfl rfl rfl rfl rfl) rfl ?_)
          | (refine nxt_s 2 rfl ?_; refine go_do (valid_idx_o rfl rfl rfl rfl rfl rfl rfl (by omega) (by omega)) rfl ?_)
          | (refine nxt_s 1 rfl ?_; refine go_do (valid_idx_p rfl rfl rfl rfl rfl rfl (by omega) (by omega)) rfl ?_)
          | refine go_do (valid_index tb rfl rfl rfl rfl rfl rfl (by omega) (by omega) rfl) rfl ?_
          | refine go_do (valid_len_o rfl rfl rfl rfl rfl) rfl ?_
          | refine go_do (valid_len_v rfl rfl rfl rfl) rfl ?_
          | (refine nxt_s 5 rfl ?_; refine go_do (valid_fld_rp tb rfl rfl rfl rfl) rfl ?_)
          | refine go_do (valid_bslice rfl rfl rfl rfl rfl rfl rfl rfl rfl rfl rfl) rfl ?_
          | refine go_do (valid_bslice0 rfl rfl rfl rfl rfl rfl rfl) rfl ?_
          | refine go_do (valid_eqb rfl rfl rfl rfl rfl) rfl ?_
          | refine go_do (valid_neb rfl rfl rfl rfl rfl) rfl ?_
          | refine go_do (valid_call rfl rfl rfl (awake_ok) (by kernel_rfl)) rfl ?_
          | refine go_do (valid_call rfl rfl rfl (hm) (by kernel_rfl)) rfl ?_
          | refine go_do (valid_call rfl rfl rfl (hn) (by kernel_rfl)) rfl ?_)
      | (refine hK _ ?_; clear hK K)
      | (rename_i K1 hK1; refine hK1 _ ?_; clear hK hK1; clear K)
      | (rename_i K1 hK1; refine hK1 _ ?_; clear hK1)
      | refine aw_text rfl ?_
      | refine aw_any (by kernel_rfl) (by kernel_rfl) rfl ?_
      | exact aw_ret (show resA _ _ _ = some _ by kernel_rfl)
      | refine aw_cond1 rfl rfl ?_
      | refine aw_cond0 rfl rfl ?_
      | refine aw_block ?_
      | refine aw_exit ?_
      | refine aw_skip ?_
      | refine aw_seq_k (fun K hK => ?_))
    refine aw_loopH (α := Nat × Kr) (fun p => p.1 ≤ l.length ∧ Inv p.1 p.2) (fun p => keepsH l e p.1 p.2) (fun p => l.length - p.1) (0, newK a b c n) ⟨Nat.zero_le _, new_inv hc⟩ (sub_of _ _ ⟨by kernel_rfl, by kernel_rfl, by kernel_rfl, by kernel_rfl, trivial⟩ ⟨by kernel_rfl, by kernel_rfl, trivial⟩ (by kernel_rfl)) ?_
    rintro ⟨i, k⟩ ⟨hi0, hk0⟩
    have hi : i ≤ l.length := hi0
    have hk : Inv i k := hk0
    show Aw _ _ _ _ (keepsH l e i k)
    unfold keepsH
    by_cases hlt : i < l.length
    · obtain ⟨x, hx0⟩ : ∃ x, l[i]? = some x := ⟨_, List.getElem?_eq_getElem hlt⟩
      have hx := flD_at hx0
      have h8 := hl x (List.mem_of_getElem? hx0)
      have hd := do_ok hk (by omega) x h8.1 h8.2
      repeat (first
        | (refine go_at rfl ?_; first
            | refine go_do (valid_skip rfl) rfl ?_
            | refine go_do (valid_mv (.inl rfl) rfl) rfl ?_
            | (refine nxt_s 1 rfl ?_; refine go_do (valid_load_p tb rfl rfl rfl rfl rfl (by first | kernel_rfl | rfl)) (by first | kernel_rfl | rfl) ?_)
            | (refine nxt_s 1 rfl ?_; refine go_do (valid_fld_p tb rfl rfl rfl (by kernel_rfl)) rfl ?_)
            | refine go_do (valid_mv (.inr rfl) rfl) rfl ?_
            | refine go_do (valid_pick rfl rfl rfl) rfl ?_
            | refine go_do (valid_extract rfl rfl rfl rfl) rfl ?_
            | refine go_do (valid_field tb rfl rfl rfl rfl rfl rfl) rfl ?_
            | refine go_do (valid_cmp rfl rfl rfl rfl (by first | exact .eql1 (by omega) | exact .eql0 (by omega) | exact .neq1 (by omega) | exact .neq0 (by omega) | exact .lss1 (by omega) | exact .lss0 (by omega) | exact .leq1 (by omega) | exact .leq0 (by omega) | exact .gtr1 (by omega) | exact .gtr0 (by omega) | exact .geq1 (by omega) | exact .geq0 (by omega) | constructor)) rfl ?_
            | refine go_do (valid_ar rfl rfl rfl rfl (by constructor) (by first | exact wr_u64 (by omega) (by omega) | exact wr_i64 (by omega) (by omega) | rfl)) rfl ?_
            | refine go_do (valid_cv rfl rfl rfl rfl rfl (by first | exact wr_u64 (by omega) (by omega) | exact wr_i64 (by omega) (by omega) | rfl)) rfl ?_
            | refine go_do (valid_quo rfl rfl rfl rfl (by omega) (by omega) (by first | exact wr_u64 (by omega) (by omega) | exact wr_i64 (by omega) (by omega))) rfl ?_
            | refine go_do (valid_rem rfl rfl rfl rfl (by omega) (by omega)) rfl ?_
            | refine go_do (valid_box rfl rfl rfl rfl rfl rfl) rfl ?_
            | refine go_do (valid_alloc rfl rfl rfl rfl rfl) rfl ?_
            | (refine nxt_s 1 rfl ?_; refine go_do (valid_store_p rfl rfl rfl rfl rfl rfl (by first | kernel_rfl | rfl) rfl) (by first | kernel_rfl | rfl) ?_)
            | refine go_do (valid_len_s rfl rfl rfl rfl) rfl ?_
            | (refine nxt_s 3 rfl ?_; refine go_do (valid_load_q tb rfl rfl rfl rfl (by first | kernel_rfl | rfl)) rfl ?_)
            | (refine nxt_s 3 rfl ?_; refine go_do (valid_fld_q tb rfl rfl rfl rfl) rfl ?_)
            | refine go_do (valid_not rfl rfl rfl) rfl ?_
            | refine go_do (valid_build rfl rfl rfl rfl) rfl ?_
            | refine go_do (valid_nil rfl rfl rfl rfl) rfl ?_
            | (refine nxt_s 4 rfl ?_; refine go_do (valid_idx_s rfl rfl rfl rfl rfl rfl (by omega) (by omega) _ (by assumption)) rfl ?_)
            | (refine nxt_s 5 rfl ?_; refine go_do (valid_store_rp rfl rfl rfl rfl rfl rfl rfl rfl rfl (by first | omega | (simp; omega)) rfl) rfl ?_)
            | (refine nxt_s 5 rfl ?_; refine go_do (valid_load_rp tb rfl rfl rfl rfl rfl rfl) rfl ?_)
            | (refine nxt_s 2 rfl ?_; refine go_do (valid_idx_o rfl rfl rfl rfl rfl rfl rfl (by omega) (by omega)) rfl ?_)
            | (refine nxt_s 1 rfl ?_; refine go_do (valid_idx_p rfl rfl rfl rfl rfl rfl (by omega) (by omega)) rfl ?_)
            | refine go_do (valid_index tb rfl rfl rfl rfl rfl rfl (by omega) (by omega) rfl) rfl ?_
            | refine go_do (valid_len_o rfl rfl rfl rfl rfl) rfl ?_
            | refine go_do (valid_len_v rfl rfl rfl rfl) rfl ?_
            | (refine nxt_s 5 rfl ?_; refine go_do (valid_fld_rp tb rfl rfl rfl rfl) rfl ?_)
            | refine go_do (valid_bslice rfl rfl rfl rfl rfl rfl rfl rfl rfl rfl rfl) rfl ?_
            | refine go_do (valid_bslice0 rfl rfl rfl rfl rfl rfl rfl) rfl ?_
            | refine go_do (valid_eqb rfl rfl rfl rfl rfl) rfl ?_
            | refine go_do (valid_neb rfl rfl rfl rfl rfl) rfl ?_
            | refine go_do (valid_call rfl rfl rfl (hd) (by kernel_rfl)) rfl ?_)
        | (refine hK _ ?_; clear hK K)
        | (rename_i K1 hK1; refine hK1 _ ?_; clear hK hK1; clear K)
        | (rename_i K1 hK1; refine hK1 _ ?_; clear hK1)
        | refine aw_text rfl ?_
        | refine aw_any (by kernel_rfl) (by kernel_rfl) rfl ?_
        | exact aw_ret (show resA _ _ _ = some _ by kernel_rfl)
        | refine aw_cond1 rfl rfl ?_
        | refine aw_cond0 rfl rfl ?_
        | refine aw_block ?_
        | refine aw_exit ?_
        | refine aw_skip ?_
        | refine aw_seq_k (fun K hK => ?_))
      exact ⟨(i + 1, (doR k x).1), ⟨by show i + 1 ≤ l.length; omega, do_inv hk⟩, by show l.length - (i + 1) < l.length - i; omega, sub_of _ _ ⟨by kernel_rfl, by kernel_rfl, by kernel_rfl, by kernel_rfl, trivial⟩ ⟨by kernel_rfl, by kernel_rfl, trivial⟩ (by kernel_rfl)⟩
    · have hd := do_ok hk (by omega) e he.1 he.2
      have b1 := hk.ml
      have b2 := hk.fl
      have b3 := hk.sl
      have hcp := SpM.copied_ok k hk.ts hk.cs.2 (by omega) (by omega) (by omega)
      have hsm := SpM.same_ok k hk.ts hk.cs.2 (by omega) (by omega) (by omega)
      have hs : Ok 11 [.ag k.ce, .c (.s 1 4 (flF [⟨false, 0, false, 0⟩]))] (.m (.ag (fenceK k [⟨false, 0, false, 0⟩]).ce)) := sfence_ok k hk.ts hk.cs.2 [⟨false, 0, false, 0⟩] (fun f hf => by simp at hf; subst hf; exact ⟨by show (0 : Int) ≤ 0; omega, by show (0 : Int) < 18446744073709551616; omega⟩) (by simp) (by omega)
      repeat (first
        | (refine go_at rfl ?_; first
            | refine go_do (valid_skip rfl) rfl ?_
            | refine go_do (valid_mv (.inl rfl) rfl) rfl ?_
            | (refine nxt_s 1 rfl ?_; refine go_do (valid_load_p tb rfl rfl rfl rfl rfl (by first | kernel_rfl | rfl)) (by first | kernel_rfl | rfl) ?_)
            | (refine nxt_s 1 rfl ?_; refine go_do (valid_fld_p tb rfl rfl rfl (by kernel_rfl)) rfl ?_)
            | refine go_do (valid_mv (.inr rfl) rfl) rfl ?_
            | refine go_do (valid_pick rfl rfl rfl) rfl ?_
            | refine go_do (valid_extract rfl rfl rfl rfl) rfl ?_
            | refine go_do (valid_field tb rfl rfl rfl rfl rfl rfl) rfl ?_
            | refine go_do (valid_cmp rfl rfl rfl rfl (by first | exact .eql1 (by omega) | exact .eql0 (by omega) | exact .neq1 (by omega) | exact .neq0 (by omega) | exact .lss1 (by omega) | exact .lss0 (by omega) | exact .leq1 (by omega) | exact .leq0 (by omega) | exact .gtr1 (by omega) | exact .gtr0 (by omega) | exact .geq1 (by omega) | exact .geq0 (by omega) | constructor)) rfl ?_
            | refine go_do (valid_ar rfl rfl rfl rfl (by constructor) (by first | exact wr_u64 (by omega) (by omega) | exact wr_i64 (by omega) (by omega) | rfl)) rfl ?_
            | refine go_do (valid_cv rfl rfl rfl rfl rfl (by first | exact wr_u64 (by omega) (by omega) | exact wr_i64 (by omega) (by omega) | rfl)) rfl ?_
            | refine go_do (valid_quo rfl rfl rfl rfl (by omega) (by omega) (by first | exact wr_u64 (by omega) (by omega) | exact wr_i64 (by omega) (by omega))) rfl ?_
            | refine go_do (valid_rem rfl rfl rfl rfl (by omega) (by omega)) rfl ?_
            | refine go_do (valid_box rfl rfl rfl rfl rfl rfl) rfl ?_
            | refine go_do (valid_alloc rfl rfl rfl rfl rfl) rfl ?_
            | (refine nxt_s 1 rfl ?_; refine go_do (valid_store_p rfl rfl rfl rfl rfl rfl (by first | kernel_rfl | rfl) rfl) (by first | kernel_rfl | rfl) ?_)
            | refine go_do (valid_len_s rfl rfl rfl rfl) rfl ?_
            | (refine nxt_s 3 rfl ?_; refine go_do (valid_load_q tb rfl rfl rfl rfl (by first | kernel_rfl | rfl)) rfl ?_)
            | (refine nxt_s 3 rfl ?_; refine go_do (valid_fld_q tb rfl rfl rfl rfl) rfl ?_)
            | refine go_do (valid_not rfl rfl rfl) rfl ?_
            | refine go_do (valid_build rfl rfl rfl rfl) rfl ?_
            | refine go_do (valid_nil rfl rfl rfl rfl) rfl ?_
            | (refine nxt_s 4 rfl ?_; refine go_do (valid_idx_s rfl rfl rfl rfl rfl rfl (by omega) (by omega) _ (by assumption)) rfl ?_)
            | (refine nxt_s 5 rfl ?_; refine go_do (valid_store_rp rfl rfl rfl rfl rfl rfl rfl rfl rfl (by first | omega | (simp; omega)) rfl) rfl ?_)
            | (refine nxt_s 5 rfl ?_; refine go_do (valid_load_rp tb rfl rfl rfl rfl rfl rfl) rfl ?_)
            | (refine nxt_s 2 rfl ?_; refine go_do (valid_idx_o rfl rfl rfl rfl rfl rfl rfl (by omega) (by omega)) rfl ?_)
            | (refine nxt_s 1 rfl ?_; refine go_do (valid_idx_p rfl rfl rfl rfl rfl rfl (by omega) (by omega)) rfl ?_)
            | refine go_do (valid_index tb rfl rfl rfl rfl rfl rfl (by omega) (by omega) rfl) rfl ?_
            | refine go_do (valid_len_o rfl rfl rfl rfl rfl) rfl ?_
            | refine go_do (valid_len_v rfl rfl rfl rfl) rfl ?_
            | (refine nxt_s 5 rfl ?_; refine go_do (valid_fld_rp tb rfl rfl rfl rfl) rfl ?_)
            | refine go_do (valid_bslice rfl rfl rfl rfl rfl rfl rfl rfl rfl rfl rfl) rfl ?_
            | refine go_do (valid_bslice0 rfl rfl rfl rfl rfl rfl rfl) rfl ?_
            | refine go_do (valid_eqb rfl rfl rfl rfl rfl) rfl ?_
            | refine go_do (valid_neb rfl rfl rfl rfl rfl) rfl ?_
            | refine go_do (valid_call rfl rfl rfl (hcp) (by kernel_rfl)) rfl ?_
            | refine go_do (valid_call rfl rfl rfl (hd) (by kernel_rfl)) rfl ?_
            | refine go_do (valid_call rfl rfl rfl (hsm) (by kernel_rfl)) rfl ?_
            | refine go_do (valid_call_d (b := 52) rfl rfl rfl rfl rfl rfl (callOk_l (by kernel_rfl) hs)) rfl ?_)
        | (refine hK _ ?_; clear hK K)
        | (rename_i K1 hK1; refine hK1 _ ?_; clear hK hK1; clear K)
        | (rename_i K1 hK1; refine hK1 _ ?_; clear hK1)
        | refine aw_text rfl ?_
        | refine aw_any (by kernel_rfl) (by kernel_rfl) rfl ?_
        | exact aw_ret (show resA _ _ _ = some _ by kernel_rfl)
        | refine aw_cond1 rfl rfl ?_
        | refine aw_cond0 rfl rfl ?_
        | refine aw_block ?_
        | refine aw_exit ?_
        | refine aw_skip ?_
        | refine aw_seq_k (fun K hK => ?_))
end Go.Proofs.YtkffmaeiplgjeaaDoor.SpQ
/- Arguments opened (structs by value), and all arguments read again where nothing below has changed. -/
namespace Go.Proofs.YtkffmaeiplgjeaaDoor.Open
open Go.RowKit Go.WideShapes Go.ChangeShapes Go.Proofs.YtkffmaeiplgjeaaDoor.Base
set_option linter.unusedVariables false
set_option linter.unusedSimpArgs false
set_option maxRecDepth 10000
section
variable {H : Type} {enc : TypeId × Value → H} {P : Program}
theorem keepAll (hl : laidOutB P = true) {W W' : World} (hb : Below W.heap.size W W') : ∀ {ts : List TypeId} {vs : List Value} {ds : List (DataW H)} {ps : List MemPlace},
    (ts.all fun t => P.readableRec t && decide (t < P.types.size)) = true → DataW.TrodAll enc P W 0 (fun _ => true) true ts vs ds ps → DataW.TrodAll enc P W' 0 (fun b => decide (b < W.heap.size)) true ts vs ds ps
  | [], [], [], _, _, h => h
  | t :: ts, v :: vs, d :: ds, ps, ht, ⟨a, b, h1, h2, e⟩ => by
    simp only [List.all_cons, Bool.and_eq_true, decide_eq_true_eq] at ht
    have h1' := h1
    obtain ⟨n, hn⟩ := h1
    exact ⟨a, b, Below.trod hl ht.1.1 ht.1.2 h1' hb (fun x hx => DataW.trod_lt n t _ _ hn x hx), keepAll hl hb ht.2 h2, e⟩
end
section
variable {H : Type} {enc : TypeId × Value → H} {W : World} {base b0 : Nat} {sp : Nat → Bool} {held : Bool} {n : Nat} {r : Reach}
theorem cell_bool {c : Value} {x : Option (DataW H × List MemPlace)} {y : DataW H × List MemPlace} (h : DataW.trod enc Tryd.prog W base sp held n 4 [c] = x) (hx : x = some y) : ∃ b, c = .bool b := by
  rw [hx] at h
  obtain ⟨b, e, _⟩ := DataW.trod_bool Tryd.underlying4 h
  exact ⟨b, by simpa using e⟩
theorem cell_u64 {c : Value} {x : Option (DataW H × List MemPlace)} {y : DataW H × List MemPlace} (h : DataW.trod enc Tryd.prog W base sp held n 27 [c] = x) (hx : x = some y) : ∃ a, c = .int .u64 a ∧ U a := by
  rw [hx] at h
  obtain ⟨b, e, _, wf⟩ := DataW.trod_int Tryd.underlying27 h
  exact ⟨b, by simpa using e, U.of wf⟩
theorem cell_int {c : Value} {x : Option (DataW H × List MemPlace)} {y : DataW H × List MemPlace} (h : DataW.trod enc Tryd.prog W base sp held n 3 [c] = x) (hx : x = some y) : ∃ a, c = .int .i64 a ∧ (-9223372036854775808 ≤ a ∧ a ≤ 9223372036854775807) := by
  rw [hx] at h
  obtain ⟨b, e, _, wf⟩ := DataW.trod_int Tryd.underlying3 h
  refine ⟨b, by simpa using e, ?_⟩
  simp [Lit.wf, IntKind.min, IntKind.max, IntKind.bits, IntKind.signed] at wf; omega
theorem some_of {α : Type} {xs : List α} {m i : Nat} (h : xs.length = m) (hi : i < m) : ∃ y, xs[i]? = some y := ⟨xs[i]'(by omega), List.getElem?_eq_getElem _⟩
theorem open_pte {v : Value} {d : DataW H} {p : List MemPlace} (hv : Value.okWide Tryd.prog W r b0 88 v) (h : DataW.Trod enc Tryd.prog W base sp held 88 v d p) :
    ∃ x0 x1 x2 x3 x4 x5 x6 x7 x8 x9 x10, v = .agg #[.bool x0, .bool x1, .bool x2, .bool x3, .bool x4, .bool x5, .bool x6, .bool x7, .int .u64 x8, .int .u64 x9, .int .u64 x10] ∧ U x8 ∧ U x9 ∧ U x10 := by
  obtain ⟨⟨l⟩, rfl, hsz⟩ := okWide_struct Tryd.underlying88 hv
  rw [show Tryd.prog.cellsOf 88 = 11 by kernel_rfl] at hsz
  obtain ⟨fuel, hf⟩ := h
  obtain ⟨xs, n, _, _, _, hlen, hfd⟩ := DataW.trod_struct Tryd.underlying88 hf
  match l, hsz with
  | [c0, c1, c2, c3, c4, c5, c6, c7, c8, c9, c10], _ =>
    have g := fun i f (e : _ = some f) => hfd i f e
    have k4 : Tryd.prog.cellsOf 4 = 1 := by kernel_rfl
    have k64 : Tryd.prog.cellsOf 27 = 1 := by kernel_rfl
    have h0 : DataW.trod enc Tryd.prog W base sp held n 4 [c0] = xs[0]? := by have := g 0 _ rfl; simpa [Value.cells, k4, k64] using this
    have h1 : DataW.trod enc Tryd.prog W base sp held n 4 [c1] = xs[1]? := by have := g 1 _ rfl; simpa [Value.cells, k4, k64] using this
    have h2 : DataW.trod enc Tryd.prog W base sp held n 4 [c2] = xs[2]? := by have := g 2 _ rfl; simpa [Value.cells, k4, k64] using this
    have h3 : DataW.trod enc Tryd.prog W base sp held n 4 [c3] = xs[3]? := by have := g 3 _ rfl; simpa [Value.cells, k4, k64] using this
    have h4 : DataW.trod enc Tryd.prog W base sp held n 4 [c4] = xs[4]? := by have := g 4 _ rfl; simpa [Value.cells, k4, k64] using this
    have h5 : DataW.trod enc Tryd.prog W base sp held n 4 [c5] = xs[5]? := by have := g 5 _ rfl; simpa [Value.cells, k4, k64] using this
    have h6 : DataW.trod enc Tryd.prog W base sp held n 4 [c6] = xs[6]? := by have := g 6 _ rfl; simpa [Value.cells, k4, k64] using this
    have h7 : DataW.trod enc Tryd.prog W base sp held n 4 [c7] = xs[7]? := by have := g 7 _ rfl; simpa [Value.cells, k4, k64] using this
    have h8 : DataW.trod enc Tryd.prog W base sp held n 27 [c8] = xs[8]? := by have := g 8 _ rfl; simpa [Value.cells, k4, k64] using this
    have h9 : DataW.trod enc Tryd.prog W base sp held n 27 [c9] = xs[9]? := by have := g 9 _ rfl; simpa [Value.cells, k4, k64] using this
    have h10 : DataW.trod enc Tryd.prog W base sp held n 27 [c10] = xs[10]? := by have := g 10 _ rfl; simpa [Value.cells, k4, k64] using this
    have hl : xs.length = 11 := hlen
    obtain ⟨y0, q0⟩ := some_of hl (show 0 < 11 by decide)
    obtain ⟨y1, q1⟩ := some_of hl (show 1 < 11 by decide)
    obtain ⟨y2, q2⟩ := some_of hl (show 2 < 11 by decide)
    obtain ⟨y3, q3⟩ := some_of hl (show 3 < 11 by decide)
    obtain ⟨y4, q4⟩ := some_of hl (show 4 < 11 by decide)
    obtain ⟨y5, q5⟩ := some_of hl (show 5 < 11 by decide)
    obtain ⟨y6, q6⟩ := some_of hl (show 6 < 11 by decide)
    obtain ⟨y7, q7⟩ := some_of hl (show 7 < 11 by decide)
    obtain ⟨y8, q8⟩ := some_of hl (show 8 < 11 by decide)
    obtain ⟨y9, q9⟩ := some_of hl (show 9 < 11 by decide)
    obtain ⟨y10, q10⟩ := some_of hl (show 10 < 11 by decide)
    obtain ⟨x0, rfl⟩ := cell_bool (c := c0) h0 q0
    obtain ⟨x1, rfl⟩ := cell_bool (c := c1) h1 q1
    obtain ⟨x2, rfl⟩ := cell_bool (c := c2) h2 q2
    obtain ⟨x3, rfl⟩ := cell_bool (c := c3) h3 q3
    obtain ⟨x4, rfl⟩ := cell_bool (c := c4) h4 q4
    obtain ⟨x5, rfl⟩ := cell_bool (c := c5) h5 q5
    obtain ⟨x6, rfl⟩ := cell_bool (c := c6) h6 q6
    obtain ⟨x7, rfl⟩ := cell_bool (c := c7) h7 q7
    obtain ⟨x8, rfl, u8⟩ := cell_u64 (c := c8) h8 q8
    obtain ⟨x9, rfl, u9⟩ := cell_u64 (c := c9) h9 q9
    obtain ⟨x10, rfl, u10⟩ := cell_u64 (c := c10) h10 q10
    exact ⟨x0, x1, x2, x3, x4, x5, x6, x7, x8, x9, x10, rfl, u8, u9, u10⟩
theorem open_perm {v : Value} {d : DataW H} {p : List MemPlace} (hv : Value.okWide Tryd.prog W r b0 134 v) (h : DataW.Trod enc Tryd.prog W base sp held 134 v d p) :
    ∃ x0 x1 x2 x3, v = .agg #[.bool x0, .bool x1, .bool x2, .bool x3] := by
  obtain ⟨⟨l⟩, rfl, hsz⟩ := okWide_struct Tryd.underlying134 hv
  rw [show Tryd.prog.cellsOf 134 = 4 by kernel_rfl] at hsz
  obtain ⟨fuel, hf⟩ := h
  obtain ⟨xs, n, _, _, _, hlen, hfd⟩ := DataW.trod_struct Tryd.underlying134 hf
  match l, hsz with
  | [c0, c1, c2, c3], _ =>
    have g := fun i f (e : _ = some f) => hfd i f e
    have k4 : Tryd.prog.cellsOf 4 = 1 := by kernel_rfl
    have hl : xs.length = 4 := hlen
    have h0 : DataW.trod enc Tryd.prog W base sp held n 4 [c0] = xs[0]? := by have := g 0 _ rfl; simpa [Value.cells, k4] using this
    obtain ⟨y0, q0⟩ := some_of hl (show 0 < 4 by decide)
    obtain ⟨x0, rfl⟩ := cell_bool (c := c0) h0 q0
    have h1 : DataW.trod enc Tryd.prog W base sp held n 4 [c1] = xs[1]? := by have := g 1 _ rfl; simpa [Value.cells, k4] using this
    obtain ⟨y1, q1⟩ := some_of hl (show 1 < 4 by decide)
    obtain ⟨x1, rfl⟩ := cell_bool (c := c1) h1 q1
    have h2 : DataW.trod enc Tryd.prog W base sp held n 4 [c2] = xs[2]? := by have := g 2 _ rfl; simpa [Value.cells, k4] using this
    obtain ⟨y2, q2⟩ := some_of hl (show 2 < 4 by decide)
    obtain ⟨x2, rfl⟩ := cell_bool (c := c2) h2 q2
    have h3 : DataW.trod enc Tryd.prog W base sp held n 4 [c3] = xs[3]? := by have := g 3 _ rfl; simpa [Value.cells, k4] using this
    obtain ⟨y3, q3⟩ := some_of hl (show 3 < 4 by decide)
    obtain ⟨x3, rfl⟩ := cell_bool (c := c3) h3 q3
    exact ⟨x0, x1, x2, x3, rfl⟩
end
end Go.Proofs.YtkffmaeiplgjeaaDoor.Open
/- What the program's text lays ahead of the call; arguments opened: configurations, deeds. -/
namespace Go.Proofs.YtkffmaeiplgjeaaDoor.Laid
open Go.ChangeShapes Go.WideShapes Go.ChangeAt Go.RowKit Go.Proofs.YtkffmaeiplgjeaaDoor.Ax Go.Proofs.YtkffmaeiplgjeaaDoor.OkS Go.Proofs.YtkffmaeiplgjeaaDoor.SpQ Go.Proofs.YtkffmaeiplgjeaaDoor.MemL
set_option linter.unusedVariables false
set_option linter.unusedSimpArgs false
set_option maxRecDepth 10000
def laidS : List (String × DataW Unit) := [("atlas/va.sizes", Rows.laid_atlas_va_sizes), ("math/bits.deBruijn64tab", Rows.laid_math_bits_deBruijn64tab), ("atlas/fence.asks", Rows.laid_atlas_fence_asks)]
theorem g_sizes : Tryd.prog.globalNamed "atlas/va.sizes" = some 1 := by kernel_rfl
theorem g_tab : Tryd.prog.globalNamed "math/bits.deBruijn64tab" = some 0 := by kernel_rfl
theorem g_asks : Tryd.prog.globalNamed "atlas/fence.asks" = some 2 := by kernel_rfl
theorem t_sizes : (Tryd.prog.globals[1]?).map (·.type) = some 150 := by kernel_rfl
theorem t_tab : (Tryd.prog.globals[0]?).map (·.type) = some 149 := by kernel_rfl
theorem t_asks : (Tryd.prog.globals[2]?).map (·.type) = some 154 := by kernel_rfl
theorem gg_of_laid {W : World} (h : laidMetH Tryd.prog laidS W) : GG W := by
  have hp := (show laidMet Tryd.prog _ W ∧ handlesMet Tryd.prog _ W from h).1
  obtain ⟨ps, ⟨g1, t1, cs1, f1, p1, q1, hg1, ht1, hv1, hd1, hr, _⟩, _, _⟩ := hp
  obtain ⟨g2, t2, cs2, f2, p2, q2, hg2, ht2, hv2, hd2, _, _⟩ := hr
  obtain rfl := Option.some.inj (g_sizes.symm.trans hg1)
  obtain rfl := Option.some.inj (t_sizes.symm.trans ht1)
  obtain rfl := Option.some.inj (g_tab.symm.trans hg2)
  obtain rfl := Option.some.inj (t_tab.symm.trans ht2)
  have e1 := Lib.cells_of_tab (k := .u64) (zs := [4096, 2097152, 1073741824]) Tryd.underlying150 Tryd.underlying27 (by kernel_rfl) (by kernel_rfl) hd1
  have e2 := Lib.cells_of_tab (k := .u8) (zs := List.map (fun n : Nat => (n : Int)) Lib.deBruijn64tab) Tryd.underlying149 Tryd.underlying5 (by kernel_rfl) (by kernel_rfl) hd2
  obtain ⟨g, t, cs, fuel, p, hg, ht, hv, hd⟩ := h.funcs (n := "atlas/fence.asks") (List.mem_cons_of_mem _ (List.mem_cons_of_mem _ (List.mem_cons_self ..)))
  obtain rfl := Option.some.inj (g_asks.symm.trans hg)
  obtain rfl := Option.some.inj (t_asks.symm.trans ht)
  have hd' : DataW.trod (funcToken Tryd.prog) Tryd.prog W 0 (fun _ => true) true fuel 154 cs.toList = some (.slice [.held [40, 97, 116, 108, 97, 115, 47, 102, 101, 110, 99, 101, 46, 102, 111, 114, 109, 41, 46, 97, 100, 100, 114], .held [40, 97, 116, 108, 97, 115, 47, 102, 101, 110, 99, 101, 46, 102, 111, 114, 109, 41, 46, 97, 115, 105, 100]] [], p) := hd
  obtain ⟨a, cap, hcs, _, hel⟩ := open_row Tryd.underlying154 (by kernel_rfl) hd'
  obtain ⟨v0, n0, q0, hc0, hr0⟩ := hel 0 _ rfl
  obtain ⟨v1, n1, q1', hc1, hr1⟩ := hel 1 _ rfl
  obtain rfl := func_of_trod (f0 := 118) Tryd.underlying155 (by kernel_rfl) hr0
  obtain rfl := func_of_trod (f0 := 120) Tryd.underlying155 (by kernel_rfl) hr1
  obtain ⟨b, off, spot⟩ := a
  have hspot : spot = none := by simpa [Addr.add] using World.cell?_spot hc0
  subst hspot
  have c1 : ∀ i, W.cell? ⟨1, i, none⟩ = cs1[i]? := fun i => by simpa using World.var?_cell hg1 hv1 i
  have c2 : ∀ i, W.cell? ⟨0, i, none⟩ = cs2[i]? := fun i => by simpa using World.var?_cell hg2 hv2 i
  have c3 : ∀ i, W.cell? ⟨2, i, none⟩ = cs[i]? := fun i => by simpa using World.var?_cell hg hv i
  refine ⟨⟨?_, ?_, ?_⟩, fun j hj => ?_, b, off, cap, ?_, by simpa [Addr.add, askF] using hc0, by simpa [Addr.add, askF] using hc1⟩
  · rw [c1, ← Array.getElem?_toList, e1]; rfl
  · rw [c1, ← Array.getElem?_toList, e1]; rfl
  · rw [c1, ← Array.getElem?_toList, e1]; rfl
  · rw [c2, ← Array.getElem?_toList, e2]
    simp [List.getD, hj]
  · rw [c3, ← Array.getElem?_toList, hcs]; rfl
theorem u8_of {a : Int} (wf : (Lit.int .u8 a).wf = true) : 0 ≤ a ∧ a < 256 := by
  simp [Lit.wf, IntKind.min, IntKind.max, IntKind.bits, IntKind.signed] at wf; omega
section
variable {H : Type} {enc : TypeId × Value → H} {W : World} {base b0 : Nat} {sp : Nat → Bool} {held : Bool} {n : Nat} {r : Reach}
theorem cell_u8 {c : Value} {x : Option (DataW H × List MemPlace)} {y : DataW H × List MemPlace} (h : DataW.trod enc Tryd.prog W base sp held n 5 [c] = x) (hx : x = some y) : ∃ a, c = .int .u8 a ∧ (0 ≤ a ∧ a < 256) := by
  rw [hx] at h
  obtain ⟨b, e, _, wf⟩ := DataW.trod_int Tryd.underlying5 h
  refine ⟨b, by simpa using e, ?_⟩
  simp [Lit.wf, IntKind.min, IntKind.max, IntKind.bits, IntKind.signed] at wf; omega
theorem open_conf {v : Value} {d : DataW H} {p : List MemPlace} (hv : Value.okWide Tryd.prog W r b0 23 v) (h : DataW.Trod enc Tryd.prog W base sp held 23 v d p) :
    ∃ x0 x1 x2 x3, v = .agg #[.int .i64 x0, .int .i64 x1, .int .i64 x2, .int .i64 x3] := by
  obtain ⟨⟨l⟩, rfl, hsz⟩ := okWide_struct Tryd.underlying23 hv
  rw [show Tryd.prog.cellsOf 23 = 4 by kernel_rfl] at hsz
  obtain ⟨fuel, hf⟩ := h
  obtain ⟨xs, n, _, _, _, hlen, hfd⟩ := DataW.trod_struct Tryd.underlying23 hf
  match l, hsz with
  | [c0, c1, c2, c3], _ =>
    have g := fun i f (e : _ = some f) => hfd i f e
    have k4 : Tryd.prog.cellsOf 3 = 1 := by kernel_rfl
    have hl : xs.length = 4 := hlen
    have h0 : DataW.trod enc Tryd.prog W base sp held n 3 [c0] = xs[0]? := by have := g 0 _ rfl; simpa [Value.cells, k4] using this
    obtain ⟨y0, q0⟩ := Open.some_of hl (show 0 < 4 by decide)
    obtain ⟨x0, rfl, _⟩ := Open.cell_int (c := c0) h0 q0
    have h1 : DataW.trod enc Tryd.prog W base sp held n 3 [c1] = xs[1]? := by have := g 1 _ rfl; simpa [Value.cells, k4] using this
    obtain ⟨y1, q1⟩ := Open.some_of hl (show 1 < 4 by decide)
    obtain ⟨x1, rfl, _⟩ := Open.cell_int (c := c1) h1 q1
    have h2 : DataW.trod enc Tryd.prog W base sp held n 3 [c2] = xs[2]? := by have := g 2 _ rfl; simpa [Value.cells, k4] using this
    obtain ⟨y2, q2⟩ := Open.some_of hl (show 2 < 4 by decide)
    obtain ⟨x2, rfl, _⟩ := Open.cell_int (c := c2) h2 q2
    have h3 : DataW.trod enc Tryd.prog W base sp held n 3 [c3] = xs[3]? := by have := g 3 _ rfl; simpa [Value.cells, k4] using this
    obtain ⟨y3, q3⟩ := Open.some_of hl (show 3 < 4 by decide)
    obtain ⟨x3, rfl, _⟩ := Open.cell_int (c := c3) h3 q3
    exact ⟨x0, x1, x2, x3, rfl⟩
theorem open_deed {v : Value} {d : DataW H} {p : List MemPlace} (hv : Value.okWide Tryd.prog W r b0 53 v) (h : DataW.Trod enc Tryd.prog W base sp held 53 v d p) :
    ∃ x : Int × Int, v = .agg #[.int .u8 x.1, .int .u8 x.2] ∧ D8 x := by
  obtain ⟨⟨l⟩, rfl, hsz⟩ := okWide_struct Tryd.underlying53 hv
  rw [show Tryd.prog.cellsOf 53 = 2 by kernel_rfl] at hsz
  obtain ⟨fuel, hf⟩ := h
  obtain ⟨xs, n, _, _, _, hlen, hfd⟩ := DataW.trod_struct Tryd.underlying53 hf
  match l, hsz with
  | [c0, c1], _ =>
    have g := fun i f (e : _ = some f) => hfd i f e
    have k4 : Tryd.prog.cellsOf 5 = 1 := by kernel_rfl
    have hl : xs.length = 2 := hlen
    have h0 : DataW.trod enc Tryd.prog W base sp held n 5 [c0] = xs[0]? := by have := g 0 _ rfl; simpa [Value.cells, k4] using this
    obtain ⟨y0, q0⟩ := Open.some_of hl (show 0 < 2 by decide)
    obtain ⟨x0, rfl, u0⟩ := cell_u8 (c := c0) h0 q0
    have h1 : DataW.trod enc Tryd.prog W base sp held n 5 [c1] = xs[1]? := by have := g 1 _ rfl; simpa [Value.cells, k4] using this
    obtain ⟨y1, q1⟩ := Open.some_of hl (show 1 < 2 by decide)
    obtain ⟨x1, rfl, u1⟩ := cell_u8 (c := c1) h1 q1
    exact ⟨(x0, x1), rfl, u0, u1⟩
theorem addk (b off k : Nat) : (⟨b, off, none⟩ : Addr).add k = ⟨b, off + k, none⟩ := by
  unfold Addr.add; split
  · rename_i h; subst h; rfl
  · rfl
theorem flD_len (l : List (Int × Int)) : (flD l).length = l.length * 2 := by
  induction l with
  | nil => rfl
  | cons c l ih => show ((_ :: _ :: flD l).length) = _; simp only [List.length_cons, ih]; omega
theorem flD_get : ∀ (l : List (Int × Int)) (i : Nat) (c : Int × Int), l[i]? = some c → (flD l)[i * 2]? = some (.int .u8 c.1) ∧ (flD l)[i * 2 + 1]? = some (.int .u8 c.2)
  | [], i, c, h => by simp at h
  | x :: l, 0, c, h => by simp at h; subst h; exact ⟨rfl, rfl⟩
  | x :: l, i + 1, c, h => by
    have := flD_get l i c (by simpa using h)
    rw [show (i + 1) * 2 = i * 2 + 1 + 1 by omega]
    exact this
theorem open_deeds {v : Value} {d : DataW H} {p : List MemPlace} (hv : Value.okWide Tryd.prog W r b0 24 v) (h : DataW.Trod enc Tryd.prog W base (fun _ => true) held 24 v d p) :
    ∃ l : List (Int × Int), (∀ x ∈ l, D8 x) ∧ Ce.R (en0 (fun _ => True) W) (.s l.length 2 (flD l)) v := by
  obtain ⟨a, len, cap, rfl⟩ := okWide_slice Tryd.underlying24 hv
  obtain ⟨fuel, hf⟩ := h
  have hf : DataW.trod enc Tryd.prog W base (fun _ => true) held fuel 24 [.slice a len cap] = some (d, p) := hf
  rcases Deep.open_slice_pairs Tryd.underlying24 Tryd.underlying53 (by kernel_rfl) rfl rfl (by kernel_rfl) (by kernel_rfl) hf with ⟨e, _⟩ | ⟨a', len', cap', m, k, V0, V1, D0, D1, P0, P1, e, _, hl, hm, hmm, _, hx⟩
  · simp only [List.cons.injEq, and_true] at e
    refine ⟨[], fun x hx => (by cases hx), ?_⟩
    rw [e]
    exact ⟨⟨rfl, .inl ⟨rfl, rfl⟩⟩, fun a l c e => by cases e⟩
  · simp only [List.cons.injEq, and_true, Value.slice.injEq] at e
    obtain ⟨rfl, rfl, rfl⟩ := e
    have hok : Cell.ok Tryd.prog W r b0 24 (.slice (some a') len cap) := by
      have hv := hv
      unfold Value.okWide at hv
      rw [Tryd.underlying24] at hv
      unfold Cell.okWide at hv
      rw [Tryd.underlying24] at hv
      exact hv
    unfold Cell.ok at hok
    rw [Tryd.underlying24] at hok
    obtain ⟨_, _, _, hsp, row, cells, hsh, _⟩ := hok
    obtain ⟨b, off, spot⟩ := a'
    have hsp : spot = none := hsp
    subst hsp
    have hb : b < W.heap.size := by
      rcases Nat.lt_or_ge b W.heap.size with h | h
      · exact h
      · have hsh : W.shape? b = some (row, cells) := hsh
        unfold World.shape? at hsh
        rw [Array.getElem?_eq_none h] at hsh
        cases hsh
    have ku : ∀ i, i < len → ∃ c : Int × Int, V0 i = .int .u8 c.1 ∧ V1 i = .int .u8 c.2 ∧ D8 c := fun i hi => by
      obtain ⟨_, _, h0, h1⟩ := hx i (by rw [hmm]; simp; omega)
      obtain ⟨x0, e0, u0⟩ := cell_u8 h0 rfl
      obtain ⟨x1, e1, u1⟩ := cell_u8 h1 rfl
      exact ⟨(x0, x1), e0, e1, u0, u1⟩
    obtain ⟨f, hf⟩ := Deep.choose_lt (α := Int × Int) (p := fun i c => V0 i = .int .u8 c.1 ∧ V1 i = .int .u8 c.2 ∧ D8 c) ku
    have hlen : ((List.range len).map f).length = len := by simp
    refine ⟨(List.range len).map f, fun x hx => ?_, ⟨by rw [flD_len], .inr ⟨b, off, cap, by rw [hlen], hb, by rw [hlen]; exact hl, hm, fun i hi => ?_⟩⟩, fun _ _ _ _ => trivial⟩
    · obtain ⟨i, hi, rfl⟩ := List.mem_map.1 hx
      exact (hf i (List.mem_range.1 hi)).2.2
    · rw [hlen] at hi
      have hi2 : i / 2 < len := by omega
      obtain ⟨c0, c1, _, _⟩ := hx (i / 2) (by rw [hmm]; simp; omega)
      obtain ⟨e0, e1, _⟩ := hf (i / 2) hi2
      have hg := flD_get ((List.range len).map f) (i / 2) (f (i / 2)) (by simp [hi2])
      rcases (by omega : i = i / 2 * 2 ∨ i = i / 2 * 2 + 1) with e | e
      · rw [e, hg.1, ← e0]
        rw [addk] at c0
        exact c0
      · rw [e, hg.2, ← e1]
        rw [addk] at c1
        exact c1
end
end Go.Proofs.YtkffmaeiplgjeaaDoor.Laid
/- The abstract walk: a rule for one operation alone, told by its answer's name. -/
namespace Go.Proofs.YtkffmaeiplgjeaaDoor.Ax
open Go.RowKit Go.Proofs.YtkffmaeiplgjeaaDoor.MemL Go.Proofs.YtkffmaeiplgjeaaDoor.RegR
set_option linter.unusedVariables false
variable {P : Program} {ops : Array Oper} {X : Cx} {anc : Nat → Nat → Bool} {R : St → Prop} {T : List (Nat × List Rd × List Rd)} {S : St} {i : Nat} {r : List Nat} {o : Oper}
theorem nxt_dst (d : Tmp) (_ : o.dst = some d) (h : Nxt P ops X anc R T S i r o) : Nxt P ops X anc R T S i r o := h
end Go.Proofs.YtkffmaeiplgjeaaDoor.Ax
