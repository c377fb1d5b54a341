/- Texts of this claim, one behind the other: LaJ, Open, Laid. -/
import Derived.Test.YtmoccajgjnjelaaGreatDoorA5
import Derived.Test.YtmoccajgjnjelaaGreatDoorA2
import Derived.ProofKit
import Derived.Carry
import Derived.ChangeOld
import Derived.ChangeArms
import Derived.WideShapes
import Derived.Test.YtmoccajgjnjelaaGreatDoorRows
import Derived.LaidMore
import Derived.Lib.LaidTab
import Derived.SevenTiedAt
import Derived.LaidHandle
import Derived.Deep.SlicePairs
/- The abstract walk: the laws LayKeeps and LayMaps. -/
namespace Go.Proofs.YtmoccajgjnjelaaGreatDoor.LaJ
open Go.RowKit Go.Proofs.YtmoccajgjnjelaaGreatDoor.Bv Go.Proofs.YtmoccajgjnjelaaGreatDoor.VaSpec Go.Proofs.YtmoccajgjnjelaaGreatDoor.Base Go.Proofs.YtmoccajgjnjelaaGreatDoor.MemL Go.Proofs.YtmoccajgjnjelaaGreatDoor.RegR Go.Proofs.YtmoccajgjnjelaaGreatDoor.Ax Go.Proofs.YtmoccajgjnjelaaGreatDoor.MemC Go.Proofs.YtmoccajgjnjelaaGreatDoor.PutC Go.Proofs.YtmoccajgjnjelaaGreatDoor.MemC3 Go.Proofs.YtmoccajgjnjelaaGreatDoor.TzC Go.Proofs.YtmoccajgjnjelaaGreatDoor.OkS Go.Proofs.YtmoccajgjnjelaaGreatDoor.SpA Go.Proofs.YtmoccajgjnjelaaGreatDoor.SpB Go.Proofs.YtmoccajgjnjelaaGreatDoor.SpC Go.Proofs.YtmoccajgjnjelaaGreatDoor.SpD Go.Proofs.YtmoccajgjnjelaaGreatDoor.SpE Go.Proofs.YtmoccajgjnjelaaGreatDoor.SpF Go.Proofs.YtmoccajgjnjelaaGreatDoor.SpG Go.Proofs.YtmoccajgjnjelaaGreatDoor.SpH Go.Proofs.YtmoccajgjnjelaaGreatDoor.SpI Go.Proofs.YtmoccajgjnjelaaGreatDoor.SpJ Go.Proofs.YtmoccajgjnjelaaGreatDoor.SpK Go.Proofs.YtmoccajgjnjelaaGreatDoor.SpN Go.Proofs.YtmoccajgjnjelaaGreatDoor.RfD Go.Proofs.YtmoccajgjnjelaaGreatDoor.RfE Go.Proofs.YtmoccajgjnjelaaGreatDoor.LaA Go.Proofs.YtmoccajgjnjelaaGreatDoor.LaB Go.Proofs.YtmoccajgjnjelaaGreatDoor.LaC Go.Proofs.YtmoccajgjnjelaaGreatDoor.LaD Go.Proofs.YtmoccajgjnjelaaGreatDoor.LaE Go.Proofs.YtmoccajgjnjelaaGreatDoor.LaF Go.Proofs.YtmoccajgjnjelaaGreatDoor.LaG Go.Proofs.YtmoccajgjnjelaaGreatDoor.LaH Go.Proofs.YtmoccajgjnjelaaGreatDoor.LaI Go.Proofs.YtmoccajgjnjelaaGreatDoor.RlB Go.Proofs.YtmoccajgjnjelaaGreatDoor.RlC
open Go.Proofs.YtmoccajgjnjelaaGreatDoor.BitsC Go.Proofs.YtmoccajgjnjelaaGreatDoor.PteSpec
set_option linter.unusedVariables false
set_option linter.unusedSimpArgs false
set_option maxRecDepth 10000
set_option maxHeartbeats 1000000
attribute [local irreducible] Go.Proofs.YtmoccajgjnjelaaGreatDoor.Ax.CallOk
/-- a page that is asked for -/
structure Rq where
  id : Int
  va : Int
  pa : Int
  lev : Int
  p : Pm
deriving DecidableEq
def Rq.ce (q : Rq) : List Ce := [ci q.id, cu q.va, cu q.pa, ci q.lev, cb q.p.r, cb q.p.w, cb q.p.x, cb q.p.u]
def Rq.vs (q : Rq) : List Value := [.int .i64 q.id, .int .u64 q.va, .int .u64 q.pa, .int .i64 q.lev, .bool q.p.r, .bool q.p.w, .bool q.p.x, .bool q.p.u]
def UQ (q : Rq) : Prop := U q.va ∧ U q.pa
def flQ (l : List Rq) : List Value := l.flatMap Rq.vs
theorem flQ_at {l : List Rq} {k : Nat} {q : Rq} (h : l[k]? = some q) : ((flQ l).drop (k * 8)).take 8 = [.int .i64 q.id, .int .u64 q.va, .int .u64 q.pa, .int .i64 q.lev, .bool q.p.r, .bool q.p.w, .bool q.p.x, .bool q.p.u] := flat_at Rq.vs 8 (fun _ => rfl) l _ q h
theorem same_l {n : Nat} {k : Kr} (h : InvL n k) (hn : n ≤ 100000) : Ok 10 [.ag k.ce, .ag k.ce] (.m (ib true)) ∧ Ok 14 [.ag k.ce] (.m (.ag k.ce)) := by
  have b1 := h.ml
  have b2 := h.fl
  have b3 := h.sl
  exact ⟨SpM.same_ok k h.ts h.cs.2 (by omega) (by omega) (by omega), SpM.copied_ok k h.ts h.cs.2 (by omega) (by omega) (by omega)⟩
def mq (k : Kr) (q : Rq) : Kr × Int := mapR k q.id q.va q.pa q.lev q.p
theorem mq_ok {n : Nat} {k : Kr} (h : InvL n k) (hn : n ≤ 90000) (q : Rq) (hq : UQ q) : Ok 8 [.ag k.ce, ii q.id, iu q.va, iu q.pa, ii q.lev, .ag q.p.ce] (.tu [.ag (mq k q).1.ce, ii (mq k q).2]) := map_all h hn q.id q.va q.pa q.lev q.p hq.1 hq.2
theorem rmq_ok {n : Nat} {k : Kr} (h : InvL n k) (hn : n ≤ 90000) (q : Rq) (hq : UQ q) : Ok 9 [.ag k.ce, ii q.id, iu q.va, iu q.pa, ii q.lev, .ag q.p.ce] (.tu [.ag (mq k q).1.ce, ii (mq k q).2]) := rmap_all h hn q.id q.va q.pa q.lev q.p hq.1 hq.2
theorem mq_inv {n : Nat} {k : Kr} (h : InvL n k) (q : Rq) (hq : UQ q) : InvL (n + 3) (mq k q).1 := map_inv h hq.2
def keepsH (l : List Rq) (e : Rq) (i : Nat) (k : Kr) : St := St.of [(1, .m (.c (.s l.length 8 (flQ l)))), (5, .m (.c (.p 5 0))), (6, .m (ib false)), (7, .m (.c (.p 7 0))), (9, .m (ii i))] [(5, .live (.box e.ce)), (7, .live (.box k.ce))]
theorem keeps_ok (a b c d : Int) (l : List Rq) (e : Rq) (hl : ∀ x ∈ l, UQ x) (he : UQ e) : Ok 4 [confA a b c d, .c (.s l.length 8 (flQ l)), .ag e.ce] (.m (ib true)) := by
  have hm := rmay_ok a b c d
  cases hc : confB a b c d with
  | false =>
    rw [hc] at hm
    refine callOk_of 84 Tryz.func4 rfl rfl rfl rfl ?_ GG.to
    intro W A hG
    repeat (first
      | (refine go_at rfl ?_; first
          | refine go_do (valid_skip rfl) rfl ?_
          | refine go_do (valid_mv (.inl rfl) rfl) rfl ?_
          | (refine nxt_s 1 rfl ?_; refine go_do (valid_load_p tb rfl rfl rfl rfl rfl (by first | kernel_rfl | rfl)) (by first | kernel_rfl | rfl) ?_)
          | refine go_do (valid_mv (.inr rfl) rfl) rfl ?_
          | refine go_do (valid_pick rfl rfl rfl) rfl ?_
          | refine go_do (valid_box rfl rfl rfl rfl rfl rfl) rfl ?_
          | refine go_do (valid_not rfl rfl rfl) rfl ?_
          | refine go_do (valid_call rfl rfl rfl (awake_ok) (by kernel_rfl)) rfl ?_
          | refine go_do (valid_call rfl rfl rfl (hm) (by kernel_rfl)) rfl ?_)
      | (refine hK _ ?_; clear hK K)
      | refine aw_text rfl ?_
      | exact aw_ret (show resA _ _ _ = some _ by kernel_rfl)
      | refine aw_cond1 rfl rfl ?_
      | refine aw_seq_k (fun K hK => ?_))
  | true =>
    rw [hc] at hm
    by_cases hlen : 25 < l.length
    · refine callOk_of 84 Tryz.func4 rfl rfl rfl rfl ?_ GG.to
      intro W A hG
      repeat (first
        | (refine go_at rfl ?_; first
            | refine go_do (valid_mv (.inl rfl) rfl) rfl ?_
            | (refine nxt_s 1 rfl ?_; refine go_do (valid_load_p tb rfl rfl rfl rfl rfl (by first | kernel_rfl | rfl)) (by first | kernel_rfl | rfl) ?_)
            | refine go_do (valid_mv (.inr rfl) rfl) rfl ?_
            | refine go_do (valid_pick rfl rfl rfl) rfl ?_
            | refine go_do (valid_cmp rfl rfl rfl rfl (by first | exact .eql1 (by omega) | exact .eql0 (by omega) | exact .neq1 (by omega) | exact .neq0 (by omega) | exact .lss1 (by omega) | exact .lss0 (by omega) | exact .leq1 (by omega) | exact .leq0 (by omega) | exact .gtr1 (by omega) | exact .gtr0 (by omega) | exact .geq1 (by omega) | exact .geq0 (by omega) | constructor)) rfl ?_
            | refine go_do (valid_box rfl rfl rfl rfl rfl rfl) rfl ?_
            | refine go_do (valid_len_s rfl rfl rfl rfl) rfl ?_
            | refine go_do (valid_not rfl rfl rfl) rfl ?_
            | refine go_do (valid_call rfl rfl rfl (awake_ok) (by kernel_rfl)) rfl ?_
            | refine go_do (valid_call rfl rfl rfl (hm) (by kernel_rfl)) rfl ?_)
        | (refine hK _ ?_; clear hK K)
        | refine aw_text rfl ?_
        | exact aw_ret (show resA _ _ _ = some _ by kernel_rfl)
        | refine aw_cond1 rfl rfl ?_
        | refine aw_seq_k (fun K hK => ?_))
    obtain ⟨n, rfl⟩ := Int.eq_ofNat_of_zero_le (confB_iff.1 hc).2.2.2.1
    have hb := began_ok a b c n hc
    have hbi := (bg_inv hc).2.2
    generalize bgK a b c n = bk at *
    refine callOk_of 84 Tryz.func4 rfl rfl rfl rfl ?_ GG.to
    intro W A hG
    repeat (first
      | (refine go_at rfl ?_; first
          | refine go_do (valid_mv (.inl rfl) rfl) rfl ?_
          | (refine nxt_s 1 rfl ?_; refine go_do (valid_load_p tb rfl rfl rfl rfl rfl (by first | kernel_rfl | rfl)) (by first | kernel_rfl | rfl) ?_)
          | refine go_do (valid_mv (.inr rfl) rfl) rfl ?_
          | refine go_do (valid_pick rfl rfl rfl) rfl ?_
          | refine go_do (valid_extract rfl rfl rfl rfl) rfl ?_
          | refine go_do (valid_cmp rfl rfl rfl rfl (by first | exact .eql1 (by omega) | exact .eql0 (by omega) | exact .neq1 (by omega) | exact .neq0 (by omega) | exact .lss1 (by omega) | exact .lss0 (by omega) | exact .leq1 (by omega) | exact .leq0 (by omega) | exact .gtr1 (by omega) | exact .gtr0 (by omega) | exact .geq1 (by omega) | exact .geq0 (by omega) | constructor)) rfl ?_
          | refine go_do (valid_box rfl rfl rfl rfl rfl rfl) rfl ?_
          | refine go_do (valid_alloc rfl rfl rfl rfl rfl) rfl ?_
          | (refine nxt_s 1 rfl ?_; refine go_do (valid_store_p rfl rfl rfl rfl rfl rfl (by first | kernel_rfl | rfl) rfl) (by first | kernel_rfl | rfl) ?_)
          | refine go_do (valid_len_s rfl rfl rfl rfl) rfl ?_
          | refine go_do (valid_not rfl rfl rfl) rfl ?_
          | refine go_do (valid_call rfl rfl rfl (awake_ok) (by kernel_rfl)) rfl ?_
          | refine go_do (valid_call rfl rfl rfl (hm) (by kernel_rfl)) rfl ?_
          | refine go_do (valid_call rfl rfl rfl (hb) (by kernel_rfl)) rfl ?_)
      | (refine hK _ ?_; clear hK K)
      | refine aw_text rfl ?_
      | refine aw_cond0 rfl rfl ?_
      | refine aw_block ?_
      | refine aw_skip ?_
      | refine aw_seq_k (fun K hK => ?_))
    refine aw_loopH (α := Nat × Kr) (fun p => p.1 ≤ l.length ∧ InvL (2 + 3 * p.1) p.2) (fun p => keepsH l e p.1 p.2) (fun p => l.length - p.1) (0, bk) ⟨Nat.zero_le _, hbi⟩ (sub_of _ _ ⟨by kernel_rfl, by kernel_rfl, by kernel_rfl, by kernel_rfl, by kernel_rfl, trivial⟩ ⟨by kernel_rfl, by kernel_rfl, trivial⟩ (by kernel_rfl)) ?_
    rintro ⟨i, k⟩ ⟨hi0, hk0⟩
    have hi : i ≤ l.length := hi0
    have hk : InvL (2 + 3 * i) k := hk0
    show Aw _ _ _ _ (keepsH l e i k)
    unfold keepsH
    by_cases hlt : i < l.length
    · obtain ⟨x, hx0⟩ : ∃ x, l[i]? = some x := ⟨_, List.getElem?_eq_getElem hlt⟩
      have hx := flQ_at hx0
      have h8 := hl x (List.mem_of_getElem? hx0)
      have hd := mq_ok hk (by omega) x h8
      have hdi := mq_inv hk x h8
      generalize mq k x = rr at *
      repeat (first
        | (refine go_at rfl ?_; first
            | refine go_do (valid_mv (.inl rfl) rfl) rfl ?_
            | (refine nxt_s 1 rfl ?_; refine go_do (valid_load_p tb rfl rfl rfl rfl rfl (by first | kernel_rfl | rfl)) (by first | kernel_rfl | rfl) ?_)
            | refine go_do (valid_mv (.inr rfl) rfl) rfl ?_
            | refine go_do (valid_extract rfl rfl rfl rfl) rfl ?_
            | refine go_do (valid_cmp rfl rfl rfl rfl (by first | exact .eql1 (by omega) | exact .eql0 (by omega) | exact .neq1 (by omega) | exact .neq0 (by omega) | exact .lss1 (by omega) | exact .lss0 (by omega) | exact .leq1 (by omega) | exact .leq0 (by omega) | exact .gtr1 (by omega) | exact .gtr0 (by omega) | exact .geq1 (by omega) | exact .geq0 (by omega) | constructor)) rfl ?_
            | refine go_do (valid_ar rfl rfl rfl rfl (by constructor) (by first | exact wr_u64 (by omega) (by omega) | exact wr_i64 (by omega) (by omega) | rfl)) rfl ?_
            | (refine nxt_s 1 rfl ?_; refine go_do (valid_store_p rfl rfl rfl rfl rfl rfl (by first | kernel_rfl | rfl) rfl) (by first | kernel_rfl | rfl) ?_)
            | refine go_do (valid_len_s rfl rfl rfl rfl) rfl ?_
            | (refine nxt_s 3 rfl ?_; refine go_do (valid_load_q tb rfl rfl rfl rfl (by first | kernel_rfl | rfl)) rfl ?_)
            | (refine nxt_s 3 rfl ?_; refine go_do (valid_fld_q tb rfl rfl rfl rfl) rfl ?_)
            | (refine nxt_s 4 rfl ?_; refine go_do (valid_idx_s rfl rfl rfl rfl rfl rfl (by omega) (by omega) _ (by assumption)) rfl ?_)
            | refine go_do (valid_call rfl rfl rfl (hd) (by kernel_rfl)) rfl ?_)
        | (refine hK _ ?_; clear hK K)
        | refine aw_text rfl ?_
        | refine aw_any (by kernel_rfl) (by kernel_rfl) rfl ?_
        | refine aw_cond1 rfl rfl ?_
        | refine aw_block ?_
        | refine aw_skip ?_
        | refine aw_seq_k (fun K hK => ?_))
      exact ⟨(i + 1, rr.1), ⟨by show i + 1 ≤ l.length; omega, hdi⟩, by show l.length - (i + 1) < l.length - i; omega, sub_of _ _ ⟨by kernel_rfl, by kernel_rfl, by kernel_rfl, by kernel_rfl, by kernel_rfl, trivial⟩ ⟨by kernel_rfl, by kernel_rfl, trivial⟩ (by kernel_rfl)⟩
    · have hd := mq_ok hk (by omega) e he
      obtain ⟨hsm, hcp⟩ := same_l hk (by omega)
      have hls := list_all hk (by omega) 0
      generalize mq k e = rr at *
      generalize listR k 0 = ll at *
      repeat (first
        | (refine go_at rfl ?_; first
            | refine go_do (valid_mv (.inl rfl) rfl) rfl ?_
            | (refine nxt_s 1 rfl ?_; refine go_do (valid_load_p tb rfl rfl rfl rfl rfl (by first | kernel_rfl | rfl)) (by first | kernel_rfl | rfl) ?_)
            | (refine nxt_s 1 rfl ?_; refine go_do (valid_fld_p tb rfl rfl rfl (by kernel_rfl)) rfl ?_)
            | refine go_do (valid_mv (.inr rfl) rfl) rfl ?_
            | refine go_do (valid_cmp rfl rfl rfl rfl (by first | exact .eql1 (by omega) | exact .eql0 (by omega) | exact .neq1 (by omega) | exact .neq0 (by omega) | exact .lss1 (by omega) | exact .lss0 (by omega) | exact .leq1 (by omega) | exact .leq0 (by omega) | exact .gtr1 (by omega) | exact .gtr0 (by omega) | exact .geq1 (by omega) | exact .geq0 (by omega) | constructor)) rfl ?_
            | refine go_do (valid_alloc rfl rfl rfl rfl rfl) rfl ?_
            | (refine nxt_s 1 rfl ?_; refine go_do (valid_store_p rfl rfl rfl rfl rfl rfl (by first | kernel_rfl | rfl) rfl) (by first | kernel_rfl | rfl) ?_)
            | refine go_do (valid_len_s rfl rfl rfl rfl) rfl ?_
            | refine go_do (valid_call rfl rfl rfl (hcp) (by kernel_rfl)) rfl ?_
            | refine go_do (valid_call rfl rfl rfl (hd) (by kernel_rfl)) rfl ?_
            | refine go_do (valid_call rfl rfl rfl (hsm) (by kernel_rfl)) rfl ?_
            | refine go_do (valid_call rfl rfl rfl (hls) (by kernel_rfl)) rfl ?_)
        | (refine hK _ ?_; clear hK K)
        | (rename_i K1 hK1; refine hK1 _ ?_; clear hK hK1; clear K)
        | refine aw_text rfl ?_
        | exact aw_ret (show resA _ _ _ = some _ by kernel_rfl)
        | refine aw_cond0 rfl rfl ?_
        | refine aw_exit ?_
        | refine aw_seq_k (fun K hK => ?_))
def mapsH (l : List Rq) (id : Int) (i : Nat) (k : Kr) : St := St.of [(1, .m (.c (.s l.length 8 (flQ l)))), (2, .m (ii id)), (6, .m (ib false)), (7, .m (.c (.p 7 0))), (8, .m (.c (.p 8 0))), (9, .m (ii i))] [(7, .live (.box k.ce)), (8, .live (.box k.ce))]
def mapsJ (id j : Int) (k : Kr) : St := St.of [(2, .m (ii id)), (6, .m (ib false)), (7, .m (.c (.p 7 0))), (8, .m (.c (.p 8 0))), (14, .m (ii j))] [(7, .live (.box k.ce)), (8, .live (.box k.ce))]
theorem maps_ok (a b c d : Int) (l : List Rq) (id : Int) (hl : ∀ x ∈ l, UQ x) : Ok 3 [confA a b c d, .c (.s l.length 8 (flQ l)), ii id] (.m (ib true)) := by
  have hm := rmay_ok a b c d
  cases hc : confB a b c d with
  | false =>
    rw [hc] at hm
    refine callOk_of 129 Tryz.func3 rfl rfl rfl rfl ?_ GG.to
    intro W A hG
    repeat (first
      | (refine go_at rfl ?_; first
          | refine go_do (valid_skip rfl) rfl ?_
          | refine go_do (valid_mv (.inl rfl) rfl) rfl ?_
          | (refine nxt_s 1 rfl ?_; refine go_do (valid_load_p tb rfl rfl rfl rfl rfl (by first | kernel_rfl | rfl)) (by first | kernel_rfl | rfl) ?_)
          | refine go_do (valid_mv (.inr rfl) rfl) rfl ?_
          | refine go_do (valid_pick rfl rfl rfl) rfl ?_
          | refine go_do (valid_box rfl rfl rfl rfl rfl rfl) rfl ?_
          | refine go_do (valid_not rfl rfl rfl) rfl ?_
          | refine go_do (valid_call rfl rfl rfl (awake_ok) (by kernel_rfl)) rfl ?_
          | refine go_do (valid_call rfl rfl rfl (hm) (by kernel_rfl)) rfl ?_)
      | (refine hK _ ?_; clear hK K)
      | refine aw_text rfl ?_
      | exact aw_ret (show resA _ _ _ = some _ by kernel_rfl)
      | refine aw_cond1 rfl rfl ?_
      | refine aw_seq_k (fun K hK => ?_))
  | true =>
    rw [hc] at hm
    by_cases hlen : 40 < l.length
    · refine callOk_of 129 Tryz.func3 rfl rfl rfl rfl ?_ GG.to
      intro W A hG
      repeat (first
        | (refine go_at rfl ?_; first
            | refine go_do (valid_mv (.inl rfl) rfl) rfl ?_
            | (refine nxt_s 1 rfl ?_; refine go_do (valid_load_p tb rfl rfl rfl rfl rfl (by first | kernel_rfl | rfl)) (by first | kernel_rfl | rfl) ?_)
            | refine go_do (valid_mv (.inr rfl) rfl) rfl ?_
            | refine go_do (valid_pick rfl rfl rfl) rfl ?_
            | refine go_do (valid_cmp rfl rfl rfl rfl (by first | exact .eql1 (by omega) | exact .eql0 (by omega) | exact .neq1 (by omega) | exact .neq0 (by omega) | exact .lss1 (by omega) | exact .lss0 (by omega) | exact .leq1 (by omega) | exact .leq0 (by omega) | exact .gtr1 (by omega) | exact .gtr0 (by omega) | exact .geq1 (by omega) | exact .geq0 (by omega) | constructor)) rfl ?_
            | refine go_do (valid_box rfl rfl rfl rfl rfl rfl) rfl ?_
            | refine go_do (valid_len_s rfl rfl rfl rfl) rfl ?_
            | refine go_do (valid_not rfl rfl rfl) rfl ?_
            | refine go_do (valid_call rfl rfl rfl (awake_ok) (by kernel_rfl)) rfl ?_
            | refine go_do (valid_call rfl rfl rfl (hm) (by kernel_rfl)) rfl ?_)
        | (refine hK _ ?_; clear hK K)
        | refine aw_text rfl ?_
        | exact aw_ret (show resA _ _ _ = some _ by kernel_rfl)
        | refine aw_cond1 rfl rfl ?_
        | refine aw_seq_k (fun K hK => ?_))
    obtain ⟨n, rfl⟩ := Int.eq_ofNat_of_zero_le (confB_iff.1 hc).2.2.2.1
    have hb := began_ok a b c n hc
    have hbi := (bg_inv hc).2.2
    generalize bgK a b c n = bk at *
    refine callOk_of 129 Tryz.func3 rfl rfl rfl rfl ?_ GG.to
    intro W A hG
    repeat (first
      | (refine go_at rfl ?_; first
          | refine go_do (valid_mv (.inl rfl) rfl) rfl ?_
          | (refine nxt_s 1 rfl ?_; refine go_do (valid_load_p tb rfl rfl rfl rfl rfl (by first | kernel_rfl | rfl)) (by first | kernel_rfl | rfl) ?_)
          | refine go_do (valid_mv (.inr rfl) rfl) rfl ?_
          | refine go_do (valid_pick rfl rfl rfl) rfl ?_
          | refine go_do (valid_extract rfl rfl rfl rfl) rfl ?_
          | refine go_do (valid_cmp rfl rfl rfl rfl (by first | exact .eql1 (by omega) | exact .eql0 (by omega) | exact .neq1 (by omega) | exact .neq0 (by omega) | exact .lss1 (by omega) | exact .lss0 (by omega) | exact .leq1 (by omega) | exact .leq0 (by omega) | exact .gtr1 (by omega) | exact .gtr0 (by omega) | exact .geq1 (by omega) | exact .geq0 (by omega) | constructor)) rfl ?_
          | refine go_do (valid_box rfl rfl rfl rfl rfl rfl) rfl ?_
          | refine go_do (valid_alloc rfl rfl rfl rfl rfl) rfl ?_
          | (refine nxt_s 1 rfl ?_; refine go_do (valid_store_p rfl rfl rfl rfl rfl rfl (by first | kernel_rfl | rfl) rfl) (by first | kernel_rfl | rfl) ?_)
          | refine go_do (valid_len_s rfl rfl rfl rfl) rfl ?_
          | refine go_do (valid_not rfl rfl rfl) rfl ?_
          | refine go_do (valid_call rfl rfl rfl (awake_ok) (by kernel_rfl)) rfl ?_
          | refine go_do (valid_call rfl rfl rfl (hm) (by kernel_rfl)) rfl ?_
          | refine go_do (valid_call rfl rfl rfl (hb) (by kernel_rfl)) rfl ?_)
      | (refine hK _ ?_; clear hK K)
      | refine aw_text rfl ?_
      | refine aw_cond0 rfl rfl ?_
      | refine aw_block ?_
      | refine aw_skip ?_
      | refine aw_seq_k (fun K hK => ?_))
    refine aw_loopH (α := Nat × Kr) (fun p => p.1 ≤ l.length ∧ InvL (2 + 3 * p.1) p.2) (fun p => mapsH l id p.1 p.2) (fun p => l.length - p.1) (0, bk) ⟨Nat.zero_le _, hbi⟩ (sub_of _ _ ⟨by kernel_rfl, by kernel_rfl, by kernel_rfl, by kernel_rfl, by kernel_rfl, by kernel_rfl, trivial⟩ ⟨by kernel_rfl, by kernel_rfl, trivial⟩ (by kernel_rfl)) ?_
    rintro ⟨i, k⟩ ⟨hi0, hk0⟩
    have hi : i ≤ l.length := hi0
    have hk : InvL (2 + 3 * i) k := hk0
    show Aw _ _ _ _ (mapsH l id i k)
    unfold mapsH
    by_cases hlt : i < l.length
    · obtain ⟨x, hx0⟩ : ∃ x, l[i]? = some x := ⟨_, List.getElem?_eq_getElem hlt⟩
      have hx := flQ_at hx0
      have h8 := hl x (List.mem_of_getElem? hx0)
      have hd := mq_ok hk (by omega) x h8
      have hd2 := rmq_ok hk (by omega) x h8
      have hdi := mq_inv hk x h8
      generalize mq k x = rr at *
      obtain ⟨hsm, -⟩ := same_l hdi (by omega)
      repeat (first
        | (refine go_at rfl ?_; first
            | refine go_do (valid_mv (.inl rfl) rfl) rfl ?_
            | (refine nxt_s 1 rfl ?_; refine go_do (valid_load_p tb rfl rfl rfl rfl rfl (by first | kernel_rfl | rfl)) (by first | kernel_rfl | rfl) ?_)
            | refine go_do (valid_mv (.inr rfl) rfl) rfl ?_
            | refine go_do (valid_pick rfl rfl rfl) rfl ?_
            | refine go_do (valid_extract rfl rfl rfl rfl) rfl ?_
            | refine go_do (valid_cmp rfl rfl rfl rfl (by first | exact .eql1 (by omega) | exact .eql0 (by omega) | exact .neq1 (by omega) | exact .neq0 (by omega) | exact .lss1 (by omega) | exact .lss0 (by omega) | exact .leq1 (by omega) | exact .leq0 (by omega) | exact .gtr1 (by omega) | exact .gtr0 (by omega) | exact .geq1 (by omega) | exact .geq0 (by omega) | constructor)) rfl ?_
            | refine go_do (valid_ar rfl rfl rfl rfl (by constructor) (by first | exact wr_u64 (by omega) (by omega) | exact wr_i64 (by omega) (by omega) | rfl)) rfl ?_
            | refine go_do (valid_alloc rfl rfl rfl rfl rfl) rfl ?_
            | (refine nxt_s 1 rfl ?_; refine go_do (valid_store_p rfl rfl rfl rfl rfl rfl (by first | kernel_rfl | rfl) rfl) (by first | kernel_rfl | rfl) ?_)
            | refine go_do (valid_len_s rfl rfl rfl rfl) rfl ?_
            | (refine nxt_s 3 rfl ?_; refine go_do (valid_load_q tb rfl rfl rfl rfl (by first | kernel_rfl | rfl)) rfl ?_)
            | (refine nxt_s 3 rfl ?_; refine go_do (valid_fld_q tb rfl rfl rfl rfl) rfl ?_)
            | refine go_do (valid_not rfl rfl rfl) rfl ?_
            | (refine nxt_s 4 rfl ?_; refine go_do (valid_idx_s rfl rfl rfl rfl rfl rfl (by omega) (by omega) _ (by assumption)) rfl ?_)
            | refine go_do (valid_call rfl rfl rfl (hd) (by kernel_rfl)) rfl ?_
            | refine go_do (valid_call rfl rfl rfl (hd2) (by kernel_rfl)) rfl ?_
            | refine go_do (valid_call rfl rfl rfl (hsm) (by kernel_rfl)) rfl ?_)
        | (refine hK _ ?_; clear hK K)
        | refine aw_text rfl ?_
        | refine aw_any (by kernel_rfl) (by kernel_rfl) rfl ?_
        | refine aw_cond1 rfl rfl ?_
        | refine aw_cond0 rfl rfl ?_
        | refine aw_block ?_
        | refine aw_skip ?_
        | refine aw_seq_k (fun K hK => ?_))
      exact ⟨(i + 1, rr.1), ⟨by show i + 1 ≤ l.length; omega, hdi⟩, by show l.length - (i + 1) < l.length - i; omega, sub_of _ _ ⟨by kernel_rfl, by kernel_rfl, by kernel_rfl, by kernel_rfl, by kernel_rfl, by kernel_rfl, trivial⟩ ⟨by kernel_rfl, by kernel_rfl, trivial⟩ (by kernel_rfl)⟩
    · have hls : ∀ j, Ok 12 [.ag k.ce, ii j] (.m (.c (.s (listR k j).length 8 (flP (listR k j))))) := fun j => list_all hk (by omega) j
      have hlr : ∀ j, Ok 13 [.ag k.ce, ii j] (.m (.c (.s (listR k j).length 8 (flP (listR k j))))) := fun j => rlist_all hk (by omega) j
      have hsm : ∀ j, Ok 11 [.c (.s (listR k j).length 8 (flP (listR k j))), .c (.s (listR k j).length 8 (flP (listR k j)))] (.m (ib true)) := fun j => samep_ok (listR k j) (listR_len k j)
      repeat (first
        | (refine go_at rfl ?_; first
            | refine go_do (valid_mv (.inl rfl) rfl) rfl ?_
            | refine go_do (valid_mv (.inr rfl) rfl) rfl ?_
            | refine go_do (valid_cmp rfl rfl rfl rfl (by first | exact .eql1 (by omega) | exact .eql0 (by omega) | exact .neq1 (by omega) | exact .neq0 (by omega) | exact .lss1 (by omega) | exact .lss0 (by omega) | exact .leq1 (by omega) | exact .leq0 (by omega) | exact .gtr1 (by omega) | exact .gtr0 (by omega) | exact .geq1 (by omega) | exact .geq0 (by omega) | constructor)) rfl ?_
            | refine go_do (valid_len_s rfl rfl rfl rfl) rfl ?_)
        | (refine hK _ ?_; clear hK K)
        | (rename_i K1 hK1; refine hK1 _ ?_; clear hK hK1; clear K)
        | refine aw_text rfl ?_
        | refine aw_cond0 rfl rfl ?_
        | refine aw_block ?_
        | refine aw_exit ?_
        | refine aw_seq_k (fun K hK => ?_))
      refine aw_loopH (α := Int) (fun j => -1 ≤ j ∧ j ≤ 3) (fun j => mapsJ id j k) (fun j => (3 - j).toNat) (-1) ⟨by omega, by omega⟩ (sub_of _ _ ⟨by kernel_rfl, by kernel_rfl, by kernel_rfl, by kernel_rfl, by kernel_rfl, trivial⟩ ⟨by kernel_rfl, by kernel_rfl, trivial⟩ (by kernel_rfl)) ?_
      rintro j ⟨j0, j1⟩
      show Aw _ _ _ _ (mapsJ id j k)
      unfold mapsJ
      by_cases hj : j < 3
      · have h1 := hls j
        have h2 := hlr j
        have h3 := hsm j
        generalize listR k j = lj at *
        repeat (first
          | (refine go_at rfl ?_; first
              | refine go_do (valid_mv (.inl rfl) rfl) rfl ?_
              | (refine nxt_s 1 rfl ?_; refine go_do (valid_load_p tb rfl rfl rfl rfl rfl (by first | kernel_rfl | rfl)) (by first | kernel_rfl | rfl) ?_)
              | refine go_do (valid_mv (.inr rfl) rfl) rfl ?_
              | refine go_do (valid_cmp rfl rfl rfl rfl (by first | exact .eql1 (by omega) | exact .eql0 (by omega) | exact .neq1 (by omega) | exact .neq0 (by omega) | exact .lss1 (by omega) | exact .lss0 (by omega) | exact .leq1 (by omega) | exact .leq0 (by omega) | exact .gtr1 (by omega) | exact .gtr0 (by omega) | exact .geq1 (by omega) | exact .geq0 (by omega) | constructor)) rfl ?_
              | refine go_do (valid_ar rfl rfl rfl rfl (by constructor) (by first | exact wr_u64 (by omega) (by omega) | exact wr_i64 (by omega) (by omega) | rfl)) rfl ?_
              | refine go_do (valid_not rfl rfl rfl) rfl ?_
              | refine go_do (valid_call rfl rfl rfl (h1) (by kernel_rfl)) rfl ?_
              | refine go_do (valid_call rfl rfl rfl (h2) (by kernel_rfl)) rfl ?_
              | refine go_do (valid_call rfl rfl rfl (h3) (by kernel_rfl)) rfl ?_)
          | (refine hK _ ?_; clear hK K)
          | refine aw_text rfl ?_
          | refine aw_any (by kernel_rfl) (by kernel_rfl) rfl ?_
          | refine aw_cond1 rfl rfl ?_
          | refine aw_cond0 rfl rfl ?_
          | refine aw_block ?_
          | refine aw_skip ?_
          | refine aw_seq_k (fun K hK => ?_))
        exact ⟨j + 1, ⟨by omega, by omega⟩, by show (3 - (j + 1)).toNat < (3 - j).toNat; omega, sub_of _ _ ⟨by kernel_rfl, by kernel_rfl, by kernel_rfl, by kernel_rfl, by kernel_rfl, trivial⟩ ⟨by kernel_rfl, by kernel_rfl, trivial⟩ (by kernel_rfl)⟩
      · have h1 := hls id
        have h2 := hlr id
        have h3 := hsm id
        generalize listR k id = lj at *
        repeat (first
          | (refine go_at rfl ?_; first
              | refine go_do (valid_mv (.inl rfl) rfl) rfl ?_
              | (refine nxt_s 1 rfl ?_; refine go_do (valid_load_p tb rfl rfl rfl rfl rfl (by first | kernel_rfl | rfl)) (by first | kernel_rfl | rfl) ?_)
              | refine go_do (valid_mv (.inr rfl) rfl) rfl ?_
              | refine go_do (valid_cmp rfl rfl rfl rfl (by first | exact .eql1 (by omega) | exact .eql0 (by omega) | exact .neq1 (by omega) | exact .neq0 (by omega) | exact .lss1 (by omega) | exact .lss0 (by omega) | exact .leq1 (by omega) | exact .leq0 (by omega) | exact .gtr1 (by omega) | exact .gtr0 (by omega) | exact .geq1 (by omega) | exact .geq0 (by omega) | constructor)) rfl ?_
              | refine go_do (valid_call rfl rfl rfl (h1) (by kernel_rfl)) rfl ?_
              | refine go_do (valid_call rfl rfl rfl (h2) (by kernel_rfl)) rfl ?_
              | refine go_do (valid_call rfl rfl rfl (h3) (by kernel_rfl)) rfl ?_)
          | (refine hK _ ?_; clear hK K)
          | (rename_i K1 hK1; refine hK1 _ ?_; clear hK hK1; clear K)
          | refine aw_text rfl ?_
          | refine aw_any (by kernel_rfl) (by kernel_rfl) rfl ?_
          | exact aw_ret (show resA _ _ _ = some _ by kernel_rfl)
          | refine aw_cond0 rfl rfl ?_
          | refine aw_exit ?_
          | refine aw_seq_k (fun K hK => ?_))
end Go.Proofs.YtmoccajgjnjelaaGreatDoor.LaJ
/- Arguments opened (structs by value), and all arguments read again where nothing below has changed. -/
namespace Go.Proofs.YtmoccajgjnjelaaGreatDoor.Open
open Go.RowKit Go.WideShapes Go.ChangeShapes Go.Proofs.YtmoccajgjnjelaaGreatDoor.Base
set_option linter.unusedVariables false
set_option linter.unusedSimpArgs false
set_option maxRecDepth 10000
section
variable {H : Type} {enc : TypeId × Value → H} {P : Program}
theorem keepAll (hl : laidOutB P = true) {W W' : World} (hb : Below W.heap.size W W') : ∀ {ts : List TypeId} {vs : List Value} {ds : List (DataW H)} {ps : List MemPlace},
    (ts.all fun t => P.readableRec t && decide (t < P.types.size)) = true → DataW.TrodAll enc P W 0 (fun _ => true) true ts vs ds ps → DataW.TrodAll enc P W' 0 (fun b => decide (b < W.heap.size)) true ts vs ds ps
  | [], [], [], _, _, h => h
  | t :: ts, v :: vs, d :: ds, ps, ht, ⟨a, b, h1, h2, e⟩ => by
    simp only [List.all_cons, Bool.and_eq_true, decide_eq_true_eq] at ht
    have h1' := h1
    obtain ⟨n, hn⟩ := h1
    exact ⟨a, b, Below.trod hl ht.1.1 ht.1.2 h1' hb (fun x hx => DataW.trod_lt n t _ _ hn x hx), keepAll hl hb ht.2 h2, e⟩
end
section
variable {H : Type} {enc : TypeId × Value → H} {W : World} {base b0 : Nat} {sp : Nat → Bool} {held : Bool} {n : Nat} {r : Reach}
theorem cell_bool {c : Value} {x : Option (DataW H × List MemPlace)} {y : DataW H × List MemPlace} (h : DataW.trod enc Tryz.prog W base sp held n 4 [c] = x) (hx : x = some y) : ∃ b, c = .bool b := by
  rw [hx] at h
  obtain ⟨b, e, _⟩ := DataW.trod_bool Tryz.underlying4 h
  exact ⟨b, by simpa using e⟩
theorem cell_u64 {c : Value} {x : Option (DataW H × List MemPlace)} {y : DataW H × List MemPlace} (h : DataW.trod enc Tryz.prog W base sp held n 27 [c] = x) (hx : x = some y) : ∃ a, c = .int .u64 a ∧ U a := by
  rw [hx] at h
  obtain ⟨b, e, _, wf⟩ := DataW.trod_int Tryz.underlying27 h
  exact ⟨b, by simpa using e, U.of wf⟩
theorem cell_int {c : Value} {x : Option (DataW H × List MemPlace)} {y : DataW H × List MemPlace} (h : DataW.trod enc Tryz.prog W base sp held n 3 [c] = x) (hx : x = some y) : ∃ a, c = .int .i64 a ∧ (-9223372036854775808 ≤ a ∧ a ≤ 9223372036854775807) := by
  rw [hx] at h
  obtain ⟨b, e, _, wf⟩ := DataW.trod_int Tryz.underlying3 h
  refine ⟨b, by simpa using e, ?_⟩
  simp [Lit.wf, IntKind.min, IntKind.max, IntKind.bits, IntKind.signed] at wf; omega
theorem some_of {α : Type} {xs : List α} {m i : Nat} (h : xs.length = m) (hi : i < m) : ∃ y, xs[i]? = some y := ⟨xs[i]'(by omega), List.getElem?_eq_getElem _⟩
theorem open_pte {v : Value} {d : DataW H} {p : List MemPlace} (hv : Value.okWide Tryz.prog W r b0 76 v) (h : DataW.Trod enc Tryz.prog W base sp held 76 v d p) :
    ∃ x0 x1 x2 x3 x4 x5 x6 x7 x8 x9 x10, v = .agg #[.bool x0, .bool x1, .bool x2, .bool x3, .bool x4, .bool x5, .bool x6, .bool x7, .int .u64 x8, .int .u64 x9, .int .u64 x10] ∧ U x8 ∧ U x9 ∧ U x10 := by
  obtain ⟨⟨l⟩, rfl, hsz⟩ := okWide_struct Tryz.underlying76 hv
  rw [show Tryz.prog.cellsOf 76 = 11 by kernel_rfl] at hsz
  obtain ⟨fuel, hf⟩ := h
  obtain ⟨xs, n, _, _, _, hlen, hfd⟩ := DataW.trod_struct Tryz.underlying76 hf
  match l, hsz with
  | [c0, c1, c2, c3, c4, c5, c6, c7, c8, c9, c10], _ =>
    have g := fun i f (e : _ = some f) => hfd i f e
    have k4 : Tryz.prog.cellsOf 4 = 1 := by kernel_rfl
    have k64 : Tryz.prog.cellsOf 27 = 1 := by kernel_rfl
    have h0 : DataW.trod enc Tryz.prog W base sp held n 4 [c0] = xs[0]? := by have := g 0 _ rfl; simpa [Value.cells, k4, k64] using this
    have h1 : DataW.trod enc Tryz.prog W base sp held n 4 [c1] = xs[1]? := by have := g 1 _ rfl; simpa [Value.cells, k4, k64] using this
    have h2 : DataW.trod enc Tryz.prog W base sp held n 4 [c2] = xs[2]? := by have := g 2 _ rfl; simpa [Value.cells, k4, k64] using this
    have h3 : DataW.trod enc Tryz.prog W base sp held n 4 [c3] = xs[3]? := by have := g 3 _ rfl; simpa [Value.cells, k4, k64] using this
    have h4 : DataW.trod enc Tryz.prog W base sp held n 4 [c4] = xs[4]? := by have := g 4 _ rfl; simpa [Value.cells, k4, k64] using this
    have h5 : DataW.trod enc Tryz.prog W base sp held n 4 [c5] = xs[5]? := by have := g 5 _ rfl; simpa [Value.cells, k4, k64] using this
    have h6 : DataW.trod enc Tryz.prog W base sp held n 4 [c6] = xs[6]? := by have := g 6 _ rfl; simpa [Value.cells, k4, k64] using this
    have h7 : DataW.trod enc Tryz.prog W base sp held n 4 [c7] = xs[7]? := by have := g 7 _ rfl; simpa [Value.cells, k4, k64] using this
    have h8 : DataW.trod enc Tryz.prog W base sp held n 27 [c8] = xs[8]? := by have := g 8 _ rfl; simpa [Value.cells, k4, k64] using this
    have h9 : DataW.trod enc Tryz.prog W base sp held n 27 [c9] = xs[9]? := by have := g 9 _ rfl; simpa [Value.cells, k4, k64] using this
    have h10 : DataW.trod enc Tryz.prog W base sp held n 27 [c10] = xs[10]? := by have := g 10 _ rfl; simpa [Value.cells, k4, k64] using this
    have hl : xs.length = 11 := hlen
    obtain ⟨y0, q0⟩ := some_of hl (show 0 < 11 by decide)
    obtain ⟨y1, q1⟩ := some_of hl (show 1 < 11 by decide)
    obtain ⟨y2, q2⟩ := some_of hl (show 2 < 11 by decide)
    obtain ⟨y3, q3⟩ := some_of hl (show 3 < 11 by decide)
    obtain ⟨y4, q4⟩ := some_of hl (show 4 < 11 by decide)
    obtain ⟨y5, q5⟩ := some_of hl (show 5 < 11 by decide)
    obtain ⟨y6, q6⟩ := some_of hl (show 6 < 11 by decide)
    obtain ⟨y7, q7⟩ := some_of hl (show 7 < 11 by decide)
    obtain ⟨y8, q8⟩ := some_of hl (show 8 < 11 by decide)
    obtain ⟨y9, q9⟩ := some_of hl (show 9 < 11 by decide)
    obtain ⟨y10, q10⟩ := some_of hl (show 10 < 11 by decide)
    obtain ⟨x0, rfl⟩ := cell_bool (c := c0) h0 q0
    obtain ⟨x1, rfl⟩ := cell_bool (c := c1) h1 q1
    obtain ⟨x2, rfl⟩ := cell_bool (c := c2) h2 q2
    obtain ⟨x3, rfl⟩ := cell_bool (c := c3) h3 q3
    obtain ⟨x4, rfl⟩ := cell_bool (c := c4) h4 q4
    obtain ⟨x5, rfl⟩ := cell_bool (c := c5) h5 q5
    obtain ⟨x6, rfl⟩ := cell_bool (c := c6) h6 q6
    obtain ⟨x7, rfl⟩ := cell_bool (c := c7) h7 q7
    obtain ⟨x8, rfl, u8⟩ := cell_u64 (c := c8) h8 q8
    obtain ⟨x9, rfl, u9⟩ := cell_u64 (c := c9) h9 q9
    obtain ⟨x10, rfl, u10⟩ := cell_u64 (c := c10) h10 q10
    exact ⟨x0, x1, x2, x3, x4, x5, x6, x7, x8, x9, x10, rfl, u8, u9, u10⟩
theorem open_perm {v : Value} {d : DataW H} {p : List MemPlace} (hv : Value.okWide Tryz.prog W r b0 52 v) (h : DataW.Trod enc Tryz.prog W base sp held 52 v d p) :
    ∃ x0 x1 x2 x3, v = .agg #[.bool x0, .bool x1, .bool x2, .bool x3] := by
  obtain ⟨⟨l⟩, rfl, hsz⟩ := okWide_struct Tryz.underlying52 hv
  rw [show Tryz.prog.cellsOf 52 = 4 by kernel_rfl] at hsz
  obtain ⟨fuel, hf⟩ := h
  obtain ⟨xs, n, _, _, _, hlen, hfd⟩ := DataW.trod_struct Tryz.underlying52 hf
  match l, hsz with
  | [c0, c1, c2, c3], _ =>
    have g := fun i f (e : _ = some f) => hfd i f e
    have k4 : Tryz.prog.cellsOf 4 = 1 := by kernel_rfl
    have hl : xs.length = 4 := hlen
    have h0 : DataW.trod enc Tryz.prog W base sp held n 4 [c0] = xs[0]? := by have := g 0 _ rfl; simpa [Value.cells, k4] using this
    obtain ⟨y0, q0⟩ := some_of hl (show 0 < 4 by decide)
    obtain ⟨x0, rfl⟩ := cell_bool (c := c0) h0 q0
    have h1 : DataW.trod enc Tryz.prog W base sp held n 4 [c1] = xs[1]? := by have := g 1 _ rfl; simpa [Value.cells, k4] using this
    obtain ⟨y1, q1⟩ := some_of hl (show 1 < 4 by decide)
    obtain ⟨x1, rfl⟩ := cell_bool (c := c1) h1 q1
    have h2 : DataW.trod enc Tryz.prog W base sp held n 4 [c2] = xs[2]? := by have := g 2 _ rfl; simpa [Value.cells, k4] using this
    obtain ⟨y2, q2⟩ := some_of hl (show 2 < 4 by decide)
    obtain ⟨x2, rfl⟩ := cell_bool (c := c2) h2 q2
    have h3 : DataW.trod enc Tryz.prog W base sp held n 4 [c3] = xs[3]? := by have := g 3 _ rfl; simpa [Value.cells, k4] using this
    obtain ⟨y3, q3⟩ := some_of hl (show 3 < 4 by decide)
    obtain ⟨x3, rfl⟩ := cell_bool (c := c3) h3 q3
    exact ⟨x0, x1, x2, x3, rfl⟩
end
end Go.Proofs.YtmoccajgjnjelaaGreatDoor.Open
/- What the program's text lays ahead of the call; arguments opened: configurations, pages that are asked for. -/
namespace Go.Proofs.YtmoccajgjnjelaaGreatDoor.Laid
open Go.ChangeShapes Go.WideShapes Go.ChangeAt Go.RowKit Go.Proofs.YtmoccajgjnjelaaGreatDoor.Ax Go.Proofs.YtmoccajgjnjelaaGreatDoor.OkS Go.Proofs.YtmoccajgjnjelaaGreatDoor.LaJ Go.Proofs.YtmoccajgjnjelaaGreatDoor.MemL
set_option linter.unusedVariables false
set_option linter.unusedSimpArgs false
set_option maxRecDepth 10000
def laidS : List (String × DataW Unit) := [("atlas/va.sizes", Rows.laid_atlas_va_sizes), ("math/bits.deBruijn64tab", Rows.laid_math_bits_deBruijn64tab), ("atlas/fence.asks", Rows.laid_atlas_fence_asks)]
theorem g_sizes : Tryz.prog.globalNamed "atlas/va.sizes" = some 0 := by kernel_rfl
theorem g_tab : Tryz.prog.globalNamed "math/bits.deBruijn64tab" = some 1 := by kernel_rfl
theorem g_asks : Tryz.prog.globalNamed "atlas/fence.asks" = some 2 := by kernel_rfl
theorem t_sizes : (Tryz.prog.globals[0]?).map (·.type) = some 133 := by kernel_rfl
theorem t_tab : (Tryz.prog.globals[1]?).map (·.type) = some 177 := by kernel_rfl
theorem t_asks : (Tryz.prog.globals[2]?).map (·.type) = some 196 := by kernel_rfl
theorem gg_of_laid {W : World} (h : laidMetH Tryz.prog laidS W) : GG W := by
  have hp := (show laidMet Tryz.prog _ W ∧ handlesMet Tryz.prog _ W from h).1
  obtain ⟨ps, ⟨g1, t1, cs1, f1, p1, q1, hg1, ht1, hv1, hd1, hr, _⟩, _, _⟩ := hp
  obtain ⟨g2, t2, cs2, f2, p2, q2, hg2, ht2, hv2, hd2, _, _⟩ := hr
  obtain rfl := Option.some.inj (g_sizes.symm.trans hg1)
  obtain rfl := Option.some.inj (t_sizes.symm.trans ht1)
  obtain rfl := Option.some.inj (g_tab.symm.trans hg2)
  obtain rfl := Option.some.inj (t_tab.symm.trans ht2)
  have e1 := Lib.cells_of_tab (k := .u64) (zs := [4096, 2097152, 1073741824]) Tryz.underlying133 Tryz.underlying27 (by kernel_rfl) (by kernel_rfl) hd1
  have e2 := Lib.cells_of_tab (k := .u8) (zs := List.map (fun n : Nat => (n : Int)) Lib.deBruijn64tab) Tryz.underlying177 Tryz.underlying5 (by kernel_rfl) (by kernel_rfl) hd2
  obtain ⟨g, t, cs, fuel, p, hg, ht, hv, hd⟩ := h.funcs (n := "atlas/fence.asks") (List.mem_cons_of_mem _ (List.mem_cons_of_mem _ (List.mem_cons_self ..)))
  obtain rfl := Option.some.inj (g_asks.symm.trans hg)
  obtain rfl := Option.some.inj (t_asks.symm.trans ht)
  have hd' : DataW.trod (funcToken Tryz.prog) Tryz.prog W 0 (fun _ => true) true fuel 196 cs.toList = some (.slice [.held [40, 97, 116, 108, 97, 115, 47, 102, 101, 110, 99, 101, 46, 102, 111, 114, 109, 41, 46, 97, 100, 100, 114], .held [40, 97, 116, 108, 97, 115, 47, 102, 101, 110, 99, 101, 46, 102, 111, 114, 109, 41, 46, 97, 115, 105, 100]] [], p) := hd
  obtain ⟨a, cap, hcs, _, hel⟩ := open_row Tryz.underlying196 (by kernel_rfl) hd'
  obtain ⟨v0, n0, q0, hc0, hr0⟩ := hel 0 _ rfl
  obtain ⟨v1, n1, q1', hc1, hr1⟩ := hel 1 _ rfl
  obtain rfl := func_of_trod (f0 := 170) Tryz.underlying197 (by kernel_rfl) hr0
  obtain rfl := func_of_trod (f0 := 172) Tryz.underlying197 (by kernel_rfl) hr1
  obtain ⟨b, off, spot⟩ := a
  have hspot : spot = none := by simpa [Addr.add] using World.cell?_spot hc0
  subst hspot
  have c1 : ∀ i, W.cell? ⟨0, i, none⟩ = cs1[i]? := fun i => by simpa using World.var?_cell hg1 hv1 i
  have c2 : ∀ i, W.cell? ⟨1, i, none⟩ = cs2[i]? := fun i => by simpa using World.var?_cell hg2 hv2 i
  have c3 : ∀ i, W.cell? ⟨2, i, none⟩ = cs[i]? := fun i => by simpa using World.var?_cell hg hv i
  refine ⟨⟨?_, ?_, ?_⟩, fun j hj => ?_, b, off, cap, ?_, by simpa [Addr.add, askF] using hc0, by simpa [Addr.add, askF] using hc1⟩
  · rw [c1, ← Array.getElem?_toList, e1]; rfl
  · rw [c1, ← Array.getElem?_toList, e1]; rfl
  · rw [c1, ← Array.getElem?_toList, e1]; rfl
  · rw [c2, ← Array.getElem?_toList, e2]
    simp [List.getD, hj]
  · rw [c3, ← Array.getElem?_toList, hcs]; rfl
theorem u8_of {a : Int} (wf : (Lit.int .u8 a).wf = true) : 0 ≤ a ∧ a < 256 := by
  simp [Lit.wf, IntKind.min, IntKind.max, IntKind.bits, IntKind.signed] at wf; omega
section
variable {H : Type} {enc : TypeId × Value → H} {W : World} {base b0 : Nat} {sp : Nat → Bool} {held : Bool} {n : Nat} {r : Reach}
theorem cell_u8 {c : Value} {x : Option (DataW H × List MemPlace)} {y : DataW H × List MemPlace} (h : DataW.trod enc Tryz.prog W base sp held n 5 [c] = x) (hx : x = some y) : ∃ a, c = .int .u8 a ∧ (0 ≤ a ∧ a < 256) := by
  rw [hx] at h
  obtain ⟨b, e, _, wf⟩ := DataW.trod_int Tryz.underlying5 h
  refine ⟨b, by simpa using e, ?_⟩
  simp [Lit.wf, IntKind.min, IntKind.max, IntKind.bits, IntKind.signed] at wf; omega
theorem open_conf {v : Value} {d : DataW H} {p : List MemPlace} (hv : Value.okWide Tryz.prog W r b0 23 v) (h : DataW.Trod enc Tryz.prog W base sp held 23 v d p) :
    ∃ x0 x1 x2 x3, v = .agg #[.int .i64 x0, .int .i64 x1, .int .i64 x2, .int .i64 x3] := by
  obtain ⟨⟨l⟩, rfl, hsz⟩ := okWide_struct Tryz.underlying23 hv
  rw [show Tryz.prog.cellsOf 23 = 4 by kernel_rfl] at hsz
  obtain ⟨fuel, hf⟩ := h
  obtain ⟨xs, n, _, _, _, hlen, hfd⟩ := DataW.trod_struct Tryz.underlying23 hf
  match l, hsz with
  | [c0, c1, c2, c3], _ =>
    have g := fun i f (e : _ = some f) => hfd i f e
    have k4 : Tryz.prog.cellsOf 3 = 1 := by kernel_rfl
    have hl : xs.length = 4 := hlen
    have h0 : DataW.trod enc Tryz.prog W base sp held n 3 [c0] = xs[0]? := by have := g 0 _ rfl; simpa [Value.cells, k4] using this
    obtain ⟨y0, q0⟩ := Open.some_of hl (show 0 < 4 by decide)
    obtain ⟨x0, rfl, _⟩ := Open.cell_int (c := c0) h0 q0
    have h1 : DataW.trod enc Tryz.prog W base sp held n 3 [c1] = xs[1]? := by have := g 1 _ rfl; simpa [Value.cells, k4] using this
    obtain ⟨y1, q1⟩ := Open.some_of hl (show 1 < 4 by decide)
    obtain ⟨x1, rfl, _⟩ := Open.cell_int (c := c1) h1 q1
    have h2 : DataW.trod enc Tryz.prog W base sp held n 3 [c2] = xs[2]? := by have := g 2 _ rfl; simpa [Value.cells, k4] using this
    obtain ⟨y2, q2⟩ := Open.some_of hl (show 2 < 4 by decide)
    obtain ⟨x2, rfl, _⟩ := Open.cell_int (c := c2) h2 q2
    have h3 : DataW.trod enc Tryz.prog W base sp held n 3 [c3] = xs[3]? := by have := g 3 _ rfl; simpa [Value.cells, k4] using this
    obtain ⟨y3, q3⟩ := Open.some_of hl (show 3 < 4 by decide)
    obtain ⟨x3, rfl, _⟩ := Open.cell_int (c := c3) h3 q3
    exact ⟨x0, x1, x2, x3, rfl⟩
theorem addk (b off k : Nat) : (⟨b, off, none⟩ : Addr).add k = ⟨b, off + k, none⟩ := by
  unfold Addr.add; split
  · rename_i h; subst h; rfl
  · rfl
/-- the cells of a page that is asked for -/
theorem rq_cells {cs : List Value} {y : DataW H × List MemPlace} (hsz : cs.length = 8) (hf : DataW.trod enc Tryz.prog W base sp held n 54 cs = some y) : ∃ q : Rq, cs = q.vs ∧ UQ q := by
  obtain ⟨xs, n, _, _, _, hlen, hfd⟩ := DataW.trod_struct Tryz.underlying54 hf
  match cs, hsz with
  | [c0, c1, c2, c3, c4, c5, c6, c7], _ =>
    have g := fun i f (e : _ = some f) => hfd i f e
    have k1 : Tryz.prog.cellsOf 3 = 1 := by kernel_rfl
    have k64 : Tryz.prog.cellsOf 27 = 1 := by kernel_rfl
    have kb : Tryz.prog.cellsOf 4 = 1 := by kernel_rfl
    have kp : Tryz.prog.cellsOf 52 = 4 := by kernel_rfl
    have hl : xs.length = 5 := hlen
    have h0 : DataW.trod enc Tryz.prog W base sp held n 3 [c0] = xs[0]? := by have := g 0 _ rfl; simpa [k1, k64, kp] using this
    obtain ⟨y0, q0⟩ := Open.some_of hl (show 0 < 5 by decide)
    obtain ⟨x0, rfl, _⟩ := Open.cell_int (c := c0) h0 q0
    have h1 : DataW.trod enc Tryz.prog W base sp held n 27 [c1] = xs[1]? := by have := g 1 _ rfl; simpa [k1, k64, kp] using this
    obtain ⟨y1, q1⟩ := Open.some_of hl (show 1 < 5 by decide)
    obtain ⟨x1, rfl, u1⟩ := Open.cell_u64 (c := c1) h1 q1
    have h2 : DataW.trod enc Tryz.prog W base sp held n 27 [c2] = xs[2]? := by have := g 2 _ rfl; simpa [k1, k64, kp] using this
    obtain ⟨y2, q2⟩ := Open.some_of hl (show 2 < 5 by decide)
    obtain ⟨x2, rfl, u2⟩ := Open.cell_u64 (c := c2) h2 q2
    have h3 : DataW.trod enc Tryz.prog W base sp held n 3 [c3] = xs[3]? := by have := g 3 _ rfl; simpa [k1, k64, kp] using this
    obtain ⟨y3, q3⟩ := Open.some_of hl (show 3 < 5 by decide)
    obtain ⟨x3, rfl, _⟩ := Open.cell_int (c := c3) h3 q3
    have h4 : DataW.trod enc Tryz.prog W base sp held n 52 [c4, c5, c6, c7] = xs[4]? := by have := g 4 _ rfl; simpa [k1, k64, kp] using this
    obtain ⟨y4, q4⟩ := Open.some_of hl (show 4 < 5 by decide)
    rw [q4] at h4
    obtain ⟨zs, m, _, _, _, hlen2, hfd2⟩ := DataW.trod_struct Tryz.underlying52 h4
    have g2 := fun i f (e : _ = some f) => hfd2 i f e
    have hl2 : zs.length = 4 := hlen2
    have p0 : DataW.trod enc Tryz.prog W base sp held m 4 [c4] = zs[0]? := by have := g2 0 _ rfl; simpa [kb] using this
    obtain ⟨z0, w0⟩ := Open.some_of hl2 (show 0 < 4 by decide)
    obtain ⟨b0, rfl⟩ := Open.cell_bool (c := c4) p0 w0
    have p1 : DataW.trod enc Tryz.prog W base sp held m 4 [c5] = zs[1]? := by have := g2 1 _ rfl; simpa [kb] using this
    obtain ⟨z1, w1⟩ := Open.some_of hl2 (show 1 < 4 by decide)
    obtain ⟨b1, rfl⟩ := Open.cell_bool (c := c5) p1 w1
    have p2 : DataW.trod enc Tryz.prog W base sp held m 4 [c6] = zs[2]? := by have := g2 2 _ rfl; simpa [kb] using this
    obtain ⟨z2, w2⟩ := Open.some_of hl2 (show 2 < 4 by decide)
    obtain ⟨b2, rfl⟩ := Open.cell_bool (c := c6) p2 w2
    have p3 : DataW.trod enc Tryz.prog W base sp held m 4 [c7] = zs[3]? := by have := g2 3 _ rfl; simpa [kb] using this
    obtain ⟨z3, w3⟩ := Open.some_of hl2 (show 3 < 4 by decide)
    obtain ⟨b3, rfl⟩ := Open.cell_bool (c := c7) p3 w3
    exact ⟨⟨x0, x1, x2, x3, ⟨b0, b1, b2, b3⟩⟩, rfl, u1, u2⟩
theorem open_rq {v : Value} {d : DataW H} {p : List MemPlace} (hv : Value.okWide Tryz.prog W r b0 54 v) (h : DataW.Trod enc Tryz.prog W base sp held 54 v d p) :
    ∃ q : Rq, v = .agg #[.int .i64 q.id, .int .u64 q.va, .int .u64 q.pa, .int .i64 q.lev, .bool q.p.r, .bool q.p.w, .bool q.p.x, .bool q.p.u] ∧ UQ q := by
  obtain ⟨⟨l⟩, rfl, hsz⟩ := okWide_struct Tryz.underlying54 hv
  rw [show Tryz.prog.cellsOf 54 = 8 by kernel_rfl] at hsz
  obtain ⟨fuel, hf⟩ := h
  obtain ⟨q, e, hq⟩ := rq_cells (cs := l) hsz hf
  exact ⟨q, by rw [e]; rfl, hq⟩
theorem flQ_len (l : List Rq) : (flQ l).length = l.length * 8 := by
  induction l with
  | nil => rfl
  | cons c l ih => show ((_ :: _ :: _ :: _ :: _ :: _ :: _ :: _ :: flQ l).length) = _; simp only [List.length_cons, ih]; omega
theorem flQ_get : ∀ (l : List Rq) (i j : Nat) (q : Rq), l[i]? = some q → j < 8 → (flQ l)[i * 8 + j]? = q.vs[j]?
  | [], i, j, q, h, _ => by simp at h
  | x :: l, 0, j, q, h, hj => by
    simp at h; subst h
    show (x.vs ++ flQ l)[0 * 8 + j]? = _
    rw [Nat.zero_mul, Nat.zero_add, List.getElem?_append_left (by show j < 8; exact hj)]
  | x :: l, i + 1, j, q, h, hj => by
    have := flQ_get l i j q (by simpa using h) hj
    show (x.vs ++ flQ l)[(i + 1) * 8 + j]? = _
    rw [List.getElem?_append_right (by show 8 ≤ _; omega), show (i + 1) * 8 + j - x.vs.length = i * 8 + j by show (i + 1) * 8 + j - 8 = _; omega]
    exact this
theorem open_rqs {v : Value} {d : DataW H} {p : List MemPlace} (hv : Value.okWide Tryz.prog W r b0 24 v) (h : DataW.Trod enc Tryz.prog W base (fun _ => true) held 24 v d p) :
    ∃ l : List Rq, (∀ x ∈ l, UQ x) ∧ Ce.R (en0 (fun _ => True) W) (.s l.length 8 (flQ l)) v := by
  obtain ⟨a, len, cap, rfl⟩ := okWide_slice Tryz.underlying24 hv
  obtain ⟨fuel, hf⟩ := h
  have hf : DataW.trod enc Tryz.prog W base (fun _ => true) held fuel 24 [.slice a len cap] = some (d, p) := hf
  have ke : Tryz.prog.cellsOf 54 = 8 := by kernel_rfl
  rcases Deep.open_slice Tryz.underlying24 hf with ⟨e, _⟩ | ⟨a', len', cap', m, k, D, Pl, e, _, hl, hm, hmm, _, hx⟩
  · simp only [List.cons.injEq, and_true] at e
    refine ⟨[], fun x hx => (by cases hx), ?_⟩
    rw [e]
    exact ⟨⟨rfl, .inl ⟨rfl, rfl⟩⟩, fun a l c e => by cases e⟩
  · simp only [List.cons.injEq, and_true, Value.slice.injEq] at e
    obtain ⟨rfl, rfl, rfl⟩ := e
    have hok : Cell.ok Tryz.prog W r b0 24 (.slice (some a') len cap) := by
      have hv := hv
      unfold Value.okWide at hv
      rw [Tryz.underlying24] at hv
      unfold Cell.okWide at hv
      rw [Tryz.underlying24] at hv
      exact hv
    unfold Cell.ok at hok
    rw [Tryz.underlying24] at hok
    obtain ⟨_, _, _, hsp, row, cells, hsh, _⟩ := hok
    obtain ⟨b, off, spot⟩ := a'
    have hsp : spot = none := hsp
    subst hsp
    have hb : b < W.heap.size := by
      rcases Nat.lt_or_ge b W.heap.size with h | h
      · exact h
      · have hsh : W.shape? b = some (row, cells) := hsh
        unfold World.shape? at hsh
        rw [Array.getElem?_eq_none h] at hsh
        cases hsh
    have ku : ∀ i, i < len → ∃ q : Rq, (∀ j, j < 8 → W.cell? ⟨b, off + (i * 8 + j), none⟩ = q.vs[j]?) ∧ UQ q := fun i hi => by
      obtain ⟨cs, g1, g2⟩ := hx i (by rw [hmm]; simp; omega)
      rw [ke] at g1
      obtain ⟨_, hlen, hcell⟩ := World.cells?_some g1
      obtain ⟨q, rfl, hq⟩ := rq_cells hlen g2
      refine ⟨q, fun j hj => ?_, hq⟩
      have e0 := hcell j (by omega)
      rw [addk, addk] at e0
      rw [← e0, Nat.add_assoc]
    haveI : Inhabited Rq := ⟨⟨0, 0, 0, 0, ⟨false, false, false, false⟩⟩⟩
    obtain ⟨f, hf⟩ := Deep.choose_lt (α := Rq) (p := fun i q => (∀ j, j < 8 → W.cell? ⟨b, off + (i * 8 + j), none⟩ = q.vs[j]?) ∧ UQ q) ku
    have hlen : ((List.range len).map f).length = len := by simp
    refine ⟨(List.range len).map f, fun x hx => ?_, ⟨by rw [flQ_len], .inr ⟨b, off, cap, by rw [hlen], hb, by rw [hlen]; exact hl, hm, fun i hi => ?_⟩⟩, fun _ _ _ _ => trivial⟩
    · obtain ⟨i, hi, rfl⟩ := List.mem_map.1 hx
      exact (hf i (List.mem_range.1 hi)).2
    · rw [hlen] at hi
      have hi2 : i / 8 < len := by omega
      obtain ⟨e0, _⟩ := hf (i / 8) hi2
      have hg := flQ_get ((List.range len).map f) (i / 8) (i % 8) (f (i / 8)) (by simp [hi2]) (by omega)
      have e1 := e0 (i % 8) (by omega)
      rw [show i / 8 * 8 + i % 8 = i by omega] at hg e1
      rw [hg]; exact e1
end
end Go.Proofs.YtmoccajgjnjelaaGreatDoor.Laid
