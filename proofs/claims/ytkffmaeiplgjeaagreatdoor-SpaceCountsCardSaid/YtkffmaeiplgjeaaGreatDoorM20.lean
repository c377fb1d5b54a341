/- Texts of this claim, one behind the other: RfF, RfI. -/
import Derived.Test.YtkffmaeiplgjeaaGreatDoorM18
import Derived.Test.YtkffmaeiplgjeaaGreatDoorM14
import Derived.Test.YtkffmaeiplgjeaaGreatDoorM19
/- The abstract walk: the document's deeds; the laws SpaceNews and SpaceDoes. -/
namespace Go.Proofs.YtkffmaeiplgjeaaGreatDoor.RfF
open Go.RowKit Go.Proofs.YtkffmaeiplgjeaaGreatDoor.Bv Go.Proofs.YtkffmaeiplgjeaaGreatDoor.VaSpec Go.Proofs.YtkffmaeiplgjeaaGreatDoor.Base Go.Proofs.YtkffmaeiplgjeaaGreatDoor.MemL Go.Proofs.YtkffmaeiplgjeaaGreatDoor.RegR Go.Proofs.YtkffmaeiplgjeaaGreatDoor.Ax Go.Proofs.YtkffmaeiplgjeaaGreatDoor.MemC Go.Proofs.YtkffmaeiplgjeaaGreatDoor.PutC Go.Proofs.YtkffmaeiplgjeaaGreatDoor.MemC3 Go.Proofs.YtkffmaeiplgjeaaGreatDoor.TzC Go.Proofs.YtkffmaeiplgjeaaGreatDoor.OkS Go.Proofs.YtkffmaeiplgjeaaGreatDoor.SpA Go.Proofs.YtkffmaeiplgjeaaGreatDoor.SpB Go.Proofs.YtkffmaeiplgjeaaGreatDoor.SpC Go.Proofs.YtkffmaeiplgjeaaGreatDoor.SpD Go.Proofs.YtkffmaeiplgjeaaGreatDoor.IterC Go.Proofs.YtkffmaeiplgjeaaGreatDoor.SpE Go.Proofs.YtkffmaeiplgjeaaGreatDoor.SpF Go.Proofs.YtkffmaeiplgjeaaGreatDoor.SpG Go.Proofs.YtkffmaeiplgjeaaGreatDoor.SpH Go.Proofs.YtkffmaeiplgjeaaGreatDoor.SpI Go.Proofs.YtkffmaeiplgjeaaGreatDoor.SpJ Go.Proofs.YtkffmaeiplgjeaaGreatDoor.SpK Go.Proofs.YtkffmaeiplgjeaaGreatDoor.SpN Go.Proofs.YtkffmaeiplgjeaaGreatDoor.RfP Go.Proofs.YtkffmaeiplgjeaaGreatDoor.RfQ Go.Proofs.YtkffmaeiplgjeaaGreatDoor.RfA Go.Proofs.YtkffmaeiplgjeaaGreatDoor.RfB Go.Proofs.YtkffmaeiplgjeaaGreatDoor.RfC Go.Proofs.YtkffmaeiplgjeaaGreatDoor.SpO Go.Proofs.YtkffmaeiplgjeaaGreatDoor.RfD Go.Proofs.YtkffmaeiplgjeaaGreatDoor.RfE Go.Proofs.YtkffmaeiplgjeaaGreatDoor.SpP Go.Proofs.YtkffmaeiplgjeaaGreatDoor.SpQ
open Go.Proofs.YtkffmaeiplgjeaaGreatDoor.BitsC Go.Proofs.YtkffmaeiplgjeaaGreatDoor.PteSpec
set_option linter.unusedVariables false
set_option linter.unusedSimpArgs false
set_option maxRecDepth 10000
set_option maxHeartbeats 800000
attribute [local irreducible] Go.Proofs.YtkffmaeiplgjeaaGreatDoor.Ax.CallOk
theorem told_ok {n : Nat} {k : Kr} (h : Inv n k) (hn : n ≤ 100000) (d : Int × Int) (h0 : 0 ≤ d.1 ∧ d.1 < 256) (h1 : 0 ≤ d.2 ∧ d.2 < 256) : Ok 13 [.ag k.ce, .ag [i8 d.1, i8 d.2]] (.tu [.ag (doR k d).1.ce, ii (doR k d).2.1, ii (doR k d).2.2]) := by
  obtain ⟨x, y⟩ := d
  by_cases c1 : x % 3 = 0
  · rw [show doR k (x, y) = createR k by unfold doR; rw [if_pos c1]]
    have hc := rcreate_all h hn
    refine callOk_of 47 Tryz.func13 rfl rfl rfl rfl ?_ GG.to
    intro W A hG
    repeat (first
      | (refine go_at rfl ?_; first
          | (refine nxt_s 1 rfl ?_; refine go_do (valid_load_p tb rfl rfl rfl rfl rfl (by first | kernel_rfl | rfl)) (by first | kernel_rfl | rfl) ?_)
          | (refine nxt_s 1 rfl ?_; refine go_do (valid_fld_p tb rfl rfl rfl (by kernel_rfl)) rfl ?_)
          | refine go_do (valid_mv (.inr rfl) rfl) rfl ?_
          | refine go_do (valid_extract rfl rfl rfl rfl) rfl ?_
          | refine go_do (valid_cmp rfl rfl rfl rfl (by first | exact .eql1 (by omega) | exact .eql0 (by omega) | exact .neq1 (by omega) | exact .neq0 (by omega) | exact .lss1 (by omega) | exact .lss0 (by omega) | exact .leq1 (by omega) | exact .leq0 (by omega) | exact .gtr1 (by omega) | exact .gtr0 (by omega) | exact .geq1 (by omega) | exact .geq0 (by omega) | constructor)) rfl ?_
          | refine go_do (valid_cv rfl rfl rfl rfl rfl (by first | exact wr_u64 (by omega) (by omega) | exact wr_i64 (by omega) (by omega) | rfl)) rfl ?_
          | refine go_do (valid_rem rfl rfl rfl rfl (by omega) (by omega)) rfl ?_
          | refine go_do (valid_box rfl rfl rfl rfl rfl rfl) rfl ?_
          | refine go_do (valid_alloc rfl rfl rfl rfl rfl) rfl ?_
          | (refine nxt_s 1 rfl ?_; refine go_do (valid_store_p rfl rfl rfl rfl rfl rfl (by first | kernel_rfl | rfl) rfl) (by first | kernel_rfl | rfl) ?_)
          | refine go_do (valid_call rfl rfl rfl (hc) (by kernel_rfl)) rfl ?_)
      | (refine hK _ ?_; clear hK K)
      | refine aw_text rfl ?_
      | exact aw_ret (show resA _ _ _ = some _ by kernel_rfl)
      | refine aw_cond1 rfl rfl ?_
      | refine aw_seq_k (fun K hK => ?_))
  by_cases c2 : x % 3 = 1
  · rw [show doR k (x, y) = ((destroyR k (y % 33)).1, 0, (destroyR k (y % 33)).2) by unfold doR; rw [if_neg c1, if_pos c2]]
    have hc := rdestroy_all h hn (y % 33)
    refine callOk_of 47 Tryz.func13 rfl rfl rfl rfl ?_ GG.to
    intro W A hG
    repeat (first
      | (refine go_at rfl ?_; first
          | refine go_do (valid_mv (.inl rfl) rfl) rfl ?_
          | (refine nxt_s 1 rfl ?_; refine go_do (valid_load_p tb rfl rfl rfl rfl rfl (by first | kernel_rfl | rfl)) (by first | kernel_rfl | rfl) ?_)
          | (refine nxt_s 1 rfl ?_; refine go_do (valid_fld_p tb rfl rfl rfl (by kernel_rfl)) rfl ?_)
          | refine go_do (valid_mv (.inr rfl) rfl) rfl ?_
          | refine go_do (valid_extract rfl rfl rfl rfl) rfl ?_
          | refine go_do (valid_cmp rfl rfl rfl rfl (by first | exact .eql1 (by omega) | exact .eql0 (by omega) | exact .neq1 (by omega) | exact .neq0 (by omega) | exact .lss1 (by omega) | exact .lss0 (by omega) | exact .leq1 (by omega) | exact .leq0 (by omega) | exact .gtr1 (by omega) | exact .gtr0 (by omega) | exact .geq1 (by omega) | exact .geq0 (by omega) | constructor)) rfl ?_
          | refine go_do (valid_cv rfl rfl rfl rfl rfl (by first | exact wr_u64 (by omega) (by omega) | exact wr_i64 (by omega) (by omega) | rfl)) rfl ?_
          | refine go_do (valid_rem rfl rfl rfl rfl (by omega) (by omega)) rfl ?_
          | refine go_do (valid_box rfl rfl rfl rfl rfl rfl) rfl ?_
          | refine go_do (valid_alloc rfl rfl rfl rfl rfl) rfl ?_
          | (refine nxt_s 1 rfl ?_; refine go_do (valid_store_p rfl rfl rfl rfl rfl rfl (by first | kernel_rfl | rfl) rfl) (by first | kernel_rfl | rfl) ?_)
          | refine go_do (valid_call rfl rfl rfl (hc) (by kernel_rfl)) rfl ?_)
      | (refine hK _ ?_; clear hK K)
      | refine aw_text rfl ?_
      | exact aw_ret (show resA _ _ _ = some _ by kernel_rfl)
      | refine aw_cond1 rfl rfl ?_
      | refine aw_cond0 rfl rfl ?_
      | refine aw_skip ?_
      | refine aw_seq_k (fun K hK => ?_))
  by_cases c3 : y % 33 = 32
  · rw [show doR k (x, y) = ((switchR k (-1)).1, 0, (switchR k (-1)).2) by unfold doR; rw [if_neg c1, if_neg c2, if_pos c3]]
    have hc := rswitch_all k (-1)
    refine callOk_of 47 Tryz.func13 rfl rfl rfl rfl ?_ GG.to
    intro W A hG
    repeat (first
      | (refine go_at rfl ?_; first
          | refine go_do (valid_mv (.inl rfl) rfl) rfl ?_
          | (refine nxt_s 1 rfl ?_; refine go_do (valid_load_p tb rfl rfl rfl rfl rfl (by first | kernel_rfl | rfl)) (by first | kernel_rfl | rfl) ?_)
          | (refine nxt_s 1 rfl ?_; refine go_do (valid_fld_p tb rfl rfl rfl (by kernel_rfl)) rfl ?_)
          | refine go_do (valid_mv (.inr rfl) rfl) rfl ?_
          | refine go_do (valid_extract rfl rfl rfl rfl) rfl ?_
          | refine go_do (valid_cmp rfl rfl rfl rfl (by first | exact .eql1 (by omega) | exact .eql0 (by omega) | exact .neq1 (by omega) | exact .neq0 (by omega) | exact .lss1 (by omega) | exact .lss0 (by omega) | exact .leq1 (by omega) | exact .leq0 (by omega) | exact .gtr1 (by omega) | exact .gtr0 (by omega) | exact .geq1 (by omega) | exact .geq0 (by omega) | constructor)) rfl ?_
          | refine go_do (valid_cv rfl rfl rfl rfl rfl (by first | exact wr_u64 (by omega) (by omega) | exact wr_i64 (by omega) (by omega) | rfl)) rfl ?_
          | refine go_do (valid_rem rfl rfl rfl rfl (by omega) (by omega)) rfl ?_
          | refine go_do (valid_box rfl rfl rfl rfl rfl rfl) rfl ?_
          | refine go_do (valid_alloc rfl rfl rfl rfl rfl) rfl ?_
          | (refine nxt_s 1 rfl ?_; refine go_do (valid_store_p rfl rfl rfl rfl rfl rfl (by first | kernel_rfl | rfl) rfl) (by first | kernel_rfl | rfl) ?_)
          | refine go_do (valid_call rfl rfl rfl (hc) (by kernel_rfl)) rfl ?_)
      | (refine hK _ ?_; clear hK K)
      | refine aw_text rfl ?_
      | exact aw_ret (show resA _ _ _ = some _ by kernel_rfl)
      | refine aw_cond1 rfl rfl ?_
      | refine aw_cond0 rfl rfl ?_
      | refine aw_skip ?_
      | refine aw_seq_k (fun K hK => ?_))
  · rw [show doR k (x, y) = ((switchR k (y % 33)).1, 0, (switchR k (y % 33)).2) by unfold doR; rw [if_neg c1, if_neg c2, if_neg c3]]
    have hc := rswitch_all k (y % 33)
    refine callOk_of 47 Tryz.func13 rfl rfl rfl rfl ?_ GG.to
    intro W A hG
    repeat (first
      | (refine go_at rfl ?_; first
          | refine go_do (valid_mv (.inl rfl) rfl) rfl ?_
          | (refine nxt_s 1 rfl ?_; refine go_do (valid_load_p tb rfl rfl rfl rfl rfl (by first | kernel_rfl | rfl)) (by first | kernel_rfl | rfl) ?_)
          | (refine nxt_s 1 rfl ?_; refine go_do (valid_fld_p tb rfl rfl rfl (by kernel_rfl)) rfl ?_)
          | refine go_do (valid_mv (.inr rfl) rfl) rfl ?_
          | refine go_do (valid_extract rfl rfl rfl rfl) rfl ?_
          | refine go_do (valid_cmp rfl rfl rfl rfl (by first | exact .eql1 (by omega) | exact .eql0 (by omega) | exact .neq1 (by omega) | exact .neq0 (by omega) | exact .lss1 (by omega) | exact .lss0 (by omega) | exact .leq1 (by omega) | exact .leq0 (by omega) | exact .gtr1 (by omega) | exact .gtr0 (by omega) | exact .geq1 (by omega) | exact .geq0 (by omega) | constructor)) rfl ?_
          | refine go_do (valid_cv rfl rfl rfl rfl rfl (by first | exact wr_u64 (by omega) (by omega) | exact wr_i64 (by omega) (by omega) | rfl)) rfl ?_
          | refine go_do (valid_rem rfl rfl rfl rfl (by omega) (by omega)) rfl ?_
          | refine go_do (valid_box rfl rfl rfl rfl rfl rfl) rfl ?_
          | refine go_do (valid_alloc rfl rfl rfl rfl rfl) rfl ?_
          | (refine nxt_s 1 rfl ?_; refine go_do (valid_store_p rfl rfl rfl rfl rfl rfl (by first | kernel_rfl | rfl) rfl) (by first | kernel_rfl | rfl) ?_)
          | refine go_do (valid_call rfl rfl rfl (hc) (by kernel_rfl)) rfl ?_)
      | (refine hK _ ?_; clear hK K)
      | refine aw_text rfl ?_
      | exact aw_ret (show resA _ _ _ = some _ by kernel_rfl)
      | refine aw_cond0 rfl rfl ?_
      | refine aw_skip ?_
      | refine aw_seq_k (fun K hK => ?_))
def zKr : Kr := { cd := 0, cp := 0, ca := 0, cs := 0, sz := 0, m := [], tn := 0, ts := zsL 0, sm := 0, sa := 0, sp := 0, priv := 0, su := false, mx := false, vic := 0, pb := 0, pm := 0, pf := 0, am := 0, af := 0, ao := 0, ss := [], now := 0, sh := 0, fs := [] }
theorem ltM_z : ltM (.ag zK) (.ag zKr.ce) := fun E v ⟨vs, e, k⟩ => ⟨vs, e, all2_lt _ _ _ (show All2 ltC zK zKr.ce from ⟨ltC.rf _, ltC.rf _, ltC.rf _, ltC.rf _, ltC.rf _, ltC.nil 2, ltC.nil 45, ltC.rf _, ltC.rf _, ltC.rf _, ltC.rf _, ltC.rf _, ltC.rf _, ltC.rf _, ltC.rf _, ltC.rf _, ltC.rf _, ltC.rf _, ltC.rf _, ltC.rf _, ltC.nil 3, ltC.rf _, ltC.rf _, ltC.nil 4, trivial⟩) k⟩
theorem same_z : Ok 10 [.ag zK, .ag zK] (.m (ib true)) :=
  callOk_args (SpM.same_ok zKr rfl (by show 0 ≤ 16; omega) (by show 0 ≤ _; omega) (by show 0 ≤ _; omega) (by show 0 ≤ _; omega)) rfl ⟨ltM_z, ltM_z, trivial⟩
theorem news_ok (a b c d : Int) : Ok 3 [confA a b c d] (.m (ib true)) := by
  have hm := rmay_ok a b c d
  have hs := smay_ok a b c d
  cases hc : confB a b c d with
  | false =>
    rw [hc] at hm hs
    have hn := new_no a b c d hc
    refine callOk_of 37 Tryz.func3 rfl rfl rfl rfl ?_ GG.to
    intro W A hG
    repeat (first
      | (refine go_at rfl ?_; first
          | refine go_do (valid_mv (.inl rfl) rfl) rfl ?_
          | (refine nxt_s 1 rfl ?_; refine go_do (valid_load_p tb rfl rfl rfl rfl rfl (by first | kernel_rfl | rfl)) (by first | kernel_rfl | rfl) ?_)
          | refine go_do (valid_mv (.inr rfl) rfl) rfl ?_
          | refine go_do (valid_pick rfl rfl rfl) rfl ?_
          | refine go_do (valid_extract rfl rfl rfl rfl) rfl ?_
          | refine go_do (valid_cmp rfl rfl rfl rfl (by first | exact .eql1 (by omega) | exact .eql0 (by omega) | exact .neq1 (by omega) | exact .neq0 (by omega) | exact .lss1 (by omega) | exact .lss0 (by omega) | exact .leq1 (by omega) | exact .leq0 (by omega) | exact .gtr1 (by omega) | exact .gtr0 (by omega) | exact .geq1 (by omega) | exact .geq0 (by omega) | constructor)) rfl ?_
          | refine go_do (valid_box rfl rfl rfl rfl rfl rfl) rfl ?_
          | refine go_do (valid_alloc rfl rfl rfl rfl rfl) rfl ?_
          | (refine nxt_s 1 rfl ?_; refine go_do (valid_store_p rfl rfl rfl rfl rfl rfl (by first | kernel_rfl | rfl) rfl) (by first | kernel_rfl | rfl) ?_)
          | refine go_do (valid_not rfl rfl rfl) rfl ?_
          | refine go_do (valid_build rfl rfl rfl rfl) rfl ?_
          | refine go_do (valid_neb rfl rfl rfl rfl rfl) rfl ?_
          | refine go_do (valid_call rfl rfl rfl (awake_ok) (by kernel_rfl)) rfl ?_
          | refine go_do (valid_call rfl rfl rfl (hm) (by kernel_rfl)) rfl ?_
          | refine go_do (valid_call rfl rfl rfl (hs) (by kernel_rfl)) rfl ?_
          | refine go_do (valid_call rfl rfl rfl (hn) (by kernel_rfl)) rfl ?_
          | refine go_do (valid_call rfl rfl rfl (same_z) (by kernel_rfl)) rfl ?_)
      | (refine hK _ ?_; clear hK K)
      | refine aw_text rfl ?_
      | refine aw_any (by kernel_rfl) (by kernel_rfl) rfl ?_
      | exact aw_ret (show resA _ _ _ = some _ by kernel_rfl)
      | refine aw_cond1 rfl rfl ?_
      | refine aw_cond0 rfl rfl ?_
      | refine aw_skip ?_
      | refine aw_seq_k (fun K hK => ?_))
  | true =>
    rw [hc] at hm hs
    obtain ⟨n, rfl⟩ := Int.eq_ofNat_of_zero_le (confB_iff.1 hc).2.2.2.1
    have hn := new_yes a b c n hc
    have hr := rnew_ok a b c n hc
    have hk := new_inv hc
    have hsm := SpM.same_ok (newK a b c n) hk.ts hk.cs.2 (by have := hk.ml; omega) (by have := hk.sl; omega) (by have := hk.fl; omega)
    refine callOk_of 37 Tryz.func3 rfl rfl rfl rfl ?_ GG.to
    intro W A hG
    repeat (first
      | (refine go_at rfl ?_; first
          | refine go_do (valid_mv (.inl rfl) rfl) rfl ?_
          | (refine nxt_s 1 rfl ?_; refine go_do (valid_load_p tb rfl rfl rfl rfl rfl (by first | kernel_rfl | rfl)) (by first | kernel_rfl | rfl) ?_)
          | refine go_do (valid_mv (.inr rfl) rfl) rfl ?_
          | refine go_do (valid_pick rfl rfl rfl) rfl ?_
          | refine go_do (valid_extract rfl rfl rfl rfl) rfl ?_
          | refine go_do (valid_cmp rfl rfl rfl rfl (by first | exact .eql1 (by omega) | exact .eql0 (by omega) | exact .neq1 (by omega) | exact .neq0 (by omega) | exact .lss1 (by omega) | exact .lss0 (by omega) | exact .leq1 (by omega) | exact .leq0 (by omega) | exact .gtr1 (by omega) | exact .gtr0 (by omega) | exact .geq1 (by omega) | exact .geq0 (by omega) | constructor)) rfl ?_
          | refine go_do (valid_box rfl rfl rfl rfl rfl rfl) rfl ?_
          | refine go_do (valid_alloc rfl rfl rfl rfl rfl) rfl ?_
          | (refine nxt_s 1 rfl ?_; refine go_do (valid_store_p rfl rfl rfl rfl rfl rfl (by first | kernel_rfl | rfl) rfl) (by first | kernel_rfl | rfl) ?_)
          | refine go_do (valid_not rfl rfl rfl) rfl ?_
          | refine go_do (valid_neb rfl rfl rfl rfl rfl) rfl ?_
          | refine go_do (valid_call rfl rfl rfl (awake_ok) (by kernel_rfl)) rfl ?_
          | refine go_do (valid_call rfl rfl rfl (hm) (by kernel_rfl)) rfl ?_
          | refine go_do (valid_call rfl rfl rfl (hs) (by kernel_rfl)) rfl ?_
          | refine go_do (valid_call rfl rfl rfl (hn) (by kernel_rfl)) rfl ?_
          | refine go_do (valid_call rfl rfl rfl (hr) (by kernel_rfl)) rfl ?_
          | refine go_do (valid_call rfl rfl rfl (hsm) (by kernel_rfl)) rfl ?_)
      | (refine hK _ ?_; clear hK K)
      | refine aw_text rfl ?_
      | refine aw_any (by kernel_rfl) (by kernel_rfl) rfl ?_
      | exact aw_ret (show resA _ _ _ = some _ by kernel_rfl)
      | refine aw_cond0 rfl rfl ?_
      | refine aw_skip ?_
      | refine aw_seq_k (fun K hK => ?_))
def doesH (l : List (Int × Int)) (id va lv : Int) (f : List Fe) (i : Nat) (k : Kr) : St := St.of [(1, .m (.c (.s l.length 2 (flD l)))), (2, .m (ii id)), (3, .m (iu va)), (4, .m (ii lv)), (5, .m (.c (.s f.length 4 (flF f)))), (13, .m (.c (.p 13 0))), (15, .m (.c (.p 15 0))), (16, .m (ii i))] [(13, .live (.box k.ce)), (15, .live (.box k.ce))]
theorem does_ok (a b c d : Int) (l : List (Int × Int)) (id va lv : Int) (f : List Fe) (hl : ∀ x ∈ l, D8 x) (hva : U va) (hf : ∀ x ∈ f, U x.ad) : Ok 4 [confA a b c d, .c (.s l.length 2 (flD l)), ii id, iu va, ii lv, .c (.s f.length 4 (flF f))] (.m (ib true)) := by
  have hm := rmay_ok a b c d
  cases hc : confB a b c d with
  | false =>
    rw [hc] at hm
    refine callOk_of 136 Tryz.func4 rfl rfl rfl rfl ?_ GG.to
    intro W A hG
    repeat (first
      | (refine go_at rfl ?_; first
          | refine go_do (valid_skip rfl) rfl ?_
          | refine go_do (valid_mv (.inl rfl) rfl) rfl ?_
          | (refine nxt_s 1 rfl ?_; refine go_do (valid_load_p tb rfl rfl rfl rfl rfl (by first | kernel_rfl | rfl)) (by first | kernel_rfl | rfl) ?_)
          | refine go_do (valid_mv (.inr rfl) rfl) rfl ?_
          | refine go_do (valid_pick rfl rfl rfl) rfl ?_
          | refine go_do (valid_box rfl rfl rfl rfl rfl rfl) rfl ?_
          | refine go_do (valid_not rfl rfl rfl) rfl ?_
          | refine go_do (valid_call rfl rfl rfl (awake_ok) (by kernel_rfl)) rfl ?_
          | refine go_do (valid_call rfl rfl rfl (hm) (by kernel_rfl)) rfl ?_)
      | (refine hK _ ?_; clear hK K)
      | refine aw_text rfl ?_
      | exact aw_ret (show resA _ _ _ = some _ by kernel_rfl)
      | refine aw_cond1 rfl rfl ?_
      | refine aw_seq_k (fun K hK => ?_))
  | true =>
    rw [hc] at hm
    by_cases hlen : 80 < l.length
    · refine callOk_of 136 Tryz.func4 rfl rfl rfl rfl ?_ GG.to
      intro W A hG
      repeat (first
        | (refine go_at rfl ?_; first
            | refine go_do (valid_skip rfl) rfl ?_
            | refine go_do (valid_mv (.inl rfl) rfl) rfl ?_
            | (refine nxt_s 1 rfl ?_; refine go_do (valid_load_p tb rfl rfl rfl rfl rfl (by first | kernel_rfl | rfl)) (by first | kernel_rfl | rfl) ?_)
            | refine go_do (valid_mv (.inr rfl) rfl) rfl ?_
            | refine go_do (valid_pick rfl rfl rfl) rfl ?_
            | refine go_do (valid_cmp rfl rfl rfl rfl (by first | exact .eql1 (by omega) | exact .eql0 (by omega) | exact .neq1 (by omega) | exact .neq0 (by omega) | exact .lss1 (by omega) | exact .lss0 (by omega) | exact .leq1 (by omega) | exact .leq0 (by omega) | exact .gtr1 (by omega) | exact .gtr0 (by omega) | exact .geq1 (by omega) | exact .geq0 (by omega) | constructor)) rfl ?_
            | refine go_do (valid_box rfl rfl rfl rfl rfl rfl) rfl ?_
            | refine go_do (valid_len_s rfl rfl rfl rfl) rfl ?_
            | refine go_do (valid_not rfl rfl rfl) rfl ?_
            | refine go_do (valid_call rfl rfl rfl (awake_ok) (by kernel_rfl)) rfl ?_
            | refine go_do (valid_call rfl rfl rfl (hm) (by kernel_rfl)) rfl ?_)
        | (refine hK _ ?_; clear hK K)
        | refine aw_text rfl ?_
        | exact aw_ret (show resA _ _ _ = some _ by kernel_rfl)
        | refine aw_cond1 rfl rfl ?_
        | refine aw_seq_k (fun K hK => ?_))
    by_cases hlen2 : 20 < f.length
    · refine callOk_of 136 Tryz.func4 rfl rfl rfl rfl ?_ GG.to
      intro W A hG
      repeat (first
        | (refine go_at rfl ?_; first
            | refine go_do (valid_mv (.inl rfl) rfl) rfl ?_
            | (refine nxt_s 1 rfl ?_; refine go_do (valid_load_p tb rfl rfl rfl rfl rfl (by first | kernel_rfl | rfl)) (by first | kernel_rfl | rfl) ?_)
            | refine go_do (valid_mv (.inr rfl) rfl) rfl ?_
            | refine go_do (valid_pick rfl rfl rfl) rfl ?_
            | refine go_do (valid_cmp rfl rfl rfl rfl (by first | exact .eql1 (by omega) | exact .eql0 (by omega) | exact .neq1 (by omega) | exact .neq0 (by omega) | exact .lss1 (by omega) | exact .lss0 (by omega) | exact .leq1 (by omega) | exact .leq0 (by omega) | exact .gtr1 (by omega) | exact .gtr0 (by omega) | exact .geq1 (by omega) | exact .geq0 (by omega) | constructor)) rfl ?_
            | refine go_do (valid_box rfl rfl rfl rfl rfl rfl) rfl ?_
            | refine go_do (valid_len_s rfl rfl rfl rfl) rfl ?_
            | refine go_do (valid_not rfl rfl rfl) rfl ?_
            | refine go_do (valid_call rfl rfl rfl (awake_ok) (by kernel_rfl)) rfl ?_
            | refine go_do (valid_call rfl rfl rfl (hm) (by kernel_rfl)) rfl ?_)
        | (refine hK _ ?_; clear hK K)
        | refine aw_text rfl ?_
        | exact aw_ret (show resA _ _ _ = some _ by kernel_rfl)
        | refine aw_cond1 rfl rfl ?_
        | refine aw_seq_k (fun K hK => ?_))
    obtain ⟨n, rfl⟩ := Int.eq_ofNat_of_zero_le (confB_iff.1 hc).2.2.2.1
    have hn := new_yes a b c n hc
    have hr := rnew_ok a b c n hc
    refine callOk_of 136 Tryz.func4 rfl rfl rfl rfl ?_ GG.to
    intro W A hG
    repeat (first
      | (refine go_at rfl ?_; first
          | refine go_do (valid_mv (.inl rfl) rfl) rfl ?_
          | (refine nxt_s 1 rfl ?_; refine go_do (valid_load_p tb rfl rfl rfl rfl rfl (by first | kernel_rfl | rfl)) (by first | kernel_rfl | rfl) ?_)
          | refine go_do (valid_mv (.inr rfl) rfl) rfl ?_
          | refine go_do (valid_pick rfl rfl rfl) rfl ?_
          | refine go_do (valid_extract rfl rfl rfl rfl) rfl ?_
          | refine go_do (valid_cmp rfl rfl rfl rfl (by first | exact .eql1 (by omega) | exact .eql0 (by omega) | exact .neq1 (by omega) | exact .neq0 (by omega) | exact .lss1 (by omega) | exact .lss0 (by omega) | exact .leq1 (by omega) | exact .leq0 (by omega) | exact .gtr1 (by omega) | exact .gtr0 (by omega) | exact .geq1 (by omega) | exact .geq0 (by omega) | constructor)) rfl ?_
          | refine go_do (valid_box rfl rfl rfl rfl rfl rfl) rfl ?_
          | refine go_do (valid_alloc rfl rfl rfl rfl rfl) rfl ?_
          | (refine nxt_s 1 rfl ?_; refine go_do (valid_store_p rfl rfl rfl rfl rfl rfl (by first | kernel_rfl | rfl) rfl) (by first | kernel_rfl | rfl) ?_)
          | refine go_do (valid_len_s rfl rfl rfl rfl) rfl ?_
          | refine go_do (valid_not rfl rfl rfl) rfl ?_
          | refine go_do (valid_call rfl rfl rfl (awake_ok) (by kernel_rfl)) rfl ?_
          | refine go_do (valid_call rfl rfl rfl (hm) (by kernel_rfl)) rfl ?_
          | refine go_do (valid_call rfl rfl rfl (hn) (by kernel_rfl)) rfl ?_
          | refine go_do (valid_call rfl rfl rfl (hr) (by kernel_rfl)) rfl ?_)
      | (refine hK _ ?_; clear hK K)
      | refine aw_text rfl ?_
      | refine aw_cond0 rfl rfl ?_
      | refine aw_block ?_
      | refine aw_skip ?_
      | refine aw_seq_k (fun K hK => ?_))
    refine aw_loopH (α := Nat × Kr) (fun p => p.1 ≤ l.length ∧ Inv p.1 p.2) (fun p => doesH l id va lv f p.1 p.2) (fun p => l.length - p.1) (0, newK a b c n) ⟨Nat.zero_le _, new_inv hc⟩ (sub_of _ _ ⟨by kernel_rfl, by kernel_rfl, by kernel_rfl, by kernel_rfl, by kernel_rfl, by kernel_rfl, by kernel_rfl, by kernel_rfl, trivial⟩ ⟨by kernel_rfl, by kernel_rfl, trivial⟩ (by kernel_rfl)) ?_
    rintro ⟨i, k⟩ ⟨hi0, hk0⟩
    have hi : i ≤ l.length := hi0
    have hk : Inv i k := hk0
    show Aw _ _ _ _ (doesH l id va lv f i k)
    unfold doesH
    by_cases hlt : i < l.length
    · obtain ⟨y, hy0⟩ : ∃ y, l[i]? = some y := ⟨_, List.getElem?_eq_getElem hlt⟩
      have hx := flD_at hy0
      have h8 := hl y (List.mem_of_getElem? hy0)
      have hd := do_ok hk (by omega) y h8.1 h8.2
      have ht := told_ok hk (by omega) y h8.1 h8.2
      have hdi := do_inv (d := y) hk
      have hsm := SpM.same_ok (doR k y).1 hdi.ts hdi.cs.2 (by have := hdi.ml; omega) (by have := hdi.sl; omega) (by have := hdi.fl; omega)
      revert hd ht hdi hsm
      generalize doR k y = rr
      intro hd ht hdi hsm
      repeat (first
        | (refine go_at rfl ?_; first
            | refine go_do (valid_mv (.inl rfl) rfl) rfl ?_
            | refine go_do (valid_cmp rfl rfl rfl rfl (by first | exact .eql1 (by omega) | exact .eql0 (by omega) | exact .neq1 (by omega) | exact .neq0 (by omega) | exact .lss1 (by omega) | exact .lss0 (by omega) | exact .leq1 (by omega) | exact .leq0 (by omega) | exact .gtr1 (by omega) | exact .gtr0 (by omega) | exact .geq1 (by omega) | exact .geq0 (by omega) | constructor)) rfl ?_
            | refine go_do (valid_len_s rfl rfl rfl rfl) rfl ?_)
        | refine aw_text rfl ?_
        | refine aw_seq_k (fun K hK => ?_))
      first
        | (refine hK _ ?_; clear hK K)
        | (rename_i K1 hK1; refine hK1 _ ?_; clear hK hK1; clear K)
        | (rename_i K1 hK1; refine hK1 _ ?_; clear hK1)
      repeat (first
        | refine aw_cond1 rfl rfl ?_
        | refine aw_skip ?_)
      first
        | (refine hK _ ?_; clear hK K)
        | (rename_i K1 hK1; refine hK1 _ ?_; clear hK hK1; clear K)
        | (rename_i K1 hK1; refine hK1 _ ?_; clear hK1)
      repeat (first
        | (refine go_at rfl ?_; first
            | refine go_do (valid_mv (.inl rfl) rfl) rfl ?_
            | (refine nxt_s 1 rfl ?_; refine go_do (valid_load_p tb rfl rfl rfl rfl rfl (by first | kernel_rfl | rfl)) (by first | kernel_rfl | rfl) ?_)
            | refine go_do (valid_mv (.inr rfl) rfl) rfl ?_
            | refine go_do (valid_extract rfl rfl rfl rfl) rfl ?_
            | refine go_do (valid_alloc rfl rfl rfl rfl rfl) rfl ?_
            | (refine nxt_s 1 rfl ?_; refine go_do (valid_store_p rfl rfl rfl rfl rfl rfl (by first | kernel_rfl | rfl) rfl) (by first | kernel_rfl | rfl) ?_)
            | (refine nxt_s 3 rfl ?_; refine go_do (valid_load_q tb rfl rfl rfl rfl (by first | kernel_rfl | rfl)) rfl ?_)
            | (refine nxt_s 4 rfl ?_; refine go_do (valid_idx_s rfl rfl rfl rfl rfl rfl (by omega) (by omega) _ (by assumption)) rfl ?_)
            | refine go_do (valid_call rfl rfl rfl (hd) (by kernel_rfl)) rfl ?_)
        | refine aw_any (by kernel_rfl) (by kernel_rfl) rfl ?_
        | refine aw_block ?_
        | refine aw_seq_k (fun K hK => ?_))
      first
        | (refine hK _ ?_; clear hK K)
        | (rename_i K1 hK1; refine hK1 _ ?_; clear hK hK1; clear K)
        | (rename_i K1 hK1; refine hK1 _ ?_; clear hK1)
      refine aw_sub (sub_of [(1, .m (.c (.s l.length 2 (flD l)))), (2, .m (ii id)), (3, .m (iu va)), (4, .m (ii lv)), (5, .m (.c (.s f.length 4 (flF f)))), (13, .m (.c (.p 13 0))), (15, .m (.c (.p 15 0))), (16, .m (ii i)), (17, .m (.c (.p 17 0))), (18, .m (ii rr.2.1)), (19, .m (ii rr.2.2))] [(13, .live (.box k.ce)), (15, .live (.box k.ce)), (17, .live (.box rr.1.ce))] ⟨by kernel_rfl, by kernel_rfl, by kernel_rfl, by kernel_rfl, by kernel_rfl, by kernel_rfl, by kernel_rfl, by kernel_rfl, by kernel_rfl, by kernel_rfl, by kernel_rfl, trivial⟩ ⟨by kernel_rfl, by kernel_rfl, by kernel_rfl, trivial⟩ (by kernel_rfl)) ?_
      repeat (first
        | (refine go_at rfl ?_; first
            | refine go_do (valid_mv (.inl rfl) rfl) rfl ?_
            | (refine nxt_s 1 rfl ?_; refine go_do (valid_load_p tb rfl rfl rfl rfl rfl (by first | kernel_rfl | rfl)) (by first | kernel_rfl | rfl) ?_)
            | refine go_do (valid_mv (.inr rfl) rfl) rfl ?_
            | refine go_do (valid_extract rfl rfl rfl rfl) rfl ?_
            | refine go_do (valid_alloc rfl rfl rfl rfl rfl) rfl ?_
            | (refine nxt_s 1 rfl ?_; refine go_do (valid_store_p rfl rfl rfl rfl rfl rfl (by first | kernel_rfl | rfl) rfl) (by first | kernel_rfl | rfl) ?_)
            | (refine nxt_s 3 rfl ?_; refine go_do (valid_load_q tb rfl rfl rfl rfl (by first | kernel_rfl | rfl)) rfl ?_)
            | (refine nxt_s 4 rfl ?_; refine go_do (valid_idx_s rfl rfl rfl rfl rfl rfl (by omega) (by omega) _ (by assumption)) rfl ?_)
            | refine go_do (valid_call rfl rfl rfl (ht) (by kernel_rfl)) rfl ?_)
        | refine aw_any (by kernel_rfl) (by kernel_rfl) rfl ?_
        | refine aw_seq_k (fun K hK => ?_))
      first
        | (refine hK _ ?_; clear hK K)
        | (rename_i K1 hK1; refine hK1 _ ?_; clear hK hK1; clear K)
        | (rename_i K1 hK1; refine hK1 _ ?_; clear hK1)
      refine aw_sub (sub_of [(1, .m (.c (.s l.length 2 (flD l)))), (2, .m (ii id)), (3, .m (iu va)), (4, .m (ii lv)), (5, .m (.c (.s f.length 4 (flF f)))), (13, .m (.c (.p 13 0))), (15, .m (.c (.p 15 0))), (16, .m (ii i)), (17, .m (.c (.p 17 0))), (18, .m (ii rr.2.1)), (19, .m (ii rr.2.2)), (20, .m (.c (.p 20 0))), (21, .m (ii rr.2.1)), (22, .m (ii rr.2.2))] [(13, .live (.box k.ce)), (15, .live (.box k.ce)), (17, .live (.box rr.1.ce)), (20, .live (.box rr.1.ce))] ⟨by kernel_rfl, by kernel_rfl, by kernel_rfl, by kernel_rfl, by kernel_rfl, by kernel_rfl, by kernel_rfl, by kernel_rfl, by kernel_rfl, by kernel_rfl, by kernel_rfl, by kernel_rfl, by kernel_rfl, by kernel_rfl, trivial⟩ ⟨by kernel_rfl, by kernel_rfl, by kernel_rfl, by kernel_rfl, trivial⟩ (by kernel_rfl)) ?_
      repeat (first
        | (refine go_at rfl ?_; first
            | refine go_do (valid_mv (.inl rfl) rfl) rfl ?_
            | (refine nxt_s 1 rfl ?_; refine go_do (valid_load_p tb rfl rfl rfl rfl rfl (by first | kernel_rfl | rfl)) (by first | kernel_rfl | rfl) ?_)
            | refine go_do (valid_mv (.inr rfl) rfl) rfl ?_
            | refine go_do (valid_pick rfl rfl rfl) rfl ?_
            | refine go_do (valid_cmp rfl rfl rfl rfl (by first | exact .eql1 (by omega) | exact .eql0 (by omega) | exact .neq1 (by omega) | exact .neq0 (by omega) | exact .lss1 (by omega) | exact .lss0 (by omega) | exact .leq1 (by omega) | exact .leq0 (by omega) | exact .gtr1 (by omega) | exact .gtr0 (by omega) | exact .geq1 (by omega) | exact .geq0 (by omega) | constructor)) rfl ?_
            | refine go_do (valid_ar rfl rfl rfl rfl (by constructor) (by first | exact wr_u64 (by omega) (by omega) | exact wr_i64 (by omega) (by omega) | rfl)) rfl ?_
            | (refine nxt_s 1 rfl ?_; refine go_do (valid_store_p rfl rfl rfl rfl rfl rfl (by first | kernel_rfl | rfl) rfl) (by first | kernel_rfl | rfl) ?_)
            | refine go_do (valid_not rfl rfl rfl) rfl ?_
            | refine go_do (valid_call rfl rfl rfl (hsm) (by kernel_rfl)) rfl ?_)
        | (refine hK _ ?_; clear hK K)
        | refine aw_text rfl ?_
        | refine aw_cond0 rfl rfl ?_
        | refine aw_skip ?_
        | refine aw_seq_k (fun K hK => ?_))
      exact ⟨(i + 1, rr.1), ⟨by show i + 1 ≤ l.length; omega, hdi⟩, by show l.length - (i + 1) < l.length - i; omega, sub_of _ _ ⟨by kernel_rfl, by kernel_rfl, by kernel_rfl, by kernel_rfl, by kernel_rfl, by kernel_rfl, by kernel_rfl, by kernel_rfl, trivial⟩ ⟨by kernel_rfl, by kernel_rfl, trivial⟩ (by kernel_rfl)⟩
    · have hw := where_ok k id va lv hva
      have hw2 := rwhere_ok k id va lv hva
      have b1 := hk.ml
      have b2 := hk.fl
      have b3 := hk.sl
      have hfe := sfence_ok k hk.ts hk.cs.2 f hf (by omega) (by omega)
      have hfr := rfence_ok k hk.ts hk.cs.2 f (by omega) (by omega)
      have hsm := SpM.same_ok (fenceK k f) hk.ts hk.cs.2 (by show k.m.length ≤ _; omega) (by show k.ss.length ≤ _; omega) (by show (k.fs ++ f).length ≤ _; rw [List.length_append]; omega)
      revert hw hw2
      generalize whereR k id va lv = wr
      intro hw hw2
      repeat (first
        | (refine go_at rfl ?_; first
            | refine go_do (valid_mv (.inl rfl) rfl) rfl ?_
            | (refine nxt_s 1 rfl ?_; refine go_do (valid_load_p tb rfl rfl rfl rfl rfl (by first | kernel_rfl | rfl)) (by first | kernel_rfl | rfl) ?_)
            | refine go_do (valid_mv (.inr rfl) rfl) rfl ?_
            | refine go_do (valid_pick rfl rfl rfl) rfl ?_
            | refine go_do (valid_extract rfl rfl rfl rfl) rfl ?_
            | refine go_do (valid_cmp rfl rfl rfl rfl (by first | exact .eql1 (by omega) | exact .eql0 (by omega) | exact .neq1 (by omega) | exact .neq0 (by omega) | exact .lss1 (by omega) | exact .lss0 (by omega) | exact .leq1 (by omega) | exact .leq0 (by omega) | exact .gtr1 (by omega) | exact .gtr0 (by omega) | exact .geq1 (by omega) | exact .geq0 (by omega) | constructor)) rfl ?_
            | refine go_do (valid_len_s rfl rfl rfl rfl) rfl ?_
            | refine go_do (valid_call rfl rfl rfl (hw) (by kernel_rfl)) rfl ?_
            | refine go_do (valid_call rfl rfl rfl (hw2) (by kernel_rfl)) rfl ?_
            | (refine nxt_dst 130 rfl ?_; refine go_do (valid_call rfl rfl rfl (hfe) (by kernel_rfl)) rfl ?_)
            | (refine nxt_dst 133 rfl ?_; refine go_do (valid_call rfl rfl rfl (hfr) (by kernel_rfl)) rfl ?_)
            | refine go_do (valid_call rfl rfl rfl (hsm) (by kernel_rfl)) rfl ?_)
        | (refine hK _ ?_; clear hK K)
        | (rename_i K1 hK1; refine hK1 _ ?_; clear hK hK1; clear K)
        | refine aw_text rfl ?_
        | refine aw_any (by kernel_rfl) (by kernel_rfl) rfl ?_
        | exact aw_ret (show resA _ _ _ = some _ by kernel_rfl)
        | refine aw_cond0 rfl rfl ?_
        | refine aw_exit ?_
        | refine aw_seq_k (fun K hK => ?_))
end Go.Proofs.YtkffmaeiplgjeaaGreatDoor.RfF
/- The abstract walk: how many are free; trees that are as they should be. -/
namespace Go.Proofs.YtkffmaeiplgjeaaGreatDoor.RfI
open Go.RowKit Go.Proofs.YtkffmaeiplgjeaaGreatDoor.Bv Go.Proofs.YtkffmaeiplgjeaaGreatDoor.VaSpec Go.Proofs.YtkffmaeiplgjeaaGreatDoor.Base Go.Proofs.YtkffmaeiplgjeaaGreatDoor.MemL Go.Proofs.YtkffmaeiplgjeaaGreatDoor.RegR Go.Proofs.YtkffmaeiplgjeaaGreatDoor.Ax Go.Proofs.YtkffmaeiplgjeaaGreatDoor.MemC Go.Proofs.YtkffmaeiplgjeaaGreatDoor.PutC Go.Proofs.YtkffmaeiplgjeaaGreatDoor.MemC3 Go.Proofs.YtkffmaeiplgjeaaGreatDoor.TzC Go.Proofs.YtkffmaeiplgjeaaGreatDoor.OkS Go.Proofs.YtkffmaeiplgjeaaGreatDoor.SpA Go.Proofs.YtkffmaeiplgjeaaGreatDoor.SpB Go.Proofs.YtkffmaeiplgjeaaGreatDoor.SpC Go.Proofs.YtkffmaeiplgjeaaGreatDoor.SpD Go.Proofs.YtkffmaeiplgjeaaGreatDoor.IterC Go.Proofs.YtkffmaeiplgjeaaGreatDoor.SpE Go.Proofs.YtkffmaeiplgjeaaGreatDoor.SpF Go.Proofs.YtkffmaeiplgjeaaGreatDoor.SpG Go.Proofs.YtkffmaeiplgjeaaGreatDoor.SpH Go.Proofs.YtkffmaeiplgjeaaGreatDoor.SpI Go.Proofs.YtkffmaeiplgjeaaGreatDoor.SpJ Go.Proofs.YtkffmaeiplgjeaaGreatDoor.SpK Go.Proofs.YtkffmaeiplgjeaaGreatDoor.SpN Go.Proofs.YtkffmaeiplgjeaaGreatDoor.RfP Go.Proofs.YtkffmaeiplgjeaaGreatDoor.RfQ Go.Proofs.YtkffmaeiplgjeaaGreatDoor.RfE Go.Proofs.YtkffmaeiplgjeaaGreatDoor.RfG Go.Proofs.YtkffmaeiplgjeaaGreatDoor.RfJ Go.Proofs.YtkffmaeiplgjeaaGreatDoor.RfK Go.Proofs.YtkffmaeiplgjeaaGreatDoor.RfA Go.Proofs.YtkffmaeiplgjeaaGreatDoor.RfB Go.Proofs.YtkffmaeiplgjeaaGreatDoor.RfC Go.Proofs.YtkffmaeiplgjeaaGreatDoor.SpO Go.Proofs.YtkffmaeiplgjeaaGreatDoor.SpP Go.Proofs.YtkffmaeiplgjeaaGreatDoor.SpQ
open Go.Proofs.YtkffmaeiplgjeaaGreatDoor.BitsC Go.Proofs.YtkffmaeiplgjeaaGreatDoor.PteSpec
set_option linter.unusedVariables false
set_option linter.unusedSimpArgs false
set_option maxRecDepth 10000
set_option maxHeartbeats 800000
theorem ones_ok (x : Int) (hx : U x) : Ok 52 [iu x] (.m (ii (cnt x))) :=
  ok_plain #[.int .u64 x] (.int .i64 (cnt x)) fun W _ => by
    have := RfH.ones_calls x W hx
    rw [cnt_test x hx] at this
    exact this.mono fun e w' ⟨he, hq⟩ => ⟨he, Q.below hq⟩
attribute [local irreducible] Go.Proofs.YtkffmaeiplgjeaaGreatDoor.Ax.CallOk
theorem pfree_ok (b m f : Int) (hf : U f) : Ok 19 [.ag [cu b, ci m, cu f]] (.m (ii (cnt f))) := by
  have h := ones_ok f hf
  refine callOk_of 6 Tryz.func19 rfl rfl rfl rfl ?_ GG.to
  intro W A hG
  repeat (first
    | (refine go_at rfl ?_; first
        | (refine nxt_s 1 rfl ?_; refine go_do (valid_load_p tb rfl rfl rfl rfl rfl (by first | kernel_rfl | rfl)) (by first | kernel_rfl | rfl) ?_)
        | (refine nxt_s 1 rfl ?_; refine go_do (valid_fld_p tb rfl rfl rfl (by kernel_rfl)) rfl ?_)
        | refine go_do (valid_mv (.inr rfl) rfl) rfl ?_
        | refine go_do (valid_box rfl rfl rfl rfl rfl rfl) rfl ?_
        | refine go_do (valid_call rfl rfl rfl (h) (by kernel_rfl)) rfl ?_)
    | (refine hK _ ?_; clear hK K)
    | refine aw_text rfl ?_
    | exact aw_ret (show resA _ _ _ = some _ by kernel_rfl)
    | refine aw_seq_k (fun K hK => ?_))
theorem afree_ok (m f o : Int) (hf : U f) : Ok 20 [.ag [ci m, cu f, cu o]] (.m (ii (cnt f))) := by
  have h := ones_ok f hf
  refine callOk_of 6 Tryz.func20 rfl rfl rfl rfl ?_ GG.to
  intro W A hG
  repeat (first
    | (refine go_at rfl ?_; first
        | (refine nxt_s 1 rfl ?_; refine go_do (valid_load_p tb rfl rfl rfl rfl rfl (by first | kernel_rfl | rfl)) (by first | kernel_rfl | rfl) ?_)
        | (refine nxt_s 1 rfl ?_; refine go_do (valid_fld_p tb rfl rfl rfl (by kernel_rfl)) rfl ?_)
        | refine go_do (valid_mv (.inr rfl) rfl) rfl ?_
        | refine go_do (valid_box rfl rfl rfl rfl rfl rfl) rfl ?_
        | refine go_do (valid_call rfl rfl rfl (h) (by kernel_rfl)) rfl ?_)
    | (refine hK _ ?_; clear hK K)
    | refine aw_text rfl ?_
    | exact aw_ret (show resA _ _ _ = some _ by kernel_rfl)
    | refine aw_seq_k (fun K hK => ?_))
theorem rpfree_ok (b m f : Int) (hf : U f) : Ok 50 [.ag [cu b, ci m, cu f]] (.m (ii (cnt f))) := by
  obtain ⟨N, hN⟩ : ∃ N, N = cnt f := ⟨_, rfl⟩
  rw [← hN]
  refine callOk_of 16 Tryz.func50 rfl rfl rfl rfl ?_ GG.to
  intro W A hG
  repeat (first
    | (refine go_at rfl ?_; first
        | refine go_do (valid_mv (.inr rfl) rfl) rfl ?_
        | refine go_do (valid_box rfl rfl rfl rfl rfl rfl) rfl ?_)
    | (refine hK _ ?_; clear hK K)
    | refine aw_text rfl ?_
    | refine aw_block ?_
    | refine aw_seq_k (fun K hK => ?_))
  refine aw_loopH (α := Nat × Nat) (fun q => q.1 ≤ 64 ∧ q.2 = cs q.1 (fun j => bitB f (j : Int)) ∧ q.2 ≤ q.1) (fun q => St.of [(1, .m (.c (.p 1 0))), (3, .m (ii q.2)), (4, .m (ii q.1))] [(1, .live (.box [cu b, ci m, cu f]))]) (fun q => 64 - q.1) (0, 0) ⟨by show 0 ≤ 64; omega, rfl, Nat.le_refl _⟩ (sub_of _ _ ⟨rfl, rfl, rfl, trivial⟩ ⟨rfl, trivial⟩ rfl) ?_
  rintro ⟨i, n⟩ ⟨h1, h2, h3⟩
  have g1 : i ≤ 64 := h1
  have g2 : n = cs i (fun j => bitB f (j : Int)) := h2
  have g3 : n ≤ i := h3
  clear h1 h2 h3
  show Aw _ _ _ _ (St.of [(1, .m (.c (.p 1 0))), (3, .m (ii n)), (4, .m (ii i))] [(1, .live (.box [cu b, ci m, cu f]))])
  by_cases hlt : i < 64
  · have hb := rbit_ok f i hf (by omega) (by omega)
    cases hbt : bitB f i with
    | true =>
      rw [hbt] at hb
      repeat (first
        | (refine go_at rfl ?_; first
            | refine go_do (valid_mv (.inl rfl) rfl) rfl ?_
            | (refine nxt_s 1 rfl ?_; refine go_do (valid_load_p tb rfl rfl rfl rfl rfl (by first | kernel_rfl | rfl)) (by first | kernel_rfl | rfl) ?_)
            | (refine nxt_s 1 rfl ?_; refine go_do (valid_fld_p tb rfl rfl rfl (by kernel_rfl)) rfl ?_)
            | refine go_do (valid_mv (.inr rfl) rfl) rfl ?_
            | refine go_do (valid_cmp rfl rfl rfl rfl (by first | exact .eql1 (by omega) | exact .eql0 (by omega) | exact .neq1 (by omega) | exact .neq0 (by omega) | exact .lss1 (by omega) | exact .lss0 (by omega) | exact .leq1 (by omega) | exact .leq0 (by omega) | exact .gtr1 (by omega) | exact .gtr0 (by omega) | exact .geq1 (by omega) | exact .geq0 (by omega) | constructor)) rfl ?_
            | refine go_do (valid_ar rfl rfl rfl rfl (by constructor) (by first | exact wr_u64 (by omega) (by omega) | exact wr_i64 (by omega) (by omega) | rfl)) rfl ?_
            | refine go_do (valid_call rfl rfl rfl (hb) (by kernel_rfl)) rfl ?_)
        | (refine hK _ ?_; clear hK K)
        | refine aw_text rfl ?_
        | refine aw_cond1 rfl rfl ?_
        | refine aw_block ?_
        | refine aw_skip ?_
        | refine aw_seq_k (fun K hK => ?_))
      exact ⟨(i + 1, n + 1), ⟨by show i + 1 ≤ 64; omega, by show n + 1 = cs i _ + (bitB f (i : Int)).toNat; rw [g2, hbt]; rfl, by show n + 1 ≤ i + 1; omega⟩, by show 64 - (i + 1) < 64 - i; omega, sub_of _ _ ⟨rfl, rfl, rfl, trivial⟩ ⟨rfl, trivial⟩ rfl⟩
    | false =>
      rw [hbt] at hb
      repeat (first
        | (refine go_at rfl ?_; first
            | refine go_do (valid_mv (.inl rfl) rfl) rfl ?_
            | (refine nxt_s 1 rfl ?_; refine go_do (valid_load_p tb rfl rfl rfl rfl rfl (by first | kernel_rfl | rfl)) (by first | kernel_rfl | rfl) ?_)
            | (refine nxt_s 1 rfl ?_; refine go_do (valid_fld_p tb rfl rfl rfl (by kernel_rfl)) rfl ?_)
            | refine go_do (valid_mv (.inr rfl) rfl) rfl ?_
            | refine go_do (valid_cmp rfl rfl rfl rfl (by first | exact .eql1 (by omega) | exact .eql0 (by omega) | exact .neq1 (by omega) | exact .neq0 (by omega) | exact .lss1 (by omega) | exact .lss0 (by omega) | exact .leq1 (by omega) | exact .leq0 (by omega) | exact .gtr1 (by omega) | exact .gtr0 (by omega) | exact .geq1 (by omega) | exact .geq0 (by omega) | constructor)) rfl ?_
            | refine go_do (valid_ar rfl rfl rfl rfl (by constructor) (by first | exact wr_u64 (by omega) (by omega) | exact wr_i64 (by omega) (by omega) | rfl)) rfl ?_
            | refine go_do (valid_call rfl rfl rfl (hb) (by kernel_rfl)) rfl ?_)
        | (refine hK _ ?_; clear hK K)
        | refine aw_text rfl ?_
        | refine aw_cond1 rfl rfl ?_
        | refine aw_cond0 rfl rfl ?_
        | refine aw_block ?_
        | refine aw_skip ?_
        | refine aw_seq_k (fun K hK => ?_))
      exact ⟨(i + 1, n), ⟨by show i + 1 ≤ 64; omega, by show n = cs i _ + (bitB f (i : Int)).toNat; rw [g2, hbt]; rfl, by show n ≤ i + 1; omega⟩, by show 64 - (i + 1) < 64 - i; omega, sub_of _ _ ⟨rfl, rfl, rfl, trivial⟩ ⟨rfl, trivial⟩ rfl⟩
  · obtain rfl : i = 64 := by omega
    obtain rfl : N = n := hN.trans g2.symm
    repeat (first
      | (refine go_at rfl ?_; first
          | refine go_do (valid_mv (.inl rfl) rfl) rfl ?_
          | refine go_do (valid_mv (.inr rfl) rfl) rfl ?_
          | refine go_do (valid_cmp rfl rfl rfl rfl (by first | exact .eql1 (by omega) | exact .eql0 (by omega) | exact .neq1 (by omega) | exact .neq0 (by omega) | exact .lss1 (by omega) | exact .lss0 (by omega) | exact .leq1 (by omega) | exact .leq0 (by omega) | exact .gtr1 (by omega) | exact .gtr0 (by omega) | exact .geq1 (by omega) | exact .geq0 (by omega) | constructor)) rfl ?_)
      | (refine hK _ ?_; clear hK K)
      | (rename_i K1 hK1; refine hK1 _ ?_; clear hK hK1; clear K)
      | refine aw_text rfl ?_
      | exact aw_ret (show resA _ _ _ = some _ by kernel_rfl)
      | refine aw_cond0 rfl rfl ?_
      | refine aw_exit ?_
      | refine aw_seq_k (fun K hK => ?_))
def flU (l : List Int) : List Value := l.map fun x => .int .u64 x
theorem flU_one (l : List Int) : (flU l).all (·.oneCell') = true := by
  rw [List.all_eq_true]
  intro v hv
  obtain ⟨x, _, rfl⟩ := List.mem_map.1 hv
  rfl
theorem flU_at {l : List Int} {k : Nat} {c : Int} (h : l[k]? = some c) : ((flU l).drop (k * 1)).take 1 = [.int .u64 c] := by
  rw [Nat.mul_one]
  apply List.ext_getElem?
  intro i
  unfold flU
  cases i with
  | zero => simp [h]
  | succ i => simp [List.getElem?_take]
theorem rright_ok (sz : Int) (m : List (Int × Int)) (f lv : Int) (met : List Int) (hf : 0 ≤ f ∧ f < sz / 4096) (hsz : sz ≤ 1099511627776) (l0 : 0 ≤ lv) (l2 : lv ≤ 2) (hs : Srt m) (hu : Uw m) (hl : m.length ≤ 1000000) (hz : ∀ i : Int, 0 ≤ i → i < 512 → wordM sz m (4096 * f + 8 * i) = 0) (hmet : met.length < 64) (hno : ∀ x ∈ met, x ≠ f) :
    Ok 47 [memA sz m, iu f, ii lv, .c (.s met.length 1 (flU met))] (.tu [.c (.s (met.length + 1) 1 (flU met ++ [.int .u64 f])), ib true]) := by
  have hf2 : f < 1099511627776 := by omega
  refine callOk_of 79 Tryz.func47 rfl rfl rfl rfl ?_ GG.to
  intro W A hG
  repeat (first
    | (refine go_at rfl ?_; first
        | refine go_do (valid_mv (.inl rfl) rfl) rfl ?_
        | (refine nxt_s 1 rfl ?_; refine go_do (valid_load_p tb rfl rfl rfl rfl rfl (by first | kernel_rfl | rfl)) (by first | kernel_rfl | rfl) ?_)
        | (refine nxt_s 1 rfl ?_; refine go_do (valid_fld_p tb rfl rfl rfl (by kernel_rfl)) rfl ?_)
        | refine go_do (valid_mv (.inr rfl) rfl) rfl ?_
        | refine go_do (valid_pick rfl rfl rfl) rfl ?_
        | refine go_do (valid_cmp rfl rfl rfl rfl (by first | exact .eql1 (by omega) | exact .eql0 (by omega) | exact .neq1 (by omega) | exact .neq0 (by omega) | exact .lss1 (by omega) | exact .lss0 (by omega) | exact .leq1 (by omega) | exact .leq0 (by omega) | exact .gtr1 (by omega) | exact .gtr0 (by omega) | exact .geq1 (by omega) | exact .geq0 (by omega) | constructor)) rfl ?_
        | refine go_do (valid_quo rfl rfl rfl rfl (by omega) (by omega) (by first | exact wr_u64 (by omega) (by omega) | exact wr_i64 (by omega) (by omega))) rfl ?_
        | refine go_do (valid_box rfl rfl rfl rfl rfl rfl) rfl ?_
        | refine go_do (valid_len_s rfl rfl rfl rfl) rfl ?_)
    | (refine hK _ ?_; clear hK K)
    | refine aw_text rfl ?_
    | refine aw_cond0 rfl rfl ?_
    | refine aw_block ?_
    | refine aw_skip ?_
    | refine aw_seq_k (fun K hK => ?_))
  refine aw_loopH (α := Nat) (fun i => i ≤ met.length) (fun i => St.of [(1, .m (iu f)), (2, .m (ii lv)), (3, .m (.c (.s met.length 1 (flU met)))), (4, .m (.c (.p 4 0))), (10, .m (ii i))] [(4, .live (.box [cu sz, .s m.length 2 (fl m)]))]) (fun i => met.length - i) 0 (Nat.zero_le _) (sub_of _ _ ⟨rfl, rfl, rfl, rfl, rfl, trivial⟩ ⟨rfl, trivial⟩ rfl) ?_
  intro i hi
  by_cases hlt : i < met.length
  · obtain ⟨x, hx0⟩ : ∃ x, met[i]? = some x := ⟨_, List.getElem?_eq_getElem hlt⟩
    have hx := flU_at hx0
    have hne := hno x (List.mem_of_getElem? hx0)
    repeat (first
      | (refine go_at rfl ?_; first
          | refine go_do (valid_mv (.inl rfl) rfl) rfl ?_
          | refine go_do (valid_mv (.inr rfl) rfl) rfl ?_
          | refine go_do (valid_cmp rfl rfl rfl rfl (by first | exact .eql1 (by omega) | exact .eql0 (by omega) | exact .neq1 (by omega) | exact .neq0 (by omega) | exact .lss1 (by omega) | exact .lss0 (by omega) | exact .leq1 (by omega) | exact .leq0 (by omega) | exact .gtr1 (by omega) | exact .gtr0 (by omega) | exact .geq1 (by omega) | exact .geq0 (by omega) | constructor)) rfl ?_
          | refine go_do (valid_ar rfl rfl rfl rfl (by constructor) (by first | exact wr_u64 (by omega) (by omega) | exact wr_i64 (by omega) (by omega) | rfl)) rfl ?_
          | refine go_do (valid_len_s rfl rfl rfl rfl) rfl ?_
          | (refine nxt_s 3 rfl ?_; refine go_do (valid_load_q tb rfl rfl rfl rfl (by first | kernel_rfl | rfl)) rfl ?_)
          | (refine nxt_s 4 rfl ?_; refine go_do (valid_idx_s rfl rfl rfl rfl rfl rfl (by omega) (by omega) _ (by assumption)) rfl ?_))
      | (refine hK _ ?_; clear hK K)
      | refine aw_text rfl ?_
      | refine aw_cond1 rfl rfl ?_
      | refine aw_cond0 rfl rfl ?_
      | refine aw_block ?_
      | refine aw_skip ?_
      | refine aw_seq_k (fun K hK => ?_))
    exact ⟨i + 1, by omega, by omega, sub_of _ _ ⟨rfl, rfl, rfl, rfl, rfl, trivial⟩ ⟨rfl, trivial⟩ rfl⟩
  · skip
    repeat (first
      | (refine go_at rfl ?_; first
          | refine go_do (valid_mv (.inl rfl) rfl) rfl ?_
          | refine go_do (valid_mv (.inr rfl) rfl) rfl ?_
          | refine go_do (valid_cmp rfl rfl rfl rfl (by first | exact .eql1 (by omega) | exact .eql0 (by omega) | exact .neq1 (by omega) | exact .neq0 (by omega) | exact .lss1 (by omega) | exact .lss0 (by omega) | exact .leq1 (by omega) | exact .leq0 (by omega) | exact .gtr1 (by omega) | exact .gtr0 (by omega) | exact .geq1 (by omega) | exact .geq0 (by omega) | constructor)) rfl ?_
          | refine go_do (valid_len_s rfl rfl rfl rfl) rfl ?_
          | refine go_do (valid_bslice rfl rfl rfl rfl rfl rfl rfl rfl rfl rfl rfl) rfl ?_
          | refine go_do (valid_bslice0 rfl rfl rfl rfl rfl rfl rfl) rfl ?_
          | refine go_do (valid_app_e rfl rfl rfl rfl rfl rfl rfl rfl rfl rfl rfl rfl (flU_one met) (by omega)) rfl ?_
          | refine go_do (valid_app rfl rfl rfl rfl rfl rfl rfl rfl rfl rfl rfl rfl rfl (by omega)) rfl ?_)
      | (refine hK _ ?_; clear hK K)
      | (rename_i K1 hK1; refine hK1 _ ?_; clear hK hK1; clear K)
      | refine aw_text rfl ?_
      | refine aw_cond0 rfl rfl ?_
      | refine aw_block ?_
      | refine aw_exit ?_
      | refine aw_seq_k (fun K hK => ?_))
    refine aw_loopH (α := Nat) (fun i => i ≤ 512) (fun i => St.of [(1, .m (iu f)), (2, .m (ii lv)), (3, .m (.c (.o 52))), (4, .m (.c (.p 4 0))), (11, .m (ii i))] [(4, .live (.box [cu sz, .s m.length 2 (fl m)])), (52, .live (.row 26 1 (met.length + 1) (flU met ++ [.int .u64 f])))]) (fun i => 512 - i) 0 (Nat.zero_le _) (sub_of _ _ ⟨rfl, rfl, rfl, rfl, rfl, trivial⟩ ⟨rfl, rfl, trivial⟩ rfl) ?_
    intro j hj
    by_cases hjt : j < 512
    · have ha := rat_ok sz m f j ⟨hf.1, hf2⟩ ⟨by omega, by omega⟩ hs hu hl
      rw [hz j (by omega) (by omega)] at ha
      have hk := rlinks_ok (pteOf 0) (pteOf_U 0 (by omega) (by omega)) lv l0 l2
      rw [show linksP (pteOf 0) lv = false by rcases (by omega : lv = 0 ∨ lv = 1 ∨ lv = 2) with rfl | rfl | rfl <;> decide] at hk
      repeat (first
        | (refine go_at rfl ?_; first
            | refine go_do (valid_mv (.inl rfl) rfl) rfl ?_
            | (refine nxt_s 1 rfl ?_; refine go_do (valid_load_p tb rfl rfl rfl rfl rfl (by first | kernel_rfl | rfl)) (by first | kernel_rfl | rfl) ?_)
            | refine go_do (valid_mv (.inr rfl) rfl) rfl ?_
            | refine go_do (valid_cmp rfl rfl rfl rfl (by first | exact .eql1 (by omega) | exact .eql0 (by omega) | exact .neq1 (by omega) | exact .neq0 (by omega) | exact .lss1 (by omega) | exact .lss0 (by omega) | exact .leq1 (by omega) | exact .leq0 (by omega) | exact .gtr1 (by omega) | exact .gtr0 (by omega) | exact .geq1 (by omega) | exact .geq0 (by omega) | constructor)) rfl ?_
            | refine go_do (valid_ar rfl rfl rfl rfl (by constructor) (by first | exact wr_u64 (by omega) (by omega) | exact wr_i64 (by omega) (by omega) | rfl)) rfl ?_
            | refine go_do (valid_alloc rfl rfl rfl rfl rfl) rfl ?_
            | (refine nxt_s 1 rfl ?_; refine go_do (valid_store_p rfl rfl rfl rfl rfl rfl (by first | kernel_rfl | rfl) rfl) (by first | kernel_rfl | rfl) ?_)
            | refine go_do (valid_call rfl rfl rfl (ha) (by kernel_rfl)) rfl ?_
            | refine go_do (valid_call rfl rfl rfl (hk) (by kernel_rfl)) rfl ?_)
        | (refine hK _ ?_; clear hK K)
        | refine aw_text rfl ?_
        | refine aw_cond1 rfl rfl ?_
        | refine aw_cond0 rfl rfl ?_
        | refine aw_block ?_
        | refine aw_skip ?_
        | refine aw_seq_k (fun K hK => ?_))
      exact ⟨j + 1, by omega, by omega, sub_of _ _ ⟨rfl, rfl, rfl, rfl, rfl, trivial⟩ ⟨rfl, rfl, trivial⟩ rfl⟩
    · skip
      repeat (first
        | (refine go_at rfl ?_; first
            | refine go_do (valid_mv (.inl rfl) rfl) rfl ?_
            | refine go_do (valid_mv (.inr rfl) rfl) rfl ?_
            | refine go_do (valid_cmp rfl rfl rfl rfl (by first | exact .eql1 (by omega) | exact .eql0 (by omega) | exact .neq1 (by omega) | exact .neq0 (by omega) | exact .lss1 (by omega) | exact .lss0 (by omega) | exact .leq1 (by omega) | exact .leq0 (by omega) | exact .gtr1 (by omega) | exact .gtr0 (by omega) | exact .geq1 (by omega) | exact .geq0 (by omega) | constructor)) rfl ?_)
        | (refine hK _ ?_; clear hK K)
        | (rename_i K1 hK1; refine hK1 _ ?_; clear hK hK1; clear K)
        | refine aw_text rfl ?_
        | exact aw_ret (show resA _ _ _ = some _ by kernel_rfl)
        | refine aw_cond0 rfl rfl ?_
        | refine aw_exit ?_
        | refine aw_seq_k (fun K hK => ?_))
theorem eq_pte (w : World) (q : Pte) :
    (Op.equalIn 10000 102 (.agg #[.bool q.v, .bool q.r, .bool q.w, .bool q.x, .bool q.u, .bool q.g, .bool q.a, .bool q.d, .int .u64 q.rsw, .int .u64 q.ppn, .int .u64 q.high]) (.agg #[.bool q.v, .bool q.r, .bool q.w, .bool q.x, .bool q.u, .bool q.g, .bool q.a, .bool q.d, .int .u64 q.rsw, .int .u64 q.ppn, .int .u64 q.high])).run Tryz.prog w = .ok true w := by
  have : (Op.equalIn 10000 102 (.agg #[.bool q.v, .bool q.r, .bool q.w, .bool q.x, .bool q.u, .bool q.g, .bool q.a, .bool q.d, .int .u64 q.rsw, .int .u64 q.ppn, .int .u64 q.high]) (.agg #[.bool q.v, .bool q.r, .bool q.w, .bool q.x, .bool q.u, .bool q.g, .bool q.a, .bool q.d, .int .u64 q.rsw, .int .u64 q.ppn, .int .u64 q.high])).run Tryz.prog w = .ok (q.v == q.v && (q.r == q.r && (q.w == q.w && (q.x == q.x && (q.u == q.u && (q.g == q.g && (q.a == q.a && (q.d == q.d && (q.rsw == q.rsw && (q.ppn == q.ppn && (q.high == q.high && true))))))))))) w := by
    refine PoolC4.struct_of Tryz.underlying102 (by kernel_rfl) ?_
    refine PoolC4.fields_cons (by rfl) (by go_simp; rfl) (by go_simp; rfl) (by go_simp) ?_
    refine PoolC4.fields_cons (by rfl) (by go_simp; rfl) (by go_simp; rfl) (by go_simp) ?_
    refine PoolC4.fields_cons (by rfl) (by go_simp; rfl) (by go_simp; rfl) (by go_simp) ?_
    refine PoolC4.fields_cons (by rfl) (by go_simp; rfl) (by go_simp; rfl) (by go_simp) ?_
    refine PoolC4.fields_cons (by rfl) (by go_simp; rfl) (by go_simp; rfl) (by go_simp) ?_
    refine PoolC4.fields_cons (by rfl) (by go_simp; rfl) (by go_simp; rfl) (by go_simp) ?_
    refine PoolC4.fields_cons (by rfl) (by go_simp; rfl) (by go_simp; rfl) (by go_simp) ?_
    refine PoolC4.fields_cons (by rfl) (by go_simp; rfl) (by go_simp; rfl) (by go_simp) ?_
    refine PoolC4.fields_cons (by rfl) (by go_simp; rfl) (by go_simp; rfl) (by go_simp) ?_
    refine PoolC4.fields_cons (by rfl) (by go_simp; rfl) (by go_simp; rfl) (by go_simp) ?_
    exact PoolC4.fields_cons (by rfl) (by go_simp; rfl) (by go_simp; rfl) (by go_simp) PoolC4.fields_nil
  rw [this]; simp
end Go.Proofs.YtkffmaeiplgjeaaGreatDoor.RfI
