/- Texts of this claim, one behind the other: SpS. -/
import Derived.Test.YtkffmaeiplgjeaaDoorM22
/- The abstract walk: the law SpaceFences. -/
namespace Go.Proofs.YtkffmaeiplgjeaaDoor.SpS
open Go.RowKit Go.Proofs.YtkffmaeiplgjeaaDoor.Bv Go.Proofs.YtkffmaeiplgjeaaDoor.VaSpec Go.Proofs.YtkffmaeiplgjeaaDoor.Base Go.Proofs.YtkffmaeiplgjeaaDoor.MemL Go.Proofs.YtkffmaeiplgjeaaDoor.RegR Go.Proofs.YtkffmaeiplgjeaaDoor.Ax Go.Proofs.YtkffmaeiplgjeaaDoor.MemC Go.Proofs.YtkffmaeiplgjeaaDoor.PutC Go.Proofs.YtkffmaeiplgjeaaDoor.MemC3 Go.Proofs.YtkffmaeiplgjeaaDoor.TzC Go.Proofs.YtkffmaeiplgjeaaDoor.OkS Go.Proofs.YtkffmaeiplgjeaaDoor.SpA Go.Proofs.YtkffmaeiplgjeaaDoor.SpB Go.Proofs.YtkffmaeiplgjeaaDoor.SpC Go.Proofs.YtkffmaeiplgjeaaDoor.SpD Go.Proofs.YtkffmaeiplgjeaaDoor.IterC Go.Proofs.YtkffmaeiplgjeaaDoor.SpE Go.Proofs.YtkffmaeiplgjeaaDoor.SpF Go.Proofs.YtkffmaeiplgjeaaDoor.SpG Go.Proofs.YtkffmaeiplgjeaaDoor.SpH Go.Proofs.YtkffmaeiplgjeaaDoor.SpI Go.Proofs.YtkffmaeiplgjeaaDoor.SpJ Go.Proofs.YtkffmaeiplgjeaaDoor.SpK Go.Proofs.YtkffmaeiplgjeaaDoor.SpN Go.Proofs.YtkffmaeiplgjeaaDoor.SpO Go.Proofs.YtkffmaeiplgjeaaDoor.SpP Go.Proofs.YtkffmaeiplgjeaaDoor.SpQ
open Go.Proofs.YtkffmaeiplgjeaaDoor.BitsC Go.Proofs.YtkffmaeiplgjeaaDoor.PteSpec
set_option linter.unusedVariables false
set_option linter.unusedSimpArgs false
set_option maxRecDepth 10000
set_option maxHeartbeats 800000
attribute [local irreducible] Go.Proofs.YtkffmaeiplgjeaaDoor.Ax.CallOk
/-- what the list 'owned' holds: each number's bit -/
structure Ownd (xs : List Value) (o : Int) : Prop where
  len : xs.length = 17
  at_ : ∀ j : Nat, j < 16 → xs[j + 1]? = some (.bool (bitB o j))
theorem ownd0 : Ownd (madeCells #[.bool false] (17 * 1)).toList 0 := by
  refine ⟨by simp [size_madeCells], fun j hj => ?_⟩
  have hb : bitB 0 j = false := by
    rw [bitB_eq (by omega)]
    show (X 0).getLsbD _ = false
    rw [show X 0 = 0#64 from rfl, BitVec.getLsbD_zero]
  rw [hb]
  have h17 : j + 1 < 17 * 1 := by omega
  simp [madeCells, h17, Nat.mod_one]
theorem ownd_set {xs : List Value} {o i : Int} (h : Ownd xs o) (hu : U o) (h0 : 0 ≤ i) (h1 : i < 16) : Ownd (xs.set ((i + 1).toNat * 1) (.bool true)) (setI o i 1 1) := by
  refine ⟨by rw [List.length_set]; exact h.len, fun j hj => ?_⟩
  rw [bit_set hu h0 (by omega) (by omega) (by omega)]
  by_cases e : (j : Int) = i
  · rw [if_pos e, show (i + 1).toNat * 1 = j + 1 by omega, List.getElem?_set_self (by rw [h.len]; omega)]
    rfl
  · rw [if_neg e, List.getElem?_set_ne (by omega)]
    exact h.at_ j hj
/-! ### what a deed does to fences -/
structure Calm (k : Kr) (r : Kr) : Prop where
  fs : r.fs.length = k.fs.length
  ao : r.ao = k.ao
theorem sw_calm (k : Kr) (id : Int) : Calm k (switchR k id).1 := by
  unfold switchR
  split
  · exact ⟨rfl, rfl⟩
  · split
    · exact ⟨rfl, rfl⟩
    · exact ⟨rfl, rfl⟩
theorem de_calm (k : Kr) (id : Int) : Calm k (destroyR k id).1 := by
  unfold destroyR
  split
  · exact ⟨rfl, rfl⟩
  · split
    · exact ⟨rfl, rfl⟩
    · exact ⟨rfl, rfl⟩
theorem do_calm {k : Kr} {d : Int × Int} (h : d.1 % 3 ≠ 0) : Calm k (doR k d).1 := by
  unfold doR
  rw [if_neg h]
  split
  · exact de_calm k _
  · exact sw_calm k _
/-- a space is created -/
structure Made (k nk : Kr) (ow : Bool) : Prop where
  tz : 0 ≤ tzI k.af ∧ tzI k.af < 16
  sl : nk.ss.length = k.ss.length + 1
  s1 : ∃ r, ((flS nk.ss).drop (k.ss.length * 3)).take 3 = [.int .u64 r, .int .u64 (tzI k.af + 1), .bool true]
  ao : nk.ao = setI k.ao (tzI k.af) 1 1
  bit : bitB k.ao (tzI k.af) = ow
  fl : nk.fs.length = k.fs.length + (if ow then 1 else 0)
  f1 : ow = true → ((flF nk.fs).drop (k.fs.length * 4)).take 4 = [.bool false, .int .u64 0, .bool true, .int .u64 (tzI k.af + 1)]
theorem create_made {n : Nat} {k : Kr} (h : Inv n k) : (createR k = (k, (createR k).2.1, (createR k).2.2) ∧ (createR k).2.2 ≠ 0) ∨ ∃ nk ow, createR k = (nk, (k.ss.length : Int), 0) ∧ Made k nk ow := by
  unfold createR
  by_cases c1 : 32 ≤ k.ss.length
  · rw [if_pos c1]; exact .inl ⟨rfl, by simp⟩
  rw [if_neg c1]
  by_cases c2 : k.af = 0
  · rw [if_pos c2]; exact .inl ⟨rfl, by simp⟩
  rw [if_neg c2]
  by_cases c3 : k.pf = 0
  · rw [if_pos c3]; exact .inl ⟨rfl, by simp⟩
  rw [if_neg c3]
  have t := tz_fit h.uaf h.af.2 c2
  have h2 := h.ca
  have hs : (k.ss ++ [(⟨k.pb + tzI k.pf, tzI k.af + 1, true⟩ : Sp)])[k.ss.length]? = some ⟨k.pb + tzI k.pf, tzI k.af + 1, true⟩ := by simp
  have hf : (k.fs ++ [aFe (tzI k.af + 1)])[k.fs.length]? = some (aFe (tzI k.af + 1)) := by simp
  right
  by_cases c4 : (getI k.ao (tzI k.af) 1 == 1) = true
  · rw [if_pos c4]
    exact ⟨_, true, rfl, ⟨⟨t.1, by omega⟩, by show (k.ss ++ [_]).length = _; simp, ⟨_, flat_at Sp.vs 3 (fun _ => rfl) (k.ss ++ [_]) _ _ hs⟩, rfl, c4, by show (k.fs ++ [_]).length = _; simp, fun _ => flF_at hf⟩⟩
  · rw [if_neg c4]
    exact ⟨_, false, rfl, ⟨⟨t.1, by omega⟩, by show (k.ss ++ [_]).length = _; simp, ⟨_, flat_at Sp.vs 3 (fun _ => rfl) (k.ss ++ [_]) _ _ hs⟩, rfl, (by unfold bitB; cases e : (getI k.ao (tzI k.af) 1 == 1) with | false => rfl | true => exact absurd e c4), rfl, fun e => by cases e⟩⟩
def feH (l : List (Int × Int)) (i : Nat) (k : Kr) (xs : List Value) : St := St.of [(1, .m (.c (.s l.length 2 (flD l)))), (5, .m (.c (.p 5 0))), (7, .m (.c (.o 32))), (8, .m (ii i))] [(5, .live (.box k.ce)), (32, .live (.row 4 1 17 xs))]
theorem fences_ok (a b c d : Int) (l : List (Int × Int)) (hl : ∀ x ∈ l, D8 x) : Ok 3 [confA a b c d, .c (.s l.length 2 (flD l))] (.m (ib true)) := by
  have hm := rmay_ok a b c d
  cases hc : confB a b c d with
  | false =>
    rw [hc] at hm
    refine callOk_of 137 Tryd.func3 rfl rfl rfl rfl ?_ GG.to
    intro W A hG
    repeat (first
      | (refine go_at rfl ?_; first
          | refine go_do (valid_skip rfl) rfl ?_
          | refine go_do (valid_mv (.inl rfl) rfl) rfl ?_
          | (refine nxt_s 1 rfl ?_; refine go_do (valid_load_p tb rfl rfl rfl rfl rfl (by first | kernel_rfl | rfl)) (by first | kernel_rfl | rfl) ?_)
          | (refine nxt_s 1 rfl ?_; refine go_do (valid_fld_p tb rfl rfl rfl (by kernel_rfl)) rfl ?_)
          | refine go_do (valid_mv (.inr rfl) rfl) rfl ?_
          | refine go_do (valid_pick rfl rfl rfl) rfl ?_
          | refine go_do (valid_extract rfl rfl rfl rfl) rfl ?_
          | refine go_do (valid_field tb rfl rfl rfl rfl rfl rfl) rfl ?_
          | refine go_do (valid_cmp rfl rfl rfl rfl (by first | exact .eql1 (by omega) | exact .eql0 (by omega) | exact .neq1 (by omega) | exact .neq0 (by omega) | exact .lss1 (by omega) | exact .lss0 (by omega) | exact .leq1 (by omega) | exact .leq0 (by omega) | exact .gtr1 (by omega) | exact .gtr0 (by omega) | exact .geq1 (by omega) | exact .geq0 (by omega) | constructor)) rfl ?_
          | refine go_do (valid_ar rfl rfl rfl rfl (by constructor) (by first | exact wr_u64 (by omega) (by omega) | exact wr_i64 (by omega) (by omega) | rfl)) rfl ?_
          | refine go_do (valid_cv rfl rfl rfl rfl rfl (by first | exact wr_u64 (by omega) (by omega) | exact wr_i64 (by omega) (by omega) | rfl)) rfl ?_
          | refine go_do (valid_quo rfl rfl rfl rfl (by omega) (by omega) (by first | exact wr_u64 (by omega) (by omega) | exact wr_i64 (by omega) (by omega))) rfl ?_
          | refine go_do (valid_rem rfl rfl rfl rfl (by omega) (by omega)) rfl ?_
          | refine go_do (valid_box rfl rfl rfl rfl rfl rfl) rfl ?_
          | refine go_do (valid_alloc rfl rfl rfl rfl rfl) rfl ?_
          | (refine nxt_s 1 rfl ?_; refine go_do (valid_store_p rfl rfl rfl rfl rfl rfl (by first | kernel_rfl | rfl) rfl) (by first | kernel_rfl | rfl) ?_)
          | refine go_do (valid_len_s rfl rfl rfl rfl) rfl ?_
          | (refine nxt_s 3 rfl ?_; refine go_do (valid_load_q tb rfl rfl rfl rfl (by first | kernel_rfl | rfl)) rfl ?_)
          | (refine nxt_s 3 rfl ?_; refine go_do (valid_fld_q tb rfl rfl rfl rfl) rfl ?_)
          | refine go_do (valid_not rfl rfl rfl) rfl ?_
          | refine go_do (valid_build rfl rfl rfl rfl) rfl ?_
          | refine go_do (valid_nil rfl rfl rfl rfl) rfl ?_
          | (refine nxt_s 4 rfl ?_; refine go_do (valid_idx_s rfl rfl rfl rfl rfl rfl (by omega) (by omega) _ (by assumption)) rfl ?_)
          | (refine nxt_s 5 rfl ?_; refine go_do (valid_store_rp rfl rfl rfl rfl rfl rfl rfl rfl rfl (by first | omega | (simp; omega)) rfl) rfl ?_)
          | (refine nxt_s 5 rfl ?_; refine go_do (valid_load_rp tb rfl rfl rfl rfl rfl rfl) rfl ?_)
          | (refine nxt_s 2 rfl ?_; refine go_do (valid_idx_o rfl rfl rfl rfl rfl rfl rfl (by omega) (by omega)) rfl ?_)
          | (refine nxt_s 1 rfl ?_; refine go_do (valid_idx_p rfl rfl rfl rfl rfl rfl (by omega) (by omega)) rfl ?_)
          | refine go_do (valid_index tb rfl rfl rfl rfl rfl rfl (by omega) (by omega) rfl) rfl ?_
          | refine go_do (valid_len_o rfl rfl rfl rfl rfl) rfl ?_
          | refine go_do (valid_len_v rfl rfl rfl rfl) rfl ?_
          | (refine nxt_s 5 rfl ?_; refine go_do (valid_fld_rp tb rfl rfl rfl rfl) rfl ?_)
          | refine go_do (valid_bslice rfl rfl rfl rfl rfl rfl rfl rfl rfl rfl rfl) rfl ?_
          | refine go_do (valid_bslice0 rfl rfl rfl rfl rfl rfl rfl) rfl ?_
          | refine go_do (valid_eqb rfl rfl rfl rfl rfl) rfl ?_
          | refine go_do (valid_neb rfl rfl rfl rfl rfl) rfl ?_
          | refine go_do (valid_call rfl rfl rfl (awake_ok) (by kernel_rfl)) rfl ?_
          | refine go_do (valid_call rfl rfl rfl (hm) (by kernel_rfl)) rfl ?_)
      | (refine hK _ ?_; clear hK K)
      | (rename_i K1 hK1; refine hK1 _ ?_; clear hK hK1; clear K)
      | (rename_i K1 hK1; refine hK1 _ ?_; clear hK1)
      | refine aw_text rfl ?_
      | refine aw_any (by kernel_rfl) (by kernel_rfl) rfl ?_
      | exact aw_ret (show resA _ _ _ = some _ by kernel_rfl)
      | refine aw_cond1 rfl rfl ?_
      | refine aw_cond0 rfl rfl ?_
      | refine aw_block ?_
      | refine aw_exit ?_
      | refine aw_skip ?_
      | refine aw_seq_k (fun K hK => ?_))
  | true =>
    rw [hc] at hm
    by_cases hlen : 80 < l.length
    · refine callOk_of 137 Tryd.func3 rfl rfl rfl rfl ?_ GG.to
      intro W A hG
      repeat (first
        | (refine go_at rfl ?_; first
            | refine go_do (valid_skip rfl) rfl ?_
            | refine go_do (valid_mv (.inl rfl) rfl) rfl ?_
            | (refine nxt_s 1 rfl ?_; refine go_do (valid_load_p tb rfl rfl rfl rfl rfl (by first | kernel_rfl | rfl)) (by first | kernel_rfl | rfl) ?_)
            | (refine nxt_s 1 rfl ?_; refine go_do (valid_fld_p tb rfl rfl rfl (by kernel_rfl)) rfl ?_)
            | refine go_do (valid_mv (.inr rfl) rfl) rfl ?_
            | refine go_do (valid_pick rfl rfl rfl) rfl ?_
            | refine go_do (valid_extract rfl rfl rfl rfl) rfl ?_
            | refine go_do (valid_field tb rfl rfl rfl rfl rfl rfl) rfl ?_
            | refine go_do (valid_cmp rfl rfl rfl rfl (by first | exact .eql1 (by omega) | exact .eql0 (by omega) | exact .neq1 (by omega) | exact .neq0 (by omega) | exact .lss1 (by omega) | exact .lss0 (by omega) | exact .leq1 (by omega) | exact .leq0 (by omega) | exact .gtr1 (by omega) | exact .gtr0 (by omega) | exact .geq1 (by omega) | exact .geq0 (by omega) | constructor)) rfl ?_
            | refine go_do (valid_ar rfl rfl rfl rfl (by constructor) (by first | exact wr_u64 (by omega) (by omega) | exact wr_i64 (by omega) (by omega) | rfl)) rfl ?_
            | refine go_do (valid_cv rfl rfl rfl rfl rfl (by first | exact wr_u64 (by omega) (by omega) | exact wr_i64 (by omega) (by omega) | rfl)) rfl ?_
            | refine go_do (valid_quo rfl rfl rfl rfl (by omega) (by omega) (by first | exact wr_u64 (by omega) (by omega) | exact wr_i64 (by omega) (by omega))) rfl ?_
            | refine go_do (valid_rem rfl rfl rfl rfl (by omega) (by omega)) rfl ?_
            | refine go_do (valid_box rfl rfl rfl rfl rfl rfl) rfl ?_
            | refine go_do (valid_alloc rfl rfl rfl rfl rfl) rfl ?_
            | (refine nxt_s 1 rfl ?_; refine go_do (valid_store_p rfl rfl rfl rfl rfl rfl (by first | kernel_rfl | rfl) rfl) (by first | kernel_rfl | rfl) ?_)
            | refine go_do (valid_len_s rfl rfl rfl rfl) rfl ?_
            | (refine nxt_s 3 rfl ?_; refine go_do (valid_load_q tb rfl rfl rfl rfl (by first | kernel_rfl | rfl)) rfl ?_)
            | (refine nxt_s 3 rfl ?_; refine go_do (valid_fld_q tb rfl rfl rfl rfl) rfl ?_)
            | refine go_do (valid_not rfl rfl rfl) rfl ?_
            | refine go_do (valid_build rfl rfl rfl rfl) rfl ?_
            | refine go_do (valid_nil rfl rfl rfl rfl) rfl ?_
            | (refine nxt_s 4 rfl ?_; refine go_do (valid_idx_s rfl rfl rfl rfl rfl rfl (by omega) (by omega) _ (by assumption)) rfl ?_)
            | (refine nxt_s 5 rfl ?_; refine go_do (valid_store_rp rfl rfl rfl rfl rfl rfl rfl rfl rfl (by first | omega | (simp; omega)) rfl) rfl ?_)
            | (refine nxt_s 5 rfl ?_; refine go_do (valid_load_rp tb rfl rfl rfl rfl rfl rfl) rfl ?_)
            | (refine nxt_s 2 rfl ?_; refine go_do (valid_idx_o rfl rfl rfl rfl rfl rfl rfl (by omega) (by omega)) rfl ?_)
            | (refine nxt_s 1 rfl ?_; refine go_do (valid_idx_p rfl rfl rfl rfl rfl rfl (by omega) (by omega)) rfl ?_)
            | refine go_do (valid_index tb rfl rfl rfl rfl rfl rfl (by omega) (by omega) rfl) rfl ?_
            | refine go_do (valid_len_o rfl rfl rfl rfl rfl) rfl ?_
            | refine go_do (valid_len_v rfl rfl rfl rfl) rfl ?_
            | (refine nxt_s 5 rfl ?_; refine go_do (valid_fld_rp tb rfl rfl rfl rfl) rfl ?_)
            | refine go_do (valid_bslice rfl rfl rfl rfl rfl rfl rfl rfl rfl rfl rfl) rfl ?_
            | refine go_do (valid_bslice0 rfl rfl rfl rfl rfl rfl rfl) rfl ?_
            | refine go_do (valid_eqb rfl rfl rfl rfl rfl) rfl ?_
            | refine go_do (valid_neb rfl rfl rfl rfl rfl) rfl ?_
            | refine go_do (valid_call rfl rfl rfl (awake_ok) (by kernel_rfl)) rfl ?_
            | refine go_do (valid_call rfl rfl rfl (hm) (by kernel_rfl)) rfl ?_)
        | (refine hK _ ?_; clear hK K)
        | (rename_i K1 hK1; refine hK1 _ ?_; clear hK hK1; clear K)
        | (rename_i K1 hK1; refine hK1 _ ?_; clear hK1)
        | refine aw_text rfl ?_
        | refine aw_any (by kernel_rfl) (by kernel_rfl) rfl ?_
        | exact aw_ret (show resA _ _ _ = some _ by kernel_rfl)
        | refine aw_cond1 rfl rfl ?_
        | refine aw_cond0 rfl rfl ?_
        | refine aw_block ?_
        | refine aw_exit ?_
        | refine aw_skip ?_
        | refine aw_seq_k (fun K hK => ?_))
    obtain ⟨n, rfl⟩ := Int.eq_ofNat_of_zero_le (confB_iff.1 hc).2.2.2.1
    have hn := new_yes a b c n hc
    refine callOk_of 137 Tryd.func3 rfl rfl rfl rfl ?_ GG.to
    intro W A hG
    repeat (first
      | (refine go_at rfl ?_; first
          | refine go_do (valid_skip rfl) rfl ?_
          | refine go_do (valid_mv (.inl rfl) rfl) rfl ?_
          | (refine nxt_s 1 rfl ?_; refine go_do (valid_load_p tb rfl rfl rfl rfl rfl (by first | kernel_rfl | rfl)) (by first | kernel_rfl | rfl) ?_)
          | (refine nxt_s 1 rfl ?_; refine go_do (valid_fld_p tb rfl rfl rfl (by kernel_rfl)) rfl ?_)
          | refine go_do (valid_mv (.inr rfl) rfl) rfl ?_
          | refine go_do (valid_pick rfl rfl rfl) rfl ?_
          | refine go_do (valid_extract rfl rfl rfl rfl) rfl ?_
          | refine go_do (valid_field tb rfl rfl rfl rfl rfl rfl) rfl ?_
          | refine go_do (valid_cmp rfl rfl rfl rfl (by first | exact .eql1 (by omega) | exact .eql0 (by omega) | exact .neq1 (by omega) | exact .neq0 (by omega) | exact .lss1 (by omega) | exact .lss0 (by omega) | exact .leq1 (by omega) | exact .leq0 (by omega) | exact .gtr1 (by omega) | exact .gtr0 (by omega) | exact .geq1 (by omega) | exact .geq0 (by omega) | constructor)) rfl ?_
          | refine go_do (valid_ar rfl rfl rfl rfl (by constructor) (by first | exact wr_u64 (by omega) (by omega) | exact wr_i64 (by omega) (by omega) | rfl)) rfl ?_
          | refine go_do (valid_cv rfl rfl rfl rfl rfl (by first | exact wr_u64 (by omega) (by omega) | exact wr_i64 (by omega) (by omega) | rfl)) rfl ?_
          | refine go_do (valid_quo rfl rfl rfl rfl (by omega) (by omega) (by first | exact wr_u64 (by omega) (by omega) | exact wr_i64 (by omega) (by omega))) rfl ?_
          | refine go_do (valid_rem rfl rfl rfl rfl (by omega) (by omega)) rfl ?_
          | refine go_do (valid_box rfl rfl rfl rfl rfl rfl) rfl ?_
          | refine go_do (valid_alloc rfl rfl rfl rfl rfl) rfl ?_
          | (refine nxt_s 1 rfl ?_; refine go_do (valid_store_p rfl rfl rfl rfl rfl rfl (by first | kernel_rfl | rfl) rfl) (by first | kernel_rfl | rfl) ?_)
          | refine go_do (valid_len_s rfl rfl rfl rfl) rfl ?_
          | (refine nxt_s 3 rfl ?_; refine go_do (valid_load_q tb rfl rfl rfl rfl (by first | kernel_rfl | rfl)) rfl ?_)
          | (refine nxt_s 3 rfl ?_; refine go_do (valid_fld_q tb rfl rfl rfl rfl) rfl ?_)
          | refine go_do (valid_not rfl rfl rfl) rfl ?_
          | refine go_do (valid_build rfl rfl rfl rfl) rfl ?_
          | refine go_do (valid_nil rfl rfl rfl rfl) rfl ?_
          | (refine nxt_s 4 rfl ?_; refine go_do (valid_idx_s rfl rfl rfl rfl rfl rfl (by omega) (by omega) _ (by assumption)) rfl ?_)
          | (refine nxt_s 5 rfl ?_; refine go_do (valid_store_rp rfl rfl rfl rfl rfl rfl rfl rfl rfl (by first | omega | (simp; omega)) rfl) rfl ?_)
          | (refine nxt_s 5 rfl ?_; refine go_do (valid_load_rp tb rfl rfl rfl rfl rfl rfl) rfl ?_)
          | (refine nxt_s 2 rfl ?_; refine go_do (valid_idx_o rfl rfl rfl rfl rfl rfl rfl (by omega) (by omega)) rfl ?_)
          | (refine nxt_s 1 rfl ?_; refine go_do (valid_idx_p rfl rfl rfl rfl rfl rfl (by omega) (by omega)) rfl ?_)
          | refine go_do (valid_index tb rfl rfl rfl rfl rfl rfl (by omega) (by omega) rfl) rfl ?_
          | refine go_do (valid_len_o rfl rfl rfl rfl rfl) rfl ?_
          | refine go_do (valid_len_v rfl rfl rfl rfl) rfl ?_
          | (refine nxt_s 5 rfl ?_; refine go_do (valid_fld_rp tb rfl rfl rfl rfl) rfl ?_)
          | refine go_do (valid_bslice rfl rfl rfl rfl rfl rfl rfl rfl rfl rfl rfl) rfl ?_
          | refine go_do (valid_bslice0 rfl rfl rfl rfl rfl rfl rfl) rfl ?_
          | refine go_do (valid_eqb rfl rfl rfl rfl rfl) rfl ?_
          | refine go_do (valid_neb rfl rfl rfl rfl rfl) rfl ?_
          | refine go_do (valid_call rfl rfl rfl (awake_ok) (by kernel_rfl)) rfl ?_
          | refine go_do (valid_call rfl rfl rfl (hm) (by kernel_rfl)) rfl ?_
          | refine go_do (valid_call rfl rfl rfl (hn) (by kernel_rfl)) rfl ?_
          | refine go_do (valid_make (n := 17) rfl rfl rfl rfl rfl rfl rfl rfl rfl rfl (by decide) (by decide) rfl) rfl ?_)
      | (refine hK _ ?_; clear hK K)
      | (rename_i K1 hK1; refine hK1 _ ?_; clear hK hK1; clear K)
      | (rename_i K1 hK1; refine hK1 _ ?_; clear hK1)
      | refine aw_text rfl ?_
      | refine aw_any (by kernel_rfl) (by kernel_rfl) rfl ?_
      | exact aw_ret (show resA _ _ _ = some _ by kernel_rfl)
      | refine aw_cond1 rfl rfl ?_
      | refine aw_cond0 rfl rfl ?_
      | refine aw_block ?_
      | refine aw_exit ?_
      | refine aw_skip ?_
      | refine aw_seq_k (fun K hK => ?_))
    refine aw_loopH (α := Nat × Kr × List Value) (fun p => p.1 ≤ l.length ∧ Inv p.1 p.2.1 ∧ Ownd p.2.2 p.2.1.ao) (fun p => feH l p.1 p.2.1 p.2.2) (fun p => l.length - p.1) (0, newK a b c n, (madeCells #[.bool false] (17 * 1)).toList) ⟨Nat.zero_le _, new_inv hc, ownd0⟩ (sub_of _ _ ⟨by kernel_rfl, by kernel_rfl, by kernel_rfl, by kernel_rfl, trivial⟩ ⟨by kernel_rfl, by kernel_rfl, trivial⟩ (by kernel_rfl)) ?_
    rintro ⟨i, k, xs⟩ ⟨hi0, hk0, ho0⟩
    have hi : i ≤ l.length := hi0
    have hk : Inv i k := hk0
    have ho : Ownd xs k.ao := ho0
    show Aw _ _ _ _ (feH l i k xs)
    unfold feH
    have b2 := hk.fl
    have b3 := hk.sl
    by_cases hlt : i < l.length
    · obtain ⟨y, hy0⟩ : ∃ y, l[i]? = some y := ⟨_, List.getElem?_eq_getElem hlt⟩
      have hx := flD_at hy0
      have h8 := hl y (List.mem_of_getElem? hy0)
      have h81 := h8.1
      have hd := do_ok hk (by omega) y h8.1 h8.2
      have hdi := do_inv (d := y) hk
      by_cases c0 : y.1 % 3 = 0
      · have hdo : doR k y = createR k := by unfold doR; rw [if_pos c0]
        rw [hdo] at hd hdi
        rcases create_made hk with ⟨e1, e2⟩ | ⟨nk, ow, e1, mk⟩
        · rw [e1] at hd hdi
          generalize (createR k).2.1 = r1 at hd
          generalize (createR k).2.2 = r2 at hd e2
          repeat (first
            | (refine go_at rfl ?_; first
                | refine go_do (valid_skip rfl) rfl ?_
                | refine go_do (valid_mv (.inl rfl) rfl) rfl ?_
                | (refine nxt_s 1 rfl ?_; refine go_do (valid_load_p tb rfl rfl rfl rfl rfl (by first | kernel_rfl | rfl)) (by first | kernel_rfl | rfl) ?_)
                | (refine nxt_s 1 rfl ?_; refine go_do (valid_fld_p tb rfl rfl rfl (by kernel_rfl)) rfl ?_)
                | refine go_do (valid_mv (.inr rfl) rfl) rfl ?_
                | refine go_do (valid_pick rfl rfl rfl) rfl ?_
                | refine go_do (valid_extract rfl rfl rfl rfl) rfl ?_
                | refine go_do (valid_field tb rfl rfl rfl rfl rfl rfl) rfl ?_
                | refine go_do (valid_cmp rfl rfl rfl rfl (by first | exact .eql1 (by omega) | exact .eql0 (by omega) | exact .neq1 (by omega) | exact .neq0 (by omega) | exact .lss1 (by omega) | exact .lss0 (by omega) | exact .leq1 (by omega) | exact .leq0 (by omega) | exact .gtr1 (by omega) | exact .gtr0 (by omega) | exact .geq1 (by omega) | exact .geq0 (by omega) | constructor)) rfl ?_
                | refine go_do (valid_ar rfl rfl rfl rfl (by constructor) (by first | exact wr_u64 (by omega) (by omega) | exact wr_i64 (by omega) (by omega) | rfl)) rfl ?_
                | refine go_do (valid_cv rfl rfl rfl rfl rfl (by first | exact wr_u64 (by omega) (by omega) | exact wr_i64 (by omega) (by omega) | rfl)) rfl ?_
                | refine go_do (valid_quo rfl rfl rfl rfl (by omega) (by omega) (by first | exact wr_u64 (by omega) (by omega) | exact wr_i64 (by omega) (by omega))) rfl ?_
                | refine go_do (valid_rem rfl rfl rfl rfl (by omega) (by omega)) rfl ?_
                | refine go_do (valid_box rfl rfl rfl rfl rfl rfl) rfl ?_
                | refine go_do (valid_alloc rfl rfl rfl rfl rfl) rfl ?_
                | (refine nxt_s 1 rfl ?_; refine go_do (valid_store_p rfl rfl rfl rfl rfl rfl (by first | kernel_rfl | rfl) rfl) (by first | kernel_rfl | rfl) ?_)
                | refine go_do (valid_len_s rfl rfl rfl rfl) rfl ?_
                | (refine nxt_s 3 rfl ?_; refine go_do (valid_load_q tb rfl rfl rfl rfl (by first | kernel_rfl | rfl)) rfl ?_)
                | (refine nxt_s 3 rfl ?_; refine go_do (valid_fld_q tb rfl rfl rfl rfl) rfl ?_)
                | refine go_do (valid_not rfl rfl rfl) rfl ?_
                | refine go_do (valid_build rfl rfl rfl rfl) rfl ?_
                | refine go_do (valid_nil rfl rfl rfl rfl) rfl ?_
                | (refine nxt_s 4 rfl ?_; refine go_do (valid_idx_s rfl rfl rfl rfl rfl rfl (by omega) (by omega) _ (by assumption)) rfl ?_)
                | (refine nxt_s 5 rfl ?_; refine go_do (valid_store_rp rfl rfl rfl rfl rfl rfl rfl rfl rfl (by first | omega | (simp; omega)) rfl) rfl ?_)
                | (refine nxt_s 5 rfl ?_; refine go_do (valid_load_rp tb rfl rfl rfl rfl rfl rfl) rfl ?_)
                | (refine nxt_s 2 rfl ?_; refine go_do (valid_idx_o rfl rfl rfl rfl rfl rfl rfl (by omega) (by omega)) rfl ?_)
                | (refine nxt_s 1 rfl ?_; refine go_do (valid_idx_p rfl rfl rfl rfl rfl rfl (by omega) (by omega)) rfl ?_)
                | refine go_do (valid_index tb rfl rfl rfl rfl rfl rfl (by omega) (by omega) rfl) rfl ?_
                | refine go_do (valid_len_o rfl rfl rfl rfl rfl) rfl ?_
                | refine go_do (valid_len_v rfl rfl rfl rfl) rfl ?_
                | (refine nxt_s 5 rfl ?_; refine go_do (valid_fld_rp tb rfl rfl rfl rfl) rfl ?_)
                | refine go_do (valid_bslice rfl rfl rfl rfl rfl rfl rfl rfl rfl rfl rfl) rfl ?_
                | refine go_do (valid_bslice0 rfl rfl rfl rfl rfl rfl rfl) rfl ?_
                | refine go_do (valid_eqb rfl rfl rfl rfl rfl) rfl ?_
                | refine go_do (valid_neb rfl rfl rfl rfl rfl) rfl ?_)
            | refine aw_text rfl ?_
            | refine aw_any (by kernel_rfl) (by kernel_rfl) rfl ?_
            | exact aw_ret (show resA _ _ _ = some _ by kernel_rfl)
            | refine aw_cond1 rfl rfl ?_
            | refine aw_cond0 rfl rfl ?_
            | refine aw_block ?_
            | refine aw_exit ?_
            | refine aw_skip ?_
            | refine aw_seq_k (fun K hK => ?_))
          first
            | (refine hK _ ?_; clear hK K)
            | (rename_i K1 hK1; refine hK1 _ ?_; clear hK hK1; clear K)
            | (rename_i K1 hK1; refine hK1 _ ?_; clear hK1)
          repeat (first
            | (refine go_at rfl ?_; first
                | refine go_do (valid_skip rfl) rfl ?_
                | refine go_do (valid_mv (.inl rfl) rfl) rfl ?_
                | (refine nxt_s 1 rfl ?_; refine go_do (valid_load_p tb rfl rfl rfl rfl rfl (by first | kernel_rfl | rfl)) (by first | kernel_rfl | rfl) ?_)
                | (refine nxt_s 1 rfl ?_; refine go_do (valid_fld_p tb rfl rfl rfl (by kernel_rfl)) rfl ?_)
                | refine go_do (valid_mv (.inr rfl) rfl) rfl ?_
                | refine go_do (valid_pick rfl rfl rfl) rfl ?_
                | refine go_do (valid_extract rfl rfl rfl rfl) rfl ?_
                | refine go_do (valid_field tb rfl rfl rfl rfl rfl rfl) rfl ?_
                | refine go_do (valid_cmp rfl rfl rfl rfl (by first | exact .eql1 (by omega) | exact .eql0 (by omega) | exact .neq1 (by omega) | exact .neq0 (by omega) | exact .lss1 (by omega) | exact .lss0 (by omega) | exact .leq1 (by omega) | exact .leq0 (by omega) | exact .gtr1 (by omega) | exact .gtr0 (by omega) | exact .geq1 (by omega) | exact .geq0 (by omega) | constructor)) rfl ?_
                | refine go_do (valid_ar rfl rfl rfl rfl (by constructor) (by first | exact wr_u64 (by omega) (by omega) | exact wr_i64 (by omega) (by omega) | rfl)) rfl ?_
                | refine go_do (valid_cv rfl rfl rfl rfl rfl (by first | exact wr_u64 (by omega) (by omega) | exact wr_i64 (by omega) (by omega) | rfl)) rfl ?_
                | refine go_do (valid_quo rfl rfl rfl rfl (by omega) (by omega) (by first | exact wr_u64 (by omega) (by omega) | exact wr_i64 (by omega) (by omega))) rfl ?_
                | refine go_do (valid_rem rfl rfl rfl rfl (by omega) (by omega)) rfl ?_
                | refine go_do (valid_box rfl rfl rfl rfl rfl rfl) rfl ?_
                | refine go_do (valid_alloc rfl rfl rfl rfl rfl) rfl ?_
                | (refine nxt_s 1 rfl ?_; refine go_do (valid_store_p rfl rfl rfl rfl rfl rfl (by first | kernel_rfl | rfl) rfl) (by first | kernel_rfl | rfl) ?_)
                | refine go_do (valid_len_s rfl rfl rfl rfl) rfl ?_
                | (refine nxt_s 3 rfl ?_; refine go_do (valid_load_q tb rfl rfl rfl rfl (by first | kernel_rfl | rfl)) rfl ?_)
                | (refine nxt_s 3 rfl ?_; refine go_do (valid_fld_q tb rfl rfl rfl rfl) rfl ?_)
                | refine go_do (valid_not rfl rfl rfl) rfl ?_
                | refine go_do (valid_build rfl rfl rfl rfl) rfl ?_
                | refine go_do (valid_nil rfl rfl rfl rfl) rfl ?_
                | (refine nxt_s 4 rfl ?_; refine go_do (valid_idx_s rfl rfl rfl rfl rfl rfl (by omega) (by omega) _ (by assumption)) rfl ?_)
                | (refine nxt_s 5 rfl ?_; refine go_do (valid_store_rp rfl rfl rfl rfl rfl rfl rfl rfl rfl (by first | omega | (simp; omega)) rfl) rfl ?_)
                | (refine nxt_s 5 rfl ?_; refine go_do (valid_load_rp tb rfl rfl rfl rfl rfl rfl) rfl ?_)
                | (refine nxt_s 2 rfl ?_; refine go_do (valid_idx_o rfl rfl rfl rfl rfl rfl rfl (by omega) (by omega)) rfl ?_)
                | (refine nxt_s 1 rfl ?_; refine go_do (valid_idx_p rfl rfl rfl rfl rfl rfl (by omega) (by omega)) rfl ?_)
                | refine go_do (valid_index tb rfl rfl rfl rfl rfl rfl (by omega) (by omega) rfl) rfl ?_
                | refine go_do (valid_len_o rfl rfl rfl rfl rfl) rfl ?_
                | refine go_do (valid_len_v rfl rfl rfl rfl) rfl ?_
                | (refine nxt_s 5 rfl ?_; refine go_do (valid_fld_rp tb rfl rfl rfl rfl) rfl ?_)
                | refine go_do (valid_bslice rfl rfl rfl rfl rfl rfl rfl rfl rfl rfl rfl) rfl ?_
                | refine go_do (valid_bslice0 rfl rfl rfl rfl rfl rfl rfl) rfl ?_
                | refine go_do (valid_eqb rfl rfl rfl rfl rfl) rfl ?_
                | refine go_do (valid_neb rfl rfl rfl rfl rfl) rfl ?_)
            | refine aw_text rfl ?_
            | refine aw_any (by kernel_rfl) (by kernel_rfl) rfl ?_
            | exact aw_ret (show resA _ _ _ = some _ by kernel_rfl)
            | refine aw_cond1 rfl rfl ?_
            | refine aw_cond0 rfl rfl ?_
            | refine aw_block ?_
            | refine aw_exit ?_
            | refine aw_skip ?_
            | refine aw_seq_k (fun K hK => ?_))
          first
            | (refine hK _ ?_; clear hK K)
            | (rename_i K1 hK1; refine hK1 _ ?_; clear hK hK1; clear K)
            | (rename_i K1 hK1; refine hK1 _ ?_; clear hK1)
          repeat (first
            | (refine go_at rfl ?_; first
                | refine go_do (valid_skip rfl) rfl ?_
                | refine go_do (valid_mv (.inl rfl) rfl) rfl ?_
                | (refine nxt_s 1 rfl ?_; refine go_do (valid_load_p tb rfl rfl rfl rfl rfl (by first | kernel_rfl | rfl)) (by first | kernel_rfl | rfl) ?_)
                | (refine nxt_s 1 rfl ?_; refine go_do (valid_fld_p tb rfl rfl rfl (by kernel_rfl)) rfl ?_)
                | refine go_do (valid_mv (.inr rfl) rfl) rfl ?_
                | refine go_do (valid_pick rfl rfl rfl) rfl ?_
                | refine go_do (valid_extract rfl rfl rfl rfl) rfl ?_
                | refine go_do (valid_field tb rfl rfl rfl rfl rfl rfl) rfl ?_
                | refine go_do (valid_cmp rfl rfl rfl rfl (by first | exact .eql1 (by omega) | exact .eql0 (by omega) | exact .neq1 (by omega) | exact .neq0 (by omega) | exact .lss1 (by omega) | exact .lss0 (by omega) | exact .leq1 (by omega) | exact .leq0 (by omega) | exact .gtr1 (by omega) | exact .gtr0 (by omega) | exact .geq1 (by omega) | exact .geq0 (by omega) | constructor)) rfl ?_
                | refine go_do (valid_ar rfl rfl rfl rfl (by constructor) (by first | exact wr_u64 (by omega) (by omega) | exact wr_i64 (by omega) (by omega) | rfl)) rfl ?_
                | refine go_do (valid_cv rfl rfl rfl rfl rfl (by first | exact wr_u64 (by omega) (by omega) | exact wr_i64 (by omega) (by omega) | rfl)) rfl ?_
                | refine go_do (valid_quo rfl rfl rfl rfl (by omega) (by omega) (by first | exact wr_u64 (by omega) (by omega) | exact wr_i64 (by omega) (by omega))) rfl ?_
                | refine go_do (valid_rem rfl rfl rfl rfl (by omega) (by omega)) rfl ?_
                | refine go_do (valid_box rfl rfl rfl rfl rfl rfl) rfl ?_
                | refine go_do (valid_alloc rfl rfl rfl rfl rfl) rfl ?_
                | (refine nxt_s 1 rfl ?_; refine go_do (valid_store_p rfl rfl rfl rfl rfl rfl (by first | kernel_rfl | rfl) rfl) (by first | kernel_rfl | rfl) ?_)
                | refine go_do (valid_len_s rfl rfl rfl rfl) rfl ?_
                | (refine nxt_s 3 rfl ?_; refine go_do (valid_load_q tb rfl rfl rfl rfl (by first | kernel_rfl | rfl)) rfl ?_)
                | (refine nxt_s 3 rfl ?_; refine go_do (valid_fld_q tb rfl rfl rfl rfl) rfl ?_)
                | refine go_do (valid_not rfl rfl rfl) rfl ?_
                | refine go_do (valid_build rfl rfl rfl rfl) rfl ?_
                | refine go_do (valid_nil rfl rfl rfl rfl) rfl ?_
                | (refine nxt_s 4 rfl ?_; refine go_do (valid_idx_s rfl rfl rfl rfl rfl rfl (by omega) (by omega) _ (by assumption)) rfl ?_)
                | (refine nxt_s 5 rfl ?_; refine go_do (valid_store_rp rfl rfl rfl rfl rfl rfl rfl rfl rfl (by first | omega | (simp; omega)) rfl) rfl ?_)
                | (refine nxt_s 5 rfl ?_; refine go_do (valid_load_rp tb rfl rfl rfl rfl rfl rfl) rfl ?_)
                | (refine nxt_s 2 rfl ?_; refine go_do (valid_idx_o rfl rfl rfl rfl rfl rfl rfl (by omega) (by omega)) rfl ?_)
                | (refine nxt_s 1 rfl ?_; refine go_do (valid_idx_p rfl rfl rfl rfl rfl rfl (by omega) (by omega)) rfl ?_)
                | refine go_do (valid_index tb rfl rfl rfl rfl rfl rfl (by omega) (by omega) rfl) rfl ?_
                | refine go_do (valid_len_o rfl rfl rfl rfl rfl) rfl ?_
                | refine go_do (valid_len_v rfl rfl rfl rfl) rfl ?_
                | (refine nxt_s 5 rfl ?_; refine go_do (valid_fld_rp tb rfl rfl rfl rfl) rfl ?_)
                | refine go_do (valid_bslice rfl rfl rfl rfl rfl rfl rfl rfl rfl rfl rfl) rfl ?_
                | refine go_do (valid_bslice0 rfl rfl rfl rfl rfl rfl rfl) rfl ?_
                | refine go_do (valid_eqb rfl rfl rfl rfl rfl) rfl ?_
                | refine go_do (valid_neb rfl rfl rfl rfl rfl) rfl ?_
                | refine go_do (valid_call rfl rfl rfl (hd) (by kernel_rfl)) rfl ?_)
            | refine aw_text rfl ?_
            | refine aw_any (by kernel_rfl) (by kernel_rfl) rfl ?_
            | exact aw_ret (show resA _ _ _ = some _ by kernel_rfl)
            | refine aw_cond1 rfl rfl ?_
            | refine aw_cond0 rfl rfl ?_
            | refine aw_block ?_
            | refine aw_exit ?_
            | refine aw_skip ?_
            | refine aw_seq_k (fun K hK => ?_))
          first
            | (refine hK _ ?_; clear hK K)
            | (rename_i K1 hK1; refine hK1 _ ?_; clear hK hK1; clear K)
            | (rename_i K1 hK1; refine hK1 _ ?_; clear hK1)
          refine aw_sub (sub_of [(1, .m (.c (.s l.length 2 (flD l)))), (5, .m (.c (.p 5 0))), (7, .m (.c (.o 32))), (8, .m (ii i)), (9, .m (.c (.p 9 0))), (10, .m (ii r1)), (11, .m (ii r2))] [(5, .live (.box k.ce)), (9, .live (.box k.ce)), (32, .live (.row 4 1 17 xs))] ⟨by kernel_rfl, by kernel_rfl, by kernel_rfl, by kernel_rfl, by kernel_rfl, by kernel_rfl, by kernel_rfl, trivial⟩ ⟨by kernel_rfl, by kernel_rfl, by kernel_rfl, trivial⟩ (by kernel_rfl)) ?_
          repeat (first
            | (refine go_at rfl ?_; first
                | refine go_do (valid_skip rfl) rfl ?_
                | refine go_do (valid_mv (.inl rfl) rfl) rfl ?_
                | (refine nxt_s 1 rfl ?_; refine go_do (valid_load_p tb rfl rfl rfl rfl rfl (by first | kernel_rfl | rfl)) (by first | kernel_rfl | rfl) ?_)
                | (refine nxt_s 1 rfl ?_; refine go_do (valid_fld_p tb rfl rfl rfl (by kernel_rfl)) rfl ?_)
                | refine go_do (valid_mv (.inr rfl) rfl) rfl ?_
                | refine go_do (valid_pick rfl rfl rfl) rfl ?_
                | refine go_do (valid_extract rfl rfl rfl rfl) rfl ?_
                | refine go_do (valid_field tb rfl rfl rfl rfl rfl rfl) rfl ?_
                | refine go_do (valid_cmp rfl rfl rfl rfl (by first | exact .eql1 (by omega) | exact .eql0 (by omega) | exact .neq1 (by omega) | exact .neq0 (by omega) | exact .lss1 (by omega) | exact .lss0 (by omega) | exact .leq1 (by omega) | exact .leq0 (by omega) | exact .gtr1 (by omega) | exact .gtr0 (by omega) | exact .geq1 (by omega) | exact .geq0 (by omega) | constructor)) rfl ?_
                | refine go_do (valid_ar rfl rfl rfl rfl (by constructor) (by first | exact wr_u64 (by omega) (by omega) | exact wr_i64 (by omega) (by omega) | rfl)) rfl ?_
                | refine go_do (valid_cv rfl rfl rfl rfl rfl (by first | exact wr_u64 (by omega) (by omega) | exact wr_i64 (by omega) (by omega) | rfl)) rfl ?_
                | refine go_do (valid_quo rfl rfl rfl rfl (by omega) (by omega) (by first | exact wr_u64 (by omega) (by omega) | exact wr_i64 (by omega) (by omega))) rfl ?_
                | refine go_do (valid_rem rfl rfl rfl rfl (by omega) (by omega)) rfl ?_
                | refine go_do (valid_box rfl rfl rfl rfl rfl rfl) rfl ?_
                | refine go_do (valid_alloc rfl rfl rfl rfl rfl) rfl ?_
                | (refine nxt_s 1 rfl ?_; refine go_do (valid_store_p rfl rfl rfl rfl rfl rfl (by first | kernel_rfl | rfl) rfl) (by first | kernel_rfl | rfl) ?_)
                | refine go_do (valid_len_s rfl rfl rfl rfl) rfl ?_
                | (refine nxt_s 3 rfl ?_; refine go_do (valid_load_q tb rfl rfl rfl rfl (by first | kernel_rfl | rfl)) rfl ?_)
                | (refine nxt_s 3 rfl ?_; refine go_do (valid_fld_q tb rfl rfl rfl rfl) rfl ?_)
                | refine go_do (valid_not rfl rfl rfl) rfl ?_
                | refine go_do (valid_build rfl rfl rfl rfl) rfl ?_
                | refine go_do (valid_nil rfl rfl rfl rfl) rfl ?_
                | (refine nxt_s 4 rfl ?_; refine go_do (valid_idx_s rfl rfl rfl rfl rfl rfl (by omega) (by omega) _ (by assumption)) rfl ?_)
                | (refine nxt_s 5 rfl ?_; refine go_do (valid_store_rp rfl rfl rfl rfl rfl rfl rfl rfl rfl (by first | omega | (simp; omega)) rfl) rfl ?_)
                | (refine nxt_s 5 rfl ?_; refine go_do (valid_load_rp tb rfl rfl rfl rfl rfl rfl) rfl ?_)
                | (refine nxt_s 2 rfl ?_; refine go_do (valid_idx_o rfl rfl rfl rfl rfl rfl rfl (by omega) (by omega)) rfl ?_)
                | (refine nxt_s 1 rfl ?_; refine go_do (valid_idx_p rfl rfl rfl rfl rfl rfl (by omega) (by omega)) rfl ?_)
                | refine go_do (valid_index tb rfl rfl rfl rfl rfl rfl (by omega) (by omega) rfl) rfl ?_
                | refine go_do (valid_len_o rfl rfl rfl rfl rfl) rfl ?_
                | refine go_do (valid_len_v rfl rfl rfl rfl) rfl ?_
                | (refine nxt_s 5 rfl ?_; refine go_do (valid_fld_rp tb rfl rfl rfl rfl) rfl ?_)
                | refine go_do (valid_bslice rfl rfl rfl rfl rfl rfl rfl rfl rfl rfl rfl) rfl ?_
                | refine go_do (valid_bslice0 rfl rfl rfl rfl rfl rfl rfl) rfl ?_
                | refine go_do (valid_eqb rfl rfl rfl rfl rfl) rfl ?_
                | refine go_do (valid_neb rfl rfl rfl rfl rfl) rfl ?_)
            | (refine hK _ ?_; clear hK K)
            | (rename_i K1 hK1; refine hK1 _ ?_; clear hK hK1; clear K)
            | (rename_i K1 hK1; refine hK1 _ ?_; clear hK1)
            | refine aw_text rfl ?_
            | refine aw_any (by kernel_rfl) (by kernel_rfl) rfl ?_
            | exact aw_ret (show resA _ _ _ = some _ by kernel_rfl)
            | refine aw_cond1 rfl rfl ?_
            | refine aw_cond0 rfl rfl ?_
            | refine aw_block ?_
            | refine aw_exit ?_
            | refine aw_skip ?_
            | refine aw_seq_k (fun K hK => ?_))
          exact ⟨(i + 1, k, xs), ⟨by show i + 1 ≤ l.length; omega, hdi, ho⟩, by show l.length - (i + 1) < l.length - i; omega, sub_of _ _ ⟨by kernel_rfl, by kernel_rfl, by kernel_rfl, by kernel_rfl, trivial⟩ ⟨by kernel_rfl, by kernel_rfl, trivial⟩ (by kernel_rfl)⟩
        · rw [e1] at hd hdi
          have hdi : Inv (i + 1) nk := hdi
          obtain ⟨tz, msl, ⟨r, ms1⟩, mao, mbit, mfl, mf1⟩ := mk
          have b4 := hdi.fl
          have hob : xs[(tzI k.af + 1).toNat * 1]? = some (.bool ow) := by
            have := ho.at_ (tzI k.af).toNat (by omega)
            rw [show (tzI k.af + 1).toNat * 1 = (tzI k.af).toNat + 1 by omega, this, show (((tzI k.af).toNat : Nat) : Int) = tzI k.af by omega, mbit]
          have hpa : partA Tryd.prog 4 (xs.map .v) ((tzI k.af + 1).toNat * 1) = some (.c (.v (.bool ow))) := by
            show ((xs.map Ce.v)[(tzI k.af + 1).toNat * 1]?).map Cm.c = _
            rw [List.getElem?_map, hob]; rfl
          have hx1 : ((flS nk.ss).drop ((k.ss.length : Int).toNat * 3)).take 3 = [.int .u64 r, .int .u64 (tzI k.af + 1), .bool true] := by rw [Int.toNat_natCast]; exact ms1
          cases ow with
          | false =>
            have mfl : nk.fs.length = k.fs.length := mfl
            repeat (first
              | (refine go_at rfl ?_; first
                  | refine go_do (valid_skip rfl) rfl ?_
                  | refine go_do (valid_mv (.inl rfl) rfl) rfl ?_
                  | (refine nxt_s 1 rfl ?_; refine go_do (valid_load_p tb rfl rfl rfl rfl rfl (by first | kernel_rfl | rfl)) (by first | kernel_rfl | rfl) ?_)
                  | (refine nxt_s 1 rfl ?_; refine go_do (valid_fld_p tb rfl rfl rfl (by kernel_rfl)) rfl ?_)
                  | refine go_do (valid_mv (.inr rfl) rfl) rfl ?_
                  | refine go_do (valid_pick rfl rfl rfl) rfl ?_
                  | refine go_do (valid_extract rfl rfl rfl rfl) rfl ?_
                  | refine go_do (valid_field tb rfl rfl rfl rfl rfl rfl) rfl ?_
                  | refine go_do (valid_cmp rfl rfl rfl rfl (by first | exact .eql1 (by omega) | exact .eql0 (by omega) | exact .neq1 (by omega) | exact .neq0 (by omega) | exact .lss1 (by omega) | exact .lss0 (by omega) | exact .leq1 (by omega) | exact .leq0 (by omega) | exact .gtr1 (by omega) | exact .gtr0 (by omega) | exact .geq1 (by omega) | exact .geq0 (by omega) | constructor)) rfl ?_
                  | refine go_do (valid_ar rfl rfl rfl rfl (by constructor) (by first | exact wr_u64 (by omega) (by omega) | exact wr_i64 (by omega) (by omega) | rfl)) rfl ?_
                  | refine go_do (valid_cv rfl rfl rfl rfl rfl (by first | exact wr_u64 (by omega) (by omega) | exact wr_i64 (by omega) (by omega) | rfl)) rfl ?_
                  | refine go_do (valid_quo rfl rfl rfl rfl (by omega) (by omega) (by first | exact wr_u64 (by omega) (by omega) | exact wr_i64 (by omega) (by omega))) rfl ?_
                  | refine go_do (valid_rem rfl rfl rfl rfl (by omega) (by omega)) rfl ?_
                  | refine go_do (valid_box rfl rfl rfl rfl rfl rfl) rfl ?_
                  | refine go_do (valid_alloc rfl rfl rfl rfl rfl) rfl ?_
                  | (refine nxt_s 1 rfl ?_; refine go_do (valid_store_p rfl rfl rfl rfl rfl rfl (by first | kernel_rfl | rfl) rfl) (by first | kernel_rfl | rfl) ?_)
                  | refine go_do (valid_len_s rfl rfl rfl rfl) rfl ?_
                  | (refine nxt_s 3 rfl ?_; refine go_do (valid_load_q tb rfl rfl rfl rfl (by first | kernel_rfl | rfl)) rfl ?_)
                  | (refine nxt_s 3 rfl ?_; refine go_do (valid_fld_q tb rfl rfl rfl rfl) rfl ?_)
                  | refine go_do (valid_not rfl rfl rfl) rfl ?_
                  | refine go_do (valid_build rfl rfl rfl rfl) rfl ?_
                  | refine go_do (valid_nil rfl rfl rfl rfl) rfl ?_
                  | (refine nxt_s 4 rfl ?_; refine go_do (valid_idx_s rfl rfl rfl rfl rfl rfl (by omega) (by omega) _ (by assumption)) rfl ?_)
                  | (refine nxt_s 5 rfl ?_; refine go_do (valid_store_rp rfl rfl rfl rfl rfl rfl rfl rfl rfl (by first | omega | (simp; omega)) rfl) rfl ?_)
                  | (refine nxt_s 5 rfl ?_; refine go_do (valid_load_rp tb rfl rfl rfl rfl rfl rfl) rfl ?_)
                  | (refine nxt_s 2 rfl ?_; refine go_do (valid_idx_o rfl rfl rfl rfl rfl rfl rfl (by omega) (by omega)) rfl ?_)
                  | (refine nxt_s 1 rfl ?_; refine go_do (valid_idx_p rfl rfl rfl rfl rfl rfl (by omega) (by omega)) rfl ?_)
                  | refine go_do (valid_index tb rfl rfl rfl rfl rfl rfl (by omega) (by omega) rfl) rfl ?_
                  | refine go_do (valid_len_o rfl rfl rfl rfl rfl) rfl ?_
                  | refine go_do (valid_len_v rfl rfl rfl rfl) rfl ?_
                  | (refine nxt_s 5 rfl ?_; refine go_do (valid_fld_rp tb rfl rfl rfl rfl) rfl ?_)
                  | refine go_do (valid_bslice rfl rfl rfl rfl rfl rfl rfl rfl rfl rfl rfl) rfl ?_
                  | refine go_do (valid_bslice0 rfl rfl rfl rfl rfl rfl rfl) rfl ?_
                  | refine go_do (valid_eqb rfl rfl rfl rfl rfl) rfl ?_
                  | refine go_do (valid_neb rfl rfl rfl rfl rfl) rfl ?_)
              | refine aw_text rfl ?_
              | refine aw_any (by kernel_rfl) (by kernel_rfl) rfl ?_
              | exact aw_ret (show resA _ _ _ = some _ by kernel_rfl)
              | refine aw_cond1 rfl rfl ?_
              | refine aw_cond0 rfl rfl ?_
              | refine aw_block ?_
              | refine aw_exit ?_
              | refine aw_skip ?_
              | refine aw_seq_k (fun K hK => ?_))
            first
              | (refine hK _ ?_; clear hK K)
              | (rename_i K1 hK1; refine hK1 _ ?_; clear hK hK1; clear K)
              | (rename_i K1 hK1; refine hK1 _ ?_; clear hK1)
            repeat (first
              | (refine go_at rfl ?_; first
                  | refine go_do (valid_skip rfl) rfl ?_
                  | refine go_do (valid_mv (.inl rfl) rfl) rfl ?_
                  | (refine nxt_s 1 rfl ?_; refine go_do (valid_load_p tb rfl rfl rfl rfl rfl (by first | kernel_rfl | rfl)) (by first | kernel_rfl | rfl) ?_)
                  | (refine nxt_s 1 rfl ?_; refine go_do (valid_fld_p tb rfl rfl rfl (by kernel_rfl)) rfl ?_)
                  | refine go_do (valid_mv (.inr rfl) rfl) rfl ?_
                  | refine go_do (valid_pick rfl rfl rfl) rfl ?_
                  | refine go_do (valid_extract rfl rfl rfl rfl) rfl ?_
                  | refine go_do (valid_field tb rfl rfl rfl rfl rfl rfl) rfl ?_
                  | refine go_do (valid_cmp rfl rfl rfl rfl (by first | exact .eql1 (by omega) | exact .eql0 (by omega) | exact .neq1 (by omega) | exact .neq0 (by omega) | exact .lss1 (by omega) | exact .lss0 (by omega) | exact .leq1 (by omega) | exact .leq0 (by omega) | exact .gtr1 (by omega) | exact .gtr0 (by omega) | exact .geq1 (by omega) | exact .geq0 (by omega) | constructor)) rfl ?_
                  | refine go_do (valid_ar rfl rfl rfl rfl (by constructor) (by first | exact wr_u64 (by omega) (by omega) | exact wr_i64 (by omega) (by omega) | rfl)) rfl ?_
                  | refine go_do (valid_cv rfl rfl rfl rfl rfl (by first | exact wr_u64 (by omega) (by omega) | exact wr_i64 (by omega) (by omega) | rfl)) rfl ?_
                  | refine go_do (valid_quo rfl rfl rfl rfl (by omega) (by omega) (by first | exact wr_u64 (by omega) (by omega) | exact wr_i64 (by omega) (by omega))) rfl ?_
                  | refine go_do (valid_rem rfl rfl rfl rfl (by omega) (by omega)) rfl ?_
                  | refine go_do (valid_box rfl rfl rfl rfl rfl rfl) rfl ?_
                  | refine go_do (valid_alloc rfl rfl rfl rfl rfl) rfl ?_
                  | (refine nxt_s 1 rfl ?_; refine go_do (valid_store_p rfl rfl rfl rfl rfl rfl (by first | kernel_rfl | rfl) rfl) (by first | kernel_rfl | rfl) ?_)
                  | refine go_do (valid_len_s rfl rfl rfl rfl) rfl ?_
                  | (refine nxt_s 3 rfl ?_; refine go_do (valid_load_q tb rfl rfl rfl rfl (by first | kernel_rfl | rfl)) rfl ?_)
                  | (refine nxt_s 3 rfl ?_; refine go_do (valid_fld_q tb rfl rfl rfl rfl) rfl ?_)
                  | refine go_do (valid_not rfl rfl rfl) rfl ?_
                  | refine go_do (valid_build rfl rfl rfl rfl) rfl ?_
                  | refine go_do (valid_nil rfl rfl rfl rfl) rfl ?_
                  | (refine nxt_s 4 rfl ?_; refine go_do (valid_idx_s rfl rfl rfl rfl rfl rfl (by omega) (by omega) _ (by assumption)) rfl ?_)
                  | (refine nxt_s 5 rfl ?_; refine go_do (valid_store_rp rfl rfl rfl rfl rfl rfl rfl rfl rfl (by first | omega | (simp; omega)) rfl) rfl ?_)
                  | (refine nxt_s 5 rfl ?_; refine go_do (valid_load_rp tb rfl rfl rfl rfl rfl rfl) rfl ?_)
                  | (refine nxt_s 2 rfl ?_; refine go_do (valid_idx_o rfl rfl rfl rfl rfl rfl rfl (by omega) (by omega)) rfl ?_)
                  | (refine nxt_s 1 rfl ?_; refine go_do (valid_idx_p rfl rfl rfl rfl rfl rfl (by omega) (by omega)) rfl ?_)
                  | refine go_do (valid_index tb rfl rfl rfl rfl rfl rfl (by omega) (by omega) rfl) rfl ?_
                  | refine go_do (valid_len_o rfl rfl rfl rfl rfl) rfl ?_
                  | refine go_do (valid_len_v rfl rfl rfl rfl) rfl ?_
                  | (refine nxt_s 5 rfl ?_; refine go_do (valid_fld_rp tb rfl rfl rfl rfl) rfl ?_)
                  | refine go_do (valid_bslice rfl rfl rfl rfl rfl rfl rfl rfl rfl rfl rfl) rfl ?_
                  | refine go_do (valid_bslice0 rfl rfl rfl rfl rfl rfl rfl) rfl ?_
                  | refine go_do (valid_eqb rfl rfl rfl rfl rfl) rfl ?_
                  | refine go_do (valid_neb rfl rfl rfl rfl rfl) rfl ?_)
              | refine aw_text rfl ?_
              | refine aw_any (by kernel_rfl) (by kernel_rfl) rfl ?_
              | exact aw_ret (show resA _ _ _ = some _ by kernel_rfl)
              | refine aw_cond1 rfl rfl ?_
              | refine aw_cond0 rfl rfl ?_
              | refine aw_block ?_
              | refine aw_exit ?_
              | refine aw_skip ?_
              | refine aw_seq_k (fun K hK => ?_))
            first
              | (refine hK _ ?_; clear hK K)
              | (rename_i K1 hK1; refine hK1 _ ?_; clear hK hK1; clear K)
              | (rename_i K1 hK1; refine hK1 _ ?_; clear hK1)
            repeat (first
              | (refine go_at rfl ?_; first
                  | refine go_do (valid_skip rfl) rfl ?_
                  | refine go_do (valid_mv (.inl rfl) rfl) rfl ?_
                  | (refine nxt_s 1 rfl ?_; refine go_do (valid_load_p tb rfl rfl rfl rfl rfl (by first | kernel_rfl | rfl)) (by first | kernel_rfl | rfl) ?_)
                  | (refine nxt_s 1 rfl ?_; refine go_do (valid_fld_p tb rfl rfl rfl (by kernel_rfl)) rfl ?_)
                  | refine go_do (valid_mv (.inr rfl) rfl) rfl ?_
                  | refine go_do (valid_pick rfl rfl rfl) rfl ?_
                  | refine go_do (valid_extract rfl rfl rfl rfl) rfl ?_
                  | refine go_do (valid_field tb rfl rfl rfl rfl rfl rfl) rfl ?_
                  | refine go_do (valid_cmp rfl rfl rfl rfl (by first | exact .eql1 (by omega) | exact .eql0 (by omega) | exact .neq1 (by omega) | exact .neq0 (by omega) | exact .lss1 (by omega) | exact .lss0 (by omega) | exact .leq1 (by omega) | exact .leq0 (by omega) | exact .gtr1 (by omega) | exact .gtr0 (by omega) | exact .geq1 (by omega) | exact .geq0 (by omega) | constructor)) rfl ?_
                  | refine go_do (valid_ar rfl rfl rfl rfl (by constructor) (by first | exact wr_u64 (by omega) (by omega) | exact wr_i64 (by omega) (by omega) | rfl)) rfl ?_
                  | refine go_do (valid_cv rfl rfl rfl rfl rfl (by first | exact wr_u64 (by omega) (by omega) | exact wr_i64 (by omega) (by omega) | rfl)) rfl ?_
                  | refine go_do (valid_quo rfl rfl rfl rfl (by omega) (by omega) (by first | exact wr_u64 (by omega) (by omega) | exact wr_i64 (by omega) (by omega))) rfl ?_
                  | refine go_do (valid_rem rfl rfl rfl rfl (by omega) (by omega)) rfl ?_
                  | refine go_do (valid_box rfl rfl rfl rfl rfl rfl) rfl ?_
                  | refine go_do (valid_alloc rfl rfl rfl rfl rfl) rfl ?_
                  | (refine nxt_s 1 rfl ?_; refine go_do (valid_store_p rfl rfl rfl rfl rfl rfl (by first | kernel_rfl | rfl) rfl) (by first | kernel_rfl | rfl) ?_)
                  | refine go_do (valid_len_s rfl rfl rfl rfl) rfl ?_
                  | (refine nxt_s 3 rfl ?_; refine go_do (valid_load_q tb rfl rfl rfl rfl (by first | kernel_rfl | rfl)) rfl ?_)
                  | (refine nxt_s 3 rfl ?_; refine go_do (valid_fld_q tb rfl rfl rfl rfl) rfl ?_)
                  | refine go_do (valid_not rfl rfl rfl) rfl ?_
                  | refine go_do (valid_build rfl rfl rfl rfl) rfl ?_
                  | refine go_do (valid_nil rfl rfl rfl rfl) rfl ?_
                  | (refine nxt_s 4 rfl ?_; refine go_do (valid_idx_s rfl rfl rfl rfl rfl rfl (by omega) (by omega) _ (by assumption)) rfl ?_)
                  | (refine nxt_s 5 rfl ?_; refine go_do (valid_store_rp rfl rfl rfl rfl rfl rfl rfl rfl rfl (by first | omega | (simp; omega)) rfl) rfl ?_)
                  | (refine nxt_s 5 rfl ?_; refine go_do (valid_load_rp tb rfl rfl rfl rfl rfl rfl) rfl ?_)
                  | (refine nxt_s 2 rfl ?_; refine go_do (valid_idx_o rfl rfl rfl rfl rfl rfl rfl (by omega) (by omega)) rfl ?_)
                  | (refine nxt_s 1 rfl ?_; refine go_do (valid_idx_p rfl rfl rfl rfl rfl rfl (by omega) (by omega)) rfl ?_)
                  | refine go_do (valid_index tb rfl rfl rfl rfl rfl rfl (by omega) (by omega) rfl) rfl ?_
                  | refine go_do (valid_len_o rfl rfl rfl rfl rfl) rfl ?_
                  | refine go_do (valid_len_v rfl rfl rfl rfl) rfl ?_
                  | (refine nxt_s 5 rfl ?_; refine go_do (valid_fld_rp tb rfl rfl rfl rfl) rfl ?_)
                  | refine go_do (valid_bslice rfl rfl rfl rfl rfl rfl rfl rfl rfl rfl rfl) rfl ?_
                  | refine go_do (valid_bslice0 rfl rfl rfl rfl rfl rfl rfl) rfl ?_
                  | refine go_do (valid_eqb rfl rfl rfl rfl rfl) rfl ?_
                  | refine go_do (valid_neb rfl rfl rfl rfl rfl) rfl ?_
                  | refine go_do (valid_call rfl rfl rfl (hd) (by kernel_rfl)) rfl ?_)
              | refine aw_text rfl ?_
              | refine aw_any (by kernel_rfl) (by kernel_rfl) rfl ?_
              | exact aw_ret (show resA _ _ _ = some _ by kernel_rfl)
              | refine aw_cond1 rfl rfl ?_
              | refine aw_cond0 rfl rfl ?_
              | refine aw_block ?_
              | refine aw_exit ?_
              | refine aw_skip ?_
              | refine aw_seq_k (fun K hK => ?_))
            first
              | (refine hK _ ?_; clear hK K)
              | (rename_i K1 hK1; refine hK1 _ ?_; clear hK hK1; clear K)
              | (rename_i K1 hK1; refine hK1 _ ?_; clear hK1)
            refine aw_sub (sub_of [(1, .m (.c (.s l.length 2 (flD l)))), (5, .m (.c (.p 5 0))), (7, .m (.c (.o 32))), (8, .m (ii i)), (9, .m (.c (.p 9 0))), (10, .m (ii k.ss.length)), (11, .m (ii 0))] [(5, .live (.box k.ce)), (9, .live (.box nk.ce)), (32, .live (.row 4 1 17 xs))] ⟨by kernel_rfl, by kernel_rfl, by kernel_rfl, by kernel_rfl, by kernel_rfl, by kernel_rfl, by kernel_rfl, trivial⟩ ⟨by kernel_rfl, by kernel_rfl, by kernel_rfl, trivial⟩ (by kernel_rfl)) ?_
            repeat (first
              | (refine go_at rfl ?_; first
                  | refine go_do (valid_skip rfl) rfl ?_
                  | refine go_do (valid_mv (.inl rfl) rfl) rfl ?_
                  | (refine nxt_s 1 rfl ?_; refine go_do (valid_load_p tb rfl rfl rfl rfl rfl (by first | kernel_rfl | rfl)) (by first | kernel_rfl | rfl) ?_)
                  | (refine nxt_s 1 rfl ?_; refine go_do (valid_fld_p tb rfl rfl rfl (by kernel_rfl)) rfl ?_)
                  | refine go_do (valid_mv (.inr rfl) rfl) rfl ?_
                  | refine go_do (valid_pick rfl rfl rfl) rfl ?_
                  | refine go_do (valid_extract rfl rfl rfl rfl) rfl ?_
                  | refine go_do (valid_field tb rfl rfl rfl rfl rfl rfl) rfl ?_
                  | refine go_do (valid_cmp rfl rfl rfl rfl (by first | exact .eql1 (by omega) | exact .eql0 (by omega) | exact .neq1 (by omega) | exact .neq0 (by omega) | exact .lss1 (by omega) | exact .lss0 (by omega) | exact .leq1 (by omega) | exact .leq0 (by omega) | exact .gtr1 (by omega) | exact .gtr0 (by omega) | exact .geq1 (by omega) | exact .geq0 (by omega) | constructor)) rfl ?_
                  | refine go_do (valid_ar rfl rfl rfl rfl (by constructor) (by first | exact wr_u64 (by omega) (by omega) | exact wr_i64 (by omega) (by omega) | rfl)) rfl ?_
                  | refine go_do (valid_cv rfl rfl rfl rfl rfl (by first | exact wr_u64 (by omega) (by omega) | exact wr_i64 (by omega) (by omega) | rfl)) rfl ?_
                  | refine go_do (valid_quo rfl rfl rfl rfl (by omega) (by omega) (by first | exact wr_u64 (by omega) (by omega) | exact wr_i64 (by omega) (by omega))) rfl ?_
                  | refine go_do (valid_rem rfl rfl rfl rfl (by omega) (by omega)) rfl ?_
                  | refine go_do (valid_box rfl rfl rfl rfl rfl rfl) rfl ?_
                  | refine go_do (valid_alloc rfl rfl rfl rfl rfl) rfl ?_
                  | (refine nxt_s 1 rfl ?_; refine go_do (valid_store_p rfl rfl rfl rfl rfl rfl (by first | kernel_rfl | rfl) rfl) (by first | kernel_rfl | rfl) ?_)
                  | refine go_do (valid_len_s rfl rfl rfl rfl) rfl ?_
                  | (refine nxt_s 3 rfl ?_; refine go_do (valid_load_q tb rfl rfl rfl rfl (by first | kernel_rfl | rfl)) rfl ?_)
                  | (refine nxt_s 3 rfl ?_; refine go_do (valid_fld_q tb rfl rfl rfl rfl) rfl ?_)
                  | refine go_do (valid_not rfl rfl rfl) rfl ?_
                  | refine go_do (valid_build rfl rfl rfl rfl) rfl ?_
                  | refine go_do (valid_nil rfl rfl rfl rfl) rfl ?_
                  | (refine nxt_s 4 rfl ?_; refine go_do (valid_idx_s rfl rfl rfl rfl rfl rfl (by omega) (by omega) _ (by assumption)) rfl ?_)
                  | (refine nxt_s 5 rfl ?_; refine go_do (valid_store_rp rfl rfl rfl rfl rfl rfl rfl rfl rfl (by first | omega | (simp; omega)) rfl) rfl ?_)
                  | (refine nxt_s 5 rfl ?_; refine go_do (valid_load_rp tb rfl rfl rfl rfl rfl rfl) rfl ?_)
                  | (refine nxt_s 2 rfl ?_; refine go_do (valid_idx_o rfl rfl rfl rfl rfl rfl rfl (by omega) (by omega)) rfl ?_)
                  | (refine nxt_s 1 rfl ?_; refine go_do (valid_idx_p rfl rfl rfl rfl rfl rfl (by omega) (by omega)) rfl ?_)
                  | refine go_do (valid_index tb rfl rfl rfl rfl rfl rfl (by omega) (by omega) rfl) rfl ?_
                  | refine go_do (valid_len_o rfl rfl rfl rfl rfl) rfl ?_
                  | refine go_do (valid_len_v rfl rfl rfl rfl) rfl ?_
                  | (refine nxt_s 5 rfl ?_; refine go_do (valid_fld_rp tb rfl rfl rfl rfl) rfl ?_)
                  | refine go_do (valid_bslice rfl rfl rfl rfl rfl rfl rfl rfl rfl rfl rfl) rfl ?_
                  | refine go_do (valid_bslice0 rfl rfl rfl rfl rfl rfl rfl) rfl ?_
                  | refine go_do (valid_eqb rfl rfl rfl rfl rfl) rfl ?_
                  | refine go_do (valid_neb rfl rfl rfl rfl rfl) rfl ?_
                  | refine go_do (valid_load_rp' rfl rfl rfl rfl hpa rfl) rfl ?_)
              | (refine hK _ ?_; clear hK K)
              | (rename_i K1 hK1; refine hK1 _ ?_; clear hK hK1; clear K)
              | (rename_i K1 hK1; refine hK1 _ ?_; clear hK1)
              | refine aw_text rfl ?_
              | refine aw_any (by kernel_rfl) (by kernel_rfl) rfl ?_
              | exact aw_ret (show resA _ _ _ = some _ by kernel_rfl)
              | refine aw_cond1 rfl rfl ?_
              | refine aw_cond0 rfl rfl ?_
              | refine aw_block ?_
              | refine aw_exit ?_
              | refine aw_skip ?_
              | refine aw_seq_k (fun K hK => ?_))
            exact ⟨(i + 1, nk, xs.set ((tzI k.af + 1).toNat * 1) (.bool true)), ⟨by show i + 1 ≤ l.length; omega, hdi, by show Ownd _ nk.ao; rw [mao]; exact ownd_set ho hk.uao tz.1 tz.2⟩, by show l.length - (i + 1) < l.length - i; omega, sub_of _ _ ⟨by kernel_rfl, by kernel_rfl, by kernel_rfl, by kernel_rfl, trivial⟩ ⟨by kernel_rfl, by kernel_rfl, trivial⟩ (by kernel_rfl)⟩
          | true =>
            have mfl : nk.fs.length = k.fs.length + 1 := mfl
            have hx2 : ((flF nk.fs).drop (((nk.fs.length : Int) - 1).toNat * 4)).take 4 = [.bool false, .int .u64 0, .bool true, .int .u64 (tzI k.af + 1)] := by rw [show ((nk.fs.length : Int) - 1).toNat = k.fs.length by omega]; exact mf1 rfl
            have he : ∀ w, (Op.equalIn 10000 57 (.agg #[.bool false, .int .u64 0, .bool true, .int .u64 (tzI k.af + 1)]) (.agg #[.bool false, .int .u64 0, .bool true, .int .u64 (tzI k.af + 1)])).run Tryd.prog w = .ok true w := fun w => by rw [SpL.eq_fence]; simp
            repeat (first
              | (refine go_at rfl ?_; first
                  | refine go_do (valid_skip rfl) rfl ?_
                  | refine go_do (valid_mv (.inl rfl) rfl) rfl ?_
                  | (refine nxt_s 1 rfl ?_; refine go_do (valid_load_p tb rfl rfl rfl rfl rfl (by first | kernel_rfl | rfl)) (by first | kernel_rfl | rfl) ?_)
                  | (refine nxt_s 1 rfl ?_; refine go_do (valid_fld_p tb rfl rfl rfl (by kernel_rfl)) rfl ?_)
                  | refine go_do (valid_mv (.inr rfl) rfl) rfl ?_
                  | refine go_do (valid_pick rfl rfl rfl) rfl ?_
                  | refine go_do (valid_extract rfl rfl rfl rfl) rfl ?_
                  | refine go_do (valid_field tb rfl rfl rfl rfl rfl rfl) rfl ?_
                  | refine go_do (valid_cmp rfl rfl rfl rfl (by first | exact .eql1 (by omega) | exact .eql0 (by omega) | exact .neq1 (by omega) | exact .neq0 (by omega) | exact .lss1 (by omega) | exact .lss0 (by omega) | exact .leq1 (by omega) | exact .leq0 (by omega) | exact .gtr1 (by omega) | exact .gtr0 (by omega) | exact .geq1 (by omega) | exact .geq0 (by omega) | constructor)) rfl ?_
                  | refine go_do (valid_ar rfl rfl rfl rfl (by constructor) (by first | exact wr_u64 (by omega) (by omega) | exact wr_i64 (by omega) (by omega) | rfl)) rfl ?_
                  | refine go_do (valid_cv rfl rfl rfl rfl rfl (by first | exact wr_u64 (by omega) (by omega) | exact wr_i64 (by omega) (by omega) | rfl)) rfl ?_
                  | refine go_do (valid_quo rfl rfl rfl rfl (by omega) (by omega) (by first | exact wr_u64 (by omega) (by omega) | exact wr_i64 (by omega) (by omega))) rfl ?_
                  | refine go_do (valid_rem rfl rfl rfl rfl (by omega) (by omega)) rfl ?_
                  | refine go_do (valid_box rfl rfl rfl rfl rfl rfl) rfl ?_
                  | refine go_do (valid_alloc rfl rfl rfl rfl rfl) rfl ?_
                  | (refine nxt_s 1 rfl ?_; refine go_do (valid_store_p rfl rfl rfl rfl rfl rfl (by first | kernel_rfl | rfl) rfl) (by first | kernel_rfl | rfl) ?_)
                  | refine go_do (valid_len_s rfl rfl rfl rfl) rfl ?_
                  | (refine nxt_s 3 rfl ?_; refine go_do (valid_load_q tb rfl rfl rfl rfl (by first | kernel_rfl | rfl)) rfl ?_)
                  | (refine nxt_s 3 rfl ?_; refine go_do (valid_fld_q tb rfl rfl rfl rfl) rfl ?_)
                  | refine go_do (valid_not rfl rfl rfl) rfl ?_
                  | refine go_do (valid_build rfl rfl rfl rfl) rfl ?_
                  | refine go_do (valid_nil rfl rfl rfl rfl) rfl ?_
                  | (refine nxt_s 4 rfl ?_; refine go_do (valid_idx_s rfl rfl rfl rfl rfl rfl (by omega) (by omega) _ (by assumption)) rfl ?_)
                  | (refine nxt_s 5 rfl ?_; refine go_do (valid_store_rp rfl rfl rfl rfl rfl rfl rfl rfl rfl (by first | omega | (simp; omega)) rfl) rfl ?_)
                  | (refine nxt_s 5 rfl ?_; refine go_do (valid_load_rp tb rfl rfl rfl rfl rfl rfl) rfl ?_)
                  | (refine nxt_s 2 rfl ?_; refine go_do (valid_idx_o rfl rfl rfl rfl rfl rfl rfl (by omega) (by omega)) rfl ?_)
                  | (refine nxt_s 1 rfl ?_; refine go_do (valid_idx_p rfl rfl rfl rfl rfl rfl (by omega) (by omega)) rfl ?_)
                  | refine go_do (valid_index tb rfl rfl rfl rfl rfl rfl (by omega) (by omega) rfl) rfl ?_
                  | refine go_do (valid_len_o rfl rfl rfl rfl rfl) rfl ?_
                  | refine go_do (valid_len_v rfl rfl rfl rfl) rfl ?_
                  | (refine nxt_s 5 rfl ?_; refine go_do (valid_fld_rp tb rfl rfl rfl rfl) rfl ?_)
                  | refine go_do (valid_bslice rfl rfl rfl rfl rfl rfl rfl rfl rfl rfl rfl) rfl ?_
                  | refine go_do (valid_bslice0 rfl rfl rfl rfl rfl rfl rfl) rfl ?_
                  | refine go_do (valid_eqb rfl rfl rfl rfl rfl) rfl ?_
                  | refine go_do (valid_neb rfl rfl rfl rfl rfl) rfl ?_)
              | refine aw_text rfl ?_
              | refine aw_any (by kernel_rfl) (by kernel_rfl) rfl ?_
              | exact aw_ret (show resA _ _ _ = some _ by kernel_rfl)
              | refine aw_cond1 rfl rfl ?_
              | refine aw_cond0 rfl rfl ?_
              | refine aw_block ?_
              | refine aw_exit ?_
              | refine aw_skip ?_
              | refine aw_seq_k (fun K hK => ?_))
            first
              | (refine hK _ ?_; clear hK K)
              | (rename_i K1 hK1; refine hK1 _ ?_; clear hK hK1; clear K)
              | (rename_i K1 hK1; refine hK1 _ ?_; clear hK1)
            repeat (first
              | (refine go_at rfl ?_; first
                  | refine go_do (valid_skip rfl) rfl ?_
                  | refine go_do (valid_mv (.inl rfl) rfl) rfl ?_
                  | (refine nxt_s 1 rfl ?_; refine go_do (valid_load_p tb rfl rfl rfl rfl rfl (by first | kernel_rfl | rfl)) (by first | kernel_rfl | rfl) ?_)
                  | (refine nxt_s 1 rfl ?_; refine go_do (valid_fld_p tb rfl rfl rfl (by kernel_rfl)) rfl ?_)
                  | refine go_do (valid_mv (.inr rfl) rfl) rfl ?_
                  | refine go_do (valid_pick rfl rfl rfl) rfl ?_
                  | refine go_do (valid_extract rfl rfl rfl rfl) rfl ?_
                  | refine go_do (valid_field tb rfl rfl rfl rfl rfl rfl) rfl ?_
                  | refine go_do (valid_cmp rfl rfl rfl rfl (by first | exact .eql1 (by omega) | exact .eql0 (by omega) | exact .neq1 (by omega) | exact .neq0 (by omega) | exact .lss1 (by omega) | exact .lss0 (by omega) | exact .leq1 (by omega) | exact .leq0 (by omega) | exact .gtr1 (by omega) | exact .gtr0 (by omega) | exact .geq1 (by omega) | exact .geq0 (by omega) | constructor)) rfl ?_
                  | refine go_do (valid_ar rfl rfl rfl rfl (by constructor) (by first | exact wr_u64 (by omega) (by omega) | exact wr_i64 (by omega) (by omega) | rfl)) rfl ?_
                  | refine go_do (valid_cv rfl rfl rfl rfl rfl (by first | exact wr_u64 (by omega) (by omega) | exact wr_i64 (by omega) (by omega) | rfl)) rfl ?_
                  | refine go_do (valid_quo rfl rfl rfl rfl (by omega) (by omega) (by first | exact wr_u64 (by omega) (by omega) | exact wr_i64 (by omega) (by omega))) rfl ?_
                  | refine go_do (valid_rem rfl rfl rfl rfl (by omega) (by omega)) rfl ?_
                  | refine go_do (valid_box rfl rfl rfl rfl rfl rfl) rfl ?_
                  | refine go_do (valid_alloc rfl rfl rfl rfl rfl) rfl ?_
                  | (refine nxt_s 1 rfl ?_; refine go_do (valid_store_p rfl rfl rfl rfl rfl rfl (by first | kernel_rfl | rfl) rfl) (by first | kernel_rfl | rfl) ?_)
                  | refine go_do (valid_len_s rfl rfl rfl rfl) rfl ?_
                  | (refine nxt_s 3 rfl ?_; refine go_do (valid_load_q tb rfl rfl rfl rfl (by first | kernel_rfl | rfl)) rfl ?_)
                  | (refine nxt_s 3 rfl ?_; refine go_do (valid_fld_q tb rfl rfl rfl rfl) rfl ?_)
                  | refine go_do (valid_not rfl rfl rfl) rfl ?_
                  | refine go_do (valid_build rfl rfl rfl rfl) rfl ?_
                  | refine go_do (valid_nil rfl rfl rfl rfl) rfl ?_
                  | (refine nxt_s 4 rfl ?_; refine go_do (valid_idx_s rfl rfl rfl rfl rfl rfl (by omega) (by omega) _ (by assumption)) rfl ?_)
                  | (refine nxt_s 5 rfl ?_; refine go_do (valid_store_rp rfl rfl rfl rfl rfl rfl rfl rfl rfl (by first | omega | (simp; omega)) rfl) rfl ?_)
                  | (refine nxt_s 5 rfl ?_; refine go_do (valid_load_rp tb rfl rfl rfl rfl rfl rfl) rfl ?_)
                  | (refine nxt_s 2 rfl ?_; refine go_do (valid_idx_o rfl rfl rfl rfl rfl rfl rfl (by omega) (by omega)) rfl ?_)
                  | (refine nxt_s 1 rfl ?_; refine go_do (valid_idx_p rfl rfl rfl rfl rfl rfl (by omega) (by omega)) rfl ?_)
                  | refine go_do (valid_index tb rfl rfl rfl rfl rfl rfl (by omega) (by omega) rfl) rfl ?_
                  | refine go_do (valid_len_o rfl rfl rfl rfl rfl) rfl ?_
                  | refine go_do (valid_len_v rfl rfl rfl rfl) rfl ?_
                  | (refine nxt_s 5 rfl ?_; refine go_do (valid_fld_rp tb rfl rfl rfl rfl) rfl ?_)
                  | refine go_do (valid_bslice rfl rfl rfl rfl rfl rfl rfl rfl rfl rfl rfl) rfl ?_
                  | refine go_do (valid_bslice0 rfl rfl rfl rfl rfl rfl rfl) rfl ?_
                  | refine go_do (valid_eqb rfl rfl rfl rfl rfl) rfl ?_
                  | refine go_do (valid_neb rfl rfl rfl rfl rfl) rfl ?_)
              | refine aw_text rfl ?_
              | refine aw_any (by kernel_rfl) (by kernel_rfl) rfl ?_
              | exact aw_ret (show resA _ _ _ = some _ by kernel_rfl)
              | refine aw_cond1 rfl rfl ?_
              | refine aw_cond0 rfl rfl ?_
              | refine aw_block ?_
              | refine aw_exit ?_
              | refine aw_skip ?_
              | refine aw_seq_k (fun K hK => ?_))
            first
              | (refine hK _ ?_; clear hK K)
              | (rename_i K1 hK1; refine hK1 _ ?_; clear hK hK1; clear K)
              | (rename_i K1 hK1; refine hK1 _ ?_; clear hK1)
            repeat (first
              | (refine go_at rfl ?_; first
                  | refine go_do (valid_skip rfl) rfl ?_
                  | refine go_do (valid_mv (.inl rfl) rfl) rfl ?_
                  | (refine nxt_s 1 rfl ?_; refine go_do (valid_load_p tb rfl rfl rfl rfl rfl (by first | kernel_rfl | rfl)) (by first | kernel_rfl | rfl) ?_)
                  | (refine nxt_s 1 rfl ?_; refine go_do (valid_fld_p tb rfl rfl rfl (by kernel_rfl)) rfl ?_)
                  | refine go_do (valid_mv (.inr rfl) rfl) rfl ?_
                  | refine go_do (valid_pick rfl rfl rfl) rfl ?_
                  | refine go_do (valid_extract rfl rfl rfl rfl) rfl ?_
                  | refine go_do (valid_field tb rfl rfl rfl rfl rfl rfl) rfl ?_
                  | refine go_do (valid_cmp rfl rfl rfl rfl (by first | exact .eql1 (by omega) | exact .eql0 (by omega) | exact .neq1 (by omega) | exact .neq0 (by omega) | exact .lss1 (by omega) | exact .lss0 (by omega) | exact .leq1 (by omega) | exact .leq0 (by omega) | exact .gtr1 (by omega) | exact .gtr0 (by omega) | exact .geq1 (by omega) | exact .geq0 (by omega) | constructor)) rfl ?_
                  | refine go_do (valid_ar rfl rfl rfl rfl (by constructor) (by first | exact wr_u64 (by omega) (by omega) | exact wr_i64 (by omega) (by omega) | rfl)) rfl ?_
                  | refine go_do (valid_cv rfl rfl rfl rfl rfl (by first | exact wr_u64 (by omega) (by omega) | exact wr_i64 (by omega) (by omega) | rfl)) rfl ?_
                  | refine go_do (valid_quo rfl rfl rfl rfl (by omega) (by omega) (by first | exact wr_u64 (by omega) (by omega) | exact wr_i64 (by omega) (by omega))) rfl ?_
                  | refine go_do (valid_rem rfl rfl rfl rfl (by omega) (by omega)) rfl ?_
                  | refine go_do (valid_box rfl rfl rfl rfl rfl rfl) rfl ?_
                  | refine go_do (valid_alloc rfl rfl rfl rfl rfl) rfl ?_
                  | (refine nxt_s 1 rfl ?_; refine go_do (valid_store_p rfl rfl rfl rfl rfl rfl (by first | kernel_rfl | rfl) rfl) (by first | kernel_rfl | rfl) ?_)
                  | refine go_do (valid_len_s rfl rfl rfl rfl) rfl ?_
                  | (refine nxt_s 3 rfl ?_; refine go_do (valid_load_q tb rfl rfl rfl rfl (by first | kernel_rfl | rfl)) rfl ?_)
                  | (refine nxt_s 3 rfl ?_; refine go_do (valid_fld_q tb rfl rfl rfl rfl) rfl ?_)
                  | refine go_do (valid_not rfl rfl rfl) rfl ?_
                  | refine go_do (valid_build rfl rfl rfl rfl) rfl ?_
                  | refine go_do (valid_nil rfl rfl rfl rfl) rfl ?_
                  | (refine nxt_s 4 rfl ?_; refine go_do (valid_idx_s rfl rfl rfl rfl rfl rfl (by omega) (by omega) _ (by assumption)) rfl ?_)
                  | (refine nxt_s 5 rfl ?_; refine go_do (valid_store_rp rfl rfl rfl rfl rfl rfl rfl rfl rfl (by first | omega | (simp; omega)) rfl) rfl ?_)
                  | (refine nxt_s 5 rfl ?_; refine go_do (valid_load_rp tb rfl rfl rfl rfl rfl rfl) rfl ?_)
                  | (refine nxt_s 2 rfl ?_; refine go_do (valid_idx_o rfl rfl rfl rfl rfl rfl rfl (by omega) (by omega)) rfl ?_)
                  | (refine nxt_s 1 rfl ?_; refine go_do (valid_idx_p rfl rfl rfl rfl rfl rfl (by omega) (by omega)) rfl ?_)
                  | refine go_do (valid_index tb rfl rfl rfl rfl rfl rfl (by omega) (by omega) rfl) rfl ?_
                  | refine go_do (valid_len_o rfl rfl rfl rfl rfl) rfl ?_
                  | refine go_do (valid_len_v rfl rfl rfl rfl) rfl ?_
                  | (refine nxt_s 5 rfl ?_; refine go_do (valid_fld_rp tb rfl rfl rfl rfl) rfl ?_)
                  | refine go_do (valid_bslice rfl rfl rfl rfl rfl rfl rfl rfl rfl rfl rfl) rfl ?_
                  | refine go_do (valid_bslice0 rfl rfl rfl rfl rfl rfl rfl) rfl ?_
                  | refine go_do (valid_eqb rfl rfl rfl rfl rfl) rfl ?_
                  | refine go_do (valid_neb rfl rfl rfl rfl rfl) rfl ?_
                  | refine go_do (valid_call rfl rfl rfl (hd) (by kernel_rfl)) rfl ?_)
              | refine aw_text rfl ?_
              | refine aw_any (by kernel_rfl) (by kernel_rfl) rfl ?_
              | exact aw_ret (show resA _ _ _ = some _ by kernel_rfl)
              | refine aw_cond1 rfl rfl ?_
              | refine aw_cond0 rfl rfl ?_
              | refine aw_block ?_
              | refine aw_exit ?_
              | refine aw_skip ?_
              | refine aw_seq_k (fun K hK => ?_))
            first
              | (refine hK _ ?_; clear hK K)
              | (rename_i K1 hK1; refine hK1 _ ?_; clear hK hK1; clear K)
              | (rename_i K1 hK1; refine hK1 _ ?_; clear hK1)
            refine aw_sub (sub_of [(1, .m (.c (.s l.length 2 (flD l)))), (5, .m (.c (.p 5 0))), (7, .m (.c (.o 32))), (8, .m (ii i)), (9, .m (.c (.p 9 0))), (10, .m (ii k.ss.length)), (11, .m (ii 0))] [(5, .live (.box k.ce)), (9, .live (.box nk.ce)), (32, .live (.row 4 1 17 xs))] ⟨by kernel_rfl, by kernel_rfl, by kernel_rfl, by kernel_rfl, by kernel_rfl, by kernel_rfl, by kernel_rfl, trivial⟩ ⟨by kernel_rfl, by kernel_rfl, by kernel_rfl, trivial⟩ (by kernel_rfl)) ?_
            repeat (first
              | (refine go_at rfl ?_; first
                  | refine go_do (valid_skip rfl) rfl ?_
                  | refine go_do (valid_mv (.inl rfl) rfl) rfl ?_
                  | (refine nxt_s 1 rfl ?_; refine go_do (valid_load_p tb rfl rfl rfl rfl rfl (by first | kernel_rfl | rfl)) (by first | kernel_rfl | rfl) ?_)
                  | (refine nxt_s 1 rfl ?_; refine go_do (valid_fld_p tb rfl rfl rfl (by kernel_rfl)) rfl ?_)
                  | refine go_do (valid_mv (.inr rfl) rfl) rfl ?_
                  | refine go_do (valid_pick rfl rfl rfl) rfl ?_
                  | refine go_do (valid_extract rfl rfl rfl rfl) rfl ?_
                  | refine go_do (valid_field tb rfl rfl rfl rfl rfl rfl) rfl ?_
                  | refine go_do (valid_cmp rfl rfl rfl rfl (by first | exact .eql1 (by omega) | exact .eql0 (by omega) | exact .neq1 (by omega) | exact .neq0 (by omega) | exact .lss1 (by omega) | exact .lss0 (by omega) | exact .leq1 (by omega) | exact .leq0 (by omega) | exact .gtr1 (by omega) | exact .gtr0 (by omega) | exact .geq1 (by omega) | exact .geq0 (by omega) | constructor)) rfl ?_
                  | refine go_do (valid_ar rfl rfl rfl rfl (by constructor) (by first | exact wr_u64 (by omega) (by omega) | exact wr_i64 (by omega) (by omega) | rfl)) rfl ?_
                  | refine go_do (valid_cv rfl rfl rfl rfl rfl (by first | exact wr_u64 (by omega) (by omega) | exact wr_i64 (by omega) (by omega) | rfl)) rfl ?_
                  | refine go_do (valid_quo rfl rfl rfl rfl (by omega) (by omega) (by first | exact wr_u64 (by omega) (by omega) | exact wr_i64 (by omega) (by omega))) rfl ?_
                  | refine go_do (valid_rem rfl rfl rfl rfl (by omega) (by omega)) rfl ?_
                  | refine go_do (valid_box rfl rfl rfl rfl rfl rfl) rfl ?_
                  | refine go_do (valid_alloc rfl rfl rfl rfl rfl) rfl ?_
                  | (refine nxt_s 1 rfl ?_; refine go_do (valid_store_p rfl rfl rfl rfl rfl rfl (by first | kernel_rfl | rfl) rfl) (by first | kernel_rfl | rfl) ?_)
                  | refine go_do (valid_len_s rfl rfl rfl rfl) rfl ?_
                  | (refine nxt_s 3 rfl ?_; refine go_do (valid_load_q tb rfl rfl rfl rfl (by first | kernel_rfl | rfl)) rfl ?_)
                  | (refine nxt_s 3 rfl ?_; refine go_do (valid_fld_q tb rfl rfl rfl rfl) rfl ?_)
                  | refine go_do (valid_not rfl rfl rfl) rfl ?_
                  | refine go_do (valid_build rfl rfl rfl rfl) rfl ?_
                  | refine go_do (valid_nil rfl rfl rfl rfl) rfl ?_
                  | (refine nxt_s 4 rfl ?_; refine go_do (valid_idx_s rfl rfl rfl rfl rfl rfl (by omega) (by omega) _ (by assumption)) rfl ?_)
                  | (refine nxt_s 5 rfl ?_; refine go_do (valid_store_rp rfl rfl rfl rfl rfl rfl rfl rfl rfl (by first | omega | (simp; omega)) rfl) rfl ?_)
                  | (refine nxt_s 5 rfl ?_; refine go_do (valid_load_rp tb rfl rfl rfl rfl rfl rfl) rfl ?_)
                  | (refine nxt_s 2 rfl ?_; refine go_do (valid_idx_o rfl rfl rfl rfl rfl rfl rfl (by omega) (by omega)) rfl ?_)
                  | (refine nxt_s 1 rfl ?_; refine go_do (valid_idx_p rfl rfl rfl rfl rfl rfl (by omega) (by omega)) rfl ?_)
                  | refine go_do (valid_index tb rfl rfl rfl rfl rfl rfl (by omega) (by omega) rfl) rfl ?_
                  | refine go_do (valid_len_o rfl rfl rfl rfl rfl) rfl ?_
                  | refine go_do (valid_len_v rfl rfl rfl rfl) rfl ?_
                  | (refine nxt_s 5 rfl ?_; refine go_do (valid_fld_rp tb rfl rfl rfl rfl) rfl ?_)
                  | refine go_do (valid_bslice rfl rfl rfl rfl rfl rfl rfl rfl rfl rfl rfl) rfl ?_
                  | refine go_do (valid_bslice0 rfl rfl rfl rfl rfl rfl rfl) rfl ?_
                  | refine go_do (valid_eqb rfl rfl rfl rfl rfl) rfl ?_
                  | refine go_do (valid_neb rfl rfl rfl rfl rfl) rfl ?_
                  | refine go_do (valid_load_rp' rfl rfl rfl rfl hpa rfl) rfl ?_
                  | refine go_do (valid_neq (us := [.bool false, .int .u64 0, .bool true, .int .u64 (tzI k.af + 1)]) (vs := [.bool false, .int .u64 0, .bool true, .int .u64 (tzI k.af + 1)]) he (by kernel_rfl) rfl rfl (by kernel_rfl) (by kernel_rfl)) rfl ?_)
              | (refine hK _ ?_; clear hK K)
              | (rename_i K1 hK1; refine hK1 _ ?_; clear hK hK1; clear K)
              | (rename_i K1 hK1; refine hK1 _ ?_; clear hK1)
              | refine aw_text rfl ?_
              | refine aw_any (by kernel_rfl) (by kernel_rfl) rfl ?_
              | exact aw_ret (show resA _ _ _ = some _ by kernel_rfl)
              | refine aw_cond1 rfl rfl ?_
              | refine aw_cond0 rfl rfl ?_
              | refine aw_block ?_
              | refine aw_exit ?_
              | refine aw_skip ?_
              | refine aw_seq_k (fun K hK => ?_))
            exact ⟨(i + 1, nk, xs.set ((tzI k.af + 1).toNat * 1) (.bool true)), ⟨by show i + 1 ≤ l.length; omega, hdi, by show Ownd _ nk.ao; rw [mao]; exact ownd_set ho hk.uao tz.1 tz.2⟩, by show l.length - (i + 1) < l.length - i; omega, sub_of _ _ ⟨by kernel_rfl, by kernel_rfl, by kernel_rfl, by kernel_rfl, trivial⟩ ⟨by kernel_rfl, by kernel_rfl, trivial⟩ (by kernel_rfl)⟩
      · have hcm := do_calm (k := k) c0
        revert hd hdi hcm
        generalize doR k y = rr
        intro hd hdi hcm
        have f1 := hcm.fs
        have b4 := hdi.fl
        repeat (first
          | (refine go_at rfl ?_; first
              | refine go_do (valid_skip rfl) rfl ?_
              | refine go_do (valid_mv (.inl rfl) rfl) rfl ?_
              | (refine nxt_s 1 rfl ?_; refine go_do (valid_load_p tb rfl rfl rfl rfl rfl (by first | kernel_rfl | rfl)) (by first | kernel_rfl | rfl) ?_)
              | (refine nxt_s 1 rfl ?_; refine go_do (valid_fld_p tb rfl rfl rfl (by kernel_rfl)) rfl ?_)
              | refine go_do (valid_mv (.inr rfl) rfl) rfl ?_
              | refine go_do (valid_pick rfl rfl rfl) rfl ?_
              | refine go_do (valid_extract rfl rfl rfl rfl) rfl ?_
              | refine go_do (valid_field tb rfl rfl rfl rfl rfl rfl) rfl ?_
              | refine go_do (valid_cmp rfl rfl rfl rfl (by first | exact .eql1 (by omega) | exact .eql0 (by omega) | exact .neq1 (by omega) | exact .neq0 (by omega) | exact .lss1 (by omega) | exact .lss0 (by omega) | exact .leq1 (by omega) | exact .leq0 (by omega) | exact .gtr1 (by omega) | exact .gtr0 (by omega) | exact .geq1 (by omega) | exact .geq0 (by omega) | constructor)) rfl ?_
              | refine go_do (valid_ar rfl rfl rfl rfl (by constructor) (by first | exact wr_u64 (by omega) (by omega) | exact wr_i64 (by omega) (by omega) | rfl)) rfl ?_
              | refine go_do (valid_cv rfl rfl rfl rfl rfl (by first | exact wr_u64 (by omega) (by omega) | exact wr_i64 (by omega) (by omega) | rfl)) rfl ?_
              | refine go_do (valid_quo rfl rfl rfl rfl (by omega) (by omega) (by first | exact wr_u64 (by omega) (by omega) | exact wr_i64 (by omega) (by omega))) rfl ?_
              | refine go_do (valid_rem rfl rfl rfl rfl (by omega) (by omega)) rfl ?_
              | refine go_do (valid_box rfl rfl rfl rfl rfl rfl) rfl ?_
              | refine go_do (valid_alloc rfl rfl rfl rfl rfl) rfl ?_
              | (refine nxt_s 1 rfl ?_; refine go_do (valid_store_p rfl rfl rfl rfl rfl rfl (by first | kernel_rfl | rfl) rfl) (by first | kernel_rfl | rfl) ?_)
              | refine go_do (valid_len_s rfl rfl rfl rfl) rfl ?_
              | (refine nxt_s 3 rfl ?_; refine go_do (valid_load_q tb rfl rfl rfl rfl (by first | kernel_rfl | rfl)) rfl ?_)
              | (refine nxt_s 3 rfl ?_; refine go_do (valid_fld_q tb rfl rfl rfl rfl) rfl ?_)
              | refine go_do (valid_not rfl rfl rfl) rfl ?_
              | refine go_do (valid_build rfl rfl rfl rfl) rfl ?_
              | refine go_do (valid_nil rfl rfl rfl rfl) rfl ?_
              | (refine nxt_s 4 rfl ?_; refine go_do (valid_idx_s rfl rfl rfl rfl rfl rfl (by omega) (by omega) _ (by assumption)) rfl ?_)
              | (refine nxt_s 5 rfl ?_; refine go_do (valid_store_rp rfl rfl rfl rfl rfl rfl rfl rfl rfl (by first | omega | (simp; omega)) rfl) rfl ?_)
              | (refine nxt_s 5 rfl ?_; refine go_do (valid_load_rp tb rfl rfl rfl rfl rfl rfl) rfl ?_)
              | (refine nxt_s 2 rfl ?_; refine go_do (valid_idx_o rfl rfl rfl rfl rfl rfl rfl (by omega) (by omega)) rfl ?_)
              | (refine nxt_s 1 rfl ?_; refine go_do (valid_idx_p rfl rfl rfl rfl rfl rfl (by omega) (by omega)) rfl ?_)
              | refine go_do (valid_index tb rfl rfl rfl rfl rfl rfl (by omega) (by omega) rfl) rfl ?_
              | refine go_do (valid_len_o rfl rfl rfl rfl rfl) rfl ?_
              | refine go_do (valid_len_v rfl rfl rfl rfl) rfl ?_
              | (refine nxt_s 5 rfl ?_; refine go_do (valid_fld_rp tb rfl rfl rfl rfl) rfl ?_)
              | refine go_do (valid_bslice rfl rfl rfl rfl rfl rfl rfl rfl rfl rfl rfl) rfl ?_
              | refine go_do (valid_bslice0 rfl rfl rfl rfl rfl rfl rfl) rfl ?_
              | refine go_do (valid_eqb rfl rfl rfl rfl rfl) rfl ?_
              | refine go_do (valid_neb rfl rfl rfl rfl rfl) rfl ?_)
          | refine aw_text rfl ?_
          | refine aw_any (by kernel_rfl) (by kernel_rfl) rfl ?_
          | exact aw_ret (show resA _ _ _ = some _ by kernel_rfl)
          | refine aw_cond1 rfl rfl ?_
          | refine aw_cond0 rfl rfl ?_
          | refine aw_block ?_
          | refine aw_exit ?_
          | refine aw_skip ?_
          | refine aw_seq_k (fun K hK => ?_))
        first
          | (refine hK _ ?_; clear hK K)
          | (rename_i K1 hK1; refine hK1 _ ?_; clear hK hK1; clear K)
          | (rename_i K1 hK1; refine hK1 _ ?_; clear hK1)
        repeat (first
          | (refine go_at rfl ?_; first
              | refine go_do (valid_skip rfl) rfl ?_
              | refine go_do (valid_mv (.inl rfl) rfl) rfl ?_
              | (refine nxt_s 1 rfl ?_; refine go_do (valid_load_p tb rfl rfl rfl rfl rfl (by first | kernel_rfl | rfl)) (by first | kernel_rfl | rfl) ?_)
              | (refine nxt_s 1 rfl ?_; refine go_do (valid_fld_p tb rfl rfl rfl (by kernel_rfl)) rfl ?_)
              | refine go_do (valid_mv (.inr rfl) rfl) rfl ?_
              | refine go_do (valid_pick rfl rfl rfl) rfl ?_
              | refine go_do (valid_extract rfl rfl rfl rfl) rfl ?_
              | refine go_do (valid_field tb rfl rfl rfl rfl rfl rfl) rfl ?_
              | refine go_do (valid_cmp rfl rfl rfl rfl (by first | exact .eql1 (by omega) | exact .eql0 (by omega) | exact .neq1 (by omega) | exact .neq0 (by omega) | exact .lss1 (by omega) | exact .lss0 (by omega) | exact .leq1 (by omega) | exact .leq0 (by omega) | exact .gtr1 (by omega) | exact .gtr0 (by omega) | exact .geq1 (by omega) | exact .geq0 (by omega) | constructor)) rfl ?_
              | refine go_do (valid_ar rfl rfl rfl rfl (by constructor) (by first | exact wr_u64 (by omega) (by omega) | exact wr_i64 (by omega) (by omega) | rfl)) rfl ?_
              | refine go_do (valid_cv rfl rfl rfl rfl rfl (by first | exact wr_u64 (by omega) (by omega) | exact wr_i64 (by omega) (by omega) | rfl)) rfl ?_
              | refine go_do (valid_quo rfl rfl rfl rfl (by omega) (by omega) (by first | exact wr_u64 (by omega) (by omega) | exact wr_i64 (by omega) (by omega))) rfl ?_
              | refine go_do (valid_rem rfl rfl rfl rfl (by omega) (by omega)) rfl ?_
              | refine go_do (valid_box rfl rfl rfl rfl rfl rfl) rfl ?_
              | refine go_do (valid_alloc rfl rfl rfl rfl rfl) rfl ?_
              | (refine nxt_s 1 rfl ?_; refine go_do (valid_store_p rfl rfl rfl rfl rfl rfl (by first | kernel_rfl | rfl) rfl) (by first | kernel_rfl | rfl) ?_)
              | refine go_do (valid_len_s rfl rfl rfl rfl) rfl ?_
              | (refine nxt_s 3 rfl ?_; refine go_do (valid_load_q tb rfl rfl rfl rfl (by first | kernel_rfl | rfl)) rfl ?_)
              | (refine nxt_s 3 rfl ?_; refine go_do (valid_fld_q tb rfl rfl rfl rfl) rfl ?_)
              | refine go_do (valid_not rfl rfl rfl) rfl ?_
              | refine go_do (valid_build rfl rfl rfl rfl) rfl ?_
              | refine go_do (valid_nil rfl rfl rfl rfl) rfl ?_
              | (refine nxt_s 4 rfl ?_; refine go_do (valid_idx_s rfl rfl rfl rfl rfl rfl (by omega) (by omega) _ (by assumption)) rfl ?_)
              | (refine nxt_s 5 rfl ?_; refine go_do (valid_store_rp rfl rfl rfl rfl rfl rfl rfl rfl rfl (by first | omega | (simp; omega)) rfl) rfl ?_)
              | (refine nxt_s 5 rfl ?_; refine go_do (valid_load_rp tb rfl rfl rfl rfl rfl rfl) rfl ?_)
              | (refine nxt_s 2 rfl ?_; refine go_do (valid_idx_o rfl rfl rfl rfl rfl rfl rfl (by omega) (by omega)) rfl ?_)
              | (refine nxt_s 1 rfl ?_; refine go_do (valid_idx_p rfl rfl rfl rfl rfl rfl (by omega) (by omega)) rfl ?_)
              | refine go_do (valid_index tb rfl rfl rfl rfl rfl rfl (by omega) (by omega) rfl) rfl ?_
              | refine go_do (valid_len_o rfl rfl rfl rfl rfl) rfl ?_
              | refine go_do (valid_len_v rfl rfl rfl rfl) rfl ?_
              | (refine nxt_s 5 rfl ?_; refine go_do (valid_fld_rp tb rfl rfl rfl rfl) rfl ?_)
              | refine go_do (valid_bslice rfl rfl rfl rfl rfl rfl rfl rfl rfl rfl rfl) rfl ?_
              | refine go_do (valid_bslice0 rfl rfl rfl rfl rfl rfl rfl) rfl ?_
              | refine go_do (valid_eqb rfl rfl rfl rfl rfl) rfl ?_
              | refine go_do (valid_neb rfl rfl rfl rfl rfl) rfl ?_)
          | refine aw_text rfl ?_
          | refine aw_any (by kernel_rfl) (by kernel_rfl) rfl ?_
          | exact aw_ret (show resA _ _ _ = some _ by kernel_rfl)
          | refine aw_cond1 rfl rfl ?_
          | refine aw_cond0 rfl rfl ?_
          | refine aw_block ?_
          | refine aw_exit ?_
          | refine aw_skip ?_
          | refine aw_seq_k (fun K hK => ?_))
        first
          | (refine hK _ ?_; clear hK K)
          | (rename_i K1 hK1; refine hK1 _ ?_; clear hK hK1; clear K)
          | (rename_i K1 hK1; refine hK1 _ ?_; clear hK1)
        repeat (first
          | (refine go_at rfl ?_; first
              | refine go_do (valid_skip rfl) rfl ?_
              | refine go_do (valid_mv (.inl rfl) rfl) rfl ?_
              | (refine nxt_s 1 rfl ?_; refine go_do (valid_load_p tb rfl rfl rfl rfl rfl (by first | kernel_rfl | rfl)) (by first | kernel_rfl | rfl) ?_)
              | (refine nxt_s 1 rfl ?_; refine go_do (valid_fld_p tb rfl rfl rfl (by kernel_rfl)) rfl ?_)
              | refine go_do (valid_mv (.inr rfl) rfl) rfl ?_
              | refine go_do (valid_pick rfl rfl rfl) rfl ?_
              | refine go_do (valid_extract rfl rfl rfl rfl) rfl ?_
              | refine go_do (valid_field tb rfl rfl rfl rfl rfl rfl) rfl ?_
              | refine go_do (valid_cmp rfl rfl rfl rfl (by first | exact .eql1 (by omega) | exact .eql0 (by omega) | exact .neq1 (by omega) | exact .neq0 (by omega) | exact .lss1 (by omega) | exact .lss0 (by omega) | exact .leq1 (by omega) | exact .leq0 (by omega) | exact .gtr1 (by omega) | exact .gtr0 (by omega) | exact .geq1 (by omega) | exact .geq0 (by omega) | constructor)) rfl ?_
              | refine go_do (valid_ar rfl rfl rfl rfl (by constructor) (by first | exact wr_u64 (by omega) (by omega) | exact wr_i64 (by omega) (by omega) | rfl)) rfl ?_
              | refine go_do (valid_cv rfl rfl rfl rfl rfl (by first | exact wr_u64 (by omega) (by omega) | exact wr_i64 (by omega) (by omega) | rfl)) rfl ?_
              | refine go_do (valid_quo rfl rfl rfl rfl (by omega) (by omega) (by first | exact wr_u64 (by omega) (by omega) | exact wr_i64 (by omega) (by omega))) rfl ?_
              | refine go_do (valid_rem rfl rfl rfl rfl (by omega) (by omega)) rfl ?_
              | refine go_do (valid_box rfl rfl rfl rfl rfl rfl) rfl ?_
              | refine go_do (valid_alloc rfl rfl rfl rfl rfl) rfl ?_
              | (refine nxt_s 1 rfl ?_; refine go_do (valid_store_p rfl rfl rfl rfl rfl rfl (by first | kernel_rfl | rfl) rfl) (by first | kernel_rfl | rfl) ?_)
              | refine go_do (valid_len_s rfl rfl rfl rfl) rfl ?_
              | (refine nxt_s 3 rfl ?_; refine go_do (valid_load_q tb rfl rfl rfl rfl (by first | kernel_rfl | rfl)) rfl ?_)
              | (refine nxt_s 3 rfl ?_; refine go_do (valid_fld_q tb rfl rfl rfl rfl) rfl ?_)
              | refine go_do (valid_not rfl rfl rfl) rfl ?_
              | refine go_do (valid_build rfl rfl rfl rfl) rfl ?_
              | refine go_do (valid_nil rfl rfl rfl rfl) rfl ?_
              | (refine nxt_s 4 rfl ?_; refine go_do (valid_idx_s rfl rfl rfl rfl rfl rfl (by omega) (by omega) _ (by assumption)) rfl ?_)
              | (refine nxt_s 5 rfl ?_; refine go_do (valid_store_rp rfl rfl rfl rfl rfl rfl rfl rfl rfl (by first | omega | (simp; omega)) rfl) rfl ?_)
              | (refine nxt_s 5 rfl ?_; refine go_do (valid_load_rp tb rfl rfl rfl rfl rfl rfl) rfl ?_)
              | (refine nxt_s 2 rfl ?_; refine go_do (valid_idx_o rfl rfl rfl rfl rfl rfl rfl (by omega) (by omega)) rfl ?_)
              | (refine nxt_s 1 rfl ?_; refine go_do (valid_idx_p rfl rfl rfl rfl rfl rfl (by omega) (by omega)) rfl ?_)
              | refine go_do (valid_index tb rfl rfl rfl rfl rfl rfl (by omega) (by omega) rfl) rfl ?_
              | refine go_do (valid_len_o rfl rfl rfl rfl rfl) rfl ?_
              | refine go_do (valid_len_v rfl rfl rfl rfl) rfl ?_
              | (refine nxt_s 5 rfl ?_; refine go_do (valid_fld_rp tb rfl rfl rfl rfl) rfl ?_)
              | refine go_do (valid_bslice rfl rfl rfl rfl rfl rfl rfl rfl rfl rfl rfl) rfl ?_
              | refine go_do (valid_bslice0 rfl rfl rfl rfl rfl rfl rfl) rfl ?_
              | refine go_do (valid_eqb rfl rfl rfl rfl rfl) rfl ?_
              | refine go_do (valid_neb rfl rfl rfl rfl rfl) rfl ?_
              | refine go_do (valid_call rfl rfl rfl (hd) (by kernel_rfl)) rfl ?_)
          | refine aw_text rfl ?_
          | refine aw_any (by kernel_rfl) (by kernel_rfl) rfl ?_
          | exact aw_ret (show resA _ _ _ = some _ by kernel_rfl)
          | refine aw_cond1 rfl rfl ?_
          | refine aw_cond0 rfl rfl ?_
          | refine aw_block ?_
          | refine aw_exit ?_
          | refine aw_skip ?_
          | refine aw_seq_k (fun K hK => ?_))
        first
          | (refine hK _ ?_; clear hK K)
          | (rename_i K1 hK1; refine hK1 _ ?_; clear hK hK1; clear K)
          | (rename_i K1 hK1; refine hK1 _ ?_; clear hK1)
        refine aw_sub (sub_of [(1, .m (.c (.s l.length 2 (flD l)))), (5, .m (.c (.p 5 0))), (7, .m (.c (.o 32))), (8, .m (ii i)), (9, .m (.c (.p 9 0))), (10, .m (ii rr.2.1)), (11, .m (ii rr.2.2))] [(5, .live (.box k.ce)), (9, .live (.box rr.1.ce)), (32, .live (.row 4 1 17 xs))] ⟨by kernel_rfl, by kernel_rfl, by kernel_rfl, by kernel_rfl, by kernel_rfl, by kernel_rfl, by kernel_rfl, trivial⟩ ⟨by kernel_rfl, by kernel_rfl, by kernel_rfl, trivial⟩ (by kernel_rfl)) ?_
        repeat (first
          | (refine go_at rfl ?_; first
              | refine go_do (valid_skip rfl) rfl ?_
              | refine go_do (valid_mv (.inl rfl) rfl) rfl ?_
              | (refine nxt_s 1 rfl ?_; refine go_do (valid_load_p tb rfl rfl rfl rfl rfl (by first | kernel_rfl | rfl)) (by first | kernel_rfl | rfl) ?_)
              | (refine nxt_s 1 rfl ?_; refine go_do (valid_fld_p tb rfl rfl rfl (by kernel_rfl)) rfl ?_)
              | refine go_do (valid_mv (.inr rfl) rfl) rfl ?_
              | refine go_do (valid_pick rfl rfl rfl) rfl ?_
              | refine go_do (valid_extract rfl rfl rfl rfl) rfl ?_
              | refine go_do (valid_field tb rfl rfl rfl rfl rfl rfl) rfl ?_
              | refine go_do (valid_cmp rfl rfl rfl rfl (by first | exact .eql1 (by omega) | exact .eql0 (by omega) | exact .neq1 (by omega) | exact .neq0 (by omega) | exact .lss1 (by omega) | exact .lss0 (by omega) | exact .leq1 (by omega) | exact .leq0 (by omega) | exact .gtr1 (by omega) | exact .gtr0 (by omega) | exact .geq1 (by omega) | exact .geq0 (by omega) | constructor)) rfl ?_
              | refine go_do (valid_ar rfl rfl rfl rfl (by constructor) (by first | exact wr_u64 (by omega) (by omega) | exact wr_i64 (by omega) (by omega) | rfl)) rfl ?_
              | refine go_do (valid_cv rfl rfl rfl rfl rfl (by first | exact wr_u64 (by omega) (by omega) | exact wr_i64 (by omega) (by omega) | rfl)) rfl ?_
              | refine go_do (valid_quo rfl rfl rfl rfl (by omega) (by omega) (by first | exact wr_u64 (by omega) (by omega) | exact wr_i64 (by omega) (by omega))) rfl ?_
              | refine go_do (valid_rem rfl rfl rfl rfl (by omega) (by omega)) rfl ?_
              | refine go_do (valid_box rfl rfl rfl rfl rfl rfl) rfl ?_
              | refine go_do (valid_alloc rfl rfl rfl rfl rfl) rfl ?_
              | (refine nxt_s 1 rfl ?_; refine go_do (valid_store_p rfl rfl rfl rfl rfl rfl (by first | kernel_rfl | rfl) rfl) (by first | kernel_rfl | rfl) ?_)
              | refine go_do (valid_len_s rfl rfl rfl rfl) rfl ?_
              | (refine nxt_s 3 rfl ?_; refine go_do (valid_load_q tb rfl rfl rfl rfl (by first | kernel_rfl | rfl)) rfl ?_)
              | (refine nxt_s 3 rfl ?_; refine go_do (valid_fld_q tb rfl rfl rfl rfl) rfl ?_)
              | refine go_do (valid_not rfl rfl rfl) rfl ?_
              | refine go_do (valid_build rfl rfl rfl rfl) rfl ?_
              | refine go_do (valid_nil rfl rfl rfl rfl) rfl ?_
              | (refine nxt_s 4 rfl ?_; refine go_do (valid_idx_s rfl rfl rfl rfl rfl rfl (by omega) (by omega) _ (by assumption)) rfl ?_)
              | (refine nxt_s 5 rfl ?_; refine go_do (valid_store_rp rfl rfl rfl rfl rfl rfl rfl rfl rfl (by first | omega | (simp; omega)) rfl) rfl ?_)
              | (refine nxt_s 5 rfl ?_; refine go_do (valid_load_rp tb rfl rfl rfl rfl rfl rfl) rfl ?_)
              | (refine nxt_s 2 rfl ?_; refine go_do (valid_idx_o rfl rfl rfl rfl rfl rfl rfl (by omega) (by omega)) rfl ?_)
              | (refine nxt_s 1 rfl ?_; refine go_do (valid_idx_p rfl rfl rfl rfl rfl rfl (by omega) (by omega)) rfl ?_)
              | refine go_do (valid_index tb rfl rfl rfl rfl rfl rfl (by omega) (by omega) rfl) rfl ?_
              | refine go_do (valid_len_o rfl rfl rfl rfl rfl) rfl ?_
              | refine go_do (valid_len_v rfl rfl rfl rfl) rfl ?_
              | (refine nxt_s 5 rfl ?_; refine go_do (valid_fld_rp tb rfl rfl rfl rfl) rfl ?_)
              | refine go_do (valid_bslice rfl rfl rfl rfl rfl rfl rfl rfl rfl rfl rfl) rfl ?_
              | refine go_do (valid_bslice0 rfl rfl rfl rfl rfl rfl rfl) rfl ?_
              | refine go_do (valid_eqb rfl rfl rfl rfl rfl) rfl ?_
              | refine go_do (valid_neb rfl rfl rfl rfl rfl) rfl ?_)
          | (refine hK _ ?_; clear hK K)
          | (rename_i K1 hK1; refine hK1 _ ?_; clear hK hK1; clear K)
          | (rename_i K1 hK1; refine hK1 _ ?_; clear hK1)
          | refine aw_text rfl ?_
          | refine aw_any (by kernel_rfl) (by kernel_rfl) rfl ?_
          | exact aw_ret (show resA _ _ _ = some _ by kernel_rfl)
          | refine aw_cond1 rfl rfl ?_
          | refine aw_cond0 rfl rfl ?_
          | refine aw_block ?_
          | refine aw_exit ?_
          | refine aw_skip ?_
          | refine aw_seq_k (fun K hK => ?_))
        exact ⟨(i + 1, rr.1, xs), ⟨by show i + 1 ≤ l.length; omega, hdi, by show Ownd xs rr.1.ao; rw [hcm.ao]; exact ho⟩, by show l.length - (i + 1) < l.length - i; omega, sub_of _ _ ⟨by kernel_rfl, by kernel_rfl, by kernel_rfl, by kernel_rfl, trivial⟩ ⟨by kernel_rfl, by kernel_rfl, trivial⟩ (by kernel_rfl)⟩
    · skip
      repeat (first
        | (refine go_at rfl ?_; first
            | refine go_do (valid_skip rfl) rfl ?_
            | refine go_do (valid_mv (.inl rfl) rfl) rfl ?_
            | (refine nxt_s 1 rfl ?_; refine go_do (valid_load_p tb rfl rfl rfl rfl rfl (by first | kernel_rfl | rfl)) (by first | kernel_rfl | rfl) ?_)
            | (refine nxt_s 1 rfl ?_; refine go_do (valid_fld_p tb rfl rfl rfl (by kernel_rfl)) rfl ?_)
            | refine go_do (valid_mv (.inr rfl) rfl) rfl ?_
            | refine go_do (valid_pick rfl rfl rfl) rfl ?_
            | refine go_do (valid_extract rfl rfl rfl rfl) rfl ?_
            | refine go_do (valid_field tb rfl rfl rfl rfl rfl rfl) rfl ?_
            | refine go_do (valid_cmp rfl rfl rfl rfl (by first | exact .eql1 (by omega) | exact .eql0 (by omega) | exact .neq1 (by omega) | exact .neq0 (by omega) | exact .lss1 (by omega) | exact .lss0 (by omega) | exact .leq1 (by omega) | exact .leq0 (by omega) | exact .gtr1 (by omega) | exact .gtr0 (by omega) | exact .geq1 (by omega) | exact .geq0 (by omega) | constructor)) rfl ?_
            | refine go_do (valid_ar rfl rfl rfl rfl (by constructor) (by first | exact wr_u64 (by omega) (by omega) | exact wr_i64 (by omega) (by omega) | rfl)) rfl ?_
            | refine go_do (valid_cv rfl rfl rfl rfl rfl (by first | exact wr_u64 (by omega) (by omega) | exact wr_i64 (by omega) (by omega) | rfl)) rfl ?_
            | refine go_do (valid_quo rfl rfl rfl rfl (by omega) (by omega) (by first | exact wr_u64 (by omega) (by omega) | exact wr_i64 (by omega) (by omega))) rfl ?_
            | refine go_do (valid_rem rfl rfl rfl rfl (by omega) (by omega)) rfl ?_
            | refine go_do (valid_box rfl rfl rfl rfl rfl rfl) rfl ?_
            | refine go_do (valid_alloc rfl rfl rfl rfl rfl) rfl ?_
            | (refine nxt_s 1 rfl ?_; refine go_do (valid_store_p rfl rfl rfl rfl rfl rfl (by first | kernel_rfl | rfl) rfl) (by first | kernel_rfl | rfl) ?_)
            | refine go_do (valid_len_s rfl rfl rfl rfl) rfl ?_
            | (refine nxt_s 3 rfl ?_; refine go_do (valid_load_q tb rfl rfl rfl rfl (by first | kernel_rfl | rfl)) rfl ?_)
            | (refine nxt_s 3 rfl ?_; refine go_do (valid_fld_q tb rfl rfl rfl rfl) rfl ?_)
            | refine go_do (valid_not rfl rfl rfl) rfl ?_
            | refine go_do (valid_build rfl rfl rfl rfl) rfl ?_
            | refine go_do (valid_nil rfl rfl rfl rfl) rfl ?_
            | (refine nxt_s 4 rfl ?_; refine go_do (valid_idx_s rfl rfl rfl rfl rfl rfl (by omega) (by omega) _ (by assumption)) rfl ?_)
            | (refine nxt_s 5 rfl ?_; refine go_do (valid_store_rp rfl rfl rfl rfl rfl rfl rfl rfl rfl (by first | omega | (simp; omega)) rfl) rfl ?_)
            | (refine nxt_s 5 rfl ?_; refine go_do (valid_load_rp tb rfl rfl rfl rfl rfl rfl) rfl ?_)
            | (refine nxt_s 2 rfl ?_; refine go_do (valid_idx_o rfl rfl rfl rfl rfl rfl rfl (by omega) (by omega)) rfl ?_)
            | (refine nxt_s 1 rfl ?_; refine go_do (valid_idx_p rfl rfl rfl rfl rfl rfl (by omega) (by omega)) rfl ?_)
            | refine go_do (valid_index tb rfl rfl rfl rfl rfl rfl (by omega) (by omega) rfl) rfl ?_
            | refine go_do (valid_len_o rfl rfl rfl rfl rfl) rfl ?_
            | refine go_do (valid_len_v rfl rfl rfl rfl) rfl ?_
            | (refine nxt_s 5 rfl ?_; refine go_do (valid_fld_rp tb rfl rfl rfl rfl) rfl ?_)
            | refine go_do (valid_bslice rfl rfl rfl rfl rfl rfl rfl rfl rfl rfl rfl) rfl ?_
            | refine go_do (valid_bslice0 rfl rfl rfl rfl rfl rfl rfl) rfl ?_
            | refine go_do (valid_eqb rfl rfl rfl rfl rfl) rfl ?_
            | refine go_do (valid_neb rfl rfl rfl rfl rfl) rfl ?_)
        | (refine hK _ ?_; clear hK K)
        | (rename_i K1 hK1; refine hK1 _ ?_; clear hK hK1; clear K)
        | (rename_i K1 hK1; refine hK1 _ ?_; clear hK1)
        | refine aw_text rfl ?_
        | refine aw_any (by kernel_rfl) (by kernel_rfl) rfl ?_
        | exact aw_ret (show resA _ _ _ = some _ by kernel_rfl)
        | refine aw_cond1 rfl rfl ?_
        | refine aw_cond0 rfl rfl ?_
        | refine aw_block ?_
        | refine aw_exit ?_
        | refine aw_skip ?_
        | refine aw_seq_k (fun K hK => ?_))
end Go.Proofs.YtkffmaeiplgjeaaDoor.SpS
