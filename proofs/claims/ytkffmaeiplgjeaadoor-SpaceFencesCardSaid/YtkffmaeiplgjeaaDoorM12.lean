/- Texts of this claim, one behind the other: SpB, SpC. -/
import Derived.Test.YtkffmaeiplgjeaaDoorM11
import Derived.Test.YtkffmaeiplgjeaaDoorM9
/- The abstract walk: kernels, as plain data; the small functions of the layer space. -/
namespace Go.Proofs.YtkffmaeiplgjeaaDoor.SpB
open Go.RowKit Go.Proofs.YtkffmaeiplgjeaaDoor.Bv Go.Proofs.YtkffmaeiplgjeaaDoor.VaSpec Go.Proofs.YtkffmaeiplgjeaaDoor.Base Go.Proofs.YtkffmaeiplgjeaaDoor.MemL Go.Proofs.YtkffmaeiplgjeaaDoor.RegR Go.Proofs.YtkffmaeiplgjeaaDoor.Ax Go.Proofs.YtkffmaeiplgjeaaDoor.MemC Go.Proofs.YtkffmaeiplgjeaaDoor.PutC Go.Proofs.YtkffmaeiplgjeaaDoor.MemC3 Go.Proofs.YtkffmaeiplgjeaaDoor.TzC Go.Proofs.YtkffmaeiplgjeaaDoor.OkS Go.Proofs.YtkffmaeiplgjeaaDoor.SpA
open Go.Proofs.YtkffmaeiplgjeaaDoor.BitsC Go.Proofs.YtkffmaeiplgjeaaDoor.PteSpec
set_option linter.unusedVariables false
set_option linter.unusedSimpArgs false
set_option maxRecDepth 10000
set_option maxHeartbeats 1000000
structure Sp where
  root : Int
  asid : Int
  live : Bool
deriving DecidableEq
structure Fe where
  ha : Bool
  ad : Int
  hs : Bool
  sn : Int
deriving DecidableEq
def Sp.vs (s : Sp) : List Value := [.int .u64 s.root, .int .u64 s.asid, .bool s.live]
def Fe.vs (f : Fe) : List Value := [.bool f.ha, .int .u64 f.ad, .bool f.hs, .int .u64 f.sn]
def flS (l : List Sp) : List Value := l.flatMap Sp.vs
def flF (l : List Fe) : List Value := l.flatMap Fe.vs
/-- a kernel -/
structure Kr where
  cd : Int
  cp : Int
  ca : Int
  cs : Int
  sz : Int
  m : List (Int × Int)
  tn : Nat
  ts : List Value
  sm : Int
  sa : Int
  sp : Int
  priv : Int
  su : Bool
  mx : Bool
  vic : Int
  pb : Int
  pm : Int
  pf : Int
  am : Int
  af : Int
  ao : Int
  ss : List Sp
  now : Int
  sh : Int
  fs : List Fe
def Kr.ce (k : Kr) : List Ce := [ci k.cd, ci k.cp, ci k.ca, ci k.cs, cu k.sz, .s k.m.length 2 (fl k.m), .s k.tn 45 k.ts, cu k.sm, cu k.sa, cu k.sp, ci k.priv, cb k.su, cb k.mx, ci k.vic, cu k.pb, ci k.pm, cu k.pf, ci k.am, cu k.af, cu k.ao, .s k.ss.length 3 (flS k.ss), ci k.now, cu k.sh, .s k.fs.length 4 (flF k.fs)]
theorem flat_at {α : Type} (f : α → List Value) (k : Nat) (hk : ∀ a, (f a).length = k) : ∀ (l : List α) (i : Nat) (a : α), l[i]? = some a → ((l.flatMap f).drop (i * k)).take k = f a
  | [], i, a, h => by simp at h
  | x :: l, 0, a, h => by
    simp at h; subst h
    simp only [Nat.zero_mul, List.drop_zero, List.flatMap_cons]
    rw [← hk x]; simp
  | x :: l, i + 1, a, h => by
    have e : (i + 1) * k = (f x).length + i * k := by rw [hk, Nat.succ_mul]; omega
    rw [List.flatMap_cons, e, ← List.drop_drop]
    simp only [List.drop_left]
    exact flat_at f k hk l i a (by simpa using h)
theorem flS_at {l : List Sp} {i : Int} {s : Sp} (h : l[i.toNat]? = some s) : ((flS l).drop (i.toNat * 3)).take 3 = [.int .u64 s.root, .int .u64 s.asid, .bool s.live] := flat_at Sp.vs 3 (fun _ => rfl) l _ s h
def livesB (k : Kr) (id : Int) : Bool := decide (0 ≤ id) && (match k.ss[id.toNat]? with | some s => s.live | none => false)
theorem lives_ok (k : Kr) (id : Int) : Ok 28 [.ag k.ce, ii id] (.m (ib (livesB k id))) := by
  by_cases h0 : 0 ≤ id
  · by_cases h : id < k.ss.length
    · obtain ⟨s, hs⟩ : ∃ s, k.ss[id.toNat]? = some s := ⟨_, List.getElem?_eq_getElem (by omega)⟩
      have hx := flS_at hs
      rw [show livesB k id = s.live by simp [livesB, h0, hs]]
      refine callOk_of 22 Tryd.func28 rfl rfl rfl rfl ?_ GG.to
      intro W A hG
      repeat (first
        | (refine go_at rfl ?_; first
            | refine go_do (valid_skip rfl) rfl ?_
            | refine go_do (valid_mv (.inl rfl) rfl) rfl ?_
            | (refine nxt_s 1 rfl ?_; refine go_do (valid_load_p tb rfl rfl rfl rfl rfl (by first | kernel_rfl | rfl)) (by first | kernel_rfl | rfl) ?_)
            | (refine nxt_s 1 rfl ?_; refine go_do (valid_fld_p tb rfl rfl rfl (by kernel_rfl)) rfl ?_)
            | refine go_do (valid_mv (.inr rfl) rfl) rfl ?_
            | refine go_do (valid_pick rfl rfl rfl) rfl ?_
            | refine go_do (valid_extract rfl rfl rfl rfl) rfl ?_
            | refine go_do (valid_field tb rfl rfl rfl rfl rfl rfl) rfl ?_
            | refine go_do (valid_cmp rfl rfl rfl rfl (by first | exact .eql1 (by omega) | exact .eql0 (by omega) | exact .neq1 (by omega) | exact .neq0 (by omega) | exact .lss1 (by omega) | exact .lss0 (by omega) | exact .leq1 (by omega) | exact .leq0 (by omega) | exact .gtr1 (by omega) | exact .gtr0 (by omega) | exact .geq1 (by omega) | exact .geq0 (by omega) | constructor)) rfl ?_
            | refine go_do (valid_ar rfl rfl rfl rfl (by constructor) (by first | exact wr_u64 (by omega) (by omega) | exact wr_i64 (by omega) (by omega) | rfl)) rfl ?_
            | refine go_do (valid_cv rfl rfl rfl rfl rfl (by first | exact wr_u64 (by omega) (by omega) | exact wr_i64 (by omega) (by omega) | rfl)) rfl ?_
            | refine go_do (valid_quo rfl rfl rfl rfl (by omega) (by omega) (by first | exact wr_u64 (by omega) (by omega) | exact wr_i64 (by omega) (by omega))) rfl ?_
            | refine go_do (valid_rem rfl rfl rfl rfl (by omega) (by omega)) rfl ?_
            | refine go_do (valid_box rfl rfl rfl rfl rfl rfl) rfl ?_
            | refine go_do (valid_alloc rfl rfl rfl rfl rfl) rfl ?_
            | (refine nxt_s 1 rfl ?_; refine go_do (valid_store_p rfl rfl rfl rfl rfl rfl (by first | kernel_rfl | rfl) rfl) (by first | kernel_rfl | rfl) ?_)
            | refine go_do (valid_len_s rfl rfl rfl rfl) rfl ?_
            | (refine nxt_s 3 rfl ?_; refine go_do (valid_load_q tb rfl rfl rfl rfl (by first | kernel_rfl | rfl)) rfl ?_)
            | (refine nxt_s 3 rfl ?_; refine go_do (valid_fld_q tb rfl rfl rfl rfl) rfl ?_)
            | refine go_do (valid_not rfl rfl rfl) rfl ?_
            | refine go_do (valid_build rfl rfl rfl rfl) rfl ?_
            | refine go_do (valid_nil rfl rfl rfl rfl) rfl ?_
            | (refine nxt_s 4 rfl ?_; refine go_do (valid_idx_s rfl rfl rfl rfl rfl rfl (by omega) (by omega) _ (by assumption)) rfl ?_)
            | (refine nxt_s 5 rfl ?_; refine go_do (valid_store_rp rfl rfl rfl rfl rfl rfl rfl rfl rfl (by first | omega | (simp; omega)) rfl) rfl ?_)
            | (refine nxt_s 5 rfl ?_; refine go_do (valid_load_rp tb rfl rfl rfl rfl rfl rfl) rfl ?_)
            | (refine nxt_s 2 rfl ?_; refine go_do (valid_idx_o rfl rfl rfl rfl rfl rfl rfl (by omega) (by omega)) rfl ?_)
            | (refine nxt_s 1 rfl ?_; refine go_do (valid_idx_p rfl rfl rfl rfl rfl rfl (by omega) (by omega)) rfl ?_)
            | refine go_do (valid_index tb rfl rfl rfl rfl rfl rfl (by omega) (by omega) rfl) rfl ?_
            | refine go_do (valid_len_o rfl rfl rfl rfl rfl) rfl ?_
            | refine go_do (valid_len_v rfl rfl rfl rfl) rfl ?_
            | (refine nxt_s 5 rfl ?_; refine go_do (valid_fld_rp tb rfl rfl rfl rfl) rfl ?_)
            | refine go_do (valid_bslice rfl rfl rfl rfl rfl rfl rfl rfl rfl rfl rfl) rfl ?_
            | refine go_do (valid_bslice0 rfl rfl rfl rfl rfl rfl rfl) rfl ?_
            | refine go_do (valid_eqb rfl rfl rfl rfl rfl) rfl ?_
            | refine go_do (valid_neb rfl rfl rfl rfl rfl) rfl ?_)
        | (refine hK _ ?_; clear hK K)
        | (rename_i K1 hK1; refine hK1 _ ?_; clear hK hK1; clear K)
        | (rename_i K1 hK1; refine hK1 _ ?_; clear hK1)
        | refine aw_text rfl ?_
        | refine aw_any (by kernel_rfl) (by kernel_rfl) rfl ?_
        | exact aw_ret (show resA _ _ _ = some _ by kernel_rfl)
        | refine aw_cond1 rfl rfl ?_
        | refine aw_cond0 rfl rfl ?_
        | refine aw_block ?_
        | refine aw_exit ?_
        | refine aw_skip ?_
        | refine aw_seq_k (fun K hK => ?_))
    · rw [show livesB k id = false by simp [livesB, List.getElem?_eq_none (show k.ss.length ≤ id.toNat by omega)]]
      refine callOk_of 22 Tryd.func28 rfl rfl rfl rfl ?_ GG.to
      intro W A hG
      repeat (first
        | (refine go_at rfl ?_; first
            | refine go_do (valid_skip rfl) rfl ?_
            | refine go_do (valid_mv (.inl rfl) rfl) rfl ?_
            | (refine nxt_s 1 rfl ?_; refine go_do (valid_load_p tb rfl rfl rfl rfl rfl (by first | kernel_rfl | rfl)) (by first | kernel_rfl | rfl) ?_)
            | (refine nxt_s 1 rfl ?_; refine go_do (valid_fld_p tb rfl rfl rfl (by kernel_rfl)) rfl ?_)
            | refine go_do (valid_mv (.inr rfl) rfl) rfl ?_
            | refine go_do (valid_pick rfl rfl rfl) rfl ?_
            | refine go_do (valid_extract rfl rfl rfl rfl) rfl ?_
            | refine go_do (valid_field tb rfl rfl rfl rfl rfl rfl) rfl ?_
            | refine go_do (valid_cmp rfl rfl rfl rfl (by first | exact .eql1 (by omega) | exact .eql0 (by omega) | exact .neq1 (by omega) | exact .neq0 (by omega) | exact .lss1 (by omega) | exact .lss0 (by omega) | exact .leq1 (by omega) | exact .leq0 (by omega) | exact .gtr1 (by omega) | exact .gtr0 (by omega) | exact .geq1 (by omega) | exact .geq0 (by omega) | constructor)) rfl ?_
            | refine go_do (valid_ar rfl rfl rfl rfl (by constructor) (by first | exact wr_u64 (by omega) (by omega) | exact wr_i64 (by omega) (by omega) | rfl)) rfl ?_
            | refine go_do (valid_cv rfl rfl rfl rfl rfl (by first | exact wr_u64 (by omega) (by omega) | exact wr_i64 (by omega) (by omega) | rfl)) rfl ?_
            | refine go_do (valid_quo rfl rfl rfl rfl (by omega) (by omega) (by first | exact wr_u64 (by omega) (by omega) | exact wr_i64 (by omega) (by omega))) rfl ?_
            | refine go_do (valid_rem rfl rfl rfl rfl (by omega) (by omega)) rfl ?_
            | refine go_do (valid_box rfl rfl rfl rfl rfl rfl) rfl ?_
            | refine go_do (valid_alloc rfl rfl rfl rfl rfl) rfl ?_
            | (refine nxt_s 1 rfl ?_; refine go_do (valid_store_p rfl rfl rfl rfl rfl rfl (by first | kernel_rfl | rfl) rfl) (by first | kernel_rfl | rfl) ?_)
            | refine go_do (valid_len_s rfl rfl rfl rfl) rfl ?_
            | (refine nxt_s 3 rfl ?_; refine go_do (valid_load_q tb rfl rfl rfl rfl (by first | kernel_rfl | rfl)) rfl ?_)
            | (refine nxt_s 3 rfl ?_; refine go_do (valid_fld_q tb rfl rfl rfl rfl) rfl ?_)
            | refine go_do (valid_not rfl rfl rfl) rfl ?_
            | refine go_do (valid_build rfl rfl rfl rfl) rfl ?_
            | refine go_do (valid_nil rfl rfl rfl rfl) rfl ?_
            | (refine nxt_s 4 rfl ?_; refine go_do (valid_idx_s rfl rfl rfl rfl rfl rfl (by omega) (by omega) _ (by assumption)) rfl ?_)
            | (refine nxt_s 5 rfl ?_; refine go_do (valid_store_rp rfl rfl rfl rfl rfl rfl rfl rfl rfl (by first | omega | (simp; omega)) rfl) rfl ?_)
            | (refine nxt_s 5 rfl ?_; refine go_do (valid_load_rp tb rfl rfl rfl rfl rfl rfl) rfl ?_)
            | (refine nxt_s 2 rfl ?_; refine go_do (valid_idx_o rfl rfl rfl rfl rfl rfl rfl (by omega) (by omega)) rfl ?_)
            | (refine nxt_s 1 rfl ?_; refine go_do (valid_idx_p rfl rfl rfl rfl rfl rfl (by omega) (by omega)) rfl ?_)
            | refine go_do (valid_index tb rfl rfl rfl rfl rfl rfl (by omega) (by omega) rfl) rfl ?_
            | refine go_do (valid_len_o rfl rfl rfl rfl rfl) rfl ?_
            | refine go_do (valid_len_v rfl rfl rfl rfl) rfl ?_
            | (refine nxt_s 5 rfl ?_; refine go_do (valid_fld_rp tb rfl rfl rfl rfl) rfl ?_)
            | refine go_do (valid_bslice rfl rfl rfl rfl rfl rfl rfl rfl rfl rfl rfl) rfl ?_
            | refine go_do (valid_bslice0 rfl rfl rfl rfl rfl rfl rfl) rfl ?_
            | refine go_do (valid_eqb rfl rfl rfl rfl rfl) rfl ?_
            | refine go_do (valid_neb rfl rfl rfl rfl rfl) rfl ?_)
        | (refine hK _ ?_; clear hK K)
        | (rename_i K1 hK1; refine hK1 _ ?_; clear hK hK1; clear K)
        | (rename_i K1 hK1; refine hK1 _ ?_; clear hK1)
        | refine aw_text rfl ?_
        | refine aw_any (by kernel_rfl) (by kernel_rfl) rfl ?_
        | exact aw_ret (show resA _ _ _ = some _ by kernel_rfl)
        | refine aw_cond1 rfl rfl ?_
        | refine aw_cond0 rfl rfl ?_
        | refine aw_block ?_
        | refine aw_exit ?_
        | refine aw_skip ?_
        | refine aw_seq_k (fun K hK => ?_))
  · rw [show livesB k id = false by simp [livesB, h0]]
    refine callOk_of 22 Tryd.func28 rfl rfl rfl rfl ?_ GG.to
    intro W A hG
    repeat (first
      | (refine go_at rfl ?_; first
          | refine go_do (valid_skip rfl) rfl ?_
          | refine go_do (valid_mv (.inl rfl) rfl) rfl ?_
          | (refine nxt_s 1 rfl ?_; refine go_do (valid_load_p tb rfl rfl rfl rfl rfl (by first | kernel_rfl | rfl)) (by first | kernel_rfl | rfl) ?_)
          | (refine nxt_s 1 rfl ?_; refine go_do (valid_fld_p tb rfl rfl rfl (by kernel_rfl)) rfl ?_)
          | refine go_do (valid_mv (.inr rfl) rfl) rfl ?_
          | refine go_do (valid_pick rfl rfl rfl) rfl ?_
          | refine go_do (valid_extract rfl rfl rfl rfl) rfl ?_
          | refine go_do (valid_field tb rfl rfl rfl rfl rfl rfl) rfl ?_
          | refine go_do (valid_cmp rfl rfl rfl rfl (by first | exact .eql1 (by omega) | exact .eql0 (by omega) | exact .neq1 (by omega) | exact .neq0 (by omega) | exact .lss1 (by omega) | exact .lss0 (by omega) | exact .leq1 (by omega) | exact .leq0 (by omega) | exact .gtr1 (by omega) | exact .gtr0 (by omega) | exact .geq1 (by omega) | exact .geq0 (by omega) | constructor)) rfl ?_
          | refine go_do (valid_ar rfl rfl rfl rfl (by constructor) (by first | exact wr_u64 (by omega) (by omega) | exact wr_i64 (by omega) (by omega) | rfl)) rfl ?_
          | refine go_do (valid_cv rfl rfl rfl rfl rfl (by first | exact wr_u64 (by omega) (by omega) | exact wr_i64 (by omega) (by omega) | rfl)) rfl ?_
          | refine go_do (valid_quo rfl rfl rfl rfl (by omega) (by omega) (by first | exact wr_u64 (by omega) (by omega) | exact wr_i64 (by omega) (by omega))) rfl ?_
          | refine go_do (valid_rem rfl rfl rfl rfl (by omega) (by omega)) rfl ?_
          | refine go_do (valid_box rfl rfl rfl rfl rfl rfl) rfl ?_
          | refine go_do (valid_alloc rfl rfl rfl rfl rfl) rfl ?_
          | (refine nxt_s 1 rfl ?_; refine go_do (valid_store_p rfl rfl rfl rfl rfl rfl (by first | kernel_rfl | rfl) rfl) (by first | kernel_rfl | rfl) ?_)
          | refine go_do (valid_len_s rfl rfl rfl rfl) rfl ?_
          | (refine nxt_s 3 rfl ?_; refine go_do (valid_load_q tb rfl rfl rfl rfl (by first | kernel_rfl | rfl)) rfl ?_)
          | (refine nxt_s 3 rfl ?_; refine go_do (valid_fld_q tb rfl rfl rfl rfl) rfl ?_)
          | refine go_do (valid_not rfl rfl rfl) rfl ?_
          | refine go_do (valid_build rfl rfl rfl rfl) rfl ?_
          | refine go_do (valid_nil rfl rfl rfl rfl) rfl ?_
          | (refine nxt_s 4 rfl ?_; refine go_do (valid_idx_s rfl rfl rfl rfl rfl rfl (by omega) (by omega) _ (by assumption)) rfl ?_)
          | (refine nxt_s 5 rfl ?_; refine go_do (valid_store_rp rfl rfl rfl rfl rfl rfl rfl rfl rfl (by first | omega | (simp; omega)) rfl) rfl ?_)
          | (refine nxt_s 5 rfl ?_; refine go_do (valid_load_rp tb rfl rfl rfl rfl rfl rfl) rfl ?_)
          | (refine nxt_s 2 rfl ?_; refine go_do (valid_idx_o rfl rfl rfl rfl rfl rfl rfl (by omega) (by omega)) rfl ?_)
          | (refine nxt_s 1 rfl ?_; refine go_do (valid_idx_p rfl rfl rfl rfl rfl rfl (by omega) (by omega)) rfl ?_)
          | refine go_do (valid_index tb rfl rfl rfl rfl rfl rfl (by omega) (by omega) rfl) rfl ?_
          | refine go_do (valid_len_o rfl rfl rfl rfl rfl) rfl ?_
          | refine go_do (valid_len_v rfl rfl rfl rfl) rfl ?_
          | (refine nxt_s 5 rfl ?_; refine go_do (valid_fld_rp tb rfl rfl rfl rfl) rfl ?_)
          | refine go_do (valid_bslice rfl rfl rfl rfl rfl rfl rfl rfl rfl rfl rfl) rfl ?_
          | refine go_do (valid_bslice0 rfl rfl rfl rfl rfl rfl rfl) rfl ?_
          | refine go_do (valid_eqb rfl rfl rfl rfl rfl) rfl ?_
          | refine go_do (valid_neb rfl rfl rfl rfl rfl) rfl ?_)
      | (refine hK _ ?_; clear hK K)
      | (rename_i K1 hK1; refine hK1 _ ?_; clear hK hK1; clear K)
      | (rename_i K1 hK1; refine hK1 _ ?_; clear hK1)
      | refine aw_text rfl ?_
      | refine aw_any (by kernel_rfl) (by kernel_rfl) rfl ?_
      | exact aw_ret (show resA _ _ _ = some _ by kernel_rfl)
      | refine aw_cond1 rfl rfl ?_
      | refine aw_cond0 rfl rfl ?_
      | refine aw_block ?_
      | refine aw_exit ?_
      | refine aw_skip ?_
      | refine aw_seq_k (fun K hK => ?_))
def swK (k : Kr) (id : Int) (s : Sp) : Kr := { k with now := id, sm := 8, sa := s.asid, sp := s.root }
def offK (k : Kr) : Kr := { k with now := -1, sm := 0, sa := 0, sp := 0 }
theorem switch_off (k : Kr) : Ok 13 [.ag k.ce, ii (-1)] (.tu [.ag (offK k).ce, ii 0]) := by
  refine callOk_of 37 Tryd.func13 rfl rfl rfl rfl ?_ GG.to
  intro W A hG
  repeat (first
    | (refine go_at rfl ?_; first
        | refine go_do (valid_skip rfl) rfl ?_
        | refine go_do (valid_mv (.inl rfl) rfl) rfl ?_
        | (refine nxt_s 1 rfl ?_; refine go_do (valid_load_p tb rfl rfl rfl rfl rfl (by first | kernel_rfl | rfl)) (by first | kernel_rfl | rfl) ?_)
        | (refine nxt_s 1 rfl ?_; refine go_do (valid_fld_p tb rfl rfl rfl (by kernel_rfl)) rfl ?_)
        | refine go_do (valid_mv (.inr rfl) rfl) rfl ?_
        | refine go_do (valid_pick rfl rfl rfl) rfl ?_
        | refine go_do (valid_extract rfl rfl rfl rfl) rfl ?_
        | refine go_do (valid_field tb rfl rfl rfl rfl rfl rfl) rfl ?_
        | refine go_do (valid_cmp rfl rfl rfl rfl (by first | exact .eql1 (by omega) | exact .eql0 (by omega) | exact .neq1 (by omega) | exact .neq0 (by omega) | exact .lss1 (by omega) | exact .lss0 (by omega) | exact .leq1 (by omega) | exact .leq0 (by omega) | exact .gtr1 (by omega) | exact .gtr0 (by omega) | exact .geq1 (by omega) | exact .geq0 (by omega) | constructor)) rfl ?_
        | refine go_do (valid_ar rfl rfl rfl rfl (by constructor) (by first | exact wr_u64 (by omega) (by omega) | exact wr_i64 (by omega) (by omega) | rfl)) rfl ?_
        | refine go_do (valid_cv rfl rfl rfl rfl rfl (by first | exact wr_u64 (by omega) (by omega) | exact wr_i64 (by omega) (by omega) | rfl)) rfl ?_
        | refine go_do (valid_quo rfl rfl rfl rfl (by omega) (by omega) (by first | exact wr_u64 (by omega) (by omega) | exact wr_i64 (by omega) (by omega))) rfl ?_
        | refine go_do (valid_rem rfl rfl rfl rfl (by omega) (by omega)) rfl ?_
        | refine go_do (valid_box rfl rfl rfl rfl rfl rfl) rfl ?_
        | refine go_do (valid_alloc rfl rfl rfl rfl rfl) rfl ?_
        | (refine nxt_s 1 rfl ?_; refine go_do (valid_store_p rfl rfl rfl rfl rfl rfl (by first | kernel_rfl | rfl) rfl) (by first | kernel_rfl | rfl) ?_)
        | refine go_do (valid_len_s rfl rfl rfl rfl) rfl ?_
        | (refine nxt_s 3 rfl ?_; refine go_do (valid_load_q tb rfl rfl rfl rfl (by first | kernel_rfl | rfl)) rfl ?_)
        | (refine nxt_s 3 rfl ?_; refine go_do (valid_fld_q tb rfl rfl rfl rfl) rfl ?_)
        | refine go_do (valid_not rfl rfl rfl) rfl ?_
        | refine go_do (valid_build rfl rfl rfl rfl) rfl ?_
        | refine go_do (valid_nil rfl rfl rfl rfl) rfl ?_
        | (refine nxt_s 4 rfl ?_; refine go_do (valid_idx_s rfl rfl rfl rfl rfl rfl (by omega) (by omega) _ (by assumption)) rfl ?_)
        | (refine nxt_s 5 rfl ?_; refine go_do (valid_store_rp rfl rfl rfl rfl rfl rfl rfl rfl rfl (by first | omega | (simp; omega)) rfl) rfl ?_)
        | (refine nxt_s 5 rfl ?_; refine go_do (valid_load_rp tb rfl rfl rfl rfl rfl rfl) rfl ?_)
        | (refine nxt_s 2 rfl ?_; refine go_do (valid_idx_o rfl rfl rfl rfl rfl rfl rfl (by omega) (by omega)) rfl ?_)
        | (refine nxt_s 1 rfl ?_; refine go_do (valid_idx_p rfl rfl rfl rfl rfl rfl (by omega) (by omega)) rfl ?_)
        | refine go_do (valid_index tb rfl rfl rfl rfl rfl rfl (by omega) (by omega) rfl) rfl ?_
        | refine go_do (valid_len_o rfl rfl rfl rfl rfl) rfl ?_
        | refine go_do (valid_len_v rfl rfl rfl rfl) rfl ?_
        | (refine nxt_s 5 rfl ?_; refine go_do (valid_fld_rp tb rfl rfl rfl rfl) rfl ?_)
        | refine go_do (valid_bslice rfl rfl rfl rfl rfl rfl rfl rfl rfl rfl rfl) rfl ?_
        | refine go_do (valid_bslice0 rfl rfl rfl rfl rfl rfl rfl) rfl ?_
        | refine go_do (valid_eqb rfl rfl rfl rfl rfl) rfl ?_
        | refine go_do (valid_neb rfl rfl rfl rfl rfl) rfl ?_
        | refine go_do (valid_call rfl rfl rfl (lives_ok _ _) rfl) rfl ?_)
    | (refine hK _ ?_; clear hK K)
    | (rename_i K1 hK1; refine hK1 _ ?_; clear hK hK1; clear K)
    | (rename_i K1 hK1; refine hK1 _ ?_; clear hK1)
    | refine aw_text rfl ?_
    | refine aw_any (by kernel_rfl) (by kernel_rfl) rfl ?_
    | exact aw_ret (show resA _ _ _ = some _ by kernel_rfl)
    | refine aw_cond1 rfl rfl ?_
    | refine aw_cond0 rfl rfl ?_
    | refine aw_block ?_
    | refine aw_exit ?_
    | refine aw_skip ?_
    | refine aw_seq_k (fun K hK => ?_))
theorem switch_no (k : Kr) (id : Int) (h1 : id ≠ -1) (h : livesB k id = false) : Ok 13 [.ag k.ce, ii id] (.tu [.ag k.ce, ii 4]) := by
  refine callOk_of 37 Tryd.func13 rfl rfl rfl rfl ?_ GG.to
  intro W A hG
  repeat (first
    | (refine go_at rfl ?_; first
        | refine go_do (valid_skip rfl) rfl ?_
        | refine go_do (valid_mv (.inl rfl) rfl) rfl ?_
        | (refine nxt_s 1 rfl ?_; refine go_do (valid_load_p tb rfl rfl rfl rfl rfl (by first | kernel_rfl | rfl)) (by first | kernel_rfl | rfl) ?_)
        | (refine nxt_s 1 rfl ?_; refine go_do (valid_fld_p tb rfl rfl rfl (by kernel_rfl)) rfl ?_)
        | refine go_do (valid_mv (.inr rfl) rfl) rfl ?_
        | refine go_do (valid_pick rfl rfl rfl) rfl ?_
        | refine go_do (valid_extract rfl rfl rfl rfl) rfl ?_
        | refine go_do (valid_field tb rfl rfl rfl rfl rfl rfl) rfl ?_
        | refine go_do (valid_cmp rfl rfl rfl rfl (by first | exact .eql1 (by omega) | exact .eql0 (by omega) | exact .neq1 (by omega) | exact .neq0 (by omega) | exact .lss1 (by omega) | exact .lss0 (by omega) | exact .leq1 (by omega) | exact .leq0 (by omega) | exact .gtr1 (by omega) | exact .gtr0 (by omega) | exact .geq1 (by omega) | exact .geq0 (by omega) | constructor)) rfl ?_
        | refine go_do (valid_ar rfl rfl rfl rfl (by constructor) (by first | exact wr_u64 (by omega) (by omega) | exact wr_i64 (by omega) (by omega) | rfl)) rfl ?_
        | refine go_do (valid_cv rfl rfl rfl rfl rfl (by first | exact wr_u64 (by omega) (by omega) | exact wr_i64 (by omega) (by omega) | rfl)) rfl ?_
        | refine go_do (valid_quo rfl rfl rfl rfl (by omega) (by omega) (by first | exact wr_u64 (by omega) (by omega) | exact wr_i64 (by omega) (by omega))) rfl ?_
        | refine go_do (valid_rem rfl rfl rfl rfl (by omega) (by omega)) rfl ?_
        | refine go_do (valid_box rfl rfl rfl rfl rfl rfl) rfl ?_
        | refine go_do (valid_alloc rfl rfl rfl rfl rfl) rfl ?_
        | (refine nxt_s 1 rfl ?_; refine go_do (valid_store_p rfl rfl rfl rfl rfl rfl (by first | kernel_rfl | rfl) rfl) (by first | kernel_rfl | rfl) ?_)
        | refine go_do (valid_len_s rfl rfl rfl rfl) rfl ?_
        | (refine nxt_s 3 rfl ?_; refine go_do (valid_load_q tb rfl rfl rfl rfl (by first | kernel_rfl | rfl)) rfl ?_)
        | (refine nxt_s 3 rfl ?_; refine go_do (valid_fld_q tb rfl rfl rfl rfl) rfl ?_)
        | refine go_do (valid_not rfl rfl rfl) rfl ?_
        | refine go_do (valid_build rfl rfl rfl rfl) rfl ?_
        | refine go_do (valid_nil rfl rfl rfl rfl) rfl ?_
        | (refine nxt_s 4 rfl ?_; refine go_do (valid_idx_s rfl rfl rfl rfl rfl rfl (by omega) (by omega) _ (by assumption)) rfl ?_)
        | (refine nxt_s 5 rfl ?_; refine go_do (valid_store_rp rfl rfl rfl rfl rfl rfl rfl rfl rfl (by first | omega | (simp; omega)) rfl) rfl ?_)
        | (refine nxt_s 5 rfl ?_; refine go_do (valid_load_rp tb rfl rfl rfl rfl rfl rfl) rfl ?_)
        | (refine nxt_s 2 rfl ?_; refine go_do (valid_idx_o rfl rfl rfl rfl rfl rfl rfl (by omega) (by omega)) rfl ?_)
        | (refine nxt_s 1 rfl ?_; refine go_do (valid_idx_p rfl rfl rfl rfl rfl rfl (by omega) (by omega)) rfl ?_)
        | refine go_do (valid_index tb rfl rfl rfl rfl rfl rfl (by omega) (by omega) rfl) rfl ?_
        | refine go_do (valid_len_o rfl rfl rfl rfl rfl) rfl ?_
        | refine go_do (valid_len_v rfl rfl rfl rfl) rfl ?_
        | (refine nxt_s 5 rfl ?_; refine go_do (valid_fld_rp tb rfl rfl rfl rfl) rfl ?_)
        | refine go_do (valid_bslice rfl rfl rfl rfl rfl rfl rfl rfl rfl rfl rfl) rfl ?_
        | refine go_do (valid_bslice0 rfl rfl rfl rfl rfl rfl rfl) rfl ?_
        | refine go_do (valid_eqb rfl rfl rfl rfl rfl) rfl ?_
        | refine go_do (valid_neb rfl rfl rfl rfl rfl) rfl ?_
        | refine go_do (valid_call rfl rfl rfl (h ▸ lives_ok _ _) rfl) rfl ?_)
    | (refine hK _ ?_; clear hK K)
    | (rename_i K1 hK1; refine hK1 _ ?_; clear hK hK1; clear K)
    | (rename_i K1 hK1; refine hK1 _ ?_; clear hK1)
    | refine aw_text rfl ?_
    | refine aw_any (by kernel_rfl) (by kernel_rfl) rfl ?_
    | exact aw_ret (show resA _ _ _ = some _ by kernel_rfl)
    | refine aw_cond1 rfl rfl ?_
    | refine aw_cond0 rfl rfl ?_
    | refine aw_block ?_
    | refine aw_exit ?_
    | refine aw_skip ?_
    | refine aw_seq_k (fun K hK => ?_))
theorem switch_yes (k : Kr) (id : Int) (s : Sp) (h1 : id ≠ -1) (h0 : 0 ≤ id) (hs : k.ss[id.toNat]? = some s) (hlt : id < k.ss.length) (h : livesB k id = true) : Ok 13 [.ag k.ce, ii id] (.tu [.ag (swK k id s).ce, ii 0]) := by
  have hx := flS_at hs
  refine callOk_of 37 Tryd.func13 rfl rfl rfl rfl ?_ GG.to
  intro W A hG
  repeat (first
    | (refine go_at rfl ?_; first
        | refine go_do (valid_skip rfl) rfl ?_
        | refine go_do (valid_mv (.inl rfl) rfl) rfl ?_
        | (refine nxt_s 1 rfl ?_; refine go_do (valid_load_p tb rfl rfl rfl rfl rfl (by first | kernel_rfl | rfl)) (by first | kernel_rfl | rfl) ?_)
        | (refine nxt_s 1 rfl ?_; refine go_do (valid_fld_p tb rfl rfl rfl (by kernel_rfl)) rfl ?_)
        | refine go_do (valid_mv (.inr rfl) rfl) rfl ?_
        | refine go_do (valid_pick rfl rfl rfl) rfl ?_
        | refine go_do (valid_extract rfl rfl rfl rfl) rfl ?_
        | refine go_do (valid_field tb rfl rfl rfl rfl rfl rfl) rfl ?_
        | refine go_do (valid_cmp rfl rfl rfl rfl (by first | exact .eql1 (by omega) | exact .eql0 (by omega) | exact .neq1 (by omega) | exact .neq0 (by omega) | exact .lss1 (by omega) | exact .lss0 (by omega) | exact .leq1 (by omega) | exact .leq0 (by omega) | exact .gtr1 (by omega) | exact .gtr0 (by omega) | exact .geq1 (by omega) | exact .geq0 (by omega) | constructor)) rfl ?_
        | refine go_do (valid_ar rfl rfl rfl rfl (by constructor) (by first | exact wr_u64 (by omega) (by omega) | exact wr_i64 (by omega) (by omega) | rfl)) rfl ?_
        | refine go_do (valid_cv rfl rfl rfl rfl rfl (by first | exact wr_u64 (by omega) (by omega) | exact wr_i64 (by omega) (by omega) | rfl)) rfl ?_
        | refine go_do (valid_quo rfl rfl rfl rfl (by omega) (by omega) (by first | exact wr_u64 (by omega) (by omega) | exact wr_i64 (by omega) (by omega))) rfl ?_
        | refine go_do (valid_rem rfl rfl rfl rfl (by omega) (by omega)) rfl ?_
        | refine go_do (valid_box rfl rfl rfl rfl rfl rfl) rfl ?_
        | refine go_do (valid_alloc rfl rfl rfl rfl rfl) rfl ?_
        | (refine nxt_s 1 rfl ?_; refine go_do (valid_store_p rfl rfl rfl rfl rfl rfl (by first | kernel_rfl | rfl) rfl) (by first | kernel_rfl | rfl) ?_)
        | refine go_do (valid_len_s rfl rfl rfl rfl) rfl ?_
        | (refine nxt_s 3 rfl ?_; refine go_do (valid_load_q tb rfl rfl rfl rfl (by first | kernel_rfl | rfl)) rfl ?_)
        | (refine nxt_s 3 rfl ?_; refine go_do (valid_fld_q tb rfl rfl rfl rfl) rfl ?_)
        | refine go_do (valid_not rfl rfl rfl) rfl ?_
        | refine go_do (valid_build rfl rfl rfl rfl) rfl ?_
        | refine go_do (valid_nil rfl rfl rfl rfl) rfl ?_
        | (refine nxt_s 4 rfl ?_; refine go_do (valid_idx_s rfl rfl rfl rfl rfl rfl (by omega) (by omega) _ (by assumption)) rfl ?_)
        | (refine nxt_s 5 rfl ?_; refine go_do (valid_store_rp rfl rfl rfl rfl rfl rfl rfl rfl rfl (by first | omega | (simp; omega)) rfl) rfl ?_)
        | (refine nxt_s 5 rfl ?_; refine go_do (valid_load_rp tb rfl rfl rfl rfl rfl rfl) rfl ?_)
        | (refine nxt_s 2 rfl ?_; refine go_do (valid_idx_o rfl rfl rfl rfl rfl rfl rfl (by omega) (by omega)) rfl ?_)
        | (refine nxt_s 1 rfl ?_; refine go_do (valid_idx_p rfl rfl rfl rfl rfl rfl (by omega) (by omega)) rfl ?_)
        | refine go_do (valid_index tb rfl rfl rfl rfl rfl rfl (by omega) (by omega) rfl) rfl ?_
        | refine go_do (valid_len_o rfl rfl rfl rfl rfl) rfl ?_
        | refine go_do (valid_len_v rfl rfl rfl rfl) rfl ?_
        | (refine nxt_s 5 rfl ?_; refine go_do (valid_fld_rp tb rfl rfl rfl rfl) rfl ?_)
        | refine go_do (valid_bslice rfl rfl rfl rfl rfl rfl rfl rfl rfl rfl rfl) rfl ?_
        | refine go_do (valid_bslice0 rfl rfl rfl rfl rfl rfl rfl) rfl ?_
        | refine go_do (valid_eqb rfl rfl rfl rfl rfl) rfl ?_
        | refine go_do (valid_neb rfl rfl rfl rfl rfl) rfl ?_
        | refine go_do (valid_call rfl rfl rfl (h ▸ lives_ok _ _) rfl) rfl ?_)
    | (refine hK _ ?_; clear hK K)
    | (rename_i K1 hK1; refine hK1 _ ?_; clear hK hK1; clear K)
    | (rename_i K1 hK1; refine hK1 _ ?_; clear hK1)
    | refine aw_text rfl ?_
    | refine aw_any (by kernel_rfl) (by kernel_rfl) rfl ?_
    | exact aw_ret (show resA _ _ _ = some _ by kernel_rfl)
    | refine aw_cond1 rfl rfl ?_
    | refine aw_cond0 rfl rfl ?_
    | refine aw_block ?_
    | refine aw_exit ?_
    | refine aw_skip ?_
    | refine aw_seq_k (fun K hK => ?_))
def withM (sz : Int) (xs : List (Int × Int)) (t i : Int) (p : Pte) : List (Int × Int) := if wrongI sz (t * 4096 + i * 8) 8 = 0 then storeM sz xs (t * 4096 + i * 8) 8 (PteC.putE p) else xs
end Go.Proofs.YtkffmaeiplgjeaaDoor.SpB
/- The abstract walk: table.With, asid.Take, configurations, Where, fences' names. -/
namespace Go.Proofs.YtkffmaeiplgjeaaDoor.SpC
open Go.RowKit Go.Proofs.YtkffmaeiplgjeaaDoor.Bv Go.Proofs.YtkffmaeiplgjeaaDoor.VaSpec Go.Proofs.YtkffmaeiplgjeaaDoor.Base Go.Proofs.YtkffmaeiplgjeaaDoor.MemL Go.Proofs.YtkffmaeiplgjeaaDoor.RegR Go.Proofs.YtkffmaeiplgjeaaDoor.Ax Go.Proofs.YtkffmaeiplgjeaaDoor.MemC Go.Proofs.YtkffmaeiplgjeaaDoor.PutC Go.Proofs.YtkffmaeiplgjeaaDoor.MemC3 Go.Proofs.YtkffmaeiplgjeaaDoor.TzC Go.Proofs.YtkffmaeiplgjeaaDoor.OkS Go.Proofs.YtkffmaeiplgjeaaDoor.SpA Go.Proofs.YtkffmaeiplgjeaaDoor.SpB
open Go.Proofs.YtkffmaeiplgjeaaDoor.BitsC Go.Proofs.YtkffmaeiplgjeaaDoor.PteSpec
set_option linter.unusedVariables false
set_option linter.unusedSimpArgs false
set_option maxRecDepth 10000
set_option maxHeartbeats 1000000
theorem idx_bd (a l : Int) : 0 ≤ idx a l ∧ idx a l < 512 := by unfold idx; omega
theorem putE_U (p : Pte) (h : p.U) : U (PteC.putE p) := by
  unfold PteC.putE
  by_cases hm : mayP p = true
  · rw [if_pos hm]; exact word_bd p h hm
  · rw [if_neg hm]; exact ⟨by omega, by omega⟩
def spotC (t l : Int) (q : Pte) : List Ce := [cu t, ci l, cb q.v, cb q.r, cb q.w, cb q.x, cb q.u, cb q.g, cb q.a, cb q.d, cu q.rsw, cu q.ppn, cu q.high]
theorem with_ok (sz : Int) (xs : List (Int × Int)) (t l : Int) (q : Pte) (addr : Int) (p : Pte) (ha : U addr) (hp : p.U) (l0 : 0 ≤ l) (l2 : l ≤ 2) (ht : 0 ≤ t ∧ t < 1099511627776) (hs : Srt xs) (hu : Uw xs) (hbig : (xs.length + 1) * 16 ≤ 140737488355328) :
    Ok 29 [memA sz xs, .ag (spotC t l q), iu addr, .ag p.ce] (.m (memA sz (withM sz xs t (idx addr l) p))) := by
  have hi := idx_bd addr l
  have hU : U (t * 4096 + idx addr l * 8) := ⟨by omega, by omega⟩
  by_cases hw : wrongI sz (t * 4096 + idx addr l * 8) 8 = 0
  · rw [show withM sz xs t (idx addr l) p = storeM sz xs (t * 4096 + idx addr l * 8) 8 (PteC.putE p) by unfold withM; rw [if_pos hw]]
    refine callOk_of 32 Tryd.func29 rfl rfl rfl rfl ?_ GG.to
    intro W A hG
    repeat (first
      | (refine go_at rfl ?_; first
          | refine go_do (valid_skip rfl) rfl ?_
          | refine go_do (valid_mv (.inl rfl) rfl) rfl ?_
          | (refine nxt_s 1 rfl ?_; refine go_do (valid_load_p tb rfl rfl rfl rfl rfl (by first | kernel_rfl | rfl)) (by first | kernel_rfl | rfl) ?_)
          | (refine nxt_s 1 rfl ?_; refine go_do (valid_fld_p tb rfl rfl rfl (by kernel_rfl)) rfl ?_)
          | refine go_do (valid_mv (.inr rfl) rfl) rfl ?_
          | refine go_do (valid_pick rfl rfl rfl) rfl ?_
          | refine go_do (valid_extract rfl rfl rfl rfl) rfl ?_
          | refine go_do (valid_field tb rfl rfl rfl rfl rfl rfl) rfl ?_
          | refine go_do (valid_cmp rfl rfl rfl rfl (by first | exact .eql1 (by omega) | exact .eql0 (by omega) | exact .neq1 (by omega) | exact .neq0 (by omega) | exact .lss1 (by omega) | exact .lss0 (by omega) | exact .leq1 (by omega) | exact .leq0 (by omega) | exact .gtr1 (by omega) | exact .gtr0 (by omega) | exact .geq1 (by omega) | exact .geq0 (by omega) | constructor)) rfl ?_
          | refine go_do (valid_ar rfl rfl rfl rfl (by constructor) (by first | exact wr_u64 (by omega) (by omega) | exact wr_i64 (by omega) (by omega) | rfl)) rfl ?_
          | refine go_do (valid_cv rfl rfl rfl rfl rfl (by first | exact wr_u64 (by omega) (by omega) | exact wr_i64 (by omega) (by omega) | rfl)) rfl ?_
          | refine go_do (valid_quo rfl rfl rfl rfl (by omega) (by omega) (by first | exact wr_u64 (by omega) (by omega) | exact wr_i64 (by omega) (by omega))) rfl ?_
          | refine go_do (valid_rem rfl rfl rfl rfl (by omega) (by omega)) rfl ?_
          | refine go_do (valid_box rfl rfl rfl rfl rfl rfl) rfl ?_
          | refine go_do (valid_alloc rfl rfl rfl rfl rfl) rfl ?_
          | (refine nxt_s 1 rfl ?_; refine go_do (valid_store_p rfl rfl rfl rfl rfl rfl (by first | kernel_rfl | rfl) rfl) (by first | kernel_rfl | rfl) ?_)
          | refine go_do (valid_len_s rfl rfl rfl rfl) rfl ?_
          | (refine nxt_s 3 rfl ?_; refine go_do (valid_load_q tb rfl rfl rfl rfl (by first | kernel_rfl | rfl)) rfl ?_)
          | (refine nxt_s 3 rfl ?_; refine go_do (valid_fld_q tb rfl rfl rfl rfl) rfl ?_)
          | refine go_do (valid_not rfl rfl rfl) rfl ?_
          | refine go_do (valid_build rfl rfl rfl rfl) rfl ?_
          | refine go_do (valid_nil rfl rfl rfl rfl) rfl ?_
          | (refine nxt_s 4 rfl ?_; refine go_do (valid_idx_s rfl rfl rfl rfl rfl rfl (by omega) (by omega) _ (by assumption)) rfl ?_)
          | (refine nxt_s 5 rfl ?_; refine go_do (valid_store_rp rfl rfl rfl rfl rfl rfl rfl rfl rfl (by first | omega | (simp; omega)) rfl) rfl ?_)
          | (refine nxt_s 5 rfl ?_; refine go_do (valid_load_rp tb rfl rfl rfl rfl rfl rfl) rfl ?_)
          | (refine nxt_s 2 rfl ?_; refine go_do (valid_idx_o rfl rfl rfl rfl rfl rfl rfl (by omega) (by omega)) rfl ?_)
          | (refine nxt_s 1 rfl ?_; refine go_do (valid_idx_p rfl rfl rfl rfl rfl rfl (by omega) (by omega)) rfl ?_)
          | refine go_do (valid_index tb rfl rfl rfl rfl rfl rfl (by omega) (by omega) rfl) rfl ?_
          | refine go_do (valid_len_o rfl rfl rfl rfl rfl) rfl ?_
          | refine go_do (valid_len_v rfl rfl rfl rfl) rfl ?_
          | (refine nxt_s 5 rfl ?_; refine go_do (valid_fld_rp tb rfl rfl rfl rfl) rfl ?_)
          | refine go_do (valid_bslice rfl rfl rfl rfl rfl rfl rfl rfl rfl rfl rfl) rfl ?_
          | refine go_do (valid_bslice0 rfl rfl rfl rfl rfl rfl rfl) rfl ?_
          | refine go_do (valid_eqb rfl rfl rfl rfl rfl) rfl ?_
          | refine go_do (valid_neb rfl rfl rfl rfl rfl) rfl ?_
          | refine go_do (valid_call rfl rfl rfl (pput_ok p hp) rfl) rfl ?_
          | refine go_do (valid_call rfl rfl rfl (idx_ok addr l ha l0 l2) rfl) rfl ?_
          | refine go_do (valid_call rfl rfl rfl (place_ok t _ ht hi) rfl) rfl ?_
          | refine go_do (valid_call rfl rfl rfl (store_ok sz xs _ 8 _ hU (putE_U p hp) hs hu hbig hw) rfl) rfl ?_)
      | (refine hK _ ?_; clear hK K)
      | (rename_i K1 hK1; refine hK1 _ ?_; clear hK hK1; clear K)
      | (rename_i K1 hK1; refine hK1 _ ?_; clear hK1)
      | refine aw_text rfl ?_
      | refine aw_any (by kernel_rfl) (by kernel_rfl) rfl ?_
      | exact aw_ret (show resA _ _ _ = some _ by kernel_rfl)
      | refine aw_cond1 rfl rfl ?_
      | refine aw_cond0 rfl rfl ?_
      | refine aw_block ?_
      | refine aw_exit ?_
      | refine aw_skip ?_
      | refine aw_seq_k (fun K hK => ?_))
  · rw [show withM sz xs t (idx addr l) p = xs by unfold withM; rw [if_neg hw]]
    refine callOk_of 32 Tryd.func29 rfl rfl rfl rfl ?_ GG.to
    intro W A hG
    repeat (first
      | (refine go_at rfl ?_; first
          | refine go_do (valid_skip rfl) rfl ?_
          | refine go_do (valid_mv (.inl rfl) rfl) rfl ?_
          | (refine nxt_s 1 rfl ?_; refine go_do (valid_load_p tb rfl rfl rfl rfl rfl (by first | kernel_rfl | rfl)) (by first | kernel_rfl | rfl) ?_)
          | (refine nxt_s 1 rfl ?_; refine go_do (valid_fld_p tb rfl rfl rfl (by kernel_rfl)) rfl ?_)
          | refine go_do (valid_mv (.inr rfl) rfl) rfl ?_
          | refine go_do (valid_pick rfl rfl rfl) rfl ?_
          | refine go_do (valid_extract rfl rfl rfl rfl) rfl ?_
          | refine go_do (valid_field tb rfl rfl rfl rfl rfl rfl) rfl ?_
          | refine go_do (valid_cmp rfl rfl rfl rfl (by first | exact .eql1 (by omega) | exact .eql0 (by omega) | exact .neq1 (by omega) | exact .neq0 (by omega) | exact .lss1 (by omega) | exact .lss0 (by omega) | exact .leq1 (by omega) | exact .leq0 (by omega) | exact .gtr1 (by omega) | exact .gtr0 (by omega) | exact .geq1 (by omega) | exact .geq0 (by omega) | constructor)) rfl ?_
          | refine go_do (valid_ar rfl rfl rfl rfl (by constructor) (by first | exact wr_u64 (by omega) (by omega) | exact wr_i64 (by omega) (by omega) | rfl)) rfl ?_
          | refine go_do (valid_cv rfl rfl rfl rfl rfl (by first | exact wr_u64 (by omega) (by omega) | exact wr_i64 (by omega) (by omega) | rfl)) rfl ?_
          | refine go_do (valid_quo rfl rfl rfl rfl (by omega) (by omega) (by first | exact wr_u64 (by omega) (by omega) | exact wr_i64 (by omega) (by omega))) rfl ?_
          | refine go_do (valid_rem rfl rfl rfl rfl (by omega) (by omega)) rfl ?_
          | refine go_do (valid_box rfl rfl rfl rfl rfl rfl) rfl ?_
          | refine go_do (valid_alloc rfl rfl rfl rfl rfl) rfl ?_
          | (refine nxt_s 1 rfl ?_; refine go_do (valid_store_p rfl rfl rfl rfl rfl rfl (by first | kernel_rfl | rfl) rfl) (by first | kernel_rfl | rfl) ?_)
          | refine go_do (valid_len_s rfl rfl rfl rfl) rfl ?_
          | (refine nxt_s 3 rfl ?_; refine go_do (valid_load_q tb rfl rfl rfl rfl (by first | kernel_rfl | rfl)) rfl ?_)
          | (refine nxt_s 3 rfl ?_; refine go_do (valid_fld_q tb rfl rfl rfl rfl) rfl ?_)
          | refine go_do (valid_not rfl rfl rfl) rfl ?_
          | refine go_do (valid_build rfl rfl rfl rfl) rfl ?_
          | refine go_do (valid_nil rfl rfl rfl rfl) rfl ?_
          | (refine nxt_s 4 rfl ?_; refine go_do (valid_idx_s rfl rfl rfl rfl rfl rfl (by omega) (by omega) _ (by assumption)) rfl ?_)
          | (refine nxt_s 5 rfl ?_; refine go_do (valid_store_rp rfl rfl rfl rfl rfl rfl rfl rfl rfl (by first | omega | (simp; omega)) rfl) rfl ?_)
          | (refine nxt_s 5 rfl ?_; refine go_do (valid_load_rp tb rfl rfl rfl rfl rfl rfl) rfl ?_)
          | (refine nxt_s 2 rfl ?_; refine go_do (valid_idx_o rfl rfl rfl rfl rfl rfl rfl (by omega) (by omega)) rfl ?_)
          | (refine nxt_s 1 rfl ?_; refine go_do (valid_idx_p rfl rfl rfl rfl rfl rfl (by omega) (by omega)) rfl ?_)
          | refine go_do (valid_index tb rfl rfl rfl rfl rfl rfl (by omega) (by omega) rfl) rfl ?_
          | refine go_do (valid_len_o rfl rfl rfl rfl rfl) rfl ?_
          | refine go_do (valid_len_v rfl rfl rfl rfl) rfl ?_
          | (refine nxt_s 5 rfl ?_; refine go_do (valid_fld_rp tb rfl rfl rfl rfl) rfl ?_)
          | refine go_do (valid_bslice rfl rfl rfl rfl rfl rfl rfl rfl rfl rfl rfl) rfl ?_
          | refine go_do (valid_bslice0 rfl rfl rfl rfl rfl rfl rfl) rfl ?_
          | refine go_do (valid_eqb rfl rfl rfl rfl rfl) rfl ?_
          | refine go_do (valid_neb rfl rfl rfl rfl rfl) rfl ?_
          | refine go_do (valid_call rfl rfl rfl (pput_ok p hp) rfl) rfl ?_
          | refine go_do (valid_call rfl rfl rfl (idx_ok addr l ha l0 l2) rfl) rfl ?_
          | refine go_do (valid_call rfl rfl rfl (place_ok t _ ht hi) rfl) rfl ?_
          | refine go_do (valid_call rfl rfl rfl (store_no sz xs _ 8 _ hU (putE_U p hp) hs hu hbig hw) rfl) rfl ?_)
      | (refine hK _ ?_; clear hK K)
      | (rename_i K1 hK1; refine hK1 _ ?_; clear hK hK1; clear K)
      | (rename_i K1 hK1; refine hK1 _ ?_; clear hK1)
      | refine aw_text rfl ?_
      | refine aw_any (by kernel_rfl) (by kernel_rfl) rfl ?_
      | exact aw_ret (show resA _ _ _ = some _ by kernel_rfl)
      | refine aw_cond1 rfl rfl ?_
      | refine aw_cond0 rfl rfl ?_
      | refine aw_block ?_
      | refine aw_exit ?_
      | refine aw_skip ?_
      | refine aw_seq_k (fun K hK => ?_))
theorem eq_asids (w : World) (x0 y0 x1 y1 x2 y2 : Int) :
    (Op.equalIn 10000 41 (.agg #[.int .i64 x0, .int .u64 x1, .int .u64 x2]) (.agg #[.int .i64 y0, .int .u64 y1, .int .u64 y2])).run Tryd.prog w = .ok (x0 == y0 && (x1 == y1 && (x2 == y2 && true))) w := by
  refine PoolC4.struct_of Tryd.underlying41 (by kernel_rfl) ?_
  refine PoolC4.fields_cons (by rfl) (by go_simp; rfl) (by go_simp; rfl) (by go_simp) ?_
  refine PoolC4.fields_cons (by rfl) (by go_simp; rfl) (by go_simp; rfl) (by go_simp) ?_
  exact PoolC4.fields_cons (by rfl) (by go_simp; rfl) (by go_simp; rfl) (by go_simp) PoolC4.fields_nil
theorem atake_no (m o : Int) : Ok 35 [.ag [ci m, cu 0, cu o]] (.tu [.ag [ci m, cu 0, cu o], iu 0, ib false, ii 9]) := by
  refine callOk_of 39 Tryd.func35 rfl rfl rfl rfl ?_ GG.to
  intro W A hG
  have he : ∀ w, (Op.equalIn 10000 41 (.agg #[.int .i64 m, .int .u64 0, .int .u64 o]) (.agg #[.int .i64 m, .int .u64 0, .int .u64 o])).run Tryd.prog w = .ok true w := fun w => by rw [eq_asids]; simp
  repeat (first
    | (refine go_at rfl ?_; first
        | refine go_do (valid_skip rfl) rfl ?_
        | refine go_do (valid_mv (.inl rfl) rfl) rfl ?_
        | (refine nxt_s 1 rfl ?_; refine go_do (valid_load_p tb rfl rfl rfl rfl rfl (by first | kernel_rfl | rfl)) (by first | kernel_rfl | rfl) ?_)
        | (refine nxt_s 1 rfl ?_; refine go_do (valid_fld_p tb rfl rfl rfl (by kernel_rfl)) rfl ?_)
        | refine go_do (valid_mv (.inr rfl) rfl) rfl ?_
        | refine go_do (valid_pick rfl rfl rfl) rfl ?_
        | refine go_do (valid_extract rfl rfl rfl rfl) rfl ?_
        | refine go_do (valid_field tb rfl rfl rfl rfl rfl rfl) rfl ?_
        | refine go_do (valid_cmp rfl rfl rfl rfl (by first | exact .eql1 (by omega) | exact .eql0 (by omega) | exact .neq1 (by omega) | exact .neq0 (by omega) | exact .lss1 (by omega) | exact .lss0 (by omega) | exact .leq1 (by omega) | exact .leq0 (by omega) | exact .gtr1 (by omega) | exact .gtr0 (by omega) | exact .geq1 (by omega) | exact .geq0 (by omega) | constructor)) rfl ?_
        | refine go_do (valid_ar rfl rfl rfl rfl (by constructor) (by first | exact wr_u64 (by omega) (by omega) | exact wr_i64 (by omega) (by omega) | rfl)) rfl ?_
        | refine go_do (valid_cv rfl rfl rfl rfl rfl (by first | exact wr_u64 (by omega) (by omega) | exact wr_i64 (by omega) (by omega) | rfl)) rfl ?_
        | refine go_do (valid_quo rfl rfl rfl rfl (by omega) (by omega) (by first | exact wr_u64 (by omega) (by omega) | exact wr_i64 (by omega) (by omega))) rfl ?_
        | refine go_do (valid_rem rfl rfl rfl rfl (by omega) (by omega)) rfl ?_
        | refine go_do (valid_box rfl rfl rfl rfl rfl rfl) rfl ?_
        | refine go_do (valid_alloc rfl rfl rfl rfl rfl) rfl ?_
        | (refine nxt_s 1 rfl ?_; refine go_do (valid_store_p rfl rfl rfl rfl rfl rfl (by first | kernel_rfl | rfl) rfl) (by first | kernel_rfl | rfl) ?_)
        | refine go_do (valid_len_s rfl rfl rfl rfl) rfl ?_
        | (refine nxt_s 3 rfl ?_; refine go_do (valid_load_q tb rfl rfl rfl rfl (by first | kernel_rfl | rfl)) rfl ?_)
        | (refine nxt_s 3 rfl ?_; refine go_do (valid_fld_q tb rfl rfl rfl rfl) rfl ?_)
        | refine go_do (valid_not rfl rfl rfl) rfl ?_
        | refine go_do (valid_build rfl rfl rfl rfl) rfl ?_
        | refine go_do (valid_nil rfl rfl rfl rfl) rfl ?_
        | (refine nxt_s 4 rfl ?_; refine go_do (valid_idx_s rfl rfl rfl rfl rfl rfl (by omega) (by omega) _ (by assumption)) rfl ?_)
        | (refine nxt_s 5 rfl ?_; refine go_do (valid_store_rp rfl rfl rfl rfl rfl rfl rfl rfl rfl (by first | omega | (simp; omega)) rfl) rfl ?_)
        | (refine nxt_s 5 rfl ?_; refine go_do (valid_load_rp tb rfl rfl rfl rfl rfl rfl) rfl ?_)
        | (refine nxt_s 2 rfl ?_; refine go_do (valid_idx_o rfl rfl rfl rfl rfl rfl rfl (by omega) (by omega)) rfl ?_)
        | (refine nxt_s 1 rfl ?_; refine go_do (valid_idx_p rfl rfl rfl rfl rfl rfl (by omega) (by omega)) rfl ?_)
        | refine go_do (valid_index tb rfl rfl rfl rfl rfl rfl (by omega) (by omega) rfl) rfl ?_
        | refine go_do (valid_len_o rfl rfl rfl rfl rfl) rfl ?_
        | refine go_do (valid_len_v rfl rfl rfl rfl) rfl ?_
        | (refine nxt_s 5 rfl ?_; refine go_do (valid_fld_rp tb rfl rfl rfl rfl) rfl ?_)
        | refine go_do (valid_bslice rfl rfl rfl rfl rfl rfl rfl rfl rfl rfl rfl) rfl ?_
        | refine go_do (valid_bslice0 rfl rfl rfl rfl rfl rfl rfl) rfl ?_
        | refine go_do (valid_eqb rfl rfl rfl rfl rfl) rfl ?_
        | refine go_do (valid_neb rfl rfl rfl rfl rfl) rfl ?_
        | refine go_do (valid_eql (us := [.int .i64 m, .int .u64 0, .int .u64 o]) (vs := [.int .i64 m, .int .u64 0, .int .u64 o]) he (by kernel_rfl) rfl rfl rfl rfl) rfl ?_)
    | (refine hK _ ?_; clear hK K)
    | (rename_i K1 hK1; refine hK1 _ ?_; clear hK hK1; clear K)
    | (rename_i K1 hK1; refine hK1 _ ?_; clear hK1)
    | refine aw_text rfl ?_
    | refine aw_any (by kernel_rfl) (by kernel_rfl) rfl ?_
    | exact aw_ret (show resA _ _ _ = some _ by kernel_rfl)
    | refine aw_cond1 rfl rfl ?_
    | refine aw_cond0 rfl rfl ?_
    | refine aw_block ?_
    | refine aw_exit ?_
    | refine aw_skip ?_
    | refine aw_seq_k (fun K hK => ?_))
def takeA1 (f : Int) : Int := setI f (tzI f) 1 0
def takeA2 (f o : Int) : Int := setI o (tzI f) 1 1
theorem tz_bd {f : Int} (hf : U f) (h0 : f ≠ 0) : 0 ≤ tzI f ∧ tzI f < 64 := by
  have := PoolC4.tz_lt hf h0; omega
theorem atake_ok (m f o : Int) (hf : U f) (ho : U o) (h0 : f ≠ 0) : Ok 35 [.ag [ci m, cu f, cu o]] (.tu [.ag [ci m, cu (takeA1 f), cu (takeA2 f o)], iu (tzI f + 1), ib (getI o (tzI f) 1 == 1), ii 0]) := by
  have t1 := tz_bd hf h0
  refine callOk_of 39 Tryd.func35 rfl rfl rfl rfl ?_ GG.to
  intro W A hG
  have he : ∀ w, (Op.equalIn 10000 41 (.agg #[.int .i64 m, .int .u64 f, .int .u64 o]) (.agg #[.int .i64 m, .int .u64 0, .int .u64 o])).run Tryd.prog w = .ok false w := fun w => by rw [eq_asids]; simp [h0]
  repeat (first
    | (refine go_at rfl ?_; first
        | refine go_do (valid_skip rfl) rfl ?_
        | refine go_do (valid_mv (.inl rfl) rfl) rfl ?_
        | (refine nxt_s 1 rfl ?_; refine go_do (valid_load_p tb rfl rfl rfl rfl rfl (by first | kernel_rfl | rfl)) (by first | kernel_rfl | rfl) ?_)
        | (refine nxt_s 1 rfl ?_; refine go_do (valid_fld_p tb rfl rfl rfl (by kernel_rfl)) rfl ?_)
        | refine go_do (valid_mv (.inr rfl) rfl) rfl ?_
        | refine go_do (valid_pick rfl rfl rfl) rfl ?_
        | refine go_do (valid_extract rfl rfl rfl rfl) rfl ?_
        | refine go_do (valid_field tb rfl rfl rfl rfl rfl rfl) rfl ?_
        | refine go_do (valid_cmp rfl rfl rfl rfl (by first | exact .eql1 (by omega) | exact .eql0 (by omega) | exact .neq1 (by omega) | exact .neq0 (by omega) | exact .lss1 (by omega) | exact .lss0 (by omega) | exact .leq1 (by omega) | exact .leq0 (by omega) | exact .gtr1 (by omega) | exact .gtr0 (by omega) | exact .geq1 (by omega) | exact .geq0 (by omega) | constructor)) rfl ?_
        | refine go_do (valid_ar rfl rfl rfl rfl (by constructor) (by first | exact wr_u64 (by omega) (by omega) | exact wr_i64 (by omega) (by omega) | rfl)) rfl ?_
        | refine go_do (valid_cv rfl rfl rfl rfl rfl (by first | exact wr_u64 (by omega) (by omega) | exact wr_i64 (by omega) (by omega) | rfl)) rfl ?_
        | refine go_do (valid_quo rfl rfl rfl rfl (by omega) (by omega) (by first | exact wr_u64 (by omega) (by omega) | exact wr_i64 (by omega) (by omega))) rfl ?_
        | refine go_do (valid_rem rfl rfl rfl rfl (by omega) (by omega)) rfl ?_
        | refine go_do (valid_box rfl rfl rfl rfl rfl rfl) rfl ?_
        | refine go_do (valid_alloc rfl rfl rfl rfl rfl) rfl ?_
        | (refine nxt_s 1 rfl ?_; refine go_do (valid_store_p rfl rfl rfl rfl rfl rfl (by first | kernel_rfl | rfl) rfl) (by first | kernel_rfl | rfl) ?_)
        | refine go_do (valid_len_s rfl rfl rfl rfl) rfl ?_
        | (refine nxt_s 3 rfl ?_; refine go_do (valid_load_q tb rfl rfl rfl rfl (by first | kernel_rfl | rfl)) rfl ?_)
        | (refine nxt_s 3 rfl ?_; refine go_do (valid_fld_q tb rfl rfl rfl rfl) rfl ?_)
        | refine go_do (valid_not rfl rfl rfl) rfl ?_
        | refine go_do (valid_build rfl rfl rfl rfl) rfl ?_
        | refine go_do (valid_nil rfl rfl rfl rfl) rfl ?_
        | (refine nxt_s 4 rfl ?_; refine go_do (valid_idx_s rfl rfl rfl rfl rfl rfl (by omega) (by omega) _ (by assumption)) rfl ?_)
        | (refine nxt_s 5 rfl ?_; refine go_do (valid_store_rp rfl rfl rfl rfl rfl rfl rfl rfl rfl (by first | omega | (simp; omega)) rfl) rfl ?_)
        | (refine nxt_s 5 rfl ?_; refine go_do (valid_load_rp tb rfl rfl rfl rfl rfl rfl) rfl ?_)
        | (refine nxt_s 2 rfl ?_; refine go_do (valid_idx_o rfl rfl rfl rfl rfl rfl rfl (by omega) (by omega)) rfl ?_)
        | (refine nxt_s 1 rfl ?_; refine go_do (valid_idx_p rfl rfl rfl rfl rfl rfl (by omega) (by omega)) rfl ?_)
        | refine go_do (valid_index tb rfl rfl rfl rfl rfl rfl (by omega) (by omega) rfl) rfl ?_
        | refine go_do (valid_len_o rfl rfl rfl rfl rfl) rfl ?_
        | refine go_do (valid_len_v rfl rfl rfl rfl) rfl ?_
        | (refine nxt_s 5 rfl ?_; refine go_do (valid_fld_rp tb rfl rfl rfl rfl) rfl ?_)
        | refine go_do (valid_bslice rfl rfl rfl rfl rfl rfl rfl rfl rfl rfl rfl) rfl ?_
        | refine go_do (valid_bslice0 rfl rfl rfl rfl rfl rfl rfl) rfl ?_
        | refine go_do (valid_eqb rfl rfl rfl rfl rfl) rfl ?_
        | refine go_do (valid_neb rfl rfl rfl rfl rfl) rfl ?_
        | refine go_do (valid_eql (us := [.int .i64 m, .int .u64 f, .int .u64 o]) (vs := [.int .i64 m, .int .u64 0, .int .u64 o]) he (by kernel_rfl) rfl rfl rfl rfl) rfl ?_
        | refine go_do (valid_call rfl rfl rfl (tz_ok f hf) rfl) rfl ?_
        | refine go_do (valid_call rfl rfl rfl (get_ok o (tzI f) 1 ho t1.1 (by omega) (by omega) (by omega)) rfl) rfl ?_
        | refine go_do (valid_call rfl rfl rfl (set_ok f (tzI f) 1 0 hf ⟨by omega, by omega⟩ t1.1 (by omega) (by omega) (by omega)) rfl) rfl ?_
        | refine go_do (valid_call rfl rfl rfl (set_ok o (tzI f) 1 1 ho ⟨by omega, by omega⟩ t1.1 (by omega) (by omega) (by omega)) rfl) rfl ?_)
    | (refine hK _ ?_; clear hK K)
    | (rename_i K1 hK1; refine hK1 _ ?_; clear hK hK1; clear K)
    | (rename_i K1 hK1; refine hK1 _ ?_; clear hK1)
    | refine aw_text rfl ?_
    | refine aw_any (by kernel_rfl) (by kernel_rfl) rfl ?_
    | exact aw_ret (show resA _ _ _ = some _ by kernel_rfl)
    | refine aw_cond1 rfl rfl ?_
    | refine aw_cond0 rfl rfl ?_
    | refine aw_block ?_
    | refine aw_exit ?_
    | refine aw_skip ?_
    | refine aw_seq_k (fun K hK => ?_))
end Go.Proofs.YtkffmaeiplgjeaaDoor.SpC
