/- Texts of this claim, one behind the other: SpB, SpC, SpD, IterC. -/
import Derived.Test.YtkffmaeiplgjeaaGreatDoorM9
import Derived.Test.YtkffmaeiplgjeaaGreatDoorM8
import Derived.RangeFuncNested
import Derived.RangeFuncBound
import Derived.RangeFuncCalls
import Derived.RangeFuncLeaves
import Derived.RangeFuncFrom
import Derived.Shelf.Abstract
/- The abstract walk: kernels, as plain data; the small functions of the layer space. -/
namespace Go.Proofs.YtkffmaeiplgjeaaGreatDoor.SpB
open Go.RowKit Go.Proofs.YtkffmaeiplgjeaaGreatDoor.Bv Go.Proofs.YtkffmaeiplgjeaaGreatDoor.VaSpec Go.Proofs.YtkffmaeiplgjeaaGreatDoor.Base Go.Proofs.YtkffmaeiplgjeaaGreatDoor.MemL Go.Proofs.YtkffmaeiplgjeaaGreatDoor.RegR Go.Proofs.YtkffmaeiplgjeaaGreatDoor.Ax Go.Proofs.YtkffmaeiplgjeaaGreatDoor.MemC Go.Proofs.YtkffmaeiplgjeaaGreatDoor.PutC Go.Proofs.YtkffmaeiplgjeaaGreatDoor.MemC3 Go.Proofs.YtkffmaeiplgjeaaGreatDoor.TzC Go.Proofs.YtkffmaeiplgjeaaGreatDoor.OkS Go.Proofs.YtkffmaeiplgjeaaGreatDoor.SpA
open Go.Proofs.YtkffmaeiplgjeaaGreatDoor.BitsC Go.Proofs.YtkffmaeiplgjeaaGreatDoor.PteSpec
set_option linter.unusedVariables false
set_option linter.unusedSimpArgs false
set_option maxRecDepth 10000
set_option maxHeartbeats 1000000
structure Sp where
  root : Int
  asid : Int
  live : Bool
deriving DecidableEq
structure Fe where
  ha : Bool
  ad : Int
  hs : Bool
  sn : Int
deriving DecidableEq
def Sp.vs (s : Sp) : List Value := [.int .u64 s.root, .int .u64 s.asid, .bool s.live]
def Fe.vs (f : Fe) : List Value := [.bool f.ha, .int .u64 f.ad, .bool f.hs, .int .u64 f.sn]
def flS (l : List Sp) : List Value := l.flatMap Sp.vs
def flF (l : List Fe) : List Value := l.flatMap Fe.vs
/-- a kernel -/
structure Kr where
  cd : Int
  cp : Int
  ca : Int
  cs : Int
  sz : Int
  m : List (Int × Int)
  tn : Nat
  ts : List Value
  sm : Int
  sa : Int
  sp : Int
  priv : Int
  su : Bool
  mx : Bool
  vic : Int
  pb : Int
  pm : Int
  pf : Int
  am : Int
  af : Int
  ao : Int
  ss : List Sp
  now : Int
  sh : Int
  fs : List Fe
def Kr.ce (k : Kr) : List Ce := [ci k.cd, ci k.cp, ci k.ca, ci k.cs, cu k.sz, .s k.m.length 2 (fl k.m), .s k.tn 45 k.ts, cu k.sm, cu k.sa, cu k.sp, ci k.priv, cb k.su, cb k.mx, ci k.vic, cu k.pb, ci k.pm, cu k.pf, ci k.am, cu k.af, cu k.ao, .s k.ss.length 3 (flS k.ss), ci k.now, cu k.sh, .s k.fs.length 4 (flF k.fs)]
theorem flat_at {α : Type} (f : α → List Value) (k : Nat) (hk : ∀ a, (f a).length = k) : ∀ (l : List α) (i : Nat) (a : α), l[i]? = some a → ((l.flatMap f).drop (i * k)).take k = f a
  | [], i, a, h => by simp at h
  | x :: l, 0, a, h => by
    simp at h; subst h
    simp only [Nat.zero_mul, List.drop_zero, List.flatMap_cons]
    rw [← hk x]; simp
  | x :: l, i + 1, a, h => by
    have e : (i + 1) * k = (f x).length + i * k := by rw [hk, Nat.succ_mul]; omega
    rw [List.flatMap_cons, e, ← List.drop_drop]
    simp only [List.drop_left]
    exact flat_at f k hk l i a (by simpa using h)
theorem flS_at {l : List Sp} {i : Int} {s : Sp} (h : l[i.toNat]? = some s) : ((flS l).drop (i.toNat * 3)).take 3 = [.int .u64 s.root, .int .u64 s.asid, .bool s.live] := flat_at Sp.vs 3 (fun _ => rfl) l _ s h
def livesB (k : Kr) (id : Int) : Bool := decide (0 ≤ id) && (match k.ss[id.toNat]? with | some s => s.live | none => false)
theorem lives_ok (k : Kr) (id : Int) : Ok 39 [.ag k.ce, ii id] (.m (ib (livesB k id))) := by
  by_cases h0 : 0 ≤ id
  · by_cases h : id < k.ss.length
    · obtain ⟨s, hs⟩ : ∃ s, k.ss[id.toNat]? = some s := ⟨_, List.getElem?_eq_getElem (by omega)⟩
      have hx := flS_at hs
      rw [show livesB k id = s.live by simp [livesB, h0, hs]]
      refine callOk_of 22 Tryz.func39 rfl rfl rfl rfl ?_ GG.to
      intro W A hG
      repeat (first
        | (refine go_at rfl ?_; first
            | refine go_do (valid_mv (.inl rfl) rfl) rfl ?_
            | (refine nxt_s 1 rfl ?_; refine go_do (valid_load_p tb rfl rfl rfl rfl rfl (by first | kernel_rfl | rfl)) (by first | kernel_rfl | rfl) ?_)
            | (refine nxt_s 1 rfl ?_; refine go_do (valid_fld_p tb rfl rfl rfl (by kernel_rfl)) rfl ?_)
            | refine go_do (valid_mv (.inr rfl) rfl) rfl ?_
            | refine go_do (valid_pick rfl rfl rfl) rfl ?_
            | refine go_do (valid_cmp rfl rfl rfl rfl (by first | exact .eql1 (by omega) | exact .eql0 (by omega) | exact .neq1 (by omega) | exact .neq0 (by omega) | exact .lss1 (by omega) | exact .lss0 (by omega) | exact .leq1 (by omega) | exact .leq0 (by omega) | exact .gtr1 (by omega) | exact .gtr0 (by omega) | exact .geq1 (by omega) | exact .geq0 (by omega) | constructor)) rfl ?_
            | refine go_do (valid_box rfl rfl rfl rfl rfl rfl) rfl ?_
            | refine go_do (valid_len_s rfl rfl rfl rfl) rfl ?_
            | (refine nxt_s 3 rfl ?_; refine go_do (valid_load_q tb rfl rfl rfl rfl (by first | kernel_rfl | rfl)) rfl ?_)
            | (refine nxt_s 3 rfl ?_; refine go_do (valid_fld_q tb rfl rfl rfl rfl) rfl ?_)
            | (refine nxt_s 4 rfl ?_; refine go_do (valid_idx_s rfl rfl rfl rfl rfl rfl (by omega) (by omega) _ (by assumption)) rfl ?_))
        | (refine hK _ ?_; clear hK K)
        | refine aw_text rfl ?_
        | exact aw_ret (show resA _ _ _ = some _ by kernel_rfl)
        | refine aw_seq_k (fun K hK => ?_))
    · rw [show livesB k id = false by simp [livesB, List.getElem?_eq_none (show k.ss.length ≤ id.toNat by omega)]]
      refine callOk_of 22 Tryz.func39 rfl rfl rfl rfl ?_ GG.to
      intro W A hG
      repeat (first
        | (refine go_at rfl ?_; first
            | refine go_do (valid_skip rfl) rfl ?_
            | refine go_do (valid_mv (.inl rfl) rfl) rfl ?_
            | (refine nxt_s 1 rfl ?_; refine go_do (valid_load_p tb rfl rfl rfl rfl rfl (by first | kernel_rfl | rfl)) (by first | kernel_rfl | rfl) ?_)
            | (refine nxt_s 1 rfl ?_; refine go_do (valid_fld_p tb rfl rfl rfl (by kernel_rfl)) rfl ?_)
            | refine go_do (valid_mv (.inr rfl) rfl) rfl ?_
            | refine go_do (valid_pick rfl rfl rfl) rfl ?_
            | refine go_do (valid_cmp rfl rfl rfl rfl (by first | exact .eql1 (by omega) | exact .eql0 (by omega) | exact .neq1 (by omega) | exact .neq0 (by omega) | exact .lss1 (by omega) | exact .lss0 (by omega) | exact .leq1 (by omega) | exact .leq0 (by omega) | exact .gtr1 (by omega) | exact .gtr0 (by omega) | exact .geq1 (by omega) | exact .geq0 (by omega) | constructor)) rfl ?_
            | refine go_do (valid_box rfl rfl rfl rfl rfl rfl) rfl ?_
            | refine go_do (valid_len_s rfl rfl rfl rfl) rfl ?_)
        | (refine hK _ ?_; clear hK K)
        | refine aw_text rfl ?_
        | exact aw_ret (show resA _ _ _ = some _ by kernel_rfl)
        | refine aw_seq_k (fun K hK => ?_))
  · rw [show livesB k id = false by simp [livesB, h0]]
    refine callOk_of 22 Tryz.func39 rfl rfl rfl rfl ?_ GG.to
    intro W A hG
    repeat (first
      | (refine go_at rfl ?_; first
          | refine go_do (valid_skip rfl) rfl ?_
          | refine go_do (valid_mv (.inl rfl) rfl) rfl ?_
          | refine go_do (valid_mv (.inr rfl) rfl) rfl ?_
          | refine go_do (valid_pick rfl rfl rfl) rfl ?_
          | refine go_do (valid_cmp rfl rfl rfl rfl (by first | exact .eql1 (by omega) | exact .eql0 (by omega) | exact .neq1 (by omega) | exact .neq0 (by omega) | exact .lss1 (by omega) | exact .lss0 (by omega) | exact .leq1 (by omega) | exact .leq0 (by omega) | exact .gtr1 (by omega) | exact .gtr0 (by omega) | exact .geq1 (by omega) | exact .geq0 (by omega) | constructor)) rfl ?_
          | refine go_do (valid_box rfl rfl rfl rfl rfl rfl) rfl ?_)
      | (refine hK _ ?_; clear hK K)
      | refine aw_text rfl ?_
      | exact aw_ret (show resA _ _ _ = some _ by kernel_rfl)
      | refine aw_seq_k (fun K hK => ?_))
def swK (k : Kr) (id : Int) (s : Sp) : Kr := { k with now := id, sm := 8, sa := s.asid, sp := s.root }
def offK (k : Kr) : Kr := { k with now := -1, sm := 0, sa := 0, sp := 0 }
theorem switch_off (k : Kr) : Ok 21 [.ag k.ce, ii (-1)] (.tu [.ag (offK k).ce, ii 0]) := by
  refine callOk_of 37 Tryz.func21 rfl rfl rfl rfl ?_ GG.to
  intro W A hG
  repeat (first
    | (refine go_at rfl ?_; first
        | refine go_do (valid_mv (.inl rfl) rfl) rfl ?_
        | (refine nxt_s 1 rfl ?_; refine go_do (valid_load_p tb rfl rfl rfl rfl rfl (by first | kernel_rfl | rfl)) (by first | kernel_rfl | rfl) ?_)
        | (refine nxt_s 1 rfl ?_; refine go_do (valid_fld_p tb rfl rfl rfl (by kernel_rfl)) rfl ?_)
        | refine go_do (valid_mv (.inr rfl) rfl) rfl ?_
        | refine go_do (valid_cmp rfl rfl rfl rfl (by first | exact .eql1 (by omega) | exact .eql0 (by omega) | exact .neq1 (by omega) | exact .neq0 (by omega) | exact .lss1 (by omega) | exact .lss0 (by omega) | exact .leq1 (by omega) | exact .leq0 (by omega) | exact .gtr1 (by omega) | exact .gtr0 (by omega) | exact .geq1 (by omega) | exact .geq0 (by omega) | constructor)) rfl ?_
        | refine go_do (valid_box rfl rfl rfl rfl rfl rfl) rfl ?_
        | refine go_do (valid_alloc rfl rfl rfl rfl rfl) rfl ?_
        | (refine nxt_s 1 rfl ?_; refine go_do (valid_store_p rfl rfl rfl rfl rfl rfl (by first | kernel_rfl | rfl) rfl) (by first | kernel_rfl | rfl) ?_)
        | refine go_do (valid_build rfl rfl rfl rfl) rfl ?_)
    | (refine hK _ ?_; clear hK K)
    | refine aw_text rfl ?_
    | exact aw_ret (show resA _ _ _ = some _ by kernel_rfl)
    | refine aw_cond1 rfl rfl ?_
    | refine aw_block ?_
    | refine aw_seq_k (fun K hK => ?_))
theorem switch_no (k : Kr) (id : Int) (h1 : id ≠ -1) (h : livesB k id = false) : Ok 21 [.ag k.ce, ii id] (.tu [.ag k.ce, ii 4]) := by
  refine callOk_of 37 Tryz.func21 rfl rfl rfl rfl ?_ GG.to
  intro W A hG
  repeat (first
    | (refine go_at rfl ?_; first
        | refine go_do (valid_mv (.inl rfl) rfl) rfl ?_
        | (refine nxt_s 1 rfl ?_; refine go_do (valid_load_p tb rfl rfl rfl rfl rfl (by first | kernel_rfl | rfl)) (by first | kernel_rfl | rfl) ?_)
        | refine go_do (valid_mv (.inr rfl) rfl) rfl ?_
        | refine go_do (valid_cmp rfl rfl rfl rfl (by first | exact .eql1 (by omega) | exact .eql0 (by omega) | exact .neq1 (by omega) | exact .neq0 (by omega) | exact .lss1 (by omega) | exact .lss0 (by omega) | exact .leq1 (by omega) | exact .leq0 (by omega) | exact .gtr1 (by omega) | exact .gtr0 (by omega) | exact .geq1 (by omega) | exact .geq0 (by omega) | constructor)) rfl ?_
        | refine go_do (valid_box rfl rfl rfl rfl rfl rfl) rfl ?_
        | refine go_do (valid_alloc rfl rfl rfl rfl rfl) rfl ?_
        | (refine nxt_s 1 rfl ?_; refine go_do (valid_store_p rfl rfl rfl rfl rfl rfl (by first | kernel_rfl | rfl) rfl) (by first | kernel_rfl | rfl) ?_)
        | refine go_do (valid_not rfl rfl rfl) rfl ?_
        | refine go_do (valid_call rfl rfl rfl (h ▸ lives_ok _ _) rfl) rfl ?_)
    | (refine hK _ ?_; clear hK K)
    | refine aw_text rfl ?_
    | exact aw_ret (show resA _ _ _ = some _ by kernel_rfl)
    | refine aw_cond1 rfl rfl ?_
    | refine aw_cond0 rfl rfl ?_
    | refine aw_block ?_
    | refine aw_seq_k (fun K hK => ?_))
theorem switch_yes (k : Kr) (id : Int) (s : Sp) (h1 : id ≠ -1) (h0 : 0 ≤ id) (hs : k.ss[id.toNat]? = some s) (hlt : id < k.ss.length) (h : livesB k id = true) : Ok 21 [.ag k.ce, ii id] (.tu [.ag (swK k id s).ce, ii 0]) := by
  have hx := flS_at hs
  refine callOk_of 37 Tryz.func21 rfl rfl rfl rfl ?_ GG.to
  intro W A hG
  repeat (first
    | (refine go_at rfl ?_; first
        | refine go_do (valid_mv (.inl rfl) rfl) rfl ?_
        | (refine nxt_s 1 rfl ?_; refine go_do (valid_load_p tb rfl rfl rfl rfl rfl (by first | kernel_rfl | rfl)) (by first | kernel_rfl | rfl) ?_)
        | (refine nxt_s 1 rfl ?_; refine go_do (valid_fld_p tb rfl rfl rfl (by kernel_rfl)) rfl ?_)
        | refine go_do (valid_mv (.inr rfl) rfl) rfl ?_
        | refine go_do (valid_cmp rfl rfl rfl rfl (by first | exact .eql1 (by omega) | exact .eql0 (by omega) | exact .neq1 (by omega) | exact .neq0 (by omega) | exact .lss1 (by omega) | exact .lss0 (by omega) | exact .leq1 (by omega) | exact .leq0 (by omega) | exact .gtr1 (by omega) | exact .gtr0 (by omega) | exact .geq1 (by omega) | exact .geq0 (by omega) | constructor)) rfl ?_
        | refine go_do (valid_box rfl rfl rfl rfl rfl rfl) rfl ?_
        | refine go_do (valid_alloc rfl rfl rfl rfl rfl) rfl ?_
        | (refine nxt_s 1 rfl ?_; refine go_do (valid_store_p rfl rfl rfl rfl rfl rfl (by first | kernel_rfl | rfl) rfl) (by first | kernel_rfl | rfl) ?_)
        | (refine nxt_s 3 rfl ?_; refine go_do (valid_load_q tb rfl rfl rfl rfl (by first | kernel_rfl | rfl)) rfl ?_)
        | (refine nxt_s 3 rfl ?_; refine go_do (valid_fld_q tb rfl rfl rfl rfl) rfl ?_)
        | refine go_do (valid_not rfl rfl rfl) rfl ?_
        | refine go_do (valid_build rfl rfl rfl rfl) rfl ?_
        | (refine nxt_s 4 rfl ?_; refine go_do (valid_idx_s rfl rfl rfl rfl rfl rfl (by omega) (by omega) _ (by assumption)) rfl ?_)
        | refine go_do (valid_call rfl rfl rfl (h ▸ lives_ok _ _) rfl) rfl ?_)
    | (refine hK _ ?_; clear hK K)
    | refine aw_text rfl ?_
    | refine aw_any (by kernel_rfl) (by kernel_rfl) rfl ?_
    | exact aw_ret (show resA _ _ _ = some _ by kernel_rfl)
    | refine aw_cond0 rfl rfl ?_
    | refine aw_block ?_
    | refine aw_seq_k (fun K hK => ?_))
def withM (sz : Int) (xs : List (Int × Int)) (t i : Int) (p : Pte) : List (Int × Int) := if wrongI sz (t * 4096 + i * 8) 8 = 0 then storeM sz xs (t * 4096 + i * 8) 8 (PteC.putE p) else xs
end Go.Proofs.YtkffmaeiplgjeaaGreatDoor.SpB
/- The abstract walk: table.With, asid.Take, configurations, Where, fences' names. -/
namespace Go.Proofs.YtkffmaeiplgjeaaGreatDoor.SpC
open Go.RowKit Go.Proofs.YtkffmaeiplgjeaaGreatDoor.Bv Go.Proofs.YtkffmaeiplgjeaaGreatDoor.VaSpec Go.Proofs.YtkffmaeiplgjeaaGreatDoor.Base Go.Proofs.YtkffmaeiplgjeaaGreatDoor.MemL Go.Proofs.YtkffmaeiplgjeaaGreatDoor.RegR Go.Proofs.YtkffmaeiplgjeaaGreatDoor.Ax Go.Proofs.YtkffmaeiplgjeaaGreatDoor.MemC Go.Proofs.YtkffmaeiplgjeaaGreatDoor.PutC Go.Proofs.YtkffmaeiplgjeaaGreatDoor.MemC3 Go.Proofs.YtkffmaeiplgjeaaGreatDoor.TzC Go.Proofs.YtkffmaeiplgjeaaGreatDoor.OkS Go.Proofs.YtkffmaeiplgjeaaGreatDoor.SpA Go.Proofs.YtkffmaeiplgjeaaGreatDoor.SpB
open Go.Proofs.YtkffmaeiplgjeaaGreatDoor.BitsC Go.Proofs.YtkffmaeiplgjeaaGreatDoor.PteSpec
set_option linter.unusedVariables false
set_option linter.unusedSimpArgs false
set_option maxRecDepth 10000
set_option maxHeartbeats 1000000
theorem idx_bd (a l : Int) : 0 ≤ idx a l ∧ idx a l < 512 := by unfold idx; omega
theorem putE_U (p : Pte) (h : p.U) : U (PteC.putE p) := by
  unfold PteC.putE
  by_cases hm : mayP p = true
  · rw [if_pos hm]; exact word_bd p h hm
  · rw [if_neg hm]; exact ⟨by omega, by omega⟩
def spotC (t l : Int) (q : Pte) : List Ce := [cu t, ci l, cb q.v, cb q.r, cb q.w, cb q.x, cb q.u, cb q.g, cb q.a, cb q.d, cu q.rsw, cu q.ppn, cu q.high]
theorem with_ok (sz : Int) (xs : List (Int × Int)) (t l : Int) (q : Pte) (addr : Int) (p : Pte) (ha : U addr) (hp : p.U) (l0 : 0 ≤ l) (l2 : l ≤ 2) (ht : 0 ≤ t ∧ t < 1099511627776) (hs : Srt xs) (hu : Uw xs) (hbig : (xs.length + 1) * 16 ≤ 140737488355328) :
    Ok 53 [memA sz xs, .ag (spotC t l q), iu addr, .ag p.ce] (.m (memA sz (withM sz xs t (idx addr l) p))) := by
  have hi := idx_bd addr l
  have hU : U (t * 4096 + idx addr l * 8) := ⟨by omega, by omega⟩
  by_cases hw : wrongI sz (t * 4096 + idx addr l * 8) 8 = 0
  · rw [show withM sz xs t (idx addr l) p = storeM sz xs (t * 4096 + idx addr l * 8) 8 (PteC.putE p) by unfold withM; rw [if_pos hw]]
    refine callOk_of 32 Tryz.func53 rfl rfl rfl rfl ?_ GG.to
    intro W A hG
    repeat (first
      | (refine go_at rfl ?_; first
          | refine go_do (valid_mv (.inl rfl) rfl) rfl ?_
          | (refine nxt_s 1 rfl ?_; refine go_do (valid_load_p tb rfl rfl rfl rfl rfl (by first | kernel_rfl | rfl)) (by first | kernel_rfl | rfl) ?_)
          | (refine nxt_s 1 rfl ?_; refine go_do (valid_fld_p tb rfl rfl rfl (by kernel_rfl)) rfl ?_)
          | refine go_do (valid_mv (.inr rfl) rfl) rfl ?_
          | refine go_do (valid_extract rfl rfl rfl rfl) rfl ?_
          | refine go_do (valid_box rfl rfl rfl rfl rfl rfl) rfl ?_
          | refine go_do (valid_alloc rfl rfl rfl rfl rfl) rfl ?_
          | (refine nxt_s 1 rfl ?_; refine go_do (valid_store_p rfl rfl rfl rfl rfl rfl (by first | kernel_rfl | rfl) rfl) (by first | kernel_rfl | rfl) ?_)
          | refine go_do (valid_call rfl rfl rfl (pput_ok p hp) rfl) rfl ?_
          | refine go_do (valid_call rfl rfl rfl (idx_ok addr l ha l0 l2) rfl) rfl ?_
          | refine go_do (valid_call rfl rfl rfl (place_ok t _ ht hi) rfl) rfl ?_
          | refine go_do (valid_call rfl rfl rfl (store_ok sz xs _ 8 _ hU (putE_U p hp) hs hu hbig hw) rfl) rfl ?_)
      | (refine hK _ ?_; clear hK K)
      | refine aw_text rfl ?_
      | refine aw_any (by kernel_rfl) (by kernel_rfl) rfl ?_
      | exact aw_ret (show resA _ _ _ = some _ by kernel_rfl)
      | refine aw_seq_k (fun K hK => ?_))
  · rw [show withM sz xs t (idx addr l) p = xs by unfold withM; rw [if_neg hw]]
    refine callOk_of 32 Tryz.func53 rfl rfl rfl rfl ?_ GG.to
    intro W A hG
    repeat (first
      | (refine go_at rfl ?_; first
          | refine go_do (valid_mv (.inl rfl) rfl) rfl ?_
          | (refine nxt_s 1 rfl ?_; refine go_do (valid_load_p tb rfl rfl rfl rfl rfl (by first | kernel_rfl | rfl)) (by first | kernel_rfl | rfl) ?_)
          | (refine nxt_s 1 rfl ?_; refine go_do (valid_fld_p tb rfl rfl rfl (by kernel_rfl)) rfl ?_)
          | refine go_do (valid_mv (.inr rfl) rfl) rfl ?_
          | refine go_do (valid_extract rfl rfl rfl rfl) rfl ?_
          | refine go_do (valid_box rfl rfl rfl rfl rfl rfl) rfl ?_
          | refine go_do (valid_alloc rfl rfl rfl rfl rfl) rfl ?_
          | (refine nxt_s 1 rfl ?_; refine go_do (valid_store_p rfl rfl rfl rfl rfl rfl (by first | kernel_rfl | rfl) rfl) (by first | kernel_rfl | rfl) ?_)
          | refine go_do (valid_call rfl rfl rfl (pput_ok p hp) rfl) rfl ?_
          | refine go_do (valid_call rfl rfl rfl (idx_ok addr l ha l0 l2) rfl) rfl ?_
          | refine go_do (valid_call rfl rfl rfl (place_ok t _ ht hi) rfl) rfl ?_
          | refine go_do (valid_call rfl rfl rfl (store_no sz xs _ 8 _ hU (putE_U p hp) hs hu hbig hw) rfl) rfl ?_)
      | (refine hK _ ?_; clear hK K)
      | refine aw_text rfl ?_
      | refine aw_any (by kernel_rfl) (by kernel_rfl) rfl ?_
      | exact aw_ret (show resA _ _ _ = some _ by kernel_rfl)
      | refine aw_seq_k (fun K hK => ?_))
theorem eq_asids (w : World) (x0 y0 x1 y1 x2 y2 : Int) :
    (Op.equalIn 10000 40 (.agg #[.int .i64 x0, .int .u64 x1, .int .u64 x2]) (.agg #[.int .i64 y0, .int .u64 y1, .int .u64 y2])).run Tryz.prog w = .ok (x0 == y0 && (x1 == y1 && (x2 == y2 && true))) w := by
  refine PoolC4.struct_of Tryz.underlying40 (by kernel_rfl) ?_
  refine PoolC4.fields_cons (by rfl) (by go_simp; rfl) (by go_simp; rfl) (by go_simp) ?_
  refine PoolC4.fields_cons (by rfl) (by go_simp; rfl) (by go_simp; rfl) (by go_simp) ?_
  exact PoolC4.fields_cons (by rfl) (by go_simp; rfl) (by go_simp; rfl) (by go_simp) PoolC4.fields_nil
theorem atake_no (m o : Int) : Ok 59 [.ag [ci m, cu 0, cu o]] (.tu [.ag [ci m, cu 0, cu o], iu 0, ib false, ii 9]) := by
  refine callOk_of 39 Tryz.func59 rfl rfl rfl rfl ?_ GG.to
  intro W A hG
  have he : ∀ w, (Op.equalIn 10000 40 (.agg #[.int .i64 m, .int .u64 0, .int .u64 o]) (.agg #[.int .i64 m, .int .u64 0, .int .u64 o])).run Tryz.prog w = .ok true w := fun w => by rw [eq_asids]; simp
  repeat (first
    | (refine go_at rfl ?_; first
        | (refine nxt_s 1 rfl ?_; refine go_do (valid_load_p tb rfl rfl rfl rfl rfl (by first | kernel_rfl | rfl)) (by first | kernel_rfl | rfl) ?_)
        | (refine nxt_s 1 rfl ?_; refine go_do (valid_fld_p tb rfl rfl rfl (by kernel_rfl)) rfl ?_)
        | refine go_do (valid_mv (.inr rfl) rfl) rfl ?_
        | refine go_do (valid_box rfl rfl rfl rfl rfl rfl) rfl ?_
        | refine go_do (valid_alloc rfl rfl rfl rfl rfl) rfl ?_
        | (refine nxt_s 1 rfl ?_; refine go_do (valid_store_p rfl rfl rfl rfl rfl rfl (by first | kernel_rfl | rfl) rfl) (by first | kernel_rfl | rfl) ?_)
        | refine go_do (valid_build rfl rfl rfl rfl) rfl ?_
        | refine go_do (valid_eql (us := [.int .i64 m, .int .u64 0, .int .u64 o]) (vs := [.int .i64 m, .int .u64 0, .int .u64 o]) he (by kernel_rfl) rfl rfl rfl rfl) rfl ?_)
    | (refine hK _ ?_; clear hK K)
    | refine aw_text rfl ?_
    | exact aw_ret (show resA _ _ _ = some _ by kernel_rfl)
    | refine aw_cond1 rfl rfl ?_
    | refine aw_seq_k (fun K hK => ?_))
def takeA1 (f : Int) : Int := setI f (tzI f) 1 0
def takeA2 (f o : Int) : Int := setI o (tzI f) 1 1
theorem tz_bd {f : Int} (hf : U f) (h0 : f ≠ 0) : 0 ≤ tzI f ∧ tzI f < 64 := by
  have := PoolC4.tz_lt hf h0; omega
theorem atake_ok (m f o : Int) (hf : U f) (ho : U o) (h0 : f ≠ 0) : Ok 59 [.ag [ci m, cu f, cu o]] (.tu [.ag [ci m, cu (takeA1 f), cu (takeA2 f o)], iu (tzI f + 1), ib (getI o (tzI f) 1 == 1), ii 0]) := by
  have t1 := tz_bd hf h0
  refine callOk_of 39 Tryz.func59 rfl rfl rfl rfl ?_ GG.to
  intro W A hG
  have he : ∀ w, (Op.equalIn 10000 40 (.agg #[.int .i64 m, .int .u64 f, .int .u64 o]) (.agg #[.int .i64 m, .int .u64 0, .int .u64 o])).run Tryz.prog w = .ok false w := fun w => by rw [eq_asids]; simp [h0]
  repeat (first
    | (refine go_at rfl ?_; first
        | refine go_do (valid_mv (.inl rfl) rfl) rfl ?_
        | (refine nxt_s 1 rfl ?_; refine go_do (valid_load_p tb rfl rfl rfl rfl rfl (by first | kernel_rfl | rfl)) (by first | kernel_rfl | rfl) ?_)
        | (refine nxt_s 1 rfl ?_; refine go_do (valid_fld_p tb rfl rfl rfl (by kernel_rfl)) rfl ?_)
        | refine go_do (valid_mv (.inr rfl) rfl) rfl ?_
        | refine go_do (valid_cmp rfl rfl rfl rfl (by first | exact .eql1 (by omega) | exact .eql0 (by omega) | exact .neq1 (by omega) | exact .neq0 (by omega) | exact .lss1 (by omega) | exact .lss0 (by omega) | exact .leq1 (by omega) | exact .leq0 (by omega) | exact .gtr1 (by omega) | exact .gtr0 (by omega) | exact .geq1 (by omega) | exact .geq0 (by omega) | constructor)) rfl ?_
        | refine go_do (valid_ar rfl rfl rfl rfl (by constructor) (by first | exact wr_u64 (by omega) (by omega) | exact wr_i64 (by omega) (by omega) | rfl)) rfl ?_
        | refine go_do (valid_cv rfl rfl rfl rfl rfl (by first | exact wr_u64 (by omega) (by omega) | exact wr_i64 (by omega) (by omega) | rfl)) rfl ?_
        | refine go_do (valid_box rfl rfl rfl rfl rfl rfl) rfl ?_
        | refine go_do (valid_alloc rfl rfl rfl rfl rfl) rfl ?_
        | (refine nxt_s 1 rfl ?_; refine go_do (valid_store_p rfl rfl rfl rfl rfl rfl (by first | kernel_rfl | rfl) rfl) (by first | kernel_rfl | rfl) ?_)
        | refine go_do (valid_build rfl rfl rfl rfl) rfl ?_
        | refine go_do (valid_eql (us := [.int .i64 m, .int .u64 f, .int .u64 o]) (vs := [.int .i64 m, .int .u64 0, .int .u64 o]) he (by kernel_rfl) rfl rfl rfl rfl) rfl ?_
        | refine go_do (valid_call rfl rfl rfl (tz_ok f hf) rfl) rfl ?_
        | refine go_do (valid_call rfl rfl rfl (get_ok o (tzI f) 1 ho t1.1 (by omega) (by omega) (by omega)) rfl) rfl ?_
        | refine go_do (valid_call rfl rfl rfl (set_ok f (tzI f) 1 0 hf ⟨by omega, by omega⟩ t1.1 (by omega) (by omega) (by omega)) rfl) rfl ?_
        | refine go_do (valid_call rfl rfl rfl (set_ok o (tzI f) 1 1 ho ⟨by omega, by omega⟩ t1.1 (by omega) (by omega) (by omega)) rfl) rfl ?_)
    | (refine hK _ ?_; clear hK K)
    | refine aw_text rfl ?_
    | refine aw_any (by kernel_rfl) (by kernel_rfl) rfl ?_
    | exact aw_ret (show resA _ _ _ = some _ by kernel_rfl)
    | refine aw_cond0 rfl rfl ?_
    | refine aw_skip ?_
    | refine aw_seq_k (fun K hK => ?_))
end Go.Proofs.YtkffmaeiplgjeaaGreatDoor.SpC
/- The abstract walk: fences over entries that are zero. -/
namespace Go.Proofs.YtkffmaeiplgjeaaGreatDoor.SpD
open Go.RowKit Go.Proofs.YtkffmaeiplgjeaaGreatDoor.Bv Go.Proofs.YtkffmaeiplgjeaaGreatDoor.VaSpec Go.Proofs.YtkffmaeiplgjeaaGreatDoor.Base Go.Proofs.YtkffmaeiplgjeaaGreatDoor.MemL Go.Proofs.YtkffmaeiplgjeaaGreatDoor.RegR Go.Proofs.YtkffmaeiplgjeaaGreatDoor.Ax Go.Proofs.YtkffmaeiplgjeaaGreatDoor.MemC Go.Proofs.YtkffmaeiplgjeaaGreatDoor.PutC Go.Proofs.YtkffmaeiplgjeaaGreatDoor.MemC3 Go.Proofs.YtkffmaeiplgjeaaGreatDoor.TzC Go.Proofs.YtkffmaeiplgjeaaGreatDoor.OkS Go.Proofs.YtkffmaeiplgjeaaGreatDoor.SpA Go.Proofs.YtkffmaeiplgjeaaGreatDoor.SpB Go.Proofs.YtkffmaeiplgjeaaGreatDoor.SpC
open Go.Proofs.YtkffmaeiplgjeaaGreatDoor.BitsC Go.Proofs.YtkffmaeiplgjeaaGreatDoor.PteSpec
set_option linter.unusedVariables false
set_option linter.unusedSimpArgs false
set_option maxRecDepth 10000
set_option maxHeartbeats 1000000
def Fe.ce (f : Fe) : List Ce := [cb f.ha, cu f.ad, cb f.hs, cu f.sn]
def zE : List Ce := [cb false, cu 0, cb false, ci 0, cu 0, cu 0, cb false, cb false, cb false, cb false, cb false]
theorem covers0_ok (a : Int) : Ok 166 [.ag zE, iu a] (.m (ib false)) := by
  refine callOk_of 17 Tryz.func166 rfl rfl rfl rfl ?_ GG.to
  intro W A hG
  repeat (first
    | (refine go_at rfl ?_; first
        | refine go_do (valid_skip rfl) rfl ?_
        | refine go_do (valid_mv (.inl rfl) rfl) rfl ?_
        | (refine nxt_s 1 rfl ?_; refine go_do (valid_load_p tb rfl rfl rfl rfl rfl (by first | kernel_rfl | rfl)) (by first | kernel_rfl | rfl) ?_)
        | (refine nxt_s 1 rfl ?_; refine go_do (valid_fld_p tb rfl rfl rfl (by kernel_rfl)) rfl ?_)
        | refine go_do (valid_mv (.inr rfl) rfl) rfl ?_
        | refine go_do (valid_pick rfl rfl rfl) rfl ?_
        | refine go_do (valid_box rfl rfl rfl rfl rfl rfl) rfl ?_)
    | (refine hK _ ?_; clear hK K)
    | refine aw_text rfl ?_
    | refine aw_any (by kernel_rfl) (by kernel_rfl) rfl ?_
    | exact aw_ret (show resA _ _ _ = some _ by kernel_rfl)
    | refine aw_seq_k (fun K hK => ?_))
theorem addr0_ok (f : Fe) (h : U f.ad) : Ok 163 [.ag (Fe.ce f), .ag zE] (.m (ib (!f.ha))) := by
  obtain ⟨ha, ad, hs, sn⟩ := f
  cases ha with
  | false =>
    refine callOk_of 19 Tryz.func163 rfl rfl rfl rfl ?_ GG.to
    intro W A hG
    repeat (first
      | (refine go_at rfl ?_; first
          | refine go_do (valid_skip rfl) rfl ?_
          | refine go_do (valid_mv (.inl rfl) rfl) rfl ?_
          | (refine nxt_s 1 rfl ?_; refine go_do (valid_load_p tb rfl rfl rfl rfl rfl (by first | kernel_rfl | rfl)) (by first | kernel_rfl | rfl) ?_)
          | (refine nxt_s 1 rfl ?_; refine go_do (valid_fld_p tb rfl rfl rfl (by kernel_rfl)) rfl ?_)
          | refine go_do (valid_mv (.inr rfl) rfl) rfl ?_
          | refine go_do (valid_pick rfl rfl rfl) rfl ?_
          | refine go_do (valid_box rfl rfl rfl rfl rfl rfl) rfl ?_
          | refine go_do (valid_not rfl rfl rfl) rfl ?_)
      | (refine hK _ ?_; clear hK K)
      | refine aw_text rfl ?_
      | exact aw_ret (show resA _ _ _ = some _ by kernel_rfl)
      | refine aw_seq_k (fun K hK => ?_))
  | true =>
    cases hi : isv ad with
    | false =>
      refine callOk_of 19 Tryz.func163 rfl rfl rfl rfl ?_ GG.to
      intro W A hG
      repeat (first
        | (refine go_at rfl ?_; first
            | refine go_do (valid_skip rfl) rfl ?_
            | refine go_do (valid_mv (.inl rfl) rfl) rfl ?_
            | (refine nxt_s 1 rfl ?_; refine go_do (valid_load_p tb rfl rfl rfl rfl rfl (by first | kernel_rfl | rfl)) (by first | kernel_rfl | rfl) ?_)
            | (refine nxt_s 1 rfl ?_; refine go_do (valid_fld_p tb rfl rfl rfl (by kernel_rfl)) rfl ?_)
            | refine go_do (valid_mv (.inr rfl) rfl) rfl ?_
            | refine go_do (valid_pick rfl rfl rfl) rfl ?_
            | refine go_do (valid_box rfl rfl rfl rfl rfl rfl) rfl ?_
            | refine go_do (valid_not rfl rfl rfl) rfl ?_
            | refine go_do (valid_call rfl rfl rfl (hi ▸ vis_ok ad h) rfl) rfl ?_)
        | (refine hK _ ?_; clear hK K)
        | refine aw_text rfl ?_
        | exact aw_ret (show resA _ _ _ = some _ by kernel_rfl)
        | refine aw_seq_k (fun K hK => ?_))
    | true =>
      refine callOk_of 19 Tryz.func163 rfl rfl rfl rfl ?_ GG.to
      intro W A hG
      repeat (first
        | (refine go_at rfl ?_; first
            | refine go_do (valid_mv (.inl rfl) rfl) rfl ?_
            | (refine nxt_s 1 rfl ?_; refine go_do (valid_load_p tb rfl rfl rfl rfl rfl (by first | kernel_rfl | rfl)) (by first | kernel_rfl | rfl) ?_)
            | (refine nxt_s 1 rfl ?_; refine go_do (valid_fld_p tb rfl rfl rfl (by kernel_rfl)) rfl ?_)
            | refine go_do (valid_mv (.inr rfl) rfl) rfl ?_
            | refine go_do (valid_pick rfl rfl rfl) rfl ?_
            | refine go_do (valid_box rfl rfl rfl rfl rfl rfl) rfl ?_
            | refine go_do (valid_not rfl rfl rfl) rfl ?_
            | refine go_do (valid_call rfl rfl rfl (hi ▸ vis_ok ad h) rfl) rfl ?_
            | refine go_do (valid_call rfl rfl rfl (covers0_ok ad) rfl) rfl ?_)
        | (refine hK _ ?_; clear hK K)
        | refine aw_text rfl ?_
        | exact aw_ret (show resA _ _ _ = some _ by kernel_rfl)
        | refine aw_seq_k (fun K hK => ?_))
theorem asid0_ok (f : Fe) : Ok 165 [.ag (Fe.ce f), .ag zE] (.m (ib (!f.hs || (0 == f.sn)))) := by
  obtain ⟨ha, ad, hs, sn⟩ := f
  cases hs with
  | false =>
    refine callOk_of 20 Tryz.func165 rfl rfl rfl rfl ?_ GG.to
    intro W A hG
    repeat (first
      | (refine go_at rfl ?_; first
          | refine go_do (valid_skip rfl) rfl ?_
          | refine go_do (valid_mv (.inl rfl) rfl) rfl ?_
          | (refine nxt_s 1 rfl ?_; refine go_do (valid_load_p tb rfl rfl rfl rfl rfl (by first | kernel_rfl | rfl)) (by first | kernel_rfl | rfl) ?_)
          | (refine nxt_s 1 rfl ?_; refine go_do (valid_fld_p tb rfl rfl rfl (by kernel_rfl)) rfl ?_)
          | refine go_do (valid_mv (.inr rfl) rfl) rfl ?_
          | refine go_do (valid_pick rfl rfl rfl) rfl ?_
          | refine go_do (valid_box rfl rfl rfl rfl rfl rfl) rfl ?_
          | refine go_do (valid_not rfl rfl rfl) rfl ?_)
      | (refine hK _ ?_; clear hK K)
      | refine aw_text rfl ?_
      | exact aw_ret (show resA _ _ _ = some _ by kernel_rfl)
      | refine aw_seq_k (fun K hK => ?_))
  | true =>
    refine callOk_of 20 Tryz.func165 rfl rfl rfl rfl ?_ GG.to
    intro W A hG
    repeat (first
      | (refine go_at rfl ?_; first
          | refine go_do (valid_mv (.inl rfl) rfl) rfl ?_
          | (refine nxt_s 1 rfl ?_; refine go_do (valid_load_p tb rfl rfl rfl rfl rfl (by first | kernel_rfl | rfl)) (by first | kernel_rfl | rfl) ?_)
          | (refine nxt_s 1 rfl ?_; refine go_do (valid_fld_p tb rfl rfl rfl (by kernel_rfl)) rfl ?_)
          | refine go_do (valid_mv (.inr rfl) rfl) rfl ?_
          | refine go_do (valid_pick rfl rfl rfl) rfl ?_
          | refine go_do (valid_cmp rfl rfl rfl rfl (by first | exact .eql1 (by omega) | exact .eql0 (by omega) | exact .neq1 (by omega) | exact .neq0 (by omega) | exact .lss1 (by omega) | exact .lss0 (by omega) | exact .leq1 (by omega) | exact .leq0 (by omega) | exact .gtr1 (by omega) | exact .gtr0 (by omega) | exact .geq1 (by omega) | exact .geq0 (by omega) | constructor)) rfl ?_
          | refine go_do (valid_box rfl rfl rfl rfl rfl rfl) rfl ?_
          | refine go_do (valid_not rfl rfl rfl) rfl ?_)
      | (refine hK _ ?_; clear hK K)
      | refine aw_text rfl ?_
      | exact aw_ret (show resA _ _ _ = some _ by kernel_rfl)
      | refine aw_seq_k (fun K hK => ?_))
theorem names0_ok (f : Fe) (h : U f.ad) : Ok 105 [.ag (Fe.ce f), .ag zE] (.m (ib false)) := by
  refine callOk_of 21 Tryz.func105 rfl rfl rfl rfl ?_ GG.to
  intro W A hG
  obtain ⟨b, o, c, g1, g2, g3⟩ := (hG W (Below.refl _ _)).k
  have q1 : ∀ w, Below W.heap.size W w → w.cell? ⟨2, 0, none⟩ = some (.slice (some ⟨b, o, none⟩) 2 c) := fun w hb => (hb.cell (p := ⟨2, 0, none⟩) (block_lt_of_cell g1)).trans g1
  have q2 : ∀ w, Below W.heap.size W w → w.cell? ⟨b, o, none⟩ = some (askF 0) := fun w hb => (hb.cell (p := ⟨b, o, none⟩) (block_lt_of_cell g2)).trans g2
  have q3 : ∀ w, Below W.heap.size W w → w.cell? ⟨b, o + 1, none⟩ = some (askF 1) := fun w hb => (hb.cell (p := ⟨b, o + 1, none⟩) (block_lt_of_cell g3)).trans g3
  repeat (first
    | (refine go_at rfl ?_; first
        | refine go_do (valid_mv (.inl rfl) rfl) rfl ?_
        | refine go_do (valid_mv (.inr rfl) rfl) rfl ?_
        | refine go_do (valid_box rfl rfl rfl rfl rfl rfl) rfl ?_
        | refine go_do (valid_len_v rfl rfl rfl rfl) rfl ?_
        | refine go_do (valid_load_v rfl rfl rfl rfl rfl q1) rfl ?_)
    | (refine hK _ ?_; clear hK K)
    | refine aw_text rfl ?_
    | refine aw_block ?_
    | refine aw_seq_k (fun K hK => ?_))
  refine aw_loopH (α := Nat) (fun i => i ≤ 2) (fun i => St.of [(2, .m (.c (.p 2 0))), (3, .m (.c (.p 3 0))), (7, .m (.c (.v (.slice (some ⟨b, o, none⟩) 2 c)))), (8, .m (ii 2)), (9, .m (ii i))] [(2, .live (.box (Fe.ce f))), (3, .live (.box zE))]) (fun i => 2 - i) 0 (by omega) (sub_of _ _ ⟨rfl, rfl, rfl, rfl, rfl, trivial⟩ ⟨rfl, rfl, trivial⟩ rfl) ?_
  intro i hi
  rcases (by omega : i = 0 ∨ i = 1 ∨ i = 2) with rfl | rfl | rfl
  · skip
    repeat (first
      | (refine go_at rfl ?_; first
          | refine go_do (valid_mv (.inl rfl) rfl) rfl ?_
          | (refine nxt_s 1 rfl ?_; refine go_do (valid_load_p tb rfl rfl rfl rfl rfl (by first | kernel_rfl | rfl)) (by first | kernel_rfl | rfl) ?_)
          | refine go_do (valid_mv (.inr rfl) rfl) rfl ?_
          | refine go_do (valid_cmp rfl rfl rfl rfl (by first | exact .eql1 (by omega) | exact .eql0 (by omega) | exact .neq1 (by omega) | exact .neq0 (by omega) | exact .lss1 (by omega) | exact .lss0 (by omega) | exact .leq1 (by omega) | exact .leq0 (by omega) | exact .gtr1 (by omega) | exact .gtr0 (by omega) | exact .geq1 (by omega) | exact .geq0 (by omega) | constructor)) rfl ?_
          | refine go_do (valid_not rfl rfl rfl) rfl ?_
          | refine go_do (valid_load_v rfl rfl rfl rfl rfl q2) rfl ?_
          | refine go_do (valid_idx_v rfl rfl rfl rfl rfl rfl (by omega) (by omega)) rfl ?_
          | refine go_do (valid_call_f rfl rfl rfl rfl (addr0_ok f h) rfl) rfl ?_)
      | (refine hK _ ?_; clear hK K)
      | refine aw_text rfl ?_
      | refine aw_cond1 rfl rfl ?_
      | refine aw_block ?_
      | refine aw_skip ?_
      | refine aw_seq_k (fun K hK => ?_))
    refine aw_cond rfl rfl (fun hc => ?_) (fun hc => ?_)
    · skip
      repeat (first
        | (refine go_at rfl ?_; first
            | refine go_do (valid_mv (.inr rfl) rfl) rfl ?_)
        | (refine hK _ ?_; clear hK K)
        | refine aw_text rfl ?_
        | exact aw_ret (show resA _ _ _ = some _ by kernel_rfl)
        | refine aw_seq_k (fun K hK => ?_))
    · skip
      repeat (first
        | (refine go_at rfl ?_; first
            | refine go_do (valid_mv (.inl rfl) rfl) rfl ?_
            | refine go_do (valid_ar rfl rfl rfl rfl (by constructor) (by first | exact wr_u64 (by omega) (by omega) | exact wr_i64 (by omega) (by omega) | rfl)) rfl ?_)
        | (refine hK _ ?_; clear hK K)
        | refine aw_text rfl ?_
        | refine aw_skip ?_)
      exact ⟨1, by omega, by omega, sub_of _ _ ⟨rfl, rfl, rfl, rfl, rfl, trivial⟩ ⟨rfl, rfl, trivial⟩ rfl⟩
  · skip
    repeat (first
      | (refine go_at rfl ?_; first
          | refine go_do (valid_mv (.inl rfl) rfl) rfl ?_
          | (refine nxt_s 1 rfl ?_; refine go_do (valid_load_p tb rfl rfl rfl rfl rfl (by first | kernel_rfl | rfl)) (by first | kernel_rfl | rfl) ?_)
          | refine go_do (valid_mv (.inr rfl) rfl) rfl ?_
          | refine go_do (valid_cmp rfl rfl rfl rfl (by first | exact .eql1 (by omega) | exact .eql0 (by omega) | exact .neq1 (by omega) | exact .neq0 (by omega) | exact .lss1 (by omega) | exact .lss0 (by omega) | exact .leq1 (by omega) | exact .leq0 (by omega) | exact .gtr1 (by omega) | exact .gtr0 (by omega) | exact .geq1 (by omega) | exact .geq0 (by omega) | constructor)) rfl ?_
          | refine go_do (valid_not rfl rfl rfl) rfl ?_
          | refine go_do (valid_load_v rfl rfl rfl rfl rfl q3) rfl ?_
          | refine go_do (valid_idx_v rfl rfl rfl rfl rfl rfl (by omega) (by omega)) rfl ?_
          | refine go_do (valid_call_f rfl rfl rfl rfl (asid0_ok f) rfl) rfl ?_)
      | (refine hK _ ?_; clear hK K)
      | refine aw_text rfl ?_
      | refine aw_cond1 rfl rfl ?_
      | refine aw_block ?_
      | refine aw_skip ?_
      | refine aw_seq_k (fun K hK => ?_))
    refine aw_cond rfl rfl (fun hc => ?_) (fun hc => ?_)
    · skip
      repeat (first
        | (refine go_at rfl ?_; first
            | refine go_do (valid_mv (.inr rfl) rfl) rfl ?_)
        | (refine hK _ ?_; clear hK K)
        | refine aw_text rfl ?_
        | exact aw_ret (show resA _ _ _ = some _ by kernel_rfl)
        | refine aw_seq_k (fun K hK => ?_))
    · skip
      repeat (first
        | (refine go_at rfl ?_; first
            | refine go_do (valid_mv (.inl rfl) rfl) rfl ?_
            | refine go_do (valid_ar rfl rfl rfl rfl (by constructor) (by first | exact wr_u64 (by omega) (by omega) | exact wr_i64 (by omega) (by omega) | rfl)) rfl ?_)
        | (refine hK _ ?_; clear hK K)
        | refine aw_text rfl ?_
        | refine aw_skip ?_)
      exact ⟨2, by omega, by omega, sub_of _ _ ⟨rfl, rfl, rfl, rfl, rfl, trivial⟩ ⟨rfl, rfl, trivial⟩ rfl⟩
  · skip
    repeat (first
      | (refine go_at rfl ?_; first
          | (refine nxt_s 1 rfl ?_; refine go_do (valid_load_p tb rfl rfl rfl rfl rfl (by first | kernel_rfl | rfl)) (by first | kernel_rfl | rfl) ?_)
          | (refine nxt_s 1 rfl ?_; refine go_do (valid_fld_p tb rfl rfl rfl (by kernel_rfl)) rfl ?_)
          | refine go_do (valid_mv (.inr rfl) rfl) rfl ?_
          | refine go_do (valid_cmp rfl rfl rfl rfl (by first | exact .eql1 (by omega) | exact .eql0 (by omega) | exact .neq1 (by omega) | exact .neq0 (by omega) | exact .lss1 (by omega) | exact .lss0 (by omega) | exact .leq1 (by omega) | exact .leq0 (by omega) | exact .gtr1 (by omega) | exact .gtr0 (by omega) | exact .geq1 (by omega) | exact .geq0 (by omega) | constructor)) rfl ?_)
      | (refine hK _ ?_; clear hK K)
      | (rename_i K1 hK1; refine hK1 _ ?_; clear hK hK1; clear K)
      | refine aw_text rfl ?_
      | exact aw_ret (show resA _ _ _ = some _ by kernel_rfl)
      | refine aw_cond0 rfl rfl ?_
      | refine aw_exit ?_
      | refine aw_seq_k (fun K hK => ?_))
def zEv : List Value := [.bool false, .int .u64 0, .bool false, .int .i64 0, .int .u64 0, .int .u64 0, .bool false, .bool false, .bool false, .bool false, .bool false]
def zS : List Value := zEv ++ zEv ++ zEv ++ zEv ++ [.int .u8 0]
def zsL (n : Nat) : List Value := (List.replicate n ()).flatMap (fun _ => zS)
theorem zsL_at (n k : Nat) (h : k < n) : ((zsL n).drop (k * 45)).take 45 = [.bool false, .int .u64 0, .bool false, .int .i64 0, .int .u64 0, .int .u64 0, .bool false, .bool false, .bool false, .bool false, .bool false, .bool false, .int .u64 0, .bool false, .int .i64 0, .int .u64 0, .int .u64 0, .bool false, .bool false, .bool false, .bool false, .bool false, .bool false, .int .u64 0, .bool false, .int .i64 0, .int .u64 0, .int .u64 0, .bool false, .bool false, .bool false, .bool false, .bool false, .bool false, .int .u64 0, .bool false, .int .i64 0, .int .u64 0, .int .u64 0, .bool false, .bool false, .bool false, .bool false, .bool false, .int .u8 0] :=
  flat_at (fun _ => zS) 45 (fun _ => rfl) (List.replicate n ()) k () (by rw [List.getElem?_replicate, if_pos h])
theorem zsL_one (n : Nat) : (zsL n).all (·.oneCell') = true := by
  rw [List.all_eq_true]
  intro v hv
  obtain ⟨_, _, hv⟩ := List.mem_flatMap.1 hv
  exact List.all_eq_true.1 (show zS.all (·.oneCell') = true from rfl) v hv
def zs44 : List Ce := (zEv ++ zEv ++ zEv ++ zEv).map .v
theorem do0_ok (f : Fe) (h : U f.ad) (n : Nat) (hn : n ≤ 16) : Ok 81 [.ag [.s n 45 (zsL n)], .ag (Fe.ce f)] (.m (.ag [.s n 45 (zsL n)])) := by
  refine callOk_of 40 Tryz.func81 rfl rfl rfl rfl ?_ GG.to
  intro W A hG
  repeat (first
    | (refine go_at rfl ?_; first
        | refine go_do (valid_mv (.inl rfl) rfl) rfl ?_
        | (refine nxt_s 1 rfl ?_; refine go_do (valid_load_p tb rfl rfl rfl rfl rfl (by first | kernel_rfl | rfl)) (by first | kernel_rfl | rfl) ?_)
        | (refine nxt_s 1 rfl ?_; refine go_do (valid_fld_p tb rfl rfl rfl (by kernel_rfl)) rfl ?_)
        | refine go_do (valid_box rfl rfl rfl rfl rfl rfl) rfl ?_
        | refine go_do (valid_alloc rfl rfl rfl rfl rfl) rfl ?_
        | refine go_do (valid_len_s rfl rfl rfl rfl) rfl ?_)
    | (refine hK _ ?_; clear hK K)
    | refine aw_text rfl ?_
    | refine aw_block ?_
    | refine aw_seq_k (fun K hK => ?_))
  refine aw_loopH (α := Nat) (fun k => k ≤ n) (fun k => St.of [(2, .m (.c (.p 2 0))), (3, .m (.c (.p 3 0))), (4, .m (.c (.p 4 0))), (10, .m (.c (.s n 45 (zsL n)))), (11, .m (ii n)), (12, .m (ii k))] [(2, .live (.box [.s n 45 (zsL n)])), (3, .live (.box (Fe.ce f))), (4, .live (.box [.v (.slice none 0 0)]))]) (fun k => n - k) 0 (by omega) (sub_of _ _ ⟨rfl, rfl, rfl, rfl, rfl, rfl, trivial⟩ ⟨rfl, rfl, rfl, trivial⟩ rfl) ?_
  intro k hk
  by_cases hlt : k < n
  · have hx := zsL_at n k hlt
    repeat (first
      | (refine go_at rfl ?_; first
          | refine go_do (valid_mv (.inl rfl) rfl) rfl ?_
          | (refine nxt_s 1 rfl ?_; refine go_do (valid_load_p tb rfl rfl rfl rfl rfl (by first | kernel_rfl | rfl)) (by first | kernel_rfl | rfl) ?_)
          | (refine nxt_s 1 rfl ?_; refine go_do (valid_fld_p tb rfl rfl rfl (by kernel_rfl)) rfl ?_)
          | refine go_do (valid_mv (.inr rfl) rfl) rfl ?_
          | refine go_do (valid_cmp rfl rfl rfl rfl (by first | exact .eql1 (by omega) | exact .eql0 (by omega) | exact .neq1 (by omega) | exact .neq0 (by omega) | exact .lss1 (by omega) | exact .lss0 (by omega) | exact .leq1 (by omega) | exact .leq0 (by omega) | exact .gtr1 (by omega) | exact .gtr0 (by omega) | exact .geq1 (by omega) | exact .geq0 (by omega) | constructor)) rfl ?_
          | refine go_do (valid_alloc rfl rfl rfl rfl rfl) rfl ?_
          | (refine nxt_s 1 rfl ?_; refine go_do (valid_store_p rfl rfl rfl rfl rfl rfl (by first | kernel_rfl | rfl) rfl) (by first | kernel_rfl | rfl) ?_)
          | (refine nxt_s 3 rfl ?_; refine go_do (valid_load_q tb rfl rfl rfl rfl (by first | kernel_rfl | rfl)) rfl ?_)
          | (refine nxt_s 4 rfl ?_; refine go_do (valid_idx_s rfl rfl rfl rfl rfl rfl (by omega) (by omega) _ (by assumption)) rfl ?_))
      | (refine hK _ ?_; clear hK K)
      | refine aw_text rfl ?_
      | refine aw_cond1 rfl rfl ?_
      | refine aw_block ?_
      | refine aw_skip ?_
      | refine aw_seq_k (fun K hK => ?_))
    refine aw_loopH (α := Nat) (fun w => w ≤ 4) (fun w => St.of [(2, .m (.c (.p 2 0))), (3, .m (.c (.p 3 0))), (4, .m (.c (.p 4 0))), (10, .m (.c (.s n 45 (zsL n)))), (11, .m (ii n)), (12, .m (ii k)), (18, .m (.ag zs44)), (19, .m (ii w))] [(2, .live (.box [.s n 45 (zsL n)])), (3, .live (.box (Fe.ce f))), (4, .live (.box [.v (.slice none 0 0)]))]) (fun w => 4 - w) 0 (by omega) (sub_of _ _ ⟨rfl, rfl, rfl, rfl, rfl, rfl, rfl, rfl, trivial⟩ ⟨rfl, rfl, rfl, trivial⟩ rfl) ?_
    intro w hw
    rcases (by omega : w = 0 ∨ w = 1 ∨ w = 2 ∨ w = 3 ∨ w = 4) with rfl | rfl | rfl | rfl | rfl
    · skip
      repeat (first
        | (refine go_at rfl ?_; first
            | refine go_do (valid_mv (.inl rfl) rfl) rfl ?_
            | (refine nxt_s 1 rfl ?_; refine go_do (valid_load_p tb rfl rfl rfl rfl rfl (by first | kernel_rfl | rfl)) (by first | kernel_rfl | rfl) ?_)
            | refine go_do (valid_mv (.inr rfl) rfl) rfl ?_
            | refine go_do (valid_cmp rfl rfl rfl rfl (by first | exact .eql1 (by omega) | exact .eql0 (by omega) | exact .neq1 (by omega) | exact .neq0 (by omega) | exact .lss1 (by omega) | exact .lss0 (by omega) | exact .leq1 (by omega) | exact .leq0 (by omega) | exact .gtr1 (by omega) | exact .gtr0 (by omega) | exact .geq1 (by omega) | exact .geq0 (by omega) | constructor)) rfl ?_
            | refine go_do (valid_ar rfl rfl rfl rfl (by constructor) (by first | exact wr_u64 (by omega) (by omega) | exact wr_i64 (by omega) (by omega) | rfl)) rfl ?_
            | refine go_do (valid_alloc rfl rfl rfl rfl rfl) rfl ?_
            | (refine nxt_s 1 rfl ?_; refine go_do (valid_store_p rfl rfl rfl rfl rfl rfl (by first | kernel_rfl | rfl) rfl) (by first | kernel_rfl | rfl) ?_)
            | refine go_do (valid_index tb rfl rfl rfl rfl rfl rfl (by omega) (by omega) rfl) rfl ?_
            | refine go_do (valid_call rfl rfl rfl (names0_ok f h) rfl) rfl ?_)
        | (refine hK _ ?_; clear hK K)
        | refine aw_text rfl ?_
        | refine aw_cond1 rfl rfl ?_
        | refine aw_cond0 rfl rfl ?_
        | refine aw_block ?_
        | refine aw_skip ?_
        | refine aw_seq_k (fun K hK => ?_))
      exact ⟨1, by omega, by omega, sub_of _ _ ⟨rfl, rfl, rfl, rfl, rfl, rfl, rfl, rfl, trivial⟩ ⟨rfl, rfl, rfl, trivial⟩ rfl⟩
    · skip
      repeat (first
        | (refine go_at rfl ?_; first
            | refine go_do (valid_mv (.inl rfl) rfl) rfl ?_
            | (refine nxt_s 1 rfl ?_; refine go_do (valid_load_p tb rfl rfl rfl rfl rfl (by first | kernel_rfl | rfl)) (by first | kernel_rfl | rfl) ?_)
            | refine go_do (valid_mv (.inr rfl) rfl) rfl ?_
            | refine go_do (valid_cmp rfl rfl rfl rfl (by first | exact .eql1 (by omega) | exact .eql0 (by omega) | exact .neq1 (by omega) | exact .neq0 (by omega) | exact .lss1 (by omega) | exact .lss0 (by omega) | exact .leq1 (by omega) | exact .leq0 (by omega) | exact .gtr1 (by omega) | exact .gtr0 (by omega) | exact .geq1 (by omega) | exact .geq0 (by omega) | constructor)) rfl ?_
            | refine go_do (valid_ar rfl rfl rfl rfl (by constructor) (by first | exact wr_u64 (by omega) (by omega) | exact wr_i64 (by omega) (by omega) | rfl)) rfl ?_
            | refine go_do (valid_alloc rfl rfl rfl rfl rfl) rfl ?_
            | (refine nxt_s 1 rfl ?_; refine go_do (valid_store_p rfl rfl rfl rfl rfl rfl (by first | kernel_rfl | rfl) rfl) (by first | kernel_rfl | rfl) ?_)
            | refine go_do (valid_index tb rfl rfl rfl rfl rfl rfl (by omega) (by omega) rfl) rfl ?_
            | refine go_do (valid_call rfl rfl rfl (names0_ok f h) rfl) rfl ?_)
        | (refine hK _ ?_; clear hK K)
        | refine aw_text rfl ?_
        | refine aw_cond1 rfl rfl ?_
        | refine aw_cond0 rfl rfl ?_
        | refine aw_block ?_
        | refine aw_skip ?_
        | refine aw_seq_k (fun K hK => ?_))
      exact ⟨2, by omega, by omega, sub_of _ _ ⟨rfl, rfl, rfl, rfl, rfl, rfl, rfl, rfl, trivial⟩ ⟨rfl, rfl, rfl, trivial⟩ rfl⟩
    · skip
      repeat (first
        | (refine go_at rfl ?_; first
            | refine go_do (valid_mv (.inl rfl) rfl) rfl ?_
            | (refine nxt_s 1 rfl ?_; refine go_do (valid_load_p tb rfl rfl rfl rfl rfl (by first | kernel_rfl | rfl)) (by first | kernel_rfl | rfl) ?_)
            | refine go_do (valid_mv (.inr rfl) rfl) rfl ?_
            | refine go_do (valid_cmp rfl rfl rfl rfl (by first | exact .eql1 (by omega) | exact .eql0 (by omega) | exact .neq1 (by omega) | exact .neq0 (by omega) | exact .lss1 (by omega) | exact .lss0 (by omega) | exact .leq1 (by omega) | exact .leq0 (by omega) | exact .gtr1 (by omega) | exact .gtr0 (by omega) | exact .geq1 (by omega) | exact .geq0 (by omega) | constructor)) rfl ?_
            | refine go_do (valid_ar rfl rfl rfl rfl (by constructor) (by first | exact wr_u64 (by omega) (by omega) | exact wr_i64 (by omega) (by omega) | rfl)) rfl ?_
            | refine go_do (valid_alloc rfl rfl rfl rfl rfl) rfl ?_
            | (refine nxt_s 1 rfl ?_; refine go_do (valid_store_p rfl rfl rfl rfl rfl rfl (by first | kernel_rfl | rfl) rfl) (by first | kernel_rfl | rfl) ?_)
            | refine go_do (valid_index tb rfl rfl rfl rfl rfl rfl (by omega) (by omega) rfl) rfl ?_
            | refine go_do (valid_call rfl rfl rfl (names0_ok f h) rfl) rfl ?_)
        | (refine hK _ ?_; clear hK K)
        | refine aw_text rfl ?_
        | refine aw_cond1 rfl rfl ?_
        | refine aw_cond0 rfl rfl ?_
        | refine aw_block ?_
        | refine aw_skip ?_
        | refine aw_seq_k (fun K hK => ?_))
      exact ⟨3, by omega, by omega, sub_of _ _ ⟨rfl, rfl, rfl, rfl, rfl, rfl, rfl, rfl, trivial⟩ ⟨rfl, rfl, rfl, trivial⟩ rfl⟩
    · skip
      repeat (first
        | (refine go_at rfl ?_; first
            | refine go_do (valid_mv (.inl rfl) rfl) rfl ?_
            | (refine nxt_s 1 rfl ?_; refine go_do (valid_load_p tb rfl rfl rfl rfl rfl (by first | kernel_rfl | rfl)) (by first | kernel_rfl | rfl) ?_)
            | refine go_do (valid_mv (.inr rfl) rfl) rfl ?_
            | refine go_do (valid_cmp rfl rfl rfl rfl (by first | exact .eql1 (by omega) | exact .eql0 (by omega) | exact .neq1 (by omega) | exact .neq0 (by omega) | exact .lss1 (by omega) | exact .lss0 (by omega) | exact .leq1 (by omega) | exact .leq0 (by omega) | exact .gtr1 (by omega) | exact .gtr0 (by omega) | exact .geq1 (by omega) | exact .geq0 (by omega) | constructor)) rfl ?_
            | refine go_do (valid_ar rfl rfl rfl rfl (by constructor) (by first | exact wr_u64 (by omega) (by omega) | exact wr_i64 (by omega) (by omega) | rfl)) rfl ?_
            | refine go_do (valid_alloc rfl rfl rfl rfl rfl) rfl ?_
            | (refine nxt_s 1 rfl ?_; refine go_do (valid_store_p rfl rfl rfl rfl rfl rfl (by first | kernel_rfl | rfl) rfl) (by first | kernel_rfl | rfl) ?_)
            | refine go_do (valid_index tb rfl rfl rfl rfl rfl rfl (by omega) (by omega) rfl) rfl ?_
            | refine go_do (valid_call rfl rfl rfl (names0_ok f h) rfl) rfl ?_)
        | (refine hK _ ?_; clear hK K)
        | refine aw_text rfl ?_
        | refine aw_cond1 rfl rfl ?_
        | refine aw_cond0 rfl rfl ?_
        | refine aw_block ?_
        | refine aw_skip ?_
        | refine aw_seq_k (fun K hK => ?_))
      exact ⟨4, by omega, by omega, sub_of _ _ ⟨rfl, rfl, rfl, rfl, rfl, rfl, rfl, rfl, trivial⟩ ⟨rfl, rfl, rfl, trivial⟩ rfl⟩
    · skip
      repeat (first
        | (refine go_at rfl ?_; first
            | refine go_do (valid_mv (.inl rfl) rfl) rfl ?_
            | refine go_do (valid_cmp rfl rfl rfl rfl (by first | exact .eql1 (by omega) | exact .eql0 (by omega) | exact .neq1 (by omega) | exact .neq0 (by omega) | exact .lss1 (by omega) | exact .lss0 (by omega) | exact .leq1 (by omega) | exact .leq0 (by omega) | exact .gtr1 (by omega) | exact .gtr0 (by omega) | exact .geq1 (by omega) | exact .geq0 (by omega) | constructor)) rfl ?_
            | refine go_do (valid_ar rfl rfl rfl rfl (by constructor) (by first | exact wr_u64 (by omega) (by omega) | exact wr_i64 (by omega) (by omega) | rfl)) rfl ?_)
        | (refine hK _ ?_; clear hK K)
        | (rename_i K1 hK1; refine hK1 _ ?_; clear hK hK1; clear K)
        | refine aw_text rfl ?_
        | refine aw_cond0 rfl rfl ?_
        | refine aw_exit ?_
        | refine aw_seq_k (fun K hK => ?_))
      exact ⟨k + 1, by omega, by omega, sub_of _ _ ⟨rfl, rfl, rfl, rfl, rfl, rfl, trivial⟩ ⟨rfl, rfl, rfl, trivial⟩ rfl⟩
  · skip
    repeat (first
      | (refine go_at rfl ?_; first
          | (refine nxt_s 1 rfl ?_; refine go_do (valid_load_p tb rfl rfl rfl rfl rfl (by first | kernel_rfl | rfl)) (by first | kernel_rfl | rfl) ?_)
          | (refine nxt_s 1 rfl ?_; refine go_do (valid_fld_p tb rfl rfl rfl (by kernel_rfl)) rfl ?_)
          | refine go_do (valid_cmp rfl rfl rfl rfl (by first | exact .eql1 (by omega) | exact .eql0 (by omega) | exact .neq1 (by omega) | exact .neq0 (by omega) | exact .lss1 (by omega) | exact .lss0 (by omega) | exact .leq1 (by omega) | exact .leq0 (by omega) | exact .gtr1 (by omega) | exact .gtr0 (by omega) | exact .geq1 (by omega) | exact .geq0 (by omega) | constructor)) rfl ?_
          | (refine nxt_s 1 rfl ?_; refine go_do (valid_store_p rfl rfl rfl rfl rfl rfl (by first | kernel_rfl | rfl) rfl) (by first | kernel_rfl | rfl) ?_)
          | refine go_do (valid_build rfl rfl rfl rfl) rfl ?_
          | refine go_do (valid_bslice0 rfl rfl rfl rfl rfl rfl rfl) rfl ?_
          | refine go_do (valid_app_e rfl rfl rfl rfl rfl rfl rfl rfl rfl rfl rfl rfl (zsL_one n) (by omega)) rfl ?_)
      | (refine hK _ ?_; clear hK K)
      | (rename_i K1 hK1; refine hK1 _ ?_; clear hK hK1; clear K)
      | refine aw_text rfl ?_
      | exact aw_ret (show resA _ _ _ = some _ by kernel_rfl)
      | refine aw_cond0 rfl rfl ?_
      | refine aw_exit ?_
      | refine aw_seq_k (fun K hK => ?_))
theorem flF_one (l : List Fe) : (flF l).all (·.oneCell') = true := by
  rw [List.all_eq_true]
  intro v hv
  obtain ⟨f, _, hv⟩ := List.mem_flatMap.1 hv
  exact List.all_eq_true.1 (show f.vs.all (·.oneCell') = true from rfl) v hv
theorem flF_at {l : List Fe} {k : Nat} {f : Fe} (h : l[k]? = some f) : ((flF l).drop (k * 4)).take 4 = [.bool f.ha, .int .u64 f.ad, .bool f.hs, .int .u64 f.sn] := flat_at Fe.vs 4 (fun _ => rfl) l _ f h
theorem all0_ok (l : List Fe) (h : ∀ f ∈ l, U f.ad) (hl : l.length ≤ 1000000) (n : Nat) (hn : n ≤ 16) : Ok 45 [.ag [.s n 45 (zsL n)], .c (.s l.length 4 (flF l))] (.m (.ag [.s n 45 (zsL n)])) := by
  refine callOk_of 23 Tryz.func45 rfl rfl rfl rfl ?_ GG.to
  intro W A hG
  repeat (first
    | (refine go_at rfl ?_; first
        | refine go_do (valid_mv (.inl rfl) rfl) rfl ?_
        | (refine nxt_s 1 rfl ?_; refine go_do (valid_load_p tb rfl rfl rfl rfl rfl (by first | kernel_rfl | rfl)) (by first | kernel_rfl | rfl) ?_)
        | (refine nxt_s 1 rfl ?_; refine go_do (valid_fld_p tb rfl rfl rfl (by kernel_rfl)) rfl ?_)
        | refine go_do (valid_box rfl rfl rfl rfl rfl rfl) rfl ?_
        | refine go_do (valid_alloc rfl rfl rfl rfl rfl) rfl ?_
        | (refine nxt_s 1 rfl ?_; refine go_do (valid_store_p rfl rfl rfl rfl rfl rfl (by first | kernel_rfl | rfl) rfl) (by first | kernel_rfl | rfl) ?_)
        | refine go_do (valid_len_s rfl rfl rfl rfl) rfl ?_
        | refine go_do (valid_build rfl rfl rfl rfl) rfl ?_
        | refine go_do (valid_bslice0 rfl rfl rfl rfl rfl rfl rfl) rfl ?_
        | refine go_do (valid_app_e rfl rfl rfl rfl rfl rfl rfl rfl rfl rfl rfl rfl (zsL_one n) (by omega)) rfl ?_)
    | (refine hK _ ?_; clear hK K)
    | refine aw_text rfl ?_
    | refine aw_block ?_
    | refine aw_seq_k (fun K hK => ?_))
  refine aw_loopH (α := Nat) (fun k => k ≤ l.length) (fun k => St.of [(2, .m (.c (.p 2 0))), (4, .m (.c (.p 4 0))), (12, .m (.c (.s l.length 4 (flF l)))), (13, .m (ii l.length)), (14, .m (ii k))] [(2, .live (.box [.s n 45 (zsL n)])), (4, .live (.box [.v (.slice none 0 0)]))]) (fun k => l.length - k) 0 (by omega) (Sub.trans (sub_fr (b := 10) rfl) (sub_of _ _ ⟨rfl, rfl, rfl, rfl, rfl, trivial⟩ ⟨rfl, rfl, trivial⟩ rfl)) ?_
  intro k hk
  by_cases hlt : k < l.length
  · obtain ⟨f, hf⟩ : ∃ f, l[k]? = some f := ⟨_, List.getElem?_eq_getElem hlt⟩
    have hx := flF_at hf
    repeat (first
      | (refine go_at rfl ?_; first
          | refine go_do (valid_mv (.inl rfl) rfl) rfl ?_
          | (refine nxt_s 1 rfl ?_; refine go_do (valid_load_p tb rfl rfl rfl rfl rfl (by first | kernel_rfl | rfl)) (by first | kernel_rfl | rfl) ?_)
          | refine go_do (valid_cmp rfl rfl rfl rfl (by first | exact .eql1 (by omega) | exact .eql0 (by omega) | exact .neq1 (by omega) | exact .neq0 (by omega) | exact .lss1 (by omega) | exact .lss0 (by omega) | exact .leq1 (by omega) | exact .leq0 (by omega) | exact .gtr1 (by omega) | exact .gtr0 (by omega) | exact .geq1 (by omega) | exact .geq0 (by omega) | constructor)) rfl ?_
          | refine go_do (valid_ar rfl rfl rfl rfl (by constructor) (by first | exact wr_u64 (by omega) (by omega) | exact wr_i64 (by omega) (by omega) | rfl)) rfl ?_
          | refine go_do (valid_alloc rfl rfl rfl rfl rfl) rfl ?_
          | (refine nxt_s 1 rfl ?_; refine go_do (valid_store_p rfl rfl rfl rfl rfl rfl (by first | kernel_rfl | rfl) rfl) (by first | kernel_rfl | rfl) ?_)
          | (refine nxt_s 3 rfl ?_; refine go_do (valid_load_q tb rfl rfl rfl rfl (by first | kernel_rfl | rfl)) rfl ?_)
          | (refine nxt_s 4 rfl ?_; refine go_do (valid_idx_s rfl rfl rfl rfl rfl rfl (by omega) (by omega) _ (by assumption)) rfl ?_)
          | refine go_do (valid_call rfl rfl rfl (do0_ok f (h f (List.mem_of_getElem? hf)) n hn) rfl) rfl ?_)
      | (refine hK _ ?_; clear hK K)
      | refine aw_text rfl ?_
      | refine aw_cond1 rfl rfl ?_
      | refine aw_block ?_
      | refine aw_skip ?_
      | refine aw_seq_k (fun K hK => ?_))
    exact ⟨k + 1, by omega, by omega, sub_of _ _ ⟨rfl, rfl, rfl, rfl, rfl, trivial⟩ ⟨rfl, rfl, trivial⟩ rfl⟩
  · skip
    repeat (first
      | (refine go_at rfl ?_; first
          | (refine nxt_s 1 rfl ?_; refine go_do (valid_load_p tb rfl rfl rfl rfl rfl (by first | kernel_rfl | rfl)) (by first | kernel_rfl | rfl) ?_)
          | refine go_do (valid_cmp rfl rfl rfl rfl (by first | exact .eql1 (by omega) | exact .eql0 (by omega) | exact .neq1 (by omega) | exact .neq0 (by omega) | exact .lss1 (by omega) | exact .lss0 (by omega) | exact .leq1 (by omega) | exact .leq0 (by omega) | exact .gtr1 (by omega) | exact .gtr0 (by omega) | exact .geq1 (by omega) | exact .geq0 (by omega) | constructor)) rfl ?_
          | (refine nxt_s 1 rfl ?_; refine go_do (valid_store_p rfl rfl rfl rfl rfl rfl (by first | kernel_rfl | rfl) rfl) (by first | kernel_rfl | rfl) ?_))
      | (refine hK _ ?_; clear hK K)
      | (rename_i K1 hK1; refine hK1 _ ?_; clear hK hK1; clear K)
      | refine aw_text rfl ?_
      | exact aw_ret (show resA _ _ _ = some _ by kernel_rfl)
      | refine aw_cond0 rfl rfl ?_
      | refine aw_exit ?_
      | refine aw_seq_k (fun K hK => ?_))
end Go.Proofs.YtkffmaeiplgjeaaGreatDoor.SpD
/- table.entries, and table.Frames, of a table that holds nothing. -/
namespace Go.Proofs.YtkffmaeiplgjeaaGreatDoor.IterC
open Go.RowKit Go.Shelf Go.Proofs.YtkffmaeiplgjeaaGreatDoor.Bv Go.Proofs.YtkffmaeiplgjeaaGreatDoor.Base Go.Proofs.YtkffmaeiplgjeaaGreatDoor.MemL Go.Proofs.YtkffmaeiplgjeaaGreatDoor.MemC Go.Proofs.YtkffmaeiplgjeaaGreatDoor.PutC Go.Proofs.YtkffmaeiplgjeaaGreatDoor.TableC
open Go.Proofs.YtkffmaeiplgjeaaGreatDoor.BitsC
set_option linter.unusedVariables false
set_option linter.unusedSimpArgs false
set_option maxRecDepth 20000
set_option maxHeartbeats 2000000 in
theorem entries_calls (sz f : Int) (v : Value) (W : World) : Calls Tryz.prog 91 #[.agg #[.int .u64 sz, v], .int .u64 f] W fun e w' => ∃ b1 b2, e = .returned (.func (.func 116) #[] #[.pointer (some ⟨b1, 0, none⟩), .pointer (some ⟨b2, 0, none⟩)]) ∧ Bx w' b1 #[.int .u64 sz, v] ∧ Bx w' b2 #[.int .u64 f] ∧ Below W.heap.size W w' := by
  go_enter Tryz.func91, Tryz.ntmps91
  go_wp2
  go_ret
  refine ⟨W.heap.size, W.heap.size + 1, rfl, Bx.alloc Bx.new, ?_, bel_alloc (bel_alloc (Below.refl _ _) _) _⟩
  have := Bx.new (w := W.alloc (.cells #[.int .u64 sz, v] 29)) (c := #[.int .u64 f]) (T := 26)
  rwa [World.size_alloc] at this
set_option maxHeartbeats 4000000 in
theorem none_calls (l : Nat) (b1 b2 : Nat) (sz f : Int) (v : Value) (xs : List (Int × Int)) (W : World) (h1 : Bx W b1 #[.int .u64 sz, v]) (h2 : Bx W b2 #[.int .u64 f]) (hf : 0 ≤ f ∧ f < 1099511627776) (hs : Srt xs) (hv : Sl W v xs.length 2 (fl xs)) (hz : ∀ i : Int, 0 ≤ i → i < 512 → wordM sz xs (f * 4096 + i * 8) = 0) :
    Calls Tryz.prog 116 #[.func (.yield l) #[] #[], .pointer (some ⟨b1, 0, none⟩), .pointer (some ⟨b2, 0, none⟩)] W fun e w' => e = .returned (.tuple #[]) ∧ Below W.heap.size W w' := by
  have HZ := Lib.hid hz
  clear hz
  go_enter Tryz.func116, Tryz.ntmps116
  have hlt1 := h1.lt
  have hlt2 := h2.lt
  go_wp2_with fail
  go_loopw [6] (fun i wr => ∃ k : Nat, k ≤ 512 ∧ i = .int .i64 k ∧ Below W.heap.size W wr) (fun i _ => 512 - (intOf i).toNat)
  case atStart => exact ⟨0, by omega, rfl, Below.refl _ _⟩
  case round =>
    obtain ⟨k, hk, rfl, hB⟩ := hrel
    have X1 := h1.of_below hB hlt1
    have X2 := h2.of_below hB hlt2
    have V := Sl.below hv hB
    have y0 := X1.cell 0
    have y1 := X1.cell 1
    have p0 := X2.cell 0
    simp at y0 y1 p0
    have l1 := X1.lt
    have l2 := X2.lt
    by_cases hlt : k < 512
    · have HZ0 := Lib.hid (HZ.out k (by omega) (by omega))
      have hU : U (f * 4096 + (k : Int) * 8) := ⟨by omega, by omega⟩
      go_wp2_with fail
      refine region_below (by kernel_rfl) (by kernel_rfl) ?_
      repeat (with_reducible refine wpQuiet_step (fun K hK => ?_)
              go_simp
              first
                | (refine hK _ ?_; clear hK K)
                | (refine ⟨_, fun _ _ => rfl, hK _ ?_⟩; clear hK K)
                | (apply Exists.intro
                   refine ⟨fun w' hw' => ?_, hK _ ?_⟩
                   · first
                     | (go_at_call 88; (with_reducible refine (place_calls _ _ _ hf ⟨by omega, by omega⟩).mono ?_); rintro e w2 ⟨rfl, hq⟩; exact ⟨rfl, hw'.trans (hq.below.mono hw'.size)⟩)
                     | (go_at_call 114; (with_reducible refine (word_calls _ _ xs _ _ hU hs (V.below hw')).mono ?_); rintro e w2 ⟨rfl, hb⟩; exact ⟨rfl, hw'.trans (hb.mono hw'.size)⟩)
                     | (obtain ⟨hcc, _⟩ := bcell hw'; go_simp; done)
                     | (obtain ⟨hcc, _⟩ := bcell hw'; go_simp; rfl)
                   clear hK K))
      refine wpQuiet_nil ?_
      intro w2 hb2
      have B2 := bel_trans hB hb2
      go_wp2_with fail
      go_round
      case rel => exact ⟨k + 1, by omega, by go_num, B2⟩
      case measure => simp [intOf]; omega
    · obtain rfl : k = 512 := by omega
      go_wp2
      go_end0
      exact ⟨rfl, hB⟩
/-- the iterator, where nothing comes -/
theorem none_stops (b1 b2 : Nat) (sz f : Int) (v : Value) (xs : List (Int × Int)) (W : World) (h1 : Bx W b1 #[.int .u64 sz, v]) (h2 : Bx W b2 #[.int .u64 f]) (hf : 0 ≤ f ∧ f < 1099511627776) (hs : Srt xs) (hv : Sl W v xs.length 2 (fl xs)) (hz : ∀ i : Int, 0 ≤ i → i < 512 → wordM sz xs (f * 4096 + i * 8) = 0) :
    SeqStopsK (α := Empty) Fence.wide 2 Tryz.prog 116 #[.pointer (some ⟨b1, 0, none⟩), .pointer (some ⟨b2, 0, none⟩)] (fun x => x.elim) (Below W.heap.size) (fun _ => True) (fun _ => False) 0 W := by
  intro l J Jx W1 hW hJ hJx hY h0
  refine callsIn_wide.2 ((none_calls l b1 b2 sz f v xs W1 (h1.below hW) (h2.below hW) hf hs (hv.below hW) hz).mono ?_)
  rintro e w' ⟨rfl, hb⟩
  exact ⟨⟨_, rfl⟩, .inl ⟨[], trivial, hJ [] W1 w' none h0 ⟨hb.os, hb.tape, hb.output, hb.size, fun k hk _ => hb.block k hk⟩ (fun r e => by cases e)⟩⟩
set_option maxHeartbeats 4000000 in
/-- the frames of a tree whose table holds nothing -/
theorem frames0_calls (sz top lev : Int) (v : Value) (xs : List (Int × Int)) (W : World) (hf : 0 ≤ top ∧ top < 1099511627776) (hs : Srt xs) (hv : Sl W v xs.length 2 (fl xs)) (hz : ∀ i : Int, 0 ≤ i → i < 512 → wordM sz xs (top * 4096 + i * 8) = 0) :
    Calls Tryz.prog 56 #[.agg #[.int .u64 sz, v], .int .u64 top, .int .i64 lev] W fun e w' => ∃ v', e = .returned v' ∧ w'.ownsRow W.heap.size 26 1 v' 1 [.int .u64 top] ∧ Below W.heap.size W w' := by
  refine (callsIn_wide (n := 3)).1 (callsIn_of_wp_marks Tryz.func56 rfl trivial ?_ rfl)
  simp only [Tryz.ntmps56, List.size_toArray, List.length_cons, List.length_nil, Nat.reduceAdd, Nat.reduceSub, Array.replicate_succ, Array.replicate_zero, List.push_toArray, List.append_toArray, List.nil_append, List.cons_append]
  refine wpIn_wide.2 ?_
  go_wp2_with fail
  have e1 : (W.alloc (.cells #[.int .u64 sz, v] 29)).heap.size = W.heap.size + 1 := World.size_alloc ..
  have X2 : Bx ((((W.alloc (.cells #[.int .u64 sz, v] 29)).alloc (.cells #[.int .i64 lev] 3)).alloc (.cells #[.int .u64 top] 26)).alloc (.cells #[.slice (some ⟨W.heap.size + 1 + 1, 0, none⟩) 1 1] 98)) (W.heap.size + 1 + 1) #[.int .u64 top] := by
    have := Bx.alloc (o := .cells #[.slice (some ⟨W.heap.size + 1 + 1, 0, none⟩) 1 1] 98) (Bx.new (w := (W.alloc (.cells #[.int .u64 sz, v] 29)).alloc (.cells #[.int .i64 lev] 3)) (c := #[.int .u64 top]) (T := 26))
    simp only [World.size_alloc] at this; exact this
  have H2 : ((((W.alloc (.cells #[.int .u64 sz, v] 29)).alloc (.cells #[.int .i64 lev] 3)).alloc (.cells #[.int .u64 top] 26)).alloc (.cells #[.slice (some ⟨W.heap.size + 1 + 1, 0, none⟩) 1 1] 98)).heap[W.heap.size + 1 + 1]? = some (.cells #[.int .u64 top] 26 (0, 0)) := by
    have := heap_alloc_new ((W.alloc (.cells #[.int .u64 sz, v] 29)).alloc (.cells #[.int .i64 lev] 3)) (.cells #[.int .u64 top] 26)
    simp only [World.size_alloc] at this
    rw [Below.heap_alloc _ _ _ (by simp)]; exact this
  have X3 : Bx ((((W.alloc (.cells #[.int .u64 sz, v] 29)).alloc (.cells #[.int .i64 lev] 3)).alloc (.cells #[.int .u64 top] 26)).alloc (.cells #[.slice (some ⟨W.heap.size + 1 + 1, 0, none⟩) 1 1] 98)) (W.heap.size + 1 + 1 + 1) #[.slice (some ⟨W.heap.size + 1 + 1, 0, none⟩) 1 1] := by
    have := Bx.new (w := ((W.alloc (.cells #[.int .u64 sz, v] 29)).alloc (.cells #[.int .i64 lev] 3)).alloc (.cells #[.int .u64 top] 26)) (c := #[.slice (some ⟨W.heap.size + 1 + 1, 0, none⟩) 1 1]) (T := 98)
    simp only [World.size_alloc] at this; exact this
  have B0 : Below W.heap.size W ((((W.alloc (.cells #[.int .u64 sz, v] 29)).alloc (.cells #[.int .i64 lev] 3)).alloc (.cells #[.int .u64 top] 26)).alloc (.cells #[.slice (some ⟨W.heap.size + 1 + 1, 0, none⟩) 1 1] 98)) := bel_alloc (bel_alloc (bel_alloc (bel_alloc (Below.refl _ _) _) _) _) _
  refine (entries_calls sz top v _).mono ?_
  rintro e w1 ⟨b1, b2, rfl, x1, x2, hb⟩
  have V1 := Sl.below (Sl.below hv B0) hb
  have Y2 := X2.below hb
  have Y3 := X3.below hb
  have B1 := bel_trans B0 hb
  have H3 := (hb.block (W.heap.size + 1 + 1) X2.lt).trans H2
  clear X2 X3 H2 B0 hb e1
  have HZ := Lib.hid hz
  clear hz
  have l2 := Y2.lt
  have l3 := Y3.lt
  go_wp2_with fail
  refine (wpIn_wide (n := 3)).1 (wpIn_rangeFunc_ownF (w0 := w1) rfl (by omega) (gf := 116) (lb := #[.pointer (some ⟨b1, 0, none⟩), .pointer (some ⟨b2, 0, none⟩)]) rfl trivial (enters_of Tryz.func116 (by kernel_rfl) rfl)
    (none_stops b1 b2 sz top v xs w1 x1 x2 hf hs V1 HZ.out) belowK_t (belowK_b (Nat.le_refl _)) (Below.refl _ _) (fun x => x.elim)
    (fun _ W2 => Below w1.heap.size w1 W2) (fun _ _ _ => False) (ownFrom_below (Nat.le_refl _) (Nat.le_refl _)) (fun _ _ _ _ _ hs _ _ => hs) (Below.refl _ _) (fun x => x.elim) (fun _ x => x.elim) (fun _ _ x => x.elim) ?_ (fun _ _ _ _ _ h => h.elim))
  intro D ys W2 hD _ hI hK
  have Z3 := (Y3.below hI).cell 0
  simp at Z3
  have H4 := (hI.block (W.heap.size + 1 + 1) l2).trans H3
  have B2 := bel_trans B1 hI
  go_wp2
  refine ⟨by simp, .inl ⟨_, _, rfl, run_takeDeferred hK, ?_⟩⟩
  have hs1 := B1.size
  refine ⟨_, results_tmp rfl _ _ _, _, rfl, ⟨rfl, .inr ⟨W.heap.size + 1 + 1, 1, #[.int .u64 top], rfl, by omega, ?_, by omega, by unfold maxLen; omega, rfl, rfl⟩⟩, ?_⟩
  · exact ((belowK_b (w := w1) (Nat.le_refl _) W2 D _ (.deferred none) hD hK rfl rfl).block _ l2).trans H4
  · exact B2.trans (belowK_b (w := w1) hs1 W2 D _ _ hD hK rfl rfl)
open Go.Proofs.YtkffmaeiplgjeaaGreatDoor.Ax Go.Proofs.YtkffmaeiplgjeaaGreatDoor.OkS in
theorem frames0_ok (sz top lev : Int) (xs : List (Int × Int)) (hf : 0 ≤ top ∧ top < 1099511627776) (hs : Srt xs) (hz : ∀ i : Int, 0 ≤ i → i < 512 → wordM sz xs (top * 4096 + i * 8) = 0) : Ok 56 [memA sz xs, iu top, ii lev] (.m (.c (.s 1 1 [.int .u64 top]))) :=
  callOk_calls rfl fun A W vs hG hR => by
    obtain ⟨v1, v2, v3, rfl, h1, h2, h3⟩ := args3 hR
    obtain ⟨u, rfl, hu'⟩ := arg_mem h1
    obtain rfl : v2 = .int .u64 top := h2
    obtain rfl : v3 = .int .i64 lev := h3
    refine (frames0_calls sz top lev u xs W hf hs hu'.1 hz).mono ?_
    rintro e w' ⟨v', rfl, h5, hb'⟩
    exact ⟨_, rfl, hb', own_s h5⟩
end Go.Proofs.YtkffmaeiplgjeaaGreatDoor.IterC
