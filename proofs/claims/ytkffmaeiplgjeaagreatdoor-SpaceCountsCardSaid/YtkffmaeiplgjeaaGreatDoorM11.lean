/- Texts of this claim, one behind the other: SpE, SpF, SpG, AxP, SpH, SpI. -/
import Derived.Test.YtkffmaeiplgjeaaGreatDoorM10
import Derived.Test.YtkffmaeiplgjeaaGreatDoorM5
/- The abstract walk: space.Fence, back, Destroy, Create, New, over a buffer of zeros. -/
namespace Go.Proofs.YtkffmaeiplgjeaaGreatDoor.SpE
open Go.RowKit Go.Proofs.YtkffmaeiplgjeaaGreatDoor.Bv Go.Proofs.YtkffmaeiplgjeaaGreatDoor.VaSpec Go.Proofs.YtkffmaeiplgjeaaGreatDoor.Base Go.Proofs.YtkffmaeiplgjeaaGreatDoor.MemL Go.Proofs.YtkffmaeiplgjeaaGreatDoor.RegR Go.Proofs.YtkffmaeiplgjeaaGreatDoor.Ax Go.Proofs.YtkffmaeiplgjeaaGreatDoor.MemC Go.Proofs.YtkffmaeiplgjeaaGreatDoor.PutC Go.Proofs.YtkffmaeiplgjeaaGreatDoor.MemC3 Go.Proofs.YtkffmaeiplgjeaaGreatDoor.TzC Go.Proofs.YtkffmaeiplgjeaaGreatDoor.OkS Go.Proofs.YtkffmaeiplgjeaaGreatDoor.SpA Go.Proofs.YtkffmaeiplgjeaaGreatDoor.SpB Go.Proofs.YtkffmaeiplgjeaaGreatDoor.SpC Go.Proofs.YtkffmaeiplgjeaaGreatDoor.SpD Go.Proofs.YtkffmaeiplgjeaaGreatDoor.IterC
open Go.Proofs.YtkffmaeiplgjeaaGreatDoor.BitsC Go.Proofs.YtkffmaeiplgjeaaGreatDoor.PteSpec
set_option linter.unusedVariables false
set_option linter.unusedSimpArgs false
set_option maxRecDepth 10000
set_option maxHeartbeats 2000000
/-- a kernel's cells, its lists told by themselves -/
def _root_.Go.Proofs.YtkffmaeiplgjeaaGreatDoor.SpB.Kr.raw (k : Kr) (tn : Nat) (ts : List Value) (sn : Nat) (ss : List Value) (fn : Nat) (fs : List Value) : List Ce := [ci k.cd, ci k.cp, ci k.ca, ci k.cs, cu k.sz, .s k.m.length 2 (fl k.m), .s tn 45 ts, cu k.sm, cu k.sa, cu k.sp, ci k.priv, cb k.su, cb k.mx, ci k.vic, cu k.pb, ci k.pm, cu k.pf, ci k.am, cu k.af, cu k.ao, .s sn 3 ss, ci k.now, cu k.sh, .s fn 4 fs]
def zK : List Ce := [ci 0, ci 0, ci 0, ci 0, cu 0, .v (.slice none 0 0), .v (.slice none 0 0), cu 0, cu 0, cu 0, ci 0, cb false, cb false, ci 0, cu 0, ci 0, cu 0, ci 0, cu 0, cu 0, .v (.slice none 0 0), ci 0, cu 0, .v (.slice none 0 0)]
def fenceK (k : Kr) (l : List Fe) : Kr := { k with fs := k.fs ++ l }
theorem ce_z (k : Kr) (ht : k.ts = zsL k.tn) : k.ce = k.raw k.tn (zsL k.tn) k.ss.length (flS k.ss) k.fs.length (flF k.fs) := by rw [← ht]; rfl
theorem sfence_ok (k : Kr) (ht : k.ts = zsL k.tn) (hn : k.tn ≤ 16) (l : List Fe) (h : ∀ f ∈ l, U f.ad) (hl : l.length ≤ 1000000) (hk : k.fs.length ≤ 1000000) : Ok 16 [.ag k.ce, .c (.s l.length 4 (flF l))] (.m (.ag (fenceK k l).ce)) := by
  rw [ce_z k ht, show (fenceK k l).ce = k.raw k.tn (zsL k.tn) k.ss.length (flS k.ss) (k.fs.length + l.length) (flF k.fs ++ flF l) from by rw [← ht]; simp [fenceK, Kr.ce, Kr.raw, flF]]
  refine callOk_of 25 Tryz.func16 rfl rfl rfl rfl ?_ GG.to
  intro W A hG
  repeat (first
    | (refine go_at rfl ?_; first
        | refine go_do (valid_mv (.inl rfl) rfl) rfl ?_
        | (refine nxt_s 1 rfl ?_; refine go_do (valid_load_p tb rfl rfl rfl rfl rfl (by first | kernel_rfl | rfl)) (by first | kernel_rfl | rfl) ?_)
        | (refine nxt_s 1 rfl ?_; refine go_do (valid_fld_p tb rfl rfl rfl (by kernel_rfl)) rfl ?_)
        | refine go_do (valid_box rfl rfl rfl rfl rfl rfl) rfl ?_
        | refine go_do (valid_alloc rfl rfl rfl rfl rfl) rfl ?_
        | (refine nxt_s 1 rfl ?_; refine go_do (valid_store_p rfl rfl rfl rfl rfl rfl (by first | kernel_rfl | rfl) rfl) (by first | kernel_rfl | rfl) ?_)
        | refine go_do (valid_len_s rfl rfl rfl rfl) rfl ?_
        | refine go_do (valid_call rfl rfl rfl (all0_ok l h hl k.tn hn) rfl) rfl ?_
        | refine go_do (valid_slice3 rfl rfl rfl rfl rfl rfl rfl) rfl ?_
        | refine go_do (valid_app_f rfl rfl rfl rfl rfl rfl rfl rfl rfl (flF_one l) (by omega)) rfl ?_)
    | (refine hK _ ?_; clear hK K)
    | refine aw_text rfl ?_
    | exact aw_ret (show resA _ _ _ = some _ by kernel_rfl)
    | refine aw_seq_k (fun K hK => ?_))
/-- a frame is given back -/
def backK (k : Kr) (f : Int) : Kr := { k with m := TableC.wipeM k.m f, pf := TableC2.giveF k.pb k.pm k.pf f }
theorem back1_ok (k : Kr) (f : Int) (hb : U k.pb) (hm : 0 ≤ k.pm ∧ k.pm ≤ 64) (hr : U k.pf) (hf : 0 ≤ f ∧ f < 1099511627776) (hs : Srt k.m) (hbig : (k.m.length + 1) * 32 ≤ 140737488355328) : Ok 55 [.ag k.ce, .c (.s 1 1 [.int .u64 f])] (.m (.ag (backK k f).ce)) := by
  refine callOk_of 26 Tryz.func55 rfl rfl rfl rfl ?_ GG.to
  intro W A hG
  repeat (first
    | (refine go_at rfl ?_; first
        | refine go_do (valid_mv (.inl rfl) rfl) rfl ?_
        | refine go_do (valid_box rfl rfl rfl rfl rfl rfl) rfl ?_
        | refine go_do (valid_alloc rfl rfl rfl rfl rfl) rfl ?_
        | refine go_do (valid_len_s rfl rfl rfl rfl) rfl ?_)
    | (refine hK _ ?_; clear hK K)
    | refine aw_text rfl ?_
    | refine aw_block ?_
    | refine aw_seq_k (fun K hK => ?_))
  refine aw_loopH (α := Nat) (fun i => i ≤ 1) (fun i => St.of [(2, .m (.c (.p 2 0))), (4, .m (.c (.p 4 0))), (7, .m (.c (.s 1 1 [.int .u64 f]))), (8, .m (ii 1)), (9, .m (ii i))] [(2, .live (.box (cond (Nat.beq i 0) k.ce (backK k f).ce))), (4, .live (.box zK))]) (fun i => 1 - i) 0 (by omega) (sub_of _ _ ⟨rfl, rfl, rfl, rfl, rfl, trivial⟩ ⟨rfl, rfl, trivial⟩ rfl) ?_
  intro i hi
  rcases (by omega : i = 0 ∨ i = 1) with rfl | rfl
  · have hx : ((([.int .u64 f] : List Value).drop (((0 : Nat) : Int).toNat * 1)).take 1) = [.int .u64 f] := rfl
    repeat (first
      | (refine go_at rfl ?_; first
          | refine go_do (valid_mv (.inl rfl) rfl) rfl ?_
          | (refine nxt_s 1 rfl ?_; refine go_do (valid_load_p tb rfl rfl rfl rfl rfl (by first | kernel_rfl | rfl)) (by first | kernel_rfl | rfl) ?_)
          | (refine nxt_s 1 rfl ?_; refine go_do (valid_fld_p tb rfl rfl rfl (by kernel_rfl)) rfl ?_)
          | refine go_do (valid_mv (.inr rfl) rfl) rfl ?_
          | refine go_do (valid_extract rfl rfl rfl rfl) rfl ?_
          | refine go_do (valid_cmp rfl rfl rfl rfl (by first | exact .eql1 (by omega) | exact .eql0 (by omega) | exact .neq1 (by omega) | exact .neq0 (by omega) | exact .lss1 (by omega) | exact .lss0 (by omega) | exact .leq1 (by omega) | exact .leq0 (by omega) | exact .gtr1 (by omega) | exact .gtr0 (by omega) | exact .geq1 (by omega) | exact .geq0 (by omega) | constructor)) rfl ?_
          | refine go_do (valid_ar rfl rfl rfl rfl (by constructor) (by first | exact wr_u64 (by omega) (by omega) | exact wr_i64 (by omega) (by omega) | rfl)) rfl ?_
          | (refine nxt_s 1 rfl ?_; refine go_do (valid_store_p rfl rfl rfl rfl rfl rfl (by first | kernel_rfl | rfl) rfl) (by first | kernel_rfl | rfl) ?_)
          | (refine nxt_s 3 rfl ?_; refine go_do (valid_load_q tb rfl rfl rfl rfl (by first | kernel_rfl | rfl)) rfl ?_)
          | (refine nxt_s 4 rfl ?_; refine go_do (valid_idx_s rfl rfl rfl rfl rfl rfl (by omega) (by omega) _ (by assumption)) rfl ?_)
          | refine go_do (valid_call rfl rfl rfl (back_ok k.sz k.m k.pb k.pm k.pf f hb hm hr hf hs hbig) rfl) rfl ?_)
      | (refine hK _ ?_; clear hK K)
      | refine aw_text rfl ?_
      | refine aw_cond1 rfl rfl ?_
      | refine aw_block ?_
      | refine aw_skip ?_
      | refine aw_seq_k (fun K hK => ?_))
    exact ⟨1, by omega, by omega, sub_of _ _ ⟨rfl, rfl, rfl, rfl, rfl, trivial⟩ ⟨by kernel_rfl, rfl, trivial⟩ rfl⟩
  · skip
    repeat (first
      | (refine go_at rfl ?_; first
          | (refine nxt_s 1 rfl ?_; refine go_do (valid_load_p tb rfl rfl rfl rfl rfl (by first | kernel_rfl | rfl)) (by first | kernel_rfl | rfl) ?_)
          | refine go_do (valid_cmp rfl rfl rfl rfl (by first | exact .eql1 (by omega) | exact .eql0 (by omega) | exact .neq1 (by omega) | exact .neq0 (by omega) | exact .lss1 (by omega) | exact .lss0 (by omega) | exact .leq1 (by omega) | exact .leq0 (by omega) | exact .gtr1 (by omega) | exact .gtr0 (by omega) | exact .geq1 (by omega) | exact .geq0 (by omega) | constructor)) rfl ?_
          | (refine nxt_s 1 rfl ?_; refine go_do (valid_store_p rfl rfl rfl rfl rfl rfl (by first | kernel_rfl | rfl) rfl) (by first | kernel_rfl | rfl) ?_))
      | (refine hK _ ?_; clear hK K)
      | (rename_i K1 hK1; refine hK1 _ ?_; clear hK hK1; clear K)
      | refine aw_text rfl ?_
      | exact aw_ret (show resA _ _ _ = some _ by kernel_rfl)
      | refine aw_cond0 rfl rfl ?_
      | refine aw_exit ?_
      | refine aw_seq_k (fun K hK => ?_))
end Go.Proofs.YtkffmaeiplgjeaaGreatDoor.SpE
/- The abstract walk: Destroy, Create, over a buffer of zeros. -/
namespace Go.Proofs.YtkffmaeiplgjeaaGreatDoor.SpF
open Go.RowKit Go.Proofs.YtkffmaeiplgjeaaGreatDoor.Bv Go.Proofs.YtkffmaeiplgjeaaGreatDoor.VaSpec Go.Proofs.YtkffmaeiplgjeaaGreatDoor.Base Go.Proofs.YtkffmaeiplgjeaaGreatDoor.MemL Go.Proofs.YtkffmaeiplgjeaaGreatDoor.RegR Go.Proofs.YtkffmaeiplgjeaaGreatDoor.Ax Go.Proofs.YtkffmaeiplgjeaaGreatDoor.MemC Go.Proofs.YtkffmaeiplgjeaaGreatDoor.PutC Go.Proofs.YtkffmaeiplgjeaaGreatDoor.MemC3 Go.Proofs.YtkffmaeiplgjeaaGreatDoor.TzC Go.Proofs.YtkffmaeiplgjeaaGreatDoor.OkS Go.Proofs.YtkffmaeiplgjeaaGreatDoor.SpA Go.Proofs.YtkffmaeiplgjeaaGreatDoor.SpB Go.Proofs.YtkffmaeiplgjeaaGreatDoor.SpC Go.Proofs.YtkffmaeiplgjeaaGreatDoor.SpD Go.Proofs.YtkffmaeiplgjeaaGreatDoor.IterC Go.Proofs.YtkffmaeiplgjeaaGreatDoor.SpE
open Go.Proofs.YtkffmaeiplgjeaaGreatDoor.BitsC Go.Proofs.YtkffmaeiplgjeaaGreatDoor.PteSpec
set_option linter.unusedVariables false
set_option linter.unusedSimpArgs false
set_option maxRecDepth 10000
set_option maxHeartbeats 800000
attribute [local irreducible] Go.Proofs.YtkffmaeiplgjeaaGreatDoor.Ax.CallOk
def giveA (m f n : Int) : Int := if AsidC2.takenA m f n then setI f (n - 1) 1 1 else f
def giveE (m f n : Int) : Int := if AsidC2.takenA m f n then 0 else 1
theorem giveA_ok (m f o n : Int) (hm : 0 ≤ m ∧ m ≤ 64) (hf : U f) (ho : U o) (hn : U n) : Ok 57 [.ag [ci m, cu f, cu o], iu n] (.tu [.ag [ci m, cu (giveA m f n), cu o], ii (giveE m f n)]) := by
  have h := asidgive_ok m f o n hm hf ho hn
  unfold AsidC2.giveV at h
  unfold giveA giveE
  by_cases ht : AsidC2.takenA m f n = true
  · rw [if_pos ht] at h; rw [if_pos ht, if_pos ht]; exact h
  · rw [if_neg ht] at h; rw [if_neg ht, if_neg ht]; exact h
theorem kA_ex : ∃ a, a = ofv 133955584 := ⟨_, rfl⟩
/-- the address of what all share -/
noncomputable def kA : Int := Classical.choose kA_ex
theorem kA_eq : kA = ofv 133955584 := Classical.choose_spec kA_ex
theorem kA_U : U kA := by rw [kA_eq]; decide
theorem kaddr_ok' : Ok 54 [] (.m (iu kA)) := by rw [kA_eq]; exact kaddr_ok
def zP : Pte := ⟨false, false, false, false, false, false, false, false, 0, 0, 0⟩
theorem zP_U : zP.U := by unfold Pte.U zP; simp
noncomputable def offM (k : Kr) (s : Sp) : List (Int × Int) := withM k.sz k.m s.root (idx kA 2) zP
def zSp : Sp := ⟨0, 0, false⟩
theorem flS_one (l : List Sp) : ∀ u ∈ flS l, u.oneCell' = true := by
  intro v hv
  obtain ⟨f, _, hv⟩ := List.mem_flatMap.1 hv
  exact List.all_eq_true.1 (show f.vs.all (·.oneCell') = true from rfl) v hv
theorem putV_app : ∀ (vs : List Value) (o : Nat) (a b : List Value), putV (a ++ b) (a.length + o) vs = a ++ putV b o vs
  | [], _, _, _ => rfl
  | v :: r, o, a, b => by
    simp only [putV]
    rw [List.set_append_right _ _ (by omega), show a.length + o - a.length = o by omega, Nat.add_assoc, putV_app r (o + 1) a]
theorem flS_set : ∀ (l : List Sp) (i : Nat) (s : Sp), i < l.length → flS (l.set i s) = putV (flS l) (i * 3) s.vs
  | [], i, s, h => by simp at h
  | x :: l, 0, s, h => by simp [flS, Sp.vs, putV]
  | x :: l, i + 1, s, h => by
    have ih := flS_set l i s (by simpa using h)
    have e : (i + 1) * 3 = x.vs.length + i * 3 := by simp [Sp.vs]; omega
    simp only [List.set_cons_succ]
    show x.vs ++ flS (l.set i s) = putV (x.vs ++ flS l) _ _
    rw [e, putV_app, ih]
noncomputable def destroyK (k : Kr) (id : Int) (s : Sp) : Kr := { backK { k with m := offM k s } s.root with af := giveA k.am k.af s.asid, ss := k.ss.set id.toNat zSp }
noncomputable def destroyM (k : Kr) (s : Sp) : Kr := { backK { k with m := offM k s } s.root with af := giveA k.am k.af s.asid }
theorem destroy_no (k : Kr) (id : Int) (h : livesB k id = false) : Ok 22 [.ag k.ce, ii id] (.tu [.ag k.ce, ii 4]) := by
  refine callOk_of 61 Tryz.func22 rfl rfl rfl rfl ?_ GG.to
  intro W A hG
  repeat (first
    | (refine go_at rfl ?_; first
        | refine go_do (valid_mv (.inl rfl) rfl) rfl ?_
        | (refine nxt_s 1 rfl ?_; refine go_do (valid_load_p tb rfl rfl rfl rfl rfl (by first | kernel_rfl | rfl)) (by first | kernel_rfl | rfl) ?_)
        | refine go_do (valid_mv (.inr rfl) rfl) rfl ?_
        | refine go_do (valid_box rfl rfl rfl rfl rfl rfl) rfl ?_
        | refine go_do (valid_alloc rfl rfl rfl rfl rfl) rfl ?_
        | (refine nxt_s 1 rfl ?_; refine go_do (valid_store_p rfl rfl rfl rfl rfl rfl (by first | kernel_rfl | rfl) rfl) (by first | kernel_rfl | rfl) ?_)
        | refine go_do (valid_not rfl rfl rfl) rfl ?_
        | refine go_do (valid_call rfl rfl rfl (h ▸ lives_ok _ _) rfl) rfl ?_)
    | (refine hK _ ?_; clear hK K)
    | refine aw_text rfl ?_
    | exact aw_ret (show resA _ _ _ = some _ by kernel_rfl)
    | refine aw_cond1 rfl rfl ?_
    | refine aw_block ?_
    | refine aw_seq_k (fun K hK => ?_))
theorem destroy_busy (k : Kr) (id : Int) (h : livesB k id = true) (hn : id = k.now) : Ok 22 [.ag k.ce, ii id] (.tu [.ag k.ce, ii 10]) := by
  refine callOk_of 61 Tryz.func22 rfl rfl rfl rfl ?_ GG.to
  intro W A hG
  repeat (first
    | (refine go_at rfl ?_; first
        | refine go_do (valid_mv (.inl rfl) rfl) rfl ?_
        | (refine nxt_s 1 rfl ?_; refine go_do (valid_load_p tb rfl rfl rfl rfl rfl (by first | kernel_rfl | rfl)) (by first | kernel_rfl | rfl) ?_)
        | (refine nxt_s 1 rfl ?_; refine go_do (valid_fld_p tb rfl rfl rfl (by kernel_rfl)) rfl ?_)
        | refine go_do (valid_mv (.inr rfl) rfl) rfl ?_
        | refine go_do (valid_cmp rfl rfl rfl rfl (by first | exact .eql1 (by omega) | exact .eql0 (by omega) | exact .neq1 (by omega) | exact .neq0 (by omega) | exact .lss1 (by omega) | exact .lss0 (by omega) | exact .leq1 (by omega) | exact .leq0 (by omega) | exact .gtr1 (by omega) | exact .gtr0 (by omega) | exact .geq1 (by omega) | exact .geq0 (by omega) | constructor)) rfl ?_
        | refine go_do (valid_box rfl rfl rfl rfl rfl rfl) rfl ?_
        | refine go_do (valid_alloc rfl rfl rfl rfl rfl) rfl ?_
        | (refine nxt_s 1 rfl ?_; refine go_do (valid_store_p rfl rfl rfl rfl rfl rfl (by first | kernel_rfl | rfl) rfl) (by first | kernel_rfl | rfl) ?_)
        | refine go_do (valid_not rfl rfl rfl) rfl ?_
        | refine go_do (valid_call rfl rfl rfl (h ▸ lives_ok _ _) rfl) rfl ?_)
    | (refine hK _ ?_; clear hK K)
    | refine aw_text rfl ?_
    | exact aw_ret (show resA _ _ _ = some _ by kernel_rfl)
    | refine aw_cond1 rfl rfl ?_
    | refine aw_cond0 rfl rfl ?_
    | refine aw_block ?_
    | refine aw_seq_k (fun K hK => ?_))
theorem destroy_ok (k : Kr) (id : Int) (s : Sp) (h : livesB k id = true) (hn : id ≠ k.now) (h0 : 0 ≤ id) (hs : k.ss[id.toNat]? = some s) (hlt : id < k.ss.length) (hss : k.ss.length ≤ 1000)
    (hr : 0 ≤ s.root ∧ s.root < 1099511627776) (ha : U s.asid) (hm : Srt k.m) (hu : Uw k.m) (hbig : (k.m.length + 1) * 32 ≤ 140737488355328) (hm2 : Srt (offM k s)) (hbig2 : ((offM k s).length + 1) * 32 ≤ 140737488355328)
    (hz : ∀ i : Int, 0 ≤ i → i < 512 → wordM k.sz (offM k s) (s.root * 4096 + i * 8) = 0) (hb : U k.pb) (hpm : 0 ≤ k.pm ∧ k.pm ≤ 64) (hpf : U k.pf) (ham : 0 ≤ k.am ∧ k.am ≤ 64) (haf : U k.af) (hao : U k.ao) :
    Ok 22 [.ag k.ce, ii id] (.tu [.ag (destroyK k id s).ce, ii 0]) := by
  have hx := flS_at hs
  rw [show (destroyK k id s).ce = (destroyK k id s).raw k.tn k.ts k.ss.length (putV (flS k.ss) (id.toNat * 3) zSp.vs) k.fs.length (flF k.fs) from by
    rw [← flS_set k.ss id.toNat zSp (by omega)]
    show _ = Kr.raw _ _ _ _ _ _ _
    simp [destroyK, Kr.ce, Kr.raw, backK]]
  refine callOk_of 61 Tryz.func22 rfl rfl rfl rfl ?_ GG.to
  intro W A hG
  have hl : Ok 39 [.ag k.ce, ii id] (.m (ib true)) := h ▸ lives_ok k id
  have hw := with_ok k.sz k.m s.root 2 zP kA zP kA_U zP_U (by omega) (by omega) hr hm hu (by omega)
  repeat (first
    | (refine go_at rfl ?_; first
        | refine go_do (valid_mv (.inl rfl) rfl) rfl ?_
        | (refine nxt_s 1 rfl ?_; refine go_do (valid_load_p tb rfl rfl rfl rfl rfl (by first | kernel_rfl | rfl)) (by first | kernel_rfl | rfl) ?_)
        | (refine nxt_s 1 rfl ?_; refine go_do (valid_fld_p tb rfl rfl rfl (by kernel_rfl)) rfl ?_)
        | refine go_do (valid_mv (.inr rfl) rfl) rfl ?_
        | refine go_do (valid_extract rfl rfl rfl rfl) rfl ?_
        | refine go_do (valid_cmp rfl rfl rfl rfl (by first | exact .eql1 (by omega) | exact .eql0 (by omega) | exact .neq1 (by omega) | exact .neq0 (by omega) | exact .lss1 (by omega) | exact .lss0 (by omega) | exact .leq1 (by omega) | exact .leq0 (by omega) | exact .gtr1 (by omega) | exact .gtr0 (by omega) | exact .geq1 (by omega) | exact .geq0 (by omega) | constructor)) rfl ?_
        | refine go_do (valid_box rfl rfl rfl rfl rfl rfl) rfl ?_
        | refine go_do (valid_alloc rfl rfl rfl rfl rfl) rfl ?_
        | (refine nxt_s 1 rfl ?_; refine go_do (valid_store_p rfl rfl rfl rfl rfl rfl (by first | kernel_rfl | rfl) rfl) (by first | kernel_rfl | rfl) ?_)
        | (refine nxt_s 3 rfl ?_; refine go_do (valid_load_q tb rfl rfl rfl rfl (by first | kernel_rfl | rfl)) rfl ?_)
        | refine go_do (valid_not rfl rfl rfl) rfl ?_
        | refine go_do (valid_build rfl rfl rfl rfl) rfl ?_
        | (refine nxt_s 4 rfl ?_; refine go_do (valid_idx_s rfl rfl rfl rfl rfl rfl (by omega) (by omega) _ (by assumption)) rfl ?_)
        | refine go_do (valid_call rfl rfl rfl (hl) (by kernel_rfl)) rfl ?_
        | refine go_do (valid_call rfl rfl rfl (kaddr_ok') (by kernel_rfl)) rfl ?_
        | refine go_do (valid_call rfl rfl rfl (hw) (by kernel_rfl)) rfl ?_
        | refine go_do (valid_call rfl rfl rfl (frames0_ok k.sz s.root 2 (offM k s) hr hm2 hz) (by kernel_rfl)) rfl ?_
        | refine go_do (valid_call rfl rfl rfl (back1_ok { k with m := offM k s } s.root hb hpm hpf hr hm2 hbig2) (by kernel_rfl)) rfl ?_
        | refine go_do (valid_call rfl rfl rfl (giveA_ok k.am k.af k.ao s.asid ham haf hao ha) (by kernel_rfl)) rfl ?_)
    | (refine hK _ ?_; clear hK K)
    | refine aw_text rfl ?_
    | refine aw_any (by kernel_rfl) (by kernel_rfl) rfl ?_
    | refine aw_cond0 rfl rfl ?_
    | refine aw_block ?_
    | refine aw_skip ?_
    | refine aw_seq_k (fun K hK => ?_))
  refine go_at rfl ?_
  refine go_do (valid_call_own rfl rfl rfl rfl rfl (clonesp_own k.ss.length (flS k.ss) (flS_one _) (by omega)) (by kernel_rfl)) (by kernel_rfl) ?_
  refine go_at rfl ?_
  refine go_do (valid_fld_p tb rfl rfl rfl (by kernel_rfl)) rfl ?_
  refine go_at rfl ?_
  refine go_do (valid_store_p rfl rfl rfl rfl rfl rfl (by kernel_rfl) rfl) (by kernel_rfl) ?_
  first
    | (refine hK _ ?_; clear hK K)
    | (rename_i K1 hK1; refine hK1 _ ?_; clear hK hK1; clear K)
    | (rename_i K1 hK1; refine hK1 _ ?_; clear hK1)
  refine aw_sub (sub_of [(1, .m (ii id)), (2, .m (.c (.p 2 0))), (4, .m (.c (.p 4 0))), (7, .m (.c (.p 7 0)))] [(2, .live (.box k.ce)), (4, .live (.box zK)), (7, .live (.box ((destroyM k s).ce.set 20 (.o 53)))), (53, .live (.row 65 3 k.ss.length (flS k.ss)))] ⟨by kernel_rfl, by kernel_rfl, by kernel_rfl, by kernel_rfl, trivial⟩ ⟨by kernel_rfl, by kernel_rfl, by kernel_rfl, by kernel_rfl, trivial⟩ (by kernel_rfl)) ?_
  repeat (first
    | (refine go_at rfl ?_; first
        | refine go_do (valid_mv (.inl rfl) rfl) rfl ?_
        | (refine nxt_s 1 rfl ?_; refine go_do (valid_load_p tb rfl rfl rfl rfl rfl (by first | kernel_rfl | rfl)) (by first | kernel_rfl | rfl) ?_)
        | (refine nxt_s 1 rfl ?_; refine go_do (valid_fld_p tb rfl rfl rfl (by kernel_rfl)) rfl ?_)
        | refine go_do (valid_mv (.inr rfl) rfl) rfl ?_
        | (refine nxt_s 1 rfl ?_; refine go_do (valid_store_p rfl rfl rfl rfl rfl rfl (by first | kernel_rfl | rfl) rfl) (by first | kernel_rfl | rfl) ?_)
        | refine go_do (valid_build rfl rfl rfl rfl) rfl ?_
        | (refine nxt_s 5 rfl ?_; refine go_do (valid_store_rp rfl rfl rfl rfl rfl rfl rfl rfl rfl (by first | omega | (simp; omega)) rfl) rfl ?_)
        | (refine nxt_s 2 rfl ?_; refine go_do (valid_idx_o rfl rfl rfl rfl rfl rfl rfl (by omega) (by omega)) rfl ?_))
    | (refine hK _ ?_; clear hK K)
    | refine aw_text rfl ?_
    | exact aw_ret (show resA _ _ _ = some _ by kernel_rfl)
    | refine aw_seq_k (fun K hK => ?_))
end Go.Proofs.YtkffmaeiplgjeaaGreatDoor.SpF
/- The abstract walk: Create. -/
namespace Go.Proofs.YtkffmaeiplgjeaaGreatDoor.SpG
open Go.RowKit Go.Proofs.YtkffmaeiplgjeaaGreatDoor.Bv Go.Proofs.YtkffmaeiplgjeaaGreatDoor.VaSpec Go.Proofs.YtkffmaeiplgjeaaGreatDoor.Base Go.Proofs.YtkffmaeiplgjeaaGreatDoor.MemL Go.Proofs.YtkffmaeiplgjeaaGreatDoor.RegR Go.Proofs.YtkffmaeiplgjeaaGreatDoor.Ax Go.Proofs.YtkffmaeiplgjeaaGreatDoor.MemC Go.Proofs.YtkffmaeiplgjeaaGreatDoor.PutC Go.Proofs.YtkffmaeiplgjeaaGreatDoor.MemC3 Go.Proofs.YtkffmaeiplgjeaaGreatDoor.TzC Go.Proofs.YtkffmaeiplgjeaaGreatDoor.OkS Go.Proofs.YtkffmaeiplgjeaaGreatDoor.SpA Go.Proofs.YtkffmaeiplgjeaaGreatDoor.SpB Go.Proofs.YtkffmaeiplgjeaaGreatDoor.SpC Go.Proofs.YtkffmaeiplgjeaaGreatDoor.SpD Go.Proofs.YtkffmaeiplgjeaaGreatDoor.IterC Go.Proofs.YtkffmaeiplgjeaaGreatDoor.SpE Go.Proofs.YtkffmaeiplgjeaaGreatDoor.SpF
open Go.Proofs.YtkffmaeiplgjeaaGreatDoor.BitsC Go.Proofs.YtkffmaeiplgjeaaGreatDoor.PteSpec
set_option linter.unusedVariables false
set_option linter.unusedSimpArgs false
set_option maxRecDepth 10000
set_option maxHeartbeats 800000
attribute [local irreducible] Go.Proofs.YtkffmaeiplgjeaaGreatDoor.Ax.CallOk
theorem create_full (k : Kr) (h : 32 ≤ k.ss.length) (hb : k.ss.length ≤ 1000) : Ok 24 [.ag k.ce] (.tu [.ag k.ce, ii 0, ii 1]) := by
  refine callOk_of 78 Tryz.func24 rfl rfl rfl rfl ?_ GG.to
  intro W A hG
  repeat (first
    | (refine go_at rfl ?_; first
        | (refine nxt_s 1 rfl ?_; refine go_do (valid_load_p tb rfl rfl rfl rfl rfl (by first | kernel_rfl | rfl)) (by first | kernel_rfl | rfl) ?_)
        | (refine nxt_s 1 rfl ?_; refine go_do (valid_fld_p tb rfl rfl rfl (by kernel_rfl)) rfl ?_)
        | refine go_do (valid_mv (.inr rfl) rfl) rfl ?_
        | refine go_do (valid_cmp rfl rfl rfl rfl (by first | exact .eql1 (by omega) | exact .eql0 (by omega) | exact .neq1 (by omega) | exact .neq0 (by omega) | exact .lss1 (by omega) | exact .lss0 (by omega) | exact .leq1 (by omega) | exact .leq0 (by omega) | exact .gtr1 (by omega) | exact .gtr0 (by omega) | exact .geq1 (by omega) | exact .geq0 (by omega) | constructor)) rfl ?_
        | refine go_do (valid_box rfl rfl rfl rfl rfl rfl) rfl ?_
        | refine go_do (valid_alloc rfl rfl rfl rfl rfl) rfl ?_
        | (refine nxt_s 1 rfl ?_; refine go_do (valid_store_p rfl rfl rfl rfl rfl rfl (by first | kernel_rfl | rfl) rfl) (by first | kernel_rfl | rfl) ?_)
        | refine go_do (valid_len_s rfl rfl rfl rfl) rfl ?_)
    | (refine hK _ ?_; clear hK K)
    | refine aw_text rfl ?_
    | exact aw_ret (show resA _ _ _ = some _ by kernel_rfl)
    | refine aw_cond1 rfl rfl ?_
    | refine aw_seq_k (fun K hK => ?_))
theorem create_noasid (k : Kr) (h : k.ss.length < 32) (h0 : k.af = 0) : Ok 24 [.ag k.ce] (.tu [.ag k.ce, ii 0, ii 9]) := by
  refine callOk_of 78 Tryz.func24 rfl rfl rfl rfl ?_ GG.to
  intro W A hG
  have ht : Ok 59 [.ag [ci k.am, cu k.af, cu k.ao]] (.tu [.ag [ci k.am, cu k.af, cu k.ao], iu 0, ib false, ii 9]) := by rw [h0]; exact atake_no k.am k.ao
  repeat (first
    | (refine go_at rfl ?_; first
        | refine go_do (valid_mv (.inl rfl) rfl) rfl ?_
        | (refine nxt_s 1 rfl ?_; refine go_do (valid_load_p tb rfl rfl rfl rfl rfl (by first | kernel_rfl | rfl)) (by first | kernel_rfl | rfl) ?_)
        | (refine nxt_s 1 rfl ?_; refine go_do (valid_fld_p tb rfl rfl rfl (by kernel_rfl)) rfl ?_)
        | refine go_do (valid_mv (.inr rfl) rfl) rfl ?_
        | refine go_do (valid_extract rfl rfl rfl rfl) rfl ?_
        | refine go_do (valid_cmp rfl rfl rfl rfl (by first | exact .eql1 (by omega) | exact .eql0 (by omega) | exact .neq1 (by omega) | exact .neq0 (by omega) | exact .lss1 (by omega) | exact .lss0 (by omega) | exact .leq1 (by omega) | exact .leq0 (by omega) | exact .gtr1 (by omega) | exact .gtr0 (by omega) | exact .geq1 (by omega) | exact .geq0 (by omega) | constructor)) rfl ?_
        | refine go_do (valid_box rfl rfl rfl rfl rfl rfl) rfl ?_
        | refine go_do (valid_alloc rfl rfl rfl rfl rfl) rfl ?_
        | (refine nxt_s 1 rfl ?_; refine go_do (valid_store_p rfl rfl rfl rfl rfl rfl (by first | kernel_rfl | rfl) rfl) (by first | kernel_rfl | rfl) ?_)
        | refine go_do (valid_len_s rfl rfl rfl rfl) rfl ?_
        | refine go_do (valid_call rfl rfl rfl (ht) (by kernel_rfl)) rfl ?_)
    | (refine hK _ ?_; clear hK K)
    | refine aw_text rfl ?_
    | exact aw_ret (show resA _ _ _ = some _ by kernel_rfl)
    | refine aw_cond1 rfl rfl ?_
    | refine aw_cond0 rfl rfl ?_
    | refine aw_skip ?_
    | refine aw_seq_k (fun K hK => ?_))
def gP (n : Int) : Pte := ⟨true, false, false, false, false, true, false, false, 0, n, 0⟩
noncomputable def newM (k : Kr) : List (Int × Int) := withM k.sz (TableC.wipeM k.m (k.pb + tzI k.pf)) (k.pb + tzI k.pf) (idx kA 2) (gP k.sh)
theorem create_plain (k : Kr) (h : k.ss.length < 32) (haf : U k.af) (hao : U k.ao) (h0 : k.af ≠ 0) (hpf : U k.pf) (hp0 : k.pf ≠ 0) (hb : 0 ≤ k.pb ∧ k.pb ≤ 268435456) (hpm : 0 ≤ k.pm ∧ k.pm ≤ 64) (hm : Srt k.m) (hbig : (k.m.length + 1) * 32 ≤ 140737488355328)
    (hP : (gP k.sh).U) (hm1 : Srt (TableC.wipeM k.m (k.pb + tzI k.pf))) (hu1 : Uw (TableC.wipeM k.m (k.pb + tzI k.pf))) (hbig1 : ((TableC.wipeM k.m (k.pb + tzI k.pf)).length + 1) * 16 ≤ 140737488355328) (hown : (getI k.ao (tzI k.af) 1 == 1) = false) (hr : 0 ≤ k.pb + tzI k.pf ∧ k.pb + tzI k.pf < 1099511627776)
    : Ok 24 [.ag k.ce] (.tu [.ag (({ k with m := newM k, pf := setI k.pf (tzI k.pf) 1 0, af := takeA1 k.af, ao := takeA2 k.af k.ao } : Kr).raw k.tn k.ts (k.ss.length + 1) (flS k.ss ++ (⟨k.pb + tzI k.pf, tzI k.af + 1, true⟩ : Sp).vs) k.fs.length (flF k.fs)), ii k.ss.length, ii 0]) := by
  refine callOk_of 78 Tryz.func24 rfl rfl rfl rfl ?_ GG.to
  intro W A hG
  have ht := atake_ok k.am k.af k.ao haf hao h0
  rw [hown] at ht
  have hf := fresh_ok k.sz k.m k.pb k.pm k.pf hb hpm hpf hp0 hm hbig
  have hw := with_ok k.sz (TableC.wipeM k.m (k.pb + tzI k.pf)) (k.pb + tzI k.pf) 2 zP kA (gP k.sh) kA_U hP (by omega) (by omega) hr hm1 hu1 (by omega)
  have hcc : ∀ (W : World) (vb : Nat) (v1 v2 : Value), GG W → Bx W vb #[v1, v2] → Sl W v1 k.ss.length 3 (flS k.ss) → Sl W v2 1 3 (⟨k.pb + tzI k.pf, tzI k.af + 1, true⟩ : Sp).vs → Calls Tryz.prog 60 #[.slice (some ⟨vb, 0, none⟩) 2 2] W fun e w' => ∃ v', e = .returned v' ∧ w'.ownsRow W.heap.size 65 3 v' (k.ss.length + 1) (flS k.ss ++ (⟨k.pb + tzI k.pf, tzI k.af + 1, true⟩ : Sp).vs) ∧ Below W.heap.size W w' :=
    fun W vb v1 v2 _ h1 h2 h3 => Go.Proofs.YtkffmaeiplgjeaaGreatDoor.ConcatSpace.concat_calls vb v1 v2 _ _ _ _ W h1 h2 h3 (flS_one _) (fun u hu => List.all_eq_true.1 (show (⟨k.pb + tzI k.pf, tzI k.af + 1, true⟩ : Sp).vs.all (·.oneCell') = true from rfl) u hu) (by omega)
  repeat (first
    | (refine go_at rfl ?_; first
        | refine go_do (valid_mv (.inl rfl) rfl) rfl ?_
        | (refine nxt_s 1 rfl ?_; refine go_do (valid_load_p tb rfl rfl rfl rfl rfl (by first | kernel_rfl | rfl)) (by first | kernel_rfl | rfl) ?_)
        | (refine nxt_s 1 rfl ?_; refine go_do (valid_fld_p tb rfl rfl rfl (by kernel_rfl)) rfl ?_)
        | refine go_do (valid_mv (.inr rfl) rfl) rfl ?_
        | refine go_do (valid_extract rfl rfl rfl rfl) rfl ?_
        | refine go_do (valid_cmp rfl rfl rfl rfl (by first | exact .eql1 (by omega) | exact .eql0 (by omega) | exact .neq1 (by omega) | exact .neq0 (by omega) | exact .lss1 (by omega) | exact .lss0 (by omega) | exact .leq1 (by omega) | exact .leq0 (by omega) | exact .gtr1 (by omega) | exact .gtr0 (by omega) | exact .geq1 (by omega) | exact .geq0 (by omega) | constructor)) rfl ?_
        | refine go_do (valid_box rfl rfl rfl rfl rfl rfl) rfl ?_
        | refine go_do (valid_alloc rfl rfl rfl rfl rfl) rfl ?_
        | (refine nxt_s 1 rfl ?_; refine go_do (valid_store_p rfl rfl rfl rfl rfl rfl (by first | kernel_rfl | rfl) rfl) (by first | kernel_rfl | rfl) ?_)
        | refine go_do (valid_len_s rfl rfl rfl rfl) rfl ?_
        | refine go_do (valid_build rfl rfl rfl rfl) rfl ?_
        | refine go_do (valid_bslice rfl rfl rfl rfl rfl rfl rfl rfl rfl rfl rfl) rfl ?_
        | refine go_do (valid_call rfl rfl rfl (ht) (by kernel_rfl)) rfl ?_
        | refine go_do (valid_call rfl rfl rfl (hf) (by kernel_rfl)) rfl ?_
        | refine go_do (valid_call rfl rfl rfl (kaddr_ok') (by kernel_rfl)) rfl ?_
        | refine go_do (valid_call rfl rfl rfl (hw) (by kernel_rfl)) rfl ?_
        | refine go_do (valid_bslice_ss rfl rfl rfl rfl rfl rfl (by kernel_rfl) rfl rfl rfl) rfl ?_
        | refine go_do (valid_concat rfl rfl rfl rfl rfl (by kernel_rfl) (by kernel_rfl) hcc) rfl ?_)
    | (refine hK _ ?_; clear hK K)
    | refine aw_text rfl ?_
    | refine aw_any (by kernel_rfl) (by kernel_rfl) rfl ?_
    | exact aw_ret (show resA _ _ _ = some _ by kernel_rfl)
    | refine aw_cond0 rfl rfl ?_
    | refine aw_skip ?_
    | refine aw_seq_k (fun K hK => ?_))
theorem callOk_l {P : Program} {G : World → Prop} {f : FuncId} {l l2 : List Cm} {r : AV} (e : l = l2) (h : CallOk P G f l2 r) : CallOk P G f l r := e ▸ h
def aFe (n : Int) : Fe := ⟨false, 0, true, n⟩
noncomputable def createK (k : Kr) : Kr := { k with m := newM k, pf := setI k.pf (tzI k.pf) 1 0, af := takeA1 k.af, ao := takeA2 k.af k.ao, ss := k.ss ++ [⟨k.pb + tzI k.pf, tzI k.af + 1, true⟩] }
theorem createK_ce (k : Kr) : (createK k).ce = (({ k with m := newM k, pf := setI k.pf (tzI k.pf) 1 0, af := takeA1 k.af, ao := takeA2 k.af k.ao } : Kr).raw k.tn k.ts (k.ss.length + 1) (flS k.ss ++ (⟨k.pb + tzI k.pf, tzI k.af + 1, true⟩ : Sp).vs) k.fs.length (flF k.fs)) := by
  simp [createK, Kr.ce, Kr.raw, flS]
end Go.Proofs.YtkffmaeiplgjeaaGreatDoor.SpG
/- The abstract walk: an own row is handed to a function whose answer may hold slices: nobody writes it any more. -/
namespace Go.Proofs.YtkffmaeiplgjeaaGreatDoor.Ax
open Go.RowKit Go.Proofs.YtkffmaeiplgjeaaGreatDoor.MemL Go.Proofs.YtkffmaeiplgjeaaGreatDoor.RegR
set_option linter.unusedVariables false
set_option linter.unusedSimpArgs false
variable {P : Program} {ops : Array Oper} {X : Cx} {o : Oper} {S : St}
def offH (b : Nat) (h : Nat → Hs) : Nat → Hs := upd [(b, .dead)] h
theorem off_at (b : Nat) (h : Nat → Hs) : offH b h b = .dead := by
  show cond (Nat.beq b b) (put1 .dead (h b)) (h b) = .dead
  rw [Nat.beq_refl]; rfl
theorem off_ne {b i : Nat} (h : Nat → Hs) (e : i ≠ b) : offH b h i = h i := by
  show cond (Nat.beq i b) (put1 .dead (h i)) (h i) = h i
  rw [beq_false e]; rfl
theorem off_alive {b i : Nat} {h : Nat → Hs} (k : alive (offH b h) i) : i ≠ b ∧ alive h i := by
  obtain ⟨q, hq⟩ := k
  by_cases e : i = b
  · subst e; rw [off_at] at hq; cases hq
  · rw [off_ne h e] at hq; exact ⟨e, q, hq⟩
theorem off_le {b : Nat} {h : Nat → Hs} {τ : Nat → Value} {w w' : World} (hb : Below w.heap.size w w') : (env X h τ w).le (env X (offH b h) τ w') := by
  refine ⟨fun i hi => ⟨?_, rfl⟩, fun g _ ha => ⟨ha.1, fun i hi => ha.2 i (off_alive hi).2⟩, hb.size, fun g o hg _ => hb.cell (p := ⟨g, o, none⟩) hg⟩
  have hi : h i ≠ .fresh := hi
  show offH b h i ≠ .fresh
  by_cases e : i = b
  · subst e; rw [off_at]; intro e; cases e
  · rw [off_ne h e]; exact hi
theorem off_R {b e k n : Nat} {xs : List Value} {τ : Nat → Value} {a : Act} {w : World} (h : SimT X S τ a w) (hb : S.hp b = .live (.row e k n xs)) : ∀ (c : Ce) (v : Value), (idC c).all (Nat.beq · b) = true → c.R (env X S.hp τ w) v → (shut S.hp c).R (env X (offH b S.hp) τ w) v := fun c v hc hR => by
  have wk : ∀ (c : Ce), c.R (env X S.hp τ w) v → c.R (env X (offH b S.hp) τ w) v := fun c hR => ceR_le (off_le (Below.refl _ _)) _ _ hR
  unfold shut
  split
  · rename_i i
    simp only [idC, List.all_cons, List.all_nil, Bool.and_true] at hc
    obtain rfl := Nat.eq_of_beq_eq_true hc
    rw [hb]
    obtain ⟨_, hv⟩ := hR
    have hv : v = τ i := hv
    subst hv
    have hr : w.ownsRow X.base e k (τ i) n xs := h.hp i _ hb
    refine ⟨Sl.of_owns hr, fun ad l c e' => ⟨.inr (h.own i ad.block ⟨_, hb⟩ (by rw [e']; rfl)).1, fun j hj ho => ?_⟩⟩
    obtain ⟨hne, hj⟩ := off_alive hj
    exact h.sep j i ad.block hne hj ⟨_, hb⟩ ho (by rw [e']; rfl)
  · exact wk _ hR
theorem off_Rm {b e k n : Nat} {xs : List Value} {τ : Nat → Value} {a : Act} {w : World} (h : SimT X S τ a w) (hb : S.hp b = .live (.row e k n xs)) : ∀ (c : Cm) (v : Value), (idM c).all (Nat.beq · b) = true → c.R (env X S.hp τ w) v → (shutM S.hp c).R (env X (offH b S.hp) τ w) v
  | .c x, v, hc, hR => off_R h hb x v hc hR
  | .ag cs, v, hc, ⟨vs, e, hR⟩ => by
    refine ⟨vs, e, ?_⟩
    have : ∀ (cs : List Ce) (vs : List Value), (cs.flatMap idC).all (Nat.beq · b) = true → All2 (Ce.R (env X S.hp τ w)) cs vs → All2 (Ce.R (env X (offH b S.hp) τ w)) (cs.map (shut S.hp)) vs := by
      intro cs
      induction cs with
      | nil => intro vs _ h; cases vs with | nil => trivial | cons _ _ => exact h.elim
      | cons c cs ih =>
        intro vs hc k
        rw [List.flatMap_cons, List.all_append, Bool.and_eq_true] at hc
        cases vs with | nil => exact k.elim | cons v vs => exact ⟨off_R h hb c v hc.1 k.1, ih vs hc.2 k.2⟩
    exact this cs _ hc hR
theorem off_Rs {b e k n : Nat} {xs : List Value} {τ : Nat → Value} {a : Act} {w : World} (h : SimT X S τ a w) (hb : S.hp b = .live (.row e k n xs)) : ∀ (l : List Cm) (vs : List Value), (l.flatMap idM).all (Nat.beq · b) = true → All2 (Cm.R (env X S.hp τ w)) l vs → All2 (Cm.R (env X (offH b S.hp) τ w)) (l.map (shutM S.hp)) vs
  | [], [], _, _ => trivial
  | m :: l, v :: vs, hc, k => by
    rw [List.flatMap_cons, List.all_append, Bool.and_eq_true] at hc
    exact ⟨off_Rm h hb m v hc.1 k.1, off_Rs h hb l vs hc.2 k.2⟩
  | [], _ :: _, _, h => h.elim
  | _ :: _, [], _, h => h.elim
theorem off_bk {b : Nat} {h : Nat → Hs} {τ : Nat → Value} {w : World} : ∀ (k : Bk) (v : Value) (base : Nat), k.R (env X h τ w) base v → k.R (env X (offH b h) τ w) base v
  | .box cs, v, base, ⟨g, vs, h1, h2, h3⟩ => ⟨g, vs, h1, h2, All2.mono (ceR_le (off_le (Below.refl _ _))) _ _ h3⟩
  | .row e k n xs, v, base, hk => hk
/-- an own row is handed over for good -/
theorem valid_call_d {k b e q n : Nat} {ys : List Value} {xs : Array Operand} {ts : Array TypeId} {l : List Cm} {r : AV} (ho : o.op = .call { callee := .value (.func k), args := xs, argTypes := ts }) (hw : want ops S o = true) (hk : callable P k = true) (hl : argsA S xs.toList = some l) (hb : S.hp b = .live (.row e q n ys)) (hi : (l.flatMap idM).all (Nat.beq · b) = true) (hc : CallOk P X.G k (l.map (shutM S.hp)) r) : Valid P ops X o S ⟨r, [(b, .dead)], []⟩ := fun S2 a w h1 h2 h3 ⟨τ, hS⟩ => by
  refine .inl ⟨want_spec hw h1 h3 hS, ?_⟩
  rw [run_call ho hk]
  obtain ⟨c1, c2, hc⟩ := hc
  have hR := argsA_R (S := S) (E := env X S2.hp τ w) (a := a) xs.toList l hl (fun x hx => by
    have hm : x ∈ o.op.operands := by rw [ho]; simp [Op.operands, Call.operands]; exact .inr (by simpa using hx)
    rw [← ev_same h1 hm]; exact hS.ev x (fun t e => h3 t (.inl (looks_op (e ▸ hm)))))
  have e2 : S2.hp b = S.hp b := h2 (.all b) (by simp [Ef.foot, upRd])
  have hsh : l.map (shutM S2.hp) = l.map (shutM S.hp) := List.map_congr_left fun m hm => shutM_same fun i hi' => by
    have := List.all_eq_true.1 hi i (List.mem_flatMap.2 ⟨m, hm, hi'⟩)
    rw [Nat.eq_of_beq_eq_true this]; exact e2
  have hb2 : S2.hp b = .live (.row e q n ys) := e2.trans hb
  have hR1 := off_Rs hS hb2 _ _ hi hR
  rw [hsh] at hR1
  have hR' := all2m_map (F := en0 (alw X (offH b S2.hp) τ) w) (E := env X (offH b S2.hp) τ w) rfl (fun _ _ h => h) _ _ c2 hR1
  refine (hc (alw X (offH b S2.hp) τ) w (xs.map a.eval) (X.hG w hS.bel) (by simpa using hR')).mono ?_
  rintro e' w' ⟨v, rfl, hbl, hr⟩
  refine ⟨v, rfl, τ, hS.turn (u := [(b, .dead)]) (off_le hbl) (hS.bel.trans (hbl.mono hS.bel.size)) (fun i q hq => ?_) (fun i g hi hg => ?_) (fun i j g hne hi hj => hS.sep i j g hne (off_alive hi).2 (off_alive hj).2) hS.one ?_⟩
  · have hq : offH b S2.hp i = .live q := hq
    obtain ⟨hne, _⟩ := off_alive ⟨q, hq⟩
    rw [off_ne _ hne] at hq
    exact off_bk _ _ _ (bkR_below hbl _ _ _ (hS.hp i q hq))
  · have := hS.own i g (off_alive hi).2 hg
    exact ⟨this.1, Nat.lt_of_lt_of_le this.2 hbl.size⟩
  · refine avR_map (E := en0 _ w') (F := env X (offH b S2.hp) τ w') rfl (fun g _ hg => ?_) _ _ c1 hr
    rcases hg with hg | hg
    · exact hg
    · exact ⟨.inr (Nat.le_trans hS.bel.size hg), fun i hi he => by have := (hS.own i g (off_alive hi).2 he).2; omega⟩
end Go.Proofs.YtkffmaeiplgjeaaGreatDoor.Ax
/- The abstract walk: Create. -/
namespace Go.Proofs.YtkffmaeiplgjeaaGreatDoor.SpH
open Go.RowKit Go.Proofs.YtkffmaeiplgjeaaGreatDoor.Bv Go.Proofs.YtkffmaeiplgjeaaGreatDoor.VaSpec Go.Proofs.YtkffmaeiplgjeaaGreatDoor.Base Go.Proofs.YtkffmaeiplgjeaaGreatDoor.MemL Go.Proofs.YtkffmaeiplgjeaaGreatDoor.RegR Go.Proofs.YtkffmaeiplgjeaaGreatDoor.Ax Go.Proofs.YtkffmaeiplgjeaaGreatDoor.MemC Go.Proofs.YtkffmaeiplgjeaaGreatDoor.PutC Go.Proofs.YtkffmaeiplgjeaaGreatDoor.MemC3 Go.Proofs.YtkffmaeiplgjeaaGreatDoor.TzC Go.Proofs.YtkffmaeiplgjeaaGreatDoor.OkS Go.Proofs.YtkffmaeiplgjeaaGreatDoor.SpA Go.Proofs.YtkffmaeiplgjeaaGreatDoor.SpB Go.Proofs.YtkffmaeiplgjeaaGreatDoor.SpC Go.Proofs.YtkffmaeiplgjeaaGreatDoor.SpD Go.Proofs.YtkffmaeiplgjeaaGreatDoor.IterC Go.Proofs.YtkffmaeiplgjeaaGreatDoor.SpE Go.Proofs.YtkffmaeiplgjeaaGreatDoor.SpF Go.Proofs.YtkffmaeiplgjeaaGreatDoor.SpG
open Go.Proofs.YtkffmaeiplgjeaaGreatDoor.BitsC Go.Proofs.YtkffmaeiplgjeaaGreatDoor.PteSpec
set_option linter.unusedVariables false
set_option linter.unusedSimpArgs false
set_option maxRecDepth 10000
set_option maxHeartbeats 800000
attribute [local irreducible] Go.Proofs.YtkffmaeiplgjeaaGreatDoor.Ax.CallOk
theorem create_owned (k : Kr) (h : k.ss.length < 32) (haf : U k.af) (hao : U k.ao) (h0 : k.af ≠ 0) (hpf : U k.pf) (hp0 : k.pf ≠ 0) (hb : 0 ≤ k.pb ∧ k.pb ≤ 268435456) (hpm : 0 ≤ k.pm ∧ k.pm ≤ 64) (hm : Srt k.m) (hbig : (k.m.length + 1) * 32 ≤ 140737488355328)
    (hP : (gP k.sh).U) (hm1 : Srt (TableC.wipeM k.m (k.pb + tzI k.pf))) (hu1 : Uw (TableC.wipeM k.m (k.pb + tzI k.pf))) (hbig1 : ((TableC.wipeM k.m (k.pb + tzI k.pf)).length + 1) * 16 ≤ 140737488355328) (hown : (getI k.ao (tzI k.af) 1 == 1) = true) (hts : k.ts = zsL k.tn) (htn : k.tn ≤ 16) (hfs : k.fs.length ≤ 1000000) (hr : 0 ≤ k.pb + tzI k.pf ∧ k.pb + tzI k.pf < 1099511627776)
    : Ok 24 [.ag k.ce] (.tu [.ag (fenceK (createK k) [aFe (tzI k.af + 1)]).ce, ii k.ss.length, ii 0]) := by
  refine callOk_of 78 Tryz.func24 rfl rfl rfl rfl ?_ GG.to
  intro W A hG
  have ht := atake_ok k.am k.af k.ao haf hao h0
  rw [hown] at ht
  have hf := fresh_ok k.sz k.m k.pb k.pm k.pf hb hpm hpf hp0 hm hbig
  have hw := with_ok k.sz (TableC.wipeM k.m (k.pb + tzI k.pf)) (k.pb + tzI k.pf) 2 zP kA (gP k.sh) kA_U hP (by omega) (by omega) hr hm1 hu1 (by omega)
  have hs : Ok 16 [.ag (({ k with m := newM k, pf := setI k.pf (tzI k.pf) 1 0, af := takeA1 k.af, ao := takeA2 k.af k.ao } : Kr).raw k.tn k.ts (k.ss.length + 1) (flS k.ss ++ (⟨k.pb + tzI k.pf, tzI k.af + 1, true⟩ : Sp).vs) k.fs.length (flF k.fs)), .c (.s 1 4 (flF [aFe (tzI k.af + 1)]))] (.m (.ag (fenceK (createK k) [aFe (tzI k.af + 1)]).ce)) := by
    rw [← createK_ce]
    exact sfence_ok (createK k) hts htn [aFe (tzI k.af + 1)] (fun f hf => by simp at hf; subst hf; exact ⟨by show (0 : Int) ≤ 0; omega, by show (0 : Int) < 18446744073709551616; omega⟩) (by simp) hfs
  have hfa := fasid_ok (tzI k.af + 1)
  have hcc : ∀ (W : World) (vb : Nat) (v1 v2 : Value), GG W → Bx W vb #[v1, v2] → Sl W v1 k.ss.length 3 (flS k.ss) → Sl W v2 1 3 (⟨k.pb + tzI k.pf, tzI k.af + 1, true⟩ : Sp).vs → Calls Tryz.prog 60 #[.slice (some ⟨vb, 0, none⟩) 2 2] W fun e w' => ∃ v', e = .returned v' ∧ w'.ownsRow W.heap.size 65 3 v' (k.ss.length + 1) (flS k.ss ++ (⟨k.pb + tzI k.pf, tzI k.af + 1, true⟩ : Sp).vs) ∧ Below W.heap.size W w' :=
    fun W vb v1 v2 _ h1 h2 h3 => Go.Proofs.YtkffmaeiplgjeaaGreatDoor.ConcatSpace.concat_calls vb v1 v2 _ _ _ _ W h1 h2 h3 (flS_one _) (fun u hu => List.all_eq_true.1 (show (⟨k.pb + tzI k.pf, tzI k.af + 1, true⟩ : Sp).vs.all (·.oneCell') = true from rfl) u hu) (by omega)
  repeat (first
    | (refine go_at rfl ?_; first
        | refine go_do (valid_mv (.inl rfl) rfl) rfl ?_
        | (refine nxt_s 1 rfl ?_; refine go_do (valid_load_p tb rfl rfl rfl rfl rfl (by first | kernel_rfl | rfl)) (by first | kernel_rfl | rfl) ?_)
        | (refine nxt_s 1 rfl ?_; refine go_do (valid_fld_p tb rfl rfl rfl (by kernel_rfl)) rfl ?_)
        | refine go_do (valid_mv (.inr rfl) rfl) rfl ?_
        | refine go_do (valid_extract rfl rfl rfl rfl) rfl ?_
        | refine go_do (valid_cmp rfl rfl rfl rfl (by first | exact .eql1 (by omega) | exact .eql0 (by omega) | exact .neq1 (by omega) | exact .neq0 (by omega) | exact .lss1 (by omega) | exact .lss0 (by omega) | exact .leq1 (by omega) | exact .leq0 (by omega) | exact .gtr1 (by omega) | exact .gtr0 (by omega) | exact .geq1 (by omega) | exact .geq0 (by omega) | constructor)) rfl ?_
        | refine go_do (valid_box rfl rfl rfl rfl rfl rfl) rfl ?_
        | refine go_do (valid_alloc rfl rfl rfl rfl rfl) rfl ?_
        | (refine nxt_s 1 rfl ?_; refine go_do (valid_store_p rfl rfl rfl rfl rfl rfl (by first | kernel_rfl | rfl) rfl) (by first | kernel_rfl | rfl) ?_)
        | refine go_do (valid_len_s rfl rfl rfl rfl) rfl ?_
        | refine go_do (valid_build rfl rfl rfl rfl) rfl ?_
        | refine go_do (valid_bslice rfl rfl rfl rfl rfl rfl rfl rfl rfl rfl rfl) rfl ?_
        | refine go_do (valid_call rfl rfl rfl (hfa) (by kernel_rfl)) rfl ?_
        | refine go_do (valid_call rfl rfl rfl (ht) (by kernel_rfl)) rfl ?_
        | refine go_do (valid_call rfl rfl rfl (hf) (by kernel_rfl)) rfl ?_
        | refine go_do (valid_call rfl rfl rfl (kaddr_ok') (by kernel_rfl)) rfl ?_
        | refine go_do (valid_call rfl rfl rfl (hw) (by kernel_rfl)) rfl ?_
        | refine go_do (valid_bslice_ss rfl rfl rfl rfl rfl rfl (by kernel_rfl) rfl rfl rfl) rfl ?_
        | refine go_do (valid_concat rfl rfl rfl rfl rfl (by kernel_rfl) (by kernel_rfl) hcc) rfl ?_)
    | (refine hK _ ?_; clear hK K)
    | refine aw_text rfl ?_
    | refine aw_any (by kernel_rfl) (by kernel_rfl) rfl ?_
    | refine aw_cond1 rfl rfl ?_
    | refine aw_cond0 rfl rfl ?_
    | refine aw_skip ?_
    | refine aw_seq_k (fun K hK => ?_))
  refine go_at rfl ?_
  refine go_do (valid_call_d (b := 72) (l := [.ag (({ k with m := newM k, pf := setI k.pf (tzI k.pf) 1 0, af := takeA1 k.af, ao := takeA2 k.af k.ao } : Kr).raw k.tn k.ts (k.ss.length + 1) (flS k.ss ++ (⟨k.pb + tzI k.pf, tzI k.af + 1, true⟩ : Sp).vs) k.fs.length (flF k.fs)), .c (.o 72)]) rfl rfl rfl (by kernel_rfl) rfl (by kernel_rfl) (callOk_l (by kernel_rfl) hs)) (by kernel_rfl) ?_
  refine go_at rfl ?_
  refine go_do (valid_store_p rfl rfl rfl rfl rfl rfl (by kernel_rfl) rfl) (by kernel_rfl) ?_
  first
    | (refine hK _ ?_; clear hK K)
    | (rename_i K1 hK1; refine hK1 _ ?_; clear hK hK1; clear K)
    | (rename_i K1 hK1; refine hK1 _ ?_; clear hK1)
  refine aw_sub (sub_of [(1, .m (.c (.p 1 0))), (2, .m (.c (.p 2 0))), (5, .m (.c (.p 5 0)))] [(1, .live (.box k.ce)), (2, .live (.box zK)), (5, .live (.box (fenceK (createK k) [aFe (tzI k.af + 1)]).ce))] ⟨by kernel_rfl, by kernel_rfl, by kernel_rfl, trivial⟩ ⟨by kernel_rfl, by kernel_rfl, by kernel_rfl, trivial⟩ (by kernel_rfl)) ?_
  repeat (first
    | (refine go_at rfl ?_; first
        | (refine nxt_s 1 rfl ?_; refine go_do (valid_load_p tb rfl rfl rfl rfl rfl (by first | kernel_rfl | rfl)) (by first | kernel_rfl | rfl) ?_)
        | (refine nxt_s 1 rfl ?_; refine go_do (valid_fld_p tb rfl rfl rfl (by kernel_rfl)) rfl ?_)
        | refine go_do (valid_mv (.inr rfl) rfl) rfl ?_
        | (refine nxt_s 1 rfl ?_; refine go_do (valid_store_p rfl rfl rfl rfl rfl rfl (by first | kernel_rfl | rfl) rfl) (by first | kernel_rfl | rfl) ?_)
        | refine go_do (valid_len_s rfl rfl rfl rfl) rfl ?_)
    | (refine hK _ ?_; clear hK K)
    | refine aw_any (by kernel_rfl) (by kernel_rfl) rfl ?_
    | exact aw_ret (show resA _ _ _ = some _ by kernel_rfl)
    | refine aw_seq_k (fun K hK => ?_))
theorem freshno_ok (sz : Int) (xs : List (Int × Int)) (base many : Int) (hb : 0 ≤ base ∧ base ≤ 268435456) (hm : 0 ≤ many ∧ many ≤ 64) :
    Ok 30 [memA sz xs, .ag [cu base, ci many, cu 0]] (.tu [memA sz xs, .ag [cu base, ci many, cu 0], iu 0, ii 8]) :=
  callOk_calls rfl fun A W vs hG hR => by
    obtain ⟨v1, v2, rfl, h1, h2⟩ := args2 hR
    obtain ⟨u, rfl, hu'⟩ := arg_mem h1
    obtain rfl := plain_ag (xs := [.int .u64 base, .int .i64 many, .int .u64 0]) h2
    obtain ⟨a, c, rfl⟩ := sl_slice hu'.1
    refine (TableC4.fresh_none sz a _ c base many W hb hm hG.t).mono ?_
    rintro e w' ⟨rfl, hb'⟩
    exact ⟨_, rfl, hb', _, rfl, all2_two (old_s hu' hb'), ⟨_, rfl, rfl, rfl, rfl, trivial⟩, rfl, rfl, trivial⟩
theorem create_noframe (k : Kr) (h : k.ss.length < 32) (haf : U k.af) (hao : U k.ao) (h0 : k.af ≠ 0) (hp0 : k.pf = 0) (hb : 0 ≤ k.pb ∧ k.pb ≤ 268435456) (hpm : 0 ≤ k.pm ∧ k.pm ≤ 64)
    : Ok 24 [.ag k.ce] (.tu [.ag k.ce, ii 0, ii 8]) := by
  have hf : Ok 30 [memA k.sz k.m, .ag [cu k.pb, ci k.pm, cu k.pf]] (.tu [memA k.sz k.m, .ag [cu k.pb, ci k.pm, cu k.pf], iu 0, ii 8]) := by rw [hp0]; exact freshno_ok k.sz k.m k.pb k.pm hb hpm
  cases hown : (getI k.ao (tzI k.af) 1 == 1) with
  | false =>
    refine callOk_of 78 Tryz.func24 rfl rfl rfl rfl ?_ GG.to
    intro W A hG
    have ht := atake_ok k.am k.af k.ao haf hao h0
    rw [hown] at ht
    repeat (first
      | (refine go_at rfl ?_; first
          | refine go_do (valid_mv (.inl rfl) rfl) rfl ?_
          | (refine nxt_s 1 rfl ?_; refine go_do (valid_load_p tb rfl rfl rfl rfl rfl (by first | kernel_rfl | rfl)) (by first | kernel_rfl | rfl) ?_)
          | (refine nxt_s 1 rfl ?_; refine go_do (valid_fld_p tb rfl rfl rfl (by kernel_rfl)) rfl ?_)
          | refine go_do (valid_mv (.inr rfl) rfl) rfl ?_
          | refine go_do (valid_extract rfl rfl rfl rfl) rfl ?_
          | refine go_do (valid_cmp rfl rfl rfl rfl (by first | exact .eql1 (by omega) | exact .eql0 (by omega) | exact .neq1 (by omega) | exact .neq0 (by omega) | exact .lss1 (by omega) | exact .lss0 (by omega) | exact .leq1 (by omega) | exact .leq0 (by omega) | exact .gtr1 (by omega) | exact .gtr0 (by omega) | exact .geq1 (by omega) | exact .geq0 (by omega) | constructor)) rfl ?_
          | refine go_do (valid_box rfl rfl rfl rfl rfl rfl) rfl ?_
          | refine go_do (valid_alloc rfl rfl rfl rfl rfl) rfl ?_
          | (refine nxt_s 1 rfl ?_; refine go_do (valid_store_p rfl rfl rfl rfl rfl rfl (by first | kernel_rfl | rfl) rfl) (by first | kernel_rfl | rfl) ?_)
          | refine go_do (valid_len_s rfl rfl rfl rfl) rfl ?_
          | refine go_do (valid_call rfl rfl rfl (ht) (by kernel_rfl)) rfl ?_
          | refine go_do (valid_call rfl rfl rfl (hf) (by kernel_rfl)) rfl ?_)
      | (refine hK _ ?_; clear hK K)
      | refine aw_text rfl ?_
      | exact aw_ret (show resA _ _ _ = some _ by kernel_rfl)
      | refine aw_cond1 rfl rfl ?_
      | refine aw_cond0 rfl rfl ?_
      | refine aw_skip ?_
      | refine aw_seq_k (fun K hK => ?_))
  | true =>
    refine callOk_of 78 Tryz.func24 rfl rfl rfl rfl ?_ GG.to
    intro W A hG
    have ht := atake_ok k.am k.af k.ao haf hao h0
    rw [hown] at ht
    repeat (first
      | (refine go_at rfl ?_; first
          | refine go_do (valid_mv (.inl rfl) rfl) rfl ?_
          | (refine nxt_s 1 rfl ?_; refine go_do (valid_load_p tb rfl rfl rfl rfl rfl (by first | kernel_rfl | rfl)) (by first | kernel_rfl | rfl) ?_)
          | (refine nxt_s 1 rfl ?_; refine go_do (valid_fld_p tb rfl rfl rfl (by kernel_rfl)) rfl ?_)
          | refine go_do (valid_mv (.inr rfl) rfl) rfl ?_
          | refine go_do (valid_extract rfl rfl rfl rfl) rfl ?_
          | refine go_do (valid_cmp rfl rfl rfl rfl (by first | exact .eql1 (by omega) | exact .eql0 (by omega) | exact .neq1 (by omega) | exact .neq0 (by omega) | exact .lss1 (by omega) | exact .lss0 (by omega) | exact .leq1 (by omega) | exact .leq0 (by omega) | exact .gtr1 (by omega) | exact .gtr0 (by omega) | exact .geq1 (by omega) | exact .geq0 (by omega) | constructor)) rfl ?_
          | refine go_do (valid_box rfl rfl rfl rfl rfl rfl) rfl ?_
          | refine go_do (valid_alloc rfl rfl rfl rfl rfl) rfl ?_
          | (refine nxt_s 1 rfl ?_; refine go_do (valid_store_p rfl rfl rfl rfl rfl rfl (by first | kernel_rfl | rfl) rfl) (by first | kernel_rfl | rfl) ?_)
          | refine go_do (valid_len_s rfl rfl rfl rfl) rfl ?_
          | refine go_do (valid_call rfl rfl rfl (ht) (by kernel_rfl)) rfl ?_
          | refine go_do (valid_call rfl rfl rfl (hf) (by kernel_rfl)) rfl ?_)
      | (refine hK _ ?_; clear hK K)
      | refine aw_text rfl ?_
      | exact aw_ret (show resA _ _ _ = some _ by kernel_rfl)
      | refine aw_cond1 rfl rfl ?_
      | refine aw_cond0 rfl rfl ?_
      | refine aw_skip ?_
      | refine aw_seq_k (fun K hK => ?_))
end Go.Proofs.YtkffmaeiplgjeaaGreatDoor.SpH
/- Plain facts on a kernel's memory and its bits. -/
namespace Go.Proofs.YtkffmaeiplgjeaaGreatDoor.SpI
open Go.RowKit Go.Proofs.YtkffmaeiplgjeaaGreatDoor.Bv Go.Proofs.YtkffmaeiplgjeaaGreatDoor.VaSpec Go.Proofs.YtkffmaeiplgjeaaGreatDoor.Base Go.Proofs.YtkffmaeiplgjeaaGreatDoor.MemL Go.Proofs.YtkffmaeiplgjeaaGreatDoor.RegR Go.Proofs.YtkffmaeiplgjeaaGreatDoor.Ax Go.Proofs.YtkffmaeiplgjeaaGreatDoor.MemC Go.Proofs.YtkffmaeiplgjeaaGreatDoor.PutC Go.Proofs.YtkffmaeiplgjeaaGreatDoor.MemC3 Go.Proofs.YtkffmaeiplgjeaaGreatDoor.TzC Go.Proofs.YtkffmaeiplgjeaaGreatDoor.OkS Go.Proofs.YtkffmaeiplgjeaaGreatDoor.SpA Go.Proofs.YtkffmaeiplgjeaaGreatDoor.SpB Go.Proofs.YtkffmaeiplgjeaaGreatDoor.SpC Go.Proofs.YtkffmaeiplgjeaaGreatDoor.SpD Go.Proofs.YtkffmaeiplgjeaaGreatDoor.IterC Go.Proofs.YtkffmaeiplgjeaaGreatDoor.SpE Go.Proofs.YtkffmaeiplgjeaaGreatDoor.SpF Go.Proofs.YtkffmaeiplgjeaaGreatDoor.SpG
open Go.Proofs.YtkffmaeiplgjeaaGreatDoor.BitsC Go.Proofs.YtkffmaeiplgjeaaGreatDoor.PteSpec
set_option linter.unusedVariables false
set_option linter.unusedSimpArgs false
/-! ### cells -/
theorem putM_mem : ∀ (xs : List (Int × Int)) (k v : Int) (c : Int × Int), c ∈ putM xs k v → c ∈ xs ∨ (c = (k, v) ∧ v ≠ 0)
  | [], k, v, c, h => by
    simp only [putM] at h
    split at h
    · simp at h
    · rename_i hv; simp at h; exact .inr ⟨h, hv⟩
  | x :: xs, k, v, c, h => by
    simp only [putM] at h
    split at h
    · rcases List.mem_cons.1 h with h | h
      · exact .inl (by simp [h])
      · exact (putM_mem xs k v c h).imp (List.mem_cons_of_mem _) id
    · split at h
      · split at h
        · exact .inl (List.mem_cons_of_mem _ h)
        · rename_i hv
          rcases List.mem_cons.1 h with h | h
          · exact .inr ⟨h, hv⟩
          · exact .inl (List.mem_cons_of_mem _ h)
      · split at h
        · exact .inl h
        · rename_i hv
          rcases List.mem_cons.1 h with h | h
          · exact .inr ⟨h, hv⟩
          · exact .inl h
theorem putM_len : ∀ (xs : List (Int × Int)) (k v : Int), (putM xs k v).length ≤ xs.length + 1
  | [], k, v => by simp only [putM]; split <;> simp
  | x :: xs, k, v => by
    have := putM_len xs k v
    simp only [putM]
    split
    · simp; omega
    · split <;> split <;> simp <;> omega
theorem putM_srt : ∀ (xs : List (Int × Int)) (k v : Int), Srt xs → Srt (putM xs k v)
  | [], k, v, _ => by simp only [putM]; split <;> simp [Srt]
  | x :: xs, k, v, h => by
    have h' := List.pairwise_cons.1 h
    simp only [putM]
    split
    · rename_i hx
      refine List.pairwise_cons.2 ⟨fun d hd => ?_, putM_srt xs k v h'.2⟩
      rcases putM_mem _ _ _ _ hd with hd | ⟨rfl, _⟩
      · exact h'.1 d hd
      · exact hx
    · split
      · rename_i hk
        split
        · exact h'.2
        · exact List.pairwise_cons.2 ⟨fun d hd => by have := h'.1 d hd; rw [hk] at this; exact this, h'.2⟩
      · split
        · exact h
        · exact List.pairwise_cons.2 ⟨fun d hd => by
            rcases List.mem_cons.1 hd with rfl | hd
            · show k < _; omega
            · have := h'.1 d hd; show k < _; omega, h⟩
theorem put0_ne : ∀ (xs : List (Int × Int)) (k : Int) (c : Int × Int), Srt xs → c ∈ putM xs k 0 → c.1 ≠ k
  | [], k, c, _, h => by simp [putM] at h
  | x :: xs, k, c, hs, h => by
    have h' := List.pairwise_cons.1 hs
    simp only [putM] at h
    split at h
    · rcases List.mem_cons.1 h with h | h
      · subst h; omega
      · exact put0_ne xs k c h'.2 h
    · split at h
      · rename_i hk
        simp only [if_pos] at h
        have := h'.1 c h; omega
      · simp only [if_pos] at h
        rcases List.mem_cons.1 h with h | h
        · subst h; assumption
        · have := h'.1 c h; omega
theorem lb_mono : ∀ (xs : List (Int × Int)) (a b : Int), a ≤ b → lb xs a ≤ lb xs b
  | [], a, b, _ => by simp [lb]
  | x :: xs, a, b, h => by
    have := lb_mono xs a b h
    simp only [lb]
    split
    · rw [if_pos (by omega)]; omega
    · omega
theorem wipe_sub (xs : List (Int × Int)) (f : Int) : (TableC.wipeM xs f).Sublist xs := by
  unfold TableC.wipeM ClearC.clearM
  have h := lb_mono xs (f * 512) (f * 512 + 512) (by omega)
  have e : xs.drop (lb xs (f * 512 + 512)) = (xs.drop (lb xs (f * 512))).drop (lb xs (f * 512 + 512) - lb xs (f * 512)) := by
    rw [List.drop_drop]; congr 1; omega
  rw [e]
  have := List.Sublist.append (List.Sublist.refl (xs.take (lb xs (f * 512)))) (List.drop_sublist (lb xs (f * 512 + 512) - lb xs (f * 512)) (xs.drop (lb xs (f * 512))))
  rwa [List.take_append_drop] at this
theorem wipe_srt {xs : List (Int × Int)} (f : Int) (h : Srt xs) : Srt (TableC.wipeM xs f) := List.Pairwise.sublist (wipe_sub xs f) h
theorem wipe_mem {xs : List (Int × Int)} {f : Int} {c : Int × Int} (h : c ∈ TableC.wipeM xs f) : c ∈ xs := (wipe_sub xs f).subset h
theorem wipe_len (xs : List (Int × Int)) (f : Int) : (TableC.wipeM xs f).length ≤ xs.length := (wipe_sub xs f).length_le
/-- where a kernel's cells may lie -/
def COk (lo hi : Int) (c : Int × Int) : Prop := lo * 512 ≤ c.1 ∧ c.1 < hi * 512 ∧ c.1 % 512 = 511 ∧ U c.2
theorem cok_uw {lo hi : Int} {xs : List (Int × Int)} (h : ∀ c ∈ xs, COk lo hi c) (h0 : 0 ≤ lo) (h1 : hi ≤ 1099511627776) : Uw xs := fun c hc => by
  obtain ⟨a, b, d, e⟩ := h c hc
  exact ⟨⟨by omega, by omega⟩, e⟩
theorem look_none {xs : List (Int × Int)} {k : Int} (h : ∀ c ∈ xs, c.1 ≠ k) : MemC.look xs k = 0 := by
  unfold MemC.look
  split
  · rename_i c hc
    rw [if_neg (h c (List.mem_of_getElem? hc))]
  · rfl
/-! ### bits -/
theorem X_nat {a : Int} (h : U a) : (X a).toNat = a.toNat := by
  have e := B_X h
  unfold B at e; obtain ⟨h0, h1⟩ := h; omega
theorem lt_of_bits {w : BitVec 64} {n : Nat} (h : ∀ i, n ≤ i → w.getLsbD i = false) : w.toNat < 2 ^ n :=
  Nat.lt_pow_two_of_testBit _ fun i hi => by rw [BitVec.testBit_toNat]; exact h i hi
theorem bits_of_lt {w : BitVec 64} {n : Nat} (h : w.toNat < 2 ^ n) (i : Nat) (hi : n ≤ i) : w.getLsbD i = false := by
  rw [← BitVec.testBit_toNat]
  exact Nat.testBit_lt_two_pow (Nat.lt_of_lt_of_le h (Nat.pow_le_pow_right (by decide) hi))
theorem lt_int {x : Int} {n : Nat} (h0 : 0 ≤ x) : x < 2 ^ n ↔ x.toNat < 2 ^ n := by
  have e : ((2 : Int) ^ n) = ((2 ^ n : Nat) : Int) := by norm_cast
  rw [e]; omega
/-- a word whose bits from a place on are 0 -/
theorem fit_set {x i v : Int} {n : Nat} (h : U x) (hx : x < 2 ^ n) (h0 : 0 ≤ i) (hi : i < n) : setI x i 1 v < 2 ^ n := by
  rw [lt_int (setI_U _ _ _ _).1]
  rw [lt_int h.1, ← X_nat h] at hx
  unfold setI
  have : (B (setB (X x) i.toNat (1 : Int).toNat (X v))).toNat = (setB (X x) i.toNat (1 : Int).toNat (X v)).toNat := by unfold B; omega
  rw [this]
  refine lt_of_bits fun j hj => ?_
  rw [setB_bit, if_neg (by rw [show (1 : Int).toNat = 1 from rfl]; omega), bits_of_lt hx j hj, Bool.and_false]
theorem tz_fit {x : Int} {n : Nat} (h : U x) (hx : x < 2 ^ n) (h0 : x ≠ 0) : 0 ≤ tzI x ∧ tzI x < n := by
  obtain ⟨h1, h2⟩ := h
  obtain ⟨hb, _⟩ := Lib.lowest_bit 64 x.toNat (by omega) (by omega)
  have hle : 2 ^ Lib.ctz 64 x.toNat ≤ x.toNat := by rw [← hb]; exact Nat.and_le_left
  have hx := (lt_int h1).1 hx
  have := (Nat.pow_lt_pow_iff_right (show 1 < 2 by decide)).1 (Nat.lt_of_le_of_lt hle hx)
  unfold tzI
  omega
theorem U_fit {x : Int} {n : Nat} (h0 : 0 ≤ x) (h : x < 2 ^ n) (hn : n ≤ 64) : U x := by
  refine ⟨h0, Int.lt_of_lt_of_le h ?_⟩
  have : (2 : Nat) ^ n ≤ 2 ^ 64 := Nat.pow_le_pow_right (by decide) hn
  have e : ((2 : Int) ^ n) = ((2 ^ n : Nat) : Int) := by norm_cast
  rw [e]; omega
/-- a bit, as a Bool -/
def bitB (x i : Int) : Bool := getI x i 1 == 1
theorem bitB_eq {x i : Int} (h0 : 0 ≤ i) : bitB x i = (X x).getLsbD i.toNat := by
  unfold bitB getI
  have hb := fun j => getB_bit (X x) i.toNat 1 j
  rw [show (1 : Int).toNat = 1 from rfl]
  have hlt : (getB (X x) i.toNat 1).toNat < 2 ^ 1 := lt_of_bits fun j hj => by rw [hb j, decide_eq_false (by omega), Bool.false_and]
  have h0' := hb 0
  rw [← BitVec.testBit_toNat, Nat.testBit_zero] at h0'
  simp only [Nat.add_zero, show decide (0 < 1) = true from rfl, Bool.true_and] at h0'
  rw [← h0']
  have e : B (getB (X x) i.toNat 1) = ((getB (X x) i.toNat 1).toNat : Int) := rfl
  rw [e]
  rcases (by omega : (getB (X x) i.toNat 1).toNat = 0 ∨ (getB (X x) i.toNat 1).toNat = 1) with h | h <;> rw [h] <;> rfl
theorem bit_set {x i v j : Int} (h : U x) (h0 : 0 ≤ i) (h1 : i < 64) (hj : 0 ≤ j) (hj1 : j < 64) : bitB (setI x i 1 v) j = if j = i then (X v).getLsbD 0 else bitB x j := by
  rw [bitB_eq hj, bitB_eq hj]
  unfold setI
  rw [X_B, setB_bit, decide_eq_true (by omega), Bool.true_and, show (1 : Int).toNat = 1 from rfl]
  by_cases e : j = i
  · subst e
    rw [if_pos ⟨Nat.le_refl _, by omega⟩, if_pos rfl, Nat.sub_self]
  · rw [if_neg (by omega), if_neg e]
end Go.Proofs.YtkffmaeiplgjeaaGreatDoor.SpI
