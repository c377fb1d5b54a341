/- Texts of this claim, one behind the other: SpN, SpO. -/
import Derived.Test.YtkffmaeiplgjeaaGreatDoorM12
/- The abstract walk: configurations, New, deeds. -/
namespace Go.Proofs.YtkffmaeiplgjeaaGreatDoor.SpN
open Go.RowKit Go.Proofs.YtkffmaeiplgjeaaGreatDoor.Bv Go.Proofs.YtkffmaeiplgjeaaGreatDoor.VaSpec Go.Proofs.YtkffmaeiplgjeaaGreatDoor.Base Go.Proofs.YtkffmaeiplgjeaaGreatDoor.MemL Go.Proofs.YtkffmaeiplgjeaaGreatDoor.RegR Go.Proofs.YtkffmaeiplgjeaaGreatDoor.Ax Go.Proofs.YtkffmaeiplgjeaaGreatDoor.MemC Go.Proofs.YtkffmaeiplgjeaaGreatDoor.PutC Go.Proofs.YtkffmaeiplgjeaaGreatDoor.MemC3 Go.Proofs.YtkffmaeiplgjeaaGreatDoor.TzC Go.Proofs.YtkffmaeiplgjeaaGreatDoor.OkS Go.Proofs.YtkffmaeiplgjeaaGreatDoor.SpA Go.Proofs.YtkffmaeiplgjeaaGreatDoor.SpB Go.Proofs.YtkffmaeiplgjeaaGreatDoor.SpC Go.Proofs.YtkffmaeiplgjeaaGreatDoor.SpD Go.Proofs.YtkffmaeiplgjeaaGreatDoor.IterC Go.Proofs.YtkffmaeiplgjeaaGreatDoor.SpE Go.Proofs.YtkffmaeiplgjeaaGreatDoor.SpF Go.Proofs.YtkffmaeiplgjeaaGreatDoor.SpG Go.Proofs.YtkffmaeiplgjeaaGreatDoor.SpH Go.Proofs.YtkffmaeiplgjeaaGreatDoor.SpI Go.Proofs.YtkffmaeiplgjeaaGreatDoor.SpJ Go.Proofs.YtkffmaeiplgjeaaGreatDoor.SpK
open Go.Proofs.YtkffmaeiplgjeaaGreatDoor.BitsC Go.Proofs.YtkffmaeiplgjeaaGreatDoor.PteSpec
set_option linter.unusedVariables false
set_option linter.unusedSimpArgs false
set_option maxRecDepth 10000
set_option maxHeartbeats 800000
attribute [local irreducible] Go.Proofs.YtkffmaeiplgjeaaGreatDoor.Ax.CallOk
/-! ### less is told -/
theorem callOk_lt {P : Program} {G : World → Prop} {k : FuncId} {args : List Cm} {r r' : AV} (h : CallOk P G k args r) (hc : closedV r' = true) (hlt : r.lt r') : CallOk P G k args r' := by
  unfold CallOk at h ⊢
  obtain ⟨h1, h2, h3⟩ := h
  exact ⟨hc, h2, fun A W vs hG hR => (h3 A W vs hG hR).mono fun e w' ⟨v, he, hb, hr⟩ => ⟨v, he, hb, hlt _ _ hr⟩⟩
def ltC (c c' : Ce) : Prop := ∀ E v, c.R E v → c'.R E v
theorem ltC.rf (c : Ce) : ltC c c := fun _ _ h => h
theorem ltC.nil (k : Nat) : ltC (.v (.slice none 0 0)) (.s 0 k []) := fun E v h => by
  have h : v = .slice none 0 0 := h
  subst h
  exact ⟨⟨by simp, .inl ⟨rfl, rfl⟩⟩, fun a l c e => by cases e⟩
theorem all2_lt {E : En} : ∀ (cs cs' : List Ce) (vs : List Value), All2 ltC cs cs' → All2 (Ce.R E) cs vs → All2 (Ce.R E) cs' vs
  | [], [], _, _, h => h
  | c :: cs, c' :: cs', [], _, h => h.elim
  | c :: cs, c' :: cs', v :: vs, k, h => ⟨k.1 _ _ h.1, all2_lt cs cs' vs k.2 h.2⟩
  | [], _ :: _, _, k, _ => k.elim
  | _ :: _, [], _, k, _ => k.elim
theorem tu_lt {cs cs' : List Ce} {l : List Cm} (h : All2 ltC cs cs') : AV.lt (.tu (.ag cs :: l)) (.tu (.ag cs' :: l)) := fun E v ⟨vs, e, k⟩ => by
  refine ⟨vs, e, ?_⟩
  generalize vs.toList = xs at k
  cases xs with
  | nil => exact k.elim
  | cons x xs =>
    obtain ⟨⟨us, e', k1⟩, k2⟩ := k
    exact ⟨⟨us, e', all2_lt _ _ _ h k1⟩, k2⟩
theorem m_lt {cs cs' : List Ce} (h : All2 ltC cs cs') : AV.lt (.m (.ag cs)) (.m (.ag cs')) := fun E v ⟨vs, e, k⟩ => ⟨vs, e, all2_lt _ _ _ h k⟩
/-! ### configurations -/
def confB (a b c d : Int) : Bool := decide (1 ≤ a) && (decide (a ≤ 524288) && (decide (1 ≤ b) && (decide (b ≤ 64) && (decide (1 ≤ c) && (decide (c ≤ 16) && (decide (0 ≤ d) && decide (d ≤ 16)))))))
theorem confB_iff {a b c d : Int} : confB a b c d = true ↔ (1 ≤ a ∧ a ≤ 524288) ∧ (1 ≤ b ∧ b ≤ 64) ∧ (1 ≤ c ∧ c ≤ 16) ∧ (0 ≤ d ∧ d ≤ 16) := by
  unfold confB; simp only [Bool.and_eq_true, decide_eq_true_eq]; omega
theorem confB_no {a b c d : Int} (h : ¬ ((1 ≤ a ∧ a ≤ 524288) ∧ (1 ≤ b ∧ b ≤ 64) ∧ (1 ≤ c ∧ c ≤ 16) ∧ (0 ≤ d ∧ d ≤ 16))) : confB a b c d = false := by
  cases e : confB a b c d with
  | false => rfl
  | true => exact absurd (confB_iff.1 e) h
def confA (a b c d : Int) : Cm := .ag [ci a, ci b, ci c, ci d]
theorem rmay_ok (a b c d : Int) : Ok 8 [confA a b c d] (.m (ib (confB a b c d))) := by
  by_cases h1 : 1 ≤ a
  · by_cases h2 : a ≤ 524288
    · by_cases h3 : 1 ≤ b
      · by_cases h4 : b ≤ 64
        · by_cases h5 : 1 ≤ c
          · by_cases h6 : c ≤ 16
            · by_cases h7 : 0 ≤ d
              · by_cases h8 : d ≤ 16
                · rw [confB_iff.2 (by omega)]
                  refine callOk_of 41 Tryz.func8 rfl rfl rfl rfl ?_ GG.to
                  intro W A hG
                  repeat (first
                    | (refine go_at rfl ?_; first
                        | refine go_do (valid_mv (.inl rfl) rfl) rfl ?_
                        | (refine nxt_s 1 rfl ?_; refine go_do (valid_load_p tb rfl rfl rfl rfl rfl (by first | kernel_rfl | rfl)) (by first | kernel_rfl | rfl) ?_)
                        | (refine nxt_s 1 rfl ?_; refine go_do (valid_fld_p tb rfl rfl rfl (by kernel_rfl)) rfl ?_)
                        | refine go_do (valid_mv (.inr rfl) rfl) rfl ?_
                        | refine go_do (valid_pick rfl rfl rfl) rfl ?_
                        | refine go_do (valid_cmp rfl rfl rfl rfl (by first | exact .eql1 (by omega) | exact .eql0 (by omega) | exact .neq1 (by omega) | exact .neq0 (by omega) | exact .lss1 (by omega) | exact .lss0 (by omega) | exact .leq1 (by omega) | exact .leq0 (by omega) | exact .gtr1 (by omega) | exact .gtr0 (by omega) | exact .geq1 (by omega) | exact .geq0 (by omega) | constructor)) rfl ?_
                        | refine go_do (valid_box rfl rfl rfl rfl rfl rfl) rfl ?_)
                    | (refine hK _ ?_; clear hK K)
                    | refine aw_text rfl ?_
                    | exact aw_ret (show resA _ _ _ = some _ by kernel_rfl)
                    | refine aw_seq_k (fun K hK => ?_))
                · rw [confB_no (by omega)]
                  refine callOk_of 41 Tryz.func8 rfl rfl rfl rfl ?_ GG.to
                  intro W A hG
                  repeat (first
                    | (refine go_at rfl ?_; first
                        | refine go_do (valid_mv (.inl rfl) rfl) rfl ?_
                        | (refine nxt_s 1 rfl ?_; refine go_do (valid_load_p tb rfl rfl rfl rfl rfl (by first | kernel_rfl | rfl)) (by first | kernel_rfl | rfl) ?_)
                        | (refine nxt_s 1 rfl ?_; refine go_do (valid_fld_p tb rfl rfl rfl (by kernel_rfl)) rfl ?_)
                        | refine go_do (valid_mv (.inr rfl) rfl) rfl ?_
                        | refine go_do (valid_pick rfl rfl rfl) rfl ?_
                        | refine go_do (valid_cmp rfl rfl rfl rfl (by first | exact .eql1 (by omega) | exact .eql0 (by omega) | exact .neq1 (by omega) | exact .neq0 (by omega) | exact .lss1 (by omega) | exact .lss0 (by omega) | exact .leq1 (by omega) | exact .leq0 (by omega) | exact .gtr1 (by omega) | exact .gtr0 (by omega) | exact .geq1 (by omega) | exact .geq0 (by omega) | constructor)) rfl ?_
                        | refine go_do (valid_box rfl rfl rfl rfl rfl rfl) rfl ?_)
                    | (refine hK _ ?_; clear hK K)
                    | refine aw_text rfl ?_
                    | exact aw_ret (show resA _ _ _ = some _ by kernel_rfl)
                    | refine aw_seq_k (fun K hK => ?_))
              · rw [confB_no (by omega)]
                refine callOk_of 41 Tryz.func8 rfl rfl rfl rfl ?_ GG.to
                intro W A hG
                repeat (first
                  | (refine go_at rfl ?_; first
                      | refine go_do (valid_skip rfl) rfl ?_
                      | refine go_do (valid_mv (.inl rfl) rfl) rfl ?_
                      | (refine nxt_s 1 rfl ?_; refine go_do (valid_load_p tb rfl rfl rfl rfl rfl (by first | kernel_rfl | rfl)) (by first | kernel_rfl | rfl) ?_)
                      | (refine nxt_s 1 rfl ?_; refine go_do (valid_fld_p tb rfl rfl rfl (by kernel_rfl)) rfl ?_)
                      | refine go_do (valid_mv (.inr rfl) rfl) rfl ?_
                      | refine go_do (valid_pick rfl rfl rfl) rfl ?_
                      | refine go_do (valid_cmp rfl rfl rfl rfl (by first | exact .eql1 (by omega) | exact .eql0 (by omega) | exact .neq1 (by omega) | exact .neq0 (by omega) | exact .lss1 (by omega) | exact .lss0 (by omega) | exact .leq1 (by omega) | exact .leq0 (by omega) | exact .gtr1 (by omega) | exact .gtr0 (by omega) | exact .geq1 (by omega) | exact .geq0 (by omega) | constructor)) rfl ?_
                      | refine go_do (valid_box rfl rfl rfl rfl rfl rfl) rfl ?_)
                  | (refine hK _ ?_; clear hK K)
                  | refine aw_text rfl ?_
                  | exact aw_ret (show resA _ _ _ = some _ by kernel_rfl)
                  | refine aw_seq_k (fun K hK => ?_))
            · rw [confB_no (by omega)]
              refine callOk_of 41 Tryz.func8 rfl rfl rfl rfl ?_ GG.to
              intro W A hG
              repeat (first
                | (refine go_at rfl ?_; first
                    | refine go_do (valid_skip rfl) rfl ?_
                    | refine go_do (valid_mv (.inl rfl) rfl) rfl ?_
                    | (refine nxt_s 1 rfl ?_; refine go_do (valid_load_p tb rfl rfl rfl rfl rfl (by first | kernel_rfl | rfl)) (by first | kernel_rfl | rfl) ?_)
                    | (refine nxt_s 1 rfl ?_; refine go_do (valid_fld_p tb rfl rfl rfl (by kernel_rfl)) rfl ?_)
                    | refine go_do (valid_mv (.inr rfl) rfl) rfl ?_
                    | refine go_do (valid_pick rfl rfl rfl) rfl ?_
                    | refine go_do (valid_cmp rfl rfl rfl rfl (by first | exact .eql1 (by omega) | exact .eql0 (by omega) | exact .neq1 (by omega) | exact .neq0 (by omega) | exact .lss1 (by omega) | exact .lss0 (by omega) | exact .leq1 (by omega) | exact .leq0 (by omega) | exact .gtr1 (by omega) | exact .gtr0 (by omega) | exact .geq1 (by omega) | exact .geq0 (by omega) | constructor)) rfl ?_
                    | refine go_do (valid_box rfl rfl rfl rfl rfl rfl) rfl ?_)
                | (refine hK _ ?_; clear hK K)
                | refine aw_text rfl ?_
                | exact aw_ret (show resA _ _ _ = some _ by kernel_rfl)
                | refine aw_seq_k (fun K hK => ?_))
          · rw [confB_no (by omega)]
            refine callOk_of 41 Tryz.func8 rfl rfl rfl rfl ?_ GG.to
            intro W A hG
            repeat (first
              | (refine go_at rfl ?_; first
                  | refine go_do (valid_skip rfl) rfl ?_
                  | refine go_do (valid_mv (.inl rfl) rfl) rfl ?_
                  | (refine nxt_s 1 rfl ?_; refine go_do (valid_load_p tb rfl rfl rfl rfl rfl (by first | kernel_rfl | rfl)) (by first | kernel_rfl | rfl) ?_)
                  | (refine nxt_s 1 rfl ?_; refine go_do (valid_fld_p tb rfl rfl rfl (by kernel_rfl)) rfl ?_)
                  | refine go_do (valid_mv (.inr rfl) rfl) rfl ?_
                  | refine go_do (valid_pick rfl rfl rfl) rfl ?_
                  | refine go_do (valid_cmp rfl rfl rfl rfl (by first | exact .eql1 (by omega) | exact .eql0 (by omega) | exact .neq1 (by omega) | exact .neq0 (by omega) | exact .lss1 (by omega) | exact .lss0 (by omega) | exact .leq1 (by omega) | exact .leq0 (by omega) | exact .gtr1 (by omega) | exact .gtr0 (by omega) | exact .geq1 (by omega) | exact .geq0 (by omega) | constructor)) rfl ?_
                  | refine go_do (valid_box rfl rfl rfl rfl rfl rfl) rfl ?_)
              | (refine hK _ ?_; clear hK K)
              | refine aw_text rfl ?_
              | exact aw_ret (show resA _ _ _ = some _ by kernel_rfl)
              | refine aw_seq_k (fun K hK => ?_))
        · rw [confB_no (by omega)]
          refine callOk_of 41 Tryz.func8 rfl rfl rfl rfl ?_ GG.to
          intro W A hG
          repeat (first
            | (refine go_at rfl ?_; first
                | refine go_do (valid_skip rfl) rfl ?_
                | refine go_do (valid_mv (.inl rfl) rfl) rfl ?_
                | (refine nxt_s 1 rfl ?_; refine go_do (valid_load_p tb rfl rfl rfl rfl rfl (by first | kernel_rfl | rfl)) (by first | kernel_rfl | rfl) ?_)
                | (refine nxt_s 1 rfl ?_; refine go_do (valid_fld_p tb rfl rfl rfl (by kernel_rfl)) rfl ?_)
                | refine go_do (valid_mv (.inr rfl) rfl) rfl ?_
                | refine go_do (valid_pick rfl rfl rfl) rfl ?_
                | refine go_do (valid_cmp rfl rfl rfl rfl (by first | exact .eql1 (by omega) | exact .eql0 (by omega) | exact .neq1 (by omega) | exact .neq0 (by omega) | exact .lss1 (by omega) | exact .lss0 (by omega) | exact .leq1 (by omega) | exact .leq0 (by omega) | exact .gtr1 (by omega) | exact .gtr0 (by omega) | exact .geq1 (by omega) | exact .geq0 (by omega) | constructor)) rfl ?_
                | refine go_do (valid_box rfl rfl rfl rfl rfl rfl) rfl ?_)
            | (refine hK _ ?_; clear hK K)
            | refine aw_text rfl ?_
            | exact aw_ret (show resA _ _ _ = some _ by kernel_rfl)
            | refine aw_seq_k (fun K hK => ?_))
      · rw [confB_no (by omega)]
        refine callOk_of 41 Tryz.func8 rfl rfl rfl rfl ?_ GG.to
        intro W A hG
        repeat (first
          | (refine go_at rfl ?_; first
              | refine go_do (valid_skip rfl) rfl ?_
              | refine go_do (valid_mv (.inl rfl) rfl) rfl ?_
              | (refine nxt_s 1 rfl ?_; refine go_do (valid_load_p tb rfl rfl rfl rfl rfl (by first | kernel_rfl | rfl)) (by first | kernel_rfl | rfl) ?_)
              | (refine nxt_s 1 rfl ?_; refine go_do (valid_fld_p tb rfl rfl rfl (by kernel_rfl)) rfl ?_)
              | refine go_do (valid_mv (.inr rfl) rfl) rfl ?_
              | refine go_do (valid_pick rfl rfl rfl) rfl ?_
              | refine go_do (valid_cmp rfl rfl rfl rfl (by first | exact .eql1 (by omega) | exact .eql0 (by omega) | exact .neq1 (by omega) | exact .neq0 (by omega) | exact .lss1 (by omega) | exact .lss0 (by omega) | exact .leq1 (by omega) | exact .leq0 (by omega) | exact .gtr1 (by omega) | exact .gtr0 (by omega) | exact .geq1 (by omega) | exact .geq0 (by omega) | constructor)) rfl ?_
              | refine go_do (valid_box rfl rfl rfl rfl rfl rfl) rfl ?_)
          | (refine hK _ ?_; clear hK K)
          | refine aw_text rfl ?_
          | exact aw_ret (show resA _ _ _ = some _ by kernel_rfl)
          | refine aw_seq_k (fun K hK => ?_))
    · rw [confB_no (by omega)]
      refine callOk_of 41 Tryz.func8 rfl rfl rfl rfl ?_ GG.to
      intro W A hG
      repeat (first
        | (refine go_at rfl ?_; first
            | refine go_do (valid_skip rfl) rfl ?_
            | refine go_do (valid_mv (.inl rfl) rfl) rfl ?_
            | (refine nxt_s 1 rfl ?_; refine go_do (valid_load_p tb rfl rfl rfl rfl rfl (by first | kernel_rfl | rfl)) (by first | kernel_rfl | rfl) ?_)
            | (refine nxt_s 1 rfl ?_; refine go_do (valid_fld_p tb rfl rfl rfl (by kernel_rfl)) rfl ?_)
            | refine go_do (valid_mv (.inr rfl) rfl) rfl ?_
            | refine go_do (valid_pick rfl rfl rfl) rfl ?_
            | refine go_do (valid_cmp rfl rfl rfl rfl (by first | exact .eql1 (by omega) | exact .eql0 (by omega) | exact .neq1 (by omega) | exact .neq0 (by omega) | exact .lss1 (by omega) | exact .lss0 (by omega) | exact .leq1 (by omega) | exact .leq0 (by omega) | exact .gtr1 (by omega) | exact .gtr0 (by omega) | exact .geq1 (by omega) | exact .geq0 (by omega) | constructor)) rfl ?_
            | refine go_do (valid_box rfl rfl rfl rfl rfl rfl) rfl ?_)
        | (refine hK _ ?_; clear hK K)
        | refine aw_text rfl ?_
        | exact aw_ret (show resA _ _ _ = some _ by kernel_rfl)
        | refine aw_seq_k (fun K hK => ?_))
  · rw [confB_no (by omega)]
    refine callOk_of 41 Tryz.func8 rfl rfl rfl rfl ?_ GG.to
    intro W A hG
    repeat (first
      | (refine go_at rfl ?_; first
          | refine go_do (valid_skip rfl) rfl ?_
          | refine go_do (valid_mv (.inl rfl) rfl) rfl ?_
          | (refine nxt_s 1 rfl ?_; refine go_do (valid_load_p tb rfl rfl rfl rfl rfl (by first | kernel_rfl | rfl)) (by first | kernel_rfl | rfl) ?_)
          | (refine nxt_s 1 rfl ?_; refine go_do (valid_fld_p tb rfl rfl rfl (by kernel_rfl)) rfl ?_)
          | refine go_do (valid_mv (.inr rfl) rfl) rfl ?_
          | refine go_do (valid_pick rfl rfl rfl) rfl ?_
          | refine go_do (valid_cmp rfl rfl rfl rfl (by first | exact .eql1 (by omega) | exact .eql0 (by omega) | exact .neq1 (by omega) | exact .neq0 (by omega) | exact .lss1 (by omega) | exact .lss0 (by omega) | exact .leq1 (by omega) | exact .leq0 (by omega) | exact .gtr1 (by omega) | exact .gtr0 (by omega) | exact .geq1 (by omega) | exact .geq0 (by omega) | constructor)) rfl ?_
          | refine go_do (valid_box rfl rfl rfl rfl rfl rfl) rfl ?_)
      | (refine hK _ ?_; clear hK K)
      | refine aw_text rfl ?_
      | exact aw_ret (show resA _ _ _ = some _ by kernel_rfl)
      | refine aw_seq_k (fun K hK => ?_))
theorem within1 {n a b : Int} (h : a ≤ n ∧ n ≤ b) : Ok 25 [ii n, ii a, ii b] (.m (ib true)) := by
  have := within_ok n a b
  rwa [show withinB n a b = true by simp [withinB, h.1, h.2]] at this
theorem within0 {n a b : Int} (h : ¬ (a ≤ n ∧ n ≤ b)) : Ok 25 [ii n, ii a, ii b] (.m (ib false)) := by
  have := within_ok n a b
  rwa [show withinB n a b = false by cases e : withinB n a b with | false => rfl | true => (simp [withinB] at e; exact absurd e h)] at this
theorem smay_ok (a b c d : Int) : Ok 7 [confA a b c d] (.m (ib (confB a b c d))) := by
  by_cases h1 : 1 ≤ a ∧ a ≤ 524288
  · by_cases h2 : 1 ≤ b ∧ b ≤ 64
    · by_cases h3 : 1 ≤ c ∧ c ≤ 16
      · by_cases h4 : 0 ≤ d ∧ d ≤ 16
        · rw [confB_iff.2 (by omega)]
          refine callOk_of 21 Tryz.func7 rfl rfl rfl rfl ?_ GG.to
          intro W A hG
          repeat (first
            | (refine go_at rfl ?_; first
                | refine go_do (valid_mv (.inl rfl) rfl) rfl ?_
                | (refine nxt_s 1 rfl ?_; refine go_do (valid_load_p tb rfl rfl rfl rfl rfl (by first | kernel_rfl | rfl)) (by first | kernel_rfl | rfl) ?_)
                | (refine nxt_s 1 rfl ?_; refine go_do (valid_fld_p tb rfl rfl rfl (by kernel_rfl)) rfl ?_)
                | refine go_do (valid_mv (.inr rfl) rfl) rfl ?_
                | refine go_do (valid_pick rfl rfl rfl) rfl ?_
                | refine go_do (valid_box rfl rfl rfl rfl rfl rfl) rfl ?_
                | refine go_do (valid_call rfl rfl rfl (within1 h1) rfl) rfl ?_
                | refine go_do (valid_call rfl rfl rfl (within1 h2) rfl) rfl ?_
                | refine go_do (valid_call rfl rfl rfl (within1 h3) rfl) rfl ?_
                | refine go_do (valid_call rfl rfl rfl (within1 h4) rfl) rfl ?_)
            | (refine hK _ ?_; clear hK K)
            | refine aw_text rfl ?_
            | exact aw_ret (show resA _ _ _ = some _ by kernel_rfl)
            | refine aw_seq_k (fun K hK => ?_))
        · rw [confB_no (by omega)]
          refine callOk_of 21 Tryz.func7 rfl rfl rfl rfl ?_ GG.to
          intro W A hG
          repeat (first
            | (refine go_at rfl ?_; first
                | refine go_do (valid_mv (.inl rfl) rfl) rfl ?_
                | (refine nxt_s 1 rfl ?_; refine go_do (valid_load_p tb rfl rfl rfl rfl rfl (by first | kernel_rfl | rfl)) (by first | kernel_rfl | rfl) ?_)
                | (refine nxt_s 1 rfl ?_; refine go_do (valid_fld_p tb rfl rfl rfl (by kernel_rfl)) rfl ?_)
                | refine go_do (valid_mv (.inr rfl) rfl) rfl ?_
                | refine go_do (valid_pick rfl rfl rfl) rfl ?_
                | refine go_do (valid_box rfl rfl rfl rfl rfl rfl) rfl ?_
                | refine go_do (valid_call rfl rfl rfl (within1 h1) rfl) rfl ?_
                | refine go_do (valid_call rfl rfl rfl (within1 h2) rfl) rfl ?_
                | refine go_do (valid_call rfl rfl rfl (within1 h3) rfl) rfl ?_
                | refine go_do (valid_call rfl rfl rfl (within0 h4) rfl) rfl ?_)
            | (refine hK _ ?_; clear hK K)
            | refine aw_text rfl ?_
            | exact aw_ret (show resA _ _ _ = some _ by kernel_rfl)
            | refine aw_seq_k (fun K hK => ?_))
      · rw [confB_no (by omega)]
        refine callOk_of 21 Tryz.func7 rfl rfl rfl rfl ?_ GG.to
        intro W A hG
        repeat (first
          | (refine go_at rfl ?_; first
              | refine go_do (valid_skip rfl) rfl ?_
              | refine go_do (valid_mv (.inl rfl) rfl) rfl ?_
              | (refine nxt_s 1 rfl ?_; refine go_do (valid_load_p tb rfl rfl rfl rfl rfl (by first | kernel_rfl | rfl)) (by first | kernel_rfl | rfl) ?_)
              | (refine nxt_s 1 rfl ?_; refine go_do (valid_fld_p tb rfl rfl rfl (by kernel_rfl)) rfl ?_)
              | refine go_do (valid_mv (.inr rfl) rfl) rfl ?_
              | refine go_do (valid_pick rfl rfl rfl) rfl ?_
              | refine go_do (valid_box rfl rfl rfl rfl rfl rfl) rfl ?_
              | refine go_do (valid_call rfl rfl rfl (within1 h1) rfl) rfl ?_
              | refine go_do (valid_call rfl rfl rfl (within1 h2) rfl) rfl ?_
              | refine go_do (valid_call rfl rfl rfl (within0 h3) rfl) rfl ?_)
          | (refine hK _ ?_; clear hK K)
          | refine aw_text rfl ?_
          | exact aw_ret (show resA _ _ _ = some _ by kernel_rfl)
          | refine aw_seq_k (fun K hK => ?_))
    · rw [confB_no (by omega)]
      refine callOk_of 21 Tryz.func7 rfl rfl rfl rfl ?_ GG.to
      intro W A hG
      repeat (first
        | (refine go_at rfl ?_; first
            | refine go_do (valid_skip rfl) rfl ?_
            | refine go_do (valid_mv (.inl rfl) rfl) rfl ?_
            | (refine nxt_s 1 rfl ?_; refine go_do (valid_load_p tb rfl rfl rfl rfl rfl (by first | kernel_rfl | rfl)) (by first | kernel_rfl | rfl) ?_)
            | (refine nxt_s 1 rfl ?_; refine go_do (valid_fld_p tb rfl rfl rfl (by kernel_rfl)) rfl ?_)
            | refine go_do (valid_mv (.inr rfl) rfl) rfl ?_
            | refine go_do (valid_pick rfl rfl rfl) rfl ?_
            | refine go_do (valid_box rfl rfl rfl rfl rfl rfl) rfl ?_
            | refine go_do (valid_call rfl rfl rfl (within1 h1) rfl) rfl ?_
            | refine go_do (valid_call rfl rfl rfl (within0 h2) rfl) rfl ?_)
        | (refine hK _ ?_; clear hK K)
        | refine aw_text rfl ?_
        | exact aw_ret (show resA _ _ _ = some _ by kernel_rfl)
        | refine aw_seq_k (fun K hK => ?_))
  · rw [confB_no (by omega)]
    refine callOk_of 21 Tryz.func7 rfl rfl rfl rfl ?_ GG.to
    intro W A hG
    repeat (first
      | (refine go_at rfl ?_; first
          | refine go_do (valid_skip rfl) rfl ?_
          | refine go_do (valid_mv (.inl rfl) rfl) rfl ?_
          | (refine nxt_s 1 rfl ?_; refine go_do (valid_load_p tb rfl rfl rfl rfl rfl (by first | kernel_rfl | rfl)) (by first | kernel_rfl | rfl) ?_)
          | (refine nxt_s 1 rfl ?_; refine go_do (valid_fld_p tb rfl rfl rfl (by kernel_rfl)) rfl ?_)
          | refine go_do (valid_mv (.inr rfl) rfl) rfl ?_
          | refine go_do (valid_pick rfl rfl rfl) rfl ?_
          | refine go_do (valid_box rfl rfl rfl rfl rfl rfl) rfl ?_
          | refine go_do (valid_call rfl rfl rfl (within0 h1) rfl) rfl ?_)
      | (refine hK _ ?_; clear hK K)
      | refine aw_text rfl ?_
      | exact aw_ret (show resA _ _ _ = some _ by kernel_rfl)
      | refine aw_seq_k (fun K hK => ?_))
/-! ### New -/
def allI (n : Int) : Int := getI 18446744073709551615 0 n
theorem allI_lt {n : Int} (h0 : 0 ≤ n) (h : n ≤ 64) : 0 ≤ allI n ∧ allI n < 2 ^ n.toNat := by
  refine ⟨(getI_U _ _ _).1, ?_⟩
  unfold allI
  rw [getI_val _ _ _ ⟨by omega, by omega⟩ h]
  exact Int.emod_lt_of_pos _ (Int.pow_pos (by omega))
theorem allI_ne {n : Int} (h0 : 1 ≤ n) (h : n ≤ 64) : allI n ≠ 0 := by
  unfold allI
  rw [getI_val _ _ _ ⟨by omega, by omega⟩ h]
  intro e
  obtain ⟨k, hk⟩ : ∃ k, n.toNat = k + 1 := ⟨n.toNat - 1, by omega⟩
  have := Int.emod_emod_of_dvd (18446744073709551615 / 2 ^ (0 : Int).toNat) (show (2 : Int) ∣ 2 ^ n.toNat from ⟨2 ^ k, by rw [hk, Int.pow_succ, Int.mul_comm]⟩)
  rw [e] at this
  revert this; decide
def newK (a b c : Int) (n : Nat) : Kr := { cd := a, cp := b, ca := c, cs := n, sz := (a + b) * 4096, m := [], tn := n, ts := zsL n, sm := 0, sa := 0, sp := 0, priv := 0, su := false, mx := false, vic := -1, pb := a, pm := b, pf := setI (allI b) (tzI (allI b)) 1 0, am := c, af := allI c, ao := 0, ss := [], now := -1, sh := a + tzI (allI b), fs := [] }
theorem memnew' (sz : Int) (h : 0 ≤ sz) (h1 : sz ≤ 1099511627776) (h2 : sz % 4096 = 0) : Ok 26 [iu sz] (.tu [memA sz [], ii 0]) := by
  have hz : U sz := ⟨h, by omega⟩
  have := memnew_ok sz hz
  have e : MemNewC.rightN sz = true := by
    unfold MemNewC.rightN evenI
    rw [if_neg (by omega), h2, decide_eq_true h1]; rfl
  unfold MemNewC.newV at this
  rw [if_pos e] at this
  exact callOk_lt this rfl (tu_lt (cs := [cu sz, .v (.slice none 0 0)]) ⟨ltC.rf _, ltC.nil 2, trivial⟩)
theorem poolnew' (b m : Int) (hb : 0 ≤ b ∧ b ≤ 268435456) (hm : 0 ≤ m ∧ m ≤ 64) : Ok 27 [iu b, ii m] (.tu [.ag [cu b, ci m, cu (allI m)], ii 0]) := by
  have := poolnew_ok b m ⟨hb.1, by omega⟩ hm
  have e : PoolC2.rightP b m 0 = true := by
    unfold PoolC2.rightP
    rw [decide_eq_true hm.1, decide_eq_true hm.2, decide_eq_true hb.2, getI_val _ _ _ ⟨by omega, by omega⟩ hm.2]
    simp
  unfold PoolC2.newV at this
  rw [if_pos e] at this
  exact this
theorem asidnew' (m : Int) (hm : 1 ≤ m ∧ m ≤ 16) : Ok 28 [ii m] (.tu [.ag [ci m, cu (allI m), cu 0], ii 0]) := by
  have := asidnew_ok m
  have e : AsidC2.newV m = .tuple #[.agg #[.int .i64 m, .int .u64 (allI m), .int .u64 0], .int .i64 0] := by
    unfold AsidC2.newV
    rw [if_pos]; rfl
    unfold AsidC.rightA AsidC.within
    rw [decide_eq_true hm.1, decide_eq_true hm.2, getI_val _ _ _ ⟨by omega, by omega⟩ (by omega)]
    simp
  rw [e] at this
  exact this
theorem zset : ∃ z, (Tryz.prog.info? 163).bind (·.zero) = some z ∧ z.cells.toList = zS := by
  refine ⟨.agg zS.toArray, by kernel_rfl, ?_⟩
  show zS.toArray.toList = zS
  rfl
theorem zsL_get (n : Nat) : ∀ i : Nat, i < n * 45 → (zsL n)[i]? = zS[i % 45]? := by
  induction n with
  | zero => intro i h; omega
  | succ n ih =>
    intro i h
    have e : zsL (n + 1) = zS ++ zsL n := rfl
    have l : zS.length = 45 := rfl
    rw [e]
    by_cases hi : i < 45
    · rw [List.getElem?_append_left (by omega), Nat.mod_eq_of_lt hi]
    · rw [List.getElem?_append_right (by omega), l, ih (i - 45) (by omega), Nat.mod_eq_sub_mod (by omega : 45 ≤ i)]
theorem zsL_len (n : Nat) : (zsL n).length = n * 45 := by
  induction n with
  | zero => rfl
  | succ n ih =>
    have e : zsL (n + 1) = zS ++ zsL n := rfl
    have l : zS.length = 45 := rfl
    rw [e, List.length_append, ih, l]; omega
theorem made_zs (n : Nat) (z : Value) (h : z.cells.toList = zS) : (madeCells z.cells (n * 45)).toList = zsL n := by
  have l : z.cells.size = 45 := by rw [← Array.length_toList, h]; rfl
  apply List.ext_getElem?
  intro i
  by_cases hi : i < n * 45
  · rw [zsL_get n i hi, ← h]
    simp [madeCells, hi, l, List.getElem?_eq_getElem, Nat.mod_lt]
  · rw [List.getElem?_eq_none (by rw [Array.length_toList, size_madeCells]; omega), List.getElem?_eq_none (by rw [zsL_len]; omega)]
theorem tlbnew' (n : Nat) (hn : n ≤ 16) : Ok 29 [ii n] (.tu [.ag [.s n 45 (zsL n)], ii 0]) := by
  obtain ⟨z, hz, hc⟩ := zset
  have := tlbnew_ok n hn z hz
  rwa [made_zs n z hc] at this
theorem new_no (a b c d : Int) (h : confB a b c d = false) : Ok 9 [confA a b c d] (.tu [.ag zK, ii 1]) := by
  have hm := smay_ok a b c d
  rw [h] at hm
  refine callOk_of 63 Tryz.func9 rfl rfl rfl rfl ?_ GG.to
  intro W A hG
  repeat (first
    | (refine go_at rfl ?_; first
        | (refine nxt_s 1 rfl ?_; refine go_do (valid_load_p tb rfl rfl rfl rfl rfl (by first | kernel_rfl | rfl)) (by first | kernel_rfl | rfl) ?_)
        | refine go_do (valid_mv (.inr rfl) rfl) rfl ?_
        | refine go_do (valid_box rfl rfl rfl rfl rfl rfl) rfl ?_
        | refine go_do (valid_alloc rfl rfl rfl rfl rfl) rfl ?_
        | (refine nxt_s 1 rfl ?_; refine go_do (valid_store_p rfl rfl rfl rfl rfl rfl (by first | kernel_rfl | rfl) rfl) (by first | kernel_rfl | rfl) ?_)
        | refine go_do (valid_not rfl rfl rfl) rfl ?_
        | refine go_do (valid_build rfl rfl rfl rfl) rfl ?_
        | refine go_do (valid_call rfl rfl rfl (hm) (by kernel_rfl)) rfl ?_)
    | (refine hK _ ?_; clear hK K)
    | refine aw_text rfl ?_
    | exact aw_ret (show resA _ _ _ = some _ by kernel_rfl)
    | refine aw_cond1 rfl rfl ?_
    | refine aw_seq_k (fun K hK => ?_))
theorem new_yes (a b c : Int) (n : Nat) (h : confB a b c n = true) : Ok 9 [confA a b c n] (.tu [.ag (newK a b c n).ce, ii 0]) := by
  obtain ⟨ha, hb, hc, hn⟩ := confB_iff.1 h
  have hm := smay_ok a b c n
  rw [h] at hm
  have l1 := allI_lt (n := b) (by omega) (by omega)
  have l2 := allI_ne (n := b) (by omega) (by omega)
  have h1 := memnew' ((a + b) * 4096) (by omega) (by omega) (by omega)
  have h2 := poolnew' a b (by omega) (by omega)
  have h3 := asidnew' c hc
  have h4 := tlbnew' n (by omega)
  have h5 := fresh_ok ((a + b) * 4096) [] a b (allI b) (by omega) (by omega) (U_fit l1.1 l1.2 (by omega)) l2 List.Pairwise.nil (by simp)
  have key : Ok 9 [confA a b c n] (.tu [.ag [ci a, ci b, ci c, ci n, cu ((a + b) * 4096), .s 0 2 [], .s n 45 (zsL n), cu 0, cu 0, cu 0, ci 0, cb false, cb false, ci (-1), cu a, ci b, cu (setI (allI b) (tzI (allI b)) 1 0), ci c, cu (allI c), cu 0, .v (.slice none 0 0), ci (-1), cu (a + tzI (allI b)), .v (.slice none 0 0)], ii 0]) := by
    refine callOk_of 63 Tryz.func9 rfl rfl rfl rfl ?_ GG.to
    intro W A hG
    repeat (first
      | (refine go_at rfl ?_; first
          | refine go_do (valid_mv (.inl rfl) rfl) rfl ?_
          | (refine nxt_s 1 rfl ?_; refine go_do (valid_load_p tb rfl rfl rfl rfl rfl (by first | kernel_rfl | rfl)) (by first | kernel_rfl | rfl) ?_)
          | (refine nxt_s 1 rfl ?_; refine go_do (valid_fld_p tb rfl rfl rfl (by kernel_rfl)) rfl ?_)
          | refine go_do (valid_mv (.inr rfl) rfl) rfl ?_
          | refine go_do (valid_extract rfl rfl rfl rfl) rfl ?_
          | refine go_do (valid_ar rfl rfl rfl rfl (by constructor) (by first | exact wr_u64 (by omega) (by omega) | exact wr_i64 (by omega) (by omega) | rfl)) rfl ?_
          | refine go_do (valid_cv rfl rfl rfl rfl rfl (by first | exact wr_u64 (by omega) (by omega) | exact wr_i64 (by omega) (by omega) | rfl)) rfl ?_
          | refine go_do (valid_box rfl rfl rfl rfl rfl rfl) rfl ?_
          | refine go_do (valid_alloc rfl rfl rfl rfl rfl) rfl ?_
          | (refine nxt_s 1 rfl ?_; refine go_do (valid_store_p rfl rfl rfl rfl rfl rfl (by first | kernel_rfl | rfl) rfl) (by first | kernel_rfl | rfl) ?_)
          | refine go_do (valid_not rfl rfl rfl) rfl ?_
          | refine go_do (valid_build rfl rfl rfl rfl) rfl ?_
          | refine go_do (valid_call rfl rfl rfl (hm) (by kernel_rfl)) rfl ?_
          | refine go_do (valid_call rfl rfl rfl (h1) (by kernel_rfl)) rfl ?_
          | refine go_do (valid_call rfl rfl rfl (h2) (by kernel_rfl)) rfl ?_
          | refine go_do (valid_call rfl rfl rfl (h3) (by kernel_rfl)) rfl ?_
          | refine go_do (valid_call rfl rfl rfl (h4) (by kernel_rfl)) rfl ?_
          | refine go_do (valid_call rfl rfl rfl (h5) (by kernel_rfl)) rfl ?_)
      | (refine hK _ ?_; clear hK K)
      | refine aw_text rfl ?_
      | exact aw_ret (show resA _ _ _ = some _ by kernel_rfl)
      | refine aw_cond0 rfl rfl ?_
      | refine aw_skip ?_
      | refine aw_seq_k (fun K hK => ?_))
  refine callOk_lt key rfl (tu_lt ?_)
  exact ⟨ltC.rf _, ltC.rf _, ltC.rf _, ltC.rf _, ltC.rf _, ltC.rf _, ltC.rf _, ltC.rf _, ltC.rf _, ltC.rf _, ltC.rf _, ltC.rf _, ltC.rf _, ltC.rf _, ltC.rf _, ltC.rf _, ltC.rf _, ltC.rf _, ltC.rf _, ltC.rf _, ltC.nil 3, ltC.rf _, ltC.rf _, ltC.nil 4, trivial⟩
theorem new_inv {a b c : Int} {n : Nat} (h : confB a b c n = true) : Inv 0 (newK a b c n) := by
  obtain ⟨ha, hb, hc, hn⟩ := confB_iff.1 h
  have l1 := allI_lt (n := b) (by omega) (by omega)
  have l2 := allI_ne (n := b) (by omega) (by omega)
  have l3 := allI_lt (n := c) (by omega) (by omega)
  have u1 : U (allI b) := U_fit l1.1 l1.2 (by omega)
  have t := tz_fit u1 l1.2 l2
  exact { cd := ha, cp := hb, ca := hc, cs := ⟨rfl, by show n ≤ 16; omega⟩, sz := rfl, pb := rfl, pm := rfl, am := rfl, pf := ⟨(setI_U _ _ _ _).1, fit_set u1 l1.2 t.1 t.2⟩, af := l3, ao := ⟨by show (0 : Int) ≤ 0; omega, by show (0 : Int) < _; exact Int.pow_pos (by omega)⟩, sh := ⟨by show a ≤ a + _; omega, by show a + tzI (allI b) < a + b; omega⟩, ts := rfl, m := List.Pairwise.nil, mc := fun c hc => (by cases hc), ml := Nat.le_refl _, fl := Nat.le_refl _, sl := by show 0 ≤ 32; omega, ss := fun s hs => (by cases hs), nw := .inl ⟨rfl, rfl, rfl, rfl⟩ }
/-! ### deeds -/
def i8 (n : Int) : Ce := .v (.int .u8 n)
theorem do_ok {n : Nat} {k : Kr} (h : Inv n k) (hn : n ≤ 100000) (d : Int × Int) (h0 : 0 ≤ d.1 ∧ d.1 < 256) (h1 : 0 ≤ d.2 ∧ d.2 < 256) : Ok 12 [.ag k.ce, .ag [i8 d.1, i8 d.2]] (.tu [.ag (doR k d).1.ce, ii (doR k d).2.1, ii (doR k d).2.2]) := by
  obtain ⟨x, y⟩ := d
  by_cases c1 : x % 3 = 0
  · rw [show doR k (x, y) = createR k by unfold doR; rw [if_pos c1]]
    have hc := create_all h hn
    refine callOk_of 47 Tryz.func12 rfl rfl rfl rfl ?_ GG.to
    intro W A hG
    repeat (first
      | (refine go_at rfl ?_; first
          | (refine nxt_s 1 rfl ?_; refine go_do (valid_load_p tb rfl rfl rfl rfl rfl (by first | kernel_rfl | rfl)) (by first | kernel_rfl | rfl) ?_)
          | (refine nxt_s 1 rfl ?_; refine go_do (valid_fld_p tb rfl rfl rfl (by kernel_rfl)) rfl ?_)
          | refine go_do (valid_mv (.inr rfl) rfl) rfl ?_
          | refine go_do (valid_extract rfl rfl rfl rfl) rfl ?_
          | refine go_do (valid_cmp rfl rfl rfl rfl (by first | exact .eql1 (by omega) | exact .eql0 (by omega) | exact .neq1 (by omega) | exact .neq0 (by omega) | exact .lss1 (by omega) | exact .lss0 (by omega) | exact .leq1 (by omega) | exact .leq0 (by omega) | exact .gtr1 (by omega) | exact .gtr0 (by omega) | exact .geq1 (by omega) | exact .geq0 (by omega) | constructor)) rfl ?_
          | refine go_do (valid_cv rfl rfl rfl rfl rfl (by first | exact wr_u64 (by omega) (by omega) | exact wr_i64 (by omega) (by omega) | rfl)) rfl ?_
          | refine go_do (valid_rem rfl rfl rfl rfl (by omega) (by omega)) rfl ?_
          | refine go_do (valid_box rfl rfl rfl rfl rfl rfl) rfl ?_
          | refine go_do (valid_alloc rfl rfl rfl rfl rfl) rfl ?_
          | (refine nxt_s 1 rfl ?_; refine go_do (valid_store_p rfl rfl rfl rfl rfl rfl (by first | kernel_rfl | rfl) rfl) (by first | kernel_rfl | rfl) ?_)
          | refine go_do (valid_call rfl rfl rfl (hc) (by kernel_rfl)) rfl ?_)
      | (refine hK _ ?_; clear hK K)
      | refine aw_text rfl ?_
      | exact aw_ret (show resA _ _ _ = some _ by kernel_rfl)
      | refine aw_cond1 rfl rfl ?_
      | refine aw_seq_k (fun K hK => ?_))
  by_cases c2 : x % 3 = 1
  · rw [show doR k (x, y) = ((destroyR k (y % 33)).1, 0, (destroyR k (y % 33)).2) by unfold doR; rw [if_neg c1, if_pos c2]]
    have hc := destroy_all h hn (y % 33)
    refine callOk_of 47 Tryz.func12 rfl rfl rfl rfl ?_ GG.to
    intro W A hG
    repeat (first
      | (refine go_at rfl ?_; first
          | refine go_do (valid_mv (.inl rfl) rfl) rfl ?_
          | (refine nxt_s 1 rfl ?_; refine go_do (valid_load_p tb rfl rfl rfl rfl rfl (by first | kernel_rfl | rfl)) (by first | kernel_rfl | rfl) ?_)
          | (refine nxt_s 1 rfl ?_; refine go_do (valid_fld_p tb rfl rfl rfl (by kernel_rfl)) rfl ?_)
          | refine go_do (valid_mv (.inr rfl) rfl) rfl ?_
          | refine go_do (valid_extract rfl rfl rfl rfl) rfl ?_
          | refine go_do (valid_cmp rfl rfl rfl rfl (by first | exact .eql1 (by omega) | exact .eql0 (by omega) | exact .neq1 (by omega) | exact .neq0 (by omega) | exact .lss1 (by omega) | exact .lss0 (by omega) | exact .leq1 (by omega) | exact .leq0 (by omega) | exact .gtr1 (by omega) | exact .gtr0 (by omega) | exact .geq1 (by omega) | exact .geq0 (by omega) | constructor)) rfl ?_
          | refine go_do (valid_cv rfl rfl rfl rfl rfl (by first | exact wr_u64 (by omega) (by omega) | exact wr_i64 (by omega) (by omega) | rfl)) rfl ?_
          | refine go_do (valid_rem rfl rfl rfl rfl (by omega) (by omega)) rfl ?_
          | refine go_do (valid_box rfl rfl rfl rfl rfl rfl) rfl ?_
          | refine go_do (valid_alloc rfl rfl rfl rfl rfl) rfl ?_
          | (refine nxt_s 1 rfl ?_; refine go_do (valid_store_p rfl rfl rfl rfl rfl rfl (by first | kernel_rfl | rfl) rfl) (by first | kernel_rfl | rfl) ?_)
          | refine go_do (valid_call rfl rfl rfl (hc) (by kernel_rfl)) rfl ?_)
      | (refine hK _ ?_; clear hK K)
      | refine aw_text rfl ?_
      | exact aw_ret (show resA _ _ _ = some _ by kernel_rfl)
      | refine aw_cond1 rfl rfl ?_
      | refine aw_cond0 rfl rfl ?_
      | refine aw_skip ?_
      | refine aw_seq_k (fun K hK => ?_))
  by_cases c3 : y % 33 = 32
  · rw [show doR k (x, y) = ((switchR k (-1)).1, 0, (switchR k (-1)).2) by unfold doR; rw [if_neg c1, if_neg c2, if_pos c3]]
    have hc := switch_all k (-1)
    refine callOk_of 47 Tryz.func12 rfl rfl rfl rfl ?_ GG.to
    intro W A hG
    repeat (first
      | (refine go_at rfl ?_; first
          | refine go_do (valid_mv (.inl rfl) rfl) rfl ?_
          | (refine nxt_s 1 rfl ?_; refine go_do (valid_load_p tb rfl rfl rfl rfl rfl (by first | kernel_rfl | rfl)) (by first | kernel_rfl | rfl) ?_)
          | (refine nxt_s 1 rfl ?_; refine go_do (valid_fld_p tb rfl rfl rfl (by kernel_rfl)) rfl ?_)
          | refine go_do (valid_mv (.inr rfl) rfl) rfl ?_
          | refine go_do (valid_extract rfl rfl rfl rfl) rfl ?_
          | refine go_do (valid_cmp rfl rfl rfl rfl (by first | exact .eql1 (by omega) | exact .eql0 (by omega) | exact .neq1 (by omega) | exact .neq0 (by omega) | exact .lss1 (by omega) | exact .lss0 (by omega) | exact .leq1 (by omega) | exact .leq0 (by omega) | exact .gtr1 (by omega) | exact .gtr0 (by omega) | exact .geq1 (by omega) | exact .geq0 (by omega) | constructor)) rfl ?_
          | refine go_do (valid_cv rfl rfl rfl rfl rfl (by first | exact wr_u64 (by omega) (by omega) | exact wr_i64 (by omega) (by omega) | rfl)) rfl ?_
          | refine go_do (valid_rem rfl rfl rfl rfl (by omega) (by omega)) rfl ?_
          | refine go_do (valid_box rfl rfl rfl rfl rfl rfl) rfl ?_
          | refine go_do (valid_alloc rfl rfl rfl rfl rfl) rfl ?_
          | (refine nxt_s 1 rfl ?_; refine go_do (valid_store_p rfl rfl rfl rfl rfl rfl (by first | kernel_rfl | rfl) rfl) (by first | kernel_rfl | rfl) ?_)
          | refine go_do (valid_call rfl rfl rfl (hc) (by kernel_rfl)) rfl ?_)
      | (refine hK _ ?_; clear hK K)
      | refine aw_text rfl ?_
      | exact aw_ret (show resA _ _ _ = some _ by kernel_rfl)
      | refine aw_cond1 rfl rfl ?_
      | refine aw_cond0 rfl rfl ?_
      | refine aw_skip ?_
      | refine aw_seq_k (fun K hK => ?_))
  · rw [show doR k (x, y) = ((switchR k (y % 33)).1, 0, (switchR k (y % 33)).2) by unfold doR; rw [if_neg c1, if_neg c2, if_neg c3]]
    have hc := switch_all k (y % 33)
    refine callOk_of 47 Tryz.func12 rfl rfl rfl rfl ?_ GG.to
    intro W A hG
    repeat (first
      | (refine go_at rfl ?_; first
          | refine go_do (valid_mv (.inl rfl) rfl) rfl ?_
          | (refine nxt_s 1 rfl ?_; refine go_do (valid_load_p tb rfl rfl rfl rfl rfl (by first | kernel_rfl | rfl)) (by first | kernel_rfl | rfl) ?_)
          | (refine nxt_s 1 rfl ?_; refine go_do (valid_fld_p tb rfl rfl rfl (by kernel_rfl)) rfl ?_)
          | refine go_do (valid_mv (.inr rfl) rfl) rfl ?_
          | refine go_do (valid_extract rfl rfl rfl rfl) rfl ?_
          | refine go_do (valid_cmp rfl rfl rfl rfl (by first | exact .eql1 (by omega) | exact .eql0 (by omega) | exact .neq1 (by omega) | exact .neq0 (by omega) | exact .lss1 (by omega) | exact .lss0 (by omega) | exact .leq1 (by omega) | exact .leq0 (by omega) | exact .gtr1 (by omega) | exact .gtr0 (by omega) | exact .geq1 (by omega) | exact .geq0 (by omega) | constructor)) rfl ?_
          | refine go_do (valid_cv rfl rfl rfl rfl rfl (by first | exact wr_u64 (by omega) (by omega) | exact wr_i64 (by omega) (by omega) | rfl)) rfl ?_
          | refine go_do (valid_rem rfl rfl rfl rfl (by omega) (by omega)) rfl ?_
          | refine go_do (valid_box rfl rfl rfl rfl rfl rfl) rfl ?_
          | refine go_do (valid_alloc rfl rfl rfl rfl rfl) rfl ?_
          | (refine nxt_s 1 rfl ?_; refine go_do (valid_store_p rfl rfl rfl rfl rfl rfl (by first | kernel_rfl | rfl) rfl) (by first | kernel_rfl | rfl) ?_)
          | refine go_do (valid_call rfl rfl rfl (hc) (by kernel_rfl)) rfl ?_)
      | (refine hK _ ?_; clear hK K)
      | refine aw_text rfl ?_
      | exact aw_ret (show resA _ _ _ = some _ by kernel_rfl)
      | refine aw_cond0 rfl rfl ?_
      | refine aw_skip ?_
      | refine aw_seq_k (fun K hK => ?_))
end Go.Proofs.YtkffmaeiplgjeaaGreatDoor.SpN
/- Plain: the kernels of the anchor, reckoned out. -/
namespace Go.Proofs.YtkffmaeiplgjeaaGreatDoor.SpO
open Go.RowKit Go.Proofs.YtkffmaeiplgjeaaGreatDoor.Bv Go.Proofs.YtkffmaeiplgjeaaGreatDoor.VaSpec Go.Proofs.YtkffmaeiplgjeaaGreatDoor.Base Go.Proofs.YtkffmaeiplgjeaaGreatDoor.MemL Go.Proofs.YtkffmaeiplgjeaaGreatDoor.RegR Go.Proofs.YtkffmaeiplgjeaaGreatDoor.Ax Go.Proofs.YtkffmaeiplgjeaaGreatDoor.MemC Go.Proofs.YtkffmaeiplgjeaaGreatDoor.PutC Go.Proofs.YtkffmaeiplgjeaaGreatDoor.MemC3 Go.Proofs.YtkffmaeiplgjeaaGreatDoor.TzC Go.Proofs.YtkffmaeiplgjeaaGreatDoor.OkS Go.Proofs.YtkffmaeiplgjeaaGreatDoor.SpA Go.Proofs.YtkffmaeiplgjeaaGreatDoor.SpB Go.Proofs.YtkffmaeiplgjeaaGreatDoor.SpC Go.Proofs.YtkffmaeiplgjeaaGreatDoor.SpD Go.Proofs.YtkffmaeiplgjeaaGreatDoor.IterC Go.Proofs.YtkffmaeiplgjeaaGreatDoor.SpE Go.Proofs.YtkffmaeiplgjeaaGreatDoor.SpF Go.Proofs.YtkffmaeiplgjeaaGreatDoor.SpG Go.Proofs.YtkffmaeiplgjeaaGreatDoor.SpH Go.Proofs.YtkffmaeiplgjeaaGreatDoor.SpI Go.Proofs.YtkffmaeiplgjeaaGreatDoor.SpJ Go.Proofs.YtkffmaeiplgjeaaGreatDoor.SpK Go.Proofs.YtkffmaeiplgjeaaGreatDoor.SpN
open Go.Proofs.YtkffmaeiplgjeaaGreatDoor.BitsC Go.Proofs.YtkffmaeiplgjeaaGreatDoor.PteSpec
set_option linter.unusedVariables false
set_option linter.unusedSimpArgs false
set_option maxRecDepth 10000
set_option maxHeartbeats 800000
def kr (m : List (Int × Int)) (sm sa sp pf af ao : Int) (ss : List Sp) (now : Int) (fs : List Fe) : Kr := { cd := 4, cp := 4, ca := 1, cs := 1, sz := 32768, m := m, tn := 1, ts := zsL 1, sm := sm, sa := sa, sp := sp, priv := 0, su := false, mx := false, vic := -1, pb := 4, pm := 4, pf := pf, am := 1, af := af, ao := ao, ss := ss, now := now, sh := 4, fs := fs }
def k0 : Kr := kr [] 0 0 0 14 1 0 [] (-1) []
def kAa : Kr := kr [(3071, 4129)] 0 0 0 12 0 1 [⟨5, 1, true⟩] (-1) []
def kB : Kr := kr [(3071, 4129)] 8 1 5 12 0 1 [⟨5, 1, true⟩] 0 []
def kC : Kr := kr [] 0 0 0 14 1 1 [⟨0, 0, false⟩] (-1) []
def kD : Kr := kr [(3071, 4129)] 0 0 0 12 0 1 [⟨0, 0, false⟩, ⟨5, 1, true⟩] (-1) [⟨false, 0, true, 1⟩]
theorem n0 : newK 4 4 1 1 = k0 := by kernel_rfl
theorem i0 : Inv 0 k0 := by rw [← n0]; exact new_inv (by decide)
theorem eA : createR k0 = (kAa, 0, 0) := by
  unfold createR createK newM
  rw [kA_idx]
  kernel_rfl
theorem iA : Inv 1 kAa := by have := create_inv i0; rwa [eA] at this
theorem eH : createR kAa = (kAa, 0, 9) := by
  unfold createR
  rw [if_neg (by decide), if_pos (by decide)]
theorem eB : switchR kAa 0 = (kB, 0) := by kernel_rfl
theorem iB : Inv 1 kB := by have := sw_inv (id := 0) iA; rwa [eB] at this
theorem eJ : destroyR kB 0 = (kB, 10) := by
  unfold destroyR
  rw [if_neg (by decide), if_pos (by decide)]
theorem eC : destroyR kAa 0 = (kC, 0) := by
  unfold destroyR destroyK offM
  rw [kA_idx]
  kernel_rfl
theorem iC : Inv 2 kC := by have := destroy_inv (id := 0) iA; rwa [eC] at this
theorem eM : switchR kC 0 = (kC, 4) := by kernel_rfl
theorem eD : createR kC = (kD, 1, 0) := by
  unfold createR createK newM
  rw [kA_idx]
  kernel_rfl
/-! ### how many frames are free -/
theorem ones_14 (w : World) : Calls Tryz.prog 52 #[.int .u64 14] w fun e w' => e = .returned (.int .i64 3) ∧ Q w w' := by
  go_enter Tryz.func52, Tryz.ntmps52
  go_wp2
  go_ret
  exact ⟨by kernel_rfl, by repeat (first | exact Q.refl _ | apply Q.step)⟩
theorem ones_12 (w : World) : Calls Tryz.prog 52 #[.int .u64 12] w fun e w' => e = .returned (.int .i64 2) ∧ Q w w' := by
  go_enter Tryz.func52, Tryz.ntmps52
  go_wp2
  go_ret
  exact ⟨by kernel_rfl, by repeat (first | exact Q.refl _ | apply Q.step)⟩
theorem free3 (b m : Int) : Ok 19 [.ag [cu b, ci m, cu 14]] (.m (ii 3)) := by
  have h : Ok 52 [iu 14] (.m (ii 3)) := ok_plain #[.int .u64 14] (.int .i64 3) fun W _ => (ones_14 W).mono fun e w' ⟨he, hq⟩ => ⟨he, Q.below hq⟩
  refine callOk_of 6 Tryz.func19 rfl rfl rfl rfl ?_ GG.to
  intro W A hG
  repeat (first
    | (refine go_at rfl ?_; first
        | (refine nxt_s 1 rfl ?_; refine go_do (valid_load_p tb rfl rfl rfl rfl rfl (by first | kernel_rfl | rfl)) (by first | kernel_rfl | rfl) ?_)
        | (refine nxt_s 1 rfl ?_; refine go_do (valid_fld_p tb rfl rfl rfl (by kernel_rfl)) rfl ?_)
        | refine go_do (valid_mv (.inr rfl) rfl) rfl ?_
        | refine go_do (valid_box rfl rfl rfl rfl rfl rfl) rfl ?_
        | refine go_do (valid_call rfl rfl rfl (h) (by kernel_rfl)) rfl ?_)
    | (refine hK _ ?_; clear hK K)
    | refine aw_text rfl ?_
    | exact aw_ret (show resA _ _ _ = some _ by kernel_rfl)
    | refine aw_seq_k (fun K hK => ?_))
theorem free2 (b m : Int) : Ok 19 [.ag [cu b, ci m, cu 12]] (.m (ii 2)) := by
  have h : Ok 52 [iu 12] (.m (ii 2)) := ok_plain #[.int .u64 12] (.int .i64 2) fun W _ => (ones_12 W).mono fun e w' ⟨he, hq⟩ => ⟨he, Q.below hq⟩
  refine callOk_of 6 Tryz.func19 rfl rfl rfl rfl ?_ GG.to
  intro W A hG
  repeat (first
    | (refine go_at rfl ?_; first
        | (refine nxt_s 1 rfl ?_; refine go_do (valid_load_p tb rfl rfl rfl rfl rfl (by first | kernel_rfl | rfl)) (by first | kernel_rfl | rfl) ?_)
        | (refine nxt_s 1 rfl ?_; refine go_do (valid_fld_p tb rfl rfl rfl (by kernel_rfl)) rfl ?_)
        | refine go_do (valid_mv (.inr rfl) rfl) rfl ?_
        | refine go_do (valid_box rfl rfl rfl rfl rfl rfl) rfl ?_
        | refine go_do (valid_call rfl rfl rfl (h) (by kernel_rfl)) rfl ?_)
    | (refine hK _ ?_; clear hK K)
    | refine aw_text rfl ?_
    | exact aw_ret (show resA _ _ _ = some _ by kernel_rfl)
    | refine aw_seq_k (fun K hK => ?_))
/-! ### where an address is -/
def whereR (k : Kr) (id a l : Int) : Int × Int × Int :=
  if ¬ (0 ≤ l ∧ l ≤ 2) then (0, 0, 1)
  else if id ≠ -1 ∧ livesB k id = false then (0, 0, 4)
  else if fits a l = false then (0, 0, 2)
  else if id = -1 then (if idx a 2 = 511 ∧ l ≠ 2 then (k.sh, 1, 0) else (0, 0, 3))
  else if idx a 2 = 511 then (0, 0, 3) else ((spAt k id).root, 2, 0)
theorem where_ok (k : Kr) (id a l : Int) (ha : U a) : Ok 14 [.ag k.ce, ii id, iu a, ii l] (.tu [iu (whereR k id a l).1, ii (whereR k id a l).2.1, ii (whereR k id a l).2.2]) := by
  unfold whereR
  by_cases c1 : 0 ≤ l ∧ l ≤ 2
  rotate_left
  · rw [if_pos c1]
    have w0 := within0 c1
    by_cases c0 : id = -1
    · refine callOk_of 55 Tryz.func14 rfl rfl rfl rfl ?_ GG.to
      intro W A hG
      repeat (first
        | (refine go_at rfl ?_; first
            | refine go_do (valid_mv (.inl rfl) rfl) rfl ?_
            | refine go_do (valid_mv (.inr rfl) rfl) rfl ?_
            | refine go_do (valid_cmp rfl rfl rfl rfl (by first | exact .eql1 (by omega) | exact .eql0 (by omega) | exact .neq1 (by omega) | exact .neq0 (by omega) | exact .lss1 (by omega) | exact .lss0 (by omega) | exact .leq1 (by omega) | exact .leq0 (by omega) | exact .gtr1 (by omega) | exact .gtr0 (by omega) | exact .geq1 (by omega) | exact .geq0 (by omega) | constructor)) rfl ?_
            | refine go_do (valid_box rfl rfl rfl rfl rfl rfl) rfl ?_
            | refine go_do (valid_not rfl rfl rfl) rfl ?_
            | refine go_do (valid_call rfl rfl rfl (w0) (by kernel_rfl)) rfl ?_)
        | (refine hK _ ?_; clear hK K)
        | refine aw_text rfl ?_
        | exact aw_ret (show resA _ _ _ = some _ by kernel_rfl)
        | refine aw_cond1 rfl rfl ?_
        | refine aw_block ?_
        | refine aw_seq_k (fun K hK => ?_))
    · refine callOk_of 55 Tryz.func14 rfl rfl rfl rfl ?_ GG.to
      intro W A hG
      repeat (first
        | (refine go_at rfl ?_; first
            | refine go_do (valid_mv (.inl rfl) rfl) rfl ?_
            | refine go_do (valid_mv (.inr rfl) rfl) rfl ?_
            | refine go_do (valid_cmp rfl rfl rfl rfl (by first | exact .eql1 (by omega) | exact .eql0 (by omega) | exact .neq1 (by omega) | exact .neq0 (by omega) | exact .lss1 (by omega) | exact .lss0 (by omega) | exact .leq1 (by omega) | exact .leq0 (by omega) | exact .gtr1 (by omega) | exact .gtr0 (by omega) | exact .geq1 (by omega) | exact .geq0 (by omega) | constructor)) rfl ?_
            | refine go_do (valid_box rfl rfl rfl rfl rfl rfl) rfl ?_
            | refine go_do (valid_not rfl rfl rfl) rfl ?_
            | refine go_do (valid_call rfl rfl rfl (w0) (by kernel_rfl)) rfl ?_)
        | (refine hK _ ?_; clear hK K)
        | refine aw_text rfl ?_
        | exact aw_ret (show resA _ _ _ = some _ by kernel_rfl)
        | refine aw_cond1 rfl rfl ?_
        | refine aw_block ?_
        | refine aw_seq_k (fun K hK => ?_))
  rw [if_neg (by simpa using c1)]
  have w1 := within1 c1
  have hi := idx_ok a 2 ha (by omega) (by omega)
  have hl := lives_ok k id
  have hf := vfits_ok a l ha c1.1 c1.2
  by_cases c0 : id = -1
  · rw [if_neg (by simp [c0])]
    by_cases c2 : fits a l = false
    · rw [if_pos c2]
      rw [c2] at hf
      refine callOk_of 55 Tryz.func14 rfl rfl rfl rfl ?_ GG.to
      intro W A hG
      repeat (first
        | (refine go_at rfl ?_; first
            | refine go_do (valid_skip rfl) rfl ?_
            | refine go_do (valid_mv (.inl rfl) rfl) rfl ?_
            | refine go_do (valid_mv (.inr rfl) rfl) rfl ?_
            | refine go_do (valid_pick rfl rfl rfl) rfl ?_
            | refine go_do (valid_cmp rfl rfl rfl rfl (by first | exact .eql1 (by omega) | exact .eql0 (by omega) | exact .neq1 (by omega) | exact .neq0 (by omega) | exact .lss1 (by omega) | exact .lss0 (by omega) | exact .leq1 (by omega) | exact .leq0 (by omega) | exact .gtr1 (by omega) | exact .gtr0 (by omega) | exact .geq1 (by omega) | exact .geq0 (by omega) | constructor)) rfl ?_
            | refine go_do (valid_box rfl rfl rfl rfl rfl rfl) rfl ?_
            | refine go_do (valid_not rfl rfl rfl) rfl ?_
            | refine go_do (valid_call rfl rfl rfl (w1) (by kernel_rfl)) rfl ?_
            | refine go_do (valid_call rfl rfl rfl (hf) (by kernel_rfl)) rfl ?_)
        | (refine hK _ ?_; clear hK K)
        | refine aw_text rfl ?_
        | exact aw_ret (show resA _ _ _ = some _ by kernel_rfl)
        | refine aw_cond1 rfl rfl ?_
        | refine aw_cond0 rfl rfl ?_
        | refine aw_block ?_
        | refine aw_seq_k (fun K hK => ?_))
    rw [if_neg c2, if_pos c0]
    rw [show fits a l = true by simpa using c2] at hf
    by_cases c3 : idx a 2 = 511
    · by_cases c4 : l = 2
      · rw [if_neg (by simp [c4])]
        refine callOk_of 55 Tryz.func14 rfl rfl rfl rfl ?_ GG.to
        intro W A hG
        repeat (first
          | (refine go_at rfl ?_; first
              | refine go_do (valid_skip rfl) rfl ?_
              | refine go_do (valid_mv (.inl rfl) rfl) rfl ?_
              | refine go_do (valid_mv (.inr rfl) rfl) rfl ?_
              | refine go_do (valid_pick rfl rfl rfl) rfl ?_
              | refine go_do (valid_cmp rfl rfl rfl rfl (by first | exact .eql1 (by omega) | exact .eql0 (by omega) | exact .neq1 (by omega) | exact .neq0 (by omega) | exact .lss1 (by omega) | exact .lss0 (by omega) | exact .leq1 (by omega) | exact .leq0 (by omega) | exact .gtr1 (by omega) | exact .gtr0 (by omega) | exact .geq1 (by omega) | exact .geq0 (by omega) | constructor)) rfl ?_
              | refine go_do (valid_box rfl rfl rfl rfl rfl rfl) rfl ?_
              | refine go_do (valid_not rfl rfl rfl) rfl ?_
              | refine go_do (valid_neb rfl rfl rfl rfl rfl) rfl ?_
              | refine go_do (valid_call rfl rfl rfl (w1) (by kernel_rfl)) rfl ?_
              | refine go_do (valid_call rfl rfl rfl (hf) (by kernel_rfl)) rfl ?_
              | refine go_do (valid_call rfl rfl rfl (hi) (by kernel_rfl)) rfl ?_)
          | (refine hK _ ?_; clear hK K)
          | refine aw_text rfl ?_
          | exact aw_ret (show resA _ _ _ = some _ by kernel_rfl)
          | refine aw_cond1 rfl rfl ?_
          | refine aw_cond0 rfl rfl ?_
          | refine aw_block ?_
          | refine aw_seq_k (fun K hK => ?_))
      · rw [if_pos ⟨c3, c4⟩]
        refine callOk_of 55 Tryz.func14 rfl rfl rfl rfl ?_ GG.to
        intro W A hG
        repeat (first
          | (refine go_at rfl ?_; first
              | refine go_do (valid_skip rfl) rfl ?_
              | refine go_do (valid_mv (.inl rfl) rfl) rfl ?_
              | (refine nxt_s 1 rfl ?_; refine go_do (valid_load_p tb rfl rfl rfl rfl rfl (by first | kernel_rfl | rfl)) (by first | kernel_rfl | rfl) ?_)
              | (refine nxt_s 1 rfl ?_; refine go_do (valid_fld_p tb rfl rfl rfl (by kernel_rfl)) rfl ?_)
              | refine go_do (valid_mv (.inr rfl) rfl) rfl ?_
              | refine go_do (valid_pick rfl rfl rfl) rfl ?_
              | refine go_do (valid_cmp rfl rfl rfl rfl (by first | exact .eql1 (by omega) | exact .eql0 (by omega) | exact .neq1 (by omega) | exact .neq0 (by omega) | exact .lss1 (by omega) | exact .lss0 (by omega) | exact .leq1 (by omega) | exact .leq0 (by omega) | exact .gtr1 (by omega) | exact .gtr0 (by omega) | exact .geq1 (by omega) | exact .geq0 (by omega) | constructor)) rfl ?_
              | refine go_do (valid_box rfl rfl rfl rfl rfl rfl) rfl ?_
              | refine go_do (valid_not rfl rfl rfl) rfl ?_
              | refine go_do (valid_neb rfl rfl rfl rfl rfl) rfl ?_
              | refine go_do (valid_call rfl rfl rfl (w1) (by kernel_rfl)) rfl ?_
              | refine go_do (valid_call rfl rfl rfl (hf) (by kernel_rfl)) rfl ?_
              | refine go_do (valid_call rfl rfl rfl (hi) (by kernel_rfl)) rfl ?_)
          | (refine hK _ ?_; clear hK K)
          | refine aw_text rfl ?_
          | exact aw_ret (show resA _ _ _ = some _ by kernel_rfl)
          | refine aw_cond1 rfl rfl ?_
          | refine aw_cond0 rfl rfl ?_
          | refine aw_block ?_
          | refine aw_seq_k (fun K hK => ?_))
    · rw [if_neg (by simp [c3])]
      refine callOk_of 55 Tryz.func14 rfl rfl rfl rfl ?_ GG.to
      intro W A hG
      repeat (first
        | (refine go_at rfl ?_; first
            | refine go_do (valid_skip rfl) rfl ?_
            | refine go_do (valid_mv (.inl rfl) rfl) rfl ?_
            | refine go_do (valid_mv (.inr rfl) rfl) rfl ?_
            | refine go_do (valid_pick rfl rfl rfl) rfl ?_
            | refine go_do (valid_cmp rfl rfl rfl rfl (by first | exact .eql1 (by omega) | exact .eql0 (by omega) | exact .neq1 (by omega) | exact .neq0 (by omega) | exact .lss1 (by omega) | exact .lss0 (by omega) | exact .leq1 (by omega) | exact .leq0 (by omega) | exact .gtr1 (by omega) | exact .gtr0 (by omega) | exact .geq1 (by omega) | exact .geq0 (by omega) | constructor)) rfl ?_
            | refine go_do (valid_box rfl rfl rfl rfl rfl rfl) rfl ?_
            | refine go_do (valid_not rfl rfl rfl) rfl ?_
            | refine go_do (valid_neb rfl rfl rfl rfl rfl) rfl ?_
            | refine go_do (valid_call rfl rfl rfl (w1) (by kernel_rfl)) rfl ?_
            | refine go_do (valid_call rfl rfl rfl (hf) (by kernel_rfl)) rfl ?_
            | refine go_do (valid_call rfl rfl rfl (hi) (by kernel_rfl)) rfl ?_)
        | (refine hK _ ?_; clear hK K)
        | refine aw_text rfl ?_
        | exact aw_ret (show resA _ _ _ = some _ by kernel_rfl)
        | refine aw_cond1 rfl rfl ?_
        | refine aw_cond0 rfl rfl ?_
        | refine aw_block ?_
        | refine aw_seq_k (fun K hK => ?_))
  · by_cases c5 : livesB k id = false
    · rw [if_pos ⟨c0, c5⟩]
      rw [c5] at hl
      refine callOk_of 55 Tryz.func14 rfl rfl rfl rfl ?_ GG.to
      intro W A hG
      repeat (first
        | (refine go_at rfl ?_; first
            | refine go_do (valid_mv (.inl rfl) rfl) rfl ?_
            | (refine nxt_s 1 rfl ?_; refine go_do (valid_load_p tb rfl rfl rfl rfl rfl (by first | kernel_rfl | rfl)) (by first | kernel_rfl | rfl) ?_)
            | refine go_do (valid_mv (.inr rfl) rfl) rfl ?_
            | refine go_do (valid_pick rfl rfl rfl) rfl ?_
            | refine go_do (valid_cmp rfl rfl rfl rfl (by first | exact .eql1 (by omega) | exact .eql0 (by omega) | exact .neq1 (by omega) | exact .neq0 (by omega) | exact .lss1 (by omega) | exact .lss0 (by omega) | exact .leq1 (by omega) | exact .leq0 (by omega) | exact .gtr1 (by omega) | exact .gtr0 (by omega) | exact .geq1 (by omega) | exact .geq0 (by omega) | constructor)) rfl ?_
            | refine go_do (valid_box rfl rfl rfl rfl rfl rfl) rfl ?_
            | refine go_do (valid_not rfl rfl rfl) rfl ?_
            | refine go_do (valid_call rfl rfl rfl (w1) (by kernel_rfl)) rfl ?_
            | refine go_do (valid_call rfl rfl rfl (hl) (by kernel_rfl)) rfl ?_)
        | (refine hK _ ?_; clear hK K)
        | refine aw_text rfl ?_
        | exact aw_ret (show resA _ _ _ = some _ by kernel_rfl)
        | refine aw_cond1 rfl rfl ?_
        | refine aw_cond0 rfl rfl ?_
        | refine aw_block ?_
        | refine aw_seq_k (fun K hK => ?_))
    rw [if_neg (by simp [c5])]
    have c5 : livesB k id = true := by simpa using c5
    rw [c5] at hl
    obtain ⟨y0, y1, y2, y3⟩ := lives_at c5
    have hx := flS_at y2
    by_cases c2 : fits a l = false
    · rw [if_pos c2]
      rw [c2] at hf
      refine callOk_of 55 Tryz.func14 rfl rfl rfl rfl ?_ GG.to
      intro W A hG
      repeat (first
        | (refine go_at rfl ?_; first
            | refine go_do (valid_mv (.inl rfl) rfl) rfl ?_
            | (refine nxt_s 1 rfl ?_; refine go_do (valid_load_p tb rfl rfl rfl rfl rfl (by first | kernel_rfl | rfl)) (by first | kernel_rfl | rfl) ?_)
            | refine go_do (valid_mv (.inr rfl) rfl) rfl ?_
            | refine go_do (valid_pick rfl rfl rfl) rfl ?_
            | refine go_do (valid_cmp rfl rfl rfl rfl (by first | exact .eql1 (by omega) | exact .eql0 (by omega) | exact .neq1 (by omega) | exact .neq0 (by omega) | exact .lss1 (by omega) | exact .lss0 (by omega) | exact .leq1 (by omega) | exact .leq0 (by omega) | exact .gtr1 (by omega) | exact .gtr0 (by omega) | exact .geq1 (by omega) | exact .geq0 (by omega) | constructor)) rfl ?_
            | refine go_do (valid_box rfl rfl rfl rfl rfl rfl) rfl ?_
            | refine go_do (valid_not rfl rfl rfl) rfl ?_
            | refine go_do (valid_call rfl rfl rfl (w1) (by kernel_rfl)) rfl ?_
            | refine go_do (valid_call rfl rfl rfl (hl) (by kernel_rfl)) rfl ?_
            | refine go_do (valid_call rfl rfl rfl (hf) (by kernel_rfl)) rfl ?_)
        | (refine hK _ ?_; clear hK K)
        | refine aw_text rfl ?_
        | exact aw_ret (show resA _ _ _ = some _ by kernel_rfl)
        | refine aw_cond1 rfl rfl ?_
        | refine aw_cond0 rfl rfl ?_
        | refine aw_block ?_
        | refine aw_seq_k (fun K hK => ?_))
    rw [if_neg c2, if_neg c0]
    rw [show fits a l = true by simpa using c2] at hf
    by_cases c3 : idx a 2 = 511
    · rw [if_pos c3]
      refine callOk_of 55 Tryz.func14 rfl rfl rfl rfl ?_ GG.to
      intro W A hG
      repeat (first
        | (refine go_at rfl ?_; first
            | refine go_do (valid_skip rfl) rfl ?_
            | refine go_do (valid_mv (.inl rfl) rfl) rfl ?_
            | (refine nxt_s 1 rfl ?_; refine go_do (valid_load_p tb rfl rfl rfl rfl rfl (by first | kernel_rfl | rfl)) (by first | kernel_rfl | rfl) ?_)
            | refine go_do (valid_mv (.inr rfl) rfl) rfl ?_
            | refine go_do (valid_pick rfl rfl rfl) rfl ?_
            | refine go_do (valid_cmp rfl rfl rfl rfl (by first | exact .eql1 (by omega) | exact .eql0 (by omega) | exact .neq1 (by omega) | exact .neq0 (by omega) | exact .lss1 (by omega) | exact .lss0 (by omega) | exact .leq1 (by omega) | exact .leq0 (by omega) | exact .gtr1 (by omega) | exact .gtr0 (by omega) | exact .geq1 (by omega) | exact .geq0 (by omega) | constructor)) rfl ?_
            | refine go_do (valid_box rfl rfl rfl rfl rfl rfl) rfl ?_
            | refine go_do (valid_not rfl rfl rfl) rfl ?_
            | refine go_do (valid_neb rfl rfl rfl rfl rfl) rfl ?_
            | refine go_do (valid_call rfl rfl rfl (w1) (by kernel_rfl)) rfl ?_
            | refine go_do (valid_call rfl rfl rfl (hl) (by kernel_rfl)) rfl ?_
            | refine go_do (valid_call rfl rfl rfl (hf) (by kernel_rfl)) rfl ?_
            | refine go_do (valid_call rfl rfl rfl (hi) (by kernel_rfl)) rfl ?_)
        | (refine hK _ ?_; clear hK K)
        | refine aw_text rfl ?_
        | exact aw_ret (show resA _ _ _ = some _ by kernel_rfl)
        | refine aw_cond1 rfl rfl ?_
        | refine aw_cond0 rfl rfl ?_
        | refine aw_block ?_
        | refine aw_seq_k (fun K hK => ?_))
    · rw [if_neg c3]
      refine callOk_of 55 Tryz.func14 rfl rfl rfl rfl ?_ GG.to
      intro W A hG
      repeat (first
        | (refine go_at rfl ?_; first
            | refine go_do (valid_skip rfl) rfl ?_
            | refine go_do (valid_mv (.inl rfl) rfl) rfl ?_
            | (refine nxt_s 1 rfl ?_; refine go_do (valid_load_p tb rfl rfl rfl rfl rfl (by first | kernel_rfl | rfl)) (by first | kernel_rfl | rfl) ?_)
            | (refine nxt_s 1 rfl ?_; refine go_do (valid_fld_p tb rfl rfl rfl (by kernel_rfl)) rfl ?_)
            | refine go_do (valid_mv (.inr rfl) rfl) rfl ?_
            | refine go_do (valid_pick rfl rfl rfl) rfl ?_
            | refine go_do (valid_cmp rfl rfl rfl rfl (by first | exact .eql1 (by omega) | exact .eql0 (by omega) | exact .neq1 (by omega) | exact .neq0 (by omega) | exact .lss1 (by omega) | exact .lss0 (by omega) | exact .leq1 (by omega) | exact .leq0 (by omega) | exact .gtr1 (by omega) | exact .gtr0 (by omega) | exact .geq1 (by omega) | exact .geq0 (by omega) | constructor)) rfl ?_
            | refine go_do (valid_box rfl rfl rfl rfl rfl rfl) rfl ?_
            | (refine nxt_s 3 rfl ?_; refine go_do (valid_load_q tb rfl rfl rfl rfl (by first | kernel_rfl | rfl)) rfl ?_)
            | (refine nxt_s 3 rfl ?_; refine go_do (valid_fld_q tb rfl rfl rfl rfl) rfl ?_)
            | refine go_do (valid_not rfl rfl rfl) rfl ?_
            | (refine nxt_s 4 rfl ?_; refine go_do (valid_idx_s rfl rfl rfl rfl rfl rfl (by omega) (by omega) _ (by assumption)) rfl ?_)
            | refine go_do (valid_neb rfl rfl rfl rfl rfl) rfl ?_
            | refine go_do (valid_call rfl rfl rfl (w1) (by kernel_rfl)) rfl ?_
            | refine go_do (valid_call rfl rfl rfl (hl) (by kernel_rfl)) rfl ?_
            | refine go_do (valid_call rfl rfl rfl (hf) (by kernel_rfl)) rfl ?_
            | refine go_do (valid_call rfl rfl rfl (hi) (by kernel_rfl)) rfl ?_)
        | (refine hK _ ?_; clear hK K)
        | refine aw_text rfl ?_
        | exact aw_ret (show resA _ _ _ = some _ by kernel_rfl)
        | refine aw_cond0 rfl rfl ?_
        | refine aw_block ?_
        | refine aw_skip ?_
        | refine aw_seq_k (fun K hK => ?_))
end Go.Proofs.YtkffmaeiplgjeaaGreatDoor.SpO
