/- Texts of this claim, one behind the other: RfB, PteR, VaR, RfC, RfD, RfE, RfG, RfJ, RfK, LaH, VaR3, RlA, RlB, RlC, LaI, LaJ, Open, Laid, LiA, LiB, LiC, LiD, LiE, LiF. -/
import Derived.Test.YtgkodncknlankaaGreatDoorB4
import Derived.Test.YtgkodncknlankaaGreatDoorB3
import Derived.Test.YtgkodncknlankaaGreatDoorB2
import Derived.ProofKit
import Derived.Carry
import Derived.ChangeOld
import Derived.ChangeArms
import Derived.WideShapes
import Derived.Test.YtgkodncknlankaaGreatDoorRows
import Derived.LaidMore
import Derived.Lib.LaidTab
import Derived.SevenTiedAt
import Derived.LaidHandle
import Derived.Deep.SlicePairs
/- The abstract walk: the document's Set and Clear. -/
namespace Go.Proofs.YtgkodncknlankaaGreatDoor.RfB
open Go.RowKit Go.Proofs.YtgkodncknlankaaGreatDoor.Bv Go.Proofs.YtgkodncknlankaaGreatDoor.VaSpec Go.Proofs.YtgkodncknlankaaGreatDoor.Base Go.Proofs.YtgkodncknlankaaGreatDoor.MemL Go.Proofs.YtgkodncknlankaaGreatDoor.RegR Go.Proofs.YtgkodncknlankaaGreatDoor.Ax Go.Proofs.YtgkodncknlankaaGreatDoor.MemC Go.Proofs.YtgkodncknlankaaGreatDoor.PutC Go.Proofs.YtgkodncknlankaaGreatDoor.MemC3 Go.Proofs.YtgkodncknlankaaGreatDoor.TzC Go.Proofs.YtgkodncknlankaaGreatDoor.OkS Go.Proofs.YtgkodncknlankaaGreatDoor.SpA Go.Proofs.YtgkodncknlankaaGreatDoor.SpB Go.Proofs.YtgkodncknlankaaGreatDoor.SpC Go.Proofs.YtgkodncknlankaaGreatDoor.SpD Go.Proofs.YtgkodncknlankaaGreatDoor.IterC Go.Proofs.YtgkodncknlankaaGreatDoor.SpE Go.Proofs.YtgkodncknlankaaGreatDoor.SpF Go.Proofs.YtgkodncknlankaaGreatDoor.SpG Go.Proofs.YtgkodncknlankaaGreatDoor.SpH Go.Proofs.YtgkodncknlankaaGreatDoor.SpI Go.Proofs.YtgkodncknlankaaGreatDoor.SpJ Go.Proofs.YtgkodncknlankaaGreatDoor.SpK Go.Proofs.YtgkodncknlankaaGreatDoor.SpN Go.Proofs.YtgkodncknlankaaGreatDoor.RfP Go.Proofs.YtgkodncknlankaaGreatDoor.RfQ Go.Proofs.YtgkodncknlankaaGreatDoor.RfA
open Go.Proofs.YtgkodncknlankaaGreatDoor.BitsC Go.Proofs.YtgkodncknlankaaGreatDoor.PteSpec
set_option linter.unusedVariables false
set_option linter.unusedSimpArgs false
set_option maxRecDepth 10000
set_option maxHeartbeats 800000
attribute [local irreducible] Go.Proofs.YtgkodncknlankaaGreatDoor.Ax.CallOk
theorem fl_snoc (l : List (Int × Int)) (c : Int × Int) : fl (l ++ [c]) = fl l ++ [.int .u64 c.1, .int .u64 c.2] := fl_append l [c]
theorem memA_eq {sz : Int} {l : List (Int × Int)} {n : Nat} {xs : List Value} (h1 : n = l.length) (h2 : xs = fl l) : memA sz l = .ag [cu sz, .s n 2 xs] := by rw [h1, h2]
theorem take_fold {α β : Type} (f : β → α → β) (b : β) (l : List α) (i : Nat) (a : α) (h : l[i]? = some a) : (l.take (i + 1)).foldl f b = f ((l.take i).foldl f b) a := by
  rw [List.take_add_one, h]; simp
theorem take_filt {α : Type} (f : α → Bool) (l : List α) (i : Nat) (a : α) (h : l[i]? = some a) : (l.take (i + 1)).filter f = (l.take i).filter f ++ [a].filter f := by
  rw [List.take_add_one, h]; simp
def setH (sz p v : Int) (m : List (Int × Int)) (i : Nat) (d : Bool) (n : Nat) (xs : List Value) : St := St.of [(1, .m (iu p)), (2, .m (iu v)), (3, .m (.c (.p 3 0))), (6, .m (.c (.p 6 0))), (7, .m (.c (.o 1000))), (8, .m (ib d)), (9, .m (ii i))] [(3, .live (.box [cu sz, .s m.length 2 (fl m)])), (6, .live (.box [cu 0, .v (.slice none 0 0)])), (1000, .live (.row 167 2 n xs))]
theorem rset03_ok (sz : Int) (m : List (Int × Int)) (p v : Int) (hs : Srt m) (hl : m.length ≤ 1000000) : Ok 79 [memA sz m, iu p, iu v] (.m (memA sz (putM m p v))) := by
  have hput := set_put p v m hs
  obtain ⟨b0, hb0⟩ : ∃ b0, b0 = decide (v = 0) := ⟨_, rfl⟩
  rw [← hb0] at hput
  obtain ⟨N, hN⟩ : ∃ N, N = (putM m p v).length := ⟨_, rfl⟩
  obtain ⟨XS, hXS⟩ : ∃ XS, XS = fl (putM m p v) := ⟨_, rfl⟩
  rw [memA_eq (sz := sz) hN hXS]
  have hvb : v = 0 ∧ b0 = true ∨ v ≠ 0 ∧ b0 = false := by by_cases h : v = 0 <;> simp [hb0, h]
  clear hb0
  rcases hvb with ⟨hv, rfl⟩ | ⟨hv, rfl⟩
  · refine callOk_of 64 Tryz.func79 rfl rfl rfl rfl ?_ GG.to
    intro W A hG
    repeat (first
      | (refine go_at rfl ?_; first
          | refine go_do (valid_mv (.inl rfl) rfl) rfl ?_
          | refine go_do (valid_mv (.inr rfl) rfl) rfl ?_
          | refine go_do (valid_cmp rfl rfl rfl rfl (by first | exact .eql1 (by omega) | exact .eql0 (by omega) | exact .neq1 (by omega) | exact .neq0 (by omega) | exact .lss1 (by omega) | exact .lss0 (by omega) | exact .leq1 (by omega) | exact .leq0 (by omega) | exact .gtr1 (by omega) | exact .gtr0 (by omega) | exact .geq1 (by omega) | exact .geq0 (by omega) | constructor)) rfl ?_
          | refine go_do (valid_box rfl rfl rfl rfl rfl rfl) rfl ?_
          | refine go_do (valid_alloc rfl rfl rfl rfl rfl) rfl ?_)
      | (refine hK _ ?_; clear hK K)
      | refine aw_text rfl ?_
      | refine aw_block ?_
      | refine aw_seq_k (fun K hK => ?_))
    refine aw_loopH (α := Nat × List (Int × Int) × Bool × Nat × List Value) (fun q => q.1 ≤ m.length ∧ (q.2.1, q.2.2.1) = (m.take q.1).foldl (stepS p v) ([], true) ∧ q.2.2.2.1 = q.2.1.length ∧ q.2.2.2.2 = fl q.2.1 ∧ q.2.1.length ≤ 2 * q.1) (fun q => setH sz p v m q.1 q.2.2.1 q.2.2.2.1 q.2.2.2.2) (fun q => m.length - q.1) (0, [], true, 0, []) ⟨Nat.zero_le _, rfl, rfl, rfl, Nat.le_refl _⟩ (Sub.trans (sub_nil 7 1000 167 2 rfl rfl) (sub_of _ _ ⟨rfl, rfl, rfl, rfl, rfl, rfl, rfl, trivial⟩ ⟨rfl, rfl, rfl, trivial⟩ (by kernel_rfl))) ?_
    rintro ⟨i, l, d, n, xs⟩ ⟨h1, h2, h3, h4, h5⟩
    have g1 : i ≤ m.length := h1
    have g2 : (l, d) = (m.take i).foldl (stepS p v) ([], true) := h2
    have g3 : n = l.length := h3
    have g4 : xs = fl l := h4
    have g5 : l.length ≤ 2 * i := h5
    show Aw _ _ _ _ (setH sz p v m i d n xs)
    unfold setH
    by_cases hlt : i < m.length
    · obtain ⟨c, hc⟩ : ∃ c, m[i]? = some c := ⟨_, List.getElem?_eq_getElem hlt⟩
      have hx := SpL.fl_at2 hc
      have hf := take_fold (stepS p v) ([], true) m i c hc
      rw [← g2] at hf
      by_cases a1 : d = false ∧ p < c.1
      · obtain ⟨rfl, a1⟩ := a1
        rw [show stepS p v (l, false) c = (l ++ [(p, v), c], true) by unfold stepS; rw [if_pos ⟨rfl, a1⟩]] at hf
        repeat (first
          | (refine go_at rfl ?_; first
              | refine go_do (valid_mv (.inl rfl) rfl) rfl ?_
              | (refine nxt_s 1 rfl ?_; refine go_do (valid_load_p tb rfl rfl rfl rfl rfl (by first | kernel_rfl | rfl)) (by first | kernel_rfl | rfl) ?_)
              | (refine nxt_s 1 rfl ?_; refine go_do (valid_fld_p tb rfl rfl rfl (by kernel_rfl)) rfl ?_)
              | refine go_do (valid_mv (.inr rfl) rfl) rfl ?_
              | refine go_do (valid_pick rfl rfl rfl) rfl ?_
              | refine go_do (valid_cmp rfl rfl rfl rfl (by first | exact .eql1 (by omega) | exact .eql0 (by omega) | exact .neq1 (by omega) | exact .neq0 (by omega) | exact .lss1 (by omega) | exact .lss0 (by omega) | exact .leq1 (by omega) | exact .leq0 (by omega) | exact .gtr1 (by omega) | exact .gtr0 (by omega) | exact .geq1 (by omega) | exact .geq0 (by omega) | constructor)) rfl ?_
              | refine go_do (valid_ar rfl rfl rfl rfl (by constructor) (by first | exact wr_u64 (by omega) (by omega) | exact wr_i64 (by omega) (by omega) | rfl)) rfl ?_
              | refine go_do (valid_len_s rfl rfl rfl rfl) rfl ?_
              | (refine nxt_s 3 rfl ?_; refine go_do (valid_load_q tb rfl rfl rfl rfl (by first | kernel_rfl | rfl)) rfl ?_)
              | (refine nxt_s 3 rfl ?_; refine go_do (valid_fld_q tb rfl rfl rfl rfl) rfl ?_)
              | refine go_do (valid_not rfl rfl rfl) rfl ?_
              | refine go_do (valid_build rfl rfl rfl rfl) rfl ?_
              | (refine nxt_s 4 rfl ?_; refine go_do (valid_idx_s rfl rfl rfl rfl rfl rfl (by omega) (by omega) _ (by assumption)) rfl ?_)
              | refine go_do (valid_bslice rfl rfl rfl rfl rfl rfl rfl rfl rfl rfl rfl) rfl ?_
              | refine go_do (valid_app rfl rfl rfl rfl rfl rfl rfl rfl rfl rfl rfl rfl rfl (by omega)) rfl ?_)
          | (refine hK _ ?_; clear hK K)
          | refine aw_text rfl ?_
          | refine aw_cond1 rfl rfl ?_
          | refine aw_block ?_
          | refine aw_skip ?_
          | refine aw_seq_k (fun K hK => ?_))
        exact ⟨(i + 1, l ++ [(p, v), c], true, n + 1 + 1, xs ++ [.int .u64 p, .int .u64 v] ++ [.int .u64 c.1, .int .u64 c.2]), ⟨by show i + 1 ≤ m.length; omega, hf.symm, by show n + 1 + 1 = (l ++ [(p, v), c]).length; simp [g3], by show _ = fl (l ++ [(p, v), c]); rw [g4, fl_append, List.append_assoc]; rfl, by show (l ++ [(p, v), c]).length ≤ 2 * (i + 1); simp; omega⟩, by show m.length - (i + 1) < m.length - i; omega, Sub.trans (sub_of [(1, .m (iu p)), (2, .m (iu v)), (3, .m (.c (.p 3 0))), (6, .m (.c (.p 6 0))), (7, .m (.c (.o 52))), (8, .m (ib true)), (9, .m (ii ((i + 1 : Nat) : Int)))] [(3, .live (.box [cu sz, .s m.length 2 (fl m)])), (6, .live (.box [cu 0, .v (.slice none 0 0)])), (52, .live (.row 167 2 (n + 1 + 1) (xs ++ [.int .u64 p, .int .u64 v] ++ [.int .u64 c.1, .int .u64 c.2])))] ⟨rfl, rfl, rfl, rfl, rfl, rfl, rfl, trivial⟩ ⟨rfl, rfl, rfl, trivial⟩ rfl) (Sub.trans (sub_mv (b := 52) (b' := 1000) rfl rfl) (sub_of _ _ ⟨rfl, rfl, rfl, rfl, rfl, rfl, rfl, trivial⟩ ⟨rfl, rfl, rfl, trivial⟩ rfl))⟩
      · by_cases a2 : c.1 = p
        · rw [show stepS p v (l, d) c = (l, d) by unfold stepS; rw [if_neg a1, if_pos a2]] at hf
          have hd : d = true ∨ ¬ p < c.1 := by cases d <;> simp_all
          cases d
          · skip
            repeat (first
              | (refine go_at rfl ?_; first
                  | refine go_do (valid_mv (.inl rfl) rfl) rfl ?_
                  | (refine nxt_s 1 rfl ?_; refine go_do (valid_load_p tb rfl rfl rfl rfl rfl (by first | kernel_rfl | rfl)) (by first | kernel_rfl | rfl) ?_)
                  | (refine nxt_s 1 rfl ?_; refine go_do (valid_fld_p tb rfl rfl rfl (by kernel_rfl)) rfl ?_)
                  | refine go_do (valid_mv (.inr rfl) rfl) rfl ?_
                  | refine go_do (valid_pick rfl rfl rfl) rfl ?_
                  | refine go_do (valid_cmp rfl rfl rfl rfl (by first | exact .eql1 (by omega) | exact .eql0 (by omega) | exact .neq1 (by omega) | exact .neq0 (by omega) | exact .lss1 (by omega) | exact .lss0 (by omega) | exact .leq1 (by omega) | exact .leq0 (by omega) | exact .gtr1 (by omega) | exact .gtr0 (by omega) | exact .geq1 (by omega) | exact .geq0 (by omega) | constructor)) rfl ?_
                  | refine go_do (valid_ar rfl rfl rfl rfl (by constructor) (by first | exact wr_u64 (by omega) (by omega) | exact wr_i64 (by omega) (by omega) | rfl)) rfl ?_
                  | refine go_do (valid_len_s rfl rfl rfl rfl) rfl ?_
                  | (refine nxt_s 3 rfl ?_; refine go_do (valid_load_q tb rfl rfl rfl rfl (by first | kernel_rfl | rfl)) rfl ?_)
                  | (refine nxt_s 3 rfl ?_; refine go_do (valid_fld_q tb rfl rfl rfl rfl) rfl ?_)
                  | refine go_do (valid_not rfl rfl rfl) rfl ?_
                  | (refine nxt_s 4 rfl ?_; refine go_do (valid_idx_s rfl rfl rfl rfl rfl rfl (by omega) (by omega) _ (by assumption)) rfl ?_))
              | (refine hK _ ?_; clear hK K)
              | refine aw_text rfl ?_
              | refine aw_cond1 rfl rfl ?_
              | refine aw_cond0 rfl rfl ?_
              | refine aw_block ?_
              | refine aw_skip ?_
              | refine aw_seq_k (fun K hK => ?_))
            exact ⟨(i + 1, l, false, n, xs), ⟨by show i + 1 ≤ m.length; omega, hf.symm, g3, g4, by show l.length ≤ 2 * (i + 1); omega⟩, by show m.length - (i + 1) < m.length - i; omega, sub_of _ _ ⟨rfl, rfl, rfl, rfl, rfl, rfl, rfl, trivial⟩ ⟨rfl, rfl, rfl, trivial⟩ (by kernel_rfl)⟩
          · skip
            repeat (first
              | (refine go_at rfl ?_; first
                  | refine go_do (valid_skip rfl) rfl ?_
                  | refine go_do (valid_mv (.inl rfl) rfl) rfl ?_
                  | (refine nxt_s 1 rfl ?_; refine go_do (valid_load_p tb rfl rfl rfl rfl rfl (by first | kernel_rfl | rfl)) (by first | kernel_rfl | rfl) ?_)
                  | (refine nxt_s 1 rfl ?_; refine go_do (valid_fld_p tb rfl rfl rfl (by kernel_rfl)) rfl ?_)
                  | refine go_do (valid_mv (.inr rfl) rfl) rfl ?_
                  | refine go_do (valid_pick rfl rfl rfl) rfl ?_
                  | refine go_do (valid_cmp rfl rfl rfl rfl (by first | exact .eql1 (by omega) | exact .eql0 (by omega) | exact .neq1 (by omega) | exact .neq0 (by omega) | exact .lss1 (by omega) | exact .lss0 (by omega) | exact .leq1 (by omega) | exact .leq0 (by omega) | exact .gtr1 (by omega) | exact .gtr0 (by omega) | exact .geq1 (by omega) | exact .geq0 (by omega) | constructor)) rfl ?_
                  | refine go_do (valid_ar rfl rfl rfl rfl (by constructor) (by first | exact wr_u64 (by omega) (by omega) | exact wr_i64 (by omega) (by omega) | rfl)) rfl ?_
                  | refine go_do (valid_len_s rfl rfl rfl rfl) rfl ?_
                  | (refine nxt_s 3 rfl ?_; refine go_do (valid_load_q tb rfl rfl rfl rfl (by first | kernel_rfl | rfl)) rfl ?_)
                  | (refine nxt_s 3 rfl ?_; refine go_do (valid_fld_q tb rfl rfl rfl rfl) rfl ?_)
                  | refine go_do (valid_not rfl rfl rfl) rfl ?_
                  | (refine nxt_s 4 rfl ?_; refine go_do (valid_idx_s rfl rfl rfl rfl rfl rfl (by omega) (by omega) _ (by assumption)) rfl ?_))
              | (refine hK _ ?_; clear hK K)
              | refine aw_text rfl ?_
              | refine aw_cond1 rfl rfl ?_
              | refine aw_cond0 rfl rfl ?_
              | refine aw_block ?_
              | refine aw_skip ?_
              | refine aw_seq_k (fun K hK => ?_))
            exact ⟨(i + 1, l, true, n, xs), ⟨by show i + 1 ≤ m.length; omega, hf.symm, g3, g4, by show l.length ≤ 2 * (i + 1); omega⟩, by show m.length - (i + 1) < m.length - i; omega, sub_of _ _ ⟨rfl, rfl, rfl, rfl, rfl, rfl, rfl, trivial⟩ ⟨rfl, rfl, rfl, trivial⟩ (by kernel_rfl)⟩
        · rw [show stepS p v (l, d) c = (l ++ [c], d) by unfold stepS; rw [if_neg a1, if_neg a2]] at hf
          cases d
          · have hd : ¬ p < c.1 := fun h => a1 ⟨rfl, h⟩
            repeat (first
              | (refine go_at rfl ?_; first
                  | refine go_do (valid_mv (.inl rfl) rfl) rfl ?_
                  | (refine nxt_s 1 rfl ?_; refine go_do (valid_load_p tb rfl rfl rfl rfl rfl (by first | kernel_rfl | rfl)) (by first | kernel_rfl | rfl) ?_)
                  | (refine nxt_s 1 rfl ?_; refine go_do (valid_fld_p tb rfl rfl rfl (by kernel_rfl)) rfl ?_)
                  | refine go_do (valid_mv (.inr rfl) rfl) rfl ?_
                  | refine go_do (valid_pick rfl rfl rfl) rfl ?_
                  | refine go_do (valid_cmp rfl rfl rfl rfl (by first | exact .eql1 (by omega) | exact .eql0 (by omega) | exact .neq1 (by omega) | exact .neq0 (by omega) | exact .lss1 (by omega) | exact .lss0 (by omega) | exact .leq1 (by omega) | exact .leq0 (by omega) | exact .gtr1 (by omega) | exact .gtr0 (by omega) | exact .geq1 (by omega) | exact .geq0 (by omega) | constructor)) rfl ?_
                  | refine go_do (valid_ar rfl rfl rfl rfl (by constructor) (by first | exact wr_u64 (by omega) (by omega) | exact wr_i64 (by omega) (by omega) | rfl)) rfl ?_
                  | refine go_do (valid_len_s rfl rfl rfl rfl) rfl ?_
                  | (refine nxt_s 3 rfl ?_; refine go_do (valid_load_q tb rfl rfl rfl rfl (by first | kernel_rfl | rfl)) rfl ?_)
                  | (refine nxt_s 3 rfl ?_; refine go_do (valid_fld_q tb rfl rfl rfl rfl) rfl ?_)
                  | refine go_do (valid_not rfl rfl rfl) rfl ?_
                  | (refine nxt_s 4 rfl ?_; refine go_do (valid_idx_s rfl rfl rfl rfl rfl rfl (by omega) (by omega) _ (by assumption)) rfl ?_)
                  | refine go_do (valid_bslice rfl rfl rfl rfl rfl rfl rfl rfl rfl rfl rfl) rfl ?_
                  | refine go_do (valid_app rfl rfl rfl rfl rfl rfl rfl rfl rfl rfl rfl rfl rfl (by omega)) rfl ?_)
              | (refine hK _ ?_; clear hK K)
              | refine aw_text rfl ?_
              | refine aw_cond1 rfl rfl ?_
              | refine aw_cond0 rfl rfl ?_
              | refine aw_block ?_
              | refine aw_skip ?_
              | refine aw_seq_k (fun K hK => ?_))
            exact ⟨(i + 1, l ++ [c], false, n + 1, xs ++ [.int .u64 c.1, .int .u64 c.2]), ⟨by show i + 1 ≤ m.length; omega, hf.symm, by show n + 1 = (l ++ [c]).length; simp [g3], by show _ = fl (l ++ [c]); rw [g4, fl_snoc], by show (l ++ [c]).length ≤ 2 * (i + 1); simp; omega⟩, by show m.length - (i + 1) < m.length - i; omega, Sub.trans (sub_of [(1, .m (iu p)), (2, .m (iu v)), (3, .m (.c (.p 3 0))), (6, .m (.c (.p 6 0))), (7, .m (.c (.o 52))), (8, .m (ib false)), (9, .m (ii ((i + 1 : Nat) : Int)))] [(3, .live (.box [cu sz, .s m.length 2 (fl m)])), (6, .live (.box [cu 0, .v (.slice none 0 0)])), (52, .live (.row 167 2 (n + 1) (xs ++ [.int .u64 c.1, .int .u64 c.2])))] ⟨rfl, rfl, rfl, rfl, rfl, rfl, rfl, trivial⟩ ⟨rfl, rfl, rfl, trivial⟩ rfl) (Sub.trans (sub_mv (b := 52) (b' := 1000) rfl rfl) (sub_of _ _ ⟨rfl, rfl, rfl, rfl, rfl, rfl, rfl, trivial⟩ ⟨rfl, rfl, rfl, trivial⟩ rfl))⟩
          · skip
            repeat (first
              | (refine go_at rfl ?_; first
                  | refine go_do (valid_skip rfl) rfl ?_
                  | refine go_do (valid_mv (.inl rfl) rfl) rfl ?_
                  | (refine nxt_s 1 rfl ?_; refine go_do (valid_load_p tb rfl rfl rfl rfl rfl (by first | kernel_rfl | rfl)) (by first | kernel_rfl | rfl) ?_)
                  | (refine nxt_s 1 rfl ?_; refine go_do (valid_fld_p tb rfl rfl rfl (by kernel_rfl)) rfl ?_)
                  | refine go_do (valid_mv (.inr rfl) rfl) rfl ?_
                  | refine go_do (valid_pick rfl rfl rfl) rfl ?_
                  | refine go_do (valid_cmp rfl rfl rfl rfl (by first | exact .eql1 (by omega) | exact .eql0 (by omega) | exact .neq1 (by omega) | exact .neq0 (by omega) | exact .lss1 (by omega) | exact .lss0 (by omega) | exact .leq1 (by omega) | exact .leq0 (by omega) | exact .gtr1 (by omega) | exact .gtr0 (by omega) | exact .geq1 (by omega) | exact .geq0 (by omega) | constructor)) rfl ?_
                  | refine go_do (valid_ar rfl rfl rfl rfl (by constructor) (by first | exact wr_u64 (by omega) (by omega) | exact wr_i64 (by omega) (by omega) | rfl)) rfl ?_
                  | refine go_do (valid_len_s rfl rfl rfl rfl) rfl ?_
                  | (refine nxt_s 3 rfl ?_; refine go_do (valid_load_q tb rfl rfl rfl rfl (by first | kernel_rfl | rfl)) rfl ?_)
                  | (refine nxt_s 3 rfl ?_; refine go_do (valid_fld_q tb rfl rfl rfl rfl) rfl ?_)
                  | refine go_do (valid_not rfl rfl rfl) rfl ?_
                  | (refine nxt_s 4 rfl ?_; refine go_do (valid_idx_s rfl rfl rfl rfl rfl rfl (by omega) (by omega) _ (by assumption)) rfl ?_)
                  | refine go_do (valid_bslice rfl rfl rfl rfl rfl rfl rfl rfl rfl rfl rfl) rfl ?_
                  | refine go_do (valid_app rfl rfl rfl rfl rfl rfl rfl rfl rfl rfl rfl rfl rfl (by omega)) rfl ?_)
              | (refine hK _ ?_; clear hK K)
              | refine aw_text rfl ?_
              | refine aw_cond1 rfl rfl ?_
              | refine aw_cond0 rfl rfl ?_
              | refine aw_block ?_
              | refine aw_skip ?_
              | refine aw_seq_k (fun K hK => ?_))
            exact ⟨(i + 1, l ++ [c], true, n + 1, xs ++ [.int .u64 c.1, .int .u64 c.2]), ⟨by show i + 1 ≤ m.length; omega, hf.symm, by show n + 1 = (l ++ [c]).length; simp [g3], by show _ = fl (l ++ [c]); rw [g4, fl_snoc], by show (l ++ [c]).length ≤ 2 * (i + 1); simp; omega⟩, by show m.length - (i + 1) < m.length - i; omega, Sub.trans (sub_of [(1, .m (iu p)), (2, .m (iu v)), (3, .m (.c (.p 3 0))), (6, .m (.c (.p 6 0))), (7, .m (.c (.o 52))), (8, .m (ib true)), (9, .m (ii ((i + 1 : Nat) : Int)))] [(3, .live (.box [cu sz, .s m.length 2 (fl m)])), (6, .live (.box [cu 0, .v (.slice none 0 0)])), (52, .live (.row 167 2 (n + 1) (xs ++ [.int .u64 c.1, .int .u64 c.2])))] ⟨rfl, rfl, rfl, rfl, rfl, rfl, rfl, trivial⟩ ⟨rfl, rfl, rfl, trivial⟩ rfl) (Sub.trans (sub_mv (b := 52) (b' := 1000) rfl rfl) (sub_of _ _ ⟨rfl, rfl, rfl, rfl, rfl, rfl, rfl, trivial⟩ ⟨rfl, rfl, rfl, trivial⟩ rfl))⟩
    · have hi : i = m.length := by omega
      rw [hi, List.take_length] at g2
      rw [← g2] at hput
      cases d
      · have e : putM m p v = l ++ [(p, v)] := hput.symm
        obtain rfl : N = n + 1 := by rw [hN, e, g3]; simp
        obtain rfl : XS = xs ++ [.int .u64 p, .int .u64 v] := by rw [hXS, e, g4, fl_snoc]
        repeat (first
          | (refine go_at rfl ?_; first
              | refine go_do (valid_mv (.inl rfl) rfl) rfl ?_
              | (refine nxt_s 1 rfl ?_; refine go_do (valid_load_p tb rfl rfl rfl rfl rfl (by first | kernel_rfl | rfl)) (by first | kernel_rfl | rfl) ?_)
              | (refine nxt_s 1 rfl ?_; refine go_do (valid_fld_p tb rfl rfl rfl (by kernel_rfl)) rfl ?_)
              | refine go_do (valid_mv (.inr rfl) rfl) rfl ?_
              | refine go_do (valid_cmp rfl rfl rfl rfl (by first | exact .eql1 (by omega) | exact .eql0 (by omega) | exact .neq1 (by omega) | exact .neq0 (by omega) | exact .lss1 (by omega) | exact .lss0 (by omega) | exact .leq1 (by omega) | exact .leq0 (by omega) | exact .gtr1 (by omega) | exact .gtr0 (by omega) | exact .geq1 (by omega) | exact .geq0 (by omega) | constructor)) rfl ?_
              | (refine nxt_s 1 rfl ?_; refine go_do (valid_store_p rfl rfl rfl rfl rfl rfl (by first | kernel_rfl | rfl) rfl) (by first | kernel_rfl | rfl) ?_)
              | refine go_do (valid_len_s rfl rfl rfl rfl) rfl ?_
              | refine go_do (valid_not rfl rfl rfl) rfl ?_
              | refine go_do (valid_build rfl rfl rfl rfl) rfl ?_
              | refine go_do (valid_bslice rfl rfl rfl rfl rfl rfl rfl rfl rfl rfl rfl) rfl ?_
              | refine go_do (valid_app rfl rfl rfl rfl rfl rfl rfl rfl rfl rfl rfl rfl rfl (by omega)) rfl ?_)
          | (refine hK _ ?_; clear hK K)
          | (rename_i K1 hK1; refine hK1 _ ?_; clear hK hK1; clear K)
          | refine aw_text rfl ?_
          | exact aw_ret (show resA _ _ _ = some _ by kernel_rfl)
          | refine aw_cond1 rfl rfl ?_
          | refine aw_cond0 rfl rfl ?_
          | refine aw_exit ?_
          | refine aw_seq_k (fun K hK => ?_))
      · have e : putM m p v = l := hput.symm
        obtain rfl : N = n := by rw [hN, e, g3]
        obtain rfl : XS = xs := by rw [hXS, e, g4]
        repeat (first
          | (refine go_at rfl ?_; first
              | refine go_do (valid_mv (.inl rfl) rfl) rfl ?_
              | (refine nxt_s 1 rfl ?_; refine go_do (valid_load_p tb rfl rfl rfl rfl rfl (by first | kernel_rfl | rfl)) (by first | kernel_rfl | rfl) ?_)
              | (refine nxt_s 1 rfl ?_; refine go_do (valid_fld_p tb rfl rfl rfl (by kernel_rfl)) rfl ?_)
              | refine go_do (valid_cmp rfl rfl rfl rfl (by first | exact .eql1 (by omega) | exact .eql0 (by omega) | exact .neq1 (by omega) | exact .neq0 (by omega) | exact .lss1 (by omega) | exact .lss0 (by omega) | exact .leq1 (by omega) | exact .leq0 (by omega) | exact .gtr1 (by omega) | exact .gtr0 (by omega) | exact .geq1 (by omega) | exact .geq0 (by omega) | constructor)) rfl ?_
              | (refine nxt_s 1 rfl ?_; refine go_do (valid_store_p rfl rfl rfl rfl rfl rfl (by first | kernel_rfl | rfl) rfl) (by first | kernel_rfl | rfl) ?_)
              | refine go_do (valid_len_s rfl rfl rfl rfl) rfl ?_
              | refine go_do (valid_not rfl rfl rfl) rfl ?_)
          | (refine hK _ ?_; clear hK K)
          | (rename_i K1 hK1; refine hK1 _ ?_; clear hK hK1; clear K)
          | refine aw_text rfl ?_
          | exact aw_ret (show resA _ _ _ = some _ by kernel_rfl)
          | refine aw_cond0 rfl rfl ?_
          | refine aw_exit ?_
          | refine aw_skip ?_
          | refine aw_seq_k (fun K hK => ?_))
  · refine callOk_of 64 Tryz.func79 rfl rfl rfl rfl ?_ GG.to
    intro W A hG
    repeat (first
      | (refine go_at rfl ?_; first
          | refine go_do (valid_mv (.inl rfl) rfl) rfl ?_
          | refine go_do (valid_mv (.inr rfl) rfl) rfl ?_
          | refine go_do (valid_cmp rfl rfl rfl rfl (by first | exact .eql1 (by omega) | exact .eql0 (by omega) | exact .neq1 (by omega) | exact .neq0 (by omega) | exact .lss1 (by omega) | exact .lss0 (by omega) | exact .leq1 (by omega) | exact .leq0 (by omega) | exact .gtr1 (by omega) | exact .gtr0 (by omega) | exact .geq1 (by omega) | exact .geq0 (by omega) | constructor)) rfl ?_
          | refine go_do (valid_box rfl rfl rfl rfl rfl rfl) rfl ?_
          | refine go_do (valid_alloc rfl rfl rfl rfl rfl) rfl ?_)
      | (refine hK _ ?_; clear hK K)
      | refine aw_text rfl ?_
      | refine aw_block ?_
      | refine aw_seq_k (fun K hK => ?_))
    refine aw_loopH (α := Nat × List (Int × Int) × Bool × Nat × List Value) (fun q => q.1 ≤ m.length ∧ (q.2.1, q.2.2.1) = (m.take q.1).foldl (stepS p v) ([], false) ∧ q.2.2.2.1 = q.2.1.length ∧ q.2.2.2.2 = fl q.2.1 ∧ q.2.1.length ≤ 2 * q.1) (fun q => setH sz p v m q.1 q.2.2.1 q.2.2.2.1 q.2.2.2.2) (fun q => m.length - q.1) (0, [], false, 0, []) ⟨Nat.zero_le _, rfl, rfl, rfl, Nat.le_refl _⟩ (Sub.trans (sub_nil 7 1000 167 2 rfl rfl) (sub_of _ _ ⟨rfl, rfl, rfl, rfl, rfl, rfl, rfl, trivial⟩ ⟨rfl, rfl, rfl, trivial⟩ (by kernel_rfl))) ?_
    rintro ⟨i, l, d, n, xs⟩ ⟨h1, h2, h3, h4, h5⟩
    have g1 : i ≤ m.length := h1
    have g2 : (l, d) = (m.take i).foldl (stepS p v) ([], false) := h2
    have g3 : n = l.length := h3
    have g4 : xs = fl l := h4
    have g5 : l.length ≤ 2 * i := h5
    show Aw _ _ _ _ (setH sz p v m i d n xs)
    unfold setH
    by_cases hlt : i < m.length
    · obtain ⟨c, hc⟩ : ∃ c, m[i]? = some c := ⟨_, List.getElem?_eq_getElem hlt⟩
      have hx := SpL.fl_at2 hc
      have hf := take_fold (stepS p v) ([], false) m i c hc
      rw [← g2] at hf
      by_cases a1 : d = false ∧ p < c.1
      · obtain ⟨rfl, a1⟩ := a1
        rw [show stepS p v (l, false) c = (l ++ [(p, v), c], true) by unfold stepS; rw [if_pos ⟨rfl, a1⟩]] at hf
        repeat (first
          | (refine go_at rfl ?_; first
              | refine go_do (valid_mv (.inl rfl) rfl) rfl ?_
              | (refine nxt_s 1 rfl ?_; refine go_do (valid_load_p tb rfl rfl rfl rfl rfl (by first | kernel_rfl | rfl)) (by first | kernel_rfl | rfl) ?_)
              | (refine nxt_s 1 rfl ?_; refine go_do (valid_fld_p tb rfl rfl rfl (by kernel_rfl)) rfl ?_)
              | refine go_do (valid_mv (.inr rfl) rfl) rfl ?_
              | refine go_do (valid_pick rfl rfl rfl) rfl ?_
              | refine go_do (valid_cmp rfl rfl rfl rfl (by first | exact .eql1 (by omega) | exact .eql0 (by omega) | exact .neq1 (by omega) | exact .neq0 (by omega) | exact .lss1 (by omega) | exact .lss0 (by omega) | exact .leq1 (by omega) | exact .leq0 (by omega) | exact .gtr1 (by omega) | exact .gtr0 (by omega) | exact .geq1 (by omega) | exact .geq0 (by omega) | constructor)) rfl ?_
              | refine go_do (valid_ar rfl rfl rfl rfl (by constructor) (by first | exact wr_u64 (by omega) (by omega) | exact wr_i64 (by omega) (by omega) | rfl)) rfl ?_
              | refine go_do (valid_len_s rfl rfl rfl rfl) rfl ?_
              | (refine nxt_s 3 rfl ?_; refine go_do (valid_load_q tb rfl rfl rfl rfl (by first | kernel_rfl | rfl)) rfl ?_)
              | (refine nxt_s 3 rfl ?_; refine go_do (valid_fld_q tb rfl rfl rfl rfl) rfl ?_)
              | refine go_do (valid_not rfl rfl rfl) rfl ?_
              | refine go_do (valid_build rfl rfl rfl rfl) rfl ?_
              | (refine nxt_s 4 rfl ?_; refine go_do (valid_idx_s rfl rfl rfl rfl rfl rfl (by omega) (by omega) _ (by assumption)) rfl ?_)
              | refine go_do (valid_bslice rfl rfl rfl rfl rfl rfl rfl rfl rfl rfl rfl) rfl ?_
              | refine go_do (valid_app rfl rfl rfl rfl rfl rfl rfl rfl rfl rfl rfl rfl rfl (by omega)) rfl ?_)
          | (refine hK _ ?_; clear hK K)
          | refine aw_text rfl ?_
          | refine aw_cond1 rfl rfl ?_
          | refine aw_block ?_
          | refine aw_skip ?_
          | refine aw_seq_k (fun K hK => ?_))
        exact ⟨(i + 1, l ++ [(p, v), c], true, n + 1 + 1, xs ++ [.int .u64 p, .int .u64 v] ++ [.int .u64 c.1, .int .u64 c.2]), ⟨by show i + 1 ≤ m.length; omega, hf.symm, by show n + 1 + 1 = (l ++ [(p, v), c]).length; simp [g3], by show _ = fl (l ++ [(p, v), c]); rw [g4, fl_append, List.append_assoc]; rfl, by show (l ++ [(p, v), c]).length ≤ 2 * (i + 1); simp; omega⟩, by show m.length - (i + 1) < m.length - i; omega, Sub.trans (sub_of [(1, .m (iu p)), (2, .m (iu v)), (3, .m (.c (.p 3 0))), (6, .m (.c (.p 6 0))), (7, .m (.c (.o 52))), (8, .m (ib true)), (9, .m (ii ((i + 1 : Nat) : Int)))] [(3, .live (.box [cu sz, .s m.length 2 (fl m)])), (6, .live (.box [cu 0, .v (.slice none 0 0)])), (52, .live (.row 167 2 (n + 1 + 1) (xs ++ [.int .u64 p, .int .u64 v] ++ [.int .u64 c.1, .int .u64 c.2])))] ⟨rfl, rfl, rfl, rfl, rfl, rfl, rfl, trivial⟩ ⟨rfl, rfl, rfl, trivial⟩ rfl) (Sub.trans (sub_mv (b := 52) (b' := 1000) rfl rfl) (sub_of _ _ ⟨rfl, rfl, rfl, rfl, rfl, rfl, rfl, trivial⟩ ⟨rfl, rfl, rfl, trivial⟩ rfl))⟩
      · by_cases a2 : c.1 = p
        · rw [show stepS p v (l, d) c = (l, d) by unfold stepS; rw [if_neg a1, if_pos a2]] at hf
          have hd : d = true ∨ ¬ p < c.1 := by cases d <;> simp_all
          cases d
          · skip
            repeat (first
              | (refine go_at rfl ?_; first
                  | refine go_do (valid_mv (.inl rfl) rfl) rfl ?_
                  | (refine nxt_s 1 rfl ?_; refine go_do (valid_load_p tb rfl rfl rfl rfl rfl (by first | kernel_rfl | rfl)) (by first | kernel_rfl | rfl) ?_)
                  | (refine nxt_s 1 rfl ?_; refine go_do (valid_fld_p tb rfl rfl rfl (by kernel_rfl)) rfl ?_)
                  | refine go_do (valid_mv (.inr rfl) rfl) rfl ?_
                  | refine go_do (valid_pick rfl rfl rfl) rfl ?_
                  | refine go_do (valid_cmp rfl rfl rfl rfl (by first | exact .eql1 (by omega) | exact .eql0 (by omega) | exact .neq1 (by omega) | exact .neq0 (by omega) | exact .lss1 (by omega) | exact .lss0 (by omega) | exact .leq1 (by omega) | exact .leq0 (by omega) | exact .gtr1 (by omega) | exact .gtr0 (by omega) | exact .geq1 (by omega) | exact .geq0 (by omega) | constructor)) rfl ?_
                  | refine go_do (valid_ar rfl rfl rfl rfl (by constructor) (by first | exact wr_u64 (by omega) (by omega) | exact wr_i64 (by omega) (by omega) | rfl)) rfl ?_
                  | refine go_do (valid_len_s rfl rfl rfl rfl) rfl ?_
                  | (refine nxt_s 3 rfl ?_; refine go_do (valid_load_q tb rfl rfl rfl rfl (by first | kernel_rfl | rfl)) rfl ?_)
                  | (refine nxt_s 3 rfl ?_; refine go_do (valid_fld_q tb rfl rfl rfl rfl) rfl ?_)
                  | refine go_do (valid_not rfl rfl rfl) rfl ?_
                  | (refine nxt_s 4 rfl ?_; refine go_do (valid_idx_s rfl rfl rfl rfl rfl rfl (by omega) (by omega) _ (by assumption)) rfl ?_))
              | (refine hK _ ?_; clear hK K)
              | refine aw_text rfl ?_
              | refine aw_cond1 rfl rfl ?_
              | refine aw_cond0 rfl rfl ?_
              | refine aw_block ?_
              | refine aw_skip ?_
              | refine aw_seq_k (fun K hK => ?_))
            exact ⟨(i + 1, l, false, n, xs), ⟨by show i + 1 ≤ m.length; omega, hf.symm, g3, g4, by show l.length ≤ 2 * (i + 1); omega⟩, by show m.length - (i + 1) < m.length - i; omega, sub_of _ _ ⟨rfl, rfl, rfl, rfl, rfl, rfl, rfl, trivial⟩ ⟨rfl, rfl, rfl, trivial⟩ (by kernel_rfl)⟩
          · skip
            repeat (first
              | (refine go_at rfl ?_; first
                  | refine go_do (valid_skip rfl) rfl ?_
                  | refine go_do (valid_mv (.inl rfl) rfl) rfl ?_
                  | (refine nxt_s 1 rfl ?_; refine go_do (valid_load_p tb rfl rfl rfl rfl rfl (by first | kernel_rfl | rfl)) (by first | kernel_rfl | rfl) ?_)
                  | (refine nxt_s 1 rfl ?_; refine go_do (valid_fld_p tb rfl rfl rfl (by kernel_rfl)) rfl ?_)
                  | refine go_do (valid_mv (.inr rfl) rfl) rfl ?_
                  | refine go_do (valid_pick rfl rfl rfl) rfl ?_
                  | refine go_do (valid_cmp rfl rfl rfl rfl (by first | exact .eql1 (by omega) | exact .eql0 (by omega) | exact .neq1 (by omega) | exact .neq0 (by omega) | exact .lss1 (by omega) | exact .lss0 (by omega) | exact .leq1 (by omega) | exact .leq0 (by omega) | exact .gtr1 (by omega) | exact .gtr0 (by omega) | exact .geq1 (by omega) | exact .geq0 (by omega) | constructor)) rfl ?_
                  | refine go_do (valid_ar rfl rfl rfl rfl (by constructor) (by first | exact wr_u64 (by omega) (by omega) | exact wr_i64 (by omega) (by omega) | rfl)) rfl ?_
                  | refine go_do (valid_len_s rfl rfl rfl rfl) rfl ?_
                  | (refine nxt_s 3 rfl ?_; refine go_do (valid_load_q tb rfl rfl rfl rfl (by first | kernel_rfl | rfl)) rfl ?_)
                  | (refine nxt_s 3 rfl ?_; refine go_do (valid_fld_q tb rfl rfl rfl rfl) rfl ?_)
                  | refine go_do (valid_not rfl rfl rfl) rfl ?_
                  | (refine nxt_s 4 rfl ?_; refine go_do (valid_idx_s rfl rfl rfl rfl rfl rfl (by omega) (by omega) _ (by assumption)) rfl ?_))
              | (refine hK _ ?_; clear hK K)
              | refine aw_text rfl ?_
              | refine aw_cond1 rfl rfl ?_
              | refine aw_cond0 rfl rfl ?_
              | refine aw_block ?_
              | refine aw_skip ?_
              | refine aw_seq_k (fun K hK => ?_))
            exact ⟨(i + 1, l, true, n, xs), ⟨by show i + 1 ≤ m.length; omega, hf.symm, g3, g4, by show l.length ≤ 2 * (i + 1); omega⟩, by show m.length - (i + 1) < m.length - i; omega, sub_of _ _ ⟨rfl, rfl, rfl, rfl, rfl, rfl, rfl, trivial⟩ ⟨rfl, rfl, rfl, trivial⟩ (by kernel_rfl)⟩
        · rw [show stepS p v (l, d) c = (l ++ [c], d) by unfold stepS; rw [if_neg a1, if_neg a2]] at hf
          cases d
          · have hd : ¬ p < c.1 := fun h => a1 ⟨rfl, h⟩
            repeat (first
              | (refine go_at rfl ?_; first
                  | refine go_do (valid_mv (.inl rfl) rfl) rfl ?_
                  | (refine nxt_s 1 rfl ?_; refine go_do (valid_load_p tb rfl rfl rfl rfl rfl (by first | kernel_rfl | rfl)) (by first | kernel_rfl | rfl) ?_)
                  | (refine nxt_s 1 rfl ?_; refine go_do (valid_fld_p tb rfl rfl rfl (by kernel_rfl)) rfl ?_)
                  | refine go_do (valid_mv (.inr rfl) rfl) rfl ?_
                  | refine go_do (valid_pick rfl rfl rfl) rfl ?_
                  | refine go_do (valid_cmp rfl rfl rfl rfl (by first | exact .eql1 (by omega) | exact .eql0 (by omega) | exact .neq1 (by omega) | exact .neq0 (by omega) | exact .lss1 (by omega) | exact .lss0 (by omega) | exact .leq1 (by omega) | exact .leq0 (by omega) | exact .gtr1 (by omega) | exact .gtr0 (by omega) | exact .geq1 (by omega) | exact .geq0 (by omega) | constructor)) rfl ?_
                  | refine go_do (valid_ar rfl rfl rfl rfl (by constructor) (by first | exact wr_u64 (by omega) (by omega) | exact wr_i64 (by omega) (by omega) | rfl)) rfl ?_
                  | refine go_do (valid_len_s rfl rfl rfl rfl) rfl ?_
                  | (refine nxt_s 3 rfl ?_; refine go_do (valid_load_q tb rfl rfl rfl rfl (by first | kernel_rfl | rfl)) rfl ?_)
                  | (refine nxt_s 3 rfl ?_; refine go_do (valid_fld_q tb rfl rfl rfl rfl) rfl ?_)
                  | refine go_do (valid_not rfl rfl rfl) rfl ?_
                  | (refine nxt_s 4 rfl ?_; refine go_do (valid_idx_s rfl rfl rfl rfl rfl rfl (by omega) (by omega) _ (by assumption)) rfl ?_)
                  | refine go_do (valid_bslice rfl rfl rfl rfl rfl rfl rfl rfl rfl rfl rfl) rfl ?_
                  | refine go_do (valid_app rfl rfl rfl rfl rfl rfl rfl rfl rfl rfl rfl rfl rfl (by omega)) rfl ?_)
              | (refine hK _ ?_; clear hK K)
              | refine aw_text rfl ?_
              | refine aw_cond1 rfl rfl ?_
              | refine aw_cond0 rfl rfl ?_
              | refine aw_block ?_
              | refine aw_skip ?_
              | refine aw_seq_k (fun K hK => ?_))
            exact ⟨(i + 1, l ++ [c], false, n + 1, xs ++ [.int .u64 c.1, .int .u64 c.2]), ⟨by show i + 1 ≤ m.length; omega, hf.symm, by show n + 1 = (l ++ [c]).length; simp [g3], by show _ = fl (l ++ [c]); rw [g4, fl_snoc], by show (l ++ [c]).length ≤ 2 * (i + 1); simp; omega⟩, by show m.length - (i + 1) < m.length - i; omega, Sub.trans (sub_of [(1, .m (iu p)), (2, .m (iu v)), (3, .m (.c (.p 3 0))), (6, .m (.c (.p 6 0))), (7, .m (.c (.o 52))), (8, .m (ib false)), (9, .m (ii ((i + 1 : Nat) : Int)))] [(3, .live (.box [cu sz, .s m.length 2 (fl m)])), (6, .live (.box [cu 0, .v (.slice none 0 0)])), (52, .live (.row 167 2 (n + 1) (xs ++ [.int .u64 c.1, .int .u64 c.2])))] ⟨rfl, rfl, rfl, rfl, rfl, rfl, rfl, trivial⟩ ⟨rfl, rfl, rfl, trivial⟩ rfl) (Sub.trans (sub_mv (b := 52) (b' := 1000) rfl rfl) (sub_of _ _ ⟨rfl, rfl, rfl, rfl, rfl, rfl, rfl, trivial⟩ ⟨rfl, rfl, rfl, trivial⟩ rfl))⟩
          · skip
            repeat (first
              | (refine go_at rfl ?_; first
                  | refine go_do (valid_skip rfl) rfl ?_
                  | refine go_do (valid_mv (.inl rfl) rfl) rfl ?_
                  | (refine nxt_s 1 rfl ?_; refine go_do (valid_load_p tb rfl rfl rfl rfl rfl (by first | kernel_rfl | rfl)) (by first | kernel_rfl | rfl) ?_)
                  | (refine nxt_s 1 rfl ?_; refine go_do (valid_fld_p tb rfl rfl rfl (by kernel_rfl)) rfl ?_)
                  | refine go_do (valid_mv (.inr rfl) rfl) rfl ?_
                  | refine go_do (valid_pick rfl rfl rfl) rfl ?_
                  | refine go_do (valid_cmp rfl rfl rfl rfl (by first | exact .eql1 (by omega) | exact .eql0 (by omega) | exact .neq1 (by omega) | exact .neq0 (by omega) | exact .lss1 (by omega) | exact .lss0 (by omega) | exact .leq1 (by omega) | exact .leq0 (by omega) | exact .gtr1 (by omega) | exact .gtr0 (by omega) | exact .geq1 (by omega) | exact .geq0 (by omega) | constructor)) rfl ?_
                  | refine go_do (valid_ar rfl rfl rfl rfl (by constructor) (by first | exact wr_u64 (by omega) (by omega) | exact wr_i64 (by omega) (by omega) | rfl)) rfl ?_
                  | refine go_do (valid_len_s rfl rfl rfl rfl) rfl ?_
                  | (refine nxt_s 3 rfl ?_; refine go_do (valid_load_q tb rfl rfl rfl rfl (by first | kernel_rfl | rfl)) rfl ?_)
                  | (refine nxt_s 3 rfl ?_; refine go_do (valid_fld_q tb rfl rfl rfl rfl) rfl ?_)
                  | refine go_do (valid_not rfl rfl rfl) rfl ?_
                  | (refine nxt_s 4 rfl ?_; refine go_do (valid_idx_s rfl rfl rfl rfl rfl rfl (by omega) (by omega) _ (by assumption)) rfl ?_)
                  | refine go_do (valid_bslice rfl rfl rfl rfl rfl rfl rfl rfl rfl rfl rfl) rfl ?_
                  | refine go_do (valid_app rfl rfl rfl rfl rfl rfl rfl rfl rfl rfl rfl rfl rfl (by omega)) rfl ?_)
              | (refine hK _ ?_; clear hK K)
              | refine aw_text rfl ?_
              | refine aw_cond1 rfl rfl ?_
              | refine aw_cond0 rfl rfl ?_
              | refine aw_block ?_
              | refine aw_skip ?_
              | refine aw_seq_k (fun K hK => ?_))
            exact ⟨(i + 1, l ++ [c], true, n + 1, xs ++ [.int .u64 c.1, .int .u64 c.2]), ⟨by show i + 1 ≤ m.length; omega, hf.symm, by show n + 1 = (l ++ [c]).length; simp [g3], by show _ = fl (l ++ [c]); rw [g4, fl_snoc], by show (l ++ [c]).length ≤ 2 * (i + 1); simp; omega⟩, by show m.length - (i + 1) < m.length - i; omega, Sub.trans (sub_of [(1, .m (iu p)), (2, .m (iu v)), (3, .m (.c (.p 3 0))), (6, .m (.c (.p 6 0))), (7, .m (.c (.o 52))), (8, .m (ib true)), (9, .m (ii ((i + 1 : Nat) : Int)))] [(3, .live (.box [cu sz, .s m.length 2 (fl m)])), (6, .live (.box [cu 0, .v (.slice none 0 0)])), (52, .live (.row 167 2 (n + 1) (xs ++ [.int .u64 c.1, .int .u64 c.2])))] ⟨rfl, rfl, rfl, rfl, rfl, rfl, rfl, trivial⟩ ⟨rfl, rfl, rfl, trivial⟩ rfl) (Sub.trans (sub_mv (b := 52) (b' := 1000) rfl rfl) (sub_of _ _ ⟨rfl, rfl, rfl, rfl, rfl, rfl, rfl, trivial⟩ ⟨rfl, rfl, rfl, trivial⟩ rfl))⟩
    · have hi : i = m.length := by omega
      rw [hi, List.take_length] at g2
      rw [← g2] at hput
      cases d
      · have e : putM m p v = l ++ [(p, v)] := hput.symm
        obtain rfl : N = n + 1 := by rw [hN, e, g3]; simp
        obtain rfl : XS = xs ++ [.int .u64 p, .int .u64 v] := by rw [hXS, e, g4, fl_snoc]
        repeat (first
          | (refine go_at rfl ?_; first
              | refine go_do (valid_mv (.inl rfl) rfl) rfl ?_
              | (refine nxt_s 1 rfl ?_; refine go_do (valid_load_p tb rfl rfl rfl rfl rfl (by first | kernel_rfl | rfl)) (by first | kernel_rfl | rfl) ?_)
              | (refine nxt_s 1 rfl ?_; refine go_do (valid_fld_p tb rfl rfl rfl (by kernel_rfl)) rfl ?_)
              | refine go_do (valid_mv (.inr rfl) rfl) rfl ?_
              | refine go_do (valid_cmp rfl rfl rfl rfl (by first | exact .eql1 (by omega) | exact .eql0 (by omega) | exact .neq1 (by omega) | exact .neq0 (by omega) | exact .lss1 (by omega) | exact .lss0 (by omega) | exact .leq1 (by omega) | exact .leq0 (by omega) | exact .gtr1 (by omega) | exact .gtr0 (by omega) | exact .geq1 (by omega) | exact .geq0 (by omega) | constructor)) rfl ?_
              | (refine nxt_s 1 rfl ?_; refine go_do (valid_store_p rfl rfl rfl rfl rfl rfl (by first | kernel_rfl | rfl) rfl) (by first | kernel_rfl | rfl) ?_)
              | refine go_do (valid_len_s rfl rfl rfl rfl) rfl ?_
              | refine go_do (valid_not rfl rfl rfl) rfl ?_
              | refine go_do (valid_build rfl rfl rfl rfl) rfl ?_
              | refine go_do (valid_bslice rfl rfl rfl rfl rfl rfl rfl rfl rfl rfl rfl) rfl ?_
              | refine go_do (valid_app rfl rfl rfl rfl rfl rfl rfl rfl rfl rfl rfl rfl rfl (by omega)) rfl ?_)
          | (refine hK _ ?_; clear hK K)
          | (rename_i K1 hK1; refine hK1 _ ?_; clear hK hK1; clear K)
          | refine aw_text rfl ?_
          | exact aw_ret (show resA _ _ _ = some _ by kernel_rfl)
          | refine aw_cond1 rfl rfl ?_
          | refine aw_cond0 rfl rfl ?_
          | refine aw_exit ?_
          | refine aw_seq_k (fun K hK => ?_))
      · have e : putM m p v = l := hput.symm
        obtain rfl : N = n := by rw [hN, e, g3]
        obtain rfl : XS = xs := by rw [hXS, e, g4]
        repeat (first
          | (refine go_at rfl ?_; first
              | refine go_do (valid_mv (.inl rfl) rfl) rfl ?_
              | (refine nxt_s 1 rfl ?_; refine go_do (valid_load_p tb rfl rfl rfl rfl rfl (by first | kernel_rfl | rfl)) (by first | kernel_rfl | rfl) ?_)
              | (refine nxt_s 1 rfl ?_; refine go_do (valid_fld_p tb rfl rfl rfl (by kernel_rfl)) rfl ?_)
              | refine go_do (valid_cmp rfl rfl rfl rfl (by first | exact .eql1 (by omega) | exact .eql0 (by omega) | exact .neq1 (by omega) | exact .neq0 (by omega) | exact .lss1 (by omega) | exact .lss0 (by omega) | exact .leq1 (by omega) | exact .leq0 (by omega) | exact .gtr1 (by omega) | exact .gtr0 (by omega) | exact .geq1 (by omega) | exact .geq0 (by omega) | constructor)) rfl ?_
              | (refine nxt_s 1 rfl ?_; refine go_do (valid_store_p rfl rfl rfl rfl rfl rfl (by first | kernel_rfl | rfl) rfl) (by first | kernel_rfl | rfl) ?_)
              | refine go_do (valid_len_s rfl rfl rfl rfl) rfl ?_
              | refine go_do (valid_not rfl rfl rfl) rfl ?_)
          | (refine hK _ ?_; clear hK K)
          | (rename_i K1 hK1; refine hK1 _ ?_; clear hK hK1; clear K)
          | refine aw_text rfl ?_
          | exact aw_ret (show resA _ _ _ = some _ by kernel_rfl)
          | refine aw_cond0 rfl rfl ?_
          | refine aw_exit ?_
          | refine aw_skip ?_
          | refine aw_seq_k (fun K hK => ?_))
def clrH (sz p v : Int) (m : List (Int × Int)) (i : Nat) (n : Nat) (xs : List Value) : St := St.of [(1, .m (iu p)), (2, .m (iu v)), (3, .m (.c (.p 3 0))), (6, .m (.c (.p 6 0))), (7, .m (.c (.o 1000))), (8, .m (ii i))] [(3, .live (.box [cu sz, .s m.length 2 (fl m)])), (6, .live (.box [cu 0, .v (.slice none 0 0)])), (1000, .live (.row 167 2 n xs))]
theorem rclear_ok (sz : Int) (m : List (Int × Int)) (f : Int) (hs : Srt m) (hl : m.length ≤ 1000000) (hf0 : 0 ≤ f ∧ f < 268436480) (hb : ∀ c ∈ m, 0 ≤ c.1 ∧ c.1 < 1099511627776) : Ok 130 [memA sz m, iu (4096 * f), iu 4096] (.m (memA sz (TableC.wipeM m f))) := by
  have hput := wipe_filt f m hs
  obtain ⟨N, hN⟩ : ∃ N, N = (TableC.wipeM m f).length := ⟨_, rfl⟩
  obtain ⟨XS, hXS⟩ : ∃ XS, XS = fl (TableC.wipeM m f) := ⟨_, rfl⟩
  rw [memA_eq (sz := sz) hN hXS]
  obtain ⟨p, hp⟩ : ∃ p, p = 4096 * f := ⟨_, rfl⟩
  obtain ⟨v, hv⟩ : ∃ v : Int, v = 4096 := ⟨_, rfl⟩
  rw [← hp]
  rw [show iu (4096 : Int) = iu v by rw [hv]]
  refine callOk_of 49 Tryz.func130 rfl rfl rfl rfl ?_ GG.to
  intro W A hG
  repeat (first
    | (refine go_at rfl ?_; first
        | refine go_do (valid_mv (.inr rfl) rfl) rfl ?_
        | refine go_do (valid_box rfl rfl rfl rfl rfl rfl) rfl ?_
        | refine go_do (valid_alloc rfl rfl rfl rfl rfl) rfl ?_)
    | (refine hK _ ?_; clear hK K)
    | refine aw_text rfl ?_
    | refine aw_block ?_
    | refine aw_seq_k (fun K hK => ?_))
  refine aw_loopH (α := Nat × List (Int × Int) × Nat × List Value) (fun q => q.1 ≤ m.length ∧ q.2.1 = (m.take q.1).filter (outB (f * 512) (f * 512 + 512)) ∧ q.2.2.1 = q.2.1.length ∧ q.2.2.2 = fl q.2.1) (fun q => clrH sz p v m q.1 q.2.2.1 q.2.2.2) (fun q => m.length - q.1) (0, [], 0, []) ⟨Nat.zero_le _, rfl, rfl, rfl⟩ (Sub.trans (sub_nil 7 1000 167 2 rfl rfl) (sub_of _ _ ⟨rfl, rfl, rfl, rfl, rfl, rfl, trivial⟩ ⟨rfl, rfl, rfl, trivial⟩ (by kernel_rfl))) ?_
  rintro ⟨i, l, n, xs⟩ ⟨h1, h2, h3, h4⟩
  have g1 : i ≤ m.length := h1
  have g2 : l = (m.take i).filter (outB (f * 512) (f * 512 + 512)) := h2
  have g3 : n = l.length := h3
  have g4 : xs = fl l := h4
  have g5 : l.length ≤ m.length := by rw [g2]; exact Nat.le_trans (List.length_filter_le _ _) (by rw [List.length_take]; omega)
  show Aw _ _ _ _ (clrH sz p v m i n xs)
  unfold clrH
  by_cases hlt : i < m.length
  · obtain ⟨c, hc⟩ : ∃ c, m[i]? = some c := ⟨_, List.getElem?_eq_getElem hlt⟩
    have hx := SpL.fl_at2 hc
    have hcb := hb c (List.mem_of_getElem? hc)
    have hf := take_filt (outB (f * 512) (f * 512 + 512)) m i c hc
    rw [← g2] at hf
    by_cases a1 : c.1 < f * 512
    · rw [show [c].filter (outB (f * 512) (f * 512 + 512)) = [c] from List.filter_eq_self.2 (fun x hx => by simp at hx; subst hx; simp [outB, a1])] at hf
      repeat (first
        | (refine go_at rfl ?_; first
            | refine go_do (valid_skip rfl) rfl ?_
            | refine go_do (valid_mv (.inl rfl) rfl) rfl ?_
            | (refine nxt_s 1 rfl ?_; refine go_do (valid_load_p tb rfl rfl rfl rfl rfl (by first | kernel_rfl | rfl)) (by first | kernel_rfl | rfl) ?_)
            | (refine nxt_s 1 rfl ?_; refine go_do (valid_fld_p tb rfl rfl rfl (by kernel_rfl)) rfl ?_)
            | refine go_do (valid_mv (.inr rfl) rfl) rfl ?_
            | refine go_do (valid_pick rfl rfl rfl) rfl ?_
            | refine go_do (valid_cmp rfl rfl rfl rfl (by first | exact .eql1 (by omega) | exact .eql0 (by omega) | exact .neq1 (by omega) | exact .neq0 (by omega) | exact .lss1 (by omega) | exact .lss0 (by omega) | exact .leq1 (by omega) | exact .leq0 (by omega) | exact .gtr1 (by omega) | exact .gtr0 (by omega) | exact .geq1 (by omega) | exact .geq0 (by omega) | constructor)) rfl ?_
            | refine go_do (valid_ar rfl rfl rfl rfl (by constructor) (by first | exact wr_u64 (by omega) (by omega) | exact wr_i64 (by omega) (by omega) | rfl)) rfl ?_
            | refine go_do (valid_len_s rfl rfl rfl rfl) rfl ?_
            | (refine nxt_s 3 rfl ?_; refine go_do (valid_load_q tb rfl rfl rfl rfl (by first | kernel_rfl | rfl)) rfl ?_)
            | (refine nxt_s 3 rfl ?_; refine go_do (valid_fld_q tb rfl rfl rfl rfl) rfl ?_)
            | (refine nxt_s 4 rfl ?_; refine go_do (valid_idx_s rfl rfl rfl rfl rfl rfl (by omega) (by omega) _ (by assumption)) rfl ?_)
            | refine go_do (valid_bslice rfl rfl rfl rfl rfl rfl rfl rfl rfl rfl rfl) rfl ?_
            | refine go_do (valid_app rfl rfl rfl rfl rfl rfl rfl rfl rfl rfl rfl rfl rfl (by omega)) rfl ?_)
        | (refine hK _ ?_; clear hK K)
        | refine aw_text rfl ?_
        | refine aw_cond1 rfl rfl ?_
        | refine aw_block ?_
        | refine aw_skip ?_
        | refine aw_seq_k (fun K hK => ?_))
      exact ⟨(i + 1, l ++ [c], n + 1, xs ++ [.int .u64 c.1, .int .u64 c.2]), ⟨by show i + 1 ≤ m.length; omega, hf.symm, by show n + 1 = (l ++ [c]).length; simp [g3], by show _ = fl (l ++ [c]); rw [g4, fl_snoc]⟩, by show m.length - (i + 1) < m.length - i; omega, Sub.trans (sub_of [(1, .m (iu p)), (2, .m (iu v)), (3, .m (.c (.p 3 0))), (6, .m (.c (.p 6 0))), (7, .m (.c (.o 45))), (8, .m (ii ((i + 1 : Nat) : Int)))] [(3, .live (.box [cu sz, .s m.length 2 (fl m)])), (6, .live (.box [cu 0, .v (.slice none 0 0)])), (45, .live (.row 167 2 (n + 1) (xs ++ [.int .u64 c.1, .int .u64 c.2])))] ⟨rfl, rfl, rfl, rfl, rfl, rfl, trivial⟩ ⟨rfl, rfl, rfl, trivial⟩ rfl) (Sub.trans (sub_mv (b := 45) (b' := 1000) rfl rfl) (sub_of _ _ ⟨rfl, rfl, rfl, rfl, rfl, rfl, trivial⟩ ⟨rfl, rfl, rfl, trivial⟩ rfl))⟩
    · by_cases a2 : f * 512 + 512 ≤ c.1
      · rw [show [c].filter (outB (f * 512) (f * 512 + 512)) = [c] from List.filter_eq_self.2 (fun x hx => by simp at hx; subst hx; simp [outB, a2])] at hf
        repeat (first
          | (refine go_at rfl ?_; first
              | refine go_do (valid_mv (.inl rfl) rfl) rfl ?_
              | (refine nxt_s 1 rfl ?_; refine go_do (valid_load_p tb rfl rfl rfl rfl rfl (by first | kernel_rfl | rfl)) (by first | kernel_rfl | rfl) ?_)
              | (refine nxt_s 1 rfl ?_; refine go_do (valid_fld_p tb rfl rfl rfl (by kernel_rfl)) rfl ?_)
              | refine go_do (valid_mv (.inr rfl) rfl) rfl ?_
              | refine go_do (valid_pick rfl rfl rfl) rfl ?_
              | refine go_do (valid_cmp rfl rfl rfl rfl (by first | exact .eql1 (by omega) | exact .eql0 (by omega) | exact .neq1 (by omega) | exact .neq0 (by omega) | exact .lss1 (by omega) | exact .lss0 (by omega) | exact .leq1 (by omega) | exact .leq0 (by omega) | exact .gtr1 (by omega) | exact .gtr0 (by omega) | exact .geq1 (by omega) | exact .geq0 (by omega) | constructor)) rfl ?_
              | refine go_do (valid_ar rfl rfl rfl rfl (by constructor) (by first | exact wr_u64 (by omega) (by omega) | exact wr_i64 (by omega) (by omega) | rfl)) rfl ?_
              | refine go_do (valid_len_s rfl rfl rfl rfl) rfl ?_
              | (refine nxt_s 3 rfl ?_; refine go_do (valid_load_q tb rfl rfl rfl rfl (by first | kernel_rfl | rfl)) rfl ?_)
              | (refine nxt_s 3 rfl ?_; refine go_do (valid_fld_q tb rfl rfl rfl rfl) rfl ?_)
              | (refine nxt_s 4 rfl ?_; refine go_do (valid_idx_s rfl rfl rfl rfl rfl rfl (by omega) (by omega) _ (by assumption)) rfl ?_)
              | refine go_do (valid_bslice rfl rfl rfl rfl rfl rfl rfl rfl rfl rfl rfl) rfl ?_
              | refine go_do (valid_app rfl rfl rfl rfl rfl rfl rfl rfl rfl rfl rfl rfl rfl (by omega)) rfl ?_)
          | (refine hK _ ?_; clear hK K)
          | refine aw_text rfl ?_
          | refine aw_cond1 rfl rfl ?_
          | refine aw_block ?_
          | refine aw_skip ?_
          | refine aw_seq_k (fun K hK => ?_))
        exact ⟨(i + 1, l ++ [c], n + 1, xs ++ [.int .u64 c.1, .int .u64 c.2]), ⟨by show i + 1 ≤ m.length; omega, hf.symm, by show n + 1 = (l ++ [c]).length; simp [g3], by show _ = fl (l ++ [c]); rw [g4, fl_snoc]⟩, by show m.length - (i + 1) < m.length - i; omega, Sub.trans (sub_of [(1, .m (iu p)), (2, .m (iu v)), (3, .m (.c (.p 3 0))), (6, .m (.c (.p 6 0))), (7, .m (.c (.o 45))), (8, .m (ii ((i + 1 : Nat) : Int)))] [(3, .live (.box [cu sz, .s m.length 2 (fl m)])), (6, .live (.box [cu 0, .v (.slice none 0 0)])), (45, .live (.row 167 2 (n + 1) (xs ++ [.int .u64 c.1, .int .u64 c.2])))] ⟨rfl, rfl, rfl, rfl, rfl, rfl, trivial⟩ ⟨rfl, rfl, rfl, trivial⟩ rfl) (Sub.trans (sub_mv (b := 45) (b' := 1000) rfl rfl) (sub_of _ _ ⟨rfl, rfl, rfl, rfl, rfl, rfl, trivial⟩ ⟨rfl, rfl, rfl, trivial⟩ rfl))⟩
      · rw [show [c].filter (outB (f * 512) (f * 512 + 512)) = [] from List.filter_eq_nil_iff.2 (fun x hx => by simp at hx; subst hx; simp [outB]; omega), List.append_nil] at hf
        repeat (first
          | (refine go_at rfl ?_; first
              | refine go_do (valid_mv (.inl rfl) rfl) rfl ?_
              | (refine nxt_s 1 rfl ?_; refine go_do (valid_load_p tb rfl rfl rfl rfl rfl (by first | kernel_rfl | rfl)) (by first | kernel_rfl | rfl) ?_)
              | (refine nxt_s 1 rfl ?_; refine go_do (valid_fld_p tb rfl rfl rfl (by kernel_rfl)) rfl ?_)
              | refine go_do (valid_mv (.inr rfl) rfl) rfl ?_
              | refine go_do (valid_pick rfl rfl rfl) rfl ?_
              | refine go_do (valid_cmp rfl rfl rfl rfl (by first | exact .eql1 (by omega) | exact .eql0 (by omega) | exact .neq1 (by omega) | exact .neq0 (by omega) | exact .lss1 (by omega) | exact .lss0 (by omega) | exact .leq1 (by omega) | exact .leq0 (by omega) | exact .gtr1 (by omega) | exact .gtr0 (by omega) | exact .geq1 (by omega) | exact .geq0 (by omega) | constructor)) rfl ?_
              | refine go_do (valid_ar rfl rfl rfl rfl (by constructor) (by first | exact wr_u64 (by omega) (by omega) | exact wr_i64 (by omega) (by omega) | rfl)) rfl ?_
              | refine go_do (valid_len_s rfl rfl rfl rfl) rfl ?_
              | (refine nxt_s 3 rfl ?_; refine go_do (valid_load_q tb rfl rfl rfl rfl (by first | kernel_rfl | rfl)) rfl ?_)
              | (refine nxt_s 3 rfl ?_; refine go_do (valid_fld_q tb rfl rfl rfl rfl) rfl ?_)
              | (refine nxt_s 4 rfl ?_; refine go_do (valid_idx_s rfl rfl rfl rfl rfl rfl (by omega) (by omega) _ (by assumption)) rfl ?_))
          | (refine hK _ ?_; clear hK K)
          | refine aw_text rfl ?_
          | refine aw_cond1 rfl rfl ?_
          | refine aw_cond0 rfl rfl ?_
          | refine aw_block ?_
          | refine aw_skip ?_
          | refine aw_seq_k (fun K hK => ?_))
        exact ⟨(i + 1, l, n, xs), ⟨by show i + 1 ≤ m.length; omega, hf.symm, g3, g4⟩, by show m.length - (i + 1) < m.length - i; omega, sub_of _ _ ⟨rfl, rfl, rfl, rfl, rfl, rfl, trivial⟩ ⟨rfl, rfl, rfl, trivial⟩ (by kernel_rfl)⟩
  · have hi : i = m.length := by omega
    rw [hi, List.take_length] at g2
    rw [← g2] at hput
    obtain rfl : N = n := by rw [hN, hput, g3]
    obtain rfl : XS = xs := by rw [hXS, hput, g4]
    repeat (first
      | (refine go_at rfl ?_; first
          | refine go_do (valid_mv (.inl rfl) rfl) rfl ?_
          | (refine nxt_s 1 rfl ?_; refine go_do (valid_load_p tb rfl rfl rfl rfl rfl (by first | kernel_rfl | rfl)) (by first | kernel_rfl | rfl) ?_)
          | (refine nxt_s 1 rfl ?_; refine go_do (valid_fld_p tb rfl rfl rfl (by kernel_rfl)) rfl ?_)
          | refine go_do (valid_cmp rfl rfl rfl rfl (by first | exact .eql1 (by omega) | exact .eql0 (by omega) | exact .neq1 (by omega) | exact .neq0 (by omega) | exact .lss1 (by omega) | exact .lss0 (by omega) | exact .leq1 (by omega) | exact .leq0 (by omega) | exact .gtr1 (by omega) | exact .gtr0 (by omega) | exact .geq1 (by omega) | exact .geq0 (by omega) | constructor)) rfl ?_
          | (refine nxt_s 1 rfl ?_; refine go_do (valid_store_p rfl rfl rfl rfl rfl rfl (by first | kernel_rfl | rfl) rfl) (by first | kernel_rfl | rfl) ?_)
          | refine go_do (valid_len_s rfl rfl rfl rfl) rfl ?_)
      | (refine hK _ ?_; clear hK K)
      | (rename_i K1 hK1; refine hK1 _ ?_; clear hK hK1; clear K)
      | refine aw_text rfl ?_
      | exact aw_ret (show resA _ _ _ = some _ by kernel_rfl)
      | refine aw_cond0 rfl rfl ?_
      | refine aw_exit ?_
      | refine aw_seq_k (fun K hK => ?_))
end Go.Proofs.YtgkodncknlankaaGreatDoor.RfB
/- The contracts of the reference of the layer pte: each call comes to the same plain entry, word or truth. -/
namespace Go.Proofs.YtgkodncknlankaaGreatDoor.PteR
open Go.RowKit Go.Proofs.YtgkodncknlankaaGreatDoor.Bv Go.Proofs.YtgkodncknlankaaGreatDoor.VaSpec Go.Proofs.YtgkodncknlankaaGreatDoor.Base Go.Proofs.YtgkodncknlankaaGreatDoor.BitsC Go.Proofs.YtgkodncknlankaaGreatDoor.VaC Go.Proofs.YtgkodncknlankaaGreatDoor.PteSpec Go.Proofs.YtgkodncknlankaaGreatDoor.PteC
set_option linter.unusedVariables false
set_option linter.unusedSimpArgs false
def f8 (v r w x u g a d : Bool) : Nat → Bool
  | 0 => v
  | 1 => r
  | 2 => w
  | 3 => x
  | 4 => u
  | 5 => g
  | 6 => a
  | _ => d
theorem row_low8 (v r w x u g a d : Bool) (rsw ppn high : Int) : rowI (f8 v r w x u g a d) 8 = low8 ⟨v, r, w, x, u, g, a, d, rsw, ppn, high⟩ := by
  unfold low8; simp only [rowI, f8]; omega
end Go.Proofs.YtgkodncknlankaaGreatDoor.PteR
/- The contracts of the layer va's reference: each call comes to the plain number of VaSpec. -/
namespace Go.Proofs.YtgkodncknlankaaGreatDoor.VaR
open Go.RowKit Go.Proofs.YtgkodncknlankaaGreatDoor.Bv Go.Proofs.YtgkodncknlankaaGreatDoor.VaSpec Go.Proofs.YtgkodncknlankaaGreatDoor.Base Go.Proofs.YtgkodncknlankaaGreatDoor.BitsC Go.Proofs.YtgkodncknlankaaGreatDoor.VaC
set_option linter.unusedVariables false
set_option linter.unusedSimpArgs false
set_option maxHeartbeats 400000 in
theorem rsize_calls (l : Int) (w : World) (h0 : 0 ≤ l) (h2 : l ≤ 2) : Calls Tryz.prog 12 #[.int .i64 l] w fun e w' => e = .returned (.int .u64 (sz l)) ∧ Q w w' := by
  obtain ⟨n, rfl⟩ := Int.eq_ofNat_of_zero_le h0
  go_enter Tryz.func12, Tryz.ntmps12
  go_wp2
  go_loop [3, 4] (fun x k => ∃ j : Nat, j ≤ n ∧ k = .int .i64 j ∧ x = .int .u64 (sz j)) (fun _ k => n - (intOf k).toNat)
  case atStart => exact ⟨0, by omega, rfl, rfl⟩
  case round =>
    obtain ⟨j, hj, rfl, rfl⟩ := hrel
    by_cases hlt : j < n
    · have hp := sz_pos j
      have hq := sz_le j
      go_wp2
      refine ⟨⟨j + 1, by omega, by go_num, ?_⟩, ?_⟩
      · have : j = 0 ∨ j = 1 := by omega
        rcases this with rfl | rfl <;> rfl
      · simp [intOf]; omega
    · obtain rfl : j = n := by omega
      go_wp2
      go_ret
      exact ⟨rfl, Q.refl _⟩
end Go.Proofs.YtgkodncknlankaaGreatDoor.VaR
/- The abstract walk: the document's Word, At, Links, Frames of an empty table, Fresh, Back; its fences over a buffer of zeros. -/
namespace Go.Proofs.YtgkodncknlankaaGreatDoor.RfC
open Go.RowKit Go.Proofs.YtgkodncknlankaaGreatDoor.Bv Go.Proofs.YtgkodncknlankaaGreatDoor.VaSpec Go.Proofs.YtgkodncknlankaaGreatDoor.Base Go.Proofs.YtgkodncknlankaaGreatDoor.MemL Go.Proofs.YtgkodncknlankaaGreatDoor.RegR Go.Proofs.YtgkodncknlankaaGreatDoor.Ax Go.Proofs.YtgkodncknlankaaGreatDoor.MemC Go.Proofs.YtgkodncknlankaaGreatDoor.PutC Go.Proofs.YtgkodncknlankaaGreatDoor.MemC3 Go.Proofs.YtgkodncknlankaaGreatDoor.TzC Go.Proofs.YtgkodncknlankaaGreatDoor.OkS Go.Proofs.YtgkodncknlankaaGreatDoor.SpA Go.Proofs.YtgkodncknlankaaGreatDoor.SpB Go.Proofs.YtgkodncknlankaaGreatDoor.SpC Go.Proofs.YtgkodncknlankaaGreatDoor.SpD Go.Proofs.YtgkodncknlankaaGreatDoor.IterC Go.Proofs.YtgkodncknlankaaGreatDoor.SpE Go.Proofs.YtgkodncknlankaaGreatDoor.SpF Go.Proofs.YtgkodncknlankaaGreatDoor.SpG Go.Proofs.YtgkodncknlankaaGreatDoor.SpH Go.Proofs.YtgkodncknlankaaGreatDoor.SpI Go.Proofs.YtgkodncknlankaaGreatDoor.SpJ Go.Proofs.YtgkodncknlankaaGreatDoor.SpK Go.Proofs.YtgkodncknlankaaGreatDoor.SpN Go.Proofs.YtgkodncknlankaaGreatDoor.RfP Go.Proofs.YtgkodncknlankaaGreatDoor.RfQ Go.Proofs.YtgkodncknlankaaGreatDoor.RfA Go.Proofs.YtgkodncknlankaaGreatDoor.RfB
open Go.Proofs.YtgkodncknlankaaGreatDoor.BitsC Go.Proofs.YtgkodncknlankaaGreatDoor.PteSpec
set_option linter.unusedVariables false
set_option linter.unusedSimpArgs false
set_option maxRecDepth 10000
set_option maxHeartbeats 800000
attribute [local irreducible] Go.Proofs.YtgkodncknlankaaGreatDoor.Ax.CallOk
theorem rfresh_ok (sz : Int) (m : List (Int × Int)) (b n f : Int) (hb : 0 ≤ b ∧ b ≤ 268435456) (hm : 0 ≤ n ∧ n ≤ 64) (hf : 0 ≤ f ∧ f < 2 ^ n.toNat) (h0 : f ≠ 0) (hs : Srt m) (hl : m.length ≤ 1000000) (hc : ∀ c ∈ m, 0 ≤ c.1 ∧ c.1 < 1099511627776) :
    Ok 78 [memA sz m, .ag [cu b, ci n, cu f]] (.tu [memA sz (TableC.wipeM m (b + tzI f)), .ag [cu b, ci n, cu (setI f (tzI f) 1 0)], iu (b + tzI f), ii 0]) := by
  have ht := tz_fit (U_fit hf.1 hf.2 (by omega)) hf.2 h0
  have h1 := rptake_ok b n f hb hm hf h0
  have h2 := rclear_ok sz m (b + tzI f) hs hl ⟨by omega, by omega⟩ hc
  refine callOk_of 28 Tryz.func78 rfl rfl rfl rfl ?_ GG.to
  intro W A hG
  repeat (first
    | (refine go_at rfl ?_; first
        | refine go_do (valid_mv (.inl rfl) rfl) rfl ?_
        | (refine nxt_s 1 rfl ?_; refine go_do (valid_load_p tb rfl rfl rfl rfl rfl (by first | kernel_rfl | rfl)) (by first | kernel_rfl | rfl) ?_)
        | refine go_do (valid_mv (.inr rfl) rfl) rfl ?_
        | refine go_do (valid_extract rfl rfl rfl rfl) rfl ?_
        | refine go_do (valid_cmp rfl rfl rfl rfl (by first | exact .eql1 (by omega) | exact .eql0 (by omega) | exact .neq1 (by omega) | exact .neq0 (by omega) | exact .lss1 (by omega) | exact .lss0 (by omega) | exact .leq1 (by omega) | exact .leq0 (by omega) | exact .gtr1 (by omega) | exact .gtr0 (by omega) | exact .geq1 (by omega) | exact .geq0 (by omega) | constructor)) rfl ?_
        | refine go_do (valid_ar rfl rfl rfl rfl (by constructor) (by first | exact wr_u64 (by omega) (by omega) | exact wr_i64 (by omega) (by omega) | rfl)) rfl ?_
        | refine go_do (valid_box rfl rfl rfl rfl rfl rfl) rfl ?_
        | refine go_do (valid_alloc rfl rfl rfl rfl rfl) rfl ?_
        | (refine nxt_s 1 rfl ?_; refine go_do (valid_store_p rfl rfl rfl rfl rfl rfl (by first | kernel_rfl | rfl) rfl) (by first | kernel_rfl | rfl) ?_)
        | refine go_do (valid_call rfl rfl rfl (h1) (by kernel_rfl)) rfl ?_
        | refine go_do (valid_call rfl rfl rfl (h2) (by kernel_rfl)) rfl ?_)
    | (refine hK _ ?_; clear hK K)
    | refine aw_text rfl ?_
    | refine aw_any (by kernel_rfl) (by kernel_rfl) rfl ?_
    | exact aw_ret (show resA _ _ _ = some _ by kernel_rfl)
    | refine aw_cond0 rfl rfl ?_
    | refine aw_skip ?_
    | refine aw_seq_k (fun K hK => ?_))
theorem rfresh_no (sz : Int) (m : List (Int × Int)) (b n : Int) (hm : 0 ≤ n ∧ n ≤ 64) :
    Ok 78 [memA sz m, .ag [cu b, ci n, cu 0]] (.tu [memA sz m, .ag [cu b, ci n, cu 0], iu 0, ii 8]) := by
  have h1 := rptake_no b n hm
  refine callOk_of 28 Tryz.func78 rfl rfl rfl rfl ?_ GG.to
  intro W A hG
  repeat (first
    | (refine go_at rfl ?_; first
        | refine go_do (valid_mv (.inl rfl) rfl) rfl ?_
        | (refine nxt_s 1 rfl ?_; refine go_do (valid_load_p tb rfl rfl rfl rfl rfl (by first | kernel_rfl | rfl)) (by first | kernel_rfl | rfl) ?_)
        | refine go_do (valid_mv (.inr rfl) rfl) rfl ?_
        | refine go_do (valid_extract rfl rfl rfl rfl) rfl ?_
        | refine go_do (valid_cmp rfl rfl rfl rfl (by first | exact .eql1 (by omega) | exact .eql0 (by omega) | exact .neq1 (by omega) | exact .neq0 (by omega) | exact .lss1 (by omega) | exact .lss0 (by omega) | exact .leq1 (by omega) | exact .leq0 (by omega) | exact .gtr1 (by omega) | exact .gtr0 (by omega) | exact .geq1 (by omega) | exact .geq0 (by omega) | constructor)) rfl ?_
        | refine go_do (valid_box rfl rfl rfl rfl rfl rfl) rfl ?_
        | refine go_do (valid_alloc rfl rfl rfl rfl rfl) rfl ?_
        | (refine nxt_s 1 rfl ?_; refine go_do (valid_store_p rfl rfl rfl rfl rfl rfl (by first | kernel_rfl | rfl) rfl) (by first | kernel_rfl | rfl) ?_)
        | refine go_do (valid_call rfl rfl rfl (h1) (by kernel_rfl)) rfl ?_)
    | (refine hK _ ?_; clear hK K)
    | refine aw_text rfl ?_
    | refine aw_any (by kernel_rfl) (by kernel_rfl) rfl ?_
    | exact aw_ret (show resA _ _ _ = some _ by kernel_rfl)
    | refine aw_cond1 rfl rfl ?_
    | refine aw_seq_k (fun K hK => ?_))
theorem rnames0_ok (f : Fe) : Ok 176 [.ag (Fe.ce f), .ag zE] (.m (ib false)) := by
  refine callOk_of 38 Tryz.func176 rfl rfl rfl rfl ?_ GG.to
  intro W A hG
  repeat (first
    | (refine go_at rfl ?_; first
        | (refine nxt_s 1 rfl ?_; refine go_do (valid_load_p tb rfl rfl rfl rfl rfl (by first | kernel_rfl | rfl)) (by first | kernel_rfl | rfl) ?_)
        | (refine nxt_s 1 rfl ?_; refine go_do (valid_fld_p tb rfl rfl rfl (by kernel_rfl)) rfl ?_)
        | refine go_do (valid_mv (.inr rfl) rfl) rfl ?_
        | refine go_do (valid_box rfl rfl rfl rfl rfl rfl) rfl ?_
        | refine go_do (valid_not rfl rfl rfl) rfl ?_)
    | (refine hK _ ?_; clear hK K)
    | refine aw_text rfl ?_
    | exact aw_ret (show resA _ _ _ = some _ by kernel_rfl)
    | refine aw_cond1 rfl rfl ?_
    | refine aw_seq_k (fun K hK => ?_))
theorem zsL_snoc (n : Nat) : zsL (n + 1) = zsL n ++ zS := by
  induction n with
  | zero => rfl
  | succ n ih =>
    have e : zsL (n + 1 + 1) = zS ++ zsL (n + 1) := rfl
    have e2 : zsL (n + 1) = zS ++ zsL n := rfl
    rw [e, ih, ← List.append_assoc, ← e2, ih]
def rdoH (n : Nat) (f : Fe) (i : Nat) (xs : List Value) : St := St.of [(2, .m (.c (.p 2 0))), (3, .m (.c (.p 3 0))), (4, .m (.c (.p 4 0))), (5, .m (.c (.o 1000))), (6, .m (ii i))] [(2, .live (.box [.s n 45 (zsL n)])), (3, .live (.box (Fe.ce f))), (4, .live (.box [.v (.slice none 0 0)])), (1000, .live (.row 203 45 i xs))]
def rdoL (n : Nat) (f : Fe) (i w : Nat) (xs : List Value) : St := St.of [(2, .m (.c (.p 2 0))), (3, .m (.c (.p 3 0))), (4, .m (.c (.p 4 0))), (5, .m (.c (.o 1000))), (6, .m (ii i)), (7, .m (.c (.p 7 0))), (8, .m (ii w))] [(2, .live (.box [.s n 45 (zsL n)])), (3, .live (.box (Fe.ce f))), (4, .live (.box [.v (.slice none 0 0)])), (7, .live (.box (zS.map .v))), (1000, .live (.row 203 45 i xs))]
theorem rdo0_ok (f : Fe) (n : Nat) (hn : n ≤ 16) : Ok 159 [.ag [.s n 45 (zsL n)], .ag (Fe.ce f)] (.m (.ag [.s n 45 (zsL n)])) := by
  have hm := rnames0_ok f
  refine callOk_of 41 Tryz.func159 rfl rfl rfl rfl ?_ GG.to
  intro W A hG
  repeat (first
    | (refine go_at rfl ?_; first
        | refine go_do (valid_mv (.inr rfl) rfl) rfl ?_
        | refine go_do (valid_box rfl rfl rfl rfl rfl rfl) rfl ?_
        | refine go_do (valid_alloc rfl rfl rfl rfl rfl) rfl ?_)
    | (refine hK _ ?_; clear hK K)
    | refine aw_text rfl ?_
    | refine aw_block ?_
    | refine aw_seq_k (fun K hK => ?_))
  refine aw_loopH (α := Nat × List Value) (fun q => q.1 ≤ n ∧ q.2 = zsL q.1) (fun q => rdoH n f q.1 q.2) (fun q => n - q.1) (0, []) ⟨Nat.zero_le _, rfl⟩ (Sub.trans (sub_nil 5 1000 203 45 rfl rfl) (sub_of _ _ ⟨rfl, rfl, rfl, rfl, rfl, trivial⟩ ⟨rfl, rfl, rfl, rfl, trivial⟩ rfl)) ?_
  rintro ⟨i, xs⟩ ⟨h1, h2⟩
  have g1 : i ≤ n := h1
  have g2 : xs = zsL i := h2
  clear h1 h2
  show Aw _ _ _ _ (rdoH n f i xs)
  unfold rdoH
  by_cases hlt : i < n
  · have hx : ((zsL n).drop (i * 45)).take 45 = zS := zsL_at n i hlt
    repeat (first
      | (refine go_at rfl ?_; first
          | refine go_do (valid_mv (.inl rfl) rfl) rfl ?_
          | (refine nxt_s 1 rfl ?_; refine go_do (valid_load_p tb rfl rfl rfl rfl rfl (by first | kernel_rfl | rfl)) (by first | kernel_rfl | rfl) ?_)
          | (refine nxt_s 1 rfl ?_; refine go_do (valid_fld_p tb rfl rfl rfl (by kernel_rfl)) rfl ?_)
          | refine go_do (valid_mv (.inr rfl) rfl) rfl ?_
          | refine go_do (valid_cmp rfl rfl rfl rfl (by first | exact .eql1 (by omega) | exact .eql0 (by omega) | exact .neq1 (by omega) | exact .neq0 (by omega) | exact .lss1 (by omega) | exact .lss0 (by omega) | exact .leq1 (by omega) | exact .leq0 (by omega) | exact .gtr1 (by omega) | exact .gtr0 (by omega) | exact .geq1 (by omega) | exact .geq0 (by omega) | constructor)) rfl ?_
          | refine go_do (valid_alloc rfl rfl rfl rfl rfl) rfl ?_
          | (refine nxt_s 1 rfl ?_; refine go_do (valid_store_p rfl rfl rfl rfl rfl rfl (by first | kernel_rfl | rfl) rfl) (by first | kernel_rfl | rfl) ?_)
          | refine go_do (valid_len_s rfl rfl rfl rfl) rfl ?_
          | (refine nxt_s 3 rfl ?_; refine go_do (valid_load_q tb rfl rfl rfl rfl (by first | kernel_rfl | rfl)) rfl ?_)
          | (refine nxt_s 4 rfl ?_; refine go_do (valid_idx_s rfl rfl rfl rfl rfl rfl (by omega) (by omega) _ (by assumption)) rfl ?_))
      | (refine hK _ ?_; clear hK K)
      | refine aw_text rfl ?_
      | refine aw_cond1 rfl rfl ?_
      | refine aw_block ?_
      | refine aw_skip ?_
      | refine aw_seq_k (fun K hK => ?_))
    refine aw_loopH (α := Nat) (fun w => w ≤ 4) (fun w => rdoL n f i w xs) (fun w => 4 - w) 0 (by omega) (sub_of _ _ ⟨rfl, rfl, rfl, rfl, rfl, rfl, rfl, trivial⟩ ⟨rfl, rfl, rfl, rfl, rfl, trivial⟩ rfl) ?_
    intro w hw
    unfold rdoL
    rcases (by omega : w = 0 ∨ w = 1 ∨ w = 2 ∨ w = 3 ∨ w = 4) with rfl | rfl | rfl | rfl | rfl
    · skip
      repeat (first
        | (refine go_at rfl ?_; first
            | refine go_do (valid_mv (.inl rfl) rfl) rfl ?_
            | (refine nxt_s 1 rfl ?_; refine go_do (valid_load_p tb rfl rfl rfl rfl rfl (by first | kernel_rfl | rfl)) (by first | kernel_rfl | rfl) ?_)
            | (refine nxt_s 1 rfl ?_; refine go_do (valid_fld_p tb rfl rfl rfl (by kernel_rfl)) rfl ?_)
            | refine go_do (valid_mv (.inr rfl) rfl) rfl ?_
            | refine go_do (valid_cmp rfl rfl rfl rfl (by first | exact .eql1 (by omega) | exact .eql0 (by omega) | exact .neq1 (by omega) | exact .neq0 (by omega) | exact .lss1 (by omega) | exact .lss0 (by omega) | exact .leq1 (by omega) | exact .leq0 (by omega) | exact .gtr1 (by omega) | exact .gtr0 (by omega) | exact .geq1 (by omega) | exact .geq0 (by omega) | constructor)) rfl ?_
            | refine go_do (valid_ar rfl rfl rfl rfl (by constructor) (by first | exact wr_u64 (by omega) (by omega) | exact wr_i64 (by omega) (by omega) | rfl)) rfl ?_
            | (refine nxt_s 1 rfl ?_; refine go_do (valid_idx_p rfl rfl rfl rfl rfl rfl (by omega) (by omega)) rfl ?_)
            | refine go_do (valid_call rfl rfl rfl (hm) (by kernel_rfl)) rfl ?_)
        | (refine hK _ ?_; clear hK K)
        | refine aw_text rfl ?_
        | refine aw_any (by kernel_rfl) (by kernel_rfl) rfl ?_
        | refine aw_cond1 rfl rfl ?_
        | refine aw_cond0 rfl rfl ?_
        | refine aw_block ?_
        | refine aw_skip ?_
        | refine aw_seq_k (fun K hK => ?_))
      exact ⟨1, by omega, by omega, sub_of _ _ ⟨rfl, rfl, rfl, rfl, rfl, rfl, rfl, trivial⟩ ⟨rfl, rfl, rfl, rfl, rfl, trivial⟩ rfl⟩
    · skip
      repeat (first
        | (refine go_at rfl ?_; first
            | refine go_do (valid_mv (.inl rfl) rfl) rfl ?_
            | (refine nxt_s 1 rfl ?_; refine go_do (valid_load_p tb rfl rfl rfl rfl rfl (by first | kernel_rfl | rfl)) (by first | kernel_rfl | rfl) ?_)
            | (refine nxt_s 1 rfl ?_; refine go_do (valid_fld_p tb rfl rfl rfl (by kernel_rfl)) rfl ?_)
            | refine go_do (valid_mv (.inr rfl) rfl) rfl ?_
            | refine go_do (valid_cmp rfl rfl rfl rfl (by first | exact .eql1 (by omega) | exact .eql0 (by omega) | exact .neq1 (by omega) | exact .neq0 (by omega) | exact .lss1 (by omega) | exact .lss0 (by omega) | exact .leq1 (by omega) | exact .leq0 (by omega) | exact .gtr1 (by omega) | exact .gtr0 (by omega) | exact .geq1 (by omega) | exact .geq0 (by omega) | constructor)) rfl ?_
            | refine go_do (valid_ar rfl rfl rfl rfl (by constructor) (by first | exact wr_u64 (by omega) (by omega) | exact wr_i64 (by omega) (by omega) | rfl)) rfl ?_
            | (refine nxt_s 1 rfl ?_; refine go_do (valid_idx_p rfl rfl rfl rfl rfl rfl (by omega) (by omega)) rfl ?_)
            | refine go_do (valid_call rfl rfl rfl (hm) (by kernel_rfl)) rfl ?_)
        | (refine hK _ ?_; clear hK K)
        | refine aw_text rfl ?_
        | refine aw_any (by kernel_rfl) (by kernel_rfl) rfl ?_
        | refine aw_cond1 rfl rfl ?_
        | refine aw_cond0 rfl rfl ?_
        | refine aw_block ?_
        | refine aw_skip ?_
        | refine aw_seq_k (fun K hK => ?_))
      exact ⟨2, by omega, by omega, sub_of _ _ ⟨rfl, rfl, rfl, rfl, rfl, rfl, rfl, trivial⟩ ⟨rfl, rfl, rfl, rfl, rfl, trivial⟩ rfl⟩
    · skip
      repeat (first
        | (refine go_at rfl ?_; first
            | refine go_do (valid_mv (.inl rfl) rfl) rfl ?_
            | (refine nxt_s 1 rfl ?_; refine go_do (valid_load_p tb rfl rfl rfl rfl rfl (by first | kernel_rfl | rfl)) (by first | kernel_rfl | rfl) ?_)
            | (refine nxt_s 1 rfl ?_; refine go_do (valid_fld_p tb rfl rfl rfl (by kernel_rfl)) rfl ?_)
            | refine go_do (valid_mv (.inr rfl) rfl) rfl ?_
            | refine go_do (valid_cmp rfl rfl rfl rfl (by first | exact .eql1 (by omega) | exact .eql0 (by omega) | exact .neq1 (by omega) | exact .neq0 (by omega) | exact .lss1 (by omega) | exact .lss0 (by omega) | exact .leq1 (by omega) | exact .leq0 (by omega) | exact .gtr1 (by omega) | exact .gtr0 (by omega) | exact .geq1 (by omega) | exact .geq0 (by omega) | constructor)) rfl ?_
            | refine go_do (valid_ar rfl rfl rfl rfl (by constructor) (by first | exact wr_u64 (by omega) (by omega) | exact wr_i64 (by omega) (by omega) | rfl)) rfl ?_
            | (refine nxt_s 1 rfl ?_; refine go_do (valid_idx_p rfl rfl rfl rfl rfl rfl (by omega) (by omega)) rfl ?_)
            | refine go_do (valid_call rfl rfl rfl (hm) (by kernel_rfl)) rfl ?_)
        | (refine hK _ ?_; clear hK K)
        | refine aw_text rfl ?_
        | refine aw_any (by kernel_rfl) (by kernel_rfl) rfl ?_
        | refine aw_cond1 rfl rfl ?_
        | refine aw_cond0 rfl rfl ?_
        | refine aw_block ?_
        | refine aw_skip ?_
        | refine aw_seq_k (fun K hK => ?_))
      exact ⟨3, by omega, by omega, sub_of _ _ ⟨rfl, rfl, rfl, rfl, rfl, rfl, rfl, trivial⟩ ⟨rfl, rfl, rfl, rfl, rfl, trivial⟩ rfl⟩
    · skip
      repeat (first
        | (refine go_at rfl ?_; first
            | refine go_do (valid_mv (.inl rfl) rfl) rfl ?_
            | (refine nxt_s 1 rfl ?_; refine go_do (valid_load_p tb rfl rfl rfl rfl rfl (by first | kernel_rfl | rfl)) (by first | kernel_rfl | rfl) ?_)
            | (refine nxt_s 1 rfl ?_; refine go_do (valid_fld_p tb rfl rfl rfl (by kernel_rfl)) rfl ?_)
            | refine go_do (valid_mv (.inr rfl) rfl) rfl ?_
            | refine go_do (valid_cmp rfl rfl rfl rfl (by first | exact .eql1 (by omega) | exact .eql0 (by omega) | exact .neq1 (by omega) | exact .neq0 (by omega) | exact .lss1 (by omega) | exact .lss0 (by omega) | exact .leq1 (by omega) | exact .leq0 (by omega) | exact .gtr1 (by omega) | exact .gtr0 (by omega) | exact .geq1 (by omega) | exact .geq0 (by omega) | constructor)) rfl ?_
            | refine go_do (valid_ar rfl rfl rfl rfl (by constructor) (by first | exact wr_u64 (by omega) (by omega) | exact wr_i64 (by omega) (by omega) | rfl)) rfl ?_
            | (refine nxt_s 1 rfl ?_; refine go_do (valid_idx_p rfl rfl rfl rfl rfl rfl (by omega) (by omega)) rfl ?_)
            | refine go_do (valid_call rfl rfl rfl (hm) (by kernel_rfl)) rfl ?_)
        | (refine hK _ ?_; clear hK K)
        | refine aw_text rfl ?_
        | refine aw_any (by kernel_rfl) (by kernel_rfl) rfl ?_
        | refine aw_cond1 rfl rfl ?_
        | refine aw_cond0 rfl rfl ?_
        | refine aw_block ?_
        | refine aw_skip ?_
        | refine aw_seq_k (fun K hK => ?_))
      exact ⟨4, by omega, by omega, sub_of _ _ ⟨rfl, rfl, rfl, rfl, rfl, rfl, rfl, trivial⟩ ⟨rfl, rfl, rfl, rfl, rfl, trivial⟩ rfl⟩
    · skip
      repeat (first
        | (refine go_at rfl ?_; first
            | refine go_do (valid_mv (.inl rfl) rfl) rfl ?_
            | (refine nxt_s 1 rfl ?_; refine go_do (valid_load_p tb rfl rfl rfl rfl rfl (by first | kernel_rfl | rfl)) (by first | kernel_rfl | rfl) ?_)
            | refine go_do (valid_mv (.inr rfl) rfl) rfl ?_
            | refine go_do (valid_cmp rfl rfl rfl rfl (by first | exact .eql1 (by omega) | exact .eql0 (by omega) | exact .neq1 (by omega) | exact .neq0 (by omega) | exact .lss1 (by omega) | exact .lss0 (by omega) | exact .leq1 (by omega) | exact .leq0 (by omega) | exact .gtr1 (by omega) | exact .gtr0 (by omega) | exact .geq1 (by omega) | exact .geq0 (by omega) | constructor)) rfl ?_
            | refine go_do (valid_ar rfl rfl rfl rfl (by constructor) (by first | exact wr_u64 (by omega) (by omega) | exact wr_i64 (by omega) (by omega) | rfl)) rfl ?_
            | refine go_do (valid_bslice rfl rfl rfl rfl rfl rfl rfl rfl rfl rfl rfl) rfl ?_
            | refine go_do (valid_app rfl rfl rfl rfl rfl rfl rfl rfl rfl rfl rfl rfl rfl (by omega)) rfl ?_)
        | (refine hK _ ?_; clear hK K)
        | (rename_i K1 hK1; refine hK1 _ ?_; clear hK hK1; clear K)
        | refine aw_text rfl ?_
        | refine aw_cond0 rfl rfl ?_
        | refine aw_exit ?_
        | refine aw_seq_k (fun K hK => ?_))
      exact ⟨(i + 1, xs ++ zS), ⟨by show i + 1 ≤ n; omega, by show xs ++ zS = zsL (i + 1); rw [zsL_snoc, g2]⟩, by show n - (i + 1) < n - i; omega, Sub.trans (sub_of [(2, .m (.c (.p 2 0))), (3, .m (.c (.p 3 0))), (4, .m (.c (.p 4 0))), (5, .m (.c (.o 38))), (6, .m (ii ((i + 1 : Nat) : Int)))] [(2, .live (.box [.s n 45 (zsL n)])), (3, .live (.box (Fe.ce f))), (4, .live (.box [.v (.slice none 0 0)])), (38, .live (.row 203 45 (i + 1) (xs ++ zS)))] ⟨rfl, rfl, rfl, rfl, rfl, trivial⟩ ⟨rfl, rfl, rfl, rfl, trivial⟩ rfl) (Sub.trans (sub_mv (b := 38) (b' := 1000) rfl rfl) (sub_of _ _ ⟨rfl, rfl, rfl, rfl, rfl, trivial⟩ ⟨rfl, rfl, rfl, rfl, trivial⟩ rfl))⟩
  · obtain rfl : i = n := by omega
    subst g2
    repeat (first
      | (refine go_at rfl ?_; first
          | refine go_do (valid_mv (.inl rfl) rfl) rfl ?_
          | (refine nxt_s 1 rfl ?_; refine go_do (valid_load_p tb rfl rfl rfl rfl rfl (by first | kernel_rfl | rfl)) (by first | kernel_rfl | rfl) ?_)
          | (refine nxt_s 1 rfl ?_; refine go_do (valid_fld_p tb rfl rfl rfl (by kernel_rfl)) rfl ?_)
          | refine go_do (valid_cmp rfl rfl rfl rfl (by first | exact .eql1 (by omega) | exact .eql0 (by omega) | exact .neq1 (by omega) | exact .neq0 (by omega) | exact .lss1 (by omega) | exact .lss0 (by omega) | exact .leq1 (by omega) | exact .leq0 (by omega) | exact .gtr1 (by omega) | exact .gtr0 (by omega) | exact .geq1 (by omega) | exact .geq0 (by omega) | constructor)) rfl ?_
          | (refine nxt_s 1 rfl ?_; refine go_do (valid_store_p rfl rfl rfl rfl rfl rfl (by first | kernel_rfl | rfl) rfl) (by first | kernel_rfl | rfl) ?_)
          | refine go_do (valid_len_s rfl rfl rfl rfl) rfl ?_
          | refine go_do (valid_build rfl rfl rfl rfl) rfl ?_)
      | (refine hK _ ?_; clear hK K)
      | (rename_i K1 hK1; refine hK1 _ ?_; clear hK hK1; clear K)
      | refine aw_text rfl ?_
      | exact aw_ret (show resA _ _ _ = some _ by kernel_rfl)
      | refine aw_cond0 rfl rfl ?_
      | refine aw_exit ?_
      | refine aw_seq_k (fun K hK => ?_))
theorem rall0_ok (l : List Fe) (hl : l.length ≤ 1000000) (n : Nat) (hn : n ≤ 16) : Ok 131 [.ag [.s n 45 (zsL n)], .c (.s l.length 4 (flF l))] (.m (.ag [.s n 45 (zsL n)])) := by
  refine callOk_of 19 Tryz.func131 rfl rfl rfl rfl ?_ GG.to
  intro W A hG
  repeat (first
    | (refine go_at rfl ?_; first
        | refine go_do (valid_mv (.inr rfl) rfl) rfl ?_
        | refine go_do (valid_box rfl rfl rfl rfl rfl rfl) rfl ?_
        | refine go_do (valid_alloc rfl rfl rfl rfl rfl) rfl ?_)
    | (refine hK _ ?_; clear hK K)
    | refine aw_text rfl ?_
    | refine aw_block ?_
    | refine aw_seq_k (fun K hK => ?_))
  refine aw_loopH (α := Nat) (fun k => k ≤ l.length) (fun k => St.of [(1, .m (.c (.s l.length 4 (flF l)))), (2, .m (.c (.p 2 0))), (4, .m (.c (.p 4 0))), (5, .m (ii k))] [(2, .live (.box [.s n 45 (zsL n)])), (4, .live (.box [.v (.slice none 0 0)]))]) (fun k => l.length - k) 0 (by omega) (sub_of _ _ ⟨rfl, rfl, rfl, rfl, trivial⟩ ⟨rfl, rfl, trivial⟩ rfl) ?_
  intro k hk
  by_cases hlt : k < l.length
  · obtain ⟨f, hf⟩ : ∃ f, l[k]? = some f := ⟨_, List.getElem?_eq_getElem hlt⟩
    have hx := flF_at hf
    have hd := rdo0_ok f n hn
    repeat (first
      | (refine go_at rfl ?_; first
          | refine go_do (valid_mv (.inl rfl) rfl) rfl ?_
          | (refine nxt_s 1 rfl ?_; refine go_do (valid_load_p tb rfl rfl rfl rfl rfl (by first | kernel_rfl | rfl)) (by first | kernel_rfl | rfl) ?_)
          | refine go_do (valid_mv (.inr rfl) rfl) rfl ?_
          | refine go_do (valid_cmp rfl rfl rfl rfl (by first | exact .eql1 (by omega) | exact .eql0 (by omega) | exact .neq1 (by omega) | exact .neq0 (by omega) | exact .lss1 (by omega) | exact .lss0 (by omega) | exact .leq1 (by omega) | exact .leq0 (by omega) | exact .gtr1 (by omega) | exact .gtr0 (by omega) | exact .geq1 (by omega) | exact .geq0 (by omega) | constructor)) rfl ?_
          | refine go_do (valid_ar rfl rfl rfl rfl (by constructor) (by first | exact wr_u64 (by omega) (by omega) | exact wr_i64 (by omega) (by omega) | rfl)) rfl ?_
          | (refine nxt_s 1 rfl ?_; refine go_do (valid_store_p rfl rfl rfl rfl rfl rfl (by first | kernel_rfl | rfl) rfl) (by first | kernel_rfl | rfl) ?_)
          | refine go_do (valid_len_s rfl rfl rfl rfl) rfl ?_
          | (refine nxt_s 3 rfl ?_; refine go_do (valid_load_q tb rfl rfl rfl rfl (by first | kernel_rfl | rfl)) rfl ?_)
          | (refine nxt_s 4 rfl ?_; refine go_do (valid_idx_s rfl rfl rfl rfl rfl rfl (by omega) (by omega) _ (by assumption)) rfl ?_)
          | refine go_do (valid_call rfl rfl rfl (hd) (by kernel_rfl)) rfl ?_)
      | (refine hK _ ?_; clear hK K)
      | refine aw_text rfl ?_
      | refine aw_any (by kernel_rfl) (by kernel_rfl) rfl ?_
      | refine aw_cond1 rfl rfl ?_
      | refine aw_block ?_
      | refine aw_skip ?_
      | refine aw_seq_k (fun K hK => ?_))
    exact ⟨k + 1, by omega, by omega, sub_of _ _ ⟨rfl, rfl, rfl, rfl, trivial⟩ ⟨rfl, rfl, trivial⟩ rfl⟩
  · skip
    repeat (first
      | (refine go_at rfl ?_; first
          | refine go_do (valid_mv (.inl rfl) rfl) rfl ?_
          | (refine nxt_s 1 rfl ?_; refine go_do (valid_load_p tb rfl rfl rfl rfl rfl (by first | kernel_rfl | rfl)) (by first | kernel_rfl | rfl) ?_)
          | refine go_do (valid_cmp rfl rfl rfl rfl (by first | exact .eql1 (by omega) | exact .eql0 (by omega) | exact .neq1 (by omega) | exact .neq0 (by omega) | exact .lss1 (by omega) | exact .lss0 (by omega) | exact .leq1 (by omega) | exact .leq0 (by omega) | exact .gtr1 (by omega) | exact .gtr0 (by omega) | exact .geq1 (by omega) | exact .geq0 (by omega) | constructor)) rfl ?_
          | (refine nxt_s 1 rfl ?_; refine go_do (valid_store_p rfl rfl rfl rfl rfl rfl (by first | kernel_rfl | rfl) rfl) (by first | kernel_rfl | rfl) ?_)
          | refine go_do (valid_len_s rfl rfl rfl rfl) rfl ?_)
      | (refine hK _ ?_; clear hK K)
      | (rename_i K1 hK1; refine hK1 _ ?_; clear hK hK1; clear K)
      | refine aw_text rfl ?_
      | exact aw_ret (show resA _ _ _ = some _ by kernel_rfl)
      | refine aw_cond0 rfl rfl ?_
      | refine aw_exit ?_
      | refine aw_seq_k (fun K hK => ?_))
end Go.Proofs.YtgkodncknlankaaGreatDoor.RfC
/- The abstract walk: the document's kernels. -/
namespace Go.Proofs.YtgkodncknlankaaGreatDoor.RfD
open Go.RowKit Go.Proofs.YtgkodncknlankaaGreatDoor.Bv Go.Proofs.YtgkodncknlankaaGreatDoor.VaSpec Go.Proofs.YtgkodncknlankaaGreatDoor.Base Go.Proofs.YtgkodncknlankaaGreatDoor.MemL Go.Proofs.YtgkodncknlankaaGreatDoor.RegR Go.Proofs.YtgkodncknlankaaGreatDoor.Ax Go.Proofs.YtgkodncknlankaaGreatDoor.MemC Go.Proofs.YtgkodncknlankaaGreatDoor.PutC Go.Proofs.YtgkodncknlankaaGreatDoor.MemC3 Go.Proofs.YtgkodncknlankaaGreatDoor.TzC Go.Proofs.YtgkodncknlankaaGreatDoor.OkS Go.Proofs.YtgkodncknlankaaGreatDoor.SpA Go.Proofs.YtgkodncknlankaaGreatDoor.SpB Go.Proofs.YtgkodncknlankaaGreatDoor.SpC Go.Proofs.YtgkodncknlankaaGreatDoor.SpD Go.Proofs.YtgkodncknlankaaGreatDoor.IterC Go.Proofs.YtgkodncknlankaaGreatDoor.SpE Go.Proofs.YtgkodncknlankaaGreatDoor.SpF Go.Proofs.YtgkodncknlankaaGreatDoor.SpG Go.Proofs.YtgkodncknlankaaGreatDoor.SpH Go.Proofs.YtgkodncknlankaaGreatDoor.SpI Go.Proofs.YtgkodncknlankaaGreatDoor.SpJ Go.Proofs.YtgkodncknlankaaGreatDoor.SpK Go.Proofs.YtgkodncknlankaaGreatDoor.SpN Go.Proofs.YtgkodncknlankaaGreatDoor.RfP Go.Proofs.YtgkodncknlankaaGreatDoor.RfQ Go.Proofs.YtgkodncknlankaaGreatDoor.RfA Go.Proofs.YtgkodncknlankaaGreatDoor.RfB Go.Proofs.YtgkodncknlankaaGreatDoor.RfC Go.Proofs.YtgkodncknlankaaGreatDoor.SpO
open Go.Proofs.YtgkodncknlankaaGreatDoor.BitsC Go.Proofs.YtgkodncknlankaaGreatDoor.PteSpec
set_option linter.unusedVariables false
set_option linter.unusedSimpArgs false
set_option maxRecDepth 10000
set_option maxHeartbeats 800000
attribute [local irreducible] Go.Proofs.YtgkodncknlankaaGreatDoor.Ax.CallOk
theorem rfence_ok (k : Kr) (ht : k.ts = zsL k.tn) (hn : k.tn ≤ 16) (l : List Fe) (hl : l.length ≤ 1000000) (hk : k.fs.length ≤ 1000000) : Ok 80 [.ag k.ce, .c (.s l.length 4 (flF l))] (.m (.ag (fenceK k l).ce)) := by
  rw [ce_z k ht, show (fenceK k l).ce = k.raw k.tn (zsL k.tn) k.ss.length (flS k.ss) (k.fs.length + l.length) (flF k.fs ++ flF l) from by rw [← ht]; simp [fenceK, Kr.ce, Kr.raw, flF]]
  have ha := rall0_ok l hl k.tn hn
  refine callOk_of 20 Tryz.func80 rfl rfl rfl rfl ?_ GG.to
  intro W A hG
  repeat (first
    | (refine go_at rfl ?_; first
        | refine go_do (valid_mv (.inl rfl) rfl) rfl ?_
        | (refine nxt_s 1 rfl ?_; refine go_do (valid_load_p tb rfl rfl rfl rfl rfl (by first | kernel_rfl | rfl)) (by first | kernel_rfl | rfl) ?_)
        | (refine nxt_s 1 rfl ?_; refine go_do (valid_fld_p tb rfl rfl rfl (by kernel_rfl)) rfl ?_)
        | refine go_do (valid_box rfl rfl rfl rfl rfl rfl) rfl ?_
        | refine go_do (valid_alloc rfl rfl rfl rfl rfl) rfl ?_
        | (refine nxt_s 1 rfl ?_; refine go_do (valid_store_p rfl rfl rfl rfl rfl rfl (by first | kernel_rfl | rfl) rfl) (by first | kernel_rfl | rfl) ?_)
        | refine go_do (valid_bslice0 rfl rfl rfl rfl rfl rfl rfl) rfl ?_
        | refine go_do (valid_call rfl rfl rfl (ha) (by kernel_rfl)) rfl ?_
        | refine go_do (valid_app_e rfl rfl rfl rfl rfl rfl rfl rfl rfl rfl rfl rfl (flF_one k.fs) (by omega)) rfl ?_
        | refine go_do (valid_app rfl rfl rfl rfl rfl rfl rfl rfl rfl rfl rfl rfl (flF_one l) (by omega)) rfl ?_)
    | (refine hK _ ?_; clear hK K)
    | refine aw_text rfl ?_
    | exact aw_ret (show resA _ _ _ = some _ by kernel_rfl)
    | refine aw_seq_k (fun K hK => ?_))
theorem rnew_ok (a b c : Int) (n : Nat) (h : confB a b c n = true) : Ok 28 [confA a b c n] (.m (.ag (newK a b c n).ce)) := by
  obtain ⟨ha, hb, hc, hn⟩ := confB_iff.1 h
  have l1 := allI_lt (n := b) (by omega) (by omega)
  have l2 := allI_ne (n := b) (by omega) (by omega)
  have h2 := rpnew_ok a b (by omega)
  have h3 := ranew_ok c (by omega)
  have h5 := rptake_ok a b (allI b) (by omega) (by omega) l1 l2
  obtain ⟨i, z, hi, hz, hs, hby⟩ := TlbNewC.infoS
  obtain ⟨z', hz', hzc⟩ := zset
  obtain rfl : z' = z := by rw [hi] at hz'; exact Option.some.inj (hz'.symm.trans hz)
  have hmd := made_zs n z' hzc
  have key : Ok 28 [confA a b c n] (.m (.ag [ci a, ci b, ci c, ci n, cu ((a + b) * 4096), .v (.slice none 0 0), .s n 45 (zsL n), cu 0, cu 0, cu 0, ci 0, cb false, cb false, ci (-1), cu a, ci b, cu (setI (allI b) (tzI (allI b)) 1 0), ci c, cu (allI c), cu 0, .v (.slice none 0 0), ci (-1), cu (a + tzI (allI b)), .v (.slice none 0 0)])) := by
    rw [show (a + b) * 4096 = 4096 * (a + b) by omega]
    refine callOk_of 49 Tryz.func28 rfl rfl rfl rfl ?_ GG.to
    intro W A hG
    repeat (first
      | (refine go_at rfl ?_; first
          | refine go_do (valid_mv (.inl rfl) rfl) rfl ?_
          | (refine nxt_s 1 rfl ?_; refine go_do (valid_load_p tb rfl rfl rfl rfl rfl (by first | kernel_rfl | rfl)) (by first | kernel_rfl | rfl) ?_)
          | (refine nxt_s 1 rfl ?_; refine go_do (valid_fld_p tb rfl rfl rfl (by kernel_rfl)) rfl ?_)
          | refine go_do (valid_mv (.inr rfl) rfl) rfl ?_
          | refine go_do (valid_extract rfl rfl rfl rfl) rfl ?_
          | refine go_do (valid_ar rfl rfl rfl rfl (by constructor) (by first | exact wr_u64 (by omega) (by omega) | exact wr_i64 (by omega) (by omega) | rfl)) rfl ?_
          | refine go_do (valid_cv rfl rfl rfl rfl rfl (by first | exact wr_u64 (by omega) (by omega) | exact wr_i64 (by omega) (by omega) | rfl)) rfl ?_
          | refine go_do (valid_box rfl rfl rfl rfl rfl rfl) rfl ?_
          | refine go_do (valid_alloc rfl rfl rfl rfl rfl) rfl ?_
          | (refine nxt_s 1 rfl ?_; refine go_do (valid_store_p rfl rfl rfl rfl rfl rfl (by first | kernel_rfl | rfl) rfl) (by first | kernel_rfl | rfl) ?_)
          | refine go_do (valid_build rfl rfl rfl rfl) rfl ?_
          | refine go_do (valid_call rfl rfl rfl (h2) (by kernel_rfl)) rfl ?_
          | refine go_do (valid_call rfl rfl rfl (h3) (by kernel_rfl)) rfl ?_
          | refine go_do (valid_call rfl rfl rfl (h5) (by kernel_rfl)) rfl ?_
          | refine go_do (valid_make rfl rfl rfl rfl rfl rfl rfl hi hz hs (by rw [hby]; omega) (by unfold maxLen; omega) hmd) rfl ?_)
      | (refine hK _ ?_; clear hK K)
      | refine aw_text rfl ?_
      | exact aw_ret (show resA _ _ _ = some _ by kernel_rfl)
      | refine aw_seq_k (fun K hK => ?_))
  refine callOk_lt key rfl (m_lt ?_)
  exact ⟨ltC.rf _, ltC.rf _, ltC.rf _, ltC.rf _, ltC.rf _, ltC.nil 2, ltC.rf _, ltC.rf _, ltC.rf _, ltC.rf _, ltC.rf _, ltC.rf _, ltC.rf _, ltC.rf _, ltC.rf _, ltC.rf _, ltC.rf _, ltC.rf _, ltC.rf _, ltC.rf _, ltC.nil 3, ltC.rf _, ltC.rf _, ltC.nil 4, trivial⟩
end Go.Proofs.YtgkodncknlankaaGreatDoor.RfD
/- The abstract walk: the document's Create, Destroy; its deeds. -/
namespace Go.Proofs.YtgkodncknlankaaGreatDoor.RfE
open Go.RowKit Go.Proofs.YtgkodncknlankaaGreatDoor.Bv Go.Proofs.YtgkodncknlankaaGreatDoor.VaSpec Go.Proofs.YtgkodncknlankaaGreatDoor.Base Go.Proofs.YtgkodncknlankaaGreatDoor.MemL Go.Proofs.YtgkodncknlankaaGreatDoor.RegR Go.Proofs.YtgkodncknlankaaGreatDoor.Ax Go.Proofs.YtgkodncknlankaaGreatDoor.MemC Go.Proofs.YtgkodncknlankaaGreatDoor.PutC Go.Proofs.YtgkodncknlankaaGreatDoor.MemC3 Go.Proofs.YtgkodncknlankaaGreatDoor.TzC Go.Proofs.YtgkodncknlankaaGreatDoor.OkS Go.Proofs.YtgkodncknlankaaGreatDoor.SpA Go.Proofs.YtgkodncknlankaaGreatDoor.SpB Go.Proofs.YtgkodncknlankaaGreatDoor.SpC Go.Proofs.YtgkodncknlankaaGreatDoor.SpD Go.Proofs.YtgkodncknlankaaGreatDoor.IterC Go.Proofs.YtgkodncknlankaaGreatDoor.SpE Go.Proofs.YtgkodncknlankaaGreatDoor.SpF Go.Proofs.YtgkodncknlankaaGreatDoor.SpG Go.Proofs.YtgkodncknlankaaGreatDoor.SpH Go.Proofs.YtgkodncknlankaaGreatDoor.SpI Go.Proofs.YtgkodncknlankaaGreatDoor.SpJ Go.Proofs.YtgkodncknlankaaGreatDoor.SpK Go.Proofs.YtgkodncknlankaaGreatDoor.SpN Go.Proofs.YtgkodncknlankaaGreatDoor.RfP Go.Proofs.YtgkodncknlankaaGreatDoor.RfQ Go.Proofs.YtgkodncknlankaaGreatDoor.RfA Go.Proofs.YtgkodncknlankaaGreatDoor.RfB Go.Proofs.YtgkodncknlankaaGreatDoor.RfC Go.Proofs.YtgkodncknlankaaGreatDoor.SpO Go.Proofs.YtgkodncknlankaaGreatDoor.RfD
open Go.Proofs.YtgkodncknlankaaGreatDoor.BitsC Go.Proofs.YtgkodncknlankaaGreatDoor.PteSpec
set_option linter.unusedVariables false
set_option linter.unusedSimpArgs false
set_option maxRecDepth 10000
set_option maxHeartbeats 800000
attribute [local irreducible] Go.Proofs.YtgkodncknlankaaGreatDoor.Ax.CallOk
/-! ### plain -/
theorem putE_gP (n : Int) (h : 0 ≤ n ∧ n < 17592186044416) : PteC.putE (gP n) = 33 + 1024 * n := by
  have hm : mayP (gP n) = true := by
    unfold mayP gP
    simp; omega
  unfold PteC.putE
  rw [if_pos hm]
  show low8 (gP n) + 0 * 256 + n * 1024 + 0 * 18014398509481984 = _
  rw [show low8 (gP n) = 33 from rfl]
  omega
theorem newM_is {n : Nat} {k : Kr} (h : Inv n k) (hp : k.pf ≠ 0) : newM k = putM (TableC.wipeM k.m (k.pb + tzI k.pf)) (512 * (k.pb + tzI k.pf) + 511) (33 + 1024 * k.sh) := by
  have t1 := tz_fit h.upf h.pf.2 hp
  have h1 := h.cd
  have h2 := h.cp
  have h3 := h.pb
  have h4 := h.pm
  have h8 := h.sh
  have hP : (gP k.sh).U := ⟨by show (0 : Int) ≤ 0 ∧ (0 : Int) < _; omega, by show 0 ≤ k.sh ∧ k.sh < _; omega, by show (0 : Int) ≤ 0 ∧ (0 : Int) < _; omega⟩
  unfold newM
  rw [kA_idx, with_is hP (by omega) (by omega) (by rw [h.sz]; omega), putE_gP _ (by omega), show (k.pb + tzI k.pf) * 512 + 511 = 512 * (k.pb + tzI k.pf) + 511 by omega]
theorem cells_bd {n : Nat} {k : Kr} (h : Inv n k) : ∀ c ∈ k.m, 0 ≤ c.1 ∧ c.1 < 1099511627776 := fun c hc => by
  obtain ⟨a, b, _, _⟩ := h.mc c hc
  have h1 := h.cd
  have h2 := h.cp
  constructor <;> omega
/-! ### Create -/
theorem rcreate_plain {n : Nat} {k : Kr} (h : Inv n k) (hn : n ≤ 100000) (h32 : k.ss.length < 32) (h0 : k.af ≠ 0) (hp0 : k.pf ≠ 0) (hown : bitB k.ao (tzI k.af) = false) :
    Ok 30 [.ag k.ce] (.tu [.ag (createK k).ce, ii k.ss.length, ii 0]) := by
  have h1 := h.cd
  have h2 := h.cp
  have h3 := h.pb
  have h4 := h.pm
  have h5 := h.ml
  have h6 := h.ca
  have h7 := h.am
  have h8 := h.sh
  have t1 := tz_fit h.upf h.pf.2 hp0
  have t2 := tz_fit h.uaf h.af.2 h0
  have hw := wipe_len k.m (k.pb + tzI k.pf)
  have ht := ratake_ok k.am k.af k.ao (by omega) (by rw [h.am]; exact h.af) h.uao h0
  rw [hown] at ht
  have hf := rfresh_ok k.sz k.m k.pb k.pm k.pf (by omega) (by omega) (by rw [h.pm]; exact h.pf) hp0 h.m (by omega) (cells_bd h)
  have hs := rset03_ok k.sz (TableC.wipeM k.m (k.pb + tzI k.pf)) (512 * (k.pb + tzI k.pf) + 511) (33 + 1024 * k.sh) (wipe_srt _ h.m) (by omega)
  rw [← newM_is h hp0] at hs
  rw [createK_ce]
  refine callOk_of 80 Tryz.func30 rfl rfl rfl rfl ?_ GG.to
  intro W A hG
  repeat (first
    | (refine go_at rfl ?_; first
        | refine go_do (valid_mv (.inl rfl) rfl) rfl ?_
        | (refine nxt_s 1 rfl ?_; refine go_do (valid_load_p tb rfl rfl rfl rfl rfl (by first | kernel_rfl | rfl)) (by first | kernel_rfl | rfl) ?_)
        | (refine nxt_s 1 rfl ?_; refine go_do (valid_fld_p tb rfl rfl rfl (by kernel_rfl)) rfl ?_)
        | refine go_do (valid_mv (.inr rfl) rfl) rfl ?_
        | refine go_do (valid_extract rfl rfl rfl rfl) rfl ?_
        | refine go_do (valid_cmp rfl rfl rfl rfl (by first | exact .eql1 (by omega) | exact .eql0 (by omega) | exact .neq1 (by omega) | exact .neq0 (by omega) | exact .lss1 (by omega) | exact .lss0 (by omega) | exact .leq1 (by omega) | exact .leq0 (by omega) | exact .gtr1 (by omega) | exact .gtr0 (by omega) | exact .geq1 (by omega) | exact .geq0 (by omega) | constructor)) rfl ?_
        | refine go_do (valid_ar rfl rfl rfl rfl (by constructor) (by first | exact wr_u64 (by omega) (by omega) | exact wr_i64 (by omega) (by omega) | rfl)) rfl ?_
        | refine go_do (valid_box rfl rfl rfl rfl rfl rfl) rfl ?_
        | refine go_do (valid_alloc rfl rfl rfl rfl rfl) rfl ?_
        | (refine nxt_s 1 rfl ?_; refine go_do (valid_store_p rfl rfl rfl rfl rfl rfl (by first | kernel_rfl | rfl) rfl) (by first | kernel_rfl | rfl) ?_)
        | refine go_do (valid_len_s rfl rfl rfl rfl) rfl ?_
        | refine go_do (valid_build rfl rfl rfl rfl) rfl ?_
        | refine go_do (valid_bslice rfl rfl rfl rfl rfl rfl rfl rfl rfl rfl rfl) rfl ?_
        | refine go_do (valid_bslice0 rfl rfl rfl rfl rfl rfl rfl) rfl ?_
        | refine go_do (valid_call rfl rfl rfl (ht) (by kernel_rfl)) rfl ?_
        | refine go_do (valid_call rfl rfl rfl (hf) (by kernel_rfl)) rfl ?_
        | refine go_do (valid_call rfl rfl rfl (hs) (by kernel_rfl)) rfl ?_
        | refine go_do (valid_app_e rfl rfl rfl rfl rfl rfl rfl rfl rfl rfl rfl rfl (SpM.flS_one k.ss) (by omega)) rfl ?_
        | refine go_do (valid_app rfl rfl rfl rfl rfl rfl rfl rfl rfl rfl rfl rfl rfl (by omega)) rfl ?_)
    | (refine hK _ ?_; clear hK K)
    | refine aw_text rfl ?_
    | exact aw_ret (show resA _ _ _ = some _ by kernel_rfl)
    | refine aw_cond0 rfl rfl ?_
    | refine aw_skip ?_
    | refine aw_seq_k (fun K hK => ?_))
theorem rcreate_owned {n : Nat} {k : Kr} (h : Inv n k) (hn : n ≤ 100000) (h32 : k.ss.length < 32) (h0 : k.af ≠ 0) (hp0 : k.pf ≠ 0) (hown : bitB k.ao (tzI k.af) = true) :
    Ok 30 [.ag k.ce] (.tu [.ag (fenceK (createK k) [aFe (tzI k.af + 1)]).ce, ii k.ss.length, ii 0]) := by
  have h1 := h.cd
  have h2 := h.cp
  have h3 := h.pb
  have h4 := h.pm
  have h5 := h.ml
  have h6 := h.ca
  have h7 := h.am
  have h8 := h.sh
  have h9 := h.fl
  have t1 := tz_fit h.upf h.pf.2 hp0
  have t2 := tz_fit h.uaf h.af.2 h0
  have hw := wipe_len k.m (k.pb + tzI k.pf)
  have ht := ratake_ok k.am k.af k.ao (by omega) (by rw [h.am]; exact h.af) h.uao h0
  rw [hown] at ht
  have hf := rfresh_ok k.sz k.m k.pb k.pm k.pf (by omega) (by omega) (by rw [h.pm]; exact h.pf) hp0 h.m (by omega) (cells_bd h)
  have hs := rset03_ok k.sz (TableC.wipeM k.m (k.pb + tzI k.pf)) (512 * (k.pb + tzI k.pf) + 511) (33 + 1024 * k.sh) (wipe_srt _ h.m) (by omega)
  rw [← newM_is h hp0] at hs
  have hfe : Ok 80 [.ag (({ k with m := newM k, pf := setI k.pf (tzI k.pf) 1 0, af := takeA1 k.af, ao := takeA2 k.af k.ao } : Kr).raw k.tn k.ts (k.ss.length + 1) (flS k.ss ++ (⟨k.pb + tzI k.pf, tzI k.af + 1, true⟩ : Sp).vs) k.fs.length (flF k.fs)), .c (.s 1 4 (flF [aFe (tzI k.af + 1)]))] (.m (.ag (fenceK (createK k) [aFe (tzI k.af + 1)]).ce)) := by
    rw [← createK_ce]
    exact rfence_ok (createK k) h.ts h.cs.2 [aFe (tzI k.af + 1)] (by simp) (by show k.fs.length ≤ _; omega)
  refine callOk_of 80 Tryz.func30 rfl rfl rfl rfl ?_ GG.to
  intro W A hG
  repeat (first
    | (refine go_at rfl ?_; first
        | refine go_do (valid_mv (.inl rfl) rfl) rfl ?_
        | (refine nxt_s 1 rfl ?_; refine go_do (valid_load_p tb rfl rfl rfl rfl rfl (by first | kernel_rfl | rfl)) (by first | kernel_rfl | rfl) ?_)
        | (refine nxt_s 1 rfl ?_; refine go_do (valid_fld_p tb rfl rfl rfl (by kernel_rfl)) rfl ?_)
        | refine go_do (valid_mv (.inr rfl) rfl) rfl ?_
        | refine go_do (valid_extract rfl rfl rfl rfl) rfl ?_
        | refine go_do (valid_cmp rfl rfl rfl rfl (by first | exact .eql1 (by omega) | exact .eql0 (by omega) | exact .neq1 (by omega) | exact .neq0 (by omega) | exact .lss1 (by omega) | exact .lss0 (by omega) | exact .leq1 (by omega) | exact .leq0 (by omega) | exact .gtr1 (by omega) | exact .gtr0 (by omega) | exact .geq1 (by omega) | exact .geq0 (by omega) | constructor)) rfl ?_
        | refine go_do (valid_ar rfl rfl rfl rfl (by constructor) (by first | exact wr_u64 (by omega) (by omega) | exact wr_i64 (by omega) (by omega) | rfl)) rfl ?_
        | refine go_do (valid_box rfl rfl rfl rfl rfl rfl) rfl ?_
        | refine go_do (valid_alloc rfl rfl rfl rfl rfl) rfl ?_
        | (refine nxt_s 1 rfl ?_; refine go_do (valid_store_p rfl rfl rfl rfl rfl rfl (by first | kernel_rfl | rfl) rfl) (by first | kernel_rfl | rfl) ?_)
        | refine go_do (valid_len_s rfl rfl rfl rfl) rfl ?_
        | refine go_do (valid_build rfl rfl rfl rfl) rfl ?_
        | refine go_do (valid_bslice rfl rfl rfl rfl rfl rfl rfl rfl rfl rfl rfl) rfl ?_
        | refine go_do (valid_bslice0 rfl rfl rfl rfl rfl rfl rfl) rfl ?_
        | refine go_do (valid_call rfl rfl rfl (ht) (by kernel_rfl)) rfl ?_
        | refine go_do (valid_call rfl rfl rfl (hf) (by kernel_rfl)) rfl ?_
        | refine go_do (valid_call rfl rfl rfl (hs) (by kernel_rfl)) rfl ?_
        | refine go_do (valid_app_e rfl rfl rfl rfl rfl rfl rfl rfl rfl rfl rfl rfl (SpM.flS_one k.ss) (by omega)) rfl ?_)
    | (refine hK _ ?_; clear hK K)
    | refine aw_text rfl ?_
    | refine aw_cond0 rfl rfl ?_
    | refine aw_skip ?_
    | refine aw_seq_k (fun K hK => ?_))
  refine go_at rfl ?_
  refine go_do (valid_app rfl rfl rfl rfl rfl rfl rfl rfl rfl rfl rfl rfl rfl (by omega)) rfl ?_
  repeat (first
    | (refine go_at rfl ?_; first
        | (refine nxt_s 1 rfl ?_; refine go_do (valid_fld_p tb rfl rfl rfl (by kernel_rfl)) rfl ?_)
        | (refine nxt_s 1 rfl ?_; refine go_do (valid_store_p rfl rfl rfl rfl rfl rfl (by first | kernel_rfl | rfl) rfl) (by first | kernel_rfl | rfl) ?_)))
  first
    | (refine hK _ ?_; clear hK K)
    | (rename_i K1 hK1; refine hK1 _ ?_; clear hK hK1; clear K)
    | (rename_i K1 hK1; refine hK1 _ ?_; clear hK1)
  refine aw_sub (Sub.trans (sub_fr (b := 70) rfl) (sub_of [(1, .m (.c (.p 1 0))), (2, .m (.c (.p 2 0))), (6, .m (iu (tzI k.af + 1))), (7, .m (ib true)), (13, .m (ii k.ss.length))] [(1, .live (.box (({ k with m := newM k, pf := setI k.pf (tzI k.pf) 1 0, af := takeA1 k.af, ao := takeA2 k.af k.ao } : Kr).raw k.tn k.ts (k.ss.length + 1) (flS k.ss ++ (⟨k.pb + tzI k.pf, tzI k.af + 1, true⟩ : Sp).vs) k.fs.length (flF k.fs)))), (2, .live (.box zK))] ⟨by kernel_rfl, by kernel_rfl, by kernel_rfl, by kernel_rfl, by kernel_rfl, trivial⟩ ⟨by kernel_rfl, by kernel_rfl, trivial⟩ (by kernel_rfl))) ?_
  repeat (first
    | (refine go_at rfl ?_; first
        | refine go_do (valid_mv (.inl rfl) rfl) rfl ?_
        | (refine nxt_s 1 rfl ?_; refine go_do (valid_load_p tb rfl rfl rfl rfl rfl (by first | kernel_rfl | rfl)) (by first | kernel_rfl | rfl) ?_)
        | refine go_do (valid_mv (.inr rfl) rfl) rfl ?_
        | (refine nxt_s 1 rfl ?_; refine go_do (valid_store_p rfl rfl rfl rfl rfl rfl (by first | kernel_rfl | rfl) rfl) (by first | kernel_rfl | rfl) ?_)
        | refine go_do (valid_build rfl rfl rfl rfl) rfl ?_
        | refine go_do (valid_bslice rfl rfl rfl rfl rfl rfl rfl rfl rfl rfl rfl) rfl ?_
        | refine go_do (valid_call_d (b := 76) rfl rfl rfl rfl rfl rfl (callOk_l (by kernel_rfl) hfe)) rfl ?_)
    | (refine hK _ ?_; clear hK K)
    | refine aw_text rfl ?_
    | exact aw_ret (show resA _ _ _ = some _ by kernel_rfl)
    | refine aw_cond1 rfl rfl ?_
    | refine aw_seq_k (fun K hK => ?_))
theorem rcreate_all {n : Nat} {k : Kr} (h : Inv n k) (hn : n ≤ 100000) : Ok 30 [.ag k.ce] (.tu [.ag (createR k).1.ce, ii (createR k).2.1, ii (createR k).2.2]) := by
  have h3 := h.pb
  have h4 := h.pm
  have h5 := h.ml
  have h6 := h.sl
  have h1 := h.cd
  have h2 := h.cp
  have h7 := h.am
  have h8 := h.ca
  unfold createR
  by_cases c1 : 32 ≤ k.ss.length
  · rw [if_pos c1]
    refine callOk_of 80 Tryz.func30 rfl rfl rfl rfl ?_ GG.to
    intro W A hG
    repeat (first
      | (refine go_at rfl ?_; first
          | (refine nxt_s 1 rfl ?_; refine go_do (valid_load_p tb rfl rfl rfl rfl rfl (by first | kernel_rfl | rfl)) (by first | kernel_rfl | rfl) ?_)
          | (refine nxt_s 1 rfl ?_; refine go_do (valid_fld_p tb rfl rfl rfl (by kernel_rfl)) rfl ?_)
          | refine go_do (valid_mv (.inr rfl) rfl) rfl ?_
          | refine go_do (valid_cmp rfl rfl rfl rfl (by first | exact .eql1 (by omega) | exact .eql0 (by omega) | exact .neq1 (by omega) | exact .neq0 (by omega) | exact .lss1 (by omega) | exact .lss0 (by omega) | exact .leq1 (by omega) | exact .leq0 (by omega) | exact .gtr1 (by omega) | exact .gtr0 (by omega) | exact .geq1 (by omega) | exact .geq0 (by omega) | constructor)) rfl ?_
          | refine go_do (valid_box rfl rfl rfl rfl rfl rfl) rfl ?_
          | refine go_do (valid_alloc rfl rfl rfl rfl rfl) rfl ?_
          | (refine nxt_s 1 rfl ?_; refine go_do (valid_store_p rfl rfl rfl rfl rfl rfl (by first | kernel_rfl | rfl) rfl) (by first | kernel_rfl | rfl) ?_)
          | refine go_do (valid_len_s rfl rfl rfl rfl) rfl ?_)
      | (refine hK _ ?_; clear hK K)
      | refine aw_text rfl ?_
      | exact aw_ret (show resA _ _ _ = some _ by kernel_rfl)
      | refine aw_cond1 rfl rfl ?_
      | refine aw_seq_k (fun K hK => ?_))
  rw [if_neg c1]
  by_cases c2 : k.af = 0
  · rw [if_pos c2]
    have ht : Ok 77 [.ag [ci k.am, cu k.af, cu k.ao]] (.tu [.ag [ci k.am, cu k.af, cu k.ao], iu 0, ib false, ii 9]) := by rw [c2]; exact ratake_no k.am k.ao (by omega)
    refine callOk_of 80 Tryz.func30 rfl rfl rfl rfl ?_ GG.to
    intro W A hG
    repeat (first
      | (refine go_at rfl ?_; first
          | refine go_do (valid_mv (.inl rfl) rfl) rfl ?_
          | (refine nxt_s 1 rfl ?_; refine go_do (valid_load_p tb rfl rfl rfl rfl rfl (by first | kernel_rfl | rfl)) (by first | kernel_rfl | rfl) ?_)
          | (refine nxt_s 1 rfl ?_; refine go_do (valid_fld_p tb rfl rfl rfl (by kernel_rfl)) rfl ?_)
          | refine go_do (valid_mv (.inr rfl) rfl) rfl ?_
          | refine go_do (valid_extract rfl rfl rfl rfl) rfl ?_
          | refine go_do (valid_cmp rfl rfl rfl rfl (by first | exact .eql1 (by omega) | exact .eql0 (by omega) | exact .neq1 (by omega) | exact .neq0 (by omega) | exact .lss1 (by omega) | exact .lss0 (by omega) | exact .leq1 (by omega) | exact .leq0 (by omega) | exact .gtr1 (by omega) | exact .gtr0 (by omega) | exact .geq1 (by omega) | exact .geq0 (by omega) | constructor)) rfl ?_
          | refine go_do (valid_box rfl rfl rfl rfl rfl rfl) rfl ?_
          | refine go_do (valid_alloc rfl rfl rfl rfl rfl) rfl ?_
          | (refine nxt_s 1 rfl ?_; refine go_do (valid_store_p rfl rfl rfl rfl rfl rfl (by first | kernel_rfl | rfl) rfl) (by first | kernel_rfl | rfl) ?_)
          | refine go_do (valid_len_s rfl rfl rfl rfl) rfl ?_
          | refine go_do (valid_call rfl rfl rfl (ht) (by kernel_rfl)) rfl ?_)
      | (refine hK _ ?_; clear hK K)
      | refine aw_text rfl ?_
      | exact aw_ret (show resA _ _ _ = some _ by kernel_rfl)
      | refine aw_cond1 rfl rfl ?_
      | refine aw_cond0 rfl rfl ?_
      | refine aw_skip ?_
      | refine aw_seq_k (fun K hK => ?_))
  rw [if_neg c2]
  by_cases c3 : k.pf = 0
  · rw [if_pos c3]
    have t2 := tz_fit h.uaf h.af.2 c2
    have ht := ratake_ok k.am k.af k.ao (by omega) (by rw [h.am]; exact h.af) h.uao c2
    have hf : Ok 78 [memA k.sz k.m, .ag [cu k.pb, ci k.pm, cu k.pf]] (.tu [memA k.sz k.m, .ag [cu k.pb, ci k.pm, cu k.pf], iu 0, ii 8]) := by rw [c3]; exact rfresh_no k.sz k.m k.pb k.pm (by omega)
    refine callOk_of 80 Tryz.func30 rfl rfl rfl rfl ?_ GG.to
    intro W A hG
    repeat (first
      | (refine go_at rfl ?_; first
          | refine go_do (valid_mv (.inl rfl) rfl) rfl ?_
          | (refine nxt_s 1 rfl ?_; refine go_do (valid_load_p tb rfl rfl rfl rfl rfl (by first | kernel_rfl | rfl)) (by first | kernel_rfl | rfl) ?_)
          | (refine nxt_s 1 rfl ?_; refine go_do (valid_fld_p tb rfl rfl rfl (by kernel_rfl)) rfl ?_)
          | refine go_do (valid_mv (.inr rfl) rfl) rfl ?_
          | refine go_do (valid_extract rfl rfl rfl rfl) rfl ?_
          | refine go_do (valid_cmp rfl rfl rfl rfl (by first | exact .eql1 (by omega) | exact .eql0 (by omega) | exact .neq1 (by omega) | exact .neq0 (by omega) | exact .lss1 (by omega) | exact .lss0 (by omega) | exact .leq1 (by omega) | exact .leq0 (by omega) | exact .gtr1 (by omega) | exact .gtr0 (by omega) | exact .geq1 (by omega) | exact .geq0 (by omega) | constructor)) rfl ?_
          | refine go_do (valid_box rfl rfl rfl rfl rfl rfl) rfl ?_
          | refine go_do (valid_alloc rfl rfl rfl rfl rfl) rfl ?_
          | (refine nxt_s 1 rfl ?_; refine go_do (valid_store_p rfl rfl rfl rfl rfl rfl (by first | kernel_rfl | rfl) rfl) (by first | kernel_rfl | rfl) ?_)
          | refine go_do (valid_len_s rfl rfl rfl rfl) rfl ?_
          | refine go_do (valid_call rfl rfl rfl (ht) (by kernel_rfl)) rfl ?_
          | refine go_do (valid_call rfl rfl rfl (hf) (by kernel_rfl)) rfl ?_)
      | (refine hK _ ?_; clear hK K)
      | refine aw_text rfl ?_
      | exact aw_ret (show resA _ _ _ = some _ by kernel_rfl)
      | refine aw_cond1 rfl rfl ?_
      | refine aw_cond0 rfl rfl ?_
      | refine aw_skip ?_
      | refine aw_seq_k (fun K hK => ?_))
  rw [if_neg c3]
  by_cases c4 : (getI k.ao (tzI k.af) 1 == 1) = true
  · rw [if_pos c4]
    exact rcreate_owned h hn (by omega) c2 c3 c4
  · rw [if_neg c4]
    exact rcreate_plain h hn (by omega) c2 c3 (by unfold bitB; cases e : (getI k.ao (tzI k.af) 1 == 1) with | false => rfl | true => exact absurd e c4)
/-! ### Destroy -/
end Go.Proofs.YtgkodncknlankaaGreatDoor.RfE
/- Plain: how many bits of a word are set; the sum that math/bits builds. -/
namespace Go.Proofs.YtgkodncknlankaaGreatDoor.RfG
open Go.RowKit Go.Proofs.YtgkodncknlankaaGreatDoor.Bv Go.Proofs.YtgkodncknlankaaGreatDoor.Base Go.Proofs.YtgkodncknlankaaGreatDoor.BitsC Go.Proofs.YtgkodncknlankaaGreatDoor.SpI Go.Proofs.YtgkodncknlankaaGreatDoor.RfP
set_option linter.unusedVariables false
set_option linter.unusedSimpArgs false
/-- how many of the first n are true -/
def cs : Nat → (Nat → Bool) → Nat
  | 0, _ => 0
  | n + 1, f => cs n f + (f n).toNat
theorem cs_congr : ∀ (n : Nat) (f g : Nat → Bool), (∀ j, j < n → f j = g j) → cs n f = cs n g
  | 0, _, _, _ => rfl
  | n + 1, f, g, h => by simp only [cs]; rw [cs_congr n f g (fun j hj => h j (by omega)), h n (by omega)]
theorem cs_up {f g : Nat → Bool} {i : Nat} (hi : f i = false) (gi : g i = true) (h : ∀ j, j ≠ i → g j = f j) : ∀ n, i < n → cs n g = cs n f + 1
  | 0, hn => by omega
  | n + 1, hn => by
    simp only [cs]
    by_cases e : i = n
    · subst e
      rw [hi, gi, cs_congr i g f (fun j hj => h j (by omega))]; rfl
    · rw [cs_up hi gi h n (by omega), h n (fun e' => e e'.symm)]; omega
theorem cs_lt : ∀ (n m : Nat), m ≤ n → cs n (fun j => decide (j < m)) = m
  | 0, m, h => by simp [cs]; omega
  | n + 1, m, h => by
    simp only [cs]
    by_cases e : m = n + 1
    · rw [cs_congr n _ (fun j => decide (j < n)) (fun j hj => by simp [hj]; omega), cs_lt n n (Nat.le_refl _)]
      simp [e]
    · rw [cs_lt n m (by omega)]; simp; omega
/-! ### the sum -/
def cb : Nat → Nat → Nat
  | 0, _ => 0
  | f + 1, x => x % 2 + cb f (x / 2)
def M (m : Nat) : Nat → Nat
  | 0 => 0
  | k + 1 => m + 256 * M m k
def f1 (k x : Nat) : Nat := (x / 2 &&& M 85 k) + (x &&& M 85 k)
def f2 (k x : Nat) : Nat := (x / 4 &&& M 51 k) + (x &&& M 51 k)
def f3 (k x : Nat) : Nat := (x / 16 + x) &&& M 15 k
theorem d1 : ∀ a, a < 256 → ∀ c, c < 2 → (a / 2 + 128 * c) &&& 85 = a / 2 &&& 85 := by decide +kernel
theorem d2 : ∀ a, a < 256 → ∀ c, c < 4 → (a / 4 + 64 * c) &&& 51 = a / 4 &&& 51 := by decide +kernel
def g1 (a : Nat) : Nat := (a / 2 &&& 85) + (a &&& 85)
def g2 (a : Nat) : Nat := (a / 4 &&& 51) + (a &&& 51)
def g3 (a : Nat) : Nat := (a / 16 + a) % 16
theorem d3 : ∀ a, a < 256 → g1 a < 256 ∧ g2 (g1 a) < 256 ∧ g2 (g1 a) % 16 ≤ 4 ∧ g2 (g1 a) / 16 ≤ 4 ∧ g3 (g2 (g1 a)) = cb 8 a ∧ cb 8 a ≤ 8 := by decide +kernel
def h3 (k x : Nat) : Nat := f3 k (f2 k (f1 k x))
end Go.Proofs.YtgkodncknlankaaGreatDoor.RfG
/- Plain: what is free, what lives, and what cells there are, of each kernel that comes of deeds. -/
namespace Go.Proofs.YtgkodncknlankaaGreatDoor.RfJ
open Go.RowKit Go.Proofs.YtgkodncknlankaaGreatDoor.Bv Go.Proofs.YtgkodncknlankaaGreatDoor.VaSpec Go.Proofs.YtgkodncknlankaaGreatDoor.Base Go.Proofs.YtgkodncknlankaaGreatDoor.MemL Go.Proofs.YtgkodncknlankaaGreatDoor.RegR Go.Proofs.YtgkodncknlankaaGreatDoor.Ax Go.Proofs.YtgkodncknlankaaGreatDoor.MemC Go.Proofs.YtgkodncknlankaaGreatDoor.PutC Go.Proofs.YtgkodncknlankaaGreatDoor.MemC3 Go.Proofs.YtgkodncknlankaaGreatDoor.TzC Go.Proofs.YtgkodncknlankaaGreatDoor.OkS Go.Proofs.YtgkodncknlankaaGreatDoor.SpA Go.Proofs.YtgkodncknlankaaGreatDoor.SpB Go.Proofs.YtgkodncknlankaaGreatDoor.SpC Go.Proofs.YtgkodncknlankaaGreatDoor.SpD Go.Proofs.YtgkodncknlankaaGreatDoor.IterC Go.Proofs.YtgkodncknlankaaGreatDoor.SpE Go.Proofs.YtgkodncknlankaaGreatDoor.SpF Go.Proofs.YtgkodncknlankaaGreatDoor.SpG Go.Proofs.YtgkodncknlankaaGreatDoor.SpH Go.Proofs.YtgkodncknlankaaGreatDoor.SpI Go.Proofs.YtgkodncknlankaaGreatDoor.SpJ Go.Proofs.YtgkodncknlankaaGreatDoor.SpK Go.Proofs.YtgkodncknlankaaGreatDoor.SpN Go.Proofs.YtgkodncknlankaaGreatDoor.RfP Go.Proofs.YtgkodncknlankaaGreatDoor.RfQ Go.Proofs.YtgkodncknlankaaGreatDoor.RfE Go.Proofs.YtgkodncknlankaaGreatDoor.RfG
open Go.Proofs.YtgkodncknlankaaGreatDoor.BitsC Go.Proofs.YtgkodncknlankaaGreatDoor.PteSpec
set_option linter.unusedVariables false
set_option linter.unusedSimpArgs false
/-! ### bits and counts -/
def cnt (x : Int) : Nat := cs 64 (fun j => bitB x (j : Int))
theorem cnt_off {x i : Int} (hx : U x) (h0 : 0 ≤ i) (h1 : i < 64) (h : bitB x i = true) : cnt (setI x i 1 0) + 1 = cnt x := by
  obtain ⟨n, rfl⟩ := Int.eq_ofNat_of_zero_le h0
  refine (cs_up (i := n) ?_ h (fun j hj => ?_) 64 (by omega)).symm
  · rw [bit_set hx h0 h1 h0 h1, if_pos rfl]; rfl
  · by_cases hj2 : j < 64
    · rw [bit_set hx h0 h1 (by omega) (by omega), if_neg (by omega)]
    · rw [bitB_eq (by omega), bitB_eq (by omega)]
      rw [Int.toNat_natCast, BitVec.getLsbD_of_ge _ _ (by omega), BitVec.getLsbD_of_ge _ _ (by omega)]
theorem bit0_of (x i j : Int) (hx : U x) (h0 : 0 ≤ i) (h1 : i < 64) (hj : 0 ≤ j) (hj1 : j < 64) : bitB (setI x i 1 0) j = if j = i then false else bitB x j := by
  rw [bit_set hx h0 h1 hj hj1]; rfl
theorem allI_bit (n : Int) (j : Int) (hj : 0 ≤ j) (hj1 : j < 64) (h0 : 0 ≤ n) : bitB (allI n) j = decide (j < n) := by
  rw [bitB_eq hj]
  unfold allI getI
  rw [X_B, getB_bit, show (0 : Int).toNat = 0 from rfl, Nat.zero_add, ones_bit _ (by omega), Bool.and_true]
  by_cases h : j < n
  · rw [decide_eq_true h, decide_eq_true (by omega)]
  · rw [decide_eq_false h, decide_eq_false (by omega)]
theorem tz_all {n : Int} (h0 : 1 ≤ n) (h : n ≤ 64) : tzI (allI n) = 0 := by
  have l1 := allI_lt (n := n) (by omega) h
  have l2 := allI_ne h0 h
  have u := allI_U n
  have t := tz_fit u l1.2 l2
  rcases (by omega : tzI (allI n) = 0 ∨ 0 < tzI (allI n)) with e | e
  · exact e
  · have := low_under u l2 (Int.le_refl 0) e
    rw [allI_bit n 0 (by omega) (by omega) (by omega), decide_eq_true (by omega)] at this
    cases this
/-! ### who lives -/
def alv : List Sp → Nat
  | [] => 0
  | s :: l => (if s.live then 1 else 0) + alv l
theorem alv_app : ∀ (l : List Sp) (s : Sp), s.live = true → alv (l ++ [s]) = alv l + 1
  | [], s, h => by simp [alv, h]
  | x :: l, s, h => by simp only [List.cons_append, alv]; rw [alv_app l s h]; omega
/-! ### cells -/
theorem put_old : ∀ (xs : List (Int × Int)) (k v : Int) (c : Int × Int), c ∈ xs → c.1 ≠ k → c ∈ putM xs k v
  | [], k, v, c, h, _ => by cases h
  | x :: xs, k, v, c, h, hk => by
    simp only [putM]
    split
    · rcases List.mem_cons.1 h with rfl | h
      · simp
      · exact List.mem_cons_of_mem _ (put_old xs k v c h hk)
    · split
      · rename_i hx
        rcases List.mem_cons.1 h with rfl | h
        · exact absurd hx hk
        · split
          · exact h
          · exact List.mem_cons_of_mem _ h
      · split
        · exact h
        · exact List.mem_cons_of_mem _ h
theorem put_new : ∀ (xs : List (Int × Int)) (k v : Int), v ≠ 0 → (k, v) ∈ putM xs k v
  | [], k, v, h => by simp [putM, h]
  | x :: xs, k, v, h => by
    simp only [putM]
    split
    · exact List.mem_cons_of_mem _ (put_new xs k v h)
    · split <;> simp [h]
structure Inv2 (k : Kr) : Prop where
  sh : k.sh = k.cd
  p0 : bitB k.pf 0 = false
  lv : ∀ s ∈ k.ss, s.live = true → s.root ≠ k.cd ∧ s.asid ≤ k.ca ∧ bitB k.pf (s.root - k.cd) = false ∧ bitB k.af (s.asid - 1) = false ∧ (s.root * 512 + 511, 33 + 1024 * k.sh) ∈ k.m
  ap : ∀ (i j : Nat) (s t : Sp), k.ss[i]? = some s → k.ss[j]? = some t → i ≠ j → s.live = true → t.live = true → s.root ≠ t.root ∧ s.asid ≠ t.asid
  cl : ∀ c ∈ k.m, ∃ s ∈ k.ss, s.live = true ∧ c = (s.root * 512 + 511, 33 + 1024 * k.sh)
  np : (cnt k.pf : Int) + 1 + alv k.ss = k.cp
  na : (cnt k.af : Int) + alv k.ss = k.ca
theorem new_inv2 {a b c : Int} {n : Nat} (h : confB a b c n = true) : Inv2 (newK a b c n) := by
  obtain ⟨ha, hb, hc, hn⟩ := confB_iff.1 h
  have tz := tz_all (n := b) (by omega) (by omega)
  have e : (newK a b c n).pf = setI (allI b) 0 1 0 := by show setI (allI b) (tzI (allI b)) 1 0 = _; rw [tz]
  have cb : cnt (allI b) = b.toNat := by
    unfold cnt
    rw [cs_congr 64 _ (fun j => decide (j < b.toNat)) (fun j hj => by
      rw [allI_bit b j (by omega) (by omega) (by omega)]
      by_cases h : (j : Int) < b
      · rw [decide_eq_true h, decide_eq_true (by omega)]
      · rw [decide_eq_false h, decide_eq_false (by omega)]), cs_lt 64 _ (by omega)]
  have cc : cnt (allI c) = c.toNat := by
    unfold cnt
    rw [cs_congr 64 _ (fun j => decide (j < c.toNat)) (fun j hj => by
      rw [allI_bit c j (by omega) (by omega) (by omega)]
      by_cases h : (j : Int) < c
      · rw [decide_eq_true h, decide_eq_true (by omega)]
      · rw [decide_eq_false h, decide_eq_false (by omega)]), cs_lt 64 _ (by omega)]
  have co := cnt_off (x := allI b) (i := 0) (allI_U b) (by omega) (by omega) (by rw [allI_bit b 0 (by omega) (by omega) (by omega), decide_eq_true (by omega)])
  refine ⟨by show a + tzI (allI b) = a; rw [tz]; omega, ?_, fun s hs => (by cases hs), fun i j s t hs => (by simp [newK] at hs), fun c hc => (by cases hc), ?_, ?_⟩
  · rw [e, bit0_of _ _ _ (allI_U b) (by omega) (by omega) (by omega) (by omega), if_pos rfl]
  · rw [e]
    show (cnt (setI (allI b) 0 1 0) : Int) + 1 + ((0 : Nat) : Int) = b
    omega
  · show (cnt (allI c) : Int) + ((0 : Nat) : Int) = c
    omega
end Go.Proofs.YtgkodncknlankaaGreatDoor.RfJ
/- Plain: deeds keep what is known of frames, numbers, spaces and cells. -/
namespace Go.Proofs.YtgkodncknlankaaGreatDoor.RfK
open Go.RowKit Go.Proofs.YtgkodncknlankaaGreatDoor.Bv Go.Proofs.YtgkodncknlankaaGreatDoor.VaSpec Go.Proofs.YtgkodncknlankaaGreatDoor.Base Go.Proofs.YtgkodncknlankaaGreatDoor.MemL Go.Proofs.YtgkodncknlankaaGreatDoor.RegR Go.Proofs.YtgkodncknlankaaGreatDoor.Ax Go.Proofs.YtgkodncknlankaaGreatDoor.MemC Go.Proofs.YtgkodncknlankaaGreatDoor.PutC Go.Proofs.YtgkodncknlankaaGreatDoor.MemC3 Go.Proofs.YtgkodncknlankaaGreatDoor.TzC Go.Proofs.YtgkodncknlankaaGreatDoor.OkS Go.Proofs.YtgkodncknlankaaGreatDoor.SpA Go.Proofs.YtgkodncknlankaaGreatDoor.SpB Go.Proofs.YtgkodncknlankaaGreatDoor.SpC Go.Proofs.YtgkodncknlankaaGreatDoor.SpD Go.Proofs.YtgkodncknlankaaGreatDoor.IterC Go.Proofs.YtgkodncknlankaaGreatDoor.SpE Go.Proofs.YtgkodncknlankaaGreatDoor.SpF Go.Proofs.YtgkodncknlankaaGreatDoor.SpG Go.Proofs.YtgkodncknlankaaGreatDoor.SpH Go.Proofs.YtgkodncknlankaaGreatDoor.SpI Go.Proofs.YtgkodncknlankaaGreatDoor.SpJ Go.Proofs.YtgkodncknlankaaGreatDoor.SpK Go.Proofs.YtgkodncknlankaaGreatDoor.SpN Go.Proofs.YtgkodncknlankaaGreatDoor.RfP Go.Proofs.YtgkodncknlankaaGreatDoor.RfQ Go.Proofs.YtgkodncknlankaaGreatDoor.RfE Go.Proofs.YtgkodncknlankaaGreatDoor.RfG Go.Proofs.YtgkodncknlankaaGreatDoor.RfJ
open Go.Proofs.YtgkodncknlankaaGreatDoor.BitsC Go.Proofs.YtgkodncknlankaaGreatDoor.PteSpec
set_option linter.unusedVariables false
set_option linter.unusedSimpArgs false
theorem create_inv2 {n : Nat} {k : Kr} (h : Inv n k) (g : Inv2 k) (ha : k.af ≠ 0) (hp : k.pf ≠ 0) : Inv2 (createK k) := by
  have c1 := h.cp
  have c2 := h.ca
  have hcd := h.cd
  have hpb := h.pb
  have hsh := h.sh
  have t1 := tz_fit h.upf h.pf.2 hp
  have t2 := tz_fit h.uaf h.af.2 ha
  have low1 := low_at h.upf hp
  have low2 := low_at h.uaf ha
  have tn0 : tzI k.pf ≠ 0 := fun e => by rw [e, g.p0] at low1; cases low1
  have hne : ∀ s ∈ k.ss, s.live = true → s.root ≠ k.pb + tzI k.pf ∧ s.asid ≠ tzI k.af + 1 := fun s hs hl => by
    obtain ⟨_, _, b1, b2, _⟩ := g.lv s hs hl
    refine ⟨fun e => ?_, fun e => ?_⟩
    · rw [show s.root - k.cd = tzI k.pf by omega, low1] at b1; cases b1
    · rw [show s.asid - 1 = tzI k.af by omega, low2] at b2; cases b2
  have hwm : TableC.wipeM k.m (k.pb + tzI k.pf) = k.m := by
    rw [wipe_filt _ _ h.m]
    refine List.filter_eq_self.2 fun c hc => ?_
    obtain ⟨s, hs, hl, rfl⟩ := g.cl c hc
    have := (hne s hs hl).1
    simp only [outB, Bool.or_eq_true, decide_eq_true_eq]
    omega
  have hm : (createK k).m = putM k.m (512 * (k.pb + tzI k.pf) + 511) (33 + 1024 * k.sh) := by
    show newM k = _
    rw [newM_is h hp, hwm]
  have hcells : ∀ s ∈ k.ss, s.live = true → (s.root * 512 + 511, 33 + 1024 * k.sh) ∈ (createK k).m := fun s hs hl => by
    rw [hm]
    refine put_old _ _ _ _ (g.lv s hs hl).2.2.2.2 ?_
    have := (hne s hs hl).1
    show s.root * 512 + 511 ≠ _; omega
  have hnew : (512 * (k.pb + tzI k.pf) + 511, 33 + 1024 * k.sh) ∈ (createK k).m := by rw [hm]; exact put_new _ _ _ (by omega)
  have hss : (createK k).ss = k.ss ++ [⟨k.pb + tzI k.pf, tzI k.af + 1, true⟩] := rfl
  have epf : (createK k).pf = setI k.pf (tzI k.pf) 1 0 := rfl
  have eaf : (createK k).af = setI k.af (tzI k.af) 1 0 := rfl
  have n1 := cnt_off h.upf t1.1 (by omega) low1
  have n2 := cnt_off h.uaf t2.1 (by omega) low2
  refine ⟨g.sh, ?_, fun s hs hl => ?_, fun i j s t hs ht hij hl hl' => ?_, fun c hc => ?_, ?_, ?_⟩
  · rw [epf, bit0_of _ _ _ h.upf t1.1 (by omega) (by omega) (by omega), if_neg (fun e => tn0 e.symm)]; exact g.p0
  · rw [hss] at hs
    rcases List.mem_append.1 hs with hs | hs
    · obtain ⟨a1, a2, a3, a4, a5⟩ := g.lv s hs hl
      obtain ⟨r1, r2⟩ := h.ss s hs hl
      refine ⟨a1, a2, ?_, ?_, hcells s hs hl⟩
      · show bitB (createK k).pf (s.root - k.cd) = false
        rw [epf, bit0_of _ _ _ h.upf t1.1 (by omega) (by omega) (by omega)]; split
        · rfl
        · exact a3
      · rw [eaf, bit0_of _ _ _ h.uaf t2.1 (by omega) (by omega) (by omega)]; split
        · rfl
        · exact a4
    · rw [List.mem_singleton.1 hs]
      refine ⟨by show k.pb + tzI k.pf ≠ k.cd; omega, by show tzI k.af + 1 ≤ k.ca; omega, ?_, ?_, ?_⟩
      · show bitB (createK k).pf (k.pb + tzI k.pf - k.cd) = false
        rw [show k.pb + tzI k.pf - k.cd = tzI k.pf by omega, epf, bit0_of _ _ _ h.upf t1.1 (by omega) (by omega) (by omega), if_pos rfl]
      · show bitB (createK k).af (tzI k.af + 1 - 1) = false
        rw [show tzI k.af + 1 - 1 = tzI k.af by omega, eaf, bit0_of _ _ _ h.uaf t2.1 (by omega) (by omega) (by omega), if_pos rfl]
      · show ((k.pb + tzI k.pf) * 512 + 511, 33 + 1024 * k.sh) ∈ _
        rw [show (k.pb + tzI k.pf) * 512 + 511 = 512 * (k.pb + tzI k.pf) + 511 by omega]; exact hnew
  · rw [hss] at hs ht
    have look : ∀ (i : Nat) (s : Sp), (k.ss ++ [(⟨k.pb + tzI k.pf, tzI k.af + 1, true⟩ : Sp)])[i]? = some s → (i < k.ss.length ∧ k.ss[i]? = some s) ∨ (i = k.ss.length ∧ s = ⟨k.pb + tzI k.pf, tzI k.af + 1, true⟩) := fun i s hs => by
      by_cases hi : i < k.ss.length
      · rw [List.getElem?_append_left hi] at hs; exact .inl ⟨hi, hs⟩
      · rw [List.getElem?_append_right (by omega)] at hs
        obtain ⟨d, hd⟩ : ∃ d, d = i - k.ss.length := ⟨_, rfl⟩
        rw [← hd] at hs
        cases d with
        | zero => simp at hs; exact .inr ⟨by omega, hs.symm⟩
        | succ d => simp at hs
    rcases look i s hs with ⟨_, hs⟩ | ⟨ei, es⟩
    · rcases look j t ht with ⟨_, ht⟩ | ⟨ej, et⟩
      · exact g.ap i j s t hs ht hij hl hl'
      · rw [et]; exact hne s (List.mem_of_getElem? hs) hl
    · rcases look j t ht with ⟨_, ht⟩ | ⟨ej, et⟩
      · rw [es]
        have := hne t (List.mem_of_getElem? ht) hl'
        exact ⟨fun e => this.1 e.symm, fun e => this.2 e.symm⟩
      · omega
  · rw [hm] at hc
    rcases putM_mem _ _ _ _ hc with hc | ⟨rfl, _⟩
    · obtain ⟨s, hs, hl, e⟩ := g.cl c hc
      exact ⟨s, by rw [hss]; exact List.mem_append_left _ hs, hl, e⟩
    · refine ⟨⟨k.pb + tzI k.pf, tzI k.af + 1, true⟩, by rw [hss]; simp, rfl, ?_⟩
      show (512 * (k.pb + tzI k.pf) + 511, _) = ((k.pb + tzI k.pf) * 512 + 511, _)
      rw [show 512 * (k.pb + tzI k.pf) + 511 = (k.pb + tzI k.pf) * 512 + 511 by omega]; rfl
  · have := g.np
    rw [epf, hss, alv_app _ _ rfl]
    show _ = k.cp
    omega
  · have := g.na
    rw [eaf, hss, alv_app _ _ rfl]
    show _ = k.ca
    omega
/-! ### deeds -/
theorem create_both {n : Nat} {k : Kr} (h : Inv n k) (g : Inv2 k) : Inv2 (createR k).1 := by
  unfold createR
  by_cases c1 : 32 ≤ k.ss.length
  · rw [if_pos c1]; exact g
  rw [if_neg c1]
  by_cases c2 : k.af = 0
  · rw [if_pos c2]; exact g
  rw [if_neg c2]
  by_cases c3 : k.pf = 0
  · rw [if_pos c3]; exact g
  rw [if_neg c3]
  have := create_inv2 h g c2 c3
  split
  · exact { sh := this.sh, p0 := this.p0, lv := this.lv, ap := this.ap, cl := this.cl, np := this.np, na := this.na }
  · exact this
/-! ### the end -/
end Go.Proofs.YtgkodncknlankaaGreatDoor.RfK
/- Plain: from Space's kernels to those on which pages are laid; the kernels of the anchor, reckoned out. -/
namespace Go.Proofs.YtgkodncknlankaaGreatDoor.LaH
open Go.RowKit Go.Proofs.YtgkodncknlankaaGreatDoor.Bv Go.Proofs.YtgkodncknlankaaGreatDoor.VaSpec Go.Proofs.YtgkodncknlankaaGreatDoor.Base Go.Proofs.YtgkodncknlankaaGreatDoor.MemL Go.Proofs.YtgkodncknlankaaGreatDoor.RegR Go.Proofs.YtgkodncknlankaaGreatDoor.Ax Go.Proofs.YtgkodncknlankaaGreatDoor.MemC Go.Proofs.YtgkodncknlankaaGreatDoor.PutC Go.Proofs.YtgkodncknlankaaGreatDoor.MemC3 Go.Proofs.YtgkodncknlankaaGreatDoor.TzC Go.Proofs.YtgkodncknlankaaGreatDoor.OkS Go.Proofs.YtgkodncknlankaaGreatDoor.SpA Go.Proofs.YtgkodncknlankaaGreatDoor.SpB Go.Proofs.YtgkodncknlankaaGreatDoor.SpC Go.Proofs.YtgkodncknlankaaGreatDoor.SpD Go.Proofs.YtgkodncknlankaaGreatDoor.SpE Go.Proofs.YtgkodncknlankaaGreatDoor.SpF Go.Proofs.YtgkodncknlankaaGreatDoor.SpG Go.Proofs.YtgkodncknlankaaGreatDoor.SpH Go.Proofs.YtgkodncknlankaaGreatDoor.SpI Go.Proofs.YtgkodncknlankaaGreatDoor.SpJ Go.Proofs.YtgkodncknlankaaGreatDoor.SpK Go.Proofs.YtgkodncknlankaaGreatDoor.SpN Go.Proofs.YtgkodncknlankaaGreatDoor.SpO Go.Proofs.YtgkodncknlankaaGreatDoor.RfE Go.Proofs.YtgkodncknlankaaGreatDoor.RfJ Go.Proofs.YtgkodncknlankaaGreatDoor.RfK Go.Proofs.YtgkodncknlankaaGreatDoor.LaA Go.Proofs.YtgkodncknlankaaGreatDoor.LaB Go.Proofs.YtgkodncknlankaaGreatDoor.LaC Go.Proofs.YtgkodncknlankaaGreatDoor.LaD Go.Proofs.YtgkodncknlankaaGreatDoor.LaE Go.Proofs.YtgkodncknlankaaGreatDoor.LaF Go.Proofs.YtgkodncknlankaaGreatDoor.LaG
open Go.Proofs.YtgkodncknlankaaGreatDoor.BitsC Go.Proofs.YtgkodncknlankaaGreatDoor.PteSpec
set_option linter.unusedVariables false
set_option linter.unusedSimpArgs false
set_option maxRecDepth 10000
set_option maxHeartbeats 1000000
theorem gP_back {n : Int} (h : 0 ≤ n ∧ n < 17592186044416) : pteOf (33 + 1024 * n) = gP n := by
  have hm : mayP (gP n) = true := by rw [mayP_iff]; unfold gP; simp; omega
  have hU : (gP n).U := by unfold Pte.U gP; simp; omega
  rw [← putE_gP n h]
  unfold PteC.putE
  rw [if_pos hm, pteOf_word _ hU hm]
theorem inv_l {n : Nat} {k : Kr} (h : Inv n k) (g : Inv2 k) : InvL n k := by
  have b1 := h.cd
  have b2 := h.cp
  have hsh := h.sh
  have ash : Al k.cd k.cp k.pf k.sh := ⟨hsh, by rw [g.sh, show k.cd - k.cd = 0 by omega]; exact g.p0⟩
  have ass : ∀ s ∈ k.ss, s.live = true → Al k.cd k.cp k.pf s.root := fun s hs hl => ⟨(h.ss s hs hl).1, (g.lv s hs hl).2.2.1⟩
  refine { g := ⟨h.cd, h.cp, h.sz, h.pf, h.m, fun c hc => ?_⟩, cs := h.cs, pb := h.pb, pm := h.pm, sh := ash, ts := h.ts, ml := h.ml, fl := h.fl, sl := h.sl, ss := ass }
  obtain ⟨s, hs, hl, rfl⟩ := g.cl c hc
  refine ⟨?_, (h.mc _ hc).2.2.2, ?_⟩
  · show Al k.cd k.cp k.pf ((s.root * 512 + 511) / 512)
    rw [show (s.root * 512 + 511) / 512 = s.root by omega]
    exact ass s hs hl
  · show EOk k.cd k.cp k.pf (pteOf (33 + 1024 * k.sh))
    rw [gP_back (by omega)]
    exact .inr ⟨rfl, ash⟩
noncomputable def bgK (a b c : Int) (n : Nat) : Kr := (createR (createR (newK a b c n)).1).1
theorem bg_inv {a b c : Int} {n : Nat} (h : confB a b c n = true) : Inv 0 (newK a b c n) ∧ Inv 1 (createR (newK a b c n)).1 ∧ InvL 2 (bgK a b c n) := by
  have h0 := new_inv h
  have g0 := new_inv2 h
  have h1 := create_inv h0
  have g1 := create_both h0 g0
  exact ⟨h0, h1, inv_l (create_inv h1) (create_both h1 g1)⟩
/-! ### the anchor's kernels -/
def kr2 (m : List (Int × Int)) (pf af ao : Int) (ss : List Sp) : Kr := { cd := 4, cp := 8, ca := 2, cs := 1, sz := 49152, m := m, tn := 1, ts := zsL 1, sm := 0, sa := 0, sp := 0, priv := 0, su := false, mx := false, vic := -1, pb := 4, pm := 8, pf := pf, am := 2, af := af, ao := ao, ss := ss, now := -1, sh := 4, fs := [] }
def c0 : Kr := kr2 [] 254 3 0 []
def c1 : Kr := kr2 [(3071, 4129)] 252 2 1 [⟨5, 1, true⟩]
def c2 : Kr := kr2 [(3071, 4129), (3583, 4129)] 248 0 3 [⟨5, 1, true⟩, ⟨6, 2, true⟩]
def cA : Kr := kr2 [(2560, 7169), (3071, 4129), (3583, 4129), (3584, 8193), (4101, 1031)] 224 0 3 [⟨5, 1, true⟩, ⟨6, 2, true⟩]
def cB : Kr := kr2 [(2559, 9217), (2560, 7169), (3071, 4129), (3583, 4129), (3584, 8193), (4101, 1031), (5119, 39)] 192 0 3 [⟨5, 1, true⟩, ⟨6, 2, true⟩]
theorem n0 : newK 4 8 2 1 = c0 := by kernel_rfl
theorem e1 : createR c0 = (c1, 0, 0) := by
  unfold createR createK newM
  rw [kA_idx]
  kernel_rfl
theorem e2 : createR c1 = (c2, 1, 0) := by
  unfold createR createK newM
  rw [kA_idx]
  kernel_rfl
theorem bg2 : bgK 4 8 2 1 = c2 := by
  unfold bgK
  rw [n0, e1, e2]
theorem i2 : InvL 2 c2 := by rw [← bg2]; exact (bg_inv (by decide)).2.2
def rw2 : Pm := ⟨true, true, false, false⟩
theorem mA : mapR c2 0 20480 4096 0 rw2 = (cA, 0) := by kernel_rfl
theorem iA : InvL 5 cA := by have := map_inv (id := 0) (a := 20480) (pa := 4096) (l := 0) (p := rw2) i2 ⟨by omega, by omega⟩; rwa [mA] at this
theorem mF : mapR cA 0 20480 0 0 rw2 = (cA, 6) := by kernel_rfl
theorem mG : mapR cA 1 20480 16384 0 rw2 = (cA, 3) := by kernel_rfl
theorem mH : mapR cA 1 20480 0 0 ⟨false, true, false, false⟩ = (cA, 5) := by kernel_rfl
theorem mI : mapR cA (-1) 18446744073709547520 0 0 rw2 = (cB, 0) := by kernel_rfl
theorem iB : InvL 8 cB := by have := map_inv (id := -1) (a := 18446744073709547520) (pa := 0) (l := 0) (p := rw2) iA ⟨by omega, by omega⟩; rwa [mI] at this
theorem mJ : mapR c2 0 1073762304 0 0 ⟨false, false, false, false⟩ = (c2, 5) := by kernel_rfl
theorem lA : listR cB 0 = [⟨20480, 4096, 0, true, true, false, false, false⟩] := by
  unfold listR
  rw [if_neg (by decide), if_neg (by decide)]
  kernel_rfl
theorem lB : listR cB (-1) = [⟨18446744073709547520, 0, 0, true, true, false, false, false⟩] := by
  unfold listR
  rw [if_pos rfl, kA_eq]
  kernel_rfl
theorem lC : listR cB 1 = [] := by
  unfold listR
  rw [if_neg (by decide), if_neg (by decide)]
  kernel_rfl
theorem lD : listR cB 9 = [] := by
  unfold listR
  rw [if_neg (by decide), if_pos (by decide)]
end Go.Proofs.YtgkodncknlankaaGreatDoor.LaH
/- The contract of the reference's address of a page number. -/
namespace Go.Proofs.YtgkodncknlankaaGreatDoor.VaR
open Go.RowKit Go.Proofs.YtgkodncknlankaaGreatDoor.Bv Go.Proofs.YtgkodncknlankaaGreatDoor.VaSpec Go.Proofs.YtgkodncknlankaaGreatDoor.Base Go.Proofs.YtgkodncknlankaaGreatDoor.BitsC Go.Proofs.YtgkodncknlankaaGreatDoor.VaC
set_option linter.unusedVariables false
set_option linter.unusedSimpArgs false
end Go.Proofs.YtgkodncknlankaaGreatDoor.VaR
/- The abstract walk: the document's tables: At, With, Reach, Down. -/
namespace Go.Proofs.YtgkodncknlankaaGreatDoor.RlA
open Go.RowKit Go.Proofs.YtgkodncknlankaaGreatDoor.Bv Go.Proofs.YtgkodncknlankaaGreatDoor.VaSpec Go.Proofs.YtgkodncknlankaaGreatDoor.Base Go.Proofs.YtgkodncknlankaaGreatDoor.MemL Go.Proofs.YtgkodncknlankaaGreatDoor.RegR Go.Proofs.YtgkodncknlankaaGreatDoor.Ax Go.Proofs.YtgkodncknlankaaGreatDoor.MemC Go.Proofs.YtgkodncknlankaaGreatDoor.PutC Go.Proofs.YtgkodncknlankaaGreatDoor.MemC3 Go.Proofs.YtgkodncknlankaaGreatDoor.TzC Go.Proofs.YtgkodncknlankaaGreatDoor.OkS Go.Proofs.YtgkodncknlankaaGreatDoor.SpA Go.Proofs.YtgkodncknlankaaGreatDoor.SpB Go.Proofs.YtgkodncknlankaaGreatDoor.SpC Go.Proofs.YtgkodncknlankaaGreatDoor.SpD Go.Proofs.YtgkodncknlankaaGreatDoor.SpE Go.Proofs.YtgkodncknlankaaGreatDoor.SpF Go.Proofs.YtgkodncknlankaaGreatDoor.SpH Go.Proofs.YtgkodncknlankaaGreatDoor.SpI Go.Proofs.YtgkodncknlankaaGreatDoor.SpJ Go.Proofs.YtgkodncknlankaaGreatDoor.SpN Go.Proofs.YtgkodncknlankaaGreatDoor.SpO Go.Proofs.YtgkodncknlankaaGreatDoor.RfA Go.Proofs.YtgkodncknlankaaGreatDoor.RfB Go.Proofs.YtgkodncknlankaaGreatDoor.RfC Go.Proofs.YtgkodncknlankaaGreatDoor.RfD Go.Proofs.YtgkodncknlankaaGreatDoor.LaA Go.Proofs.YtgkodncknlankaaGreatDoor.LaB Go.Proofs.YtgkodncknlankaaGreatDoor.LaC Go.Proofs.YtgkodncknlankaaGreatDoor.LaD Go.Proofs.YtgkodncknlankaaGreatDoor.LaE
open Go.Proofs.YtgkodncknlankaaGreatDoor.BitsC Go.Proofs.YtgkodncknlankaaGreatDoor.PteSpec
set_option linter.unusedVariables false
set_option linter.unusedSimpArgs false
set_option maxRecDepth 10000
set_option maxHeartbeats 1000000
theorem rsize_ok (l : Int) (h0 : 0 ≤ l) (h2 : l ≤ 2) : Ok 12 [ii l] (.m (iu (VaSpec.sz l))) :=
  ok_plain #[.int .i64 l] (.int .u64 (VaSpec.sz l)) fun W _ => (VaR.rsize_calls l W h0 h2).mono fun e w' ⟨he, hq⟩ => ⟨he, Q.below hq⟩
end Go.Proofs.YtgkodncknlankaaGreatDoor.RlA
/- The abstract walk: the document's Pages, and whether pages are the same. -/
namespace Go.Proofs.YtgkodncknlankaaGreatDoor.RlB
open Go.RowKit Go.Proofs.YtgkodncknlankaaGreatDoor.Bv Go.Proofs.YtgkodncknlankaaGreatDoor.VaSpec Go.Proofs.YtgkodncknlankaaGreatDoor.Base Go.Proofs.YtgkodncknlankaaGreatDoor.MemL Go.Proofs.YtgkodncknlankaaGreatDoor.RegR Go.Proofs.YtgkodncknlankaaGreatDoor.Ax Go.Proofs.YtgkodncknlankaaGreatDoor.MemC Go.Proofs.YtgkodncknlankaaGreatDoor.PutC Go.Proofs.YtgkodncknlankaaGreatDoor.MemC3 Go.Proofs.YtgkodncknlankaaGreatDoor.TzC Go.Proofs.YtgkodncknlankaaGreatDoor.OkS Go.Proofs.YtgkodncknlankaaGreatDoor.SpA Go.Proofs.YtgkodncknlankaaGreatDoor.SpB Go.Proofs.YtgkodncknlankaaGreatDoor.SpC Go.Proofs.YtgkodncknlankaaGreatDoor.SpD Go.Proofs.YtgkodncknlankaaGreatDoor.SpE Go.Proofs.YtgkodncknlankaaGreatDoor.SpF Go.Proofs.YtgkodncknlankaaGreatDoor.SpH Go.Proofs.YtgkodncknlankaaGreatDoor.SpI Go.Proofs.YtgkodncknlankaaGreatDoor.SpJ Go.Proofs.YtgkodncknlankaaGreatDoor.SpN Go.Proofs.YtgkodncknlankaaGreatDoor.SpO Go.Proofs.YtgkodncknlankaaGreatDoor.RfA Go.Proofs.YtgkodncknlankaaGreatDoor.RfB Go.Proofs.YtgkodncknlankaaGreatDoor.RfC Go.Proofs.YtgkodncknlankaaGreatDoor.RfD Go.Proofs.YtgkodncknlankaaGreatDoor.LaA Go.Proofs.YtgkodncknlankaaGreatDoor.LaB Go.Proofs.YtgkodncknlankaaGreatDoor.LaC Go.Proofs.YtgkodncknlankaaGreatDoor.LaD Go.Proofs.YtgkodncknlankaaGreatDoor.LaE Go.Proofs.YtgkodncknlankaaGreatDoor.RlA
open Go.Proofs.YtgkodncknlankaaGreatDoor.BitsC Go.Proofs.YtgkodncknlankaaGreatDoor.PteSpec
set_option linter.unusedVariables false
set_option linter.unusedSimpArgs false
set_option maxRecDepth 10000
set_option maxHeartbeats 1000000
section
variable (sz : Int) (xs : List (Int × Int)) (hs : Srt xs) (hu : Uw xs) (hn : xs.length ≤ 1000000)
include hs hu hn
end
theorem flP_at {l : List Pg} {k : Nat} {p : Pg} (h : l[k]? = some p) : ((flP l).drop (k * 8)).take 8 = p.vs := flat_at Pg.vs 8 (fun _ => rfl) l _ p h
theorem eq_page (w : World) (x0 x1 x2 y0 y1 y2 : Int) (r w' x u d r' w'' x' u' d' : Bool) :
    (Op.equalIn 10000 59 (.agg #[.int .u64 x0, .int .u64 x1, .int .i64 x2, .bool r, .bool w', .bool x, .bool u, .bool d]) (.agg #[.int .u64 y0, .int .u64 y1, .int .i64 y2, .bool r', .bool w'', .bool x', .bool u', .bool d'])).run Tryz.prog w = .ok (x0 == y0 && (x1 == y1 && (x2 == y2 && ((r == r' && (w' == w'' && (x == x' && (u == u' && true)))) && (d == d' && true))))) w := by
  refine PoolC4.struct_of Tryz.underlying59 (by kernel_rfl) ?_
  refine PoolC4.fields_cons (by rfl) (by go_simp; rfl) (by go_simp; rfl) (by go_simp) ?_
  refine PoolC4.fields_cons (by rfl) (by go_simp; rfl) (by go_simp; rfl) (by go_simp) ?_
  refine PoolC4.fields_cons (by rfl) (by go_simp; rfl) (by go_simp; rfl) (by go_simp) ?_
  refine PoolC4.fields_cons (a := .agg #[.bool r, .bool w', .bool x, .bool u]) (b := .agg #[.bool r', .bool w'', .bool x', .bool u']) (by rfl) (by go_simp) (by go_simp) ?_ ?_
  · refine PoolC4.struct_of Tryz.underlying27 (by kernel_rfl) ?_
    refine PoolC4.fields_cons (by rfl) (by go_simp; rfl) (by go_simp; rfl) (by go_simp) ?_
    refine PoolC4.fields_cons (by rfl) (by go_simp; rfl) (by go_simp; rfl) (by go_simp) ?_
    refine PoolC4.fields_cons (by rfl) (by go_simp; rfl) (by go_simp; rfl) (by go_simp) ?_
    exact PoolC4.fields_cons (by rfl) (by go_simp; rfl) (by go_simp; rfl) (by go_simp) PoolC4.fields_nil
  · exact PoolC4.fields_cons (by rfl) (by go_simp; rfl) (by go_simp; rfl) (by go_simp) PoolC4.fields_nil
end Go.Proofs.YtgkodncknlankaaGreatDoor.RlB
/- The abstract walk: the document's lay: Map, List. -/
namespace Go.Proofs.YtgkodncknlankaaGreatDoor.RlC
open Go.RowKit Go.Proofs.YtgkodncknlankaaGreatDoor.Bv Go.Proofs.YtgkodncknlankaaGreatDoor.VaSpec Go.Proofs.YtgkodncknlankaaGreatDoor.Base Go.Proofs.YtgkodncknlankaaGreatDoor.MemL Go.Proofs.YtgkodncknlankaaGreatDoor.RegR Go.Proofs.YtgkodncknlankaaGreatDoor.Ax Go.Proofs.YtgkodncknlankaaGreatDoor.MemC Go.Proofs.YtgkodncknlankaaGreatDoor.PutC Go.Proofs.YtgkodncknlankaaGreatDoor.MemC3 Go.Proofs.YtgkodncknlankaaGreatDoor.TzC Go.Proofs.YtgkodncknlankaaGreatDoor.OkS Go.Proofs.YtgkodncknlankaaGreatDoor.SpA Go.Proofs.YtgkodncknlankaaGreatDoor.SpB Go.Proofs.YtgkodncknlankaaGreatDoor.SpC Go.Proofs.YtgkodncknlankaaGreatDoor.SpD Go.Proofs.YtgkodncknlankaaGreatDoor.SpE Go.Proofs.YtgkodncknlankaaGreatDoor.SpF Go.Proofs.YtgkodncknlankaaGreatDoor.SpH Go.Proofs.YtgkodncknlankaaGreatDoor.SpI Go.Proofs.YtgkodncknlankaaGreatDoor.SpJ Go.Proofs.YtgkodncknlankaaGreatDoor.SpN Go.Proofs.YtgkodncknlankaaGreatDoor.SpO Go.Proofs.YtgkodncknlankaaGreatDoor.RfA Go.Proofs.YtgkodncknlankaaGreatDoor.RfB Go.Proofs.YtgkodncknlankaaGreatDoor.RfC Go.Proofs.YtgkodncknlankaaGreatDoor.RfD Go.Proofs.YtgkodncknlankaaGreatDoor.LaA Go.Proofs.YtgkodncknlankaaGreatDoor.LaB Go.Proofs.YtgkodncknlankaaGreatDoor.LaC Go.Proofs.YtgkodncknlankaaGreatDoor.LaD Go.Proofs.YtgkodncknlankaaGreatDoor.LaE Go.Proofs.YtgkodncknlankaaGreatDoor.LaF Go.Proofs.YtgkodncknlankaaGreatDoor.LaG Go.Proofs.YtgkodncknlankaaGreatDoor.RlA Go.Proofs.YtgkodncknlankaaGreatDoor.RlB
open Go.Proofs.YtgkodncknlankaaGreatDoor.BitsC Go.Proofs.YtgkodncknlankaaGreatDoor.PteSpec
set_option linter.unusedVariables false
set_option linter.unusedSimpArgs false
set_option maxRecDepth 10000
set_option maxHeartbeats 1000000
theorem listR_len (k : Kr) (id : Int) : (listR k id).length ≤ 134217728 := by
  unfold listR
  split
  · exact Nat.le_trans (pages_len1 ..) (by omega)
  · split
    · simp
    · exact pages_len2 ..
end Go.Proofs.YtgkodncknlankaaGreatDoor.RlC
/- The abstract walk: the law LayMaps' beginnings and its anchor. -/
namespace Go.Proofs.YtgkodncknlankaaGreatDoor.LaI
open Go.RowKit Go.Proofs.YtgkodncknlankaaGreatDoor.Bv Go.Proofs.YtgkodncknlankaaGreatDoor.VaSpec Go.Proofs.YtgkodncknlankaaGreatDoor.Base Go.Proofs.YtgkodncknlankaaGreatDoor.MemL Go.Proofs.YtgkodncknlankaaGreatDoor.RegR Go.Proofs.YtgkodncknlankaaGreatDoor.Ax Go.Proofs.YtgkodncknlankaaGreatDoor.MemC Go.Proofs.YtgkodncknlankaaGreatDoor.PutC Go.Proofs.YtgkodncknlankaaGreatDoor.MemC3 Go.Proofs.YtgkodncknlankaaGreatDoor.TzC Go.Proofs.YtgkodncknlankaaGreatDoor.OkS Go.Proofs.YtgkodncknlankaaGreatDoor.SpA Go.Proofs.YtgkodncknlankaaGreatDoor.SpB Go.Proofs.YtgkodncknlankaaGreatDoor.SpC Go.Proofs.YtgkodncknlankaaGreatDoor.SpD Go.Proofs.YtgkodncknlankaaGreatDoor.SpE Go.Proofs.YtgkodncknlankaaGreatDoor.SpF Go.Proofs.YtgkodncknlankaaGreatDoor.SpG Go.Proofs.YtgkodncknlankaaGreatDoor.SpH Go.Proofs.YtgkodncknlankaaGreatDoor.SpI Go.Proofs.YtgkodncknlankaaGreatDoor.SpJ Go.Proofs.YtgkodncknlankaaGreatDoor.SpK Go.Proofs.YtgkodncknlankaaGreatDoor.SpN Go.Proofs.YtgkodncknlankaaGreatDoor.RfD Go.Proofs.YtgkodncknlankaaGreatDoor.RfE Go.Proofs.YtgkodncknlankaaGreatDoor.RfJ Go.Proofs.YtgkodncknlankaaGreatDoor.RfK Go.Proofs.YtgkodncknlankaaGreatDoor.LaA Go.Proofs.YtgkodncknlankaaGreatDoor.LaB Go.Proofs.YtgkodncknlankaaGreatDoor.LaC Go.Proofs.YtgkodncknlankaaGreatDoor.LaD Go.Proofs.YtgkodncknlankaaGreatDoor.LaE Go.Proofs.YtgkodncknlankaaGreatDoor.LaF Go.Proofs.YtgkodncknlankaaGreatDoor.LaG Go.Proofs.YtgkodncknlankaaGreatDoor.LaH Go.Proofs.YtgkodncknlankaaGreatDoor.RlB Go.Proofs.YtgkodncknlankaaGreatDoor.RlC
open Go.Proofs.YtgkodncknlankaaGreatDoor.BitsC Go.Proofs.YtgkodncknlankaaGreatDoor.PteSpec
set_option linter.unusedVariables false
set_option linter.unusedSimpArgs false
set_option maxRecDepth 10000
set_option maxHeartbeats 1000000
attribute [local irreducible] Go.Proofs.YtgkodncknlankaaGreatDoor.Ax.CallOk
noncomputable def bgI (a b c : Int) (n : Nat) : Nat → Kr
  | 0 => newK a b c n
  | i + 1 => (createR (bgI a b c n i)).1
def bgH (k : Kr) (i : Nat) : St := St.of [(2, .m (.c (.p 2 0))), (3, .m (.c (.p 3 0))), (4, .m (.c (.p 4 0))), (6, .m (.c (.p 6 0))), (7, .m (ii i))] [(2, .live (.box zK)), (3, .live (.box zK)), (4, .live (.box k.ce)), (6, .live (.box k.ce))]
theorem bgI_inv {a b c : Int} {n : Nat} (h : confB a b c n = true) : ∀ i, Inv i (bgI a b c n i)
  | 0 => new_inv h
  | i + 1 => create_inv (bgI_inv h i)
theorem began_ok (a b c : Int) (n : Nat) (h : confB a b c n = true) : Ok 9 [confA a b c n] (.tu [.ag (bgK a b c n).ce, .ag (bgK a b c n).ce]) := by
  have hn := new_yes a b c n h
  have hr := rnew_ok a b c n h
  refine callOk_of 33 Tryz.func9 rfl rfl rfl rfl ?_ GG.to
  intro W A hG
  repeat (first
    | (refine go_at rfl ?_; first
        | refine go_do (valid_mv (.inl rfl) rfl) rfl ?_
        | (refine nxt_s 1 rfl ?_; refine go_do (valid_load_p tb rfl rfl rfl rfl rfl (by first | kernel_rfl | rfl)) (by first | kernel_rfl | rfl) ?_)
        | refine go_do (valid_mv (.inr rfl) rfl) rfl ?_
        | refine go_do (valid_extract rfl rfl rfl rfl) rfl ?_
        | refine go_do (valid_box rfl rfl rfl rfl rfl rfl) rfl ?_
        | refine go_do (valid_alloc rfl rfl rfl rfl rfl) rfl ?_
        | (refine nxt_s 1 rfl ?_; refine go_do (valid_store_p rfl rfl rfl rfl rfl rfl (by first | kernel_rfl | rfl) rfl) (by first | kernel_rfl | rfl) ?_)
        | refine go_do (valid_call rfl rfl rfl (hn) (by kernel_rfl)) rfl ?_
        | refine go_do (valid_call rfl rfl rfl (hr) (by kernel_rfl)) rfl ?_)
    | (refine hK _ ?_; clear hK K)
    | refine aw_text rfl ?_
    | refine aw_block ?_
    | refine aw_seq_k (fun K hK => ?_))
  refine aw_loopH (α := Nat) (fun i => i ≤ 2) (fun i => bgH (bgI a b c n i) i) (fun i => 2 - i) 0 (by omega) (sub_of _ _ ⟨by kernel_rfl, by kernel_rfl, by kernel_rfl, by kernel_rfl, by kernel_rfl, trivial⟩ ⟨by kernel_rfl, by kernel_rfl, by kernel_rfl, by kernel_rfl, trivial⟩ (by kernel_rfl)) ?_
  intro i hi
  show Aw _ _ _ _ (bgH (bgI a b c n i) i)
  unfold bgH
  by_cases hlt : i < 2
  · have hk := bgI_inv h i
    have hc := create_all hk (by omega)
    have hd := rcreate_all hk (by omega)
    have e : bgI a b c n (i + 1) = (createR (bgI a b c n i)).1 := rfl
    generalize createR (bgI a b c n i) = rr at *
    repeat (first
      | (refine go_at rfl ?_; first
          | refine go_do (valid_mv (.inl rfl) rfl) rfl ?_
          | (refine nxt_s 1 rfl ?_; refine go_do (valid_load_p tb rfl rfl rfl rfl rfl (by first | kernel_rfl | rfl)) (by first | kernel_rfl | rfl) ?_)
          | refine go_do (valid_mv (.inr rfl) rfl) rfl ?_
          | refine go_do (valid_extract rfl rfl rfl rfl) rfl ?_
          | refine go_do (valid_cmp rfl rfl rfl rfl (by first | exact .eql1 (by omega) | exact .eql0 (by omega) | exact .neq1 (by omega) | exact .neq0 (by omega) | exact .lss1 (by omega) | exact .lss0 (by omega) | exact .leq1 (by omega) | exact .leq0 (by omega) | exact .gtr1 (by omega) | exact .gtr0 (by omega) | exact .geq1 (by omega) | exact .geq0 (by omega) | constructor)) rfl ?_
          | refine go_do (valid_ar rfl rfl rfl rfl (by constructor) (by first | exact wr_u64 (by omega) (by omega) | exact wr_i64 (by omega) (by omega) | rfl)) rfl ?_
          | (refine nxt_s 1 rfl ?_; refine go_do (valid_store_p rfl rfl rfl rfl rfl rfl (by first | kernel_rfl | rfl) rfl) (by first | kernel_rfl | rfl) ?_)
          | refine go_do (valid_call rfl rfl rfl (hc) (by kernel_rfl)) rfl ?_
          | refine go_do (valid_call rfl rfl rfl (hd) (by kernel_rfl)) rfl ?_)
      | (refine hK _ ?_; clear hK K)
      | refine aw_text rfl ?_
      | refine aw_cond1 rfl rfl ?_
      | refine aw_block ?_
      | refine aw_skip ?_
      | refine aw_seq_k (fun K hK => ?_))
    refine ⟨i + 1, by omega, by omega, ?_⟩
    rw [e]
    exact sub_of _ _ ⟨by kernel_rfl, by kernel_rfl, by kernel_rfl, by kernel_rfl, by kernel_rfl, trivial⟩ ⟨by kernel_rfl, by kernel_rfl, by kernel_rfl, by kernel_rfl, trivial⟩ (by kernel_rfl)
  · obtain rfl : i = 2 := by omega
    rw [show bgI a b c n 2 = bgK a b c n from rfl]
    repeat (first
      | (refine go_at rfl ?_; first
          | refine go_do (valid_mv (.inl rfl) rfl) rfl ?_
          | (refine nxt_s 1 rfl ?_; refine go_do (valid_load_p tb rfl rfl rfl rfl rfl (by first | kernel_rfl | rfl)) (by first | kernel_rfl | rfl) ?_)
          | refine go_do (valid_cmp rfl rfl rfl rfl (by first | exact .eql1 (by omega) | exact .eql0 (by omega) | exact .neq1 (by omega) | exact .neq0 (by omega) | exact .lss1 (by omega) | exact .lss0 (by omega) | exact .leq1 (by omega) | exact .leq0 (by omega) | exact .gtr1 (by omega) | exact .gtr0 (by omega) | exact .geq1 (by omega) | exact .geq0 (by omega) | constructor)) rfl ?_
          | (refine nxt_s 1 rfl ?_; refine go_do (valid_store_p rfl rfl rfl rfl rfl rfl (by first | kernel_rfl | rfl) rfl) (by first | kernel_rfl | rfl) ?_))
      | (refine hK _ ?_; clear hK K)
      | (rename_i K1 hK1; refine hK1 _ ?_; clear hK hK1; clear K)
      | refine aw_text rfl ?_
      | refine aw_any (by kernel_rfl) (by kernel_rfl) rfl ?_
      | exact aw_ret (show resA _ _ _ = some _ by kernel_rfl)
      | refine aw_cond0 rfl rfl ?_
      | refine aw_exit ?_
      | refine aw_seq_k (fun K hK => ?_))
theorem awake_ok : Ok 7 [] (.m (ib true)) := by
  have hN : Ok 9 [confA 4 8 2 1] (.tu [.ag c2.ce, .ag c2.ce]) := by rw [← bg2]; exact began_ok 4 8 2 1 (by decide)
  have hA := map_all i2 (by omega) 0 20480 4096 0 rw2 ⟨by omega, by omega⟩ ⟨by omega, by omega⟩
  rw [mA] at hA
  have hF := map_all iA (by omega) 0 20480 0 0 rw2 ⟨by omega, by omega⟩ ⟨by omega, by omega⟩
  rw [mF] at hF
  have hG2 := map_all iA (by omega) 1 20480 16384 0 rw2 ⟨by omega, by omega⟩ ⟨by omega, by omega⟩
  rw [mG] at hG2
  have hH := map_all iA (by omega) 1 20480 0 0 ⟨false, true, false, false⟩ ⟨by omega, by omega⟩ ⟨by omega, by omega⟩
  rw [mH] at hH
  have hI := map_all iA (by omega) (-1) 18446744073709547520 0 0 rw2 ⟨by omega, by omega⟩ ⟨by omega, by omega⟩
  rw [mI] at hI
  have hJ := map_all i2 (by omega) 0 1073762304 0 0 ⟨false, false, false, false⟩ ⟨by omega, by omega⟩ ⟨by omega, by omega⟩
  rw [mJ] at hJ
  have hL := list_all iB (by omega) 0
  rw [lA] at hL
  have hM := list_all iB (by omega) (-1)
  rw [lB] at hM
  have hO := list_all iB (by omega) 1
  rw [lC] at hO
  have hP := list_all iB (by omega) 9
  rw [lD] at hP
  have hx : ((flP [⟨20480, 4096, 0, true, true, false, false, false⟩]).drop ((0 : Int).toNat * 8)).take 8 = [.int .u64 20480, .int .u64 4096, .int .i64 0, .bool true, .bool true, .bool false, .bool false, .bool false] := rfl
  have hy : ((flP [⟨18446744073709547520, 0, 0, true, true, false, false, false⟩]).drop ((0 : Int).toNat * 8)).take 8 = [.int .u64 18446744073709547520, .int .u64 0, .int .i64 0, .bool true, .bool true, .bool false, .bool false, .bool false] := rfl
  have he : ∀ w, (Op.equalIn 10000 59 (.agg #[.int .u64 20480, .int .u64 4096, .int .i64 0, .bool true, .bool true, .bool false, .bool false, .bool false]) (.agg #[.int .u64 20480, .int .u64 4096, .int .i64 0, .bool true, .bool true, .bool false, .bool false, .bool false])).run Tryz.prog w = .ok true w := fun w => by rw [eq_page]; simp
  refine callOk_of 129 Tryz.func7 rfl rfl rfl rfl ?_ GG.to
  intro W A hG
  repeat (first
    | (refine go_at rfl ?_; first
        | refine go_do (valid_mv (.inr rfl) rfl) rfl ?_)
    | refine aw_text rfl ?_
    | refine aw_seq_k (fun K hK => ?_))
  first
    | (refine hK _ ?_; clear hK K)
    | (rename_i K1 hK1; refine hK1 _ ?_; clear hK hK1; clear K)
    | (rename_i K1 hK1; refine hK1 _ ?_; clear hK1)
  repeat (first
    | (refine go_at rfl ?_; first
        | refine go_do (valid_mv (.inl rfl) rfl) rfl ?_
        | refine go_do (valid_extract rfl rfl rfl rfl) rfl ?_
        | refine go_do (valid_alloc rfl rfl rfl rfl rfl) rfl ?_
        | (refine nxt_s 1 rfl ?_; refine go_do (valid_store_p rfl rfl rfl rfl rfl rfl (by first | kernel_rfl | rfl) rfl) (by first | kernel_rfl | rfl) ?_)
        | refine go_do (valid_build rfl rfl rfl rfl) rfl ?_
        | refine go_do (valid_call rfl rfl rfl (hN) (by kernel_rfl)) rfl ?_)
    | refine aw_text rfl ?_
    | refine aw_seq_k (fun K hK => ?_))
  first
    | (refine hK _ ?_; clear hK K)
    | (rename_i K1 hK1; refine hK1 _ ?_; clear hK hK1; clear K)
    | (rename_i K1 hK1; refine hK1 _ ?_; clear hK1)
  refine aw_sub (sub_of [(1, .m (.c (.p 1 0)))] [(1, .live (.box c2.ce))] ⟨by kernel_rfl, trivial⟩ ⟨by kernel_rfl, trivial⟩ (by kernel_rfl)) ?_
  repeat (first
    | (refine go_at rfl ?_; first
        | refine go_do (valid_alloc rfl rfl rfl rfl rfl) rfl ?_
        | (refine nxt_s 1 rfl ?_; refine go_do (valid_store_p rfl rfl rfl rfl rfl rfl (by first | kernel_rfl | rfl) rfl) (by first | kernel_rfl | rfl) ?_)
        | refine go_do (valid_build rfl rfl rfl rfl) rfl ?_)
    | refine aw_text rfl ?_
    | refine aw_seq_k (fun K hK => ?_))
  first
    | (refine hK _ ?_; clear hK K)
    | (rename_i K1 hK1; refine hK1 _ ?_; clear hK hK1; clear K)
    | (rename_i K1 hK1; refine hK1 _ ?_; clear hK1)
  refine aw_sub (sub_of [(1, .m (.c (.p 1 0))), (3, .m (.c (.p 3 0)))] [(1, .live (.box c2.ce)), (3, .live (.box rw2.ce))] ⟨by kernel_rfl, by kernel_rfl, trivial⟩ ⟨by kernel_rfl, by kernel_rfl, trivial⟩ (by kernel_rfl)) ?_
  repeat (first
    | (refine go_at rfl ?_; first
        | refine go_do (valid_mv (.inl rfl) rfl) rfl ?_
        | (refine nxt_s 1 rfl ?_; refine go_do (valid_load_p tb rfl rfl rfl rfl rfl (by first | kernel_rfl | rfl)) (by first | kernel_rfl | rfl) ?_)
        | refine go_do (valid_mv (.inr rfl) rfl) rfl ?_
        | refine go_do (valid_extract rfl rfl rfl rfl) rfl ?_
        | refine go_do (valid_alloc rfl rfl rfl rfl rfl) rfl ?_
        | (refine nxt_s 1 rfl ?_; refine go_do (valid_store_p rfl rfl rfl rfl rfl rfl (by first | kernel_rfl | rfl) rfl) (by first | kernel_rfl | rfl) ?_)
        | refine go_do (valid_call rfl rfl rfl (hA) (by kernel_rfl)) rfl ?_)
    | refine aw_text rfl ?_
    | refine aw_seq_k (fun K hK => ?_))
  first
    | (refine hK _ ?_; clear hK K)
    | (rename_i K1 hK1; refine hK1 _ ?_; clear hK hK1; clear K)
    | (rename_i K1 hK1; refine hK1 _ ?_; clear hK1)
  refine aw_sub (sub_of [(1, .m (.c (.p 1 0))), (3, .m (.c (.p 3 0))), (4, .m (.c (.p 4 0))), (5, .m (ii 0))] [(1, .live (.box c2.ce)), (3, .live (.box rw2.ce)), (4, .live (.box cA.ce))] ⟨by kernel_rfl, by kernel_rfl, by kernel_rfl, by kernel_rfl, trivial⟩ ⟨by kernel_rfl, by kernel_rfl, by kernel_rfl, trivial⟩ (by kernel_rfl)) ?_
  repeat (first
    | (refine go_at rfl ?_; first
        | refine go_do (valid_mv (.inl rfl) rfl) rfl ?_
        | (refine nxt_s 1 rfl ?_; refine go_do (valid_load_p tb rfl rfl rfl rfl rfl (by first | kernel_rfl | rfl)) (by first | kernel_rfl | rfl) ?_)
        | refine go_do (valid_mv (.inr rfl) rfl) rfl ?_
        | refine go_do (valid_extract rfl rfl rfl rfl) rfl ?_
        | refine go_do (valid_alloc rfl rfl rfl rfl rfl) rfl ?_
        | (refine nxt_s 1 rfl ?_; refine go_do (valid_store_p rfl rfl rfl rfl rfl rfl (by first | kernel_rfl | rfl) rfl) (by first | kernel_rfl | rfl) ?_)
        | refine go_do (valid_call rfl rfl rfl (hF) (by kernel_rfl)) rfl ?_)
    | refine aw_text rfl ?_
    | refine aw_seq_k (fun K hK => ?_))
  first
    | (refine hK _ ?_; clear hK K)
    | (rename_i K1 hK1; refine hK1 _ ?_; clear hK hK1; clear K)
    | (rename_i K1 hK1; refine hK1 _ ?_; clear hK1)
  refine aw_sub (sub_of [(1, .m (.c (.p 1 0))), (3, .m (.c (.p 3 0))), (4, .m (.c (.p 4 0))), (5, .m (ii 0)), (7, .m (ii 6))] [(1, .live (.box c2.ce)), (3, .live (.box rw2.ce)), (4, .live (.box cA.ce))] ⟨by kernel_rfl, by kernel_rfl, by kernel_rfl, by kernel_rfl, by kernel_rfl, trivial⟩ ⟨by kernel_rfl, by kernel_rfl, by kernel_rfl, trivial⟩ (by kernel_rfl)) ?_
  repeat (first
    | (refine go_at rfl ?_; first
        | refine go_do (valid_mv (.inl rfl) rfl) rfl ?_
        | (refine nxt_s 1 rfl ?_; refine go_do (valid_load_p tb rfl rfl rfl rfl rfl (by first | kernel_rfl | rfl)) (by first | kernel_rfl | rfl) ?_)
        | refine go_do (valid_mv (.inr rfl) rfl) rfl ?_
        | refine go_do (valid_extract rfl rfl rfl rfl) rfl ?_
        | refine go_do (valid_alloc rfl rfl rfl rfl rfl) rfl ?_
        | (refine nxt_s 1 rfl ?_; refine go_do (valid_store_p rfl rfl rfl rfl rfl rfl (by first | kernel_rfl | rfl) rfl) (by first | kernel_rfl | rfl) ?_)
        | refine go_do (valid_call rfl rfl rfl (hG2) (by kernel_rfl)) rfl ?_)
    | refine aw_text rfl ?_
    | refine aw_seq_k (fun K hK => ?_))
  first
    | (refine hK _ ?_; clear hK K)
    | (rename_i K1 hK1; refine hK1 _ ?_; clear hK hK1; clear K)
    | (rename_i K1 hK1; refine hK1 _ ?_; clear hK1)
  refine aw_sub (sub_of [(1, .m (.c (.p 1 0))), (3, .m (.c (.p 3 0))), (4, .m (.c (.p 4 0))), (5, .m (ii 0)), (7, .m (ii 6)), (9, .m (ii 3))] [(1, .live (.box c2.ce)), (3, .live (.box rw2.ce)), (4, .live (.box cA.ce))] ⟨by kernel_rfl, by kernel_rfl, by kernel_rfl, by kernel_rfl, by kernel_rfl, by kernel_rfl, trivial⟩ ⟨by kernel_rfl, by kernel_rfl, by kernel_rfl, trivial⟩ (by kernel_rfl)) ?_
  repeat (first
    | (refine go_at rfl ?_; first
        | refine go_do (valid_mv (.inl rfl) rfl) rfl ?_
        | (refine nxt_s 1 rfl ?_; refine go_do (valid_load_p tb rfl rfl rfl rfl rfl (by first | kernel_rfl | rfl)) (by first | kernel_rfl | rfl) ?_)
        | refine go_do (valid_mv (.inr rfl) rfl) rfl ?_
        | refine go_do (valid_extract rfl rfl rfl rfl) rfl ?_
        | refine go_do (valid_alloc rfl rfl rfl rfl rfl) rfl ?_
        | (refine nxt_s 1 rfl ?_; refine go_do (valid_store_p rfl rfl rfl rfl rfl rfl (by first | kernel_rfl | rfl) rfl) (by first | kernel_rfl | rfl) ?_)
        | refine go_do (valid_build rfl rfl rfl rfl) rfl ?_
        | refine go_do (valid_call rfl rfl rfl (hH) (by kernel_rfl)) rfl ?_)
    | refine aw_text rfl ?_
    | refine aw_seq_k (fun K hK => ?_))
  first
    | (refine hK _ ?_; clear hK K)
    | (rename_i K1 hK1; refine hK1 _ ?_; clear hK hK1; clear K)
    | (rename_i K1 hK1; refine hK1 _ ?_; clear hK1)
  refine aw_sub (sub_of [(1, .m (.c (.p 1 0))), (3, .m (.c (.p 3 0))), (4, .m (.c (.p 4 0))), (5, .m (ii 0)), (7, .m (ii 6)), (9, .m (ii 3)), (11, .m (ii 5))] [(1, .live (.box c2.ce)), (3, .live (.box rw2.ce)), (4, .live (.box cA.ce))] ⟨by kernel_rfl, by kernel_rfl, by kernel_rfl, by kernel_rfl, by kernel_rfl, by kernel_rfl, by kernel_rfl, trivial⟩ ⟨by kernel_rfl, by kernel_rfl, by kernel_rfl, trivial⟩ (by kernel_rfl)) ?_
  repeat (first
    | (refine go_at rfl ?_; first
        | refine go_do (valid_mv (.inl rfl) rfl) rfl ?_
        | (refine nxt_s 1 rfl ?_; refine go_do (valid_load_p tb rfl rfl rfl rfl rfl (by first | kernel_rfl | rfl)) (by first | kernel_rfl | rfl) ?_)
        | refine go_do (valid_mv (.inr rfl) rfl) rfl ?_
        | refine go_do (valid_extract rfl rfl rfl rfl) rfl ?_
        | refine go_do (valid_alloc rfl rfl rfl rfl rfl) rfl ?_
        | (refine nxt_s 1 rfl ?_; refine go_do (valid_store_p rfl rfl rfl rfl rfl rfl (by first | kernel_rfl | rfl) rfl) (by first | kernel_rfl | rfl) ?_)
        | refine go_do (valid_call rfl rfl rfl (hI) (by kernel_rfl)) rfl ?_)
    | refine aw_text rfl ?_
    | refine aw_seq_k (fun K hK => ?_))
  first
    | (refine hK _ ?_; clear hK K)
    | (rename_i K1 hK1; refine hK1 _ ?_; clear hK hK1; clear K)
    | (rename_i K1 hK1; refine hK1 _ ?_; clear hK1)
  refine aw_sub (sub_of [(1, .m (.c (.p 1 0))), (3, .m (.c (.p 3 0))), (4, .m (.c (.p 4 0))), (5, .m (ii 0)), (7, .m (ii 6)), (9, .m (ii 3)), (11, .m (ii 5)), (12, .m (.c (.p 12 0))), (13, .m (ii 0))] [(1, .live (.box c2.ce)), (3, .live (.box rw2.ce)), (4, .live (.box cA.ce)), (12, .live (.box cB.ce))] ⟨by kernel_rfl, by kernel_rfl, by kernel_rfl, by kernel_rfl, by kernel_rfl, by kernel_rfl, by kernel_rfl, by kernel_rfl, by kernel_rfl, trivial⟩ ⟨by kernel_rfl, by kernel_rfl, by kernel_rfl, by kernel_rfl, trivial⟩ (by kernel_rfl)) ?_
  repeat (first
    | (refine go_at rfl ?_; first
        | refine go_do (valid_mv (.inl rfl) rfl) rfl ?_
        | (refine nxt_s 1 rfl ?_; refine go_do (valid_load_p tb rfl rfl rfl rfl rfl (by first | kernel_rfl | rfl)) (by first | kernel_rfl | rfl) ?_)
        | refine go_do (valid_mv (.inr rfl) rfl) rfl ?_
        | refine go_do (valid_extract rfl rfl rfl rfl) rfl ?_
        | refine go_do (valid_alloc rfl rfl rfl rfl rfl) rfl ?_
        | (refine nxt_s 1 rfl ?_; refine go_do (valid_store_p rfl rfl rfl rfl rfl rfl (by first | kernel_rfl | rfl) rfl) (by first | kernel_rfl | rfl) ?_)
        | refine go_do (valid_build rfl rfl rfl rfl) rfl ?_
        | refine go_do (valid_call rfl rfl rfl (hJ) (by kernel_rfl)) rfl ?_)
    | refine aw_text rfl ?_
    | refine aw_seq_k (fun K hK => ?_))
  first
    | (refine hK _ ?_; clear hK K)
    | (rename_i K1 hK1; refine hK1 _ ?_; clear hK hK1; clear K)
    | (rename_i K1 hK1; refine hK1 _ ?_; clear hK1)
  refine aw_sub (sub_of [(1, .m (.c (.p 1 0))), (3, .m (.c (.p 3 0))), (4, .m (.c (.p 4 0))), (5, .m (ii 0)), (7, .m (ii 6)), (9, .m (ii 3)), (11, .m (ii 5)), (12, .m (.c (.p 12 0))), (13, .m (ii 0)), (15, .m (ii 5))] [(1, .live (.box c2.ce)), (3, .live (.box rw2.ce)), (4, .live (.box cA.ce)), (12, .live (.box cB.ce))] ⟨by kernel_rfl, by kernel_rfl, by kernel_rfl, by kernel_rfl, by kernel_rfl, by kernel_rfl, by kernel_rfl, by kernel_rfl, by kernel_rfl, by kernel_rfl, trivial⟩ ⟨by kernel_rfl, by kernel_rfl, by kernel_rfl, by kernel_rfl, trivial⟩ (by kernel_rfl)) ?_
  repeat (first
    | (refine go_at rfl ?_; first
        | (refine nxt_s 1 rfl ?_; refine go_do (valid_load_p tb rfl rfl rfl rfl rfl (by first | kernel_rfl | rfl)) (by first | kernel_rfl | rfl) ?_)
        | refine go_do (valid_mv (.inr rfl) rfl) rfl ?_
        | refine go_do (valid_call rfl rfl rfl (hL) (by kernel_rfl)) rfl ?_)
    | refine aw_text rfl ?_
    | refine aw_seq_k (fun K hK => ?_))
  first
    | (refine hK _ ?_; clear hK K)
    | (rename_i K1 hK1; refine hK1 _ ?_; clear hK hK1; clear K)
    | (rename_i K1 hK1; refine hK1 _ ?_; clear hK1)
  refine aw_sub (sub_of [(1, .m (.c (.p 1 0))), (3, .m (.c (.p 3 0))), (4, .m (.c (.p 4 0))), (5, .m (ii 0)), (7, .m (ii 6)), (9, .m (ii 3)), (11, .m (ii 5)), (12, .m (.c (.p 12 0))), (13, .m (ii 0)), (15, .m (ii 5)), (16, .m (.c (.s 1 8 (flP [⟨20480, 4096, 0, true, true, false, false, false⟩]))))] [(1, .live (.box c2.ce)), (3, .live (.box rw2.ce)), (4, .live (.box cA.ce)), (12, .live (.box cB.ce))] ⟨by kernel_rfl, by kernel_rfl, by kernel_rfl, by kernel_rfl, by kernel_rfl, by kernel_rfl, by kernel_rfl, by kernel_rfl, by kernel_rfl, by kernel_rfl, by kernel_rfl, trivial⟩ ⟨by kernel_rfl, by kernel_rfl, by kernel_rfl, by kernel_rfl, trivial⟩ (by kernel_rfl)) ?_
  repeat (first
    | (refine go_at rfl ?_; first
        | (refine nxt_s 1 rfl ?_; refine go_do (valid_load_p tb rfl rfl rfl rfl rfl (by first | kernel_rfl | rfl)) (by first | kernel_rfl | rfl) ?_)
        | refine go_do (valid_mv (.inr rfl) rfl) rfl ?_
        | refine go_do (valid_call rfl rfl rfl (hM) (by kernel_rfl)) rfl ?_)
    | refine aw_text rfl ?_
    | refine aw_seq_k (fun K hK => ?_))
  first
    | (refine hK _ ?_; clear hK K)
    | (rename_i K1 hK1; refine hK1 _ ?_; clear hK hK1; clear K)
    | (rename_i K1 hK1; refine hK1 _ ?_; clear hK1)
  refine aw_sub (sub_of [(1, .m (.c (.p 1 0))), (3, .m (.c (.p 3 0))), (4, .m (.c (.p 4 0))), (5, .m (ii 0)), (7, .m (ii 6)), (9, .m (ii 3)), (11, .m (ii 5)), (12, .m (.c (.p 12 0))), (13, .m (ii 0)), (15, .m (ii 5)), (16, .m (.c (.s 1 8 (flP [⟨20480, 4096, 0, true, true, false, false, false⟩])))), (17, .m (.c (.s 1 8 (flP [⟨18446744073709547520, 0, 0, true, true, false, false, false⟩]))))] [(1, .live (.box c2.ce)), (3, .live (.box rw2.ce)), (4, .live (.box cA.ce)), (12, .live (.box cB.ce))] ⟨by kernel_rfl, by kernel_rfl, by kernel_rfl, by kernel_rfl, by kernel_rfl, by kernel_rfl, by kernel_rfl, by kernel_rfl, by kernel_rfl, by kernel_rfl, by kernel_rfl, by kernel_rfl, trivial⟩ ⟨by kernel_rfl, by kernel_rfl, by kernel_rfl, by kernel_rfl, trivial⟩ (by kernel_rfl)) ?_
  repeat (first
    | (refine go_at rfl ?_; first
        | refine go_do (valid_mv (.inl rfl) rfl) rfl ?_
        | (refine nxt_s 1 rfl ?_; refine go_do (valid_load_p tb rfl rfl rfl rfl rfl (by first | kernel_rfl | rfl)) (by first | kernel_rfl | rfl) ?_)
        | (refine nxt_s 1 rfl ?_; refine go_do (valid_fld_p tb rfl rfl rfl (by kernel_rfl)) rfl ?_)
        | refine go_do (valid_mv (.inr rfl) rfl) rfl ?_
        | refine go_do (valid_pick rfl rfl rfl) rfl ?_
        | refine go_do (valid_cmp rfl rfl rfl rfl (by first | exact .eql1 (by omega) | exact .eql0 (by omega) | exact .neq1 (by omega) | exact .neq0 (by omega) | exact .lss1 (by omega) | exact .lss0 (by omega) | exact .leq1 (by omega) | exact .leq0 (by omega) | exact .gtr1 (by omega) | exact .gtr0 (by omega) | exact .geq1 (by omega) | exact .geq0 (by omega) | constructor)) rfl ?_
        | refine go_do (valid_len_s rfl rfl rfl rfl) rfl ?_
        | (refine nxt_s 3 rfl ?_; refine go_do (valid_load_q tb rfl rfl rfl rfl (by first | kernel_rfl | rfl)) rfl ?_)
        | (refine nxt_s 3 rfl ?_; refine go_do (valid_fld_q tb rfl rfl rfl rfl) rfl ?_)
        | refine go_do (valid_build rfl rfl rfl rfl) rfl ?_
        | (refine nxt_s 4 rfl ?_; refine go_do (valid_idx_s rfl rfl rfl rfl rfl rfl (by omega) (by omega) _ (by assumption)) rfl ?_)
        | (refine nxt_dst 113 rfl ?_; refine go_do (valid_call rfl rfl rfl (hO) (by kernel_rfl)) rfl ?_)
        | (refine nxt_dst 119 rfl ?_; refine go_do (valid_call rfl rfl rfl (hP) (by kernel_rfl)) rfl ?_)
        | refine go_do (valid_eql (us := [.int .u64 20480, .int .u64 4096, .int .i64 0, .bool true, .bool true, .bool false, .bool false, .bool false]) (vs := [.int .u64 20480, .int .u64 4096, .int .i64 0, .bool true, .bool true, .bool false, .bool false, .bool false]) he (by kernel_rfl) rfl rfl rfl rfl) rfl ?_)
    | (refine hK _ ?_; clear hK K)
    | refine aw_any (by kernel_rfl) (by kernel_rfl) rfl ?_
    | exact aw_ret (show resA _ _ _ = some _ by kernel_rfl)
    | refine aw_seq_k (fun K hK => ?_))
end Go.Proofs.YtgkodncknlankaaGreatDoor.LaI
/- The abstract walk: the laws LayKeeps and LayMaps. -/
namespace Go.Proofs.YtgkodncknlankaaGreatDoor.LaJ
open Go.RowKit Go.Proofs.YtgkodncknlankaaGreatDoor.Bv Go.Proofs.YtgkodncknlankaaGreatDoor.VaSpec Go.Proofs.YtgkodncknlankaaGreatDoor.Base Go.Proofs.YtgkodncknlankaaGreatDoor.MemL Go.Proofs.YtgkodncknlankaaGreatDoor.RegR Go.Proofs.YtgkodncknlankaaGreatDoor.Ax Go.Proofs.YtgkodncknlankaaGreatDoor.MemC Go.Proofs.YtgkodncknlankaaGreatDoor.PutC Go.Proofs.YtgkodncknlankaaGreatDoor.MemC3 Go.Proofs.YtgkodncknlankaaGreatDoor.TzC Go.Proofs.YtgkodncknlankaaGreatDoor.OkS Go.Proofs.YtgkodncknlankaaGreatDoor.SpA Go.Proofs.YtgkodncknlankaaGreatDoor.SpB Go.Proofs.YtgkodncknlankaaGreatDoor.SpC Go.Proofs.YtgkodncknlankaaGreatDoor.SpD Go.Proofs.YtgkodncknlankaaGreatDoor.SpE Go.Proofs.YtgkodncknlankaaGreatDoor.SpF Go.Proofs.YtgkodncknlankaaGreatDoor.SpG Go.Proofs.YtgkodncknlankaaGreatDoor.SpH Go.Proofs.YtgkodncknlankaaGreatDoor.SpI Go.Proofs.YtgkodncknlankaaGreatDoor.SpJ Go.Proofs.YtgkodncknlankaaGreatDoor.SpK Go.Proofs.YtgkodncknlankaaGreatDoor.SpN Go.Proofs.YtgkodncknlankaaGreatDoor.RfD Go.Proofs.YtgkodncknlankaaGreatDoor.RfE Go.Proofs.YtgkodncknlankaaGreatDoor.LaA Go.Proofs.YtgkodncknlankaaGreatDoor.LaB Go.Proofs.YtgkodncknlankaaGreatDoor.LaC Go.Proofs.YtgkodncknlankaaGreatDoor.LaD Go.Proofs.YtgkodncknlankaaGreatDoor.LaE Go.Proofs.YtgkodncknlankaaGreatDoor.LaF Go.Proofs.YtgkodncknlankaaGreatDoor.LaG Go.Proofs.YtgkodncknlankaaGreatDoor.LaH Go.Proofs.YtgkodncknlankaaGreatDoor.LaI Go.Proofs.YtgkodncknlankaaGreatDoor.RlB Go.Proofs.YtgkodncknlankaaGreatDoor.RlC
open Go.Proofs.YtgkodncknlankaaGreatDoor.BitsC Go.Proofs.YtgkodncknlankaaGreatDoor.PteSpec
set_option linter.unusedVariables false
set_option linter.unusedSimpArgs false
set_option maxRecDepth 10000
set_option maxHeartbeats 1000000
attribute [local irreducible] Go.Proofs.YtgkodncknlankaaGreatDoor.Ax.CallOk
/-- a page that is asked for -/
structure Rq where
  id : Int
  va : Int
  pa : Int
  lev : Int
  p : Pm
deriving DecidableEq
def Rq.ce (q : Rq) : List Ce := [ci q.id, cu q.va, cu q.pa, ci q.lev, cb q.p.r, cb q.p.w, cb q.p.x, cb q.p.u]
def Rq.vs (q : Rq) : List Value := [.int .i64 q.id, .int .u64 q.va, .int .u64 q.pa, .int .i64 q.lev, .bool q.p.r, .bool q.p.w, .bool q.p.x, .bool q.p.u]
def UQ (q : Rq) : Prop := U q.va ∧ U q.pa
def flQ (l : List Rq) : List Value := l.flatMap Rq.vs
theorem flQ_at {l : List Rq} {k : Nat} {q : Rq} (h : l[k]? = some q) : ((flQ l).drop (k * 8)).take 8 = [.int .i64 q.id, .int .u64 q.va, .int .u64 q.pa, .int .i64 q.lev, .bool q.p.r, .bool q.p.w, .bool q.p.x, .bool q.p.u] := flat_at Rq.vs 8 (fun _ => rfl) l _ q h
def mq (k : Kr) (q : Rq) : Kr × Int := mapR k q.id q.va q.pa q.lev q.p
theorem mq_ok {n : Nat} {k : Kr} (h : InvL n k) (hn : n ≤ 90000) (q : Rq) (hq : UQ q) : Ok 10 [.ag k.ce, ii q.id, iu q.va, iu q.pa, ii q.lev, .ag q.p.ce] (.tu [.ag (mq k q).1.ce, ii (mq k q).2]) := map_all h hn q.id q.va q.pa q.lev q.p hq.1 hq.2
end Go.Proofs.YtgkodncknlankaaGreatDoor.LaJ
/- Arguments opened (structs by value), and all arguments read again where nothing below has changed. -/
namespace Go.Proofs.YtgkodncknlankaaGreatDoor.Open
open Go.RowKit Go.WideShapes Go.ChangeShapes Go.Proofs.YtgkodncknlankaaGreatDoor.Base
set_option linter.unusedVariables false
set_option linter.unusedSimpArgs false
set_option maxRecDepth 10000
section
variable {H : Type} {enc : TypeId × Value → H} {P : Program}
theorem keepAll (hl : laidOutB P = true) {W W' : World} (hb : Below W.heap.size W W') : ∀ {ts : List TypeId} {vs : List Value} {ds : List (DataW H)} {ps : List MemPlace},
    (ts.all fun t => P.readableRec t && decide (t < P.types.size)) = true → DataW.TrodAll enc P W 0 (fun _ => true) true ts vs ds ps → DataW.TrodAll enc P W' 0 (fun b => decide (b < W.heap.size)) true ts vs ds ps
  | [], [], [], _, _, h => h
  | t :: ts, v :: vs, d :: ds, ps, ht, ⟨a, b, h1, h2, e⟩ => by
    simp only [List.all_cons, Bool.and_eq_true, decide_eq_true_eq] at ht
    have h1' := h1
    obtain ⟨n, hn⟩ := h1
    exact ⟨a, b, Below.trod hl ht.1.1 ht.1.2 h1' hb (fun x hx => DataW.trod_lt n t _ _ hn x hx), keepAll hl hb ht.2 h2, e⟩
end
section
variable {H : Type} {enc : TypeId × Value → H} {W : World} {base b0 : Nat} {sp : Nat → Bool} {held : Bool} {n : Nat} {r : Reach}
theorem cell_bool {c : Value} {x : Option (DataW H × List MemPlace)} {y : DataW H × List MemPlace} (h : DataW.trod enc Tryz.prog W base sp held n 4 [c] = x) (hx : x = some y) : ∃ b, c = .bool b := by
  rw [hx] at h
  obtain ⟨b, e, _⟩ := DataW.trod_bool Tryz.underlying4 h
  exact ⟨b, by simpa using e⟩
theorem cell_u64 {c : Value} {x : Option (DataW H × List MemPlace)} {y : DataW H × List MemPlace} (h : DataW.trod enc Tryz.prog W base sp held n 25 [c] = x) (hx : x = some y) : ∃ a, c = .int .u64 a ∧ U a := by
  rw [hx] at h
  obtain ⟨b, e, _, wf⟩ := DataW.trod_int Tryz.underlying25 h
  exact ⟨b, by simpa using e, U.of wf⟩
theorem cell_int {c : Value} {x : Option (DataW H × List MemPlace)} {y : DataW H × List MemPlace} (h : DataW.trod enc Tryz.prog W base sp held n 3 [c] = x) (hx : x = some y) : ∃ a, c = .int .i64 a ∧ (-9223372036854775808 ≤ a ∧ a ≤ 9223372036854775807) := by
  rw [hx] at h
  obtain ⟨b, e, _, wf⟩ := DataW.trod_int Tryz.underlying3 h
  refine ⟨b, by simpa using e, ?_⟩
  simp [Lit.wf, IntKind.min, IntKind.max, IntKind.bits, IntKind.signed] at wf; omega
theorem some_of {α : Type} {xs : List α} {m i : Nat} (h : xs.length = m) (hi : i < m) : ∃ y, xs[i]? = some y := ⟨xs[i]'(by omega), List.getElem?_eq_getElem _⟩
end
end Go.Proofs.YtgkodncknlankaaGreatDoor.Open
/- What the program's text lays ahead of the call; arguments opened: configurations, pages that are asked for. -/
namespace Go.Proofs.YtgkodncknlankaaGreatDoor.Laid
open Go.ChangeShapes Go.WideShapes Go.ChangeAt Go.RowKit Go.Proofs.YtgkodncknlankaaGreatDoor.Ax Go.Proofs.YtgkodncknlankaaGreatDoor.OkS Go.Proofs.YtgkodncknlankaaGreatDoor.LaJ Go.Proofs.YtgkodncknlankaaGreatDoor.MemL
set_option linter.unusedVariables false
set_option linter.unusedSimpArgs false
set_option maxRecDepth 10000
def laidS : List (String × DataW Unit) := [("atlas/va.sizes", Rows.laid_atlas_va_sizes), ("math/bits.deBruijn64tab", Rows.laid_math_bits_deBruijn64tab), ("atlas/fence.asks", Rows.laid_atlas_fence_asks)]
theorem g_sizes : Tryz.prog.globalNamed "atlas/va.sizes" = some 0 := by kernel_rfl
theorem g_tab : Tryz.prog.globalNamed "math/bits.deBruijn64tab" = some 1 := by kernel_rfl
theorem g_asks : Tryz.prog.globalNamed "atlas/fence.asks" = some 2 := by kernel_rfl
theorem t_sizes : (Tryz.prog.globals[0]?).map (·.type) = some 151 := by kernel_rfl
theorem t_tab : (Tryz.prog.globals[1]?).map (·.type) = some 209 := by kernel_rfl
theorem t_asks : (Tryz.prog.globals[2]?).map (·.type) = some 228 := by kernel_rfl
theorem gg_of_laid {W : World} (h : laidMetH Tryz.prog laidS W) : GG W := by
  have hp := (show laidMet Tryz.prog _ W ∧ handlesMet Tryz.prog _ W from h).1
  obtain ⟨ps, ⟨g1, t1, cs1, f1, p1, q1, hg1, ht1, hv1, hd1, hr, _⟩, _, _⟩ := hp
  obtain ⟨g2, t2, cs2, f2, p2, q2, hg2, ht2, hv2, hd2, _, _⟩ := hr
  obtain rfl := Option.some.inj (g_sizes.symm.trans hg1)
  obtain rfl := Option.some.inj (t_sizes.symm.trans ht1)
  obtain rfl := Option.some.inj (g_tab.symm.trans hg2)
  obtain rfl := Option.some.inj (t_tab.symm.trans ht2)
  have e1 := Lib.cells_of_tab (k := .u64) (zs := [4096, 2097152, 1073741824]) Tryz.underlying151 Tryz.underlying25 (by kernel_rfl) (by kernel_rfl) hd1
  have e2 := Lib.cells_of_tab (k := .u8) (zs := List.map (fun n : Nat => (n : Int)) Lib.deBruijn64tab) Tryz.underlying209 Tryz.underlying5 (by kernel_rfl) (by kernel_rfl) hd2
  obtain ⟨g, t, cs, fuel, p, hg, ht, hv, hd⟩ := h.funcs (n := "atlas/fence.asks") (List.mem_cons_of_mem _ (List.mem_cons_of_mem _ (List.mem_cons_self ..)))
  obtain rfl := Option.some.inj (g_asks.symm.trans hg)
  obtain rfl := Option.some.inj (t_asks.symm.trans ht)
  have hd' : DataW.trod (funcToken Tryz.prog) Tryz.prog W 0 (fun _ => true) true fuel 228 cs.toList = some (.slice [.held [40, 97, 116, 108, 97, 115, 47, 102, 101, 110, 99, 101, 46, 102, 111, 114, 109, 41, 46, 97, 100, 100, 114], .held [40, 97, 116, 108, 97, 115, 47, 102, 101, 110, 99, 101, 46, 102, 111, 114, 109, 41, 46, 97, 115, 105, 100]] [], p) := hd
  obtain ⟨a, cap, hcs, _, hel⟩ := open_row Tryz.underlying228 (by kernel_rfl) hd'
  obtain ⟨v0, n0, q0, hc0, hr0⟩ := hel 0 _ rfl
  obtain ⟨v1, n1, q1', hc1, hr1⟩ := hel 1 _ rfl
  obtain rfl := func_of_trod (f0 := 205) Tryz.underlying229 (by kernel_rfl) hr0
  obtain rfl := func_of_trod (f0 := 207) Tryz.underlying229 (by kernel_rfl) hr1
  obtain ⟨b, off, spot⟩ := a
  have hspot : spot = none := by simpa [Addr.add] using World.cell?_spot hc0
  subst hspot
  have c1 : ∀ i, W.cell? ⟨0, i, none⟩ = cs1[i]? := fun i => by simpa using World.var?_cell hg1 hv1 i
  have c2 : ∀ i, W.cell? ⟨1, i, none⟩ = cs2[i]? := fun i => by simpa using World.var?_cell hg2 hv2 i
  have c3 : ∀ i, W.cell? ⟨2, i, none⟩ = cs[i]? := fun i => by simpa using World.var?_cell hg hv i
  refine ⟨⟨?_, ?_, ?_⟩, fun j hj => ?_, b, off, cap, ?_, by simpa [Addr.add, askF] using hc0, by simpa [Addr.add, askF] using hc1⟩
  · rw [c1, ← Array.getElem?_toList, e1]; rfl
  · rw [c1, ← Array.getElem?_toList, e1]; rfl
  · rw [c1, ← Array.getElem?_toList, e1]; rfl
  · rw [c2, ← Array.getElem?_toList, e2]
    simp [List.getD, hj]
  · rw [c3, ← Array.getElem?_toList, hcs]; rfl
section
variable {H : Type} {enc : TypeId × Value → H} {W : World} {base b0 : Nat} {sp : Nat → Bool} {held : Bool} {n : Nat} {r : Reach}
theorem open_conf {v : Value} {d : DataW H} {p : List MemPlace} (hv : Value.okWide Tryz.prog W r b0 23 v) (h : DataW.Trod enc Tryz.prog W base sp held 23 v d p) :
    ∃ x0 x1 x2 x3, v = .agg #[.int .i64 x0, .int .i64 x1, .int .i64 x2, .int .i64 x3] := by
  obtain ⟨⟨l⟩, rfl, hsz⟩ := okWide_struct Tryz.underlying23 hv
  rw [show Tryz.prog.cellsOf 23 = 4 by kernel_rfl] at hsz
  obtain ⟨fuel, hf⟩ := h
  obtain ⟨xs, n, _, _, _, hlen, hfd⟩ := DataW.trod_struct Tryz.underlying23 hf
  match l, hsz with
  | [c0, c1, c2, c3], _ =>
    have g := fun i f (e : _ = some f) => hfd i f e
    have k4 : Tryz.prog.cellsOf 3 = 1 := by kernel_rfl
    have hl : xs.length = 4 := hlen
    have h0 : DataW.trod enc Tryz.prog W base sp held n 3 [c0] = xs[0]? := by have := g 0 _ rfl; simpa [Value.cells, k4] using this
    obtain ⟨y0, q0⟩ := Open.some_of hl (show 0 < 4 by decide)
    obtain ⟨x0, rfl, _⟩ := Open.cell_int (c := c0) h0 q0
    have h1 : DataW.trod enc Tryz.prog W base sp held n 3 [c1] = xs[1]? := by have := g 1 _ rfl; simpa [Value.cells, k4] using this
    obtain ⟨y1, q1⟩ := Open.some_of hl (show 1 < 4 by decide)
    obtain ⟨x1, rfl, _⟩ := Open.cell_int (c := c1) h1 q1
    have h2 : DataW.trod enc Tryz.prog W base sp held n 3 [c2] = xs[2]? := by have := g 2 _ rfl; simpa [Value.cells, k4] using this
    obtain ⟨y2, q2⟩ := Open.some_of hl (show 2 < 4 by decide)
    obtain ⟨x2, rfl, _⟩ := Open.cell_int (c := c2) h2 q2
    have h3 : DataW.trod enc Tryz.prog W base sp held n 3 [c3] = xs[3]? := by have := g 3 _ rfl; simpa [Value.cells, k4] using this
    obtain ⟨y3, q3⟩ := Open.some_of hl (show 3 < 4 by decide)
    obtain ⟨x3, rfl, _⟩ := Open.cell_int (c := c3) h3 q3
    exact ⟨x0, x1, x2, x3, rfl⟩
theorem addk (b off k : Nat) : (⟨b, off, none⟩ : Addr).add k = ⟨b, off + k, none⟩ := by
  unfold Addr.add; split
  · rename_i h; subst h; rfl
  · rfl
/-- the cells of a page that is asked for -/
theorem rq_cells {cs : List Value} {y : DataW H × List MemPlace} (hsz : cs.length = 8) (hf : DataW.trod enc Tryz.prog W base sp held n 29 cs = some y) : ∃ q : Rq, cs = q.vs ∧ UQ q := by
  obtain ⟨xs, n, _, _, _, hlen, hfd⟩ := DataW.trod_struct Tryz.underlying29 hf
  match cs, hsz with
  | [c0, c1, c2, c3, c4, c5, c6, c7], _ =>
    have g := fun i f (e : _ = some f) => hfd i f e
    have k1 : Tryz.prog.cellsOf 3 = 1 := by kernel_rfl
    have k64 : Tryz.prog.cellsOf 25 = 1 := by kernel_rfl
    have kb : Tryz.prog.cellsOf 4 = 1 := by kernel_rfl
    have kp : Tryz.prog.cellsOf 27 = 4 := by kernel_rfl
    have hl : xs.length = 5 := hlen
    have h0 : DataW.trod enc Tryz.prog W base sp held n 3 [c0] = xs[0]? := by have := g 0 _ rfl; simpa [k1, k64, kp] using this
    obtain ⟨y0, q0⟩ := Open.some_of hl (show 0 < 5 by decide)
    obtain ⟨x0, rfl, _⟩ := Open.cell_int (c := c0) h0 q0
    have h1 : DataW.trod enc Tryz.prog W base sp held n 25 [c1] = xs[1]? := by have := g 1 _ rfl; simpa [k1, k64, kp] using this
    obtain ⟨y1, q1⟩ := Open.some_of hl (show 1 < 5 by decide)
    obtain ⟨x1, rfl, u1⟩ := Open.cell_u64 (c := c1) h1 q1
    have h2 : DataW.trod enc Tryz.prog W base sp held n 25 [c2] = xs[2]? := by have := g 2 _ rfl; simpa [k1, k64, kp] using this
    obtain ⟨y2, q2⟩ := Open.some_of hl (show 2 < 5 by decide)
    obtain ⟨x2, rfl, u2⟩ := Open.cell_u64 (c := c2) h2 q2
    have h3 : DataW.trod enc Tryz.prog W base sp held n 3 [c3] = xs[3]? := by have := g 3 _ rfl; simpa [k1, k64, kp] using this
    obtain ⟨y3, q3⟩ := Open.some_of hl (show 3 < 5 by decide)
    obtain ⟨x3, rfl, _⟩ := Open.cell_int (c := c3) h3 q3
    have h4 : DataW.trod enc Tryz.prog W base sp held n 27 [c4, c5, c6, c7] = xs[4]? := by have := g 4 _ rfl; simpa [k1, k64, kp] using this
    obtain ⟨y4, q4⟩ := Open.some_of hl (show 4 < 5 by decide)
    rw [q4] at h4
    obtain ⟨zs, m, _, _, _, hlen2, hfd2⟩ := DataW.trod_struct Tryz.underlying27 h4
    have g2 := fun i f (e : _ = some f) => hfd2 i f e
    have hl2 : zs.length = 4 := hlen2
    have p0 : DataW.trod enc Tryz.prog W base sp held m 4 [c4] = zs[0]? := by have := g2 0 _ rfl; simpa [kb] using this
    obtain ⟨z0, w0⟩ := Open.some_of hl2 (show 0 < 4 by decide)
    obtain ⟨b0, rfl⟩ := Open.cell_bool (c := c4) p0 w0
    have p1 : DataW.trod enc Tryz.prog W base sp held m 4 [c5] = zs[1]? := by have := g2 1 _ rfl; simpa [kb] using this
    obtain ⟨z1, w1⟩ := Open.some_of hl2 (show 1 < 4 by decide)
    obtain ⟨b1, rfl⟩ := Open.cell_bool (c := c5) p1 w1
    have p2 : DataW.trod enc Tryz.prog W base sp held m 4 [c6] = zs[2]? := by have := g2 2 _ rfl; simpa [kb] using this
    obtain ⟨z2, w2⟩ := Open.some_of hl2 (show 2 < 4 by decide)
    obtain ⟨b2, rfl⟩ := Open.cell_bool (c := c6) p2 w2
    have p3 : DataW.trod enc Tryz.prog W base sp held m 4 [c7] = zs[3]? := by have := g2 3 _ rfl; simpa [kb] using this
    obtain ⟨z3, w3⟩ := Open.some_of hl2 (show 3 < 4 by decide)
    obtain ⟨b3, rfl⟩ := Open.cell_bool (c := c7) p3 w3
    exact ⟨⟨x0, x1, x2, x3, ⟨b0, b1, b2, b3⟩⟩, rfl, u1, u2⟩
theorem open_rq {v : Value} {d : DataW H} {p : List MemPlace} (hv : Value.okWide Tryz.prog W r b0 29 v) (h : DataW.Trod enc Tryz.prog W base sp held 29 v d p) :
    ∃ q : Rq, v = .agg #[.int .i64 q.id, .int .u64 q.va, .int .u64 q.pa, .int .i64 q.lev, .bool q.p.r, .bool q.p.w, .bool q.p.x, .bool q.p.u] ∧ UQ q := by
  obtain ⟨⟨l⟩, rfl, hsz⟩ := okWide_struct Tryz.underlying29 hv
  rw [show Tryz.prog.cellsOf 29 = 8 by kernel_rfl] at hsz
  obtain ⟨fuel, hf⟩ := h
  obtain ⟨q, e, hq⟩ := rq_cells (cs := l) hsz hf
  exact ⟨q, by rw [e]; rfl, hq⟩
theorem flQ_len (l : List Rq) : (flQ l).length = l.length * 8 := by
  induction l with
  | nil => rfl
  | cons c l ih => show ((_ :: _ :: _ :: _ :: _ :: _ :: _ :: _ :: flQ l).length) = _; simp only [List.length_cons, ih]; omega
theorem flQ_get : ∀ (l : List Rq) (i j : Nat) (q : Rq), l[i]? = some q → j < 8 → (flQ l)[i * 8 + j]? = q.vs[j]?
  | [], i, j, q, h, _ => by simp at h
  | x :: l, 0, j, q, h, hj => by
    simp at h; subst h
    show (x.vs ++ flQ l)[0 * 8 + j]? = _
    rw [Nat.zero_mul, Nat.zero_add, List.getElem?_append_left (by show j < 8; exact hj)]
  | x :: l, i + 1, j, q, h, hj => by
    have := flQ_get l i j q (by simpa using h) hj
    show (x.vs ++ flQ l)[(i + 1) * 8 + j]? = _
    rw [List.getElem?_append_right (by show 8 ≤ _; omega), show (i + 1) * 8 + j - x.vs.length = i * 8 + j by show (i + 1) * 8 + j - 8 = _; omega]
    exact this
theorem open_rqs {v : Value} {d : DataW H} {p : List MemPlace} (hv : Value.okWide Tryz.prog W r b0 24 v) (h : DataW.Trod enc Tryz.prog W base (fun _ => true) held 24 v d p) :
    ∃ l : List Rq, (∀ x ∈ l, UQ x) ∧ Ce.R (en0 (fun _ => True) W) (.s l.length 8 (flQ l)) v := by
  obtain ⟨a, len, cap, rfl⟩ := okWide_slice Tryz.underlying24 hv
  obtain ⟨fuel, hf⟩ := h
  have hf : DataW.trod enc Tryz.prog W base (fun _ => true) held fuel 24 [.slice a len cap] = some (d, p) := hf
  have ke : Tryz.prog.cellsOf 29 = 8 := by kernel_rfl
  rcases Deep.open_slice Tryz.underlying24 hf with ⟨e, _⟩ | ⟨a', len', cap', m, k, D, Pl, e, _, hl, hm, hmm, _, hx⟩
  · simp only [List.cons.injEq, and_true] at e
    refine ⟨[], fun x hx => (by cases hx), ?_⟩
    rw [e]
    exact ⟨⟨rfl, .inl ⟨rfl, rfl⟩⟩, fun a l c e => by cases e⟩
  · simp only [List.cons.injEq, and_true, Value.slice.injEq] at e
    obtain ⟨rfl, rfl, rfl⟩ := e
    have hok : Cell.ok Tryz.prog W r b0 24 (.slice (some a') len cap) := by
      have hv := hv
      unfold Value.okWide at hv
      rw [Tryz.underlying24] at hv
      unfold Cell.okWide at hv
      rw [Tryz.underlying24] at hv
      exact hv
    unfold Cell.ok at hok
    rw [Tryz.underlying24] at hok
    obtain ⟨_, _, _, hsp, row, cells, hsh, _⟩ := hok
    obtain ⟨b, off, spot⟩ := a'
    have hsp : spot = none := hsp
    subst hsp
    have hb : b < W.heap.size := by
      rcases Nat.lt_or_ge b W.heap.size with h | h
      · exact h
      · have hsh : W.shape? b = some (row, cells) := hsh
        unfold World.shape? at hsh
        rw [Array.getElem?_eq_none h] at hsh
        cases hsh
    have ku : ∀ i, i < len → ∃ q : Rq, (∀ j, j < 8 → W.cell? ⟨b, off + (i * 8 + j), none⟩ = q.vs[j]?) ∧ UQ q := fun i hi => by
      obtain ⟨cs, g1, g2⟩ := hx i (by rw [hmm]; simp; omega)
      rw [ke] at g1
      obtain ⟨_, hlen, hcell⟩ := World.cells?_some g1
      obtain ⟨q, rfl, hq⟩ := rq_cells hlen g2
      refine ⟨q, fun j hj => ?_, hq⟩
      have e0 := hcell j (by omega)
      rw [addk, addk] at e0
      rw [← e0, Nat.add_assoc]
    haveI : Inhabited Rq := ⟨⟨0, 0, 0, 0, ⟨false, false, false, false⟩⟩⟩
    obtain ⟨f, hf⟩ := Deep.choose_lt (α := Rq) (p := fun i q => (∀ j, j < 8 → W.cell? ⟨b, off + (i * 8 + j), none⟩ = q.vs[j]?) ∧ UQ q) ku
    have hlen : ((List.range len).map f).length = len := by simp
    refine ⟨(List.range len).map f, fun x hx => ?_, ⟨by rw [flQ_len], .inr ⟨b, off, cap, by rw [hlen], hb, by rw [hlen]; exact hl, hm, fun i hi => ?_⟩⟩, fun _ _ _ _ => trivial⟩
    · obtain ⟨i, hi, rfl⟩ := List.mem_map.1 hx
      exact (hf i (List.mem_range.1 hi)).2
    · rw [hlen] at hi
      have hi2 : i / 8 < len := by omega
      obtain ⟨e0, _⟩ := hf (i / 8) hi2
      have hg := flQ_get ((List.range len).map f) (i / 8) (i % 8) (f (i / 8)) (by simp [hi2]) (by omega)
      have e1 := e0 (i % 8) (by omega)
      rw [show i / 8 * 8 + i % 8 = i by omega] at hg e1
      rw [hg]; exact e1
end
end Go.Proofs.YtgkodncknlankaaGreatDoor.Laid
/- Plain: trees of tables: each table has a level, and is linked once. -/
namespace Go.Proofs.YtgkodncknlankaaGreatDoor.LiA
open Go.RowKit Go.Proofs.YtgkodncknlankaaGreatDoor.Bv Go.Proofs.YtgkodncknlankaaGreatDoor.VaSpec Go.Proofs.YtgkodncknlankaaGreatDoor.Base Go.Proofs.YtgkodncknlankaaGreatDoor.MemL Go.Proofs.YtgkodncknlankaaGreatDoor.RegR Go.Proofs.YtgkodncknlankaaGreatDoor.Ax Go.Proofs.YtgkodncknlankaaGreatDoor.MemC Go.Proofs.YtgkodncknlankaaGreatDoor.PutC Go.Proofs.YtgkodncknlankaaGreatDoor.MemC3 Go.Proofs.YtgkodncknlankaaGreatDoor.TzC Go.Proofs.YtgkodncknlankaaGreatDoor.OkS Go.Proofs.YtgkodncknlankaaGreatDoor.SpA Go.Proofs.YtgkodncknlankaaGreatDoor.SpB Go.Proofs.YtgkodncknlankaaGreatDoor.SpC Go.Proofs.YtgkodncknlankaaGreatDoor.SpD Go.Proofs.YtgkodncknlankaaGreatDoor.SpF Go.Proofs.YtgkodncknlankaaGreatDoor.SpH Go.Proofs.YtgkodncknlankaaGreatDoor.SpI Go.Proofs.YtgkodncknlankaaGreatDoor.SpJ Go.Proofs.YtgkodncknlankaaGreatDoor.SpN Go.Proofs.YtgkodncknlankaaGreatDoor.SpO Go.Proofs.YtgkodncknlankaaGreatDoor.RfP Go.Proofs.YtgkodncknlankaaGreatDoor.RfQ Go.Proofs.YtgkodncknlankaaGreatDoor.LaA Go.Proofs.YtgkodncknlankaaGreatDoor.LaB Go.Proofs.YtgkodncknlankaaGreatDoor.LaC Go.Proofs.YtgkodncknlankaaGreatDoor.LaD Go.Proofs.YtgkodncknlankaaGreatDoor.LaE Go.Proofs.YtgkodncknlankaaGreatDoor.LaF Go.Proofs.YtgkodncknlankaaGreatDoor.LaG
open Go.Proofs.YtgkodncknlankaaGreatDoor.BitsC Go.Proofs.YtgkodncknlankaaGreatDoor.PteSpec
set_option linter.unusedVariables false
set_option linter.unusedSimpArgs false
set_option maxRecDepth 10000
set_option maxHeartbeats 1000000
/-- an entry that may lie in a table of a level -/
def KOk (al : Int → Prop) (lv : Int → Int) (s : Int) (p : Pte) : Prop := al s ∧ (0 ≤ lv s ∧ lv s ≤ 2) ∧ ((leafP p = true ∧ badP p (lv s) = false) ∨ (lkP p = true ∧ 1 ≤ lv s ∧ lv p.ppn = lv s - 1 ∧ al p.ppn))
structure TE (E : Int → Int → Pte) (al : Int → Prop) (sh : Int) (lv : Int → Int) : Prop where
  k : ∀ s i, (0 ≤ i ∧ i < 512) → E s i = zP ∨ KOk al lv s (E s i)
  u : ∀ s i t j, (0 ≤ i ∧ i < 512) → (0 ≤ j ∧ j < 512) → lkP (E s i) = true → lkP (E t j) = true → (E s i).ppn = (E t j).ppn → (E s i).ppn ≠ sh → s = t ∧ i = j
  s : ∀ s i, (0 ≤ i ∧ i < 512) → lkP (E s i) = true → (E s i).ppn = sh → i = 511 ∧ lv s = 2
section
variable {E E' : Int → Int → Pte} {al al' : Int → Prop} {sh : Int} {lv lv' : Int → Int}
/-- entries go away -/
theorem TE.sub (h : TE E al sh lv) (hs : ∀ s i, (0 ≤ i ∧ i < 512) → E' s i = zP ∨ E' s i = E s i) : TE E' al sh lv := by
  have key : ∀ s i, (0 ≤ i ∧ i < 512) → lkP (E' s i) = true → E' s i = E s i := fun s i hi hl => by
    rcases hs s i hi with e | e
    · rw [e] at hl; cases hl
    · exact e
  refine ⟨fun s i hi => ?_, fun s i t j hi hj h1 h2 h3 h4 => ?_, fun s i hi h1 h2 => ?_⟩
  · rcases hs s i hi with e | e
    · exact .inl e
    · rw [e]; exact h.k s i hi
  · have e1 := key s i hi h1
    have e2 := key t j hj h2
    rw [e1] at h1 h3 h4; rw [e2] at h2 h3
    exact h.u s i t j hi hj h1 h2 h3 h4
  · have e1 := key s i hi h1
    rw [e1] at h1 h2; exact h.s s i hi h1 h2
/-- frames become free to which nothing leads, in which nothing lies; others are taken -/
theorem TE.fr (h : TE E al sh lv) (hs : ∀ s i, (0 ≤ i ∧ i < 512) → E s i ≠ zP → al' s) (hp : ∀ s i, (0 ≤ i ∧ i < 512) → lkP (E s i) = true → al' (E s i).ppn) : TE E al' sh lv := by
  refine ⟨fun s i hi => ?_, h.u, h.s⟩
  by_cases e : E s i = zP
  · exact .inl e
  · rcases h.k s i hi with e2 | ⟨a, b, c⟩
    · exact absurd e2 e
    · refine .inr ⟨hs s i hi e, b, ?_⟩
      rcases c with c | ⟨c1, c2, c3, c4⟩
      · exact .inl c
      · exact .inr ⟨c1, c2, c3, hp s i hi c1⟩
theorem TE.mono (h : TE E al sh lv) (ha : ∀ s, al s → al' s) : TE E al' sh lv :=
  h.fr (fun s i hi e => by
    rcases h.k s i hi with e2 | ⟨a, _⟩
    · exact absurd e2 e
    · exact ha _ a) (fun s i hi hl => by
    rcases h.k s i hi with e2 | ⟨_, _, ⟨c, _⟩ | ⟨_, _, _, c⟩⟩
    · rw [e2] at hl; cases hl
    · have := (lk_link hl).2.2; rw [c] at this; cases this
    · exact ha _ c)
theorem leaf_lk {p : Pte} (h : leafP p = true) : lkP p = false := by
  cases e : lkP p with
  | false => rfl
  | true => have := (lk_link e).2.2; rw [h] at this; cases this
/-- a leaf is laid, whatever was there -/
theorem TE.leaf (h : TE E al sh lv) {t i : Int} {p : Pte} (ht : al t) (hl : 0 ≤ lv t ∧ lv t ≤ 2) (h1 : leafP p = true) (h2 : badP p (lv t) = false) (he : ∀ s j, (0 ≤ j ∧ j < 512) → E' s j = if s = t ∧ j = i then p else E s j) : TE E' al sh lv := by
  have key : ∀ s j, (0 ≤ j ∧ j < 512) → lkP (E' s j) = true → E' s j = E s j := fun s j hj hlk => by
    rw [he s j hj] at hlk ⊢
    split
    · rename_i c; rw [if_pos c, leaf_lk h1] at hlk; cases hlk
    · rfl
  refine ⟨fun s j hj => ?_, fun s i t j hi hj a1 a2 a3 a4 => ?_, fun s i hi a1 a2 => ?_⟩
  · rw [he s j hj]
    split
    · rename_i c; rw [c.1]; exact .inr ⟨ht, hl, .inl ⟨h1, h2⟩⟩
    · exact h.k s j hj
  · have e1 := key s i hi a1
    have e2 := key t j hj a2
    rw [e1] at a1 a3 a4; rw [e2] at a2 a3
    exact h.u s i t j hi hj a1 a2 a3 a4
  · have e1 := key s i hi a1
    rw [e1] at a1 a2; exact h.s s i hi a1 a2
def upL (lv : Int → Int) (g l : Int) : Int → Int := fun s => if s = g then l else lv s
/-- a new table is linked, where no link was -/
theorem TE.link (h : TE E al sh lv) {t i g : Int} (ha : ∀ s, al s → al' s ∧ s ≠ g) (hg : al' g) (ht : al t) (hl : 1 ≤ lv t ∧ lv t ≤ 2) (hi : 0 ≤ i ∧ i < 512) (hsh : al sh) (hn : lkP (E t i) = false)
    (he : ∀ s j, (0 ≤ j ∧ j < 512) → E' s j = if s = t ∧ j = i then lnk g else E s j) : TE E' al' sh (upL lv g (lv t - 1)) := by
  have hgs : g ≠ sh := fun e => (ha _ hsh).2 e.symm
  have hgt : t ≠ g := (ha _ ht).2
  have hlv : ∀ s, al s → upL lv g (lv t - 1) s = lv s := fun s hs => if_neg (ha s hs).2
  have nog : ∀ s j, (0 ≤ j ∧ j < 512) → lkP (E s j) = true → (E s j).ppn ≠ g := fun s j hj hlk => by
    rcases h.k s j hj with e2 | ⟨_, _, ⟨c, _⟩ | ⟨_, _, _, c⟩⟩
    · rw [e2] at hlk; cases hlk
    · rw [leaf_lk c] at hlk; cases hlk
    · exact (ha _ c).2
  refine ⟨fun s j hj => ?_, fun s a t' b ha' hb h1 h2 h3 h4 => ?_, fun s j hj h1 h2 => ?_⟩
  · rw [he s j hj]
    split
    · rename_i c
      rw [c.1]
      refine .inr ⟨(ha _ ht).1, by rw [hlv t ht]; omega, .inr ⟨rfl, by rw [hlv t ht]; exact hl.1, ?_, hg⟩⟩
      rw [hlv t ht]
      exact if_pos rfl
    · rcases h.k s j hj with e | ⟨a, b, c⟩
      · exact .inl e
      · refine .inr ⟨(ha _ a).1, by rw [hlv s a]; exact b, ?_⟩
        rw [hlv s a]
        rcases c with c | ⟨c1, c2, c3, c4⟩
        · exact .inl c
        · exact .inr ⟨c1, c2, by rw [hlv _ c4]; exact c3, (ha _ c4).1⟩
  · rw [he s a ha'] at h1 h3 h4
    rw [he t' b hb] at h2 h3
    by_cases c1 : s = t ∧ a = i
    · by_cases c2 : t' = t ∧ b = i
      · exact ⟨c1.1.trans c2.1.symm, c1.2.trans c2.2.symm⟩
      · rw [if_pos c1, if_neg c2] at h3
        rw [if_neg c2] at h2
        exact absurd h3.symm (nog t' b hb h2)
    · by_cases c2 : t' = t ∧ b = i
      · rw [if_neg c1, if_pos c2] at h3
        rw [if_neg c1] at h1
        exact absurd h3 (nog s a ha' h1)
      · rw [if_neg c1] at h1 h3 h4
        rw [if_neg c2] at h2 h3
        exact h.u s a t' b ha' hb h1 h2 h3 h4
  · rw [he s j hj] at h1 h2
    by_cases c : s = t ∧ j = i
    · rw [if_pos c] at h2
      exact absurd h2 hgs
    · rw [if_neg c] at h1 h2
      obtain ⟨a1, a2⟩ := h.s s j hj h1 h2
      refine ⟨a1, ?_⟩
      rcases h.k s j hj with e | ⟨a, _⟩
      · rw [e] at h1; cases h1
      · rw [hlv s a]; exact a2
end
/-! ### memories -/
theorem look_filt (A B : Int) : ∀ (xs : List (Int × Int)) (a : Int), Srt xs → MemC.look (xs.filter (outB A B)) a = if A ≤ a ∧ a < B then 0 else MemC.look xs a
  | [], a, _ => by rw [show MemC.look (([] : List (Int × Int)).filter (outB A B)) a = 0 from rfl, look_nil]; split <;> rfl
  | c :: cs, a, hs => by
    have hs' := List.pairwise_cons.1 hs
    have hgt : ∀ b : Int, b ≤ c.1 → MemC.look cs b = 0 := fun b hb => look_none fun d hd => by have := hs'.1 d hd; omega
    have IH := look_filt A B cs a hs'.2
    by_cases h : outB A B c = true
    · rw [List.filter_cons, if_pos h, look_cons, look_cons, IH]
      unfold outB at h
      rw [Bool.or_eq_true, decide_eq_true_eq, decide_eq_true_eq] at h
      (repeat' split) <;> first | rfl | omega
    · rw [List.filter_cons, if_neg h, IH, look_cons]
      unfold outB at h
      rw [Bool.or_eq_true, decide_eq_true_eq, decide_eq_true_eq] at h
      (repeat' split) <;> first | rfl | omega | (rw [hgt a (by omega)]; done) | (rw [hgt a (by omega)]; omega)
structure TI (cd cp sz : Int) (xs : List (Int × Int)) (f sh : Int) (lv : Int → Int) : Prop where
  bd : 1 ≤ cd ∧ cd ≤ 524288
  bp : 1 ≤ cp ∧ cp ≤ 64
  bz : sz = (cd + cp) * 4096
  bf : 0 ≤ f ∧ f < 2 ^ cp.toNat
  s : Srt xs
  r : ∀ c ∈ xs, (cd * 512 ≤ c.1 ∧ c.1 < (cd + cp) * 512) ∧ U c.2 ∧ c.2 ≠ 0
  e : TE (atM sz xs) (Al cd cp f) sh lv
theorem look_mem : ∀ {xs : List (Int × Int)} {c : Int × Int}, Srt xs → c ∈ xs → MemC.look xs c.1 = c.2
  | x :: xs, c, hs, hc => by
    have hs' := List.pairwise_cons.1 hs
    rw [look_cons]
    rcases List.mem_cons.1 hc with rfl | hc
    · rw [if_neg (by omega), if_pos rfl]
    · rw [if_pos (hs'.1 c hc), look_mem hs'.2 hc]
section
variable {cd cp sz f sh : Int} {xs : List (Int × Int)} {lv : Int → Int}
theorem TI.mem (h : TI cd cp sz xs f sh lv) {c : Int × Int} (hc : c ∈ xs) : atM sz xs (c.1 / 512) (c.1 % 512) = pteOf c.2 := by
  obtain ⟨⟨a, b⟩, _⟩ := h.r c hc
  have hz := h.bz
  unfold atM wordM
  rw [if_pos (by rw [hz]; omega), show (c.1 / 512 * 4096 + c.1 % 512 * 8) / 8 = c.1 by omega, look_mem h.s hc]
theorem pte_nz {v : Int} (hv : U v) (h : v ≠ 0) : pteOf v ≠ zP := fun e => h (by
  have := word_pteOf v hv.1 hv.2
  rw [e] at this
  exact this.symm.trans (by decide))
theorem TI.gm (h : TI cd cp sz xs f sh lv) : GM cd cp sz xs f := ⟨h.bd, h.bp, h.bz, h.bf, h.s, fun c hc => by
  obtain ⟨_, hu, h0⟩ := h.r c hc
  have hk := h.e.k (c.1 / 512) (c.1 % 512) (by omega)
  rw [h.mem hc] at hk
  rcases hk with e | ⟨a, _, k⟩
  · exact absurd e (pte_nz hu h0)
  · refine ⟨a, hu, ?_⟩
    rcases k with k | k
    · exact .inl k.1
    · exact .inr ⟨k.1, k.2.2.2⟩⟩
theorem TI.uf (h : TI cd cp sz xs f sh lv) : U f := h.gm.uf
theorem TI.u (h : TI cd cp sz xs f sh lv) : Uw xs := h.gm.u
/-- what is put into a table -/
theorem TI.put (h : TI cd cp sz xs f sh lv) {t i v : Int} {f' : Int} {lv' : Int → Int} (ht : cd ≤ t ∧ t < cd + cp) (hi : 0 ≤ i ∧ i < 512) (hv : U v) (hf : 0 ≤ f' ∧ f' < 2 ^ cp.toNat)
    (he : ∀ E', (∀ s j, (0 ≤ j ∧ j < 512) → E' s j = if s = t ∧ j = i then pteOf v else atM sz xs s j) → TE E' (Al cd cp f') sh lv') : TI cd cp sz (putM xs (t * 512 + i) v) f' sh lv' :=
  ⟨h.bd, h.bp, h.bz, hf, putM_srt _ _ _ h.s, fun c hc => by
    rcases putM_mem _ _ _ _ hc with hc | ⟨rfl, hv0⟩
    · exact h.r c hc
    · exact ⟨⟨by show cd * 512 ≤ t * 512 + i; omega, by show t * 512 + i < (cd + cp) * 512; omega⟩, hv, hv0⟩, he _ fun s j hj => by
    by_cases hd : s * 4096 + j * 8 < sz
    · exact at_put h.s hi hj hd
    · have hz := h.bz
      rw [if_neg (by rintro ⟨rfl, rfl⟩; omega)]
      unfold atM wordM
      rw [if_neg hd, if_neg hd]⟩
theorem at_wipe (hs : Srt xs) (g s j : Int) (hj : 0 ≤ j ∧ j < 512) : atM sz (TableC.wipeM xs g) s j = if s = g then zP else atM sz xs s j := by
  unfold atM wordM
  by_cases d : s * 4096 + j * 8 < sz
  · rw [if_pos d, if_pos d, wipe_filt _ _ hs, look_filt _ _ _ _ hs, show (s * 4096 + j * 8) / 8 = s * 512 + j by omega]
    by_cases c : s = g
    · rw [if_pos (show g * 512 ≤ s * 512 + j ∧ s * 512 + j < g * 512 + 512 by omega), if_pos c]
      exact pte0
    · rw [if_neg (show ¬ (g * 512 ≤ s * 512 + j ∧ s * 512 + j < g * 512 + 512) by omega), if_neg c]
  · rw [if_neg d, if_neg d, pte0]
    split <;> rfl
/-- a table is wiped -/
theorem TI.wipe (h : TI cd cp sz xs f sh lv) (g : Int) {f' : Int} (hf : 0 ≤ f' ∧ f' < 2 ^ cp.toNat) (he : ∀ E', (∀ s j, (0 ≤ j ∧ j < 512) → E' s j = if s = g then zP else atM sz xs s j) → TE E' (Al cd cp f') sh lv) : TI cd cp sz (TableC.wipeM xs g) f' sh lv :=
  ⟨h.bd, h.bp, h.bz, hf, wipe_srt _ h.s, fun c hc => h.r c (wipe_mem hc), he _ fun s j hj => at_wipe h.s g s j hj⟩
end
end Go.Proofs.YtgkodncknlankaaGreatDoor.LiA
/- Plain: a leaf is split; the way down through split leaves. -/
namespace Go.Proofs.YtgkodncknlankaaGreatDoor.LiB
open Go.RowKit Go.Proofs.YtgkodncknlankaaGreatDoor.Bv Go.Proofs.YtgkodncknlankaaGreatDoor.VaSpec Go.Proofs.YtgkodncknlankaaGreatDoor.Base Go.Proofs.YtgkodncknlankaaGreatDoor.MemL Go.Proofs.YtgkodncknlankaaGreatDoor.RegR Go.Proofs.YtgkodncknlankaaGreatDoor.Ax Go.Proofs.YtgkodncknlankaaGreatDoor.MemC Go.Proofs.YtgkodncknlankaaGreatDoor.PutC Go.Proofs.YtgkodncknlankaaGreatDoor.MemC3 Go.Proofs.YtgkodncknlankaaGreatDoor.TzC Go.Proofs.YtgkodncknlankaaGreatDoor.OkS Go.Proofs.YtgkodncknlankaaGreatDoor.SpA Go.Proofs.YtgkodncknlankaaGreatDoor.SpB Go.Proofs.YtgkodncknlankaaGreatDoor.SpC Go.Proofs.YtgkodncknlankaaGreatDoor.SpD Go.Proofs.YtgkodncknlankaaGreatDoor.SpF Go.Proofs.YtgkodncknlankaaGreatDoor.SpH Go.Proofs.YtgkodncknlankaaGreatDoor.SpI Go.Proofs.YtgkodncknlankaaGreatDoor.SpJ Go.Proofs.YtgkodncknlankaaGreatDoor.SpN Go.Proofs.YtgkodncknlankaaGreatDoor.SpO Go.Proofs.YtgkodncknlankaaGreatDoor.RfP Go.Proofs.YtgkodncknlankaaGreatDoor.RfQ Go.Proofs.YtgkodncknlankaaGreatDoor.LaA Go.Proofs.YtgkodncknlankaaGreatDoor.LaB Go.Proofs.YtgkodncknlankaaGreatDoor.LaC Go.Proofs.YtgkodncknlankaaGreatDoor.LaD Go.Proofs.YtgkodncknlankaaGreatDoor.LaE Go.Proofs.YtgkodncknlankaaGreatDoor.LaF Go.Proofs.YtgkodncknlankaaGreatDoor.LaG Go.Proofs.YtgkodncknlankaaGreatDoor.LiA
open Go.Proofs.YtgkodncknlankaaGreatDoor.BitsC Go.Proofs.YtgkodncknlankaaGreatDoor.PteSpec
set_option linter.unusedVariables false
set_option linter.unusedSimpArgs false
set_option maxRecDepth 10000
set_option maxHeartbeats 1000000
/-- a whole table of leaves -/
theorem TE.row {E E' : Int → Int → Pte} {al : Int → Prop} {sh : Int} {lv : Int → Int} (h : TE E al sh lv) {g : Int} {p : Int → Pte} (hg : al g) (hl : 0 ≤ lv g ∧ lv g ≤ 2) (hp : ∀ j, (0 ≤ j ∧ j < 512) → leafP (p j) = true ∧ badP (p j) (lv g) = false)
    (he : ∀ s j, (0 ≤ j ∧ j < 512) → E' s j = if s = g then p j else E s j) : TE E' al sh lv := by
  have key : ∀ s j, (0 ≤ j ∧ j < 512) → lkP (E' s j) = true → E' s j = E s j := fun s j hj hlk => by
    rw [he s j hj] at hlk ⊢
    split
    · rename_i c; rw [if_pos c, leaf_lk (hp j hj).1] at hlk; cases hlk
    · rfl
  refine ⟨fun s j hj => ?_, fun s i t j hi hj a1 a2 a3 a4 => ?_, fun s i hi a1 a2 => ?_⟩
  · rw [he s j hj]
    split
    · rename_i c; rw [c]; exact .inr ⟨hg, hl, .inl (hp j hj)⟩
    · exact h.k s j hj
  · have e1 := key s i hi a1
    have e2 := key t j hj a2
    rw [e1] at a1 a3 a4; rw [e2] at a2 a3
    exact h.u s i t j hi hj a1 a2 a3 a4
  · have e1 := key s i hi a1
    rw [e1] at a1 a2; exact h.s s i hi a1 a2
section
variable {cd cp sz f sh : Int} {xs : List (Int × Int)} {lv : Int → Int}
theorem al_take (h : TI cd cp sz xs f sh lv) (h0 : f ≠ 0) : (∀ s, Al cd cp f s → Al cd cp (setI f (tzI f) 1 0) s ∧ s ≠ cd + tzI f) ∧ Al cd cp (setI f (tzI f) 1 0) (cd + tzI f) ∧ (0 ≤ tzI f ∧ tzI f < cp) ∧ (0 ≤ setI f (tzI f) 1 0 ∧ setI f (tzI f) 1 0 < 2 ^ cp.toNat) := by
  have hb := h.bp
  obtain ⟨a1, a2⟩ := h.gm.al h0
  have t1 := tz_fit h.uf h.bf.2 h0
  exact ⟨fun s hs => ⟨(h.gm.take h0 hs).2, (h.gm.take h0 hs).1⟩, a1, a2, ⟨(setI_U _ _ _ _).1, fit_set h.uf h.bf.2 t1.1 (by omega)⟩⟩
/-- where a way ends, a table's level is the one that was met -/
theorem reach_lv (h : TI cd cp sz xs f sh lv) (addr want : Int) (hw : 0 ≤ want) : ∀ (l : Nat) (t : Int), Al cd cp f t → lv t = l → want ≤ (l : Int) →
    ∃ (l' : Nat) (t' : Int), reachN sz xs addr want l t = (t', (l' : Int)) ∧ l' ≤ l ∧ want ≤ (l' : Int) ∧ Al cd cp f t' ∧ lv t' = (l' : Int) ∧ (want < (l' : Int) → linksP (atM sz xs t' (idx addr (l' : Int))) (l' : Int) = false) ∧
      (∀ xs', (∀ s i, Al cd cp f s → (0 ≤ i ∧ i < 512) → linkP (atM sz xs s i) = true → atM sz xs' s i = atM sz xs s i) → reachN sz xs' addr want l t = reachN sz xs' addr want l' t')
  | 0, t, ht, hl, hwl => ⟨0, t, rfl, Nat.le_refl _, hwl, ht, hl, fun hh => by omega, fun _ _ => rfl⟩
  | l + 1, t, ht, hl, hwl => by
    have hi := idx_bd addr ((l + 1 : Nat) : Int)
    have hk := EOk.kinds (h.gm.at t (idx addr ((l + 1 : Nat) : Int))) (l := ((l + 1 : Nat) : Int)) (by omega)
    by_cases c1 : want < ((l + 1 : Nat) : Int)
    · rcases hk with ⟨_, _, k3⟩ | ⟨_, _, k3⟩ | ⟨k1, k2, k3, k4, k5⟩
      · exact ⟨l + 1, t, reachN_no (fun _ => k3) hw, Nat.le_refl _, hwl, ht, hl, fun _ => k3, fun _ _ => rfl⟩
      · exact ⟨l + 1, t, reachN_no (fun _ => k3) hw, Nat.le_refl _, hwl, ht, hl, fun _ => k3, fun _ _ => rfl⟩
      · have hlk : lv (atM sz xs t (idx addr ((l + 1 : Nat) : Int))).ppn = (l : Int) := by
          rcases h.e.k t _ hi with e | ⟨_, _, ⟨c, _⟩ | ⟨_, _, c, _⟩⟩
          · rw [e] at k1; cases k1
          · rw [k2] at c; cases c
          · rw [c, hl]; omega
        obtain ⟨l', t', i1, i2, i3, i4, i5, i6, i7⟩ := reach_lv h addr want hw l _ k5 hlk (by omega)
        refine ⟨l', t', (reachN_go c1 k3).trans i1, by omega, i3, i4, i5, i6, fun xs' hx => ?_⟩
        have e := hx t _ ht hi k4
        rw [reachN_go c1 (by rw [e]; exact k3), e]
        exact i7 xs' hx
    · exact ⟨l + 1, t, reachN_no (fun hh => absurd hh c1) hw, Nat.le_refl _, hwl, ht, hl, fun hh => absurd hh c1, fun _ _ => rfl⟩
end
section
variable {cd cp sz f sh : Int} {xs : List (Int × Int)} {lv : Int → Int}
end
end Go.Proofs.YtgkodncknlankaaGreatDoor.LiB
/- Plain: tables that go back: those under a link, those that hold nothing. -/
namespace Go.Proofs.YtgkodncknlankaaGreatDoor.LiC
open Go.RowKit Go.Proofs.YtgkodncknlankaaGreatDoor.Bv Go.Proofs.YtgkodncknlankaaGreatDoor.VaSpec Go.Proofs.YtgkodncknlankaaGreatDoor.Base Go.Proofs.YtgkodncknlankaaGreatDoor.MemL Go.Proofs.YtgkodncknlankaaGreatDoor.RegR Go.Proofs.YtgkodncknlankaaGreatDoor.Ax Go.Proofs.YtgkodncknlankaaGreatDoor.MemC Go.Proofs.YtgkodncknlankaaGreatDoor.PutC Go.Proofs.YtgkodncknlankaaGreatDoor.MemC3 Go.Proofs.YtgkodncknlankaaGreatDoor.TzC Go.Proofs.YtgkodncknlankaaGreatDoor.OkS Go.Proofs.YtgkodncknlankaaGreatDoor.SpA Go.Proofs.YtgkodncknlankaaGreatDoor.SpB Go.Proofs.YtgkodncknlankaaGreatDoor.SpC Go.Proofs.YtgkodncknlankaaGreatDoor.SpD Go.Proofs.YtgkodncknlankaaGreatDoor.SpF Go.Proofs.YtgkodncknlankaaGreatDoor.SpH Go.Proofs.YtgkodncknlankaaGreatDoor.SpI Go.Proofs.YtgkodncknlankaaGreatDoor.SpJ Go.Proofs.YtgkodncknlankaaGreatDoor.SpN Go.Proofs.YtgkodncknlankaaGreatDoor.SpO Go.Proofs.YtgkodncknlankaaGreatDoor.RfP Go.Proofs.YtgkodncknlankaaGreatDoor.RfQ Go.Proofs.YtgkodncknlankaaGreatDoor.LaA Go.Proofs.YtgkodncknlankaaGreatDoor.LaB Go.Proofs.YtgkodncknlankaaGreatDoor.LaC Go.Proofs.YtgkodncknlankaaGreatDoor.LaD Go.Proofs.YtgkodncknlankaaGreatDoor.LaE Go.Proofs.YtgkodncknlankaaGreatDoor.LaF Go.Proofs.YtgkodncknlankaaGreatDoor.LaG Go.Proofs.YtgkodncknlankaaGreatDoor.LiA Go.Proofs.YtgkodncknlankaaGreatDoor.LiB
open Go.Proofs.YtgkodncknlankaaGreatDoor.BitsC Go.Proofs.YtgkodncknlankaaGreatDoor.PteSpec
set_option linter.unusedVariables false
set_option linter.unusedSimpArgs false
set_option maxRecDepth 10000
set_option maxHeartbeats 1000000
section
variable {cd cp sz f sh : Int} {xs : List (Int × Int)} {lv : Int → Int}
theorem ti_kd (h : TI cd cp sz xs f sh lv) {s i : Int} (hi : 0 ≤ i ∧ i < 512) {l : Int} (hl : linksP (atM sz xs s i) l = true) : lkP (atM sz xs s i) = true ∧ Al cd cp f s ∧ (1 ≤ lv s ∧ lv s ≤ 2) ∧ lv (atM sz xs s i).ppn = lv s - 1 ∧ Al cd cp f (atM sz xs s i).ppn := by
  rcases h.e.k s i hi with e | ⟨a, b, ⟨c, _⟩ | ⟨c1, c2, c3, c4⟩⟩
  · rw [e] at hl; cases hl
  · rw [links_no (leaf_link c).1] at hl; cases hl
  · exact ⟨c1, a, ⟨c2, b.2⟩, c3, c4⟩
theorem lk_kd (h : TI cd cp sz xs f sh lv) {s i : Int} (hi : 0 ≤ i ∧ i < 512) (hl : lkP (atM sz xs s i) = true) : Al cd cp f s ∧ (1 ≤ lv s ∧ lv s ≤ 2) ∧ lv (atM sz xs s i).ppn = lv s - 1 ∧ Al cd cp f (atM sz xs s i).ppn := (ti_kd h hi (lk_links hl (Int.le_refl 1))).2
theorem at_zero (hs : Srt xs) (hz : sz = (cd + cp) * 4096) {t i : Int} (ht : 0 ≤ t ∧ t < cd + cp) (hi : 0 ≤ i ∧ i < 512) (s j : Int) (hj : 0 ≤ j ∧ j < 512) : atM sz (putM xs (t * 512 + i) 0) s j = if s = t ∧ j = i then zP else atM sz xs s j := by
  by_cases hd : s * 4096 + j * 8 < sz
  · rw [at_put hs hi hj hd, pte0]
  · rw [if_neg (by rintro ⟨rfl, rfl⟩; omega)]
    unfold atM wordM
    rw [if_neg hd, if_neg hd]
end
end Go.Proofs.YtgkodncknlankaaGreatDoor.LiC
/- Plain: the document's way to prune, and to split, is the same. -/
namespace Go.Proofs.YtgkodncknlankaaGreatDoor.LiD
open Go.RowKit Go.Proofs.YtgkodncknlankaaGreatDoor.Bv Go.Proofs.YtgkodncknlankaaGreatDoor.VaSpec Go.Proofs.YtgkodncknlankaaGreatDoor.Base Go.Proofs.YtgkodncknlankaaGreatDoor.MemL Go.Proofs.YtgkodncknlankaaGreatDoor.RegR Go.Proofs.YtgkodncknlankaaGreatDoor.Ax Go.Proofs.YtgkodncknlankaaGreatDoor.MemC Go.Proofs.YtgkodncknlankaaGreatDoor.PutC Go.Proofs.YtgkodncknlankaaGreatDoor.MemC3 Go.Proofs.YtgkodncknlankaaGreatDoor.TzC Go.Proofs.YtgkodncknlankaaGreatDoor.OkS Go.Proofs.YtgkodncknlankaaGreatDoor.SpA Go.Proofs.YtgkodncknlankaaGreatDoor.SpB Go.Proofs.YtgkodncknlankaaGreatDoor.SpC Go.Proofs.YtgkodncknlankaaGreatDoor.SpD Go.Proofs.YtgkodncknlankaaGreatDoor.SpF Go.Proofs.YtgkodncknlankaaGreatDoor.SpH Go.Proofs.YtgkodncknlankaaGreatDoor.SpI Go.Proofs.YtgkodncknlankaaGreatDoor.SpJ Go.Proofs.YtgkodncknlankaaGreatDoor.SpN Go.Proofs.YtgkodncknlankaaGreatDoor.SpO Go.Proofs.YtgkodncknlankaaGreatDoor.RfP Go.Proofs.YtgkodncknlankaaGreatDoor.RfQ Go.Proofs.YtgkodncknlankaaGreatDoor.LaA Go.Proofs.YtgkodncknlankaaGreatDoor.LaB Go.Proofs.YtgkodncknlankaaGreatDoor.LaC Go.Proofs.YtgkodncknlankaaGreatDoor.LaD Go.Proofs.YtgkodncknlankaaGreatDoor.LaE Go.Proofs.YtgkodncknlankaaGreatDoor.LaF Go.Proofs.YtgkodncknlankaaGreatDoor.LaG Go.Proofs.YtgkodncknlankaaGreatDoor.LiA Go.Proofs.YtgkodncknlankaaGreatDoor.LiB Go.Proofs.YtgkodncknlankaaGreatDoor.LiC
open Go.Proofs.YtgkodncknlankaaGreatDoor.BitsC Go.Proofs.YtgkodncknlankaaGreatDoor.PteSpec
set_option linter.unusedVariables false
set_option linter.unusedSimpArgs false
set_option maxRecDepth 10000
set_option maxHeartbeats 1000000
section
variable {cd cp sz f sh : Int} {xs : List (Int × Int)} {lv : Int → Int}
end
/-! ### a table's words, between others -/
end Go.Proofs.YtgkodncknlankaaGreatDoor.LiD
/- Plain: kernels whose trees are right; what is laid, and lifted, leaves them so. -/
namespace Go.Proofs.YtgkodncknlankaaGreatDoor.LiE
open Go.RowKit Go.Proofs.YtgkodncknlankaaGreatDoor.Bv Go.Proofs.YtgkodncknlankaaGreatDoor.VaSpec Go.Proofs.YtgkodncknlankaaGreatDoor.Base Go.Proofs.YtgkodncknlankaaGreatDoor.MemL Go.Proofs.YtgkodncknlankaaGreatDoor.RegR Go.Proofs.YtgkodncknlankaaGreatDoor.Ax Go.Proofs.YtgkodncknlankaaGreatDoor.MemC Go.Proofs.YtgkodncknlankaaGreatDoor.PutC Go.Proofs.YtgkodncknlankaaGreatDoor.MemC3 Go.Proofs.YtgkodncknlankaaGreatDoor.TzC Go.Proofs.YtgkodncknlankaaGreatDoor.OkS Go.Proofs.YtgkodncknlankaaGreatDoor.SpA Go.Proofs.YtgkodncknlankaaGreatDoor.SpB Go.Proofs.YtgkodncknlankaaGreatDoor.SpC Go.Proofs.YtgkodncknlankaaGreatDoor.SpD Go.Proofs.YtgkodncknlankaaGreatDoor.SpE Go.Proofs.YtgkodncknlankaaGreatDoor.SpF Go.Proofs.YtgkodncknlankaaGreatDoor.SpG Go.Proofs.YtgkodncknlankaaGreatDoor.SpH Go.Proofs.YtgkodncknlankaaGreatDoor.SpI Go.Proofs.YtgkodncknlankaaGreatDoor.SpJ Go.Proofs.YtgkodncknlankaaGreatDoor.SpN Go.Proofs.YtgkodncknlankaaGreatDoor.SpO Go.Proofs.YtgkodncknlankaaGreatDoor.RfP Go.Proofs.YtgkodncknlankaaGreatDoor.RfQ Go.Proofs.YtgkodncknlankaaGreatDoor.RfE Go.Proofs.YtgkodncknlankaaGreatDoor.RfJ Go.Proofs.YtgkodncknlankaaGreatDoor.LaA Go.Proofs.YtgkodncknlankaaGreatDoor.LaB Go.Proofs.YtgkodncknlankaaGreatDoor.LaC Go.Proofs.YtgkodncknlankaaGreatDoor.LaD Go.Proofs.YtgkodncknlankaaGreatDoor.LaE Go.Proofs.YtgkodncknlankaaGreatDoor.LaF Go.Proofs.YtgkodncknlankaaGreatDoor.LaG Go.Proofs.YtgkodncknlankaaGreatDoor.LaH Go.Proofs.YtgkodncknlankaaGreatDoor.LiA Go.Proofs.YtgkodncknlankaaGreatDoor.LiB Go.Proofs.YtgkodncknlankaaGreatDoor.LiC Go.Proofs.YtgkodncknlankaaGreatDoor.LiD
open Go.Proofs.YtgkodncknlankaaGreatDoor.BitsC Go.Proofs.YtgkodncknlankaaGreatDoor.PteSpec
set_option linter.unusedVariables false
set_option linter.unusedSimpArgs false
set_option maxRecDepth 10000
set_option maxHeartbeats 1000000
structure InvT (n : Nat) (k : Kr) : Prop where
  l : InvL n k
  t : ∃ lv, TI k.cd k.cp k.sz k.m k.pf k.sh lv ∧ lv k.sh = 1 ∧ ∀ s ∈ k.ss, s.live = true → lv s.root = 2
theorem mkP_ok {n l : Int} {p : Pm} {g : Bool} (hn : n % (VaSpec.sz l / 4096) = 0) (hp : pmMay p = true) : badP (mkP n p g) l = false := by
  obtain ⟨r, w, x, u⟩ := p
  revert hp
  unfold pmMay badP linkP mkP
  cases r <;> cases w <;> cases x <;> simp [hn]
section
variable {cd cp sz f sh : Int} {xs : List (Int × Int)} {lv : Int → Int}
/-- a new table is hung in -/
theorem hang_ti (h : TI cd cp sz xs f sh lv) (h0 : f ≠ 0) {t i : Int} (ht : Al cd cp f t) (hsh : Al cd cp f sh) (hl : 1 ≤ lv t ∧ lv t ≤ 2) (hi : 0 ≤ i ∧ i < 512) (hn : linkP (atM sz xs t i) = false) :
    TI cd cp sz (withM sz xs t i (lnk (cd + tzI f))) (setI f (tzI f) 1 0) sh (upL lv (cd + tzI f) (lv t - 1)) := by
  obtain ⟨a0, a1, a2, a3⟩ := al_take h h0
  have b1 := h.bd
  have b2 := h.bp
  have hnn : 0 ≤ cd + tzI f ∧ cd + tzI f < 17592186044416 := by omega
  rw [h.gm.with ht hi (lnk_U hnn)]
  refine h.put ht.1 hi (putE_U _ (lnk_U hnn)) a3 fun E' hE => ?_
  rw [lnk_back hnn] at hE
  refine h.e.link a0 a1 ht hl hi hsh ?_ hE
  cases e : lkP (atM sz xs t i) with
  | false => rfl
  | true => rw [(lk_link e).1] at hn; cases hn
theorem dn_ti (addr want : Int) (hw : 0 ≤ want) : ∀ (l : Nat) (xs : List (Int × Int)) (f t : Int) (lv : Int → Int), TI cd cp sz xs f sh lv → Al cd cp f t → Al cd cp f sh → lv t = l → l ≤ 2 → want ≤ (l : Int) →
    (dnN sz cd addr want l xs f t).2.2.2 = 0 → ∃ lv', TI cd cp sz (dnN sz cd addr want l xs f t).1 (dnN sz cd addr want l xs f t).2.1 sh lv' ∧ lv' (dnN sz cd addr want l xs f t).2.2.1 = want ∧ Al cd cp (dnN sz cd addr want l xs f t).2.1 (dnN sz cd addr want l xs f t).2.2.1 ∧ ∀ s, Al cd cp f s → lv' s = lv s
  | 0, xs, f, t, lv, h, ht, _, hl, _, hwl, _ => ⟨lv, h, by show lv t = want; omega, ht, fun s _ => rfl⟩
  | l + 1, xs, f, t, lv, h, ht, hsh, hl, h2, hwl, he => by
    have hi := idx_bd addr ((l + 1 : Nat) : Int)
    unfold dnN at he ⊢
    split
    · exact ⟨lv, h, by show lv t = want; omega, ht, fun s _ => rfl⟩
    · rename_i c1
      rw [if_neg c1] at he
      split
      · rename_i c2; rw [if_pos c2] at he; cases he
      · rename_i c2
        rw [if_neg c2] at he
        have hk := h.e.k t _ hi
        split
        · rename_i c3
          rw [if_pos c3] at he
          rcases hk with e | ⟨_, _, ⟨e, _⟩ | ⟨e1, e2, e3, e4⟩⟩
          · rw [e] at c3; cases c3
          · exact absurd e c2
          · exact dn_ti addr want hw l xs f _ lv h e4 hsh (by rw [e3, hl]; omega) (by omega) (by omega) he
        · rename_i c3
          rw [if_neg c3] at he
          split
          · rename_i c4; rw [if_pos c4] at he; cases he
          · rename_i c4
            rw [if_neg c4] at he
            obtain ⟨a0, a1, a2, a3⟩ := al_take h c4
            have hn : linkP (atM sz xs t (idx addr ((l + 1 : Nat) : Int))) = false := by
              unfold linkP
              rw [show (atM sz xs t (idx addr ((l + 1 : Nat) : Int))).v = false by simpa using c3]; rfl
            have hT := hang_ti h c4 ht hsh (by rw [hl]; omega) hi hn
            obtain ⟨lv', r1, r2, r3, r4⟩ := dn_ti addr want hw l _ _ _ _ hT a1 (a0 _ hsh).1 (by rw [hl]; show upL lv (cd + tzI f) _ (cd + tzI f) = _; unfold upL; rw [if_pos rfl]; omega) (by omega) (by omega) he
            refine ⟨lv', r1, r2, r3, fun s hs => (r4 s (a0 s hs).1).trans ?_⟩
            exact if_neg (a0 s hs).2
end
theorem where_top {n : Nat} {k : Kr} {id a l : Int} (h : InvL n k) (he : (whereR k id a l).2.2 = 0) : ((whereR k id a l).1 = k.sh ∧ (whereR k id a l).2.1 = 1 ∧ id = -1) ∨ (livesB k id = true ∧ id ≠ -1 ∧ (whereR k id a l).1 = (spAt k id).root ∧ (whereR k id a l).2.1 = 2 ∧ idx a 2 ≠ 511) := by
  unfold whereR at he ⊢
  by_cases c1 : 0 ≤ l ∧ l ≤ 2
  rotate_left
  · rw [if_pos c1] at he; cases he
  rw [if_neg (by simpa using c1)] at he ⊢
  by_cases c2 : id ≠ -1 ∧ livesB k id = false
  · rw [if_pos c2] at he; cases he
  rw [if_neg c2] at he ⊢
  by_cases c3 : fits a l = false
  · rw [if_pos c3] at he; cases he
  rw [if_neg c3] at he ⊢
  by_cases c4 : id = -1
  · rw [if_pos c4] at he ⊢
    by_cases c5 : idx a 2 = 511 ∧ l ≠ 2
    · rw [if_pos c5]; exact .inl ⟨rfl, rfl, c4⟩
    · rw [if_neg c5] at he; cases he
  · rw [if_neg c4] at he ⊢
    by_cases c5 : idx a 2 = 511
    · rw [if_pos c5] at he; cases he
    · rw [if_neg c5]
      have c6 : livesB k id = true := by
        cases e : livesB k id with
        | true => rfl
        | false => exact absurd ⟨c4, e⟩ c2
      exact .inr ⟨c6, c4, rfl, rfl, c5⟩
theorem where_fits {k : Kr} {id a l : Int} (he : (whereR k id a l).2.2 = 0) : fits a l = true := by
  unfold whereR at he
  split at he
  · cases he
  · split at he
    · cases he
    · split at he
      · cases he
      · rename_i c; simpa using c
theorem InvT.top {n : Nat} {k : Kr} {id a l : Int} (h : InvT n k) (he : (whereR k id a l).2.2 = 0) {lv : Int → Int} (hs : lv k.sh = 1) (hr : ∀ s ∈ k.ss, s.live = true → lv s.root = 2) :
    lv (whereR k id a l).1 = (whereR k id a l).2.1 ∧ (2 ≤ (whereR k id a l).2.1 → idx a 2 ≠ 511) := by
  rcases where_top h.l he with ⟨e1, e2, _⟩ | ⟨e1, _, e2, e3, e4⟩
  · rw [e1, e2]; exact ⟨hs, fun hh => by omega⟩
  · obtain ⟨h0, h1, h2, h3⟩ := lives_at e1
    rw [e2, e3]
    exact ⟨hr _ (List.mem_of_getElem? h2) h3, fun _ => e4⟩
theorem sz_pages {l : Int} (h : 0 ≤ l ∧ l ≤ 2) {pa : Int} (hp : pa % VaSpec.sz l = 0) : (pa / 4096) % (VaSpec.sz l / 4096) = 0 := by
  rcases (by omega : l = 0 ∨ l = 1 ∨ l = 2) with rfl | rfl | rfl
  · show (pa / 4096) % 1 = 0; omega
  · have hp : pa % 2097152 = 0 := hp
    show (pa / 4096) % 512 = 0; omega
  · have hp : pa % 1073741824 = 0 := hp
    show (pa / 4096) % 262144 = 0; omega
theorem map_invT {n : Nat} {k : Kr} {id a pa l : Int} {p : Pm} (h : InvT n k) (hp : U pa) : InvT (n + 3) (mapR k id a pa l p).1 := by
  refine ⟨map_inv h.l hp, ?_⟩
  obtain ⟨lv, hT, hs, hr⟩ := h.t
  unfold mapR
  split
  · exact ⟨lv, hT, hs, hr⟩
  · rename_i c0
    split
    · exact ⟨lv, hT, hs, hr⟩
    · rename_i c1
      split
      · exact ⟨lv, hT, hs, hr⟩
      · split
        · exact ⟨lv, hT, hs, hr⟩
        · rename_i c3
          split
          · exact ⟨lv, hT, hs, hr⟩
          · split
            · exact ⟨lv, hT, hs, hr⟩
            · rename_i c5
              obtain ⟨w1, w2, w3, w4⟩ := where_good (id := id) (a := a) (l := l) h.l (by omega)
              obtain ⟨z1, z2⟩ := h.top (id := id) (a := a) (l := l) (by omega) hs hr
              generalize whereR k id a l = w at *
              have he : (mapD k w.1 w.2.1 a l).2.2.2 = 0 := by omega
              obtain ⟨lv', r1, r2, r3, r4⟩ := dn_ti a l w1.1 w.2.1.toNat k.m k.pf w.1 lv hT w2 h.l.sh (by omega) (by omega) (by omega) he
              have hpm := lk2_may (p := p) (by omega)
              have hpn := ppn_bd (k := k) (l := l) hp (by have := h.l.g.bd; omega) (by omega)
              have hb := mkP_back (n := pa / 4096) (p := p) (g := decide (id = -1)) hpn hpm
              have hzz : 0 < VaSpec.sz l := by rcases VaSpec.lev w1.1 w1.2 with rfl | rfl | rfl <;> decide
              have hmod : pa % VaSpec.sz l = 0 := by
                have e : lk0 pa l = 0 := by omega
                unfold lk0 evenI at e
                rw [if_neg (show ¬ VaSpec.sz l = 0 by omega)] at e
                split at e
                · rename_i c; simpa using c
                · cases e
              have hbad := mkP_ok (g := decide (id = -1)) (sz_pages w1 hmod) hpm
              refine ⟨lv', ?_, (r4 _ h.l.sh).trans hs, fun s hs' hl => (r4 _ (h.l.ss s hs' hl)).trans (hr s hs' hl)⟩
              show TI k.cd k.cp k.sz (withM k.sz (dnN k.sz k.cd a l w.2.1.toNat k.m k.pf w.1).1 (dnN k.sz k.cd a l w.2.1.toNat k.m k.pf w.1).2.2.1 (idx a l) (mkP (pa / 4096) p (decide (id = -1)))) (dnN k.sz k.cd a l w.2.1.toNat k.m k.pf w.1).2.1 k.sh lv'
              rw [r1.gm.with r3 (idx_bd a l) hb.2.1]
              refine r1.put r3.1 (idx_bd a l) (putE_U _ hb.2.1) r1.bf fun E' hE => ?_
              rw [hb.1] at hE
              exact r1.e.leaf r3 (by rw [r2]; exact w1) hb.2.2 (by rw [r2]; exact hbad) hE
section
variable {cd cp sz sh : Int}
end
/-! ### what is lifted -/
section
variable {cd cp sz f sh : Int} {xs : List (Int × Int)} {lv : Int → Int}
end
end Go.Proofs.YtgkodncknlankaaGreatDoor.LiE
/- Plain: the first kernels' trees; deeds of laying and lifting; the anchor's kernels. -/
namespace Go.Proofs.YtgkodncknlankaaGreatDoor.LiF
open Go.RowKit Go.Proofs.YtgkodncknlankaaGreatDoor.Bv Go.Proofs.YtgkodncknlankaaGreatDoor.VaSpec Go.Proofs.YtgkodncknlankaaGreatDoor.Base Go.Proofs.YtgkodncknlankaaGreatDoor.MemL Go.Proofs.YtgkodncknlankaaGreatDoor.RegR Go.Proofs.YtgkodncknlankaaGreatDoor.Ax Go.Proofs.YtgkodncknlankaaGreatDoor.MemC Go.Proofs.YtgkodncknlankaaGreatDoor.PutC Go.Proofs.YtgkodncknlankaaGreatDoor.MemC3 Go.Proofs.YtgkodncknlankaaGreatDoor.TzC Go.Proofs.YtgkodncknlankaaGreatDoor.OkS Go.Proofs.YtgkodncknlankaaGreatDoor.SpA Go.Proofs.YtgkodncknlankaaGreatDoor.SpB Go.Proofs.YtgkodncknlankaaGreatDoor.SpC Go.Proofs.YtgkodncknlankaaGreatDoor.SpD Go.Proofs.YtgkodncknlankaaGreatDoor.SpE Go.Proofs.YtgkodncknlankaaGreatDoor.SpF Go.Proofs.YtgkodncknlankaaGreatDoor.SpG Go.Proofs.YtgkodncknlankaaGreatDoor.SpH Go.Proofs.YtgkodncknlankaaGreatDoor.SpI Go.Proofs.YtgkodncknlankaaGreatDoor.SpJ Go.Proofs.YtgkodncknlankaaGreatDoor.SpN Go.Proofs.YtgkodncknlankaaGreatDoor.SpO Go.Proofs.YtgkodncknlankaaGreatDoor.RfP Go.Proofs.YtgkodncknlankaaGreatDoor.RfQ Go.Proofs.YtgkodncknlankaaGreatDoor.RfE Go.Proofs.YtgkodncknlankaaGreatDoor.RfJ Go.Proofs.YtgkodncknlankaaGreatDoor.RfK Go.Proofs.YtgkodncknlankaaGreatDoor.LaA Go.Proofs.YtgkodncknlankaaGreatDoor.LaB Go.Proofs.YtgkodncknlankaaGreatDoor.LaC Go.Proofs.YtgkodncknlankaaGreatDoor.LaD Go.Proofs.YtgkodncknlankaaGreatDoor.LaE Go.Proofs.YtgkodncknlankaaGreatDoor.LaF Go.Proofs.YtgkodncknlankaaGreatDoor.LaG Go.Proofs.YtgkodncknlankaaGreatDoor.LaH Go.Proofs.YtgkodncknlankaaGreatDoor.LiA Go.Proofs.YtgkodncknlankaaGreatDoor.LiB Go.Proofs.YtgkodncknlankaaGreatDoor.LiC Go.Proofs.YtgkodncknlankaaGreatDoor.LiD Go.Proofs.YtgkodncknlankaaGreatDoor.LiE
open Go.Proofs.YtgkodncknlankaaGreatDoor.BitsC Go.Proofs.YtgkodncknlankaaGreatDoor.PteSpec
set_option linter.unusedVariables false
set_option linter.unusedSimpArgs false
set_option maxRecDepth 10000
set_option maxHeartbeats 1000000
theorem inv_t {n : Nat} {k : Kr} (h : Inv n k) (g : Inv2 k) : InvT n k := by
  have hl := inv_l h g
  refine ⟨hl, fun s => if s = k.sh then 1 else 2, ⟨h.cd, h.cp, h.sz, h.pf, h.m, fun c hc => ?_, ?_⟩, if_pos rfl, fun s hs hv => ?_⟩
  · obtain ⟨s, hs, hv, rfl⟩ := g.cl c hc
    have hr := (h.ss s hs hv).1
    have hsh := h.sh
    have := h.cd
    have hu := (h.mc _ hc).2.2.2
    exact ⟨⟨by show k.cd * 512 ≤ s.root * 512 + 511; omega, by show s.root * 512 + 511 < (k.cd + k.cp) * 512; omega⟩, hu, by show 33 + 1024 * k.sh ≠ 0; omega⟩
  · have key : ∀ s i, (0 ≤ i ∧ i < 512) → atM k.sz k.m s i = zP ∨ (i = 511 ∧ s ≠ k.sh ∧ Al k.cd k.cp k.pf s ∧ atM k.sz k.m s i = gP k.sh) := fun s i hi => by
      unfold atM wordM
      split
      · rcases look_is (xs := k.m) (k := (s * 4096 + i * 8) / 8) with e | ⟨c, hc, e1, e2⟩
        · rw [e]; exact .inl pte0
        · obtain ⟨p, hp, hv, rfl⟩ := g.cl c hc
          have e1 : p.root * 512 + 511 = (s * 4096 + i * 8) / 8 := e1
          have hsh := h.sh
          have hcd := h.cd
          have hcp := h.cp
          have e3 : p.root = s := by omega
          rw [e2, show (33 + 1024 * k.sh : Int) = 33 + 1024 * k.sh from rfl, gP_back (by omega)]
          exact .inr ⟨by omega, by rw [← e3, g.sh]; exact (g.lv p hp hv).1, by rw [← e3]; exact hl.ss p hp hv, rfl⟩
      · exact .inl pte0
    refine ⟨fun s i hi => ?_, fun s i t j hi hj h1 h2 h3 h4 => ?_, fun s i hi h1 h2 => ?_⟩
    · rcases key s i hi with e | ⟨_, a, b, c⟩
      · exact .inl e
      · rw [c]
        refine .inr ⟨b, by dsimp only; rw [if_neg a]; omega, .inr ⟨rfl, by dsimp only; rw [if_neg a]; omega, ?_, hl.sh⟩⟩
        show (if k.sh = k.sh then (1 : Int) else 2) = (if s = k.sh then (1 : Int) else 2) - 1
        rw [if_pos rfl, if_neg a]; rfl
    · rcases key s i hi with e | ⟨_, _, _, c⟩
      · rw [e] at h1; cases h1
      · rw [c] at h4; exact absurd rfl h4
    · rcases key s i hi with e | ⟨a, b, _, c⟩
      · rw [e] at h1; cases h1
      · exact ⟨a, if_neg b⟩
  · have := (g.lv s hs hv).1
    rw [← g.sh] at this
    exact if_neg this
theorem bg_invT {a b c : Int} {n : Nat} (h : confB a b c n = true) : InvT 2 (bgK a b c n) := by
  have h0 := new_inv h
  have g0 := new_inv2 h
  have h1 := create_inv h0
  have g1 := create_both h0 g0
  exact inv_t (create_inv h1) (create_both h1 g1)
/-! ### the anchor -/
theorem t2 : InvT 2 c2 := by rw [← bg2]; exact bg_invT (by decide)
def rr : Pm := ⟨true, false, false, false⟩
end Go.Proofs.YtgkodncknlankaaGreatDoor.LiF
