/- Texts of this claim, one behind the other: RfC, RfD, RfE, RfG, RfJ, RfK, LaH, VaR3, RlA, RlB, RlC, LaI. -/
import Derived.Test.YtmoccajgjnjelaaGreatDoorA4
/- The abstract walk: the document's Word, At, Links, Frames of an empty table, Fresh, Back; its fences over a buffer of zeros. -/
namespace Go.Proofs.YtmoccajgjnjelaaGreatDoor.RfC
open Go.RowKit Go.Proofs.YtmoccajgjnjelaaGreatDoor.Bv Go.Proofs.YtmoccajgjnjelaaGreatDoor.VaSpec Go.Proofs.YtmoccajgjnjelaaGreatDoor.Base Go.Proofs.YtmoccajgjnjelaaGreatDoor.MemL Go.Proofs.YtmoccajgjnjelaaGreatDoor.RegR Go.Proofs.YtmoccajgjnjelaaGreatDoor.Ax Go.Proofs.YtmoccajgjnjelaaGreatDoor.MemC Go.Proofs.YtmoccajgjnjelaaGreatDoor.PutC Go.Proofs.YtmoccajgjnjelaaGreatDoor.MemC3 Go.Proofs.YtmoccajgjnjelaaGreatDoor.TzC Go.Proofs.YtmoccajgjnjelaaGreatDoor.OkS Go.Proofs.YtmoccajgjnjelaaGreatDoor.SpA Go.Proofs.YtmoccajgjnjelaaGreatDoor.SpB Go.Proofs.YtmoccajgjnjelaaGreatDoor.SpC Go.Proofs.YtmoccajgjnjelaaGreatDoor.SpD Go.Proofs.YtmoccajgjnjelaaGreatDoor.IterC Go.Proofs.YtmoccajgjnjelaaGreatDoor.SpE Go.Proofs.YtmoccajgjnjelaaGreatDoor.SpF Go.Proofs.YtmoccajgjnjelaaGreatDoor.SpG Go.Proofs.YtmoccajgjnjelaaGreatDoor.SpH Go.Proofs.YtmoccajgjnjelaaGreatDoor.SpI Go.Proofs.YtmoccajgjnjelaaGreatDoor.SpJ Go.Proofs.YtmoccajgjnjelaaGreatDoor.SpK Go.Proofs.YtmoccajgjnjelaaGreatDoor.SpN Go.Proofs.YtmoccajgjnjelaaGreatDoor.RfP Go.Proofs.YtmoccajgjnjelaaGreatDoor.RfQ Go.Proofs.YtmoccajgjnjelaaGreatDoor.RfA Go.Proofs.YtmoccajgjnjelaaGreatDoor.RfB
open Go.Proofs.YtmoccajgjnjelaaGreatDoor.BitsC Go.Proofs.YtmoccajgjnjelaaGreatDoor.PteSpec
set_option linter.unusedVariables false
set_option linter.unusedSimpArgs false
set_option maxRecDepth 10000
set_option maxHeartbeats 800000
theorem rget_ok (x : Int) (hx : U x) : Ok 118 [iu x] (.m (.ag (pteOf x).ce)) :=
  ok_plain #[.int .u64 x] (.agg #[.bool (pteOf x).v, .bool (pteOf x).r, .bool (pteOf x).w, .bool (pteOf x).x, .bool (pteOf x).u, .bool (pteOf x).g, .bool (pteOf x).a, .bool (pteOf x).d, .int .u64 (pteOf x).rsw, .int .u64 (pteOf x).ppn, .int .u64 (pteOf x).high]) fun W _ => (PteR.rget_calls x W hx).mono fun e w' h => h
theorem rlink_ok (q : Pte) : Ok 120 [.ag q.ce] (.m (ib (linkP q))) :=
  ok_plain #[.agg #[.bool q.v, .bool q.r, .bool q.w, .bool q.x, .bool q.u, .bool q.g, .bool q.a, .bool q.d, .int .u64 q.rsw, .int .u64 q.ppn, .int .u64 q.high]] (.bool (linkP q)) fun W _ => (PteR.rlink_calls q.v q.r q.w q.x q.u q.g q.a q.d q.rsw q.ppn q.high W).mono fun e w' h => h
theorem rbad_ok (q : Pte) (h : q.U) (l : Int) (l0 : 0 ≤ l) (l2 : l ≤ 2) : Ok 89 [.ag q.ce, ii l] (.m (ib (badP q l))) :=
  ok_plain #[.agg #[.bool q.v, .bool q.r, .bool q.w, .bool q.x, .bool q.u, .bool q.g, .bool q.a, .bool q.d, .int .u64 q.rsw, .int .u64 q.ppn, .int .u64 q.high], .int .i64 l] (.bool (badP q l)) fun W _ => (PteR.rbad_calls q.v q.r q.w q.x q.u q.g q.a q.d q.rsw q.ppn q.high l W h.1 h.2.1 h.2.2 l0 l2).mono fun e w' h => h
theorem ris_ok (a : Int) : Ok 116 [iu a] (.m (ib (isv a))) :=
  ok_plain #[.int .u64 a] (.bool (isv a)) fun W _ => (VaR.ris_calls a W).mono fun e w' ⟨he, hq⟩ => ⟨he, Q.below hq⟩
theorem ridx_ok (a l : Int) (ha : U a) (h0 : 0 ≤ l) (h2 : l ≤ 2) : Ok 76 [iu a, ii l] (.m (ii (idx a l))) :=
  ok_plain #[.int .u64 a, .int .i64 l] (.int .i64 (idx a l)) fun W _ => (VaR.ridx_calls a l W ha.1 ha.2 h0 h2).mono fun e w' ⟨he, hq⟩ => ⟨he, Q.below hq⟩
theorem rfits_ok (a l : Int) (ha : U a) (h0 : 0 ≤ l) (h2 : l ≤ 2) : Ok 75 [iu a, ii l] (.m (ib (fits a l))) :=
  ok_plain #[.int .u64 a, .int .i64 l] (.bool (fits a l)) fun W _ => (VaR.rfits_calls a l W ha.1 ha.2 h0 h2).mono fun e w' ⟨he, hq⟩ => ⟨he, Q.below hq⟩
attribute [local irreducible] Go.Proofs.YtmoccajgjnjelaaGreatDoor.Ax.CallOk
theorem rword_ok (sz : Int) (m : List (Int × Int)) (a : Int) (ha : U a) (hs : Srt m) (hl : m.length ≤ 1000000) : Ok 119 [memA sz m, iu a] (.m (iu (wordM sz m a))) := by
  unfold wordM
  by_cases hlt : a < sz
  rotate_left
  · rw [if_neg hlt]
    refine callOk_of 49 Tryz.func119 rfl rfl rfl rfl ?_ GG.to
    intro W A hG
    repeat (first
      | (refine go_at rfl ?_; first
          | refine go_do (valid_mv (.inl rfl) rfl) rfl ?_
          | (refine nxt_s 1 rfl ?_; refine go_do (valid_load_p tb rfl rfl rfl rfl rfl (by first | kernel_rfl | rfl)) (by first | kernel_rfl | rfl) ?_)
          | (refine nxt_s 1 rfl ?_; refine go_do (valid_fld_p tb rfl rfl rfl (by kernel_rfl)) rfl ?_)
          | refine go_do (valid_mv (.inr rfl) rfl) rfl ?_
          | refine go_do (valid_cmp rfl rfl rfl rfl (by first | exact .eql1 (by omega) | exact .eql0 (by omega) | exact .neq1 (by omega) | exact .neq0 (by omega) | exact .lss1 (by omega) | exact .lss0 (by omega) | exact .leq1 (by omega) | exact .leq0 (by omega) | exact .gtr1 (by omega) | exact .gtr0 (by omega) | exact .geq1 (by omega) | exact .geq0 (by omega) | constructor)) rfl ?_
          | refine go_do (valid_box rfl rfl rfl rfl rfl rfl) rfl ?_)
      | (refine hK _ ?_; clear hK K)
      | refine aw_text rfl ?_
      | exact aw_ret (show resA _ _ _ = some _ by kernel_rfl)
      | refine aw_cond1 rfl rfl ?_
      | refine aw_seq_k (fun K hK => ?_))
  rw [if_pos hlt]
  obtain ⟨r, hr⟩ : ∃ r, r = MemC.look m (a / 8) := ⟨_, rfl⟩
  rw [← hr]
  refine callOk_of 49 Tryz.func119 rfl rfl rfl rfl ?_ GG.to
  intro W A hG
  repeat (first
    | (refine go_at rfl ?_; first
        | refine go_do (valid_mv (.inl rfl) rfl) rfl ?_
        | (refine nxt_s 1 rfl ?_; refine go_do (valid_load_p tb rfl rfl rfl rfl rfl (by first | kernel_rfl | rfl)) (by first | kernel_rfl | rfl) ?_)
        | (refine nxt_s 1 rfl ?_; refine go_do (valid_fld_p tb rfl rfl rfl (by kernel_rfl)) rfl ?_)
        | refine go_do (valid_mv (.inr rfl) rfl) rfl ?_
        | refine go_do (valid_cmp rfl rfl rfl rfl (by first | exact .eql1 (by omega) | exact .eql0 (by omega) | exact .neq1 (by omega) | exact .neq0 (by omega) | exact .lss1 (by omega) | exact .lss0 (by omega) | exact .leq1 (by omega) | exact .leq0 (by omega) | exact .gtr1 (by omega) | exact .gtr0 (by omega) | exact .geq1 (by omega) | exact .geq0 (by omega) | constructor)) rfl ?_
        | refine go_do (valid_box rfl rfl rfl rfl rfl rfl) rfl ?_
        | refine go_do (valid_len_s rfl rfl rfl rfl) rfl ?_)
    | (refine hK _ ?_; clear hK K)
    | refine aw_text rfl ?_
    | refine aw_cond0 rfl rfl ?_
    | refine aw_block ?_
    | refine aw_skip ?_
    | refine aw_seq_k (fun K hK => ?_))
  refine aw_loopH (α := Nat × Nat) (fun q => q.1 ≤ lb m (a / 8) ∧ lb m (a / 8) ≤ q.2 ∧ q.2 ≤ m.length ∧ (q.2 = m.length ∨ ∃ c, m[q.2]? = some c ∧ a / 8 < c.1)) (fun q => St.of [(1, .m (iu a)), (2, .m (.c (.p 2 0))), (5, .m (ii q.1)), (6, .m (ii q.2))] [(2, .live (.box [cu sz, .s m.length 2 (fl m)]))]) (fun q => q.2 - q.1) (0, m.length) ⟨Nat.zero_le _, lb_le _ _, Nat.le_refl _, .inl rfl⟩ (sub_of _ _ ⟨rfl, rfl, rfl, rfl, trivial⟩ ⟨rfl, trivial⟩ rfl) ?_
  rintro ⟨lo, hi⟩ ⟨h1, h2, h3, h4⟩
  have g1 : lo ≤ lb m (a / 8) := h1
  have g2 : lb m (a / 8) ≤ hi := h2
  have g3 : hi ≤ m.length := h3
  have g4 : hi = m.length ∨ ∃ c, m[hi]? = some c ∧ a / 8 < c.1 := h4
  clear h1 h2 h3 h4
  show Aw _ _ _ _ (St.of [(1, .m (iu a)), (2, .m (.c (.p 2 0))), (5, .m (ii lo)), (6, .m (ii hi))] [(2, .live (.box [cu sz, .s m.length 2 (fl m)]))])
  by_cases hlo : lo < hi
  · have hmid : ((lo : Int) + (hi : Int)) / 2 = (((lo + hi) / 2 : Nat) : Int) := by omega
    have hml : (lo + hi) / 2 < m.length := by omega
    obtain ⟨c, hc⟩ : ∃ c, m[(lo + hi) / 2]? = some c := ⟨_, List.getElem?_eq_getElem hml⟩
    have hx : ((fl m).drop ((((lo : Int) + (hi : Int)) / 2).toNat * 2)).take 2 = [.int .u64 c.1, .int .u64 c.2] := by rw [hmid, Int.toNat_natCast]; exact SpL.fl_at2 hc
    have hlb := lt_lb m (a / 8) hs ((lo + hi) / 2) hml
    have hce : m[(lo + hi) / 2] = c := by rw [List.getElem?_eq_getElem hml] at hc; exact Option.some.inj hc
    rw [hce] at hlb
    by_cases e1 : c.1 = a / 8
    · have hlk : MemC.look m (a / 8) = c.2 := by
        have hle : lb m (a / 8) = (lo + hi) / 2 := by
          have n1 : ¬ (lo + hi) / 2 < lb m (a / 8) := fun h => by have := hlb.2 h; omega
          rcases Nat.lt_or_ge (lb m (a / 8)) ((lo + hi) / 2) with h | h
          · have hl2 := lt_lb m (a / 8) hs (lb m (a / 8)) (by omega)
            have hp := List.pairwise_iff_getElem.1 hs (lb m (a / 8)) ((lo + hi) / 2) (by omega) hml h
            rw [hce] at hp
            have := hl2.1 (by omega)
            omega
          · omega
        unfold MemC.look
        rw [hle, hc]
        simp [e1]
      obtain rfl : r = c.2 := hr.trans hlk
      repeat (first
        | (refine go_at rfl ?_; first
            | refine go_do (valid_mv (.inl rfl) rfl) rfl ?_
            | (refine nxt_s 1 rfl ?_; refine go_do (valid_load_p tb rfl rfl rfl rfl rfl (by first | kernel_rfl | rfl)) (by first | kernel_rfl | rfl) ?_)
            | (refine nxt_s 1 rfl ?_; refine go_do (valid_fld_p tb rfl rfl rfl (by kernel_rfl)) rfl ?_)
            | refine go_do (valid_mv (.inr rfl) rfl) rfl ?_
            | refine go_do (valid_cmp rfl rfl rfl rfl (by first | exact .eql1 (by omega) | exact .eql0 (by omega) | exact .neq1 (by omega) | exact .neq0 (by omega) | exact .lss1 (by omega) | exact .lss0 (by omega) | exact .leq1 (by omega) | exact .leq0 (by omega) | exact .gtr1 (by omega) | exact .gtr0 (by omega) | exact .geq1 (by omega) | exact .geq0 (by omega) | constructor)) rfl ?_
            | refine go_do (valid_ar rfl rfl rfl rfl (by constructor) (by first | exact wr_u64 (by omega) (by omega) | exact wr_i64 (by omega) (by omega) | rfl)) rfl ?_
            | refine go_do (valid_quo rfl rfl rfl rfl (by omega) (by omega) (by first | exact wr_u64 (by omega) (by omega) | exact wr_i64 (by omega) (by omega))) rfl ?_
            | (refine nxt_s 3 rfl ?_; refine go_do (valid_load_q tb rfl rfl rfl rfl (by first | kernel_rfl | rfl)) rfl ?_)
            | (refine nxt_s 3 rfl ?_; refine go_do (valid_fld_q tb rfl rfl rfl rfl) rfl ?_)
            | (refine nxt_s 4 rfl ?_; refine go_do (valid_idx_s rfl rfl rfl rfl rfl rfl (by omega) (by omega) _ (by assumption)) rfl ?_))
        | (refine hK _ ?_; clear hK K)
        | refine aw_text rfl ?_
        | exact aw_ret (show resA _ _ _ = some _ by kernel_rfl)
        | refine aw_cond1 rfl rfl ?_
        | refine aw_block ?_
        | refine aw_skip ?_
        | refine aw_seq_k (fun K hK => ?_))
    · by_cases e2 : c.1 < a / 8
      · have := hlb.1 e2
        repeat (first
          | (refine go_at rfl ?_; first
              | refine go_do (valid_mv (.inl rfl) rfl) rfl ?_
              | (refine nxt_s 1 rfl ?_; refine go_do (valid_load_p tb rfl rfl rfl rfl rfl (by first | kernel_rfl | rfl)) (by first | kernel_rfl | rfl) ?_)
              | (refine nxt_s 1 rfl ?_; refine go_do (valid_fld_p tb rfl rfl rfl (by kernel_rfl)) rfl ?_)
              | refine go_do (valid_mv (.inr rfl) rfl) rfl ?_
              | refine go_do (valid_cmp rfl rfl rfl rfl (by first | exact .eql1 (by omega) | exact .eql0 (by omega) | exact .neq1 (by omega) | exact .neq0 (by omega) | exact .lss1 (by omega) | exact .lss0 (by omega) | exact .leq1 (by omega) | exact .leq0 (by omega) | exact .gtr1 (by omega) | exact .gtr0 (by omega) | exact .geq1 (by omega) | exact .geq0 (by omega) | constructor)) rfl ?_
              | refine go_do (valid_ar rfl rfl rfl rfl (by constructor) (by first | exact wr_u64 (by omega) (by omega) | exact wr_i64 (by omega) (by omega) | rfl)) rfl ?_
              | refine go_do (valid_quo rfl rfl rfl rfl (by omega) (by omega) (by first | exact wr_u64 (by omega) (by omega) | exact wr_i64 (by omega) (by omega))) rfl ?_
              | (refine nxt_s 3 rfl ?_; refine go_do (valid_load_q tb rfl rfl rfl rfl (by first | kernel_rfl | rfl)) rfl ?_)
              | (refine nxt_s 3 rfl ?_; refine go_do (valid_fld_q tb rfl rfl rfl rfl) rfl ?_)
              | (refine nxt_s 4 rfl ?_; refine go_do (valid_idx_s rfl rfl rfl rfl rfl rfl (by omega) (by omega) _ (by assumption)) rfl ?_))
          | (refine hK _ ?_; clear hK K)
          | refine aw_text rfl ?_
          | refine aw_cond1 rfl rfl ?_
          | refine aw_cond0 rfl rfl ?_
          | refine aw_block ?_
          | refine aw_skip ?_
          | refine aw_seq_k (fun K hK => ?_))
        exact ⟨((lo + hi) / 2 + 1, hi), ⟨by show (lo + hi) / 2 + 1 ≤ _; omega, g2, g3, g4⟩, by show hi - ((lo + hi) / 2 + 1) < hi - lo; omega, sub_of _ _ ⟨rfl, rfl, rfl, rfl, trivial⟩ ⟨rfl, trivial⟩ rfl⟩
      · have : ¬ (lo + hi) / 2 < lb m (a / 8) := fun h => e2 (hlb.2 h)
        repeat (first
          | (refine go_at rfl ?_; first
              | refine go_do (valid_mv (.inl rfl) rfl) rfl ?_
              | (refine nxt_s 1 rfl ?_; refine go_do (valid_load_p tb rfl rfl rfl rfl rfl (by first | kernel_rfl | rfl)) (by first | kernel_rfl | rfl) ?_)
              | (refine nxt_s 1 rfl ?_; refine go_do (valid_fld_p tb rfl rfl rfl (by kernel_rfl)) rfl ?_)
              | refine go_do (valid_mv (.inr rfl) rfl) rfl ?_
              | refine go_do (valid_cmp rfl rfl rfl rfl (by first | exact .eql1 (by omega) | exact .eql0 (by omega) | exact .neq1 (by omega) | exact .neq0 (by omega) | exact .lss1 (by omega) | exact .lss0 (by omega) | exact .leq1 (by omega) | exact .leq0 (by omega) | exact .gtr1 (by omega) | exact .gtr0 (by omega) | exact .geq1 (by omega) | exact .geq0 (by omega) | constructor)) rfl ?_
              | refine go_do (valid_ar rfl rfl rfl rfl (by constructor) (by first | exact wr_u64 (by omega) (by omega) | exact wr_i64 (by omega) (by omega) | rfl)) rfl ?_
              | refine go_do (valid_quo rfl rfl rfl rfl (by omega) (by omega) (by first | exact wr_u64 (by omega) (by omega) | exact wr_i64 (by omega) (by omega))) rfl ?_
              | (refine nxt_s 3 rfl ?_; refine go_do (valid_load_q tb rfl rfl rfl rfl (by first | kernel_rfl | rfl)) rfl ?_)
              | (refine nxt_s 3 rfl ?_; refine go_do (valid_fld_q tb rfl rfl rfl rfl) rfl ?_)
              | (refine nxt_s 4 rfl ?_; refine go_do (valid_idx_s rfl rfl rfl rfl rfl rfl (by omega) (by omega) _ (by assumption)) rfl ?_))
          | (refine hK _ ?_; clear hK K)
          | refine aw_text rfl ?_
          | refine aw_cond1 rfl rfl ?_
          | refine aw_cond0 rfl rfl ?_
          | refine aw_block ?_
          | refine aw_skip ?_
          | refine aw_seq_k (fun K hK => ?_))
        exact ⟨(lo, (lo + hi) / 2), ⟨g1, by show lb m (a / 8) ≤ (lo + hi) / 2; omega, by show (lo + hi) / 2 ≤ m.length; omega, .inr ⟨c, hc, by omega⟩⟩, by show (lo + hi) / 2 - lo < hi - lo; omega, sub_of _ _ ⟨rfl, rfl, rfl, rfl, trivial⟩ ⟨rfl, trivial⟩ rfl⟩
  · have hlk : MemC.look m (a / 8) = 0 := by
      have e : lb m (a / 8) = hi := by omega
      unfold MemC.look
      rw [e]
      rcases g4 with h | ⟨c, hc, hlt⟩
      · rw [h, List.getElem?_eq_none (Nat.le_refl _)]
      · rw [hc]; simp; omega
    obtain rfl : r = 0 := hr.trans hlk
    repeat (first
      | (refine go_at rfl ?_; first
          | refine go_do (valid_mv (.inl rfl) rfl) rfl ?_
          | refine go_do (valid_mv (.inr rfl) rfl) rfl ?_
          | refine go_do (valid_cmp rfl rfl rfl rfl (by first | exact .eql1 (by omega) | exact .eql0 (by omega) | exact .neq1 (by omega) | exact .neq0 (by omega) | exact .lss1 (by omega) | exact .lss0 (by omega) | exact .leq1 (by omega) | exact .leq0 (by omega) | exact .gtr1 (by omega) | exact .gtr0 (by omega) | exact .geq1 (by omega) | exact .geq0 (by omega) | constructor)) rfl ?_)
      | (refine hK _ ?_; clear hK K)
      | (rename_i K1 hK1; refine hK1 _ ?_; clear hK hK1; clear K)
      | refine aw_text rfl ?_
      | exact aw_ret (show resA _ _ _ = some _ by kernel_rfl)
      | refine aw_cond0 rfl rfl ?_
      | refine aw_exit ?_
      | refine aw_seq_k (fun K hK => ?_))

theorem rat_ok (sz : Int) (m : List (Int × Int)) (f i : Int) (hf : 0 ≤ f ∧ f < 1099511627776) (hi : 0 ≤ i ∧ i < 512) (hs : Srt m) (hu : Uw m) (hl : m.length ≤ 1000000) : Ok 77 [memA sz m, iu f, ii i] (.m (.ag (pteOf (wordM sz m (4096 * f + 8 * i))).ce)) := by
  have h1 := rword_ok sz m (4096 * f + 8 * i) ⟨by omega, by omega⟩ hs hl
  have h2 := rget_ok (wordM sz m (4096 * f + 8 * i)) (hu.word sz _)
  refine callOk_of 16 Tryz.func77 rfl rfl rfl rfl ?_ GG.to
  intro W A hG
  repeat (first
    | (refine go_at rfl ?_; first
        | refine go_do (valid_mv (.inl rfl) rfl) rfl ?_
        | (refine nxt_s 1 rfl ?_; refine go_do (valid_load_p tb rfl rfl rfl rfl rfl (by first | kernel_rfl | rfl)) (by first | kernel_rfl | rfl) ?_)
        | refine go_do (valid_ar rfl rfl rfl rfl (by constructor) (by first | exact wr_u64 (by omega) (by omega) | exact wr_i64 (by omega) (by omega) | rfl)) rfl ?_
        | refine go_do (valid_cv rfl rfl rfl rfl rfl (by first | exact wr_u64 (by omega) (by omega) | exact wr_i64 (by omega) (by omega) | rfl)) rfl ?_
        | refine go_do (valid_box rfl rfl rfl rfl rfl rfl) rfl ?_
        | refine go_do (valid_alloc rfl rfl rfl rfl rfl) rfl ?_
        | (refine nxt_s 1 rfl ?_; refine go_do (valid_store_p rfl rfl rfl rfl rfl rfl (by first | kernel_rfl | rfl) rfl) (by first | kernel_rfl | rfl) ?_)
        | refine go_do (valid_call rfl rfl rfl (h1) (by kernel_rfl)) rfl ?_
        | refine go_do (valid_call rfl rfl rfl (h2) (by kernel_rfl)) rfl ?_)
    | (refine hK _ ?_; clear hK K)
    | refine aw_text rfl ?_
    | exact aw_ret (show resA _ _ _ = some _ by kernel_rfl)
    | refine aw_seq_k (fun K hK => ?_))
theorem rlinks_ok (q : Pte) (h : q.U) (l : Int) (l0 : 0 ≤ l) (l2 : l ≤ 2) : Ok 78 [.ag q.ce, ii l] (.m (ib (linksP q l))) := by
  have hk := rlink_ok q
  have hb := rbad_ok q h l l0 l2
  cases hl : linkP q with
  | false =>
    rw [hl] at hk
    rw [show linksP q l = false by simp [linksP, hl]]
    refine callOk_of 13 Tryz.func78 rfl rfl rfl rfl ?_ GG.to
    intro W A hG
    repeat (first
      | (refine go_at rfl ?_; first
          | refine go_do (valid_skip rfl) rfl ?_
          | refine go_do (valid_mv (.inl rfl) rfl) rfl ?_
          | (refine nxt_s 1 rfl ?_; refine go_do (valid_load_p tb rfl rfl rfl rfl rfl (by first | kernel_rfl | rfl)) (by first | kernel_rfl | rfl) ?_)
          | refine go_do (valid_mv (.inr rfl) rfl) rfl ?_
          | refine go_do (valid_pick rfl rfl rfl) rfl ?_
          | refine go_do (valid_box rfl rfl rfl rfl rfl rfl) rfl ?_
          | refine go_do (valid_call rfl rfl rfl (hk) (by kernel_rfl)) rfl ?_)
      | (refine hK _ ?_; clear hK K)
      | refine aw_text rfl ?_
      | exact aw_ret (show resA _ _ _ = some _ by kernel_rfl)
      | refine aw_seq_k (fun K hK => ?_))
  | true =>
    rw [hl] at hk
    rw [show linksP q l = !badP q l by simp [linksP, hl]]
    refine callOk_of 13 Tryz.func78 rfl rfl rfl rfl ?_ GG.to
    intro W A hG
    repeat (first
      | (refine go_at rfl ?_; first
          | refine go_do (valid_mv (.inl rfl) rfl) rfl ?_
          | (refine nxt_s 1 rfl ?_; refine go_do (valid_load_p tb rfl rfl rfl rfl rfl (by first | kernel_rfl | rfl)) (by first | kernel_rfl | rfl) ?_)
          | refine go_do (valid_mv (.inr rfl) rfl) rfl ?_
          | refine go_do (valid_pick rfl rfl rfl) rfl ?_
          | refine go_do (valid_box rfl rfl rfl rfl rfl rfl) rfl ?_
          | refine go_do (valid_not rfl rfl rfl) rfl ?_
          | refine go_do (valid_call rfl rfl rfl (hk) (by kernel_rfl)) rfl ?_
          | refine go_do (valid_call rfl rfl rfl (hb) (by kernel_rfl)) rfl ?_)
      | (refine hK _ ?_; clear hK K)
      | refine aw_text rfl ?_
      | exact aw_ret (show resA _ _ _ = some _ by kernel_rfl)
      | refine aw_seq_k (fun K hK => ?_))
theorem rfresh_ok (sz : Int) (m : List (Int × Int)) (b n f : Int) (hb : 0 ≤ b ∧ b ≤ 268435456) (hm : 0 ≤ n ∧ n ≤ 64) (hf : 0 ≤ f ∧ f < 2 ^ n.toNat) (h0 : f ≠ 0) (hs : Srt m) (hl : m.length ≤ 1000000) (hc : ∀ c ∈ m, 0 ≤ c.1 ∧ c.1 < 1099511627776) :
    Ok 63 [memA sz m, .ag [cu b, ci n, cu f]] (.tu [memA sz (TableC.wipeM m (b + tzI f)), .ag [cu b, ci n, cu (setI f (tzI f) 1 0)], iu (b + tzI f), ii 0]) := by
  have ht := tz_fit (U_fit hf.1 hf.2 (by omega)) hf.2 h0
  have h1 := rptake_ok b n f hb hm hf h0
  have h2 := rclear_ok sz m (b + tzI f) hs hl ⟨by omega, by omega⟩ hc
  refine callOk_of 28 Tryz.func63 rfl rfl rfl rfl ?_ GG.to
  intro W A hG
  repeat (first
    | (refine go_at rfl ?_; first
        | refine go_do (valid_mv (.inl rfl) rfl) rfl ?_
        | (refine nxt_s 1 rfl ?_; refine go_do (valid_load_p tb rfl rfl rfl rfl rfl (by first | kernel_rfl | rfl)) (by first | kernel_rfl | rfl) ?_)
        | refine go_do (valid_mv (.inr rfl) rfl) rfl ?_
        | refine go_do (valid_extract rfl rfl rfl rfl) rfl ?_
        | refine go_do (valid_cmp rfl rfl rfl rfl (by first | exact .eql1 (by omega) | exact .eql0 (by omega) | exact .neq1 (by omega) | exact .neq0 (by omega) | exact .lss1 (by omega) | exact .lss0 (by omega) | exact .leq1 (by omega) | exact .leq0 (by omega) | exact .gtr1 (by omega) | exact .gtr0 (by omega) | exact .geq1 (by omega) | exact .geq0 (by omega) | constructor)) rfl ?_
        | refine go_do (valid_ar rfl rfl rfl rfl (by constructor) (by first | exact wr_u64 (by omega) (by omega) | exact wr_i64 (by omega) (by omega) | rfl)) rfl ?_
        | refine go_do (valid_box rfl rfl rfl rfl rfl rfl) rfl ?_
        | refine go_do (valid_alloc rfl rfl rfl rfl rfl) rfl ?_
        | (refine nxt_s 1 rfl ?_; refine go_do (valid_store_p rfl rfl rfl rfl rfl rfl (by first | kernel_rfl | rfl) rfl) (by first | kernel_rfl | rfl) ?_)
        | refine go_do (valid_call rfl rfl rfl (h1) (by kernel_rfl)) rfl ?_
        | refine go_do (valid_call rfl rfl rfl (h2) (by kernel_rfl)) rfl ?_)
    | (refine hK _ ?_; clear hK K)
    | refine aw_text rfl ?_
    | refine aw_any (by kernel_rfl) (by kernel_rfl) rfl ?_
    | exact aw_ret (show resA _ _ _ = some _ by kernel_rfl)
    | refine aw_cond0 rfl rfl ?_
    | refine aw_skip ?_
    | refine aw_seq_k (fun K hK => ?_))
theorem rfresh_no (sz : Int) (m : List (Int × Int)) (b n : Int) (hm : 0 ≤ n ∧ n ≤ 64) :
    Ok 63 [memA sz m, .ag [cu b, ci n, cu 0]] (.tu [memA sz m, .ag [cu b, ci n, cu 0], iu 0, ii 8]) := by
  have h1 := rptake_no b n hm
  refine callOk_of 28 Tryz.func63 rfl rfl rfl rfl ?_ GG.to
  intro W A hG
  repeat (first
    | (refine go_at rfl ?_; first
        | refine go_do (valid_mv (.inl rfl) rfl) rfl ?_
        | (refine nxt_s 1 rfl ?_; refine go_do (valid_load_p tb rfl rfl rfl rfl rfl (by first | kernel_rfl | rfl)) (by first | kernel_rfl | rfl) ?_)
        | refine go_do (valid_mv (.inr rfl) rfl) rfl ?_
        | refine go_do (valid_extract rfl rfl rfl rfl) rfl ?_
        | refine go_do (valid_cmp rfl rfl rfl rfl (by first | exact .eql1 (by omega) | exact .eql0 (by omega) | exact .neq1 (by omega) | exact .neq0 (by omega) | exact .lss1 (by omega) | exact .lss0 (by omega) | exact .leq1 (by omega) | exact .leq0 (by omega) | exact .gtr1 (by omega) | exact .gtr0 (by omega) | exact .geq1 (by omega) | exact .geq0 (by omega) | constructor)) rfl ?_
        | refine go_do (valid_box rfl rfl rfl rfl rfl rfl) rfl ?_
        | refine go_do (valid_alloc rfl rfl rfl rfl rfl) rfl ?_
        | (refine nxt_s 1 rfl ?_; refine go_do (valid_store_p rfl rfl rfl rfl rfl rfl (by first | kernel_rfl | rfl) rfl) (by first | kernel_rfl | rfl) ?_)
        | refine go_do (valid_call rfl rfl rfl (h1) (by kernel_rfl)) rfl ?_)
    | (refine hK _ ?_; clear hK K)
    | refine aw_text rfl ?_
    | refine aw_any (by kernel_rfl) (by kernel_rfl) rfl ?_
    | exact aw_ret (show resA _ _ _ = some _ by kernel_rfl)
    | refine aw_cond1 rfl rfl ?_
    | refine aw_seq_k (fun K hK => ?_))
theorem rnames0_ok (f : Fe) : Ok 140 [.ag (Fe.ce f), .ag zE] (.m (ib false)) := by
  refine callOk_of 38 Tryz.func140 rfl rfl rfl rfl ?_ GG.to
  intro W A hG
  repeat (first
    | (refine go_at rfl ?_; first
        | (refine nxt_s 1 rfl ?_; refine go_do (valid_load_p tb rfl rfl rfl rfl rfl (by first | kernel_rfl | rfl)) (by first | kernel_rfl | rfl) ?_)
        | (refine nxt_s 1 rfl ?_; refine go_do (valid_fld_p tb rfl rfl rfl (by kernel_rfl)) rfl ?_)
        | refine go_do (valid_mv (.inr rfl) rfl) rfl ?_
        | refine go_do (valid_box rfl rfl rfl rfl rfl rfl) rfl ?_
        | refine go_do (valid_not rfl rfl rfl) rfl ?_)
    | (refine hK _ ?_; clear hK K)
    | refine aw_text rfl ?_
    | exact aw_ret (show resA _ _ _ = some _ by kernel_rfl)
    | refine aw_cond1 rfl rfl ?_
    | refine aw_seq_k (fun K hK => ?_))
theorem zsL_snoc (n : Nat) : zsL (n + 1) = zsL n ++ zS := by
  induction n with
  | zero => rfl
  | succ n ih =>
    have e : zsL (n + 1 + 1) = zS ++ zsL (n + 1) := rfl
    have e2 : zsL (n + 1) = zS ++ zsL n := rfl
    rw [e, ih, ← List.append_assoc, ← e2, ih]
def rdoH (n : Nat) (f : Fe) (i : Nat) (xs : List Value) : St := St.of [(2, .m (.c (.p 2 0))), (3, .m (.c (.p 3 0))), (4, .m (.c (.p 4 0))), (5, .m (.c (.o 1000))), (6, .m (ii i))] [(2, .live (.box [.s n 45 (zsL n)])), (3, .live (.box (Fe.ce f))), (4, .live (.box [.v (.slice none 0 0)])), (1000, .live (.row 172 45 i xs))]
def rdoL (n : Nat) (f : Fe) (i w : Nat) (xs : List Value) : St := St.of [(2, .m (.c (.p 2 0))), (3, .m (.c (.p 3 0))), (4, .m (.c (.p 4 0))), (5, .m (.c (.o 1000))), (6, .m (ii i)), (7, .m (.c (.p 7 0))), (8, .m (ii w))] [(2, .live (.box [.s n 45 (zsL n)])), (3, .live (.box (Fe.ce f))), (4, .live (.box [.v (.slice none 0 0)])), (7, .live (.box (zS.map .v))), (1000, .live (.row 172 45 i xs))]
theorem rdo0_ok (f : Fe) (n : Nat) (hn : n ≤ 16) : Ok 128 [.ag [.s n 45 (zsL n)], .ag (Fe.ce f)] (.m (.ag [.s n 45 (zsL n)])) := by
  have hm := rnames0_ok f
  refine callOk_of 41 Tryz.func128 rfl rfl rfl rfl ?_ GG.to
  intro W A hG
  repeat (first
    | (refine go_at rfl ?_; first
        | refine go_do (valid_mv (.inr rfl) rfl) rfl ?_
        | refine go_do (valid_box rfl rfl rfl rfl rfl rfl) rfl ?_
        | refine go_do (valid_alloc rfl rfl rfl rfl rfl) rfl ?_)
    | (refine hK _ ?_; clear hK K)
    | refine aw_text rfl ?_
    | refine aw_block ?_
    | refine aw_seq_k (fun K hK => ?_))
  refine aw_loopH (α := Nat × List Value) (fun q => q.1 ≤ n ∧ q.2 = zsL q.1) (fun q => rdoH n f q.1 q.2) (fun q => n - q.1) (0, []) ⟨Nat.zero_le _, rfl⟩ (Sub.trans (sub_nil 5 1000 172 45 rfl rfl) (sub_of _ _ ⟨rfl, rfl, rfl, rfl, rfl, trivial⟩ ⟨rfl, rfl, rfl, rfl, trivial⟩ rfl)) ?_
  rintro ⟨i, xs⟩ ⟨h1, h2⟩
  have g1 : i ≤ n := h1
  have g2 : xs = zsL i := h2
  clear h1 h2
  show Aw _ _ _ _ (rdoH n f i xs)
  unfold rdoH
  by_cases hlt : i < n
  · have hx : ((zsL n).drop (i * 45)).take 45 = zS := zsL_at n i hlt
    repeat (first
      | (refine go_at rfl ?_; first
          | refine go_do (valid_mv (.inl rfl) rfl) rfl ?_
          | (refine nxt_s 1 rfl ?_; refine go_do (valid_load_p tb rfl rfl rfl rfl rfl (by first | kernel_rfl | rfl)) (by first | kernel_rfl | rfl) ?_)
          | (refine nxt_s 1 rfl ?_; refine go_do (valid_fld_p tb rfl rfl rfl (by kernel_rfl)) rfl ?_)
          | refine go_do (valid_mv (.inr rfl) rfl) rfl ?_
          | refine go_do (valid_cmp rfl rfl rfl rfl (by first | exact .eql1 (by omega) | exact .eql0 (by omega) | exact .neq1 (by omega) | exact .neq0 (by omega) | exact .lss1 (by omega) | exact .lss0 (by omega) | exact .leq1 (by omega) | exact .leq0 (by omega) | exact .gtr1 (by omega) | exact .gtr0 (by omega) | exact .geq1 (by omega) | exact .geq0 (by omega) | constructor)) rfl ?_
          | refine go_do (valid_alloc rfl rfl rfl rfl rfl) rfl ?_
          | (refine nxt_s 1 rfl ?_; refine go_do (valid_store_p rfl rfl rfl rfl rfl rfl (by first | kernel_rfl | rfl) rfl) (by first | kernel_rfl | rfl) ?_)
          | refine go_do (valid_len_s rfl rfl rfl rfl) rfl ?_
          | (refine nxt_s 3 rfl ?_; refine go_do (valid_load_q tb rfl rfl rfl rfl (by first | kernel_rfl | rfl)) rfl ?_)
          | (refine nxt_s 4 rfl ?_; refine go_do (valid_idx_s rfl rfl rfl rfl rfl rfl (by omega) (by omega) _ (by assumption)) rfl ?_))
      | (refine hK _ ?_; clear hK K)
      | refine aw_text rfl ?_
      | refine aw_cond1 rfl rfl ?_
      | refine aw_block ?_
      | refine aw_skip ?_
      | refine aw_seq_k (fun K hK => ?_))
    refine aw_loopH (α := Nat) (fun w => w ≤ 4) (fun w => rdoL n f i w xs) (fun w => 4 - w) 0 (by omega) (sub_of _ _ ⟨rfl, rfl, rfl, rfl, rfl, rfl, rfl, trivial⟩ ⟨rfl, rfl, rfl, rfl, rfl, trivial⟩ rfl) ?_
    intro w hw
    unfold rdoL
    rcases (by omega : w = 0 ∨ w = 1 ∨ w = 2 ∨ w = 3 ∨ w = 4) with rfl | rfl | rfl | rfl | rfl
    · skip
      repeat (first
        | (refine go_at rfl ?_; first
            | refine go_do (valid_mv (.inl rfl) rfl) rfl ?_
            | (refine nxt_s 1 rfl ?_; refine go_do (valid_load_p tb rfl rfl rfl rfl rfl (by first | kernel_rfl | rfl)) (by first | kernel_rfl | rfl) ?_)
            | (refine nxt_s 1 rfl ?_; refine go_do (valid_fld_p tb rfl rfl rfl (by kernel_rfl)) rfl ?_)
            | refine go_do (valid_mv (.inr rfl) rfl) rfl ?_
            | refine go_do (valid_cmp rfl rfl rfl rfl (by first | exact .eql1 (by omega) | exact .eql0 (by omega) | exact .neq1 (by omega) | exact .neq0 (by omega) | exact .lss1 (by omega) | exact .lss0 (by omega) | exact .leq1 (by omega) | exact .leq0 (by omega) | exact .gtr1 (by omega) | exact .gtr0 (by omega) | exact .geq1 (by omega) | exact .geq0 (by omega) | constructor)) rfl ?_
            | refine go_do (valid_ar rfl rfl rfl rfl (by constructor) (by first | exact wr_u64 (by omega) (by omega) | exact wr_i64 (by omega) (by omega) | rfl)) rfl ?_
            | (refine nxt_s 1 rfl ?_; refine go_do (valid_idx_p rfl rfl rfl rfl rfl rfl (by omega) (by omega)) rfl ?_)
            | refine go_do (valid_call rfl rfl rfl (hm) (by kernel_rfl)) rfl ?_)
        | (refine hK _ ?_; clear hK K)
        | refine aw_text rfl ?_
        | refine aw_any (by kernel_rfl) (by kernel_rfl) rfl ?_
        | refine aw_cond1 rfl rfl ?_
        | refine aw_cond0 rfl rfl ?_
        | refine aw_block ?_
        | refine aw_skip ?_
        | refine aw_seq_k (fun K hK => ?_))
      exact ⟨1, by omega, by omega, sub_of _ _ ⟨rfl, rfl, rfl, rfl, rfl, rfl, rfl, trivial⟩ ⟨rfl, rfl, rfl, rfl, rfl, trivial⟩ rfl⟩
    · skip
      repeat (first
        | (refine go_at rfl ?_; first
            | refine go_do (valid_mv (.inl rfl) rfl) rfl ?_
            | (refine nxt_s 1 rfl ?_; refine go_do (valid_load_p tb rfl rfl rfl rfl rfl (by first | kernel_rfl | rfl)) (by first | kernel_rfl | rfl) ?_)
            | (refine nxt_s 1 rfl ?_; refine go_do (valid_fld_p tb rfl rfl rfl (by kernel_rfl)) rfl ?_)
            | refine go_do (valid_mv (.inr rfl) rfl) rfl ?_
            | refine go_do (valid_cmp rfl rfl rfl rfl (by first | exact .eql1 (by omega) | exact .eql0 (by omega) | exact .neq1 (by omega) | exact .neq0 (by omega) | exact .lss1 (by omega) | exact .lss0 (by omega) | exact .leq1 (by omega) | exact .leq0 (by omega) | exact .gtr1 (by omega) | exact .gtr0 (by omega) | exact .geq1 (by omega) | exact .geq0 (by omega) | constructor)) rfl ?_
            | refine go_do (valid_ar rfl rfl rfl rfl (by constructor) (by first | exact wr_u64 (by omega) (by omega) | exact wr_i64 (by omega) (by omega) | rfl)) rfl ?_
            | (refine nxt_s 1 rfl ?_; refine go_do (valid_idx_p rfl rfl rfl rfl rfl rfl (by omega) (by omega)) rfl ?_)
            | refine go_do (valid_call rfl rfl rfl (hm) (by kernel_rfl)) rfl ?_)
        | (refine hK _ ?_; clear hK K)
        | refine aw_text rfl ?_
        | refine aw_any (by kernel_rfl) (by kernel_rfl) rfl ?_
        | refine aw_cond1 rfl rfl ?_
        | refine aw_cond0 rfl rfl ?_
        | refine aw_block ?_
        | refine aw_skip ?_
        | refine aw_seq_k (fun K hK => ?_))
      exact ⟨2, by omega, by omega, sub_of _ _ ⟨rfl, rfl, rfl, rfl, rfl, rfl, rfl, trivial⟩ ⟨rfl, rfl, rfl, rfl, rfl, trivial⟩ rfl⟩
    · skip
      repeat (first
        | (refine go_at rfl ?_; first
            | refine go_do (valid_mv (.inl rfl) rfl) rfl ?_
            | (refine nxt_s 1 rfl ?_; refine go_do (valid_load_p tb rfl rfl rfl rfl rfl (by first | kernel_rfl | rfl)) (by first | kernel_rfl | rfl) ?_)
            | (refine nxt_s 1 rfl ?_; refine go_do (valid_fld_p tb rfl rfl rfl (by kernel_rfl)) rfl ?_)
            | refine go_do (valid_mv (.inr rfl) rfl) rfl ?_
            | refine go_do (valid_cmp rfl rfl rfl rfl (by first | exact .eql1 (by omega) | exact .eql0 (by omega) | exact .neq1 (by omega) | exact .neq0 (by omega) | exact .lss1 (by omega) | exact .lss0 (by omega) | exact .leq1 (by omega) | exact .leq0 (by omega) | exact .gtr1 (by omega) | exact .gtr0 (by omega) | exact .geq1 (by omega) | exact .geq0 (by omega) | constructor)) rfl ?_
            | refine go_do (valid_ar rfl rfl rfl rfl (by constructor) (by first | exact wr_u64 (by omega) (by omega) | exact wr_i64 (by omega) (by omega) | rfl)) rfl ?_
            | (refine nxt_s 1 rfl ?_; refine go_do (valid_idx_p rfl rfl rfl rfl rfl rfl (by omega) (by omega)) rfl ?_)
            | refine go_do (valid_call rfl rfl rfl (hm) (by kernel_rfl)) rfl ?_)
        | (refine hK _ ?_; clear hK K)
        | refine aw_text rfl ?_
        | refine aw_any (by kernel_rfl) (by kernel_rfl) rfl ?_
        | refine aw_cond1 rfl rfl ?_
        | refine aw_cond0 rfl rfl ?_
        | refine aw_block ?_
        | refine aw_skip ?_
        | refine aw_seq_k (fun K hK => ?_))
      exact ⟨3, by omega, by omega, sub_of _ _ ⟨rfl, rfl, rfl, rfl, rfl, rfl, rfl, trivial⟩ ⟨rfl, rfl, rfl, rfl, rfl, trivial⟩ rfl⟩
    · skip
      repeat (first
        | (refine go_at rfl ?_; first
            | refine go_do (valid_mv (.inl rfl) rfl) rfl ?_
            | (refine nxt_s 1 rfl ?_; refine go_do (valid_load_p tb rfl rfl rfl rfl rfl (by first | kernel_rfl | rfl)) (by first | kernel_rfl | rfl) ?_)
            | (refine nxt_s 1 rfl ?_; refine go_do (valid_fld_p tb rfl rfl rfl (by kernel_rfl)) rfl ?_)
            | refine go_do (valid_mv (.inr rfl) rfl) rfl ?_
            | refine go_do (valid_cmp rfl rfl rfl rfl (by first | exact .eql1 (by omega) | exact .eql0 (by omega) | exact .neq1 (by omega) | exact .neq0 (by omega) | exact .lss1 (by omega) | exact .lss0 (by omega) | exact .leq1 (by omega) | exact .leq0 (by omega) | exact .gtr1 (by omega) | exact .gtr0 (by omega) | exact .geq1 (by omega) | exact .geq0 (by omega) | constructor)) rfl ?_
            | refine go_do (valid_ar rfl rfl rfl rfl (by constructor) (by first | exact wr_u64 (by omega) (by omega) | exact wr_i64 (by omega) (by omega) | rfl)) rfl ?_
            | (refine nxt_s 1 rfl ?_; refine go_do (valid_idx_p rfl rfl rfl rfl rfl rfl (by omega) (by omega)) rfl ?_)
            | refine go_do (valid_call rfl rfl rfl (hm) (by kernel_rfl)) rfl ?_)
        | (refine hK _ ?_; clear hK K)
        | refine aw_text rfl ?_
        | refine aw_any (by kernel_rfl) (by kernel_rfl) rfl ?_
        | refine aw_cond1 rfl rfl ?_
        | refine aw_cond0 rfl rfl ?_
        | refine aw_block ?_
        | refine aw_skip ?_
        | refine aw_seq_k (fun K hK => ?_))
      exact ⟨4, by omega, by omega, sub_of _ _ ⟨rfl, rfl, rfl, rfl, rfl, rfl, rfl, trivial⟩ ⟨rfl, rfl, rfl, rfl, rfl, trivial⟩ rfl⟩
    · skip
      repeat (first
        | (refine go_at rfl ?_; first
            | refine go_do (valid_mv (.inl rfl) rfl) rfl ?_
            | (refine nxt_s 1 rfl ?_; refine go_do (valid_load_p tb rfl rfl rfl rfl rfl (by first | kernel_rfl | rfl)) (by first | kernel_rfl | rfl) ?_)
            | refine go_do (valid_mv (.inr rfl) rfl) rfl ?_
            | refine go_do (valid_cmp rfl rfl rfl rfl (by first | exact .eql1 (by omega) | exact .eql0 (by omega) | exact .neq1 (by omega) | exact .neq0 (by omega) | exact .lss1 (by omega) | exact .lss0 (by omega) | exact .leq1 (by omega) | exact .leq0 (by omega) | exact .gtr1 (by omega) | exact .gtr0 (by omega) | exact .geq1 (by omega) | exact .geq0 (by omega) | constructor)) rfl ?_
            | refine go_do (valid_ar rfl rfl rfl rfl (by constructor) (by first | exact wr_u64 (by omega) (by omega) | exact wr_i64 (by omega) (by omega) | rfl)) rfl ?_
            | refine go_do (valid_bslice rfl rfl rfl rfl rfl rfl rfl rfl rfl rfl rfl) rfl ?_
            | refine go_do (valid_app rfl rfl rfl rfl rfl rfl rfl rfl rfl rfl rfl rfl rfl (by omega)) rfl ?_)
        | (refine hK _ ?_; clear hK K)
        | (rename_i K1 hK1; refine hK1 _ ?_; clear hK hK1; clear K)
        | refine aw_text rfl ?_
        | refine aw_cond0 rfl rfl ?_
        | refine aw_exit ?_
        | refine aw_seq_k (fun K hK => ?_))
      exact ⟨(i + 1, xs ++ zS), ⟨by show i + 1 ≤ n; omega, by show xs ++ zS = zsL (i + 1); rw [zsL_snoc, g2]⟩, by show n - (i + 1) < n - i; omega, Sub.trans (sub_of [(2, .m (.c (.p 2 0))), (3, .m (.c (.p 3 0))), (4, .m (.c (.p 4 0))), (5, .m (.c (.o 38))), (6, .m (ii ((i + 1 : Nat) : Int)))] [(2, .live (.box [.s n 45 (zsL n)])), (3, .live (.box (Fe.ce f))), (4, .live (.box [.v (.slice none 0 0)])), (38, .live (.row 172 45 (i + 1) (xs ++ zS)))] ⟨rfl, rfl, rfl, rfl, rfl, trivial⟩ ⟨rfl, rfl, rfl, rfl, trivial⟩ rfl) (Sub.trans (sub_mv (b := 38) (b' := 1000) rfl rfl) (sub_of _ _ ⟨rfl, rfl, rfl, rfl, rfl, trivial⟩ ⟨rfl, rfl, rfl, rfl, trivial⟩ rfl))⟩
  · obtain rfl : i = n := by omega
    subst g2
    repeat (first
      | (refine go_at rfl ?_; first
          | refine go_do (valid_mv (.inl rfl) rfl) rfl ?_
          | (refine nxt_s 1 rfl ?_; refine go_do (valid_load_p tb rfl rfl rfl rfl rfl (by first | kernel_rfl | rfl)) (by first | kernel_rfl | rfl) ?_)
          | (refine nxt_s 1 rfl ?_; refine go_do (valid_fld_p tb rfl rfl rfl (by kernel_rfl)) rfl ?_)
          | refine go_do (valid_cmp rfl rfl rfl rfl (by first | exact .eql1 (by omega) | exact .eql0 (by omega) | exact .neq1 (by omega) | exact .neq0 (by omega) | exact .lss1 (by omega) | exact .lss0 (by omega) | exact .leq1 (by omega) | exact .leq0 (by omega) | exact .gtr1 (by omega) | exact .gtr0 (by omega) | exact .geq1 (by omega) | exact .geq0 (by omega) | constructor)) rfl ?_
          | (refine nxt_s 1 rfl ?_; refine go_do (valid_store_p rfl rfl rfl rfl rfl rfl (by first | kernel_rfl | rfl) rfl) (by first | kernel_rfl | rfl) ?_)
          | refine go_do (valid_len_s rfl rfl rfl rfl) rfl ?_
          | refine go_do (valid_build rfl rfl rfl rfl) rfl ?_)
      | (refine hK _ ?_; clear hK K)
      | (rename_i K1 hK1; refine hK1 _ ?_; clear hK hK1; clear K)
      | refine aw_text rfl ?_
      | exact aw_ret (show resA _ _ _ = some _ by kernel_rfl)
      | refine aw_cond0 rfl rfl ?_
      | refine aw_exit ?_
      | refine aw_seq_k (fun K hK => ?_))
theorem rall0_ok (l : List Fe) (hl : l.length ≤ 1000000) (n : Nat) (hn : n ≤ 16) : Ok 106 [.ag [.s n 45 (zsL n)], .c (.s l.length 4 (flF l))] (.m (.ag [.s n 45 (zsL n)])) := by
  refine callOk_of 19 Tryz.func106 rfl rfl rfl rfl ?_ GG.to
  intro W A hG
  repeat (first
    | (refine go_at rfl ?_; first
        | refine go_do (valid_mv (.inr rfl) rfl) rfl ?_
        | refine go_do (valid_box rfl rfl rfl rfl rfl rfl) rfl ?_
        | refine go_do (valid_alloc rfl rfl rfl rfl rfl) rfl ?_)
    | (refine hK _ ?_; clear hK K)
    | refine aw_text rfl ?_
    | refine aw_block ?_
    | refine aw_seq_k (fun K hK => ?_))
  refine aw_loopH (α := Nat) (fun k => k ≤ l.length) (fun k => St.of [(1, .m (.c (.s l.length 4 (flF l)))), (2, .m (.c (.p 2 0))), (4, .m (.c (.p 4 0))), (5, .m (ii k))] [(2, .live (.box [.s n 45 (zsL n)])), (4, .live (.box [.v (.slice none 0 0)]))]) (fun k => l.length - k) 0 (by omega) (sub_of _ _ ⟨rfl, rfl, rfl, rfl, trivial⟩ ⟨rfl, rfl, trivial⟩ rfl) ?_
  intro k hk
  by_cases hlt : k < l.length
  · obtain ⟨f, hf⟩ : ∃ f, l[k]? = some f := ⟨_, List.getElem?_eq_getElem hlt⟩
    have hx := flF_at hf
    have hd := rdo0_ok f n hn
    repeat (first
      | (refine go_at rfl ?_; first
          | refine go_do (valid_mv (.inl rfl) rfl) rfl ?_
          | (refine nxt_s 1 rfl ?_; refine go_do (valid_load_p tb rfl rfl rfl rfl rfl (by first | kernel_rfl | rfl)) (by first | kernel_rfl | rfl) ?_)
          | refine go_do (valid_mv (.inr rfl) rfl) rfl ?_
          | refine go_do (valid_cmp rfl rfl rfl rfl (by first | exact .eql1 (by omega) | exact .eql0 (by omega) | exact .neq1 (by omega) | exact .neq0 (by omega) | exact .lss1 (by omega) | exact .lss0 (by omega) | exact .leq1 (by omega) | exact .leq0 (by omega) | exact .gtr1 (by omega) | exact .gtr0 (by omega) | exact .geq1 (by omega) | exact .geq0 (by omega) | constructor)) rfl ?_
          | refine go_do (valid_ar rfl rfl rfl rfl (by constructor) (by first | exact wr_u64 (by omega) (by omega) | exact wr_i64 (by omega) (by omega) | rfl)) rfl ?_
          | (refine nxt_s 1 rfl ?_; refine go_do (valid_store_p rfl rfl rfl rfl rfl rfl (by first | kernel_rfl | rfl) rfl) (by first | kernel_rfl | rfl) ?_)
          | refine go_do (valid_len_s rfl rfl rfl rfl) rfl ?_
          | (refine nxt_s 3 rfl ?_; refine go_do (valid_load_q tb rfl rfl rfl rfl (by first | kernel_rfl | rfl)) rfl ?_)
          | (refine nxt_s 4 rfl ?_; refine go_do (valid_idx_s rfl rfl rfl rfl rfl rfl (by omega) (by omega) _ (by assumption)) rfl ?_)
          | refine go_do (valid_call rfl rfl rfl (hd) (by kernel_rfl)) rfl ?_)
      | (refine hK _ ?_; clear hK K)
      | refine aw_text rfl ?_
      | refine aw_any (by kernel_rfl) (by kernel_rfl) rfl ?_
      | refine aw_cond1 rfl rfl ?_
      | refine aw_block ?_
      | refine aw_skip ?_
      | refine aw_seq_k (fun K hK => ?_))
    exact ⟨k + 1, by omega, by omega, sub_of _ _ ⟨rfl, rfl, rfl, rfl, trivial⟩ ⟨rfl, rfl, trivial⟩ rfl⟩
  · skip
    repeat (first
      | (refine go_at rfl ?_; first
          | refine go_do (valid_mv (.inl rfl) rfl) rfl ?_
          | (refine nxt_s 1 rfl ?_; refine go_do (valid_load_p tb rfl rfl rfl rfl rfl (by first | kernel_rfl | rfl)) (by first | kernel_rfl | rfl) ?_)
          | refine go_do (valid_cmp rfl rfl rfl rfl (by first | exact .eql1 (by omega) | exact .eql0 (by omega) | exact .neq1 (by omega) | exact .neq0 (by omega) | exact .lss1 (by omega) | exact .lss0 (by omega) | exact .leq1 (by omega) | exact .leq0 (by omega) | exact .gtr1 (by omega) | exact .gtr0 (by omega) | exact .geq1 (by omega) | exact .geq0 (by omega) | constructor)) rfl ?_
          | (refine nxt_s 1 rfl ?_; refine go_do (valid_store_p rfl rfl rfl rfl rfl rfl (by first | kernel_rfl | rfl) rfl) (by first | kernel_rfl | rfl) ?_)
          | refine go_do (valid_len_s rfl rfl rfl rfl) rfl ?_)
      | (refine hK _ ?_; clear hK K)
      | (rename_i K1 hK1; refine hK1 _ ?_; clear hK hK1; clear K)
      | refine aw_text rfl ?_
      | exact aw_ret (show resA _ _ _ = some _ by kernel_rfl)
      | refine aw_cond0 rfl rfl ?_
      | refine aw_exit ?_
      | refine aw_seq_k (fun K hK => ?_))
end Go.Proofs.YtmoccajgjnjelaaGreatDoor.RfC
/- The abstract walk: the document's kernels. -/
namespace Go.Proofs.YtmoccajgjnjelaaGreatDoor.RfD
open Go.RowKit Go.Proofs.YtmoccajgjnjelaaGreatDoor.Bv Go.Proofs.YtmoccajgjnjelaaGreatDoor.VaSpec Go.Proofs.YtmoccajgjnjelaaGreatDoor.Base Go.Proofs.YtmoccajgjnjelaaGreatDoor.MemL Go.Proofs.YtmoccajgjnjelaaGreatDoor.RegR Go.Proofs.YtmoccajgjnjelaaGreatDoor.Ax Go.Proofs.YtmoccajgjnjelaaGreatDoor.MemC Go.Proofs.YtmoccajgjnjelaaGreatDoor.PutC Go.Proofs.YtmoccajgjnjelaaGreatDoor.MemC3 Go.Proofs.YtmoccajgjnjelaaGreatDoor.TzC Go.Proofs.YtmoccajgjnjelaaGreatDoor.OkS Go.Proofs.YtmoccajgjnjelaaGreatDoor.SpA Go.Proofs.YtmoccajgjnjelaaGreatDoor.SpB Go.Proofs.YtmoccajgjnjelaaGreatDoor.SpC Go.Proofs.YtmoccajgjnjelaaGreatDoor.SpD Go.Proofs.YtmoccajgjnjelaaGreatDoor.IterC Go.Proofs.YtmoccajgjnjelaaGreatDoor.SpE Go.Proofs.YtmoccajgjnjelaaGreatDoor.SpF Go.Proofs.YtmoccajgjnjelaaGreatDoor.SpG Go.Proofs.YtmoccajgjnjelaaGreatDoor.SpH Go.Proofs.YtmoccajgjnjelaaGreatDoor.SpI Go.Proofs.YtmoccajgjnjelaaGreatDoor.SpJ Go.Proofs.YtmoccajgjnjelaaGreatDoor.SpK Go.Proofs.YtmoccajgjnjelaaGreatDoor.SpN Go.Proofs.YtmoccajgjnjelaaGreatDoor.RfP Go.Proofs.YtmoccajgjnjelaaGreatDoor.RfQ Go.Proofs.YtmoccajgjnjelaaGreatDoor.RfA Go.Proofs.YtmoccajgjnjelaaGreatDoor.RfB Go.Proofs.YtmoccajgjnjelaaGreatDoor.RfC Go.Proofs.YtmoccajgjnjelaaGreatDoor.SpO
open Go.Proofs.YtmoccajgjnjelaaGreatDoor.BitsC Go.Proofs.YtmoccajgjnjelaaGreatDoor.PteSpec
set_option linter.unusedVariables false
set_option linter.unusedSimpArgs false
set_option maxRecDepth 10000
set_option maxHeartbeats 800000
attribute [local irreducible] Go.Proofs.YtmoccajgjnjelaaGreatDoor.Ax.CallOk
theorem rlives_ok (k : Kr) (id : Int) : Ok 46 [.ag k.ce, ii id] (.m (ib (livesB k id))) := by
  by_cases h0 : 0 ≤ id
  · by_cases h : id < k.ss.length
    · obtain ⟨s, hs⟩ : ∃ s, k.ss[id.toNat]? = some s := ⟨_, List.getElem?_eq_getElem (by omega)⟩
      have hx := flS_at hs
      rw [show livesB k id = s.live by simp [livesB, h0, hs]]
      refine callOk_of 22 Tryz.func46 rfl rfl rfl rfl ?_ GG.to
      intro W A hG
      repeat (first
        | (refine go_at rfl ?_; first
            | refine go_do (valid_mv (.inl rfl) rfl) rfl ?_
            | (refine nxt_s 1 rfl ?_; refine go_do (valid_load_p tb rfl rfl rfl rfl rfl (by first | kernel_rfl | rfl)) (by first | kernel_rfl | rfl) ?_)
            | (refine nxt_s 1 rfl ?_; refine go_do (valid_fld_p tb rfl rfl rfl (by kernel_rfl)) rfl ?_)
            | refine go_do (valid_mv (.inr rfl) rfl) rfl ?_
            | refine go_do (valid_pick rfl rfl rfl) rfl ?_
            | refine go_do (valid_cmp rfl rfl rfl rfl (by first | exact .eql1 (by omega) | exact .eql0 (by omega) | exact .neq1 (by omega) | exact .neq0 (by omega) | exact .lss1 (by omega) | exact .lss0 (by omega) | exact .leq1 (by omega) | exact .leq0 (by omega) | exact .gtr1 (by omega) | exact .gtr0 (by omega) | exact .geq1 (by omega) | exact .geq0 (by omega) | constructor)) rfl ?_
            | refine go_do (valid_box rfl rfl rfl rfl rfl rfl) rfl ?_
            | refine go_do (valid_len_s rfl rfl rfl rfl) rfl ?_
            | (refine nxt_s 3 rfl ?_; refine go_do (valid_load_q tb rfl rfl rfl rfl (by first | kernel_rfl | rfl)) rfl ?_)
            | (refine nxt_s 3 rfl ?_; refine go_do (valid_fld_q tb rfl rfl rfl rfl) rfl ?_)
            | (refine nxt_s 4 rfl ?_; refine go_do (valid_idx_s rfl rfl rfl rfl rfl rfl (by omega) (by omega) _ (by assumption)) rfl ?_))
        | (refine hK _ ?_; clear hK K)
        | refine aw_text rfl ?_
        | exact aw_ret (show resA _ _ _ = some _ by kernel_rfl)
        | refine aw_seq_k (fun K hK => ?_))
    · rw [show livesB k id = false by simp [livesB, List.getElem?_eq_none (show k.ss.length ≤ id.toNat by omega)]]
      refine callOk_of 22 Tryz.func46 rfl rfl rfl rfl ?_ GG.to
      intro W A hG
      repeat (first
        | (refine go_at rfl ?_; first
            | refine go_do (valid_skip rfl) rfl ?_
            | refine go_do (valid_mv (.inl rfl) rfl) rfl ?_
            | (refine nxt_s 1 rfl ?_; refine go_do (valid_load_p tb rfl rfl rfl rfl rfl (by first | kernel_rfl | rfl)) (by first | kernel_rfl | rfl) ?_)
            | (refine nxt_s 1 rfl ?_; refine go_do (valid_fld_p tb rfl rfl rfl (by kernel_rfl)) rfl ?_)
            | refine go_do (valid_mv (.inr rfl) rfl) rfl ?_
            | refine go_do (valid_pick rfl rfl rfl) rfl ?_
            | refine go_do (valid_cmp rfl rfl rfl rfl (by first | exact .eql1 (by omega) | exact .eql0 (by omega) | exact .neq1 (by omega) | exact .neq0 (by omega) | exact .lss1 (by omega) | exact .lss0 (by omega) | exact .leq1 (by omega) | exact .leq0 (by omega) | exact .gtr1 (by omega) | exact .gtr0 (by omega) | exact .geq1 (by omega) | exact .geq0 (by omega) | constructor)) rfl ?_
            | refine go_do (valid_box rfl rfl rfl rfl rfl rfl) rfl ?_
            | refine go_do (valid_len_s rfl rfl rfl rfl) rfl ?_)
        | (refine hK _ ?_; clear hK K)
        | refine aw_text rfl ?_
        | exact aw_ret (show resA _ _ _ = some _ by kernel_rfl)
        | refine aw_seq_k (fun K hK => ?_))
  · rw [show livesB k id = false by simp [livesB, h0]]
    refine callOk_of 22 Tryz.func46 rfl rfl rfl rfl ?_ GG.to
    intro W A hG
    repeat (first
      | (refine go_at rfl ?_; first
          | refine go_do (valid_skip rfl) rfl ?_
          | refine go_do (valid_mv (.inl rfl) rfl) rfl ?_
          | refine go_do (valid_mv (.inr rfl) rfl) rfl ?_
          | refine go_do (valid_pick rfl rfl rfl) rfl ?_
          | refine go_do (valid_cmp rfl rfl rfl rfl (by first | exact .eql1 (by omega) | exact .eql0 (by omega) | exact .neq1 (by omega) | exact .neq0 (by omega) | exact .lss1 (by omega) | exact .lss0 (by omega) | exact .leq1 (by omega) | exact .leq0 (by omega) | exact .gtr1 (by omega) | exact .gtr0 (by omega) | exact .geq1 (by omega) | exact .geq0 (by omega) | constructor)) rfl ?_
          | refine go_do (valid_box rfl rfl rfl rfl rfl rfl) rfl ?_)
      | (refine hK _ ?_; clear hK K)
      | refine aw_text rfl ?_
      | exact aw_ret (show resA _ _ _ = some _ by kernel_rfl)
      | refine aw_seq_k (fun K hK => ?_))
theorem rfence_ok (k : Kr) (ht : k.ts = zsL k.tn) (hn : k.tn ≤ 16) (l : List Fe) (hl : l.length ≤ 1000000) (hk : k.fs.length ≤ 1000000) : Ok 64 [.ag k.ce, .c (.s l.length 4 (flF l))] (.m (.ag (fenceK k l).ce)) := by
  rw [ce_z k ht, show (fenceK k l).ce = k.raw k.tn (zsL k.tn) k.ss.length (flS k.ss) (k.fs.length + l.length) (flF k.fs ++ flF l) from by rw [← ht]; simp [fenceK, Kr.ce, Kr.raw, flF]]
  have ha := rall0_ok l hl k.tn hn
  refine callOk_of 20 Tryz.func64 rfl rfl rfl rfl ?_ GG.to
  intro W A hG
  repeat (first
    | (refine go_at rfl ?_; first
        | refine go_do (valid_mv (.inl rfl) rfl) rfl ?_
        | (refine nxt_s 1 rfl ?_; refine go_do (valid_load_p tb rfl rfl rfl rfl rfl (by first | kernel_rfl | rfl)) (by first | kernel_rfl | rfl) ?_)
        | (refine nxt_s 1 rfl ?_; refine go_do (valid_fld_p tb rfl rfl rfl (by kernel_rfl)) rfl ?_)
        | refine go_do (valid_box rfl rfl rfl rfl rfl rfl) rfl ?_
        | refine go_do (valid_alloc rfl rfl rfl rfl rfl) rfl ?_
        | (refine nxt_s 1 rfl ?_; refine go_do (valid_store_p rfl rfl rfl rfl rfl rfl (by first | kernel_rfl | rfl) rfl) (by first | kernel_rfl | rfl) ?_)
        | refine go_do (valid_bslice0 rfl rfl rfl rfl rfl rfl rfl) rfl ?_
        | refine go_do (valid_call rfl rfl rfl (ha) (by kernel_rfl)) rfl ?_
        | refine go_do (valid_app_e rfl rfl rfl rfl rfl rfl rfl rfl rfl rfl rfl rfl (flF_one k.fs) (by omega)) rfl ?_
        | refine go_do (valid_app rfl rfl rfl rfl rfl rfl rfl rfl rfl rfl rfl rfl (flF_one l) (by omega)) rfl ?_)
    | (refine hK _ ?_; clear hK K)
    | refine aw_text rfl ?_
    | exact aw_ret (show resA _ _ _ = some _ by kernel_rfl)
    | refine aw_seq_k (fun K hK => ?_))
theorem rnew_ok (a b c : Int) (n : Nat) (h : confB a b c n = true) : Ok 16 [confA a b c n] (.m (.ag (newK a b c n).ce)) := by
  obtain ⟨ha, hb, hc, hn⟩ := confB_iff.1 h
  have l1 := allI_lt (n := b) (by omega) (by omega)
  have l2 := allI_ne (n := b) (by omega) (by omega)
  have h2 := rpnew_ok a b (by omega)
  have h3 := ranew_ok c (by omega)
  have h5 := rptake_ok a b (allI b) (by omega) (by omega) l1 l2
  obtain ⟨i, z, hi, hz, hs, hby⟩ := TlbNewC.infoS
  obtain ⟨z', hz', hzc⟩ := zset
  obtain rfl : z' = z := by rw [hi] at hz'; exact Option.some.inj (hz'.symm.trans hz)
  have hmd := made_zs n z' hzc
  have key : Ok 16 [confA a b c n] (.m (.ag [ci a, ci b, ci c, ci n, cu ((a + b) * 4096), .v (.slice none 0 0), .s n 45 (zsL n), cu 0, cu 0, cu 0, ci 0, cb false, cb false, ci (-1), cu a, ci b, cu (setI (allI b) (tzI (allI b)) 1 0), ci c, cu (allI c), cu 0, .v (.slice none 0 0), ci (-1), cu (a + tzI (allI b)), .v (.slice none 0 0)])) := by
    rw [show (a + b) * 4096 = 4096 * (a + b) by omega]
    refine callOk_of 49 Tryz.func16 rfl rfl rfl rfl ?_ GG.to
    intro W A hG
    repeat (first
      | (refine go_at rfl ?_; first
          | refine go_do (valid_mv (.inl rfl) rfl) rfl ?_
          | (refine nxt_s 1 rfl ?_; refine go_do (valid_load_p tb rfl rfl rfl rfl rfl (by first | kernel_rfl | rfl)) (by first | kernel_rfl | rfl) ?_)
          | (refine nxt_s 1 rfl ?_; refine go_do (valid_fld_p tb rfl rfl rfl (by kernel_rfl)) rfl ?_)
          | refine go_do (valid_mv (.inr rfl) rfl) rfl ?_
          | refine go_do (valid_extract rfl rfl rfl rfl) rfl ?_
          | refine go_do (valid_ar rfl rfl rfl rfl (by constructor) (by first | exact wr_u64 (by omega) (by omega) | exact wr_i64 (by omega) (by omega) | rfl)) rfl ?_
          | refine go_do (valid_cv rfl rfl rfl rfl rfl (by first | exact wr_u64 (by omega) (by omega) | exact wr_i64 (by omega) (by omega) | rfl)) rfl ?_
          | refine go_do (valid_box rfl rfl rfl rfl rfl rfl) rfl ?_
          | refine go_do (valid_alloc rfl rfl rfl rfl rfl) rfl ?_
          | (refine nxt_s 1 rfl ?_; refine go_do (valid_store_p rfl rfl rfl rfl rfl rfl (by first | kernel_rfl | rfl) rfl) (by first | kernel_rfl | rfl) ?_)
          | refine go_do (valid_build rfl rfl rfl rfl) rfl ?_
          | refine go_do (valid_call rfl rfl rfl (h2) (by kernel_rfl)) rfl ?_
          | refine go_do (valid_call rfl rfl rfl (h3) (by kernel_rfl)) rfl ?_
          | refine go_do (valid_call rfl rfl rfl (h5) (by kernel_rfl)) rfl ?_
          | refine go_do (valid_make rfl rfl rfl rfl rfl rfl rfl hi hz hs (by rw [hby]; omega) (by unfold maxLen; omega) hmd) rfl ?_)
      | (refine hK _ ?_; clear hK K)
      | refine aw_text rfl ?_
      | exact aw_ret (show resA _ _ _ = some _ by kernel_rfl)
      | refine aw_seq_k (fun K hK => ?_))
  refine callOk_lt key rfl (m_lt ?_)
  exact ⟨ltC.rf _, ltC.rf _, ltC.rf _, ltC.rf _, ltC.rf _, ltC.nil 2, ltC.rf _, ltC.rf _, ltC.rf _, ltC.rf _, ltC.rf _, ltC.rf _, ltC.rf _, ltC.rf _, ltC.rf _, ltC.rf _, ltC.rf _, ltC.rf _, ltC.rf _, ltC.rf _, ltC.nil 3, ltC.rf _, ltC.rf _, ltC.nil 4, trivial⟩
theorem rwhere_ok (k : Kr) (id a l : Int) (ha : U a) : Ok 32 [.ag k.ce, ii id, iu a, ii l] (.tu [iu (whereR k id a l).1, ii (whereR k id a l).2.1, ii (whereR k id a l).2.2]) := by
  have hl := rlives_ok k id
  unfold whereR
  by_cases c1 : 0 ≤ l ∧ l ≤ 2
  rotate_left
  · rw [if_pos c1]
    by_cases c0 : l < 0
    · refine callOk_of 50 Tryz.func32 rfl rfl rfl rfl ?_ GG.to
      intro W A hG
      repeat (first
        | (refine go_at rfl ?_; first
            | refine go_do (valid_skip rfl) rfl ?_
            | refine go_do (valid_mv (.inl rfl) rfl) rfl ?_
            | refine go_do (valid_mv (.inr rfl) rfl) rfl ?_
            | refine go_do (valid_pick rfl rfl rfl) rfl ?_
            | refine go_do (valid_cmp rfl rfl rfl rfl (by first | exact .eql1 (by omega) | exact .eql0 (by omega) | exact .neq1 (by omega) | exact .neq0 (by omega) | exact .lss1 (by omega) | exact .lss0 (by omega) | exact .leq1 (by omega) | exact .leq0 (by omega) | exact .gtr1 (by omega) | exact .gtr0 (by omega) | exact .geq1 (by omega) | exact .geq0 (by omega) | constructor)) rfl ?_
            | refine go_do (valid_box rfl rfl rfl rfl rfl rfl) rfl ?_)
        | (refine hK _ ?_; clear hK K)
        | refine aw_text rfl ?_
        | exact aw_ret (show resA _ _ _ = some _ by kernel_rfl)
        | refine aw_cond1 rfl rfl ?_
        | refine aw_seq_k (fun K hK => ?_))
    · refine callOk_of 50 Tryz.func32 rfl rfl rfl rfl ?_ GG.to
      intro W A hG
      repeat (first
        | (refine go_at rfl ?_; first
            | refine go_do (valid_mv (.inl rfl) rfl) rfl ?_
            | refine go_do (valid_mv (.inr rfl) rfl) rfl ?_
            | refine go_do (valid_pick rfl rfl rfl) rfl ?_
            | refine go_do (valid_cmp rfl rfl rfl rfl (by first | exact .eql1 (by omega) | exact .eql0 (by omega) | exact .neq1 (by omega) | exact .neq0 (by omega) | exact .lss1 (by omega) | exact .lss0 (by omega) | exact .leq1 (by omega) | exact .leq0 (by omega) | exact .gtr1 (by omega) | exact .gtr0 (by omega) | exact .geq1 (by omega) | exact .geq0 (by omega) | constructor)) rfl ?_
            | refine go_do (valid_box rfl rfl rfl rfl rfl rfl) rfl ?_)
        | (refine hK _ ?_; clear hK K)
        | refine aw_text rfl ?_
        | exact aw_ret (show resA _ _ _ = some _ by kernel_rfl)
        | refine aw_cond1 rfl rfl ?_
        | refine aw_seq_k (fun K hK => ?_))
  rw [if_neg (by simpa using c1)]
  have hi := ridx_ok a 2 ha (by omega) (by omega)
  have hf := rfits_ok a l ha c1.1 c1.2
  by_cases c0 : id = -1
  · rw [if_neg (by simp [c0])]
    by_cases c2 : fits a l = false
    · rw [if_pos c2]
      rw [c2] at hf
      refine callOk_of 50 Tryz.func32 rfl rfl rfl rfl ?_ GG.to
      intro W A hG
      repeat (first
        | (refine go_at rfl ?_; first
            | refine go_do (valid_skip rfl) rfl ?_
            | refine go_do (valid_mv (.inl rfl) rfl) rfl ?_
            | refine go_do (valid_mv (.inr rfl) rfl) rfl ?_
            | refine go_do (valid_pick rfl rfl rfl) rfl ?_
            | refine go_do (valid_cmp rfl rfl rfl rfl (by first | exact .eql1 (by omega) | exact .eql0 (by omega) | exact .neq1 (by omega) | exact .neq0 (by omega) | exact .lss1 (by omega) | exact .lss0 (by omega) | exact .leq1 (by omega) | exact .leq0 (by omega) | exact .gtr1 (by omega) | exact .gtr0 (by omega) | exact .geq1 (by omega) | exact .geq0 (by omega) | constructor)) rfl ?_
            | refine go_do (valid_box rfl rfl rfl rfl rfl rfl) rfl ?_
            | refine go_do (valid_not rfl rfl rfl) rfl ?_
            | refine go_do (valid_call rfl rfl rfl (hf) (by kernel_rfl)) rfl ?_)
        | (refine hK _ ?_; clear hK K)
        | refine aw_text rfl ?_
        | exact aw_ret (show resA _ _ _ = some _ by kernel_rfl)
        | refine aw_cond1 rfl rfl ?_
        | refine aw_cond0 rfl rfl ?_
        | refine aw_skip ?_
        | refine aw_seq_k (fun K hK => ?_))
    rw [if_neg c2, if_pos c0]
    rw [show fits a l = true by simpa using c2] at hf
    by_cases c3 : idx a 2 = 511
    · by_cases c4 : l = 2
      · rw [if_neg (by simp [c4])]
        refine callOk_of 50 Tryz.func32 rfl rfl rfl rfl ?_ GG.to
        intro W A hG
        repeat (first
          | (refine go_at rfl ?_; first
              | refine go_do (valid_skip rfl) rfl ?_
              | refine go_do (valid_mv (.inl rfl) rfl) rfl ?_
              | refine go_do (valid_mv (.inr rfl) rfl) rfl ?_
              | refine go_do (valid_pick rfl rfl rfl) rfl ?_
              | refine go_do (valid_cmp rfl rfl rfl rfl (by first | exact .eql1 (by omega) | exact .eql0 (by omega) | exact .neq1 (by omega) | exact .neq0 (by omega) | exact .lss1 (by omega) | exact .lss0 (by omega) | exact .leq1 (by omega) | exact .leq0 (by omega) | exact .gtr1 (by omega) | exact .gtr0 (by omega) | exact .geq1 (by omega) | exact .geq0 (by omega) | constructor)) rfl ?_
              | refine go_do (valid_box rfl rfl rfl rfl rfl rfl) rfl ?_
              | refine go_do (valid_not rfl rfl rfl) rfl ?_
              | refine go_do (valid_call rfl rfl rfl (hf) (by kernel_rfl)) rfl ?_
              | refine go_do (valid_call rfl rfl rfl (hi) (by kernel_rfl)) rfl ?_)
          | (refine hK _ ?_; clear hK K)
          | refine aw_text rfl ?_
          | exact aw_ret (show resA _ _ _ = some _ by kernel_rfl)
          | refine aw_cond1 rfl rfl ?_
          | refine aw_cond0 rfl rfl ?_
          | refine aw_skip ?_
          | refine aw_seq_k (fun K hK => ?_))
      · rw [if_pos ⟨c3, c4⟩]
        refine callOk_of 50 Tryz.func32 rfl rfl rfl rfl ?_ GG.to
        intro W A hG
        repeat (first
          | (refine go_at rfl ?_; first
              | refine go_do (valid_skip rfl) rfl ?_
              | refine go_do (valid_mv (.inl rfl) rfl) rfl ?_
              | (refine nxt_s 1 rfl ?_; refine go_do (valid_load_p tb rfl rfl rfl rfl rfl (by first | kernel_rfl | rfl)) (by first | kernel_rfl | rfl) ?_)
              | (refine nxt_s 1 rfl ?_; refine go_do (valid_fld_p tb rfl rfl rfl (by kernel_rfl)) rfl ?_)
              | refine go_do (valid_mv (.inr rfl) rfl) rfl ?_
              | refine go_do (valid_pick rfl rfl rfl) rfl ?_
              | refine go_do (valid_cmp rfl rfl rfl rfl (by first | exact .eql1 (by omega) | exact .eql0 (by omega) | exact .neq1 (by omega) | exact .neq0 (by omega) | exact .lss1 (by omega) | exact .lss0 (by omega) | exact .leq1 (by omega) | exact .leq0 (by omega) | exact .gtr1 (by omega) | exact .gtr0 (by omega) | exact .geq1 (by omega) | exact .geq0 (by omega) | constructor)) rfl ?_
              | refine go_do (valid_box rfl rfl rfl rfl rfl rfl) rfl ?_
              | refine go_do (valid_not rfl rfl rfl) rfl ?_
              | refine go_do (valid_call rfl rfl rfl (hf) (by kernel_rfl)) rfl ?_
              | refine go_do (valid_call rfl rfl rfl (hi) (by kernel_rfl)) rfl ?_)
          | (refine hK _ ?_; clear hK K)
          | refine aw_text rfl ?_
          | exact aw_ret (show resA _ _ _ = some _ by kernel_rfl)
          | refine aw_cond1 rfl rfl ?_
          | refine aw_cond0 rfl rfl ?_
          | refine aw_skip ?_
          | refine aw_seq_k (fun K hK => ?_))
    · rw [if_neg (by simp [c3])]
      refine callOk_of 50 Tryz.func32 rfl rfl rfl rfl ?_ GG.to
      intro W A hG
      repeat (first
        | (refine go_at rfl ?_; first
            | refine go_do (valid_skip rfl) rfl ?_
            | refine go_do (valid_mv (.inl rfl) rfl) rfl ?_
            | refine go_do (valid_mv (.inr rfl) rfl) rfl ?_
            | refine go_do (valid_pick rfl rfl rfl) rfl ?_
            | refine go_do (valid_cmp rfl rfl rfl rfl (by first | exact .eql1 (by omega) | exact .eql0 (by omega) | exact .neq1 (by omega) | exact .neq0 (by omega) | exact .lss1 (by omega) | exact .lss0 (by omega) | exact .leq1 (by omega) | exact .leq0 (by omega) | exact .gtr1 (by omega) | exact .gtr0 (by omega) | exact .geq1 (by omega) | exact .geq0 (by omega) | constructor)) rfl ?_
            | refine go_do (valid_box rfl rfl rfl rfl rfl rfl) rfl ?_
            | refine go_do (valid_not rfl rfl rfl) rfl ?_
            | refine go_do (valid_call rfl rfl rfl (hf) (by kernel_rfl)) rfl ?_
            | refine go_do (valid_call rfl rfl rfl (hi) (by kernel_rfl)) rfl ?_)
        | (refine hK _ ?_; clear hK K)
        | refine aw_text rfl ?_
        | exact aw_ret (show resA _ _ _ = some _ by kernel_rfl)
        | refine aw_cond1 rfl rfl ?_
        | refine aw_cond0 rfl rfl ?_
        | refine aw_skip ?_
        | refine aw_seq_k (fun K hK => ?_))
  · by_cases c5 : livesB k id = false
    · rw [if_pos ⟨c0, c5⟩]
      rw [c5] at hl
      refine callOk_of 50 Tryz.func32 rfl rfl rfl rfl ?_ GG.to
      intro W A hG
      repeat (first
        | (refine go_at rfl ?_; first
            | refine go_do (valid_mv (.inl rfl) rfl) rfl ?_
            | (refine nxt_s 1 rfl ?_; refine go_do (valid_load_p tb rfl rfl rfl rfl rfl (by first | kernel_rfl | rfl)) (by first | kernel_rfl | rfl) ?_)
            | refine go_do (valid_mv (.inr rfl) rfl) rfl ?_
            | refine go_do (valid_pick rfl rfl rfl) rfl ?_
            | refine go_do (valid_cmp rfl rfl rfl rfl (by first | exact .eql1 (by omega) | exact .eql0 (by omega) | exact .neq1 (by omega) | exact .neq0 (by omega) | exact .lss1 (by omega) | exact .lss0 (by omega) | exact .leq1 (by omega) | exact .leq0 (by omega) | exact .gtr1 (by omega) | exact .gtr0 (by omega) | exact .geq1 (by omega) | exact .geq0 (by omega) | constructor)) rfl ?_
            | refine go_do (valid_box rfl rfl rfl rfl rfl rfl) rfl ?_
            | refine go_do (valid_not rfl rfl rfl) rfl ?_
            | refine go_do (valid_call rfl rfl rfl (hl) (by kernel_rfl)) rfl ?_)
        | (refine hK _ ?_; clear hK K)
        | refine aw_text rfl ?_
        | exact aw_ret (show resA _ _ _ = some _ by kernel_rfl)
        | refine aw_cond1 rfl rfl ?_
        | refine aw_cond0 rfl rfl ?_
        | refine aw_skip ?_
        | refine aw_seq_k (fun K hK => ?_))
    rw [if_neg (by simp [c5])]
    have c5 : livesB k id = true := by simpa using c5
    rw [c5] at hl
    obtain ⟨y0, y1, y2, y3⟩ := lives_at c5
    have hx := flS_at y2
    by_cases c2 : fits a l = false
    · rw [if_pos c2]
      rw [c2] at hf
      refine callOk_of 50 Tryz.func32 rfl rfl rfl rfl ?_ GG.to
      intro W A hG
      repeat (first
        | (refine go_at rfl ?_; first
            | refine go_do (valid_mv (.inl rfl) rfl) rfl ?_
            | (refine nxt_s 1 rfl ?_; refine go_do (valid_load_p tb rfl rfl rfl rfl rfl (by first | kernel_rfl | rfl)) (by first | kernel_rfl | rfl) ?_)
            | refine go_do (valid_mv (.inr rfl) rfl) rfl ?_
            | refine go_do (valid_pick rfl rfl rfl) rfl ?_
            | refine go_do (valid_cmp rfl rfl rfl rfl (by first | exact .eql1 (by omega) | exact .eql0 (by omega) | exact .neq1 (by omega) | exact .neq0 (by omega) | exact .lss1 (by omega) | exact .lss0 (by omega) | exact .leq1 (by omega) | exact .leq0 (by omega) | exact .gtr1 (by omega) | exact .gtr0 (by omega) | exact .geq1 (by omega) | exact .geq0 (by omega) | constructor)) rfl ?_
            | refine go_do (valid_box rfl rfl rfl rfl rfl rfl) rfl ?_
            | refine go_do (valid_not rfl rfl rfl) rfl ?_
            | refine go_do (valid_call rfl rfl rfl (hl) (by kernel_rfl)) rfl ?_
            | refine go_do (valid_call rfl rfl rfl (hf) (by kernel_rfl)) rfl ?_)
        | (refine hK _ ?_; clear hK K)
        | refine aw_text rfl ?_
        | exact aw_ret (show resA _ _ _ = some _ by kernel_rfl)
        | refine aw_cond1 rfl rfl ?_
        | refine aw_cond0 rfl rfl ?_
        | refine aw_skip ?_
        | refine aw_seq_k (fun K hK => ?_))
    rw [if_neg c2, if_neg c0]
    rw [show fits a l = true by simpa using c2] at hf
    by_cases c3 : idx a 2 = 511
    · rw [if_pos c3]
      refine callOk_of 50 Tryz.func32 rfl rfl rfl rfl ?_ GG.to
      intro W A hG
      repeat (first
        | (refine go_at rfl ?_; first
            | refine go_do (valid_mv (.inl rfl) rfl) rfl ?_
            | (refine nxt_s 1 rfl ?_; refine go_do (valid_load_p tb rfl rfl rfl rfl rfl (by first | kernel_rfl | rfl)) (by first | kernel_rfl | rfl) ?_)
            | refine go_do (valid_mv (.inr rfl) rfl) rfl ?_
            | refine go_do (valid_pick rfl rfl rfl) rfl ?_
            | refine go_do (valid_cmp rfl rfl rfl rfl (by first | exact .eql1 (by omega) | exact .eql0 (by omega) | exact .neq1 (by omega) | exact .neq0 (by omega) | exact .lss1 (by omega) | exact .lss0 (by omega) | exact .leq1 (by omega) | exact .leq0 (by omega) | exact .gtr1 (by omega) | exact .gtr0 (by omega) | exact .geq1 (by omega) | exact .geq0 (by omega) | constructor)) rfl ?_
            | refine go_do (valid_box rfl rfl rfl rfl rfl rfl) rfl ?_
            | refine go_do (valid_not rfl rfl rfl) rfl ?_
            | refine go_do (valid_call rfl rfl rfl (hl) (by kernel_rfl)) rfl ?_
            | refine go_do (valid_call rfl rfl rfl (hf) (by kernel_rfl)) rfl ?_
            | refine go_do (valid_call rfl rfl rfl (hi) (by kernel_rfl)) rfl ?_)
        | (refine hK _ ?_; clear hK K)
        | refine aw_text rfl ?_
        | exact aw_ret (show resA _ _ _ = some _ by kernel_rfl)
        | refine aw_cond1 rfl rfl ?_
        | refine aw_cond0 rfl rfl ?_
        | refine aw_skip ?_
        | refine aw_seq_k (fun K hK => ?_))
    · rw [if_neg c3]
      refine callOk_of 50 Tryz.func32 rfl rfl rfl rfl ?_ GG.to
      intro W A hG
      repeat (first
        | (refine go_at rfl ?_; first
            | refine go_do (valid_mv (.inl rfl) rfl) rfl ?_
            | (refine nxt_s 1 rfl ?_; refine go_do (valid_load_p tb rfl rfl rfl rfl rfl (by first | kernel_rfl | rfl)) (by first | kernel_rfl | rfl) ?_)
            | (refine nxt_s 1 rfl ?_; refine go_do (valid_fld_p tb rfl rfl rfl (by kernel_rfl)) rfl ?_)
            | refine go_do (valid_mv (.inr rfl) rfl) rfl ?_
            | refine go_do (valid_pick rfl rfl rfl) rfl ?_
            | refine go_do (valid_cmp rfl rfl rfl rfl (by first | exact .eql1 (by omega) | exact .eql0 (by omega) | exact .neq1 (by omega) | exact .neq0 (by omega) | exact .lss1 (by omega) | exact .lss0 (by omega) | exact .leq1 (by omega) | exact .leq0 (by omega) | exact .gtr1 (by omega) | exact .gtr0 (by omega) | exact .geq1 (by omega) | exact .geq0 (by omega) | constructor)) rfl ?_
            | refine go_do (valid_box rfl rfl rfl rfl rfl rfl) rfl ?_
            | (refine nxt_s 3 rfl ?_; refine go_do (valid_load_q tb rfl rfl rfl rfl (by first | kernel_rfl | rfl)) rfl ?_)
            | (refine nxt_s 3 rfl ?_; refine go_do (valid_fld_q tb rfl rfl rfl rfl) rfl ?_)
            | refine go_do (valid_not rfl rfl rfl) rfl ?_
            | (refine nxt_s 4 rfl ?_; refine go_do (valid_idx_s rfl rfl rfl rfl rfl rfl (by omega) (by omega) _ (by assumption)) rfl ?_)
            | refine go_do (valid_call rfl rfl rfl (hl) (by kernel_rfl)) rfl ?_
            | refine go_do (valid_call rfl rfl rfl (hf) (by kernel_rfl)) rfl ?_
            | refine go_do (valid_call rfl rfl rfl (hi) (by kernel_rfl)) rfl ?_)
        | (refine hK _ ?_; clear hK K)
        | refine aw_text rfl ?_
        | exact aw_ret (show resA _ _ _ = some _ by kernel_rfl)
        | refine aw_cond0 rfl rfl ?_
        | refine aw_skip ?_
        | refine aw_seq_k (fun K hK => ?_))
end Go.Proofs.YtmoccajgjnjelaaGreatDoor.RfD
/- The abstract walk: the document's Create, Destroy; its deeds. -/
namespace Go.Proofs.YtmoccajgjnjelaaGreatDoor.RfE
open Go.RowKit Go.Proofs.YtmoccajgjnjelaaGreatDoor.Bv Go.Proofs.YtmoccajgjnjelaaGreatDoor.VaSpec Go.Proofs.YtmoccajgjnjelaaGreatDoor.Base Go.Proofs.YtmoccajgjnjelaaGreatDoor.MemL Go.Proofs.YtmoccajgjnjelaaGreatDoor.RegR Go.Proofs.YtmoccajgjnjelaaGreatDoor.Ax Go.Proofs.YtmoccajgjnjelaaGreatDoor.MemC Go.Proofs.YtmoccajgjnjelaaGreatDoor.PutC Go.Proofs.YtmoccajgjnjelaaGreatDoor.MemC3 Go.Proofs.YtmoccajgjnjelaaGreatDoor.TzC Go.Proofs.YtmoccajgjnjelaaGreatDoor.OkS Go.Proofs.YtmoccajgjnjelaaGreatDoor.SpA Go.Proofs.YtmoccajgjnjelaaGreatDoor.SpB Go.Proofs.YtmoccajgjnjelaaGreatDoor.SpC Go.Proofs.YtmoccajgjnjelaaGreatDoor.SpD Go.Proofs.YtmoccajgjnjelaaGreatDoor.IterC Go.Proofs.YtmoccajgjnjelaaGreatDoor.SpE Go.Proofs.YtmoccajgjnjelaaGreatDoor.SpF Go.Proofs.YtmoccajgjnjelaaGreatDoor.SpG Go.Proofs.YtmoccajgjnjelaaGreatDoor.SpH Go.Proofs.YtmoccajgjnjelaaGreatDoor.SpI Go.Proofs.YtmoccajgjnjelaaGreatDoor.SpJ Go.Proofs.YtmoccajgjnjelaaGreatDoor.SpK Go.Proofs.YtmoccajgjnjelaaGreatDoor.SpN Go.Proofs.YtmoccajgjnjelaaGreatDoor.RfP Go.Proofs.YtmoccajgjnjelaaGreatDoor.RfQ Go.Proofs.YtmoccajgjnjelaaGreatDoor.RfA Go.Proofs.YtmoccajgjnjelaaGreatDoor.RfB Go.Proofs.YtmoccajgjnjelaaGreatDoor.RfC Go.Proofs.YtmoccajgjnjelaaGreatDoor.SpO Go.Proofs.YtmoccajgjnjelaaGreatDoor.RfD
open Go.Proofs.YtmoccajgjnjelaaGreatDoor.BitsC Go.Proofs.YtmoccajgjnjelaaGreatDoor.PteSpec
set_option linter.unusedVariables false
set_option linter.unusedSimpArgs false
set_option maxRecDepth 10000
set_option maxHeartbeats 800000
attribute [local irreducible] Go.Proofs.YtmoccajgjnjelaaGreatDoor.Ax.CallOk
/-! ### plain -/
theorem putE_gP (n : Int) (h : 0 ≤ n ∧ n < 17592186044416) : PteC.putE (gP n) = 33 + 1024 * n := by
  have hm : mayP (gP n) = true := by
    unfold mayP gP
    simp; omega
  unfold PteC.putE
  rw [if_pos hm]
  show low8 (gP n) + 0 * 256 + n * 1024 + 0 * 18014398509481984 = _
  rw [show low8 (gP n) = 33 from rfl]
  omega
theorem newM_is {n : Nat} {k : Kr} (h : Inv n k) (hp : k.pf ≠ 0) : newM k = putM (TableC.wipeM k.m (k.pb + tzI k.pf)) (512 * (k.pb + tzI k.pf) + 511) (33 + 1024 * k.sh) := by
  have t1 := tz_fit h.upf h.pf.2 hp
  have h1 := h.cd
  have h2 := h.cp
  have h3 := h.pb
  have h4 := h.pm
  have h8 := h.sh
  have hP : (gP k.sh).U := ⟨by show (0 : Int) ≤ 0 ∧ (0 : Int) < _; omega, by show 0 ≤ k.sh ∧ k.sh < _; omega, by show (0 : Int) ≤ 0 ∧ (0 : Int) < _; omega⟩
  unfold newM
  rw [kA_idx, with_is hP (by omega) (by omega) (by rw [h.sz]; omega), putE_gP _ (by omega), show (k.pb + tzI k.pf) * 512 + 511 = 512 * (k.pb + tzI k.pf) + 511 by omega]
theorem destroyK_is {n : Nat} {k : Kr} (h : Inv n k) {id : Int} (hl : livesB k id = true) : destroyK k id (spAt k id) = { backK k (spAt k id).root with af := giveA k.am k.af (spAt k id).asid, ss := k.ss.set id.toNat zSp } := by
  obtain ⟨h0, h1, h2, h3⟩ := lives_at hl
  obtain ⟨hr, ha⟩ := h.ss _ (List.mem_of_getElem? h2) h3
  have e : TableC.wipeM (offM k (spAt k id)) (spAt k id).root = TableC.wipeM k.m (spAt k id).root := by rw [offM_is h hr, wipe_put _ _ h.m]
  unfold destroyK backK
  simp only [e]
theorem cells_bd {n : Nat} {k : Kr} (h : Inv n k) : ∀ c ∈ k.m, 0 ≤ c.1 ∧ c.1 < 1099511627776 := fun c hc => by
  obtain ⟨a, b, _, _⟩ := h.mc c hc
  have h1 := h.cd
  have h2 := h.cp
  constructor <;> omega
/-! ### Create -/
theorem rcreate_plain {n : Nat} {k : Kr} (h : Inv n k) (hn : n ≤ 100000) (h32 : k.ss.length < 32) (h0 : k.af ≠ 0) (hp0 : k.pf ≠ 0) (hown : bitB k.ao (tzI k.af) = false) :
    Ok 18 [.ag k.ce] (.tu [.ag (createK k).ce, ii k.ss.length, ii 0]) := by
  have h1 := h.cd
  have h2 := h.cp
  have h3 := h.pb
  have h4 := h.pm
  have h5 := h.ml
  have h6 := h.ca
  have h7 := h.am
  have h8 := h.sh
  have t1 := tz_fit h.upf h.pf.2 hp0
  have t2 := tz_fit h.uaf h.af.2 h0
  have hw := wipe_len k.m (k.pb + tzI k.pf)
  have ht := ratake_ok k.am k.af k.ao (by omega) (by rw [h.am]; exact h.af) h.uao h0
  rw [hown] at ht
  have hf := rfresh_ok k.sz k.m k.pb k.pm k.pf (by omega) (by omega) (by rw [h.pm]; exact h.pf) hp0 h.m (by omega) (cells_bd h)
  have hs := rset03_ok k.sz (TableC.wipeM k.m (k.pb + tzI k.pf)) (512 * (k.pb + tzI k.pf) + 511) (33 + 1024 * k.sh) (wipe_srt _ h.m) (by omega)
  rw [← newM_is h hp0] at hs
  rw [createK_ce]
  refine callOk_of 80 Tryz.func18 rfl rfl rfl rfl ?_ GG.to
  intro W A hG
  repeat (first
    | (refine go_at rfl ?_; first
        | refine go_do (valid_mv (.inl rfl) rfl) rfl ?_
        | (refine nxt_s 1 rfl ?_; refine go_do (valid_load_p tb rfl rfl rfl rfl rfl (by first | kernel_rfl | rfl)) (by first | kernel_rfl | rfl) ?_)
        | (refine nxt_s 1 rfl ?_; refine go_do (valid_fld_p tb rfl rfl rfl (by kernel_rfl)) rfl ?_)
        | refine go_do (valid_mv (.inr rfl) rfl) rfl ?_
        | refine go_do (valid_extract rfl rfl rfl rfl) rfl ?_
        | refine go_do (valid_cmp rfl rfl rfl rfl (by first | exact .eql1 (by omega) | exact .eql0 (by omega) | exact .neq1 (by omega) | exact .neq0 (by omega) | exact .lss1 (by omega) | exact .lss0 (by omega) | exact .leq1 (by omega) | exact .leq0 (by omega) | exact .gtr1 (by omega) | exact .gtr0 (by omega) | exact .geq1 (by omega) | exact .geq0 (by omega) | constructor)) rfl ?_
        | refine go_do (valid_ar rfl rfl rfl rfl (by constructor) (by first | exact wr_u64 (by omega) (by omega) | exact wr_i64 (by omega) (by omega) | rfl)) rfl ?_
        | refine go_do (valid_box rfl rfl rfl rfl rfl rfl) rfl ?_
        | refine go_do (valid_alloc rfl rfl rfl rfl rfl) rfl ?_
        | (refine nxt_s 1 rfl ?_; refine go_do (valid_store_p rfl rfl rfl rfl rfl rfl (by first | kernel_rfl | rfl) rfl) (by first | kernel_rfl | rfl) ?_)
        | refine go_do (valid_len_s rfl rfl rfl rfl) rfl ?_
        | refine go_do (valid_build rfl rfl rfl rfl) rfl ?_
        | refine go_do (valid_bslice rfl rfl rfl rfl rfl rfl rfl rfl rfl rfl rfl) rfl ?_
        | refine go_do (valid_bslice0 rfl rfl rfl rfl rfl rfl rfl) rfl ?_
        | refine go_do (valid_call rfl rfl rfl (ht) (by kernel_rfl)) rfl ?_
        | refine go_do (valid_call rfl rfl rfl (hf) (by kernel_rfl)) rfl ?_
        | refine go_do (valid_call rfl rfl rfl (hs) (by kernel_rfl)) rfl ?_
        | refine go_do (valid_app_e rfl rfl rfl rfl rfl rfl rfl rfl rfl rfl rfl rfl (SpM.flS_one k.ss) (by omega)) rfl ?_
        | refine go_do (valid_app rfl rfl rfl rfl rfl rfl rfl rfl rfl rfl rfl rfl rfl (by omega)) rfl ?_)
    | (refine hK _ ?_; clear hK K)
    | refine aw_text rfl ?_
    | exact aw_ret (show resA _ _ _ = some _ by kernel_rfl)
    | refine aw_cond0 rfl rfl ?_
    | refine aw_skip ?_
    | refine aw_seq_k (fun K hK => ?_))
theorem rcreate_owned {n : Nat} {k : Kr} (h : Inv n k) (hn : n ≤ 100000) (h32 : k.ss.length < 32) (h0 : k.af ≠ 0) (hp0 : k.pf ≠ 0) (hown : bitB k.ao (tzI k.af) = true) :
    Ok 18 [.ag k.ce] (.tu [.ag (fenceK (createK k) [aFe (tzI k.af + 1)]).ce, ii k.ss.length, ii 0]) := by
  have h1 := h.cd
  have h2 := h.cp
  have h3 := h.pb
  have h4 := h.pm
  have h5 := h.ml
  have h6 := h.ca
  have h7 := h.am
  have h8 := h.sh
  have h9 := h.fl
  have t1 := tz_fit h.upf h.pf.2 hp0
  have t2 := tz_fit h.uaf h.af.2 h0
  have hw := wipe_len k.m (k.pb + tzI k.pf)
  have ht := ratake_ok k.am k.af k.ao (by omega) (by rw [h.am]; exact h.af) h.uao h0
  rw [hown] at ht
  have hf := rfresh_ok k.sz k.m k.pb k.pm k.pf (by omega) (by omega) (by rw [h.pm]; exact h.pf) hp0 h.m (by omega) (cells_bd h)
  have hs := rset03_ok k.sz (TableC.wipeM k.m (k.pb + tzI k.pf)) (512 * (k.pb + tzI k.pf) + 511) (33 + 1024 * k.sh) (wipe_srt _ h.m) (by omega)
  rw [← newM_is h hp0] at hs
  have hfe : Ok 64 [.ag (({ k with m := newM k, pf := setI k.pf (tzI k.pf) 1 0, af := takeA1 k.af, ao := takeA2 k.af k.ao } : Kr).raw k.tn k.ts (k.ss.length + 1) (flS k.ss ++ (⟨k.pb + tzI k.pf, tzI k.af + 1, true⟩ : Sp).vs) k.fs.length (flF k.fs)), .c (.s 1 4 (flF [aFe (tzI k.af + 1)]))] (.m (.ag (fenceK (createK k) [aFe (tzI k.af + 1)]).ce)) := by
    rw [← createK_ce]
    exact rfence_ok (createK k) h.ts h.cs.2 [aFe (tzI k.af + 1)] (by simp) (by show k.fs.length ≤ _; omega)
  refine callOk_of 80 Tryz.func18 rfl rfl rfl rfl ?_ GG.to
  intro W A hG
  repeat (first
    | (refine go_at rfl ?_; first
        | refine go_do (valid_mv (.inl rfl) rfl) rfl ?_
        | (refine nxt_s 1 rfl ?_; refine go_do (valid_load_p tb rfl rfl rfl rfl rfl (by first | kernel_rfl | rfl)) (by first | kernel_rfl | rfl) ?_)
        | (refine nxt_s 1 rfl ?_; refine go_do (valid_fld_p tb rfl rfl rfl (by kernel_rfl)) rfl ?_)
        | refine go_do (valid_mv (.inr rfl) rfl) rfl ?_
        | refine go_do (valid_extract rfl rfl rfl rfl) rfl ?_
        | refine go_do (valid_cmp rfl rfl rfl rfl (by first | exact .eql1 (by omega) | exact .eql0 (by omega) | exact .neq1 (by omega) | exact .neq0 (by omega) | exact .lss1 (by omega) | exact .lss0 (by omega) | exact .leq1 (by omega) | exact .leq0 (by omega) | exact .gtr1 (by omega) | exact .gtr0 (by omega) | exact .geq1 (by omega) | exact .geq0 (by omega) | constructor)) rfl ?_
        | refine go_do (valid_ar rfl rfl rfl rfl (by constructor) (by first | exact wr_u64 (by omega) (by omega) | exact wr_i64 (by omega) (by omega) | rfl)) rfl ?_
        | refine go_do (valid_box rfl rfl rfl rfl rfl rfl) rfl ?_
        | refine go_do (valid_alloc rfl rfl rfl rfl rfl) rfl ?_
        | (refine nxt_s 1 rfl ?_; refine go_do (valid_store_p rfl rfl rfl rfl rfl rfl (by first | kernel_rfl | rfl) rfl) (by first | kernel_rfl | rfl) ?_)
        | refine go_do (valid_len_s rfl rfl rfl rfl) rfl ?_
        | refine go_do (valid_build rfl rfl rfl rfl) rfl ?_
        | refine go_do (valid_bslice rfl rfl rfl rfl rfl rfl rfl rfl rfl rfl rfl) rfl ?_
        | refine go_do (valid_bslice0 rfl rfl rfl rfl rfl rfl rfl) rfl ?_
        | refine go_do (valid_call rfl rfl rfl (ht) (by kernel_rfl)) rfl ?_
        | refine go_do (valid_call rfl rfl rfl (hf) (by kernel_rfl)) rfl ?_
        | refine go_do (valid_call rfl rfl rfl (hs) (by kernel_rfl)) rfl ?_
        | refine go_do (valid_app_e rfl rfl rfl rfl rfl rfl rfl rfl rfl rfl rfl rfl (SpM.flS_one k.ss) (by omega)) rfl ?_)
    | (refine hK _ ?_; clear hK K)
    | refine aw_text rfl ?_
    | refine aw_cond0 rfl rfl ?_
    | refine aw_skip ?_
    | refine aw_seq_k (fun K hK => ?_))
  refine go_at rfl ?_
  refine go_do (valid_app rfl rfl rfl rfl rfl rfl rfl rfl rfl rfl rfl rfl rfl (by omega)) rfl ?_
  repeat (first
    | (refine go_at rfl ?_; first
        | (refine nxt_s 1 rfl ?_; refine go_do (valid_fld_p tb rfl rfl rfl (by kernel_rfl)) rfl ?_)
        | (refine nxt_s 1 rfl ?_; refine go_do (valid_store_p rfl rfl rfl rfl rfl rfl (by first | kernel_rfl | rfl) rfl) (by first | kernel_rfl | rfl) ?_)))
  first
    | (refine hK _ ?_; clear hK K)
    | (rename_i K1 hK1; refine hK1 _ ?_; clear hK hK1; clear K)
    | (rename_i K1 hK1; refine hK1 _ ?_; clear hK1)
  refine aw_sub (Sub.trans (sub_fr (b := 70) rfl) (sub_of [(1, .m (.c (.p 1 0))), (2, .m (.c (.p 2 0))), (6, .m (iu (tzI k.af + 1))), (7, .m (ib true)), (13, .m (ii k.ss.length))] [(1, .live (.box (({ k with m := newM k, pf := setI k.pf (tzI k.pf) 1 0, af := takeA1 k.af, ao := takeA2 k.af k.ao } : Kr).raw k.tn k.ts (k.ss.length + 1) (flS k.ss ++ (⟨k.pb + tzI k.pf, tzI k.af + 1, true⟩ : Sp).vs) k.fs.length (flF k.fs)))), (2, .live (.box zK))] ⟨by kernel_rfl, by kernel_rfl, by kernel_rfl, by kernel_rfl, by kernel_rfl, trivial⟩ ⟨by kernel_rfl, by kernel_rfl, trivial⟩ (by kernel_rfl))) ?_
  repeat (first
    | (refine go_at rfl ?_; first
        | refine go_do (valid_mv (.inl rfl) rfl) rfl ?_
        | (refine nxt_s 1 rfl ?_; refine go_do (valid_load_p tb rfl rfl rfl rfl rfl (by first | kernel_rfl | rfl)) (by first | kernel_rfl | rfl) ?_)
        | refine go_do (valid_mv (.inr rfl) rfl) rfl ?_
        | (refine nxt_s 1 rfl ?_; refine go_do (valid_store_p rfl rfl rfl rfl rfl rfl (by first | kernel_rfl | rfl) rfl) (by first | kernel_rfl | rfl) ?_)
        | refine go_do (valid_build rfl rfl rfl rfl) rfl ?_
        | refine go_do (valid_bslice rfl rfl rfl rfl rfl rfl rfl rfl rfl rfl rfl) rfl ?_
        | refine go_do (valid_call_d (b := 76) rfl rfl rfl rfl rfl rfl (callOk_l (by kernel_rfl) hfe)) rfl ?_)
    | (refine hK _ ?_; clear hK K)
    | refine aw_text rfl ?_
    | exact aw_ret (show resA _ _ _ = some _ by kernel_rfl)
    | refine aw_cond1 rfl rfl ?_
    | refine aw_seq_k (fun K hK => ?_))
theorem rcreate_all {n : Nat} {k : Kr} (h : Inv n k) (hn : n ≤ 100000) : Ok 18 [.ag k.ce] (.tu [.ag (createR k).1.ce, ii (createR k).2.1, ii (createR k).2.2]) := by
  have h3 := h.pb
  have h4 := h.pm
  have h5 := h.ml
  have h6 := h.sl
  have h1 := h.cd
  have h2 := h.cp
  have h7 := h.am
  have h8 := h.ca
  unfold createR
  by_cases c1 : 32 ≤ k.ss.length
  · rw [if_pos c1]
    refine callOk_of 80 Tryz.func18 rfl rfl rfl rfl ?_ GG.to
    intro W A hG
    repeat (first
      | (refine go_at rfl ?_; first
          | (refine nxt_s 1 rfl ?_; refine go_do (valid_load_p tb rfl rfl rfl rfl rfl (by first | kernel_rfl | rfl)) (by first | kernel_rfl | rfl) ?_)
          | (refine nxt_s 1 rfl ?_; refine go_do (valid_fld_p tb rfl rfl rfl (by kernel_rfl)) rfl ?_)
          | refine go_do (valid_mv (.inr rfl) rfl) rfl ?_
          | refine go_do (valid_cmp rfl rfl rfl rfl (by first | exact .eql1 (by omega) | exact .eql0 (by omega) | exact .neq1 (by omega) | exact .neq0 (by omega) | exact .lss1 (by omega) | exact .lss0 (by omega) | exact .leq1 (by omega) | exact .leq0 (by omega) | exact .gtr1 (by omega) | exact .gtr0 (by omega) | exact .geq1 (by omega) | exact .geq0 (by omega) | constructor)) rfl ?_
          | refine go_do (valid_box rfl rfl rfl rfl rfl rfl) rfl ?_
          | refine go_do (valid_alloc rfl rfl rfl rfl rfl) rfl ?_
          | (refine nxt_s 1 rfl ?_; refine go_do (valid_store_p rfl rfl rfl rfl rfl rfl (by first | kernel_rfl | rfl) rfl) (by first | kernel_rfl | rfl) ?_)
          | refine go_do (valid_len_s rfl rfl rfl rfl) rfl ?_)
      | (refine hK _ ?_; clear hK K)
      | refine aw_text rfl ?_
      | exact aw_ret (show resA _ _ _ = some _ by kernel_rfl)
      | refine aw_cond1 rfl rfl ?_
      | refine aw_seq_k (fun K hK => ?_))
  rw [if_neg c1]
  by_cases c2 : k.af = 0
  · rw [if_pos c2]
    have ht : Ok 62 [.ag [ci k.am, cu k.af, cu k.ao]] (.tu [.ag [ci k.am, cu k.af, cu k.ao], iu 0, ib false, ii 9]) := by rw [c2]; exact ratake_no k.am k.ao (by omega)
    refine callOk_of 80 Tryz.func18 rfl rfl rfl rfl ?_ GG.to
    intro W A hG
    repeat (first
      | (refine go_at rfl ?_; first
          | refine go_do (valid_mv (.inl rfl) rfl) rfl ?_
          | (refine nxt_s 1 rfl ?_; refine go_do (valid_load_p tb rfl rfl rfl rfl rfl (by first | kernel_rfl | rfl)) (by first | kernel_rfl | rfl) ?_)
          | (refine nxt_s 1 rfl ?_; refine go_do (valid_fld_p tb rfl rfl rfl (by kernel_rfl)) rfl ?_)
          | refine go_do (valid_mv (.inr rfl) rfl) rfl ?_
          | refine go_do (valid_extract rfl rfl rfl rfl) rfl ?_
          | refine go_do (valid_cmp rfl rfl rfl rfl (by first | exact .eql1 (by omega) | exact .eql0 (by omega) | exact .neq1 (by omega) | exact .neq0 (by omega) | exact .lss1 (by omega) | exact .lss0 (by omega) | exact .leq1 (by omega) | exact .leq0 (by omega) | exact .gtr1 (by omega) | exact .gtr0 (by omega) | exact .geq1 (by omega) | exact .geq0 (by omega) | constructor)) rfl ?_
          | refine go_do (valid_box rfl rfl rfl rfl rfl rfl) rfl ?_
          | refine go_do (valid_alloc rfl rfl rfl rfl rfl) rfl ?_
          | (refine nxt_s 1 rfl ?_; refine go_do (valid_store_p rfl rfl rfl rfl rfl rfl (by first | kernel_rfl | rfl) rfl) (by first | kernel_rfl | rfl) ?_)
          | refine go_do (valid_len_s rfl rfl rfl rfl) rfl ?_
          | refine go_do (valid_call rfl rfl rfl (ht) (by kernel_rfl)) rfl ?_)
      | (refine hK _ ?_; clear hK K)
      | refine aw_text rfl ?_
      | exact aw_ret (show resA _ _ _ = some _ by kernel_rfl)
      | refine aw_cond1 rfl rfl ?_
      | refine aw_cond0 rfl rfl ?_
      | refine aw_skip ?_
      | refine aw_seq_k (fun K hK => ?_))
  rw [if_neg c2]
  by_cases c3 : k.pf = 0
  · rw [if_pos c3]
    have t2 := tz_fit h.uaf h.af.2 c2
    have ht := ratake_ok k.am k.af k.ao (by omega) (by rw [h.am]; exact h.af) h.uao c2
    have hf : Ok 63 [memA k.sz k.m, .ag [cu k.pb, ci k.pm, cu k.pf]] (.tu [memA k.sz k.m, .ag [cu k.pb, ci k.pm, cu k.pf], iu 0, ii 8]) := by rw [c3]; exact rfresh_no k.sz k.m k.pb k.pm (by omega)
    refine callOk_of 80 Tryz.func18 rfl rfl rfl rfl ?_ GG.to
    intro W A hG
    repeat (first
      | (refine go_at rfl ?_; first
          | refine go_do (valid_mv (.inl rfl) rfl) rfl ?_
          | (refine nxt_s 1 rfl ?_; refine go_do (valid_load_p tb rfl rfl rfl rfl rfl (by first | kernel_rfl | rfl)) (by first | kernel_rfl | rfl) ?_)
          | (refine nxt_s 1 rfl ?_; refine go_do (valid_fld_p tb rfl rfl rfl (by kernel_rfl)) rfl ?_)
          | refine go_do (valid_mv (.inr rfl) rfl) rfl ?_
          | refine go_do (valid_extract rfl rfl rfl rfl) rfl ?_
          | refine go_do (valid_cmp rfl rfl rfl rfl (by first | exact .eql1 (by omega) | exact .eql0 (by omega) | exact .neq1 (by omega) | exact .neq0 (by omega) | exact .lss1 (by omega) | exact .lss0 (by omega) | exact .leq1 (by omega) | exact .leq0 (by omega) | exact .gtr1 (by omega) | exact .gtr0 (by omega) | exact .geq1 (by omega) | exact .geq0 (by omega) | constructor)) rfl ?_
          | refine go_do (valid_box rfl rfl rfl rfl rfl rfl) rfl ?_
          | refine go_do (valid_alloc rfl rfl rfl rfl rfl) rfl ?_
          | (refine nxt_s 1 rfl ?_; refine go_do (valid_store_p rfl rfl rfl rfl rfl rfl (by first | kernel_rfl | rfl) rfl) (by first | kernel_rfl | rfl) ?_)
          | refine go_do (valid_len_s rfl rfl rfl rfl) rfl ?_
          | refine go_do (valid_call rfl rfl rfl (ht) (by kernel_rfl)) rfl ?_
          | refine go_do (valid_call rfl rfl rfl (hf) (by kernel_rfl)) rfl ?_)
      | (refine hK _ ?_; clear hK K)
      | refine aw_text rfl ?_
      | exact aw_ret (show resA _ _ _ = some _ by kernel_rfl)
      | refine aw_cond1 rfl rfl ?_
      | refine aw_cond0 rfl rfl ?_
      | refine aw_skip ?_
      | refine aw_seq_k (fun K hK => ?_))
  rw [if_neg c3]
  by_cases c4 : (getI k.ao (tzI k.af) 1 == 1) = true
  · rw [if_pos c4]
    exact rcreate_owned h hn (by omega) c2 c3 c4
  · rw [if_neg c4]
    exact rcreate_plain h hn (by omega) c2 c3 (by unfold bitB; cases e : (getI k.ao (tzI k.af) 1 == 1) with | false => rfl | true => exact absurd e c4)
/-! ### Destroy -/
end Go.Proofs.YtmoccajgjnjelaaGreatDoor.RfE
/- Plain: how many bits of a word are set; the sum that math/bits builds. -/
namespace Go.Proofs.YtmoccajgjnjelaaGreatDoor.RfG
open Go.RowKit Go.Proofs.YtmoccajgjnjelaaGreatDoor.Bv Go.Proofs.YtmoccajgjnjelaaGreatDoor.Base Go.Proofs.YtmoccajgjnjelaaGreatDoor.BitsC Go.Proofs.YtmoccajgjnjelaaGreatDoor.SpI Go.Proofs.YtmoccajgjnjelaaGreatDoor.RfP
set_option linter.unusedVariables false
set_option linter.unusedSimpArgs false
/-- how many of the first n are true -/
def cs : Nat → (Nat → Bool) → Nat
  | 0, _ => 0
  | n + 1, f => cs n f + (f n).toNat
theorem cs_congr : ∀ (n : Nat) (f g : Nat → Bool), (∀ j, j < n → f j = g j) → cs n f = cs n g
  | 0, _, _, _ => rfl
  | n + 1, f, g, h => by simp only [cs]; rw [cs_congr n f g (fun j hj => h j (by omega)), h n (by omega)]
theorem cs_head : ∀ (n : Nat) (f : Nat → Bool), cs (n + 1) f = (f 0).toNat + cs n (fun j => f (j + 1))
  | 0, f => by simp [cs]
  | n + 1, f => by
    rw [cs, cs_head n f]
    simp only [cs]; omega
theorem cs_up {f g : Nat → Bool} {i : Nat} (hi : f i = false) (gi : g i = true) (h : ∀ j, j ≠ i → g j = f j) : ∀ n, i < n → cs n g = cs n f + 1
  | 0, hn => by omega
  | n + 1, hn => by
    simp only [cs]
    by_cases e : i = n
    · subst e
      rw [hi, gi, cs_congr i g f (fun j hj => h j (by omega))]; rfl
    · rw [cs_up hi gi h n (by omega), h n (fun e' => e e'.symm)]; omega
theorem cs_le : ∀ (n : Nat) (f g : Nat → Bool), (∀ j, j < n → f j = true → g j = true) → cs n f ≤ cs n g
  | 0, _, _, _ => Nat.le_refl _
  | n + 1, f, g, h => by
    simp only [cs]
    have ih := cs_le n f g (fun j hj => h j (by omega))
    have := h n (by omega)
    cases hf : f n <;> cases hg : g n <;> simp_all <;> omega
theorem cs_eq : ∀ (n : Nat) (f g : Nat → Bool), (∀ j, j < n → f j = true → g j = true) → cs n f = cs n g → ∀ j, j < n → f j = g j
  | 0, _, _, _, _, j, hj => by omega
  | n + 1, f, g, h, he, j, hj => by
    simp only [cs] at he
    have ih := cs_le n f g (fun j hj => h j (by omega))
    have hn := h n (by omega)
    have key : f n = g n ∧ cs n f = cs n g := by cases hf : f n <;> cases hg : g n <;> simp_all <;> omega
    by_cases e : j = n
    · subst e; exact key.1
    · exact cs_eq n f g (fun j hj => h j (by omega)) key.2 j (by omega)
theorem cs_lt : ∀ (n m : Nat), m ≤ n → cs n (fun j => decide (j < m)) = m
  | 0, m, h => by simp [cs]; omega
  | n + 1, m, h => by
    simp only [cs]
    by_cases e : m = n + 1
    · rw [cs_congr n _ (fun j => decide (j < n)) (fun j hj => by simp [hj]; omega), cs_lt n n (Nat.le_refl _)]
      simp [e]
    · rw [cs_lt n m (by omega)]; simp; omega
theorem cs_lt0 : ∀ (n m : Nat), m ≤ n → 1 ≤ m → cs n (fun j => decide (j < m) && decide (j ≠ 0)) = m - 1 := fun n m h h1 => by
  have := cs_up (f := fun j => decide (j < m) && decide (j ≠ 0)) (g := fun j => decide (j < m)) (i := 0) (by simp) (by simp; omega) (fun j hj => by simp [hj]) n (by omega)
  rw [cs_lt n m h] at this
  omega
/-! ### the sum -/
def cb : Nat → Nat → Nat
  | 0, _ => 0
  | f + 1, x => x % 2 + cb f (x / 2)
theorem cb_cs : ∀ (n x : Nat), cb n x = cs n x.testBit
  | 0, _ => rfl
  | n + 1, x => by
    rw [cs_head, cb, cb_cs n (x / 2)]
    congr 1
    · rw [Nat.testBit_zero]; rcases (by omega : x % 2 = 0 ∨ x % 2 = 1) with h | h <;> rw [h] <;> rfl
    · exact cs_congr n _ _ fun j _ => by rw [Nat.testBit_succ]
theorem cb_add : ∀ (m n x : Nat), cb (m + n) x = cb m (x % 2 ^ m) + cb n (x / 2 ^ m)
  | 0, n, x => by simp [cb]
  | m + 1, n, x => by
    rw [show m + 1 + n = (m + n) + 1 by omega, cb, cb, cb_add m n (x / 2)]
    have e1 : x % 2 ^ (m + 1) % 2 = x % 2 := by rw [Nat.pow_succ, Nat.mul_comm, Nat.mod_mul_right_mod]
    have e2 : x % 2 ^ (m + 1) / 2 = x / 2 % 2 ^ m := by rw [Nat.pow_succ, Nat.mul_comm, Nat.mod_mul_right_div_self]
    have e3 : x / 2 / 2 ^ m = x / 2 ^ (m + 1) := by rw [Nat.div_div_eq_div_mul, Nat.pow_succ, Nat.mul_comm]
    rw [e1, e2, e3]; omega
def M (m : Nat) : Nat → Nat
  | 0 => 0
  | k + 1 => m + 256 * M m k
theorem and_byte {a b m q : Nat} (ha : a < 256) (hm : m < 256) : (a + 256 * b) &&& (m + 256 * q) = (a &&& m) + 256 * (b &&& q) := by
  have e1 : ((a + 256 * b) &&& (m + 256 * q)) % 2 ^ 8 = a &&& m := by
    rw [Nat.and_mod_two_pow]
    congr 1 <;> omega
  have e2 : ((a + 256 * b) &&& (m + 256 * q)) / 2 ^ 8 = b &&& q := by
    rw [Nat.and_div_two_pow]
    congr 1 <;> omega
  omega
def f1 (k x : Nat) : Nat := (x / 2 &&& M 85 k) + (x &&& M 85 k)
def f2 (k x : Nat) : Nat := (x / 4 &&& M 51 k) + (x &&& M 51 k)
def f3 (k x : Nat) : Nat := (x / 16 + x) &&& M 15 k
theorem d1 : ∀ a, a < 256 → ∀ c, c < 2 → (a / 2 + 128 * c) &&& 85 = a / 2 &&& 85 := by decide +kernel
theorem d2 : ∀ a, a < 256 → ∀ c, c < 4 → (a / 4 + 64 * c) &&& 51 = a / 4 &&& 51 := by decide +kernel
def g1 (a : Nat) : Nat := (a / 2 &&& 85) + (a &&& 85)
def g2 (a : Nat) : Nat := (a / 4 &&& 51) + (a &&& 51)
def g3 (a : Nat) : Nat := (a / 16 + a) % 16
theorem d3 : ∀ a, a < 256 → g1 a < 256 ∧ g2 (g1 a) < 256 ∧ g2 (g1 a) % 16 ≤ 4 ∧ g2 (g1 a) / 16 ≤ 4 ∧ g3 (g2 (g1 a)) = cb 8 a ∧ cb 8 a ≤ 8 := by decide +kernel
theorem f1_byte (k a b : Nat) (ha : a < 256) : f1 (k + 1) (a + 256 * b) = g1 a + 256 * f1 k b := by
  unfold f1 g1
  rw [show M 85 (k + 1) = 85 + 256 * M 85 k from rfl]
  rw [show (a + 256 * b) / 2 = (a / 2 + 128 * (b % 2)) + 256 * (b / 2) by omega, and_byte (by omega) (by omega), and_byte ha (by omega), d1 a ha (b % 2) (by omega)]
  omega
theorem f2_byte (k a b : Nat) (ha : a < 256) : f2 (k + 1) (a + 256 * b) = g2 a + 256 * f2 k b := by
  unfold f2 g2
  rw [show M 51 (k + 1) = 51 + 256 * M 51 k from rfl]
  rw [show (a + 256 * b) / 4 = (a / 4 + 64 * (b % 4)) + 256 * (b / 4) by omega, and_byte (by omega) (by omega), and_byte ha (by omega), d2 a ha (b % 4) (by omega)]
  omega
theorem f3_byte (k a b : Nat) (ha : a / 16 ≤ 4) (ha2 : a % 16 ≤ 4) (hb : b % 16 ≤ 4) : f3 (k + 1) (a + 256 * b) = g3 a + 256 * f3 k b := by
  unfold f3 g3
  rw [show M 15 (k + 1) = 15 + 256 * M 15 k from rfl]
  rw [show (a + 256 * b) / 16 + (a + 256 * b) = (a / 16 + 16 * (b % 16) + a) + 256 * (b / 16 + b) by omega, and_byte (by omega) (by omega)]
  rw [show (a / 16 + 16 * (b % 16) + a) &&& 15 = (a / 16 + 16 * (b % 16) + a) % 16 from Nat.and_two_pow_sub_one_eq_mod _ 4]
  omega
def h3 (k x : Nat) : Nat := f3 k (f2 k (f1 k x))
theorem low4 (k x : Nat) : f2 k (f1 k x) % 16 ≤ 4 := by
  cases k with
  | zero => simp [f1, f2, M]
  | succ k =>
    have e : x = x % 256 + 256 * (x / 256) := by omega
    have hd := d3 (x % 256) (by omega)
    rw [e, f1_byte _ _ _ (by omega), f2_byte _ _ _ hd.1]
    omega
theorem h3_byte (k a b : Nat) (ha : a < 256) : h3 (k + 1) (a + 256 * b) = cb 8 a + 256 * h3 k b := by
  have hd := d3 a ha
  unfold h3
  rw [f1_byte _ _ _ ha, f2_byte _ _ _ hd.1, f3_byte _ _ _ hd.2.2.2.1 hd.2.2.1 (low4 k b), hd.2.2.2.2.1]
def n6 (y : Nat) : Nat :=
  let y4 := y + y / 256
  let y5 := y4 + y4 / 65536
  (y5 + y5 / 4294967296) % 128
theorem n6_sum (a b c d e f g h : Nat) (ha : a ≤ 8) (hb : b ≤ 8) (hc : c ≤ 8) (hd : d ≤ 8) (he : e ≤ 8) (hf : f ≤ 8) (hg : g ≤ 8) (hh : h ≤ 8) :
    n6 (a + 256 * (b + 256 * (c + 256 * (d + 256 * (e + 256 * (f + 256 * (g + 256 * h))))))) = a + b + c + d + e + f + g + h := by
  unfold n6
  simp only
  rw [show (a + 256 * (b + 256 * (c + 256 * (d + 256 * (e + 256 * (f + 256 * (g + 256 * h))))))) / 256 = b + 256 * (c + 256 * (d + 256 * (e + 256 * (f + 256 * (g + 256 * h))))) by omega]
  rw [show a + 256 * (b + 256 * (c + 256 * (d + 256 * (e + 256 * (f + 256 * (g + 256 * h)))))) + (b + 256 * (c + 256 * (d + 256 * (e + 256 * (f + 256 * (g + 256 * h)))))) = (a + b + 256 * (b + c)) + 65536 * ((c + d + 256 * (d + e)) + 65536 * ((e + f + 256 * (f + g)) + 65536 * (g + h + 256 * h))) by omega]
  rw [show ((a + b + 256 * (b + c)) + 65536 * ((c + d + 256 * (d + e)) + 65536 * ((e + f + 256 * (f + g)) + 65536 * (g + h + 256 * h)))) / 65536 = (c + d + 256 * (d + e)) + 65536 * ((e + f + 256 * (f + g)) + 65536 * (g + h + 256 * h)) by omega]
  rw [show (a + b + 256 * (b + c)) + 65536 * ((c + d + 256 * (d + e)) + 65536 * ((e + f + 256 * (f + g)) + 65536 * (g + h + 256 * h))) + ((c + d + 256 * (d + e)) + 65536 * ((e + f + 256 * (f + g)) + 65536 * (g + h + 256 * h))) = (a + b + c + d + 256 * (b + c + d + e) + 65536 * ((c + d + e + f) + 256 * (d + e + f + g))) + 4294967296 * ((e + f + g + h + 256 * (f + g + h)) + 65536 * (g + h + 256 * h)) by omega]
  rw [show ((a + b + c + d + 256 * (b + c + d + e) + 65536 * ((c + d + e + f) + 256 * (d + e + f + g))) + 4294967296 * ((e + f + g + h + 256 * (f + g + h)) + 65536 * (g + h + 256 * h))) / 4294967296 = (e + f + g + h + 256 * (f + g + h)) + 65536 * (g + h + 256 * h) by omega]
  omega
theorem ones_nat (x : Nat) (hx : x < 18446744073709551616) : n6 (h3 8 x) = cs 64 x.testBit := by
  rw [← cb_cs]
  obtain ⟨a, b, c, d, e, f, g, h, hx, k⟩ : ∃ a b c d e f g h, x = a + 256 * (b + 256 * (c + 256 * (d + 256 * (e + 256 * (f + 256 * (g + 256 * h)))))) ∧ a < 256 ∧ b < 256 ∧ c < 256 ∧ d < 256 ∧ e < 256 ∧ f < 256 ∧ g < 256 ∧ h < 256 :=
    ⟨x % 256, x / 256 % 256, x / 65536 % 256, x / 16777216 % 256, x / 4294967296 % 256, x / 1099511627776 % 256, x / 281474976710656 % 256, x / 72057594037927936, by omega, by omega, by omega, by omega, by omega, by omega, by omega, by omega, by omega⟩
  obtain ⟨k1, k2, k3, k4, k5, k6, k7, k8⟩ := k
  have hb8 : ∀ (n a b : Nat), a < 256 → cb (8 + n) (a + 256 * b) = cb 8 a + cb n b := fun n a b ha => by
    rw [cb_add 8 n, show (a + 256 * b) % 2 ^ 8 = a by omega, show (a + 256 * b) / 2 ^ 8 = b by omega]
  rw [hx, h3_byte _ _ _ k1, h3_byte _ _ _ k2, h3_byte _ _ _ k3, h3_byte _ _ _ k4, h3_byte _ _ _ k5, h3_byte _ _ _ k6, h3_byte _ _ _ k7]
  rw [show h3 1 h = cb 8 h by have := h3_byte 0 h 0 k8; simpa [h3, f3, M] using this]
  rw [n6_sum _ _ _ _ _ _ _ _ (d3 a k1).2.2.2.2.2 (d3 b k2).2.2.2.2.2 (d3 c k3).2.2.2.2.2 (d3 d k4).2.2.2.2.2 (d3 e k5).2.2.2.2.2 (d3 f k6).2.2.2.2.2 (d3 g k7).2.2.2.2.2 (d3 h k8).2.2.2.2.2]
  rw [show (64 : Nat) = 8 + 56 from rfl, hb8 56 _ _ k1, show (56 : Nat) = 8 + 48 from rfl, hb8 48 _ _ k2, show (48 : Nat) = 8 + 40 from rfl, hb8 40 _ _ k3, show (40 : Nat) = 8 + 32 from rfl, hb8 32 _ _ k4, show (32 : Nat) = 8 + 24 from rfl, hb8 24 _ _ k5, show (24 : Nat) = 8 + 16 from rfl, hb8 16 _ _ k6, show (16 : Nat) = 8 + 8 from rfl, hb8 8 _ _ k7]
  omega
end Go.Proofs.YtmoccajgjnjelaaGreatDoor.RfG
/- Plain: what is free, what lives, and what cells there are, of each kernel that comes of deeds. -/
namespace Go.Proofs.YtmoccajgjnjelaaGreatDoor.RfJ
open Go.RowKit Go.Proofs.YtmoccajgjnjelaaGreatDoor.Bv Go.Proofs.YtmoccajgjnjelaaGreatDoor.VaSpec Go.Proofs.YtmoccajgjnjelaaGreatDoor.Base Go.Proofs.YtmoccajgjnjelaaGreatDoor.MemL Go.Proofs.YtmoccajgjnjelaaGreatDoor.RegR Go.Proofs.YtmoccajgjnjelaaGreatDoor.Ax Go.Proofs.YtmoccajgjnjelaaGreatDoor.MemC Go.Proofs.YtmoccajgjnjelaaGreatDoor.PutC Go.Proofs.YtmoccajgjnjelaaGreatDoor.MemC3 Go.Proofs.YtmoccajgjnjelaaGreatDoor.TzC Go.Proofs.YtmoccajgjnjelaaGreatDoor.OkS Go.Proofs.YtmoccajgjnjelaaGreatDoor.SpA Go.Proofs.YtmoccajgjnjelaaGreatDoor.SpB Go.Proofs.YtmoccajgjnjelaaGreatDoor.SpC Go.Proofs.YtmoccajgjnjelaaGreatDoor.SpD Go.Proofs.YtmoccajgjnjelaaGreatDoor.IterC Go.Proofs.YtmoccajgjnjelaaGreatDoor.SpE Go.Proofs.YtmoccajgjnjelaaGreatDoor.SpF Go.Proofs.YtmoccajgjnjelaaGreatDoor.SpG Go.Proofs.YtmoccajgjnjelaaGreatDoor.SpH Go.Proofs.YtmoccajgjnjelaaGreatDoor.SpI Go.Proofs.YtmoccajgjnjelaaGreatDoor.SpJ Go.Proofs.YtmoccajgjnjelaaGreatDoor.SpK Go.Proofs.YtmoccajgjnjelaaGreatDoor.SpN Go.Proofs.YtmoccajgjnjelaaGreatDoor.RfP Go.Proofs.YtmoccajgjnjelaaGreatDoor.RfQ Go.Proofs.YtmoccajgjnjelaaGreatDoor.RfE Go.Proofs.YtmoccajgjnjelaaGreatDoor.RfG
open Go.Proofs.YtmoccajgjnjelaaGreatDoor.BitsC Go.Proofs.YtmoccajgjnjelaaGreatDoor.PteSpec
set_option linter.unusedVariables false
set_option linter.unusedSimpArgs false
/-! ### bits and counts -/
def cnt (x : Int) : Nat := cs 64 (fun j => bitB x (j : Int))
theorem cnt_test (x : Int) (hx : U x) : cs 64 x.toNat.testBit = cnt x := by
  refine cs_congr 64 _ _ fun j _ => ?_
  rw [bitB_eq (by omega), ← BitVec.testBit_toNat, X_nat hx, Int.toNat_natCast]
theorem cnt_on {x i : Int} (hx : U x) (h0 : 0 ≤ i) (h1 : i < 64) (h : bitB x i = false) : cnt (setI x i 1 1) = cnt x + 1 := by
  obtain ⟨n, rfl⟩ := Int.eq_ofNat_of_zero_le h0
  refine cs_up (i := n) h ?_ (fun j hj => ?_) 64 (by omega)
  · rw [bit_set hx h0 h1 h0 h1, if_pos rfl]; rfl
  · by_cases hj2 : j < 64
    · rw [bit_set hx h0 h1 (by omega) (by omega), if_neg (by omega)]
    · rw [bitB_eq (by omega), bitB_eq (by omega)]
      rw [Int.toNat_natCast, BitVec.getLsbD_of_ge _ _ (by omega), BitVec.getLsbD_of_ge _ _ (by omega)]
theorem cnt_off {x i : Int} (hx : U x) (h0 : 0 ≤ i) (h1 : i < 64) (h : bitB x i = true) : cnt (setI x i 1 0) + 1 = cnt x := by
  obtain ⟨n, rfl⟩ := Int.eq_ofNat_of_zero_le h0
  refine (cs_up (i := n) ?_ h (fun j hj => ?_) 64 (by omega)).symm
  · rw [bit_set hx h0 h1 h0 h1, if_pos rfl]; rfl
  · by_cases hj2 : j < 64
    · rw [bit_set hx h0 h1 (by omega) (by omega), if_neg (by omega)]
    · rw [bitB_eq (by omega), bitB_eq (by omega)]
      rw [Int.toNat_natCast, BitVec.getLsbD_of_ge _ _ (by omega), BitVec.getLsbD_of_ge _ _ (by omega)]
theorem bit0_of (x i j : Int) (hx : U x) (h0 : 0 ≤ i) (h1 : i < 64) (hj : 0 ≤ j) (hj1 : j < 64) : bitB (setI x i 1 0) j = if j = i then false else bitB x j := by
  rw [bit_set hx h0 h1 hj hj1]; rfl
theorem bit1_of (x i j : Int) (hx : U x) (h0 : 0 ≤ i) (h1 : i < 64) (hj : 0 ≤ j) (hj1 : j < 64) : bitB (setI x i 1 1) j = if j = i then true else bitB x j := by
  rw [bit_set hx h0 h1 hj hj1]; rfl
theorem allI_bit (n : Int) (j : Int) (hj : 0 ≤ j) (hj1 : j < 64) (h0 : 0 ≤ n) : bitB (allI n) j = decide (j < n) := by
  rw [bitB_eq hj]
  unfold allI getI
  rw [X_B, getB_bit, show (0 : Int).toNat = 0 from rfl, Nat.zero_add, ones_bit _ (by omega), Bool.and_true]
  by_cases h : j < n
  · rw [decide_eq_true h, decide_eq_true (by omega)]
  · rw [decide_eq_false h, decide_eq_false (by omega)]
theorem eq_bits {x y : Int} (hx : U x) (hy : U y) (h : ∀ j : Nat, j < 64 → bitB x j = bitB y j) : x = y := by
  rw [← B_X hx, ← B_X hy]
  congr 1
  apply BitVec.eq_of_getLsbD_eq
  intro j hj
  have := h j hj
  rw [bitB_eq (by omega), bitB_eq (by omega), Int.toNat_natCast] at this
  exact this
theorem bit_high {x : Int} {n : Nat} (hx : U x) (h : x < 2 ^ n) (j : Nat) (hj : n ≤ j) : bitB x j = false := by
  rw [bitB_eq (by omega), Int.toNat_natCast]
  exact bits_of_lt (n := n) (by rw [X_nat hx]; exact (lt_int hx.1).1 h) j hj
theorem tz_all {n : Int} (h0 : 1 ≤ n) (h : n ≤ 64) : tzI (allI n) = 0 := by
  have l1 := allI_lt (n := n) (by omega) h
  have l2 := allI_ne h0 h
  have u := allI_U n
  have t := tz_fit u l1.2 l2
  rcases (by omega : tzI (allI n) = 0 ∨ 0 < tzI (allI n)) with e | e
  · exact e
  · have := low_under u l2 (Int.le_refl 0) e
    rw [allI_bit n 0 (by omega) (by omega) (by omega), decide_eq_true (by omega)] at this
    cases this
/-! ### who lives -/
def alv : List Sp → Nat
  | [] => 0
  | s :: l => (if s.live then 1 else 0) + alv l
theorem alv_app : ∀ (l : List Sp) (s : Sp), s.live = true → alv (l ++ [s]) = alv l + 1
  | [], s, h => by simp [alv, h]
  | x :: l, s, h => by simp only [List.cons_append, alv]; rw [alv_app l s h]; omega
theorem alv_set : ∀ (l : List Sp) (i : Nat) (s : Sp), l[i]? = some s → s.live = true → alv (l.set i zSp) + 1 = alv l
  | [], i, s, h, _ => by simp at h
  | x :: l, 0, s, h, hl => by
    simp at h; subst h
    simp only [List.set_cons_zero, alv, hl]
    simp [zSp]; omega
  | x :: l, i + 1, s, h, hl => by
    have := alv_set l i s (by simpa using h) hl
    simp only [List.set_cons_succ, alv]; omega
theorem alv_none : ∀ (l : List Sp), (∀ s ∈ l, s.live = false) → alv l = 0
  | [], _ => rfl
  | x :: l, h => by
    simp only [alv]
    rw [h x (by simp), alv_none l (fun s hs => h s (List.mem_cons_of_mem _ hs))]; rfl
/-! ### cells -/
theorem put_old : ∀ (xs : List (Int × Int)) (k v : Int) (c : Int × Int), c ∈ xs → c.1 ≠ k → c ∈ putM xs k v
  | [], k, v, c, h, _ => by cases h
  | x :: xs, k, v, c, h, hk => by
    simp only [putM]
    split
    · rcases List.mem_cons.1 h with rfl | h
      · simp
      · exact List.mem_cons_of_mem _ (put_old xs k v c h hk)
    · split
      · rename_i hx
        rcases List.mem_cons.1 h with rfl | h
        · exact absurd hx hk
        · split
          · exact h
          · exact List.mem_cons_of_mem _ h
      · split
        · exact h
        · exact List.mem_cons_of_mem _ h
theorem put_new : ∀ (xs : List (Int × Int)) (k v : Int), v ≠ 0 → (k, v) ∈ putM xs k v
  | [], k, v, h => by simp [putM, h]
  | x :: xs, k, v, h => by
    simp only [putM]
    split
    · exact List.mem_cons_of_mem _ (put_new xs k v h)
    · split <;> simp [h]
structure Inv2 (k : Kr) : Prop where
  sh : k.sh = k.cd
  p0 : bitB k.pf 0 = false
  lv : ∀ s ∈ k.ss, s.live = true → s.root ≠ k.cd ∧ s.asid ≤ k.ca ∧ bitB k.pf (s.root - k.cd) = false ∧ bitB k.af (s.asid - 1) = false ∧ (s.root * 512 + 511, 33 + 1024 * k.sh) ∈ k.m
  ap : ∀ (i j : Nat) (s t : Sp), k.ss[i]? = some s → k.ss[j]? = some t → i ≠ j → s.live = true → t.live = true → s.root ≠ t.root ∧ s.asid ≠ t.asid
  cl : ∀ c ∈ k.m, ∃ s ∈ k.ss, s.live = true ∧ c = (s.root * 512 + 511, 33 + 1024 * k.sh)
  np : (cnt k.pf : Int) + 1 + alv k.ss = k.cp
  na : (cnt k.af : Int) + alv k.ss = k.ca
theorem new_inv2 {a b c : Int} {n : Nat} (h : confB a b c n = true) : Inv2 (newK a b c n) := by
  obtain ⟨ha, hb, hc, hn⟩ := confB_iff.1 h
  have tz := tz_all (n := b) (by omega) (by omega)
  have e : (newK a b c n).pf = setI (allI b) 0 1 0 := by show setI (allI b) (tzI (allI b)) 1 0 = _; rw [tz]
  have cb : cnt (allI b) = b.toNat := by
    unfold cnt
    rw [cs_congr 64 _ (fun j => decide (j < b.toNat)) (fun j hj => by
      rw [allI_bit b j (by omega) (by omega) (by omega)]
      by_cases h : (j : Int) < b
      · rw [decide_eq_true h, decide_eq_true (by omega)]
      · rw [decide_eq_false h, decide_eq_false (by omega)]), cs_lt 64 _ (by omega)]
  have cc : cnt (allI c) = c.toNat := by
    unfold cnt
    rw [cs_congr 64 _ (fun j => decide (j < c.toNat)) (fun j hj => by
      rw [allI_bit c j (by omega) (by omega) (by omega)]
      by_cases h : (j : Int) < c
      · rw [decide_eq_true h, decide_eq_true (by omega)]
      · rw [decide_eq_false h, decide_eq_false (by omega)]), cs_lt 64 _ (by omega)]
  have co := cnt_off (x := allI b) (i := 0) (allI_U b) (by omega) (by omega) (by rw [allI_bit b 0 (by omega) (by omega) (by omega), decide_eq_true (by omega)])
  refine ⟨by show a + tzI (allI b) = a; rw [tz]; omega, ?_, fun s hs => (by cases hs), fun i j s t hs => (by simp [newK] at hs), fun c hc => (by cases hc), ?_, ?_⟩
  · rw [e, bit0_of _ _ _ (allI_U b) (by omega) (by omega) (by omega) (by omega), if_pos rfl]
  · rw [e]
    show (cnt (setI (allI b) 0 1 0) : Int) + 1 + ((0 : Nat) : Int) = b
    omega
  · show (cnt (allI c) : Int) + ((0 : Nat) : Int) = c
    omega
end Go.Proofs.YtmoccajgjnjelaaGreatDoor.RfJ
/- Plain: deeds keep what is known of frames, numbers, spaces and cells. -/
namespace Go.Proofs.YtmoccajgjnjelaaGreatDoor.RfK
open Go.RowKit Go.Proofs.YtmoccajgjnjelaaGreatDoor.Bv Go.Proofs.YtmoccajgjnjelaaGreatDoor.VaSpec Go.Proofs.YtmoccajgjnjelaaGreatDoor.Base Go.Proofs.YtmoccajgjnjelaaGreatDoor.MemL Go.Proofs.YtmoccajgjnjelaaGreatDoor.RegR Go.Proofs.YtmoccajgjnjelaaGreatDoor.Ax Go.Proofs.YtmoccajgjnjelaaGreatDoor.MemC Go.Proofs.YtmoccajgjnjelaaGreatDoor.PutC Go.Proofs.YtmoccajgjnjelaaGreatDoor.MemC3 Go.Proofs.YtmoccajgjnjelaaGreatDoor.TzC Go.Proofs.YtmoccajgjnjelaaGreatDoor.OkS Go.Proofs.YtmoccajgjnjelaaGreatDoor.SpA Go.Proofs.YtmoccajgjnjelaaGreatDoor.SpB Go.Proofs.YtmoccajgjnjelaaGreatDoor.SpC Go.Proofs.YtmoccajgjnjelaaGreatDoor.SpD Go.Proofs.YtmoccajgjnjelaaGreatDoor.IterC Go.Proofs.YtmoccajgjnjelaaGreatDoor.SpE Go.Proofs.YtmoccajgjnjelaaGreatDoor.SpF Go.Proofs.YtmoccajgjnjelaaGreatDoor.SpG Go.Proofs.YtmoccajgjnjelaaGreatDoor.SpH Go.Proofs.YtmoccajgjnjelaaGreatDoor.SpI Go.Proofs.YtmoccajgjnjelaaGreatDoor.SpJ Go.Proofs.YtmoccajgjnjelaaGreatDoor.SpK Go.Proofs.YtmoccajgjnjelaaGreatDoor.SpN Go.Proofs.YtmoccajgjnjelaaGreatDoor.RfP Go.Proofs.YtmoccajgjnjelaaGreatDoor.RfQ Go.Proofs.YtmoccajgjnjelaaGreatDoor.RfE Go.Proofs.YtmoccajgjnjelaaGreatDoor.RfG Go.Proofs.YtmoccajgjnjelaaGreatDoor.RfJ
open Go.Proofs.YtmoccajgjnjelaaGreatDoor.BitsC Go.Proofs.YtmoccajgjnjelaaGreatDoor.PteSpec
set_option linter.unusedVariables false
set_option linter.unusedSimpArgs false
theorem create_inv2 {n : Nat} {k : Kr} (h : Inv n k) (g : Inv2 k) (ha : k.af ≠ 0) (hp : k.pf ≠ 0) : Inv2 (createK k) := by
  have c1 := h.cp
  have c2 := h.ca
  have hcd := h.cd
  have hpb := h.pb
  have hsh := h.sh
  have t1 := tz_fit h.upf h.pf.2 hp
  have t2 := tz_fit h.uaf h.af.2 ha
  have low1 := low_at h.upf hp
  have low2 := low_at h.uaf ha
  have tn0 : tzI k.pf ≠ 0 := fun e => by rw [e, g.p0] at low1; cases low1
  have hne : ∀ s ∈ k.ss, s.live = true → s.root ≠ k.pb + tzI k.pf ∧ s.asid ≠ tzI k.af + 1 := fun s hs hl => by
    obtain ⟨_, _, b1, b2, _⟩ := g.lv s hs hl
    refine ⟨fun e => ?_, fun e => ?_⟩
    · rw [show s.root - k.cd = tzI k.pf by omega, low1] at b1; cases b1
    · rw [show s.asid - 1 = tzI k.af by omega, low2] at b2; cases b2
  have hwm : TableC.wipeM k.m (k.pb + tzI k.pf) = k.m := by
    rw [wipe_filt _ _ h.m]
    refine List.filter_eq_self.2 fun c hc => ?_
    obtain ⟨s, hs, hl, rfl⟩ := g.cl c hc
    have := (hne s hs hl).1
    simp only [outB, Bool.or_eq_true, decide_eq_true_eq]
    omega
  have hm : (createK k).m = putM k.m (512 * (k.pb + tzI k.pf) + 511) (33 + 1024 * k.sh) := by
    show newM k = _
    rw [newM_is h hp, hwm]
  have hcells : ∀ s ∈ k.ss, s.live = true → (s.root * 512 + 511, 33 + 1024 * k.sh) ∈ (createK k).m := fun s hs hl => by
    rw [hm]
    refine put_old _ _ _ _ (g.lv s hs hl).2.2.2.2 ?_
    have := (hne s hs hl).1
    show s.root * 512 + 511 ≠ _; omega
  have hnew : (512 * (k.pb + tzI k.pf) + 511, 33 + 1024 * k.sh) ∈ (createK k).m := by rw [hm]; exact put_new _ _ _ (by omega)
  have hss : (createK k).ss = k.ss ++ [⟨k.pb + tzI k.pf, tzI k.af + 1, true⟩] := rfl
  have epf : (createK k).pf = setI k.pf (tzI k.pf) 1 0 := rfl
  have eaf : (createK k).af = setI k.af (tzI k.af) 1 0 := rfl
  have n1 := cnt_off h.upf t1.1 (by omega) low1
  have n2 := cnt_off h.uaf t2.1 (by omega) low2
  refine ⟨g.sh, ?_, fun s hs hl => ?_, fun i j s t hs ht hij hl hl' => ?_, fun c hc => ?_, ?_, ?_⟩
  · rw [epf, bit0_of _ _ _ h.upf t1.1 (by omega) (by omega) (by omega), if_neg (fun e => tn0 e.symm)]; exact g.p0
  · rw [hss] at hs
    rcases List.mem_append.1 hs with hs | hs
    · obtain ⟨a1, a2, a3, a4, a5⟩ := g.lv s hs hl
      obtain ⟨r1, r2⟩ := h.ss s hs hl
      refine ⟨a1, a2, ?_, ?_, hcells s hs hl⟩
      · show bitB (createK k).pf (s.root - k.cd) = false
        rw [epf, bit0_of _ _ _ h.upf t1.1 (by omega) (by omega) (by omega)]; split
        · rfl
        · exact a3
      · rw [eaf, bit0_of _ _ _ h.uaf t2.1 (by omega) (by omega) (by omega)]; split
        · rfl
        · exact a4
    · rw [List.mem_singleton.1 hs]
      refine ⟨by show k.pb + tzI k.pf ≠ k.cd; omega, by show tzI k.af + 1 ≤ k.ca; omega, ?_, ?_, ?_⟩
      · show bitB (createK k).pf (k.pb + tzI k.pf - k.cd) = false
        rw [show k.pb + tzI k.pf - k.cd = tzI k.pf by omega, epf, bit0_of _ _ _ h.upf t1.1 (by omega) (by omega) (by omega), if_pos rfl]
      · show bitB (createK k).af (tzI k.af + 1 - 1) = false
        rw [show tzI k.af + 1 - 1 = tzI k.af by omega, eaf, bit0_of _ _ _ h.uaf t2.1 (by omega) (by omega) (by omega), if_pos rfl]
      · show ((k.pb + tzI k.pf) * 512 + 511, 33 + 1024 * k.sh) ∈ _
        rw [show (k.pb + tzI k.pf) * 512 + 511 = 512 * (k.pb + tzI k.pf) + 511 by omega]; exact hnew
  · rw [hss] at hs ht
    have look : ∀ (i : Nat) (s : Sp), (k.ss ++ [(⟨k.pb + tzI k.pf, tzI k.af + 1, true⟩ : Sp)])[i]? = some s → (i < k.ss.length ∧ k.ss[i]? = some s) ∨ (i = k.ss.length ∧ s = ⟨k.pb + tzI k.pf, tzI k.af + 1, true⟩) := fun i s hs => by
      by_cases hi : i < k.ss.length
      · rw [List.getElem?_append_left hi] at hs; exact .inl ⟨hi, hs⟩
      · rw [List.getElem?_append_right (by omega)] at hs
        obtain ⟨d, hd⟩ : ∃ d, d = i - k.ss.length := ⟨_, rfl⟩
        rw [← hd] at hs
        cases d with
        | zero => simp at hs; exact .inr ⟨by omega, hs.symm⟩
        | succ d => simp at hs
    rcases look i s hs with ⟨_, hs⟩ | ⟨ei, es⟩
    · rcases look j t ht with ⟨_, ht⟩ | ⟨ej, et⟩
      · exact g.ap i j s t hs ht hij hl hl'
      · rw [et]; exact hne s (List.mem_of_getElem? hs) hl
    · rcases look j t ht with ⟨_, ht⟩ | ⟨ej, et⟩
      · rw [es]
        have := hne t (List.mem_of_getElem? ht) hl'
        exact ⟨fun e => this.1 e.symm, fun e => this.2 e.symm⟩
      · omega
  · rw [hm] at hc
    rcases putM_mem _ _ _ _ hc with hc | ⟨rfl, _⟩
    · obtain ⟨s, hs, hl, e⟩ := g.cl c hc
      exact ⟨s, by rw [hss]; exact List.mem_append_left _ hs, hl, e⟩
    · refine ⟨⟨k.pb + tzI k.pf, tzI k.af + 1, true⟩, by rw [hss]; simp, rfl, ?_⟩
      show (512 * (k.pb + tzI k.pf) + 511, _) = ((k.pb + tzI k.pf) * 512 + 511, _)
      rw [show 512 * (k.pb + tzI k.pf) + 511 = (k.pb + tzI k.pf) * 512 + 511 by omega]; rfl
  · have := g.np
    rw [epf, hss, alv_app _ _ rfl]
    show _ = k.cp
    omega
  · have := g.na
    rw [eaf, hss, alv_app _ _ rfl]
    show _ = k.ca
    omega
theorem destroy_inv2 {n : Nat} {k : Kr} {id : Int} (h : Inv n k) (g : Inv2 k) (hlv : livesB k id = true) : Inv2 (destroyK k id (spAt k id)) := by
  have c1 := h.cp
  have c2 := h.ca
  have hcd := h.cd
  have hpb := h.pb
  have hpm := h.pm
  have ham := h.am
  obtain ⟨y0, y1, y2, y3⟩ := lives_at hlv
  rw [destroyK_is h hlv]
  obtain ⟨s, hs⟩ : ∃ s, s = spAt k id := ⟨_, rfl⟩
  rw [← hs] at y2 y3 ⊢
  have hmem := List.mem_of_getElem? y2
  obtain ⟨r1, r2⟩ := h.ss s hmem y3
  obtain ⟨a1, a2, a3, a4, a5⟩ := g.lv s hmem y3
  have hpf : TableC2.giveF k.pb k.pm k.pf s.root = setI k.pf (s.root - k.cd) 1 1 := by
    unfold TableC2.giveF
    rw [if_pos, hpb]
    unfold PoolC.isP PoolC.inP
    rw [decide_eq_true (by omega), decide_eq_true (by omega), getI_bit _ _ (by omega), hpb, a3]; rfl
  have haf : giveA k.am k.af s.asid = setI k.af (s.asid - 1) 1 1 := by
    unfold giveA
    rw [if_pos]
    show (decide (1 ≤ s.asid) && decide (s.asid ≤ k.am) && !bitB k.af (s.asid - 1)) = true
    rw [decide_eq_true (by omega), decide_eq_true (by omega), a4]; rfl
  obtain ⟨k', hk'⟩ : ∃ k' : Kr, k' = { backK k s.root with af := giveA k.am k.af s.asid, ss := k.ss.set id.toNat zSp } := ⟨_, rfl⟩
  have epf : k'.pf = setI k.pf (s.root - k.cd) 1 1 := by rw [hk']; exact hpf
  have eaf : k'.af = setI k.af (s.asid - 1) 1 1 := by rw [hk']; exact haf
  have ess : k'.ss = k.ss.set id.toNat zSp := by rw [hk']
  have em : k'.m = k.m.filter (outB (s.root * 512) (s.root * 512 + 512)) := by rw [hk']; exact wipe_filt _ _ h.m
  have esh : k'.sh = k.sh := by rw [hk']; rfl
  have ecd : k'.cd = k.cd := by rw [hk']; rfl
  have ecp : k'.cp = k.cp := by rw [hk']; rfl
  have eca : k'.ca = k.ca := by rw [hk']; rfl
  rw [← hk']
  have old : ∀ (i : Nat) (t : Sp), k'.ss[i]? = some t → t.live = true → k.ss[i]? = some t ∧ i ≠ id.toNat := fun i t ht hl => by
    rw [ess] at ht
    by_cases e : id.toNat = i
    · subst e
      rw [List.getElem?_set_self (by omega)] at ht
      cases ht; cases hl
    · rw [List.getElem?_set_ne e] at ht; exact ⟨ht, fun e' => e e'.symm⟩
  have far : ∀ (i : Nat) (t : Sp), k'.ss[i]? = some t → t.live = true → t.root ≠ s.root ∧ t.asid ≠ s.asid := fun i t ht hl => by
    obtain ⟨h1, h2⟩ := old i t ht hl
    exact g.ap i id.toNat t s h1 y2 h2 hl y3
  have n1 := cnt_on h.upf (i := s.root - k.cd) (by omega) (by omega) a3
  have n2 := cnt_on h.uaf (i := s.asid - 1) (by omega) (by omega) a4
  refine ⟨by rw [esh, ecd]; exact g.sh, ?_, fun t ht hl => ?_, fun i j t u ht hu hij hl hl' => ?_, fun c hc => ?_, ?_, ?_⟩
  · rw [epf, bit1_of _ _ _ h.upf (by omega) (by omega) (by omega) (by omega), if_neg (by omega)]; exact g.p0
  · obtain ⟨i, hi⟩ := List.getElem?_of_mem ht
    obtain ⟨o1, o2⟩ := old i t hi hl
    obtain ⟨f1, f2⟩ := far i t hi hl
    have tm := List.mem_of_getElem? o1
    obtain ⟨b1, b2, b3, b4, b5⟩ := g.lv t tm hl
    obtain ⟨q1, q2⟩ := h.ss t tm hl
    rw [ecd, eca, esh]
    refine ⟨b1, b2, ?_, ?_, ?_⟩
    · rw [epf, bit1_of _ _ _ h.upf (by omega) (by omega) (by omega) (by omega), if_neg (by omega)]; exact b3
    · rw [eaf, bit1_of _ _ _ h.uaf (by omega) (by omega) (by omega) (by omega), if_neg (by omega)]; exact b4
    · rw [em]
      refine List.mem_filter.2 ⟨b5, ?_⟩
      simp only [outB, Bool.or_eq_true, decide_eq_true_eq]; omega
  · exact g.ap i j t u (old i t ht hl).1 (old j u hu hl').1 hij hl hl'
  · rw [em] at hc
    obtain ⟨hc, ho⟩ := List.mem_filter.1 hc
    obtain ⟨t, ht, hl, e⟩ := g.cl c hc
    obtain ⟨i, hi⟩ := List.getElem?_of_mem ht
    have hid : i ≠ id.toNat := fun e' => by
      subst e'
      rw [y2] at hi; cases hi
      rw [e] at ho
      simp only [outB, Bool.or_eq_true, decide_eq_true_eq] at ho; omega
    refine ⟨t, ?_, hl, by rw [esh]; exact e⟩
    rw [ess]
    refine List.mem_of_getElem? (i := i) ?_
    rw [List.getElem?_set_ne (fun e' => hid e'.symm)]; exact hi
  · have := g.np
    have ha := alv_set k.ss id.toNat s y2 y3
    rw [epf, ess, ecp]; omega
  · have := g.na
    have ha := alv_set k.ss id.toNat s y2 y3
    rw [eaf, ess, eca]; omega
/-! ### deeds -/
structure Cf (a b c : Int) (k : Kr) : Prop where
  cd : k.cd = a
  cp : k.cp = b
  ca : k.ca = c
theorem create_both {n : Nat} {k : Kr} (h : Inv n k) (g : Inv2 k) : Inv2 (createR k).1 := by
  unfold createR
  by_cases c1 : 32 ≤ k.ss.length
  · rw [if_pos c1]; exact g
  rw [if_neg c1]
  by_cases c2 : k.af = 0
  · rw [if_pos c2]; exact g
  rw [if_neg c2]
  by_cases c3 : k.pf = 0
  · rw [if_pos c3]; exact g
  rw [if_neg c3]
  have := create_inv2 h g c2 c3
  split
  · exact { sh := this.sh, p0 := this.p0, lv := this.lv, ap := this.ap, cl := this.cl, np := this.np, na := this.na }
  · exact this
theorem sw_inv2 {k : Kr} (id : Int) (g : Inv2 k) : Inv2 (switchR k id).1 := by
  unfold switchR
  split
  · exact { sh := g.sh, p0 := g.p0, lv := g.lv, ap := g.ap, cl := g.cl, np := g.np, na := g.na }
  · split
    · exact g
    · exact { sh := g.sh, p0 := g.p0, lv := g.lv, ap := g.ap, cl := g.cl, np := g.np, na := g.na }
theorem de_inv2 {n : Nat} {k : Kr} (id : Int) (h : Inv n k) (g : Inv2 k) : Inv2 (destroyR k id).1 := by
  unfold destroyR
  by_cases c1 : livesB k id = false
  · rw [if_pos c1]; exact g
  rw [if_neg c1]
  split
  · exact g
  · exact destroy_inv2 h g (by simpa using c1)
theorem do_inv2 {n : Nat} {k : Kr} {d : Int × Int} (h : Inv n k) (g : Inv2 k) : Inv2 (doR k d).1 := by
  unfold doR
  split
  · exact create_both h g
  · split
    · exact de_inv2 _ h g
    · exact sw_inv2 _ g
theorem do_cf {a b c : Int} {k : Kr} {d : Int × Int} (h : Cf a b c k) : Cf a b c (doR k d).1 := by
  have cr : Cf a b c (createR k).1 := by
    unfold createR
    repeat (first | exact h | (split; · exact ⟨h.cd, h.cp, h.ca⟩) | exact ⟨h.cd, h.cp, h.ca⟩)
  have de : ∀ id, Cf a b c (destroyR k id).1 := fun id => by
    unfold destroyR
    repeat (first | exact h | (split; · exact ⟨h.cd, h.cp, h.ca⟩) | exact ⟨h.cd, h.cp, h.ca⟩)
  have sw : ∀ id, Cf a b c (switchR k id).1 := fun id => by
    unfold switchR
    repeat (first | exact h | (split; · exact ⟨h.cd, h.cp, h.ca⟩) | exact ⟨h.cd, h.cp, h.ca⟩)
  unfold doR
  split
  · exact cr
  · split
    · exact de _
    · exact sw _
theorem do_err {k : Kr} {d : Int × Int} (h : (doR k d).2.2 ≠ 0) : (doR k d).1 = k := by
  have cr : (createR k).2.2 ≠ 0 → (createR k).1 = k := by
    unfold createR
    intro h
    by_cases c1 : 32 ≤ k.ss.length
    · rw [if_pos c1]
    rw [if_neg c1] at h ⊢
    by_cases c2 : k.af = 0
    · rw [if_pos c2]
    rw [if_neg c2] at h ⊢
    by_cases c3 : k.pf = 0
    · rw [if_pos c3]
    rw [if_neg c3] at h
    split at h <;> exact absurd rfl h
  have de : ∀ id, (destroyR k id).2 ≠ 0 → (destroyR k id).1 = k := fun id => by
    unfold destroyR
    intro h
    by_cases c1 : livesB k id = false
    · rw [if_pos c1]
    rw [if_neg c1] at h ⊢
    by_cases c2 : id = k.now
    · rw [if_pos c2]
    rw [if_neg c2] at h
    exact absurd rfl h
  have sw : ∀ id, (switchR k id).2 ≠ 0 → (switchR k id).1 = k := fun id => by
    unfold switchR
    intro h
    by_cases c1 : id = -1
    · rw [if_pos c1] at h; exact absurd rfl h
    rw [if_neg c1] at h ⊢
    by_cases c2 : livesB k id = false
    · rw [if_pos c2]
    rw [if_neg c2] at h
    exact absurd rfl h
  unfold doR at h ⊢
  by_cases c1 : d.1 % 3 = 0
  · rw [if_pos c1] at h ⊢; exact cr h
  rw [if_neg c1] at h ⊢
  by_cases c2 : d.1 % 3 = 1
  · rw [if_pos c2] at h ⊢; exact de _ h
  rw [if_neg c2] at h ⊢
  exact sw _ h
/-! ### the end -/
theorem all_free {n : Nat} {k : Kr} {a b c : Int} {m : Nat} (h : Inv n k) (g : Inv2 k) (f : Cf a b c k) (hc : confB a b c m = true) (hd : ∀ s ∈ k.ss, s.live = false) : k.pf = (newK a b c m).pf ∧ k.af = (newK a b c m).af ∧ k.m = [] := by
  have h0 := new_inv hc
  have g0 := new_inv2 hc
  have z := alv_none k.ss hd
  have n1 := g.np
  have n2 := g.na
  have m1 := g0.np
  have m2 := g0.na
  have e1 : (newK a b c m).cp = b := rfl
  have e2 : (newK a b c m).ca = c := rfl
  have e3 : alv (newK a b c m).ss = 0 := rfl
  have f1 := f.cp
  have f2 := f.ca
  have c1 := h.cp
  have c2 := h.ca
  have pin : ∀ (k : Kr) (n : Nat), Inv n k → Inv2 k → (cnt k.pf : Int) + 1 = k.cp → ∀ j : Nat, j < 64 → bitB k.pf j = (decide (j < k.cp.toNat) && decide (j ≠ 0)) := fun k n h g e => by
    have c1 := h.cp
    refine cs_eq 64 _ _ (fun j hj hb => ?_) ?_
    · have h1 : j < k.cp.toNat := by
        rcases Nat.lt_or_ge j k.cp.toNat with h' | h'
        · exact h'
        · rw [bit_high h.upf h.pf.2 j h'] at hb; cases hb
      have h2 : j ≠ 0 := fun e => by
        subst e
        have hb : bitB k.pf 0 = true := hb
        rw [g.p0] at hb; cases hb
      simp [h1, h2]
    · rw [cs_lt0 64 _ (by omega) (by omega)]
      show cnt k.pf = _
      omega
  have ain : ∀ (k : Kr) (n : Nat), Inv n k → (cnt k.af : Int) = k.ca → ∀ j : Nat, j < 64 → bitB k.af j = decide (j < k.ca.toNat) := fun k n h e => by
    have c2 := h.ca
    refine cs_eq 64 _ _ (fun j hj hb => ?_) ?_
    · have h1 : j < k.ca.toNat := by
        rcases Nat.lt_or_ge j k.ca.toNat with h' | h'
        · exact h'
        · rw [bit_high h.uaf h.af.2 j h'] at hb; cases hb
      simp [h1]
    · rw [cs_lt 64 _ (by omega)]
      show cnt k.af = _
      omega
  refine ⟨eq_bits h.upf h0.upf fun j hj => ?_, eq_bits h.uaf h0.uaf fun j hj => ?_, ?_⟩
  · rw [pin k n h g (by omega) j hj, pin _ _ h0 g0 (by omega) j hj, f1, e1]
  · rw [ain k n h (by omega) j hj, ain _ _ h0 (by omega) j hj, f2, e2]
  · cases hm : k.m with
    | nil => rfl
    | cons x l =>
      obtain ⟨s, hs, hl, _⟩ := g.cl x (by rw [hm]; simp)
      rw [hd s hs] at hl; cases hl
end Go.Proofs.YtmoccajgjnjelaaGreatDoor.RfK
/- Plain: from Space's kernels to those on which pages are laid; the kernels of the anchor, reckoned out. -/
namespace Go.Proofs.YtmoccajgjnjelaaGreatDoor.LaH
open Go.RowKit Go.Proofs.YtmoccajgjnjelaaGreatDoor.Bv Go.Proofs.YtmoccajgjnjelaaGreatDoor.VaSpec Go.Proofs.YtmoccajgjnjelaaGreatDoor.Base Go.Proofs.YtmoccajgjnjelaaGreatDoor.MemL Go.Proofs.YtmoccajgjnjelaaGreatDoor.RegR Go.Proofs.YtmoccajgjnjelaaGreatDoor.Ax Go.Proofs.YtmoccajgjnjelaaGreatDoor.MemC Go.Proofs.YtmoccajgjnjelaaGreatDoor.PutC Go.Proofs.YtmoccajgjnjelaaGreatDoor.MemC3 Go.Proofs.YtmoccajgjnjelaaGreatDoor.TzC Go.Proofs.YtmoccajgjnjelaaGreatDoor.OkS Go.Proofs.YtmoccajgjnjelaaGreatDoor.SpA Go.Proofs.YtmoccajgjnjelaaGreatDoor.SpB Go.Proofs.YtmoccajgjnjelaaGreatDoor.SpC Go.Proofs.YtmoccajgjnjelaaGreatDoor.SpD Go.Proofs.YtmoccajgjnjelaaGreatDoor.SpE Go.Proofs.YtmoccajgjnjelaaGreatDoor.SpF Go.Proofs.YtmoccajgjnjelaaGreatDoor.SpG Go.Proofs.YtmoccajgjnjelaaGreatDoor.SpH Go.Proofs.YtmoccajgjnjelaaGreatDoor.SpI Go.Proofs.YtmoccajgjnjelaaGreatDoor.SpJ Go.Proofs.YtmoccajgjnjelaaGreatDoor.SpK Go.Proofs.YtmoccajgjnjelaaGreatDoor.SpN Go.Proofs.YtmoccajgjnjelaaGreatDoor.SpO Go.Proofs.YtmoccajgjnjelaaGreatDoor.RfE Go.Proofs.YtmoccajgjnjelaaGreatDoor.RfJ Go.Proofs.YtmoccajgjnjelaaGreatDoor.RfK Go.Proofs.YtmoccajgjnjelaaGreatDoor.LaA Go.Proofs.YtmoccajgjnjelaaGreatDoor.LaB Go.Proofs.YtmoccajgjnjelaaGreatDoor.LaC Go.Proofs.YtmoccajgjnjelaaGreatDoor.LaD Go.Proofs.YtmoccajgjnjelaaGreatDoor.LaE Go.Proofs.YtmoccajgjnjelaaGreatDoor.LaF Go.Proofs.YtmoccajgjnjelaaGreatDoor.LaG
open Go.Proofs.YtmoccajgjnjelaaGreatDoor.BitsC Go.Proofs.YtmoccajgjnjelaaGreatDoor.PteSpec
set_option linter.unusedVariables false
set_option linter.unusedSimpArgs false
set_option maxRecDepth 10000
set_option maxHeartbeats 1000000
theorem gP_back {n : Int} (h : 0 ≤ n ∧ n < 17592186044416) : pteOf (33 + 1024 * n) = gP n := by
  have hm : mayP (gP n) = true := by rw [mayP_iff]; unfold gP; simp; omega
  have hU : (gP n).U := by unfold Pte.U gP; simp; omega
  rw [← putE_gP n h]
  unfold PteC.putE
  rw [if_pos hm, pteOf_word _ hU hm]
theorem inv_l {n : Nat} {k : Kr} (h : Inv n k) (g : Inv2 k) : InvL n k := by
  have b1 := h.cd
  have b2 := h.cp
  have hsh := h.sh
  have ash : Al k.cd k.cp k.pf k.sh := ⟨hsh, by rw [g.sh, show k.cd - k.cd = 0 by omega]; exact g.p0⟩
  have ass : ∀ s ∈ k.ss, s.live = true → Al k.cd k.cp k.pf s.root := fun s hs hl => ⟨(h.ss s hs hl).1, (g.lv s hs hl).2.2.1⟩
  refine { g := ⟨h.cd, h.cp, h.sz, h.pf, h.m, fun c hc => ?_⟩, cs := h.cs, pb := h.pb, pm := h.pm, sh := ash, ts := h.ts, ml := h.ml, fl := h.fl, sl := h.sl, ss := ass }
  obtain ⟨s, hs, hl, rfl⟩ := g.cl c hc
  refine ⟨?_, (h.mc _ hc).2.2.2, ?_⟩
  · show Al k.cd k.cp k.pf ((s.root * 512 + 511) / 512)
    rw [show (s.root * 512 + 511) / 512 = s.root by omega]
    exact ass s hs hl
  · show EOk k.cd k.cp k.pf (pteOf (33 + 1024 * k.sh))
    rw [gP_back (by omega)]
    exact .inr ⟨rfl, ash⟩
noncomputable def bgK (a b c : Int) (n : Nat) : Kr := (createR (createR (newK a b c n)).1).1
theorem bg_inv {a b c : Int} {n : Nat} (h : confB a b c n = true) : Inv 0 (newK a b c n) ∧ Inv 1 (createR (newK a b c n)).1 ∧ InvL 2 (bgK a b c n) := by
  have h0 := new_inv h
  have g0 := new_inv2 h
  have h1 := create_inv h0
  have g1 := create_both h0 g0
  exact ⟨h0, h1, inv_l (create_inv h1) (create_both h1 g1)⟩
/-! ### the anchor's kernels -/
def kr2 (m : List (Int × Int)) (pf af ao : Int) (ss : List Sp) : Kr := { cd := 4, cp := 8, ca := 2, cs := 1, sz := 49152, m := m, tn := 1, ts := zsL 1, sm := 0, sa := 0, sp := 0, priv := 0, su := false, mx := false, vic := -1, pb := 4, pm := 8, pf := pf, am := 2, af := af, ao := ao, ss := ss, now := -1, sh := 4, fs := [] }
def c0 : Kr := kr2 [] 254 3 0 []
def c1 : Kr := kr2 [(3071, 4129)] 252 2 1 [⟨5, 1, true⟩]
def c2 : Kr := kr2 [(3071, 4129), (3583, 4129)] 248 0 3 [⟨5, 1, true⟩, ⟨6, 2, true⟩]
def cA : Kr := kr2 [(2560, 7169), (3071, 4129), (3583, 4129), (3584, 8193), (4101, 1031)] 224 0 3 [⟨5, 1, true⟩, ⟨6, 2, true⟩]
def cB : Kr := kr2 [(2559, 9217), (2560, 7169), (3071, 4129), (3583, 4129), (3584, 8193), (4101, 1031), (5119, 39)] 192 0 3 [⟨5, 1, true⟩, ⟨6, 2, true⟩]
theorem n0 : newK 4 8 2 1 = c0 := by kernel_rfl
theorem e1 : createR c0 = (c1, 0, 0) := by
  unfold createR createK newM
  rw [kA_idx]
  kernel_rfl
theorem e2 : createR c1 = (c2, 1, 0) := by
  unfold createR createK newM
  rw [kA_idx]
  kernel_rfl
theorem bg2 : bgK 4 8 2 1 = c2 := by
  unfold bgK
  rw [n0, e1, e2]
theorem i2 : InvL 2 c2 := by rw [← bg2]; exact (bg_inv (by decide)).2.2
def rw2 : Pm := ⟨true, true, false, false⟩
theorem mA : mapR c2 0 20480 4096 0 rw2 = (cA, 0) := by kernel_rfl
theorem iA : InvL 5 cA := by have := map_inv (id := 0) (a := 20480) (pa := 4096) (l := 0) (p := rw2) i2 ⟨by omega, by omega⟩; rwa [mA] at this
theorem mF : mapR cA 0 20480 0 0 rw2 = (cA, 6) := by kernel_rfl
theorem mG : mapR cA 1 20480 16384 0 rw2 = (cA, 3) := by kernel_rfl
theorem mH : mapR cA 1 20480 0 0 ⟨false, true, false, false⟩ = (cA, 5) := by kernel_rfl
theorem mI : mapR cA (-1) 18446744073709547520 0 0 rw2 = (cB, 0) := by kernel_rfl
theorem iB : InvL 8 cB := by have := map_inv (id := -1) (a := 18446744073709547520) (pa := 0) (l := 0) (p := rw2) iA ⟨by omega, by omega⟩; rwa [mI] at this
theorem mJ : mapR c2 0 1073762304 0 0 ⟨false, false, false, false⟩ = (c2, 5) := by kernel_rfl
theorem lA : listR cB 0 = [⟨20480, 4096, 0, true, true, false, false, false⟩] := by
  unfold listR
  rw [if_neg (by decide), if_neg (by decide)]
  kernel_rfl
theorem lB : listR cB (-1) = [⟨18446744073709547520, 0, 0, true, true, false, false, false⟩] := by
  unfold listR
  rw [if_pos rfl, kA_eq]
  kernel_rfl
theorem lC : listR cB 1 = [] := by
  unfold listR
  rw [if_neg (by decide), if_neg (by decide)]
  kernel_rfl
theorem lD : listR cB 9 = [] := by
  unfold listR
  rw [if_neg (by decide), if_pos (by decide)]
end Go.Proofs.YtmoccajgjnjelaaGreatDoor.LaH
/- The contract of the reference's address of a page number. -/
namespace Go.Proofs.YtmoccajgjnjelaaGreatDoor.VaR
open Go.RowKit Go.Proofs.YtmoccajgjnjelaaGreatDoor.Bv Go.Proofs.YtmoccajgjnjelaaGreatDoor.VaSpec Go.Proofs.YtmoccajgjnjelaaGreatDoor.Base Go.Proofs.YtmoccajgjnjelaaGreatDoor.BitsC Go.Proofs.YtmoccajgjnjelaaGreatDoor.VaC
set_option linter.unusedVariables false
set_option linter.unusedSimpArgs false
theorem rof_calls (n : Int) (w : World) (a0 : 0 ≤ n) (a1 : n < 18446744073709551616) : Calls Tryz.prog 90 #[.int .u64 n] w fun e w' => e = .returned (.int .u64 (ofv n)) ∧ Below w.heap.size w w' := by
  obtain ⟨x, hx⟩ := u64_B (a := n % 134217728 * 4096) (by omega) (by omega)
  have hs := signB_39 x
  have Hv := Lib.hid (show B (signB x 39) = ofv n by rw [hs, ← hx, Int.emod_eq_of_lt (by omega) (by omega)]; rfl)
  have Hx := Lib.hid hx
  clear hx hs
  go_enter Tryz.func90, Tryz.ntmps90
  go_wp2_with fail
  rw [Hx.out]
  refine (RefS.sign_any x 39 _ (by omega) (by omega)).mono ?_
  rintro e w' ⟨rfl, bel⟩
  rw [Hv.out]
  go_wp2
  go_ret
  exact ⟨rfl, bel⟩
end Go.Proofs.YtmoccajgjnjelaaGreatDoor.VaR
/- The abstract walk: the document's tables: At, With, Reach, Down. -/
namespace Go.Proofs.YtmoccajgjnjelaaGreatDoor.RlA
open Go.RowKit Go.Proofs.YtmoccajgjnjelaaGreatDoor.Bv Go.Proofs.YtmoccajgjnjelaaGreatDoor.VaSpec Go.Proofs.YtmoccajgjnjelaaGreatDoor.Base Go.Proofs.YtmoccajgjnjelaaGreatDoor.MemL Go.Proofs.YtmoccajgjnjelaaGreatDoor.RegR Go.Proofs.YtmoccajgjnjelaaGreatDoor.Ax Go.Proofs.YtmoccajgjnjelaaGreatDoor.MemC Go.Proofs.YtmoccajgjnjelaaGreatDoor.PutC Go.Proofs.YtmoccajgjnjelaaGreatDoor.MemC3 Go.Proofs.YtmoccajgjnjelaaGreatDoor.TzC Go.Proofs.YtmoccajgjnjelaaGreatDoor.OkS Go.Proofs.YtmoccajgjnjelaaGreatDoor.SpA Go.Proofs.YtmoccajgjnjelaaGreatDoor.SpB Go.Proofs.YtmoccajgjnjelaaGreatDoor.SpC Go.Proofs.YtmoccajgjnjelaaGreatDoor.SpD Go.Proofs.YtmoccajgjnjelaaGreatDoor.SpE Go.Proofs.YtmoccajgjnjelaaGreatDoor.SpF Go.Proofs.YtmoccajgjnjelaaGreatDoor.SpH Go.Proofs.YtmoccajgjnjelaaGreatDoor.SpI Go.Proofs.YtmoccajgjnjelaaGreatDoor.SpJ Go.Proofs.YtmoccajgjnjelaaGreatDoor.SpN Go.Proofs.YtmoccajgjnjelaaGreatDoor.SpO Go.Proofs.YtmoccajgjnjelaaGreatDoor.RfA Go.Proofs.YtmoccajgjnjelaaGreatDoor.RfB Go.Proofs.YtmoccajgjnjelaaGreatDoor.RfC Go.Proofs.YtmoccajgjnjelaaGreatDoor.RfD Go.Proofs.YtmoccajgjnjelaaGreatDoor.LaA Go.Proofs.YtmoccajgjnjelaaGreatDoor.LaB Go.Proofs.YtmoccajgjnjelaaGreatDoor.LaC Go.Proofs.YtmoccajgjnjelaaGreatDoor.LaD Go.Proofs.YtmoccajgjnjelaaGreatDoor.LaE
open Go.Proofs.YtmoccajgjnjelaaGreatDoor.BitsC Go.Proofs.YtmoccajgjnjelaaGreatDoor.PteSpec
set_option linter.unusedVariables false
set_option linter.unusedSimpArgs false
set_option maxRecDepth 10000
set_option maxHeartbeats 1000000
def pv (p : Pte) : Value := .agg #[.bool p.v, .bool p.r, .bool p.w, .bool p.x, .bool p.u, .bool p.g, .bool p.a, .bool p.d, .int .u64 p.rsw, .int .u64 p.ppn, .int .u64 p.high]
theorem rleaf_ok (q : Pte) : Ok 79 [.ag q.ce] (.m (ib (leafP q))) :=
  ok_plain #[pv q] (.bool (leafP q)) fun W _ => (PteR.rleaf_calls q.v q.r q.w q.x q.u q.g q.a q.d q.rsw q.ppn q.high W).mono fun e w' h => h
theorem rperm_ok (q : Pte) : Ok 92 [.ag q.ce] (.m (.ag [cb q.r, cb q.w, cb q.x, cb q.u])) :=
  ok_plain #[pv q] (.agg #[.bool q.r, .bool q.w, .bool q.x, .bool q.u]) fun W _ => (PteR.rperm_calls q.v q.r q.w q.x q.u q.g q.a q.d q.rsw q.ppn q.high W).mono fun e w' h => h
theorem rmake_ok (n : Int) (p : Pm) (g : Bool) : Ok 38 [iu n, .ag p.ce, ib g] (.m (.ag (mkP n p g).ce)) :=
  ok_plain #[.int .u64 n, .agg #[.bool p.r, .bool p.w, .bool p.x, .bool p.u], .bool g] (pv (mkP n p g)) fun W _ => (PteR.rmake_calls n p.r p.w p.x p.u g W).mono fun e w' h => h
theorem rput_ok (q : Pte) (h : q.U) (hm : mayP q = true) : Ok 80 [.ag q.ce] (.m (iu (PteC.putE q))) := by
  rw [show PteC.putE q = word q from if_pos hm]
  exact ok_plain #[pv q] (.int .u64 (word q)) fun W _ => (PteR.rput_calls q.v q.r q.w q.x q.u q.g q.a q.d q.rsw q.ppn q.high W h.1 h.2.1 h.2.2 hm).mono fun e w' h => h
theorem rsize_ok (l : Int) (h0 : 0 ≤ l) (h2 : l ≤ 2) : Ok 33 [ii l] (.m (iu (VaSpec.sz l))) :=
  ok_plain #[.int .i64 l] (.int .u64 (VaSpec.sz l)) fun W _ => (VaR.rsize_calls l W h0 h2).mono fun e w' ⟨he, hq⟩ => ⟨he, Q.below hq⟩
theorem rnum_ok (a : Int) (ha : U a) : Ok 91 [iu a] (.m (iu (num a))) :=
  ok_plain #[.int .u64 a] (.int .u64 (num a)) fun W _ => (VaR.rnum_calls a W ha.1 ha.2).mono fun e w' ⟨he, hq⟩ => ⟨he, Q.below hq⟩
theorem rof_ok (a : Int) (ha : U a) : Ok 90 [iu a] (.m (iu (ofv a))) :=
  ok_plain #[.int .u64 a] (.int .u64 (ofv a)) fun W _ => (VaR.rof_calls a W ha.1 ha.2).mono fun e w' h => h
theorem rpmay_ok (p : Pm) : Ok 34 [.ag p.ce] (.m (ib (pmMay p))) := by
  obtain ⟨r, w, x, u⟩ := p
  cases r <;> cases w <;> cases x
  all_goals
    refine callOk_of 18 Tryz.func34 rfl rfl rfl rfl ?_ GG.to
    intro W A hG
    repeat (first
      | (refine go_at rfl ?_; first
          | refine go_do (valid_skip rfl) rfl ?_
          | refine go_do (valid_mv (.inl rfl) rfl) rfl ?_
          | (refine nxt_s 1 rfl ?_; refine go_do (valid_load_p tb rfl rfl rfl rfl rfl (by first | kernel_rfl | rfl)) (by first | kernel_rfl | rfl) ?_)
          | (refine nxt_s 1 rfl ?_; refine go_do (valid_fld_p tb rfl rfl rfl (by kernel_rfl)) rfl ?_)
          | refine go_do (valid_mv (.inr rfl) rfl) rfl ?_
          | refine go_do (valid_pick rfl rfl rfl) rfl ?_
          | refine go_do (valid_box rfl rfl rfl rfl rfl rfl) rfl ?_
          | refine go_do (valid_not rfl rfl rfl) rfl ?_)
      | (refine hK _ ?_; clear hK K)
      | refine aw_text rfl ?_
      | exact aw_ret (show resA _ _ _ = some _ by kernel_rfl)
      | refine aw_cond1 rfl rfl ?_
      | refine aw_cond0 rfl rfl ?_
      | refine aw_skip ?_
      | refine aw_seq_k (fun K hK => ?_))
theorem rat2_ok (sz : Int) (m : List (Int × Int)) (f i : Int) (hf : 0 ≤ f ∧ f < 17592186044416) (hi : 0 ≤ i ∧ i < 512) (hs : Srt m) (hu : Uw m) (hl : m.length ≤ 1000000) : Ok 77 [memA sz m, iu f, ii i] (.m (.ag (atM sz m f i).ce)) := by
  have h1 := rword_ok sz m (4096 * f + 8 * i) ⟨by omega, by omega⟩ hs hl
  have h2 := rget_ok (wordM sz m (4096 * f + 8 * i)) (wordM_U hu sz _)
  rw [show atM sz m f i = pteOf (wordM sz m (4096 * f + 8 * i)) by unfold atM; rw [show f * 4096 + i * 8 = 4096 * f + 8 * i by omega]]
  refine callOk_of 16 Tryz.func77 rfl rfl rfl rfl ?_ GG.to
  intro W A hG
  repeat (first
    | (refine go_at rfl ?_; first
        | refine go_do (valid_mv (.inl rfl) rfl) rfl ?_
        | (refine nxt_s 1 rfl ?_; refine go_do (valid_load_p tb rfl rfl rfl rfl rfl (by first | kernel_rfl | rfl)) (by first | kernel_rfl | rfl) ?_)
        | refine go_do (valid_ar rfl rfl rfl rfl (by constructor) (by first | exact wr_u64 (by omega) (by omega) | exact wr_i64 (by omega) (by omega) | rfl)) rfl ?_
        | refine go_do (valid_cv rfl rfl rfl rfl rfl (by first | exact wr_u64 (by omega) (by omega) | exact wr_i64 (by omega) (by omega) | rfl)) rfl ?_
        | refine go_do (valid_box rfl rfl rfl rfl rfl rfl) rfl ?_
        | refine go_do (valid_alloc rfl rfl rfl rfl rfl) rfl ?_
        | (refine nxt_s 1 rfl ?_; refine go_do (valid_store_p rfl rfl rfl rfl rfl rfl (by first | kernel_rfl | rfl) rfl) (by first | kernel_rfl | rfl) ?_)
        | refine go_do (valid_call rfl rfl rfl (h1) (by kernel_rfl)) rfl ?_
        | refine go_do (valid_call rfl rfl rfl (h2) (by kernel_rfl)) rfl ?_)
    | (refine hK _ ?_; clear hK K)
    | refine aw_text rfl ?_
    | exact aw_ret (show resA _ _ _ = some _ by kernel_rfl)
    | refine aw_seq_k (fun K hK => ?_))
theorem rwith_ok (sz : Int) (xs : List (Int × Int)) (t l : Int) (q : Pte) (addr : Int) (p : Pte) (ha : U addr) (hp : p.U) (hm : mayP p = true) (l0 : 0 ≤ l) (l2 : l ≤ 2) (ht : 0 ≤ t ∧ t < 1099511627776) (hs : Srt xs) (hl : xs.length ≤ 1000000) :
    Ok 37 [memA sz xs, .ag (spotC t l q), iu addr, .ag p.ce] (.m (memA sz (putM xs (t * 512 + idx addr l) (PteC.putE p)))) := by
  have hi := idx_bd addr l
  have h1 := ridx_ok addr l ha l0 l2
  have h2 := rput_ok p hp hm
  have h3 := rset03_ok sz xs (512 * t + idx addr l) (PteC.putE p) hs hl
  rw [show t * 512 + idx addr l = 512 * t + idx addr l by omega]
  refine callOk_of 22 Tryz.func37 rfl rfl rfl rfl ?_ GG.to
  intro W A hG
  repeat (first
    | (refine go_at rfl ?_; first
        | refine go_do (valid_mv (.inl rfl) rfl) rfl ?_
        | (refine nxt_s 1 rfl ?_; refine go_do (valid_load_p tb rfl rfl rfl rfl rfl (by first | kernel_rfl | rfl)) (by first | kernel_rfl | rfl) ?_)
        | (refine nxt_s 1 rfl ?_; refine go_do (valid_fld_p tb rfl rfl rfl (by kernel_rfl)) rfl ?_)
        | refine go_do (valid_ar rfl rfl rfl rfl (by constructor) (by first | exact wr_u64 (by omega) (by omega) | exact wr_i64 (by omega) (by omega) | rfl)) rfl ?_
        | refine go_do (valid_cv rfl rfl rfl rfl rfl (by first | exact wr_u64 (by omega) (by omega) | exact wr_i64 (by omega) (by omega) | rfl)) rfl ?_
        | refine go_do (valid_box rfl rfl rfl rfl rfl rfl) rfl ?_
        | refine go_do (valid_alloc rfl rfl rfl rfl rfl) rfl ?_
        | (refine nxt_s 1 rfl ?_; refine go_do (valid_store_p rfl rfl rfl rfl rfl rfl (by first | kernel_rfl | rfl) rfl) (by first | kernel_rfl | rfl) ?_)
        | refine go_do (valid_call rfl rfl rfl (h1) (by kernel_rfl)) rfl ?_
        | refine go_do (valid_call rfl rfl rfl (h2) (by kernel_rfl)) rfl ?_
        | refine go_do (valid_call rfl rfl rfl (h3) (by kernel_rfl)) rfl ?_)
    | (refine hK _ ?_; clear hK K)
    | refine aw_text rfl ?_
    | refine aw_any (by kernel_rfl) (by kernel_rfl) rfl ?_
    | exact aw_ret (show resA _ _ _ = some _ by kernel_rfl)
    | refine aw_seq_k (fun K hK => ?_))
theorem rreach_ok (sz : Int) (xs : List (Int × Int)) (addr want : Int) (ha : U addr) (hw : 0 ≤ want) (hs : Srt xs) (hu : Uw xs) (hn : xs.length ≤ 1000000) : ∀ (l : Nat) (t : Int), l ≤ 2 → (0 ≤ t ∧ t < 17592186044416) →
    Ok 35 [memA sz xs, iu t, ii l, iu addr, ii want] (.m (.ag (spotR sz xs addr (reachN sz xs addr want l t))))
  | 0, t, hl, ht => by
    have hi := idx_bd addr ((0 : Nat) : Int)
    have h1 := ridx_ok addr ((0 : Nat) : Int) ha (by omega) (by omega)
    have h2 := rat2_ok sz xs t (idx addr ((0 : Nat) : Int)) ht hi hs hu hn
    rw [show spotR sz xs addr (reachN sz xs addr want 0 t) = spotC t ((0 : Nat) : Int) (atM sz xs t (idx addr ((0 : Nat) : Int))) from rfl]
    generalize atM sz xs t (idx addr ((0 : Nat) : Int)) = q at *
    generalize idx addr ((0 : Nat) : Int) = ix at *
    refine callOk_of 38 Tryz.func35 rfl rfl rfl rfl ?_ GG.to
    intro W A hG
    repeat (first
      | (refine go_at rfl ?_; first
          | refine go_do (valid_skip rfl) rfl ?_
          | refine go_do (valid_mv (.inl rfl) rfl) rfl ?_
          | (refine nxt_s 1 rfl ?_; refine go_do (valid_load_p tb rfl rfl rfl rfl rfl (by first | kernel_rfl | rfl)) (by first | kernel_rfl | rfl) ?_)
          | refine go_do (valid_pick rfl rfl rfl) rfl ?_
          | refine go_do (valid_cmp rfl rfl rfl rfl (by first | exact .eql1 (by omega) | exact .eql0 (by omega) | exact .neq1 (by omega) | exact .neq0 (by omega) | exact .lss1 (by omega) | exact .lss0 (by omega) | exact .leq1 (by omega) | exact .leq0 (by omega) | exact .gtr1 (by omega) | exact .gtr0 (by omega) | exact .geq1 (by omega) | exact .geq0 (by omega) | constructor)) rfl ?_
          | refine go_do (valid_box rfl rfl rfl rfl rfl rfl) rfl ?_
          | refine go_do (valid_alloc rfl rfl rfl rfl rfl) rfl ?_
          | (refine nxt_s 1 rfl ?_; refine go_do (valid_store_p rfl rfl rfl rfl rfl rfl (by first | kernel_rfl | rfl) rfl) (by first | kernel_rfl | rfl) ?_)
          | refine go_do (valid_build rfl rfl rfl rfl) rfl ?_
          | refine go_do (valid_call rfl rfl rfl (h1) (by kernel_rfl)) rfl ?_
          | refine go_do (valid_call rfl rfl rfl (h2) (by kernel_rfl)) rfl ?_)
      | (refine hK _ ?_; clear hK K)
      | refine aw_text rfl ?_
      | refine aw_any (by kernel_rfl) (by kernel_rfl) rfl ?_
      | exact aw_ret (show resA _ _ _ = some _ by kernel_rfl)
      | refine aw_cond0 rfl rfl ?_
      | refine aw_skip ?_
      | refine aw_seq_k (fun K hK => ?_))
  | l + 1, t, hl, ht => by
    have hi := idx_bd addr ((l + 1 : Nat) : Int)
    have h1 := ridx_ok addr ((l + 1 : Nat) : Int) ha (by omega) (by omega)
    have h2 := rat2_ok sz xs t (idx addr ((l + 1 : Nat) : Int)) ht hi hs hu hn
    have hA := atM_U hu sz t (idx addr ((l + 1 : Nat) : Int))
    have hp := atM_ppn (xs := xs) sz t (idx addr ((l + 1 : Nat) : Int))
    have h3 := rlinks_ok _ hA ((l + 1 : Nat) : Int) (by omega) (by omega)
    have IH := rreach_ok sz xs addr want ha hw hs hu hn l _ (by omega) hp
    by_cases hlt : want < ((l + 1 : Nat) : Int)
    · cases hlk : linksP (atM sz xs t (idx addr ((l + 1 : Nat) : Int))) ((l + 1 : Nat) : Int) with
      | true =>
        rw [reachN_go hlt hlk]
        rw [hlk] at h3
        generalize reachN sz xs addr want l (atM sz xs t (idx addr ((l + 1 : Nat) : Int))).ppn = rr at *
        generalize atM sz xs t (idx addr ((l + 1 : Nat) : Int)) = q at *
        generalize idx addr ((l + 1 : Nat) : Int) = ix at *
        have IH : Ok 35 [memA sz xs, iu q.ppn, ii (((l + 1 : Nat) : Int) - 1), iu addr, ii want] (.m (.ag (spotR sz xs addr rr))) := by
          rw [show (((l + 1 : Nat) : Int) - 1) = (l : Int) by omega]; exact IH
        refine callOk_of 38 Tryz.func35 rfl rfl rfl rfl ?_ GG.to
        intro W A hG
        repeat (first
          | (refine go_at rfl ?_; first
              | refine go_do (valid_mv (.inl rfl) rfl) rfl ?_
              | (refine nxt_s 1 rfl ?_; refine go_do (valid_load_p tb rfl rfl rfl rfl rfl (by first | kernel_rfl | rfl)) (by first | kernel_rfl | rfl) ?_)
              | (refine nxt_s 1 rfl ?_; refine go_do (valid_fld_p tb rfl rfl rfl (by kernel_rfl)) rfl ?_)
              | refine go_do (valid_pick rfl rfl rfl) rfl ?_
              | refine go_do (valid_cmp rfl rfl rfl rfl (by first | exact .eql1 (by omega) | exact .eql0 (by omega) | exact .neq1 (by omega) | exact .neq0 (by omega) | exact .lss1 (by omega) | exact .lss0 (by omega) | exact .leq1 (by omega) | exact .leq0 (by omega) | exact .gtr1 (by omega) | exact .gtr0 (by omega) | exact .geq1 (by omega) | exact .geq0 (by omega) | constructor)) rfl ?_
              | refine go_do (valid_ar rfl rfl rfl rfl (by constructor) (by first | exact wr_u64 (by omega) (by omega) | exact wr_i64 (by omega) (by omega) | rfl)) rfl ?_
              | refine go_do (valid_box rfl rfl rfl rfl rfl rfl) rfl ?_
              | refine go_do (valid_alloc rfl rfl rfl rfl rfl) rfl ?_
              | (refine nxt_s 1 rfl ?_; refine go_do (valid_store_p rfl rfl rfl rfl rfl rfl (by first | kernel_rfl | rfl) rfl) (by first | kernel_rfl | rfl) ?_)
              | refine go_do (valid_call rfl rfl rfl (h1) (by kernel_rfl)) rfl ?_
              | refine go_do (valid_call rfl rfl rfl (h2) (by kernel_rfl)) rfl ?_
              | refine go_do (valid_call rfl rfl rfl (h3) (by kernel_rfl)) rfl ?_
              | refine go_do (valid_call rfl rfl rfl (IH) (by kernel_rfl)) rfl ?_)
          | (refine hK _ ?_; clear hK K)
          | refine aw_text rfl ?_
          | refine aw_any (by kernel_rfl) (by kernel_rfl) rfl ?_
          | exact aw_ret (show resA _ _ _ = some _ by kernel_rfl)
          | refine aw_cond1 rfl rfl ?_
          | refine aw_seq_k (fun K hK => ?_))
      | false =>
        rw [reachN_no (fun _ => hlk) hw]
        rw [hlk] at h3
        rw [show spotR sz xs addr (t, ((l + 1 : Nat) : Int)) = spotC t ((l + 1 : Nat) : Int) (atM sz xs t (idx addr ((l + 1 : Nat) : Int))) from rfl]
        clear IH
        generalize atM sz xs t (idx addr ((l + 1 : Nat) : Int)) = q at *
        generalize idx addr ((l + 1 : Nat) : Int) = ix at *
        refine callOk_of 38 Tryz.func35 rfl rfl rfl rfl ?_ GG.to
        intro W A hG
        repeat (first
          | (refine go_at rfl ?_; first
              | refine go_do (valid_mv (.inl rfl) rfl) rfl ?_
              | (refine nxt_s 1 rfl ?_; refine go_do (valid_load_p tb rfl rfl rfl rfl rfl (by first | kernel_rfl | rfl)) (by first | kernel_rfl | rfl) ?_)
              | refine go_do (valid_pick rfl rfl rfl) rfl ?_
              | refine go_do (valid_cmp rfl rfl rfl rfl (by first | exact .eql1 (by omega) | exact .eql0 (by omega) | exact .neq1 (by omega) | exact .neq0 (by omega) | exact .lss1 (by omega) | exact .lss0 (by omega) | exact .leq1 (by omega) | exact .leq0 (by omega) | exact .gtr1 (by omega) | exact .gtr0 (by omega) | exact .geq1 (by omega) | exact .geq0 (by omega) | constructor)) rfl ?_
              | refine go_do (valid_box rfl rfl rfl rfl rfl rfl) rfl ?_
              | refine go_do (valid_alloc rfl rfl rfl rfl rfl) rfl ?_
              | (refine nxt_s 1 rfl ?_; refine go_do (valid_store_p rfl rfl rfl rfl rfl rfl (by first | kernel_rfl | rfl) rfl) (by first | kernel_rfl | rfl) ?_)
              | refine go_do (valid_build rfl rfl rfl rfl) rfl ?_
              | refine go_do (valid_call rfl rfl rfl (h1) (by kernel_rfl)) rfl ?_
              | refine go_do (valid_call rfl rfl rfl (h2) (by kernel_rfl)) rfl ?_
              | refine go_do (valid_call rfl rfl rfl (h3) (by kernel_rfl)) rfl ?_)
          | (refine hK _ ?_; clear hK K)
          | refine aw_text rfl ?_
          | refine aw_any (by kernel_rfl) (by kernel_rfl) rfl ?_
          | exact aw_ret (show resA _ _ _ = some _ by kernel_rfl)
          | refine aw_cond0 rfl rfl ?_
          | refine aw_skip ?_
          | refine aw_seq_k (fun K hK => ?_))
    · rw [reachN_no (fun hh => absurd hh hlt) hw]
      rw [show spotR sz xs addr (t, ((l + 1 : Nat) : Int)) = spotC t ((l + 1 : Nat) : Int) (atM sz xs t (idx addr ((l + 1 : Nat) : Int))) from rfl]
      clear IH
      generalize atM sz xs t (idx addr ((l + 1 : Nat) : Int)) = q at *
      generalize idx addr ((l + 1 : Nat) : Int) = ix at *
      refine callOk_of 38 Tryz.func35 rfl rfl rfl rfl ?_ GG.to
      intro W A hG
      repeat (first
        | (refine go_at rfl ?_; first
            | refine go_do (valid_skip rfl) rfl ?_
            | refine go_do (valid_mv (.inl rfl) rfl) rfl ?_
            | (refine nxt_s 1 rfl ?_; refine go_do (valid_load_p tb rfl rfl rfl rfl rfl (by first | kernel_rfl | rfl)) (by first | kernel_rfl | rfl) ?_)
            | refine go_do (valid_pick rfl rfl rfl) rfl ?_
            | refine go_do (valid_cmp rfl rfl rfl rfl (by first | exact .eql1 (by omega) | exact .eql0 (by omega) | exact .neq1 (by omega) | exact .neq0 (by omega) | exact .lss1 (by omega) | exact .lss0 (by omega) | exact .leq1 (by omega) | exact .leq0 (by omega) | exact .gtr1 (by omega) | exact .gtr0 (by omega) | exact .geq1 (by omega) | exact .geq0 (by omega) | constructor)) rfl ?_
            | refine go_do (valid_box rfl rfl rfl rfl rfl rfl) rfl ?_
            | refine go_do (valid_alloc rfl rfl rfl rfl rfl) rfl ?_
            | (refine nxt_s 1 rfl ?_; refine go_do (valid_store_p rfl rfl rfl rfl rfl rfl (by first | kernel_rfl | rfl) rfl) (by first | kernel_rfl | rfl) ?_)
            | refine go_do (valid_build rfl rfl rfl rfl) rfl ?_
            | refine go_do (valid_call rfl rfl rfl (h1) (by kernel_rfl)) rfl ?_
            | refine go_do (valid_call rfl rfl rfl (h2) (by kernel_rfl)) rfl ?_)
        | (refine hK _ ?_; clear hK K)
        | refine aw_text rfl ?_
        | refine aw_any (by kernel_rfl) (by kernel_rfl) rfl ?_
        | exact aw_ret (show resA _ _ _ = some _ by kernel_rfl)
        | refine aw_cond0 rfl rfl ?_
        | refine aw_skip ?_
        | refine aw_seq_k (fun K hK => ?_))
/-- where the loop of the document's Down stands -/
def rdnH (sz cd cp addr want : Int) (xs0 : List (Int × Int)) (f0 : Int) (xs : List (Int × Int)) (f t : Int) (l : Nat) : St := St.of [(4, .m (iu addr)), (5, .m (ii want)), (6, .m (.c (.p 6 0))), (7, .m (.c (.p 7 0))), (12, .m (.c (.p 12 0))), (13, .m (.c (.p 13 0))), (14, .m (.c (.p 14 0))), (15, .m (ii 0)), (16, .m (.c (.p 16 0))), (17, .m (.c (.p 17 0))), (18, .m (iu t)), (19, .m (ii l))]
  [(6, .live (.box [cu sz, .s xs0.length 2 (fl xs0)])), (7, .live (.box [cu cd, ci cp, cu f0])), (12, .live (.box [cu 0, .v (.slice none 0 0)])), (13, .live (.box [cu 0, ci 0, cu 0])), (14, .live (.box (spotC 0 0 zP))), (16, .live (.box [cu sz, .s xs.length 2 (fl xs)])), (17, .live (.box [cu cd, ci cp, cu f]))]
theorem ii_sub (m : Nat) : AV.m (ii (((m + 1 : Nat) : Int) - 1)) = AV.m (ii (m : Int)) := by rw [show ((m + 1 : Nat) : Int) - 1 = (m : Int) by omega]
theorem lnk_may {n : Int} (h : 0 ≤ n ∧ n < 17592186044416) : mayP (lnk n) = true := by rw [mayP_iff]; unfold lnk; simp; omega
theorem rdown_ok (cd cp sz top addr want : Int) (lv : Nat) (xs0 : List (Int × Int)) (f0 : Int) (h : GM cd cp sz xs0 f0) (ht : Al cd cp f0 top) (ha : U addr) (hl : lv ≤ 2) (hw : 0 ≤ want) (hwl : want ≤ (lv : Int)) (hn : xs0.length ≤ 100000)
    (D : List (Int × Int) × Int × Int × Int) (hD : D = dnN sz cd addr want lv xs0 f0 top) :
    Ok 36 [memA sz xs0, .ag [cu cd, ci cp, cu f0], iu top, ii lv, iu addr, ii want]
      (.tu (if D.2.2.2 = 0 then [memA sz D.1, .ag [cu cd, ci cp, cu D.2.1], .ag (spotR sz D.1 addr (D.2.2.1, want)), ii 0] else [memA sz xs0, .ag [cu cd, ci cp, cu f0], .ag (spotC 0 0 zP), ii D.2.2.2])) := by
  have hcd := h.bd
  have hcp := h.bp
  obtain ⟨R, hR⟩ : ∃ R, R = (if D.2.2.2 = 0 then [memA sz D.1, .ag [cu cd, ci cp, cu D.2.1], .ag (spotR sz D.1 addr (D.2.2.1, want)), ii 0] else [memA sz xs0, .ag [cu cd, ci cp, cu f0], .ag (spotC 0 0 zP), ii D.2.2.2]) := ⟨_, rfl⟩
  rw [← hR]
  have hcl : (closedV (.tu R) && [memA sz xs0, .ag [cu cd, ci cp, cu f0], iu top, ii lv, iu addr, ii want].all closedM) = true := by
    rw [hR]; split <;> rfl
  refine callOk_of 91 Tryz.func36 rfl hcl rfl rfl ?_ GG.to
  intro W A hG
  repeat (first
    | (refine go_at rfl ?_; first
        | refine go_do (valid_mv (.inl rfl) rfl) rfl ?_
        | (refine nxt_s 1 rfl ?_; refine go_do (valid_load_p tb rfl rfl rfl rfl rfl (by first | kernel_rfl | rfl)) (by first | kernel_rfl | rfl) ?_)
        | refine go_do (valid_mv (.inr rfl) rfl) rfl ?_
        | refine go_do (valid_box rfl rfl rfl rfl rfl rfl) rfl ?_
        | refine go_do (valid_alloc rfl rfl rfl rfl rfl) rfl ?_
        | (refine nxt_s 1 rfl ?_; refine go_do (valid_store_p rfl rfl rfl rfl rfl rfl (by first | kernel_rfl | rfl) rfl) (by first | kernel_rfl | rfl) ?_))
    | (refine hK _ ?_; clear hK K)
    | refine aw_text rfl ?_
    | refine aw_block ?_
    | refine aw_seq_k (fun K hK => ?_))
  refine aw_loopH (α := List (Int × Int) × Int × Nat × Int) (fun q => GM cd cp sz q.1 q.2.1 ∧ q.2.2.1 ≤ 2 ∧ want ≤ (q.2.2.1 : Int) ∧ Al cd cp q.2.1 q.2.2.2 ∧ q.1.length + q.2.2.1 ≤ 100002 ∧ dnN sz cd addr want q.2.2.1 q.1 q.2.1 q.2.2.2 = D)
    (fun q => rdnH sz cd cp addr want xs0 f0 q.1 q.2.1 q.2.2.2 q.2.2.1) (fun q => q.2.2.1) (xs0, f0, lv, top) ⟨h, hl, hwl, ht, by show xs0.length + lv ≤ _; omega, hD.symm⟩ (sub_of _ _ ⟨by kernel_rfl, by kernel_rfl, by kernel_rfl, by kernel_rfl, by kernel_rfl, by kernel_rfl, by kernel_rfl, by kernel_rfl, by kernel_rfl, by kernel_rfl, by kernel_rfl, by kernel_rfl, trivial⟩ ⟨by kernel_rfl, by kernel_rfl, by kernel_rfl, by kernel_rfl, by kernel_rfl, by kernel_rfl, by kernel_rfl, trivial⟩ (by kernel_rfl)) ?_
  rintro ⟨xs, f, l, t⟩ ⟨x1, x2, x3, x4, x5, x6⟩
  have g1 : GM cd cp sz xs f := x1
  have g2 : l ≤ 2 := x2
  have g3 : want ≤ (l : Int) := x3
  have g4 : Al cd cp f t := x4
  have g5 : xs.length + l ≤ 100002 := x5
  have g6 : dnN sz cd addr want l xs f t = D := x6
  show Aw _ _ _ _ (rdnH sz cd cp addr want xs0 f0 xs f t l)
  unfold rdnH
  have ub := g1.u
  have bt := g4.1
  by_cases c1 : (l : Int) = want
  · have e : D = (xs, f, t, 0) := by
      rw [← g6]
      cases l with
      | zero => rfl
      | succ m => unfold dnN; rw [if_pos (by omega)]
    subst e
    have hR : R = [memA sz xs, .ag [cu cd, ci cp, cu f], .ag (spotC t want (atM sz xs t (idx addr want))), ii 0] := hR
    have h1 := ridx_ok addr want ha (by omega) (by omega)
    have h2 := rat2_ok sz xs t (idx addr want) ⟨by omega, by omega⟩ (idx_bd addr want) g1.s ub (by omega)
    generalize atM sz xs t (idx addr want) = q at *
    generalize idx addr want = ix at *
    subst hR
    repeat (first
      | (refine go_at rfl ?_; first
          | refine go_do (valid_mv (.inl rfl) rfl) rfl ?_
          | (refine nxt_s 1 rfl ?_; refine go_do (valid_load_p tb rfl rfl rfl rfl rfl (by first | kernel_rfl | rfl)) (by first | kernel_rfl | rfl) ?_)
          | refine go_do (valid_mv (.inr rfl) rfl) rfl ?_
          | refine go_do (valid_cmp rfl rfl rfl rfl (by first | exact .eql1 (by omega) | exact .eql0 (by omega) | exact .neq1 (by omega) | exact .neq0 (by omega) | exact .lss1 (by omega) | exact .lss0 (by omega) | exact .leq1 (by omega) | exact .leq0 (by omega) | exact .gtr1 (by omega) | exact .gtr0 (by omega) | exact .geq1 (by omega) | exact .geq0 (by omega) | constructor)) rfl ?_
          | (refine nxt_s 1 rfl ?_; refine go_do (valid_store_p rfl rfl rfl rfl rfl rfl (by first | kernel_rfl | rfl) rfl) (by first | kernel_rfl | rfl) ?_)
          | refine go_do (valid_build rfl rfl rfl rfl) rfl ?_
          | refine go_do (valid_call rfl rfl rfl (h1) (by kernel_rfl)) rfl ?_
          | refine go_do (valid_call rfl rfl rfl (h2) (by kernel_rfl)) rfl ?_)
      | (refine hK _ ?_; clear hK K)
      | (rename_i K1 hK1; refine hK1 _ ?_; clear hK hK1; clear K)
      | refine aw_text rfl ?_
      | refine aw_any (by kernel_rfl) (by kernel_rfl) rfl ?_
      | exact aw_ret (show resA _ _ _ = some _ by kernel_rfl)
      | refine aw_cond0 rfl rfl ?_
      | refine aw_exit ?_
      | refine aw_seq_k (fun K hK => ?_))
  · obtain ⟨m, rfl⟩ : ∃ m : Nat, l = m + 1 := ⟨l - 1, by omega⟩
    have hi := idx_bd addr ((m + 1 : Nat) : Int)
    have h1 := ridx_ok addr ((m + 1 : Nat) : Int) ha (by omega) (by omega)
    have h2 := rat2_ok sz xs t (idx addr ((m + 1 : Nat) : Int)) ⟨by omega, by omega⟩ hi g1.s ub (by omega)
    have h3 := rleaf_ok (atM sz xs t (idx addr ((m + 1 : Nat) : Int)))
    have hk := EOk.kinds (g1.at t (idx addr ((m + 1 : Nat) : Int))) (l := ((m + 1 : Nat) : Int)) (by omega)
    unfold dnN at g6
    rw [if_neg (by omega)] at g6
    cases hlf : leafP (atM sz xs t (idx addr ((m + 1 : Nat) : Int))) with
    | true =>
      rw [hlf, if_pos rfl] at g6
      rw [hlf] at h3
      subst g6
      have hR : R = [memA sz xs0, .ag [cu cd, ci cp, cu f0], .ag (spotC 0 0 zP), ii 6] := hR
      subst hR
      generalize atM sz xs t (idx addr ((m + 1 : Nat) : Int)) = q at *
      generalize idx addr ((m + 1 : Nat) : Int) = ix at *
      repeat (first
        | (refine go_at rfl ?_; first
            | refine go_do (valid_mv (.inl rfl) rfl) rfl ?_
            | (refine nxt_s 1 rfl ?_; refine go_do (valid_load_p tb rfl rfl rfl rfl rfl (by first | kernel_rfl | rfl)) (by first | kernel_rfl | rfl) ?_)
            | (refine nxt_s 1 rfl ?_; refine go_do (valid_fld_p tb rfl rfl rfl (by kernel_rfl)) rfl ?_)
            | refine go_do (valid_mv (.inr rfl) rfl) rfl ?_
            | refine go_do (valid_cmp rfl rfl rfl rfl (by first | exact .eql1 (by omega) | exact .eql0 (by omega) | exact .neq1 (by omega) | exact .neq0 (by omega) | exact .lss1 (by omega) | exact .lss0 (by omega) | exact .leq1 (by omega) | exact .leq0 (by omega) | exact .gtr1 (by omega) | exact .gtr0 (by omega) | exact .geq1 (by omega) | exact .geq0 (by omega) | constructor)) rfl ?_
            | refine go_do (valid_alloc rfl rfl rfl rfl rfl) rfl ?_
            | (refine nxt_s 1 rfl ?_; refine go_do (valid_store_p rfl rfl rfl rfl rfl rfl (by first | kernel_rfl | rfl) rfl) (by first | kernel_rfl | rfl) ?_)
            | refine go_do (valid_build rfl rfl rfl rfl) rfl ?_
            | refine go_do (valid_call rfl rfl rfl (h1) (by kernel_rfl)) rfl ?_
            | refine go_do (valid_call rfl rfl rfl (h2) (by kernel_rfl)) rfl ?_
            | refine go_do (valid_call rfl rfl rfl (h3) (by kernel_rfl)) rfl ?_)
        | (refine hK _ ?_; clear hK K)
        | refine aw_text rfl ?_
        | refine aw_any (by kernel_rfl) (by kernel_rfl) rfl ?_
        | exact aw_ret (show resA _ _ _ = some _ by kernel_rfl)
        | refine aw_cond1 rfl rfl ?_
        | refine aw_block ?_
        | refine aw_skip ?_
        | refine aw_seq_k (fun K hK => ?_))
    | false =>
      rw [hlf, if_neg (by simp)] at g6
      rw [hlf] at h3
      cases hv : (atM sz xs t (idx addr ((m + 1 : Nat) : Int))).v with
      | true =>
        rw [hv, if_pos rfl] at g6
        have ha5 : Al cd cp f (atM sz xs t (idx addr ((m + 1 : Nat) : Int))).ppn := by
          rcases hk with ⟨k1, _⟩ | ⟨_, k2, _⟩ | ⟨_, _, _, _, k5⟩
          · rw [k1] at hv; cases hv
          · rw [k2] at hlf; cases hlf
          · exact k5
        clear hk
        generalize atM sz xs t (idx addr ((m + 1 : Nat) : Int)) = q at *
        generalize idx addr ((m + 1 : Nat) : Int) = ix at *
        obtain ⟨q0, q1, q2, q3, q4, q5, q6, q7, q8, q9, q10⟩ := q
        have hv : q0 = true := hv
        subst hv
        repeat (first
          | (refine go_at rfl ?_; first
              | refine go_do (valid_mv (.inl rfl) rfl) rfl ?_
              | (refine nxt_s 1 rfl ?_; refine go_do (valid_load_p tb rfl rfl rfl rfl rfl (by first | kernel_rfl | rfl)) (by first | kernel_rfl | rfl) ?_)
              | (refine nxt_s 1 rfl ?_; refine go_do (valid_fld_p tb rfl rfl rfl (by kernel_rfl)) rfl ?_)
              | refine go_do (valid_mv (.inr rfl) rfl) rfl ?_
              | refine go_do (valid_cmp rfl rfl rfl rfl (by first | exact .eql1 (by omega) | exact .eql0 (by omega) | exact .neq1 (by omega) | exact .neq0 (by omega) | exact .lss1 (by omega) | exact .lss0 (by omega) | exact .leq1 (by omega) | exact .leq0 (by omega) | exact .gtr1 (by omega) | exact .gtr0 (by omega) | exact .geq1 (by omega) | exact .geq0 (by omega) | constructor)) rfl ?_
              | refine go_do (valid_ar rfl rfl rfl rfl (by constructor) (by first | exact wr_u64 (by omega) (by omega) | exact wr_i64 (by omega) (by omega) | rfl)) rfl ?_
              | refine go_do (valid_alloc rfl rfl rfl rfl rfl) rfl ?_
              | (refine nxt_s 1 rfl ?_; refine go_do (valid_store_p rfl rfl rfl rfl rfl rfl (by first | kernel_rfl | rfl) rfl) (by first | kernel_rfl | rfl) ?_)
              | refine go_do (valid_not rfl rfl rfl) rfl ?_
              | refine go_do (valid_build rfl rfl rfl rfl) rfl ?_
              | refine go_do (valid_call rfl rfl rfl (h1) (by kernel_rfl)) rfl ?_
              | refine go_do (valid_call rfl rfl rfl (h2) (by kernel_rfl)) rfl ?_
              | refine go_do (valid_call rfl rfl rfl (h3) (by kernel_rfl)) rfl ?_)
          | (refine hK _ ?_; clear hK K)
          | refine aw_text rfl ?_
          | refine aw_any (by kernel_rfl) (by kernel_rfl) rfl ?_
          | refine aw_cond1 rfl rfl ?_
          | refine aw_cond0 rfl rfl ?_
          | refine aw_block ?_
          | refine aw_skip ?_
          | refine aw_seq_k (fun K hK => ?_))
        exact ⟨(xs, f, m, q9), ⟨g1, by show m ≤ 2; omega, by show want ≤ (m : Int); omega, ha5, by show xs.length + m ≤ 100002; omega, g6⟩, by show m < m + 1; omega, sub_of _ _ ⟨by kernel_rfl, by kernel_rfl, by kernel_rfl, by kernel_rfl, by kernel_rfl, by kernel_rfl, by kernel_rfl, by kernel_rfl, by kernel_rfl, by kernel_rfl, by kernel_rfl, ii_sub m, trivial⟩ ⟨by kernel_rfl, by kernel_rfl, by kernel_rfl, by kernel_rfl, by kernel_rfl, by kernel_rfl, by kernel_rfl, trivial⟩ (by kernel_rfl)⟩
      | false =>
        rw [hv, if_neg (by simp)] at g6
        by_cases c4 : f = 0
        · rw [if_pos c4] at g6
          subst g6
          have hR : R = [memA sz xs0, .ag [cu cd, ci cp, cu f0], .ag (spotC 0 0 zP), ii 8] := hR
          subst hR
          subst c4
          have hf := rfresh_no sz xs cd cp (by omega)
          clear hk
          generalize atM sz xs t (idx addr ((m + 1 : Nat) : Int)) = q at *
          generalize idx addr ((m + 1 : Nat) : Int) = ix at *
          obtain ⟨q0, q1, q2, q3, q4, q5, q6, q7, q8, q9, q10⟩ := q
          have hv : q0 = false := hv
          subst hv
          repeat (first
            | (refine go_at rfl ?_; first
                | refine go_do (valid_mv (.inl rfl) rfl) rfl ?_
                | (refine nxt_s 1 rfl ?_; refine go_do (valid_load_p tb rfl rfl rfl rfl rfl (by first | kernel_rfl | rfl)) (by first | kernel_rfl | rfl) ?_)
                | (refine nxt_s 1 rfl ?_; refine go_do (valid_fld_p tb rfl rfl rfl (by kernel_rfl)) rfl ?_)
                | refine go_do (valid_mv (.inr rfl) rfl) rfl ?_
                | refine go_do (valid_extract rfl rfl rfl rfl) rfl ?_
                | refine go_do (valid_cmp rfl rfl rfl rfl (by first | exact .eql1 (by omega) | exact .eql0 (by omega) | exact .neq1 (by omega) | exact .neq0 (by omega) | exact .lss1 (by omega) | exact .lss0 (by omega) | exact .leq1 (by omega) | exact .leq0 (by omega) | exact .gtr1 (by omega) | exact .gtr0 (by omega) | exact .geq1 (by omega) | exact .geq0 (by omega) | constructor)) rfl ?_
                | refine go_do (valid_alloc rfl rfl rfl rfl rfl) rfl ?_
                | (refine nxt_s 1 rfl ?_; refine go_do (valid_store_p rfl rfl rfl rfl rfl rfl (by first | kernel_rfl | rfl) rfl) (by first | kernel_rfl | rfl) ?_)
                | refine go_do (valid_not rfl rfl rfl) rfl ?_
                | refine go_do (valid_build rfl rfl rfl rfl) rfl ?_
                | refine go_do (valid_call rfl rfl rfl (h1) (by kernel_rfl)) rfl ?_
                | refine go_do (valid_call rfl rfl rfl (h2) (by kernel_rfl)) rfl ?_
                | refine go_do (valid_call rfl rfl rfl (h3) (by kernel_rfl)) rfl ?_
                | refine go_do (valid_call rfl rfl rfl (hf) (by kernel_rfl)) rfl ?_)
            | (refine hK _ ?_; clear hK K)
            | refine aw_text rfl ?_
            | refine aw_any (by kernel_rfl) (by kernel_rfl) rfl ?_
            | exact aw_ret (show resA _ _ _ = some _ by kernel_rfl)
            | refine aw_cond1 rfl rfl ?_
            | refine aw_cond0 rfl rfl ?_
            | refine aw_block ?_
            | refine aw_skip ?_
            | refine aw_seq_k (fun K hK => ?_))
        · rw [if_neg c4] at g6
          have hf := rfresh_ok sz xs cd cp f (by omega) (by omega) g1.bf c4 g1.s (by omega) (fun c hc => by have := (ub c hc).1; have := (g1.c c hc).1.1; omega)
          rw [g1.wipe c4] at hf
          obtain ⟨a1, a2⟩ := g1.al c4
          have hfr : 0 ≤ cd + tzI f ∧ cd + tzI f < 17592186044416 := by omega
          have hwt := rwith_ok sz xs t ((m + 1 : Nat) : Int) (lnk (cd + tzI f)) addr (lnk (cd + tzI f)) ha (lnk_U hfr) (lnk_may hfr) (by omega) (by omega) (by omega) g1.s (by omega)
          rw [← g1.with g4 hi (lnk_U hfr)] at hwt
          have hgm := g1.hang c4 g4 hi
          have hln2 := with_len sz xs t (idx addr ((m + 1 : Nat) : Int)) (lnk (cd + tzI f))
          clear hk
          generalize withM sz xs t (idx addr ((m + 1 : Nat) : Int)) (lnk (cd + tzI f)) = xs2 at *
          generalize atM sz xs t (idx addr ((m + 1 : Nat) : Int)) = q at *
          generalize idx addr ((m + 1 : Nat) : Int) = ix at *
          obtain ⟨q0, q1, q2, q3, q4, q5, q6, q7, q8, q9, q10⟩ := q
          have hv : q0 = false := hv
          subst hv
          repeat (first
            | (refine go_at rfl ?_; first
                | refine go_do (valid_mv (.inl rfl) rfl) rfl ?_
                | (refine nxt_s 1 rfl ?_; refine go_do (valid_load_p tb rfl rfl rfl rfl rfl (by first | kernel_rfl | rfl)) (by first | kernel_rfl | rfl) ?_)
                | (refine nxt_s 1 rfl ?_; refine go_do (valid_fld_p tb rfl rfl rfl (by kernel_rfl)) rfl ?_)
                | refine go_do (valid_mv (.inr rfl) rfl) rfl ?_
                | refine go_do (valid_extract rfl rfl rfl rfl) rfl ?_
                | refine go_do (valid_cmp rfl rfl rfl rfl (by first | exact .eql1 (by omega) | exact .eql0 (by omega) | exact .neq1 (by omega) | exact .neq0 (by omega) | exact .lss1 (by omega) | exact .lss0 (by omega) | exact .leq1 (by omega) | exact .leq0 (by omega) | exact .gtr1 (by omega) | exact .gtr0 (by omega) | exact .geq1 (by omega) | exact .geq0 (by omega) | constructor)) rfl ?_
                | refine go_do (valid_ar rfl rfl rfl rfl (by constructor) (by first | exact wr_u64 (by omega) (by omega) | exact wr_i64 (by omega) (by omega) | rfl)) rfl ?_
                | refine go_do (valid_alloc rfl rfl rfl rfl rfl) rfl ?_
                | (refine nxt_s 1 rfl ?_; refine go_do (valid_store_p rfl rfl rfl rfl rfl rfl (by first | kernel_rfl | rfl) rfl) (by first | kernel_rfl | rfl) ?_)
                | refine go_do (valid_not rfl rfl rfl) rfl ?_
                | refine go_do (valid_build rfl rfl rfl rfl) rfl ?_
                | refine go_do (valid_call rfl rfl rfl (h1) (by kernel_rfl)) rfl ?_
                | refine go_do (valid_call rfl rfl rfl (h2) (by kernel_rfl)) rfl ?_
                | refine go_do (valid_call rfl rfl rfl (h3) (by kernel_rfl)) rfl ?_
                | refine go_do (valid_call rfl rfl rfl (hf) (by kernel_rfl)) rfl ?_
                | refine go_do (valid_call rfl rfl rfl (hwt) (by kernel_rfl)) rfl ?_)
            | (refine hK _ ?_; clear hK K)
            | refine aw_text rfl ?_
            | refine aw_any (by kernel_rfl) (by kernel_rfl) rfl ?_
            | refine aw_cond1 rfl rfl ?_
            | refine aw_cond0 rfl rfl ?_
            | refine aw_block ?_
            | refine aw_skip ?_
            | refine aw_seq_k (fun K hK => ?_))
          exact ⟨(xs2, setI f (tzI f) 1 0, m, cd + tzI f), ⟨hgm, by show m ≤ 2; omega, by show want ≤ (m : Int); omega, a1, by show xs2.length + m ≤ 100002; omega, g6⟩, by show m < m + 1; omega, sub_of _ _ ⟨by kernel_rfl, by kernel_rfl, by kernel_rfl, by kernel_rfl, by kernel_rfl, by kernel_rfl, by kernel_rfl, by kernel_rfl, by kernel_rfl, by kernel_rfl, by kernel_rfl, ii_sub m, trivial⟩ ⟨by kernel_rfl, by kernel_rfl, by kernel_rfl, by kernel_rfl, by kernel_rfl, by kernel_rfl, by kernel_rfl, trivial⟩ (by kernel_rfl)⟩
end Go.Proofs.YtmoccajgjnjelaaGreatDoor.RlA
/- The abstract walk: the document's Pages, and whether pages are the same. -/
namespace Go.Proofs.YtmoccajgjnjelaaGreatDoor.RlB
open Go.RowKit Go.Proofs.YtmoccajgjnjelaaGreatDoor.Bv Go.Proofs.YtmoccajgjnjelaaGreatDoor.VaSpec Go.Proofs.YtmoccajgjnjelaaGreatDoor.Base Go.Proofs.YtmoccajgjnjelaaGreatDoor.MemL Go.Proofs.YtmoccajgjnjelaaGreatDoor.RegR Go.Proofs.YtmoccajgjnjelaaGreatDoor.Ax Go.Proofs.YtmoccajgjnjelaaGreatDoor.MemC Go.Proofs.YtmoccajgjnjelaaGreatDoor.PutC Go.Proofs.YtmoccajgjnjelaaGreatDoor.MemC3 Go.Proofs.YtmoccajgjnjelaaGreatDoor.TzC Go.Proofs.YtmoccajgjnjelaaGreatDoor.OkS Go.Proofs.YtmoccajgjnjelaaGreatDoor.SpA Go.Proofs.YtmoccajgjnjelaaGreatDoor.SpB Go.Proofs.YtmoccajgjnjelaaGreatDoor.SpC Go.Proofs.YtmoccajgjnjelaaGreatDoor.SpD Go.Proofs.YtmoccajgjnjelaaGreatDoor.SpE Go.Proofs.YtmoccajgjnjelaaGreatDoor.SpF Go.Proofs.YtmoccajgjnjelaaGreatDoor.SpH Go.Proofs.YtmoccajgjnjelaaGreatDoor.SpI Go.Proofs.YtmoccajgjnjelaaGreatDoor.SpJ Go.Proofs.YtmoccajgjnjelaaGreatDoor.SpN Go.Proofs.YtmoccajgjnjelaaGreatDoor.SpO Go.Proofs.YtmoccajgjnjelaaGreatDoor.RfA Go.Proofs.YtmoccajgjnjelaaGreatDoor.RfB Go.Proofs.YtmoccajgjnjelaaGreatDoor.RfC Go.Proofs.YtmoccajgjnjelaaGreatDoor.RfD Go.Proofs.YtmoccajgjnjelaaGreatDoor.LaA Go.Proofs.YtmoccajgjnjelaaGreatDoor.LaB Go.Proofs.YtmoccajgjnjelaaGreatDoor.LaC Go.Proofs.YtmoccajgjnjelaaGreatDoor.LaD Go.Proofs.YtmoccajgjnjelaaGreatDoor.LaE Go.Proofs.YtmoccajgjnjelaaGreatDoor.RlA
open Go.Proofs.YtmoccajgjnjelaaGreatDoor.BitsC Go.Proofs.YtmoccajgjnjelaaGreatDoor.PteSpec
set_option linter.unusedVariables false
set_option linter.unusedSimpArgs false
set_option maxRecDepth 10000
set_option maxHeartbeats 1000000
def rpgH (sz : Int) (xs : List (Int × Int)) (top lv base : Int) (i n : Nat) (vs : List Value) : St := St.of [(1, .m (iu top)), (2, .m (ii lv)), (3, .m (iu base)), (4, .m (.c (.p 4 0))), (8, .m (.c (.v (.slice none 0 0)))), (9, .m (.c (.o 1000))), (10, .m (ii i))] [(4, .live (.box [cu sz, .s xs.length 2 (fl xs)])), (1000, .live (.row 65 8 n vs))]
theorem fold_rg {α : Type} (E : Nat → List α) (i : Nat) : (List.range (i + 1)).flatMap E = (List.range i).flatMap E ++ E i := by
  rw [List.range_succ, List.flatMap_append]; simp
theorem rpages_ok0 (sz : Int) (xs : List (Int × Int)) (top base lv : Int) (rec : Int → Int → List Pg) (ht : 0 ≤ top ∧ top < 17592186044416) (hb : U base) (h0 : 0 ≤ lv) (h2 : lv ≤ 2) (hs : Srt xs) (hu : Uw xs) (hn : xs.length ≤ 1000000) (hrec : ∀ t a, (rec t a).length ≤ 262144)
    (hIH : 1 ≤ lv → ∀ t a, (0 ≤ t ∧ t < 17592186044416) → U a → Ok 44 [memA sz xs, iu t, ii (lv - 1), iu a] (.m (.c (.s (rec t a).length 8 (flP (rec t a))))))
    (L : List Pg) (hL : L = (List.range 512).flatMap fun (i : Nat) => entP rec (atM sz xs top i) lv (adr base i lv)) :
    Ok 44 [memA sz xs, iu top, ii lv, iu base] (.m (.c (.s L.length 8 (flP L)))) := by
  have hz := szv_bd lv h0 h2
  obtain ⟨N, hN⟩ : ∃ N, N = L.length := ⟨_, rfl⟩
  obtain ⟨XS, hXS⟩ : ∃ XS, XS = flP L := ⟨_, rfl⟩
  rw [← hN, ← hXS]
  obtain ⟨E, hE0⟩ : ∃ E : Nat → List Pg, E = fun (i : Nat) => entP rec (atM sz xs top i) lv (adr base i lv) := ⟨_, rfl⟩
  rw [← hE0] at hL
  have hEl : ∀ i, (E i).length ≤ 262144 := fun i => by rw [hE0]; exact entP_bd hrec _ _ _
  refine callOk_of 58 Tryz.func44 rfl rfl rfl rfl ?_ GG.to
  intro W A hG
  repeat (first
    | (refine go_at rfl ?_; first
        | refine go_do (valid_mv (.inr rfl) rfl) rfl ?_
        | refine go_do (valid_box rfl rfl rfl rfl rfl rfl) rfl ?_)
    | (refine hK _ ?_; clear hK K)
    | refine aw_text rfl ?_
    | refine aw_block ?_
    | refine aw_seq_k (fun K hK => ?_))
  refine aw_loopH (α := Nat × Nat × List Value) (fun q => q.1 ≤ 512 ∧ q.2.1 = ((List.range q.1).flatMap E).length ∧ q.2.2 = flP ((List.range q.1).flatMap E) ∧ q.2.1 ≤ q.1 * 262144) (fun q => rpgH sz xs top lv base q.1 q.2.1 q.2.2) (fun q => 512 - q.1) (0, 0, []) ⟨by show 0 ≤ 512; omega, rfl, rfl, by show 0 ≤ 0 * 262144; omega⟩ (Sub.trans (sub_nil 9 1000 65 8 rfl rfl) (sub_of _ _ ⟨by kernel_rfl, by kernel_rfl, by kernel_rfl, by kernel_rfl, by kernel_rfl, by kernel_rfl, by kernel_rfl, trivial⟩ ⟨by kernel_rfl, by kernel_rfl, trivial⟩ (by kernel_rfl))) ?_
  rintro ⟨i, n, vs⟩ ⟨y1, y2, y3, y4⟩
  have g1 : i ≤ 512 := y1
  have g2 : n = ((List.range i).flatMap E).length := y2
  have g3 : vs = flP ((List.range i).flatMap E) := y3
  have g4 : n ≤ i * 262144 := y4
  show Aw _ _ _ _ (rpgH sz xs top lv base i n vs)
  unfold rpgH
  by_cases hlt : i < 512
  · have h1 := rat2_ok sz xs top i ht ⟨by omega, by omega⟩ hs hu hn
    have h3 := rsize_ok lv h0 h2
    have hU := atM_U hu sz top (i : Int)
    have hp := atM_ppn (xs := xs) sz top (i : Int)
    have hA := adr_U base i lv
    have hNu := num_U hA
    have hEi : E i = entP rec (atM sz xs top i) lv (adr base i lv) := by rw [hE0]
    have hn1 : n + (E i).length = ((List.range (i + 1)).flatMap E).length := by rw [fold_rg, List.length_append, g2]
    have hv1 : vs ++ flP (E i) = flP ((List.range (i + 1)).flatMap E) := by rw [fold_rg, flP_app, g3]
    have hn2 : n + (E i).length ≤ (i + 1) * 262144 := by have := hEl i; rw [Nat.succ_mul]; omega
    have h4 := rbad_ok _ hU lv h0 h2
    have h5 := rleaf_ok (atM sz xs top (i : Int))
    have h6 := rperm_ok (atM sz xs top (i : Int))
    have h7 := rnum_ok _ hA
    have h8 := rof_ok _ hNu
    clear g2 g3 y2 y3 hL hE0 hEl
    generalize atM sz xs top (i : Int) = q at *
    cases hbad : badP q lv with
    | true =>
      have e : E i = [] := by rw [hEi]; unfold entP; rw [hbad]; rfl
      rw [hbad] at h4
      rw [e, show flP [] = [] from rfl, List.append_nil] at hv1
      rw [e, List.length_nil, Nat.add_zero] at hn1 hn2
      repeat (first
        | (refine go_at rfl ?_; first
            | refine go_do (valid_mv (.inl rfl) rfl) rfl ?_
            | (refine nxt_s 1 rfl ?_; refine go_do (valid_load_p tb rfl rfl rfl rfl rfl (by first | kernel_rfl | rfl)) (by first | kernel_rfl | rfl) ?_)
            | refine go_do (valid_mv (.inr rfl) rfl) rfl ?_
            | refine go_do (valid_cmp rfl rfl rfl rfl (by first | exact .eql1 (by omega) | exact .eql0 (by omega) | exact .neq1 (by omega) | exact .neq0 (by omega) | exact .lss1 (by omega) | exact .lss0 (by omega) | exact .leq1 (by omega) | exact .leq0 (by omega) | exact .gtr1 (by omega) | exact .gtr0 (by omega) | exact .geq1 (by omega) | exact .geq0 (by omega) | constructor)) rfl ?_
            | refine go_do (valid_ar rfl rfl rfl rfl (by constructor) (by first | exact wr_u64 (by omega) (by omega) | exact wr_i64 (by omega) (by omega) | rfl)) rfl ?_
            | refine go_do (valid_cv rfl rfl rfl rfl rfl (by first | exact wr_u64 (by omega) (by omega) | exact wr_i64 (by omega) (by omega) | rfl)) rfl ?_
            | refine go_do (valid_alloc rfl rfl rfl rfl rfl) rfl ?_
            | (refine nxt_s 1 rfl ?_; refine go_do (valid_store_p rfl rfl rfl rfl rfl rfl (by first | kernel_rfl | rfl) rfl) (by first | kernel_rfl | rfl) ?_)
            | refine go_do (valid_call rfl rfl rfl (h1) (by kernel_rfl)) rfl ?_
            | refine go_do (valid_call rfl rfl rfl (h3) (by kernel_rfl)) rfl ?_
            | refine go_do (valid_call rfl rfl rfl (h4) (by kernel_rfl)) rfl ?_)
        | (refine hK _ ?_; clear hK K)
        | (rename_i K1 hK1; refine hK1 _ ?_; clear hK hK1; clear K)
        | refine aw_text rfl ?_
        | refine aw_cond1 rfl rfl ?_
        | refine aw_block ?_
        | refine aw_exit ?_
        | refine aw_skip ?_
        | refine aw_seq_k (fun K hK => ?_))
      exact ⟨(i + 1, n, vs), ⟨by show i + 1 ≤ 512; omega, hn1, hv1, hn2⟩, by show 512 - (i + 1) < 512 - i; omega, sub_of _ _ ⟨by kernel_rfl, by kernel_rfl, by kernel_rfl, by kernel_rfl, by kernel_rfl, by kernel_rfl, by kernel_rfl, trivial⟩ ⟨by kernel_rfl, by kernel_rfl, trivial⟩ (by kernel_rfl)⟩
    | false =>
      rw [hbad] at h4
      cases hleaf : leafP q with
      | true =>
        rw [hleaf] at h5
        have e : E i = [⟨ofv (num (adr base i lv)), 4096 * q.ppn, lv, q.r, q.w, q.x, q.u, q.d⟩] := by rw [hEi]; unfold entP pgOf; rw [hbad, hleaf, Int.mul_comm]; rfl
        rw [e, flP_one] at hv1
        rw [e, List.length_singleton] at hn1 hn2
        repeat (first
          | (refine go_at rfl ?_; first
              | refine go_do (valid_mv (.inl rfl) rfl) rfl ?_
              | (refine nxt_s 1 rfl ?_; refine go_do (valid_load_p tb rfl rfl rfl rfl rfl (by first | kernel_rfl | rfl)) (by first | kernel_rfl | rfl) ?_)
              | (refine nxt_s 1 rfl ?_; refine go_do (valid_fld_p tb rfl rfl rfl (by kernel_rfl)) rfl ?_)
              | refine go_do (valid_mv (.inr rfl) rfl) rfl ?_
              | refine go_do (valid_cmp rfl rfl rfl rfl (by first | exact .eql1 (by omega) | exact .eql0 (by omega) | exact .neq1 (by omega) | exact .neq0 (by omega) | exact .lss1 (by omega) | exact .lss0 (by omega) | exact .leq1 (by omega) | exact .leq0 (by omega) | exact .gtr1 (by omega) | exact .gtr0 (by omega) | exact .geq1 (by omega) | exact .geq0 (by omega) | constructor)) rfl ?_
              | refine go_do (valid_ar rfl rfl rfl rfl (by constructor) (by first | exact wr_u64 (by omega) (by omega) | exact wr_i64 (by omega) (by omega) | rfl)) rfl ?_
              | refine go_do (valid_cv rfl rfl rfl rfl rfl (by first | exact wr_u64 (by omega) (by omega) | exact wr_i64 (by omega) (by omega) | rfl)) rfl ?_
              | refine go_do (valid_alloc rfl rfl rfl rfl rfl) rfl ?_
              | (refine nxt_s 1 rfl ?_; refine go_do (valid_store_p rfl rfl rfl rfl rfl rfl (by first | kernel_rfl | rfl) rfl) (by first | kernel_rfl | rfl) ?_)
              | refine go_do (valid_build rfl rfl rfl rfl) rfl ?_
              | refine go_do (valid_bslice rfl rfl rfl rfl rfl rfl rfl rfl rfl rfl rfl) rfl ?_
              | refine go_do (valid_call rfl rfl rfl (h1) (by kernel_rfl)) rfl ?_
              | refine go_do (valid_call rfl rfl rfl (h3) (by kernel_rfl)) rfl ?_
              | refine go_do (valid_call rfl rfl rfl (h4) (by kernel_rfl)) rfl ?_
              | refine go_do (valid_call rfl rfl rfl (h5) (by kernel_rfl)) rfl ?_
              | refine go_do (valid_call rfl rfl rfl (h6) (by kernel_rfl)) rfl ?_
              | refine go_do (valid_call rfl rfl rfl (h7) (by kernel_rfl)) rfl ?_
              | refine go_do (valid_call rfl rfl rfl (h8) (by kernel_rfl)) rfl ?_)
          | (refine hK _ ?_; clear hK K)
          | refine aw_text rfl ?_
          | refine aw_any (by kernel_rfl) (by kernel_rfl) rfl ?_
          | refine aw_cond1 rfl rfl ?_
          | refine aw_cond0 rfl rfl ?_
          | refine aw_block ?_
          | refine aw_skip ?_
          | refine aw_seq_k (fun K hK => ?_))
        refine go_at rfl ?_
        refine go_do (valid_app rfl rfl rfl rfl rfl rfl rfl rfl rfl rfl rfl rfl rfl (by omega)) (by kernel_rfl) ?_
        repeat (first
          | (refine go_at rfl ?_; first
              | refine go_do (valid_mv (.inl rfl) rfl) rfl ?_
              | refine go_do (valid_mv (.inr rfl) rfl) rfl ?_
              | refine go_do (valid_ar rfl rfl rfl rfl (by constructor) (by first | exact wr_u64 (by omega) (by omega) | exact wr_i64 (by omega) (by omega) | rfl)) rfl ?_)
          | (refine hK _ ?_; clear hK K)
          | refine aw_text rfl ?_)
        exact ⟨(i + 1, n + 1, vs ++ (⟨ofv (num (adr base i lv)), 4096 * q.ppn, lv, q.r, q.w, q.x, q.u, q.d⟩ : Pg).vs), ⟨by show i + 1 ≤ 512; omega, hn1, hv1, hn2⟩, by show 512 - (i + 1) < 512 - i; omega, Sub.trans (sub_of [(1, .m (iu top)), (2, .m (ii lv)), (3, .m (iu base)), (4, .m (.c (.p 4 0))), (8, .m (.c (.v (.slice none 0 0)))), (9, .m (.c (.o 47))), (10, .m (ii ((i + 1 : Nat) : Int)))] [(4, .live (.box [cu sz, .s xs.length 2 (fl xs)])), (47, .live (.row 65 8 (n + 1) (vs ++ (⟨ofv (num (adr base i lv)), 4096 * q.ppn, lv, q.r, q.w, q.x, q.u, q.d⟩ : Pg).vs)))] ⟨by kernel_rfl, by kernel_rfl, by kernel_rfl, by kernel_rfl, by kernel_rfl, by kernel_rfl, by kernel_rfl, trivial⟩ ⟨by kernel_rfl, by kernel_rfl, trivial⟩ (by kernel_rfl)) (Sub.trans (sub_mv (b := 47) (b' := 1000) rfl rfl) (sub_of _ _ ⟨by kernel_rfl, by kernel_rfl, by kernel_rfl, by kernel_rfl, by kernel_rfl, by kernel_rfl, by kernel_rfl, trivial⟩ ⟨by kernel_rfl, by kernel_rfl, trivial⟩ (by kernel_rfl)))⟩
      | false =>
        rw [hleaf] at h5
        have hlv : 1 ≤ lv := by
          rcases (by omega : lv = 0 ∨ 1 ≤ lv) with rfl | h
          · rw [bad0_leaf hbad] at hleaf; cases hleaf
          · exact h
        have e : E i = rec q.ppn (adr base i lv) := by rw [hEi]; unfold entP; rw [hbad, hleaf]; rfl
        rw [e] at hn1 hn2 hv1
        have hi := hIH hlv q.ppn (adr base i lv) hp hA
        have hl := hrec q.ppn (adr base i lv)
        have ha := flP_all (rec q.ppn (adr base i lv))
        generalize rec q.ppn (adr base i lv) = ys at *
        repeat (first
          | (refine go_at rfl ?_; first
              | refine go_do (valid_mv (.inl rfl) rfl) rfl ?_
              | (refine nxt_s 1 rfl ?_; refine go_do (valid_load_p tb rfl rfl rfl rfl rfl (by first | kernel_rfl | rfl)) (by first | kernel_rfl | rfl) ?_)
              | (refine nxt_s 1 rfl ?_; refine go_do (valid_fld_p tb rfl rfl rfl (by kernel_rfl)) rfl ?_)
              | refine go_do (valid_mv (.inr rfl) rfl) rfl ?_
              | refine go_do (valid_cmp rfl rfl rfl rfl (by first | exact .eql1 (by omega) | exact .eql0 (by omega) | exact .neq1 (by omega) | exact .neq0 (by omega) | exact .lss1 (by omega) | exact .lss0 (by omega) | exact .leq1 (by omega) | exact .leq0 (by omega) | exact .gtr1 (by omega) | exact .gtr0 (by omega) | exact .geq1 (by omega) | exact .geq0 (by omega) | constructor)) rfl ?_
              | refine go_do (valid_ar rfl rfl rfl rfl (by constructor) (by first | exact wr_u64 (by omega) (by omega) | exact wr_i64 (by omega) (by omega) | rfl)) rfl ?_
              | refine go_do (valid_cv rfl rfl rfl rfl rfl (by first | exact wr_u64 (by omega) (by omega) | exact wr_i64 (by omega) (by omega) | rfl)) rfl ?_
              | refine go_do (valid_alloc rfl rfl rfl rfl rfl) rfl ?_
              | (refine nxt_s 1 rfl ?_; refine go_do (valid_store_p rfl rfl rfl rfl rfl rfl (by first | kernel_rfl | rfl) rfl) (by first | kernel_rfl | rfl) ?_)
              | refine go_do (valid_call rfl rfl rfl (h1) (by kernel_rfl)) rfl ?_
              | refine go_do (valid_call rfl rfl rfl (h3) (by kernel_rfl)) rfl ?_
              | refine go_do (valid_call rfl rfl rfl (h4) (by kernel_rfl)) rfl ?_
              | refine go_do (valid_call rfl rfl rfl (h5) (by kernel_rfl)) rfl ?_
              | refine go_do (valid_call rfl rfl rfl (hi) (by kernel_rfl)) rfl ?_
              | refine go_do (valid_app rfl rfl rfl rfl rfl rfl rfl rfl rfl rfl rfl rfl ha (by omega)) rfl ?_)
          | (refine hK _ ?_; clear hK K)
          | refine aw_text rfl ?_
          | refine aw_cond1 rfl rfl ?_
          | refine aw_cond0 rfl rfl ?_
          | refine aw_block ?_
          | refine aw_skip ?_
          | refine aw_seq_k (fun K hK => ?_))
        exact ⟨(i + 1, n + ys.length, vs ++ flP ys), ⟨by show i + 1 ≤ 512; omega, hn1, hv1, hn2⟩, by show 512 - (i + 1) < 512 - i; omega, Sub.trans (sub_of [(1, .m (iu top)), (2, .m (ii lv)), (3, .m (iu base)), (4, .m (.c (.p 4 0))), (8, .m (.c (.v (.slice none 0 0)))), (9, .m (.c (.o 56))), (10, .m (ii ((i + 1 : Nat) : Int)))] [(4, .live (.box [cu sz, .s xs.length 2 (fl xs)])), (56, .live (.row 65 8 (n + ys.length) (vs ++ flP ys)))] ⟨by kernel_rfl, by kernel_rfl, by kernel_rfl, by kernel_rfl, by kernel_rfl, by kernel_rfl, by kernel_rfl, trivial⟩ ⟨by kernel_rfl, by kernel_rfl, trivial⟩ (by kernel_rfl)) (Sub.trans (sub_mv (b := 56) (b' := 1000) rfl rfl) (sub_of _ _ ⟨by kernel_rfl, by kernel_rfl, by kernel_rfl, by kernel_rfl, by kernel_rfl, by kernel_rfl, by kernel_rfl, trivial⟩ ⟨by kernel_rfl, by kernel_rfl, trivial⟩ (by kernel_rfl)))⟩
  · have e : i = 512 := by omega
    subst e
    rw [← hL] at g2 g3
    obtain rfl : N = n := by rw [hN, g2]
    obtain rfl : XS = vs := by rw [hXS, g3]
    repeat (first
      | (refine go_at rfl ?_; first
          | refine go_do (valid_mv (.inl rfl) rfl) rfl ?_
          | refine go_do (valid_mv (.inr rfl) rfl) rfl ?_
          | refine go_do (valid_cmp rfl rfl rfl rfl (by first | exact .eql1 (by omega) | exact .eql0 (by omega) | exact .neq1 (by omega) | exact .neq0 (by omega) | exact .lss1 (by omega) | exact .lss0 (by omega) | exact .leq1 (by omega) | exact .leq0 (by omega) | exact .gtr1 (by omega) | exact .gtr0 (by omega) | exact .geq1 (by omega) | exact .geq0 (by omega) | constructor)) rfl ?_)
      | (refine hK _ ?_; clear hK K)
      | (rename_i K1 hK1; refine hK1 _ ?_; clear hK hK1; clear K)
      | refine aw_text rfl ?_
      | exact aw_ret (show resA _ _ _ = some _ by kernel_rfl)
      | refine aw_cond0 rfl rfl ?_
      | refine aw_exit ?_
      | refine aw_seq_k (fun K hK => ?_))
section
variable (sz : Int) (xs : List (Int × Int)) (hs : Srt xs) (hu : Uw xs) (hn : xs.length ≤ 1000000)
include hs hu hn
theorem rpages_z (t b : Int) (ht : 0 ≤ t ∧ t < 17592186044416) (hb : U b) : Ok 44 [memA sz xs, iu t, ii 0, iu b] (.m (.c (.s (pagesN sz xs 0 t b).length 8 (flP (pagesN sz xs 0 t b))))) :=
  rpages_ok0 sz xs t b 0 (fun _ _ => []) ht hb (by omega) (by omega) hs hu hn (fun _ _ => by simp) (fun h => by omega) _ rfl
theorem rpages_o (t b : Int) (ht : 0 ≤ t ∧ t < 17592186044416) (hb : U b) : Ok 44 [memA sz xs, iu t, ii 1, iu b] (.m (.c (.s (pagesN sz xs 1 t b).length 8 (flP (pagesN sz xs 1 t b))))) :=
  rpages_ok0 sz xs t b 1 (pagesN sz xs 0) ht hb (by omega) (by omega) hs hu hn (fun t a => Nat.le_trans (pages_len0 sz xs t a) (by omega)) (fun _ t a h1 h2 => rpages_z sz xs hs hu hn t a h1 h2) _ rfl
theorem rpages_t (t b : Int) (ht : 0 ≤ t ∧ t < 17592186044416) (hb : U b) : Ok 44 [memA sz xs, iu t, ii 2, iu b] (.m (.c (.s (pagesN sz xs 2 t b).length 8 (flP (pagesN sz xs 2 t b))))) :=
  rpages_ok0 sz xs t b 2 (pagesN sz xs 1) ht hb (by omega) (by omega) hs hu hn (fun t a => pages_len1 sz xs t a) (fun _ t a h1 h2 => rpages_o sz xs hs hu hn t a h1 h2) _ rfl
end
theorem flP_at {l : List Pg} {k : Nat} {p : Pg} (h : l[k]? = some p) : ((flP l).drop (k * 8)).take 8 = p.vs := flat_at Pg.vs 8 (fun _ => rfl) l _ p h
theorem eq_page (w : World) (x0 x1 x2 y0 y1 y2 : Int) (r w' x u d r' w'' x' u' d' : Bool) :
    (Op.equalIn 10000 65 (.agg #[.int .u64 x0, .int .u64 x1, .int .i64 x2, .bool r, .bool w', .bool x, .bool u, .bool d]) (.agg #[.int .u64 y0, .int .u64 y1, .int .i64 y2, .bool r', .bool w'', .bool x', .bool u', .bool d'])).run Tryz.prog w = .ok (x0 == y0 && (x1 == y1 && (x2 == y2 && ((r == r' && (w' == w'' && (x == x' && (u == u' && true)))) && (d == d' && true))))) w := by
  refine PoolC4.struct_of Tryz.underlying65 (by kernel_rfl) ?_
  refine PoolC4.fields_cons (by rfl) (by go_simp; rfl) (by go_simp; rfl) (by go_simp) ?_
  refine PoolC4.fields_cons (by rfl) (by go_simp; rfl) (by go_simp; rfl) (by go_simp) ?_
  refine PoolC4.fields_cons (by rfl) (by go_simp; rfl) (by go_simp; rfl) (by go_simp) ?_
  refine PoolC4.fields_cons (a := .agg #[.bool r, .bool w', .bool x, .bool u]) (b := .agg #[.bool r', .bool w'', .bool x', .bool u']) (by rfl) (by go_simp) (by go_simp) ?_ ?_
  · refine PoolC4.struct_of Tryz.underlying52 (by kernel_rfl) ?_
    refine PoolC4.fields_cons (by rfl) (by go_simp; rfl) (by go_simp; rfl) (by go_simp) ?_
    refine PoolC4.fields_cons (by rfl) (by go_simp; rfl) (by go_simp; rfl) (by go_simp) ?_
    refine PoolC4.fields_cons (by rfl) (by go_simp; rfl) (by go_simp; rfl) (by go_simp) ?_
    exact PoolC4.fields_cons (by rfl) (by go_simp; rfl) (by go_simp; rfl) (by go_simp) PoolC4.fields_nil
  · exact PoolC4.fields_cons (by rfl) (by go_simp; rfl) (by go_simp; rfl) (by go_simp) PoolC4.fields_nil
theorem samep_ok (l : List Pg) (hl : l.length ≤ 134217728) : Ok 11 [.c (.s l.length 8 (flP l)), .c (.s l.length 8 (flP l))] (.m (ib true)) := by
  refine callOk_of 26 Tryz.func11 rfl rfl rfl rfl ?_ GG.to
  intro W A hG
  repeat (first
    | (refine go_at rfl ?_; first
        | refine go_do (valid_mv (.inl rfl) rfl) rfl ?_
        | refine go_do (valid_mv (.inr rfl) rfl) rfl ?_
        | refine go_do (valid_cmp rfl rfl rfl rfl (by first | exact .eql1 (by omega) | exact .eql0 (by omega) | exact .neq1 (by omega) | exact .neq0 (by omega) | exact .lss1 (by omega) | exact .lss0 (by omega) | exact .leq1 (by omega) | exact .leq0 (by omega) | exact .gtr1 (by omega) | exact .gtr0 (by omega) | exact .geq1 (by omega) | exact .geq0 (by omega) | constructor)) rfl ?_
        | refine go_do (valid_len_s rfl rfl rfl rfl) rfl ?_)
    | (refine hK _ ?_; clear hK K)
    | refine aw_text rfl ?_
    | refine aw_cond0 rfl rfl ?_
    | refine aw_block ?_
    | refine aw_skip ?_
    | refine aw_seq_k (fun K hK => ?_))
  refine aw_loopH (α := Nat) (fun k => k ≤ l.length) (fun k => St.of [(0, .m (.c (.s l.length 8 (flP l)))), (1, .m (.c (.s l.length 8 (flP l)))), (5, .m (ii k))] []) (fun k => l.length - k) 0 (by omega) (sub_of _ _ ⟨rfl, rfl, rfl, trivial⟩ trivial rfl) ?_
  intro k hk
  by_cases hlt : k < l.length
  · obtain ⟨f, hf⟩ : ∃ f, l[k]? = some f := ⟨_, List.getElem?_eq_getElem hlt⟩
    have hx := flP_at hf
    have he : ∀ w, (Op.equalIn 10000 65 (.agg #[.int .u64 f.va, .int .u64 f.pa, .int .i64 f.lev, .bool f.r, .bool f.w, .bool f.x, .bool f.u, .bool f.d]) (.agg #[.int .u64 f.va, .int .u64 f.pa, .int .i64 f.lev, .bool f.r, .bool f.w, .bool f.x, .bool f.u, .bool f.d])).run Tryz.prog w = .ok true w := fun w => by rw [eq_page]; simp
    repeat (first
      | (refine go_at rfl ?_; first
          | refine go_do (valid_mv (.inl rfl) rfl) rfl ?_
          | refine go_do (valid_mv (.inr rfl) rfl) rfl ?_
          | refine go_do (valid_cmp rfl rfl rfl rfl (by first | exact .eql1 (by omega) | exact .eql0 (by omega) | exact .neq1 (by omega) | exact .neq0 (by omega) | exact .lss1 (by omega) | exact .lss0 (by omega) | exact .leq1 (by omega) | exact .leq0 (by omega) | exact .gtr1 (by omega) | exact .gtr0 (by omega) | exact .geq1 (by omega) | exact .geq0 (by omega) | constructor)) rfl ?_
          | refine go_do (valid_ar rfl rfl rfl rfl (by constructor) (by first | exact wr_u64 (by omega) (by omega) | exact wr_i64 (by omega) (by omega) | rfl)) rfl ?_
          | refine go_do (valid_len_s rfl rfl rfl rfl) rfl ?_
          | (refine nxt_s 3 rfl ?_; refine go_do (valid_load_q tb rfl rfl rfl rfl (by first | kernel_rfl | rfl)) rfl ?_)
          | (refine nxt_s 4 rfl ?_; refine go_do (valid_idx_s rfl rfl rfl rfl rfl rfl (by omega) (by omega) _ (by assumption)) rfl ?_)
          | refine go_do (valid_neq (us := [.int .u64 f.va, .int .u64 f.pa, .int .i64 f.lev, .bool f.r, .bool f.w, .bool f.x, .bool f.u, .bool f.d]) (vs := [.int .u64 f.va, .int .u64 f.pa, .int .i64 f.lev, .bool f.r, .bool f.w, .bool f.x, .bool f.u, .bool f.d]) he (by kernel_rfl) rfl rfl rfl rfl) rfl ?_)
      | (refine hK _ ?_; clear hK K)
      | refine aw_text rfl ?_
      | refine aw_any (by kernel_rfl) (by kernel_rfl) rfl ?_
      | refine aw_cond1 rfl rfl ?_
      | refine aw_cond0 rfl rfl ?_
      | refine aw_block ?_
      | refine aw_skip ?_
      | refine aw_seq_k (fun K hK => ?_))
    exact ⟨k + 1, by omega, by omega, sub_of _ _ ⟨rfl, rfl, rfl, trivial⟩ trivial rfl⟩
  · skip
    repeat (first
      | (refine go_at rfl ?_; first
          | refine go_do (valid_mv (.inl rfl) rfl) rfl ?_
          | refine go_do (valid_mv (.inr rfl) rfl) rfl ?_
          | refine go_do (valid_cmp rfl rfl rfl rfl (by first | exact .eql1 (by omega) | exact .eql0 (by omega) | exact .neq1 (by omega) | exact .neq0 (by omega) | exact .lss1 (by omega) | exact .lss0 (by omega) | exact .leq1 (by omega) | exact .leq0 (by omega) | exact .gtr1 (by omega) | exact .gtr0 (by omega) | exact .geq1 (by omega) | exact .geq0 (by omega) | constructor)) rfl ?_
          | refine go_do (valid_len_s rfl rfl rfl rfl) rfl ?_)
      | (refine hK _ ?_; clear hK K)
      | (rename_i K1 hK1; refine hK1 _ ?_; clear hK hK1; clear K)
      | refine aw_text rfl ?_
      | exact aw_ret (show resA _ _ _ = some _ by kernel_rfl)
      | refine aw_cond0 rfl rfl ?_
      | refine aw_exit ?_
      | refine aw_seq_k (fun K hK => ?_))
end Go.Proofs.YtmoccajgjnjelaaGreatDoor.RlB
/- The abstract walk: the document's lay: Map, List. -/
namespace Go.Proofs.YtmoccajgjnjelaaGreatDoor.RlC
open Go.RowKit Go.Proofs.YtmoccajgjnjelaaGreatDoor.Bv Go.Proofs.YtmoccajgjnjelaaGreatDoor.VaSpec Go.Proofs.YtmoccajgjnjelaaGreatDoor.Base Go.Proofs.YtmoccajgjnjelaaGreatDoor.MemL Go.Proofs.YtmoccajgjnjelaaGreatDoor.RegR Go.Proofs.YtmoccajgjnjelaaGreatDoor.Ax Go.Proofs.YtmoccajgjnjelaaGreatDoor.MemC Go.Proofs.YtmoccajgjnjelaaGreatDoor.PutC Go.Proofs.YtmoccajgjnjelaaGreatDoor.MemC3 Go.Proofs.YtmoccajgjnjelaaGreatDoor.TzC Go.Proofs.YtmoccajgjnjelaaGreatDoor.OkS Go.Proofs.YtmoccajgjnjelaaGreatDoor.SpA Go.Proofs.YtmoccajgjnjelaaGreatDoor.SpB Go.Proofs.YtmoccajgjnjelaaGreatDoor.SpC Go.Proofs.YtmoccajgjnjelaaGreatDoor.SpD Go.Proofs.YtmoccajgjnjelaaGreatDoor.SpE Go.Proofs.YtmoccajgjnjelaaGreatDoor.SpF Go.Proofs.YtmoccajgjnjelaaGreatDoor.SpH Go.Proofs.YtmoccajgjnjelaaGreatDoor.SpI Go.Proofs.YtmoccajgjnjelaaGreatDoor.SpJ Go.Proofs.YtmoccajgjnjelaaGreatDoor.SpN Go.Proofs.YtmoccajgjnjelaaGreatDoor.SpO Go.Proofs.YtmoccajgjnjelaaGreatDoor.RfA Go.Proofs.YtmoccajgjnjelaaGreatDoor.RfB Go.Proofs.YtmoccajgjnjelaaGreatDoor.RfC Go.Proofs.YtmoccajgjnjelaaGreatDoor.RfD Go.Proofs.YtmoccajgjnjelaaGreatDoor.LaA Go.Proofs.YtmoccajgjnjelaaGreatDoor.LaB Go.Proofs.YtmoccajgjnjelaaGreatDoor.LaC Go.Proofs.YtmoccajgjnjelaaGreatDoor.LaD Go.Proofs.YtmoccajgjnjelaaGreatDoor.LaE Go.Proofs.YtmoccajgjnjelaaGreatDoor.LaF Go.Proofs.YtmoccajgjnjelaaGreatDoor.LaG Go.Proofs.YtmoccajgjnjelaaGreatDoor.RlA Go.Proofs.YtmoccajgjnjelaaGreatDoor.RlB
open Go.Proofs.YtmoccajgjnjelaaGreatDoor.BitsC Go.Proofs.YtmoccajgjnjelaaGreatDoor.PteSpec
set_option linter.unusedVariables false
set_option linter.unusedSimpArgs false
set_option maxRecDepth 10000
set_option maxHeartbeats 1000000
theorem rway_ok : Ok 93 [ii 511, ii 0, ii 0, iu 0] (.m (iu kA)) := by
  have h1 := rof_ok 133955584 ⟨by omega, by omega⟩
  have hk : ofv 133955584 = kA := kA_eq.symm
  have hb := kA_U
  have hlt : kA + 0 < 18446744073709551616 := by have := hb.2; omega
  rw [hk] at h1
  have e : kA = kA + 0 := by omega
  refine callOk_lt (r := .m (iu (kA + 0))) ?_ rfl (by rw [Int.add_zero]; exact AV.lt_refl _)
  have b0 := hb.1
  have b1 := hb.2
  generalize kA = ka at *
  refine callOk_of 23 Tryz.func93 rfl rfl rfl rfl ?_ GG.to
  intro W A hG
  repeat (first
    | (refine go_at rfl ?_; first
        | refine go_do (valid_mv (.inl rfl) rfl) rfl ?_
        | refine go_do (valid_mv (.inr rfl) rfl) rfl ?_
        | refine go_do (valid_ar rfl rfl rfl rfl (by constructor) (by first | exact wr_u64 (by omega) (by omega) | exact wr_i64 (by omega) (by omega) | rfl)) rfl ?_
        | refine go_do (valid_cv rfl rfl rfl rfl rfl (by first | exact wr_u64 (by omega) (by omega) | exact wr_i64 (by omega) (by omega) | rfl)) rfl ?_
        | refine go_do (valid_rem rfl rfl rfl rfl (by omega) (by omega)) rfl ?_
        | refine go_do (valid_call rfl rfl rfl (h1) (by kernel_rfl)) rfl ?_)
    | (refine hK _ ?_; clear hK K)
    | refine aw_text rfl ?_
    | exact aw_ret (show resA _ _ _ = some _ by kernel_rfl)
    | refine aw_seq_k (fun K hK => ?_))
theorem rfirst_ok : Ok 45 [] (.m (iu kA)) := by
  have h := rway_ok
  generalize kA = ka at *
  refine callOk_of 2 Tryz.func45 rfl rfl rfl rfl ?_ GG.to
  intro W A hG
  repeat (first
    | (refine go_at rfl ?_; first
        | refine go_do (valid_mv (.inr rfl) rfl) rfl ?_
        | refine go_do (valid_call rfl rfl rfl (h) (by kernel_rfl)) rfl ?_)
    | (refine hK _ ?_; clear hK K)
    | refine aw_text rfl ?_
    | exact aw_ret (show resA _ _ _ = some _ by kernel_rfl)
    | refine aw_seq_k (fun K hK => ?_))
theorem rlist_all {n : Nat} {k : Kr} (h : InvL n k) (hn : n ≤ 100000) (id : Int) : Ok 13 [.ag k.ce, ii id] (.m (.c (.s (listR k id).length 8 (flP (listR k id))))) := by
  have hml := h.ml
  have hlv := rlives_ok k id
  have hof := rfirst_ok
  unfold listR
  by_cases c0 : id = -1
  · rw [if_pos c0]
    have f := al_fr h h.sh
    have hp := rpages_o k.sz k.m h.g.s h.g.u (by omega) k.sh kA ⟨by omega, by omega⟩ kA_U
    subst c0
    refine callOk_of 32 Tryz.func13 rfl rfl rfl rfl ?_ GG.to
    intro W A hG
    repeat (first
      | (refine go_at rfl ?_; first
          | refine go_do (valid_mv (.inl rfl) rfl) rfl ?_
          | (refine nxt_s 1 rfl ?_; refine go_do (valid_load_p tb rfl rfl rfl rfl rfl (by first | kernel_rfl | rfl)) (by first | kernel_rfl | rfl) ?_)
          | (refine nxt_s 1 rfl ?_; refine go_do (valid_fld_p tb rfl rfl rfl (by kernel_rfl)) rfl ?_)
          | refine go_do (valid_mv (.inr rfl) rfl) rfl ?_
          | refine go_do (valid_cmp rfl rfl rfl rfl (by first | exact .eql1 (by omega) | exact .eql0 (by omega) | exact .neq1 (by omega) | exact .neq0 (by omega) | exact .lss1 (by omega) | exact .lss0 (by omega) | exact .leq1 (by omega) | exact .leq0 (by omega) | exact .gtr1 (by omega) | exact .gtr0 (by omega) | exact .geq1 (by omega) | exact .geq0 (by omega) | constructor)) rfl ?_
          | refine go_do (valid_box rfl rfl rfl rfl rfl rfl) rfl ?_
          | refine go_do (valid_call rfl rfl rfl (hof) (by kernel_rfl)) rfl ?_
          | refine go_do (valid_call rfl rfl rfl (hp) (by kernel_rfl)) rfl ?_)
      | (refine hK _ ?_; clear hK K)
      | refine aw_text rfl ?_
      | refine aw_any (by kernel_rfl) (by kernel_rfl) rfl ?_
      | exact aw_ret (show resA _ _ _ = some _ by kernel_rfl)
      | refine aw_cond1 rfl rfl ?_
      | refine aw_seq_k (fun K hK => ?_))
  · rw [if_neg c0]
    by_cases c1 : livesB k id = false
    · rw [if_pos c1]
      rw [c1] at hlv
      refine callOk_lt (r := .m (.c (.v (.slice none 0 0)))) ?_ rfl (ltV_nil 8)
      refine callOk_of 32 Tryz.func13 rfl rfl rfl rfl ?_ GG.to
      intro W A hG
      repeat (first
        | (refine go_at rfl ?_; first
            | refine go_do (valid_mv (.inl rfl) rfl) rfl ?_
            | (refine nxt_s 1 rfl ?_; refine go_do (valid_load_p tb rfl rfl rfl rfl rfl (by first | kernel_rfl | rfl)) (by first | kernel_rfl | rfl) ?_)
            | refine go_do (valid_mv (.inr rfl) rfl) rfl ?_
            | refine go_do (valid_cmp rfl rfl rfl rfl (by first | exact .eql1 (by omega) | exact .eql0 (by omega) | exact .neq1 (by omega) | exact .neq0 (by omega) | exact .lss1 (by omega) | exact .lss0 (by omega) | exact .leq1 (by omega) | exact .leq0 (by omega) | exact .gtr1 (by omega) | exact .gtr0 (by omega) | exact .geq1 (by omega) | exact .geq0 (by omega) | constructor)) rfl ?_
            | refine go_do (valid_box rfl rfl rfl rfl rfl rfl) rfl ?_
            | refine go_do (valid_not rfl rfl rfl) rfl ?_
            | refine go_do (valid_call rfl rfl rfl (hlv) (by kernel_rfl)) rfl ?_)
        | (refine hK _ ?_; clear hK K)
        | refine aw_text rfl ?_
        | exact aw_ret (show resA _ _ _ = some _ by kernel_rfl)
        | refine aw_cond1 rfl rfl ?_
        | refine aw_cond0 rfl rfl ?_
        | refine aw_skip ?_
        | refine aw_seq_k (fun K hK => ?_))
    · rw [if_neg c1]
      have c1 : livesB k id = true := by simpa using c1
      rw [c1] at hlv
      obtain ⟨y0, y1, y2, y3⟩ := lives_at c1
      have hx := flS_at y2
      have hrt := h.root c1
      have f := al_fr h hrt
      have hw := rset03_ok k.sz k.m (512 * (spAt k id).root + 511) 0 h.g.s (by omega)
      rw [show putM k.m (512 * (spAt k id).root + 511) 0 = ownM k id by unfold ownM; rw [show 512 * (spAt k id).root + 511 = (spAt k id).root * 512 + 511 by omega]] at hw
      have ho := ownM_u h id
      have hol : (ownM k id).length ≤ 1000000 := by have := putM_len k.m ((spAt k id).root * 512 + 511) 0; unfold ownM; omega
      have hp := rpages_t k.sz (ownM k id) ho.1 ho.2 hol (spAt k id).root 0 ⟨by omega, by omega⟩ ⟨by omega, by omega⟩
      generalize ownM k id = om at *
      generalize spAt k id = sp at *
      refine callOk_of 32 Tryz.func13 rfl rfl rfl rfl ?_ GG.to
      intro W A hG
      repeat (first
        | (refine go_at rfl ?_; first
            | refine go_do (valid_mv (.inl rfl) rfl) rfl ?_
            | (refine nxt_s 1 rfl ?_; refine go_do (valid_load_p tb rfl rfl rfl rfl rfl (by first | kernel_rfl | rfl)) (by first | kernel_rfl | rfl) ?_)
            | (refine nxt_s 1 rfl ?_; refine go_do (valid_fld_p tb rfl rfl rfl (by kernel_rfl)) rfl ?_)
            | refine go_do (valid_mv (.inr rfl) rfl) rfl ?_
            | refine go_do (valid_cmp rfl rfl rfl rfl (by first | exact .eql1 (by omega) | exact .eql0 (by omega) | exact .neq1 (by omega) | exact .neq0 (by omega) | exact .lss1 (by omega) | exact .lss0 (by omega) | exact .leq1 (by omega) | exact .leq0 (by omega) | exact .gtr1 (by omega) | exact .gtr0 (by omega) | exact .geq1 (by omega) | exact .geq0 (by omega) | constructor)) rfl ?_
            | refine go_do (valid_ar rfl rfl rfl rfl (by constructor) (by first | exact wr_u64 (by omega) (by omega) | exact wr_i64 (by omega) (by omega) | rfl)) rfl ?_
            | refine go_do (valid_box rfl rfl rfl rfl rfl rfl) rfl ?_
            | (refine nxt_s 3 rfl ?_; refine go_do (valid_load_q tb rfl rfl rfl rfl (by first | kernel_rfl | rfl)) rfl ?_)
            | (refine nxt_s 3 rfl ?_; refine go_do (valid_fld_q tb rfl rfl rfl rfl) rfl ?_)
            | refine go_do (valid_not rfl rfl rfl) rfl ?_
            | (refine nxt_s 4 rfl ?_; refine go_do (valid_idx_s rfl rfl rfl rfl rfl rfl (by omega) (by omega) _ (by assumption)) rfl ?_)
            | refine go_do (valid_call rfl rfl rfl (hlv) (by kernel_rfl)) rfl ?_
            | refine go_do (valid_call rfl rfl rfl (hw) (by kernel_rfl)) rfl ?_
            | refine go_do (valid_call rfl rfl rfl (hp) (by kernel_rfl)) rfl ?_)
        | (refine hK _ ?_; clear hK K)
        | refine aw_text rfl ?_
        | exact aw_ret (show resA _ _ _ = some _ by kernel_rfl)
        | refine aw_cond0 rfl rfl ?_
        | refine aw_skip ?_
        | refine aw_seq_k (fun K hK => ?_))
theorem listR_len (k : Kr) (id : Int) : (listR k id).length ≤ 134217728 := by
  unfold listR
  split
  · exact Nat.le_trans (pages_len1 ..) (by omega)
  · split
    · simp
    · exact pages_len2 ..
theorem lk0_iff {pa l : Int} (h : U pa) (hz : 0 < VaSpec.sz l) : lk0 pa l = if pa % VaSpec.sz l = 0 then 0 else 2 := by
  have e : evenI pa (VaSpec.sz l) = (pa % VaSpec.sz l == 0) := by unfold evenI; rw [if_neg (by omega)]
  unfold lk0
  rw [e]
  by_cases c : pa % VaSpec.sz l = 0 <;> simp [c]
theorem lk1_iff {k : Kr} {pa l : Int} : lk1 k pa l = if pa < k.cd * 4096 ∧ VaSpec.sz l ≤ k.cd * 4096 - pa then 0 else 3 := by
  unfold lk1 inD
  by_cases c : pa < k.cd * 4096 <;> by_cases d : VaSpec.sz l ≤ k.cd * 4096 - pa <;> simp [c, d]
theorem rmap_all {n : Nat} {k : Kr} (h : InvL n k) (hn : n ≤ 90000) (id a pa l : Int) (p : Pm) (ha : U a) (hp : U pa) : Ok 9 [.ag k.ce, ii id, iu a, iu pa, ii l, .ag p.ce] (.tu [.ag (mapR k id a pa l p).1.ce, ii (mapR k id a pa l p).2]) := by
  have hw := rwhere_ok k id a l ha
  obtain ⟨R, hR⟩ : ∃ R, R = mapR k id a pa l p := ⟨_, rfl⟩
  rw [← hR]
  unfold mapR at hR
  by_cases c0 : (whereR k id a l).2.2 ≠ 0
  · rw [if_pos c0] at hR
    generalize whereR k id a l = w at *
    subst hR
    refine callOk_of 105 Tryz.func9 rfl rfl rfl rfl ?_ GG.to
    intro W A hG
    repeat (first
      | (refine go_at rfl ?_; first
          | refine go_do (valid_mv (.inl rfl) rfl) rfl ?_
          | (refine nxt_s 1 rfl ?_; refine go_do (valid_load_p tb rfl rfl rfl rfl rfl (by first | kernel_rfl | rfl)) (by first | kernel_rfl | rfl) ?_)
          | refine go_do (valid_mv (.inr rfl) rfl) rfl ?_
          | refine go_do (valid_extract rfl rfl rfl rfl) rfl ?_
          | refine go_do (valid_cmp rfl rfl rfl rfl (by first | exact .eql1 (by omega) | exact .eql0 (by omega) | exact .neq1 (by omega) | exact .neq0 (by omega) | exact .lss1 (by omega) | exact .lss0 (by omega) | exact .leq1 (by omega) | exact .leq0 (by omega) | exact .gtr1 (by omega) | exact .gtr0 (by omega) | exact .geq1 (by omega) | exact .geq0 (by omega) | constructor)) rfl ?_
          | refine go_do (valid_box rfl rfl rfl rfl rfl rfl) rfl ?_
          | refine go_do (valid_alloc rfl rfl rfl rfl rfl) rfl ?_
          | (refine nxt_s 1 rfl ?_; refine go_do (valid_store_p rfl rfl rfl rfl rfl rfl (by first | kernel_rfl | rfl) rfl) (by first | kernel_rfl | rfl) ?_)
          | refine go_do (valid_call rfl rfl rfl (hw) (by kernel_rfl)) rfl ?_)
      | (refine hK _ ?_; clear hK K)
      | refine aw_text rfl ?_
      | exact aw_ret (show resA _ _ _ = some _ by kernel_rfl)
      | refine aw_cond1 rfl rfl ?_
      | refine aw_seq_k (fun K hK => ?_))
  rw [if_neg c0] at hR
  obtain ⟨w1, w2, w3, w4⟩ := where_good (id := id) (a := a) (l := l) h (by omega)
  have c0 : (whereR k id a l).2.2 = 0 := by omega
  rw [c0] at hw
  generalize (whereR k id a l).1 = top at *
  generalize (whereR k id a l).2.1 = lv at *
  have b1 := h.g.bd
  have b2 := h.g.bp
  have hz := rsize_ok l w1.1 w1.2
  have hzb := szv_bd l w1.1 w1.2
  have hzp : 0 < VaSpec.sz l := by rcases VaSpec.lev w1.1 w1.2 with rfl | rfl | rfl <;> decide
  have ft : 0 ≤ top ∧ top < 17592186044416 := by have := w2.1; omega
  have hml := h.ml
  obtain ⟨lw, rfl⟩ := Int.eq_ofNat_of_zero_le (show 0 ≤ lv by omega)
  have hm := rpmay_ok p
  have hre := rreach_ok k.sz k.m a l ha w1.1 h.g.s h.g.u (by omega) lw top (by omega) ft
  have hd := rdown_ok k.cd k.cp k.sz top a l lw k.m k.pf h.g w2 ha (by omega) w1.1 w3 (by omega) _ rfl
  have hdg := dn_good k.cd k.cp k.sz a l w1.1 lw k.m k.pf top h.g w2
  have hpb := h.pb
  have hpm := h.pm
  have hmk := mkP_back (n := pa / 4096) (p := p) (g := decide (id = -1))
  have hpn := ppn_bd (k := k) (pa := pa) (l := l) hp (by omega)
  have hpk := lk2_may (p := p)
  have e0 := lk0_iff (l := l) hp hzp
  have e1 := lk1_iff (k := k) (pa := pa) (l := l)
  have e2 : lk2 p = if pmMay p then 0 else 5 := rfl
  have e3 : lk3 k top lw a l = if !(atM k.sz k.m (reachN k.sz k.m a l lw top).1 (idx a (reachN k.sz k.m a l lw top).2)).v then 0 else 6 := rfl
  have hre : Ok 35 [memA k.sz k.m, iu top, ii lw, iu a, ii l] (.m (.ag (spotC (reachN k.sz k.m a l lw top).1 (reachN k.sz k.m a l lw top).2 (atM k.sz k.m (reachN k.sz k.m a l lw top).1 (idx a (reachN k.sz k.m a l lw top).2))))) := hre
  unfold mapD at hR
  rw [Int.toNat_natCast] at hR
  generalize lk0 pa l = q0 at *
  generalize lk1 k pa l = q1 at *
  generalize lk2 p = q2 at *
  generalize lk3 k top lw a l = q3 at *
  generalize VaSpec.sz l = z at *
  generalize dnN k.sz k.cd a l lw k.m k.pf top = D at *
  rw [← hpb, ← hpm] at hd
  generalize atM k.sz k.m (reachN k.sz k.m a l lw top).1 (idx a (reachN k.sz k.m a l lw top).2) = pe at *
  generalize (reachN k.sz k.m a l lw top).1 = rt at *
  generalize (reachN k.sz k.m a l lw top).2 = rl at *
  have p0 := hp.1
  have p1 := hp.2
  by_cases c1 : pa % z = 0
  rotate_left
  · rw [if_neg c1] at e0
    rw [if_pos (by omega), e0] at hR
    subst hR
    refine callOk_of 105 Tryz.func9 rfl rfl rfl rfl ?_ GG.to
    intro W A hG
    repeat (first
      | (refine go_at rfl ?_; first
          | refine go_do (valid_mv (.inl rfl) rfl) rfl ?_
          | (refine nxt_s 1 rfl ?_; refine go_do (valid_load_p tb rfl rfl rfl rfl rfl (by first | kernel_rfl | rfl)) (by first | kernel_rfl | rfl) ?_)
          | (refine nxt_s 1 rfl ?_; refine go_do (valid_fld_p tb rfl rfl rfl (by kernel_rfl)) rfl ?_)
          | refine go_do (valid_mv (.inr rfl) rfl) rfl ?_
          | refine go_do (valid_extract rfl rfl rfl rfl) rfl ?_
          | refine go_do (valid_cmp rfl rfl rfl rfl (by first | exact .eql1 (by omega) | exact .eql0 (by omega) | exact .neq1 (by omega) | exact .neq0 (by omega) | exact .lss1 (by omega) | exact .lss0 (by omega) | exact .leq1 (by omega) | exact .leq0 (by omega) | exact .gtr1 (by omega) | exact .gtr0 (by omega) | exact .geq1 (by omega) | exact .geq0 (by omega) | constructor)) rfl ?_
          | refine go_do (valid_ar rfl rfl rfl rfl (by constructor) (by first | exact wr_u64 (by omega) (by omega) | exact wr_i64 (by omega) (by omega) | rfl)) rfl ?_
          | refine go_do (valid_cv rfl rfl rfl rfl rfl (by first | exact wr_u64 (by omega) (by omega) | exact wr_i64 (by omega) (by omega) | rfl)) rfl ?_
          | refine go_do (valid_rem rfl rfl rfl rfl (by omega) (by omega)) rfl ?_
          | refine go_do (valid_box rfl rfl rfl rfl rfl rfl) rfl ?_
          | refine go_do (valid_alloc rfl rfl rfl rfl rfl) rfl ?_
          | (refine nxt_s 1 rfl ?_; refine go_do (valid_store_p rfl rfl rfl rfl rfl rfl (by first | kernel_rfl | rfl) rfl) (by first | kernel_rfl | rfl) ?_)
          | refine go_do (valid_call rfl rfl rfl (hw) (by kernel_rfl)) rfl ?_
          | refine go_do (valid_call rfl rfl rfl (hz) (by kernel_rfl)) rfl ?_)
      | (refine hK _ ?_; clear hK K)
      | refine aw_text rfl ?_
      | exact aw_ret (show resA _ _ _ = some _ by kernel_rfl)
      | refine aw_cond1 rfl rfl ?_
      | refine aw_cond0 rfl rfl ?_
      | refine aw_skip ?_
      | refine aw_seq_k (fun K hK => ?_))
  rw [if_pos c1] at e0
  rw [if_neg (by omega)] at hR
  by_cases c2 : pa < k.cd * 4096 ∧ z ≤ k.cd * 4096 - pa
  rotate_left
  · rw [if_neg c2] at e1
    rw [if_pos (by omega), e1] at hR
    subst hR
    by_cases c2' : k.cd * 4096 < z
    · refine callOk_of 105 Tryz.func9 rfl rfl rfl rfl ?_ GG.to
      intro W A hG
      repeat (first
        | (refine go_at rfl ?_; first
            | refine go_do (valid_skip rfl) rfl ?_
            | refine go_do (valid_mv (.inl rfl) rfl) rfl ?_
            | (refine nxt_s 1 rfl ?_; refine go_do (valid_load_p tb rfl rfl rfl rfl rfl (by first | kernel_rfl | rfl)) (by first | kernel_rfl | rfl) ?_)
            | (refine nxt_s 1 rfl ?_; refine go_do (valid_fld_p tb rfl rfl rfl (by kernel_rfl)) rfl ?_)
            | refine go_do (valid_mv (.inr rfl) rfl) rfl ?_
            | refine go_do (valid_pick rfl rfl rfl) rfl ?_
            | refine go_do (valid_extract rfl rfl rfl rfl) rfl ?_
            | refine go_do (valid_cmp rfl rfl rfl rfl (by first | exact .eql1 (by omega) | exact .eql0 (by omega) | exact .neq1 (by omega) | exact .neq0 (by omega) | exact .lss1 (by omega) | exact .lss0 (by omega) | exact .leq1 (by omega) | exact .leq0 (by omega) | exact .gtr1 (by omega) | exact .gtr0 (by omega) | exact .geq1 (by omega) | exact .geq0 (by omega) | constructor)) rfl ?_
            | refine go_do (valid_ar rfl rfl rfl rfl (by constructor) (by first | exact wr_u64 (by omega) (by omega) | exact wr_i64 (by omega) (by omega) | rfl)) rfl ?_
            | refine go_do (valid_cv rfl rfl rfl rfl rfl (by first | exact wr_u64 (by omega) (by omega) | exact wr_i64 (by omega) (by omega) | rfl)) rfl ?_
            | refine go_do (valid_rem rfl rfl rfl rfl (by omega) (by omega)) rfl ?_
            | refine go_do (valid_box rfl rfl rfl rfl rfl rfl) rfl ?_
            | refine go_do (valid_alloc rfl rfl rfl rfl rfl) rfl ?_
            | (refine nxt_s 1 rfl ?_; refine go_do (valid_store_p rfl rfl rfl rfl rfl rfl (by first | kernel_rfl | rfl) rfl) (by first | kernel_rfl | rfl) ?_)
            | refine go_do (valid_call rfl rfl rfl (hw) (by kernel_rfl)) rfl ?_
            | refine go_do (valid_call rfl rfl rfl (hz) (by kernel_rfl)) rfl ?_)
        | (refine hK _ ?_; clear hK K)
        | refine aw_text rfl ?_
        | exact aw_ret (show resA _ _ _ = some _ by kernel_rfl)
        | refine aw_cond1 rfl rfl ?_
        | refine aw_cond0 rfl rfl ?_
        | refine aw_skip ?_
        | refine aw_seq_k (fun K hK => ?_))
    · refine callOk_of 105 Tryz.func9 rfl rfl rfl rfl ?_ GG.to
      intro W A hG
      repeat (first
        | (refine go_at rfl ?_; first
            | refine go_do (valid_mv (.inl rfl) rfl) rfl ?_
            | (refine nxt_s 1 rfl ?_; refine go_do (valid_load_p tb rfl rfl rfl rfl rfl (by first | kernel_rfl | rfl)) (by first | kernel_rfl | rfl) ?_)
            | (refine nxt_s 1 rfl ?_; refine go_do (valid_fld_p tb rfl rfl rfl (by kernel_rfl)) rfl ?_)
            | refine go_do (valid_mv (.inr rfl) rfl) rfl ?_
            | refine go_do (valid_pick rfl rfl rfl) rfl ?_
            | refine go_do (valid_extract rfl rfl rfl rfl) rfl ?_
            | refine go_do (valid_cmp rfl rfl rfl rfl (by first | exact .eql1 (by omega) | exact .eql0 (by omega) | exact .neq1 (by omega) | exact .neq0 (by omega) | exact .lss1 (by omega) | exact .lss0 (by omega) | exact .leq1 (by omega) | exact .leq0 (by omega) | exact .gtr1 (by omega) | exact .gtr0 (by omega) | exact .geq1 (by omega) | exact .geq0 (by omega) | constructor)) rfl ?_
            | refine go_do (valid_ar rfl rfl rfl rfl (by constructor) (by first | exact wr_u64 (by omega) (by omega) | exact wr_i64 (by omega) (by omega) | rfl)) rfl ?_
            | refine go_do (valid_cv rfl rfl rfl rfl rfl (by first | exact wr_u64 (by omega) (by omega) | exact wr_i64 (by omega) (by omega) | rfl)) rfl ?_
            | refine go_do (valid_rem rfl rfl rfl rfl (by omega) (by omega)) rfl ?_
            | refine go_do (valid_box rfl rfl rfl rfl rfl rfl) rfl ?_
            | refine go_do (valid_alloc rfl rfl rfl rfl rfl) rfl ?_
            | (refine nxt_s 1 rfl ?_; refine go_do (valid_store_p rfl rfl rfl rfl rfl rfl (by first | kernel_rfl | rfl) rfl) (by first | kernel_rfl | rfl) ?_)
            | refine go_do (valid_call rfl rfl rfl (hw) (by kernel_rfl)) rfl ?_
            | refine go_do (valid_call rfl rfl rfl (hz) (by kernel_rfl)) rfl ?_)
        | (refine hK _ ?_; clear hK K)
        | refine aw_text rfl ?_
        | exact aw_ret (show resA _ _ _ = some _ by kernel_rfl)
        | refine aw_cond1 rfl rfl ?_
        | refine aw_cond0 rfl rfl ?_
        | refine aw_skip ?_
        | refine aw_seq_k (fun K hK => ?_))
  rw [if_pos c2] at e1
  rw [if_neg (by omega)] at hR
  cases hmay : pmMay p with
  | false =>
    rw [hmay] at hm e2
    rw [if_neg (by simp)] at e2
    rw [if_pos (by omega), e2] at hR
    subst hR
    refine callOk_of 105 Tryz.func9 rfl rfl rfl rfl ?_ GG.to
    intro W A hG
    repeat (first
      | (refine go_at rfl ?_; first
          | refine go_do (valid_mv (.inl rfl) rfl) rfl ?_
          | (refine nxt_s 1 rfl ?_; refine go_do (valid_load_p tb rfl rfl rfl rfl rfl (by first | kernel_rfl | rfl)) (by first | kernel_rfl | rfl) ?_)
          | (refine nxt_s 1 rfl ?_; refine go_do (valid_fld_p tb rfl rfl rfl (by kernel_rfl)) rfl ?_)
          | refine go_do (valid_mv (.inr rfl) rfl) rfl ?_
          | refine go_do (valid_pick rfl rfl rfl) rfl ?_
          | refine go_do (valid_extract rfl rfl rfl rfl) rfl ?_
          | refine go_do (valid_cmp rfl rfl rfl rfl (by first | exact .eql1 (by omega) | exact .eql0 (by omega) | exact .neq1 (by omega) | exact .neq0 (by omega) | exact .lss1 (by omega) | exact .lss0 (by omega) | exact .leq1 (by omega) | exact .leq0 (by omega) | exact .gtr1 (by omega) | exact .gtr0 (by omega) | exact .geq1 (by omega) | exact .geq0 (by omega) | constructor)) rfl ?_
          | refine go_do (valid_ar rfl rfl rfl rfl (by constructor) (by first | exact wr_u64 (by omega) (by omega) | exact wr_i64 (by omega) (by omega) | rfl)) rfl ?_
          | refine go_do (valid_cv rfl rfl rfl rfl rfl (by first | exact wr_u64 (by omega) (by omega) | exact wr_i64 (by omega) (by omega) | rfl)) rfl ?_
          | refine go_do (valid_rem rfl rfl rfl rfl (by omega) (by omega)) rfl ?_
          | refine go_do (valid_box rfl rfl rfl rfl rfl rfl) rfl ?_
          | refine go_do (valid_alloc rfl rfl rfl rfl rfl) rfl ?_
          | (refine nxt_s 1 rfl ?_; refine go_do (valid_store_p rfl rfl rfl rfl rfl rfl (by first | kernel_rfl | rfl) rfl) (by first | kernel_rfl | rfl) ?_)
          | refine go_do (valid_not rfl rfl rfl) rfl ?_
          | refine go_do (valid_call rfl rfl rfl (hw) (by kernel_rfl)) rfl ?_
          | refine go_do (valid_call rfl rfl rfl (hz) (by kernel_rfl)) rfl ?_
          | refine go_do (valid_call rfl rfl rfl (hm) (by kernel_rfl)) rfl ?_)
      | (refine hK _ ?_; clear hK K)
      | refine aw_text rfl ?_
      | exact aw_ret (show resA _ _ _ = some _ by kernel_rfl)
      | refine aw_cond1 rfl rfl ?_
      | refine aw_cond0 rfl rfl ?_
      | refine aw_skip ?_
      | refine aw_seq_k (fun K hK => ?_))
  | true =>
  rw [hmay] at hm e2
  rw [if_pos (by simp)] at e2
  rw [if_neg (by omega)] at hR
  obtain ⟨v0, v1, v2, v3, v4, v5, v6, v7, v8, v9, v10⟩ := pe
  cases v0 with
  | true =>
    rw [if_neg (by simp)] at e3
    rw [if_pos (by omega), e3] at hR
    subst hR
    refine callOk_of 105 Tryz.func9 rfl rfl rfl rfl ?_ GG.to
    intro W A hG
    repeat (first
      | (refine go_at rfl ?_; first
          | refine go_do (valid_mv (.inl rfl) rfl) rfl ?_
          | (refine nxt_s 1 rfl ?_; refine go_do (valid_load_p tb rfl rfl rfl rfl rfl (by first | kernel_rfl | rfl)) (by first | kernel_rfl | rfl) ?_)
          | (refine nxt_s 1 rfl ?_; refine go_do (valid_fld_p tb rfl rfl rfl (by kernel_rfl)) rfl ?_)
          | refine go_do (valid_mv (.inr rfl) rfl) rfl ?_
          | refine go_do (valid_pick rfl rfl rfl) rfl ?_
          | refine go_do (valid_extract rfl rfl rfl rfl) rfl ?_
          | refine go_do (valid_field tb rfl rfl rfl rfl rfl rfl) rfl ?_
          | refine go_do (valid_cmp rfl rfl rfl rfl (by first | exact .eql1 (by omega) | exact .eql0 (by omega) | exact .neq1 (by omega) | exact .neq0 (by omega) | exact .lss1 (by omega) | exact .lss0 (by omega) | exact .leq1 (by omega) | exact .leq0 (by omega) | exact .gtr1 (by omega) | exact .gtr0 (by omega) | exact .geq1 (by omega) | exact .geq0 (by omega) | constructor)) rfl ?_
          | refine go_do (valid_ar rfl rfl rfl rfl (by constructor) (by first | exact wr_u64 (by omega) (by omega) | exact wr_i64 (by omega) (by omega) | rfl)) rfl ?_
          | refine go_do (valid_cv rfl rfl rfl rfl rfl (by first | exact wr_u64 (by omega) (by omega) | exact wr_i64 (by omega) (by omega) | rfl)) rfl ?_
          | refine go_do (valid_rem rfl rfl rfl rfl (by omega) (by omega)) rfl ?_
          | refine go_do (valid_box rfl rfl rfl rfl rfl rfl) rfl ?_
          | refine go_do (valid_alloc rfl rfl rfl rfl rfl) rfl ?_
          | (refine nxt_s 1 rfl ?_; refine go_do (valid_store_p rfl rfl rfl rfl rfl rfl (by first | kernel_rfl | rfl) rfl) (by first | kernel_rfl | rfl) ?_)
          | refine go_do (valid_not rfl rfl rfl) rfl ?_
          | refine go_do (valid_call rfl rfl rfl (hw) (by kernel_rfl)) rfl ?_
          | refine go_do (valid_call rfl rfl rfl (hz) (by kernel_rfl)) rfl ?_
          | refine go_do (valid_call rfl rfl rfl (hm) (by kernel_rfl)) rfl ?_
          | refine go_do (valid_call rfl rfl rfl (hre) (by kernel_rfl)) rfl ?_)
      | (refine hK _ ?_; clear hK K)
      | refine aw_text rfl ?_
      | exact aw_ret (show resA _ _ _ = some _ by kernel_rfl)
      | refine aw_cond1 rfl rfl ?_
      | refine aw_cond0 rfl rfl ?_
      | refine aw_skip ?_
      | refine aw_seq_k (fun K hK => ?_))
  | false =>
  rw [if_pos (by simp)] at e3
  rw [if_neg (by omega)] at hR
  obtain ⟨m2, f2, t2, e2'⟩ := D
  by_cases e : e2' = 0
  · subst e
    obtain ⟨d1, d2, d3, d4⟩ := hdg rfl
    have d1 : GM k.cd k.cp k.sz m2 f2 := d1
    have d2 : Al k.cd k.cp f2 t2 := d2
    have d3 : m2.length ≤ k.m.length + lw := d3
    have hd : Ok 36 [memA k.sz k.m, .ag [cu k.pb, ci k.pm, cu k.pf], iu top, ii lw, iu a, ii l] (.tu [memA k.sz m2, .ag [cu k.pb, ci k.pm, cu f2], .ag (spotC t2 l (atM k.sz m2 t2 (idx a l))), ii 0]) := hd
    have hR : R = (mapK k (m2, f2, t2, 0) a pa l p (decide (id = -1)), 0) := hR
    have hu := (hmk (hpn (by omega)) (hpk (by omega)))
    have hmy : mayP (mkP (pa / 4096) p (decide (id = -1))) = true := by rw [mayP_iff]; unfold mkP; simp; have := hpn (by omega); omega
    have hwt := rwith_ok k.sz m2 t2 l (atM k.sz m2 t2 (idx a l)) a (mkP (pa / 4096) p (decide (id = -1))) ha hu.2.1 hmy w1.1 w1.2 ⟨by have := d2.1; omega, by have := d2.1; omega⟩ d1.s (by omega)
    rw [← d1.with d2 (idx_bd a l) hu.2.1] at hwt
    generalize atM k.sz m2 t2 (idx a l) = q at *
    by_cases c5 : id = -1
    · have hmp := rmake_ok (pa / 4096) p true
      rw [decide_eq_true c5] at hwt hR
      subst hR
      refine callOk_of 105 Tryz.func9 rfl rfl rfl rfl ?_ GG.to
      intro W A hG
      repeat (first
        | (refine go_at rfl ?_; first
            | refine go_do (valid_mv (.inl rfl) rfl) rfl ?_
            | (refine nxt_s 1 rfl ?_; refine go_do (valid_load_p tb rfl rfl rfl rfl rfl (by first | kernel_rfl | rfl)) (by first | kernel_rfl | rfl) ?_)
            | (refine nxt_s 1 rfl ?_; refine go_do (valid_fld_p tb rfl rfl rfl (by kernel_rfl)) rfl ?_)
            | refine go_do (valid_mv (.inr rfl) rfl) rfl ?_
            | refine go_do (valid_pick rfl rfl rfl) rfl ?_
            | refine go_do (valid_extract rfl rfl rfl rfl) rfl ?_
            | refine go_do (valid_field tb rfl rfl rfl rfl rfl rfl) rfl ?_
            | refine go_do (valid_cmp rfl rfl rfl rfl (by first | exact .eql1 (by omega) | exact .eql0 (by omega) | exact .neq1 (by omega) | exact .neq0 (by omega) | exact .lss1 (by omega) | exact .lss0 (by omega) | exact .leq1 (by omega) | exact .leq0 (by omega) | exact .gtr1 (by omega) | exact .gtr0 (by omega) | exact .geq1 (by omega) | exact .geq0 (by omega) | constructor)) rfl ?_
            | refine go_do (valid_ar rfl rfl rfl rfl (by constructor) (by first | exact wr_u64 (by omega) (by omega) | exact wr_i64 (by omega) (by omega) | rfl)) rfl ?_
            | refine go_do (valid_cv rfl rfl rfl rfl rfl (by first | exact wr_u64 (by omega) (by omega) | exact wr_i64 (by omega) (by omega) | rfl)) rfl ?_
            | refine go_do (valid_quo rfl rfl rfl rfl (by omega) (by omega) (by first | exact wr_u64 (by omega) (by omega) | exact wr_i64 (by omega) (by omega))) rfl ?_
            | refine go_do (valid_rem rfl rfl rfl rfl (by omega) (by omega)) rfl ?_
            | refine go_do (valid_box rfl rfl rfl rfl rfl rfl) rfl ?_
            | refine go_do (valid_alloc rfl rfl rfl rfl rfl) rfl ?_
            | (refine nxt_s 1 rfl ?_; refine go_do (valid_store_p rfl rfl rfl rfl rfl rfl (by first | kernel_rfl | rfl) rfl) (by first | kernel_rfl | rfl) ?_)
            | refine go_do (valid_not rfl rfl rfl) rfl ?_
            | refine go_do (valid_call rfl rfl rfl (hw) (by kernel_rfl)) rfl ?_
            | refine go_do (valid_call rfl rfl rfl (hz) (by kernel_rfl)) rfl ?_
            | refine go_do (valid_call rfl rfl rfl (hm) (by kernel_rfl)) rfl ?_
            | refine go_do (valid_call rfl rfl rfl (hre) (by kernel_rfl)) rfl ?_
            | refine go_do (valid_call rfl rfl rfl (hd) (by kernel_rfl)) rfl ?_
            | refine go_do (valid_call rfl rfl rfl (hmp) (by kernel_rfl)) rfl ?_
            | refine go_do (valid_call rfl rfl rfl (hwt) (by kernel_rfl)) rfl ?_)
        | (refine hK _ ?_; clear hK K)
        | refine aw_text rfl ?_
        | refine aw_any (by kernel_rfl) (by kernel_rfl) rfl ?_
        | exact aw_ret (show resA _ _ _ = some _ by kernel_rfl)
        | refine aw_cond0 rfl rfl ?_
        | refine aw_skip ?_
        | refine aw_seq_k (fun K hK => ?_))
    · have hmp := rmake_ok (pa / 4096) p false
      rw [decide_eq_false c5] at hwt hR
      subst hR
      refine callOk_of 105 Tryz.func9 rfl rfl rfl rfl ?_ GG.to
      intro W A hG
      repeat (first
        | (refine go_at rfl ?_; first
            | refine go_do (valid_mv (.inl rfl) rfl) rfl ?_
            | (refine nxt_s 1 rfl ?_; refine go_do (valid_load_p tb rfl rfl rfl rfl rfl (by first | kernel_rfl | rfl)) (by first | kernel_rfl | rfl) ?_)
            | (refine nxt_s 1 rfl ?_; refine go_do (valid_fld_p tb rfl rfl rfl (by kernel_rfl)) rfl ?_)
            | refine go_do (valid_mv (.inr rfl) rfl) rfl ?_
            | refine go_do (valid_pick rfl rfl rfl) rfl ?_
            | refine go_do (valid_extract rfl rfl rfl rfl) rfl ?_
            | refine go_do (valid_field tb rfl rfl rfl rfl rfl rfl) rfl ?_
            | refine go_do (valid_cmp rfl rfl rfl rfl (by first | exact .eql1 (by omega) | exact .eql0 (by omega) | exact .neq1 (by omega) | exact .neq0 (by omega) | exact .lss1 (by omega) | exact .lss0 (by omega) | exact .leq1 (by omega) | exact .leq0 (by omega) | exact .gtr1 (by omega) | exact .gtr0 (by omega) | exact .geq1 (by omega) | exact .geq0 (by omega) | constructor)) rfl ?_
            | refine go_do (valid_ar rfl rfl rfl rfl (by constructor) (by first | exact wr_u64 (by omega) (by omega) | exact wr_i64 (by omega) (by omega) | rfl)) rfl ?_
            | refine go_do (valid_cv rfl rfl rfl rfl rfl (by first | exact wr_u64 (by omega) (by omega) | exact wr_i64 (by omega) (by omega) | rfl)) rfl ?_
            | refine go_do (valid_quo rfl rfl rfl rfl (by omega) (by omega) (by first | exact wr_u64 (by omega) (by omega) | exact wr_i64 (by omega) (by omega))) rfl ?_
            | refine go_do (valid_rem rfl rfl rfl rfl (by omega) (by omega)) rfl ?_
            | refine go_do (valid_box rfl rfl rfl rfl rfl rfl) rfl ?_
            | refine go_do (valid_alloc rfl rfl rfl rfl rfl) rfl ?_
            | (refine nxt_s 1 rfl ?_; refine go_do (valid_store_p rfl rfl rfl rfl rfl rfl (by first | kernel_rfl | rfl) rfl) (by first | kernel_rfl | rfl) ?_)
            | refine go_do (valid_not rfl rfl rfl) rfl ?_
            | refine go_do (valid_call rfl rfl rfl (hw) (by kernel_rfl)) rfl ?_
            | refine go_do (valid_call rfl rfl rfl (hz) (by kernel_rfl)) rfl ?_
            | refine go_do (valid_call rfl rfl rfl (hm) (by kernel_rfl)) rfl ?_
            | refine go_do (valid_call rfl rfl rfl (hre) (by kernel_rfl)) rfl ?_
            | refine go_do (valid_call rfl rfl rfl (hd) (by kernel_rfl)) rfl ?_
            | refine go_do (valid_call rfl rfl rfl (hmp) (by kernel_rfl)) rfl ?_
            | refine go_do (valid_call rfl rfl rfl (hwt) (by kernel_rfl)) rfl ?_)
        | (refine hK _ ?_; clear hK K)
        | refine aw_text rfl ?_
        | refine aw_any (by kernel_rfl) (by kernel_rfl) rfl ?_
        | exact aw_ret (show resA _ _ _ = some _ by kernel_rfl)
        | refine aw_cond0 rfl rfl ?_
        | refine aw_skip ?_
        | refine aw_seq_k (fun K hK => ?_))
  · rw [if_neg (show ¬ (m2, f2, t2, e2').2.2.2 = 0 from e)] at hd
    rw [if_pos (show (m2, f2, t2, e2').2.2.2 ≠ 0 from e)] at hR
    have hd : Ok 36 [memA k.sz k.m, .ag [cu k.pb, ci k.pm, cu k.pf], iu top, ii lw, iu a, ii l] (.tu [memA k.sz k.m, .ag [cu k.pb, ci k.pm, cu k.pf], .ag (spotC 0 0 zP), ii e2']) := hd
    have hR : R = (k, e2') := hR
    subst hR
    refine callOk_of 105 Tryz.func9 rfl rfl rfl rfl ?_ GG.to
    intro W A hG
    repeat (first
      | (refine go_at rfl ?_; first
          | refine go_do (valid_mv (.inl rfl) rfl) rfl ?_
          | (refine nxt_s 1 rfl ?_; refine go_do (valid_load_p tb rfl rfl rfl rfl rfl (by first | kernel_rfl | rfl)) (by first | kernel_rfl | rfl) ?_)
          | (refine nxt_s 1 rfl ?_; refine go_do (valid_fld_p tb rfl rfl rfl (by kernel_rfl)) rfl ?_)
          | refine go_do (valid_mv (.inr rfl) rfl) rfl ?_
          | refine go_do (valid_pick rfl rfl rfl) rfl ?_
          | refine go_do (valid_extract rfl rfl rfl rfl) rfl ?_
          | refine go_do (valid_field tb rfl rfl rfl rfl rfl rfl) rfl ?_
          | refine go_do (valid_cmp rfl rfl rfl rfl (by first | exact .eql1 (by omega) | exact .eql0 (by omega) | exact .neq1 (by omega) | exact .neq0 (by omega) | exact .lss1 (by omega) | exact .lss0 (by omega) | exact .leq1 (by omega) | exact .leq0 (by omega) | exact .gtr1 (by omega) | exact .gtr0 (by omega) | exact .geq1 (by omega) | exact .geq0 (by omega) | constructor)) rfl ?_
          | refine go_do (valid_ar rfl rfl rfl rfl (by constructor) (by first | exact wr_u64 (by omega) (by omega) | exact wr_i64 (by omega) (by omega) | rfl)) rfl ?_
          | refine go_do (valid_cv rfl rfl rfl rfl rfl (by first | exact wr_u64 (by omega) (by omega) | exact wr_i64 (by omega) (by omega) | rfl)) rfl ?_
          | refine go_do (valid_rem rfl rfl rfl rfl (by omega) (by omega)) rfl ?_
          | refine go_do (valid_box rfl rfl rfl rfl rfl rfl) rfl ?_
          | refine go_do (valid_alloc rfl rfl rfl rfl rfl) rfl ?_
          | (refine nxt_s 1 rfl ?_; refine go_do (valid_store_p rfl rfl rfl rfl rfl rfl (by first | kernel_rfl | rfl) rfl) (by first | kernel_rfl | rfl) ?_)
          | refine go_do (valid_not rfl rfl rfl) rfl ?_
          | refine go_do (valid_call rfl rfl rfl (hw) (by kernel_rfl)) rfl ?_
          | refine go_do (valid_call rfl rfl rfl (hz) (by kernel_rfl)) rfl ?_
          | refine go_do (valid_call rfl rfl rfl (hm) (by kernel_rfl)) rfl ?_
          | refine go_do (valid_call rfl rfl rfl (hre) (by kernel_rfl)) rfl ?_
          | refine go_do (valid_call rfl rfl rfl (hd) (by kernel_rfl)) rfl ?_)
      | (refine hK _ ?_; clear hK K)
      | refine aw_text rfl ?_
      | exact aw_ret (show resA _ _ _ = some _ by kernel_rfl)
      | refine aw_cond1 rfl rfl ?_
      | refine aw_cond0 rfl rfl ?_
      | refine aw_skip ?_
      | refine aw_seq_k (fun K hK => ?_))
end Go.Proofs.YtmoccajgjnjelaaGreatDoor.RlC
/- The abstract walk: the law LayMaps' beginnings and its anchor. -/
namespace Go.Proofs.YtmoccajgjnjelaaGreatDoor.LaI
open Go.RowKit Go.Proofs.YtmoccajgjnjelaaGreatDoor.Bv Go.Proofs.YtmoccajgjnjelaaGreatDoor.VaSpec Go.Proofs.YtmoccajgjnjelaaGreatDoor.Base Go.Proofs.YtmoccajgjnjelaaGreatDoor.MemL Go.Proofs.YtmoccajgjnjelaaGreatDoor.RegR Go.Proofs.YtmoccajgjnjelaaGreatDoor.Ax Go.Proofs.YtmoccajgjnjelaaGreatDoor.MemC Go.Proofs.YtmoccajgjnjelaaGreatDoor.PutC Go.Proofs.YtmoccajgjnjelaaGreatDoor.MemC3 Go.Proofs.YtmoccajgjnjelaaGreatDoor.TzC Go.Proofs.YtmoccajgjnjelaaGreatDoor.OkS Go.Proofs.YtmoccajgjnjelaaGreatDoor.SpA Go.Proofs.YtmoccajgjnjelaaGreatDoor.SpB Go.Proofs.YtmoccajgjnjelaaGreatDoor.SpC Go.Proofs.YtmoccajgjnjelaaGreatDoor.SpD Go.Proofs.YtmoccajgjnjelaaGreatDoor.SpE Go.Proofs.YtmoccajgjnjelaaGreatDoor.SpF Go.Proofs.YtmoccajgjnjelaaGreatDoor.SpG Go.Proofs.YtmoccajgjnjelaaGreatDoor.SpH Go.Proofs.YtmoccajgjnjelaaGreatDoor.SpI Go.Proofs.YtmoccajgjnjelaaGreatDoor.SpJ Go.Proofs.YtmoccajgjnjelaaGreatDoor.SpK Go.Proofs.YtmoccajgjnjelaaGreatDoor.SpN Go.Proofs.YtmoccajgjnjelaaGreatDoor.RfD Go.Proofs.YtmoccajgjnjelaaGreatDoor.RfE Go.Proofs.YtmoccajgjnjelaaGreatDoor.RfJ Go.Proofs.YtmoccajgjnjelaaGreatDoor.RfK Go.Proofs.YtmoccajgjnjelaaGreatDoor.LaA Go.Proofs.YtmoccajgjnjelaaGreatDoor.LaB Go.Proofs.YtmoccajgjnjelaaGreatDoor.LaC Go.Proofs.YtmoccajgjnjelaaGreatDoor.LaD Go.Proofs.YtmoccajgjnjelaaGreatDoor.LaE Go.Proofs.YtmoccajgjnjelaaGreatDoor.LaF Go.Proofs.YtmoccajgjnjelaaGreatDoor.LaG Go.Proofs.YtmoccajgjnjelaaGreatDoor.LaH Go.Proofs.YtmoccajgjnjelaaGreatDoor.RlB Go.Proofs.YtmoccajgjnjelaaGreatDoor.RlC
open Go.Proofs.YtmoccajgjnjelaaGreatDoor.BitsC Go.Proofs.YtmoccajgjnjelaaGreatDoor.PteSpec
set_option linter.unusedVariables false
set_option linter.unusedSimpArgs false
set_option maxRecDepth 10000
set_option maxHeartbeats 1000000
attribute [local irreducible] Go.Proofs.YtmoccajgjnjelaaGreatDoor.Ax.CallOk
noncomputable def bgI (a b c : Int) (n : Nat) : Nat → Kr
  | 0 => newK a b c n
  | i + 1 => (createR (bgI a b c n i)).1
def bgH (k : Kr) (i : Nat) : St := St.of [(2, .m (.c (.p 2 0))), (3, .m (.c (.p 3 0))), (4, .m (.c (.p 4 0))), (6, .m (.c (.p 6 0))), (7, .m (ii i))] [(2, .live (.box zK)), (3, .live (.box zK)), (4, .live (.box k.ce)), (6, .live (.box k.ce))]
theorem bgI_inv {a b c : Int} {n : Nat} (h : confB a b c n = true) : ∀ i, Inv i (bgI a b c n i)
  | 0 => new_inv h
  | i + 1 => create_inv (bgI_inv h i)
theorem began_ok (a b c : Int) (n : Nat) (h : confB a b c n = true) : Ok 7 [confA a b c n] (.tu [.ag (bgK a b c n).ce, .ag (bgK a b c n).ce]) := by
  have hn := new_yes a b c n h
  have hr := rnew_ok a b c n h
  refine callOk_of 33 Tryz.func7 rfl rfl rfl rfl ?_ GG.to
  intro W A hG
  repeat (first
    | (refine go_at rfl ?_; first
        | refine go_do (valid_mv (.inl rfl) rfl) rfl ?_
        | (refine nxt_s 1 rfl ?_; refine go_do (valid_load_p tb rfl rfl rfl rfl rfl (by first | kernel_rfl | rfl)) (by first | kernel_rfl | rfl) ?_)
        | refine go_do (valid_mv (.inr rfl) rfl) rfl ?_
        | refine go_do (valid_extract rfl rfl rfl rfl) rfl ?_
        | refine go_do (valid_box rfl rfl rfl rfl rfl rfl) rfl ?_
        | refine go_do (valid_alloc rfl rfl rfl rfl rfl) rfl ?_
        | (refine nxt_s 1 rfl ?_; refine go_do (valid_store_p rfl rfl rfl rfl rfl rfl (by first | kernel_rfl | rfl) rfl) (by first | kernel_rfl | rfl) ?_)
        | refine go_do (valid_call rfl rfl rfl (hn) (by kernel_rfl)) rfl ?_
        | refine go_do (valid_call rfl rfl rfl (hr) (by kernel_rfl)) rfl ?_)
    | (refine hK _ ?_; clear hK K)
    | refine aw_text rfl ?_
    | refine aw_block ?_
    | refine aw_seq_k (fun K hK => ?_))
  refine aw_loopH (α := Nat) (fun i => i ≤ 2) (fun i => bgH (bgI a b c n i) i) (fun i => 2 - i) 0 (by omega) (sub_of _ _ ⟨by kernel_rfl, by kernel_rfl, by kernel_rfl, by kernel_rfl, by kernel_rfl, trivial⟩ ⟨by kernel_rfl, by kernel_rfl, by kernel_rfl, by kernel_rfl, trivial⟩ (by kernel_rfl)) ?_
  intro i hi
  show Aw _ _ _ _ (bgH (bgI a b c n i) i)
  unfold bgH
  by_cases hlt : i < 2
  · have hk := bgI_inv h i
    have hc := create_all hk (by omega)
    have hd := rcreate_all hk (by omega)
    have e : bgI a b c n (i + 1) = (createR (bgI a b c n i)).1 := rfl
    generalize createR (bgI a b c n i) = rr at *
    repeat (first
      | (refine go_at rfl ?_; first
          | refine go_do (valid_mv (.inl rfl) rfl) rfl ?_
          | (refine nxt_s 1 rfl ?_; refine go_do (valid_load_p tb rfl rfl rfl rfl rfl (by first | kernel_rfl | rfl)) (by first | kernel_rfl | rfl) ?_)
          | refine go_do (valid_mv (.inr rfl) rfl) rfl ?_
          | refine go_do (valid_extract rfl rfl rfl rfl) rfl ?_
          | refine go_do (valid_cmp rfl rfl rfl rfl (by first | exact .eql1 (by omega) | exact .eql0 (by omega) | exact .neq1 (by omega) | exact .neq0 (by omega) | exact .lss1 (by omega) | exact .lss0 (by omega) | exact .leq1 (by omega) | exact .leq0 (by omega) | exact .gtr1 (by omega) | exact .gtr0 (by omega) | exact .geq1 (by omega) | exact .geq0 (by omega) | constructor)) rfl ?_
          | refine go_do (valid_ar rfl rfl rfl rfl (by constructor) (by first | exact wr_u64 (by omega) (by omega) | exact wr_i64 (by omega) (by omega) | rfl)) rfl ?_
          | (refine nxt_s 1 rfl ?_; refine go_do (valid_store_p rfl rfl rfl rfl rfl rfl (by first | kernel_rfl | rfl) rfl) (by first | kernel_rfl | rfl) ?_)
          | refine go_do (valid_call rfl rfl rfl (hc) (by kernel_rfl)) rfl ?_
          | refine go_do (valid_call rfl rfl rfl (hd) (by kernel_rfl)) rfl ?_)
      | (refine hK _ ?_; clear hK K)
      | refine aw_text rfl ?_
      | refine aw_cond1 rfl rfl ?_
      | refine aw_block ?_
      | refine aw_skip ?_
      | refine aw_seq_k (fun K hK => ?_))
    refine ⟨i + 1, by omega, by omega, ?_⟩
    rw [e]
    exact sub_of _ _ ⟨by kernel_rfl, by kernel_rfl, by kernel_rfl, by kernel_rfl, by kernel_rfl, trivial⟩ ⟨by kernel_rfl, by kernel_rfl, by kernel_rfl, by kernel_rfl, trivial⟩ (by kernel_rfl)
  · obtain rfl : i = 2 := by omega
    rw [show bgI a b c n 2 = bgK a b c n from rfl]
    repeat (first
      | (refine go_at rfl ?_; first
          | refine go_do (valid_mv (.inl rfl) rfl) rfl ?_
          | (refine nxt_s 1 rfl ?_; refine go_do (valid_load_p tb rfl rfl rfl rfl rfl (by first | kernel_rfl | rfl)) (by first | kernel_rfl | rfl) ?_)
          | refine go_do (valid_cmp rfl rfl rfl rfl (by first | exact .eql1 (by omega) | exact .eql0 (by omega) | exact .neq1 (by omega) | exact .neq0 (by omega) | exact .lss1 (by omega) | exact .lss0 (by omega) | exact .leq1 (by omega) | exact .leq0 (by omega) | exact .gtr1 (by omega) | exact .gtr0 (by omega) | exact .geq1 (by omega) | exact .geq0 (by omega) | constructor)) rfl ?_
          | (refine nxt_s 1 rfl ?_; refine go_do (valid_store_p rfl rfl rfl rfl rfl rfl (by first | kernel_rfl | rfl) rfl) (by first | kernel_rfl | rfl) ?_))
      | (refine hK _ ?_; clear hK K)
      | (rename_i K1 hK1; refine hK1 _ ?_; clear hK hK1; clear K)
      | refine aw_text rfl ?_
      | refine aw_any (by kernel_rfl) (by kernel_rfl) rfl ?_
      | exact aw_ret (show resA _ _ _ = some _ by kernel_rfl)
      | refine aw_cond0 rfl rfl ?_
      | refine aw_exit ?_
      | refine aw_seq_k (fun K hK => ?_))
theorem awake_ok : Ok 5 [] (.m (ib true)) := by
  have hN : Ok 7 [confA 4 8 2 1] (.tu [.ag c2.ce, .ag c2.ce]) := by rw [← bg2]; exact began_ok 4 8 2 1 (by decide)
  have hA := map_all i2 (by omega) 0 20480 4096 0 rw2 ⟨by omega, by omega⟩ ⟨by omega, by omega⟩
  rw [mA] at hA
  have hF := map_all iA (by omega) 0 20480 0 0 rw2 ⟨by omega, by omega⟩ ⟨by omega, by omega⟩
  rw [mF] at hF
  have hG2 := map_all iA (by omega) 1 20480 16384 0 rw2 ⟨by omega, by omega⟩ ⟨by omega, by omega⟩
  rw [mG] at hG2
  have hH := map_all iA (by omega) 1 20480 0 0 ⟨false, true, false, false⟩ ⟨by omega, by omega⟩ ⟨by omega, by omega⟩
  rw [mH] at hH
  have hI := map_all iA (by omega) (-1) 18446744073709547520 0 0 rw2 ⟨by omega, by omega⟩ ⟨by omega, by omega⟩
  rw [mI] at hI
  have hJ := map_all i2 (by omega) 0 1073762304 0 0 ⟨false, false, false, false⟩ ⟨by omega, by omega⟩ ⟨by omega, by omega⟩
  rw [mJ] at hJ
  have hL := list_all iB (by omega) 0
  rw [lA] at hL
  have hM := list_all iB (by omega) (-1)
  rw [lB] at hM
  have hO := list_all iB (by omega) 1
  rw [lC] at hO
  have hP := list_all iB (by omega) 9
  rw [lD] at hP
  have hx : ((flP [⟨20480, 4096, 0, true, true, false, false, false⟩]).drop ((0 : Int).toNat * 8)).take 8 = [.int .u64 20480, .int .u64 4096, .int .i64 0, .bool true, .bool true, .bool false, .bool false, .bool false] := rfl
  have hy : ((flP [⟨18446744073709547520, 0, 0, true, true, false, false, false⟩]).drop ((0 : Int).toNat * 8)).take 8 = [.int .u64 18446744073709547520, .int .u64 0, .int .i64 0, .bool true, .bool true, .bool false, .bool false, .bool false] := rfl
  have he : ∀ w, (Op.equalIn 10000 65 (.agg #[.int .u64 20480, .int .u64 4096, .int .i64 0, .bool true, .bool true, .bool false, .bool false, .bool false]) (.agg #[.int .u64 20480, .int .u64 4096, .int .i64 0, .bool true, .bool true, .bool false, .bool false, .bool false])).run Tryz.prog w = .ok true w := fun w => by rw [eq_page]; simp
  refine callOk_of 129 Tryz.func5 rfl rfl rfl rfl ?_ GG.to
  intro W A hG
  repeat (first
    | (refine go_at rfl ?_; first
        | refine go_do (valid_mv (.inr rfl) rfl) rfl ?_)
    | refine aw_text rfl ?_
    | refine aw_seq_k (fun K hK => ?_))
  first
    | (refine hK _ ?_; clear hK K)
    | (rename_i K1 hK1; refine hK1 _ ?_; clear hK hK1; clear K)
    | (rename_i K1 hK1; refine hK1 _ ?_; clear hK1)
  repeat (first
    | (refine go_at rfl ?_; first
        | refine go_do (valid_mv (.inl rfl) rfl) rfl ?_
        | refine go_do (valid_extract rfl rfl rfl rfl) rfl ?_
        | refine go_do (valid_alloc rfl rfl rfl rfl rfl) rfl ?_
        | (refine nxt_s 1 rfl ?_; refine go_do (valid_store_p rfl rfl rfl rfl rfl rfl (by first | kernel_rfl | rfl) rfl) (by first | kernel_rfl | rfl) ?_)
        | refine go_do (valid_build rfl rfl rfl rfl) rfl ?_
        | refine go_do (valid_call rfl rfl rfl (hN) (by kernel_rfl)) rfl ?_)
    | refine aw_text rfl ?_
    | refine aw_seq_k (fun K hK => ?_))
  first
    | (refine hK _ ?_; clear hK K)
    | (rename_i K1 hK1; refine hK1 _ ?_; clear hK hK1; clear K)
    | (rename_i K1 hK1; refine hK1 _ ?_; clear hK1)
  refine aw_sub (sub_of [(1, .m (.c (.p 1 0)))] [(1, .live (.box c2.ce))] ⟨by kernel_rfl, trivial⟩ ⟨by kernel_rfl, trivial⟩ (by kernel_rfl)) ?_
  repeat (first
    | (refine go_at rfl ?_; first
        | refine go_do (valid_alloc rfl rfl rfl rfl rfl) rfl ?_
        | (refine nxt_s 1 rfl ?_; refine go_do (valid_store_p rfl rfl rfl rfl rfl rfl (by first | kernel_rfl | rfl) rfl) (by first | kernel_rfl | rfl) ?_)
        | refine go_do (valid_build rfl rfl rfl rfl) rfl ?_)
    | refine aw_text rfl ?_
    | refine aw_seq_k (fun K hK => ?_))
  first
    | (refine hK _ ?_; clear hK K)
    | (rename_i K1 hK1; refine hK1 _ ?_; clear hK hK1; clear K)
    | (rename_i K1 hK1; refine hK1 _ ?_; clear hK1)
  refine aw_sub (sub_of [(1, .m (.c (.p 1 0))), (3, .m (.c (.p 3 0)))] [(1, .live (.box c2.ce)), (3, .live (.box rw2.ce))] ⟨by kernel_rfl, by kernel_rfl, trivial⟩ ⟨by kernel_rfl, by kernel_rfl, trivial⟩ (by kernel_rfl)) ?_
  repeat (first
    | (refine go_at rfl ?_; first
        | refine go_do (valid_mv (.inl rfl) rfl) rfl ?_
        | (refine nxt_s 1 rfl ?_; refine go_do (valid_load_p tb rfl rfl rfl rfl rfl (by first | kernel_rfl | rfl)) (by first | kernel_rfl | rfl) ?_)
        | refine go_do (valid_mv (.inr rfl) rfl) rfl ?_
        | refine go_do (valid_extract rfl rfl rfl rfl) rfl ?_
        | refine go_do (valid_alloc rfl rfl rfl rfl rfl) rfl ?_
        | (refine nxt_s 1 rfl ?_; refine go_do (valid_store_p rfl rfl rfl rfl rfl rfl (by first | kernel_rfl | rfl) rfl) (by first | kernel_rfl | rfl) ?_)
        | refine go_do (valid_call rfl rfl rfl (hA) (by kernel_rfl)) rfl ?_)
    | refine aw_text rfl ?_
    | refine aw_seq_k (fun K hK => ?_))
  first
    | (refine hK _ ?_; clear hK K)
    | (rename_i K1 hK1; refine hK1 _ ?_; clear hK hK1; clear K)
    | (rename_i K1 hK1; refine hK1 _ ?_; clear hK1)
  refine aw_sub (sub_of [(1, .m (.c (.p 1 0))), (3, .m (.c (.p 3 0))), (4, .m (.c (.p 4 0))), (5, .m (ii 0))] [(1, .live (.box c2.ce)), (3, .live (.box rw2.ce)), (4, .live (.box cA.ce))] ⟨by kernel_rfl, by kernel_rfl, by kernel_rfl, by kernel_rfl, trivial⟩ ⟨by kernel_rfl, by kernel_rfl, by kernel_rfl, trivial⟩ (by kernel_rfl)) ?_
  repeat (first
    | (refine go_at rfl ?_; first
        | refine go_do (valid_mv (.inl rfl) rfl) rfl ?_
        | (refine nxt_s 1 rfl ?_; refine go_do (valid_load_p tb rfl rfl rfl rfl rfl (by first | kernel_rfl | rfl)) (by first | kernel_rfl | rfl) ?_)
        | refine go_do (valid_mv (.inr rfl) rfl) rfl ?_
        | refine go_do (valid_extract rfl rfl rfl rfl) rfl ?_
        | refine go_do (valid_alloc rfl rfl rfl rfl rfl) rfl ?_
        | (refine nxt_s 1 rfl ?_; refine go_do (valid_store_p rfl rfl rfl rfl rfl rfl (by first | kernel_rfl | rfl) rfl) (by first | kernel_rfl | rfl) ?_)
        | refine go_do (valid_call rfl rfl rfl (hF) (by kernel_rfl)) rfl ?_)
    | refine aw_text rfl ?_
    | refine aw_seq_k (fun K hK => ?_))
  first
    | (refine hK _ ?_; clear hK K)
    | (rename_i K1 hK1; refine hK1 _ ?_; clear hK hK1; clear K)
    | (rename_i K1 hK1; refine hK1 _ ?_; clear hK1)
  refine aw_sub (sub_of [(1, .m (.c (.p 1 0))), (3, .m (.c (.p 3 0))), (4, .m (.c (.p 4 0))), (5, .m (ii 0)), (7, .m (ii 6))] [(1, .live (.box c2.ce)), (3, .live (.box rw2.ce)), (4, .live (.box cA.ce))] ⟨by kernel_rfl, by kernel_rfl, by kernel_rfl, by kernel_rfl, by kernel_rfl, trivial⟩ ⟨by kernel_rfl, by kernel_rfl, by kernel_rfl, trivial⟩ (by kernel_rfl)) ?_
  repeat (first
    | (refine go_at rfl ?_; first
        | refine go_do (valid_mv (.inl rfl) rfl) rfl ?_
        | (refine nxt_s 1 rfl ?_; refine go_do (valid_load_p tb rfl rfl rfl rfl rfl (by first | kernel_rfl | rfl)) (by first | kernel_rfl | rfl) ?_)
        | refine go_do (valid_mv (.inr rfl) rfl) rfl ?_
        | refine go_do (valid_extract rfl rfl rfl rfl) rfl ?_
        | refine go_do (valid_alloc rfl rfl rfl rfl rfl) rfl ?_
        | (refine nxt_s 1 rfl ?_; refine go_do (valid_store_p rfl rfl rfl rfl rfl rfl (by first | kernel_rfl | rfl) rfl) (by first | kernel_rfl | rfl) ?_)
        | refine go_do (valid_call rfl rfl rfl (hG2) (by kernel_rfl)) rfl ?_)
    | refine aw_text rfl ?_
    | refine aw_seq_k (fun K hK => ?_))
  first
    | (refine hK _ ?_; clear hK K)
    | (rename_i K1 hK1; refine hK1 _ ?_; clear hK hK1; clear K)
    | (rename_i K1 hK1; refine hK1 _ ?_; clear hK1)
  refine aw_sub (sub_of [(1, .m (.c (.p 1 0))), (3, .m (.c (.p 3 0))), (4, .m (.c (.p 4 0))), (5, .m (ii 0)), (7, .m (ii 6)), (9, .m (ii 3))] [(1, .live (.box c2.ce)), (3, .live (.box rw2.ce)), (4, .live (.box cA.ce))] ⟨by kernel_rfl, by kernel_rfl, by kernel_rfl, by kernel_rfl, by kernel_rfl, by kernel_rfl, trivial⟩ ⟨by kernel_rfl, by kernel_rfl, by kernel_rfl, trivial⟩ (by kernel_rfl)) ?_
  repeat (first
    | (refine go_at rfl ?_; first
        | refine go_do (valid_mv (.inl rfl) rfl) rfl ?_
        | (refine nxt_s 1 rfl ?_; refine go_do (valid_load_p tb rfl rfl rfl rfl rfl (by first | kernel_rfl | rfl)) (by first | kernel_rfl | rfl) ?_)
        | refine go_do (valid_mv (.inr rfl) rfl) rfl ?_
        | refine go_do (valid_extract rfl rfl rfl rfl) rfl ?_
        | refine go_do (valid_alloc rfl rfl rfl rfl rfl) rfl ?_
        | (refine nxt_s 1 rfl ?_; refine go_do (valid_store_p rfl rfl rfl rfl rfl rfl (by first | kernel_rfl | rfl) rfl) (by first | kernel_rfl | rfl) ?_)
        | refine go_do (valid_build rfl rfl rfl rfl) rfl ?_
        | refine go_do (valid_call rfl rfl rfl (hH) (by kernel_rfl)) rfl ?_)
    | refine aw_text rfl ?_
    | refine aw_seq_k (fun K hK => ?_))
  first
    | (refine hK _ ?_; clear hK K)
    | (rename_i K1 hK1; refine hK1 _ ?_; clear hK hK1; clear K)
    | (rename_i K1 hK1; refine hK1 _ ?_; clear hK1)
  refine aw_sub (sub_of [(1, .m (.c (.p 1 0))), (3, .m (.c (.p 3 0))), (4, .m (.c (.p 4 0))), (5, .m (ii 0)), (7, .m (ii 6)), (9, .m (ii 3)), (11, .m (ii 5))] [(1, .live (.box c2.ce)), (3, .live (.box rw2.ce)), (4, .live (.box cA.ce))] ⟨by kernel_rfl, by kernel_rfl, by kernel_rfl, by kernel_rfl, by kernel_rfl, by kernel_rfl, by kernel_rfl, trivial⟩ ⟨by kernel_rfl, by kernel_rfl, by kernel_rfl, trivial⟩ (by kernel_rfl)) ?_
  repeat (first
    | (refine go_at rfl ?_; first
        | refine go_do (valid_mv (.inl rfl) rfl) rfl ?_
        | (refine nxt_s 1 rfl ?_; refine go_do (valid_load_p tb rfl rfl rfl rfl rfl (by first | kernel_rfl | rfl)) (by first | kernel_rfl | rfl) ?_)
        | refine go_do (valid_mv (.inr rfl) rfl) rfl ?_
        | refine go_do (valid_extract rfl rfl rfl rfl) rfl ?_
        | refine go_do (valid_alloc rfl rfl rfl rfl rfl) rfl ?_
        | (refine nxt_s 1 rfl ?_; refine go_do (valid_store_p rfl rfl rfl rfl rfl rfl (by first | kernel_rfl | rfl) rfl) (by first | kernel_rfl | rfl) ?_)
        | refine go_do (valid_call rfl rfl rfl (hI) (by kernel_rfl)) rfl ?_)
    | refine aw_text rfl ?_
    | refine aw_seq_k (fun K hK => ?_))
  first
    | (refine hK _ ?_; clear hK K)
    | (rename_i K1 hK1; refine hK1 _ ?_; clear hK hK1; clear K)
    | (rename_i K1 hK1; refine hK1 _ ?_; clear hK1)
  refine aw_sub (sub_of [(1, .m (.c (.p 1 0))), (3, .m (.c (.p 3 0))), (4, .m (.c (.p 4 0))), (5, .m (ii 0)), (7, .m (ii 6)), (9, .m (ii 3)), (11, .m (ii 5)), (12, .m (.c (.p 12 0))), (13, .m (ii 0))] [(1, .live (.box c2.ce)), (3, .live (.box rw2.ce)), (4, .live (.box cA.ce)), (12, .live (.box cB.ce))] ⟨by kernel_rfl, by kernel_rfl, by kernel_rfl, by kernel_rfl, by kernel_rfl, by kernel_rfl, by kernel_rfl, by kernel_rfl, by kernel_rfl, trivial⟩ ⟨by kernel_rfl, by kernel_rfl, by kernel_rfl, by kernel_rfl, trivial⟩ (by kernel_rfl)) ?_
  repeat (first
    | (refine go_at rfl ?_; first
        | refine go_do (valid_mv (.inl rfl) rfl) rfl ?_
        | (refine nxt_s 1 rfl ?_; refine go_do (valid_load_p tb rfl rfl rfl rfl rfl (by first | kernel_rfl | rfl)) (by first | kernel_rfl | rfl) ?_)
        | refine go_do (valid_mv (.inr rfl) rfl) rfl ?_
        | refine go_do (valid_extract rfl rfl rfl rfl) rfl ?_
        | refine go_do (valid_alloc rfl rfl rfl rfl rfl) rfl ?_
        | (refine nxt_s 1 rfl ?_; refine go_do (valid_store_p rfl rfl rfl rfl rfl rfl (by first | kernel_rfl | rfl) rfl) (by first | kernel_rfl | rfl) ?_)
        | refine go_do (valid_build rfl rfl rfl rfl) rfl ?_
        | refine go_do (valid_call rfl rfl rfl (hJ) (by kernel_rfl)) rfl ?_)
    | refine aw_text rfl ?_
    | refine aw_seq_k (fun K hK => ?_))
  first
    | (refine hK _ ?_; clear hK K)
    | (rename_i K1 hK1; refine hK1 _ ?_; clear hK hK1; clear K)
    | (rename_i K1 hK1; refine hK1 _ ?_; clear hK1)
  refine aw_sub (sub_of [(1, .m (.c (.p 1 0))), (3, .m (.c (.p 3 0))), (4, .m (.c (.p 4 0))), (5, .m (ii 0)), (7, .m (ii 6)), (9, .m (ii 3)), (11, .m (ii 5)), (12, .m (.c (.p 12 0))), (13, .m (ii 0)), (15, .m (ii 5))] [(1, .live (.box c2.ce)), (3, .live (.box rw2.ce)), (4, .live (.box cA.ce)), (12, .live (.box cB.ce))] ⟨by kernel_rfl, by kernel_rfl, by kernel_rfl, by kernel_rfl, by kernel_rfl, by kernel_rfl, by kernel_rfl, by kernel_rfl, by kernel_rfl, by kernel_rfl, trivial⟩ ⟨by kernel_rfl, by kernel_rfl, by kernel_rfl, by kernel_rfl, trivial⟩ (by kernel_rfl)) ?_
  repeat (first
    | (refine go_at rfl ?_; first
        | (refine nxt_s 1 rfl ?_; refine go_do (valid_load_p tb rfl rfl rfl rfl rfl (by first | kernel_rfl | rfl)) (by first | kernel_rfl | rfl) ?_)
        | refine go_do (valid_mv (.inr rfl) rfl) rfl ?_
        | refine go_do (valid_call rfl rfl rfl (hL) (by kernel_rfl)) rfl ?_)
    | refine aw_text rfl ?_
    | refine aw_seq_k (fun K hK => ?_))
  first
    | (refine hK _ ?_; clear hK K)
    | (rename_i K1 hK1; refine hK1 _ ?_; clear hK hK1; clear K)
    | (rename_i K1 hK1; refine hK1 _ ?_; clear hK1)
  refine aw_sub (sub_of [(1, .m (.c (.p 1 0))), (3, .m (.c (.p 3 0))), (4, .m (.c (.p 4 0))), (5, .m (ii 0)), (7, .m (ii 6)), (9, .m (ii 3)), (11, .m (ii 5)), (12, .m (.c (.p 12 0))), (13, .m (ii 0)), (15, .m (ii 5)), (16, .m (.c (.s 1 8 (flP [⟨20480, 4096, 0, true, true, false, false, false⟩]))))] [(1, .live (.box c2.ce)), (3, .live (.box rw2.ce)), (4, .live (.box cA.ce)), (12, .live (.box cB.ce))] ⟨by kernel_rfl, by kernel_rfl, by kernel_rfl, by kernel_rfl, by kernel_rfl, by kernel_rfl, by kernel_rfl, by kernel_rfl, by kernel_rfl, by kernel_rfl, by kernel_rfl, trivial⟩ ⟨by kernel_rfl, by kernel_rfl, by kernel_rfl, by kernel_rfl, trivial⟩ (by kernel_rfl)) ?_
  repeat (first
    | (refine go_at rfl ?_; first
        | (refine nxt_s 1 rfl ?_; refine go_do (valid_load_p tb rfl rfl rfl rfl rfl (by first | kernel_rfl | rfl)) (by first | kernel_rfl | rfl) ?_)
        | refine go_do (valid_mv (.inr rfl) rfl) rfl ?_
        | refine go_do (valid_call rfl rfl rfl (hM) (by kernel_rfl)) rfl ?_)
    | refine aw_text rfl ?_
    | refine aw_seq_k (fun K hK => ?_))
  first
    | (refine hK _ ?_; clear hK K)
    | (rename_i K1 hK1; refine hK1 _ ?_; clear hK hK1; clear K)
    | (rename_i K1 hK1; refine hK1 _ ?_; clear hK1)
  refine aw_sub (sub_of [(1, .m (.c (.p 1 0))), (3, .m (.c (.p 3 0))), (4, .m (.c (.p 4 0))), (5, .m (ii 0)), (7, .m (ii 6)), (9, .m (ii 3)), (11, .m (ii 5)), (12, .m (.c (.p 12 0))), (13, .m (ii 0)), (15, .m (ii 5)), (16, .m (.c (.s 1 8 (flP [⟨20480, 4096, 0, true, true, false, false, false⟩])))), (17, .m (.c (.s 1 8 (flP [⟨18446744073709547520, 0, 0, true, true, false, false, false⟩]))))] [(1, .live (.box c2.ce)), (3, .live (.box rw2.ce)), (4, .live (.box cA.ce)), (12, .live (.box cB.ce))] ⟨by kernel_rfl, by kernel_rfl, by kernel_rfl, by kernel_rfl, by kernel_rfl, by kernel_rfl, by kernel_rfl, by kernel_rfl, by kernel_rfl, by kernel_rfl, by kernel_rfl, by kernel_rfl, trivial⟩ ⟨by kernel_rfl, by kernel_rfl, by kernel_rfl, by kernel_rfl, trivial⟩ (by kernel_rfl)) ?_
  repeat (first
    | (refine go_at rfl ?_; first
        | refine go_do (valid_mv (.inl rfl) rfl) rfl ?_
        | (refine nxt_s 1 rfl ?_; refine go_do (valid_load_p tb rfl rfl rfl rfl rfl (by first | kernel_rfl | rfl)) (by first | kernel_rfl | rfl) ?_)
        | (refine nxt_s 1 rfl ?_; refine go_do (valid_fld_p tb rfl rfl rfl (by kernel_rfl)) rfl ?_)
        | refine go_do (valid_mv (.inr rfl) rfl) rfl ?_
        | refine go_do (valid_pick rfl rfl rfl) rfl ?_
        | refine go_do (valid_cmp rfl rfl rfl rfl (by first | exact .eql1 (by omega) | exact .eql0 (by omega) | exact .neq1 (by omega) | exact .neq0 (by omega) | exact .lss1 (by omega) | exact .lss0 (by omega) | exact .leq1 (by omega) | exact .leq0 (by omega) | exact .gtr1 (by omega) | exact .gtr0 (by omega) | exact .geq1 (by omega) | exact .geq0 (by omega) | constructor)) rfl ?_
        | refine go_do (valid_len_s rfl rfl rfl rfl) rfl ?_
        | (refine nxt_s 3 rfl ?_; refine go_do (valid_load_q tb rfl rfl rfl rfl (by first | kernel_rfl | rfl)) rfl ?_)
        | (refine nxt_s 3 rfl ?_; refine go_do (valid_fld_q tb rfl rfl rfl rfl) rfl ?_)
        | refine go_do (valid_build rfl rfl rfl rfl) rfl ?_
        | (refine nxt_s 4 rfl ?_; refine go_do (valid_idx_s rfl rfl rfl rfl rfl rfl (by omega) (by omega) _ (by assumption)) rfl ?_)
        | (refine nxt_dst 113 rfl ?_; refine go_do (valid_call rfl rfl rfl (hO) (by kernel_rfl)) rfl ?_)
        | (refine nxt_dst 119 rfl ?_; refine go_do (valid_call rfl rfl rfl (hP) (by kernel_rfl)) rfl ?_)
        | refine go_do (valid_eql (us := [.int .u64 20480, .int .u64 4096, .int .i64 0, .bool true, .bool true, .bool false, .bool false, .bool false]) (vs := [.int .u64 20480, .int .u64 4096, .int .i64 0, .bool true, .bool true, .bool false, .bool false, .bool false]) he (by kernel_rfl) rfl rfl rfl rfl) rfl ?_)
    | (refine hK _ ?_; clear hK K)
    | refine aw_any (by kernel_rfl) (by kernel_rfl) rfl ?_
    | exact aw_ret (show resA _ _ _ = some _ by kernel_rfl)
    | refine aw_seq_k (fun K hK => ?_))
end Go.Proofs.YtmoccajgjnjelaaGreatDoor.LaI
