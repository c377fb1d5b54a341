/- Texts of this claim, one behind the other: PteR, VaR, RfC. -/
import Derived.Test.YtkffmaeiplgjeaaGreatDoorM9
import Derived.Test.YtkffmaeiplgjeaaGreatDoorM14
import Derived.Test.YtkffmaeiplgjeaaGreatDoorM8
import Derived.Test.YtkffmaeiplgjeaaGreatDoorM16
/- The contracts of the reference of the layer pte: each call comes to the same plain entry, word or truth. -/
namespace Go.Proofs.YtkffmaeiplgjeaaGreatDoor.PteR
open Go.RowKit Go.Proofs.YtkffmaeiplgjeaaGreatDoor.Bv Go.Proofs.YtkffmaeiplgjeaaGreatDoor.VaSpec Go.Proofs.YtkffmaeiplgjeaaGreatDoor.Base Go.Proofs.YtkffmaeiplgjeaaGreatDoor.BitsC Go.Proofs.YtkffmaeiplgjeaaGreatDoor.VaC Go.Proofs.YtkffmaeiplgjeaaGreatDoor.PteSpec Go.Proofs.YtkffmaeiplgjeaaGreatDoor.PteC
set_option linter.unusedVariables false
set_option linter.unusedSimpArgs false
theorem rleaf_calls (v r w x u g a d : Bool) (rsw ppn high : Int) (W : World) :
    Calls Tryz.prog 125 #[.agg #[.bool v, .bool r, .bool w, .bool x, .bool u, .bool g, .bool a, .bool d, .int .u64 rsw, .int .u64 ppn, .int .u64 high]] W fun e w' => e = .returned (.bool (leafP ⟨v, r, w, x, u, g, a, d, rsw, ppn, high⟩)) ∧ Below W.heap.size W w' := by
  go_enter Tryz.func125, Tryz.ntmps125
  go_wp2
  all_goals
    go_ret
    refine ⟨congrArg (fun z => Ending.returned (.bool z)) (by simp [leafP, *]), (by repeat (first | (with_reducible exact Below.refl _ _) | (with_reducible apply bel_drewN) | (with_reducible apply bel_alloc) | (with_reducible apply bel_trans; rotate_left; with_reducible assumption) | (with_reducible refine bel_setCell _ _ _ (by first | omega | (simp; done) | (simp; omega) | (simp at *; omega)) ?_)))⟩
theorem link_of_leaf (v r w x u g a d : Bool) (rsw ppn high : Int) : (v && !leafP ⟨v, r, w, x, u, g, a, d, rsw, ppn, high⟩) = linkP ⟨v, r, w, x, u, g, a, d, rsw, ppn, high⟩ := by
  cases v <;> cases r <;> cases x <;> rfl
theorem rlink_calls (v r w x u g a d : Bool) (rsw ppn high : Int) (W : World) :
    Calls Tryz.prog 108 #[.agg #[.bool v, .bool r, .bool w, .bool x, .bool u, .bool g, .bool a, .bool d, .int .u64 rsw, .int .u64 ppn, .int .u64 high]] W fun e w' => e = .returned (.bool (linkP ⟨v, r, w, x, u, g, a, d, rsw, ppn, high⟩)) ∧ Below W.heap.size W w' := by
  have H := Lib.hid (link_of_leaf v r w x u g a d rsw ppn high)
  go_enter Tryz.func108, Tryz.ntmps108
  go_wp2_with (go_at_call 125; (with_reducible refine (rleaf_calls _ _ _ _ _ _ _ _ _ _ _ _).mono ?_); rintro e w1 ⟨rfl, hb⟩)
  all_goals
    go_ret
    refine ⟨congrArg (fun z => Ending.returned (.bool z)) (by rw [← H.out]; simp [*]), (by repeat (first | (with_reducible exact Below.refl _ _) | (with_reducible apply bel_drewN) | (with_reducible apply bel_alloc) | (with_reducible apply bel_trans; rotate_left; with_reducible assumption) | (with_reducible refine bel_setCell _ _ _ (by first | omega | (simp; done) | (simp; omega) | (simp at *; omega)) ?_)))⟩
set_option maxHeartbeats 800000 in
theorem rbad_calls (v r w x u g a d : Bool) (rsw ppn high : Int) (l : Int) (W : World) (h1 : U rsw) (h2 : U ppn) (h3 : U high) (l0 : 0 ≤ l) (l2 : l ≤ 2) :
    Calls Tryz.prog 109 #[.agg #[.bool v, .bool r, .bool w, .bool x, .bool u, .bool g, .bool a, .bool d, .int .u64 rsw, .int .u64 ppn, .int .u64 high], .int .i64 l] W fun e w' => e = .returned (.bool (badP ⟨v, r, w, x, u, g, a, d, rsw, ppn, high⟩ l)) ∧ Below W.heap.size W w' := by
  rcases lev l0 l2 with rfl | rfl | rfl
  all_goals
    go_enter Tryz.func109, Tryz.ntmps109
    go_wp2
    all_goals
      go_ret
      refine ⟨congrArg (fun z => Ending.returned (.bool z)) ?_, (by repeat (first | (with_reducible exact Below.refl _ _) | (with_reducible apply bel_drewN) | (with_reducible apply bel_alloc) | (with_reducible apply bel_trans; rotate_left; with_reducible assumption) | (with_reducible refine bel_setCell _ _ _ (by first | omega | (simp; done) | (simp; omega) | (simp at *; omega)) ?_)))⟩
      first
        | (simp [badP, linkP, sz, *]; done)
        | (simp [badP, linkP, sz, *]; omega)
        | (simp_all [badP, linkP, sz]; done)
        | (simp_all [badP, linkP, sz]; omega)
        | (rw [Bool.eq_iff_iff]; simp_all [badP, linkP, sz]; omega)
set_option maxHeartbeats 800000 in
theorem rget_calls (x : Int) (W : World) (hx : U x) :
    Calls Tryz.prog 84 #[.int .u64 x] W fun e w' => e = .returned (.agg #[.bool (pteOf x).v, .bool (pteOf x).r, .bool (pteOf x).w, .bool (pteOf x).x, .bool (pteOf x).u, .bool (pteOf x).g, .bool (pteOf x).a, .bool (pteOf x).d, .int .u64 (pteOf x).rsw, .int .u64 (pteOf x).ppn, .int .u64 (pteOf x).high]) ∧ Below W.heap.size W w' := by
  obtain ⟨x0, x1⟩ := hx
  obtain ⟨y, hy⟩ := u64_B x0 x1
  have Hb : ∀ i : Nat, i ≤ 7 → Hid (RefS.bt y i = bitI x i) := fun i hi => Lib.hid (by
    unfold RefS.bt bitI; rw [hy]; unfold B
    rw [BitVec.getLsbD, Nat.testBit, Nat.shiftRight_eq_div_pow, Nat.and_comm, Nat.and_one_is_mod, Int.toNat_natCast]
    rw [show ((y.toNat : Int) / 2 ^ i % 2 == 1) = ((y.toNat / 2 ^ i % 2 : Nat) == 1) by
      rw [Bool.eq_iff_iff, beq_iff_eq, beq_iff_eq]; norm_cast]
    rcases Nat.mod_two_eq_zero_or_one (y.toNat / 2 ^ i) with h | h <;> rw [h] <;> rfl)
  have HY := Lib.hid hy; clear hy
  go_enter Tryz.func84, Tryz.ntmps84
  go_wp2_with (go_at_call 70; rw [HY.out]; (with_reducible refine (RefS.bit_same _ _ _ (by omega) (by omega)).mono ?_); rw [← HY.out]; rintro e w' ⟨rfl, rfl⟩)
  have hb : ∀ i : Nat, i ≤ 7 → RefS.bt y i = bitI x i := fun i hi => (Hb i hi).out
  rw [hb 0 (by omega), hb 1 (by omega), hb 2 (by omega), hb 3 (by omega), hb 4 (by omega), hb 5 (by omega), hb 6 (by omega), hb 7 (by omega)]
  refine bodyPost_ret (v := .agg #[.bool (pteOf x).v, .bool (pteOf x).r, .bool (pteOf x).w, .bool (pteOf x).x, .bool (pteOf x).u, .bool (pteOf x).g, .bool (pteOf x).a, .bool (pteOf x).d, .int .u64 (pteOf x).rsw, .int .u64 (pteOf x).ppn, .int .u64 (pteOf x).high]) ?_ rfl ?_
  · simp [results, Tryz.results84, go_sem, pteOf]
  · exact ⟨rfl, (by repeat (first | (with_reducible exact Below.refl _ _) | (with_reducible apply bel_drewN) | (with_reducible apply bel_alloc) | (with_reducible apply bel_trans; rotate_left; with_reducible assumption) | (with_reducible refine bel_setCell _ _ _ (by first | omega | (simp; done) | (simp; omega) | (simp at *; omega)) ?_)))⟩
def f8 (v r w x u g a d : Bool) : Nat → Bool
  | 0 => v
  | 1 => r
  | 2 => w
  | 3 => x
  | 4 => u
  | 5 => g
  | 6 => a
  | _ => d
theorem row_low8 (v r w x u g a d : Bool) (rsw ppn high : Int) : rowI (f8 v r w x u g a d) 8 = low8 ⟨v, r, w, x, u, g, a, d, rsw, ppn, high⟩ := by
  unfold low8; simp only [rowI, f8]; omega
end Go.Proofs.YtkffmaeiplgjeaaGreatDoor.PteR
/- The contracts of the layer va's reference: each call comes to the plain number of VaSpec. -/
namespace Go.Proofs.YtkffmaeiplgjeaaGreatDoor.VaR
open Go.RowKit Go.Proofs.YtkffmaeiplgjeaaGreatDoor.Bv Go.Proofs.YtkffmaeiplgjeaaGreatDoor.VaSpec Go.Proofs.YtkffmaeiplgjeaaGreatDoor.Base Go.Proofs.YtkffmaeiplgjeaaGreatDoor.BitsC Go.Proofs.YtkffmaeiplgjeaaGreatDoor.VaC
set_option linter.unusedVariables false
set_option linter.unusedSimpArgs false
theorem ris_calls (a : Int) (w : World) : Calls Tryz.prog 78 #[.int .u64 a] w fun e w' => e = .returned (.bool (isv a)) ∧ Q w w' := by
  have H := Lib.hid (show (decide (a < 274877906944) || decide (18446743798831644672 ≤ a)) = isv a from rfl)
  by_cases h : a < 274877906944
  · have H2 := Lib.hid (show isv a = true by unfold isv; simp [h])
    go_enter Tryz.func78, Tryz.ntmps78
    go_wp2
    go_ret
    exact ⟨congrArg (fun z => Ending.returned (.bool z)) H2.out.symm, Q.refl _⟩
  · have hd : decide (a < 274877906944) = false := by simpa using h
    by_cases h2 : 18446743798831644672 ≤ a
    · have H2 := Lib.hid (show isv a = true by unfold isv; simp [h2])
      go_enter Tryz.func78, Tryz.ntmps78
      go_wp2
      go_ret
      exact ⟨congrArg (fun z => Ending.returned (.bool z)) H2.out.symm, Q.refl _⟩
    · have H2 := Lib.hid (show isv a = false by unfold isv; simp [h2]; omega)
      go_enter Tryz.func78, Tryz.ntmps78
      go_wp2
      go_ret
      exact ⟨congrArg (fun z => Ending.returned (.bool z)) H2.out.symm, Q.refl _⟩
set_option maxHeartbeats 400000 in
theorem rsize_calls (l : Int) (w : World) (h0 : 0 ≤ l) (h2 : l ≤ 2) : Calls Tryz.prog 80 #[.int .i64 l] w fun e w' => e = .returned (.int .u64 (sz l)) ∧ Q w w' := by
  obtain ⟨n, rfl⟩ := Int.eq_ofNat_of_zero_le h0
  go_enter Tryz.func80, Tryz.ntmps80
  go_wp2
  go_loop [3, 4] (fun x k => ∃ j : Nat, j ≤ n ∧ k = .int .i64 j ∧ x = .int .u64 (sz j)) (fun _ k => n - (intOf k).toNat)
  case atStart => exact ⟨0, by omega, rfl, rfl⟩
  case round =>
    obtain ⟨j, hj, rfl, rfl⟩ := hrel
    by_cases hlt : j < n
    · have hp := sz_pos j
      have hq := sz_le j
      go_wp2
      refine ⟨⟨j + 1, by omega, by go_num, ?_⟩, ?_⟩
      · have : j = 0 ∨ j = 1 := by omega
        rcases this with rfl | rfl <;> rfl
      · simp [intOf]; omega
    · obtain rfl : j = n := by omega
      go_wp2
      go_ret
      exact ⟨rfl, Q.refl _⟩
theorem div_u64 (a l : Int) (a0 : 0 ≤ a) (a1 : a < 18446744073709551616) : IntKind.u64.wrap (Int.tdiv a (sz l)) = a / sz l := by
  have := sz_pos l
  rw [Int.tdiv_eq_ediv_of_nonneg a0, wrap_u64]
  have h1 : 0 ≤ a / sz l := Int.ediv_nonneg a0 (by omega)
  have h2 : a / sz l ≤ a := Int.ediv_le_self _ a0
  omega
theorem ridx_calls (a l : Int) (w : World) (a0 : 0 ≤ a) (a1 : a < 18446744073709551616) (h0 : 0 ≤ l) (h2 : l ≤ 2) : Calls Tryz.prog 44 #[.int .u64 a, .int .i64 l] w fun e w' => e = .returned (.int .i64 (idx a l)) ∧ Q w w' := by
  have hz : (sz l == 0) = false := by simpa using sz_ne l
  have hp := sz_pos l
  go_enter Tryz.func44, Tryz.ntmps44
  go_wp2_with (go_at_call 80; refine (rsize_calls l _ h0 h2).mono ?_; rintro e w' ⟨rfl, ⟨nd, rfl⟩⟩)
  go_ret
  refine ⟨?_, by repeat (first | exact Q.refl _ | apply Q.step)⟩
  have h1 : 0 ≤ a / sz l := Int.ediv_nonneg a0 (by omega)
  exact congrArg (fun z => Ending.returned (.int .i64 z)) (by rw [Int.tmod_eq_emod_of_nonneg h1]; unfold idx wrap64; omega)
theorem rnum_calls (a : Int) (w : World) (a0 : 0 ≤ a) (a1 : a < 18446744073709551616) : Calls Tryz.prog 140 #[.int .u64 a] w fun e w' => e = .returned (.int .u64 (num a)) ∧ Q w w' := by
  go_enter Tryz.func140, Tryz.ntmps140
  go_wp2
  go_ret
  exact ⟨rfl, Q.refl _⟩
theorem roff_calls (a l : Int) (w : World) (a0 : 0 ≤ a) (a1 : a < 18446744073709551616) (h0 : 0 ≤ l) (h2 : l ≤ 2) : Calls Tryz.prog 79 #[.int .u64 a, .int .i64 l] w fun e w' => e = .returned (.int .u64 (off a l)) ∧ Q w w' := by
  have hz : (sz l == 0) = false := by simpa using sz_ne l
  have hp := sz_pos l
  go_enter Tryz.func79, Tryz.ntmps79
  go_wp2_with (go_at_call 80; refine (rsize_calls l _ h0 h2).mono ?_; rintro e w' ⟨rfl, ⟨nd, rfl⟩⟩)
  go_ret
  exact ⟨rfl, by repeat (first | exact Q.refl _ | apply Q.step)⟩
theorem rfits_calls (a l : Int) (w : World) (a0 : 0 ≤ a) (a1 : a < 18446744073709551616) (h0 : 0 ≤ l) (h2 : l ≤ 2) : Calls Tryz.prog 43 #[.int .u64 a, .int .i64 l] w fun e w' => e = .returned (.bool (fits a l)) ∧ Q w w' := by
  cases hi : isv a
  all_goals
    have hf : fits a l = (isv a && (off a l == 0)) := rfl
    rw [hi] at hf
    have Hf := Lib.hid hf; clear hf
    have Hi := Lib.hid hi; clear hi
    go_enter Tryz.func43, Tryz.ntmps43
    go_wp2_with (first | (go_at_call 78; refine (ris_calls a _).mono ?_; rw [Hi.out]; rintro e w' ⟨rfl, ⟨nd, rfl⟩⟩) | (go_at_call 79; refine (roff_calls a l _ a0 a1 h0 h2).mono ?_; rintro e w' ⟨rfl, ⟨nd, rfl⟩⟩))
    go_ret
    refine ⟨?_, by repeat (first | exact Q.refl _ | apply Q.step)⟩
    rw [Hf.out]; rfl
end Go.Proofs.YtkffmaeiplgjeaaGreatDoor.VaR
/- The abstract walk: the document's Word, At, Links, Frames of an empty table, Fresh, Back; its fences over a buffer of zeros. -/
namespace Go.Proofs.YtkffmaeiplgjeaaGreatDoor.RfC
open Go.RowKit Go.Proofs.YtkffmaeiplgjeaaGreatDoor.Bv Go.Proofs.YtkffmaeiplgjeaaGreatDoor.VaSpec Go.Proofs.YtkffmaeiplgjeaaGreatDoor.Base Go.Proofs.YtkffmaeiplgjeaaGreatDoor.MemL Go.Proofs.YtkffmaeiplgjeaaGreatDoor.RegR Go.Proofs.YtkffmaeiplgjeaaGreatDoor.Ax Go.Proofs.YtkffmaeiplgjeaaGreatDoor.MemC Go.Proofs.YtkffmaeiplgjeaaGreatDoor.PutC Go.Proofs.YtkffmaeiplgjeaaGreatDoor.MemC3 Go.Proofs.YtkffmaeiplgjeaaGreatDoor.TzC Go.Proofs.YtkffmaeiplgjeaaGreatDoor.OkS Go.Proofs.YtkffmaeiplgjeaaGreatDoor.SpA Go.Proofs.YtkffmaeiplgjeaaGreatDoor.SpB Go.Proofs.YtkffmaeiplgjeaaGreatDoor.SpC Go.Proofs.YtkffmaeiplgjeaaGreatDoor.SpD Go.Proofs.YtkffmaeiplgjeaaGreatDoor.IterC Go.Proofs.YtkffmaeiplgjeaaGreatDoor.SpE Go.Proofs.YtkffmaeiplgjeaaGreatDoor.SpF Go.Proofs.YtkffmaeiplgjeaaGreatDoor.SpG Go.Proofs.YtkffmaeiplgjeaaGreatDoor.SpH Go.Proofs.YtkffmaeiplgjeaaGreatDoor.SpI Go.Proofs.YtkffmaeiplgjeaaGreatDoor.SpJ Go.Proofs.YtkffmaeiplgjeaaGreatDoor.SpK Go.Proofs.YtkffmaeiplgjeaaGreatDoor.SpN Go.Proofs.YtkffmaeiplgjeaaGreatDoor.RfP Go.Proofs.YtkffmaeiplgjeaaGreatDoor.RfQ Go.Proofs.YtkffmaeiplgjeaaGreatDoor.RfA Go.Proofs.YtkffmaeiplgjeaaGreatDoor.RfB
open Go.Proofs.YtkffmaeiplgjeaaGreatDoor.BitsC Go.Proofs.YtkffmaeiplgjeaaGreatDoor.PteSpec
set_option linter.unusedVariables false
set_option linter.unusedSimpArgs false
set_option maxRecDepth 10000
set_option maxHeartbeats 800000
theorem rget_ok (x : Int) (hx : U x) : Ok 84 [iu x] (.m (.ag (pteOf x).ce)) :=
  ok_plain #[.int .u64 x] (.agg #[.bool (pteOf x).v, .bool (pteOf x).r, .bool (pteOf x).w, .bool (pteOf x).x, .bool (pteOf x).u, .bool (pteOf x).g, .bool (pteOf x).a, .bool (pteOf x).d, .int .u64 (pteOf x).rsw, .int .u64 (pteOf x).ppn, .int .u64 (pteOf x).high]) fun W _ => (PteR.rget_calls x W hx).mono fun e w' h => h
theorem rlink_ok (q : Pte) : Ok 108 [.ag q.ce] (.m (ib (linkP q))) :=
  ok_plain #[.agg #[.bool q.v, .bool q.r, .bool q.w, .bool q.x, .bool q.u, .bool q.g, .bool q.a, .bool q.d, .int .u64 q.rsw, .int .u64 q.ppn, .int .u64 q.high]] (.bool (linkP q)) fun W _ => (PteR.rlink_calls q.v q.r q.w q.x q.u q.g q.a q.d q.rsw q.ppn q.high W).mono fun e w' h => h
theorem rbad_ok (q : Pte) (h : q.U) (l : Int) (l0 : 0 ≤ l) (l2 : l ≤ 2) : Ok 109 [.ag q.ce, ii l] (.m (ib (badP q l))) :=
  ok_plain #[.agg #[.bool q.v, .bool q.r, .bool q.w, .bool q.x, .bool q.u, .bool q.g, .bool q.a, .bool q.d, .int .u64 q.rsw, .int .u64 q.ppn, .int .u64 q.high], .int .i64 l] (.bool (badP q l)) fun W _ => (PteR.rbad_calls q.v q.r q.w q.x q.u q.g q.a q.d q.rsw q.ppn q.high l W h.1 h.2.1 h.2.2 l0 l2).mono fun e w' h => h
theorem ris_ok (a : Int) : Ok 78 [iu a] (.m (ib (isv a))) :=
  ok_plain #[.int .u64 a] (.bool (isv a)) fun W _ => (VaR.ris_calls a W).mono fun e w' ⟨he, hq⟩ => ⟨he, Q.below hq⟩
theorem ridx_ok (a l : Int) (ha : U a) (h0 : 0 ≤ l) (h2 : l ≤ 2) : Ok 44 [iu a, ii l] (.m (ii (idx a l))) :=
  ok_plain #[.int .u64 a, .int .i64 l] (.int .i64 (idx a l)) fun W _ => (VaR.ridx_calls a l W ha.1 ha.2 h0 h2).mono fun e w' ⟨he, hq⟩ => ⟨he, Q.below hq⟩
theorem rfits_ok (a l : Int) (ha : U a) (h0 : 0 ≤ l) (h2 : l ≤ 2) : Ok 43 [iu a, ii l] (.m (ib (fits a l))) :=
  ok_plain #[.int .u64 a, .int .i64 l] (.bool (fits a l)) fun W _ => (VaR.rfits_calls a l W ha.1 ha.2 h0 h2).mono fun e w' ⟨he, hq⟩ => ⟨he, Q.below hq⟩
attribute [local irreducible] Go.Proofs.YtkffmaeiplgjeaaGreatDoor.Ax.CallOk
theorem rword_ok (sz : Int) (m : List (Int × Int)) (a : Int) (ha : U a) (hs : Srt m) (hl : m.length ≤ 1000000) : Ok 85 [memA sz m, iu a] (.m (iu (wordM sz m a))) := by
  unfold wordM
  by_cases hlt : a < sz
  rotate_left
  · rw [if_neg hlt]
    refine callOk_of 49 Tryz.func85 rfl rfl rfl rfl ?_ GG.to
    intro W A hG
    repeat (first
      | (refine go_at rfl ?_; first
          | refine go_do (valid_mv (.inl rfl) rfl) rfl ?_
          | (refine nxt_s 1 rfl ?_; refine go_do (valid_load_p tb rfl rfl rfl rfl rfl (by first | kernel_rfl | rfl)) (by first | kernel_rfl | rfl) ?_)
          | (refine nxt_s 1 rfl ?_; refine go_do (valid_fld_p tb rfl rfl rfl (by kernel_rfl)) rfl ?_)
          | refine go_do (valid_mv (.inr rfl) rfl) rfl ?_
          | refine go_do (valid_cmp rfl rfl rfl rfl (by first | exact .eql1 (by omega) | exact .eql0 (by omega) | exact .neq1 (by omega) | exact .neq0 (by omega) | exact .lss1 (by omega) | exact .lss0 (by omega) | exact .leq1 (by omega) | exact .leq0 (by omega) | exact .gtr1 (by omega) | exact .gtr0 (by omega) | exact .geq1 (by omega) | exact .geq0 (by omega) | constructor)) rfl ?_
          | refine go_do (valid_box rfl rfl rfl rfl rfl rfl) rfl ?_)
      | (refine hK _ ?_; clear hK K)
      | refine aw_text rfl ?_
      | exact aw_ret (show resA _ _ _ = some _ by kernel_rfl)
      | refine aw_cond1 rfl rfl ?_
      | refine aw_seq_k (fun K hK => ?_))
  rw [if_pos hlt]
  obtain ⟨r, hr⟩ : ∃ r, r = MemC.look m (a / 8) := ⟨_, rfl⟩
  rw [← hr]
  refine callOk_of 49 Tryz.func85 rfl rfl rfl rfl ?_ GG.to
  intro W A hG
  repeat (first
    | (refine go_at rfl ?_; first
        | refine go_do (valid_mv (.inl rfl) rfl) rfl ?_
        | (refine nxt_s 1 rfl ?_; refine go_do (valid_load_p tb rfl rfl rfl rfl rfl (by first | kernel_rfl | rfl)) (by first | kernel_rfl | rfl) ?_)
        | (refine nxt_s 1 rfl ?_; refine go_do (valid_fld_p tb rfl rfl rfl (by kernel_rfl)) rfl ?_)
        | refine go_do (valid_mv (.inr rfl) rfl) rfl ?_
        | refine go_do (valid_cmp rfl rfl rfl rfl (by first | exact .eql1 (by omega) | exact .eql0 (by omega) | exact .neq1 (by omega) | exact .neq0 (by omega) | exact .lss1 (by omega) | exact .lss0 (by omega) | exact .leq1 (by omega) | exact .leq0 (by omega) | exact .gtr1 (by omega) | exact .gtr0 (by omega) | exact .geq1 (by omega) | exact .geq0 (by omega) | constructor)) rfl ?_
        | refine go_do (valid_box rfl rfl rfl rfl rfl rfl) rfl ?_
        | refine go_do (valid_len_s rfl rfl rfl rfl) rfl ?_)
    | (refine hK _ ?_; clear hK K)
    | refine aw_text rfl ?_
    | refine aw_cond0 rfl rfl ?_
    | refine aw_block ?_
    | refine aw_skip ?_
    | refine aw_seq_k (fun K hK => ?_))
  refine aw_loopH (α := Nat × Nat) (fun q => q.1 ≤ lb m (a / 8) ∧ lb m (a / 8) ≤ q.2 ∧ q.2 ≤ m.length ∧ (q.2 = m.length ∨ ∃ c, m[q.2]? = some c ∧ a / 8 < c.1)) (fun q => St.of [(1, .m (iu a)), (2, .m (.c (.p 2 0))), (5, .m (ii q.1)), (6, .m (ii q.2))] [(2, .live (.box [cu sz, .s m.length 2 (fl m)]))]) (fun q => q.2 - q.1) (0, m.length) ⟨Nat.zero_le _, lb_le _ _, Nat.le_refl _, .inl rfl⟩ (sub_of _ _ ⟨rfl, rfl, rfl, rfl, trivial⟩ ⟨rfl, trivial⟩ rfl) ?_
  rintro ⟨lo, hi⟩ ⟨h1, h2, h3, h4⟩
  have g1 : lo ≤ lb m (a / 8) := h1
  have g2 : lb m (a / 8) ≤ hi := h2
  have g3 : hi ≤ m.length := h3
  have g4 : hi = m.length ∨ ∃ c, m[hi]? = some c ∧ a / 8 < c.1 := h4
  clear h1 h2 h3 h4
  show Aw _ _ _ _ (St.of [(1, .m (iu a)), (2, .m (.c (.p 2 0))), (5, .m (ii lo)), (6, .m (ii hi))] [(2, .live (.box [cu sz, .s m.length 2 (fl m)]))])
  by_cases hlo : lo < hi
  · have hmid : ((lo : Int) + (hi : Int)) / 2 = (((lo + hi) / 2 : Nat) : Int) := by omega
    have hml : (lo + hi) / 2 < m.length := by omega
    obtain ⟨c, hc⟩ : ∃ c, m[(lo + hi) / 2]? = some c := ⟨_, List.getElem?_eq_getElem hml⟩
    have hx : ((fl m).drop ((((lo : Int) + (hi : Int)) / 2).toNat * 2)).take 2 = [.int .u64 c.1, .int .u64 c.2] := by rw [hmid, Int.toNat_natCast]; exact SpL.fl_at2 hc
    have hlb := lt_lb m (a / 8) hs ((lo + hi) / 2) hml
    have hce : m[(lo + hi) / 2] = c := by rw [List.getElem?_eq_getElem hml] at hc; exact Option.some.inj hc
    rw [hce] at hlb
    by_cases e1 : c.1 = a / 8
    · have hlk : MemC.look m (a / 8) = c.2 := by
        have hle : lb m (a / 8) = (lo + hi) / 2 := by
          have n1 : ¬ (lo + hi) / 2 < lb m (a / 8) := fun h => by have := hlb.2 h; omega
          rcases Nat.lt_or_ge (lb m (a / 8)) ((lo + hi) / 2) with h | h
          · have hl2 := lt_lb m (a / 8) hs (lb m (a / 8)) (by omega)
            have hp := List.pairwise_iff_getElem.1 hs (lb m (a / 8)) ((lo + hi) / 2) (by omega) hml h
            rw [hce] at hp
            have := hl2.1 (by omega)
            omega
          · omega
        unfold MemC.look
        rw [hle, hc]
        simp [e1]
      obtain rfl : r = c.2 := hr.trans hlk
      repeat (first
        | (refine go_at rfl ?_; first
            | refine go_do (valid_mv (.inl rfl) rfl) rfl ?_
            | (refine nxt_s 1 rfl ?_; refine go_do (valid_load_p tb rfl rfl rfl rfl rfl (by first | kernel_rfl | rfl)) (by first | kernel_rfl | rfl) ?_)
            | (refine nxt_s 1 rfl ?_; refine go_do (valid_fld_p tb rfl rfl rfl (by kernel_rfl)) rfl ?_)
            | refine go_do (valid_mv (.inr rfl) rfl) rfl ?_
            | refine go_do (valid_cmp rfl rfl rfl rfl (by first | exact .eql1 (by omega) | exact .eql0 (by omega) | exact .neq1 (by omega) | exact .neq0 (by omega) | exact .lss1 (by omega) | exact .lss0 (by omega) | exact .leq1 (by omega) | exact .leq0 (by omega) | exact .gtr1 (by omega) | exact .gtr0 (by omega) | exact .geq1 (by omega) | exact .geq0 (by omega) | constructor)) rfl ?_
            | refine go_do (valid_ar rfl rfl rfl rfl (by constructor) (by first | exact wr_u64 (by omega) (by omega) | exact wr_i64 (by omega) (by omega) | rfl)) rfl ?_
            | refine go_do (valid_quo rfl rfl rfl rfl (by omega) (by omega) (by first | exact wr_u64 (by omega) (by omega) | exact wr_i64 (by omega) (by omega))) rfl ?_
            | (refine nxt_s 3 rfl ?_; refine go_do (valid_load_q tb rfl rfl rfl rfl (by first | kernel_rfl | rfl)) rfl ?_)
            | (refine nxt_s 3 rfl ?_; refine go_do (valid_fld_q tb rfl rfl rfl rfl) rfl ?_)
            | (refine nxt_s 4 rfl ?_; refine go_do (valid_idx_s rfl rfl rfl rfl rfl rfl (by omega) (by omega) _ (by assumption)) rfl ?_))
        | (refine hK _ ?_; clear hK K)
        | refine aw_text rfl ?_
        | exact aw_ret (show resA _ _ _ = some _ by kernel_rfl)
        | refine aw_cond1 rfl rfl ?_
        | refine aw_block ?_
        | refine aw_skip ?_
        | refine aw_seq_k (fun K hK => ?_))
    · by_cases e2 : c.1 < a / 8
      · have := hlb.1 e2
        repeat (first
          | (refine go_at rfl ?_; first
              | refine go_do (valid_mv (.inl rfl) rfl) rfl ?_
              | (refine nxt_s 1 rfl ?_; refine go_do (valid_load_p tb rfl rfl rfl rfl rfl (by first | kernel_rfl | rfl)) (by first | kernel_rfl | rfl) ?_)
              | (refine nxt_s 1 rfl ?_; refine go_do (valid_fld_p tb rfl rfl rfl (by kernel_rfl)) rfl ?_)
              | refine go_do (valid_mv (.inr rfl) rfl) rfl ?_
              | refine go_do (valid_cmp rfl rfl rfl rfl (by first | exact .eql1 (by omega) | exact .eql0 (by omega) | exact .neq1 (by omega) | exact .neq0 (by omega) | exact .lss1 (by omega) | exact .lss0 (by omega) | exact .leq1 (by omega) | exact .leq0 (by omega) | exact .gtr1 (by omega) | exact .gtr0 (by omega) | exact .geq1 (by omega) | exact .geq0 (by omega) | constructor)) rfl ?_
              | refine go_do (valid_ar rfl rfl rfl rfl (by constructor) (by first | exact wr_u64 (by omega) (by omega) | exact wr_i64 (by omega) (by omega) | rfl)) rfl ?_
              | refine go_do (valid_quo rfl rfl rfl rfl (by omega) (by omega) (by first | exact wr_u64 (by omega) (by omega) | exact wr_i64 (by omega) (by omega))) rfl ?_
              | (refine nxt_s 3 rfl ?_; refine go_do (valid_load_q tb rfl rfl rfl rfl (by first | kernel_rfl | rfl)) rfl ?_)
              | (refine nxt_s 3 rfl ?_; refine go_do (valid_fld_q tb rfl rfl rfl rfl) rfl ?_)
              | (refine nxt_s 4 rfl ?_; refine go_do (valid_idx_s rfl rfl rfl rfl rfl rfl (by omega) (by omega) _ (by assumption)) rfl ?_))
          | (refine hK _ ?_; clear hK K)
          | refine aw_text rfl ?_
          | refine aw_cond1 rfl rfl ?_
          | refine aw_cond0 rfl rfl ?_
          | refine aw_block ?_
          | refine aw_skip ?_
          | refine aw_seq_k (fun K hK => ?_))
        exact ⟨((lo + hi) / 2 + 1, hi), ⟨by show (lo + hi) / 2 + 1 ≤ _; omega, g2, g3, g4⟩, by show hi - ((lo + hi) / 2 + 1) < hi - lo; omega, sub_of _ _ ⟨rfl, rfl, rfl, rfl, trivial⟩ ⟨rfl, trivial⟩ rfl⟩
      · have : ¬ (lo + hi) / 2 < lb m (a / 8) := fun h => e2 (hlb.2 h)
        repeat (first
          | (refine go_at rfl ?_; first
              | refine go_do (valid_mv (.inl rfl) rfl) rfl ?_
              | (refine nxt_s 1 rfl ?_; refine go_do (valid_load_p tb rfl rfl rfl rfl rfl (by first | kernel_rfl | rfl)) (by first | kernel_rfl | rfl) ?_)
              | (refine nxt_s 1 rfl ?_; refine go_do (valid_fld_p tb rfl rfl rfl (by kernel_rfl)) rfl ?_)
              | refine go_do (valid_mv (.inr rfl) rfl) rfl ?_
              | refine go_do (valid_cmp rfl rfl rfl rfl (by first | exact .eql1 (by omega) | exact .eql0 (by omega) | exact .neq1 (by omega) | exact .neq0 (by omega) | exact .lss1 (by omega) | exact .lss0 (by omega) | exact .leq1 (by omega) | exact .leq0 (by omega) | exact .gtr1 (by omega) | exact .gtr0 (by omega) | exact .geq1 (by omega) | exact .geq0 (by omega) | constructor)) rfl ?_
              | refine go_do (valid_ar rfl rfl rfl rfl (by constructor) (by first | exact wr_u64 (by omega) (by omega) | exact wr_i64 (by omega) (by omega) | rfl)) rfl ?_
              | refine go_do (valid_quo rfl rfl rfl rfl (by omega) (by omega) (by first | exact wr_u64 (by omega) (by omega) | exact wr_i64 (by omega) (by omega))) rfl ?_
              | (refine nxt_s 3 rfl ?_; refine go_do (valid_load_q tb rfl rfl rfl rfl (by first | kernel_rfl | rfl)) rfl ?_)
              | (refine nxt_s 3 rfl ?_; refine go_do (valid_fld_q tb rfl rfl rfl rfl) rfl ?_)
              | (refine nxt_s 4 rfl ?_; refine go_do (valid_idx_s rfl rfl rfl rfl rfl rfl (by omega) (by omega) _ (by assumption)) rfl ?_))
          | (refine hK _ ?_; clear hK K)
          | refine aw_text rfl ?_
          | refine aw_cond1 rfl rfl ?_
          | refine aw_cond0 rfl rfl ?_
          | refine aw_block ?_
          | refine aw_skip ?_
          | refine aw_seq_k (fun K hK => ?_))
        exact ⟨(lo, (lo + hi) / 2), ⟨g1, by show lb m (a / 8) ≤ (lo + hi) / 2; omega, by show (lo + hi) / 2 ≤ m.length; omega, .inr ⟨c, hc, by omega⟩⟩, by show (lo + hi) / 2 - lo < hi - lo; omega, sub_of _ _ ⟨rfl, rfl, rfl, rfl, trivial⟩ ⟨rfl, trivial⟩ rfl⟩
  · have hlk : MemC.look m (a / 8) = 0 := by
      have e : lb m (a / 8) = hi := by omega
      unfold MemC.look
      rw [e]
      rcases g4 with h | ⟨c, hc, hlt⟩
      · rw [h, List.getElem?_eq_none (Nat.le_refl _)]
      · rw [hc]; simp; omega
    obtain rfl : r = 0 := hr.trans hlk
    repeat (first
      | (refine go_at rfl ?_; first
          | refine go_do (valid_mv (.inl rfl) rfl) rfl ?_
          | refine go_do (valid_mv (.inr rfl) rfl) rfl ?_
          | refine go_do (valid_cmp rfl rfl rfl rfl (by first | exact .eql1 (by omega) | exact .eql0 (by omega) | exact .neq1 (by omega) | exact .neq0 (by omega) | exact .lss1 (by omega) | exact .lss0 (by omega) | exact .leq1 (by omega) | exact .leq0 (by omega) | exact .gtr1 (by omega) | exact .gtr0 (by omega) | exact .geq1 (by omega) | exact .geq0 (by omega) | constructor)) rfl ?_)
      | (refine hK _ ?_; clear hK K)
      | (rename_i K1 hK1; refine hK1 _ ?_; clear hK hK1; clear K)
      | refine aw_text rfl ?_
      | exact aw_ret (show resA _ _ _ = some _ by kernel_rfl)
      | refine aw_cond0 rfl rfl ?_
      | refine aw_exit ?_
      | refine aw_seq_k (fun K hK => ?_))

theorem rat_ok (sz : Int) (m : List (Int × Int)) (f i : Int) (hf : 0 ≤ f ∧ f < 1099511627776) (hi : 0 ≤ i ∧ i < 512) (hs : Srt m) (hu : Uw m) (hl : m.length ≤ 1000000) : Ok 48 [memA sz m, iu f, ii i] (.m (.ag (pteOf (wordM sz m (4096 * f + 8 * i))).ce)) := by
  have h1 := rword_ok sz m (4096 * f + 8 * i) ⟨by omega, by omega⟩ hs hl
  have h2 := rget_ok (wordM sz m (4096 * f + 8 * i)) (hu.word sz _)
  refine callOk_of 16 Tryz.func48 rfl rfl rfl rfl ?_ GG.to
  intro W A hG
  repeat (first
    | (refine go_at rfl ?_; first
        | refine go_do (valid_mv (.inl rfl) rfl) rfl ?_
        | (refine nxt_s 1 rfl ?_; refine go_do (valid_load_p tb rfl rfl rfl rfl rfl (by first | kernel_rfl | rfl)) (by first | kernel_rfl | rfl) ?_)
        | refine go_do (valid_ar rfl rfl rfl rfl (by constructor) (by first | exact wr_u64 (by omega) (by omega) | exact wr_i64 (by omega) (by omega) | rfl)) rfl ?_
        | refine go_do (valid_cv rfl rfl rfl rfl rfl (by first | exact wr_u64 (by omega) (by omega) | exact wr_i64 (by omega) (by omega) | rfl)) rfl ?_
        | refine go_do (valid_box rfl rfl rfl rfl rfl rfl) rfl ?_
        | refine go_do (valid_alloc rfl rfl rfl rfl rfl) rfl ?_
        | (refine nxt_s 1 rfl ?_; refine go_do (valid_store_p rfl rfl rfl rfl rfl rfl (by first | kernel_rfl | rfl) rfl) (by first | kernel_rfl | rfl) ?_)
        | refine go_do (valid_call rfl rfl rfl (h1) (by kernel_rfl)) rfl ?_
        | refine go_do (valid_call rfl rfl rfl (h2) (by kernel_rfl)) rfl ?_)
    | (refine hK _ ?_; clear hK K)
    | refine aw_text rfl ?_
    | exact aw_ret (show resA _ _ _ = some _ by kernel_rfl)
    | refine aw_seq_k (fun K hK => ?_))
theorem rlinks_ok (q : Pte) (h : q.U) (l : Int) (l0 : 0 ≤ l) (l2 : l ≤ 2) : Ok 83 [.ag q.ce, ii l] (.m (ib (linksP q l))) := by
  have hk := rlink_ok q
  have hb := rbad_ok q h l l0 l2
  cases hl : linkP q with
  | false =>
    rw [hl] at hk
    rw [show linksP q l = false by simp [linksP, hl]]
    refine callOk_of 13 Tryz.func83 rfl rfl rfl rfl ?_ GG.to
    intro W A hG
    repeat (first
      | (refine go_at rfl ?_; first
          | refine go_do (valid_skip rfl) rfl ?_
          | refine go_do (valid_mv (.inl rfl) rfl) rfl ?_
          | (refine nxt_s 1 rfl ?_; refine go_do (valid_load_p tb rfl rfl rfl rfl rfl (by first | kernel_rfl | rfl)) (by first | kernel_rfl | rfl) ?_)
          | refine go_do (valid_mv (.inr rfl) rfl) rfl ?_
          | refine go_do (valid_pick rfl rfl rfl) rfl ?_
          | refine go_do (valid_box rfl rfl rfl rfl rfl rfl) rfl ?_
          | refine go_do (valid_call rfl rfl rfl (hk) (by kernel_rfl)) rfl ?_)
      | (refine hK _ ?_; clear hK K)
      | refine aw_text rfl ?_
      | exact aw_ret (show resA _ _ _ = some _ by kernel_rfl)
      | refine aw_seq_k (fun K hK => ?_))
  | true =>
    rw [hl] at hk
    rw [show linksP q l = !badP q l by simp [linksP, hl]]
    refine callOk_of 13 Tryz.func83 rfl rfl rfl rfl ?_ GG.to
    intro W A hG
    repeat (first
      | (refine go_at rfl ?_; first
          | refine go_do (valid_mv (.inl rfl) rfl) rfl ?_
          | (refine nxt_s 1 rfl ?_; refine go_do (valid_load_p tb rfl rfl rfl rfl rfl (by first | kernel_rfl | rfl)) (by first | kernel_rfl | rfl) ?_)
          | refine go_do (valid_mv (.inr rfl) rfl) rfl ?_
          | refine go_do (valid_pick rfl rfl rfl) rfl ?_
          | refine go_do (valid_box rfl rfl rfl rfl rfl rfl) rfl ?_
          | refine go_do (valid_not rfl rfl rfl) rfl ?_
          | refine go_do (valid_call rfl rfl rfl (hk) (by kernel_rfl)) rfl ?_
          | refine go_do (valid_call rfl rfl rfl (hb) (by kernel_rfl)) rfl ?_)
      | (refine hK _ ?_; clear hK K)
      | refine aw_text rfl ?_
      | exact aw_ret (show resA _ _ _ = some _ by kernel_rfl)
      | refine aw_seq_k (fun K hK => ?_))
theorem rframes0_ok (sz : Int) (m : List (Int × Int)) (f : Int) (hf : 0 ≤ f ∧ f < 1099511627776) (hs : Srt m) (hu : Uw m) (hl : m.length ≤ 1000000) (hz : ∀ i : Int, 0 ≤ i → i < 512 → wordM sz m (4096 * f + 8 * i) = 0) : Ok 102 [memA sz m, iu f, ii 2] (.m (.c (.s 1 1 [.int .u64 f]))) := by
  refine callOk_of 32 Tryz.func102 rfl rfl rfl rfl ?_ GG.to
  intro W A hG
  repeat (first
    | (refine go_at rfl ?_; first
        | refine go_do (valid_mv (.inl rfl) rfl) rfl ?_
        | refine go_do (valid_mv (.inr rfl) rfl) rfl ?_
        | refine go_do (valid_box rfl rfl rfl rfl rfl rfl) rfl ?_
        | refine go_do (valid_bslice rfl rfl rfl rfl rfl rfl rfl rfl rfl rfl rfl) rfl ?_)
    | (refine hK _ ?_; clear hK K)
    | refine aw_text rfl ?_
    | refine aw_block ?_
    | refine aw_seq_k (fun K hK => ?_))
  refine aw_loopH (α := Nat) (fun i => i ≤ 512) (fun i => St.of [(1, .m (iu f)), (2, .m (ii 2)), (3, .m (.c (.p 3 0))), (7, .m (.c (.o 11))), (8, .m (ii i))] [(3, .live (.box [cu sz, .s m.length 2 (fl m)])), (11, .live (.row 26 1 1 [.int .u64 f]))]) (fun i => 512 - i) 0 (by omega) (sub_of _ _ ⟨rfl, rfl, rfl, rfl, rfl, trivial⟩ ⟨rfl, rfl, trivial⟩ rfl) ?_
  intro i hi
  by_cases hlt : i < 512
  · have ha := rat_ok sz m f i hf ⟨by omega, by omega⟩ hs hu hl
    rw [hz i (by omega) (by omega)] at ha
    have hk := rlinks_ok (pteOf 0) (pteOf_U 0 (by omega) (by omega)) 2 (by omega) (by omega)
    rw [show linksP (pteOf 0) 2 = false by decide] at hk
    repeat (first
      | (refine go_at rfl ?_; first
          | refine go_do (valid_mv (.inl rfl) rfl) rfl ?_
          | (refine nxt_s 1 rfl ?_; refine go_do (valid_load_p tb rfl rfl rfl rfl rfl (by first | kernel_rfl | rfl)) (by first | kernel_rfl | rfl) ?_)
          | refine go_do (valid_mv (.inr rfl) rfl) rfl ?_
          | refine go_do (valid_cmp rfl rfl rfl rfl (by first | exact .eql1 (by omega) | exact .eql0 (by omega) | exact .neq1 (by omega) | exact .neq0 (by omega) | exact .lss1 (by omega) | exact .lss0 (by omega) | exact .leq1 (by omega) | exact .leq0 (by omega) | exact .gtr1 (by omega) | exact .gtr0 (by omega) | exact .geq1 (by omega) | exact .geq0 (by omega) | constructor)) rfl ?_
          | refine go_do (valid_ar rfl rfl rfl rfl (by constructor) (by first | exact wr_u64 (by omega) (by omega) | exact wr_i64 (by omega) (by omega) | rfl)) rfl ?_
          | refine go_do (valid_alloc rfl rfl rfl rfl rfl) rfl ?_
          | (refine nxt_s 1 rfl ?_; refine go_do (valid_store_p rfl rfl rfl rfl rfl rfl (by first | kernel_rfl | rfl) rfl) (by first | kernel_rfl | rfl) ?_)
          | refine go_do (valid_call rfl rfl rfl (ha) (by kernel_rfl)) rfl ?_
          | refine go_do (valid_call rfl rfl rfl (hk) (by kernel_rfl)) rfl ?_)
      | (refine hK _ ?_; clear hK K)
      | refine aw_text rfl ?_
      | refine aw_cond1 rfl rfl ?_
      | refine aw_cond0 rfl rfl ?_
      | refine aw_block ?_
      | refine aw_skip ?_
      | refine aw_seq_k (fun K hK => ?_))
    exact ⟨i + 1, by omega, by omega, sub_of _ _ ⟨rfl, rfl, rfl, rfl, rfl, trivial⟩ ⟨rfl, rfl, trivial⟩ rfl⟩
  · skip
    repeat (first
      | (refine go_at rfl ?_; first
          | refine go_do (valid_mv (.inl rfl) rfl) rfl ?_
          | refine go_do (valid_mv (.inr rfl) rfl) rfl ?_
          | refine go_do (valid_cmp rfl rfl rfl rfl (by first | exact .eql1 (by omega) | exact .eql0 (by omega) | exact .neq1 (by omega) | exact .neq0 (by omega) | exact .lss1 (by omega) | exact .lss0 (by omega) | exact .leq1 (by omega) | exact .leq0 (by omega) | exact .gtr1 (by omega) | exact .gtr0 (by omega) | exact .geq1 (by omega) | exact .geq0 (by omega) | constructor)) rfl ?_)
      | (refine hK _ ?_; clear hK K)
      | (rename_i K1 hK1; refine hK1 _ ?_; clear hK hK1; clear K)
      | refine aw_text rfl ?_
      | exact aw_ret (show resA _ _ _ = some _ by kernel_rfl)
      | refine aw_cond0 rfl rfl ?_
      | refine aw_exit ?_
      | refine aw_seq_k (fun K hK => ?_))
theorem rfresh_ok (sz : Int) (m : List (Int × Int)) (b n f : Int) (hb : 0 ≤ b ∧ b ≤ 268435456) (hm : 0 ≤ n ∧ n ≤ 64) (hf : 0 ≤ f ∧ f < 2 ^ n.toNat) (h0 : f ≠ 0) (hs : Srt m) (hl : m.length ≤ 1000000) (hc : ∀ c ∈ m, 0 ≤ c.1 ∧ c.1 < 1099511627776) :
    Ok 72 [memA sz m, .ag [cu b, ci n, cu f]] (.tu [memA sz (TableC.wipeM m (b + tzI f)), .ag [cu b, ci n, cu (setI f (tzI f) 1 0)], iu (b + tzI f), ii 0]) := by
  have ht := tz_fit (U_fit hf.1 hf.2 (by omega)) hf.2 h0
  have h1 := rptake_ok b n f hb hm hf h0
  have h2 := rclear_ok sz m (b + tzI f) hs hl ⟨by omega, by omega⟩ hc
  refine callOk_of 28 Tryz.func72 rfl rfl rfl rfl ?_ GG.to
  intro W A hG
  repeat (first
    | (refine go_at rfl ?_; first
        | refine go_do (valid_mv (.inl rfl) rfl) rfl ?_
        | (refine nxt_s 1 rfl ?_; refine go_do (valid_load_p tb rfl rfl rfl rfl rfl (by first | kernel_rfl | rfl)) (by first | kernel_rfl | rfl) ?_)
        | refine go_do (valid_mv (.inr rfl) rfl) rfl ?_
        | refine go_do (valid_extract rfl rfl rfl rfl) rfl ?_
        | refine go_do (valid_cmp rfl rfl rfl rfl (by first | exact .eql1 (by omega) | exact .eql0 (by omega) | exact .neq1 (by omega) | exact .neq0 (by omega) | exact .lss1 (by omega) | exact .lss0 (by omega) | exact .leq1 (by omega) | exact .leq0 (by omega) | exact .gtr1 (by omega) | exact .gtr0 (by omega) | exact .geq1 (by omega) | exact .geq0 (by omega) | constructor)) rfl ?_
        | refine go_do (valid_ar rfl rfl rfl rfl (by constructor) (by first | exact wr_u64 (by omega) (by omega) | exact wr_i64 (by omega) (by omega) | rfl)) rfl ?_
        | refine go_do (valid_box rfl rfl rfl rfl rfl rfl) rfl ?_
        | refine go_do (valid_alloc rfl rfl rfl rfl rfl) rfl ?_
        | (refine nxt_s 1 rfl ?_; refine go_do (valid_store_p rfl rfl rfl rfl rfl rfl (by first | kernel_rfl | rfl) rfl) (by first | kernel_rfl | rfl) ?_)
        | refine go_do (valid_call rfl rfl rfl (h1) (by kernel_rfl)) rfl ?_
        | refine go_do (valid_call rfl rfl rfl (h2) (by kernel_rfl)) rfl ?_)
    | (refine hK _ ?_; clear hK K)
    | refine aw_text rfl ?_
    | refine aw_any (by kernel_rfl) (by kernel_rfl) rfl ?_
    | exact aw_ret (show resA _ _ _ = some _ by kernel_rfl)
    | refine aw_cond0 rfl rfl ?_
    | refine aw_skip ?_
    | refine aw_seq_k (fun K hK => ?_))
theorem rfresh_no (sz : Int) (m : List (Int × Int)) (b n : Int) (hm : 0 ≤ n ∧ n ≤ 64) :
    Ok 72 [memA sz m, .ag [cu b, ci n, cu 0]] (.tu [memA sz m, .ag [cu b, ci n, cu 0], iu 0, ii 8]) := by
  have h1 := rptake_no b n hm
  refine callOk_of 28 Tryz.func72 rfl rfl rfl rfl ?_ GG.to
  intro W A hG
  repeat (first
    | (refine go_at rfl ?_; first
        | refine go_do (valid_mv (.inl rfl) rfl) rfl ?_
        | (refine nxt_s 1 rfl ?_; refine go_do (valid_load_p tb rfl rfl rfl rfl rfl (by first | kernel_rfl | rfl)) (by first | kernel_rfl | rfl) ?_)
        | refine go_do (valid_mv (.inr rfl) rfl) rfl ?_
        | refine go_do (valid_extract rfl rfl rfl rfl) rfl ?_
        | refine go_do (valid_cmp rfl rfl rfl rfl (by first | exact .eql1 (by omega) | exact .eql0 (by omega) | exact .neq1 (by omega) | exact .neq0 (by omega) | exact .lss1 (by omega) | exact .lss0 (by omega) | exact .leq1 (by omega) | exact .leq0 (by omega) | exact .gtr1 (by omega) | exact .gtr0 (by omega) | exact .geq1 (by omega) | exact .geq0 (by omega) | constructor)) rfl ?_
        | refine go_do (valid_box rfl rfl rfl rfl rfl rfl) rfl ?_
        | refine go_do (valid_alloc rfl rfl rfl rfl rfl) rfl ?_
        | (refine nxt_s 1 rfl ?_; refine go_do (valid_store_p rfl rfl rfl rfl rfl rfl (by first | kernel_rfl | rfl) rfl) (by first | kernel_rfl | rfl) ?_)
        | refine go_do (valid_call rfl rfl rfl (h1) (by kernel_rfl)) rfl ?_)
    | (refine hK _ ?_; clear hK K)
    | refine aw_text rfl ?_
    | refine aw_any (by kernel_rfl) (by kernel_rfl) rfl ?_
    | exact aw_ret (show resA _ _ _ = some _ by kernel_rfl)
    | refine aw_cond1 rfl rfl ?_
    | refine aw_seq_k (fun K hK => ?_))
theorem rback_ok (sz : Int) (m : List (Int × Int)) (b n f r : Int) (hb : 0 ≤ b ∧ b ≤ 268435456) (hm : 0 ≤ n ∧ n ≤ 64) (hf : U f) (hr : 0 ≤ r ∧ r < 268436480) (hs : Srt m) (hl : m.length ≤ 1000000) (hc : ∀ c ∈ m, 0 ≤ c.1 ∧ c.1 < 1099511627776) :
    Ok 74 [memA sz m, .ag [cu b, ci n, cu f], iu r] (.tu [memA sz (TableC.wipeM m r), .ag [cu b, ci n, cu (TableC2.giveF b n f r)]]) := by
  have h1 := rpgive_ok b n f r hb hm hf ⟨hr.1, by omega⟩
  have h2 := rclear_ok sz m r hs hl hr hc
  refine callOk_of 21 Tryz.func74 rfl rfl rfl rfl ?_ GG.to
  intro W A hG
  repeat (first
    | (refine go_at rfl ?_; first
        | refine go_do (valid_mv (.inl rfl) rfl) rfl ?_
        | (refine nxt_s 1 rfl ?_; refine go_do (valid_load_p tb rfl rfl rfl rfl rfl (by first | kernel_rfl | rfl)) (by first | kernel_rfl | rfl) ?_)
        | refine go_do (valid_mv (.inr rfl) rfl) rfl ?_
        | refine go_do (valid_extract rfl rfl rfl rfl) rfl ?_
        | refine go_do (valid_ar rfl rfl rfl rfl (by constructor) (by first | exact wr_u64 (by omega) (by omega) | exact wr_i64 (by omega) (by omega) | rfl)) rfl ?_
        | refine go_do (valid_box rfl rfl rfl rfl rfl rfl) rfl ?_
        | refine go_do (valid_alloc rfl rfl rfl rfl rfl) rfl ?_
        | (refine nxt_s 1 rfl ?_; refine go_do (valid_store_p rfl rfl rfl rfl rfl rfl (by first | kernel_rfl | rfl) rfl) (by first | kernel_rfl | rfl) ?_)
        | refine go_do (valid_call rfl rfl rfl (h1) (by kernel_rfl)) rfl ?_
        | refine go_do (valid_call rfl rfl rfl (h2) (by kernel_rfl)) rfl ?_)
    | (refine hK _ ?_; clear hK K)
    | refine aw_text rfl ?_
    | refine aw_any (by kernel_rfl) (by kernel_rfl) rfl ?_
    | exact aw_ret (show resA _ _ _ = some _ by kernel_rfl)
    | refine aw_seq_k (fun K hK => ?_))
theorem rown_ok (sz : Int) (m : List (Int × Int)) (f : Int) (hf : 0 ≤ f ∧ f < 268436480) (hs : Srt m) (hu : Uw (putM m (512 * f + 511) 0)) (hl : m.length ≤ 100000) (hz : ∀ i : Int, 0 ≤ i → i < 512 → wordM sz (putM m (512 * f + 511) 0) (4096 * f + 8 * i) = 0) : Ok 73 [memA sz m, iu f] (.m (.c (.s 1 1 [.int .u64 f]))) := by
  have hp := putM_len m (512 * f + 511) 0
  have h1 := rset03_ok sz m (512 * f + 511) 0 hs (by omega)
  have h2 := rframes0_ok sz (putM m (512 * f + 511) 0) f ⟨hf.1, by omega⟩ (putM_srt _ _ _ hs) hu (by omega) hz
  refine callOk_of 12 Tryz.func73 rfl rfl rfl rfl ?_ GG.to
  intro W A hG
  repeat (first
    | (refine go_at rfl ?_; first
        | refine go_do (valid_mv (.inl rfl) rfl) rfl ?_
        | (refine nxt_s 1 rfl ?_; refine go_do (valid_load_p tb rfl rfl rfl rfl rfl (by first | kernel_rfl | rfl)) (by first | kernel_rfl | rfl) ?_)
        | refine go_do (valid_mv (.inr rfl) rfl) rfl ?_
        | refine go_do (valid_ar rfl rfl rfl rfl (by constructor) (by first | exact wr_u64 (by omega) (by omega) | exact wr_i64 (by omega) (by omega) | rfl)) rfl ?_
        | refine go_do (valid_box rfl rfl rfl rfl rfl rfl) rfl ?_
        | refine go_do (valid_call rfl rfl rfl (h1) (by kernel_rfl)) rfl ?_
        | refine go_do (valid_call rfl rfl rfl (h2) (by kernel_rfl)) rfl ?_)
    | (refine hK _ ?_; clear hK K)
    | refine aw_text rfl ?_
    | exact aw_ret (show resA _ _ _ = some _ by kernel_rfl)
    | refine aw_seq_k (fun K hK => ?_))
/-! ### fences -/
theorem rnames0_ok (f : Fe) : Ok 107 [.ag (Fe.ce f), .ag zE] (.m (ib false)) := by
  refine callOk_of 38 Tryz.func107 rfl rfl rfl rfl ?_ GG.to
  intro W A hG
  repeat (first
    | (refine go_at rfl ?_; first
        | (refine nxt_s 1 rfl ?_; refine go_do (valid_load_p tb rfl rfl rfl rfl rfl (by first | kernel_rfl | rfl)) (by first | kernel_rfl | rfl) ?_)
        | (refine nxt_s 1 rfl ?_; refine go_do (valid_fld_p tb rfl rfl rfl (by kernel_rfl)) rfl ?_)
        | refine go_do (valid_mv (.inr rfl) rfl) rfl ?_
        | refine go_do (valid_box rfl rfl rfl rfl rfl rfl) rfl ?_
        | refine go_do (valid_not rfl rfl rfl) rfl ?_)
    | (refine hK _ ?_; clear hK K)
    | refine aw_text rfl ?_
    | exact aw_ret (show resA _ _ _ = some _ by kernel_rfl)
    | refine aw_cond1 rfl rfl ?_
    | refine aw_seq_k (fun K hK => ?_))
theorem zsL_snoc (n : Nat) : zsL (n + 1) = zsL n ++ zS := by
  induction n with
  | zero => rfl
  | succ n ih =>
    have e : zsL (n + 1 + 1) = zS ++ zsL (n + 1) := rfl
    have e2 : zsL (n + 1) = zS ++ zsL n := rfl
    rw [e, ih, ← List.append_assoc, ← e2, ih]
def rdoH (n : Nat) (f : Fe) (i : Nat) (xs : List Value) : St := St.of [(2, .m (.c (.p 2 0))), (3, .m (.c (.p 3 0))), (4, .m (.c (.p 4 0))), (5, .m (.c (.o 1000))), (6, .m (ii i))] [(2, .live (.box [.s n 45 (zsL n)])), (3, .live (.box (Fe.ce f))), (4, .live (.box [.v (.slice none 0 0)])), (1000, .live (.row 163 45 i xs))]
def rdoL (n : Nat) (f : Fe) (i w : Nat) (xs : List Value) : St := St.of [(2, .m (.c (.p 2 0))), (3, .m (.c (.p 3 0))), (4, .m (.c (.p 4 0))), (5, .m (.c (.o 1000))), (6, .m (ii i)), (7, .m (.c (.p 7 0))), (8, .m (ii w))] [(2, .live (.box [.s n 45 (zsL n)])), (3, .live (.box (Fe.ce f))), (4, .live (.box [.v (.slice none 0 0)])), (7, .live (.box (zS.map .v))), (1000, .live (.row 163 45 i xs))]
theorem rdo0_ok (f : Fe) (n : Nat) (hn : n ≤ 16) : Ok 82 [.ag [.s n 45 (zsL n)], .ag (Fe.ce f)] (.m (.ag [.s n 45 (zsL n)])) := by
  have hm := rnames0_ok f
  refine callOk_of 41 Tryz.func82 rfl rfl rfl rfl ?_ GG.to
  intro W A hG
  repeat (first
    | (refine go_at rfl ?_; first
        | refine go_do (valid_mv (.inr rfl) rfl) rfl ?_
        | refine go_do (valid_box rfl rfl rfl rfl rfl rfl) rfl ?_
        | refine go_do (valid_alloc rfl rfl rfl rfl rfl) rfl ?_)
    | (refine hK _ ?_; clear hK K)
    | refine aw_text rfl ?_
    | refine aw_block ?_
    | refine aw_seq_k (fun K hK => ?_))
  refine aw_loopH (α := Nat × List Value) (fun q => q.1 ≤ n ∧ q.2 = zsL q.1) (fun q => rdoH n f q.1 q.2) (fun q => n - q.1) (0, []) ⟨Nat.zero_le _, rfl⟩ (Sub.trans (sub_nil 5 1000 163 45 rfl rfl) (sub_of _ _ ⟨rfl, rfl, rfl, rfl, rfl, trivial⟩ ⟨rfl, rfl, rfl, rfl, trivial⟩ rfl)) ?_
  rintro ⟨i, xs⟩ ⟨h1, h2⟩
  have g1 : i ≤ n := h1
  have g2 : xs = zsL i := h2
  clear h1 h2
  show Aw _ _ _ _ (rdoH n f i xs)
  unfold rdoH
  by_cases hlt : i < n
  · have hx : ((zsL n).drop (i * 45)).take 45 = zS := zsL_at n i hlt
    repeat (first
      | (refine go_at rfl ?_; first
          | refine go_do (valid_mv (.inl rfl) rfl) rfl ?_
          | (refine nxt_s 1 rfl ?_; refine go_do (valid_load_p tb rfl rfl rfl rfl rfl (by first | kernel_rfl | rfl)) (by first | kernel_rfl | rfl) ?_)
          | (refine nxt_s 1 rfl ?_; refine go_do (valid_fld_p tb rfl rfl rfl (by kernel_rfl)) rfl ?_)
          | refine go_do (valid_mv (.inr rfl) rfl) rfl ?_
          | refine go_do (valid_cmp rfl rfl rfl rfl (by first | exact .eql1 (by omega) | exact .eql0 (by omega) | exact .neq1 (by omega) | exact .neq0 (by omega) | exact .lss1 (by omega) | exact .lss0 (by omega) | exact .leq1 (by omega) | exact .leq0 (by omega) | exact .gtr1 (by omega) | exact .gtr0 (by omega) | exact .geq1 (by omega) | exact .geq0 (by omega) | constructor)) rfl ?_
          | refine go_do (valid_alloc rfl rfl rfl rfl rfl) rfl ?_
          | (refine nxt_s 1 rfl ?_; refine go_do (valid_store_p rfl rfl rfl rfl rfl rfl (by first | kernel_rfl | rfl) rfl) (by first | kernel_rfl | rfl) ?_)
          | refine go_do (valid_len_s rfl rfl rfl rfl) rfl ?_
          | (refine nxt_s 3 rfl ?_; refine go_do (valid_load_q tb rfl rfl rfl rfl (by first | kernel_rfl | rfl)) rfl ?_)
          | (refine nxt_s 4 rfl ?_; refine go_do (valid_idx_s rfl rfl rfl rfl rfl rfl (by omega) (by omega) _ (by assumption)) rfl ?_))
      | (refine hK _ ?_; clear hK K)
      | refine aw_text rfl ?_
      | refine aw_cond1 rfl rfl ?_
      | refine aw_block ?_
      | refine aw_skip ?_
      | refine aw_seq_k (fun K hK => ?_))
    refine aw_loopH (α := Nat) (fun w => w ≤ 4) (fun w => rdoL n f i w xs) (fun w => 4 - w) 0 (by omega) (sub_of _ _ ⟨rfl, rfl, rfl, rfl, rfl, rfl, rfl, trivial⟩ ⟨rfl, rfl, rfl, rfl, rfl, trivial⟩ rfl) ?_
    intro w hw
    unfold rdoL
    rcases (by omega : w = 0 ∨ w = 1 ∨ w = 2 ∨ w = 3 ∨ w = 4) with rfl | rfl | rfl | rfl | rfl
    · skip
      repeat (first
        | (refine go_at rfl ?_; first
            | refine go_do (valid_mv (.inl rfl) rfl) rfl ?_
            | (refine nxt_s 1 rfl ?_; refine go_do (valid_load_p tb rfl rfl rfl rfl rfl (by first | kernel_rfl | rfl)) (by first | kernel_rfl | rfl) ?_)
            | (refine nxt_s 1 rfl ?_; refine go_do (valid_fld_p tb rfl rfl rfl (by kernel_rfl)) rfl ?_)
            | refine go_do (valid_mv (.inr rfl) rfl) rfl ?_
            | refine go_do (valid_cmp rfl rfl rfl rfl (by first | exact .eql1 (by omega) | exact .eql0 (by omega) | exact .neq1 (by omega) | exact .neq0 (by omega) | exact .lss1 (by omega) | exact .lss0 (by omega) | exact .leq1 (by omega) | exact .leq0 (by omega) | exact .gtr1 (by omega) | exact .gtr0 (by omega) | exact .geq1 (by omega) | exact .geq0 (by omega) | constructor)) rfl ?_
            | refine go_do (valid_ar rfl rfl rfl rfl (by constructor) (by first | exact wr_u64 (by omega) (by omega) | exact wr_i64 (by omega) (by omega) | rfl)) rfl ?_
            | (refine nxt_s 1 rfl ?_; refine go_do (valid_idx_p rfl rfl rfl rfl rfl rfl (by omega) (by omega)) rfl ?_)
            | refine go_do (valid_call rfl rfl rfl (hm) (by kernel_rfl)) rfl ?_)
        | (refine hK _ ?_; clear hK K)
        | refine aw_text rfl ?_
        | refine aw_any (by kernel_rfl) (by kernel_rfl) rfl ?_
        | refine aw_cond1 rfl rfl ?_
        | refine aw_cond0 rfl rfl ?_
        | refine aw_block ?_
        | refine aw_skip ?_
        | refine aw_seq_k (fun K hK => ?_))
      exact ⟨1, by omega, by omega, sub_of _ _ ⟨rfl, rfl, rfl, rfl, rfl, rfl, rfl, trivial⟩ ⟨rfl, rfl, rfl, rfl, rfl, trivial⟩ rfl⟩
    · skip
      repeat (first
        | (refine go_at rfl ?_; first
            | refine go_do (valid_mv (.inl rfl) rfl) rfl ?_
            | (refine nxt_s 1 rfl ?_; refine go_do (valid_load_p tb rfl rfl rfl rfl rfl (by first | kernel_rfl | rfl)) (by first | kernel_rfl | rfl) ?_)
            | (refine nxt_s 1 rfl ?_; refine go_do (valid_fld_p tb rfl rfl rfl (by kernel_rfl)) rfl ?_)
            | refine go_do (valid_mv (.inr rfl) rfl) rfl ?_
            | refine go_do (valid_cmp rfl rfl rfl rfl (by first | exact .eql1 (by omega) | exact .eql0 (by omega) | exact .neq1 (by omega) | exact .neq0 (by omega) | exact .lss1 (by omega) | exact .lss0 (by omega) | exact .leq1 (by omega) | exact .leq0 (by omega) | exact .gtr1 (by omega) | exact .gtr0 (by omega) | exact .geq1 (by omega) | exact .geq0 (by omega) | constructor)) rfl ?_
            | refine go_do (valid_ar rfl rfl rfl rfl (by constructor) (by first | exact wr_u64 (by omega) (by omega) | exact wr_i64 (by omega) (by omega) | rfl)) rfl ?_
            | (refine nxt_s 1 rfl ?_; refine go_do (valid_idx_p rfl rfl rfl rfl rfl rfl (by omega) (by omega)) rfl ?_)
            | refine go_do (valid_call rfl rfl rfl (hm) (by kernel_rfl)) rfl ?_)
        | (refine hK _ ?_; clear hK K)
        | refine aw_text rfl ?_
        | refine aw_any (by kernel_rfl) (by kernel_rfl) rfl ?_
        | refine aw_cond1 rfl rfl ?_
        | refine aw_cond0 rfl rfl ?_
        | refine aw_block ?_
        | refine aw_skip ?_
        | refine aw_seq_k (fun K hK => ?_))
      exact ⟨2, by omega, by omega, sub_of _ _ ⟨rfl, rfl, rfl, rfl, rfl, rfl, rfl, trivial⟩ ⟨rfl, rfl, rfl, rfl, rfl, trivial⟩ rfl⟩
    · skip
      repeat (first
        | (refine go_at rfl ?_; first
            | refine go_do (valid_mv (.inl rfl) rfl) rfl ?_
            | (refine nxt_s 1 rfl ?_; refine go_do (valid_load_p tb rfl rfl rfl rfl rfl (by first | kernel_rfl | rfl)) (by first | kernel_rfl | rfl) ?_)
            | (refine nxt_s 1 rfl ?_; refine go_do (valid_fld_p tb rfl rfl rfl (by kernel_rfl)) rfl ?_)
            | refine go_do (valid_mv (.inr rfl) rfl) rfl ?_
            | refine go_do (valid_cmp rfl rfl rfl rfl (by first | exact .eql1 (by omega) | exact .eql0 (by omega) | exact .neq1 (by omega) | exact .neq0 (by omega) | exact .lss1 (by omega) | exact .lss0 (by omega) | exact .leq1 (by omega) | exact .leq0 (by omega) | exact .gtr1 (by omega) | exact .gtr0 (by omega) | exact .geq1 (by omega) | exact .geq0 (by omega) | constructor)) rfl ?_
            | refine go_do (valid_ar rfl rfl rfl rfl (by constructor) (by first | exact wr_u64 (by omega) (by omega) | exact wr_i64 (by omega) (by omega) | rfl)) rfl ?_
            | (refine nxt_s 1 rfl ?_; refine go_do (valid_idx_p rfl rfl rfl rfl rfl rfl (by omega) (by omega)) rfl ?_)
            | refine go_do (valid_call rfl rfl rfl (hm) (by kernel_rfl)) rfl ?_)
        | (refine hK _ ?_; clear hK K)
        | refine aw_text rfl ?_
        | refine aw_any (by kernel_rfl) (by kernel_rfl) rfl ?_
        | refine aw_cond1 rfl rfl ?_
        | refine aw_cond0 rfl rfl ?_
        | refine aw_block ?_
        | refine aw_skip ?_
        | refine aw_seq_k (fun K hK => ?_))
      exact ⟨3, by omega, by omega, sub_of _ _ ⟨rfl, rfl, rfl, rfl, rfl, rfl, rfl, trivial⟩ ⟨rfl, rfl, rfl, rfl, rfl, trivial⟩ rfl⟩
    · skip
      repeat (first
        | (refine go_at rfl ?_; first
            | refine go_do (valid_mv (.inl rfl) rfl) rfl ?_
            | (refine nxt_s 1 rfl ?_; refine go_do (valid_load_p tb rfl rfl rfl rfl rfl (by first | kernel_rfl | rfl)) (by first | kernel_rfl | rfl) ?_)
            | (refine nxt_s 1 rfl ?_; refine go_do (valid_fld_p tb rfl rfl rfl (by kernel_rfl)) rfl ?_)
            | refine go_do (valid_mv (.inr rfl) rfl) rfl ?_
            | refine go_do (valid_cmp rfl rfl rfl rfl (by first | exact .eql1 (by omega) | exact .eql0 (by omega) | exact .neq1 (by omega) | exact .neq0 (by omega) | exact .lss1 (by omega) | exact .lss0 (by omega) | exact .leq1 (by omega) | exact .leq0 (by omega) | exact .gtr1 (by omega) | exact .gtr0 (by omega) | exact .geq1 (by omega) | exact .geq0 (by omega) | constructor)) rfl ?_
            | refine go_do (valid_ar rfl rfl rfl rfl (by constructor) (by first | exact wr_u64 (by omega) (by omega) | exact wr_i64 (by omega) (by omega) | rfl)) rfl ?_
            | (refine nxt_s 1 rfl ?_; refine go_do (valid_idx_p rfl rfl rfl rfl rfl rfl (by omega) (by omega)) rfl ?_)
            | refine go_do (valid_call rfl rfl rfl (hm) (by kernel_rfl)) rfl ?_)
        | (refine hK _ ?_; clear hK K)
        | refine aw_text rfl ?_
        | refine aw_any (by kernel_rfl) (by kernel_rfl) rfl ?_
        | refine aw_cond1 rfl rfl ?_
        | refine aw_cond0 rfl rfl ?_
        | refine aw_block ?_
        | refine aw_skip ?_
        | refine aw_seq_k (fun K hK => ?_))
      exact ⟨4, by omega, by omega, sub_of _ _ ⟨rfl, rfl, rfl, rfl, rfl, rfl, rfl, trivial⟩ ⟨rfl, rfl, rfl, rfl, rfl, trivial⟩ rfl⟩
    · skip
      repeat (first
        | (refine go_at rfl ?_; first
            | refine go_do (valid_mv (.inl rfl) rfl) rfl ?_
            | (refine nxt_s 1 rfl ?_; refine go_do (valid_load_p tb rfl rfl rfl rfl rfl (by first | kernel_rfl | rfl)) (by first | kernel_rfl | rfl) ?_)
            | refine go_do (valid_mv (.inr rfl) rfl) rfl ?_
            | refine go_do (valid_cmp rfl rfl rfl rfl (by first | exact .eql1 (by omega) | exact .eql0 (by omega) | exact .neq1 (by omega) | exact .neq0 (by omega) | exact .lss1 (by omega) | exact .lss0 (by omega) | exact .leq1 (by omega) | exact .leq0 (by omega) | exact .gtr1 (by omega) | exact .gtr0 (by omega) | exact .geq1 (by omega) | exact .geq0 (by omega) | constructor)) rfl ?_
            | refine go_do (valid_ar rfl rfl rfl rfl (by constructor) (by first | exact wr_u64 (by omega) (by omega) | exact wr_i64 (by omega) (by omega) | rfl)) rfl ?_
            | refine go_do (valid_bslice rfl rfl rfl rfl rfl rfl rfl rfl rfl rfl rfl) rfl ?_
            | refine go_do (valid_app rfl rfl rfl rfl rfl rfl rfl rfl rfl rfl rfl rfl rfl (by omega)) rfl ?_)
        | (refine hK _ ?_; clear hK K)
        | (rename_i K1 hK1; refine hK1 _ ?_; clear hK hK1; clear K)
        | refine aw_text rfl ?_
        | refine aw_cond0 rfl rfl ?_
        | refine aw_exit ?_
        | refine aw_seq_k (fun K hK => ?_))
      exact ⟨(i + 1, xs ++ zS), ⟨by show i + 1 ≤ n; omega, by show xs ++ zS = zsL (i + 1); rw [zsL_snoc, g2]⟩, by show n - (i + 1) < n - i; omega, Sub.trans (sub_of [(2, .m (.c (.p 2 0))), (3, .m (.c (.p 3 0))), (4, .m (.c (.p 4 0))), (5, .m (.c (.o 38))), (6, .m (ii ((i + 1 : Nat) : Int)))] [(2, .live (.box [.s n 45 (zsL n)])), (3, .live (.box (Fe.ce f))), (4, .live (.box [.v (.slice none 0 0)])), (38, .live (.row 163 45 (i + 1) (xs ++ zS)))] ⟨rfl, rfl, rfl, rfl, rfl, trivial⟩ ⟨rfl, rfl, rfl, rfl, trivial⟩ rfl) (Sub.trans (sub_mv (b := 38) (b' := 1000) rfl rfl) (sub_of _ _ ⟨rfl, rfl, rfl, rfl, rfl, trivial⟩ ⟨rfl, rfl, rfl, rfl, trivial⟩ rfl))⟩
  · obtain rfl : i = n := by omega
    subst g2
    repeat (first
      | (refine go_at rfl ?_; first
          | refine go_do (valid_mv (.inl rfl) rfl) rfl ?_
          | (refine nxt_s 1 rfl ?_; refine go_do (valid_load_p tb rfl rfl rfl rfl rfl (by first | kernel_rfl | rfl)) (by first | kernel_rfl | rfl) ?_)
          | (refine nxt_s 1 rfl ?_; refine go_do (valid_fld_p tb rfl rfl rfl (by kernel_rfl)) rfl ?_)
          | refine go_do (valid_cmp rfl rfl rfl rfl (by first | exact .eql1 (by omega) | exact .eql0 (by omega) | exact .neq1 (by omega) | exact .neq0 (by omega) | exact .lss1 (by omega) | exact .lss0 (by omega) | exact .leq1 (by omega) | exact .leq0 (by omega) | exact .gtr1 (by omega) | exact .gtr0 (by omega) | exact .geq1 (by omega) | exact .geq0 (by omega) | constructor)) rfl ?_
          | (refine nxt_s 1 rfl ?_; refine go_do (valid_store_p rfl rfl rfl rfl rfl rfl (by first | kernel_rfl | rfl) rfl) (by first | kernel_rfl | rfl) ?_)
          | refine go_do (valid_len_s rfl rfl rfl rfl) rfl ?_
          | refine go_do (valid_build rfl rfl rfl rfl) rfl ?_)
      | (refine hK _ ?_; clear hK K)
      | (rename_i K1 hK1; refine hK1 _ ?_; clear hK hK1; clear K)
      | refine aw_text rfl ?_
      | exact aw_ret (show resA _ _ _ = some _ by kernel_rfl)
      | refine aw_cond0 rfl rfl ?_
      | refine aw_exit ?_
      | refine aw_seq_k (fun K hK => ?_))
theorem rall0_ok (l : List Fe) (hl : l.length ≤ 1000000) (n : Nat) (hn : n ≤ 16) : Ok 46 [.ag [.s n 45 (zsL n)], .c (.s l.length 4 (flF l))] (.m (.ag [.s n 45 (zsL n)])) := by
  refine callOk_of 19 Tryz.func46 rfl rfl rfl rfl ?_ GG.to
  intro W A hG
  repeat (first
    | (refine go_at rfl ?_; first
        | refine go_do (valid_mv (.inr rfl) rfl) rfl ?_
        | refine go_do (valid_box rfl rfl rfl rfl rfl rfl) rfl ?_
        | refine go_do (valid_alloc rfl rfl rfl rfl rfl) rfl ?_)
    | (refine hK _ ?_; clear hK K)
    | refine aw_text rfl ?_
    | refine aw_block ?_
    | refine aw_seq_k (fun K hK => ?_))
  refine aw_loopH (α := Nat) (fun k => k ≤ l.length) (fun k => St.of [(1, .m (.c (.s l.length 4 (flF l)))), (2, .m (.c (.p 2 0))), (4, .m (.c (.p 4 0))), (5, .m (ii k))] [(2, .live (.box [.s n 45 (zsL n)])), (4, .live (.box [.v (.slice none 0 0)]))]) (fun k => l.length - k) 0 (by omega) (sub_of _ _ ⟨rfl, rfl, rfl, rfl, trivial⟩ ⟨rfl, rfl, trivial⟩ rfl) ?_
  intro k hk
  by_cases hlt : k < l.length
  · obtain ⟨f, hf⟩ : ∃ f, l[k]? = some f := ⟨_, List.getElem?_eq_getElem hlt⟩
    have hx := flF_at hf
    have hd := rdo0_ok f n hn
    repeat (first
      | (refine go_at rfl ?_; first
          | refine go_do (valid_mv (.inl rfl) rfl) rfl ?_
          | (refine nxt_s 1 rfl ?_; refine go_do (valid_load_p tb rfl rfl rfl rfl rfl (by first | kernel_rfl | rfl)) (by first | kernel_rfl | rfl) ?_)
          | refine go_do (valid_mv (.inr rfl) rfl) rfl ?_
          | refine go_do (valid_cmp rfl rfl rfl rfl (by first | exact .eql1 (by omega) | exact .eql0 (by omega) | exact .neq1 (by omega) | exact .neq0 (by omega) | exact .lss1 (by omega) | exact .lss0 (by omega) | exact .leq1 (by omega) | exact .leq0 (by omega) | exact .gtr1 (by omega) | exact .gtr0 (by omega) | exact .geq1 (by omega) | exact .geq0 (by omega) | constructor)) rfl ?_
          | refine go_do (valid_ar rfl rfl rfl rfl (by constructor) (by first | exact wr_u64 (by omega) (by omega) | exact wr_i64 (by omega) (by omega) | rfl)) rfl ?_
          | (refine nxt_s 1 rfl ?_; refine go_do (valid_store_p rfl rfl rfl rfl rfl rfl (by first | kernel_rfl | rfl) rfl) (by first | kernel_rfl | rfl) ?_)
          | refine go_do (valid_len_s rfl rfl rfl rfl) rfl ?_
          | (refine nxt_s 3 rfl ?_; refine go_do (valid_load_q tb rfl rfl rfl rfl (by first | kernel_rfl | rfl)) rfl ?_)
          | (refine nxt_s 4 rfl ?_; refine go_do (valid_idx_s rfl rfl rfl rfl rfl rfl (by omega) (by omega) _ (by assumption)) rfl ?_)
          | refine go_do (valid_call rfl rfl rfl (hd) (by kernel_rfl)) rfl ?_)
      | (refine hK _ ?_; clear hK K)
      | refine aw_text rfl ?_
      | refine aw_any (by kernel_rfl) (by kernel_rfl) rfl ?_
      | refine aw_cond1 rfl rfl ?_
      | refine aw_block ?_
      | refine aw_skip ?_
      | refine aw_seq_k (fun K hK => ?_))
    exact ⟨k + 1, by omega, by omega, sub_of _ _ ⟨rfl, rfl, rfl, rfl, trivial⟩ ⟨rfl, rfl, trivial⟩ rfl⟩
  · skip
    repeat (first
      | (refine go_at rfl ?_; first
          | refine go_do (valid_mv (.inl rfl) rfl) rfl ?_
          | (refine nxt_s 1 rfl ?_; refine go_do (valid_load_p tb rfl rfl rfl rfl rfl (by first | kernel_rfl | rfl)) (by first | kernel_rfl | rfl) ?_)
          | refine go_do (valid_cmp rfl rfl rfl rfl (by first | exact .eql1 (by omega) | exact .eql0 (by omega) | exact .neq1 (by omega) | exact .neq0 (by omega) | exact .lss1 (by omega) | exact .lss0 (by omega) | exact .leq1 (by omega) | exact .leq0 (by omega) | exact .gtr1 (by omega) | exact .gtr0 (by omega) | exact .geq1 (by omega) | exact .geq0 (by omega) | constructor)) rfl ?_
          | (refine nxt_s 1 rfl ?_; refine go_do (valid_store_p rfl rfl rfl rfl rfl rfl (by first | kernel_rfl | rfl) rfl) (by first | kernel_rfl | rfl) ?_)
          | refine go_do (valid_len_s rfl rfl rfl rfl) rfl ?_)
      | (refine hK _ ?_; clear hK K)
      | (rename_i K1 hK1; refine hK1 _ ?_; clear hK hK1; clear K)
      | refine aw_text rfl ?_
      | exact aw_ret (show resA _ _ _ = some _ by kernel_rfl)
      | refine aw_cond0 rfl rfl ?_
      | refine aw_exit ?_
      | refine aw_seq_k (fun K hK => ?_))
end Go.Proofs.YtkffmaeiplgjeaaGreatDoor.RfC
