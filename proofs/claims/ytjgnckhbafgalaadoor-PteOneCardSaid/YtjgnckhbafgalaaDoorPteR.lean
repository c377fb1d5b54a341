/- The contracts of the reference of the layer pte: each call comes to the same plain entry, word or truth. -/
import Derived.Test.YtjgnckhbafgalaaDoorPteC2
import Derived.Test.YtjgnckhbafgalaaDoorRefS
namespace Go.Proofs.YtjgnckhbafgalaaDoor.PteR
open Go.RowKit Go.Proofs.YtjgnckhbafgalaaDoor.Bv Go.Proofs.YtjgnckhbafgalaaDoor.VaSpec Go.Proofs.YtjgnckhbafgalaaDoor.Base Go.Proofs.YtjgnckhbafgalaaDoor.BitsC Go.Proofs.YtjgnckhbafgalaaDoor.VaC Go.Proofs.YtjgnckhbafgalaaDoor.PteSpec Go.Proofs.YtjgnckhbafgalaaDoor.PteC
set_option linter.unusedVariables false
set_option linter.unusedSimpArgs false
theorem rmay_calls (v r w x u g a d : Bool) (rsw ppn high : Int) (W : World) (h1 : U rsw) (h2 : U ppn) (h3 : U high) :
    Calls Tryd.prog 35 #[.agg #[.bool v, .bool r, .bool w, .bool x, .bool u, .bool g, .bool a, .bool d, .int .u64 rsw, .int .u64 ppn, .int .u64 high]] W fun e w' => e = .returned (.bool (mayP ⟨v, r, w, x, u, g, a, d, rsw, ppn, high⟩)) ∧ Below W.heap.size W w' := by
  go_enter Tryd.func35, Tryd.ntmps35
  go_wp2
  all_goals
    go_ret
    refine ⟨congrArg (fun z => Ending.returned (.bool z)) (by simp [mayP, *] <;> omega), (by repeat (first | (with_reducible exact Below.refl _ _) | (with_reducible apply bel_drewN) | (with_reducible apply bel_alloc) | (with_reducible apply bel_trans; rotate_left; with_reducible assumption) | (with_reducible refine bel_setCell _ _ _ (by first | omega | (simp; done) | (simp; omega) | (simp at *; omega)) ?_)))⟩
theorem rleaf_calls (v r w x u g a d : Bool) (rsw ppn high : Int) (W : World) :
    Calls Tryd.prog 40 #[.agg #[.bool v, .bool r, .bool w, .bool x, .bool u, .bool g, .bool a, .bool d, .int .u64 rsw, .int .u64 ppn, .int .u64 high]] W fun e w' => e = .returned (.bool (leafP ⟨v, r, w, x, u, g, a, d, rsw, ppn, high⟩)) ∧ Below W.heap.size W w' := by
  go_enter Tryd.func40, Tryd.ntmps40
  go_wp2
  all_goals
    go_ret
    refine ⟨congrArg (fun z => Ending.returned (.bool z)) (by simp [leafP, *]), (by repeat (first | (with_reducible exact Below.refl _ _) | (with_reducible apply bel_drewN) | (with_reducible apply bel_alloc) | (with_reducible apply bel_trans; rotate_left; with_reducible assumption) | (with_reducible refine bel_setCell _ _ _ (by first | omega | (simp; done) | (simp; omega) | (simp at *; omega)) ?_)))⟩
theorem link_of_leaf (v r w x u g a d : Bool) (rsw ppn high : Int) : (v && !leafP ⟨v, r, w, x, u, g, a, d, rsw, ppn, high⟩) = linkP ⟨v, r, w, x, u, g, a, d, rsw, ppn, high⟩ := by
  cases v <;> cases r <;> cases x <;> rfl
theorem rlink_calls (v r w x u g a d : Bool) (rsw ppn high : Int) (W : World) :
    Calls Tryd.prog 42 #[.agg #[.bool v, .bool r, .bool w, .bool x, .bool u, .bool g, .bool a, .bool d, .int .u64 rsw, .int .u64 ppn, .int .u64 high]] W fun e w' => e = .returned (.bool (linkP ⟨v, r, w, x, u, g, a, d, rsw, ppn, high⟩)) ∧ Below W.heap.size W w' := by
  have H := Lib.hid (link_of_leaf v r w x u g a d rsw ppn high)
  go_enter Tryd.func42, Tryd.ntmps42
  go_wp2_with (go_at_call 40; (with_reducible refine (rleaf_calls _ _ _ _ _ _ _ _ _ _ _ _).mono ?_); rintro e w1 ⟨rfl, hb⟩)
  all_goals
    go_ret
    refine ⟨congrArg (fun z => Ending.returned (.bool z)) (by rw [← H.out]; simp [*]), (by repeat (first | (with_reducible exact Below.refl _ _) | (with_reducible apply bel_drewN) | (with_reducible apply bel_alloc) | (with_reducible apply bel_trans; rotate_left; with_reducible assumption) | (with_reducible refine bel_setCell _ _ _ (by first | omega | (simp; done) | (simp; omega) | (simp at *; omega)) ?_)))⟩
theorem rperm_calls (v r w x u g a d : Bool) (rsw ppn high : Int) (W : World) :
    Calls Tryd.prog 48 #[.agg #[.bool v, .bool r, .bool w, .bool x, .bool u, .bool g, .bool a, .bool d, .int .u64 rsw, .int .u64 ppn, .int .u64 high]] W fun e w' => e = .returned (.agg #[.bool r, .bool w, .bool x, .bool u]) ∧ Below W.heap.size W w' := by
  go_enter Tryd.func48, Tryd.ntmps48
  go_wp2
  exact bodyPost_ret (v := .agg #[.bool r, .bool w, .bool x, .bool u]) (by simp [results, Tryd.results48, go_sem]) rfl ⟨rfl, (by repeat (first | (with_reducible exact Below.refl _ _) | (with_reducible apply bel_drewN) | (with_reducible apply bel_alloc) | (with_reducible apply bel_trans; rotate_left; with_reducible assumption) | (with_reducible refine bel_setCell _ _ _ (by first | omega | (simp; done) | (simp; omega) | (simp at *; omega)) ?_)))⟩
theorem rmake_calls (f : Int) (r w x u g : Bool) (W : World) :
    Calls Tryd.prog 46 #[.int .u64 f, .agg #[.bool r, .bool w, .bool x, .bool u], .bool g] W fun e w' => e = .returned (.agg #[.bool true, .bool r, .bool w, .bool x, .bool u, .bool g, .bool false, .bool false, .int .u64 0, .int .u64 f, .int .u64 0]) ∧ Below W.heap.size W w' := by
  go_enter Tryd.func46, Tryd.ntmps46
  go_wp2
  exact bodyPost_ret (v := .agg #[.bool true, .bool r, .bool w, .bool x, .bool u, .bool g, .bool false, .bool false, .int .u64 0, .int .u64 f, .int .u64 0]) (by simp [results, Tryd.results46, go_sem]) rfl ⟨rfl, (by repeat (first | (with_reducible exact Below.refl _ _) | (with_reducible apply bel_drewN) | (with_reducible apply bel_alloc) | (with_reducible apply bel_trans; rotate_left; with_reducible assumption) | (with_reducible refine bel_setCell _ _ _ (by first | omega | (simp; done) | (simp; omega) | (simp at *; omega)) ?_)))⟩
set_option maxHeartbeats 800000 in
theorem rbad_calls (v r w x u g a d : Bool) (rsw ppn high : Int) (l : Int) (W : World) (h1 : U rsw) (h2 : U ppn) (h3 : U high) (l0 : 0 ≤ l) (l2 : l ≤ 2) :
    Calls Tryd.prog 44 #[.agg #[.bool v, .bool r, .bool w, .bool x, .bool u, .bool g, .bool a, .bool d, .int .u64 rsw, .int .u64 ppn, .int .u64 high], .int .i64 l] W fun e w' => e = .returned (.bool (badP ⟨v, r, w, x, u, g, a, d, rsw, ppn, high⟩ l)) ∧ Below W.heap.size W w' := by
  rcases lev l0 l2 with rfl | rfl | rfl
  all_goals
    go_enter Tryd.func44, Tryd.ntmps44
    go_wp2
    all_goals
      go_ret
      refine ⟨congrArg (fun z => Ending.returned (.bool z)) ?_, (by repeat (first | (with_reducible exact Below.refl _ _) | (with_reducible apply bel_drewN) | (with_reducible apply bel_alloc) | (with_reducible apply bel_trans; rotate_left; with_reducible assumption) | (with_reducible refine bel_setCell _ _ _ (by first | omega | (simp; done) | (simp; omega) | (simp at *; omega)) ?_)))⟩
      first
        | (simp [badP, linkP, sz, *]; done)
        | (simp [badP, linkP, sz, *]; omega)
        | (simp_all [badP, linkP, sz]; done)
        | (simp_all [badP, linkP, sz]; omega)
        | (rw [Bool.eq_iff_iff]; simp_all [badP, linkP, sz]; omega)
set_option maxHeartbeats 800000 in
theorem rget_calls (x : Int) (W : World) (hx : U x) :
    Calls Tryd.prog 37 #[.int .u64 x] W fun e w' => e = .returned (.agg #[.bool (pteOf x).v, .bool (pteOf x).r, .bool (pteOf x).w, .bool (pteOf x).x, .bool (pteOf x).u, .bool (pteOf x).g, .bool (pteOf x).a, .bool (pteOf x).d, .int .u64 (pteOf x).rsw, .int .u64 (pteOf x).ppn, .int .u64 (pteOf x).high]) ∧ Below W.heap.size W w' := by
  obtain ⟨x0, x1⟩ := hx
  obtain ⟨y, hy⟩ := u64_B x0 x1
  have Hb : ∀ i : Nat, i ≤ 7 → Hid (RefS.bt y i = bitI x i) := fun i hi => Lib.hid (by
    unfold RefS.bt bitI; rw [hy]; unfold B
    rw [BitVec.getLsbD, Nat.testBit, Nat.shiftRight_eq_div_pow, Nat.and_comm, Nat.and_one_is_mod, Int.toNat_natCast]
    rw [show ((y.toNat : Int) / 2 ^ i % 2 == 1) = ((y.toNat / 2 ^ i % 2 : Nat) == 1) by
      rw [Bool.eq_iff_iff, beq_iff_eq, beq_iff_eq]; norm_cast]
    rcases Nat.mod_two_eq_zero_or_one (y.toNat / 2 ^ i) with h | h <;> rw [h] <;> rfl)
  have HY := Lib.hid hy; clear hy
  go_enter Tryd.func37, Tryd.ntmps37
  go_wp2_with (go_at_call 65; rw [HY.out]; (with_reducible refine (RefS.bit_same _ _ _ (by omega) (by omega)).mono ?_); rw [← HY.out]; rintro e w' ⟨rfl, rfl⟩)
  have hb : ∀ i : Nat, i ≤ 7 → RefS.bt y i = bitI x i := fun i hi => (Hb i hi).out
  rw [hb 0 (by omega), hb 1 (by omega), hb 2 (by omega), hb 3 (by omega), hb 4 (by omega), hb 5 (by omega), hb 6 (by omega), hb 7 (by omega)]
  refine bodyPost_ret (v := .agg #[.bool (pteOf x).v, .bool (pteOf x).r, .bool (pteOf x).w, .bool (pteOf x).x, .bool (pteOf x).u, .bool (pteOf x).g, .bool (pteOf x).a, .bool (pteOf x).d, .int .u64 (pteOf x).rsw, .int .u64 (pteOf x).ppn, .int .u64 (pteOf x).high]) ?_ rfl ?_
  · simp [results, Tryd.results37, go_sem, pteOf]
  · exact ⟨rfl, (by repeat (first | (with_reducible exact Below.refl _ _) | (with_reducible apply bel_drewN) | (with_reducible apply bel_alloc) | (with_reducible apply bel_trans; rotate_left; with_reducible assumption) | (with_reducible refine bel_setCell _ _ _ (by first | omega | (simp; done) | (simp; omega) | (simp at *; omega)) ?_)))⟩
def f8 (v r w x u g a d : Bool) : Nat → Bool
  | 0 => v
  | 1 => r
  | 2 => w
  | 3 => x
  | 4 => u
  | 5 => g
  | 6 => a
  | _ => d
theorem row_low8 (v r w x u g a d : Bool) (rsw ppn high : Int) : rowI (f8 v r w x u g a d) 8 = low8 ⟨v, r, w, x, u, g, a, d, rsw, ppn, high⟩ := by
  unfold low8; simp only [rowI, f8]; omega
set_option maxHeartbeats 800000 in
set_option maxRecDepth 10000 in
theorem rput_calls (v r w x u g a d : Bool) (rsw ppn high : Int) (W : World) (h1 : U rsw) (h2 : U ppn) (h3 : U high) (hm : mayP ⟨v, r, w, x, u, g, a, d, rsw, ppn, high⟩ = true) :
    Calls Tryd.prog 38 #[.agg #[.bool v, .bool r, .bool w, .bool x, .bool u, .bool g, .bool a, .bool d, .int .u64 rsw, .int .u64 ppn, .int .u64 high]] W fun e w' => e = .returned (.int .u64 (word ⟨v, r, w, x, u, g, a, d, rsw, ppn, high⟩)) ∧ Below W.heap.size W w' := by
  rw [mayP_iff] at hm
  simp only at hm
  have HL := Lib.hid (row_low8 v r w x u g a d rsw ppn high)
  obtain ⟨base, hb⟩ : ∃ base : Int, 256 * rsw + 1024 * ppn + 18014398509481984 * high = base := ⟨_, rfl⟩
  have hbb : 0 ≤ base ∧ base ≤ 18446744073709551360 := by omega
  have HB := Lib.hid hb; clear hb
  go_enter Tryd.func38, Tryd.ntmps38
  go_wp2
  rw [HB.out]
  obtain ⟨W2, hW2⟩ : ∃ W2 : World, (W.alloc (Obj.cells #[Value.bool v, Value.bool r, Value.bool w, Value.bool x, Value.bool u, Value.bool g, Value.bool a, Value.bool d, Value.int IntKind.u64 rsw, Value.int IntKind.u64 ppn, Value.int IntKind.u64 high] 24)).alloc (Obj.cells #[Value.bool v, Value.bool r, Value.bool w, Value.bool x, Value.bool u, Value.bool g, Value.bool a, Value.bool d] 4) = W2 := ⟨_, rfl⟩
  have hc : ∀ i, i < 8 → W2.cell? ⟨W.heap.size + 1, i, none⟩ = some (.bool (f8 v r w x u g a d i)) := by
    intro i hi
    rw [← hW2]
    have : i = 0 ∨ i = 1 ∨ i = 2 ∨ i = 3 ∨ i = 4 ∨ i = 5 ∨ i = 6 ∨ i = 7 := by omega
    rcases this with rfl | rfl | rfl | rfl | rfl | rfl | rfl | rfl <;> simp [f8]
  have hbel : Below W.heap.size W W2 := by rw [← hW2]; exact (by repeat (first | (with_reducible exact Below.refl _ _) | (with_reducible apply bel_drewN) | (with_reducible apply bel_alloc) | (with_reducible apply bel_trans; rotate_left; with_reducible assumption) | (with_reducible refine bel_setCell _ _ _ (by first | omega | (simp; done) | (simp; omega) | (simp at *; omega)) ?_)))
  rw [hW2]
  have HC := Lib.hid hc; clear hc hW2
  go_loop [3, 5, 6] (fun y n i => ∃ k : Nat, k ≤ 8 ∧ i = .int .i64 k ∧ y = .int .u64 (base + rowI (f8 v r w x u g a d) k) ∧ n = .int .u64 ((2 ^ k : Nat) : Int)) (fun _ _ i => 8 - (intOf i).toNat)
  case atStart => exact ⟨0, by omega, rfl, by simp [rowI], rfl⟩
  case round =>
    obtain ⟨k, hk, rfl, rfl, rfl⟩ := hrel
    by_cases hlt : k < 8
    · have hcell := HC.out k hlt
      have hp : ((2 ^ k : Nat) : Int) ≤ 128 := by
        have : 2 ^ k ≤ 2 ^ 7 := Nat.pow_le_pow_right (by decide) (by omega)
        exact_mod_cast this
      have hp0 : 0 ≤ ((2 ^ k : Nat) : Int) := Int.natCast_nonneg _
      have hr := rowI_bd (f8 v r w x u g a d) k
      have hr0 : 0 ≤ rowI (f8 v r w x u g a d) k ∧ rowI (f8 v r w x u g a d) k ≤ 127 := by
        have e : (2 : Int) ^ k = ((2 ^ k : Nat) : Int) := by norm_cast
        rw [e] at hr; omega
      clear hr
      have H2 := Lib.hid (rowI_succ (f8 v r w x u g a d) k)
      obtain ⟨p, hpk⟩ : ∃ p : Int, ((2 ^ k : Nat) : Int) = p := ⟨_, rfl⟩
      have HP := Lib.hid hpk
      rw [hpk] at hp hp0
      rw [hpk]
      clear hpk
      have e2 : ((2 ^ (k + 1) : Nat) : Int) = 2 * p := by rw [← HP.out, Nat.pow_succ]; omega
      have E2 := Lib.hid e2; clear e2
      cases hf : f8 v r w x u g a d k
      all_goals
        rw [hf] at hcell
        have HF := Lib.hid hf; clear hf
        go_wp2
        refine ⟨⟨k + 1, by omega, by go_num, ?_, ?_⟩, ?_⟩
        · rw [H2.out, HF.out]; unfold bI; rw [show (2 : Int) ^ k = p by rw [← HP.out]; norm_cast]; first | go_num | simp
        · rw [E2.out]
        · simp [intOf]; omega
    · obtain rfl : k = 8 := by omega
      go_wp2
      go_ret
      refine ⟨congrArg (fun z => Ending.returned (.int .u64 z)) ?_, hbel⟩
      rw [HL.out, ← HB.out]; unfold word; simp only; omega
end Go.Proofs.YtjgnckhbafgalaaDoor.PteR
