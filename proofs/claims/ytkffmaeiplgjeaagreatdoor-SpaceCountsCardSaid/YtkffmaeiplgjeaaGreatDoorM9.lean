/- Texts of this claim, one behind the other: PteC, PteC2, PteC3, PteC4, CloneSpace, GrowSpace, ConcatSpace, OkS, SpA. -/
import Derived.Test.YtkffmaeiplgjeaaGreatDoorM8
import Derived.Outline
import Derived.StillTailTactics
import Derived.Test.YtkffmaeiplgjeaaGreatDoorM5
import Derived.Test.YtkffmaeiplgjeaaGreatDoorM1
import Derived.Lib.SliceRun
import Derived.Test.YtkffmaeiplgjeaaGreatDoorM2
import Derived.Lib.AppendZerosOnto
import Derived.Lib.Walk
import Derived.Laws.AppendOwnNone
/- The contracts of the layer pte: each call comes to the plain entry, word or truth of PteSpec. -/
namespace Go.Proofs.YtkffmaeiplgjeaaGreatDoor.PteC
open Go.RowKit Go.Proofs.YtkffmaeiplgjeaaGreatDoor.Bv Go.Proofs.YtkffmaeiplgjeaaGreatDoor.VaSpec Go.Proofs.YtkffmaeiplgjeaaGreatDoor.Base Go.Proofs.YtkffmaeiplgjeaaGreatDoor.BitsC Go.Proofs.YtkffmaeiplgjeaaGreatDoor.VaC Go.Proofs.YtkffmaeiplgjeaaGreatDoor.PteSpec
set_option linter.unusedVariables false
set_option linter.unusedSimpArgs false
def fitsI (n k : Int) : Bool := decide (n < 2 ^ k.toNat)
theorem fits_get (n k : Int) (hn : U n) (h : k ≤ 64) : (getI n 0 k == n) = fitsI n k := by
  rw [getI_val n 0 k hn h]
  unfold fitsI
  rw [show (0 : Int).toNat = 0 from rfl]
  have hp : (0 : Int) < 2 ^ k.toNat := by exact_mod_cast Nat.two_pow_pos k.toNat
  rw [Bool.eq_iff_iff, beq_iff_eq, decide_eq_true_eq]
  rw [show (2 : Int) ^ 0 = 1 from rfl, Int.ediv_one]
  constructor
  · intro e; rw [← e]; exact Int.emod_lt_of_pos _ hp
  · intro e; exact Int.emod_eq_of_lt hn.1 e
theorem fits_calls (n k : Int) (W : World) (hn : U n) (k0 : 0 ≤ k) (k1 : k ≤ 64) : Calls Tryz.prog 126 #[.int .u64 n, .int .i64 k] W fun e w' => e = .returned (.bool (fitsI n k)) ∧ Q W w' := by
  have H := Lib.hid (fits_get n k hn k1)
  go_enter Tryz.func126, Tryz.ntmps126
  go_wp2_with (go_at_call 64; (with_reducible refine (get_calls _ _ _ _ hn (by omega) (by omega) (by omega) (by omega)).mono ?_); rintro e w' ⟨rfl, ⟨nd, rfl⟩⟩)
  go_ret
  exact ⟨congrArg (fun z => Ending.returned (.bool z)) H.out, ⟨_, rfl⟩⟩
theorem mayP_fits (p : Pte) : (fitsI p.rsw 2 && fitsI p.ppn 44 && fitsI p.high 10) = mayP p := rfl
theorem may_calls (v r w x u g a d : Bool) (rsw ppn high : Int) (W : World) (h1 : U rsw) (h2 : U ppn) (h3 : U high) :
    Calls Tryz.prog 110 #[.agg #[.bool v, .bool r, .bool w, .bool x, .bool u, .bool g, .bool a, .bool d, .int .u64 rsw, .int .u64 ppn, .int .u64 high]] W fun e w' => e = .returned (.bool (mayP ⟨v, r, w, x, u, g, a, d, rsw, ppn, high⟩)) ∧ Below W.heap.size W w' := by
  have H := Lib.hid (mayP_fits ⟨v, r, w, x, u, g, a, d, rsw, ppn, high⟩)
  go_enter Tryz.func110, Tryz.ntmps110
  go_wp2_with (go_at_call 126; (with_reducible refine (fits_calls _ _ _ (by assumption) (by omega) (by omega)).mono ?_); rintro e w' ⟨rfl, ⟨nd, rfl⟩⟩)
  all_goals
    go_ret
    refine ⟨congrArg (fun z => Ending.returned (.bool z)) (by rw [← H.out]; simp [*]), (by repeat (first | (with_reducible exact Below.refl _ _) | (with_reducible apply bel_drewN) | (with_reducible apply bel_alloc) | (with_reducible apply bel_trans; rotate_left; with_reducible assumption) | (with_reducible refine bel_setCell _ _ _ (by first | omega | (simp; done) | (simp; omega) | (simp at *; omega)) ?_)))⟩
theorem link_calls (v r w x u g a d : Bool) (rsw ppn high : Int) (W : World) :
    Calls Tryz.prog 118 #[.agg #[.bool v, .bool r, .bool w, .bool x, .bool u, .bool g, .bool a, .bool d, .int .u64 rsw, .int .u64 ppn, .int .u64 high]] W fun e w' => e = .returned (.bool (linkP ⟨v, r, w, x, u, g, a, d, rsw, ppn, high⟩)) ∧ Below W.heap.size W w' := by
  go_enter Tryz.func118, Tryz.ntmps118
  go_wp2
  all_goals
    go_ret
    refine ⟨congrArg (fun z => Ending.returned (.bool z)) (by simp [linkP, *]), (by repeat (first | (with_reducible exact Below.refl _ _) | (with_reducible apply bel_drewN) | (with_reducible apply bel_alloc) | (with_reducible apply bel_trans; rotate_left; with_reducible assumption) | (with_reducible refine bel_setCell _ _ _ (by first | omega | (simp; done) | (simp; omega) | (simp at *; omega)) ?_)))⟩
set_option maxHeartbeats 800000 in
theorem bad_calls (v r w x u g a d : Bool) (rsw ppn high : Int) (l : Int) (W : World) (h1 : U rsw) (h2 : U ppn) (h3 : U high) (l0 : 0 ≤ l) (l2 : l ≤ 2) (hG : G W) :
    Calls Tryz.prog 119 #[.agg #[.bool v, .bool r, .bool w, .bool x, .bool u, .bool g, .bool a, .bool d, .int .u64 rsw, .int .u64 ppn, .int .u64 high], .int .i64 l] W fun e w' => e = .returned (.bool (badP ⟨v, r, w, x, u, g, a, d, rsw, ppn, high⟩ l)) ∧ Below W.heap.size W w' := by
  go_enter Tryz.func119, Tryz.ntmps119
  have hs := sz_bd l
  go_wp2_with (first
    | (go_at_call 118; (with_reducible refine (link_calls _ _ _ _ _ _ _ _ _ _ _ _).mono ?_); rintro e w1 ⟨rfl, hb⟩; obtain ⟨hc, hf⟩ := bcell hb)
    | fail)
  all_goals first
    | (go_ret; refine ⟨congrArg (fun z => Ending.returned (.bool z)) (by first | (simp [badP, *]; done) | (simp_all [badP, linkP]; done)), (by repeat (first | (with_reducible exact Below.refl _ _) | (with_reducible apply bel_drewN) | (with_reducible apply bel_alloc) | (with_reducible apply bel_trans; rotate_left; with_reducible assumption) | (with_reducible refine bel_setCell _ _ _ (by first | omega | (simp; done) | (simp; omega) | (simp at *; omega)) ?_)))⟩; done)
    | skip
  all_goals
    have h9 : w1.cell? ⟨W.heap.size, 9, none⟩ = some (.int .u64 ppn) := by rw [hc _ _ (by simp)]; simp
    clear hc hf
    have HG : G w1 := (by first | assumption | exact hG.to (by repeat (first | (with_reducible exact Below.refl _ _) | (with_reducible apply bel_drewN) | (with_reducible apply bel_alloc) | (with_reducible apply bel_trans; rotate_left; with_reducible assumption) | (with_reducible refine bel_setCell _ _ _ (by first | omega | (simp; done) | (simp; omega) | (simp at *; omega)) ?_))))
    go_quiet ((first | (go_at_call 134; exact Calls.quiet_of ((size_calls _ _ l0 l2 (HG.drewN _)).mono fun _ _ ⟨he, d⟩ => ⟨he, d.out⟩)) | (go_at_call 96; exact Calls.quiet_of ((even_calls _ _ _ h2 (by omega)).mono fun _ _ ⟨he, d⟩ => ⟨he, d.out⟩))))
    go_wp2
    go_ret
    refine ⟨congrArg (fun z => Ending.returned (.bool z)) ?_, (by repeat (first | (with_reducible exact Below.refl _ _) | (with_reducible apply bel_drewN) | (with_reducible apply bel_alloc) | (with_reducible apply bel_trans; rotate_left; with_reducible assumption) | (with_reducible refine bel_setCell _ _ _ (by first | omega | (simp; done) | (simp; omega) | (simp at *; omega)) ?_)))⟩
    unfold evenI
    rw [if_neg (by omega)]
    first | (simp [badP, *]; done) | (simp_all [badP, linkP]; done)
end Go.Proofs.YtkffmaeiplgjeaaGreatDoor.PteC
/- The contracts of the layer pte, the second part: an entry's word, and the entry of a word. -/
namespace Go.Proofs.YtkffmaeiplgjeaaGreatDoor.PteC
open Go.RowKit Go.Proofs.YtkffmaeiplgjeaaGreatDoor.Bv Go.Proofs.YtkffmaeiplgjeaaGreatDoor.VaSpec Go.Proofs.YtkffmaeiplgjeaaGreatDoor.Base Go.Proofs.YtkffmaeiplgjeaaGreatDoor.BitsC Go.Proofs.YtkffmaeiplgjeaaGreatDoor.VaC Go.Proofs.YtkffmaeiplgjeaaGreatDoor.PteSpec
set_option linter.unusedVariables false
set_option linter.unusedSimpArgs false
theorem setB_add (x v : BitVec 64) (lo n : Nat) (h : lo + n ≤ 64) (hx : x.toNat < 2 ^ lo) (hv : v.toNat < 2 ^ n) : (setB x lo n v).toNat = x.toNat + v.toNat * 2 ^ lo := by
  have e : setB x lo n v = (v <<< lo) ||| x := by
    apply BitVec.eq_of_getLsbD_eq; intro i hi
    rw [setB_bit, BitVec.getLsbD_or, BitVec.getLsbD_shiftLeft]
    have hxi : lo ≤ i → x.getLsbD i = false := fun hl => by
      rw [BitVec.getLsbD]; exact Nat.testBit_lt_two_pow (Nat.lt_of_lt_of_le hx (Nat.pow_le_pow_right (by decide) hl))
    have hvi : n ≤ i - lo → v.getLsbD (i - lo) = false := fun hl => by
      rw [BitVec.getLsbD]; exact Nat.testBit_lt_two_pow (Nat.lt_of_lt_of_le hv (Nat.pow_le_pow_right (by decide) hl))
    by_cases h1 : lo ≤ i
    · by_cases h2 : i < lo + n
      · simp only [hi, h1, h2, hxi h1, show ¬ i < lo by omega, and_self, if_true, decide_true, decide_false, Bool.not_false, Bool.true_and, Bool.or_false]
      · simp only [hi, h1, h2, hxi h1, hvi (by omega), show ¬ i < lo by omega, and_false, if_false, decide_true, decide_false, Bool.not_false, Bool.true_and, Bool.or_false, Bool.and_false]
    · simp only [hi, h1, show i < lo by omega, false_and, if_false, decide_true, Bool.not_true, Bool.and_false, Bool.false_and, Bool.false_or, Bool.true_and]
  rw [e, BitVec.toNat_or, BitVec.toNat_shiftLeft, Nat.shiftLeft_eq]
  have h3 : v.toNat * 2 ^ lo < 2 ^ n * 2 ^ lo := Nat.mul_lt_mul_of_pos_right hv (Nat.two_pow_pos lo)
  have h4 : 2 ^ n * 2 ^ lo ≤ 2 ^ 64 := by rw [← Nat.pow_add]; exact Nat.pow_le_pow_right (by decide) (by omega)
  rw [Nat.mod_eq_of_lt (by omega), ← Nat.shiftLeft_eq, ← Nat.shiftLeft_add_eq_or_of_lt hx]
  omega
theorem setI_add (a lo n v : Int) (ha : U a) (hv : U v) (l0 : 0 ≤ lo) (n0 : 0 ≤ n) (h : lo + n ≤ 64) (hx : a < 2 ^ lo.toNat) (hv2 : v < 2 ^ n.toNat) : setI a lo n v = a + v * 2 ^ lo.toNat := by
  obtain ⟨x, rfl⟩ := u64_B ha.1 ha.2
  obtain ⟨y, rfl⟩ := u64_B hv.1 hv.2
  unfold setI; rw [X_B, X_B]
  unfold B at *
  rw [setB_add x y lo.toNat n.toNat (by omega) (by exact_mod_cast hx) (by exact_mod_cast hv2)]
  norm_cast
def rowI (f : Nat → Bool) : Nat → Int
  | 0 => 0
  | k + 1 => rowI f k + bI (f k) * 2 ^ k
theorem rowI_succ (f : Nat → Bool) (k : Nat) : rowI f (k + 1) = rowI f k + bI (f k) * 2 ^ k := rfl
theorem rowI_bd (f : Nat → Bool) (k : Nat) : 0 ≤ rowI f k ∧ rowI f k < 2 ^ k := by
  induction k with
  | zero => unfold rowI; decide
  | succ k ih =>
    rw [rowI_succ, Int.pow_succ]
    have hp : (0 : Int) < 2 ^ k := by exact_mod_cast Nat.two_pow_pos k
    unfold bI; split <;> omega
theorem row_step (f : Nat → Bool) (k : Nat) (hk : k < 8) : setI (rowI f k) (k : Int) 1 (bI (f k)) = rowI f (k + 1) := by
  have h1 := rowI_bd f k
  have h2 := bI_bd (f k)
  have hp : (2 : Int) ^ k ≤ 128 := by
    have : 2 ^ k ≤ 2 ^ 7 := Nat.pow_le_pow_right (by decide) (by omega)
    exact_mod_cast this
  rw [rowI_succ, setI_add _ _ _ _ ⟨h1.1, by omega⟩ ⟨h2.1, by omega⟩ (by omega) (by omega) (by omega) (by rw [Int.toNat_natCast]; exact h1.2) (by show _ < (2 : Int) ^ 1; omega), Int.toNat_natCast]
set_option maxHeartbeats 400000 in
theorem row_calls (f : Nat → Bool) (b : Nat) (W : World) (hc : ∀ i, i < 8 → W.cell? ⟨b, i, none⟩ = some (.bool (f i))) :
    Calls Tryz.prog 111 #[.slice (some ⟨b, 0, none⟩) 8 8] W fun e w' => e = .returned (.int .u64 (rowI f 8)) ∧ Q W w' := by
  have HC := Lib.hid hc; clear hc
  go_enter Tryz.func111, Tryz.ntmps111
  go_wp2
  go_loopw [3, 8] (fun x i wr => ∃ k : Nat, k ≤ 8 ∧ i = .int .i64 k ∧ x = .int .u64 (rowI f k) ∧ Q W wr) (fun _ i _ => 8 - (intOf i).toNat)
  case atStart => exact ⟨0, by omega, rfl, rfl, Q.refl _⟩
  case round =>
    obtain ⟨k, hk, rfl, rfl, hq⟩ := hrel
    by_cases hlt : k < 8
    · obtain ⟨n, rfl⟩ := hq
      have h1 := HC.out k hlt
      have h2 := Lib.hid (row_step f k hlt)
      have h3 := rowI_bd f k
      have hp : (2 : Int) ^ k ≤ 128 := by
        have : 2 ^ k ≤ 2 ^ 7 := Nat.pow_le_pow_right (by decide) (by omega)
        exact_mod_cast this
      have h4 : U (rowI f k) := ⟨h3.1, by omega⟩
      clear hp h3
      have h5 : U (bI (f k)) := by have := bI_bd (f k); exact ⟨by omega, by omega⟩
      go_wp2_with (first
        | (go_at_call 127; (with_reducible refine (bool_calls _ _).mono ?_); rintro e w' ⟨rfl, ⟨nd, rfl⟩⟩)
        | (go_at_call 93; (with_reducible refine (set_calls _ _ _ _ _ h4 h5 (by omega) (by omega) (by omega) (by omega)).mono ?_); rintro e w' ⟨rfl, ⟨nd, rfl⟩⟩)
        | fail)
      refine ⟨⟨k + 1, by omega, by go_num, by rw [h2.out], by repeat (first | exact Q.refl _ | apply Q.step)⟩, ?_⟩
      simp [intOf]; omega
    · obtain rfl : k = 8 := by omega
      go_wp2
      go_ret
      exact ⟨rfl, hq⟩
end Go.Proofs.YtkffmaeiplgjeaaGreatDoor.PteC
/- The contracts of the layer pte, the third part: Put and Get. -/
namespace Go.Proofs.YtkffmaeiplgjeaaGreatDoor.PteC
open Go.RowKit Go.Proofs.YtkffmaeiplgjeaaGreatDoor.Bv Go.Proofs.YtkffmaeiplgjeaaGreatDoor.VaSpec Go.Proofs.YtkffmaeiplgjeaaGreatDoor.Base Go.Proofs.YtkffmaeiplgjeaaGreatDoor.BitsC Go.Proofs.YtkffmaeiplgjeaaGreatDoor.VaC Go.Proofs.YtkffmaeiplgjeaaGreatDoor.PteSpec
set_option linter.unusedVariables false
set_option linter.unusedSimpArgs false
def f8 (v r w x u g a d : Bool) : Nat → Bool
  | 0 => v
  | 1 => r
  | 2 => w
  | 3 => x
  | 4 => u
  | 5 => g
  | 6 => a
  | _ => d
theorem row_low8 (v r w x u g a d : Bool) (rsw ppn high : Int) : rowI (f8 v r w x u g a d) 8 = low8 ⟨v, r, w, x, u, g, a, d, rsw, ppn, high⟩ := by
  unfold low8; simp only [rowI, f8]; omega
theorem put_word (p : Pte) (h : p.U) (hm : mayP p = true) : setI (setI (setI (low8 p) 8 2 p.rsw) 10 44 p.ppn) 54 10 p.high = word p := by
  rw [mayP_iff] at hm
  have hl := low8_bd p
  obtain ⟨h1, h2, h3⟩ := h
  rw [setI_add (low8 p) 8 2 p.rsw ⟨by omega, by omega⟩ h1 (by omega) (by omega) (by omega) (by show _ < (2 : Int) ^ 8; omega) (by show _ < (2 : Int) ^ 2; omega)]
  rw [show (2 : Int) ^ (8 : Int).toNat = 256 from rfl]
  rw [setI_add _ 10 44 p.ppn ⟨by omega, by omega⟩ h2 (by omega) (by omega) (by omega) (by show _ < (2 : Int) ^ 10; omega) (by show _ < (2 : Int) ^ 44; omega)]
  rw [show (2 : Int) ^ (10 : Int).toNat = 1024 from rfl]
  rw [setI_add _ 54 10 p.high ⟨by omega, by omega⟩ h3 (by omega) (by omega) (by omega) (by show _ < (2 : Int) ^ 54; omega) (by show _ < (2 : Int) ^ 10; omega)]
  rw [show (2 : Int) ^ (54 : Int).toNat = 18014398509481984 from rfl]
  rfl
def putE (p : Pte) : Int := if mayP p then word p else 0
def putErr (p : Pte) : Int := if mayP p then 0 else 1
set_option maxHeartbeats 1000000 in
theorem put_calls (v r w x u g a d : Bool) (rsw ppn high : Int) (W : World) (h1 : U rsw) (h2 : U ppn) (h3 : U high) :
    Calls Tryz.prog 86 #[.agg #[.bool v, .bool r, .bool w, .bool x, .bool u, .bool g, .bool a, .bool d, .int .u64 rsw, .int .u64 ppn, .int .u64 high]] W fun e w' => e = .returned (.tuple #[.int .u64 (putE ⟨v, r, w, x, u, g, a, d, rsw, ppn, high⟩), .int .i64 (putErr ⟨v, r, w, x, u, g, a, d, rsw, ppn, high⟩)]) ∧ Below W.heap.size W w' := by
  cases hm : mayP ⟨v, r, w, x, u, g, a, d, rsw, ppn, high⟩
  · have H1 := Lib.hid (show putE ⟨v, r, w, x, u, g, a, d, rsw, ppn, high⟩ = 0 by unfold putE; rw [hm]; rfl)
    have H2 := Lib.hid (show putErr ⟨v, r, w, x, u, g, a, d, rsw, ppn, high⟩ = 1 by unfold putErr; rw [hm]; rfl)
    have HM := Lib.hid hm; clear hm
    go_enter Tryz.func86, Tryz.ntmps86
    go_wp2_with (go_at_call 110; (with_reducible refine (may_calls _ _ _ _ _ _ _ _ _ _ _ _ h1 h2 h3).mono ?_); rw [HM.out]; rintro e w1 ⟨rfl, hb⟩)
    go_ret2
    rw [H1.out, H2.out]
    exact ⟨rfl, (by repeat (first | (with_reducible exact Below.refl _ _) | (with_reducible apply bel_drewN) | (with_reducible apply bel_alloc) | (with_reducible apply bel_trans; rotate_left; with_reducible assumption) | (with_reducible refine bel_setCell _ _ _ (by first | omega | (simp; done) | (simp; omega) | (simp at *; omega)) ?_)))⟩
  · have H1 := Lib.hid (show putE ⟨v, r, w, x, u, g, a, d, rsw, ppn, high⟩ = word ⟨v, r, w, x, u, g, a, d, rsw, ppn, high⟩ by unfold putE; rw [hm]; rfl)
    have H2 := Lib.hid (show putErr ⟨v, r, w, x, u, g, a, d, rsw, ppn, high⟩ = 0 by unfold putErr; rw [hm]; rfl)
    have H3 := Lib.hid (put_word ⟨v, r, w, x, u, g, a, d, rsw, ppn, high⟩ ⟨h1, h2, h3⟩ hm)
    have H4 := Lib.hid (row_low8 v r w x u g a d rsw ppn high)
    have HM := Lib.hid hm; clear hm
    have hl := low8_bd ⟨v, r, w, x, u, g, a, d, rsw, ppn, high⟩
    have hlU : U (low8 ⟨v, r, w, x, u, g, a, d, rsw, ppn, high⟩) := ⟨hl.1, by omega⟩
    go_enter Tryz.func86, Tryz.ntmps86
    go_wp2_with (first
      | (go_at_call 110; (with_reducible refine (may_calls _ _ _ _ _ _ _ _ _ _ _ _ h1 h2 h3).mono ?_); rw [HM.out]; rintro e w1 ⟨rfl, hb⟩; obtain ⟨hc, hf⟩ := bcell hb; have hz : W.heap.size < w1.heap.size := by have := hb.size; simp at this; omega)
      | fail)
    refine (row_calls (f8 v r w x u g a d) _ _ ?_).mono ?_
    · intro i hi
      have : i = 0 ∨ i = 1 ∨ i = 2 ∨ i = 3 ∨ i = 4 ∨ i = 5 ∨ i = 6 ∨ i = 7 := by omega
      rcases this with rfl | rfl | rfl | rfl | rfl | rfl | rfl | rfl <;> simp [f8]
    rintro e w2 ⟨rfl, ⟨n2, rfl⟩⟩
    rw [H4.out]
    go_wp2_with (first
      | (go_at_call 93; (with_reducible refine (set_calls _ _ _ _ _ (by first | assumption | exact setI_U _ _ _ _) (by assumption) (by omega) (by omega) (by omega) (by omega)).mono ?_); rintro e w' ⟨rfl, ⟨nd, rfl⟩⟩)
      | fail)
    go_ret2
    rw [H1.out, H2.out, ← H3.out]
    exact ⟨rfl, (by repeat (first | (with_reducible exact Below.refl _ _) | (with_reducible apply bel_drewN) | (with_reducible apply bel_alloc) | (with_reducible apply bel_trans; rotate_left; with_reducible assumption) | (with_reducible refine bel_setCell _ _ _ (by first | omega | (simp; done) | (simp; omega) | (simp at *; omega)) ?_)))⟩
set_option maxHeartbeats 1000000 in
theorem get1_same (x i : Int) (b : Nat) (W : World) (hx : U x) (h0 : 0 ≤ i) (h1 : i ≤ 7) (hc : W.cell? ⟨b, 0, none⟩ = some (.int .u64 x)) :
    Calls Tryz.prog 133 #[.int .i64 i, .pointer (some ⟨b, 0, none⟩)] W fun e w' => e = .returned (.bool (bitI x i)) ∧ w' = W := by
  have H := Lib.hid (show (getI x i 1 == 1) = bitI x i by rw [getI_val x i 1 hx (by omega)]; rfl)
  go_enter Tryz.func133, Tryz.ntmps133
  go_wp2_with (go_at_call 64; (with_reducible refine (get_same _ _ _ _ hx (by omega) (by omega) (by omega) (by omega)).mono ?_); rintro e w' ⟨rfl, rfl⟩)
  go_ret
  exact ⟨congrArg (fun z => Ending.returned (.bool z)) H.out, rfl⟩
end Go.Proofs.YtkffmaeiplgjeaaGreatDoor.PteC
/- The contracts of the layer pte, the fourth part: Get. -/
namespace Go.Proofs.YtkffmaeiplgjeaaGreatDoor.PteC
open Go.RowKit Go.Proofs.YtkffmaeiplgjeaaGreatDoor.Bv Go.Proofs.YtkffmaeiplgjeaaGreatDoor.VaSpec Go.Proofs.YtkffmaeiplgjeaaGreatDoor.Base Go.Proofs.YtkffmaeiplgjeaaGreatDoor.BitsC Go.Proofs.YtkffmaeiplgjeaaGreatDoor.VaC Go.Proofs.YtkffmaeiplgjeaaGreatDoor.PteSpec
set_option linter.unusedVariables false
set_option linter.unusedSimpArgs false
set_option maxRecDepth 4000
set_option maxHeartbeats 1000000 in
theorem pget_calls (x : Int) (W : World) (hx : U x) :
    Calls Tryz.prog 117 #[.int .u64 x] W fun e w' => e = .returned (.agg #[.bool (pteOf x).v, .bool (pteOf x).r, .bool (pteOf x).w, .bool (pteOf x).x, .bool (pteOf x).u, .bool (pteOf x).g, .bool (pteOf x).a, .bool (pteOf x).d, .int .u64 (pteOf x).rsw, .int .u64 (pteOf x).ppn, .int .u64 (pteOf x).high]) ∧ Below W.heap.size W w' := by
  have Ha := Lib.hid (show getI x 8 2 = (pteOf x).rsw by rw [getI_val x 8 2 hx (by omega)]; rfl)
  have Hb := Lib.hid (show getI x 10 44 = (pteOf x).ppn by rw [getI_val x 10 44 hx (by omega)]; rfl)
  have Hc := Lib.hid (show getI x 54 10 = (pteOf x).high by
    rw [getI_val x 54 10 hx (by omega)]; show x / 2 ^ 54 % 2 ^ 10 = x / 18014398509481984; obtain ⟨p, q⟩ := hx; omega)
  go_enter Tryz.func117, Tryz.ntmps117
  go_wp2_with fail
  refine still_tail 23 (by kernel_rfl) (by kernel_rfl) ?_
  intro W2 hW2
  simp only [List.take_succ_cons, List.take_zero, List.drop_succ_cons, List.drop_zero]
  have hcell : W2.cell? ⟨W.heap.size, 0, none⟩ = some (.int .u64 x) := by rw [hW2]; simp
  have hHW := Lib.hid hW2; clear hW2
  repeat (first
    | still_step
    | still_call (get1_same _ _ _ _ hx (by omega) (by omega) hcell)
    | still_call (get_same _ _ _ _ hx (by omega) (by omega) (by omega) (by omega)))
  refine wpStill_nil ?_
  rw [Ha.out, Hb.out, Hc.out, show bitI x 0 = (pteOf x).v from rfl, show bitI x 1 = (pteOf x).r from rfl, show bitI x 2 = (pteOf x).w from rfl, show bitI x 3 = (pteOf x).x from rfl, show bitI x 4 = (pteOf x).u from rfl, show bitI x 5 = (pteOf x).g from rfl, show bitI x 6 = (pteOf x).a from rfl, show bitI x 7 = (pteOf x).d from rfl]
  have hW2 := hHW.out
  clear hcell
  subst hW2
  go_wp2
  refine bodyPost_ret (v := .agg #[.bool (pteOf x).v, .bool (pteOf x).r, .bool (pteOf x).w, .bool (pteOf x).x, .bool (pteOf x).u, .bool (pteOf x).g, .bool (pteOf x).a, .bool (pteOf x).d, .int .u64 (pteOf x).rsw, .int .u64 (pteOf x).ppn, .int .u64 (pteOf x).high]) ?_ rfl ?_
  · simp [results, Tryz.results117, go_sem]
  · exact ⟨rfl, (by repeat (first | (with_reducible exact Below.refl _ _) | (with_reducible apply bel_drewN) | (with_reducible apply bel_alloc) | (with_reducible apply bel_trans; rotate_left; with_reducible assumption) | (with_reducible refine bel_setCell _ _ _ (by first | omega | (simp; done) | (simp; omega) | (simp at *; omega)) ?_)))⟩
end Go.Proofs.YtkffmaeiplgjeaaGreatDoor.PteC
/- The contract of slices.Clone at api.Space. -/
namespace Go.Proofs.YtkffmaeiplgjeaaGreatDoor.CloneSpace
open Go.RowKit Go.Proofs.YtkffmaeiplgjeaaGreatDoor.Bv Go.Proofs.YtkffmaeiplgjeaaGreatDoor.Base Go.Proofs.YtkffmaeiplgjeaaGreatDoor.MemL
set_option linter.unusedVariables false
set_option linter.unusedSimpArgs false
theorem info : (Tryz.prog.info? 65).map (fun i => (i.zero, i.size, i.bytes)) = some (some (.agg #[.int .u64 0, .int .u64 0, .bool false]), 3, 24) := by kernel_rfl
set_option maxHeartbeats 2000000 in
theorem clone_calls (v : Value) (n : Nat) (xs : List Value) (W : World) (h1 : ∀ u ∈ xs, u.oneCell' = true) (hbig : n * 24 ≤ 140737488355328) (hv : Sl W v n 3 xs) :
    Calls Tryz.prog 58 #[v] W fun e w' => ∃ v', e = .returned v' ∧ w'.ownsRow W.heap.size 65 3 v' n xs ∧ Below W.heap.size W w' := by
  obtain ⟨hl, hv⟩ := hv
  have q : ∀ (w : World) (a : Option Addr) (n c n' c' : Nat), (binOp .eql 41 (.slice a n c) (.slice none n' c')).run Tryz.prog w = .ok (.bool a.isNone) w := fun w a n c n' c' => Lib.run_eql_slice_nil w _ _ a n c n' c' Tryz.underlying41
  rcases hv with ⟨rfl, rfl⟩ | ⟨b, o, cap, rfl, hb, hcap, hmax, hcell⟩
  · obtain rfl := List.eq_nil_of_length_eq_zero (by omega : xs.length = 0)
    go_enter Tryz.func58, Tryz.ntmps58
    go_wp2
    go_ret
    exact ⟨_, rfl, ⟨rfl, .inl ⟨rfl, rfl⟩⟩, Below.refl _ _⟩
  · obtain ⟨i0, hi, hz0, hz1, hz2⟩ := info_parts info
    have A := Lib.hid hcell
    have hl' := Lib.hid hl
    clear hcell hl
    go_enter Tryz.func58, Tryz.ntmps58
    go_wp2_with (at_builtin; refine wpList_append_own _ rfl _ _ 41 rfl W.heap.size 65 i0 (.agg #[.int .u64 0, .int .u64 0, .bool false]) 3 24 Tryz.underlying41 hi hz0 hz1 hz2 rfl (by decide) _ _ _ rfl (World.ownsRow_made W #[] 0 (Nat.le_refl _) (Nat.zero_le _) rfl) ⟨b, o, none⟩ n cap xs rfl ?qc1 ?qc2 ?qc3 ?qc4 ?qc5 ?qc6 ?_)
    case qc1 => exact hl'.out
    case qc2 =>
      intro j u hj
      have hjn : j < n * 3 := by
        have := (List.getElem?_eq_some_iff.1 hj).1
        have := hl'.out
        omega
      rw [Addr.add_lit]
      refine Lib.cell?_alloc_some _ ?_
      rw [A.out j hjn]; exact hj
    case qc3 => exact h1
    case qc4 => unfold maxLen at *; omega
    case qc5 => omega
    case qc6 => simp
    intro v' w1 hown hgrow hnil
    go_wp2
    go_ret
    refine ⟨v', rfl, by simpa using hown, ?_⟩
    exact ((Below.refl _ W).alloc (Nat.le_refl _) _).grown hgrow (by simp) (by intro k hk; simp [Value.ownBlock] at hk; omega)
end Go.Proofs.YtkffmaeiplgjeaaGreatDoor.CloneSpace
/- The contract of slices.Grow of the nil slice, at api.Space. -/
namespace Go.Proofs.YtkffmaeiplgjeaaGreatDoor.GrowSpace
open Go.RowKit Go.Proofs.YtkffmaeiplgjeaaGreatDoor.Bv Go.Proofs.YtkffmaeiplgjeaaGreatDoor.Base Go.Proofs.YtkffmaeiplgjeaaGreatDoor.MemL
set_option linter.unusedVariables false
set_option linter.unusedSimpArgs false
set_option maxHeartbeats 2000000 in
set_option maxRecDepth 100000 in
theorem grow_calls (n : Nat) (W : World) (hbig : n * 24 ≤ 140737488355328) :
    Calls Tryz.prog 95 #[.slice none 0 0, .int .i64 n] W fun e w' => ∃ v', e = .returned v' ∧ w'.ownsRow W.heap.size 65 3 v' 0 [] ∧ Below W.heap.size W w' := by
  obtain ⟨i0, hi0, hz0, hz1, hz2⟩ := info_parts CloneSpace.info
  have h1 : ¬ ((n : Int) < 0) := by omega
  have h3 : wrap64 (n : Int) = n := by unfold wrap64; omega
  have h3' : IntKind.i64.wrap (n : Int) = n := by rw [IntKind.wrap_i64]; omega
  by_cases h0 : n = 0
  · subst h0
    go_enter Tryz.func95, Tryz.ntmps95
    go_wp2
    go_ret
    exact ⟨_, rfl, ⟨rfl, .inl ⟨rfl, rfl⟩⟩, Below.refl _ _⟩
  · have h4 : (n : Int) > 0 := by omega
    have hrz : ∀ ty, (Builtin.append_ #[41, 3] ty #[.slice none 0 0, .int .i64 (n : Int)]).run Tryz.prog W =
        .ok (.slice (some ⟨W.heap.size, 0, none⟩) n (grownCap W n 0 65)) (W.drew.alloc (.cells (#[] ++ Builtin.zeroCells (.agg #[.int .u64 0, .int .u64 0, .bool false] : Value).cells n ++ Builtin.zeroCells (.agg #[.int .u64 0, .int .u64 0, .bool false] : Value).cells (grownCap W n 0 65 - n)) 65)) := fun ty => by
      have h := Lib.run_append_grow_zeros W 41 3 ty 65 i0 (.agg #[.int .u64 0, .int .u64 0, .bool false]) .i64 .i64 Tryz.underlying41 Tryz.underlying3 hi0 hz0 none 0 0 [] (run_firstCells_none W.drew _ 0 0 0) n (by omega) (by omega) (by omega) (by omega)
        (by rw [hz2]; omega) (growslice_fits (by omega) (by rw [hz2]; omega))
      simpa using h
    have hG : n ≤ grownCap W n 0 65 := grownCap_ge W _ _ _
    have hGm := grownCap_le_maxLen W n 0 65 (by unfold maxLen; omega)
    generalize grownCap W n 0 65 = G at hrz hG hGm
    unfold maxLen at hGm
    go_enter Tryz.func95, Tryz.ntmps95
    go_wp2_with (at_builtin; refine Lib.wpList_append_run _ rfl _ _ _ _ rfl _ _ rfl rfl _ _ (hrz _) ?_)
    all_goals
      go_ret
      refine ⟨_, rfl, ⟨rfl, .inr ⟨W.heap.size, G, _, rfl, Nat.le_refl _, heap_alloc_new _ _, by omega, by unfold maxLen; omega, ?_, rfl⟩⟩, ?_⟩
      · simp [Builtin.zeroCells, Value.cells]; omega
      · exact bel_alloc (bel_drewN (Below.refl _ _) 1) _
end Go.Proofs.YtkffmaeiplgjeaaGreatDoor.GrowSpace
/- The contract of slices.Concat of two slices, at api.Space. -/
namespace Go.Proofs.YtkffmaeiplgjeaaGreatDoor.ConcatSpace
open Go.RowKit Go.Proofs.YtkffmaeiplgjeaaGreatDoor.Bv Go.Proofs.YtkffmaeiplgjeaaGreatDoor.Base Go.Proofs.YtkffmaeiplgjeaaGreatDoor.MemL
set_option linter.unusedVariables false
set_option linter.unusedSimpArgs false
/-- how many elements the first k have -/
def nk (n1 n2 : Nat) : Nat → Nat | 0 => 0 | 1 => n1 | _ => n1 + n2
def xk (x1 x2 : List Value) : Nat → List Value | 0 => [] | 1 => x1 | _ => x1 ++ x2
def vk (v1 v2 : Value) : Nat → Value | 0 => v1 | _ => v2
def ck (n1 n2 : Nat) : Nat → Nat | 0 => n1 | _ => n2
def yk (x1 x2 : List Value) : Nat → List Value | 0 => x1 | _ => x2
theorem nk_succ (n1 n2 k : Nat) (h : k < 2) : nk n1 n2 (k + 1) = nk n1 n2 k + ck n1 n2 k := by
  match k, h with
  | 0, _ => simp [nk, ck]
  | 1, _ => simp [nk, ck]
theorem xk_succ (n1 n2 : List Value) (k : Nat) (h : k < 2) : xk n1 n2 (k + 1) = xk n1 n2 k ++ yk n1 n2 k := by
  match k, h with
  | 0, _ => simp [xk, yk]
  | 1, _ => simp [xk, yk]
theorem nk_le (n1 n2 k : Nat) : nk n1 n2 k ≤ n1 + n2 := by
  match k with
  | 0 => simp [nk]
  | 1 => simp [nk]
  | k + 2 => simp [nk]
theorem sl_shape {w : World} {v : Value} {n k : Nat} {xs : List Value} (h : Sl w v n k xs) : ∃ a c, v = .slice a n c := by
  obtain ⟨_, ⟨rfl, hn⟩ | ⟨b, o, cap, rfl, _⟩⟩ := h
  · exact ⟨_, _, by rw [hn]⟩
  · exact ⟨_, _, rfl⟩
theorem sl_k {w : World} {v1 v2 : Value} {n1 n2 : Nat} {x1 x2 : List Value} (h1 : Sl w v1 n1 3 x1) (h2 : Sl w v2 n2 3 x2) (k : Nat) : Sl w (vk v1 v2 k) (ck n1 n2 k) 3 (yk x1 x2 k) := by
  cases k with
  | zero => exact h1
  | succ k => exact h2
theorem one_k {x1 x2 : List Value} (h1 : ∀ u ∈ x1, u.oneCell' = true) (h2 : ∀ u ∈ x2, u.oneCell' = true) (k : Nat) : ∀ u ∈ yk x1 x2 k, u.oneCell' = true := by
  cases k with
  | zero => exact h1
  | succ k => exact h2
set_option maxHeartbeats 4000000 in
set_option maxRecDepth 100000 in
theorem concat_calls (vb : Nat) (v1 v2 : Value) (n1 n2 : Nat) (x1 x2 : List Value) (W : World) (hc : Bx W vb #[v1, v2]) (s1 : Sl W v1 n1 3 x1) (s2 : Sl W v2 n2 3 x2) (o1 : ∀ u ∈ x1, u.oneCell' = true) (o2 : ∀ u ∈ x2, u.oneCell' = true)
    (hbig : (n1 + n2) * 24 ≤ 140737488355328) :
    Calls Tryz.prog 60 #[.slice (some ⟨vb, 0, none⟩) 2 2] W fun e w' => ∃ v', e = .returned v' ∧ w'.ownsRow W.heap.size 65 3 v' (n1 + n2) (x1 ++ x2) ∧ Below W.heap.size W w' := by
  obtain ⟨i0, hi0, hz0, hz1, hz2⟩ := info_parts CloneSpace.info
  have hcell : ∀ k, k < 2 → W.cell? ⟨vb, k, none⟩ = some (vk v1 v2 k) := fun k hk => by
    match k, hk with
    | 0, _ => exact hc.cell 0
    | 1, _ => exact hc.cell 1
  have hsk := fun k => sl_k s1 s2 k
  have hok := fun k => one_k o1 o2 k
  go_enter Tryz.func60, Tryz.ntmps60
  go_wp2
  go_loopw [3, 11] (fun s i wr => ∃ k : Nat, k ≤ 2 ∧ i = .int .i64 k ∧ s = .int .i64 (nk n1 n2 k) ∧ Below W.heap.size W wr) (fun _ i _ => 2 - (intOf i).toNat)
  case atStart => exact ⟨0, by omega, rfl, rfl, Below.refl _ _⟩
  case round =>
    obtain ⟨k, hk, rfl, rfl, br⟩ := hrel
    by_cases hk2 : k < 2
    · have r0 : wr.cell? ⟨vb, k, none⟩ = some (vk v1 v2 k) := (br.cell (p := ⟨vb, k, none⟩) hc.lt).trans (hcell k hk2)
      obtain ⟨a, c, hv⟩ := sl_shape (hsk k)
      rw [hv] at r0
      have hs := nk_succ n1 n2 k hk2
      have hl := nk_le n1 n2 (k + 1)
      have hw : IntKind.i64.wrap (((nk n1 n2 k : Nat) : Int) + ((ck n1 n2 k : Nat) : Int)) = ((nk n1 n2 (k + 1) : Nat) : Int) := by rw [IntKind.wrap_i64]; omega
      have HS := Lib.hid hs
      clear hs
      go_wp2
      exact ⟨⟨k + 1, by omega, by go_num, rfl, br⟩, by simp [intOf]; omega⟩
    · obtain rfl : k = 2 := by omega
      have hn2 : nk n1 n2 2 = n1 + n2 := rfl
      go_wp2_with fail
      refine (Go.Proofs.YtkffmaeiplgjeaaGreatDoor.GrowSpace.grow_calls (n1 + n2) wr hbig).mono ?_
      rintro e w2 ⟨v0, rfl, O2, b2⟩
      have B2 := bel_trans br b2
      have O2' : w2.ownsRow W.heap.size 65 3 v0 0 [] := by
        obtain ⟨p1, p2⟩ := O2
        refine ⟨p1, ?_⟩
        rcases p2 with p2 | ⟨g, cap, cur, hv, hg, r⟩
        · exact .inl p2
        · exact .inr ⟨g, cap, cur, hv, Nat.le_trans br.size hg, r⟩
      clear O2 b2 br
      go_wp2
      go_loopw [6, 27] (fun v i wr => ∃ k : Nat, k ≤ 2 ∧ i = .int .i64 k ∧ wr.ownsRow W.heap.size 65 3 v (nk n1 n2 k) (xk x1 x2 k) ∧ Below W.heap.size W wr) (fun _ i _ => 2 - (intOf i).toNat)
      case atStart => exact ⟨0, by omega, rfl, O2', B2⟩
      case round =>
        obtain ⟨k, hk, rfl, O, br⟩ := hrel
        by_cases hk2 : k < 2
        · have r0 : wr.cell? ⟨vb, k, none⟩ = some (vk v1 v2 k) := (br.cell (p := ⟨vb, k, none⟩) hc.lt).trans (hcell k hk2)
          have hs := nk_succ n1 n2 k hk2
          have hx := xk_succ x1 x2 k hk2
          have hl := nk_le n1 n2 (k + 1)
          have hsl := (hsk k).below br
          have ho := hok k
          obtain ⟨hyl, hsl⟩ := hsl
          have fin : ∀ v' w', w'.ownsRow W.heap.size 65 3 v' (nk n1 n2 k + ck n1 n2 k) (xk x1 x2 k ++ yk x1 x2 k) → Below W.heap.size W w' → w'.ownsRow W.heap.size 65 3 v' (nk n1 n2 (k + 1)) (xk x1 x2 (k + 1)) := fun v' w' h _ => by rw [hs, hx]; exact h
          have FIN := Lib.hid fin
          have HS := Lib.hid hs
          clear fin hs hx
          rcases hsl with ⟨hv, hn⟩ | ⟨b, o, cap, hv, hb, hcap, hmax, hce⟩
          · rw [hv] at r0
            have hy0 : yk x1 x2 k = [] := List.eq_nil_of_length_eq_zero (by rw [hyl, hn, Nat.zero_mul])
            go_wp2_with (at_builtin; refine wpList_append_own_none rfl _ _ 41 rfl W.heap.size 65 i0 3 Tryz.underlying41 hi0 _ _ _ rfl O rfl ?_)
            refine ⟨⟨k + 1, by omega, by go_num, ?_, br⟩, by simp [intOf]; omega⟩
            refine FIN.out _ _ ?_ br
            rw [hy0, hn, List.append_nil, Nat.add_zero]
            exact O
          · rw [hv] at r0
            have hsz := br.size
            have HC := Lib.hid hce
            have HY := Lib.hid hyl
            clear hce hyl
            unfold maxLen at hmax
            go_wp2_with (at_builtin; refine wpList_append_own _ rfl _ _ 41 rfl W.heap.size 65 i0 (.agg #[.int .u64 0, .int .u64 0, .bool false]) 3 24 Tryz.underlying41 hi0 hz0 hz1 hz2 rfl (by decide) _ _ _ rfl O ⟨b, o, none⟩ (ck n1 n2 k) cap (yk x1 x2 k) rfl ?qc1 ?qc2 ?qc3 ?qc4 ?qc5 ?qc6 ?_)
            case qc1 => exact HY.out
            case qc2 =>
              intro j u hj
              have hjn : j < ck n1 n2 k * 3 := by
                have := (List.getElem?_eq_some_iff.1 hj).1
                have := HY.out
                omega
              rw [Addr.add_lit]
              rw [HC.out j hjn]; exact hj
            case qc3 => exact ho
            case qc4 => have := HS.out; unfold maxLen; omega
            case qc5 => have := HS.out; omega
            case qc6 => exact hsz
            intro v' w1 hown hgrow hnil
            go_wp2
            have br' : Below W.heap.size W w1 := br.grown hgrow hsz (fun g hg => (O.lt g hg).1)
            exact ⟨⟨k + 1, by omega, by go_num, FIN.out _ _ hown br', br'⟩, by simp [intOf]; omega⟩
        · obtain rfl : k = 2 := by omega
          go_wp2
          go_ret
          exact ⟨_, rfl, O, br⟩
end Go.Proofs.YtkffmaeiplgjeaaGreatDoor.ConcatSpace
/- Contracts that were proved by hand, as contracts of the abstract walk. -/
namespace Go.Proofs.YtkffmaeiplgjeaaGreatDoor.OkS
open Go.RowKit Go.Proofs.YtkffmaeiplgjeaaGreatDoor.Bv Go.Proofs.YtkffmaeiplgjeaaGreatDoor.VaSpec Go.Proofs.YtkffmaeiplgjeaaGreatDoor.Base Go.Proofs.YtkffmaeiplgjeaaGreatDoor.MemL Go.Proofs.YtkffmaeiplgjeaaGreatDoor.RegR Go.Proofs.YtkffmaeiplgjeaaGreatDoor.Ax Go.Proofs.YtkffmaeiplgjeaaGreatDoor.MemC Go.Proofs.YtkffmaeiplgjeaaGreatDoor.PutC Go.Proofs.YtkffmaeiplgjeaaGreatDoor.MemC3 Go.Proofs.YtkffmaeiplgjeaaGreatDoor.TzC
open Go.Proofs.YtkffmaeiplgjeaaGreatDoor.BitsC Go.Proofs.YtkffmaeiplgjeaaGreatDoor.PteSpec
set_option linter.unusedVariables false
set_option linter.unusedSimpArgs false
/-- the types of the program, as tables -/
def tb : Tb := ⟨fun t => Ax.look false [(7, true), (8, true), (13, true), (14, true), (18, true), (19, true), (22, true), (23, true), (28, true), (29, true), (31, true), (32, true), (33, true), (34, true), (35, true), (36, true), (37, true), (38, true), (39, true), (40, true), (43, true), (44, true), (53, true), (54, true), (64, true), (65, true), (72, true), (73, true), (101, true), (102, true), (108, true), (109, true), (115, true), (116, true), (157, true), (158, true), (159, true), (160, true), (161, true), (162, true), (163, true), (164, true), (168, true), (176, true), (182, true), (202, true), (203, true), (204, true), (205, true), (206, true), (215, true), (216, true)] t, fun t => Ax.look 1 [(7, 4), (8, 4), (13, 2), (14, 2), (22, 4), (23, 4), (28, 2), (29, 2), (33, 3), (34, 3), (35, 8), (36, 8), (37, 3), (38, 3), (39, 3), (40, 3), (43, 24), (44, 24), (53, 2), (54, 2), (64, 3), (65, 3), (72, 4), (73, 4), (101, 11), (102, 11), (108, 13), (109, 13), (115, 2), (116, 2), (157, 4), (158, 4), (159, 11), (160, 11), (161, 44), (162, 45), (163, 45), (164, 64), (168, 3), (176, 64), (182, 4), (202, 4), (203, 4), (204, 0), (205, 0), (206, 0), (215, 11), (216, 11)] t, fun t f => (Ax.look [] [(7, [0, 1, 2, 3]), (8, [0, 1, 2, 3]), (13, [0, 1]), (14, [0, 1]), (18, [0]), (19, [0]), (22, [0, 1, 2, 3]), (23, [0, 1, 2, 3]), (28, [0, 1]), (29, [0, 1]), (31, [0]), (32, [0]), (33, [0, 1, 2]), (34, [0, 1, 2]), (35, [0, 1, 4, 5, 6, 7]), (36, [0, 1, 4, 5, 6, 7]), (37, [0, 1, 2]), (38, [0, 1, 2]), (39, [0, 1, 2]), (40, [0, 1, 2]), (43, [0, 4, 6, 14, 17, 20, 21, 22, 23]), (44, [0, 4, 6, 14, 17, 20, 21, 22, 23]), (53, [0, 1]), (54, [0, 1]), (64, [0, 1, 2]), (65, [0, 1, 2]), (72, [0, 1, 2, 3]), (73, [0, 1, 2, 3]), (101, [0, 1, 2, 3, 4, 5, 6, 7, 8, 9, 10]), (102, [0, 1, 2, 3, 4, 5, 6, 7, 8, 9, 10]), (108, [0, 1, 2]), (109, [0, 1, 2]), (115, [0, 1]), (116, [0, 1]), (157, [0, 1, 2, 3]), (158, [0, 1, 2, 3]), (159, [0, 1, 2, 3, 4, 5, 6, 10]), (160, [0, 1, 2, 3, 4, 5, 6, 10]), (162, [0, 44]), (163, [0, 44]), (182, [0, 1, 2, 3]), (202, [0, 1, 2, 3]), (203, [0, 1, 2, 3]), (205, [0]), (206, [0]), (215, [0, 1, 2, 3, 4, 5, 6, 7, 8, 9, 10]), (216, [0, 1, 2, 3, 4, 5, 6, 7, 8, 9, 10])] t).getD f 0⟩
/-- the functions that the fence's table names -/
def askF (i : Nat) : Value := if i = 0 then .func (.func 163) #[] #[] else .func (.func 165) #[] #[]
def Asks (w : World) : Prop := ∃ b o c, w.cell? ⟨2, 0, none⟩ = some (.slice (some ⟨b, o, none⟩) 2 c) ∧ w.cell? ⟨b, o, none⟩ = some (askF 0) ∧ w.cell? ⟨b, o + 1, none⟩ = some (askF 1)
theorem asks_below {w w' : World} (h : Asks w) (hb : Below w.heap.size w w') : Asks w' := by
  obtain ⟨b, o, c, h1, h2, h3⟩ := h
  exact ⟨b, o, c, (hb.cell (p := ⟨2, 0, none⟩) (block_lt_of_cell h1)).trans h1, (hb.cell (p := ⟨b, o, none⟩) (block_lt_of_cell h2)).trans h2, (hb.cell (p := ⟨b, o + 1, none⟩) (block_lt_of_cell h3)).trans h3⟩
/-- what the program's text lays -/
structure GG (w : World) : Prop where
  s : G w
  t : TabT w
  k : Asks w
theorem tabT_below {w w' : World} (h : TabT w) (b : Below w.heap.size w w') : TabT w' := fun j hj => (b.cell (p := ⟨1, j, none⟩) (block_lt_of_cell (h j hj))).trans (h j hj)
theorem GG.to (w w' : World) (h : GG w) (b : Below w.heap.size w w') : GG w' := ⟨h.s.to b, tabT_below h.t b, asks_below h.k b⟩
abbrev Ok (k : FuncId) (args : List Cm) (r : AV) : Prop := CallOk Tryz.prog GG k args r
abbrev iu (n : Int) : Cm := .c (.v (.int .u64 n))
abbrev ii (n : Int) : Cm := .c (.v (.int .i64 n))
abbrev ib (b : Bool) : Cm := .c (.v (.bool b))
abbrev cu (n : Int) : Ce := .v (.int .u64 n)
abbrev ci (n : Int) : Ce := .v (.int .i64 n)
abbrev cb (b : Bool) : Ce := .v (.bool b)
def _root_.Go.Proofs.YtkffmaeiplgjeaaGreatDoor.PteSpec.Pte.ce (p : Pte) : List Ce := [cb p.v, cb p.r, cb p.w, cb p.x, cb p.u, cb p.g, cb p.a, cb p.d, cu p.rsw, cu p.ppn, cu p.high]
theorem get_ok (a lo n : Int) (ha : U a) (l0 : 0 ≤ lo) (l1 : lo ≤ 64) (h0 : 0 ≤ n) (h : n ≤ 64) : Ok 64 [iu a, ii lo, ii n] (.m (iu (getI a lo n))) :=
  ok_plain #[.int .u64 a, .int .i64 lo, .int .i64 n] (.int .u64 (getI a lo n)) fun W _ => (get_calls a lo n W ha l0 l1 h0 h).mono fun _ _ ⟨e, q⟩ => ⟨e, q.below⟩
theorem set_ok (a lo n v : Int) (ha : U a) (hv : U v) (l0 : 0 ≤ lo) (l1 : lo ≤ 64) (h0 : 0 ≤ n) (h : n ≤ 64) : Ok 93 [iu a, ii lo, ii n, iu v] (.m (iu (setI a lo n v))) :=
  ok_plain #[.int .u64 a, .int .i64 lo, .int .i64 n, .int .u64 v] (.int .u64 (setI a lo n v)) fun W _ => (set_calls a lo n v W ha hv l0 l1 h0 h).mono fun _ _ ⟨e, q⟩ => ⟨e, q.below⟩
theorem even_ok (a b : Int) (ha : U a) (hb : U b) : Ok 96 [iu a, iu b] (.m (ib (evenI a b))) :=
  ok_plain #[.int .u64 a, .int .u64 b] (.bool (evenI a b)) fun W _ => (even_calls a b W ha hb).mono fun _ _ ⟨e, q⟩ => ⟨e, q.below⟩
theorem idx_ok (a l : Int) (ha : U a) (h0 : 0 ≤ l) (h2 : l ≤ 2) : Ok 41 [iu a, ii l] (.m (ii (idx a l))) :=
  ok_plain #[.int .u64 a, .int .i64 l] (.int .i64 (idx a l)) fun W _ => (VaC.idx_calls a l W ha.1 ha.2 h0 h2).mono fun _ _ ⟨e, q⟩ => ⟨e, q.below⟩
theorem of_ok (n : Int) (ha : U n) : Ok 89 [iu n] (.m (iu (ofv n))) :=
  ok_plain #[.int .u64 n] (.int .u64 (ofv n)) fun W _ => (VaC.of_calls n W ha.1 ha.2).mono fun _ _ ⟨e, q⟩ => ⟨e, q.below⟩
theorem vfits_ok (a l : Int) (ha : U a) (h0 : 0 ≤ l) (h2 : l ≤ 2) : Ok 40 [iu a, ii l] (.m (ib (fits a l))) :=
  ok_plain #[.int .u64 a, .int .i64 l] (.bool (fits a l)) fun W g => (VaC.fits_calls a l W ha.1 ha.2 h0 h2 g.s).mono fun _ _ ⟨e, q⟩ => ⟨e, q.below⟩
theorem vis_ok (a : Int) (ha : U a) : Ok 76 [iu a] (.m (ib (isv a))) :=
  ok_plain #[.int .u64 a] (.bool (isv a)) fun W g => (VaC.is_calls a W ha.1 ha.2).mono fun _ _ ⟨e, q⟩ => ⟨e, q.below⟩
theorem vbase_ok (a l : Int) (ha : U a) (h0 : 0 ≤ l) (h2 : l ≤ 2) : Ok 168 [iu a, ii l] (.m (iu (VaSpec.base a l))) :=
  ok_plain #[.int .u64 a, .int .i64 l] (.int .u64 (VaSpec.base a l)) fun W g => (VaC.base_calls a l W ha.1 ha.2 h0 h2 g.s).mono fun _ _ ⟨e, q⟩ => ⟨e, q.below⟩
theorem vnum_ok (a : Int) (ha : U a) : Ok 167 [iu a] (.m (iu (num a))) :=
  ok_plain #[.int .u64 a] (.int .u64 (num a)) fun W g => (VaC.num_calls a W ha.1 ha.2).mono fun _ _ ⟨e, q⟩ => ⟨e, q.below⟩
theorem place_ok (f i : Int) (hf : 0 ≤ f ∧ f < 1099511627776) (hi : 0 ≤ i ∧ i < 512) : Ok 88 [iu f, ii i] (.m (iu (f * 4096 + i * 8))) :=
  ok_plain #[.int .u64 f, .int .i64 i] (.int .u64 (f * 4096 + i * 8)) fun W _ => (TableC.place_calls f i W hf hi).mono fun _ _ ⟨e, q⟩ => ⟨e, q.below⟩
theorem pput_ok (p : Pte) (h : p.U) : Ok 86 [.ag p.ce] (.tu [iu (PteC.putE p), ii (PteC.putErr p)]) :=
  ok_plain #[.agg #[.bool p.v, .bool p.r, .bool p.w, .bool p.x, .bool p.u, .bool p.g, .bool p.a, .bool p.d, .int .u64 p.rsw, .int .u64 p.ppn, .int .u64 p.high]] (.tuple #[.int .u64 (PteC.putE p), .int .i64 (PteC.putErr p)])
    fun W _ => PteC.put_calls p.v p.r p.w p.x p.u p.g p.a p.d p.rsw p.ppn p.high W h.1 h.2.1 h.2.2
theorem plink_ok (p : Pte) : Ok 118 [.ag p.ce] (.m (ib (linkP p))) :=
  ok_plain #[.agg #[.bool p.v, .bool p.r, .bool p.w, .bool p.x, .bool p.u, .bool p.g, .bool p.a, .bool p.d, .int .u64 p.rsw, .int .u64 p.ppn, .int .u64 p.high]] (.bool (linkP p))
    fun W _ => PteC.link_calls p.v p.r p.w p.x p.u p.g p.a p.d p.rsw p.ppn p.high W
theorem pbad_ok (p : Pte) (h : p.U) (l : Int) (l0 : 0 ≤ l) (l2 : l ≤ 2) : Ok 119 [.ag p.ce, ii l] (.m (ib (badP p l))) :=
  ok_plain #[.agg #[.bool p.v, .bool p.r, .bool p.w, .bool p.x, .bool p.u, .bool p.g, .bool p.a, .bool p.d, .int .u64 p.rsw, .int .u64 p.ppn, .int .u64 p.high], .int .i64 l] (.bool (badP p l))
    fun W g => PteC.bad_calls p.v p.r p.w p.x p.u p.g p.a p.d p.rsw p.ppn p.high l W h.1 h.2.1 h.2.2 l0 l2 g.s
theorem pget_ok (x : Int) (hx : U x) : Ok 117 [iu x] (.m (.ag (pteOf x).ce)) :=
  ok_plain #[.int .u64 x] (.agg #[.bool (pteOf x).v, .bool (pteOf x).r, .bool (pteOf x).w, .bool (pteOf x).x, .bool (pteOf x).u, .bool (pteOf x).g, .bool (pteOf x).a, .bool (pteOf x).d, .int .u64 (pteOf x).rsw, .int .u64 (pteOf x).ppn, .int .u64 (pteOf x).high])
    fun W g => PteC.pget_calls x W hx
theorem memnew_ok (sz : Int) (hz : U sz) : Ok 26 [iu sz] (avV (MemNewC.newV sz)) :=
  ok_plain #[.int .u64 sz] (MemNewC.newV sz) fun W g => MemNewC.new_calls sz W hz
theorem poolnew_ok (b m : Int) (hb : U b) (hm : 0 ≤ m ∧ m ≤ 64) : Ok 27 [iu b, ii m] (avV (PoolC2.newV b m)) :=
  ok_plain #[.int .u64 b, .int .i64 m] (PoolC2.newV b m) fun W g => PoolC2.new_calls b m W hb hm
theorem asidnew_ok (m : Int) : Ok 28 [ii m] (avV (AsidC2.newV m)) :=
  ok_plain #[.int .i64 m] (AsidC2.newV m) fun W g => AsidC2.new_calls m W
theorem asidgive_ok (m f o n : Int) (hm : 0 ≤ m ∧ m ≤ 64) (hf : U f) (ho : U o) (hn : U n) : Ok 57 [.ag [ci m, cu f, cu o], iu n] (avV (AsidC2.giveV m f o n)) :=
  ok_plain #[.agg #[.int .i64 m, .int .u64 f, .int .u64 o], .int .u64 n] (AsidC2.giveV m f o n) fun W g => AsidC2.give_calls m f o n W hm hf ho hn
theorem tz_ok (x : Int) (hx : U x) : Ok 94 [iu x] (.m (ii (tzI x))) :=
  ok_plain #[.int .u64 x] (.int .i64 (tzI x)) fun W g => (tz_calls x W hx (fun _ => g.t)).mono fun _ _ ⟨e, q⟩ => ⟨e, q.below⟩
theorem arg_mem {E : En} {sz : Int} {n k : Nat} {xs : List Value} {v : Value} (h : Cm.R E (.ag [cu sz, .s n k xs]) v) : ∃ u, v = .agg #[.int .u64 sz, u] ∧ Ce.R E (.s n k xs) u := by
  obtain ⟨vs, rfl, h⟩ := h
  obtain ⟨l⟩ := vs
  match l, h with
  | [a, b], h => exact ⟨b, by rw [show a = .int .u64 sz from h.1], h.2.1⟩
  | [], h => exact h.elim
  | [_], h => exact h.2.elim
  | _ :: _ :: _ :: _, h => exact h.2.2.elim
theorem args1 {E : En} {m : Cm} {vs : Array Value} (h : All2 (Cm.R E) [m] vs.toList) : ∃ v, vs = #[v] ∧ m.R E v := by
  obtain ⟨l⟩ := vs
  match l, h with
  | [a], h => exact ⟨a, rfl, h.1⟩
  | [], h => exact h.elim
  | _ :: _ :: _, h => exact h.2.elim
theorem args2 {E : En} {m n : Cm} {vs : Array Value} (h : All2 (Cm.R E) [m, n] vs.toList) : ∃ v u, vs = #[v, u] ∧ m.R E v ∧ n.R E u := by
  obtain ⟨l⟩ := vs
  match l, h with
  | [a, b], h => exact ⟨a, b, rfl, h.1, h.2.1⟩
  | [], h => exact h.elim
  | [_], h => exact h.2.elim
  | _ :: _ :: _ :: _, h => exact h.2.2.elim
theorem args3 {E : En} {m n o : Cm} {vs : Array Value} (h : All2 (Cm.R E) [m, n, o] vs.toList) : ∃ v u x, vs = #[v, u, x] ∧ m.R E v ∧ n.R E u ∧ o.R E x := by
  obtain ⟨l⟩ := vs
  match l, h with
  | [a, b, c], h => exact ⟨a, b, c, rfl, h.1, h.2.1, h.2.2.1⟩
  | [], h => exact h.elim
  | [_], h => exact h.2.elim
  | [_, _], h => exact h.2.2.elim
  | _ :: _ :: _ :: _ :: _, h => exact h.2.2.2.elim
theorem args4 {E : En} {m n o p : Cm} {vs : Array Value} (h : All2 (Cm.R E) [m, n, o, p] vs.toList) : ∃ v u x y, vs = #[v, u, x, y] ∧ m.R E v ∧ n.R E u ∧ o.R E x ∧ p.R E y := by
  obtain ⟨l⟩ := vs
  match l, h with
  | [a, b, c, d], h => exact ⟨a, b, c, d, rfl, h.1, h.2.1, h.2.2.1, h.2.2.2.1⟩
  | [], h => exact h.elim
  | [_], h => exact h.2.elim
  | [_, _], h => exact h.2.2.elim
  | [_, _, _], h => exact h.2.2.2.elim
  | _ :: _ :: _ :: _ :: _ :: _, h => exact h.2.2.2.2.elim
abbrev memA (sz : Int) (xs : List (Int × Int)) : Cm := .ag [cu sz, .s xs.length 2 (fl xs)]
theorem word_ok (sz : Int) (xs : List (Int × Int)) (a : Int) (ha : U a) (hs : Srt xs) : Ok 114 [memA sz xs, iu a] (.m (iu (wordM sz xs a))) :=
  callOk_calls rfl fun A W vs hG hR => by
    obtain ⟨v1, v2, rfl, h1, h2⟩ := args2 hR
    obtain ⟨u, rfl, hu⟩ := arg_mem h1
    obtain rfl : v2 = .int .u64 a := h2
    exact (word_calls sz u xs a W ha hs hu.1).mono fun e w' ⟨he, hb⟩ => ⟨_, he, hb, rfl⟩
theorem all2_two {E : En} {sz : Int} {c : Ce} {u : Value} (h : c.R E u) : Cm.R E (.ag [cu sz, c]) (.agg #[.int .u64 sz, u]) := ⟨_, rfl, rfl, h, trivial⟩
theorem store_ok (sz : Int) (xs : List (Int × Int)) (a n x : Int) (ha : U a) (hx : U x) (hs : Srt xs) (hu : Uw xs) (hbig : (xs.length + 1) * 16 ≤ 140737488355328) (hw : wrongI sz a n = 0) : Ok 87 [memA sz xs, iu a, ii n, iu x] (.tu [memA sz (storeM sz xs a n x), ii 0]) :=
  callOk_calls rfl fun A W vs hG hR => by
    obtain ⟨v1, v2, v3, v4, rfl, h1, h2, h3, h4⟩ := args4 hR
    obtain ⟨u, rfl, hu'⟩ := arg_mem h1
    obtain rfl : v2 = .int .u64 a := h2
    obtain rfl : v3 = .int .i64 n := h3
    obtain rfl : v4 = .int .u64 x := h4
    refine (store_calls sz u xs a n x W ha hx hs hu hbig hu'.1).mono ?_
    rintro e w' ⟨v', rfl, h5, hb⟩
    rw [if_pos hw] at h5
    rw [hw]
    exact ⟨_, rfl, hb, _, rfl, all2_two (own_s h5), rfl, trivial⟩
theorem store_no (sz : Int) (xs : List (Int × Int)) (a n x : Int) (ha : U a) (hx : U x) (hs : Srt xs) (hu : Uw xs) (hbig : (xs.length + 1) * 16 ≤ 140737488355328) (hw : wrongI sz a n ≠ 0) : Ok 87 [memA sz xs, iu a, ii n, iu x] (.tu [memA sz xs, ii (wrongI sz a n)]) :=
  callOk_calls rfl fun A W vs hG hR => by
    obtain ⟨v1, v2, v3, v4, rfl, h1, h2, h3, h4⟩ := args4 hR
    obtain ⟨u, rfl, hu'⟩ := arg_mem h1
    obtain rfl : v2 = .int .u64 a := h2
    obtain rfl : v3 = .int .i64 n := h3
    obtain rfl : v4 = .int .u64 x := h4
    refine (store_calls sz u xs a n x W ha hx hs hu hbig hu'.1).mono ?_
    rintro e w' ⟨v', rfl, h5, hb⟩
    rw [if_neg hw] at h5
    subst h5
    exact ⟨_, rfl, hb, _, rfl, all2_two (old_s hu' hb), rfl, trivial⟩
theorem back_ok (sz : Int) (xs : List (Int × Int)) (base many free f : Int) (hb : U base) (hm : 0 ≤ many ∧ many ≤ 64) (hr : U free) (hf : 0 ≤ f ∧ f < 1099511627776) (hs : Srt xs) (hbig : (xs.length + 1) * 32 ≤ 140737488355328) :
    Ok 90 [memA sz xs, .ag [cu base, ci many, cu free], iu f] (.tu [memA sz (TableC.wipeM xs f), .ag [cu base, ci many, cu (TableC2.giveF base many free f)]]) :=
  callOk_calls rfl fun A W vs hG hR => by
    obtain ⟨v1, v2, v3, rfl, h1, h2, h3⟩ := args3 hR
    obtain ⟨u, rfl, hu'⟩ := arg_mem h1
    obtain rfl := plain_ag (xs := [.int .u64 base, .int .i64 many, .int .u64 free]) h2
    obtain rfl : v3 = .int .u64 f := h3
    refine (TableC2.back_calls sz u xs base many free f W hb hm hr hf hs hbig hu'.1).mono ?_
    rintro e w' ⟨v', rfl, h5, hb'⟩
    exact ⟨_, rfl, hb', _, rfl, all2_two (own_s h5), ⟨_, rfl, rfl, rfl, rfl, trivial⟩, trivial⟩
theorem fresh_ok (sz : Int) (xs : List (Int × Int)) (base many free : Int) (hb : 0 ≤ base ∧ base ≤ 268435456) (hm : 0 ≤ many ∧ many ≤ 64) (hr : U free) (hfr : free ≠ 0) (hs : Srt xs) (hbig : (xs.length + 1) * 32 ≤ 140737488355328) :
    Ok 30 [memA sz xs, .ag [cu base, ci many, cu free]] (.tu [memA sz (TableC.wipeM xs (base + tzI free)), .ag [cu base, ci many, cu (setI free (tzI free) 1 0)], iu (base + tzI free), ii 0]) :=
  callOk_calls rfl fun A W vs hG hR => by
    obtain ⟨v1, v2, rfl, h1, h2⟩ := args2 hR
    obtain ⟨u, rfl, hu'⟩ := arg_mem h1
    obtain rfl := plain_ag (xs := [.int .u64 base, .int .i64 many, .int .u64 free]) h2
    refine (TableC3.fresh_calls sz u xs base many free W hb hm hr hfr hG.t hs hbig hu'.1).mono ?_
    rintro e w' ⟨v', rfl, h5, hb'⟩
    exact ⟨_, rfl, hb', _, rfl, all2_two (own_s h5), ⟨_, rfl, rfl, rfl, rfl, trivial⟩, rfl, rfl, trivial⟩
theorem tlbnew_ok (n : Nat) (hn : n ≤ 16) (z : Value) (hz : (Tryz.prog.info? 163).bind (·.zero) = some z) : Ok 29 [ii n] (.tu [.ag [.s n 45 (madeCells z.cells (n * 45)).toList], ii 0]) :=
  callOk_calls rfl fun A W vs hG hR => by
    obtain ⟨v1, rfl, h1⟩ := args1 hR
    obtain rfl : v1 = .int .i64 n := h1
    refine (TlbNewC.new_calls n W hn z hz).mono ?_
    rintro e w' ⟨a, c, rfl, h5, hb'⟩
    exact ⟨_, rfl, hb', _, rfl, ⟨_, rfl, own_s h5, trivial⟩, rfl, trivial⟩
theorem clonesp_own (n : Nat) (xs : List Value) (h1 : ∀ u ∈ xs, u.oneCell' = true) (hbig : n * 24 ≤ 140737488355328) : CallOwn Tryz.prog GG 58 [.c (.s n 3 xs)] 65 3 n xs :=
  ⟨rfl, fun A W vs hG hR => by
    obtain ⟨v1, rfl, hv⟩ := args1 hR
    refine (CloneSpace.clone_calls v1 n xs W h1 hbig hv.1).mono ?_
    rintro e w' ⟨v', rfl, h5, hb'⟩
    exact ⟨_, rfl, hb', h5⟩⟩
theorem clonesp_ok (n : Nat) (xs : List Value) (h1 : ∀ u ∈ xs, u.oneCell' = true) (hbig : n * 24 ≤ 140737488355328) : Ok 58 [.c (.s n 3 xs)] (.m (.c (.s n 3 xs))) :=
  callOk_calls rfl fun A W vs hG hR => by
    obtain ⟨v1, rfl, hv⟩ := args1 hR
    refine (CloneSpace.clone_calls v1 n xs W h1 hbig hv.1).mono ?_
    rintro e w' ⟨v', rfl, h5, hb'⟩
    exact ⟨_, rfl, hb', own_s h5⟩
end Go.Proofs.YtkffmaeiplgjeaaGreatDoor.OkS
/- The abstract walk: the small functions of the layers table, asid, space. -/
namespace Go.Proofs.YtkffmaeiplgjeaaGreatDoor.SpA
open Go.RowKit Go.Proofs.YtkffmaeiplgjeaaGreatDoor.Bv Go.Proofs.YtkffmaeiplgjeaaGreatDoor.VaSpec Go.Proofs.YtkffmaeiplgjeaaGreatDoor.Base Go.Proofs.YtkffmaeiplgjeaaGreatDoor.MemL Go.Proofs.YtkffmaeiplgjeaaGreatDoor.RegR Go.Proofs.YtkffmaeiplgjeaaGreatDoor.Ax Go.Proofs.YtkffmaeiplgjeaaGreatDoor.MemC Go.Proofs.YtkffmaeiplgjeaaGreatDoor.PutC Go.Proofs.YtkffmaeiplgjeaaGreatDoor.MemC3 Go.Proofs.YtkffmaeiplgjeaaGreatDoor.TzC Go.Proofs.YtkffmaeiplgjeaaGreatDoor.OkS
open Go.Proofs.YtkffmaeiplgjeaaGreatDoor.BitsC Go.Proofs.YtkffmaeiplgjeaaGreatDoor.PteSpec
set_option linter.unusedVariables false
set_option linter.unusedSimpArgs false
set_option maxRecDepth 10000
theorem fasid_ok (n : Int) : Ok 61 [iu n] (.m (.ag [cb false, cu 0, cb true, cu n])) := by
  refine callOk_of 5 Tryz.func61 rfl rfl rfl rfl ?_ GG.to
  intro W A hG
  repeat (first
    | (refine go_at rfl ?_; first
        | refine go_do (valid_mv (.inl rfl) rfl) rfl ?_
        | refine go_do (valid_alloc rfl rfl rfl rfl rfl) rfl ?_
        | (refine nxt_s 1 rfl ?_; refine go_do (valid_store_p rfl rfl rfl rfl rfl rfl (by first | kernel_rfl | rfl) rfl) (by first | kernel_rfl | rfl) ?_)
        | refine go_do (valid_build rfl rfl rfl rfl) rfl ?_)
    | (refine hK _ ?_; clear hK K)
    | refine aw_text rfl ?_
    | exact aw_ret (show resA _ _ _ = some _ by kernel_rfl)
    | refine aw_seq_k (fun K hK => ?_))
def withinB (n a b : Int) : Bool := decide (a ≤ n) && decide (n ≤ b)
theorem within_ok (n a b : Int) : Ok 25 [ii n, ii a, ii b] (.m (ib (withinB n a b))) := by
  by_cases h1 : a ≤ n
  · by_cases h2 : n ≤ b
    · rw [show withinB n a b = true by simp [withinB, h1, h2]]
      refine callOk_of 15 Tryz.func25 rfl rfl rfl rfl ?_ GG.to
      intro W A hG
      repeat (first
        | (refine go_at rfl ?_; first
            | refine go_do (valid_mv (.inl rfl) rfl) rfl ?_
            | refine go_do (valid_mv (.inr rfl) rfl) rfl ?_
            | refine go_do (valid_pick rfl rfl rfl) rfl ?_
            | refine go_do (valid_cmp rfl rfl rfl rfl (by first | exact .eql1 (by omega) | exact .eql0 (by omega) | exact .neq1 (by omega) | exact .neq0 (by omega) | exact .lss1 (by omega) | exact .lss0 (by omega) | exact .leq1 (by omega) | exact .leq0 (by omega) | exact .gtr1 (by omega) | exact .gtr0 (by omega) | exact .geq1 (by omega) | exact .geq0 (by omega) | constructor)) rfl ?_)
        | (refine hK _ ?_; clear hK K)
        | refine aw_text rfl ?_
        | exact aw_ret (show resA _ _ _ = some _ by kernel_rfl)
        | refine aw_seq_k (fun K hK => ?_))
    · rw [show withinB n a b = false by simp [withinB, h2]]
      refine callOk_of 15 Tryz.func25 rfl rfl rfl rfl ?_ GG.to
      intro W A hG
      repeat (first
        | (refine go_at rfl ?_; first
            | refine go_do (valid_mv (.inl rfl) rfl) rfl ?_
            | refine go_do (valid_mv (.inr rfl) rfl) rfl ?_
            | refine go_do (valid_pick rfl rfl rfl) rfl ?_
            | refine go_do (valid_cmp rfl rfl rfl rfl (by first | exact .eql1 (by omega) | exact .eql0 (by omega) | exact .neq1 (by omega) | exact .neq0 (by omega) | exact .lss1 (by omega) | exact .lss0 (by omega) | exact .leq1 (by omega) | exact .leq0 (by omega) | exact .gtr1 (by omega) | exact .gtr0 (by omega) | exact .geq1 (by omega) | exact .geq0 (by omega) | constructor)) rfl ?_)
        | (refine hK _ ?_; clear hK K)
        | refine aw_text rfl ?_
        | exact aw_ret (show resA _ _ _ = some _ by kernel_rfl)
        | refine aw_seq_k (fun K hK => ?_))
  · rw [show withinB n a b = false by simp [withinB, h1]]
    refine callOk_of 15 Tryz.func25 rfl rfl rfl rfl ?_ GG.to
    intro W A hG
    repeat (first
      | (refine go_at rfl ?_; first
          | refine go_do (valid_skip rfl) rfl ?_
          | refine go_do (valid_mv (.inl rfl) rfl) rfl ?_
          | refine go_do (valid_mv (.inr rfl) rfl) rfl ?_
          | refine go_do (valid_pick rfl rfl rfl) rfl ?_
          | refine go_do (valid_cmp rfl rfl rfl rfl (by first | exact .eql1 (by omega) | exact .eql0 (by omega) | exact .neq1 (by omega) | exact .neq0 (by omega) | exact .lss1 (by omega) | exact .lss0 (by omega) | exact .leq1 (by omega) | exact .leq0 (by omega) | exact .gtr1 (by omega) | exact .gtr0 (by omega) | exact .geq1 (by omega) | exact .geq0 (by omega) | constructor)) rfl ?_)
      | (refine hK _ ?_; clear hK K)
      | refine aw_text rfl ?_
      | exact aw_ret (show resA _ _ _ = some _ by kernel_rfl)
      | refine aw_seq_k (fun K hK => ?_))
theorem kaddr_ok : Ok 54 [] (.m (iu (ofv 133955584))) := by
  refine callOk_of 2 Tryz.func54 rfl rfl rfl rfl ?_ GG.to
  intro W A hG
  repeat (first
    | (refine go_at rfl ?_; first
        | refine go_do (valid_mv (.inr rfl) rfl) rfl ?_
        | refine go_do (valid_call rfl rfl rfl (of_ok _ ⟨by omega, by omega⟩) rfl) rfl ?_)
    | (refine hK _ ?_; clear hK K)
    | refine aw_text rfl ?_
    | exact aw_ret (show resA _ _ _ = some _ by kernel_rfl)
    | refine aw_seq_k (fun K hK => ?_))
def linksP (p : Pte) (l : Int) : Bool := linkP p && !badP p l
theorem links_ok (p : Pte) (h : p.U) (l : Int) (l0 : 0 ≤ l) (l2 : l ≤ 2) : Ok 92 [.ag p.ce, ii l] (.m (ib (linksP p l))) := by
  cases hl : linkP p with
  | false =>
    rw [show linksP p l = false by simp [linksP, hl]]
    refine callOk_of 13 Tryz.func92 rfl rfl rfl rfl ?_ GG.to
    intro W A hG
    repeat (first
      | (refine go_at rfl ?_; first
          | refine go_do (valid_skip rfl) rfl ?_
          | refine go_do (valid_mv (.inl rfl) rfl) rfl ?_
          | (refine nxt_s 1 rfl ?_; refine go_do (valid_load_p tb rfl rfl rfl rfl rfl (by first | kernel_rfl | rfl)) (by first | kernel_rfl | rfl) ?_)
          | refine go_do (valid_mv (.inr rfl) rfl) rfl ?_
          | refine go_do (valid_pick rfl rfl rfl) rfl ?_
          | refine go_do (valid_box rfl rfl rfl rfl rfl rfl) rfl ?_
          | refine go_do (valid_call rfl rfl rfl (hl ▸ plink_ok p) rfl) rfl ?_)
      | (refine hK _ ?_; clear hK K)
      | refine aw_text rfl ?_
      | exact aw_ret (show resA _ _ _ = some _ by kernel_rfl)
      | refine aw_seq_k (fun K hK => ?_))
  | true =>
    rw [show linksP p l = !badP p l by simp [linksP, hl]]
    refine callOk_of 13 Tryz.func92 rfl rfl rfl rfl ?_ GG.to
    intro W A hG
    repeat (first
      | (refine go_at rfl ?_; first
          | refine go_do (valid_mv (.inl rfl) rfl) rfl ?_
          | (refine nxt_s 1 rfl ?_; refine go_do (valid_load_p tb rfl rfl rfl rfl rfl (by first | kernel_rfl | rfl)) (by first | kernel_rfl | rfl) ?_)
          | refine go_do (valid_mv (.inr rfl) rfl) rfl ?_
          | refine go_do (valid_pick rfl rfl rfl) rfl ?_
          | refine go_do (valid_box rfl rfl rfl rfl rfl rfl) rfl ?_
          | refine go_do (valid_not rfl rfl rfl) rfl ?_
          | refine go_do (valid_call rfl rfl rfl (hl ▸ plink_ok p) rfl) rfl ?_
          | refine go_do (valid_call rfl rfl rfl (pbad_ok p h l l0 l2) rfl) rfl ?_)
      | (refine hK _ ?_; clear hK K)
      | refine aw_text rfl ?_
      | exact aw_ret (show resA _ _ _ = some _ by kernel_rfl)
      | refine aw_seq_k (fun K hK => ?_))
end Go.Proofs.YtkffmaeiplgjeaaGreatDoor.SpA
