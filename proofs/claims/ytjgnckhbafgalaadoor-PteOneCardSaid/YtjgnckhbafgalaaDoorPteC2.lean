/- The contracts of the layer pte, the second part: an entry's word, and the entry of a word. -/
import Derived.Test.YtjgnckhbafgalaaDoorPteC
namespace Go.Proofs.YtjgnckhbafgalaaDoor.PteC
open Go.RowKit Go.Proofs.YtjgnckhbafgalaaDoor.Bv Go.Proofs.YtjgnckhbafgalaaDoor.VaSpec Go.Proofs.YtjgnckhbafgalaaDoor.Base Go.Proofs.YtjgnckhbafgalaaDoor.BitsC Go.Proofs.YtjgnckhbafgalaaDoor.VaC Go.Proofs.YtjgnckhbafgalaaDoor.PteSpec
set_option linter.unusedVariables false
set_option linter.unusedSimpArgs false
theorem setB_add (x v : BitVec 64) (lo n : Nat) (h : lo + n ≤ 64) (hx : x.toNat < 2 ^ lo) (hv : v.toNat < 2 ^ n) : (setB x lo n v).toNat = x.toNat + v.toNat * 2 ^ lo := by
  have e : setB x lo n v = (v <<< lo) ||| x := by
    apply BitVec.eq_of_getLsbD_eq; intro i hi
    rw [setB_bit, BitVec.getLsbD_or, BitVec.getLsbD_shiftLeft]
    have hxi : lo ≤ i → x.getLsbD i = false := fun hl => by
      rw [BitVec.getLsbD]; exact Nat.testBit_lt_two_pow (Nat.lt_of_lt_of_le hx (Nat.pow_le_pow_right (by decide) hl))
    have hvi : n ≤ i - lo → v.getLsbD (i - lo) = false := fun hl => by
      rw [BitVec.getLsbD]; exact Nat.testBit_lt_two_pow (Nat.lt_of_lt_of_le hv (Nat.pow_le_pow_right (by decide) hl))
    by_cases h1 : lo ≤ i
    · by_cases h2 : i < lo + n
      · simp only [hi, h1, h2, hxi h1, show ¬ i < lo by omega, and_self, if_true, decide_true, decide_false, Bool.not_false, Bool.true_and, Bool.or_false]
      · simp only [hi, h1, h2, hxi h1, hvi (by omega), show ¬ i < lo by omega, and_false, if_false, decide_true, decide_false, Bool.not_false, Bool.true_and, Bool.or_false, Bool.and_false]
    · simp only [hi, h1, show i < lo by omega, false_and, if_false, decide_true, Bool.not_true, Bool.and_false, Bool.false_and, Bool.false_or, Bool.true_and]
  rw [e, BitVec.toNat_or, BitVec.toNat_shiftLeft, Nat.shiftLeft_eq]
  have h3 : v.toNat * 2 ^ lo < 2 ^ n * 2 ^ lo := Nat.mul_lt_mul_of_pos_right hv (Nat.two_pow_pos lo)
  have h4 : 2 ^ n * 2 ^ lo ≤ 2 ^ 64 := by rw [← Nat.pow_add]; exact Nat.pow_le_pow_right (by decide) (by omega)
  rw [Nat.mod_eq_of_lt (by omega), ← Nat.shiftLeft_eq, ← Nat.shiftLeft_add_eq_or_of_lt hx]
  omega
theorem setI_add (a lo n v : Int) (ha : U a) (hv : U v) (l0 : 0 ≤ lo) (n0 : 0 ≤ n) (h : lo + n ≤ 64) (hx : a < 2 ^ lo.toNat) (hv2 : v < 2 ^ n.toNat) : setI a lo n v = a + v * 2 ^ lo.toNat := by
  obtain ⟨x, rfl⟩ := u64_B ha.1 ha.2
  obtain ⟨y, rfl⟩ := u64_B hv.1 hv.2
  unfold setI; rw [X_B, X_B]
  unfold B at *
  rw [setB_add x y lo.toNat n.toNat (by omega) (by exact_mod_cast hx) (by exact_mod_cast hv2)]
  norm_cast
def rowI (f : Nat → Bool) : Nat → Int
  | 0 => 0
  | k + 1 => rowI f k + bI (f k) * 2 ^ k
theorem rowI_succ (f : Nat → Bool) (k : Nat) : rowI f (k + 1) = rowI f k + bI (f k) * 2 ^ k := rfl
theorem rowI_bd (f : Nat → Bool) (k : Nat) : 0 ≤ rowI f k ∧ rowI f k < 2 ^ k := by
  induction k with
  | zero => unfold rowI; decide
  | succ k ih =>
    rw [rowI_succ, Int.pow_succ]
    have hp : (0 : Int) < 2 ^ k := by exact_mod_cast Nat.two_pow_pos k
    unfold bI; split <;> omega
theorem row_step (f : Nat → Bool) (k : Nat) (hk : k < 8) : setI (rowI f k) (k : Int) 1 (bI (f k)) = rowI f (k + 1) := by
  have h1 := rowI_bd f k
  have h2 := bI_bd (f k)
  have hp : (2 : Int) ^ k ≤ 128 := by
    have : 2 ^ k ≤ 2 ^ 7 := Nat.pow_le_pow_right (by decide) (by omega)
    exact_mod_cast this
  rw [rowI_succ, setI_add _ _ _ _ ⟨h1.1, by omega⟩ ⟨h2.1, by omega⟩ (by omega) (by omega) (by omega) (by rw [Int.toNat_natCast]; exact h1.2) (by show _ < (2 : Int) ^ 1; omega), Int.toNat_natCast]
set_option maxHeartbeats 400000 in
theorem row_calls (f : Nat → Bool) (b : Nat) (W : World) (hc : ∀ i, i < 8 → W.cell? ⟨b, i, none⟩ = some (.bool (f i))) :
    Calls Tryd.prog 60 #[.slice (some ⟨b, 0, none⟩) 8 8] W fun e w' => e = .returned (.int .u64 (rowI f 8)) ∧ Q W w' := by
  have HC := Lib.hid hc; clear hc
  go_enter Tryd.func60, Tryd.ntmps60
  go_wp2
  go_loopw [3, 8] (fun x i wr => ∃ k : Nat, k ≤ 8 ∧ i = .int .i64 k ∧ x = .int .u64 (rowI f k) ∧ Q W wr) (fun _ i _ => 8 - (intOf i).toNat)
  case atStart => exact ⟨0, by omega, rfl, rfl, Q.refl _⟩
  case round =>
    obtain ⟨k, hk, rfl, rfl, hq⟩ := hrel
    by_cases hlt : k < 8
    · obtain ⟨n, rfl⟩ := hq
      have h1 := HC.out k hlt
      have h2 := Lib.hid (row_step f k hlt)
      have h3 := rowI_bd f k
      have hp : (2 : Int) ^ k ≤ 128 := by
        have : 2 ^ k ≤ 2 ^ 7 := Nat.pow_le_pow_right (by decide) (by omega)
        exact_mod_cast this
      have h4 : U (rowI f k) := ⟨h3.1, by omega⟩
      clear hp h3
      have h5 : U (bI (f k)) := by have := bI_bd (f k); exact ⟨by omega, by omega⟩
      go_wp2_with (first
        | (go_at_call 69; (with_reducible refine (bool_calls _ _).mono ?_); rintro e w' ⟨rfl, ⟨nd, rfl⟩⟩)
        | (go_at_call 61; (with_reducible refine (set_calls _ _ _ _ _ h4 h5 (by omega) (by omega) (by omega) (by omega)).mono ?_); rintro e w' ⟨rfl, ⟨nd, rfl⟩⟩)
        | fail)
      refine ⟨⟨k + 1, by omega, by go_num, by rw [h2.out], by repeat (first | exact Q.refl _ | apply Q.step)⟩, ?_⟩
      simp [intOf]; omega
    · obtain rfl : k = 8 := by omega
      go_wp2
      go_ret
      exact ⟨rfl, hq⟩
end Go.Proofs.YtjgnckhbafgalaaDoor.PteC
