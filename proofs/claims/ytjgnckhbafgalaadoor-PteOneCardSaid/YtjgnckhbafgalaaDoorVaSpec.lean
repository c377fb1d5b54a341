/- What the functions of the layer va answer, in plain numbers, and that words of 64 bits come to these numbers. No program here. -/
import Derived.Test.YtjgnckhbafgalaaDoorBv
namespace Go.Proofs.YtjgnckhbafgalaaDoor.VaSpec
open Go.RowKit Go.Proofs.YtjgnckhbafgalaaDoor.Bv
set_option linter.unusedVariables false
set_option linter.unusedSimpArgs false
def bI (b : Bool) : Int := if b then 1 else 0
theorem bI_bd (b : Bool) : 0 ≤ bI b ∧ bI b ≤ 1 := by cases b <;> decide
def sz (l : Int) : Int := if l = 0 then 4096 else if l = 1 then 2097152 else 1073741824
def isv (a : Int) : Bool := decide (a < 274877906944) || decide (18446743798831644672 ≤ a)
def idx (a l : Int) : Int := a / sz l % 512
def num (a : Int) : Int := a / 4096 % 134217728
def ext39 (m : Int) : Int := if m < 274877906944 then m else m + 18446743523953737728
def ofv (n : Int) : Int := ext39 (n % 134217728 * 4096)
def off (a l : Int) : Int := a % sz l
def base (a l : Int) : Int := a - a % sz l
def fits (a l : Int) : Bool := isv a && (off a l == 0)
theorem lev {l : Int} (h0 : 0 ≤ l) (h2 : l ≤ 2) : l = 0 ∨ l = 1 ∨ l = 2 := by omega
theorem sz_pos (l : Int) : 0 < sz l := by unfold sz; split; decide; split <;> decide
theorem sz_ne (l : Int) : sz l ≠ 0 := by have := sz_pos l; omega
theorem sz_le (l : Int) : sz l ≤ 1073741824 := by unfold sz; split; decide; split <;> decide
theorem u64_B {a : Int} (h0 : 0 ≤ a) (h : a < 18446744073709551616) : ∃ x, a = B x := ⟨BitVec.ofNat 64 a.toNat, by unfold B; rw [BitVec.toNat_ofNat]; omega⟩

theorem getB_val (x : BitVec 64) (lo n : Nat) (hn : n ≤ 64) : B (getB x lo n) = B x / 2 ^ lo % 2 ^ n := by
  unfold getB B mB
  rw [BitVec.toNat_and, BitVec.toNat_ushiftRight, BitVec.toNat_ofNat, Nat.shiftRight_eq_div_pow]
  have h1 : 2 ^ n ≤ 2 ^ 64 := Nat.pow_le_pow_right (by decide) hn
  have h2 := Nat.two_pow_pos n
  rw [Nat.mod_eq_of_lt (show 2 ^ n - 1 < 2 ^ 64 by omega), Nat.and_two_pow_sub_one_eq_mod]
  norm_cast
theorem signB_39 (x : BitVec 64) : B (signB x 39) = ext39 (B x % 549755813888) := by
  have e : signB x 39 = (x.setWidth 39).signExtend 64 := by
    apply BitVec.eq_of_getLsbD_eq; intro i hi
    rw [signB_bit x 39 i (by omega) (by omega), BitVec.getLsbD_signExtend, BitVec.msb_eq_getLsbD_last]
    simp only [BitVec.getLsbD_setWidth]
    by_cases h : i < 39
    · simp [h, hi, Nat.min_eq_left (show i ≤ 38 by omega)]
    · simp [h, hi, Nat.min_eq_right (show 38 ≤ i by omega)]
  rw [e]; unfold B
  rw [BitVec.toNat_signExtend, BitVec.msb_eq_decide]
  simp only [BitVec.toNat_setWidth]
  have := x.isLt
  unfold ext39
  simp only [decide_eq_true_eq]
  split <;> split <;> simp at * <;> omega
theorem setB_zero_val (v : BitVec 64) (lo n : Nat) (h : lo + n ≤ 64) : B (setB 0#64 lo n v) = B v % 2 ^ n * 2 ^ lo := by
  have e : setB 0#64 lo n v = getB v 0 n <<< lo := by
    apply BitVec.eq_of_getLsbD_eq; intro i hi
    rw [setB_bit, BitVec.getLsbD_shiftLeft, getB_bit]; simp; grind
  rw [e]
  have h1 : B (getB v 0 n) = B v % 2 ^ n := by rw [getB_val v 0 n (by omega)]; simp
  rw [← h1]; unfold B at *
  rw [BitVec.toNat_shiftLeft, Nat.shiftLeft_eq]
  have h2 : (getB v 0 n).toNat < 2 ^ n := by
    have : ((getB v 0 n).toNat : Int) < 2 ^ n := by rw [h1]; exact Int.emod_lt_of_pos _ (by exact_mod_cast Nat.two_pow_pos n)
    exact_mod_cast this
  have h3 : (getB v 0 n).toNat * 2 ^ lo < 2 ^ n * 2 ^ lo := Nat.mul_lt_mul_of_pos_right h2 (Nat.two_pow_pos lo)
  have h4 : 2 ^ n * 2 ^ lo ≤ 2 ^ 64 := by rw [← Nat.pow_add]; exact Nat.pow_le_pow_right (by decide) (by omega)
  rw [Nat.mod_eq_of_lt (by omega)]; norm_cast
theorem andMask (a : Int) (i : Nat) (hi : i ≤ 64) (h0 : 0 ≤ a) (h : a < 18446744073709551616) : Go.bits .and .u64 a (2 ^ i - 1) = a % 2 ^ i :=
  bits_mask .u64 64 (by decide) (fun n h0 h1 => by rw [wrap_u64]; omega) i hi a h0 (by omega)
theorem isv_ext (a : Int) (h0 : 0 ≤ a) (h1 : a < 18446744073709551616) : (ext39 (a % 549755813888) == a) = isv a := by
  unfold isv ext39
  by_cases h : a % 549755813888 < 274877906944
  · rw [if_pos h]
    by_cases k : a < 274877906944
    · rw [decide_eq_true k, Bool.true_or, beq_iff_eq]; omega
    · rw [decide_eq_false k, Bool.false_or, decide_eq_false (by omega), beq_eq_false_iff_ne]; omega
  · rw [if_neg h]
    rw [decide_eq_false (by omega), Bool.false_or]
    by_cases k : 18446743798831644672 ≤ a
    · rw [decide_eq_true k, beq_iff_eq]; omega
    · rw [decide_eq_false k, beq_eq_false_iff_ne]; omega
end Go.Proofs.YtjgnckhbafgalaaDoor.VaSpec
