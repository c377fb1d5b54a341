/- Plain facts on words of 64 bits (BitVec 64) and the integers that stand for them. No program here. -/
import Derived.RowKit
import Derived.Laws.Entries
import Derived.Laws.BitsLemmas
namespace Go.Proofs.YtjgnckhbafgalaaDoor.Bv
open Go.RowKit
set_option linter.unusedVariables false

/-- the integer of a word -/
def B (x : BitVec 64) : Int := (x.toNat : Int)
theorem B_lt (x : BitVec 64) : B x < 18446744073709551616 := by have := x.isLt; unfold B; omega
theorem B_nonneg (x : BitVec 64) : 0 ≤ B x := by unfold B; omega
theorem B_inj {x y : BitVec 64} : B x = B y ↔ x = y := by
  constructor
  · intro h; apply BitVec.eq_of_toNat_eq; unfold B at h; omega
  · rintro rfl; rfl
theorem exists_B {a : Int} (h : (Lit.int .u64 a).wf = true) : ∃ x, a = B x := by
  simp [Lit.wf, IntKind.min, IntKind.max, IntKind.bits, IntKind.signed] at h
  exact ⟨BitVec.ofNat 64 a.toNat, by unfold B; rw [BitVec.toNat_ofNat]; omega⟩
theorem exists_u8 {a : Int} (h : (Lit.int .u8 a).wf = true) : ∃ n : Nat, a = (n : Int) ∧ n < 256 := by
  simp [Lit.wf, IntKind.min, IntKind.max, IntKind.bits, IntKind.signed] at h
  exact ⟨a.toNat, by omega, by omega⟩
set_option linter.unusedSimpArgs false
theorem bd_u64 {a : Int} (h : (Lit.int .u64 a).wf = true) : 0 ≤ a ∧ a < 18446744073709551616 := by
  simp [Lit.wf, IntKind.min, IntKind.max, IntKind.bits, IntKind.signed] at h; omega
theorem wrap_u64 (n : Int) : IntKind.u64.wrap n = n % 18446744073709551616 := by simp [IntKind.wrap, IntKind.bits, IntKind.signed]
theorem wrap_B (x : BitVec 64) : IntKind.u64.wrap (B x) = B x := by rw [wrap_u64]; have := B_lt x; have := B_nonneg x; omega
theorem wrap_nat (n : Nat) (h : n < 18446744073709551616) : IntKind.u64.wrap (n : Int) = n := by rw [wrap_u64]; omega
theorem ofInt_B (x : BitVec 64) : BitVec.ofInt 64 (B x) = x := by
  apply BitVec.eq_of_toNat_eq; unfold B; rw [BitVec.ofInt_natCast, BitVec.toNat_ofNat]; exact Nat.mod_eq_of_lt x.isLt

theorem ofInt_B' (x : BitVec 64) : BitVec.ofInt (IntKind.bits .u64) (B x) = x := ofInt_B x
theorem and_B (x y : BitVec 64) : Go.bits .and .u64 (B x) (B y) = B (x &&& y) := by
  show IntKind.u64.wrap _ = _
  rw [ofInt_B', ofInt_B']; exact wrap_B _
theorem or_B (x y : BitVec 64) : Go.bits .or .u64 (B x) (B y) = B (x ||| y) := by
  show IntKind.u64.wrap _ = _
  rw [ofInt_B', ofInt_B']; exact wrap_B _
theorem andNot_B (x y : BitVec 64) : Go.bits .andNot .u64 (B x) (B y) = B (x &&& ~~~y) := by
  show IntKind.u64.wrap _ = _
  rw [ofInt_B', ofInt_B']; exact wrap_B _

theorem shl_B (x : BitVec 64) (n : Nat) : IntKind.u64.wrap (B x * 2 ^ min n 64) = B (x <<< n) := by
  rw [wrap_u64]; unfold B
  rw [BitVec.toNat_shiftLeft, Nat.shiftLeft_eq]
  by_cases h : n ≤ 64
  · rw [Nat.min_eq_left h, show ((2 : Int) ^ n) = ((2 ^ n : Nat) : Int) by norm_cast]; omega
  · rw [Nat.min_eq_right (by omega)]
    have e : x.toNat * 2 ^ n = (x.toNat * 2 ^ (n - 64)) * 2 ^ 64 := by rw [Nat.mul_assoc, ← Nat.pow_add]; congr 2; omega
    rw [e, Nat.mul_mod_left]; omega
theorem shr_B (x : BitVec 64) (n : Nat) : B x / 2 ^ min n 64 = B (x >>> n) := by
  unfold B
  rw [BitVec.toNat_ushiftRight, Nat.shiftRight_eq_div_pow]
  by_cases h : n ≤ 64
  · rw [Nat.min_eq_left h]; norm_cast
  · rw [Nat.min_eq_right (by omega)]
    have hx := x.isLt
    have h1 : 2 ^ 64 ≤ 2 ^ n := Nat.pow_le_pow_right (by decide) (by omega)
    rw [Nat.div_eq_of_lt (Nat.lt_of_lt_of_le hx h1)]; omega

theorem wrap64_B (x : BitVec 64) : wrap64 (B x) = x.toInt := by
  unfold B wrap64; rw [BitVec.toInt_eq_toNat_bmod, Int.bmod_def]; have := x.isLt; split <;> omega
theorem wrap_toInt (x : BitVec 64) : IntKind.u64.wrap x.toInt = B x := by
  rw [wrap_u64, BitVec.toInt_eq_toNat_bmod, Int.bmod_def]; have := x.isLt; unfold B; split <;> omega
theorem sshr_B (x : BitVec 64) (n : Nat) : IntKind.u64.wrap (x.toInt / 2 ^ min n (IntKind.bits .i64)) = B (x.sshiftRight n) := by
  rw [← wrap_toInt, BitVec.toInt_sshiftRight, Int.shiftRight_eq_div_pow, show IntKind.bits .i64 = 64 from rfl]
  by_cases h : n ≤ 64
  · rw [Nat.min_eq_left h]; norm_cast
  · rw [Nat.min_eq_right (by omega)]
    have h1 := BitVec.toInt_lt (x := x)
    have h2 := BitVec.le_toInt x
    have h3 : 2 ^ 64 ≤ 2 ^ n := Nat.pow_le_pow_right (by decide) (by omega)
    by_cases h0 : 0 ≤ x.toInt
    · rw [Int.ediv_eq_zero_of_lt h0 (by omega), Int.ediv_eq_zero_of_lt h0 (by omega)]
    · have e : ∀ m : Int, 2 ^ 63 ≤ m → x.toInt / m = -1 := by
        intro m hm
        have := Int.ediv_mul_le x.toInt (b := m) (by omega)
        rw [Int.ediv_eq_iff_of_pos (by omega)]; omega
      rw [e _ (by omega), e _ (by omega)]

/-- n ones -/
def mB (n : Nat) : BitVec 64 := BitVec.ofNat 64 (2 ^ n - 1)
theorem mB_bit (n i : Nat) : (mB n).getLsbD i = (decide (i < 64) && decide (i < n)) := by
  unfold mB; rw [BitVec.getLsbD_ofNat, Nat.testBit_two_pow_sub_one]
theorem mB_val (n : Nat) (h : n < 64) : B (mB n) = 2 ^ n - 1 := by
  unfold mB B; rw [BitVec.toNat_ofNat]
  have h1 : 2 ^ n < 2 ^ 64 := Nat.pow_lt_pow_right (by decide) h
  have h2 := Nat.two_pow_pos n
  rw [Nat.mod_eq_of_lt (by omega)]
  rw [Int.natCast_sub (by omega)]; norm_cast
theorem mB_all (n : Nat) (h : 64 ≤ n) : mB n = BitVec.allOnes 64 := by
  apply BitVec.eq_of_getLsbD_eq; intro i hi; rw [mB_bit, BitVec.getLsbD_allOnes]; simp; omega
theorem mB_64 : B (mB 64) = 18446744073709551615 := by decide +kernel

def getB (w : BitVec 64) (lo n : Nat) : BitVec 64 := (w >>> lo) &&& mB n
def setB (w : BitVec 64) (lo n : Nat) (v : BitVec 64) : BitVec 64 := (w &&& ~~~(mB n <<< lo)) ||| ((v <<< lo) &&& (mB n <<< lo))
def signB (w : BitVec 64) (n : Nat) : BitVec 64 := (w <<< (64 - n)).sshiftRight (64 - n)

theorem getB_bit (w : BitVec 64) (lo n i : Nat) : (getB w lo n).getLsbD i = (decide (i < n) && w.getLsbD (lo + i)) := by
  unfold getB; rw [BitVec.getLsbD_and, BitVec.getLsbD_ushiftRight, mB_bit]
  by_cases h : i < 64
  · simp [h, Bool.and_comm]
  · rw [BitVec.getLsbD_of_ge w (lo + i) (by omega)]; simp
theorem setB_bit (w v : BitVec 64) (lo n i : Nat) : (setB w lo n v).getLsbD i = (decide (i < 64) && (if lo ≤ i ∧ i < lo + n then v.getLsbD (i - lo) else w.getLsbD i)) := by
  unfold setB
  rw [BitVec.getLsbD_or, BitVec.getLsbD_and, BitVec.getLsbD_and, BitVec.getLsbD_not, BitVec.getLsbD_shiftLeft, BitVec.getLsbD_shiftLeft, mB_bit]
  by_cases h : i < 64
  · by_cases h1 : lo ≤ i
    · by_cases h2 : i < lo + n
      · simp [h, h1, h2, show ¬ i < lo by omega, show i - lo < 64 by omega, show i - lo < n by omega]
      · simp [h, h1, h2, show ¬ i < lo by omega, show ¬ i - lo < n by omega]
    · simp [h, h1, show i < lo by omega]
  · simp [h]
theorem signB_bit (w : BitVec 64) (n i : Nat) (h1 : 1 ≤ n) (h : n ≤ 64) : (signB w n).getLsbD i = (decide (i < 64) && w.getLsbD (min i (n - 1))) := by
  unfold signB
  rw [BitVec.getLsbD_sshiftRight]
  by_cases hi : i < 64
  · by_cases hj : 64 - n + i < 64
    · simp [hi, hj, show ¬ 64 ≤ i by omega, BitVec.getLsbD_shiftLeft, show ¬ 64 - n + i < 64 - n by omega, show 64 - n + i - (64 - n) = i by omega, Nat.min_eq_left (show i ≤ n - 1 by omega)]
    · simp [hi, hj, show ¬ 64 ≤ i by omega, BitVec.msb_eq_getLsbD_last, BitVec.getLsbD_shiftLeft, show ¬ 63 < 64 - n by omega, show 63 - (64 - n) = n - 1 by omega, Nat.min_eq_right (show n - 1 ≤ i by omega), BitVec.getLsbD_eq_getElem (show n - 1 < 64 by omega)]
  · simp [hi, show 64 ≤ i by omega]
theorem tm (n k : Nat) : Int.tmod (n : Int) (k : Int) = ((n % k : Nat) : Int) := rfl
theorem wn (n : Nat) (h : n < 9223372036854775808) : wrap64 (n : Int) = n := by unfold wrap64; omega
theorem ws (a b : Nat) (h : b ≤ a) (h2 : a < 9223372036854775808) : wrap64 ((a : Int) - (b : Int)) = ((a - b : Nat) : Int) := by unfold wrap64; omega
theorem wa (a b : Nat) (h : a + b < 9223372036854775808) : wrap64 ((a : Int) + (b : Int)) = ((a + b : Nat) : Int) := by unfold wrap64; omega
theorem bb1 (w v : BitVec 64) (l m : Nat) (h : l + m ≤ 64) : getB (setB w l m v) l m = getB v 0 m := by
  apply BitVec.eq_of_getLsbD_eq; intro i hi; simp only [getB_bit, setB_bit]; grind
theorem bb2 (w v : BitVec 64) (l m : Nat) (h : l + m ≤ 64) : setB (setB w l m v) l m (getB w l m) = w := by
  apply BitVec.eq_of_getLsbD_eq; intro i hi; simp only [getB_bit, setB_bit]; grind
theorem bb3 (w v : BitVec 64) (l m : Nat) (h : l + m ≤ 64) : getB (setB w l m v) 0 l = getB w 0 l := by
  apply BitVec.eq_of_getLsbD_eq; intro i hi; simp only [getB_bit, setB_bit]; grind
theorem bb4 (w v : BitVec 64) (l m : Nat) (h : l + m ≤ 64) : getB (setB w l m v) (l + m) (64 - l - m) = getB w (l + m) (64 - l - m) := by
  apply BitVec.eq_of_getLsbD_eq; intro i hi; simp only [getB_bit, setB_bit]; grind
theorem bb5 (w v u : BitVec 64) (l m : Nat) (h : l + m ≤ 64) : setB (setB w l m v) (l + m) (64 - l - m) u = setB (setB w (l + m) (64 - l - m) u) l m v := by
  apply BitVec.eq_of_getLsbD_eq; intro i hi; simp only [setB_bit]; grind
theorem bw1 (w : BitVec 64) (c : Nat) (h : c ≤ 64) : setB (setB 0#64 0 c (getB w 0 c)) c (64 - c) (getB w c (64 - c)) = w := by
  apply BitVec.eq_of_getLsbD_eq; intro i hi; simp only [getB_bit, setB_bit]; grind
theorem bw2 (w : BitVec 64) (m : Nat) (h1 : 1 ≤ m) (h : m ≤ 64) : getB (signB w m) 0 m = getB w 0 m := by
  apply BitVec.eq_of_getLsbD_eq; intro i hi; simp only [getB_bit, signB_bit _ _ _ h1 h]; grind
theorem bw3 (w : BitVec 64) (m : Nat) (h1 : 1 ≤ m) (h : m ≤ 64) : signB (signB w m) m = signB w m := by
  apply BitVec.eq_of_getLsbD_eq; intro i hi; simp only [signB_bit _ _ _ h1 h]; grind
theorem bs1 (w : BitVec 64) (l a : Nat) (h : l + a ≤ 64) : getB (getB w l 64) 0 a = getB w l a := by
  apply BitVec.eq_of_getLsbD_eq; intro i hi; simp only [getB_bit]; grind
theorem bs2 (w : BitVec 64) (a : Nat) : getB w 64 a = 0#64 := by
  apply BitVec.eq_of_getLsbD_eq; intro i hi; simp only [getB_bit]; simp
theorem bs3 (w : BitVec 64) (l a b : Nat) (h : l + a + b ≤ 64) : setB (getB w l a) a b (getB w (l + a) b) = getB w l (a + b) := by
  apply BitVec.eq_of_getLsbD_eq; intro i hi; simp only [getB_bit, setB_bit]; grind
end Go.Proofs.YtjgnckhbafgalaaDoor.Bv
