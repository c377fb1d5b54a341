/- The law BitsWhole in plain Lean, at every word, cut and width: a word is put together of its fields, cut anywhere; with its sign it has the same lowest bits, and the same sign again. -/
import Derived.Test.YtkloaohmcenfhaaPBitsWholex1
import Derived.Test.YtkloaohmcenfhaaBv
namespace Go.Proofs.Ytkloaohmcenfhaa.Pure
open Go.RowKit Go.Proofs.Ytkloaohmcenfhaa.PBitsWhole Go.Proofs.YtkloaohmcenfhaaW.PrintWords Go.Proofs.YtkloaohmcenfhaaW.PrintLast Go.Proofs.YtkloaohmcenfhaaW.PrintMore Go.Proofs.Ytkloaohmcenfhaa.Bv
set_option linter.unusedVariables false
set_option linter.unusedSimpArgs false
namespace LBitsWhole
theorem mask_f (n : Nat) (h : n ≤ 64) : bits_mask.f (n : Int) = some (B (mB n)) := by
  unfold bits_mask.f
  by_cases e : n = 64
  · subst e; rw [if_pos (by omega), mB_64]
  · rw [if_neg (by omega), wrap_nat n (by omega), if_pos (by omega)]
    have h1 : (2 : Int) ^ n = ((2 ^ n : Nat) : Int) := by norm_cast
    have h2 : 2 ^ n < 2 ^ 64 := Nat.pow_lt_pow_right (by decide) (by omega)
    have h3 := Nat.two_pow_pos n
    congr 1
    rw [mB_val n (by omega)]
    unfold shl
    rw [Int.one_mul, Int.toNat_natCast, show IntKind.bits .u64 = 64 from rfl, Nat.min_eq_left h, h1, wrap_u64, wrap_u64]
    omega
theorem shl_f (x : BitVec 64) (n : Nat) : shl .u64 (B x) (n : Int) = B (x <<< n) := by
  unfold shl; rw [Int.toNat_natCast]; exact shl_B x n
theorem shr_f (x : BitVec 64) (n : Nat) : shr .u64 (B x) (n : Int) = B (x >>> n) := by
  unfold shr; rw [Int.toNat_natCast]; exact shr_B x n
theorem Get_f (x : BitVec 64) (lo n : Nat) (hl : lo ≤ 64) (h : n ≤ 64) : bits_Get.f (B x) (lo : Int) (n : Int) = some (B (getB x lo n)) := by
  unfold bits_Get.f
  rw [wrap_nat lo (by omega), if_pos (by omega), mask_f n h, Option.bind_some, shr_f, and_B]; rfl
theorem Get_f0 (x : BitVec 64) (n : Nat) (h : n ≤ 64) : bits_Get.f (B x) 0 (n : Int) = some (B (getB x 0 n)) := Get_f x 0 n (by omega) h
theorem Get_f64 (x : BitVec 64) (n : Nat) (h : n ≤ 64) : bits_Get.f (B x) 64 (n : Int) = some (B (getB x 64 n)) := Get_f x 64 n (by omega) h
theorem Get_ft (x : BitVec 64) (lo : Nat) (h : lo ≤ 64) : bits_Get.f (B x) (lo : Int) 64 = some (B (getB x lo 64)) := Get_f x lo 64 h (by omega)
theorem Get_f1 (x : BitVec 64) (lo : Nat) (h : lo ≤ 64) : bits_Get.f (B x) (lo : Int) 1 = some (B (getB x lo 1)) := Get_f x lo 1 h (by omega)
theorem Set_f (x v : BitVec 64) (lo n : Nat) (hl : lo ≤ 64) (h : n ≤ 64) : bits_Set.f (B x) (lo : Int) (n : Int) (B v) = some (B (setB x lo n v)) := by
  unfold bits_Set.f
  rw [mask_f n h, Option.bind_some, wrap_nat lo (by omega), if_pos (by omega), shl_f, shl_f, and_B, andNot_B, or_B]; rfl
theorem Sign_f (x : BitVec 64) (n : Nat) (h1 : 1 ≤ n) (h : n ≤ 64) : bits_Sign.f (B x) (n : Int) = some (B (signB x n)) := by
  unfold bits_Sign.f
  rw [show wrap64 (64 - (n : Int)) = ((64 - n : Nat) : Int) by unfold wrap64; omega, wrap_nat (64 - n) (by omega), if_pos (by omega), shl_f]
  congr 1
  unfold shr signB
  rw [wrap64_B, Int.toNat_natCast]
  exact sshr_B _ _
theorem Set_f0 (v : BitVec 64) (n : Nat) (h : n ≤ 64) : bits_Set.f 0 0 (n : Int) (B v) = some (B (setB 0#64 0 n v)) := Set_f 0#64 v 0 n (by omega) h
theorem awake_f : atlaslaw01_awake.f = some true := by decide +kernel
theorem last (w : BitVec 64) (m : Nat) (h1 : 1 ≤ m) (h : m ≤ 64) : ((B (signB w m) / (9223372036854775808 : Int)) == 1) = (B (getB w (m - 1) 1) == 1) := by
  have e1 : B (signB w m) / (9223372036854775808 : Int) = B (signB w m >>> 63) := by
    exact shr_B (signB w m) 63
  have e2 : signB w m >>> 63 = getB w (m - 1) 1 := by
    apply BitVec.eq_of_getLsbD_eq; intro i hi
    rw [BitVec.getLsbD_ushiftRight, signB_bit _ _ _ h1 h, getB_bit]
    by_cases e : i = 0
    · subst e; simp [show min 63 (m - 1) = m - 1 by omega]
    · simp [show ¬ (63 + i < 64) by omega, e]
  rw [e1, e2]
theorem main (w : BitVec 64) (n1 n2 : Nat) (h1 : n1 < 256) (h2 : n2 < 256) : atlaslaw01_BitsWhole.f (B w) n1 n2 = some true := by
  have e1 : wrap64 (Int.tmod (n1 : Int) 65) = ((n1 % 65 : Nat) : Int) := by rw [show Int.tmod (n1 : Int) 65 = ((n1 % 65 : Nat) : Int) from rfl]; exact wn _ (by omega)
  have e2 : wrap64 (1 + wrap64 (Int.tmod (n2 : Int) 64)) = ((1 + n2 % 64 : Nat) : Int) := by rw [show Int.tmod (n2 : Int) 64 = ((n2 % 64 : Nat) : Int) from rfl, wn _ (by omega)]; unfold wrap64; omega
  have hl : n1 % 65 ≤ 64 := by omega
  have hm : 1 + n2 % 64 ≤ 64 := by omega
  have hm1 : 1 ≤ 1 + n2 % 64 := by omega
  unfold atlaslaw01_BitsWhole.f
  rw [e1, e2, awake_f]
  generalize n1 % 65 = c at *
  generalize 1 + n2 % 64 = m at *
  rw [show wrap64 (64 - (c : Int)) = ((64 - c : Nat) : Int) by unfold wrap64; omega, show wrap64 ((m : Int) - 1) = ((m - 1 : Nat) : Int) by unfold wrap64; omega]
  simp (disch := omega) only [Option.bind_some, Get_f1, Get_f0, Get_f, Set_f0, Set_f, Sign_f, if_true, bw1 w c hl, bw2 w m hm1 hm, bw3 w m hm1 hm, last w m hm1 hm, bne_self_eq_false, beq_self_eq_true, Bool.false_eq_true, if_false]
end LBitsWhole
theorem BitsWhole : atlaslaw01_BitsWhole.Pure := by
  intro a0 a1 a2 h0 h1 h2
  obtain ⟨w, rfl⟩ := Bv.exists_B h0
  obtain ⟨n1, rfl, g1⟩ := Bv.exists_u8 h1
  obtain ⟨n2, rfl, g2⟩ := Bv.exists_u8 h2
  exact LBitsWhole.main w n1 n2 g1 g2
end Go.Proofs.Ytkloaohmcenfhaa.Pure
