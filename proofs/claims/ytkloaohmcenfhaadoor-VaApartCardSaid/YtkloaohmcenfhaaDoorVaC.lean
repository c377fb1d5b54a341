/- The contracts of the layer va and of its reference: each call comes to the plain number of VaSpec, where the table of sizes reads as the program's text lays it. -/
import Derived.Test.YtkloaohmcenfhaaDoorPVaApartx1
import Derived.Test.YtkloaohmcenfhaaDoorBv
import Derived.Test.YtkloaohmcenfhaaDoorVaSpec
import Derived.Lib.Hide
namespace Go.Proofs.YtkloaohmcenfhaaDoor.VaC
open Go.RowKit Go.Proofs.YtkloaohmcenfhaaDoor.PVaApart Go.Proofs.YtkloaohmcenfhaaDoorW.PrintWords Go.Proofs.YtkloaohmcenfhaaDoorW.PrintLast Go.Proofs.YtkloaohmcenfhaaDoorW.PrintMore Go.Proofs.YtkloaohmcenfhaaDoor.Bv Go.Proofs.YtkloaohmcenfhaaDoor.VaSpec
set_option linter.unusedVariables false
set_option linter.unusedSimpArgs false
theorem mask_f (n : Nat) (h : n ≤ 64) : bits_mask.f (n : Int) = some (B (mB n)) := by
  unfold bits_mask.f
  by_cases e : n = 64
  · subst e; rw [if_pos (by omega), mB_64]
  · rw [if_neg (by omega), wrap_nat n (by omega), if_pos (by omega)]
    have h1 : (2 : Int) ^ n = ((2 ^ n : Nat) : Int) := by norm_cast
    have h2 : 2 ^ n < 2 ^ 64 := Nat.pow_lt_pow_right (by decide) (by omega)
    have h3 := Nat.two_pow_pos n
    congr 1
    rw [mB_val n (by omega)]
    unfold shl
    rw [Int.one_mul, Int.toNat_natCast, show IntKind.bits .u64 = 64 from rfl, Nat.min_eq_left h, h1, wrap_u64, wrap_u64]
    omega
theorem shl_f (x : BitVec 64) (n : Nat) : shl .u64 (B x) (n : Int) = B (x <<< n) := by
  unfold shl; rw [Int.toNat_natCast]; exact shl_B x n
theorem shr_f (x : BitVec 64) (n : Nat) : shr .u64 (B x) (n : Int) = B (x >>> n) := by
  unfold shr; rw [Int.toNat_natCast]; exact shr_B x n
theorem Get_f (x : BitVec 64) (lo n : Nat) (hl : lo ≤ 64) (h : n ≤ 64) : bits_Get.f (B x) (lo : Int) (n : Int) = some (B (getB x lo n)) := by
  unfold bits_Get.f
  rw [wrap_nat lo (by omega), if_pos (by omega), mask_f n h, Option.bind_some, shr_f, and_B]; rfl
theorem Get_f0 (x : BitVec 64) (n : Nat) (h : n ≤ 64) : bits_Get.f (B x) 0 (n : Int) = some (B (getB x 0 n)) := Get_f x 0 n (by omega) h
theorem Get_f64 (x : BitVec 64) (n : Nat) (h : n ≤ 64) : bits_Get.f (B x) 64 (n : Int) = some (B (getB x 64 n)) := Get_f x 64 n (by omega) h
theorem Get_ft (x : BitVec 64) (lo : Nat) (h : lo ≤ 64) : bits_Get.f (B x) (lo : Int) 64 = some (B (getB x lo 64)) := Get_f x lo 64 h (by omega)
theorem Get_f1 (x : BitVec 64) (lo : Nat) (h : lo ≤ 64) : bits_Get.f (B x) (lo : Int) 1 = some (B (getB x lo 1)) := Get_f x lo 1 h (by omega)
theorem Set_f (x v : BitVec 64) (lo n : Nat) (hl : lo ≤ 64) (h : n ≤ 64) : bits_Set.f (B x) (lo : Int) (n : Int) (B v) = some (B (setB x lo n v)) := by
  unfold bits_Set.f
  rw [mask_f n h, Option.bind_some, wrap_nat lo (by omega), if_pos (by omega), shl_f, shl_f, and_B, andNot_B, or_B]; rfl
theorem Sign_f (x : BitVec 64) (n : Nat) (h1 : 1 ≤ n) (h : n ≤ 64) : bits_Sign.f (B x) (n : Int) = some (B (signB x n)) := by
  unfold bits_Sign.f
  rw [show wrap64 (64 - (n : Int)) = ((64 - n : Nat) : Int) by unfold wrap64; omega, wrap_nat (64 - n) (by omega), if_pos (by omega), shl_f]
  congr 1
  unfold shr signB
  rw [wrap64_B, Int.toNat_natCast]
  exact sshr_B _ _
theorem Set_f0 (v : BitVec 64) (n : Nat) (h : n ≤ 64) : bits_Set.f 0 0 (n : Int) (B v) = some (B (setB 0#64 0 n v)) := Set_f 0#64 v 0 n (by omega) h
/-- The table of sizes lies in memory as the program's text lays it. -/
def TabS (w : World) : Prop := w.cell? ⟨0, 0, none⟩ = some (.int .u64 4096) ∧ w.cell? ⟨0, 1, none⟩ = some (.int .u64 2097152) ∧ w.cell? ⟨0, 2, none⟩ = some (.int .u64 1073741824)
theorem TabS.below {w w' : World} (h : TabS w) (b : Below w.heap.size w w') : TabS w' := by
  obtain ⟨h0, h1, h2⟩ := h
  have k : 0 < w.heap.size := block_lt_of_cell h0
  exact ⟨(b.cell (p := ⟨0, 0, none⟩) k).trans h0, (b.cell (p := ⟨0, 1, none⟩) k).trans h1, (b.cell (p := ⟨0, 2, none⟩) k).trans h2⟩
theorem TabS.drawn {w w' : World} (h : TabS w) (d : Drawn0 w w') : TabS w' := h.below d.below
theorem TabS.drewN {w : World} (h : TabS w) (n : Nat) : TabS (w.drewN n) := h
theorem Drawn0.trans' {a b c : World} (h : Drawn0 a b) (k : Drawn0 b c) : Drawn0 a c := by
  obtain ⟨n, rfl⟩ := h; obtain ⟨m, rfl⟩ := k; exact (Drawn0.step ⟨n, rfl⟩ m)
theorem size_calls (l : Int) (w : World) (h0 : 0 ≤ l) (h2 : l ≤ 2) (hT : TabS w) : Calls Tryd.prog 8 #[.int .i64 l] w fun e w' => e = .returned (.int .u64 (sz l)) ∧ Drawn0 w w' := by
  obtain ⟨t0, t1, t2⟩ := hT
  rcases lev h0 h2 with rfl | rfl | rfl
  all_goals
    go_enter Tryd.func8, Tryd.ntmps8
    go_wp2
    go_ret
    exact ⟨rfl, Drawn0.refl _⟩
theorem off_calls (a l : Int) (w : World) (a0 : 0 ≤ a) (a1 : a < 18446744073709551616) (h0 : 0 ≤ l) (h2 : l ≤ 2) (hT : TabS w) : Calls Tryd.prog 20 #[.int .u64 a, .int .i64 l] w fun e w' => e = .returned (.int .u64 (off a l)) ∧ Drawn0 w w' := by
  have m0 := Lib.hid (andMask a 12 (by decide) a0 a1)
  have m1 := Lib.hid (andMask a 21 (by decide) a0 a1)
  have m2 := Lib.hid (andMask a 30 (by decide) a0 a1)
  obtain ⟨t0, t1, t2⟩ := hT
  rcases lev h0 h2 with rfl | rfl | rfl
  all_goals
    go_enter Tryd.func20, Tryd.ntmps20
    go_wp2
    go_ret
    refine ⟨?_, Drawn0.refl _⟩
  · exact congrArg (fun z => Ending.returned (.int .u64 z)) m0.out
  · exact congrArg (fun z => Ending.returned (.int .u64 z)) m1.out
  · exact congrArg (fun z => Ending.returned (.int .u64 z)) m2.out
theorem off_bd (a l : Int) (a0 : 0 ≤ a) : 0 ≤ off a l ∧ off a l < sz l ∧ off a l ≤ a := by
  have := sz_pos l
  unfold off
  refine ⟨Int.emod_nonneg _ (sz_ne l), Int.emod_lt_of_pos _ this, ?_⟩
  have h1 := Int.mul_ediv_add_emod a (sz l)
  have h2 : 0 ≤ sz l * (a / sz l) := Int.mul_nonneg (by omega) (Int.ediv_nonneg a0 (by omega))
  omega
theorem base_calls (a l : Int) (w : World) (a0 : 0 ≤ a) (a1 : a < 18446744073709551616) (h0 : 0 ≤ l) (h2 : l ≤ 2) (hT : TabS w) : Calls Tryd.prog 18 #[.int .u64 a, .int .i64 l] w fun e w' => e = .returned (.int .u64 (base a l)) ∧ Drawn0 w w' := by
  obtain ⟨b0, b1, b2⟩ := off_bd a l a0
  have hw := Lib.hid (show IntKind.u64.wrap (a - off a l) = a - off a l by rw [wrap_u64]; omega)
  clear b0 b1 b2
  go_enter Tryd.func18, Tryd.ntmps18
  go_wp2_with (go_at_call 20; refine (off_calls a l _ a0 a1 h0 h2 ?_).mono ?_; exact hT; rintro e w' ⟨rfl, ⟨nd, rfl⟩⟩)
  go_ret
  refine ⟨?_, by repeat (first | exact Drawn0.refl _ | apply Drawn0.step)⟩
  exact congrArg (fun z => Ending.returned (.int .u64 z)) (by first | exact hw.out | rfl)
theorem is_f (a : Int) (a0 : 0 ≤ a) (a1 : a < 18446744073709551616) : va_Is.f a = some (isv a) := by
  obtain ⟨x, rfl⟩ := u64_B a0 a1
  unfold va_Is.f
  rw [show (39 : Int) = ((39 : Nat) : Int) from rfl, Sign_f x 39 (by omega) (by omega), Option.bind_some, signB_39]
  exact congrArg some (isv_ext (B x) (B_nonneg x) (B_lt x))
theorem is_calls (a : Int) (w : World) (a0 : 0 ≤ a) (a1 : a < 18446744073709551616) : Calls Tryd.prog 10 #[.int .u64 a] w fun e w' => e = .returned (.bool (isv a)) ∧ Drawn0 w w' := va_Is.calls a _ w (is_f a a0 a1)
theorem ris_calls (a : Int) (w : World) : Calls Tryd.prog 11 #[.int .u64 a] w fun e w' => e = .returned (.bool (isv a)) ∧ Drawn0 w w' := atlasref05_Is.calls a _ w (by
  unfold atlasref05_Is.f isv
  by_cases h : a < 274877906944
  · rw [if_pos h]; simp [h]
  · rw [if_neg h]; simp [h])
theorem idx_f (a l : Int) (a0 : 0 ≤ a) (a1 : a < 18446744073709551616) (h0 : 0 ≤ l) (h2 : l ≤ 2) : va_Index.f a l = some (idx a l) := by
  obtain ⟨x, rfl⟩ := u64_B a0 a1
  unfold va_Index.f
  have key : ∀ n : Nat, n ≤ 64 → (bits_Get.f (B x) (n : Int) 9).bind (fun t => some (wrap64 t)) = some (B x / 2 ^ n % 512) := by
    intro n hn
    rw [show (9 : Int) = ((9 : Nat) : Int) from rfl, Get_f x n 9 hn (by omega), Option.bind_some, getB_val x n 9 (by omega)]
    congr 1; unfold wrap64; omega
  rcases lev h0 h2 with rfl | rfl | rfl
  · rw [show wrap64 (12 + wrap64 (9 * 0)) = ((12 : Nat) : Int) by unfold wrap64; omega]; exact key 12 (by omega)
  · rw [show wrap64 (12 + wrap64 (9 * 1)) = ((21 : Nat) : Int) by unfold wrap64; omega]; exact key 21 (by omega)
  · rw [show wrap64 (12 + wrap64 (9 * 2)) = ((30 : Nat) : Int) by unfold wrap64; omega]; exact key 30 (by omega)
theorem idx_calls (a l : Int) (w : World) (a0 : 0 ≤ a) (a1 : a < 18446744073709551616) (h0 : 0 ≤ l) (h2 : l ≤ 2) : Calls Tryd.prog 12 #[.int .u64 a, .int .i64 l] w fun e w' => e = .returned (.int .i64 (idx a l)) ∧ Drawn0 w w' := va_Index.calls a l _ w (idx_f a l a0 a1 h0 h2)
theorem num_f (a : Int) (a0 : 0 ≤ a) (a1 : a < 18446744073709551616) : va_Number.f a = some (num a) := by
  obtain ⟨x, rfl⟩ := u64_B a0 a1
  unfold va_Number.f
  rw [show (27 : Int) = ((27 : Nat) : Int) from rfl, show (12 : Int) = ((12 : Nat) : Int) from rfl, Get_f x 12 27 (by omega) (by omega), Option.bind_some, getB_val x 12 27 (by omega)]
  rfl
theorem num_calls (a : Int) (w : World) (a0 : 0 ≤ a) (a1 : a < 18446744073709551616) : Calls Tryd.prog 14 #[.int .u64 a] w fun e w' => e = .returned (.int .u64 (num a)) ∧ Drawn0 w w' := va_Number.calls a _ w (num_f a a0 a1)
theorem ext39_sign (v : BitVec 64) (h : B v < 549755813888) : B (signB v 39) = ext39 (B v) := by
  rw [signB_39, Int.emod_eq_of_lt (B_nonneg v) h]
theorem of_f (n : Int) (a0 : 0 ≤ n) (a1 : n < 18446744073709551616) : va_Of.f n = some (ofv n) := by
  obtain ⟨x, rfl⟩ := u64_B a0 a1
  unfold va_Of.f
  have h1 : bits_Set.f 0 12 27 (B x) = some (B (setB 0#64 12 27 x)) := Set_f 0#64 x 12 27 (by omega) (by omega)
  have h2 := setB_zero_val x 12 27 (by omega)
  rw [h1, Option.bind_some, show (39 : Int) = ((39 : Nat) : Int) from rfl, Sign_f _ 39 (by omega) (by omega), Option.bind_some, ext39_sign _ (by rw [h2]; omega), h2]
  rfl
theorem of_calls (n : Int) (w : World) (a0 : 0 ≤ n) (a1 : n < 18446744073709551616) : Calls Tryd.prog 16 #[.int .u64 n] w fun e w' => e = .returned (.int .u64 (ofv n)) ∧ Drawn0 w w' := va_Of.calls n _ w (of_f n a0 a1)
theorem fits_calls (a l : Int) (w : World) (a0 : 0 ≤ a) (a1 : a < 18446744073709551616) (h0 : 0 ≤ l) (h2 : l ≤ 2) (hT : TabS w) : Calls Tryd.prog 22 #[.int .u64 a, .int .i64 l] w fun e w' => e = .returned (.bool (fits a l)) ∧ Drawn0 w w' := by
  cases hi : isv a
  all_goals
    have hf : fits a l = (isv a && (off a l == 0)) := rfl
    rw [hi] at hf
    have Hf := Lib.hid hf; clear hf
    have Hi := Lib.hid hi; clear hi
    go_enter Tryd.func22, Tryd.ntmps22
    go_wp2_with (first | (go_at_call 10; refine (is_calls a _ a0 a1).mono ?_; rw [Hi.out]; rintro e w' ⟨rfl, ⟨nd, rfl⟩⟩) | (go_at_call 20; refine (off_calls a l _ a0 a1 h0 h2 ?_).mono ?_; exact hT; rintro e w' ⟨rfl, ⟨nd, rfl⟩⟩))
    go_ret
    refine ⟨?_, by repeat (first | exact Drawn0.refl _ | apply Drawn0.step)⟩
    rw [Hf.out]; rfl
end Go.Proofs.YtkloaohmcenfhaaDoor.VaC
