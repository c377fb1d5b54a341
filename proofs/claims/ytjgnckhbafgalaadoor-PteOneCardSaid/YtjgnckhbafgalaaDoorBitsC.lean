/- The contracts of the layer bits: each call comes to a word of VaSpec's and Bv's. -/
import Derived.Test.YtjgnckhbafgalaaDoorBase
namespace Go.Proofs.YtjgnckhbafgalaaDoor.BitsC
open Go.RowKit Go.Proofs.YtjgnckhbafgalaaDoor.Bv Go.Proofs.YtjgnckhbafgalaaDoor.VaSpec Go.Proofs.YtjgnckhbafgalaaDoor.Base
set_option linter.unusedVariables false
set_option linter.unusedSimpArgs false
def maskI (n : Int) : Int := B (mB n.toNat)
def getI (a lo n : Int) : Int := B (getB (X a) lo.toNat n.toNat)
def setI (a lo n v : Int) : Int := B (setB (X a) lo.toNat n.toNat (X v))
def signI (a n : Int) : Int := B (signB (X a) n.toNat)
def evenI (a b : Int) : Bool := if b = 0 then a == 0 else a % b == 0
theorem getI_U (a lo n : Int) : U (getI a lo n) := U.B _
theorem setI_U (a lo n v : Int) : U (setI a lo n v) := U.B _
theorem signI_U (a n : Int) : U (signI a n) := U.B _
theorem maskI_U (n : Int) : U (maskI n) := U.B _
theorem getI_val (a lo n : Int) (h : U a) (hn : n ≤ 64) : getI a lo n = a / 2 ^ lo.toNat % 2 ^ n.toNat := by
  unfold getI; rw [getB_val _ _ _ (by omega), B_X h]
theorem mask_same (n : Int) (w : World) (h0 : 0 ≤ n) (h : n ≤ 64) : Calls Tryd.prog 70 #[.int .i64 n] w fun e w' => e = .returned (.int .u64 (maskI n)) ∧ w' = w := by
  by_cases e : 64 ≤ n
  · obtain rfl : n = 64 := by omega
    go_enter Tryd.func70, Tryd.ntmps70
    go_wp2
    go_ret
    refine ⟨?_, rfl⟩
    exact congrArg (fun z => Ending.returned (.int .u64 z)) (by unfold maskI; exact mB_64.symm)
  · obtain ⟨k, rfl⟩ := Int.eq_ofNat_of_zero_le h0
    have hv := mB_val k (by omega)
    have h1 : (2 : Int) ^ k = ((2 ^ k : Nat) : Int) := by norm_cast
    have h2 : 2 ^ k < 2 ^ 64 := Nat.pow_lt_pow_right (by decide) (by omega)
    have h3 := Nat.two_pow_pos k
    have H := Lib.hid (show IntKind.u64.wrap (IntKind.u64.wrap (2 ^ k) - 1) = maskI (k : Int) by
      unfold maskI; rw [Int.toNat_natCast, hv, h1, wrap_u64, wrap_u64]; omega)
    clear hv h1 h2 h3
    go_enter Tryd.func70, Tryd.ntmps70
    go_wp2
    go_ret
    exact ⟨congrArg (fun z => Ending.returned (.int .u64 z)) H.out, rfl⟩
theorem get_same (a lo n : Int) (w : World) (ha : U a) (l0 : 0 ≤ lo) (l1 : lo ≤ 64) (h0 : 0 ≤ n) (h : n ≤ 64) : Calls Tryd.prog 64 #[.int .u64 a, .int .i64 lo, .int .i64 n] w fun e w' => e = .returned (.int .u64 (getI a lo n)) ∧ w' = w := by
  obtain ⟨x, rfl⟩ := u64_B ha.1 ha.2
  obtain ⟨l, rfl⟩ := Int.eq_ofNat_of_zero_le l0
  have H := Lib.hid (show Go.bits .and .u64 (B x / 2 ^ l) (maskI n) = getI (B x) (l : Int) n by
    have h1 := shr_B x l
    rw [Nat.min_eq_left (by omega)] at h1
    rw [h1]; unfold maskI getI; rw [and_B, X_B, Int.toNat_natCast]; rfl)
  go_enter Tryd.func64, Tryd.ntmps64
  go_wp2_with (go_at_call 70; (with_reducible refine (mask_same _ _ h0 h).mono ?_); rintro e w' ⟨rfl, rfl⟩)
  go_ret
  exact ⟨congrArg (fun z => Ending.returned (.int .u64 z)) H.out, rfl⟩
theorem Q.of_same {w w' : World} (h : w' = w) : Q w w' := by subst h; exact Q.refl _
theorem mask_calls (n : Int) (w : World) (h0 : 0 ≤ n) (h : n ≤ 64) : Calls Tryd.prog 70 #[.int .i64 n] w fun e w' => e = .returned (.int .u64 (maskI n)) ∧ Q w w' := (mask_same n w h0 h).mono fun _ _ ⟨a, b⟩ => ⟨a, Q.of_same b⟩
theorem get_calls (a lo n : Int) (w : World) (ha : U a) (l0 : 0 ≤ lo) (l1 : lo ≤ 64) (h0 : 0 ≤ n) (h : n ≤ 64) : Calls Tryd.prog 64 #[.int .u64 a, .int .i64 lo, .int .i64 n] w fun e w' => e = .returned (.int .u64 (getI a lo n)) ∧ Q w w' := (get_same a lo n w ha l0 l1 h0 h).mono fun _ _ ⟨a, b⟩ => ⟨a, Q.of_same b⟩
theorem set_calls (a lo n v : Int) (w : World) (ha : U a) (hv : U v) (l0 : 0 ≤ lo) (l1 : lo ≤ 64) (h0 : 0 ≤ n) (h : n ≤ 64) : Calls Tryd.prog 61 #[.int .u64 a, .int .i64 lo, .int .i64 n, .int .u64 v] w fun e w' => e = .returned (.int .u64 (setI a lo n v)) ∧ Q w w' := by
  obtain ⟨x, rfl⟩ := u64_B ha.1 ha.2
  obtain ⟨y, rfl⟩ := u64_B hv.1 hv.2
  obtain ⟨l, rfl⟩ := Int.eq_ofNat_of_zero_le l0
  have H := Lib.hid (show Go.bits .or .u64 (Go.bits .andNot .u64 (B x) (IntKind.u64.wrap (maskI n * 2 ^ l))) (Go.bits .and .u64 (IntKind.u64.wrap (B y * 2 ^ l)) (IntKind.u64.wrap (maskI n * 2 ^ l))) = setI (B x) (l : Int) n (B y) by
    have h1 := fun z => shl_B z l
    rw [Nat.min_eq_left (by omega)] at h1
    unfold maskI setI; rw [h1, h1, andNot_B, and_B, or_B, X_B, X_B, Int.toNat_natCast]; rfl)
  go_enter Tryd.func61, Tryd.ntmps61
  go_wp2_with (go_at_call 70; (with_reducible refine (mask_calls _ _ h0 h).mono ?_); rintro e w' ⟨rfl, ⟨nd, rfl⟩⟩)
  go_ret
  refine ⟨?_, ⟨_, rfl⟩⟩
  exact congrArg (fun z => Ending.returned (.int .u64 z)) H.out
theorem sign_calls (a n : Int) (w : World) (ha : U a) (h0 : 1 ≤ n) (h : n ≤ 64) : Calls Tryd.prog 67 #[.int .u64 a, .int .i64 n] w fun e w' => e = .returned (.int .u64 (signI a n)) ∧ Q w w' := by
  obtain ⟨x, rfl⟩ := u64_B ha.1 ha.2
  have H := Lib.hid (show IntKind.u64.wrap (wrap64 (IntKind.u64.wrap (B x * 2 ^ (64 - n).toNat)) / 2 ^ (64 - n).toNat) = signI (B x) n by
    have h1 := shl_B x (64 - n).toNat
    have h2 := sshr_B (x <<< (64 - n).toNat) (64 - n).toNat
    rw [Nat.min_eq_left (by omega)] at h1
    rw [show IntKind.bits .i64 = 64 from rfl, Nat.min_eq_left (by omega)] at h2
    rw [h1, wrap64_B, h2]; unfold signI signB; rw [X_B, show (64 - n).toNat = 64 - n.toNat by omega])
  go_enter Tryd.func67, Tryd.ntmps67
  go_wp2
  go_ret
  refine ⟨?_, Q.refl _⟩
  exact congrArg (fun z => Ending.returned (.int .u64 z)) H.out
theorem even_calls (a b : Int) (w : World) (ha : U a) (hb : U b) : Calls Tryd.prog 51 #[.int .u64 a, .int .u64 b] w fun e w' => e = .returned (.bool (evenI a b)) ∧ Q w w' := by
  obtain ⟨a0, a1⟩ := ha
  obtain ⟨b0, b1⟩ := hb
  by_cases e : b = 0
  · subst e
    have H := Lib.hid (show (a == 0) = evenI a 0 from rfl)
    go_enter Tryd.func51, Tryd.ntmps51
    go_wp2
    go_ret
    exact ⟨congrArg (fun z => Ending.returned (.bool z)) H.out, Q.refl _⟩
  · have H := Lib.hid (show (a % b == 0) = evenI a b by unfold evenI; rw [if_neg e])
    have he : (b == 0) = false := by simpa using e
    have hpos : 0 < b := by omega
    clear e
    go_enter Tryd.func51, Tryd.ntmps51
    go_wp2
    go_ret
    refine ⟨?_, Q.refl _⟩
    exact congrArg (fun z => Ending.returned (.bool z)) H.out
theorem bool_calls (b : Bool) (w : World) : Calls Tryd.prog 69 #[.bool b] w fun e w' => e = .returned (.int .u64 (bI b)) ∧ Q w w' := by
  cases b
  all_goals
    go_enter Tryd.func69, Tryd.ntmps69
    go_wp2
    go_ret
    exact ⟨rfl, Q.refl _⟩
end Go.Proofs.YtjgnckhbafgalaaDoor.BitsC
