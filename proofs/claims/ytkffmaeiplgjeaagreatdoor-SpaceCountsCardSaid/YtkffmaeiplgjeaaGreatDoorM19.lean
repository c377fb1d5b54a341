/- Texts of this claim, one behind the other: RfG, RfJ, RfK, RfH. -/
import Derived.Test.YtkffmaeiplgjeaaGreatDoorM14
import Derived.Test.YtkffmaeiplgjeaaGreatDoorM18
import Derived.Test.YtkffmaeiplgjeaaGreatDoorM15
/- Plain: how many bits of a word are set; the sum that math/bits builds. -/
namespace Go.Proofs.YtkffmaeiplgjeaaGreatDoor.RfG
open Go.RowKit Go.Proofs.YtkffmaeiplgjeaaGreatDoor.Bv Go.Proofs.YtkffmaeiplgjeaaGreatDoor.Base Go.Proofs.YtkffmaeiplgjeaaGreatDoor.BitsC Go.Proofs.YtkffmaeiplgjeaaGreatDoor.SpI Go.Proofs.YtkffmaeiplgjeaaGreatDoor.RfP
set_option linter.unusedVariables false
set_option linter.unusedSimpArgs false
/-- how many of the first n are true -/
def cs : Nat → (Nat → Bool) → Nat
  | 0, _ => 0
  | n + 1, f => cs n f + (f n).toNat
theorem cs_congr : ∀ (n : Nat) (f g : Nat → Bool), (∀ j, j < n → f j = g j) → cs n f = cs n g
  | 0, _, _, _ => rfl
  | n + 1, f, g, h => by simp only [cs]; rw [cs_congr n f g (fun j hj => h j (by omega)), h n (by omega)]
theorem cs_head : ∀ (n : Nat) (f : Nat → Bool), cs (n + 1) f = (f 0).toNat + cs n (fun j => f (j + 1))
  | 0, f => by simp [cs]
  | n + 1, f => by
    rw [cs, cs_head n f]
    simp only [cs]; omega
theorem cs_up {f g : Nat → Bool} {i : Nat} (hi : f i = false) (gi : g i = true) (h : ∀ j, j ≠ i → g j = f j) : ∀ n, i < n → cs n g = cs n f + 1
  | 0, hn => by omega
  | n + 1, hn => by
    simp only [cs]
    by_cases e : i = n
    · subst e
      rw [hi, gi, cs_congr i g f (fun j hj => h j (by omega))]; rfl
    · rw [cs_up hi gi h n (by omega), h n (fun e' => e e'.symm)]; omega
theorem cs_le : ∀ (n : Nat) (f g : Nat → Bool), (∀ j, j < n → f j = true → g j = true) → cs n f ≤ cs n g
  | 0, _, _, _ => Nat.le_refl _
  | n + 1, f, g, h => by
    simp only [cs]
    have ih := cs_le n f g (fun j hj => h j (by omega))
    have := h n (by omega)
    cases hf : f n <;> cases hg : g n <;> simp_all <;> omega
theorem cs_eq : ∀ (n : Nat) (f g : Nat → Bool), (∀ j, j < n → f j = true → g j = true) → cs n f = cs n g → ∀ j, j < n → f j = g j
  | 0, _, _, _, _, j, hj => by omega
  | n + 1, f, g, h, he, j, hj => by
    simp only [cs] at he
    have ih := cs_le n f g (fun j hj => h j (by omega))
    have hn := h n (by omega)
    have key : f n = g n ∧ cs n f = cs n g := by cases hf : f n <;> cases hg : g n <;> simp_all <;> omega
    by_cases e : j = n
    · subst e; exact key.1
    · exact cs_eq n f g (fun j hj => h j (by omega)) key.2 j (by omega)
theorem cs_lt : ∀ (n m : Nat), m ≤ n → cs n (fun j => decide (j < m)) = m
  | 0, m, h => by simp [cs]; omega
  | n + 1, m, h => by
    simp only [cs]
    by_cases e : m = n + 1
    · rw [cs_congr n _ (fun j => decide (j < n)) (fun j hj => by simp [hj]; omega), cs_lt n n (Nat.le_refl _)]
      simp [e]
    · rw [cs_lt n m (by omega)]; simp; omega
theorem cs_lt0 : ∀ (n m : Nat), m ≤ n → 1 ≤ m → cs n (fun j => decide (j < m) && decide (j ≠ 0)) = m - 1 := fun n m h h1 => by
  have := cs_up (f := fun j => decide (j < m) && decide (j ≠ 0)) (g := fun j => decide (j < m)) (i := 0) (by simp) (by simp; omega) (fun j hj => by simp [hj]) n (by omega)
  rw [cs_lt n m h] at this
  omega
/-! ### the sum -/
def cb : Nat → Nat → Nat
  | 0, _ => 0
  | f + 1, x => x % 2 + cb f (x / 2)
theorem cb_cs : ∀ (n x : Nat), cb n x = cs n x.testBit
  | 0, _ => rfl
  | n + 1, x => by
    rw [cs_head, cb, cb_cs n (x / 2)]
    congr 1
    · rw [Nat.testBit_zero]; rcases (by omega : x % 2 = 0 ∨ x % 2 = 1) with h | h <;> rw [h] <;> rfl
    · exact cs_congr n _ _ fun j _ => by rw [Nat.testBit_succ]
theorem cb_add : ∀ (m n x : Nat), cb (m + n) x = cb m (x % 2 ^ m) + cb n (x / 2 ^ m)
  | 0, n, x => by simp [cb]
  | m + 1, n, x => by
    rw [show m + 1 + n = (m + n) + 1 by omega, cb, cb, cb_add m n (x / 2)]
    have e1 : x % 2 ^ (m + 1) % 2 = x % 2 := by rw [Nat.pow_succ, Nat.mul_comm, Nat.mod_mul_right_mod]
    have e2 : x % 2 ^ (m + 1) / 2 = x / 2 % 2 ^ m := by rw [Nat.pow_succ, Nat.mul_comm, Nat.mod_mul_right_div_self]
    have e3 : x / 2 / 2 ^ m = x / 2 ^ (m + 1) := by rw [Nat.div_div_eq_div_mul, Nat.pow_succ, Nat.mul_comm]
    rw [e1, e2, e3]; omega
def M (m : Nat) : Nat → Nat
  | 0 => 0
  | k + 1 => m + 256 * M m k
theorem and_byte {a b m q : Nat} (ha : a < 256) (hm : m < 256) : (a + 256 * b) &&& (m + 256 * q) = (a &&& m) + 256 * (b &&& q) := by
  have e1 : ((a + 256 * b) &&& (m + 256 * q)) % 2 ^ 8 = a &&& m := by
    rw [Nat.and_mod_two_pow]
    congr 1 <;> omega
  have e2 : ((a + 256 * b) &&& (m + 256 * q)) / 2 ^ 8 = b &&& q := by
    rw [Nat.and_div_two_pow]
    congr 1 <;> omega
  omega
def f1 (k x : Nat) : Nat := (x / 2 &&& M 85 k) + (x &&& M 85 k)
def f2 (k x : Nat) : Nat := (x / 4 &&& M 51 k) + (x &&& M 51 k)
def f3 (k x : Nat) : Nat := (x / 16 + x) &&& M 15 k
theorem d1 : ∀ a, a < 256 → ∀ c, c < 2 → (a / 2 + 128 * c) &&& 85 = a / 2 &&& 85 := by decide +kernel
theorem d2 : ∀ a, a < 256 → ∀ c, c < 4 → (a / 4 + 64 * c) &&& 51 = a / 4 &&& 51 := by decide +kernel
def g1 (a : Nat) : Nat := (a / 2 &&& 85) + (a &&& 85)
def g2 (a : Nat) : Nat := (a / 4 &&& 51) + (a &&& 51)
def g3 (a : Nat) : Nat := (a / 16 + a) % 16
theorem d3 : ∀ a, a < 256 → g1 a < 256 ∧ g2 (g1 a) < 256 ∧ g2 (g1 a) % 16 ≤ 4 ∧ g2 (g1 a) / 16 ≤ 4 ∧ g3 (g2 (g1 a)) = cb 8 a ∧ cb 8 a ≤ 8 := by decide +kernel
theorem f1_byte (k a b : Nat) (ha : a < 256) : f1 (k + 1) (a + 256 * b) = g1 a + 256 * f1 k b := by
  unfold f1 g1
  rw [show M 85 (k + 1) = 85 + 256 * M 85 k from rfl]
  rw [show (a + 256 * b) / 2 = (a / 2 + 128 * (b % 2)) + 256 * (b / 2) by omega, and_byte (by omega) (by omega), and_byte ha (by omega), d1 a ha (b % 2) (by omega)]
  omega
theorem f2_byte (k a b : Nat) (ha : a < 256) : f2 (k + 1) (a + 256 * b) = g2 a + 256 * f2 k b := by
  unfold f2 g2
  rw [show M 51 (k + 1) = 51 + 256 * M 51 k from rfl]
  rw [show (a + 256 * b) / 4 = (a / 4 + 64 * (b % 4)) + 256 * (b / 4) by omega, and_byte (by omega) (by omega), and_byte ha (by omega), d2 a ha (b % 4) (by omega)]
  omega
theorem f3_byte (k a b : Nat) (ha : a / 16 ≤ 4) (ha2 : a % 16 ≤ 4) (hb : b % 16 ≤ 4) : f3 (k + 1) (a + 256 * b) = g3 a + 256 * f3 k b := by
  unfold f3 g3
  rw [show M 15 (k + 1) = 15 + 256 * M 15 k from rfl]
  rw [show (a + 256 * b) / 16 + (a + 256 * b) = (a / 16 + 16 * (b % 16) + a) + 256 * (b / 16 + b) by omega, and_byte (by omega) (by omega)]
  rw [show (a / 16 + 16 * (b % 16) + a) &&& 15 = (a / 16 + 16 * (b % 16) + a) % 16 from Nat.and_two_pow_sub_one_eq_mod _ 4]
  omega
def h3 (k x : Nat) : Nat := f3 k (f2 k (f1 k x))
theorem low4 (k x : Nat) : f2 k (f1 k x) % 16 ≤ 4 := by
  cases k with
  | zero => simp [f1, f2, M]
  | succ k =>
    have e : x = x % 256 + 256 * (x / 256) := by omega
    have hd := d3 (x % 256) (by omega)
    rw [e, f1_byte _ _ _ (by omega), f2_byte _ _ _ hd.1]
    omega
theorem h3_byte (k a b : Nat) (ha : a < 256) : h3 (k + 1) (a + 256 * b) = cb 8 a + 256 * h3 k b := by
  have hd := d3 a ha
  unfold h3
  rw [f1_byte _ _ _ ha, f2_byte _ _ _ hd.1, f3_byte _ _ _ hd.2.2.2.1 hd.2.2.1 (low4 k b), hd.2.2.2.2.1]
def n6 (y : Nat) : Nat :=
  let y4 := y + y / 256
  let y5 := y4 + y4 / 65536
  (y5 + y5 / 4294967296) % 128
theorem n6_sum (a b c d e f g h : Nat) (ha : a ≤ 8) (hb : b ≤ 8) (hc : c ≤ 8) (hd : d ≤ 8) (he : e ≤ 8) (hf : f ≤ 8) (hg : g ≤ 8) (hh : h ≤ 8) :
    n6 (a + 256 * (b + 256 * (c + 256 * (d + 256 * (e + 256 * (f + 256 * (g + 256 * h))))))) = a + b + c + d + e + f + g + h := by
  unfold n6
  simp only
  rw [show (a + 256 * (b + 256 * (c + 256 * (d + 256 * (e + 256 * (f + 256 * (g + 256 * h))))))) / 256 = b + 256 * (c + 256 * (d + 256 * (e + 256 * (f + 256 * (g + 256 * h))))) by omega]
  rw [show a + 256 * (b + 256 * (c + 256 * (d + 256 * (e + 256 * (f + 256 * (g + 256 * h)))))) + (b + 256 * (c + 256 * (d + 256 * (e + 256 * (f + 256 * (g + 256 * h)))))) = (a + b + 256 * (b + c)) + 65536 * ((c + d + 256 * (d + e)) + 65536 * ((e + f + 256 * (f + g)) + 65536 * (g + h + 256 * h))) by omega]
  rw [show ((a + b + 256 * (b + c)) + 65536 * ((c + d + 256 * (d + e)) + 65536 * ((e + f + 256 * (f + g)) + 65536 * (g + h + 256 * h)))) / 65536 = (c + d + 256 * (d + e)) + 65536 * ((e + f + 256 * (f + g)) + 65536 * (g + h + 256 * h)) by omega]
  rw [show (a + b + 256 * (b + c)) + 65536 * ((c + d + 256 * (d + e)) + 65536 * ((e + f + 256 * (f + g)) + 65536 * (g + h + 256 * h))) + ((c + d + 256 * (d + e)) + 65536 * ((e + f + 256 * (f + g)) + 65536 * (g + h + 256 * h))) = (a + b + c + d + 256 * (b + c + d + e) + 65536 * ((c + d + e + f) + 256 * (d + e + f + g))) + 4294967296 * ((e + f + g + h + 256 * (f + g + h)) + 65536 * (g + h + 256 * h)) by omega]
  rw [show ((a + b + c + d + 256 * (b + c + d + e) + 65536 * ((c + d + e + f) + 256 * (d + e + f + g))) + 4294967296 * ((e + f + g + h + 256 * (f + g + h)) + 65536 * (g + h + 256 * h))) / 4294967296 = (e + f + g + h + 256 * (f + g + h)) + 65536 * (g + h + 256 * h) by omega]
  omega
theorem ones_nat (x : Nat) (hx : x < 18446744073709551616) : n6 (h3 8 x) = cs 64 x.testBit := by
  rw [← cb_cs]
  obtain ⟨a, b, c, d, e, f, g, h, hx, k⟩ : ∃ a b c d e f g h, x = a + 256 * (b + 256 * (c + 256 * (d + 256 * (e + 256 * (f + 256 * (g + 256 * h)))))) ∧ a < 256 ∧ b < 256 ∧ c < 256 ∧ d < 256 ∧ e < 256 ∧ f < 256 ∧ g < 256 ∧ h < 256 :=
    ⟨x % 256, x / 256 % 256, x / 65536 % 256, x / 16777216 % 256, x / 4294967296 % 256, x / 1099511627776 % 256, x / 281474976710656 % 256, x / 72057594037927936, by omega, by omega, by omega, by omega, by omega, by omega, by omega, by omega, by omega⟩
  obtain ⟨k1, k2, k3, k4, k5, k6, k7, k8⟩ := k
  have hb8 : ∀ (n a b : Nat), a < 256 → cb (8 + n) (a + 256 * b) = cb 8 a + cb n b := fun n a b ha => by
    rw [cb_add 8 n, show (a + 256 * b) % 2 ^ 8 = a by omega, show (a + 256 * b) / 2 ^ 8 = b by omega]
  rw [hx, h3_byte _ _ _ k1, h3_byte _ _ _ k2, h3_byte _ _ _ k3, h3_byte _ _ _ k4, h3_byte _ _ _ k5, h3_byte _ _ _ k6, h3_byte _ _ _ k7]
  rw [show h3 1 h = cb 8 h by have := h3_byte 0 h 0 k8; simpa [h3, f3, M] using this]
  rw [n6_sum _ _ _ _ _ _ _ _ (d3 a k1).2.2.2.2.2 (d3 b k2).2.2.2.2.2 (d3 c k3).2.2.2.2.2 (d3 d k4).2.2.2.2.2 (d3 e k5).2.2.2.2.2 (d3 f k6).2.2.2.2.2 (d3 g k7).2.2.2.2.2 (d3 h k8).2.2.2.2.2]
  rw [show (64 : Nat) = 8 + 56 from rfl, hb8 56 _ _ k1, show (56 : Nat) = 8 + 48 from rfl, hb8 48 _ _ k2, show (48 : Nat) = 8 + 40 from rfl, hb8 40 _ _ k3, show (40 : Nat) = 8 + 32 from rfl, hb8 32 _ _ k4, show (32 : Nat) = 8 + 24 from rfl, hb8 24 _ _ k5, show (24 : Nat) = 8 + 16 from rfl, hb8 16 _ _ k6, show (16 : Nat) = 8 + 8 from rfl, hb8 8 _ _ k7]
  omega
end Go.Proofs.YtkffmaeiplgjeaaGreatDoor.RfG
/- Plain: what is free, what lives, and what cells there are, of each kernel that comes of deeds. -/
namespace Go.Proofs.YtkffmaeiplgjeaaGreatDoor.RfJ
open Go.RowKit Go.Proofs.YtkffmaeiplgjeaaGreatDoor.Bv Go.Proofs.YtkffmaeiplgjeaaGreatDoor.VaSpec Go.Proofs.YtkffmaeiplgjeaaGreatDoor.Base Go.Proofs.YtkffmaeiplgjeaaGreatDoor.MemL Go.Proofs.YtkffmaeiplgjeaaGreatDoor.RegR Go.Proofs.YtkffmaeiplgjeaaGreatDoor.Ax Go.Proofs.YtkffmaeiplgjeaaGreatDoor.MemC Go.Proofs.YtkffmaeiplgjeaaGreatDoor.PutC Go.Proofs.YtkffmaeiplgjeaaGreatDoor.MemC3 Go.Proofs.YtkffmaeiplgjeaaGreatDoor.TzC Go.Proofs.YtkffmaeiplgjeaaGreatDoor.OkS Go.Proofs.YtkffmaeiplgjeaaGreatDoor.SpA Go.Proofs.YtkffmaeiplgjeaaGreatDoor.SpB Go.Proofs.YtkffmaeiplgjeaaGreatDoor.SpC Go.Proofs.YtkffmaeiplgjeaaGreatDoor.SpD Go.Proofs.YtkffmaeiplgjeaaGreatDoor.IterC Go.Proofs.YtkffmaeiplgjeaaGreatDoor.SpE Go.Proofs.YtkffmaeiplgjeaaGreatDoor.SpF Go.Proofs.YtkffmaeiplgjeaaGreatDoor.SpG Go.Proofs.YtkffmaeiplgjeaaGreatDoor.SpH Go.Proofs.YtkffmaeiplgjeaaGreatDoor.SpI Go.Proofs.YtkffmaeiplgjeaaGreatDoor.SpJ Go.Proofs.YtkffmaeiplgjeaaGreatDoor.SpK Go.Proofs.YtkffmaeiplgjeaaGreatDoor.SpN Go.Proofs.YtkffmaeiplgjeaaGreatDoor.RfP Go.Proofs.YtkffmaeiplgjeaaGreatDoor.RfQ Go.Proofs.YtkffmaeiplgjeaaGreatDoor.RfE Go.Proofs.YtkffmaeiplgjeaaGreatDoor.RfG
open Go.Proofs.YtkffmaeiplgjeaaGreatDoor.BitsC Go.Proofs.YtkffmaeiplgjeaaGreatDoor.PteSpec
set_option linter.unusedVariables false
set_option linter.unusedSimpArgs false
/-! ### bits and counts -/
def cnt (x : Int) : Nat := cs 64 (fun j => bitB x (j : Int))
theorem cnt_test (x : Int) (hx : U x) : cs 64 x.toNat.testBit = cnt x := by
  refine cs_congr 64 _ _ fun j _ => ?_
  rw [bitB_eq (by omega), ← BitVec.testBit_toNat, X_nat hx, Int.toNat_natCast]
theorem cnt_on {x i : Int} (hx : U x) (h0 : 0 ≤ i) (h1 : i < 64) (h : bitB x i = false) : cnt (setI x i 1 1) = cnt x + 1 := by
  obtain ⟨n, rfl⟩ := Int.eq_ofNat_of_zero_le h0
  refine cs_up (i := n) h ?_ (fun j hj => ?_) 64 (by omega)
  · rw [bit_set hx h0 h1 h0 h1, if_pos rfl]; rfl
  · by_cases hj2 : j < 64
    · rw [bit_set hx h0 h1 (by omega) (by omega), if_neg (by omega)]
    · rw [bitB_eq (by omega), bitB_eq (by omega)]
      rw [Int.toNat_natCast, BitVec.getLsbD_of_ge _ _ (by omega), BitVec.getLsbD_of_ge _ _ (by omega)]
theorem cnt_off {x i : Int} (hx : U x) (h0 : 0 ≤ i) (h1 : i < 64) (h : bitB x i = true) : cnt (setI x i 1 0) + 1 = cnt x := by
  obtain ⟨n, rfl⟩ := Int.eq_ofNat_of_zero_le h0
  refine (cs_up (i := n) ?_ h (fun j hj => ?_) 64 (by omega)).symm
  · rw [bit_set hx h0 h1 h0 h1, if_pos rfl]; rfl
  · by_cases hj2 : j < 64
    · rw [bit_set hx h0 h1 (by omega) (by omega), if_neg (by omega)]
    · rw [bitB_eq (by omega), bitB_eq (by omega)]
      rw [Int.toNat_natCast, BitVec.getLsbD_of_ge _ _ (by omega), BitVec.getLsbD_of_ge _ _ (by omega)]
theorem bit0_of (x i j : Int) (hx : U x) (h0 : 0 ≤ i) (h1 : i < 64) (hj : 0 ≤ j) (hj1 : j < 64) : bitB (setI x i 1 0) j = if j = i then false else bitB x j := by
  rw [bit_set hx h0 h1 hj hj1]; rfl
theorem bit1_of (x i j : Int) (hx : U x) (h0 : 0 ≤ i) (h1 : i < 64) (hj : 0 ≤ j) (hj1 : j < 64) : bitB (setI x i 1 1) j = if j = i then true else bitB x j := by
  rw [bit_set hx h0 h1 hj hj1]; rfl
theorem allI_bit (n : Int) (j : Int) (hj : 0 ≤ j) (hj1 : j < 64) (h0 : 0 ≤ n) : bitB (allI n) j = decide (j < n) := by
  rw [bitB_eq hj]
  unfold allI getI
  rw [X_B, getB_bit, show (0 : Int).toNat = 0 from rfl, Nat.zero_add, ones_bit _ (by omega), Bool.and_true]
  by_cases h : j < n
  · rw [decide_eq_true h, decide_eq_true (by omega)]
  · rw [decide_eq_false h, decide_eq_false (by omega)]
theorem eq_bits {x y : Int} (hx : U x) (hy : U y) (h : ∀ j : Nat, j < 64 → bitB x j = bitB y j) : x = y := by
  rw [← B_X hx, ← B_X hy]
  congr 1
  apply BitVec.eq_of_getLsbD_eq
  intro j hj
  have := h j hj
  rw [bitB_eq (by omega), bitB_eq (by omega), Int.toNat_natCast] at this
  exact this
theorem bit_high {x : Int} {n : Nat} (hx : U x) (h : x < 2 ^ n) (j : Nat) (hj : n ≤ j) : bitB x j = false := by
  rw [bitB_eq (by omega), Int.toNat_natCast]
  exact bits_of_lt (n := n) (by rw [X_nat hx]; exact (lt_int hx.1).1 h) j hj
theorem tz_all {n : Int} (h0 : 1 ≤ n) (h : n ≤ 64) : tzI (allI n) = 0 := by
  have l1 := allI_lt (n := n) (by omega) h
  have l2 := allI_ne h0 h
  have u := allI_U n
  have t := tz_fit u l1.2 l2
  rcases (by omega : tzI (allI n) = 0 ∨ 0 < tzI (allI n)) with e | e
  · exact e
  · have := low_under u l2 (Int.le_refl 0) e
    rw [allI_bit n 0 (by omega) (by omega) (by omega), decide_eq_true (by omega)] at this
    cases this
/-! ### who lives -/
def alv : List Sp → Nat
  | [] => 0
  | s :: l => (if s.live then 1 else 0) + alv l
theorem alv_app : ∀ (l : List Sp) (s : Sp), s.live = true → alv (l ++ [s]) = alv l + 1
  | [], s, h => by simp [alv, h]
  | x :: l, s, h => by simp only [List.cons_append, alv]; rw [alv_app l s h]; omega
theorem alv_set : ∀ (l : List Sp) (i : Nat) (s : Sp), l[i]? = some s → s.live = true → alv (l.set i zSp) + 1 = alv l
  | [], i, s, h, _ => by simp at h
  | x :: l, 0, s, h, hl => by
    simp at h; subst h
    simp only [List.set_cons_zero, alv, hl]
    simp [zSp]; omega
  | x :: l, i + 1, s, h, hl => by
    have := alv_set l i s (by simpa using h) hl
    simp only [List.set_cons_succ, alv]; omega
theorem alv_none : ∀ (l : List Sp), (∀ s ∈ l, s.live = false) → alv l = 0
  | [], _ => rfl
  | x :: l, h => by
    simp only [alv]
    rw [h x (by simp), alv_none l (fun s hs => h s (List.mem_cons_of_mem _ hs))]; rfl
/-! ### cells -/
theorem put_old : ∀ (xs : List (Int × Int)) (k v : Int) (c : Int × Int), c ∈ xs → c.1 ≠ k → c ∈ putM xs k v
  | [], k, v, c, h, _ => by cases h
  | x :: xs, k, v, c, h, hk => by
    simp only [putM]
    split
    · rcases List.mem_cons.1 h with rfl | h
      · simp
      · exact List.mem_cons_of_mem _ (put_old xs k v c h hk)
    · split
      · rename_i hx
        rcases List.mem_cons.1 h with rfl | h
        · exact absurd hx hk
        · split
          · exact h
          · exact List.mem_cons_of_mem _ h
      · split
        · exact h
        · exact List.mem_cons_of_mem _ h
theorem put_new : ∀ (xs : List (Int × Int)) (k v : Int), v ≠ 0 → (k, v) ∈ putM xs k v
  | [], k, v, h => by simp [putM, h]
  | x :: xs, k, v, h => by
    simp only [putM]
    split
    · exact List.mem_cons_of_mem _ (put_new xs k v h)
    · split <;> simp [h]
structure Inv2 (k : Kr) : Prop where
  sh : k.sh = k.cd
  p0 : bitB k.pf 0 = false
  lv : ∀ s ∈ k.ss, s.live = true → s.root ≠ k.cd ∧ s.asid ≤ k.ca ∧ bitB k.pf (s.root - k.cd) = false ∧ bitB k.af (s.asid - 1) = false ∧ (s.root * 512 + 511, 33 + 1024 * k.sh) ∈ k.m
  ap : ∀ (i j : Nat) (s t : Sp), k.ss[i]? = some s → k.ss[j]? = some t → i ≠ j → s.live = true → t.live = true → s.root ≠ t.root ∧ s.asid ≠ t.asid
  cl : ∀ c ∈ k.m, ∃ s ∈ k.ss, s.live = true ∧ c = (s.root * 512 + 511, 33 + 1024 * k.sh)
  np : (cnt k.pf : Int) + 1 + alv k.ss = k.cp
  na : (cnt k.af : Int) + alv k.ss = k.ca
theorem new_inv2 {a b c : Int} {n : Nat} (h : confB a b c n = true) : Inv2 (newK a b c n) := by
  obtain ⟨ha, hb, hc, hn⟩ := confB_iff.1 h
  have tz := tz_all (n := b) (by omega) (by omega)
  have e : (newK a b c n).pf = setI (allI b) 0 1 0 := by show setI (allI b) (tzI (allI b)) 1 0 = _; rw [tz]
  have cb : cnt (allI b) = b.toNat := by
    unfold cnt
    rw [cs_congr 64 _ (fun j => decide (j < b.toNat)) (fun j hj => by
      rw [allI_bit b j (by omega) (by omega) (by omega)]
      by_cases h : (j : Int) < b
      · rw [decide_eq_true h, decide_eq_true (by omega)]
      · rw [decide_eq_false h, decide_eq_false (by omega)]), cs_lt 64 _ (by omega)]
  have cc : cnt (allI c) = c.toNat := by
    unfold cnt
    rw [cs_congr 64 _ (fun j => decide (j < c.toNat)) (fun j hj => by
      rw [allI_bit c j (by omega) (by omega) (by omega)]
      by_cases h : (j : Int) < c
      · rw [decide_eq_true h, decide_eq_true (by omega)]
      · rw [decide_eq_false h, decide_eq_false (by omega)]), cs_lt 64 _ (by omega)]
  have co := cnt_off (x := allI b) (i := 0) (allI_U b) (by omega) (by omega) (by rw [allI_bit b 0 (by omega) (by omega) (by omega), decide_eq_true (by omega)])
  refine ⟨by show a + tzI (allI b) = a; rw [tz]; omega, ?_, fun s hs => (by cases hs), fun i j s t hs => (by simp [newK] at hs), fun c hc => (by cases hc), ?_, ?_⟩
  · rw [e, bit0_of _ _ _ (allI_U b) (by omega) (by omega) (by omega) (by omega), if_pos rfl]
  · rw [e]
    show (cnt (setI (allI b) 0 1 0) : Int) + 1 + ((0 : Nat) : Int) = b
    omega
  · show (cnt (allI c) : Int) + ((0 : Nat) : Int) = c
    omega
end Go.Proofs.YtkffmaeiplgjeaaGreatDoor.RfJ
/- Plain: deeds keep what is known of frames, numbers, spaces and cells. -/
namespace Go.Proofs.YtkffmaeiplgjeaaGreatDoor.RfK
open Go.RowKit Go.Proofs.YtkffmaeiplgjeaaGreatDoor.Bv Go.Proofs.YtkffmaeiplgjeaaGreatDoor.VaSpec Go.Proofs.YtkffmaeiplgjeaaGreatDoor.Base Go.Proofs.YtkffmaeiplgjeaaGreatDoor.MemL Go.Proofs.YtkffmaeiplgjeaaGreatDoor.RegR Go.Proofs.YtkffmaeiplgjeaaGreatDoor.Ax Go.Proofs.YtkffmaeiplgjeaaGreatDoor.MemC Go.Proofs.YtkffmaeiplgjeaaGreatDoor.PutC Go.Proofs.YtkffmaeiplgjeaaGreatDoor.MemC3 Go.Proofs.YtkffmaeiplgjeaaGreatDoor.TzC Go.Proofs.YtkffmaeiplgjeaaGreatDoor.OkS Go.Proofs.YtkffmaeiplgjeaaGreatDoor.SpA Go.Proofs.YtkffmaeiplgjeaaGreatDoor.SpB Go.Proofs.YtkffmaeiplgjeaaGreatDoor.SpC Go.Proofs.YtkffmaeiplgjeaaGreatDoor.SpD Go.Proofs.YtkffmaeiplgjeaaGreatDoor.IterC Go.Proofs.YtkffmaeiplgjeaaGreatDoor.SpE Go.Proofs.YtkffmaeiplgjeaaGreatDoor.SpF Go.Proofs.YtkffmaeiplgjeaaGreatDoor.SpG Go.Proofs.YtkffmaeiplgjeaaGreatDoor.SpH Go.Proofs.YtkffmaeiplgjeaaGreatDoor.SpI Go.Proofs.YtkffmaeiplgjeaaGreatDoor.SpJ Go.Proofs.YtkffmaeiplgjeaaGreatDoor.SpK Go.Proofs.YtkffmaeiplgjeaaGreatDoor.SpN Go.Proofs.YtkffmaeiplgjeaaGreatDoor.RfP Go.Proofs.YtkffmaeiplgjeaaGreatDoor.RfQ Go.Proofs.YtkffmaeiplgjeaaGreatDoor.RfE Go.Proofs.YtkffmaeiplgjeaaGreatDoor.RfG Go.Proofs.YtkffmaeiplgjeaaGreatDoor.RfJ
open Go.Proofs.YtkffmaeiplgjeaaGreatDoor.BitsC Go.Proofs.YtkffmaeiplgjeaaGreatDoor.PteSpec
set_option linter.unusedVariables false
set_option linter.unusedSimpArgs false
theorem create_inv2 {n : Nat} {k : Kr} (h : Inv n k) (g : Inv2 k) (ha : k.af ≠ 0) (hp : k.pf ≠ 0) : Inv2 (createK k) := by
  have c1 := h.cp
  have c2 := h.ca
  have hcd := h.cd
  have hpb := h.pb
  have hsh := h.sh
  have t1 := tz_fit h.upf h.pf.2 hp
  have t2 := tz_fit h.uaf h.af.2 ha
  have low1 := low_at h.upf hp
  have low2 := low_at h.uaf ha
  have tn0 : tzI k.pf ≠ 0 := fun e => by rw [e, g.p0] at low1; cases low1
  have hne : ∀ s ∈ k.ss, s.live = true → s.root ≠ k.pb + tzI k.pf ∧ s.asid ≠ tzI k.af + 1 := fun s hs hl => by
    obtain ⟨_, _, b1, b2, _⟩ := g.lv s hs hl
    refine ⟨fun e => ?_, fun e => ?_⟩
    · rw [show s.root - k.cd = tzI k.pf by omega, low1] at b1; cases b1
    · rw [show s.asid - 1 = tzI k.af by omega, low2] at b2; cases b2
  have hwm : TableC.wipeM k.m (k.pb + tzI k.pf) = k.m := by
    rw [wipe_filt _ _ h.m]
    refine List.filter_eq_self.2 fun c hc => ?_
    obtain ⟨s, hs, hl, rfl⟩ := g.cl c hc
    have := (hne s hs hl).1
    simp only [outB, Bool.or_eq_true, decide_eq_true_eq]
    omega
  have hm : (createK k).m = putM k.m (512 * (k.pb + tzI k.pf) + 511) (33 + 1024 * k.sh) := by
    show newM k = _
    rw [newM_is h hp, hwm]
  have hcells : ∀ s ∈ k.ss, s.live = true → (s.root * 512 + 511, 33 + 1024 * k.sh) ∈ (createK k).m := fun s hs hl => by
    rw [hm]
    refine put_old _ _ _ _ (g.lv s hs hl).2.2.2.2 ?_
    have := (hne s hs hl).1
    show s.root * 512 + 511 ≠ _; omega
  have hnew : (512 * (k.pb + tzI k.pf) + 511, 33 + 1024 * k.sh) ∈ (createK k).m := by rw [hm]; exact put_new _ _ _ (by omega)
  have hss : (createK k).ss = k.ss ++ [⟨k.pb + tzI k.pf, tzI k.af + 1, true⟩] := rfl
  have epf : (createK k).pf = setI k.pf (tzI k.pf) 1 0 := rfl
  have eaf : (createK k).af = setI k.af (tzI k.af) 1 0 := rfl
  have n1 := cnt_off h.upf t1.1 (by omega) low1
  have n2 := cnt_off h.uaf t2.1 (by omega) low2
  refine ⟨g.sh, ?_, fun s hs hl => ?_, fun i j s t hs ht hij hl hl' => ?_, fun c hc => ?_, ?_, ?_⟩
  · rw [epf, bit0_of _ _ _ h.upf t1.1 (by omega) (by omega) (by omega), if_neg (fun e => tn0 e.symm)]; exact g.p0
  · rw [hss] at hs
    rcases List.mem_append.1 hs with hs | hs
    · obtain ⟨a1, a2, a3, a4, a5⟩ := g.lv s hs hl
      obtain ⟨r1, r2⟩ := h.ss s hs hl
      refine ⟨a1, a2, ?_, ?_, hcells s hs hl⟩
      · show bitB (createK k).pf (s.root - k.cd) = false
        rw [epf, bit0_of _ _ _ h.upf t1.1 (by omega) (by omega) (by omega)]; split
        · rfl
        · exact a3
      · rw [eaf, bit0_of _ _ _ h.uaf t2.1 (by omega) (by omega) (by omega)]; split
        · rfl
        · exact a4
    · rw [List.mem_singleton.1 hs]
      refine ⟨by show k.pb + tzI k.pf ≠ k.cd; omega, by show tzI k.af + 1 ≤ k.ca; omega, ?_, ?_, ?_⟩
      · show bitB (createK k).pf (k.pb + tzI k.pf - k.cd) = false
        rw [show k.pb + tzI k.pf - k.cd = tzI k.pf by omega, epf, bit0_of _ _ _ h.upf t1.1 (by omega) (by omega) (by omega), if_pos rfl]
      · show bitB (createK k).af (tzI k.af + 1 - 1) = false
        rw [show tzI k.af + 1 - 1 = tzI k.af by omega, eaf, bit0_of _ _ _ h.uaf t2.1 (by omega) (by omega) (by omega), if_pos rfl]
      · show ((k.pb + tzI k.pf) * 512 + 511, 33 + 1024 * k.sh) ∈ _
        rw [show (k.pb + tzI k.pf) * 512 + 511 = 512 * (k.pb + tzI k.pf) + 511 by omega]; exact hnew
  · rw [hss] at hs ht
    have look : ∀ (i : Nat) (s : Sp), (k.ss ++ [(⟨k.pb + tzI k.pf, tzI k.af + 1, true⟩ : Sp)])[i]? = some s → (i < k.ss.length ∧ k.ss[i]? = some s) ∨ (i = k.ss.length ∧ s = ⟨k.pb + tzI k.pf, tzI k.af + 1, true⟩) := fun i s hs => by
      by_cases hi : i < k.ss.length
      · rw [List.getElem?_append_left hi] at hs; exact .inl ⟨hi, hs⟩
      · rw [List.getElem?_append_right (by omega)] at hs
        obtain ⟨d, hd⟩ : ∃ d, d = i - k.ss.length := ⟨_, rfl⟩
        rw [← hd] at hs
        cases d with
        | zero => simp at hs; exact .inr ⟨by omega, hs.symm⟩
        | succ d => simp at hs
    rcases look i s hs with ⟨_, hs⟩ | ⟨ei, es⟩
    · rcases look j t ht with ⟨_, ht⟩ | ⟨ej, et⟩
      · exact g.ap i j s t hs ht hij hl hl'
      · rw [et]; exact hne s (List.mem_of_getElem? hs) hl
    · rcases look j t ht with ⟨_, ht⟩ | ⟨ej, et⟩
      · rw [es]
        have := hne t (List.mem_of_getElem? ht) hl'
        exact ⟨fun e => this.1 e.symm, fun e => this.2 e.symm⟩
      · omega
  · rw [hm] at hc
    rcases putM_mem _ _ _ _ hc with hc | ⟨rfl, _⟩
    · obtain ⟨s, hs, hl, e⟩ := g.cl c hc
      exact ⟨s, by rw [hss]; exact List.mem_append_left _ hs, hl, e⟩
    · refine ⟨⟨k.pb + tzI k.pf, tzI k.af + 1, true⟩, by rw [hss]; simp, rfl, ?_⟩
      show (512 * (k.pb + tzI k.pf) + 511, _) = ((k.pb + tzI k.pf) * 512 + 511, _)
      rw [show 512 * (k.pb + tzI k.pf) + 511 = (k.pb + tzI k.pf) * 512 + 511 by omega]; rfl
  · have := g.np
    rw [epf, hss, alv_app _ _ rfl]
    show _ = k.cp
    omega
  · have := g.na
    rw [eaf, hss, alv_app _ _ rfl]
    show _ = k.ca
    omega
theorem destroy_inv2 {n : Nat} {k : Kr} {id : Int} (h : Inv n k) (g : Inv2 k) (hlv : livesB k id = true) : Inv2 (destroyK k id (spAt k id)) := by
  have c1 := h.cp
  have c2 := h.ca
  have hcd := h.cd
  have hpb := h.pb
  have hpm := h.pm
  have ham := h.am
  obtain ⟨y0, y1, y2, y3⟩ := lives_at hlv
  rw [destroyK_is h hlv]
  obtain ⟨s, hs⟩ : ∃ s, s = spAt k id := ⟨_, rfl⟩
  rw [← hs] at y2 y3 ⊢
  have hmem := List.mem_of_getElem? y2
  obtain ⟨r1, r2⟩ := h.ss s hmem y3
  obtain ⟨a1, a2, a3, a4, a5⟩ := g.lv s hmem y3
  have hpf : TableC2.giveF k.pb k.pm k.pf s.root = setI k.pf (s.root - k.cd) 1 1 := by
    unfold TableC2.giveF
    rw [if_pos, hpb]
    unfold PoolC.isP PoolC.inP
    rw [decide_eq_true (by omega), decide_eq_true (by omega), getI_bit _ _ (by omega), hpb, a3]; rfl
  have haf : giveA k.am k.af s.asid = setI k.af (s.asid - 1) 1 1 := by
    unfold giveA
    rw [if_pos]
    show (decide (1 ≤ s.asid) && decide (s.asid ≤ k.am) && !bitB k.af (s.asid - 1)) = true
    rw [decide_eq_true (by omega), decide_eq_true (by omega), a4]; rfl
  obtain ⟨k', hk'⟩ : ∃ k' : Kr, k' = { backK k s.root with af := giveA k.am k.af s.asid, ss := k.ss.set id.toNat zSp } := ⟨_, rfl⟩
  have epf : k'.pf = setI k.pf (s.root - k.cd) 1 1 := by rw [hk']; exact hpf
  have eaf : k'.af = setI k.af (s.asid - 1) 1 1 := by rw [hk']; exact haf
  have ess : k'.ss = k.ss.set id.toNat zSp := by rw [hk']
  have em : k'.m = k.m.filter (outB (s.root * 512) (s.root * 512 + 512)) := by rw [hk']; exact wipe_filt _ _ h.m
  have esh : k'.sh = k.sh := by rw [hk']; rfl
  have ecd : k'.cd = k.cd := by rw [hk']; rfl
  have ecp : k'.cp = k.cp := by rw [hk']; rfl
  have eca : k'.ca = k.ca := by rw [hk']; rfl
  rw [← hk']
  have old : ∀ (i : Nat) (t : Sp), k'.ss[i]? = some t → t.live = true → k.ss[i]? = some t ∧ i ≠ id.toNat := fun i t ht hl => by
    rw [ess] at ht
    by_cases e : id.toNat = i
    · subst e
      rw [List.getElem?_set_self (by omega)] at ht
      cases ht; cases hl
    · rw [List.getElem?_set_ne e] at ht; exact ⟨ht, fun e' => e e'.symm⟩
  have far : ∀ (i : Nat) (t : Sp), k'.ss[i]? = some t → t.live = true → t.root ≠ s.root ∧ t.asid ≠ s.asid := fun i t ht hl => by
    obtain ⟨h1, h2⟩ := old i t ht hl
    exact g.ap i id.toNat t s h1 y2 h2 hl y3
  have n1 := cnt_on h.upf (i := s.root - k.cd) (by omega) (by omega) a3
  have n2 := cnt_on h.uaf (i := s.asid - 1) (by omega) (by omega) a4
  refine ⟨by rw [esh, ecd]; exact g.sh, ?_, fun t ht hl => ?_, fun i j t u ht hu hij hl hl' => ?_, fun c hc => ?_, ?_, ?_⟩
  · rw [epf, bit1_of _ _ _ h.upf (by omega) (by omega) (by omega) (by omega), if_neg (by omega)]; exact g.p0
  · obtain ⟨i, hi⟩ := List.getElem?_of_mem ht
    obtain ⟨o1, o2⟩ := old i t hi hl
    obtain ⟨f1, f2⟩ := far i t hi hl
    have tm := List.mem_of_getElem? o1
    obtain ⟨b1, b2, b3, b4, b5⟩ := g.lv t tm hl
    obtain ⟨q1, q2⟩ := h.ss t tm hl
    rw [ecd, eca, esh]
    refine ⟨b1, b2, ?_, ?_, ?_⟩
    · rw [epf, bit1_of _ _ _ h.upf (by omega) (by omega) (by omega) (by omega), if_neg (by omega)]; exact b3
    · rw [eaf, bit1_of _ _ _ h.uaf (by omega) (by omega) (by omega) (by omega), if_neg (by omega)]; exact b4
    · rw [em]
      refine List.mem_filter.2 ⟨b5, ?_⟩
      simp only [outB, Bool.or_eq_true, decide_eq_true_eq]; omega
  · exact g.ap i j t u (old i t ht hl).1 (old j u hu hl').1 hij hl hl'
  · rw [em] at hc
    obtain ⟨hc, ho⟩ := List.mem_filter.1 hc
    obtain ⟨t, ht, hl, e⟩ := g.cl c hc
    obtain ⟨i, hi⟩ := List.getElem?_of_mem ht
    have hid : i ≠ id.toNat := fun e' => by
      subst e'
      rw [y2] at hi; cases hi
      rw [e] at ho
      simp only [outB, Bool.or_eq_true, decide_eq_true_eq] at ho; omega
    refine ⟨t, ?_, hl, by rw [esh]; exact e⟩
    rw [ess]
    refine List.mem_of_getElem? (i := i) ?_
    rw [List.getElem?_set_ne (fun e' => hid e'.symm)]; exact hi
  · have := g.np
    have ha := alv_set k.ss id.toNat s y2 y3
    rw [epf, ess, ecp]; omega
  · have := g.na
    have ha := alv_set k.ss id.toNat s y2 y3
    rw [eaf, ess, eca]; omega
/-! ### deeds -/
structure Cf (a b c : Int) (k : Kr) : Prop where
  cd : k.cd = a
  cp : k.cp = b
  ca : k.ca = c
theorem create_both {n : Nat} {k : Kr} (h : Inv n k) (g : Inv2 k) : Inv2 (createR k).1 := by
  unfold createR
  by_cases c1 : 32 ≤ k.ss.length
  · rw [if_pos c1]; exact g
  rw [if_neg c1]
  by_cases c2 : k.af = 0
  · rw [if_pos c2]; exact g
  rw [if_neg c2]
  by_cases c3 : k.pf = 0
  · rw [if_pos c3]; exact g
  rw [if_neg c3]
  have := create_inv2 h g c2 c3
  split
  · exact { sh := this.sh, p0 := this.p0, lv := this.lv, ap := this.ap, cl := this.cl, np := this.np, na := this.na }
  · exact this
theorem sw_inv2 {k : Kr} (id : Int) (g : Inv2 k) : Inv2 (switchR k id).1 := by
  unfold switchR
  split
  · exact { sh := g.sh, p0 := g.p0, lv := g.lv, ap := g.ap, cl := g.cl, np := g.np, na := g.na }
  · split
    · exact g
    · exact { sh := g.sh, p0 := g.p0, lv := g.lv, ap := g.ap, cl := g.cl, np := g.np, na := g.na }
theorem de_inv2 {n : Nat} {k : Kr} (id : Int) (h : Inv n k) (g : Inv2 k) : Inv2 (destroyR k id).1 := by
  unfold destroyR
  by_cases c1 : livesB k id = false
  · rw [if_pos c1]; exact g
  rw [if_neg c1]
  split
  · exact g
  · exact destroy_inv2 h g (by simpa using c1)
theorem do_inv2 {n : Nat} {k : Kr} {d : Int × Int} (h : Inv n k) (g : Inv2 k) : Inv2 (doR k d).1 := by
  unfold doR
  split
  · exact create_both h g
  · split
    · exact de_inv2 _ h g
    · exact sw_inv2 _ g
theorem do_cf {a b c : Int} {k : Kr} {d : Int × Int} (h : Cf a b c k) : Cf a b c (doR k d).1 := by
  have cr : Cf a b c (createR k).1 := by
    unfold createR
    repeat (first | exact h | (split; · exact ⟨h.cd, h.cp, h.ca⟩) | exact ⟨h.cd, h.cp, h.ca⟩)
  have de : ∀ id, Cf a b c (destroyR k id).1 := fun id => by
    unfold destroyR
    repeat (first | exact h | (split; · exact ⟨h.cd, h.cp, h.ca⟩) | exact ⟨h.cd, h.cp, h.ca⟩)
  have sw : ∀ id, Cf a b c (switchR k id).1 := fun id => by
    unfold switchR
    repeat (first | exact h | (split; · exact ⟨h.cd, h.cp, h.ca⟩) | exact ⟨h.cd, h.cp, h.ca⟩)
  unfold doR
  split
  · exact cr
  · split
    · exact de _
    · exact sw _
theorem do_err {k : Kr} {d : Int × Int} (h : (doR k d).2.2 ≠ 0) : (doR k d).1 = k := by
  have cr : (createR k).2.2 ≠ 0 → (createR k).1 = k := by
    unfold createR
    intro h
    by_cases c1 : 32 ≤ k.ss.length
    · rw [if_pos c1]
    rw [if_neg c1] at h ⊢
    by_cases c2 : k.af = 0
    · rw [if_pos c2]
    rw [if_neg c2] at h ⊢
    by_cases c3 : k.pf = 0
    · rw [if_pos c3]
    rw [if_neg c3] at h
    split at h <;> exact absurd rfl h
  have de : ∀ id, (destroyR k id).2 ≠ 0 → (destroyR k id).1 = k := fun id => by
    unfold destroyR
    intro h
    by_cases c1 : livesB k id = false
    · rw [if_pos c1]
    rw [if_neg c1] at h ⊢
    by_cases c2 : id = k.now
    · rw [if_pos c2]
    rw [if_neg c2] at h
    exact absurd rfl h
  have sw : ∀ id, (switchR k id).2 ≠ 0 → (switchR k id).1 = k := fun id => by
    unfold switchR
    intro h
    by_cases c1 : id = -1
    · rw [if_pos c1] at h; exact absurd rfl h
    rw [if_neg c1] at h ⊢
    by_cases c2 : livesB k id = false
    · rw [if_pos c2]
    rw [if_neg c2] at h
    exact absurd rfl h
  unfold doR at h ⊢
  by_cases c1 : d.1 % 3 = 0
  · rw [if_pos c1] at h ⊢; exact cr h
  rw [if_neg c1] at h ⊢
  by_cases c2 : d.1 % 3 = 1
  · rw [if_pos c2] at h ⊢; exact de _ h
  rw [if_neg c2] at h ⊢
  exact sw _ h
/-! ### the end -/
theorem all_free {n : Nat} {k : Kr} {a b c : Int} {m : Nat} (h : Inv n k) (g : Inv2 k) (f : Cf a b c k) (hc : confB a b c m = true) (hd : ∀ s ∈ k.ss, s.live = false) : k.pf = (newK a b c m).pf ∧ k.af = (newK a b c m).af ∧ k.m = [] := by
  have h0 := new_inv hc
  have g0 := new_inv2 hc
  have z := alv_none k.ss hd
  have n1 := g.np
  have n2 := g.na
  have m1 := g0.np
  have m2 := g0.na
  have e1 : (newK a b c m).cp = b := rfl
  have e2 : (newK a b c m).ca = c := rfl
  have e3 : alv (newK a b c m).ss = 0 := rfl
  have f1 := f.cp
  have f2 := f.ca
  have c1 := h.cp
  have c2 := h.ca
  have pin : ∀ (k : Kr) (n : Nat), Inv n k → Inv2 k → (cnt k.pf : Int) + 1 = k.cp → ∀ j : Nat, j < 64 → bitB k.pf j = (decide (j < k.cp.toNat) && decide (j ≠ 0)) := fun k n h g e => by
    have c1 := h.cp
    refine cs_eq 64 _ _ (fun j hj hb => ?_) ?_
    · have h1 : j < k.cp.toNat := by
        rcases Nat.lt_or_ge j k.cp.toNat with h' | h'
        · exact h'
        · rw [bit_high h.upf h.pf.2 j h'] at hb; cases hb
      have h2 : j ≠ 0 := fun e => by
        subst e
        have hb : bitB k.pf 0 = true := hb
        rw [g.p0] at hb; cases hb
      simp [h1, h2]
    · rw [cs_lt0 64 _ (by omega) (by omega)]
      show cnt k.pf = _
      omega
  have ain : ∀ (k : Kr) (n : Nat), Inv n k → (cnt k.af : Int) = k.ca → ∀ j : Nat, j < 64 → bitB k.af j = decide (j < k.ca.toNat) := fun k n h e => by
    have c2 := h.ca
    refine cs_eq 64 _ _ (fun j hj hb => ?_) ?_
    · have h1 : j < k.ca.toNat := by
        rcases Nat.lt_or_ge j k.ca.toNat with h' | h'
        · exact h'
        · rw [bit_high h.uaf h.af.2 j h'] at hb; cases hb
      simp [h1]
    · rw [cs_lt 64 _ (by omega)]
      show cnt k.af = _
      omega
  refine ⟨eq_bits h.upf h0.upf fun j hj => ?_, eq_bits h.uaf h0.uaf fun j hj => ?_, ?_⟩
  · rw [pin k n h g (by omega) j hj, pin _ _ h0 g0 (by omega) j hj, f1, e1]
  · rw [ain k n h (by omega) j hj, ain _ _ h0 (by omega) j hj, f2, e2]
  · cases hm : k.m with
    | nil => rfl
    | cons x l =>
      obtain ⟨s, hs, hl, _⟩ := g.cl x (by rw [hm]; simp)
      rw [hd s hs] at hl; cases hl
end Go.Proofs.YtkffmaeiplgjeaaGreatDoor.RfK
/- The walk: how many bits are set. -/
namespace Go.Proofs.YtkffmaeiplgjeaaGreatDoor.RfH
open Go.RowKit Go.Proofs.YtkffmaeiplgjeaaGreatDoor.Bv Go.Proofs.YtkffmaeiplgjeaaGreatDoor.VaSpec Go.Proofs.YtkffmaeiplgjeaaGreatDoor.Base Go.Proofs.YtkffmaeiplgjeaaGreatDoor.BitsC Go.Proofs.YtkffmaeiplgjeaaGreatDoor.SpI Go.Proofs.YtkffmaeiplgjeaaGreatDoor.RfP Go.Proofs.YtkffmaeiplgjeaaGreatDoor.RfG
set_option linter.unusedVariables false
set_option linter.unusedSimpArgs false
def andI (a b : Int) : Int := Go.bits .and .u64 a b
def o1 (x : Int) : Int := IntKind.u64.wrap (andI (x / 2) 6148914691236517205 + andI x 6148914691236517205)
def o2 (y : Int) : Int := IntKind.u64.wrap (andI (y / 4) 3689348814741910323 + andI y 3689348814741910323)
def o3 (y : Int) : Int := andI (IntKind.u64.wrap (y / 16 + y)) 1085102592571150095
def o4 (y : Int) : Int := IntKind.u64.wrap (y + y / 256)
def o5 (y : Int) : Int := IntKind.u64.wrap (y + y / 65536)
def o6 (y : Int) : Int := IntKind.u64.wrap (y + y / 4294967296)
def onesX (x : Int) : Int := Go.bits .and .i64 (wrap64 (o6 (o5 (o4 (o3 (o2 (o1 x))))))) 127
theorem and_nat {a b : Nat} (ha : a < 18446744073709551616) (hb : b < 18446744073709551616) : andI a b = ((a &&& b : Nat) : Int) := by
  have e1 : (a : Int) = B (BitVec.ofNat 64 a) := by unfold B; rw [BitVec.toNat_ofNat]; omega
  have e2 : (b : Int) = B (BitVec.ofNat 64 b) := by unfold B; rw [BitVec.toNat_ofNat]; omega
  unfold andI
  rw [e1, e2, and_B]
  unfold B
  rw [BitVec.toNat_and, BitVec.toNat_ofNat, BitVec.toNat_ofNat, Nat.mod_eq_of_lt (show a < 2 ^ 64 by omega), Nat.mod_eq_of_lt (show b < 2 ^ 64 by omega)]
theorem and_127 {a : Nat} (ha : a < 9223372036854775808) : Go.bits .and .i64 (a : Int) 127 = ((a % 128 : Nat) : Int) := by
  have e : (BitVec.ofInt (IntKind.bits .i64) (a : Int) &&& BitVec.ofInt (IntKind.bits .i64) 127).toNat = a % 128 := by
    rw [show IntKind.bits .i64 = 64 from rfl, BitVec.toNat_and, BitVec.ofInt_natCast, BitVec.toNat_ofNat, Nat.mod_eq_of_lt (show a < 2 ^ 64 by omega)]
    exact Nat.and_two_pow_sub_one_eq_mod a 7
  show IntKind.i64.wrap _ = _
  rw [e, IntKind.wrap_i64]; omega
theorem wr {a : Nat} (h : a < 18446744073709551616) : IntKind.u64.wrap (a : Int) = a := wrap_nat a h
theorem onesX_is (x : Int) (hx : U x) : onesX x = (cs 64 x.toNat.testBit : Nat) := by
  obtain ⟨n, rfl⟩ := Int.eq_ofNat_of_zero_le hx.1
  have hn : n < 18446744073709551616 := by have := hx.2; omega
  rw [Int.toNat_natCast, ← ones_nat n hn]
  have a1 : n / 2 &&& 6148914691236517205 ≤ 6148914691236517205 := Nat.and_le_right
  have a2 : n &&& 6148914691236517205 ≤ 6148914691236517205 := Nat.and_le_right
  have s1 : o1 n = (f1 8 n : Nat) := by
    unfold o1
    rw [show ((n : Int) / 2) = ((n / 2 : Nat) : Int) by omega, show (6148914691236517205 : Int) = ((6148914691236517205 : Nat) : Int) from rfl, and_nat (by omega) (by omega), and_nat hn (by omega), ← Int.natCast_add, wr (by omega)]
    rfl
  have b1 : f1 8 n ≤ 12297829382473034410 := by show (n / 2 &&& 6148914691236517205) + (n &&& 6148914691236517205) ≤ _; omega
  have a3 : f1 8 n / 4 &&& 3689348814741910323 ≤ 3689348814741910323 := Nat.and_le_right
  have a4 : f1 8 n &&& 3689348814741910323 ≤ 3689348814741910323 := Nat.and_le_right
  have s2 : o2 (f1 8 n : Nat) = (f2 8 (f1 8 n) : Nat) := by
    unfold o2
    rw [show (((f1 8 n : Nat) : Int) / 4) = ((f1 8 n / 4 : Nat) : Int) by omega, show (3689348814741910323 : Int) = ((3689348814741910323 : Nat) : Int) from rfl, and_nat (by omega) (by omega), and_nat (by omega) (by omega), ← Int.natCast_add, wr (by omega)]
    rfl
  have b2 : f2 8 (f1 8 n) ≤ 7378697629483820646 := by show (f1 8 n / 4 &&& 3689348814741910323) + (f1 8 n &&& 3689348814741910323) ≤ _; omega
  have s3 : o3 (f2 8 (f1 8 n) : Nat) = (h3 8 n : Nat) := by
    unfold o3
    rw [show (((f2 8 (f1 8 n) : Nat) : Int) / 16 + ((f2 8 (f1 8 n) : Nat) : Int)) = ((f2 8 (f1 8 n) / 16 + f2 8 (f1 8 n) : Nat) : Int) by omega, wr (by omega), show (1085102592571150095 : Int) = ((1085102592571150095 : Nat) : Int) from rfl, and_nat (by omega) (by omega)]
    rfl
  have b3 : h3 8 n ≤ 1085102592571150095 := Nat.and_le_right
  unfold onesX
  rw [s1, s2, s3]
  generalize h3 8 n = y at b3
  have s4 : o4 y = ((y + y / 256 : Nat) : Int) := by
    unfold o4
    rw [show ((y : Int) + (y : Int) / 256) = ((y + y / 256 : Nat) : Int) by omega, wr (by omega)]
  rw [s4]
  unfold n6
  simp only
  have b4 : y + y / 256 ≤ 1089341274573381150 := by omega
  generalize y + y / 256 = y4 at b4
  have s5 : o5 y4 = ((y4 + y4 / 65536 : Nat) : Int) := by
    unfold o5
    rw [show ((y4 : Int) + (y4 : Int) / 65536) = ((y4 + y4 / 65536 : Nat) : Int) by omega, wr (by omega)]
  rw [s5]
  have b5 : y4 + y4 / 65536 ≤ 1089357896602106940 := by omega
  generalize y4 + y4 / 65536 = y5 at b5
  have s6 : o6 y5 = ((y5 + y5 / 4294967296 : Nat) : Int) := by
    unfold o6
    rw [show ((y5 : Int) + (y5 : Int) / 4294967296) = ((y5 + y5 / 4294967296 : Nat) : Int) by omega, wr (by omega)]
  rw [s6]
  have b6 : y5 + y5 / 4294967296 < 9223372036854775808 := by omega
  generalize y5 + y5 / 4294967296 = y6 at b6
  rw [show wrap64 (y6 : Int) = y6 by unfold wrap64; omega, and_127 b6]
theorem ones_calls (x : Int) (W : World) (hx : U x) : Calls Tryz.prog 52 #[.int .u64 x] W fun e w' => e = .returned (.int .i64 (cs 64 x.toNat.testBit)) ∧ Q W w' := by
  have H := Lib.hid (onesX_is x hx)
  go_enter Tryz.func52, Tryz.ntmps52
  go_wp2
  go_ret
  refine ⟨?_, by repeat (first | exact Q.refl _ | apply Q.step)⟩
  rw [← H.out]
  rfl
end Go.Proofs.YtkffmaeiplgjeaaGreatDoor.RfH
