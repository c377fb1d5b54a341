/- What the functions of the layer pte answer, in plain data. No program here. -/
import Derived.Test.YtjgnckhbafgalaaDoorVaSpec
namespace Go.Proofs.YtjgnckhbafgalaaDoor.PteSpec
open Go.RowKit Go.Proofs.YtjgnckhbafgalaaDoor.Bv Go.Proofs.YtjgnckhbafgalaaDoor.VaSpec
set_option linter.unusedVariables false
set_option linter.unusedSimpArgs false
structure Perm where
  r : Bool
  w : Bool
  x : Bool
  u : Bool
deriving DecidableEq
structure Pte where
  v : Bool
  r : Bool
  w : Bool
  x : Bool
  u : Bool
  g : Bool
  a : Bool
  d : Bool
  rsw : Int
  ppn : Int
  high : Int
deriving DecidableEq
def Pte.U (p : Pte) : Prop := (0 ≤ p.rsw ∧ p.rsw < 18446744073709551616) ∧ (0 ≤ p.ppn ∧ p.ppn < 18446744073709551616) ∧ (0 ≤ p.high ∧ p.high < 18446744073709551616)
def mayP (p : Pte) : Bool := decide (p.rsw < 4) && decide (p.ppn < 17592186044416) && decide (p.high < 1024)
def low8 (p : Pte) : Int := bI p.v + bI p.r * 2 + bI p.w * 4 + bI p.x * 8 + bI p.u * 16 + bI p.g * 32 + bI p.a * 64 + bI p.d * 128
def word (p : Pte) : Int := low8 p + p.rsw * 256 + p.ppn * 1024 + p.high * 18014398509481984
def bitI (a i : Int) : Bool := a / 2 ^ i.toNat % 2 == 1
def pteOf (a : Int) : Pte := ⟨bitI a 0, bitI a 1, bitI a 2, bitI a 3, bitI a 4, bitI a 5, bitI a 6, bitI a 7, a / 256 % 4, a / 1024 % 17592186044416, a / 18014398509481984⟩
def leafP (p : Pte) : Bool := p.v && (p.r || p.x)
def linkP (p : Pte) : Bool := p.v && !p.r && !p.x
def badP (p : Pte) (l : Int) : Bool :=
  if !p.v || p.w && !p.r || p.high != 0 then true
  else if linkP p then l == 0 || p.a || p.d || p.u
  else !(p.ppn % (sz l / 4096) == 0)
def makeP (f : Int) (q : Perm) (g : Bool) : Pte := ⟨true, q.r, q.w, q.x, q.u, g, false, false, 0, f, 0⟩
def permP (p : Pte) : Perm := ⟨p.r, p.w, p.x, p.u⟩
theorem low8_bd (p : Pte) : 0 ≤ low8 p ∧ low8 p < 256 := by
  unfold low8
  have := bI_bd p.v; have := bI_bd p.r; have := bI_bd p.w; have := bI_bd p.x; have := bI_bd p.u; have := bI_bd p.g; have := bI_bd p.a; have := bI_bd p.d
  omega
theorem mayP_iff (p : Pte) : mayP p = true ↔ p.rsw < 4 ∧ p.ppn < 17592186044416 ∧ p.high < 1024 := by
  unfold mayP; simp [and_assoc]
theorem word_bd (p : Pte) (h : p.U) (hm : mayP p = true) : 0 ≤ word p ∧ word p < 18446744073709551616 := by
  rw [mayP_iff] at hm; have := low8_bd p; unfold Pte.U at h; unfold word; omega
theorem pteOf_U (a : Int) (h0 : 0 ≤ a) (h1 : a < 18446744073709551616) : (pteOf a).U := by unfold Pte.U pteOf; simp only; omega
theorem pteOf_may (a : Int) (h0 : 0 ≤ a) (h1 : a < 18446744073709551616) : mayP (pteOf a) = true := by rw [mayP_iff]; unfold pteOf; simp only; omega
theorem bI_bitI (a : Int) (i : Nat) (h0 : 0 ≤ a) : bI (bitI a i) = a / 2 ^ i % 2 := by
  unfold bI bitI; rw [Int.toNat_natCast]
  by_cases h : a / 2 ^ i % 2 = 1
  · simp [h]
  · have : a / 2 ^ i % 2 = 0 := by omega
    simp [this]
theorem word_pteOf (a : Int) (h0 : 0 ≤ a) (h1 : a < 18446744073709551616) : word (pteOf a) = a := by
  have e : ∀ i : Nat, bI (bitI a i) = a / 2 ^ i % 2 := fun i => bI_bitI a i h0
  have e0 := e 0; have e1 := e 1; have e2 := e 2; have e3 := e 3; have e4 := e 4; have e5 := e 5; have e6 := e 6; have e7 := e 7
  unfold word low8 pteOf
  simp only
  rw [show (bitI a 0) = bitI a ((0 : Nat) : Int) from rfl, show (bitI a 1) = bitI a ((1 : Nat) : Int) from rfl, show (bitI a 2) = bitI a ((2 : Nat) : Int) from rfl, show (bitI a 3) = bitI a ((3 : Nat) : Int) from rfl, show (bitI a 4) = bitI a ((4 : Nat) : Int) from rfl, show (bitI a 5) = bitI a ((5 : Nat) : Int) from rfl, show (bitI a 6) = bitI a ((6 : Nat) : Int) from rfl, show (bitI a 7) = bitI a ((7 : Nat) : Int) from rfl]
  rw [e 0, e 1, e 2, e 3, e 4, e 5, e 6, e 7]
  clear e e0 e1 e2 e3 e4 e5 e6 e7
  omega
theorem pteOf_word (p : Pte) (h : p.U) (hm : mayP p = true) : pteOf (word p) = p := by
  rw [mayP_iff] at hm
  obtain ⟨v, r, w, x, u, g, a, d, rsw, ppn, high⟩ := p
  unfold Pte.U at h; unfold word low8 pteOf
  simp only at *
  have q0 := bI_bd v; have q1 := bI_bd r; have q2 := bI_bd w; have q3 := bI_bd x; have q4 := bI_bd u; have q5 := bI_bd g; have q6 := bI_bd a; have q7 := bI_bd d
  have key : ∀ (b : Bool) (i : Nat) (n : Int), n / 2 ^ i % 2 = bI b → bitI n i = b := by
    intro b i n h; unfold bitI; rw [Int.toNat_natCast, h]; cases b <;> rfl
  have k0 := key v 0; have k1 := key r 1; have k2 := key w 2; have k3 := key x 3; have k4 := key u 4; have k5 := key g 5; have k6 := key a 6; have k7 := key d 7
  rw [Pte.mk.injEq]
  refine ⟨k0 _ ?_, k1 _ ?_, k2 _ ?_, k3 _ ?_, k4 _ ?_, k5 _ ?_, k6 _ ?_, k7 _ ?_, ?_, ?_, ?_⟩ <;> omega
end Go.Proofs.YtjgnckhbafgalaaDoor.PteSpec
