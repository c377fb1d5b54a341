/- Texts of this claim, one behind the other: TlbNewC, VaC, PteSpec, PteC, PteC2, PteC3, PteC4, CloneSpace, GrowSpace, ConcatSpace. -/
import Derived.Test.YtkffmaeiplgjeaaDoorM9
import Derived.Test.YtkffmaeiplgjeaaDoorM7
import Derived.Laws.OwnMore
import Derived.Test.YtkffmaeiplgjeaaDoorM6
import Derived.Outline
import Derived.StillTailTactics
import Derived.Test.YtkffmaeiplgjeaaDoorM1
import Derived.Lib.SliceRun
import Derived.Test.YtkffmaeiplgjeaaDoorM2
import Derived.Lib.AppendZerosOnto
import Derived.Lib.Walk
import Derived.Laws.AppendOwnNone
/- The contract of tlb.New, where the number of sets may be. -/
namespace Go.Proofs.YtkffmaeiplgjeaaDoor.TlbNewC
open Go.RowKit Go.Proofs.YtkffmaeiplgjeaaDoor.Bv Go.Proofs.YtkffmaeiplgjeaaDoor.Base Go.Proofs.YtkffmaeiplgjeaaDoor.MemL
set_option linter.unusedVariables false
set_option linter.unusedSimpArgs false
theorem infoS : ∃ i z, Tryd.prog.info? 139 = some i ∧ i.zero = some z ∧ i.size = 45 ∧ i.bytes = 232 := by
  have h : (Tryd.prog.info? 139).map (fun i => (i.zero.isSome, i.size, i.bytes)) = some (true, 45, 232) := by kernel_rfl
  cases hi : Tryd.prog.info? 139 with
  | none => rw [hi] at h; simp at h
  | some i =>
    rw [hi] at h
    simp at h
    obtain ⟨h1, h2, h3⟩ := h
    cases hz : i.zero with
    | none => rw [hz] at h1; simp at h1
    | some z => exact ⟨i, z, rfl, hz, h2, h3⟩
set_option maxHeartbeats 2000000 in
set_option maxRecDepth 100000 in
theorem new_calls (n : Nat) (W : World) (hn : n ≤ 16) (z : Value) (hz : (Tryd.prog.info? 139).bind (·.zero) = some z) :
    Calls Tryd.prog 23 #[.int .i64 n] W fun e w' => ∃ a c, e = .returned (.tuple #[.agg #[.slice a n c], .int .i64 0]) ∧ w'.ownsRow W.heap.size 139 45 (.slice a n c) n (madeCells z.cells (n * 45)).toList ∧ Below W.heap.size W w' := by
  obtain ⟨i, z', hi, hz0, hsz, hby⟩ := infoS
  rw [hi] at hz
  simp only [Option.bind_some] at hz
  have X0 : Bx (W.alloc (.cells #[.slice none 0 0] 33)) W.heap.size #[.slice none 0 0] := Bx.new
  have hs1 : (W.alloc (.cells #[.slice none 0 0] 33)).heap.size = W.heap.size + 1 := by rw [World.size_alloc]
  obtain ⟨w1, hrun, hown, hgrow⟩ := run_make_full (P := Tryd.prog) (W.alloc (.cells #[.slice none 0 0] 33)) (W.heap.size + 1) 31 139 i z 45 Tryd.underlying31 hi hz hsz .i64 .i64 n (by rw [hby]; omega) (by unfold maxLen; omega) (by omega)
  rw [hs1] at hown hrun
  have d1 : decide ((n : Int) < 0) = false := by simp
  have d2 : decide ((16 : Int) < n) = false := by simp; omega
  have B1 : Below W.heap.size W w1 := (bel_alloc (Below.refl _ _) _).grown hgrow (by omega) (fun k hk => by simp at hk)
  have Y0 := X0.of_below ((Below.refl (W.heap.size + 1) (W.alloc (.cells #[.slice none 0 0] 33))).grown hgrow (by omega) (fun k hk => by simp at hk)) (by omega)
  have f0 := Y0.free
  have q0 : w1.cell? ⟨W.heap.size, 0, none⟩ = some (.slice none 0 0) := Y0.cell 0
  go_enter Tryd.func23, Tryd.ntmps23
  go_wp2
  refine bodyPost_ret (v := .tuple #[.agg #[.slice (some ⟨W.heap.size + 1, 0, none⟩) n n], .int .i64 0]) (by simp [results, Tryd.results23, go_sem, q0]) rfl ⟨_, _, rfl, ?_, ?_⟩
  · exact PutC.owns_le (by omega) (PutC.owns_down hown W.heap.size 0 (by omega) _)
  · exact bel_setCell _ _ _ (Nat.le_refl _) B1
end Go.Proofs.YtkffmaeiplgjeaaDoor.TlbNewC
/- The contracts of the layer va: each call comes to the plain number of VaSpec, where the table of sizes reads as the program's text lays it. -/
namespace Go.Proofs.YtkffmaeiplgjeaaDoor.VaC
open Go.RowKit Go.Proofs.YtkffmaeiplgjeaaDoor.Bv Go.Proofs.YtkffmaeiplgjeaaDoor.VaSpec Go.Proofs.YtkffmaeiplgjeaaDoor.Base Go.Proofs.YtkffmaeiplgjeaaDoor.BitsC
set_option linter.unusedVariables false
set_option linter.unusedSimpArgs false
theorem size_calls (l : Int) (w : World) (h0 : 0 ≤ l) (h2 : l ≤ 2) (hG : G w) : Calls Tryd.prog 91 #[.int .i64 l] w fun e w' => e = .returned (.int .u64 (sz l)) ∧ Q w w' := by
  obtain ⟨t0, t1, t2⟩ := hG.tabS
  rcases lev h0 h2 with rfl | rfl | rfl
  all_goals
    go_enter Tryd.func91, Tryd.ntmps91
    go_wp2
    go_ret
    exact ⟨rfl, Q.refl _⟩
theorem off_calls (a l : Int) (w : World) (a0 : 0 ≤ a) (a1 : a < 18446744073709551616) (h0 : 0 ≤ l) (h2 : l ≤ 2) (hG : G w) : Calls Tryd.prog 61 #[.int .u64 a, .int .i64 l] w fun e w' => e = .returned (.int .u64 (off a l)) ∧ Q w w' := by
  have m0 := Lib.hid (andMask a 12 (by decide) a0 a1)
  have m1 := Lib.hid (andMask a 21 (by decide) a0 a1)
  have m2 := Lib.hid (andMask a 30 (by decide) a0 a1)
  obtain ⟨t0, t1, t2⟩ := hG.tabS
  rcases lev h0 h2 with rfl | rfl | rfl
  all_goals
    go_enter Tryd.func61, Tryd.ntmps61
    go_wp2
    go_ret
    refine ⟨?_, Q.refl _⟩
  · exact congrArg (fun z => Ending.returned (.int .u64 z)) m0.out
  · exact congrArg (fun z => Ending.returned (.int .u64 z)) m1.out
  · exact congrArg (fun z => Ending.returned (.int .u64 z)) m2.out
theorem off_bd (a l : Int) (a0 : 0 ≤ a) : 0 ≤ off a l ∧ off a l < sz l ∧ off a l ≤ a := by
  have := sz_pos l
  unfold off
  refine ⟨Int.emod_nonneg _ (sz_ne l), Int.emod_lt_of_pos _ this, ?_⟩
  have h1 := Int.mul_ediv_add_emod a (sz l)
  have h2 : 0 ≤ sz l * (a / sz l) := Int.mul_nonneg (by omega) (Int.ediv_nonneg a0 (by omega))
  omega
theorem base_calls (a l : Int) (w : World) (a0 : 0 ≤ a) (a1 : a < 18446744073709551616) (h0 : 0 ≤ l) (h2 : l ≤ 2) (hG : G w) : Calls Tryd.prog 123 #[.int .u64 a, .int .i64 l] w fun e w' => e = .returned (.int .u64 (base a l)) ∧ Q w w' := by
  obtain ⟨b0, b1, b2⟩ := off_bd a l a0
  have hw := Lib.hid (show IntKind.u64.wrap (a - off a l) = a - off a l by rw [wrap_u64]; omega)
  clear b0 b1 b2
  go_enter Tryd.func123, Tryd.ntmps123
  go_wp2_with (go_at_call 61; refine (off_calls a l _ a0 a1 h0 h2 ?_).mono ?_; exact hG; rintro e w' ⟨rfl, ⟨nd, rfl⟩⟩)
  go_ret
  refine ⟨?_, by repeat (first | exact Q.refl _ | apply Q.step)⟩
  exact congrArg (fun z => Ending.returned (.int .u64 z)) (by first | exact hw.out | rfl)
theorem ext39_sign (a : Int) (h : U a) : signI a 39 = ext39 (a % 549755813888) := by
  unfold signI; rw [show (39 : Int).toNat = 39 from rfl, signB_39, B_X h]
theorem is_calls (a : Int) (w : World) (a0 : 0 ≤ a) (a1 : a < 18446744073709551616) : Calls Tryd.prog 60 #[.int .u64 a] w fun e w' => e = .returned (.bool (isv a)) ∧ Q w w' := by
  have H := Lib.hid (show (signI a 39 == a) = isv a by rw [ext39_sign a ⟨a0, a1⟩]; exact isv_ext a a0 a1)
  go_enter Tryd.func60, Tryd.ntmps60
  go_wp2_with (go_at_call 73; (with_reducible refine (sign_calls _ _ _ ⟨a0, a1⟩ (by omega) (by omega)).mono ?_); rintro e w' ⟨rfl, ⟨nd, rfl⟩⟩)
  go_ret
  exact ⟨congrArg (fun z => Ending.returned (.bool z)) H.out, ⟨_, rfl⟩⟩
theorem idx_bd (a l : Int) : 0 ≤ idx a l ∧ idx a l < 512 := by unfold idx; omega
theorem num_bd (a : Int) : 0 ≤ num a ∧ num a < 134217728 := by unfold num; omega
theorem ofv_bd (n : Int) : 0 ≤ ofv n ∧ ofv n < 18446744073709551616 := by unfold ofv ext39; split <;> omega
theorem sz_bd (l : Int) : 4096 ≤ sz l ∧ sz l ≤ 1073741824 := by unfold sz; split; decide; split <;> decide
theorem idx_calls (a l : Int) (w : World) (a0 : 0 ≤ a) (a1 : a < 18446744073709551616) (h0 : 0 ≤ l) (h2 : l ≤ 2) : Calls Tryd.prog 40 #[.int .u64 a, .int .i64 l] w fun e w' => e = .returned (.int .i64 (idx a l)) ∧ Q w w' := by
  have H := Lib.hid (show wrap64 (getI a (12 + 9 * l) 9) = idx a l by
    rw [getI_val a _ 9 ⟨a0, a1⟩ (by omega)]
    unfold idx wrap64
    rcases lev h0 h2 with rfl | rfl | rfl <;> simp only [show sz 0 = 4096 from rfl, show sz 1 = 2097152 from rfl, show sz 2 = 1073741824 from rfl, show (12 + 9 * 0 : Int).toNat = 12 from rfl, show (12 + 9 * 1 : Int).toNat = 21 from rfl, show (12 + 9 * 2 : Int).toNat = 30 from rfl, show (9 : Int).toNat = 9 from rfl] <;> omega)
  go_enter Tryd.func40, Tryd.ntmps40
  go_wp2_with (go_at_call 44; (with_reducible refine (get_calls _ _ _ _ ⟨a0, a1⟩ (by omega) (by omega) (by omega) (by omega)).mono ?_); rintro e w' ⟨rfl, ⟨nd, rfl⟩⟩)
  go_ret
  exact ⟨congrArg (fun z => Ending.returned (.int .i64 z)) H.out, ⟨_, rfl⟩⟩
theorem num_calls (a : Int) (w : World) (a0 : 0 ≤ a) (a1 : a < 18446744073709551616) : Calls Tryd.prog 122 #[.int .u64 a] w fun e w' => e = .returned (.int .u64 (num a)) ∧ Q w w' := by
  have H := Lib.hid (show getI a 12 27 = num a by rw [getI_val a 12 27 ⟨a0, a1⟩ (by omega)]; rfl)
  go_enter Tryd.func122, Tryd.ntmps122
  go_wp2_with (go_at_call 44; (with_reducible refine (get_calls _ _ _ _ ⟨a0, a1⟩ (by omega) (by omega) (by omega) (by omega)).mono ?_); rintro e w' ⟨rfl, ⟨nd, rfl⟩⟩)
  go_ret
  exact ⟨congrArg (fun z => Ending.returned (.int .u64 z)) H.out, ⟨_, rfl⟩⟩
theorem setI_zero (lo n v : Int) (h : U v) (h1 : 0 ≤ lo) (h0 : 0 ≤ n) (h2 : lo + n ≤ 64) : setI 0 lo n v = v % 2 ^ n.toNat * 2 ^ lo.toNat := by
  unfold setI; rw [show X 0 = 0#64 from rfl, setB_zero_val _ _ _ (by omega), B_X h]
theorem of_calls (n : Int) (w : World) (a0 : 0 ≤ n) (a1 : n < 18446744073709551616) : Calls Tryd.prog 53 #[.int .u64 n] w fun e w' => e = .returned (.int .u64 (ofv n)) ∧ Q w w' := by
  have hs := setI_zero 12 27 n ⟨a0, a1⟩ (by omega) (by omega) (by omega)
  have H := Lib.hid (show signI (setI 0 12 27 n) 39 = ofv n by
    rw [ext39_sign _ (setI_U _ _ _ _), hs]; unfold ofv; congr 1
    simp only [show (27 : Int).toNat = 27 from rfl, show (12 : Int).toNat = 12 from rfl]; omega)
  clear hs
  go_enter Tryd.func53, Tryd.ntmps53
  go_wp2_with (first
    | (go_at_call 57; (with_reducible refine (set_calls _ _ _ _ _ ⟨by omega, by omega⟩ ⟨a0, a1⟩ (by omega) (by omega) (by omega) (by omega)).mono ?_); rintro e w' ⟨rfl, ⟨nd, rfl⟩⟩)
    | (go_at_call 73; (with_reducible refine (sign_calls _ _ _ (setI_U _ _ _ _) (by omega) (by omega)).mono ?_); rintro e w' ⟨rfl, ⟨nd, rfl⟩⟩))
  go_ret
  exact ⟨congrArg (fun z => Ending.returned (.int .u64 z)) H.out, ⟨_, rfl⟩⟩
theorem fits_calls (a l : Int) (w : World) (a0 : 0 ≤ a) (a1 : a < 18446744073709551616) (h0 : 0 ≤ l) (h2 : l ≤ 2) (hG : G w) : Calls Tryd.prog 39 #[.int .u64 a, .int .i64 l] w fun e w' => e = .returned (.bool (fits a l)) ∧ Q w w' := by
  cases hi : isv a
  all_goals
    have hf : fits a l = (isv a && (off a l == 0)) := rfl
    rw [hi] at hf
    have Hf := Lib.hid hf; clear hf
    have Hi := Lib.hid hi; clear hi
    go_enter Tryd.func39, Tryd.ntmps39
    go_wp2_with (first | (go_at_call 60; refine (is_calls a _ a0 a1).mono ?_; rw [Hi.out]; rintro e w' ⟨rfl, ⟨nd, rfl⟩⟩) | (go_at_call 61; refine (off_calls a l _ a0 a1 h0 h2 ?_).mono ?_; exact hG; rintro e w' ⟨rfl, ⟨nd, rfl⟩⟩))
    go_ret
    refine ⟨?_, by repeat (first | exact Q.refl _ | apply Q.step)⟩
    rw [Hf.out]; rfl
end Go.Proofs.YtkffmaeiplgjeaaDoor.VaC
/- What the functions of the layer pte answer, in plain data. No program here. -/
namespace Go.Proofs.YtkffmaeiplgjeaaDoor.PteSpec
open Go.RowKit Go.Proofs.YtkffmaeiplgjeaaDoor.Bv Go.Proofs.YtkffmaeiplgjeaaDoor.VaSpec
set_option linter.unusedVariables false
set_option linter.unusedSimpArgs false
structure Perm where
  r : Bool
  w : Bool
  x : Bool
  u : Bool
deriving DecidableEq
structure Pte where
  v : Bool
  r : Bool
  w : Bool
  x : Bool
  u : Bool
  g : Bool
  a : Bool
  d : Bool
  rsw : Int
  ppn : Int
  high : Int
deriving DecidableEq
def Pte.U (p : Pte) : Prop := (0 ≤ p.rsw ∧ p.rsw < 18446744073709551616) ∧ (0 ≤ p.ppn ∧ p.ppn < 18446744073709551616) ∧ (0 ≤ p.high ∧ p.high < 18446744073709551616)
def mayP (p : Pte) : Bool := decide (p.rsw < 4) && decide (p.ppn < 17592186044416) && decide (p.high < 1024)
def low8 (p : Pte) : Int := bI p.v + bI p.r * 2 + bI p.w * 4 + bI p.x * 8 + bI p.u * 16 + bI p.g * 32 + bI p.a * 64 + bI p.d * 128
def word (p : Pte) : Int := low8 p + p.rsw * 256 + p.ppn * 1024 + p.high * 18014398509481984
def bitI (a i : Int) : Bool := a / 2 ^ i.toNat % 2 == 1
def pteOf (a : Int) : Pte := ⟨bitI a 0, bitI a 1, bitI a 2, bitI a 3, bitI a 4, bitI a 5, bitI a 6, bitI a 7, a / 256 % 4, a / 1024 % 17592186044416, a / 18014398509481984⟩
def leafP (p : Pte) : Bool := p.v && (p.r || p.x)
def linkP (p : Pte) : Bool := p.v && !p.r && !p.x
def badP (p : Pte) (l : Int) : Bool :=
  if !p.v || p.w && !p.r || p.high != 0 then true
  else if linkP p then l == 0 || p.a || p.d || p.u
  else !(p.ppn % (sz l / 4096) == 0)
def makeP (f : Int) (q : Perm) (g : Bool) : Pte := ⟨true, q.r, q.w, q.x, q.u, g, false, false, 0, f, 0⟩
def permP (p : Pte) : Perm := ⟨p.r, p.w, p.x, p.u⟩
theorem low8_bd (p : Pte) : 0 ≤ low8 p ∧ low8 p < 256 := by
  unfold low8
  have := bI_bd p.v; have := bI_bd p.r; have := bI_bd p.w; have := bI_bd p.x; have := bI_bd p.u; have := bI_bd p.g; have := bI_bd p.a; have := bI_bd p.d
  omega
theorem mayP_iff (p : Pte) : mayP p = true ↔ p.rsw < 4 ∧ p.ppn < 17592186044416 ∧ p.high < 1024 := by
  unfold mayP; simp [and_assoc]
theorem word_bd (p : Pte) (h : p.U) (hm : mayP p = true) : 0 ≤ word p ∧ word p < 18446744073709551616 := by
  rw [mayP_iff] at hm; have := low8_bd p; unfold Pte.U at h; unfold word; omega
theorem pteOf_U (a : Int) (h0 : 0 ≤ a) (h1 : a < 18446744073709551616) : (pteOf a).U := by unfold Pte.U pteOf; simp only; omega
theorem pteOf_may (a : Int) (h0 : 0 ≤ a) (h1 : a < 18446744073709551616) : mayP (pteOf a) = true := by rw [mayP_iff]; unfold pteOf; simp only; omega
theorem bI_bitI (a : Int) (i : Nat) (h0 : 0 ≤ a) : bI (bitI a i) = a / 2 ^ i % 2 := by
  unfold bI bitI; rw [Int.toNat_natCast]
  by_cases h : a / 2 ^ i % 2 = 1
  · simp [h]
  · have : a / 2 ^ i % 2 = 0 := by omega
    simp [this]
theorem word_pteOf (a : Int) (h0 : 0 ≤ a) (h1 : a < 18446744073709551616) : word (pteOf a) = a := by
  have e : ∀ i : Nat, bI (bitI a i) = a / 2 ^ i % 2 := fun i => bI_bitI a i h0
  have e0 := e 0; have e1 := e 1; have e2 := e 2; have e3 := e 3; have e4 := e 4; have e5 := e 5; have e6 := e 6; have e7 := e 7
  unfold word low8 pteOf
  simp only
  rw [show (bitI a 0) = bitI a ((0 : Nat) : Int) from rfl, show (bitI a 1) = bitI a ((1 : Nat) : Int) from rfl, show (bitI a 2) = bitI a ((2 : Nat) : Int) from rfl, show (bitI a 3) = bitI a ((3 : Nat) : Int) from rfl, show (bitI a 4) = bitI a ((4 : Nat) : Int) from rfl, show (bitI a 5) = bitI a ((5 : Nat) : Int) from rfl, show (bitI a 6) = bitI a ((6 : Nat) : Int) from rfl, show (bitI a 7) = bitI a ((7 : Nat) : Int) from rfl]
  rw [e 0, e 1, e 2, e 3, e 4, e 5, e 6, e 7]
  clear e e0 e1 e2 e3 e4 e5 e6 e7
  omega
theorem pteOf_word (p : Pte) (h : p.U) (hm : mayP p = true) : pteOf (word p) = p := by
  rw [mayP_iff] at hm
  obtain ⟨v, r, w, x, u, g, a, d, rsw, ppn, high⟩ := p
  unfold Pte.U at h; unfold word low8 pteOf
  simp only at *
  have q0 := bI_bd v; have q1 := bI_bd r; have q2 := bI_bd w; have q3 := bI_bd x; have q4 := bI_bd u; have q5 := bI_bd g; have q6 := bI_bd a; have q7 := bI_bd d
  have key : ∀ (b : Bool) (i : Nat) (n : Int), n / 2 ^ i % 2 = bI b → bitI n i = b := by
    intro b i n h; unfold bitI; rw [Int.toNat_natCast, h]; cases b <;> rfl
  have k0 := key v 0; have k1 := key r 1; have k2 := key w 2; have k3 := key x 3; have k4 := key u 4; have k5 := key g 5; have k6 := key a 6; have k7 := key d 7
  rw [Pte.mk.injEq]
  refine ⟨k0 _ ?_, k1 _ ?_, k2 _ ?_, k3 _ ?_, k4 _ ?_, k5 _ ?_, k6 _ ?_, k7 _ ?_, ?_, ?_, ?_⟩ <;> omega
end Go.Proofs.YtkffmaeiplgjeaaDoor.PteSpec
/- The contracts of the layer pte: each call comes to the plain entry, word or truth of PteSpec. -/
namespace Go.Proofs.YtkffmaeiplgjeaaDoor.PteC
open Go.RowKit Go.Proofs.YtkffmaeiplgjeaaDoor.Bv Go.Proofs.YtkffmaeiplgjeaaDoor.VaSpec Go.Proofs.YtkffmaeiplgjeaaDoor.Base Go.Proofs.YtkffmaeiplgjeaaDoor.BitsC Go.Proofs.YtkffmaeiplgjeaaDoor.VaC Go.Proofs.YtkffmaeiplgjeaaDoor.PteSpec
set_option linter.unusedVariables false
set_option linter.unusedSimpArgs false
def fitsI (n k : Int) : Bool := decide (n < 2 ^ k.toNat)
theorem fits_get (n k : Int) (hn : U n) (h : k ≤ 64) : (getI n 0 k == n) = fitsI n k := by
  rw [getI_val n 0 k hn h]
  unfold fitsI
  rw [show (0 : Int).toNat = 0 from rfl]
  have hp : (0 : Int) < 2 ^ k.toNat := by exact_mod_cast Nat.two_pow_pos k.toNat
  rw [Bool.eq_iff_iff, beq_iff_eq, decide_eq_true_eq]
  rw [show (2 : Int) ^ 0 = 1 from rfl, Int.ediv_one]
  constructor
  · intro e; rw [← e]; exact Int.emod_lt_of_pos _ hp
  · intro e; exact Int.emod_eq_of_lt hn.1 e
theorem fits_calls (n k : Int) (W : World) (hn : U n) (k0 : 0 ≤ k) (k1 : k ≤ 64) : Calls Tryd.prog 83 #[.int .u64 n, .int .i64 k] W fun e w' => e = .returned (.bool (fitsI n k)) ∧ Q W w' := by
  have H := Lib.hid (fits_get n k hn k1)
  go_enter Tryd.func83, Tryd.ntmps83
  go_wp2_with (go_at_call 44; (with_reducible refine (get_calls _ _ _ _ hn (by omega) (by omega) (by omega) (by omega)).mono ?_); rintro e w' ⟨rfl, ⟨nd, rfl⟩⟩)
  go_ret
  exact ⟨congrArg (fun z => Ending.returned (.bool z)) H.out, ⟨_, rfl⟩⟩
theorem mayP_fits (p : Pte) : (fitsI p.rsw 2 && fitsI p.ppn 44 && fitsI p.high 10) = mayP p := rfl
theorem may_calls (v r w x u g a d : Bool) (rsw ppn high : Int) (W : World) (h1 : U rsw) (h2 : U ppn) (h3 : U high) :
    Calls Tryd.prog 68 #[.agg #[.bool v, .bool r, .bool w, .bool x, .bool u, .bool g, .bool a, .bool d, .int .u64 rsw, .int .u64 ppn, .int .u64 high]] W fun e w' => e = .returned (.bool (mayP ⟨v, r, w, x, u, g, a, d, rsw, ppn, high⟩)) ∧ Below W.heap.size W w' := by
  have H := Lib.hid (mayP_fits ⟨v, r, w, x, u, g, a, d, rsw, ppn, high⟩)
  go_enter Tryd.func68, Tryd.ntmps68
  go_wp2_with (go_at_call 83; (with_reducible refine (fits_calls _ _ _ (by assumption) (by omega) (by omega)).mono ?_); rintro e w' ⟨rfl, ⟨nd, rfl⟩⟩)
  all_goals
    go_ret
    refine ⟨congrArg (fun z => Ending.returned (.bool z)) (by rw [← H.out]; simp [*]), (by repeat (first | (with_reducible exact Below.refl _ _) | (with_reducible apply bel_drewN) | (with_reducible apply bel_alloc) | (with_reducible apply bel_trans; rotate_left; with_reducible assumption) | (with_reducible refine bel_setCell _ _ _ (by first | omega | (simp; done) | (simp; omega) | (simp at *; omega)) ?_)))⟩
theorem link_calls (v r w x u g a d : Bool) (rsw ppn high : Int) (W : World) :
    Calls Tryd.prog 77 #[.agg #[.bool v, .bool r, .bool w, .bool x, .bool u, .bool g, .bool a, .bool d, .int .u64 rsw, .int .u64 ppn, .int .u64 high]] W fun e w' => e = .returned (.bool (linkP ⟨v, r, w, x, u, g, a, d, rsw, ppn, high⟩)) ∧ Below W.heap.size W w' := by
  go_enter Tryd.func77, Tryd.ntmps77
  go_wp2
  all_goals
    go_ret
    refine ⟨congrArg (fun z => Ending.returned (.bool z)) (by simp [linkP, *]), (by repeat (first | (with_reducible exact Below.refl _ _) | (with_reducible apply bel_drewN) | (with_reducible apply bel_alloc) | (with_reducible apply bel_trans; rotate_left; with_reducible assumption) | (with_reducible refine bel_setCell _ _ _ (by first | omega | (simp; done) | (simp; omega) | (simp at *; omega)) ?_)))⟩
set_option maxHeartbeats 800000 in
theorem bad_calls (v r w x u g a d : Bool) (rsw ppn high : Int) (l : Int) (W : World) (h1 : U rsw) (h2 : U ppn) (h3 : U high) (l0 : 0 ≤ l) (l2 : l ≤ 2) (hG : G W) :
    Calls Tryd.prog 78 #[.agg #[.bool v, .bool r, .bool w, .bool x, .bool u, .bool g, .bool a, .bool d, .int .u64 rsw, .int .u64 ppn, .int .u64 high], .int .i64 l] W fun e w' => e = .returned (.bool (badP ⟨v, r, w, x, u, g, a, d, rsw, ppn, high⟩ l)) ∧ Below W.heap.size W w' := by
  go_enter Tryd.func78, Tryd.ntmps78
  have hs := sz_bd l
  go_wp2_with (first
    | (go_at_call 77; (with_reducible refine (link_calls _ _ _ _ _ _ _ _ _ _ _ _).mono ?_); rintro e w1 ⟨rfl, hb⟩; obtain ⟨hc, hf⟩ := bcell hb)
    | fail)
  all_goals first
    | (go_ret; refine ⟨congrArg (fun z => Ending.returned (.bool z)) (by first | (simp [badP, *]; done) | (simp_all [badP, linkP]; done)), (by repeat (first | (with_reducible exact Below.refl _ _) | (with_reducible apply bel_drewN) | (with_reducible apply bel_alloc) | (with_reducible apply bel_trans; rotate_left; with_reducible assumption) | (with_reducible refine bel_setCell _ _ _ (by first | omega | (simp; done) | (simp; omega) | (simp at *; omega)) ?_)))⟩; done)
    | skip
  all_goals
    have h9 : w1.cell? ⟨W.heap.size, 9, none⟩ = some (.int .u64 ppn) := by rw [hc _ _ (by simp)]; simp
    clear hc hf
    have HG : G w1 := (by first | assumption | exact hG.to (by repeat (first | (with_reducible exact Below.refl _ _) | (with_reducible apply bel_drewN) | (with_reducible apply bel_alloc) | (with_reducible apply bel_trans; rotate_left; with_reducible assumption) | (with_reducible refine bel_setCell _ _ _ (by first | omega | (simp; done) | (simp; omega) | (simp at *; omega)) ?_))))
    go_quiet ((first | (go_at_call 91; exact Calls.quiet_of ((size_calls _ _ l0 l2 (HG.drewN _)).mono fun _ _ ⟨he, d⟩ => ⟨he, d.out⟩)) | (go_at_call 62; exact Calls.quiet_of ((even_calls _ _ _ h2 (by omega)).mono fun _ _ ⟨he, d⟩ => ⟨he, d.out⟩))))
    go_wp2
    go_ret
    refine ⟨congrArg (fun z => Ending.returned (.bool z)) ?_, (by repeat (first | (with_reducible exact Below.refl _ _) | (with_reducible apply bel_drewN) | (with_reducible apply bel_alloc) | (with_reducible apply bel_trans; rotate_left; with_reducible assumption) | (with_reducible refine bel_setCell _ _ _ (by first | omega | (simp; done) | (simp; omega) | (simp at *; omega)) ?_)))⟩
    unfold evenI
    rw [if_neg (by omega)]
    first | (simp [badP, *]; done) | (simp_all [badP, linkP]; done)
end Go.Proofs.YtkffmaeiplgjeaaDoor.PteC
/- The contracts of the layer pte, the second part: an entry's word, and the entry of a word. -/
namespace Go.Proofs.YtkffmaeiplgjeaaDoor.PteC
open Go.RowKit Go.Proofs.YtkffmaeiplgjeaaDoor.Bv Go.Proofs.YtkffmaeiplgjeaaDoor.VaSpec Go.Proofs.YtkffmaeiplgjeaaDoor.Base Go.Proofs.YtkffmaeiplgjeaaDoor.BitsC Go.Proofs.YtkffmaeiplgjeaaDoor.VaC Go.Proofs.YtkffmaeiplgjeaaDoor.PteSpec
set_option linter.unusedVariables false
set_option linter.unusedSimpArgs false
theorem setB_add (x v : BitVec 64) (lo n : Nat) (h : lo + n ≤ 64) (hx : x.toNat < 2 ^ lo) (hv : v.toNat < 2 ^ n) : (setB x lo n v).toNat = x.toNat + v.toNat * 2 ^ lo := by
  have e : setB x lo n v = (v <<< lo) ||| x := by
    apply BitVec.eq_of_getLsbD_eq; intro i hi
    rw [setB_bit, BitVec.getLsbD_or, BitVec.getLsbD_shiftLeft]
    have hxi : lo ≤ i → x.getLsbD i = false := fun hl => by
      rw [BitVec.getLsbD]; exact Nat.testBit_lt_two_pow (Nat.lt_of_lt_of_le hx (Nat.pow_le_pow_right (by decide) hl))
    have hvi : n ≤ i - lo → v.getLsbD (i - lo) = false := fun hl => by
      rw [BitVec.getLsbD]; exact Nat.testBit_lt_two_pow (Nat.lt_of_lt_of_le hv (Nat.pow_le_pow_right (by decide) hl))
    by_cases h1 : lo ≤ i
    · by_cases h2 : i < lo + n
      · simp only [hi, h1, h2, hxi h1, show ¬ i < lo by omega, and_self, if_true, decide_true, decide_false, Bool.not_false, Bool.true_and, Bool.or_false]
      · simp only [hi, h1, h2, hxi h1, hvi (by omega), show ¬ i < lo by omega, and_false, if_false, decide_true, decide_false, Bool.not_false, Bool.true_and, Bool.or_false, Bool.and_false]
    · simp only [hi, h1, show i < lo by omega, false_and, if_false, decide_true, Bool.not_true, Bool.and_false, Bool.false_and, Bool.false_or, Bool.true_and]
  rw [e, BitVec.toNat_or, BitVec.toNat_shiftLeft, Nat.shiftLeft_eq]
  have h3 : v.toNat * 2 ^ lo < 2 ^ n * 2 ^ lo := Nat.mul_lt_mul_of_pos_right hv (Nat.two_pow_pos lo)
  have h4 : 2 ^ n * 2 ^ lo ≤ 2 ^ 64 := by rw [← Nat.pow_add]; exact Nat.pow_le_pow_right (by decide) (by omega)
  rw [Nat.mod_eq_of_lt (by omega), ← Nat.shiftLeft_eq, ← Nat.shiftLeft_add_eq_or_of_lt hx]
  omega
theorem setI_add (a lo n v : Int) (ha : U a) (hv : U v) (l0 : 0 ≤ lo) (n0 : 0 ≤ n) (h : lo + n ≤ 64) (hx : a < 2 ^ lo.toNat) (hv2 : v < 2 ^ n.toNat) : setI a lo n v = a + v * 2 ^ lo.toNat := by
  obtain ⟨x, rfl⟩ := u64_B ha.1 ha.2
  obtain ⟨y, rfl⟩ := u64_B hv.1 hv.2
  unfold setI; rw [X_B, X_B]
  unfold B at *
  rw [setB_add x y lo.toNat n.toNat (by omega) (by exact_mod_cast hx) (by exact_mod_cast hv2)]
  norm_cast
def rowI (f : Nat → Bool) : Nat → Int
  | 0 => 0
  | k + 1 => rowI f k + bI (f k) * 2 ^ k
theorem rowI_succ (f : Nat → Bool) (k : Nat) : rowI f (k + 1) = rowI f k + bI (f k) * 2 ^ k := rfl
theorem rowI_bd (f : Nat → Bool) (k : Nat) : 0 ≤ rowI f k ∧ rowI f k < 2 ^ k := by
  induction k with
  | zero => unfold rowI; decide
  | succ k ih =>
    rw [rowI_succ, Int.pow_succ]
    have hp : (0 : Int) < 2 ^ k := by exact_mod_cast Nat.two_pow_pos k
    unfold bI; split <;> omega
theorem row_step (f : Nat → Bool) (k : Nat) (hk : k < 8) : setI (rowI f k) (k : Int) 1 (bI (f k)) = rowI f (k + 1) := by
  have h1 := rowI_bd f k
  have h2 := bI_bd (f k)
  have hp : (2 : Int) ^ k ≤ 128 := by
    have : 2 ^ k ≤ 2 ^ 7 := Nat.pow_le_pow_right (by decide) (by omega)
    exact_mod_cast this
  rw [rowI_succ, setI_add _ _ _ _ ⟨h1.1, by omega⟩ ⟨h2.1, by omega⟩ (by omega) (by omega) (by omega) (by rw [Int.toNat_natCast]; exact h1.2) (by show _ < (2 : Int) ^ 1; omega), Int.toNat_natCast]
set_option maxHeartbeats 400000 in
theorem row_calls (f : Nat → Bool) (b : Nat) (W : World) (hc : ∀ i, i < 8 → W.cell? ⟨b, i, none⟩ = some (.bool (f i))) :
    Calls Tryd.prog 69 #[.slice (some ⟨b, 0, none⟩) 8 8] W fun e w' => e = .returned (.int .u64 (rowI f 8)) ∧ Q W w' := by
  have HC := Lib.hid hc; clear hc
  go_enter Tryd.func69, Tryd.ntmps69
  go_wp2
  go_loopw [3, 8] (fun x i wr => ∃ k : Nat, k ≤ 8 ∧ i = .int .i64 k ∧ x = .int .u64 (rowI f k) ∧ Q W wr) (fun _ i _ => 8 - (intOf i).toNat)
  case atStart => exact ⟨0, by omega, rfl, rfl, Q.refl _⟩
  case round =>
    obtain ⟨k, hk, rfl, rfl, hq⟩ := hrel
    by_cases hlt : k < 8
    · obtain ⟨n, rfl⟩ := hq
      have h1 := HC.out k hlt
      have h2 := Lib.hid (row_step f k hlt)
      have h3 := rowI_bd f k
      have hp : (2 : Int) ^ k ≤ 128 := by
        have : 2 ^ k ≤ 2 ^ 7 := Nat.pow_le_pow_right (by decide) (by omega)
        exact_mod_cast this
      have h4 : U (rowI f k) := ⟨h3.1, by omega⟩
      clear hp h3
      have h5 : U (bI (f k)) := by have := bI_bd (f k); exact ⟨by omega, by omega⟩
      go_wp2_with (first
        | (go_at_call 84; (with_reducible refine (bool_calls _ _).mono ?_); rintro e w' ⟨rfl, ⟨nd, rfl⟩⟩)
        | (go_at_call 57; (with_reducible refine (set_calls _ _ _ _ _ h4 h5 (by omega) (by omega) (by omega) (by omega)).mono ?_); rintro e w' ⟨rfl, ⟨nd, rfl⟩⟩)
        | fail)
      refine ⟨⟨k + 1, by omega, by go_num, by rw [h2.out], by repeat (first | exact Q.refl _ | apply Q.step)⟩, ?_⟩
      simp [intOf]; omega
    · obtain rfl : k = 8 := by omega
      go_wp2
      go_ret
      exact ⟨rfl, hq⟩
end Go.Proofs.YtkffmaeiplgjeaaDoor.PteC
/- The contracts of the layer pte, the third part: Put and Get. -/
namespace Go.Proofs.YtkffmaeiplgjeaaDoor.PteC
open Go.RowKit Go.Proofs.YtkffmaeiplgjeaaDoor.Bv Go.Proofs.YtkffmaeiplgjeaaDoor.VaSpec Go.Proofs.YtkffmaeiplgjeaaDoor.Base Go.Proofs.YtkffmaeiplgjeaaDoor.BitsC Go.Proofs.YtkffmaeiplgjeaaDoor.VaC Go.Proofs.YtkffmaeiplgjeaaDoor.PteSpec
set_option linter.unusedVariables false
set_option linter.unusedSimpArgs false
def f8 (v r w x u g a d : Bool) : Nat → Bool
  | 0 => v
  | 1 => r
  | 2 => w
  | 3 => x
  | 4 => u
  | 5 => g
  | 6 => a
  | _ => d
theorem row_low8 (v r w x u g a d : Bool) (rsw ppn high : Int) : rowI (f8 v r w x u g a d) 8 = low8 ⟨v, r, w, x, u, g, a, d, rsw, ppn, high⟩ := by
  unfold low8; simp only [rowI, f8]; omega
theorem put_word (p : Pte) (h : p.U) (hm : mayP p = true) : setI (setI (setI (low8 p) 8 2 p.rsw) 10 44 p.ppn) 54 10 p.high = word p := by
  rw [mayP_iff] at hm
  have hl := low8_bd p
  obtain ⟨h1, h2, h3⟩ := h
  rw [setI_add (low8 p) 8 2 p.rsw ⟨by omega, by omega⟩ h1 (by omega) (by omega) (by omega) (by show _ < (2 : Int) ^ 8; omega) (by show _ < (2 : Int) ^ 2; omega)]
  rw [show (2 : Int) ^ (8 : Int).toNat = 256 from rfl]
  rw [setI_add _ 10 44 p.ppn ⟨by omega, by omega⟩ h2 (by omega) (by omega) (by omega) (by show _ < (2 : Int) ^ 10; omega) (by show _ < (2 : Int) ^ 44; omega)]
  rw [show (2 : Int) ^ (10 : Int).toNat = 1024 from rfl]
  rw [setI_add _ 54 10 p.high ⟨by omega, by omega⟩ h3 (by omega) (by omega) (by omega) (by show _ < (2 : Int) ^ 54; omega) (by show _ < (2 : Int) ^ 10; omega)]
  rw [show (2 : Int) ^ (54 : Int).toNat = 18014398509481984 from rfl]
  rfl
def putE (p : Pte) : Int := if mayP p then word p else 0
def putErr (p : Pte) : Int := if mayP p then 0 else 1
set_option maxHeartbeats 1000000 in
theorem put_calls (v r w x u g a d : Bool) (rsw ppn high : Int) (W : World) (h1 : U rsw) (h2 : U ppn) (h3 : U high) :
    Calls Tryd.prog 50 #[.agg #[.bool v, .bool r, .bool w, .bool x, .bool u, .bool g, .bool a, .bool d, .int .u64 rsw, .int .u64 ppn, .int .u64 high]] W fun e w' => e = .returned (.tuple #[.int .u64 (putE ⟨v, r, w, x, u, g, a, d, rsw, ppn, high⟩), .int .i64 (putErr ⟨v, r, w, x, u, g, a, d, rsw, ppn, high⟩)]) ∧ Below W.heap.size W w' := by
  cases hm : mayP ⟨v, r, w, x, u, g, a, d, rsw, ppn, high⟩
  · have H1 := Lib.hid (show putE ⟨v, r, w, x, u, g, a, d, rsw, ppn, high⟩ = 0 by unfold putE; rw [hm]; rfl)
    have H2 := Lib.hid (show putErr ⟨v, r, w, x, u, g, a, d, rsw, ppn, high⟩ = 1 by unfold putErr; rw [hm]; rfl)
    have HM := Lib.hid hm; clear hm
    go_enter Tryd.func50, Tryd.ntmps50
    go_wp2_with (go_at_call 68; (with_reducible refine (may_calls _ _ _ _ _ _ _ _ _ _ _ _ h1 h2 h3).mono ?_); rw [HM.out]; rintro e w1 ⟨rfl, hb⟩)
    go_ret2
    rw [H1.out, H2.out]
    exact ⟨rfl, (by repeat (first | (with_reducible exact Below.refl _ _) | (with_reducible apply bel_drewN) | (with_reducible apply bel_alloc) | (with_reducible apply bel_trans; rotate_left; with_reducible assumption) | (with_reducible refine bel_setCell _ _ _ (by first | omega | (simp; done) | (simp; omega) | (simp at *; omega)) ?_)))⟩
  · have H1 := Lib.hid (show putE ⟨v, r, w, x, u, g, a, d, rsw, ppn, high⟩ = word ⟨v, r, w, x, u, g, a, d, rsw, ppn, high⟩ by unfold putE; rw [hm]; rfl)
    have H2 := Lib.hid (show putErr ⟨v, r, w, x, u, g, a, d, rsw, ppn, high⟩ = 0 by unfold putErr; rw [hm]; rfl)
    have H3 := Lib.hid (put_word ⟨v, r, w, x, u, g, a, d, rsw, ppn, high⟩ ⟨h1, h2, h3⟩ hm)
    have H4 := Lib.hid (row_low8 v r w x u g a d rsw ppn high)
    have HM := Lib.hid hm; clear hm
    have hl := low8_bd ⟨v, r, w, x, u, g, a, d, rsw, ppn, high⟩
    have hlU : U (low8 ⟨v, r, w, x, u, g, a, d, rsw, ppn, high⟩) := ⟨hl.1, by omega⟩
    go_enter Tryd.func50, Tryd.ntmps50
    go_wp2_with (first
      | (go_at_call 68; (with_reducible refine (may_calls _ _ _ _ _ _ _ _ _ _ _ _ h1 h2 h3).mono ?_); rw [HM.out]; rintro e w1 ⟨rfl, hb⟩; obtain ⟨hc, hf⟩ := bcell hb; have hz : W.heap.size < w1.heap.size := by have := hb.size; simp at this; omega)
      | fail)
    refine (row_calls (f8 v r w x u g a d) _ _ ?_).mono ?_
    · intro i hi
      have : i = 0 ∨ i = 1 ∨ i = 2 ∨ i = 3 ∨ i = 4 ∨ i = 5 ∨ i = 6 ∨ i = 7 := by omega
      rcases this with rfl | rfl | rfl | rfl | rfl | rfl | rfl | rfl <;> simp [f8]
    rintro e w2 ⟨rfl, ⟨n2, rfl⟩⟩
    rw [H4.out]
    go_wp2_with (first
      | (go_at_call 57; (with_reducible refine (set_calls _ _ _ _ _ (by first | assumption | exact setI_U _ _ _ _) (by assumption) (by omega) (by omega) (by omega) (by omega)).mono ?_); rintro e w' ⟨rfl, ⟨nd, rfl⟩⟩)
      | fail)
    go_ret2
    rw [H1.out, H2.out, ← H3.out]
    exact ⟨rfl, (by repeat (first | (with_reducible exact Below.refl _ _) | (with_reducible apply bel_drewN) | (with_reducible apply bel_alloc) | (with_reducible apply bel_trans; rotate_left; with_reducible assumption) | (with_reducible refine bel_setCell _ _ _ (by first | omega | (simp; done) | (simp; omega) | (simp at *; omega)) ?_)))⟩
set_option maxHeartbeats 1000000 in
theorem get1_same (x i : Int) (b : Nat) (W : World) (hx : U x) (h0 : 0 ≤ i) (h1 : i ≤ 7) (hc : W.cell? ⟨b, 0, none⟩ = some (.int .u64 x)) :
    Calls Tryd.prog 90 #[.int .i64 i, .pointer (some ⟨b, 0, none⟩)] W fun e w' => e = .returned (.bool (bitI x i)) ∧ w' = W := by
  have H := Lib.hid (show (getI x i 1 == 1) = bitI x i by rw [getI_val x i 1 hx (by omega)]; rfl)
  go_enter Tryd.func90, Tryd.ntmps90
  go_wp2_with (go_at_call 44; (with_reducible refine (get_same _ _ _ _ hx (by omega) (by omega) (by omega) (by omega)).mono ?_); rintro e w' ⟨rfl, rfl⟩)
  go_ret
  exact ⟨congrArg (fun z => Ending.returned (.bool z)) H.out, rfl⟩
end Go.Proofs.YtkffmaeiplgjeaaDoor.PteC
/- The contracts of the layer pte, the fourth part: Get. -/
namespace Go.Proofs.YtkffmaeiplgjeaaDoor.PteC
open Go.RowKit Go.Proofs.YtkffmaeiplgjeaaDoor.Bv Go.Proofs.YtkffmaeiplgjeaaDoor.VaSpec Go.Proofs.YtkffmaeiplgjeaaDoor.Base Go.Proofs.YtkffmaeiplgjeaaDoor.BitsC Go.Proofs.YtkffmaeiplgjeaaDoor.VaC Go.Proofs.YtkffmaeiplgjeaaDoor.PteSpec
set_option linter.unusedVariables false
set_option linter.unusedSimpArgs false
set_option maxRecDepth 4000
set_option maxHeartbeats 1000000 in
theorem pget_calls (x : Int) (W : World) (hx : U x) :
    Calls Tryd.prog 76 #[.int .u64 x] W fun e w' => e = .returned (.agg #[.bool (pteOf x).v, .bool (pteOf x).r, .bool (pteOf x).w, .bool (pteOf x).x, .bool (pteOf x).u, .bool (pteOf x).g, .bool (pteOf x).a, .bool (pteOf x).d, .int .u64 (pteOf x).rsw, .int .u64 (pteOf x).ppn, .int .u64 (pteOf x).high]) ∧ Below W.heap.size W w' := by
  have Ha := Lib.hid (show getI x 8 2 = (pteOf x).rsw by rw [getI_val x 8 2 hx (by omega)]; rfl)
  have Hb := Lib.hid (show getI x 10 44 = (pteOf x).ppn by rw [getI_val x 10 44 hx (by omega)]; rfl)
  have Hc := Lib.hid (show getI x 54 10 = (pteOf x).high by
    rw [getI_val x 54 10 hx (by omega)]; show x / 2 ^ 54 % 2 ^ 10 = x / 18014398509481984; obtain ⟨p, q⟩ := hx; omega)
  go_enter Tryd.func76, Tryd.ntmps76
  go_wp2_with fail
  refine still_tail 23 (by kernel_rfl) (by kernel_rfl) ?_
  intro W2 hW2
  simp only [List.take_succ_cons, List.take_zero, List.drop_succ_cons, List.drop_zero]
  have hcell : W2.cell? ⟨W.heap.size, 0, none⟩ = some (.int .u64 x) := by rw [hW2]; simp
  have hHW := Lib.hid hW2; clear hW2
  repeat (first
    | still_step
    | still_call (get1_same _ _ _ _ hx (by omega) (by omega) hcell)
    | still_call (get_same _ _ _ _ hx (by omega) (by omega) (by omega) (by omega)))
  refine wpStill_nil ?_
  rw [Ha.out, Hb.out, Hc.out, show bitI x 0 = (pteOf x).v from rfl, show bitI x 1 = (pteOf x).r from rfl, show bitI x 2 = (pteOf x).w from rfl, show bitI x 3 = (pteOf x).x from rfl, show bitI x 4 = (pteOf x).u from rfl, show bitI x 5 = (pteOf x).g from rfl, show bitI x 6 = (pteOf x).a from rfl, show bitI x 7 = (pteOf x).d from rfl]
  have hW2 := hHW.out
  clear hcell
  subst hW2
  go_wp2
  refine bodyPost_ret (v := .agg #[.bool (pteOf x).v, .bool (pteOf x).r, .bool (pteOf x).w, .bool (pteOf x).x, .bool (pteOf x).u, .bool (pteOf x).g, .bool (pteOf x).a, .bool (pteOf x).d, .int .u64 (pteOf x).rsw, .int .u64 (pteOf x).ppn, .int .u64 (pteOf x).high]) ?_ rfl ?_
  · simp [results, Tryd.results76, go_sem]
  · exact ⟨rfl, (by repeat (first | (with_reducible exact Below.refl _ _) | (with_reducible apply bel_drewN) | (with_reducible apply bel_alloc) | (with_reducible apply bel_trans; rotate_left; with_reducible assumption) | (with_reducible refine bel_setCell _ _ _ (by first | omega | (simp; done) | (simp; omega) | (simp at *; omega)) ?_)))⟩
end Go.Proofs.YtkffmaeiplgjeaaDoor.PteC
/- The contract of slices.Clone at api.Space. -/
namespace Go.Proofs.YtkffmaeiplgjeaaDoor.CloneSpace
open Go.RowKit Go.Proofs.YtkffmaeiplgjeaaDoor.Bv Go.Proofs.YtkffmaeiplgjeaaDoor.Base Go.Proofs.YtkffmaeiplgjeaaDoor.MemL
set_option linter.unusedVariables false
set_option linter.unusedSimpArgs false
theorem info : (Tryd.prog.info? 55).map (fun i => (i.zero, i.size, i.bytes)) = some (some (.agg #[.int .u64 0, .int .u64 0, .bool false]), 3, 24) := by kernel_rfl
set_option maxHeartbeats 2000000 in
theorem clone_calls (v : Value) (n : Nat) (xs : List Value) (W : World) (h1 : ∀ u ∈ xs, u.oneCell' = true) (hbig : n * 24 ≤ 140737488355328) (hv : Sl W v n 3 xs) :
    Calls Tryd.prog 34 #[v] W fun e w' => ∃ v', e = .returned v' ∧ w'.ownsRow W.heap.size 55 3 v' n xs ∧ Below W.heap.size W w' := by
  obtain ⟨hl, hv⟩ := hv
  have q : ∀ (w : World) (a : Option Addr) (n c n' c' : Nat), (binOp .eql 42 (.slice a n c) (.slice none n' c')).run Tryd.prog w = .ok (.bool a.isNone) w := fun w a n c n' c' => Lib.run_eql_slice_nil w _ _ a n c n' c' Tryd.underlying42
  rcases hv with ⟨rfl, rfl⟩ | ⟨b, o, cap, rfl, hb, hcap, hmax, hcell⟩
  · obtain rfl := List.eq_nil_of_length_eq_zero (by omega : xs.length = 0)
    go_enter Tryd.func34, Tryd.ntmps34
    go_wp2
    go_ret
    exact ⟨_, rfl, ⟨rfl, .inl ⟨rfl, rfl⟩⟩, Below.refl _ _⟩
  · obtain ⟨i0, hi, hz0, hz1, hz2⟩ := info_parts info
    have A := Lib.hid hcell
    have hl' := Lib.hid hl
    clear hcell hl
    go_enter Tryd.func34, Tryd.ntmps34
    go_wp2_with (at_builtin; refine wpList_append_own _ rfl _ _ 42 rfl W.heap.size 55 i0 (.agg #[.int .u64 0, .int .u64 0, .bool false]) 3 24 Tryd.underlying42 hi hz0 hz1 hz2 rfl (by decide) _ _ _ rfl (World.ownsRow_made W #[] 0 (Nat.le_refl _) (Nat.zero_le _) rfl) ⟨b, o, none⟩ n cap xs rfl ?qc1 ?qc2 ?qc3 ?qc4 ?qc5 ?qc6 ?_)
    case qc1 => exact hl'.out
    case qc2 =>
      intro j u hj
      have hjn : j < n * 3 := by
        have := (List.getElem?_eq_some_iff.1 hj).1
        have := hl'.out
        omega
      rw [Addr.add_lit]
      refine Lib.cell?_alloc_some _ ?_
      rw [A.out j hjn]; exact hj
    case qc3 => exact h1
    case qc4 => unfold maxLen at *; omega
    case qc5 => omega
    case qc6 => simp
    intro v' w1 hown hgrow hnil
    go_wp2
    go_ret
    refine ⟨v', rfl, by simpa using hown, ?_⟩
    exact ((Below.refl _ W).alloc (Nat.le_refl _) _).grown hgrow (by simp) (by intro k hk; simp [Value.ownBlock] at hk; omega)
end Go.Proofs.YtkffmaeiplgjeaaDoor.CloneSpace
/- The contract of slices.Grow of the nil slice, at api.Space. -/
namespace Go.Proofs.YtkffmaeiplgjeaaDoor.GrowSpace
open Go.RowKit Go.Proofs.YtkffmaeiplgjeaaDoor.Bv Go.Proofs.YtkffmaeiplgjeaaDoor.Base Go.Proofs.YtkffmaeiplgjeaaDoor.MemL
set_option linter.unusedVariables false
set_option linter.unusedSimpArgs false
set_option maxHeartbeats 2000000 in
set_option maxRecDepth 100000 in
theorem grow_calls (n : Nat) (W : World) (hbig : n * 24 ≤ 140737488355328) :
    Calls Tryd.prog 59 #[.slice none 0 0, .int .i64 n] W fun e w' => ∃ v', e = .returned v' ∧ w'.ownsRow W.heap.size 55 3 v' 0 [] ∧ Below W.heap.size W w' := by
  obtain ⟨i0, hi0, hz0, hz1, hz2⟩ := info_parts CloneSpace.info
  have h1 : ¬ ((n : Int) < 0) := by omega
  have h3 : wrap64 (n : Int) = n := by unfold wrap64; omega
  have h3' : IntKind.i64.wrap (n : Int) = n := by rw [IntKind.wrap_i64]; omega
  by_cases h0 : n = 0
  · subst h0
    go_enter Tryd.func59, Tryd.ntmps59
    go_wp2
    go_ret
    exact ⟨_, rfl, ⟨rfl, .inl ⟨rfl, rfl⟩⟩, Below.refl _ _⟩
  · have h4 : (n : Int) > 0 := by omega
    have hrz : ∀ ty, (Builtin.append_ #[42, 3] ty #[.slice none 0 0, .int .i64 (n : Int)]).run Tryd.prog W =
        .ok (.slice (some ⟨W.heap.size, 0, none⟩) n (grownCap W n 0 55)) (W.drew.alloc (.cells (#[] ++ Builtin.zeroCells (.agg #[.int .u64 0, .int .u64 0, .bool false] : Value).cells n ++ Builtin.zeroCells (.agg #[.int .u64 0, .int .u64 0, .bool false] : Value).cells (grownCap W n 0 55 - n)) 55)) := fun ty => by
      have h := Lib.run_append_grow_zeros W 42 3 ty 55 i0 (.agg #[.int .u64 0, .int .u64 0, .bool false]) .i64 .i64 Tryd.underlying42 Tryd.underlying3 hi0 hz0 none 0 0 [] (run_firstCells_none W.drew _ 0 0 0) n (by omega) (by omega) (by omega) (by omega)
        (by rw [hz2]; omega) (growslice_fits (by omega) (by rw [hz2]; omega))
      simpa using h
    have hG : n ≤ grownCap W n 0 55 := grownCap_ge W _ _ _
    have hGm := grownCap_le_maxLen W n 0 55 (by unfold maxLen; omega)
    generalize grownCap W n 0 55 = G at hrz hG hGm
    unfold maxLen at hGm
    go_enter Tryd.func59, Tryd.ntmps59
    go_wp2_with (at_builtin; refine Lib.wpList_append_run _ rfl _ _ _ _ rfl _ _ rfl rfl _ _ (hrz _) ?_)
    all_goals
      go_ret
      refine ⟨_, rfl, ⟨rfl, .inr ⟨W.heap.size, G, _, rfl, Nat.le_refl _, heap_alloc_new _ _, by omega, by unfold maxLen; omega, ?_, rfl⟩⟩, ?_⟩
      · simp [Builtin.zeroCells, Value.cells]; omega
      · exact bel_alloc (bel_drewN (Below.refl _ _) 1) _
end Go.Proofs.YtkffmaeiplgjeaaDoor.GrowSpace
/- The contract of slices.Concat of two slices, at api.Space. -/
namespace Go.Proofs.YtkffmaeiplgjeaaDoor.ConcatSpace
open Go.RowKit Go.Proofs.YtkffmaeiplgjeaaDoor.Bv Go.Proofs.YtkffmaeiplgjeaaDoor.Base Go.Proofs.YtkffmaeiplgjeaaDoor.MemL
set_option linter.unusedVariables false
set_option linter.unusedSimpArgs false
/-- how many elements the first k have -/
def nk (n1 n2 : Nat) : Nat → Nat | 0 => 0 | 1 => n1 | _ => n1 + n2
def xk (x1 x2 : List Value) : Nat → List Value | 0 => [] | 1 => x1 | _ => x1 ++ x2
def vk (v1 v2 : Value) : Nat → Value | 0 => v1 | _ => v2
def ck (n1 n2 : Nat) : Nat → Nat | 0 => n1 | _ => n2
def yk (x1 x2 : List Value) : Nat → List Value | 0 => x1 | _ => x2
theorem nk_succ (n1 n2 k : Nat) (h : k < 2) : nk n1 n2 (k + 1) = nk n1 n2 k + ck n1 n2 k := by
  match k, h with
  | 0, _ => simp [nk, ck]
  | 1, _ => simp [nk, ck]
theorem xk_succ (n1 n2 : List Value) (k : Nat) (h : k < 2) : xk n1 n2 (k + 1) = xk n1 n2 k ++ yk n1 n2 k := by
  match k, h with
  | 0, _ => simp [xk, yk]
  | 1, _ => simp [xk, yk]
theorem nk_le (n1 n2 k : Nat) : nk n1 n2 k ≤ n1 + n2 := by
  match k with
  | 0 => simp [nk]
  | 1 => simp [nk]
  | k + 2 => simp [nk]
theorem sl_shape {w : World} {v : Value} {n k : Nat} {xs : List Value} (h : Sl w v n k xs) : ∃ a c, v = .slice a n c := by
  obtain ⟨_, ⟨rfl, hn⟩ | ⟨b, o, cap, rfl, _⟩⟩ := h
  · exact ⟨_, _, by rw [hn]⟩
  · exact ⟨_, _, rfl⟩
theorem sl_k {w : World} {v1 v2 : Value} {n1 n2 : Nat} {x1 x2 : List Value} (h1 : Sl w v1 n1 3 x1) (h2 : Sl w v2 n2 3 x2) (k : Nat) : Sl w (vk v1 v2 k) (ck n1 n2 k) 3 (yk x1 x2 k) := by
  cases k with
  | zero => exact h1
  | succ k => exact h2
theorem one_k {x1 x2 : List Value} (h1 : ∀ u ∈ x1, u.oneCell' = true) (h2 : ∀ u ∈ x2, u.oneCell' = true) (k : Nat) : ∀ u ∈ yk x1 x2 k, u.oneCell' = true := by
  cases k with
  | zero => exact h1
  | succ k => exact h2
set_option maxHeartbeats 4000000 in
set_option maxRecDepth 100000 in
theorem concat_calls (vb : Nat) (v1 v2 : Value) (n1 n2 : Nat) (x1 x2 : List Value) (W : World) (hc : Bx W vb #[v1, v2]) (s1 : Sl W v1 n1 3 x1) (s2 : Sl W v2 n2 3 x2) (o1 : ∀ u ∈ x1, u.oneCell' = true) (o2 : ∀ u ∈ x2, u.oneCell' = true)
    (hbig : (n1 + n2) * 24 ≤ 140737488355328) :
    Calls Tryd.prog 36 #[.slice (some ⟨vb, 0, none⟩) 2 2] W fun e w' => ∃ v', e = .returned v' ∧ w'.ownsRow W.heap.size 55 3 v' (n1 + n2) (x1 ++ x2) ∧ Below W.heap.size W w' := by
  obtain ⟨i0, hi0, hz0, hz1, hz2⟩ := info_parts CloneSpace.info
  have hcell : ∀ k, k < 2 → W.cell? ⟨vb, k, none⟩ = some (vk v1 v2 k) := fun k hk => by
    match k, hk with
    | 0, _ => exact hc.cell 0
    | 1, _ => exact hc.cell 1
  have hsk := fun k => sl_k s1 s2 k
  have hok := fun k => one_k o1 o2 k
  go_enter Tryd.func36, Tryd.ntmps36
  go_wp2
  go_loopw [3, 11] (fun s i wr => ∃ k : Nat, k ≤ 2 ∧ i = .int .i64 k ∧ s = .int .i64 (nk n1 n2 k) ∧ Below W.heap.size W wr) (fun _ i _ => 2 - (intOf i).toNat)
  case atStart => exact ⟨0, by omega, rfl, rfl, Below.refl _ _⟩
  case round =>
    obtain ⟨k, hk, rfl, rfl, br⟩ := hrel
    by_cases hk2 : k < 2
    · have r0 : wr.cell? ⟨vb, k, none⟩ = some (vk v1 v2 k) := (br.cell (p := ⟨vb, k, none⟩) hc.lt).trans (hcell k hk2)
      obtain ⟨a, c, hv⟩ := sl_shape (hsk k)
      rw [hv] at r0
      have hs := nk_succ n1 n2 k hk2
      have hl := nk_le n1 n2 (k + 1)
      have hw : IntKind.i64.wrap (((nk n1 n2 k : Nat) : Int) + ((ck n1 n2 k : Nat) : Int)) = ((nk n1 n2 (k + 1) : Nat) : Int) := by rw [IntKind.wrap_i64]; omega
      have HS := Lib.hid hs
      clear hs
      go_wp2
      exact ⟨⟨k + 1, by omega, by go_num, rfl, br⟩, by simp [intOf]; omega⟩
    · obtain rfl : k = 2 := by omega
      have hn2 : nk n1 n2 2 = n1 + n2 := rfl
      go_wp2_with fail
      refine (Go.Proofs.YtkffmaeiplgjeaaDoor.GrowSpace.grow_calls (n1 + n2) wr hbig).mono ?_
      rintro e w2 ⟨v0, rfl, O2, b2⟩
      have B2 := bel_trans br b2
      have O2' : w2.ownsRow W.heap.size 55 3 v0 0 [] := by
        obtain ⟨p1, p2⟩ := O2
        refine ⟨p1, ?_⟩
        rcases p2 with p2 | ⟨g, cap, cur, hv, hg, r⟩
        · exact .inl p2
        · exact .inr ⟨g, cap, cur, hv, Nat.le_trans br.size hg, r⟩
      clear O2 b2 br
      go_wp2
      go_loopw [6, 27] (fun v i wr => ∃ k : Nat, k ≤ 2 ∧ i = .int .i64 k ∧ wr.ownsRow W.heap.size 55 3 v (nk n1 n2 k) (xk x1 x2 k) ∧ Below W.heap.size W wr) (fun _ i _ => 2 - (intOf i).toNat)
      case atStart => exact ⟨0, by omega, rfl, O2', B2⟩
      case round =>
        obtain ⟨k, hk, rfl, O, br⟩ := hrel
        by_cases hk2 : k < 2
        · have r0 : wr.cell? ⟨vb, k, none⟩ = some (vk v1 v2 k) := (br.cell (p := ⟨vb, k, none⟩) hc.lt).trans (hcell k hk2)
          have hs := nk_succ n1 n2 k hk2
          have hx := xk_succ x1 x2 k hk2
          have hl := nk_le n1 n2 (k + 1)
          have hsl := (hsk k).below br
          have ho := hok k
          obtain ⟨hyl, hsl⟩ := hsl
          have fin : ∀ v' w', w'.ownsRow W.heap.size 55 3 v' (nk n1 n2 k + ck n1 n2 k) (xk x1 x2 k ++ yk x1 x2 k) → Below W.heap.size W w' → w'.ownsRow W.heap.size 55 3 v' (nk n1 n2 (k + 1)) (xk x1 x2 (k + 1)) := fun v' w' h _ => by rw [hs, hx]; exact h
          have FIN := Lib.hid fin
          have HS := Lib.hid hs
          clear fin hs hx
          rcases hsl with ⟨hv, hn⟩ | ⟨b, o, cap, hv, hb, hcap, hmax, hce⟩
          · rw [hv] at r0
            have hy0 : yk x1 x2 k = [] := List.eq_nil_of_length_eq_zero (by rw [hyl, hn, Nat.zero_mul])
            go_wp2_with (at_builtin; refine wpList_append_own_none rfl _ _ 42 rfl W.heap.size 55 i0 3 Tryd.underlying42 hi0 _ _ _ rfl O rfl ?_)
            refine ⟨⟨k + 1, by omega, by go_num, ?_, br⟩, by simp [intOf]; omega⟩
            refine FIN.out _ _ ?_ br
            rw [hy0, hn, List.append_nil, Nat.add_zero]
            exact O
          · rw [hv] at r0
            have hsz := br.size
            have HC := Lib.hid hce
            have HY := Lib.hid hyl
            clear hce hyl
            unfold maxLen at hmax
            go_wp2_with (at_builtin; refine wpList_append_own _ rfl _ _ 42 rfl W.heap.size 55 i0 (.agg #[.int .u64 0, .int .u64 0, .bool false]) 3 24 Tryd.underlying42 hi0 hz0 hz1 hz2 rfl (by decide) _ _ _ rfl O ⟨b, o, none⟩ (ck n1 n2 k) cap (yk x1 x2 k) rfl ?qc1 ?qc2 ?qc3 ?qc4 ?qc5 ?qc6 ?_)
            case qc1 => exact HY.out
            case qc2 =>
              intro j u hj
              have hjn : j < ck n1 n2 k * 3 := by
                have := (List.getElem?_eq_some_iff.1 hj).1
                have := HY.out
                omega
              rw [Addr.add_lit]
              rw [HC.out j hjn]; exact hj
            case qc3 => exact ho
            case qc4 => have := HS.out; unfold maxLen; omega
            case qc5 => have := HS.out; omega
            case qc6 => exact hsz
            intro v' w1 hown hgrow hnil
            go_wp2
            have br' : Below W.heap.size W w1 := br.grown hgrow hsz (fun g hg => (O.lt g hg).1)
            exact ⟨⟨k + 1, by omega, by go_num, FIN.out _ _ hown br', br'⟩, by simp [intOf]; omega⟩
        · obtain rfl : k = 2 := by omega
          go_wp2
          go_ret
          exact ⟨_, rfl, O, br⟩
end Go.Proofs.YtkffmaeiplgjeaaDoor.ConcatSpace
