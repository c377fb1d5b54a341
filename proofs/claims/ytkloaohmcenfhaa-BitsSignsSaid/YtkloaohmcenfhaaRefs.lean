/- The reference's fields, made of arrays of bits, and the walks of the laws BitsFields and BitsSigns: both sides come to the same word. -/
import Derived.Test.YtkloaohmcenfhaaPBitsFieldsx1
import Derived.Test.YtkloaohmcenfhaaBv
import Derived.Lib.Hide
namespace Go.Proofs.Ytkloaohmcenfhaa.Refs
set_option linter.unusedVariables false
open Go.RowKit Go.Proofs.Ytkloaohmcenfhaa.PBitsFields Go.Proofs.YtkloaohmcenfhaaW.PrintWords Go.Proofs.YtkloaohmcenfhaaW.PrintLast Go.Proofs.YtkloaohmcenfhaaW.PrintMore Go.Proofs.Ytkloaohmcenfhaa.Bv
def hi (f : Nat → Bool) : Nat → Nat
  | 0 => 0
  | k + 1 => 2 * hi f k + (f (63 - k)).toNat
theorem hi_succ (f : Nat → Bool) (k : Nat) : hi f (k + 1) = 2 * hi f k + (f (63 - k)).toNat := rfl
theorem hi_lt (f : Nat → Bool) (k : Nat) : hi f k < 2 ^ k := by
  induction k with
  | zero => simp [hi]
  | succ k ih => rw [hi_succ]; have := Bool.toNat_le (f (63 - k)); rw [Nat.pow_succ]; omega
set_option maxHeartbeats 400000 in
set_option maxRecDepth 100000 in
theorem of_calls (f : Nat → Bool) (cs : Array Value) (w : World) (hsz : cs.size = 64) (hget : ∀ k, k < 64 → cs[k]? = some (.bool (f k))) :
    Calls Try.prog 19 #[.agg cs] w fun e w' => e = .returned (.int .u64 (hi f 64)) ∧ Below w.heap.size w w' := by
  have Hs := Lib.hid hsz; clear hsz
  have Hg := Lib.hid hget; clear hget
  go_enter Try.func19, Try.ntmps19
  go_wp2
  go_loop [3, 4] (fun x i => ∃ k : Nat, k ≤ 64 ∧ i = .int .i64 (63 - k) ∧ x = .int .u64 (hi f k)) (fun _ i => (intOf i + 1).toNat)
  case atStart => exact ⟨0, by omega, rfl, rfl⟩
  case round =>
    obtain ⟨k, hk, rfl, rfl⟩ := hrel
    by_cases hlt : k < 64
    · obtain ⟨j, hj⟩ : ∃ j : Nat, j = 63 - k := ⟨_, rfl⟩
      have hb := hi_lt f k
      have hp : 2 ^ k ≤ 2 ^ 63 := Nat.pow_le_pow_right (by decide) (by omega)
      have hb2 : (hi f k : Int) ≤ 9223372036854775807 := by omega
      clear hb hp
      have hc : (w.alloc (.cells cs 36)).cell? ⟨w.heap.size, j, none⟩ = some (.bool (f j)) := by
        rw [cell_of_row _ _ _ cs 36 (0, 0) (heap_alloc_new w _)]; exact Hg.out j (by omega)
      rw [show (63 : Int) - k = (j : Int) by omega]
      have hj2 : j < 64 := by omega
      have Hj := Lib.hid hj; clear hj
      cases hf : f j
      all_goals
        rw [hf] at hc
        go_wp2
        go_round
        case rel =>
          refine ⟨k + 1, by omega, by rw [show (j : Int) - 1 = 63 - ((k + 1 : Nat) : Int) by have := Hj.out; omega], ?_⟩
          rw [hi_succ, ← Hj.out, hf]; go_num
        case measure => have := Hj.out; simp [intOf]
    · obtain rfl : k = 64 := by omega
      go_wp2
      go_ret
      exact ⟨rfl, (Below.refl _ _).alloc (Nat.le_refl _) _⟩

theorem hi_shift (y : BitVec 64) (f : Nat → Bool) (h : ∀ j, j < 64 → f j = y.getLsbD j) : ∀ k, k ≤ 64 → hi f k = y.toNat / 2 ^ (64 - k) := by
  intro k
  induction k with
  | zero => intro _; have := y.isLt; rw [Nat.div_eq_of_lt (by simpa using this)]; rfl
  | succ k ih =>
    intro hk
    rw [hi_succ, ih (by omega), h _ (by omega), BitVec.getLsbD, Nat.testBit, Nat.shiftRight_eq_div_pow, Nat.and_comm, Nat.and_one_is_mod, show 64 - k = (63 - k) + 1 by omega, show 64 - (k + 1) = 63 - k by omega, Nat.pow_succ, ← Nat.div_div_eq_div_mul]
    generalize y.toNat / 2 ^ (63 - k) = q
    rcases Nat.mod_two_eq_zero_or_one q with e | e <;> rw [e] <;> simp <;> omega
theorem hi_val (y : BitVec 64) (f : Nat → Bool) (h : ∀ j, j < 64 → f j = y.getLsbD j) : ((hi f 64 : Nat) : Int) = B y := by
  rw [hi_shift y f h 64 (by omega)]; simp [B]
theorem bit_l0 (x : BitVec 64) (i : Nat) (hi : i ≤ 63) : ∀ d k j : Nat, j + d = i → d < k → atlasref01_Bit.l0 k (B (x >>> j)) (i : Int) (j : Int) = some (x.getLsbD i) := by
  intro d
  induction d with
  | zero =>
    intro k j hj hk
    obtain ⟨k, rfl⟩ : ∃ m, k = m + 1 := ⟨k - 1, by omega⟩
    obtain rfl : j = i := by omega
    simp only [atlasref01_Bit.l0]
    rw [if_neg (by omega)]
    unfold B
    rw [BitVec.toNat_ushiftRight, BitVec.getLsbD, Nat.testBit, Nat.shiftRight_eq_div_pow]
    rw [show Int.tmod ((x.toNat / 2 ^ j : Nat) : Int) 2 = ((x.toNat / 2 ^ j % 2 : Nat) : Int) from rfl]
    rw [Nat.and_comm, Nat.and_one_is_mod]
    have := Nat.mod_two_eq_zero_or_one (x.toNat / 2 ^ j)
    rcases this with h | h <;> rw [h] <;> rfl
  | succ d ih =>
    intro k j hj hk
    obtain ⟨k, rfl⟩ : ∃ m, k = m + 1 := ⟨k - 1, by omega⟩
    simp only [atlasref01_Bit.l0]
    rw [if_pos (by omega), show wrap64 ((j : Int) + 1) = ((j + 1 : Nat) : Int) by unfold wrap64; omega]
    rw [show IntKind.u64.wrap (Int.tdiv (B (x >>> j)) 2) = B (x >>> (j + 1)) by
      rw [show Int.tdiv (B (x >>> j)) 2 = (((x >>> j).toNat / 2 : Nat) : Int) from rfl, wrap_u64]
      unfold B
      rw [BitVec.toNat_ushiftRight, BitVec.toNat_ushiftRight, Nat.shiftRight_eq_div_pow, Nat.shiftRight_eq_div_pow, Nat.div_div_eq_div_mul, ← Nat.pow_succ]
      rw [Nat.succ_eq_add_one]
      have h1 := x.isLt
      have h2 : x.toNat / 2 ^ (j + 1) ≤ x.toNat := Nat.div_le_self _ _
      generalize x.toNat / 2 ^ (j + 1) = q at *
      omega]
    exact ih k (j + 1) (by omega) (by omega)
theorem bit_f (x : BitVec 64) (i : Nat) (h : i ≤ 200) : atlasref01_Bit.f 66 (B x) (i : Int) = some (x.getLsbD i) := by
  unfold atlasref01_Bit.f
  rw [if_neg (by omega)]
  by_cases h1 : i ≤ 63
  · rw [show decide ((i : Int) > 63) = false by simp; omega]
    simp only [atlasref01_Bit.j0]
    rw [if_neg (by decide)]
    have := bit_l0 x i h1 i 65 0 (by omega) (by omega)
    simpa using this
  · rw [show decide ((i : Int) > 63) = true by simp; omega]
    simp only [atlasref01_Bit.j0]
    rw [if_pos trivial, BitVec.getLsbD_of_ge _ _ (by omega)]
def bt (x : BitVec 64) (i : Nat) : Bool := x.getLsbD i
theorem bit_any (x : BitVec 64) (i : Int) (w : World) (h0 : 0 ≤ i) (h : i ≤ 200) :
    Calls Try.prog 18 #[.int .u64 (B x), .int .i64 i] w fun e w' => e = .returned (.bool (bt x i.toNat)) ∧ Drawn0 w w' := by
  obtain ⟨n, rfl⟩ := Int.eq_ofNat_of_zero_le h0
  exact atlasref01_Bit.calls 66 (B x) n _ w (bit_f x n (by omega))

def Arr (w : World) (b : Nat) (f : Nat → Bool) : Prop := ∃ cs, w.heap[b]? = some (Obj.cells cs 36 (0, 0)) ∧ cs.size = 64 ∧ ∀ k, k < 64 → cs[k]? = some (.bool (f k))
theorem Arr.cell {w : World} {b : Nat} {f : Nat → Bool} (h : Arr w b f) (k : Nat) (hk : k < 64) : w.cell? ⟨b, k, none⟩ = some (.bool (f k)) := by
  obtain ⟨cs, h1, _, h3⟩ := h; rw [cell_of_row _ _ _ cs 36 (0, 0) h1]; exact h3 k hk
theorem Arr.frozen {w : World} {b : Nat} {f : Nat → Bool} (h : Arr w b f) (k : Nat) : w.frozen? ⟨b, k, none⟩ = false := by
  obtain ⟨cs, h1, _, h3⟩ := h; exact frozen_of_row _ _ _ cs 36 h1
theorem Arr.drewN {w : World} {b : Nat} {f : Nat → Bool} (h : Arr w b f) (n : Nat) : Arr (w.drewN n) b f := h
theorem Arr.set {w : World} {b : Nat} {f : Nat → Bool} (h : Arr w b f) (k : Nat) (v : Bool) : Arr (w.setCell ⟨b, k, none⟩ (.bool v)) b (fun j => if j = k then v else f j) := by
  obtain ⟨cs, h1, h2, h3⟩ := h
  refine ⟨_, heap_setCell_same w b k cs 36 _ h1, by simp [h2], ?_⟩
  intro j hj
  rw [Array.getElem?_setIfInBounds]
  by_cases e : k = j
  · subst e; simp [h2, hj]
  · simp [e, Ne.symm e, h3 j hj]
theorem Arr.congr {w : World} {b : Nat} {f g : Nat → Bool} (h : Arr w b f) (e : ∀ k, k < 64 → f k = g k) : Arr w b g := by
  obtain ⟨cs, h1, h2, h3⟩ := h; exact ⟨cs, h1, h2, fun k hk => by rw [h3 k hk, e k hk]⟩
theorem Arr.zero (w : World) : Arr (w.alloc (Obj.cells #[.bool false, .bool false, .bool false, .bool false, .bool false, .bool false, .bool false, .bool false, .bool false, .bool false, .bool false, .bool false, .bool false, .bool false, .bool false, .bool false, .bool false, .bool false, .bool false, .bool false, .bool false, .bool false, .bool false, .bool false, .bool false, .bool false, .bool false, .bool false, .bool false, .bool false, .bool false, .bool false, .bool false, .bool false, .bool false, .bool false, .bool false, .bool false, .bool false, .bool false, .bool false, .bool false, .bool false, .bool false, .bool false, .bool false, .bool false, .bool false, .bool false, .bool false, .bool false, .bool false, .bool false, .bool false, .bool false, .bool false, .bool false, .bool false, .bool false, .bool false, .bool false, .bool false, .bool false, .bool false] 36)) w.heap.size (fun _ => false) := by
  refine ⟨_, heap_alloc_new w _, by rfl, ?_⟩
  intro k hk
  have : ∀ k : Fin 64, (Array.replicate 64 (Value.bool false))[k.val]? = some (.bool false) := by intro k; simp
  exact this ⟨k, hk⟩
set_option maxHeartbeats 400000 in
set_option maxRecDepth 100000 in
theorem get_any (x : BitVec 64) (lo n : Nat) (w : World) (hl : lo ≤ 64) (hn : n ≤ 64) :
    Calls Try.prog 10 #[.int .u64 (B x), .int .i64 lo, .int .i64 n] w fun e w' => e = .returned (.int .u64 (B (getB x lo n))) ∧ Below w.heap.size w w' := by
  go_enter Try.func10, Try.ntmps10
  go_wp2
  go_loopw [8] (fun i wr => ∃ k : Nat, k ≤ n ∧ i = .int .i64 k ∧ Arr wr w.heap.size (fun j => decide (j < k) && bt x (lo + j)) ∧ Below w.heap.size w wr) (fun i _ => n - (intOf i).toNat)
  case atStart => exact ⟨0, by omega, rfl, (Arr.zero w).congr (by intro k _; simp), (Below.refl _ _).alloc (Nat.le_refl _) _⟩
  case round =>
    obtain ⟨k, hk, rfl, ha, hb⟩ := hrel
    by_cases hlt : k < n
    · have hc := ha.cell k (by omega)
      have hz := ha.frozen k
      go_wp2_with (go_at_call 18; refine (bit_any x _ _ (by omega) (by omega)).mono ?_; rintro e w' ⟨rfl, ⟨nd, rfl⟩⟩)
      refine ⟨?_, ?_⟩
      · refine ⟨k + 1, by omega, by go_num, (Arr.set (w := wr.drewN nd) ha k _).congr ?_, (hb.trans ((Drawn0.below ⟨nd, rfl⟩).mono hb.size)).setCell (Nat.le_refl _) _⟩
        intro j hj
        by_cases e : j = k
        · subst e; simp
        · rw [if_neg e]; by_cases e2 : j < k
          · simp [e2, show j < k + 1 by omega]
          · simp [e2, show ¬ j < k + 1 by omega]
      · simp [intOf]; omega
    · obtain rfl : k = n := by omega
      obtain ⟨cs, h1, h2, h3⟩ := ha
      have Hh := Lib.hid h1; clear h1
      have Hs := Lib.hid h2; clear h2
      have H3 := Lib.hid h3; clear h3
      go_wp2_with (first | (with_reducible refine wpList_load_row rfl 36 _ rfl w.heap.size rfl 36 cs (0, 0) _ Hh.out Try.underlying36 rfl (by rw [Hs.out]; kernel_rfl) ?_) | (go_at_call 19; refine (of_calls _ cs _ Hs.out H3.out).mono ?_; rintro e w' ⟨rfl, bel⟩))
      go_ret
      refine ⟨?_, hb.trans (bel.mono hb.size)⟩
      show Ending.returned (.int .u64 (hi (fun j => decide (j < k) && bt x (lo + j)) 64 : Nat)) = _
      rw [hi_val (getB x lo k) _ (fun j hj => by rw [getB_bit]; rfl)]
theorem Arr.next {wr : World} {b k nd : Nat} {g : Nat → Bool} {v : Bool} (ha : Arr wr b (fun j => decide (j < k) && g j)) (e : v = g k) :
    Arr ((wr.drewN nd).setCell ⟨b, k, none⟩ (.bool v)) b (fun j => decide (j < k + 1) && g j) := by
  refine (Arr.set (w := wr.drewN nd) ha k _).congr ?_
  intro j hj
  by_cases e1 : j = k
  · subst e1; simp [e]
  · rw [if_neg e1]; by_cases e2 : j < k
    · simp [e2, show j < k + 1 by omega]
    · simp [e2, show ¬ j < k + 1 by omega]
theorem Arr.next2 {wr : World} {b k nd nd2 : Nat} {g : Nat → Bool} {u v : Bool} (ha : Arr wr b (fun j => decide (j < k) && g j)) (e : v = g k) :
    Arr ((((wr.drewN nd).setCell ⟨b, k, none⟩ (.bool u)).drewN nd2).setCell ⟨b, k, none⟩ (.bool v)) b (fun j => decide (j < k + 1) && g j) := by
  refine (Arr.set (Arr.drewN (Arr.set (w := wr.drewN nd) ha k u) nd2) k v).congr ?_
  intro j hj
  by_cases e1 : j = k
  · subst e1; simp [e]
  · rw [if_neg e1, if_neg e1]; by_cases e2 : j < k
    · simp [e2, show j < k + 1 by omega]
    · simp [e2, show ¬ j < k + 1 by omega]
theorem below_put {w wr : World} (hb : Below w.heap.size w wr) (k nd : Nat) (v : Value) : Below w.heap.size w ((wr.drewN nd).setCell ⟨w.heap.size, k, none⟩ v) :=
  (hb.trans ((Drawn0.below ⟨nd, rfl⟩).mono hb.size)).setCell (Nat.le_refl _) _
set_option maxHeartbeats 400000 in
set_option maxRecDepth 100000 in
theorem sign_any (x : BitVec 64) (n : Nat) (w : World) (h1n : 1 ≤ n) (hn : n ≤ 64) :
    Calls Try.prog 14 #[.int .u64 (B x), .int .i64 n] w fun e w' => e = .returned (.int .u64 (B (signB x n))) ∧ Below w.heap.size w w' := by
  go_enter Try.func14, Try.ntmps14
  go_wp2
  go_loopw [6] (fun i wr => ∃ k : Nat, k ≤ 64 ∧ i = .int .i64 k ∧ Arr wr w.heap.size (fun j => decide (j < k) && bt x (min j (n - 1))) ∧ Below w.heap.size w wr) (fun i _ => 64 - (intOf i).toNat)
  case atStart => exact ⟨0, by omega, rfl, (Arr.zero w).congr (by intro k _; simp), (Below.refl _ _).alloc (Nat.le_refl _) _⟩
  case round =>
    obtain ⟨k, hk, rfl, ha, hb⟩ := hrel
    by_cases hlt : k < 64
    · have hc := ha.cell k (by omega)
      have hz := ha.frozen k
      by_cases hm : k ≤ n - 1
      all_goals
        go_wp2_with (go_at_call 18; (with_reducible refine (bit_any _ _ _ (by omega) (by omega)).mono ?_); rintro e w' ⟨rfl, ⟨nd, rfl⟩⟩)
        refine ⟨⟨k + 1, by omega, by go_num, ha.next (by congr 1; omega), (hb.trans ((Drawn0.below ⟨nd, rfl⟩).mono hb.size)).setCell (Nat.le_refl _) _⟩, ?_⟩
        simp [intOf]; omega
    · obtain rfl : k = 64 := by omega
      obtain ⟨cs, h1, h2, h3⟩ := ha
      have Hh := Lib.hid h1; clear h1
      have Hs := Lib.hid h2; clear h2
      have H3 := Lib.hid h3; clear h3
      go_wp2_with (first | (with_reducible refine wpList_load_row rfl 36 _ rfl w.heap.size rfl 36 cs (0, 0) _ Hh.out Try.underlying36 rfl (by rw [Hs.out]; kernel_rfl) ?_) | (go_at_call 19; refine (of_calls _ cs _ Hs.out H3.out).mono ?_; rintro e w' ⟨rfl, bel⟩))
      go_ret
      refine ⟨?_, hb.trans (bel.mono hb.size)⟩
      show Ending.returned (.int .u64 (hi (fun j => decide (j < 64) && bt x (min j (n - 1))) 64 : Nat)) = _
      rw [hi_val (signB x n) _ (fun j hj => by rw [signB_bit _ _ _ h1n hn]; rfl)]
set_option maxHeartbeats 800000 in
set_option maxRecDepth 100000 in
theorem set_any (x v : BitVec 64) (lo n : Nat) (w : World) (hl : lo ≤ 64) (hn : n ≤ 64) :
    Calls Try.prog 12 #[.int .u64 (B x), .int .i64 lo, .int .i64 n, .int .u64 (B v)] w fun e w' => e = .returned (.int .u64 (B (setB x lo n v))) ∧ Below w.heap.size w w' := by
  go_enter Try.func12, Try.ntmps12
  go_wp2
  go_loopw [10] (fun i wr => ∃ k : Nat, k ≤ 64 ∧ i = .int .i64 k ∧ Arr wr w.heap.size (fun j => decide (j < k) && (if lo ≤ j ∧ j < lo + n then bt v (j - lo) else bt x j)) ∧ Below w.heap.size w wr) (fun i _ => 64 - (intOf i).toNat)
  case atStart => exact ⟨0, by omega, rfl, (Arr.zero w).congr (by intro k _; simp), (Below.refl _ _).alloc (Nat.le_refl _) _⟩
  case round =>
    obtain ⟨k, hk, rfl, ha, hb⟩ := hrel
    by_cases hlt : k < 64
    · have hc := ha.cell k (by omega)
      have hz := ha.frozen k
      by_cases h1 : lo ≤ k
      · by_cases h2 : k < lo + n
        · have hd : decide ((k : Int) < (lo : Int) + (n : Int)) = true := by simp; omega
          go_wp2_with (go_at_call 18; (with_reducible refine (bit_any _ _ _ (by omega) (by omega)).mono ?_); rintro e w' ⟨rfl, ⟨nd, rfl⟩⟩)
          refine ⟨⟨k + 1, by omega, by go_num, ha.next2 (by rw [if_pos ⟨h1, h2⟩]), below_put (below_put hb _ _ _) _ _ _⟩, ?_⟩
          simp [intOf]; omega
        · have hd : decide ((k : Int) < (lo : Int) + (n : Int)) = false := by simp; omega
          go_wp2_with (go_at_call 18; (with_reducible refine (bit_any _ _ _ (by omega) (by omega)).mono ?_); rintro e w' ⟨rfl, ⟨nd, rfl⟩⟩)
          refine ⟨⟨k + 1, by omega, by go_num, ha.next (by rw [if_neg (by omega)]), below_put hb _ _ _⟩, ?_⟩
          simp [intOf]; omega
      · go_wp2_with (go_at_call 18; (with_reducible refine (bit_any _ _ _ (by omega) (by omega)).mono ?_); rintro e w' ⟨rfl, ⟨nd, rfl⟩⟩)
        refine ⟨⟨k + 1, by omega, by go_num, ha.next (by rw [if_neg (by omega)]), below_put hb _ _ _⟩, ?_⟩
        simp [intOf]; omega
    · obtain rfl : k = 64 := by omega
      obtain ⟨cs, h1, h2, h3⟩ := ha
      have Hh := Lib.hid h1; clear h1
      have Hs := Lib.hid h2; clear h2
      have H3 := Lib.hid h3; clear h3
      go_wp2_with (first | (with_reducible refine wpList_load_row rfl 36 _ rfl w.heap.size rfl 36 cs (0, 0) _ Hh.out Try.underlying36 rfl (by rw [Hs.out]; kernel_rfl) ?_) | (go_at_call 19; refine (of_calls _ cs _ Hs.out H3.out).mono ?_; rintro e w' ⟨rfl, bel⟩))
      go_ret
      refine ⟨?_, hb.trans (bel.mono hb.size)⟩
      show Ending.returned (.int .u64 (hi (fun j => decide (j < 64) && (if lo ≤ j ∧ j < lo + n then bt v (j - lo) else bt x j)) 64 : Nat)) = _
      rw [hi_val (setB x lo n v) _ (fun j hj => by rw [setB_bit]; rfl)]

theorem mask_f (n : Nat) (h : n ≤ 64) : bits_mask.f (n : Int) = some (B (mB n)) := by
  unfold bits_mask.f
  by_cases e : n = 64
  · subst e; rw [if_pos (by omega), mB_64]
  · rw [if_neg (by omega), wrap_nat n (by omega), if_pos (by omega)]
    have h1 : (2 : Int) ^ n = ((2 ^ n : Nat) : Int) := by norm_cast
    have h2 : 2 ^ n < 2 ^ 64 := Nat.pow_lt_pow_right (by decide) (by omega)
    have h3 := Nat.two_pow_pos n
    congr 1
    rw [mB_val n (by omega)]
    unfold shl
    rw [Int.one_mul, Int.toNat_natCast, show IntKind.bits .u64 = 64 from rfl, Nat.min_eq_left h, h1, wrap_u64, wrap_u64]
    omega
theorem shl_f (x : BitVec 64) (n : Nat) : shl .u64 (B x) (n : Int) = B (x <<< n) := by
  unfold shl; rw [Int.toNat_natCast]; exact shl_B x n
theorem shr_f (x : BitVec 64) (n : Nat) : shr .u64 (B x) (n : Int) = B (x >>> n) := by
  unfold shr; rw [Int.toNat_natCast]; exact shr_B x n
theorem Get_f (x : BitVec 64) (lo n : Nat) (hl : lo ≤ 64) (h : n ≤ 64) : bits_Get.f (B x) (lo : Int) (n : Int) = some (B (getB x lo n)) := by
  unfold bits_Get.f
  rw [wrap_nat lo (by omega), if_pos (by omega), mask_f n h, Option.bind_some, shr_f, and_B]; rfl
theorem Get_f0 (x : BitVec 64) (n : Nat) (h : n ≤ 64) : bits_Get.f (B x) 0 (n : Int) = some (B (getB x 0 n)) := Get_f x 0 n (by omega) h
theorem Get_f64 (x : BitVec 64) (n : Nat) (h : n ≤ 64) : bits_Get.f (B x) 64 (n : Int) = some (B (getB x 64 n)) := Get_f x 64 n (by omega) h
theorem Get_ft (x : BitVec 64) (lo : Nat) (h : lo ≤ 64) : bits_Get.f (B x) (lo : Int) 64 = some (B (getB x lo 64)) := Get_f x lo 64 h (by omega)
theorem Get_f1 (x : BitVec 64) (lo : Nat) (h : lo ≤ 64) : bits_Get.f (B x) (lo : Int) 1 = some (B (getB x lo 1)) := Get_f x lo 1 h (by omega)
theorem Set_f (x v : BitVec 64) (lo n : Nat) (hl : lo ≤ 64) (h : n ≤ 64) : bits_Set.f (B x) (lo : Int) (n : Int) (B v) = some (B (setB x lo n v)) := by
  unfold bits_Set.f
  rw [mask_f n h, Option.bind_some, wrap_nat lo (by omega), if_pos (by omega), shl_f, shl_f, and_B, andNot_B, or_B]; rfl
theorem Sign_f (x : BitVec 64) (n : Nat) (h1 : 1 ≤ n) (h : n ≤ 64) : bits_Sign.f (B x) (n : Int) = some (B (signB x n)) := by
  unfold bits_Sign.f
  rw [show wrap64 (64 - (n : Int)) = ((64 - n : Nat) : Int) by unfold wrap64; omega, wrap_nat (64 - n) (by omega), if_pos (by omega), shl_f]
  congr 1
  unfold shr signB
  rw [wrap64_B, Int.toNat_natCast]
  exact sshr_B _ _
theorem Set_f0 (v : BitVec 64) (n : Nat) (h : n ≤ 64) : bits_Set.f 0 0 (n : Int) (B v) = some (B (setB 0#64 0 n v)) := Set_f 0#64 v 0 n (by omega) h
theorem awake_f : atlaslaw01_awake.f = some true := by decide +kernel
set_option maxHeartbeats 800000 in
set_option maxRecDepth 100000 in
theorem fields_walk (x v : BitVec 64) (n1 n2 : Nat) (w : World) (h1 : n1 < 256) (h2 : n2 < 256) :
    Calls Try.prog 3 #[.int .u64 (B x), .int .u8 n1, .int .u8 n2, .int .u64 (B v)] w fun e w' => e = .returned (.bool true) ∧ Below w.heap.size w w' := by
  obtain ⟨l, hl, el⟩ : ∃ l : Nat, l ≤ 64 ∧ (n1 : Int) % 65 = (l : Int) := ⟨n1 % 65, by omega, by omega⟩
  obtain ⟨m, hm, em⟩ : ∃ l : Nat, l ≤ 64 ∧ (n2 : Int) % 65 = (l : Int) := ⟨n2 % 65, by omega, by omega⟩
  have El := Lib.hid el; clear el
  have Em := Lib.hid em; clear em
  go_enter Try.func3, Try.ntmps3
  go_wp2_with (first | (go_at_call 8; refine (atlaslaw01_awake.calls true _ awake_f).mono ?_; rintro e w' ⟨rfl, ⟨nd, rfl⟩⟩))
  rw [El.out, Em.out]
  refine (bits_Get.calls (B x) l m _ _ (Get_f x l m hl hm)).mono ?_
  rintro e w1 ⟨rfl, b1⟩
  go_wp2_with fail
  refine (get_any x l m _ hl hm).mono ?_
  rintro e w2 ⟨rfl, b2⟩
  go_wp2_with fail
  refine (bits_Set.calls (B x) l m (B v) _ _ (Set_f x v l m hl hm)).mono ?_
  rintro e w3 ⟨rfl, b3⟩
  go_wp2_with fail
  refine (set_any x v l m _ hl hm).mono ?_
  rintro e w4 ⟨rfl, b4⟩
  go_wp2
  go_ret
  have c1 := b1.below
  have c3 := b3.below
  refine ⟨rfl, ?_⟩
  have d0 : Below w.heap.size w (w.drewN nd) := (Drawn0.below ⟨nd, rfl⟩)
  have d1 := d0.trans (c1.mono d0.size)
  have d2 := d1.trans (b2.mono d1.size)
  have d3 := d2.trans (c3.mono d2.size)
  exact d3.trans (b4.mono d3.size)
theorem sign_fact (x : BitVec 64) : B x = 0 ↔ x = 0#64 := by
  rw [show (0 : Int) = B 0#64 by decide, B_inj]
theorem even_fact (x y : BitVec 64) (h : 1 ≤ B y) : IntKind.u64.wrap (B x - IntKind.u64.wrap (IntKind.u64.wrap ((B x).tdiv (B y)) * B y)) = Int.tmod (B x) (B y) := by
  unfold B at *
  rw [show Int.tdiv (x.toNat : Int) (y.toNat : Int) = ((x.toNat / y.toNat : Nat) : Int) from rfl, show Int.tmod (x.toNat : Int) (y.toNat : Int) = ((x.toNat % y.toNat : Nat) : Int) from rfl]
  have hx := x.isLt
  have h1 : x.toNat / y.toNat ≤ x.toNat := Nat.div_le_self _ _
  have h2 := Nat.div_add_mod x.toNat y.toNat
  rw [Nat.mul_comm] at h2
  rw [wrap_nat _ (by omega)]
  rw [← Int.natCast_mul]
  generalize x.toNat / y.toNat * y.toNat = q at *
  rw [wrap_nat q (by omega), wrap_u64]
  omega
theorem even_pos (x y : BitVec 64) (h : 1 ≤ B y) : bits_Even.f (B x) (B y) = some (Int.tmod (B x) (B y) == 0) := by
  unfold bits_Even.f; rw [if_neg (by omega)]
theorem even_zero (x : BitVec 64) : bits_Even.f (B x) (B 0#64) = some (B x == 0) := by
  unfold bits_Even.f; rw [if_pos (by decide)]
set_option maxHeartbeats 800000 in
set_option maxRecDepth 100000 in
theorem signs_walk (x y : BitVec 64) (n1 : Nat) (w : World) (h1 : n1 < 256) :
    Calls Try.prog 4 #[.int .u64 (B x), .int .u8 n1, .int .u64 (B y)] w fun e w' => e = .returned (.bool true) ∧ Below w.heap.size w w' := by
  obtain ⟨m, hm1, hm, em⟩ : ∃ l : Nat, 1 ≤ l ∧ l ≤ 64 ∧ 1 + (n1 : Int) % 64 = (l : Int) := ⟨1 + n1 % 64, by omega, by omega, by omega⟩
  have Em := Lib.hid em; clear em
  have hx0 := B_nonneg x
  have hy0 := B_nonneg y
  by_cases hy : y = 0#64
  · subst hy
    have hya : (B 0#64 == 0) = true := by decide
    have hyb : (B 0#64 != 0) = false := by decide
    have He := Lib.hid (even_zero x)
    cases hx : (B x == 0)
    all_goals
      rw [hx] at He
      go_enter Try.func4, Try.ntmps4
      go_wp2_with (first | (go_at_call 8; refine (atlaslaw01_awake.calls true _ awake_f).mono ?_; rintro e w' ⟨rfl, ⟨nd, rfl⟩⟩))
      rw [Em.out]
      refine (bits_Sign.calls (B x) m _ _ (Sign_f x m hm1 hm)).mono ?_
      rintro e w1 ⟨rfl, b1⟩
      go_wp2_with fail
      refine (sign_any x m _ hm1 hm).mono ?_
      rintro e w2 ⟨rfl, b2⟩
      go_wp2_with fail
      refine (bits_Even.calls _ _ _ _ He.out).mono ?_
      rintro e w3 ⟨rfl, b3⟩
      go_wp2
      go_ret
      have c1 := b1.below
      have c3 := b3.below
      refine ⟨rfl, ?_⟩
      have d0 : Below w.heap.size w (w.drewN nd) := (Drawn0.below ⟨nd, rfl⟩)
      have d1 := d0.trans (c1.mono d0.size)
      have d2 := d1.trans (b2.mono d1.size)
      exact d2.trans (c3.mono d2.size)
  · have hy1 : B y ≠ 0 := by rw [Ne, sign_fact]; exact hy
    have hya : (B y == 0) = false := by simpa using hy1
    have hyb : (B y != 0) = true := by simpa using hy1
    have hyc : 1 ≤ B y := by omega
    clear hy1
    have Hf := Lib.hid (even_fact x y hyc)
    have He := Lib.hid (even_pos x y hyc)
    go_enter Try.func4, Try.ntmps4
    go_wp2_with (first | (go_at_call 8; refine (atlaslaw01_awake.calls true _ awake_f).mono ?_; rintro e w' ⟨rfl, ⟨nd, rfl⟩⟩))
    rw [Em.out, Hf.out]
    refine (bits_Sign.calls (B x) m _ _ (Sign_f x m hm1 hm)).mono ?_
    rintro e w1 ⟨rfl, b1⟩
    go_wp2_with fail
    refine (sign_any x m _ hm1 hm).mono ?_
    rintro e w2 ⟨rfl, b2⟩
    go_wp2_with fail
    refine (bits_Even.calls _ _ _ _ He.out).mono ?_
    rintro e w3 ⟨rfl, b3⟩
    go_wp2
    go_ret
    have c1 := b1.below
    have c3 := b3.below
    refine ⟨rfl, ?_⟩
    have d0 : Below w.heap.size w (w.drewN nd) := (Drawn0.below ⟨nd, rfl⟩)
    have d1 := d0.trans (c1.mono d0.size)
    have d2 := d1.trans (b2.mono d1.size)
    exact d2.trans (c3.mono d2.size)
end Go.Proofs.Ytkloaohmcenfhaa.Refs
