/- The contracts of the layer pte, the third part: Put and Get. -/
import Derived.Test.YtjgnckhbafgalaaDoorPteC2
import Derived.StillTailTactics
namespace Go.Proofs.YtjgnckhbafgalaaDoor.PteC
open Go.RowKit Go.Proofs.YtjgnckhbafgalaaDoor.Bv Go.Proofs.YtjgnckhbafgalaaDoor.VaSpec Go.Proofs.YtjgnckhbafgalaaDoor.Base Go.Proofs.YtjgnckhbafgalaaDoor.BitsC Go.Proofs.YtjgnckhbafgalaaDoor.VaC Go.Proofs.YtjgnckhbafgalaaDoor.PteSpec
set_option linter.unusedVariables false
set_option linter.unusedSimpArgs false
def f8 (v r w x u g a d : Bool) : Nat → Bool
  | 0 => v
  | 1 => r
  | 2 => w
  | 3 => x
  | 4 => u
  | 5 => g
  | 6 => a
  | _ => d
theorem row_low8 (v r w x u g a d : Bool) (rsw ppn high : Int) : rowI (f8 v r w x u g a d) 8 = low8 ⟨v, r, w, x, u, g, a, d, rsw, ppn, high⟩ := by
  unfold low8; simp only [rowI, f8]; omega
theorem put_word (p : Pte) (h : p.U) (hm : mayP p = true) : setI (setI (setI (low8 p) 8 2 p.rsw) 10 44 p.ppn) 54 10 p.high = word p := by
  rw [mayP_iff] at hm
  have hl := low8_bd p
  obtain ⟨h1, h2, h3⟩ := h
  rw [setI_add (low8 p) 8 2 p.rsw ⟨by omega, by omega⟩ h1 (by omega) (by omega) (by omega) (by show _ < (2 : Int) ^ 8; omega) (by show _ < (2 : Int) ^ 2; omega)]
  rw [show (2 : Int) ^ (8 : Int).toNat = 256 from rfl]
  rw [setI_add _ 10 44 p.ppn ⟨by omega, by omega⟩ h2 (by omega) (by omega) (by omega) (by show _ < (2 : Int) ^ 10; omega) (by show _ < (2 : Int) ^ 44; omega)]
  rw [show (2 : Int) ^ (10 : Int).toNat = 1024 from rfl]
  rw [setI_add _ 54 10 p.high ⟨by omega, by omega⟩ h3 (by omega) (by omega) (by omega) (by show _ < (2 : Int) ^ 54; omega) (by show _ < (2 : Int) ^ 10; omega)]
  rw [show (2 : Int) ^ (54 : Int).toNat = 18014398509481984 from rfl]
  rfl
def putE (p : Pte) : Int := if mayP p then word p else 0
def putErr (p : Pte) : Int := if mayP p then 0 else 1
set_option maxHeartbeats 1000000 in
theorem put_calls (v r w x u g a d : Bool) (rsw ppn high : Int) (W : World) (h1 : U rsw) (h2 : U ppn) (h3 : U high) :
    Calls Tryd.prog 33 #[.agg #[.bool v, .bool r, .bool w, .bool x, .bool u, .bool g, .bool a, .bool d, .int .u64 rsw, .int .u64 ppn, .int .u64 high]] W fun e w' => e = .returned (.tuple #[.int .u64 (putE ⟨v, r, w, x, u, g, a, d, rsw, ppn, high⟩), .int .i64 (putErr ⟨v, r, w, x, u, g, a, d, rsw, ppn, high⟩)]) ∧ Below W.heap.size W w' := by
  cases hm : mayP ⟨v, r, w, x, u, g, a, d, rsw, ppn, high⟩
  · have H1 := Lib.hid (show putE ⟨v, r, w, x, u, g, a, d, rsw, ppn, high⟩ = 0 by unfold putE; rw [hm]; rfl)
    have H2 := Lib.hid (show putErr ⟨v, r, w, x, u, g, a, d, rsw, ppn, high⟩ = 1 by unfold putErr; rw [hm]; rfl)
    have HM := Lib.hid hm; clear hm
    go_enter Tryd.func33, Tryd.ntmps33
    go_wp2_with (go_at_call 34; (with_reducible refine (may_calls _ _ _ _ _ _ _ _ _ _ _ _ h1 h2 h3).mono ?_); rw [HM.out]; rintro e w1 ⟨rfl, hb⟩)
    go_ret2
    rw [H1.out, H2.out]
    exact ⟨rfl, (by repeat (first | (with_reducible exact Below.refl _ _) | (with_reducible apply bel_drewN) | (with_reducible apply bel_alloc) | (with_reducible apply bel_trans; rotate_left; with_reducible assumption) | (with_reducible refine bel_setCell _ _ _ (by first | omega | (simp; done) | (simp; omega) | (simp at *; omega)) ?_)))⟩
  · have H1 := Lib.hid (show putE ⟨v, r, w, x, u, g, a, d, rsw, ppn, high⟩ = word ⟨v, r, w, x, u, g, a, d, rsw, ppn, high⟩ by unfold putE; rw [hm]; rfl)
    have H2 := Lib.hid (show putErr ⟨v, r, w, x, u, g, a, d, rsw, ppn, high⟩ = 0 by unfold putErr; rw [hm]; rfl)
    have H3 := Lib.hid (put_word ⟨v, r, w, x, u, g, a, d, rsw, ppn, high⟩ ⟨h1, h2, h3⟩ hm)
    have H4 := Lib.hid (row_low8 v r w x u g a d rsw ppn high)
    have HM := Lib.hid hm; clear hm
    have hl := low8_bd ⟨v, r, w, x, u, g, a, d, rsw, ppn, high⟩
    have hlU : U (low8 ⟨v, r, w, x, u, g, a, d, rsw, ppn, high⟩) := ⟨hl.1, by omega⟩
    go_enter Tryd.func33, Tryd.ntmps33
    go_wp2_with (first
      | (go_at_call 34; (with_reducible refine (may_calls _ _ _ _ _ _ _ _ _ _ _ _ h1 h2 h3).mono ?_); rw [HM.out]; rintro e w1 ⟨rfl, hb⟩; obtain ⟨hc, hf⟩ := bcell hb; have hz : W.heap.size < w1.heap.size := by have := hb.size; simp at this; omega)
      | fail)
    refine (row_calls (f8 v r w x u g a d) _ _ ?_).mono ?_
    · intro i hi
      have : i = 0 ∨ i = 1 ∨ i = 2 ∨ i = 3 ∨ i = 4 ∨ i = 5 ∨ i = 6 ∨ i = 7 := by omega
      rcases this with rfl | rfl | rfl | rfl | rfl | rfl | rfl | rfl <;> simp [f8]
    rintro e w2 ⟨rfl, ⟨n2, rfl⟩⟩
    rw [H4.out]
    go_wp2_with (first
      | (go_at_call 61; (with_reducible refine (set_calls _ _ _ _ _ (by first | assumption | exact setI_U _ _ _ _) (by assumption) (by omega) (by omega) (by omega) (by omega)).mono ?_); rintro e w' ⟨rfl, ⟨nd, rfl⟩⟩)
      | fail)
    go_ret2
    rw [H1.out, H2.out, ← H3.out]
    exact ⟨rfl, (by repeat (first | (with_reducible exact Below.refl _ _) | (with_reducible apply bel_drewN) | (with_reducible apply bel_alloc) | (with_reducible apply bel_trans; rotate_left; with_reducible assumption) | (with_reducible refine bel_setCell _ _ _ (by first | omega | (simp; done) | (simp; omega) | (simp at *; omega)) ?_)))⟩
set_option maxHeartbeats 1000000 in
theorem get1_same (x i : Int) (b : Nat) (W : World) (hx : U x) (h0 : 0 ≤ i) (h1 : i ≤ 7) (hc : W.cell? ⟨b, 0, none⟩ = some (.int .u64 x)) :
    Calls Tryd.prog 63 #[.int .i64 i, .pointer (some ⟨b, 0, none⟩)] W fun e w' => e = .returned (.bool (bitI x i)) ∧ w' = W := by
  have H := Lib.hid (show (getI x i 1 == 1) = bitI x i by rw [getI_val x i 1 hx (by omega)]; rfl)
  go_enter Tryd.func63, Tryd.ntmps63
  go_wp2_with (go_at_call 64; (with_reducible refine (get_same _ _ _ _ hx (by omega) (by omega) (by omega) (by omega)).mono ?_); rintro e w' ⟨rfl, rfl⟩)
  go_ret
  exact ⟨congrArg (fun z => Ending.returned (.bool z)) H.out, rfl⟩
end Go.Proofs.YtjgnckhbafgalaaDoor.PteC
