/- The contracts of the layer pte: each call comes to the plain entry, word or truth of PteSpec. -/
import Derived.Test.YtjgnckhbafgalaaDoorVaC
import Derived.Test.YtjgnckhbafgalaaDoorPteSpec
import Derived.Outline
namespace Go.Proofs.YtjgnckhbafgalaaDoor.PteC
open Go.RowKit Go.Proofs.YtjgnckhbafgalaaDoor.Bv Go.Proofs.YtjgnckhbafgalaaDoor.VaSpec Go.Proofs.YtjgnckhbafgalaaDoor.Base Go.Proofs.YtjgnckhbafgalaaDoor.BitsC Go.Proofs.YtjgnckhbafgalaaDoor.VaC Go.Proofs.YtjgnckhbafgalaaDoor.PteSpec
set_option linter.unusedVariables false
set_option linter.unusedSimpArgs false
def fitsI (n k : Int) : Bool := decide (n < 2 ^ k.toNat)
theorem fits_get (n k : Int) (hn : U n) (h : k ≤ 64) : (getI n 0 k == n) = fitsI n k := by
  rw [getI_val n 0 k hn h]
  unfold fitsI
  rw [show (0 : Int).toNat = 0 from rfl]
  have hp : (0 : Int) < 2 ^ k.toNat := by exact_mod_cast Nat.two_pow_pos k.toNat
  rw [Bool.eq_iff_iff, beq_iff_eq, decide_eq_true_eq]
  rw [show (2 : Int) ^ 0 = 1 from rfl, Int.ediv_one]
  constructor
  · intro e; rw [← e]; exact Int.emod_lt_of_pos _ hp
  · intro e; exact Int.emod_eq_of_lt hn.1 e
theorem fits_calls (n k : Int) (W : World) (hn : U n) (k0 : 0 ≤ k) (k1 : k ≤ 64) : Calls Tryd.prog 62 #[.int .u64 n, .int .i64 k] W fun e w' => e = .returned (.bool (fitsI n k)) ∧ Q W w' := by
  have H := Lib.hid (fits_get n k hn k1)
  go_enter Tryd.func62, Tryd.ntmps62
  go_wp2_with (go_at_call 64; (with_reducible refine (get_calls _ _ _ _ hn (by omega) (by omega) (by omega) (by omega)).mono ?_); rintro e w' ⟨rfl, ⟨nd, rfl⟩⟩)
  go_ret
  exact ⟨congrArg (fun z => Ending.returned (.bool z)) H.out, ⟨_, rfl⟩⟩
theorem mayP_fits (p : Pte) : (fitsI p.rsw 2 && fitsI p.ppn 44 && fitsI p.high 10) = mayP p := rfl
theorem may_calls (v r w x u g a d : Bool) (rsw ppn high : Int) (W : World) (h1 : U rsw) (h2 : U ppn) (h3 : U high) :
    Calls Tryd.prog 34 #[.agg #[.bool v, .bool r, .bool w, .bool x, .bool u, .bool g, .bool a, .bool d, .int .u64 rsw, .int .u64 ppn, .int .u64 high]] W fun e w' => e = .returned (.bool (mayP ⟨v, r, w, x, u, g, a, d, rsw, ppn, high⟩)) ∧ Below W.heap.size W w' := by
  have H := Lib.hid (mayP_fits ⟨v, r, w, x, u, g, a, d, rsw, ppn, high⟩)
  go_enter Tryd.func34, Tryd.ntmps34
  go_wp2_with (go_at_call 62; (with_reducible refine (fits_calls _ _ _ (by assumption) (by omega) (by omega)).mono ?_); rintro e w' ⟨rfl, ⟨nd, rfl⟩⟩)
  all_goals
    go_ret
    refine ⟨congrArg (fun z => Ending.returned (.bool z)) (by rw [← H.out]; simp [*]), (by repeat (first | (with_reducible exact Below.refl _ _) | (with_reducible apply bel_drewN) | (with_reducible apply bel_alloc) | (with_reducible apply bel_trans; rotate_left; with_reducible assumption) | (with_reducible refine bel_setCell _ _ _ (by first | omega | (simp; done) | (simp; omega) | (simp at *; omega)) ?_)))⟩
theorem leaf_calls (v r w x u g a d : Bool) (rsw ppn high : Int) (W : World) :
    Calls Tryd.prog 39 #[.agg #[.bool v, .bool r, .bool w, .bool x, .bool u, .bool g, .bool a, .bool d, .int .u64 rsw, .int .u64 ppn, .int .u64 high]] W fun e w' => e = .returned (.bool (leafP ⟨v, r, w, x, u, g, a, d, rsw, ppn, high⟩)) ∧ Below W.heap.size W w' := by
  go_enter Tryd.func39, Tryd.ntmps39
  go_wp2
  all_goals
    go_ret
    refine ⟨congrArg (fun z => Ending.returned (.bool z)) (by simp [leafP, *]), (by repeat (first | (with_reducible exact Below.refl _ _) | (with_reducible apply bel_drewN) | (with_reducible apply bel_alloc) | (with_reducible apply bel_trans; rotate_left; with_reducible assumption) | (with_reducible refine bel_setCell _ _ _ (by first | omega | (simp; done) | (simp; omega) | (simp at *; omega)) ?_)))⟩
theorem link_calls (v r w x u g a d : Bool) (rsw ppn high : Int) (W : World) :
    Calls Tryd.prog 41 #[.agg #[.bool v, .bool r, .bool w, .bool x, .bool u, .bool g, .bool a, .bool d, .int .u64 rsw, .int .u64 ppn, .int .u64 high]] W fun e w' => e = .returned (.bool (linkP ⟨v, r, w, x, u, g, a, d, rsw, ppn, high⟩)) ∧ Below W.heap.size W w' := by
  go_enter Tryd.func41, Tryd.ntmps41
  go_wp2
  all_goals
    go_ret
    refine ⟨congrArg (fun z => Ending.returned (.bool z)) (by simp [linkP, *]), (by repeat (first | (with_reducible exact Below.refl _ _) | (with_reducible apply bel_drewN) | (with_reducible apply bel_alloc) | (with_reducible apply bel_trans; rotate_left; with_reducible assumption) | (with_reducible refine bel_setCell _ _ _ (by first | omega | (simp; done) | (simp; omega) | (simp at *; omega)) ?_)))⟩
theorem perm_calls (v r w x u g a d : Bool) (rsw ppn high : Int) (W : World) :
    Calls Tryd.prog 47 #[.agg #[.bool v, .bool r, .bool w, .bool x, .bool u, .bool g, .bool a, .bool d, .int .u64 rsw, .int .u64 ppn, .int .u64 high]] W fun e w' => e = .returned (.agg #[.bool r, .bool w, .bool x, .bool u]) ∧ Below W.heap.size W w' := by
  go_enter Tryd.func47, Tryd.ntmps47
  go_wp2
  exact bodyPost_ret (v := .agg #[.bool r, .bool w, .bool x, .bool u]) (by simp [results, Tryd.results47, go_sem]) rfl ⟨rfl, (by repeat (first | (with_reducible exact Below.refl _ _) | (with_reducible apply bel_drewN) | (with_reducible apply bel_alloc) | (with_reducible apply bel_trans; rotate_left; with_reducible assumption) | (with_reducible refine bel_setCell _ _ _ (by first | omega | (simp; done) | (simp; omega) | (simp at *; omega)) ?_)))⟩
theorem make_calls (f : Int) (r w x u g : Bool) (W : World) :
    Calls Tryd.prog 45 #[.int .u64 f, .agg #[.bool r, .bool w, .bool x, .bool u], .bool g] W fun e w' => e = .returned (.agg #[.bool true, .bool r, .bool w, .bool x, .bool u, .bool g, .bool false, .bool false, .int .u64 0, .int .u64 f, .int .u64 0]) ∧ Below W.heap.size W w' := by
  go_enter Tryd.func45, Tryd.ntmps45
  go_wp2
  exact bodyPost_ret (v := .agg #[.bool true, .bool r, .bool w, .bool x, .bool u, .bool g, .bool false, .bool false, .int .u64 0, .int .u64 f, .int .u64 0]) (by simp [results, Tryd.results45, go_sem]) rfl ⟨rfl, (by repeat (first | (with_reducible exact Below.refl _ _) | (with_reducible apply bel_drewN) | (with_reducible apply bel_alloc) | (with_reducible apply bel_trans; rotate_left; with_reducible assumption) | (with_reducible refine bel_setCell _ _ _ (by first | omega | (simp; done) | (simp; omega) | (simp at *; omega)) ?_)))⟩
set_option maxHeartbeats 800000 in
theorem bad_calls (v r w x u g a d : Bool) (rsw ppn high : Int) (l : Int) (W : World) (h1 : U rsw) (h2 : U ppn) (h3 : U high) (l0 : 0 ≤ l) (l2 : l ≤ 2) (hG : G W) :
    Calls Tryd.prog 43 #[.agg #[.bool v, .bool r, .bool w, .bool x, .bool u, .bool g, .bool a, .bool d, .int .u64 rsw, .int .u64 ppn, .int .u64 high], .int .i64 l] W fun e w' => e = .returned (.bool (badP ⟨v, r, w, x, u, g, a, d, rsw, ppn, high⟩ l)) ∧ Below W.heap.size W w' := by
  go_enter Tryd.func43, Tryd.ntmps43
  have hs := sz_bd l
  go_wp2_with (first
    | (go_at_call 41; (with_reducible refine (link_calls _ _ _ _ _ _ _ _ _ _ _ _).mono ?_); rintro e w1 ⟨rfl, hb⟩; obtain ⟨hc, hf⟩ := bcell hb)
    | fail)
  all_goals first
    | (go_ret; refine ⟨congrArg (fun z => Ending.returned (.bool z)) (by first | (simp [badP, *]; done) | (simp_all [badP, linkP]; done)), (by repeat (first | (with_reducible exact Below.refl _ _) | (with_reducible apply bel_drewN) | (with_reducible apply bel_alloc) | (with_reducible apply bel_trans; rotate_left; with_reducible assumption) | (with_reducible refine bel_setCell _ _ _ (by first | omega | (simp; done) | (simp; omega) | (simp at *; omega)) ?_)))⟩; done)
    | skip
  all_goals
    have h9 : w1.cell? ⟨W.heap.size, 9, none⟩ = some (.int .u64 ppn) := by rw [hc _ _ (by simp)]; simp
    clear hc hf
    have HG : G w1 := (by first | assumption | exact hG.to (by repeat (first | (with_reducible exact Below.refl _ _) | (with_reducible apply bel_drewN) | (with_reducible apply bel_alloc) | (with_reducible apply bel_trans; rotate_left; with_reducible assumption) | (with_reducible refine bel_setCell _ _ _ (by first | omega | (simp; done) | (simp; omega) | (simp at *; omega)) ?_))))
    go_quiet ((first | (go_at_call 66; exact Calls.quiet_of ((size_calls _ _ l0 l2 (HG.drewN _)).mono fun _ _ ⟨he, d⟩ => ⟨he, d.out⟩)) | (go_at_call 51; exact Calls.quiet_of ((even_calls _ _ _ h2 (by omega)).mono fun _ _ ⟨he, d⟩ => ⟨he, d.out⟩))))
    go_wp2
    go_ret
    refine ⟨congrArg (fun z => Ending.returned (.bool z)) ?_, (by repeat (first | (with_reducible exact Below.refl _ _) | (with_reducible apply bel_drewN) | (with_reducible apply bel_alloc) | (with_reducible apply bel_trans; rotate_left; with_reducible assumption) | (with_reducible refine bel_setCell _ _ _ (by first | omega | (simp; done) | (simp; omega) | (simp at *; omega)) ?_)))⟩
    unfold evenI
    rw [if_neg (by omega)]
    first | (simp [badP, *]; done) | (simp_all [badP, linkP]; done)
end Go.Proofs.YtjgnckhbafgalaaDoor.PteC
