/- The contracts of the reference of the layer entry, second part: May, and a law's own leaf. -/
import Derived.Test.YtjgnckhbafgalaaDoorEntryR
namespace Go.Proofs.YtjgnckhbafgalaaDoor.EntryR
open Go.RowKit Go.Proofs.YtjgnckhbafgalaaDoor.Bv Go.Proofs.YtjgnckhbafgalaaDoor.VaSpec Go.Proofs.YtjgnckhbafgalaaDoor.Base Go.Proofs.YtjgnckhbafgalaaDoor.BitsC Go.Proofs.YtjgnckhbafgalaaDoor.VaC Go.Proofs.YtjgnckhbafgalaaDoor.PteSpec Go.Proofs.YtjgnckhbafgalaaDoor.EntrySpec Go.Proofs.YtjgnckhbafgalaaDoor.EqS Go.Proofs.YtjgnckhbafgalaaDoor.QTail
set_option linter.unusedVariables false
set_option linter.unusedSimpArgs false
attribute [local go_sem high] eq_perm eq_pte eq_ent
open Go.Proofs.YtjgnckhbafgalaaDoor.EntryC (name_world pages_div)
theorem mayE_lv (v : Bool) (si : Int) (gl : Bool) (lv vpn ppn : Int) (r w x u d : Bool) (h0 : ¬ lv = 0) (h1 : ¬ lv = 1) (h2 : ¬ lv = 2) (hv : v = true) : mayE ⟨v, si, gl, lv, vpn, ppn, ⟨r, w, x, u⟩, d⟩ = false := by
  subst hv
  unfold mayE; simp only
  have : (true && (decide (0 ≤ lv) && decide (lv ≤ 2))) = false := by simp; omega
  rw [this]
  simp [zeroE]
theorem mayE_r (v : Bool) (si : Int) (gl : Bool) (lv vpn ppn : Int) (r w x u d : Bool) (h0 : 0 ≤ lv) (h2 : lv ≤ 2) (hv : v = true) : mayE ⟨v, si, gl, lv, vpn, ppn, ⟨r, w, x, u⟩, d⟩ = (decide (vpn < 134217728) && decide (ppn < 17592186044416) && decide (si < 65536) && (vpn % pages lv == 0) && (ppn % pages lv == 0)) := by
  subst hv
  unfold mayE; simp only
  rw [decide_eq_true h0, decide_eq_true h2, if_pos (show (true && (true && true)) = true from rfl)]
  rfl
set_option maxHeartbeats 4000000 in
theorem rmay_calls (v : Bool) (si : Int) (gl : Bool) (lv vpn ppn : Int) (r w x u d : Bool) (W : World) (n0 : U vpn) (p0 : U ppn) (s0 : U si) :
    Calls Tryd.prog 15 #[.agg #[.bool v, .int .u64 si, .bool gl, .int .i64 lv, .int .u64 vpn, .int .u64 ppn, .bool r, .bool w, .bool x, .bool u, .bool d]] W fun e w' => e = .returned (.bool (mayE ⟨v, si, gl, lv, vpn, ppn, ⟨r, w, x, u⟩, d⟩)) ∧ Below W.heap.size W w' := by
  have hp := pages_bd lv
  have up : U (pages lv) := ⟨by omega, by omega⟩
  cases v
  · have HM := Lib.hid (EntryC.mayE_out false si gl lv vpn ppn r w x u d rfl)
    go_enter Tryd.func15, Tryd.ntmps15
    go_wp2_with fail
    go_ret
    exact ⟨congrArg (fun z => Ending.returned (.bool z)) HM.out.symm, (by repeat (first | (with_reducible exact Below.refl _ _) | (with_reducible apply bel_drewN) | (with_reducible apply bel_alloc) | (with_reducible apply bel_trans; rotate_left; with_reducible assumption) | (with_reducible refine bel_setCell _ _ _ (by first | omega | (simp; done) | (simp; omega) | (simp at *; omega)) ?_)))⟩
  · by_cases hl : lv = 0 ∨ lv = 1 ∨ lv = 2
    · have HM := Lib.hid (mayE_r true si gl lv vpn ppn r w x u d (by omega) (by omega) rfl)
      have hpn : ¬ pages lv = 0 := by omega
      have t1 : vpn.tmod (pages lv) = vpn % pages lv := Int.tmod_eq_emod_of_nonneg n0.1
      have t2 : ppn.tmod (pages lv) = ppn % pages lv := Int.tmod_eq_emod_of_nonneg p0.1
      cases f1 : decide (vpn < 134217728)
      all_goals cases f2 : decide (ppn < 17592186044416)
      all_goals cases f3 : decide (si < 65536)
      all_goals cases f4 : vpn % pages lv == 0
      all_goals
        rcases hl with rfl | rfl | rfl
        all_goals
          go_enter Tryd.func15, Tryd.ntmps15
          go_wp2_with (first
      | (go_at_call 31; (with_reducible refine (rpages_calls _ _ (by omega) (by omega)).mono ?_); rintro e w' ⟨rfl, ⟨nd, rfl⟩⟩)
      | fail)
          go_ret
          exact ⟨congrArg (fun z => Ending.returned (.bool z)) (by rw [HM.out]; simp [*]), (by repeat (first | (with_reducible exact Below.refl _ _) | (with_reducible apply bel_drewN) | (with_reducible apply bel_alloc) | (with_reducible apply bel_trans; rotate_left; with_reducible assumption) | (with_reducible refine bel_setCell _ _ _ (by first | omega | (simp; done) | (simp; omega) | (simp at *; omega)) ?_)))⟩
    · have h0 : ¬ lv = 0 := by omega
      have h1 : ¬ lv = 1 := by omega
      have h2 : ¬ lv = 2 := by omega
      have HM := Lib.hid (mayE_lv true si gl lv vpn ppn r w x u d h0 h1 h2 rfl)
      have e0 : (lv != 0) = true := by simpa using h0
      have e1 : (lv != 1) = true := by simpa using h1
      have e2 : (lv != 2) = true := by simpa using h2
      clear hl
      go_enter Tryd.func15, Tryd.ntmps15
      go_wp2_with fail
      go_ret
      exact ⟨congrArg (fun z => Ending.returned (.bool z)) HM.out.symm, (by repeat (first | (with_reducible exact Below.refl _ _) | (with_reducible apply bel_drewN) | (with_reducible apply bel_alloc) | (with_reducible apply bel_trans; rotate_left; with_reducible assumption) | (with_reducible refine bel_setCell _ _ _ (by first | omega | (simp; done) | (simp; omega) | (simp at *; omega)) ?_)))⟩
end Go.Proofs.YtjgnckhbafgalaaDoor.EntryR
