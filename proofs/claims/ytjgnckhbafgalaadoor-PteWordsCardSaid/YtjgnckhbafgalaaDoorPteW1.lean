/- The walk of the law PteWords. -/
import Derived.Test.YtjgnckhbafgalaaDoorPteW
namespace Go.Proofs.YtjgnckhbafgalaaDoor.PteW
open Go.RowKit Go.Proofs.YtjgnckhbafgalaaDoor.Bv Go.Proofs.YtjgnckhbafgalaaDoor.VaSpec Go.Proofs.YtjgnckhbafgalaaDoor.Base Go.Proofs.YtjgnckhbafgalaaDoor.BitsC Go.Proofs.YtjgnckhbafgalaaDoor.VaC Go.Proofs.YtjgnckhbafgalaaDoor.PteSpec Go.Proofs.YtjgnckhbafgalaaDoor.EntrySpec Go.Proofs.YtjgnckhbafgalaaDoor.EqS
set_option linter.unusedVariables false
set_option linter.unusedSimpArgs false
attribute [local go_sem high] eq_perm eq_pte eq_ent
attribute [local go_sem] eqPerm_self eqPte_self eqEnt_self
set_option maxHeartbeats 4000000 in
set_option maxRecDepth 100000 in
theorem words_walk (v r w x u g a d : Bool) (rsw ppn high : Int) (z : Int) (W : World) (h1 : U rsw) (h2 : U ppn) (h3 : U high) (hz : U z) (hG : G W) :
    Calls Tryd.prog 8 #[.agg #[.bool v, .bool r, .bool w, .bool x, .bool u, .bool g, .bool a, .bool d, .int .u64 rsw, .int .u64 ppn, .int .u64 high], .int .u64 z] W fun e w' => e = .returned (.bool true) ∧ Below W.heap.size W w' := by
  obtain ⟨W0, hW0⟩ : ∃ W0 : World, W.alloc (Obj.cells #[.bool v, .bool r, .bool w, .bool x, .bool u, .bool g, .bool a, .bool d, .int .u64 rsw, .int .u64 ppn, .int .u64 high] 24) = W0 := ⟨_, rfl⟩
  have hcell : ∀ i, W0.cell? ⟨W.heap.size, i, none⟩ = (W.alloc (Obj.cells #[.bool v, .bool r, .bool w, .bool x, .bool u, .bool g, .bool a, .bool d, .int .u64 rsw, .int .u64 ppn, .int .u64 high] 24)).cell? ⟨W.heap.size, i, none⟩ := fun i => by rw [hW0]
  have hlt : W.heap.size < W0.heap.size := by rw [← hW0]; simp
  have HW : Below W.heap.size W W0 := by rw [← hW0]; exact (by repeat (first | (with_reducible exact Below.refl _ _) | (with_reducible apply bel_drewN) | (with_reducible apply bel_alloc) | (with_reducible apply bel_trans; rotate_left; with_reducible assumption) | (with_reducible refine bel_setCell _ _ _ (by first | omega | (simp; done) | (simp; omega) | (simp at *; omega)) ?_)))
  have hG0 : G W0 := hG.to HW
  have HW0 := Lib.hid hW0
  clear hW0
  go_enter Tryd.func8, Tryd.ntmps8
  go_wp2_with fail
  rw [HW0.out]
  refine (awake_calls W0 hG0).mono ?_
  rintro e w1 ⟨rfl, b1⟩
  obtain ⟨c1, _⟩ := bcell b1
  go_wp2_with fail
  refine (PteC.put_calls _ _ _ _ _ _ _ _ _ _ _ _ h1 h2 h3).mono ?_
  rintro e w2 ⟨rfl, b2⟩
  have B2 := bel_trans b1 b2
  clear c1 b1 b2
  obtain ⟨c2, _⟩ := bcell B2
  go_wp2_with fail
  replace hG0 : G w2 := hG0.to B2
  have hlt2 : W.heap.size < w2.heap.size := Nat.lt_of_lt_of_le hlt B2.size
  refine region_below (by kernel_rfl) (by kernel_rfl) ?_
  repeat (refine wpQuiet_step (fun K hK => ?_)
          go_simp
          first
            | (refine hK _ ?_; clear hK K)
            | (refine ⟨_, fun _ _ => rfl, hK _ ?_⟩; clear hK K)
            | (apply Exists.intro
               refine ⟨fun w' hw' => ?_, hK _ ?_⟩
               · first
                 | (go_at_call 34; (with_reducible refine (PteC.may_calls _ _ _ _ _ _ _ _ _ _ _ _ (by first | assumption | exact ⟨by omega, by omega⟩) (by first | assumption | exact ⟨by omega, by omega⟩) (by first | assumption | exact ⟨by omega, by omega⟩)).mono ?_); rintro e w2 ⟨rfl, hb⟩; exact ⟨rfl, hw'.trans (hb.mono hw'.size)⟩)
                 | (go_at_call 36; (with_reducible refine (PteC.pget_calls _ _ (by first | assumption | exact ⟨by omega, by omega⟩)).mono ?_); rintro e w2 ⟨rfl, hb⟩; exact ⟨rfl, hw'.trans (hb.mono hw'.size)⟩)
                 | (go_at_call 39; (with_reducible refine (PteC.leaf_calls _ _ _ _ _ _ _ _ _ _ _ _).mono ?_); rintro e w2 ⟨rfl, hb⟩; exact ⟨rfl, hw'.trans (hb.mono hw'.size)⟩)
                 | (go_at_call 41; (with_reducible refine (PteC.link_calls _ _ _ _ _ _ _ _ _ _ _ _).mono ?_); rintro e w2 ⟨rfl, hb⟩; exact ⟨rfl, hw'.trans (hb.mono hw'.size)⟩)
                 | (go_at_call 43; (with_reducible refine (PteC.bad_calls _ _ _ _ _ _ _ _ _ _ _ _ _ (by first | assumption | exact ⟨by omega, by omega⟩) (by first | assumption | exact ⟨by omega, by omega⟩) (by first | assumption | exact ⟨by omega, by omega⟩) (by omega) (by omega) (hG0.below hw' (Nat.le_refl _))).mono ?_); rintro e w2 ⟨rfl, hb⟩; exact ⟨rfl, hw'.trans (hb.mono hw'.size)⟩)
                 | (go_at_call 47; (with_reducible refine (PteC.perm_calls _ _ _ _ _ _ _ _ _ _ _ _).mono ?_); rintro e w2 ⟨rfl, hb⟩; exact ⟨rfl, hw'.trans (hb.mono hw'.size)⟩)
                 | (go_at_call 37; (with_reducible refine (PteR.rget_calls _ _ (by first | assumption | exact ⟨by omega, by omega⟩)).mono ?_); rintro e w2 ⟨rfl, hb⟩; exact ⟨rfl, hw'.trans (hb.mono hw'.size)⟩)
                 | (go_at_call 35; (with_reducible refine (PteR.rmay_calls _ _ _ _ _ _ _ _ _ _ _ _ (by first | assumption | exact ⟨by omega, by omega⟩) (by first | assumption | exact ⟨by omega, by omega⟩) (by first | assumption | exact ⟨by omega, by omega⟩)).mono ?_); rintro e w2 ⟨rfl, hb⟩; exact ⟨rfl, hw'.trans (hb.mono hw'.size)⟩)
                 | (go_at_call 40; (with_reducible refine (PteR.rleaf_calls _ _ _ _ _ _ _ _ _ _ _ _).mono ?_); rintro e w2 ⟨rfl, hb⟩; exact ⟨rfl, hw'.trans (hb.mono hw'.size)⟩)
                 | (go_at_call 42; (with_reducible refine (PteR.rlink_calls _ _ _ _ _ _ _ _ _ _ _ _).mono ?_); rintro e w2 ⟨rfl, hb⟩; exact ⟨rfl, hw'.trans (hb.mono hw'.size)⟩)
                 | (go_at_call 44; (with_reducible refine (PteR.rbad_calls _ _ _ _ _ _ _ _ _ _ _ _ _ (by first | assumption | exact ⟨by omega, by omega⟩) (by first | assumption | exact ⟨by omega, by omega⟩) (by first | assumption | exact ⟨by omega, by omega⟩) (by omega) (by omega)).mono ?_); rintro e w2 ⟨rfl, hb⟩; exact ⟨rfl, hw'.trans (hb.mono hw'.size)⟩)
                 | (go_at_call 46; (with_reducible refine (PteR.rmake_calls _ _ _ _ _ _ _).mono ?_); rintro e w2 ⟨rfl, hb⟩; exact ⟨rfl, hw'.trans (hb.mono hw'.size)⟩)
                 | (go_at_call 48; (with_reducible refine (PteR.rperm_calls _ _ _ _ _ _ _ _ _ _ _ _).mono ?_); rintro e w2 ⟨rfl, hb⟩; exact ⟨rfl, hw'.trans (hb.mono hw'.size)⟩)
                 | (go_at_call 45; (with_reducible refine (PteC.make_calls _ _ _ _ _ _ _).mono ?_); rintro e w2 ⟨rfl, hb⟩; exact ⟨rfl, hw'.trans (hb.mono hw'.size)⟩)
                 | (obtain ⟨hcc, _⟩ := bcell hw'; go_simp; done)
                 | (obtain ⟨hcc, _⟩ := bcell hw'; go_simp; rfl)
               clear hK K))
  refine wpQuiet_nil ?_
  intro w3 b3
  have B3 := bel_trans B2 b3
  clear c2 B2 b3
  obtain ⟨c3, _⟩ := bcell B3
  have hlt3 : W.heap.size < w3.heap.size := Nat.lt_of_lt_of_le hlt B3.size
  cases hm : mayP ⟨v, r, w, x, u, g, a, d, rsw, ppn, high⟩
  · have HM := Lib.hid hm; clear hm
    have e1 := Lib.hid (show PteC.putE ⟨v, r, w, x, u, g, a, d, rsw, ppn, high⟩ = 0 by unfold PteC.putE; rw [HM.out]; rfl)
    have e2 := Lib.hid (show PteC.putErr ⟨v, r, w, x, u, g, a, d, rsw, ppn, high⟩ = 1 by unfold PteC.putErr; rw [HM.out]; rfl)
    rw [e1.out, e2.out]
    go_wp2_with (go_at_call 35; (with_reducible refine (PteR.rmay_calls _ _ _ _ _ _ _ _ _ _ _ _ h1 h2 h3).mono ?_); rw [HM.out]; rintro e w4 ⟨rfl, b4⟩)
    go_ret
    exact ⟨rfl, bel_trans HW (bel_trans B3 b4)⟩
  · have HM := Lib.hid hm; clear hm
    have e1 := Lib.hid (show PteC.putE ⟨v, r, w, x, u, g, a, d, rsw, ppn, high⟩ = word ⟨v, r, w, x, u, g, a, d, rsw, ppn, high⟩ by unfold PteC.putE; rw [HM.out]; rfl)
    have e2 := Lib.hid (show PteC.putErr ⟨v, r, w, x, u, g, a, d, rsw, ppn, high⟩ = 0 by unfold PteC.putErr; rw [HM.out]; rfl)
    rw [e1.out, e2.out]
    go_wp2_with (go_at_call 35; (with_reducible refine (PteR.rmay_calls _ _ _ _ _ _ _ _ _ _ _ _ h1 h2 h3).mono ?_); rw [HM.out]; rintro e w4 ⟨rfl, b4⟩; obtain ⟨c4, _⟩ := bcell b4)
    have B4 := bel_trans B3 b4
    refine (PteR.rput_calls _ _ _ _ _ _ _ _ _ _ _ _ h1 h2 h3 HM.out).mono ?_
    rintro e w5 ⟨rfl, b5⟩
    go_wp2
    go_ret
    exact ⟨rfl, bel_trans HW (bel_trans B4 b5)⟩
end Go.Proofs.YtjgnckhbafgalaaDoor.PteW
