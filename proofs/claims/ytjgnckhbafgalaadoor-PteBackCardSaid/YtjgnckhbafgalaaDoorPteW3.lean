/- The walk of the law PteBack. -/
import Derived.Test.YtjgnckhbafgalaaDoorPteW
namespace Go.Proofs.YtjgnckhbafgalaaDoor.PteW
open Go.RowKit Go.Proofs.YtjgnckhbafgalaaDoor.Bv Go.Proofs.YtjgnckhbafgalaaDoor.VaSpec Go.Proofs.YtjgnckhbafgalaaDoor.Base Go.Proofs.YtjgnckhbafgalaaDoor.BitsC Go.Proofs.YtjgnckhbafgalaaDoor.VaC Go.Proofs.YtjgnckhbafgalaaDoor.PteSpec Go.Proofs.YtjgnckhbafgalaaDoor.EntrySpec Go.Proofs.YtjgnckhbafgalaaDoor.EqS
set_option linter.unusedVariables false
set_option linter.unusedSimpArgs false
attribute [local go_sem high] eq_perm eq_pte eq_ent
attribute [local go_sem] eqPerm_self eqPte_self eqEnt_self
theorem word_inj (y z : Int) (hy : U y) (hz : U z) : eqPte (pteOf y) (pteOf z) = (y == z) := by
  unfold eqPte
  rw [Bool.eq_iff_iff, decide_eq_true_eq, beq_iff_eq]
  constructor
  · intro h
    rw [← word_pteOf y hy.1 hy.2, h, word_pteOf z hz.1 hz.2]
  · intro h; rw [h]
set_option maxHeartbeats 8000000 in
set_option maxRecDepth 100000 in
theorem back_walk (v r w x u g a d : Bool) (rsw ppn high : Int) (y z : Int) (W : World) (h1 : U rsw) (h2 : U ppn) (h3 : U high) (hy : U y) (hz : U z) (hG : G W) :
    Calls Tryd.prog 10 #[.agg #[.bool v, .bool r, .bool w, .bool x, .bool u, .bool g, .bool a, .bool d, .int .u64 rsw, .int .u64 ppn, .int .u64 high], .int .u64 y, .int .u64 z] W fun e w' => e = .returned (.bool true) ∧ Below W.heap.size W w' := by
  obtain ⟨W0, hW0⟩ : ∃ W0 : World, W.alloc (Obj.cells #[.bool v, .bool r, .bool w, .bool x, .bool u, .bool g, .bool a, .bool d, .int .u64 rsw, .int .u64 ppn, .int .u64 high] 24) = W0 := ⟨_, rfl⟩
  have hcell : ∀ i, W0.cell? ⟨W.heap.size, i, none⟩ = (W.alloc (Obj.cells #[.bool v, .bool r, .bool w, .bool x, .bool u, .bool g, .bool a, .bool d, .int .u64 rsw, .int .u64 ppn, .int .u64 high] 24)).cell? ⟨W.heap.size, i, none⟩ := fun i => by rw [hW0]
  have hlt : W.heap.size < W0.heap.size := by rw [← hW0]; simp
  have HW : Below W.heap.size W W0 := by rw [← hW0]; exact (by repeat (first | (with_reducible exact Below.refl _ _) | (with_reducible apply bel_drewN) | (with_reducible apply bel_alloc) | (with_reducible apply bel_trans; rotate_left; with_reducible assumption) | (with_reducible refine bel_setCell _ _ _ (by first | omega | (simp; done) | (simp; omega) | (simp at *; omega)) ?_)))
  have hG0 : G W0 := hG.to HW
  have HW0 := Lib.hid hW0
  clear hW0
  obtain ⟨⟨uy1, uy2⟩, ⟨uy3, uy4⟩, uy5, uy6⟩ := pteOf_U y hy.1 hy.2
  have my := pteOf_may y hy.1 hy.2
  have F1 : PteC.putE ⟨(pteOf y).v, (pteOf y).r, (pteOf y).w, (pteOf y).x, (pteOf y).u, (pteOf y).g, (pteOf y).a, (pteOf y).d, (pteOf y).rsw, (pteOf y).ppn, (pteOf y).high⟩ = y := by show PteC.putE (pteOf y) = y; unfold PteC.putE; rw [my]; exact word_pteOf y hy.1 hy.2
  have F2 : PteC.putErr ⟨(pteOf y).v, (pteOf y).r, (pteOf y).w, (pteOf y).x, (pteOf y).u, (pteOf y).g, (pteOf y).a, (pteOf y).d, (pteOf y).rsw, (pteOf y).ppn, (pteOf y).high⟩ = 0 := by show PteC.putErr (pteOf y) = 0; unfold PteC.putErr; rw [my]; rfl
  have F3 : mayP ⟨(pteOf y).v, (pteOf y).r, (pteOf y).w, (pteOf y).x, (pteOf y).u, (pteOf y).g, (pteOf y).a, (pteOf y).d, (pteOf y).rsw, (pteOf y).ppn, (pteOf y).high⟩ = true := my
  have F4 : eqPte ⟨(pteOf y).v, (pteOf y).r, (pteOf y).w, (pteOf y).x, (pteOf y).u, (pteOf y).g, (pteOf y).a, (pteOf y).d, (pteOf y).rsw, (pteOf y).ppn, (pteOf y).high⟩ ⟨(pteOf z).v, (pteOf z).r, (pteOf z).w, (pteOf z).x, (pteOf z).u, (pteOf z).g, (pteOf z).a, (pteOf z).d, (pteOf z).rsw, (pteOf z).ppn, (pteOf z).high⟩ = (y == z) := word_inj y z hy hz
  clear my
  go_enter Tryd.func10, Tryd.ntmps10
  go_wp2_with fail
  rw [HW0.out]
  refine (awake_calls W0 hG0).mono ?_
  rintro e w1 ⟨rfl, b1⟩
  go_wp2_with fail
  refine (PteC.pget_calls y _ hy).mono ?_
  rintro e w2 ⟨rfl, b2⟩
  go_wp2_with fail
  refine (PteC.put_calls _ _ _ _ _ _ _ _ _ _ _ _ ⟨uy1, uy2⟩ ⟨uy3, uy4⟩ ⟨uy5, uy6⟩).mono ?_
  rintro e w3 ⟨rfl, b3⟩
  rw [F1, F2]
  have B3 := bel_trans b1 (bel_trans b2 b3)
  clear b1 b2 b3
  go_wp2_with fail
  refine (PteC.pget_calls y _ hy).mono ?_
  rintro e w4 ⟨rfl, b4⟩
  go_wp2_with fail
  refine (PteC.may_calls _ _ _ _ _ _ _ _ _ _ _ _ ⟨uy1, uy2⟩ ⟨uy3, uy4⟩ ⟨uy5, uy6⟩).mono ?_
  rintro e w5 ⟨rfl, b5⟩
  go_wp2_with fail
  refine (PteC.pget_calls y _ hy).mono ?_
  rintro e w6 ⟨rfl, b6⟩
  go_wp2_with fail
  refine (PteC.pget_calls z _ hz).mono ?_
  rintro e w7 ⟨rfl, b7⟩
  have B7 := bel_trans B3 (bel_trans b4 (bel_trans b5 (bel_trans b6 b7)))
  clear B3 b4 b5 b6 b7
  obtain ⟨c7, _⟩ := bcell B7
  go_wp2_with fail
  refine (PteC.put_calls _ _ _ _ _ _ _ _ _ _ _ _ h1 h2 h3).mono ?_
  rintro e w8 ⟨rfl, b8⟩
  have B8 := bel_trans B7 b8
  clear B7 b8 c7
  obtain ⟨c8, _⟩ := bcell B8
  have hlt8 : W.heap.size < w8.heap.size := Nat.lt_of_lt_of_le hlt B8.size
  replace hG0 : G w8 := hG0.to B8
  clear F1 F2 F3 F4
  cases hm : mayP ⟨v, r, w, x, u, g, a, d, rsw, ppn, high⟩
  · have e1 : PteC.putE ⟨v, r, w, x, u, g, a, d, rsw, ppn, high⟩ = 0 := by unfold PteC.putE; rw [hm]; rfl
    have e2 : PteC.putErr ⟨v, r, w, x, u, g, a, d, rsw, ppn, high⟩ = 1 := by unfold PteC.putErr; rw [hm]; rfl
    go_wp2_with fail
    refine region_below (by kernel_rfl) (by kernel_rfl) ?_
    repeat (refine wpQuiet_step (fun K hK => ?_)
            go_simp
            first
              | (refine hK _ ?_; clear hK K)
              | (refine ⟨_, fun _ _ => rfl, hK _ ?_⟩; clear hK K)
              | (apply Exists.intro
                 refine ⟨fun w' hw' => ?_, hK _ ?_⟩
                 · first
                   | (go_at_call 34; (with_reducible refine (PteC.may_calls _ _ _ _ _ _ _ _ _ _ _ _ (by first | assumption | exact ⟨by omega, by omega⟩) (by first | assumption | exact ⟨by omega, by omega⟩) (by first | assumption | exact ⟨by omega, by omega⟩)).mono ?_); rintro e w2 ⟨rfl, hb⟩; exact ⟨rfl, hw'.trans (hb.mono hw'.size)⟩)
                   | (go_at_call 36; (with_reducible refine (PteC.pget_calls _ _ (by first | assumption | exact ⟨by omega, by omega⟩)).mono ?_); rintro e w2 ⟨rfl, hb⟩; exact ⟨rfl, hw'.trans (hb.mono hw'.size)⟩)
                   | (go_at_call 39; (with_reducible refine (PteC.leaf_calls _ _ _ _ _ _ _ _ _ _ _ _).mono ?_); rintro e w2 ⟨rfl, hb⟩; exact ⟨rfl, hw'.trans (hb.mono hw'.size)⟩)
                   | (go_at_call 41; (with_reducible refine (PteC.link_calls _ _ _ _ _ _ _ _ _ _ _ _).mono ?_); rintro e w2 ⟨rfl, hb⟩; exact ⟨rfl, hw'.trans (hb.mono hw'.size)⟩)
                   | (go_at_call 43; (with_reducible refine (PteC.bad_calls _ _ _ _ _ _ _ _ _ _ _ _ _ (by first | assumption | exact ⟨by omega, by omega⟩) (by first | assumption | exact ⟨by omega, by omega⟩) (by first | assumption | exact ⟨by omega, by omega⟩) (by omega) (by omega) (hG0.below hw' (Nat.le_refl _))).mono ?_); rintro e w2 ⟨rfl, hb⟩; exact ⟨rfl, hw'.trans (hb.mono hw'.size)⟩)
                   | (go_at_call 47; (with_reducible refine (PteC.perm_calls _ _ _ _ _ _ _ _ _ _ _ _).mono ?_); rintro e w2 ⟨rfl, hb⟩; exact ⟨rfl, hw'.trans (hb.mono hw'.size)⟩)
                   | (go_at_call 37; (with_reducible refine (PteR.rget_calls _ _ (by first | assumption | exact ⟨by omega, by omega⟩)).mono ?_); rintro e w2 ⟨rfl, hb⟩; exact ⟨rfl, hw'.trans (hb.mono hw'.size)⟩)
                   | (go_at_call 35; (with_reducible refine (PteR.rmay_calls _ _ _ _ _ _ _ _ _ _ _ _ (by first | assumption | exact ⟨by omega, by omega⟩) (by first | assumption | exact ⟨by omega, by omega⟩) (by first | assumption | exact ⟨by omega, by omega⟩)).mono ?_); rintro e w2 ⟨rfl, hb⟩; exact ⟨rfl, hw'.trans (hb.mono hw'.size)⟩)
                   | (go_at_call 40; (with_reducible refine (PteR.rleaf_calls _ _ _ _ _ _ _ _ _ _ _ _).mono ?_); rintro e w2 ⟨rfl, hb⟩; exact ⟨rfl, hw'.trans (hb.mono hw'.size)⟩)
                   | (go_at_call 42; (with_reducible refine (PteR.rlink_calls _ _ _ _ _ _ _ _ _ _ _ _).mono ?_); rintro e w2 ⟨rfl, hb⟩; exact ⟨rfl, hw'.trans (hb.mono hw'.size)⟩)
                   | (go_at_call 44; (with_reducible refine (PteR.rbad_calls _ _ _ _ _ _ _ _ _ _ _ _ _ (by first | assumption | exact ⟨by omega, by omega⟩) (by first | assumption | exact ⟨by omega, by omega⟩) (by first | assumption | exact ⟨by omega, by omega⟩) (by omega) (by omega)).mono ?_); rintro e w2 ⟨rfl, hb⟩; exact ⟨rfl, hw'.trans (hb.mono hw'.size)⟩)
                   | (go_at_call 46; (with_reducible refine (PteR.rmake_calls _ _ _ _ _ _ _).mono ?_); rintro e w2 ⟨rfl, hb⟩; exact ⟨rfl, hw'.trans (hb.mono hw'.size)⟩)
                   | (go_at_call 48; (with_reducible refine (PteR.rperm_calls _ _ _ _ _ _ _ _ _ _ _ _).mono ?_); rintro e w2 ⟨rfl, hb⟩; exact ⟨rfl, hw'.trans (hb.mono hw'.size)⟩)
                   | (go_at_call 45; (with_reducible refine (PteC.make_calls _ _ _ _ _ _ _).mono ?_); rintro e w2 ⟨rfl, hb⟩; exact ⟨rfl, hw'.trans (hb.mono hw'.size)⟩)
                   | (obtain ⟨hcc, _⟩ := bcell hw'; go_simp; done)
                   | (obtain ⟨hcc, _⟩ := bcell hw'; go_simp; rfl)
                 clear hK K))
    refine wpQuiet_nil ?_
    intro w9 b9
    go_wp2
    go_ret
    exact ⟨rfl, bel_trans HW (bel_trans B8 b9)⟩
  · have e1 : PteC.putE ⟨v, r, w, x, u, g, a, d, rsw, ppn, high⟩ = word ⟨v, r, w, x, u, g, a, d, rsw, ppn, high⟩ := by unfold PteC.putE; rw [hm]; rfl
    have e2 : PteC.putErr ⟨v, r, w, x, u, g, a, d, rsw, ppn, high⟩ = 0 := by unfold PteC.putErr; rw [hm]; rfl
    have hwU : U (word ⟨v, r, w, x, u, g, a, d, rsw, ppn, high⟩) := word_bd _ ⟨h1, h2, h3⟩ hm
    have F5 : pteOf (word ⟨v, r, w, x, u, g, a, d, rsw, ppn, high⟩) = ⟨v, r, w, x, u, g, a, d, rsw, ppn, high⟩ := pteOf_word _ ⟨h1, h2, h3⟩ hm
    have F6 : eqPte ⟨(pteOf (word ⟨v, r, w, x, u, g, a, d, rsw, ppn, high⟩)).v, (pteOf (word ⟨v, r, w, x, u, g, a, d, rsw, ppn, high⟩)).r, (pteOf (word ⟨v, r, w, x, u, g, a, d, rsw, ppn, high⟩)).w, (pteOf (word ⟨v, r, w, x, u, g, a, d, rsw, ppn, high⟩)).x, (pteOf (word ⟨v, r, w, x, u, g, a, d, rsw, ppn, high⟩)).u, (pteOf (word ⟨v, r, w, x, u, g, a, d, rsw, ppn, high⟩)).g, (pteOf (word ⟨v, r, w, x, u, g, a, d, rsw, ppn, high⟩)).a, (pteOf (word ⟨v, r, w, x, u, g, a, d, rsw, ppn, high⟩)).d, (pteOf (word ⟨v, r, w, x, u, g, a, d, rsw, ppn, high⟩)).rsw, (pteOf (word ⟨v, r, w, x, u, g, a, d, rsw, ppn, high⟩)).ppn, (pteOf (word ⟨v, r, w, x, u, g, a, d, rsw, ppn, high⟩)).high⟩ ⟨v, r, w, x, u, g, a, d, rsw, ppn, high⟩ = true := by show eqPte (pteOf (word ⟨v, r, w, x, u, g, a, d, rsw, ppn, high⟩)) _ = true; rw [F5]; exact eqPte_self _
    have HF5 := Lib.hid F5; clear F5
    go_wp2_with fail
    refine region_below (by kernel_rfl) (by kernel_rfl) ?_
    repeat (refine wpQuiet_step (fun K hK => ?_)
            go_simp
            first
              | (refine hK _ ?_; clear hK K)
              | (refine ⟨_, fun _ _ => rfl, hK _ ?_⟩; clear hK K)
              | (apply Exists.intro
                 refine ⟨fun w' hw' => ?_, hK _ ?_⟩
                 · first
                   | (go_at_call 34; (with_reducible refine (PteC.may_calls _ _ _ _ _ _ _ _ _ _ _ _ (by first | assumption | exact ⟨by omega, by omega⟩) (by first | assumption | exact ⟨by omega, by omega⟩) (by first | assumption | exact ⟨by omega, by omega⟩)).mono ?_); rintro e w2 ⟨rfl, hb⟩; exact ⟨rfl, hw'.trans (hb.mono hw'.size)⟩)
                   | (go_at_call 36; (with_reducible refine (PteC.pget_calls _ _ (by first | assumption | exact ⟨by omega, by omega⟩)).mono ?_); rintro e w2 ⟨rfl, hb⟩; exact ⟨rfl, hw'.trans (hb.mono hw'.size)⟩)
                   | (go_at_call 39; (with_reducible refine (PteC.leaf_calls _ _ _ _ _ _ _ _ _ _ _ _).mono ?_); rintro e w2 ⟨rfl, hb⟩; exact ⟨rfl, hw'.trans (hb.mono hw'.size)⟩)
                   | (go_at_call 41; (with_reducible refine (PteC.link_calls _ _ _ _ _ _ _ _ _ _ _ _).mono ?_); rintro e w2 ⟨rfl, hb⟩; exact ⟨rfl, hw'.trans (hb.mono hw'.size)⟩)
                   | (go_at_call 43; (with_reducible refine (PteC.bad_calls _ _ _ _ _ _ _ _ _ _ _ _ _ (by first | assumption | exact ⟨by omega, by omega⟩) (by first | assumption | exact ⟨by omega, by omega⟩) (by first | assumption | exact ⟨by omega, by omega⟩) (by omega) (by omega) (hG0.below hw' (Nat.le_refl _))).mono ?_); rintro e w2 ⟨rfl, hb⟩; exact ⟨rfl, hw'.trans (hb.mono hw'.size)⟩)
                   | (go_at_call 47; (with_reducible refine (PteC.perm_calls _ _ _ _ _ _ _ _ _ _ _ _).mono ?_); rintro e w2 ⟨rfl, hb⟩; exact ⟨rfl, hw'.trans (hb.mono hw'.size)⟩)
                   | (go_at_call 37; (with_reducible refine (PteR.rget_calls _ _ (by first | assumption | exact ⟨by omega, by omega⟩)).mono ?_); rintro e w2 ⟨rfl, hb⟩; exact ⟨rfl, hw'.trans (hb.mono hw'.size)⟩)
                   | (go_at_call 35; (with_reducible refine (PteR.rmay_calls _ _ _ _ _ _ _ _ _ _ _ _ (by first | assumption | exact ⟨by omega, by omega⟩) (by first | assumption | exact ⟨by omega, by omega⟩) (by first | assumption | exact ⟨by omega, by omega⟩)).mono ?_); rintro e w2 ⟨rfl, hb⟩; exact ⟨rfl, hw'.trans (hb.mono hw'.size)⟩)
                   | (go_at_call 40; (with_reducible refine (PteR.rleaf_calls _ _ _ _ _ _ _ _ _ _ _ _).mono ?_); rintro e w2 ⟨rfl, hb⟩; exact ⟨rfl, hw'.trans (hb.mono hw'.size)⟩)
                   | (go_at_call 42; (with_reducible refine (PteR.rlink_calls _ _ _ _ _ _ _ _ _ _ _ _).mono ?_); rintro e w2 ⟨rfl, hb⟩; exact ⟨rfl, hw'.trans (hb.mono hw'.size)⟩)
                   | (go_at_call 44; (with_reducible refine (PteR.rbad_calls _ _ _ _ _ _ _ _ _ _ _ _ _ (by first | assumption | exact ⟨by omega, by omega⟩) (by first | assumption | exact ⟨by omega, by omega⟩) (by first | assumption | exact ⟨by omega, by omega⟩) (by omega) (by omega)).mono ?_); rintro e w2 ⟨rfl, hb⟩; exact ⟨rfl, hw'.trans (hb.mono hw'.size)⟩)
                   | (go_at_call 46; (with_reducible refine (PteR.rmake_calls _ _ _ _ _ _ _).mono ?_); rintro e w2 ⟨rfl, hb⟩; exact ⟨rfl, hw'.trans (hb.mono hw'.size)⟩)
                   | (go_at_call 48; (with_reducible refine (PteR.rperm_calls _ _ _ _ _ _ _ _ _ _ _ _).mono ?_); rintro e w2 ⟨rfl, hb⟩; exact ⟨rfl, hw'.trans (hb.mono hw'.size)⟩)
                   | (go_at_call 45; (with_reducible refine (PteC.make_calls _ _ _ _ _ _ _).mono ?_); rintro e w2 ⟨rfl, hb⟩; exact ⟨rfl, hw'.trans (hb.mono hw'.size)⟩)
                   | (obtain ⟨hcc, _⟩ := bcell hw'; go_simp; done)
                   | (obtain ⟨hcc, _⟩ := bcell hw'; go_simp; rfl)
                 clear hK K))
    refine wpQuiet_nil ?_
    intro w9 b9
    go_wp2
    go_ret
    exact ⟨rfl, bel_trans HW (bel_trans B8 b9)⟩
end Go.Proofs.YtjgnckhbafgalaaDoor.PteW
