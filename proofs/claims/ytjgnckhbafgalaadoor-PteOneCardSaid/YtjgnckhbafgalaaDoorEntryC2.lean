/- The contracts of the layer entry, second part: Over and May. -/
import Derived.Test.YtjgnckhbafgalaaDoorEntryC
namespace Go.Proofs.YtjgnckhbafgalaaDoor.EntryC
open Go.RowKit Go.Proofs.YtjgnckhbafgalaaDoor.Bv Go.Proofs.YtjgnckhbafgalaaDoor.VaSpec Go.Proofs.YtjgnckhbafgalaaDoor.Base Go.Proofs.YtjgnckhbafgalaaDoor.BitsC Go.Proofs.YtjgnckhbafgalaaDoor.VaC Go.Proofs.YtjgnckhbafgalaaDoor.PteSpec Go.Proofs.YtjgnckhbafgalaaDoor.EntrySpec Go.Proofs.YtjgnckhbafgalaaDoor.EqS Go.Proofs.YtjgnckhbafgalaaDoor.QTail
set_option linter.unusedVariables false
set_option linter.unusedSimpArgs false
attribute [local go_sem high] eq_perm eq_pte eq_ent
theorem name_world {P : Program} {Q : Exit → Act → World → Prop} {a : Act} {w : World} {c : Code} {F : World → Prop} (hF : F w) (h : ∀ w', F w' → c.wp P Q a w') : c.wp P Q a w := h w hF
set_option maxHeartbeats 4000000 in
theorem over_calls (v : Bool) (si : Int) (gl : Bool) (lv vpn ppn : Int) (r w x u d : Bool) (vq : Bool) (siq : Int) (glq : Bool) (lvq vpnq ppnq : Int) (rq wq xq uq dq : Bool) (W : World) (hl : v = true → 0 ≤ lv ∧ lv ≤ 2) (hlq : vq = true → 0 ≤ lvq ∧ lvq ≤ 2) (n0 : U vpn) (nq0 : U vpnq) (hG : G W) :
    Calls Tryd.prog 24 #[.agg #[.bool v, .int .u64 si, .bool gl, .int .i64 lv, .int .u64 vpn, .int .u64 ppn, .bool r, .bool w, .bool x, .bool u, .bool d], .agg #[.bool vq, .int .u64 siq, .bool glq, .int .i64 lvq, .int .u64 vpnq, .int .u64 ppnq, .bool rq, .bool wq, .bool xq, .bool uq, .bool dq]] W fun e w' => e = .returned (.bool (overE ⟨v, si, gl, lv, vpn, ppn, ⟨r, w, x, u⟩, d⟩ ⟨vq, siq, glq, lvq, vpnq, ppnq, ⟨rq, wq, xq, uq⟩, dq⟩)) ∧ Below W.heap.size W w' := by
  have o1 := ofv_bd vpn
  have o2 := ofv_bd vpnq
  by_cases hll : lv < lvq
  · have hm : overE ⟨v, si, gl, lv, vpn, ppn, ⟨r, w, x, u⟩, d⟩ ⟨vq, siq, glq, lvq, vpnq, ppnq, ⟨rq, wq, xq, uq⟩, dq⟩ = (v && coversE ⟨vq, siq, glq, lvq, vpnq, ppnq, ⟨rq, wq, xq, uq⟩, dq⟩ (ofv vpn)) := by unfold overE; rw [if_pos hll]
    have HM := Lib.hid hm; clear hm
    cases v
    · go_enter Tryd.func24, Tryd.ntmps24
      go_wp2_with fail
      refine name_world (F := fun w1 => w1.cell? ⟨W.heap.size, 0, none⟩ = some (.bool vq) ∧ w1.cell? ⟨W.heap.size, 1, none⟩ = some (.int .u64 siq) ∧ w1.cell? ⟨W.heap.size, 2, none⟩ = some (.bool glq) ∧ w1.cell? ⟨W.heap.size, 3, none⟩ = some (.int .i64 lvq) ∧ w1.cell? ⟨W.heap.size, 4, none⟩ = some (.int .u64 vpnq) ∧ w1.cell? ⟨W.heap.size, 5, none⟩ = some (.int .u64 ppnq) ∧ w1.cell? ⟨W.heap.size, 6, none⟩ = some (.bool rq) ∧ w1.cell? ⟨W.heap.size, 7, none⟩ = some (.bool wq) ∧ w1.cell? ⟨W.heap.size, 8, none⟩ = some (.bool xq) ∧ w1.cell? ⟨W.heap.size, 9, none⟩ = some (.bool uq) ∧ w1.cell? ⟨W.heap.size, 10, none⟩ = some (.bool dq) ∧ w1.cell? ⟨W.heap.size + 1, 0, none⟩ = some (.bool false) ∧ w1.cell? ⟨W.heap.size + 1, 1, none⟩ = some (.int .u64 si) ∧ w1.cell? ⟨W.heap.size + 1, 2, none⟩ = some (.bool gl) ∧ w1.cell? ⟨W.heap.size + 1, 3, none⟩ = some (.int .i64 lv) ∧ w1.cell? ⟨W.heap.size + 1, 4, none⟩ = some (.int .u64 vpn) ∧ w1.cell? ⟨W.heap.size + 1, 5, none⟩ = some (.int .u64 ppn) ∧ w1.cell? ⟨W.heap.size + 1, 6, none⟩ = some (.bool r) ∧ w1.cell? ⟨W.heap.size + 1, 7, none⟩ = some (.bool w) ∧ w1.cell? ⟨W.heap.size + 1, 8, none⟩ = some (.bool x) ∧ w1.cell? ⟨W.heap.size + 1, 9, none⟩ = some (.bool u) ∧ w1.cell? ⟨W.heap.size + 1, 10, none⟩ = some (.bool d) ∧ W.heap.size < w1.heap.size ∧ W.heap.size + 1 < w1.heap.size ∧ Below W.heap.size W w1) (by
        refine ⟨?_, ?_, ?_, ?_, ?_, ?_, ?_, ?_, ?_, ?_, ?_, ?_, ?_, ?_, ?_, ?_, ?_, ?_, ?_, ?_, ?_, ?_, ?_, ?_, ?_⟩
        all_goals first | (simp; done) | (simp; omega) | exact (by repeat (first | (with_reducible exact Below.refl _ _) | (with_reducible apply bel_drewN) | (with_reducible apply bel_alloc) | (with_reducible apply bel_trans; rotate_left; with_reducible assumption) | (with_reducible refine bel_setCell _ _ _ (by first | omega | (simp; done) | (simp; omega) | (simp at *; omega)) ?_)))) ?_
      rintro Wx ⟨p0, p1, p2, p3, p4, p5, p6, p7, p8, p9, p10, q0, q1, q2, q3, q4, q5, q6, q7, q8, q9, q10, hz0, hz1, BX⟩
      have hG0 : G Wx := hG.to BX
      refine region_below (by kernel_rfl) (by kernel_rfl) ?_
      repeat (with_reducible refine wpQuiet_step (fun K hK => ?_)
              go_simp
              first
                | (refine hK _ ?_; clear hK K)
                | (refine ⟨_, fun _ _ => rfl, hK _ ?_⟩; clear hK K)
                | (apply Exists.intro
                   refine ⟨fun w' hw' => ?_, hK _ ?_⟩
                   · first
                     | (go_at_call 66; (with_reducible refine (VaC.size_calls _ _ (by omega) (by omega) (hG0.below hw' (Nat.le_refl _))).mono ?_); rintro e w2 ⟨rfl, hb⟩; exact ⟨rfl, hw'.trans (hb.below.mono hw'.size)⟩)
                     | (go_at_call 52; (with_reducible refine (VaC.num_calls _ _ (by omega) (by omega)).mono ?_); rintro e w2 ⟨rfl, hb⟩; exact ⟨rfl, hw'.trans (hb.below.mono hw'.size)⟩)
                     | (go_at_call 55; (with_reducible refine (VaC.of_calls _ _ (by omega) (by omega)).mono ?_); rintro e w2 ⟨rfl, hb⟩; exact ⟨rfl, hw'.trans (hb.below.mono hw'.size)⟩)
                     | (go_at_call 53; (with_reducible refine (VaC.base_calls _ _ _ (by omega) (by omega) (by omega) (by omega) (hG0.below hw' (Nat.le_refl _))).mono ?_); rintro e w2 ⟨rfl, hb⟩; exact ⟨rfl, hw'.trans (hb.below.mono hw'.size)⟩)
                     | (go_at_call 56; (with_reducible refine (VaC.off_calls _ _ _ (by omega) (by omega) (by omega) (by omega) (hG0.below hw' (Nat.le_refl _))).mono ?_); rintro e w2 ⟨rfl, hb⟩; exact ⟨rfl, hw'.trans (hb.below.mono hw'.size)⟩)
                     | (go_at_call 51; (with_reducible refine (BitsC.even_calls _ _ _ (by assumption) (by assumption)).mono ?_); rintro e w2 ⟨rfl, hb⟩; exact ⟨rfl, hw'.trans (hb.below.mono hw'.size)⟩)
                     | (go_at_call 20; (with_reducible refine (covers_calls _ _ _ _ _ _ _ _ _ _ _ _ _ (by assumption) (by omega) (by omega) (hG0.below hw' (Nat.le_refl _))).mono ?_); rintro e w2 ⟨rfl, hb⟩; exact ⟨rfl, hw'.trans (hb.mono hw'.size)⟩)
                     | (go_at_call 34; (with_reducible refine (PteC.may_calls _ _ _ _ _ _ _ _ _ _ _ _ (by first | assumption | exact ⟨by omega, by omega⟩) (by first | assumption | exact ⟨by omega, by omega⟩) (by first | assumption | exact ⟨by omega, by omega⟩)).mono ?_); rintro e w2 ⟨rfl, hb⟩; exact ⟨rfl, hw'.trans (hb.mono hw'.size)⟩)
                     | (go_at_call 36; (with_reducible refine (PteC.pget_calls _ _ (by first | assumption | exact ⟨by omega, by omega⟩)).mono ?_); rintro e w2 ⟨rfl, hb⟩; exact ⟨rfl, hw'.trans (hb.mono hw'.size)⟩)
                     | (go_at_call 39; (with_reducible refine (PteC.leaf_calls _ _ _ _ _ _ _ _ _ _ _ _).mono ?_); rintro e w2 ⟨rfl, hb⟩; exact ⟨rfl, hw'.trans (hb.mono hw'.size)⟩)
                     | (go_at_call 41; (with_reducible refine (PteC.link_calls _ _ _ _ _ _ _ _ _ _ _ _).mono ?_); rintro e w2 ⟨rfl, hb⟩; exact ⟨rfl, hw'.trans (hb.mono hw'.size)⟩)
                     | (go_at_call 43; (with_reducible refine (PteC.bad_calls _ _ _ _ _ _ _ _ _ _ _ _ _ (by first | assumption | exact ⟨by omega, by omega⟩) (by first | assumption | exact ⟨by omega, by omega⟩) (by first | assumption | exact ⟨by omega, by omega⟩) (by omega) (by omega) (hG0.below hw' (Nat.le_refl _))).mono ?_); rintro e w2 ⟨rfl, hb⟩; exact ⟨rfl, hw'.trans (hb.mono hw'.size)⟩)
                     | (go_at_call 47; (with_reducible refine (PteC.perm_calls _ _ _ _ _ _ _ _ _ _ _ _).mono ?_); rintro e w2 ⟨rfl, hb⟩; exact ⟨rfl, hw'.trans (hb.mono hw'.size)⟩)
                     | (go_at_call 37; (with_reducible refine (PteR.rget_calls _ _ (by first | assumption | exact ⟨by omega, by omega⟩)).mono ?_); rintro e w2 ⟨rfl, hb⟩; exact ⟨rfl, hw'.trans (hb.mono hw'.size)⟩)
                     | (go_at_call 35; (with_reducible refine (PteR.rmay_calls _ _ _ _ _ _ _ _ _ _ _ _ (by first | assumption | exact ⟨by omega, by omega⟩) (by first | assumption | exact ⟨by omega, by omega⟩) (by first | assumption | exact ⟨by omega, by omega⟩)).mono ?_); rintro e w2 ⟨rfl, hb⟩; exact ⟨rfl, hw'.trans (hb.mono hw'.size)⟩)
                     | (go_at_call 40; (with_reducible refine (PteR.rleaf_calls _ _ _ _ _ _ _ _ _ _ _ _).mono ?_); rintro e w2 ⟨rfl, hb⟩; exact ⟨rfl, hw'.trans (hb.mono hw'.size)⟩)
                     | (go_at_call 42; (with_reducible refine (PteR.rlink_calls _ _ _ _ _ _ _ _ _ _ _ _).mono ?_); rintro e w2 ⟨rfl, hb⟩; exact ⟨rfl, hw'.trans (hb.mono hw'.size)⟩)
                     | (go_at_call 44; (with_reducible refine (PteR.rbad_calls _ _ _ _ _ _ _ _ _ _ _ _ _ (by first | assumption | exact ⟨by omega, by omega⟩) (by first | assumption | exact ⟨by omega, by omega⟩) (by first | assumption | exact ⟨by omega, by omega⟩) (by omega) (by omega)).mono ?_); rintro e w2 ⟨rfl, hb⟩; exact ⟨rfl, hw'.trans (hb.mono hw'.size)⟩)
                     | (go_at_call 46; (with_reducible refine (PteR.rmake_calls _ _ _ _ _ _ _).mono ?_); rintro e w2 ⟨rfl, hb⟩; exact ⟨rfl, hw'.trans (hb.mono hw'.size)⟩)
                     | (go_at_call 48; (with_reducible refine (PteR.rperm_calls _ _ _ _ _ _ _ _ _ _ _ _).mono ?_); rintro e w2 ⟨rfl, hb⟩; exact ⟨rfl, hw'.trans (hb.mono hw'.size)⟩)
                     | (go_at_call 45; (with_reducible refine (PteC.make_calls _ _ _ _ _ _ _).mono ?_); rintro e w2 ⟨rfl, hb⟩; exact ⟨rfl, hw'.trans (hb.mono hw'.size)⟩)
                     | (obtain ⟨hcc, _⟩ := bcell hw'; go_simp; done)
                     | (obtain ⟨hcc, _⟩ := bcell hw'; go_simp; rfl)
                   clear hK K))
      refine wpQuiet_nil ?_
      intro w9 b9
      go_wp2
      go_ret
      refine ⟨congrArg (fun z => Ending.returned (.bool z)) ?_, bel_trans BX b9⟩
      rw [HM.out]; simp
    · go_enter Tryd.func24, Tryd.ntmps24
      go_wp2_with fail
      refine name_world (F := fun w1 => w1.cell? ⟨W.heap.size, 0, none⟩ = some (.bool vq) ∧ w1.cell? ⟨W.heap.size, 1, none⟩ = some (.int .u64 siq) ∧ w1.cell? ⟨W.heap.size, 2, none⟩ = some (.bool glq) ∧ w1.cell? ⟨W.heap.size, 3, none⟩ = some (.int .i64 lvq) ∧ w1.cell? ⟨W.heap.size, 4, none⟩ = some (.int .u64 vpnq) ∧ w1.cell? ⟨W.heap.size, 5, none⟩ = some (.int .u64 ppnq) ∧ w1.cell? ⟨W.heap.size, 6, none⟩ = some (.bool rq) ∧ w1.cell? ⟨W.heap.size, 7, none⟩ = some (.bool wq) ∧ w1.cell? ⟨W.heap.size, 8, none⟩ = some (.bool xq) ∧ w1.cell? ⟨W.heap.size, 9, none⟩ = some (.bool uq) ∧ w1.cell? ⟨W.heap.size, 10, none⟩ = some (.bool dq) ∧ w1.cell? ⟨W.heap.size + 1, 0, none⟩ = some (.bool true) ∧ w1.cell? ⟨W.heap.size + 1, 1, none⟩ = some (.int .u64 si) ∧ w1.cell? ⟨W.heap.size + 1, 2, none⟩ = some (.bool gl) ∧ w1.cell? ⟨W.heap.size + 1, 3, none⟩ = some (.int .i64 lv) ∧ w1.cell? ⟨W.heap.size + 1, 4, none⟩ = some (.int .u64 vpn) ∧ w1.cell? ⟨W.heap.size + 1, 5, none⟩ = some (.int .u64 ppn) ∧ w1.cell? ⟨W.heap.size + 1, 6, none⟩ = some (.bool r) ∧ w1.cell? ⟨W.heap.size + 1, 7, none⟩ = some (.bool w) ∧ w1.cell? ⟨W.heap.size + 1, 8, none⟩ = some (.bool x) ∧ w1.cell? ⟨W.heap.size + 1, 9, none⟩ = some (.bool u) ∧ w1.cell? ⟨W.heap.size + 1, 10, none⟩ = some (.bool d) ∧ W.heap.size < w1.heap.size ∧ W.heap.size + 1 < w1.heap.size ∧ Below W.heap.size W w1) (by
        refine ⟨?_, ?_, ?_, ?_, ?_, ?_, ?_, ?_, ?_, ?_, ?_, ?_, ?_, ?_, ?_, ?_, ?_, ?_, ?_, ?_, ?_, ?_, ?_, ?_, ?_⟩
        all_goals first | (simp; done) | (simp; omega) | exact (by repeat (first | (with_reducible exact Below.refl _ _) | (with_reducible apply bel_drewN) | (with_reducible apply bel_alloc) | (with_reducible apply bel_trans; rotate_left; with_reducible assumption) | (with_reducible refine bel_setCell _ _ _ (by first | omega | (simp; done) | (simp; omega) | (simp at *; omega)) ?_)))) ?_
      rintro Wx ⟨p0, p1, p2, p3, p4, p5, p6, p7, p8, p9, p10, q0, q1, q2, q3, q4, q5, q6, q7, q8, q9, q10, hz0, hz1, BX⟩
      have hG0 : G Wx := hG.to BX
      refine region_below (by kernel_rfl) (by kernel_rfl) ?_
      repeat (with_reducible refine wpQuiet_step (fun K hK => ?_)
              go_simp
              first
                | (refine hK _ ?_; clear hK K)
                | (refine ⟨_, fun _ _ => rfl, hK _ ?_⟩; clear hK K)
                | (apply Exists.intro
                   refine ⟨fun w' hw' => ?_, hK _ ?_⟩
                   · first
                     | (go_at_call 66; (with_reducible refine (VaC.size_calls _ _ (by omega) (by omega) (hG0.below hw' (Nat.le_refl _))).mono ?_); rintro e w2 ⟨rfl, hb⟩; exact ⟨rfl, hw'.trans (hb.below.mono hw'.size)⟩)
                     | (go_at_call 52; (with_reducible refine (VaC.num_calls _ _ (by omega) (by omega)).mono ?_); rintro e w2 ⟨rfl, hb⟩; exact ⟨rfl, hw'.trans (hb.below.mono hw'.size)⟩)
                     | (go_at_call 55; (with_reducible refine (VaC.of_calls _ _ (by omega) (by omega)).mono ?_); rintro e w2 ⟨rfl, hb⟩; exact ⟨rfl, hw'.trans (hb.below.mono hw'.size)⟩)
                     | (go_at_call 53; (with_reducible refine (VaC.base_calls _ _ _ (by omega) (by omega) (by omega) (by omega) (hG0.below hw' (Nat.le_refl _))).mono ?_); rintro e w2 ⟨rfl, hb⟩; exact ⟨rfl, hw'.trans (hb.below.mono hw'.size)⟩)
                     | (go_at_call 56; (with_reducible refine (VaC.off_calls _ _ _ (by omega) (by omega) (by omega) (by omega) (hG0.below hw' (Nat.le_refl _))).mono ?_); rintro e w2 ⟨rfl, hb⟩; exact ⟨rfl, hw'.trans (hb.below.mono hw'.size)⟩)
                     | (go_at_call 51; (with_reducible refine (BitsC.even_calls _ _ _ (by assumption) (by assumption)).mono ?_); rintro e w2 ⟨rfl, hb⟩; exact ⟨rfl, hw'.trans (hb.below.mono hw'.size)⟩)
                     | (go_at_call 20; (with_reducible refine (covers_calls _ _ _ _ _ _ _ _ _ _ _ _ _ (by assumption) (by omega) (by omega) (hG0.below hw' (Nat.le_refl _))).mono ?_); rintro e w2 ⟨rfl, hb⟩; exact ⟨rfl, hw'.trans (hb.mono hw'.size)⟩)
                     | (go_at_call 34; (with_reducible refine (PteC.may_calls _ _ _ _ _ _ _ _ _ _ _ _ (by first | assumption | exact ⟨by omega, by omega⟩) (by first | assumption | exact ⟨by omega, by omega⟩) (by first | assumption | exact ⟨by omega, by omega⟩)).mono ?_); rintro e w2 ⟨rfl, hb⟩; exact ⟨rfl, hw'.trans (hb.mono hw'.size)⟩)
                     | (go_at_call 36; (with_reducible refine (PteC.pget_calls _ _ (by first | assumption | exact ⟨by omega, by omega⟩)).mono ?_); rintro e w2 ⟨rfl, hb⟩; exact ⟨rfl, hw'.trans (hb.mono hw'.size)⟩)
                     | (go_at_call 39; (with_reducible refine (PteC.leaf_calls _ _ _ _ _ _ _ _ _ _ _ _).mono ?_); rintro e w2 ⟨rfl, hb⟩; exact ⟨rfl, hw'.trans (hb.mono hw'.size)⟩)
                     | (go_at_call 41; (with_reducible refine (PteC.link_calls _ _ _ _ _ _ _ _ _ _ _ _).mono ?_); rintro e w2 ⟨rfl, hb⟩; exact ⟨rfl, hw'.trans (hb.mono hw'.size)⟩)
                     | (go_at_call 43; (with_reducible refine (PteC.bad_calls _ _ _ _ _ _ _ _ _ _ _ _ _ (by first | assumption | exact ⟨by omega, by omega⟩) (by first | assumption | exact ⟨by omega, by omega⟩) (by first | assumption | exact ⟨by omega, by omega⟩) (by omega) (by omega) (hG0.below hw' (Nat.le_refl _))).mono ?_); rintro e w2 ⟨rfl, hb⟩; exact ⟨rfl, hw'.trans (hb.mono hw'.size)⟩)
                     | (go_at_call 47; (with_reducible refine (PteC.perm_calls _ _ _ _ _ _ _ _ _ _ _ _).mono ?_); rintro e w2 ⟨rfl, hb⟩; exact ⟨rfl, hw'.trans (hb.mono hw'.size)⟩)
                     | (go_at_call 37; (with_reducible refine (PteR.rget_calls _ _ (by first | assumption | exact ⟨by omega, by omega⟩)).mono ?_); rintro e w2 ⟨rfl, hb⟩; exact ⟨rfl, hw'.trans (hb.mono hw'.size)⟩)
                     | (go_at_call 35; (with_reducible refine (PteR.rmay_calls _ _ _ _ _ _ _ _ _ _ _ _ (by first | assumption | exact ⟨by omega, by omega⟩) (by first | assumption | exact ⟨by omega, by omega⟩) (by first | assumption | exact ⟨by omega, by omega⟩)).mono ?_); rintro e w2 ⟨rfl, hb⟩; exact ⟨rfl, hw'.trans (hb.mono hw'.size)⟩)
                     | (go_at_call 40; (with_reducible refine (PteR.rleaf_calls _ _ _ _ _ _ _ _ _ _ _ _).mono ?_); rintro e w2 ⟨rfl, hb⟩; exact ⟨rfl, hw'.trans (hb.mono hw'.size)⟩)
                     | (go_at_call 42; (with_reducible refine (PteR.rlink_calls _ _ _ _ _ _ _ _ _ _ _ _).mono ?_); rintro e w2 ⟨rfl, hb⟩; exact ⟨rfl, hw'.trans (hb.mono hw'.size)⟩)
                     | (go_at_call 44; (with_reducible refine (PteR.rbad_calls _ _ _ _ _ _ _ _ _ _ _ _ _ (by first | assumption | exact ⟨by omega, by omega⟩) (by first | assumption | exact ⟨by omega, by omega⟩) (by first | assumption | exact ⟨by omega, by omega⟩) (by omega) (by omega)).mono ?_); rintro e w2 ⟨rfl, hb⟩; exact ⟨rfl, hw'.trans (hb.mono hw'.size)⟩)
                     | (go_at_call 46; (with_reducible refine (PteR.rmake_calls _ _ _ _ _ _ _).mono ?_); rintro e w2 ⟨rfl, hb⟩; exact ⟨rfl, hw'.trans (hb.mono hw'.size)⟩)
                     | (go_at_call 48; (with_reducible refine (PteR.rperm_calls _ _ _ _ _ _ _ _ _ _ _ _).mono ?_); rintro e w2 ⟨rfl, hb⟩; exact ⟨rfl, hw'.trans (hb.mono hw'.size)⟩)
                     | (go_at_call 45; (with_reducible refine (PteC.make_calls _ _ _ _ _ _ _).mono ?_); rintro e w2 ⟨rfl, hb⟩; exact ⟨rfl, hw'.trans (hb.mono hw'.size)⟩)
                     | (obtain ⟨hcc, _⟩ := bcell hw'; go_simp; done)
                     | (obtain ⟨hcc, _⟩ := bcell hw'; go_simp; rfl)
                   clear hK K))
      refine wpQuiet_nil ?_
      intro w9 b9
      go_wp2
      go_ret
      refine ⟨congrArg (fun z => Ending.returned (.bool z)) ?_, bel_trans BX b9⟩
      rw [HM.out]; simp
  · have hm : overE ⟨v, si, gl, lv, vpn, ppn, ⟨r, w, x, u⟩, d⟩ ⟨vq, siq, glq, lvq, vpnq, ppnq, ⟨rq, wq, xq, uq⟩, dq⟩ = (vq && coversE ⟨v, si, gl, lv, vpn, ppn, ⟨r, w, x, u⟩, d⟩ (ofv vpnq)) := by unfold overE; rw [if_neg hll]
    have HM := Lib.hid hm; clear hm
    cases vq
    · go_enter Tryd.func24, Tryd.ntmps24
      go_wp2_with fail
      refine name_world (F := fun w1 => w1.cell? ⟨W.heap.size, 0, none⟩ = some (.bool v) ∧ w1.cell? ⟨W.heap.size, 1, none⟩ = some (.int .u64 si) ∧ w1.cell? ⟨W.heap.size, 2, none⟩ = some (.bool gl) ∧ w1.cell? ⟨W.heap.size, 3, none⟩ = some (.int .i64 lv) ∧ w1.cell? ⟨W.heap.size, 4, none⟩ = some (.int .u64 vpn) ∧ w1.cell? ⟨W.heap.size, 5, none⟩ = some (.int .u64 ppn) ∧ w1.cell? ⟨W.heap.size, 6, none⟩ = some (.bool r) ∧ w1.cell? ⟨W.heap.size, 7, none⟩ = some (.bool w) ∧ w1.cell? ⟨W.heap.size, 8, none⟩ = some (.bool x) ∧ w1.cell? ⟨W.heap.size, 9, none⟩ = some (.bool u) ∧ w1.cell? ⟨W.heap.size, 10, none⟩ = some (.bool d) ∧ w1.cell? ⟨W.heap.size + 1, 0, none⟩ = some (.bool false) ∧ w1.cell? ⟨W.heap.size + 1, 1, none⟩ = some (.int .u64 siq) ∧ w1.cell? ⟨W.heap.size + 1, 2, none⟩ = some (.bool glq) ∧ w1.cell? ⟨W.heap.size + 1, 3, none⟩ = some (.int .i64 lvq) ∧ w1.cell? ⟨W.heap.size + 1, 4, none⟩ = some (.int .u64 vpnq) ∧ w1.cell? ⟨W.heap.size + 1, 5, none⟩ = some (.int .u64 ppnq) ∧ w1.cell? ⟨W.heap.size + 1, 6, none⟩ = some (.bool rq) ∧ w1.cell? ⟨W.heap.size + 1, 7, none⟩ = some (.bool wq) ∧ w1.cell? ⟨W.heap.size + 1, 8, none⟩ = some (.bool xq) ∧ w1.cell? ⟨W.heap.size + 1, 9, none⟩ = some (.bool uq) ∧ w1.cell? ⟨W.heap.size + 1, 10, none⟩ = some (.bool dq) ∧ W.heap.size < w1.heap.size ∧ W.heap.size + 1 < w1.heap.size ∧ Below W.heap.size W w1) (by
        refine ⟨?_, ?_, ?_, ?_, ?_, ?_, ?_, ?_, ?_, ?_, ?_, ?_, ?_, ?_, ?_, ?_, ?_, ?_, ?_, ?_, ?_, ?_, ?_, ?_, ?_⟩
        all_goals first | (simp; done) | (simp; omega) | exact (by repeat (first | (with_reducible exact Below.refl _ _) | (with_reducible apply bel_drewN) | (with_reducible apply bel_alloc) | (with_reducible apply bel_trans; rotate_left; with_reducible assumption) | (with_reducible refine bel_setCell _ _ _ (by first | omega | (simp; done) | (simp; omega) | (simp at *; omega)) ?_)))) ?_
      rintro Wx ⟨p0, p1, p2, p3, p4, p5, p6, p7, p8, p9, p10, q0, q1, q2, q3, q4, q5, q6, q7, q8, q9, q10, hz0, hz1, BX⟩
      have hG0 : G Wx := hG.to BX
      refine region_below (by kernel_rfl) (by kernel_rfl) ?_
      repeat (with_reducible refine wpQuiet_step (fun K hK => ?_)
              go_simp
              first
                | (refine hK _ ?_; clear hK K)
                | (refine ⟨_, fun _ _ => rfl, hK _ ?_⟩; clear hK K)
                | (apply Exists.intro
                   refine ⟨fun w' hw' => ?_, hK _ ?_⟩
                   · first
                     | (go_at_call 66; (with_reducible refine (VaC.size_calls _ _ (by omega) (by omega) (hG0.below hw' (Nat.le_refl _))).mono ?_); rintro e w2 ⟨rfl, hb⟩; exact ⟨rfl, hw'.trans (hb.below.mono hw'.size)⟩)
                     | (go_at_call 52; (with_reducible refine (VaC.num_calls _ _ (by omega) (by omega)).mono ?_); rintro e w2 ⟨rfl, hb⟩; exact ⟨rfl, hw'.trans (hb.below.mono hw'.size)⟩)
                     | (go_at_call 55; (with_reducible refine (VaC.of_calls _ _ (by omega) (by omega)).mono ?_); rintro e w2 ⟨rfl, hb⟩; exact ⟨rfl, hw'.trans (hb.below.mono hw'.size)⟩)
                     | (go_at_call 53; (with_reducible refine (VaC.base_calls _ _ _ (by omega) (by omega) (by omega) (by omega) (hG0.below hw' (Nat.le_refl _))).mono ?_); rintro e w2 ⟨rfl, hb⟩; exact ⟨rfl, hw'.trans (hb.below.mono hw'.size)⟩)
                     | (go_at_call 56; (with_reducible refine (VaC.off_calls _ _ _ (by omega) (by omega) (by omega) (by omega) (hG0.below hw' (Nat.le_refl _))).mono ?_); rintro e w2 ⟨rfl, hb⟩; exact ⟨rfl, hw'.trans (hb.below.mono hw'.size)⟩)
                     | (go_at_call 51; (with_reducible refine (BitsC.even_calls _ _ _ (by assumption) (by assumption)).mono ?_); rintro e w2 ⟨rfl, hb⟩; exact ⟨rfl, hw'.trans (hb.below.mono hw'.size)⟩)
                     | (go_at_call 20; (with_reducible refine (covers_calls _ _ _ _ _ _ _ _ _ _ _ _ _ (by assumption) (by omega) (by omega) (hG0.below hw' (Nat.le_refl _))).mono ?_); rintro e w2 ⟨rfl, hb⟩; exact ⟨rfl, hw'.trans (hb.mono hw'.size)⟩)
                     | (go_at_call 34; (with_reducible refine (PteC.may_calls _ _ _ _ _ _ _ _ _ _ _ _ (by first | assumption | exact ⟨by omega, by omega⟩) (by first | assumption | exact ⟨by omega, by omega⟩) (by first | assumption | exact ⟨by omega, by omega⟩)).mono ?_); rintro e w2 ⟨rfl, hb⟩; exact ⟨rfl, hw'.trans (hb.mono hw'.size)⟩)
                     | (go_at_call 36; (with_reducible refine (PteC.pget_calls _ _ (by first | assumption | exact ⟨by omega, by omega⟩)).mono ?_); rintro e w2 ⟨rfl, hb⟩; exact ⟨rfl, hw'.trans (hb.mono hw'.size)⟩)
                     | (go_at_call 39; (with_reducible refine (PteC.leaf_calls _ _ _ _ _ _ _ _ _ _ _ _).mono ?_); rintro e w2 ⟨rfl, hb⟩; exact ⟨rfl, hw'.trans (hb.mono hw'.size)⟩)
                     | (go_at_call 41; (with_reducible refine (PteC.link_calls _ _ _ _ _ _ _ _ _ _ _ _).mono ?_); rintro e w2 ⟨rfl, hb⟩; exact ⟨rfl, hw'.trans (hb.mono hw'.size)⟩)
                     | (go_at_call 43; (with_reducible refine (PteC.bad_calls _ _ _ _ _ _ _ _ _ _ _ _ _ (by first | assumption | exact ⟨by omega, by omega⟩) (by first | assumption | exact ⟨by omega, by omega⟩) (by first | assumption | exact ⟨by omega, by omega⟩) (by omega) (by omega) (hG0.below hw' (Nat.le_refl _))).mono ?_); rintro e w2 ⟨rfl, hb⟩; exact ⟨rfl, hw'.trans (hb.mono hw'.size)⟩)
                     | (go_at_call 47; (with_reducible refine (PteC.perm_calls _ _ _ _ _ _ _ _ _ _ _ _).mono ?_); rintro e w2 ⟨rfl, hb⟩; exact ⟨rfl, hw'.trans (hb.mono hw'.size)⟩)
                     | (go_at_call 37; (with_reducible refine (PteR.rget_calls _ _ (by first | assumption | exact ⟨by omega, by omega⟩)).mono ?_); rintro e w2 ⟨rfl, hb⟩; exact ⟨rfl, hw'.trans (hb.mono hw'.size)⟩)
                     | (go_at_call 35; (with_reducible refine (PteR.rmay_calls _ _ _ _ _ _ _ _ _ _ _ _ (by first | assumption | exact ⟨by omega, by omega⟩) (by first | assumption | exact ⟨by omega, by omega⟩) (by first | assumption | exact ⟨by omega, by omega⟩)).mono ?_); rintro e w2 ⟨rfl, hb⟩; exact ⟨rfl, hw'.trans (hb.mono hw'.size)⟩)
                     | (go_at_call 40; (with_reducible refine (PteR.rleaf_calls _ _ _ _ _ _ _ _ _ _ _ _).mono ?_); rintro e w2 ⟨rfl, hb⟩; exact ⟨rfl, hw'.trans (hb.mono hw'.size)⟩)
                     | (go_at_call 42; (with_reducible refine (PteR.rlink_calls _ _ _ _ _ _ _ _ _ _ _ _).mono ?_); rintro e w2 ⟨rfl, hb⟩; exact ⟨rfl, hw'.trans (hb.mono hw'.size)⟩)
                     | (go_at_call 44; (with_reducible refine (PteR.rbad_calls _ _ _ _ _ _ _ _ _ _ _ _ _ (by first | assumption | exact ⟨by omega, by omega⟩) (by first | assumption | exact ⟨by omega, by omega⟩) (by first | assumption | exact ⟨by omega, by omega⟩) (by omega) (by omega)).mono ?_); rintro e w2 ⟨rfl, hb⟩; exact ⟨rfl, hw'.trans (hb.mono hw'.size)⟩)
                     | (go_at_call 46; (with_reducible refine (PteR.rmake_calls _ _ _ _ _ _ _).mono ?_); rintro e w2 ⟨rfl, hb⟩; exact ⟨rfl, hw'.trans (hb.mono hw'.size)⟩)
                     | (go_at_call 48; (with_reducible refine (PteR.rperm_calls _ _ _ _ _ _ _ _ _ _ _ _).mono ?_); rintro e w2 ⟨rfl, hb⟩; exact ⟨rfl, hw'.trans (hb.mono hw'.size)⟩)
                     | (go_at_call 45; (with_reducible refine (PteC.make_calls _ _ _ _ _ _ _).mono ?_); rintro e w2 ⟨rfl, hb⟩; exact ⟨rfl, hw'.trans (hb.mono hw'.size)⟩)
                     | (obtain ⟨hcc, _⟩ := bcell hw'; go_simp; done)
                     | (obtain ⟨hcc, _⟩ := bcell hw'; go_simp; rfl)
                   clear hK K))
      refine wpQuiet_nil ?_
      intro w9 b9
      go_wp2
      go_ret
      refine ⟨congrArg (fun z => Ending.returned (.bool z)) ?_, bel_trans BX b9⟩
      rw [HM.out]; simp
    · go_enter Tryd.func24, Tryd.ntmps24
      go_wp2_with fail
      refine name_world (F := fun w1 => w1.cell? ⟨W.heap.size, 0, none⟩ = some (.bool v) ∧ w1.cell? ⟨W.heap.size, 1, none⟩ = some (.int .u64 si) ∧ w1.cell? ⟨W.heap.size, 2, none⟩ = some (.bool gl) ∧ w1.cell? ⟨W.heap.size, 3, none⟩ = some (.int .i64 lv) ∧ w1.cell? ⟨W.heap.size, 4, none⟩ = some (.int .u64 vpn) ∧ w1.cell? ⟨W.heap.size, 5, none⟩ = some (.int .u64 ppn) ∧ w1.cell? ⟨W.heap.size, 6, none⟩ = some (.bool r) ∧ w1.cell? ⟨W.heap.size, 7, none⟩ = some (.bool w) ∧ w1.cell? ⟨W.heap.size, 8, none⟩ = some (.bool x) ∧ w1.cell? ⟨W.heap.size, 9, none⟩ = some (.bool u) ∧ w1.cell? ⟨W.heap.size, 10, none⟩ = some (.bool d) ∧ w1.cell? ⟨W.heap.size + 1, 0, none⟩ = some (.bool true) ∧ w1.cell? ⟨W.heap.size + 1, 1, none⟩ = some (.int .u64 siq) ∧ w1.cell? ⟨W.heap.size + 1, 2, none⟩ = some (.bool glq) ∧ w1.cell? ⟨W.heap.size + 1, 3, none⟩ = some (.int .i64 lvq) ∧ w1.cell? ⟨W.heap.size + 1, 4, none⟩ = some (.int .u64 vpnq) ∧ w1.cell? ⟨W.heap.size + 1, 5, none⟩ = some (.int .u64 ppnq) ∧ w1.cell? ⟨W.heap.size + 1, 6, none⟩ = some (.bool rq) ∧ w1.cell? ⟨W.heap.size + 1, 7, none⟩ = some (.bool wq) ∧ w1.cell? ⟨W.heap.size + 1, 8, none⟩ = some (.bool xq) ∧ w1.cell? ⟨W.heap.size + 1, 9, none⟩ = some (.bool uq) ∧ w1.cell? ⟨W.heap.size + 1, 10, none⟩ = some (.bool dq) ∧ W.heap.size < w1.heap.size ∧ W.heap.size + 1 < w1.heap.size ∧ Below W.heap.size W w1) (by
        refine ⟨?_, ?_, ?_, ?_, ?_, ?_, ?_, ?_, ?_, ?_, ?_, ?_, ?_, ?_, ?_, ?_, ?_, ?_, ?_, ?_, ?_, ?_, ?_, ?_, ?_⟩
        all_goals first | (simp; done) | (simp; omega) | exact (by repeat (first | (with_reducible exact Below.refl _ _) | (with_reducible apply bel_drewN) | (with_reducible apply bel_alloc) | (with_reducible apply bel_trans; rotate_left; with_reducible assumption) | (with_reducible refine bel_setCell _ _ _ (by first | omega | (simp; done) | (simp; omega) | (simp at *; omega)) ?_)))) ?_
      rintro Wx ⟨p0, p1, p2, p3, p4, p5, p6, p7, p8, p9, p10, q0, q1, q2, q3, q4, q5, q6, q7, q8, q9, q10, hz0, hz1, BX⟩
      have hG0 : G Wx := hG.to BX
      refine region_below (by kernel_rfl) (by kernel_rfl) ?_
      repeat (with_reducible refine wpQuiet_step (fun K hK => ?_)
              go_simp
              first
                | (refine hK _ ?_; clear hK K)
                | (refine ⟨_, fun _ _ => rfl, hK _ ?_⟩; clear hK K)
                | (apply Exists.intro
                   refine ⟨fun w' hw' => ?_, hK _ ?_⟩
                   · first
                     | (go_at_call 66; (with_reducible refine (VaC.size_calls _ _ (by omega) (by omega) (hG0.below hw' (Nat.le_refl _))).mono ?_); rintro e w2 ⟨rfl, hb⟩; exact ⟨rfl, hw'.trans (hb.below.mono hw'.size)⟩)
                     | (go_at_call 52; (with_reducible refine (VaC.num_calls _ _ (by omega) (by omega)).mono ?_); rintro e w2 ⟨rfl, hb⟩; exact ⟨rfl, hw'.trans (hb.below.mono hw'.size)⟩)
                     | (go_at_call 55; (with_reducible refine (VaC.of_calls _ _ (by omega) (by omega)).mono ?_); rintro e w2 ⟨rfl, hb⟩; exact ⟨rfl, hw'.trans (hb.below.mono hw'.size)⟩)
                     | (go_at_call 53; (with_reducible refine (VaC.base_calls _ _ _ (by omega) (by omega) (by omega) (by omega) (hG0.below hw' (Nat.le_refl _))).mono ?_); rintro e w2 ⟨rfl, hb⟩; exact ⟨rfl, hw'.trans (hb.below.mono hw'.size)⟩)
                     | (go_at_call 56; (with_reducible refine (VaC.off_calls _ _ _ (by omega) (by omega) (by omega) (by omega) (hG0.below hw' (Nat.le_refl _))).mono ?_); rintro e w2 ⟨rfl, hb⟩; exact ⟨rfl, hw'.trans (hb.below.mono hw'.size)⟩)
                     | (go_at_call 51; (with_reducible refine (BitsC.even_calls _ _ _ (by assumption) (by assumption)).mono ?_); rintro e w2 ⟨rfl, hb⟩; exact ⟨rfl, hw'.trans (hb.below.mono hw'.size)⟩)
                     | (go_at_call 20; (with_reducible refine (covers_calls _ _ _ _ _ _ _ _ _ _ _ _ _ (by assumption) (by omega) (by omega) (hG0.below hw' (Nat.le_refl _))).mono ?_); rintro e w2 ⟨rfl, hb⟩; exact ⟨rfl, hw'.trans (hb.mono hw'.size)⟩)
                     | (go_at_call 34; (with_reducible refine (PteC.may_calls _ _ _ _ _ _ _ _ _ _ _ _ (by first | assumption | exact ⟨by omega, by omega⟩) (by first | assumption | exact ⟨by omega, by omega⟩) (by first | assumption | exact ⟨by omega, by omega⟩)).mono ?_); rintro e w2 ⟨rfl, hb⟩; exact ⟨rfl, hw'.trans (hb.mono hw'.size)⟩)
                     | (go_at_call 36; (with_reducible refine (PteC.pget_calls _ _ (by first | assumption | exact ⟨by omega, by omega⟩)).mono ?_); rintro e w2 ⟨rfl, hb⟩; exact ⟨rfl, hw'.trans (hb.mono hw'.size)⟩)
                     | (go_at_call 39; (with_reducible refine (PteC.leaf_calls _ _ _ _ _ _ _ _ _ _ _ _).mono ?_); rintro e w2 ⟨rfl, hb⟩; exact ⟨rfl, hw'.trans (hb.mono hw'.size)⟩)
                     | (go_at_call 41; (with_reducible refine (PteC.link_calls _ _ _ _ _ _ _ _ _ _ _ _).mono ?_); rintro e w2 ⟨rfl, hb⟩; exact ⟨rfl, hw'.trans (hb.mono hw'.size)⟩)
                     | (go_at_call 43; (with_reducible refine (PteC.bad_calls _ _ _ _ _ _ _ _ _ _ _ _ _ (by first | assumption | exact ⟨by omega, by omega⟩) (by first | assumption | exact ⟨by omega, by omega⟩) (by first | assumption | exact ⟨by omega, by omega⟩) (by omega) (by omega) (hG0.below hw' (Nat.le_refl _))).mono ?_); rintro e w2 ⟨rfl, hb⟩; exact ⟨rfl, hw'.trans (hb.mono hw'.size)⟩)
                     | (go_at_call 47; (with_reducible refine (PteC.perm_calls _ _ _ _ _ _ _ _ _ _ _ _).mono ?_); rintro e w2 ⟨rfl, hb⟩; exact ⟨rfl, hw'.trans (hb.mono hw'.size)⟩)
                     | (go_at_call 37; (with_reducible refine (PteR.rget_calls _ _ (by first | assumption | exact ⟨by omega, by omega⟩)).mono ?_); rintro e w2 ⟨rfl, hb⟩; exact ⟨rfl, hw'.trans (hb.mono hw'.size)⟩)
                     | (go_at_call 35; (with_reducible refine (PteR.rmay_calls _ _ _ _ _ _ _ _ _ _ _ _ (by first | assumption | exact ⟨by omega, by omega⟩) (by first | assumption | exact ⟨by omega, by omega⟩) (by first | assumption | exact ⟨by omega, by omega⟩)).mono ?_); rintro e w2 ⟨rfl, hb⟩; exact ⟨rfl, hw'.trans (hb.mono hw'.size)⟩)
                     | (go_at_call 40; (with_reducible refine (PteR.rleaf_calls _ _ _ _ _ _ _ _ _ _ _ _).mono ?_); rintro e w2 ⟨rfl, hb⟩; exact ⟨rfl, hw'.trans (hb.mono hw'.size)⟩)
                     | (go_at_call 42; (with_reducible refine (PteR.rlink_calls _ _ _ _ _ _ _ _ _ _ _ _).mono ?_); rintro e w2 ⟨rfl, hb⟩; exact ⟨rfl, hw'.trans (hb.mono hw'.size)⟩)
                     | (go_at_call 44; (with_reducible refine (PteR.rbad_calls _ _ _ _ _ _ _ _ _ _ _ _ _ (by first | assumption | exact ⟨by omega, by omega⟩) (by first | assumption | exact ⟨by omega, by omega⟩) (by first | assumption | exact ⟨by omega, by omega⟩) (by omega) (by omega)).mono ?_); rintro e w2 ⟨rfl, hb⟩; exact ⟨rfl, hw'.trans (hb.mono hw'.size)⟩)
                     | (go_at_call 46; (with_reducible refine (PteR.rmake_calls _ _ _ _ _ _ _).mono ?_); rintro e w2 ⟨rfl, hb⟩; exact ⟨rfl, hw'.trans (hb.mono hw'.size)⟩)
                     | (go_at_call 48; (with_reducible refine (PteR.rperm_calls _ _ _ _ _ _ _ _ _ _ _ _).mono ?_); rintro e w2 ⟨rfl, hb⟩; exact ⟨rfl, hw'.trans (hb.mono hw'.size)⟩)
                     | (go_at_call 45; (with_reducible refine (PteC.make_calls _ _ _ _ _ _ _).mono ?_); rintro e w2 ⟨rfl, hb⟩; exact ⟨rfl, hw'.trans (hb.mono hw'.size)⟩)
                     | (obtain ⟨hcc, _⟩ := bcell hw'; go_simp; done)
                     | (obtain ⟨hcc, _⟩ := bcell hw'; go_simp; rfl)
                   clear hK K))
      refine wpQuiet_nil ?_
      intro w9 b9
      go_wp2
      go_ret
      refine ⟨congrArg (fun z => Ending.returned (.bool z)) ?_, bel_trans BX b9⟩
      rw [HM.out]; simp
theorem mayE_out (v : Bool) (si : Int) (gl : Bool) (lv vpn ppn : Int) (r w x u d : Bool) (h : (v && (decide (0 ≤ lv) && decide (lv ≤ 2))) = false) : mayE ⟨v, si, gl, lv, vpn, ppn, ⟨r, w, x, u⟩, d⟩ = eqEnt ⟨v, si, gl, lv, vpn, ppn, ⟨r, w, x, u⟩, d⟩ zeroE := by
  unfold mayE eqEnt; simp only; rw [h]; rfl
theorem mayE_in (v : Bool) (si : Int) (gl : Bool) (lv vpn ppn : Int) (r w x u d : Bool) (h0 : 0 ≤ lv) (h2 : lv ≤ 2) (hv : v = true) : mayE ⟨v, si, gl, lv, vpn, ppn, ⟨r, w, x, u⟩, d⟩ = (PteC.fitsI vpn 27 && PteC.fitsI ppn 44 && PteC.fitsI si 16 && evenI vpn (pages lv) && evenI ppn (pages lv)) := by
  have hp := pages_bd lv
  subst hv
  unfold mayE; simp only
  rw [decide_eq_true h0, decide_eq_true h2, if_pos (show (true && (true && true)) = true from rfl)]
  unfold evenI rightE PteC.fitsI
  rw [if_neg (by omega), if_neg (by omega)]; rfl
set_option maxHeartbeats 4000000 in
theorem may_calls (v : Bool) (si : Int) (gl : Bool) (lv vpn ppn : Int) (r w x u d : Bool) (W : World) (n0 : U vpn) (p0 : U ppn) (s0 : U si) (hG : G W) :
    Calls Tryd.prog 14 #[.agg #[.bool v, .int .u64 si, .bool gl, .int .i64 lv, .int .u64 vpn, .int .u64 ppn, .bool r, .bool w, .bool x, .bool u, .bool d]] W fun e w' => e = .returned (.bool (mayE ⟨v, si, gl, lv, vpn, ppn, ⟨r, w, x, u⟩, d⟩)) ∧ Below W.heap.size W w' := by
  have hp := pages_bd lv
  have up : U (pages lv) := ⟨by omega, by omega⟩
  cases v
  · have HM := Lib.hid (mayE_out false si gl lv vpn ppn r w x u d rfl)
    go_enter Tryd.func14, Tryd.ntmps14
    go_wp2_with fail
    go_ret
    exact ⟨congrArg (fun z => Ending.returned (.bool z)) HM.out.symm, (by repeat (first | (with_reducible exact Below.refl _ _) | (with_reducible apply bel_drewN) | (with_reducible apply bel_alloc) | (with_reducible apply bel_trans; rotate_left; with_reducible assumption) | (with_reducible refine bel_setCell _ _ _ (by first | omega | (simp; done) | (simp; omega) | (simp at *; omega)) ?_)))⟩
  · by_cases h0 : lv < 0
    · have HM := Lib.hid (mayE_out true si gl lv vpn ppn r w x u d (by simp; omega))
      go_enter Tryd.func14, Tryd.ntmps14
      go_wp2_with fail
      go_ret
      exact ⟨congrArg (fun z => Ending.returned (.bool z)) HM.out.symm, (by repeat (first | (with_reducible exact Below.refl _ _) | (with_reducible apply bel_drewN) | (with_reducible apply bel_alloc) | (with_reducible apply bel_trans; rotate_left; with_reducible assumption) | (with_reducible refine bel_setCell _ _ _ (by first | omega | (simp; done) | (simp; omega) | (simp at *; omega)) ?_)))⟩
    · by_cases h2 : 2 < lv
      · have HM := Lib.hid (mayE_out true si gl lv vpn ppn r w x u d (by simp; omega))
        go_enter Tryd.func14, Tryd.ntmps14
        go_wp2_with fail
        go_ret
        exact ⟨congrArg (fun z => Ending.returned (.bool z)) HM.out.symm, (by repeat (first | (with_reducible exact Below.refl _ _) | (with_reducible apply bel_drewN) | (with_reducible apply bel_alloc) | (with_reducible apply bel_trans; rotate_left; with_reducible assumption) | (with_reducible refine bel_setCell _ _ _ (by first | omega | (simp; done) | (simp; omega) | (simp at *; omega)) ?_)))⟩
      · have HM := Lib.hid (mayE_in true si gl lv vpn ppn r w x u d (by omega) (by omega) rfl)
        cases f1 : PteC.fitsI vpn 27
        all_goals cases f2 : PteC.fitsI ppn 44
        all_goals cases f3 : PteC.fitsI si 16
        all_goals cases f4 : evenI vpn (pages lv)
        all_goals
          go_enter Tryd.func14, Tryd.ntmps14
          go_wp2_with (first
      | (go_at_call 49; (with_reducible refine (pages_calls _ _ (by omega) (by omega) (by first | assumption | exact hG.to (by repeat (first | (with_reducible exact Below.refl _ _) | (with_reducible apply bel_drewN) | (with_reducible apply bel_alloc) | (with_reducible apply bel_trans; rotate_left; with_reducible assumption) | (with_reducible refine bel_setCell _ _ _ (by first | omega | (simp; done) | (simp; omega) | (simp at *; omega)) ?_))))).mono ?_); rintro e w' ⟨rfl, ⟨nd, rfl⟩⟩)
      | (go_at_call 50; (with_reducible refine (fits_calls _ _ _ (by assumption) (by omega) (by omega)).mono ?_); rintro e w' ⟨rfl, ⟨nd, rfl⟩⟩)
      | (go_at_call 51; (with_reducible refine (even_calls _ _ _ (by assumption) (by assumption)).mono ?_); rintro e w' ⟨rfl, ⟨nd, rfl⟩⟩)
      | fail)
          go_ret
          exact ⟨congrArg (fun z => Ending.returned (.bool z)) (by rw [HM.out]; simp [*]), (by repeat (first | (with_reducible exact Below.refl _ _) | (with_reducible apply bel_drewN) | (with_reducible apply bel_alloc) | (with_reducible apply bel_trans; rotate_left; with_reducible assumption) | (with_reducible refine bel_setCell _ _ _ (by first | omega | (simp; done) | (simp; omega) | (simp at *; omega)) ?_)))⟩
end Go.Proofs.YtjgnckhbafgalaaDoor.EntryC
