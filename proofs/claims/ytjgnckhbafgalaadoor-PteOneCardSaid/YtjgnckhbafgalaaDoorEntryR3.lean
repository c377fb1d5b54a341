/- The contracts of the reference of the layer entry, third part: Over, and a law's own leaf. -/
import Derived.Test.YtjgnckhbafgalaaDoorEntryR2
namespace Go.Proofs.YtjgnckhbafgalaaDoor.EntryR
open Go.RowKit Go.Proofs.YtjgnckhbafgalaaDoor.Bv Go.Proofs.YtjgnckhbafgalaaDoor.VaSpec Go.Proofs.YtjgnckhbafgalaaDoor.Base Go.Proofs.YtjgnckhbafgalaaDoor.BitsC Go.Proofs.YtjgnckhbafgalaaDoor.VaC Go.Proofs.YtjgnckhbafgalaaDoor.PteSpec Go.Proofs.YtjgnckhbafgalaaDoor.EntrySpec Go.Proofs.YtjgnckhbafgalaaDoor.EqS Go.Proofs.YtjgnckhbafgalaaDoor.QTail
set_option linter.unusedVariables false
set_option linter.unusedSimpArgs false
attribute [local go_sem high] eq_perm eq_pte eq_ent
open Go.Proofs.YtjgnckhbafgalaaDoor.EntryC (name_world pages_div)
set_option maxHeartbeats 4000000 in
theorem rover_calls (v : Bool) (si : Int) (gl : Bool) (lv vpn ppn : Int) (r w x u d : Bool) (vq : Bool) (siq : Int) (glq : Bool) (lvq vpnq ppnq : Int) (rq wq xq uq dq : Bool) (W : World) (n0 : 0 ≤ vpn) (nq0 : 0 ≤ vpnq) (h : mayE ⟨v, si, gl, lv, vpn, ppn, ⟨r, w, x, u⟩, d⟩ = true) (k : mayE ⟨vq, siq, glq, lvq, vpnq, ppnq, ⟨rq, wq, xq, uq⟩, dq⟩ = true) (hG : G W) :
    Calls Tryd.prog 25 #[.agg #[.bool v, .int .u64 si, .bool gl, .int .i64 lv, .int .u64 vpn, .int .u64 ppn, .bool r, .bool w, .bool x, .bool u, .bool d], .agg #[.bool vq, .int .u64 siq, .bool glq, .int .i64 lvq, .int .u64 vpnq, .int .u64 ppnq, .bool rq, .bool wq, .bool xq, .bool uq, .bool dq]] W fun e w' => e = .returned (.bool (overE ⟨v, si, gl, lv, vpn, ppn, ⟨r, w, x, u⟩, d⟩ ⟨vq, siq, glq, lvq, vpnq, ppnq, ⟨rq, wq, xq, uq⟩, dq⟩)) ∧ Below W.heap.size W w' := by
  have HM := Lib.hid (over_plain ⟨v, si, gl, lv, vpn, ppn, ⟨r, w, x, u⟩, d⟩ ⟨vq, siq, glq, lvq, vpnq, ppnq, ⟨rq, wq, xq, uq⟩, dq⟩ n0 nq0 h k)
  obtain ⟨⟨l0, l2⟩, n1, _⟩ := mayE_bd h
  obtain ⟨⟨k0, k2⟩, m1, _⟩ := mayE_bd k
  simp only at l0 l2 n1 k0 k2 m1
  clear h k
  have g1 := pages_bd lv
  have g2 := pages_bd lvq
  have w1 : IntKind.u64.wrap (vpn + pages lv) = vpn + pages lv := by rw [wrap_u64]; omega
  have w2 : IntKind.u64.wrap (vpnq + pages lvq) = vpnq + pages lvq := by rw [wrap_u64]; omega
  cases v
  · go_enter Tryd.func25, Tryd.ntmps25
    go_wp2_with fail
    refine name_world (F := fun w1 => w1.cell? ⟨W.heap.size, 0, none⟩ = some (.bool false) ∧ w1.cell? ⟨W.heap.size, 1, none⟩ = some (.int .u64 si) ∧ w1.cell? ⟨W.heap.size, 2, none⟩ = some (.bool gl) ∧ w1.cell? ⟨W.heap.size, 3, none⟩ = some (.int .i64 lv) ∧ w1.cell? ⟨W.heap.size, 4, none⟩ = some (.int .u64 vpn) ∧ w1.cell? ⟨W.heap.size, 5, none⟩ = some (.int .u64 ppn) ∧ w1.cell? ⟨W.heap.size, 6, none⟩ = some (.bool r) ∧ w1.cell? ⟨W.heap.size, 7, none⟩ = some (.bool w) ∧ w1.cell? ⟨W.heap.size, 8, none⟩ = some (.bool x) ∧ w1.cell? ⟨W.heap.size, 9, none⟩ = some (.bool u) ∧ w1.cell? ⟨W.heap.size, 10, none⟩ = some (.bool d) ∧ w1.cell? ⟨W.heap.size + 1, 0, none⟩ = some (.bool vq) ∧ w1.cell? ⟨W.heap.size + 1, 1, none⟩ = some (.int .u64 siq) ∧ w1.cell? ⟨W.heap.size + 1, 2, none⟩ = some (.bool glq) ∧ w1.cell? ⟨W.heap.size + 1, 3, none⟩ = some (.int .i64 lvq) ∧ w1.cell? ⟨W.heap.size + 1, 4, none⟩ = some (.int .u64 vpnq) ∧ w1.cell? ⟨W.heap.size + 1, 5, none⟩ = some (.int .u64 ppnq) ∧ w1.cell? ⟨W.heap.size + 1, 6, none⟩ = some (.bool rq) ∧ w1.cell? ⟨W.heap.size + 1, 7, none⟩ = some (.bool wq) ∧ w1.cell? ⟨W.heap.size + 1, 8, none⟩ = some (.bool xq) ∧ w1.cell? ⟨W.heap.size + 1, 9, none⟩ = some (.bool uq) ∧ w1.cell? ⟨W.heap.size + 1, 10, none⟩ = some (.bool dq) ∧ W.heap.size < w1.heap.size ∧ W.heap.size + 1 < w1.heap.size ∧ Below W.heap.size W w1) (by
      refine ⟨?_, ?_, ?_, ?_, ?_, ?_, ?_, ?_, ?_, ?_, ?_, ?_, ?_, ?_, ?_, ?_, ?_, ?_, ?_, ?_, ?_, ?_, ?_, ?_, ?_⟩
      all_goals first | (simp; done) | (simp; omega) | (intro i; simp; done) | exact (by repeat (first | (with_reducible exact Below.refl _ _) | (with_reducible apply bel_drewN) | (with_reducible apply bel_alloc) | (with_reducible apply bel_trans; rotate_left; with_reducible assumption) | (with_reducible refine bel_setCell _ _ _ (by first | omega | (simp; done) | (simp; omega) | (simp at *; omega)) ?_)))) ?_
    rintro Wx ⟨p0, p1, p2, p3, p4, p5, p6, p7, p8, p9, p10, q0, q1, q2, q3, q4, q5, q6, q7, q8, q9, q10, hz0, hz1, BX⟩
    have hG0 : G Wx := hG.to BX
    refine region_below (by kernel_rfl) (by kernel_rfl) ?_
    repeat (with_reducible refine wpQuiet_step (fun K hK => ?_)
            go_simp
            first
              | (refine hK _ ?_; clear hK K)
              | (refine ⟨_, fun _ _ => rfl, hK _ ?_⟩; clear hK K)
              | (apply Exists.intro
                 refine ⟨fun w' hw' => ?_, hK _ ?_⟩
                 · first
                   | (go_at_call 66; (with_reducible refine (VaC.size_calls _ _ (by omega) (by omega) (hG0.below hw' (Nat.le_refl _))).mono ?_); rintro e w2 ⟨rfl, hb⟩; exact ⟨rfl, hw'.trans (hb.below.mono hw'.size)⟩)
                   | (go_at_call 52; (with_reducible refine (VaC.num_calls _ _ (by omega) (by omega)).mono ?_); rintro e w2 ⟨rfl, hb⟩; exact ⟨rfl, hw'.trans (hb.below.mono hw'.size)⟩)
                   | (go_at_call 55; (with_reducible refine (VaC.of_calls _ _ (by omega) (by omega)).mono ?_); rintro e w2 ⟨rfl, hb⟩; exact ⟨rfl, hw'.trans (hb.below.mono hw'.size)⟩)
                   | (go_at_call 53; (with_reducible refine (VaC.base_calls _ _ _ (by omega) (by omega) (by omega) (by omega) (hG0.below hw' (Nat.le_refl _))).mono ?_); rintro e w2 ⟨rfl, hb⟩; exact ⟨rfl, hw'.trans (hb.below.mono hw'.size)⟩)
                   | (go_at_call 56; (with_reducible refine (VaC.off_calls _ _ _ (by omega) (by omega) (by omega) (by omega) (hG0.below hw' (Nat.le_refl _))).mono ?_); rintro e w2 ⟨rfl, hb⟩; exact ⟨rfl, hw'.trans (hb.below.mono hw'.size)⟩)
                   | (go_at_call 51; (with_reducible refine (BitsC.even_calls _ _ _ (by assumption) (by assumption)).mono ?_); rintro e w2 ⟨rfl, hb⟩; exact ⟨rfl, hw'.trans (hb.below.mono hw'.size)⟩)
                   | (go_at_call 54; (with_reducible refine (VaR.rnum_calls _ _ (by omega) (by omega)).mono ?_); rintro e w2 ⟨rfl, hb⟩; exact ⟨rfl, hw'.trans (hb.below.mono hw'.size)⟩)
                   | (go_at_call 57; (with_reducible refine (VaR.roff_calls _ _ _ (by omega) (by omega) (by omega) (by omega)).mono ?_); rintro e w2 ⟨rfl, hb⟩; exact ⟨rfl, hw'.trans (hb.below.mono hw'.size)⟩)
                   | (go_at_call 31; (with_reducible refine (rpages_calls _ _ (by omega) (by omega)).mono ?_); rintro e w2 ⟨rfl, hb⟩; exact ⟨rfl, hw'.trans (hb.below.mono hw'.size)⟩)
                   | (go_at_call 34; (with_reducible refine (PteC.may_calls _ _ _ _ _ _ _ _ _ _ _ _ (by first | assumption | exact ⟨by omega, by omega⟩) (by first | assumption | exact ⟨by omega, by omega⟩) (by first | assumption | exact ⟨by omega, by omega⟩)).mono ?_); rintro e w2 ⟨rfl, hb⟩; exact ⟨rfl, hw'.trans (hb.mono hw'.size)⟩)
                   | (go_at_call 36; (with_reducible refine (PteC.pget_calls _ _ (by first | assumption | exact ⟨by omega, by omega⟩)).mono ?_); rintro e w2 ⟨rfl, hb⟩; exact ⟨rfl, hw'.trans (hb.mono hw'.size)⟩)
                   | (go_at_call 39; (with_reducible refine (PteC.leaf_calls _ _ _ _ _ _ _ _ _ _ _ _).mono ?_); rintro e w2 ⟨rfl, hb⟩; exact ⟨rfl, hw'.trans (hb.mono hw'.size)⟩)
                   | (go_at_call 41; (with_reducible refine (PteC.link_calls _ _ _ _ _ _ _ _ _ _ _ _).mono ?_); rintro e w2 ⟨rfl, hb⟩; exact ⟨rfl, hw'.trans (hb.mono hw'.size)⟩)
                   | (go_at_call 43; (with_reducible refine (PteC.bad_calls _ _ _ _ _ _ _ _ _ _ _ _ _ (by first | assumption | exact ⟨by omega, by omega⟩) (by first | assumption | exact ⟨by omega, by omega⟩) (by first | assumption | exact ⟨by omega, by omega⟩) (by omega) (by omega) (hG0.below hw' (Nat.le_refl _))).mono ?_); rintro e w2 ⟨rfl, hb⟩; exact ⟨rfl, hw'.trans (hb.mono hw'.size)⟩)
                   | (go_at_call 47; (with_reducible refine (PteC.perm_calls _ _ _ _ _ _ _ _ _ _ _ _).mono ?_); rintro e w2 ⟨rfl, hb⟩; exact ⟨rfl, hw'.trans (hb.mono hw'.size)⟩)
                   | (go_at_call 37; (with_reducible refine (PteR.rget_calls _ _ (by first | assumption | exact ⟨by omega, by omega⟩)).mono ?_); rintro e w2 ⟨rfl, hb⟩; exact ⟨rfl, hw'.trans (hb.mono hw'.size)⟩)
                   | (go_at_call 35; (with_reducible refine (PteR.rmay_calls _ _ _ _ _ _ _ _ _ _ _ _ (by first | assumption | exact ⟨by omega, by omega⟩) (by first | assumption | exact ⟨by omega, by omega⟩) (by first | assumption | exact ⟨by omega, by omega⟩)).mono ?_); rintro e w2 ⟨rfl, hb⟩; exact ⟨rfl, hw'.trans (hb.mono hw'.size)⟩)
                   | (go_at_call 40; (with_reducible refine (PteR.rleaf_calls _ _ _ _ _ _ _ _ _ _ _ _).mono ?_); rintro e w2 ⟨rfl, hb⟩; exact ⟨rfl, hw'.trans (hb.mono hw'.size)⟩)
                   | (go_at_call 42; (with_reducible refine (PteR.rlink_calls _ _ _ _ _ _ _ _ _ _ _ _).mono ?_); rintro e w2 ⟨rfl, hb⟩; exact ⟨rfl, hw'.trans (hb.mono hw'.size)⟩)
                   | (go_at_call 44; (with_reducible refine (PteR.rbad_calls _ _ _ _ _ _ _ _ _ _ _ _ _ (by first | assumption | exact ⟨by omega, by omega⟩) (by first | assumption | exact ⟨by omega, by omega⟩) (by first | assumption | exact ⟨by omega, by omega⟩) (by omega) (by omega)).mono ?_); rintro e w2 ⟨rfl, hb⟩; exact ⟨rfl, hw'.trans (hb.mono hw'.size)⟩)
                   | (go_at_call 46; (with_reducible refine (PteR.rmake_calls _ _ _ _ _ _ _).mono ?_); rintro e w2 ⟨rfl, hb⟩; exact ⟨rfl, hw'.trans (hb.mono hw'.size)⟩)
                   | (go_at_call 48; (with_reducible refine (PteR.rperm_calls _ _ _ _ _ _ _ _ _ _ _ _).mono ?_); rintro e w2 ⟨rfl, hb⟩; exact ⟨rfl, hw'.trans (hb.mono hw'.size)⟩)
                   | (go_at_call 45; (with_reducible refine (PteC.make_calls _ _ _ _ _ _ _).mono ?_); rintro e w2 ⟨rfl, hb⟩; exact ⟨rfl, hw'.trans (hb.mono hw'.size)⟩)
                   | (obtain ⟨hcc, _⟩ := bcell hw'; go_simp; done)
                   | (obtain ⟨hcc, _⟩ := bcell hw'; go_simp; rfl)
                 clear hK K))
    refine wpQuiet_nil ?_
    intro w9 b9
    go_wp2
    go_ret
    refine ⟨congrArg (fun z => Ending.returned (.bool z)) ?_, bel_trans BX b9⟩
    rw [HM.out]; simp
  · cases vq
    · go_enter Tryd.func25, Tryd.ntmps25
      go_wp2_with fail
      refine name_world (F := fun w1 => w1.cell? ⟨W.heap.size, 0, none⟩ = some (.bool true) ∧ w1.cell? ⟨W.heap.size, 1, none⟩ = some (.int .u64 si) ∧ w1.cell? ⟨W.heap.size, 2, none⟩ = some (.bool gl) ∧ w1.cell? ⟨W.heap.size, 3, none⟩ = some (.int .i64 lv) ∧ w1.cell? ⟨W.heap.size, 4, none⟩ = some (.int .u64 vpn) ∧ w1.cell? ⟨W.heap.size, 5, none⟩ = some (.int .u64 ppn) ∧ w1.cell? ⟨W.heap.size, 6, none⟩ = some (.bool r) ∧ w1.cell? ⟨W.heap.size, 7, none⟩ = some (.bool w) ∧ w1.cell? ⟨W.heap.size, 8, none⟩ = some (.bool x) ∧ w1.cell? ⟨W.heap.size, 9, none⟩ = some (.bool u) ∧ w1.cell? ⟨W.heap.size, 10, none⟩ = some (.bool d) ∧ w1.cell? ⟨W.heap.size + 1, 0, none⟩ = some (.bool false) ∧ w1.cell? ⟨W.heap.size + 1, 1, none⟩ = some (.int .u64 siq) ∧ w1.cell? ⟨W.heap.size + 1, 2, none⟩ = some (.bool glq) ∧ w1.cell? ⟨W.heap.size + 1, 3, none⟩ = some (.int .i64 lvq) ∧ w1.cell? ⟨W.heap.size + 1, 4, none⟩ = some (.int .u64 vpnq) ∧ w1.cell? ⟨W.heap.size + 1, 5, none⟩ = some (.int .u64 ppnq) ∧ w1.cell? ⟨W.heap.size + 1, 6, none⟩ = some (.bool rq) ∧ w1.cell? ⟨W.heap.size + 1, 7, none⟩ = some (.bool wq) ∧ w1.cell? ⟨W.heap.size + 1, 8, none⟩ = some (.bool xq) ∧ w1.cell? ⟨W.heap.size + 1, 9, none⟩ = some (.bool uq) ∧ w1.cell? ⟨W.heap.size + 1, 10, none⟩ = some (.bool dq) ∧ W.heap.size < w1.heap.size ∧ W.heap.size + 1 < w1.heap.size ∧ Below W.heap.size W w1) (by
        refine ⟨?_, ?_, ?_, ?_, ?_, ?_, ?_, ?_, ?_, ?_, ?_, ?_, ?_, ?_, ?_, ?_, ?_, ?_, ?_, ?_, ?_, ?_, ?_, ?_, ?_⟩
        all_goals first | (simp; done) | (simp; omega) | (intro i; simp; done) | exact (by repeat (first | (with_reducible exact Below.refl _ _) | (with_reducible apply bel_drewN) | (with_reducible apply bel_alloc) | (with_reducible apply bel_trans; rotate_left; with_reducible assumption) | (with_reducible refine bel_setCell _ _ _ (by first | omega | (simp; done) | (simp; omega) | (simp at *; omega)) ?_)))) ?_
      rintro Wx ⟨p0, p1, p2, p3, p4, p5, p6, p7, p8, p9, p10, q0, q1, q2, q3, q4, q5, q6, q7, q8, q9, q10, hz0, hz1, BX⟩
      have hG0 : G Wx := hG.to BX
      refine region_below (by kernel_rfl) (by kernel_rfl) ?_
      repeat (with_reducible refine wpQuiet_step (fun K hK => ?_)
              go_simp
              first
                | (refine hK _ ?_; clear hK K)
                | (refine ⟨_, fun _ _ => rfl, hK _ ?_⟩; clear hK K)
                | (apply Exists.intro
                   refine ⟨fun w' hw' => ?_, hK _ ?_⟩
                   · first
                     | (go_at_call 66; (with_reducible refine (VaC.size_calls _ _ (by omega) (by omega) (hG0.below hw' (Nat.le_refl _))).mono ?_); rintro e w2 ⟨rfl, hb⟩; exact ⟨rfl, hw'.trans (hb.below.mono hw'.size)⟩)
                     | (go_at_call 52; (with_reducible refine (VaC.num_calls _ _ (by omega) (by omega)).mono ?_); rintro e w2 ⟨rfl, hb⟩; exact ⟨rfl, hw'.trans (hb.below.mono hw'.size)⟩)
                     | (go_at_call 55; (with_reducible refine (VaC.of_calls _ _ (by omega) (by omega)).mono ?_); rintro e w2 ⟨rfl, hb⟩; exact ⟨rfl, hw'.trans (hb.below.mono hw'.size)⟩)
                     | (go_at_call 53; (with_reducible refine (VaC.base_calls _ _ _ (by omega) (by omega) (by omega) (by omega) (hG0.below hw' (Nat.le_refl _))).mono ?_); rintro e w2 ⟨rfl, hb⟩; exact ⟨rfl, hw'.trans (hb.below.mono hw'.size)⟩)
                     | (go_at_call 56; (with_reducible refine (VaC.off_calls _ _ _ (by omega) (by omega) (by omega) (by omega) (hG0.below hw' (Nat.le_refl _))).mono ?_); rintro e w2 ⟨rfl, hb⟩; exact ⟨rfl, hw'.trans (hb.below.mono hw'.size)⟩)
                     | (go_at_call 51; (with_reducible refine (BitsC.even_calls _ _ _ (by assumption) (by assumption)).mono ?_); rintro e w2 ⟨rfl, hb⟩; exact ⟨rfl, hw'.trans (hb.below.mono hw'.size)⟩)
                     | (go_at_call 54; (with_reducible refine (VaR.rnum_calls _ _ (by omega) (by omega)).mono ?_); rintro e w2 ⟨rfl, hb⟩; exact ⟨rfl, hw'.trans (hb.below.mono hw'.size)⟩)
                     | (go_at_call 57; (with_reducible refine (VaR.roff_calls _ _ _ (by omega) (by omega) (by omega) (by omega)).mono ?_); rintro e w2 ⟨rfl, hb⟩; exact ⟨rfl, hw'.trans (hb.below.mono hw'.size)⟩)
                     | (go_at_call 31; (with_reducible refine (rpages_calls _ _ (by omega) (by omega)).mono ?_); rintro e w2 ⟨rfl, hb⟩; exact ⟨rfl, hw'.trans (hb.below.mono hw'.size)⟩)
                     | (go_at_call 34; (with_reducible refine (PteC.may_calls _ _ _ _ _ _ _ _ _ _ _ _ (by first | assumption | exact ⟨by omega, by omega⟩) (by first | assumption | exact ⟨by omega, by omega⟩) (by first | assumption | exact ⟨by omega, by omega⟩)).mono ?_); rintro e w2 ⟨rfl, hb⟩; exact ⟨rfl, hw'.trans (hb.mono hw'.size)⟩)
                     | (go_at_call 36; (with_reducible refine (PteC.pget_calls _ _ (by first | assumption | exact ⟨by omega, by omega⟩)).mono ?_); rintro e w2 ⟨rfl, hb⟩; exact ⟨rfl, hw'.trans (hb.mono hw'.size)⟩)
                     | (go_at_call 39; (with_reducible refine (PteC.leaf_calls _ _ _ _ _ _ _ _ _ _ _ _).mono ?_); rintro e w2 ⟨rfl, hb⟩; exact ⟨rfl, hw'.trans (hb.mono hw'.size)⟩)
                     | (go_at_call 41; (with_reducible refine (PteC.link_calls _ _ _ _ _ _ _ _ _ _ _ _).mono ?_); rintro e w2 ⟨rfl, hb⟩; exact ⟨rfl, hw'.trans (hb.mono hw'.size)⟩)
                     | (go_at_call 43; (with_reducible refine (PteC.bad_calls _ _ _ _ _ _ _ _ _ _ _ _ _ (by first | assumption | exact ⟨by omega, by omega⟩) (by first | assumption | exact ⟨by omega, by omega⟩) (by first | assumption | exact ⟨by omega, by omega⟩) (by omega) (by omega) (hG0.below hw' (Nat.le_refl _))).mono ?_); rintro e w2 ⟨rfl, hb⟩; exact ⟨rfl, hw'.trans (hb.mono hw'.size)⟩)
                     | (go_at_call 47; (with_reducible refine (PteC.perm_calls _ _ _ _ _ _ _ _ _ _ _ _).mono ?_); rintro e w2 ⟨rfl, hb⟩; exact ⟨rfl, hw'.trans (hb.mono hw'.size)⟩)
                     | (go_at_call 37; (with_reducible refine (PteR.rget_calls _ _ (by first | assumption | exact ⟨by omega, by omega⟩)).mono ?_); rintro e w2 ⟨rfl, hb⟩; exact ⟨rfl, hw'.trans (hb.mono hw'.size)⟩)
                     | (go_at_call 35; (with_reducible refine (PteR.rmay_calls _ _ _ _ _ _ _ _ _ _ _ _ (by first | assumption | exact ⟨by omega, by omega⟩) (by first | assumption | exact ⟨by omega, by omega⟩) (by first | assumption | exact ⟨by omega, by omega⟩)).mono ?_); rintro e w2 ⟨rfl, hb⟩; exact ⟨rfl, hw'.trans (hb.mono hw'.size)⟩)
                     | (go_at_call 40; (with_reducible refine (PteR.rleaf_calls _ _ _ _ _ _ _ _ _ _ _ _).mono ?_); rintro e w2 ⟨rfl, hb⟩; exact ⟨rfl, hw'.trans (hb.mono hw'.size)⟩)
                     | (go_at_call 42; (with_reducible refine (PteR.rlink_calls _ _ _ _ _ _ _ _ _ _ _ _).mono ?_); rintro e w2 ⟨rfl, hb⟩; exact ⟨rfl, hw'.trans (hb.mono hw'.size)⟩)
                     | (go_at_call 44; (with_reducible refine (PteR.rbad_calls _ _ _ _ _ _ _ _ _ _ _ _ _ (by first | assumption | exact ⟨by omega, by omega⟩) (by first | assumption | exact ⟨by omega, by omega⟩) (by first | assumption | exact ⟨by omega, by omega⟩) (by omega) (by omega)).mono ?_); rintro e w2 ⟨rfl, hb⟩; exact ⟨rfl, hw'.trans (hb.mono hw'.size)⟩)
                     | (go_at_call 46; (with_reducible refine (PteR.rmake_calls _ _ _ _ _ _ _).mono ?_); rintro e w2 ⟨rfl, hb⟩; exact ⟨rfl, hw'.trans (hb.mono hw'.size)⟩)
                     | (go_at_call 48; (with_reducible refine (PteR.rperm_calls _ _ _ _ _ _ _ _ _ _ _ _).mono ?_); rintro e w2 ⟨rfl, hb⟩; exact ⟨rfl, hw'.trans (hb.mono hw'.size)⟩)
                     | (go_at_call 45; (with_reducible refine (PteC.make_calls _ _ _ _ _ _ _).mono ?_); rintro e w2 ⟨rfl, hb⟩; exact ⟨rfl, hw'.trans (hb.mono hw'.size)⟩)
                     | (obtain ⟨hcc, _⟩ := bcell hw'; go_simp; done)
                     | (obtain ⟨hcc, _⟩ := bcell hw'; go_simp; rfl)
                   clear hK K))
      refine wpQuiet_nil ?_
      intro w9 b9
      go_wp2
      go_ret
      refine ⟨congrArg (fun z => Ending.returned (.bool z)) ?_, bel_trans BX b9⟩
      rw [HM.out]; simp
    · cases c1 : decide (vpn < vpnq + pages lvq)
      · go_enter Tryd.func25, Tryd.ntmps25
        go_wp2_with fail
        refine name_world (F := fun w1 => w1.cell? ⟨W.heap.size, 0, none⟩ = some (.bool true) ∧ w1.cell? ⟨W.heap.size, 1, none⟩ = some (.int .u64 si) ∧ w1.cell? ⟨W.heap.size, 2, none⟩ = some (.bool gl) ∧ w1.cell? ⟨W.heap.size, 3, none⟩ = some (.int .i64 lv) ∧ w1.cell? ⟨W.heap.size, 4, none⟩ = some (.int .u64 vpn) ∧ w1.cell? ⟨W.heap.size, 5, none⟩ = some (.int .u64 ppn) ∧ w1.cell? ⟨W.heap.size, 6, none⟩ = some (.bool r) ∧ w1.cell? ⟨W.heap.size, 7, none⟩ = some (.bool w) ∧ w1.cell? ⟨W.heap.size, 8, none⟩ = some (.bool x) ∧ w1.cell? ⟨W.heap.size, 9, none⟩ = some (.bool u) ∧ w1.cell? ⟨W.heap.size, 10, none⟩ = some (.bool d) ∧ w1.cell? ⟨W.heap.size + 1, 0, none⟩ = some (.bool true) ∧ w1.cell? ⟨W.heap.size + 1, 1, none⟩ = some (.int .u64 siq) ∧ w1.cell? ⟨W.heap.size + 1, 2, none⟩ = some (.bool glq) ∧ w1.cell? ⟨W.heap.size + 1, 3, none⟩ = some (.int .i64 lvq) ∧ w1.cell? ⟨W.heap.size + 1, 4, none⟩ = some (.int .u64 vpnq) ∧ w1.cell? ⟨W.heap.size + 1, 5, none⟩ = some (.int .u64 ppnq) ∧ w1.cell? ⟨W.heap.size + 1, 6, none⟩ = some (.bool rq) ∧ w1.cell? ⟨W.heap.size + 1, 7, none⟩ = some (.bool wq) ∧ w1.cell? ⟨W.heap.size + 1, 8, none⟩ = some (.bool xq) ∧ w1.cell? ⟨W.heap.size + 1, 9, none⟩ = some (.bool uq) ∧ w1.cell? ⟨W.heap.size + 1, 10, none⟩ = some (.bool dq) ∧ W.heap.size < w1.heap.size ∧ W.heap.size + 1 < w1.heap.size ∧ Below W.heap.size W w1) (by
          refine ⟨?_, ?_, ?_, ?_, ?_, ?_, ?_, ?_, ?_, ?_, ?_, ?_, ?_, ?_, ?_, ?_, ?_, ?_, ?_, ?_, ?_, ?_, ?_, ?_, ?_⟩
          all_goals first | (simp; done) | (simp; omega) | (intro i; simp; done) | exact (by repeat (first | (with_reducible exact Below.refl _ _) | (with_reducible apply bel_drewN) | (with_reducible apply bel_alloc) | (with_reducible apply bel_trans; rotate_left; with_reducible assumption) | (with_reducible refine bel_setCell _ _ _ (by first | omega | (simp; done) | (simp; omega) | (simp at *; omega)) ?_)))) ?_
        rintro Wx ⟨p0, p1, p2, p3, p4, p5, p6, p7, p8, p9, p10, q0, q1, q2, q3, q4, q5, q6, q7, q8, q9, q10, hz0, hz1, BX⟩
        have hG0 : G Wx := hG.to BX
        refine region_below (by kernel_rfl) (by kernel_rfl) ?_
        repeat (with_reducible refine wpQuiet_step (fun K hK => ?_)
                go_simp
                first
                  | (refine hK _ ?_; clear hK K)
                  | (refine ⟨_, fun _ _ => rfl, hK _ ?_⟩; clear hK K)
                  | (apply Exists.intro
                     refine ⟨fun w' hw' => ?_, hK _ ?_⟩
                     · first
                       | (go_at_call 66; (with_reducible refine (VaC.size_calls _ _ (by omega) (by omega) (hG0.below hw' (Nat.le_refl _))).mono ?_); rintro e w2 ⟨rfl, hb⟩; exact ⟨rfl, hw'.trans (hb.below.mono hw'.size)⟩)
                       | (go_at_call 52; (with_reducible refine (VaC.num_calls _ _ (by omega) (by omega)).mono ?_); rintro e w2 ⟨rfl, hb⟩; exact ⟨rfl, hw'.trans (hb.below.mono hw'.size)⟩)
                       | (go_at_call 55; (with_reducible refine (VaC.of_calls _ _ (by omega) (by omega)).mono ?_); rintro e w2 ⟨rfl, hb⟩; exact ⟨rfl, hw'.trans (hb.below.mono hw'.size)⟩)
                       | (go_at_call 53; (with_reducible refine (VaC.base_calls _ _ _ (by omega) (by omega) (by omega) (by omega) (hG0.below hw' (Nat.le_refl _))).mono ?_); rintro e w2 ⟨rfl, hb⟩; exact ⟨rfl, hw'.trans (hb.below.mono hw'.size)⟩)
                       | (go_at_call 56; (with_reducible refine (VaC.off_calls _ _ _ (by omega) (by omega) (by omega) (by omega) (hG0.below hw' (Nat.le_refl _))).mono ?_); rintro e w2 ⟨rfl, hb⟩; exact ⟨rfl, hw'.trans (hb.below.mono hw'.size)⟩)
                       | (go_at_call 51; (with_reducible refine (BitsC.even_calls _ _ _ (by assumption) (by assumption)).mono ?_); rintro e w2 ⟨rfl, hb⟩; exact ⟨rfl, hw'.trans (hb.below.mono hw'.size)⟩)
                       | (go_at_call 54; (with_reducible refine (VaR.rnum_calls _ _ (by omega) (by omega)).mono ?_); rintro e w2 ⟨rfl, hb⟩; exact ⟨rfl, hw'.trans (hb.below.mono hw'.size)⟩)
                       | (go_at_call 57; (with_reducible refine (VaR.roff_calls _ _ _ (by omega) (by omega) (by omega) (by omega)).mono ?_); rintro e w2 ⟨rfl, hb⟩; exact ⟨rfl, hw'.trans (hb.below.mono hw'.size)⟩)
                       | (go_at_call 31; (with_reducible refine (rpages_calls _ _ (by omega) (by omega)).mono ?_); rintro e w2 ⟨rfl, hb⟩; exact ⟨rfl, hw'.trans (hb.below.mono hw'.size)⟩)
                       | (go_at_call 34; (with_reducible refine (PteC.may_calls _ _ _ _ _ _ _ _ _ _ _ _ (by first | assumption | exact ⟨by omega, by omega⟩) (by first | assumption | exact ⟨by omega, by omega⟩) (by first | assumption | exact ⟨by omega, by omega⟩)).mono ?_); rintro e w2 ⟨rfl, hb⟩; exact ⟨rfl, hw'.trans (hb.mono hw'.size)⟩)
                       | (go_at_call 36; (with_reducible refine (PteC.pget_calls _ _ (by first | assumption | exact ⟨by omega, by omega⟩)).mono ?_); rintro e w2 ⟨rfl, hb⟩; exact ⟨rfl, hw'.trans (hb.mono hw'.size)⟩)
                       | (go_at_call 39; (with_reducible refine (PteC.leaf_calls _ _ _ _ _ _ _ _ _ _ _ _).mono ?_); rintro e w2 ⟨rfl, hb⟩; exact ⟨rfl, hw'.trans (hb.mono hw'.size)⟩)
                       | (go_at_call 41; (with_reducible refine (PteC.link_calls _ _ _ _ _ _ _ _ _ _ _ _).mono ?_); rintro e w2 ⟨rfl, hb⟩; exact ⟨rfl, hw'.trans (hb.mono hw'.size)⟩)
                       | (go_at_call 43; (with_reducible refine (PteC.bad_calls _ _ _ _ _ _ _ _ _ _ _ _ _ (by first | assumption | exact ⟨by omega, by omega⟩) (by first | assumption | exact ⟨by omega, by omega⟩) (by first | assumption | exact ⟨by omega, by omega⟩) (by omega) (by omega) (hG0.below hw' (Nat.le_refl _))).mono ?_); rintro e w2 ⟨rfl, hb⟩; exact ⟨rfl, hw'.trans (hb.mono hw'.size)⟩)
                       | (go_at_call 47; (with_reducible refine (PteC.perm_calls _ _ _ _ _ _ _ _ _ _ _ _).mono ?_); rintro e w2 ⟨rfl, hb⟩; exact ⟨rfl, hw'.trans (hb.mono hw'.size)⟩)
                       | (go_at_call 37; (with_reducible refine (PteR.rget_calls _ _ (by first | assumption | exact ⟨by omega, by omega⟩)).mono ?_); rintro e w2 ⟨rfl, hb⟩; exact ⟨rfl, hw'.trans (hb.mono hw'.size)⟩)
                       | (go_at_call 35; (with_reducible refine (PteR.rmay_calls _ _ _ _ _ _ _ _ _ _ _ _ (by first | assumption | exact ⟨by omega, by omega⟩) (by first | assumption | exact ⟨by omega, by omega⟩) (by first | assumption | exact ⟨by omega, by omega⟩)).mono ?_); rintro e w2 ⟨rfl, hb⟩; exact ⟨rfl, hw'.trans (hb.mono hw'.size)⟩)
                       | (go_at_call 40; (with_reducible refine (PteR.rleaf_calls _ _ _ _ _ _ _ _ _ _ _ _).mono ?_); rintro e w2 ⟨rfl, hb⟩; exact ⟨rfl, hw'.trans (hb.mono hw'.size)⟩)
                       | (go_at_call 42; (with_reducible refine (PteR.rlink_calls _ _ _ _ _ _ _ _ _ _ _ _).mono ?_); rintro e w2 ⟨rfl, hb⟩; exact ⟨rfl, hw'.trans (hb.mono hw'.size)⟩)
                       | (go_at_call 44; (with_reducible refine (PteR.rbad_calls _ _ _ _ _ _ _ _ _ _ _ _ _ (by first | assumption | exact ⟨by omega, by omega⟩) (by first | assumption | exact ⟨by omega, by omega⟩) (by first | assumption | exact ⟨by omega, by omega⟩) (by omega) (by omega)).mono ?_); rintro e w2 ⟨rfl, hb⟩; exact ⟨rfl, hw'.trans (hb.mono hw'.size)⟩)
                       | (go_at_call 46; (with_reducible refine (PteR.rmake_calls _ _ _ _ _ _ _).mono ?_); rintro e w2 ⟨rfl, hb⟩; exact ⟨rfl, hw'.trans (hb.mono hw'.size)⟩)
                       | (go_at_call 48; (with_reducible refine (PteR.rperm_calls _ _ _ _ _ _ _ _ _ _ _ _).mono ?_); rintro e w2 ⟨rfl, hb⟩; exact ⟨rfl, hw'.trans (hb.mono hw'.size)⟩)
                       | (go_at_call 45; (with_reducible refine (PteC.make_calls _ _ _ _ _ _ _).mono ?_); rintro e w2 ⟨rfl, hb⟩; exact ⟨rfl, hw'.trans (hb.mono hw'.size)⟩)
                       | (obtain ⟨hcc, _⟩ := bcell hw'; go_simp; done)
                       | (obtain ⟨hcc, _⟩ := bcell hw'; go_simp; rfl)
                     clear hK K))
        refine wpQuiet_nil ?_
        intro w9 b9
        go_wp2
        go_ret
        refine ⟨congrArg (fun z => Ending.returned (.bool z)) ?_, bel_trans BX b9⟩
        rw [HM.out]; simp [c1]
      · go_enter Tryd.func25, Tryd.ntmps25
        go_wp2_with fail
        refine name_world (F := fun w1 => w1.cell? ⟨W.heap.size, 0, none⟩ = some (.bool true) ∧ w1.cell? ⟨W.heap.size, 1, none⟩ = some (.int .u64 si) ∧ w1.cell? ⟨W.heap.size, 2, none⟩ = some (.bool gl) ∧ w1.cell? ⟨W.heap.size, 3, none⟩ = some (.int .i64 lv) ∧ w1.cell? ⟨W.heap.size, 4, none⟩ = some (.int .u64 vpn) ∧ w1.cell? ⟨W.heap.size, 5, none⟩ = some (.int .u64 ppn) ∧ w1.cell? ⟨W.heap.size, 6, none⟩ = some (.bool r) ∧ w1.cell? ⟨W.heap.size, 7, none⟩ = some (.bool w) ∧ w1.cell? ⟨W.heap.size, 8, none⟩ = some (.bool x) ∧ w1.cell? ⟨W.heap.size, 9, none⟩ = some (.bool u) ∧ w1.cell? ⟨W.heap.size, 10, none⟩ = some (.bool d) ∧ w1.cell? ⟨W.heap.size + 1, 0, none⟩ = some (.bool true) ∧ w1.cell? ⟨W.heap.size + 1, 1, none⟩ = some (.int .u64 siq) ∧ w1.cell? ⟨W.heap.size + 1, 2, none⟩ = some (.bool glq) ∧ w1.cell? ⟨W.heap.size + 1, 3, none⟩ = some (.int .i64 lvq) ∧ w1.cell? ⟨W.heap.size + 1, 4, none⟩ = some (.int .u64 vpnq) ∧ w1.cell? ⟨W.heap.size + 1, 5, none⟩ = some (.int .u64 ppnq) ∧ w1.cell? ⟨W.heap.size + 1, 6, none⟩ = some (.bool rq) ∧ w1.cell? ⟨W.heap.size + 1, 7, none⟩ = some (.bool wq) ∧ w1.cell? ⟨W.heap.size + 1, 8, none⟩ = some (.bool xq) ∧ w1.cell? ⟨W.heap.size + 1, 9, none⟩ = some (.bool uq) ∧ w1.cell? ⟨W.heap.size + 1, 10, none⟩ = some (.bool dq) ∧ W.heap.size < w1.heap.size ∧ W.heap.size + 1 < w1.heap.size ∧ Below W.heap.size W w1) (by
          refine ⟨?_, ?_, ?_, ?_, ?_, ?_, ?_, ?_, ?_, ?_, ?_, ?_, ?_, ?_, ?_, ?_, ?_, ?_, ?_, ?_, ?_, ?_, ?_, ?_, ?_⟩
          all_goals first | (simp; done) | (simp; omega) | (intro i; simp; done) | exact (by repeat (first | (with_reducible exact Below.refl _ _) | (with_reducible apply bel_drewN) | (with_reducible apply bel_alloc) | (with_reducible apply bel_trans; rotate_left; with_reducible assumption) | (with_reducible refine bel_setCell _ _ _ (by first | omega | (simp; done) | (simp; omega) | (simp at *; omega)) ?_)))) ?_
        rintro Wx ⟨p0, p1, p2, p3, p4, p5, p6, p7, p8, p9, p10, q0, q1, q2, q3, q4, q5, q6, q7, q8, q9, q10, hz0, hz1, BX⟩
        have hG0 : G Wx := hG.to BX
        refine region_below (by kernel_rfl) (by kernel_rfl) ?_
        repeat (with_reducible refine wpQuiet_step (fun K hK => ?_)
                go_simp
                first
                  | (refine hK _ ?_; clear hK K)
                  | (refine ⟨_, fun _ _ => rfl, hK _ ?_⟩; clear hK K)
                  | (apply Exists.intro
                     refine ⟨fun w' hw' => ?_, hK _ ?_⟩
                     · first
                       | (go_at_call 66; (with_reducible refine (VaC.size_calls _ _ (by omega) (by omega) (hG0.below hw' (Nat.le_refl _))).mono ?_); rintro e w2 ⟨rfl, hb⟩; exact ⟨rfl, hw'.trans (hb.below.mono hw'.size)⟩)
                       | (go_at_call 52; (with_reducible refine (VaC.num_calls _ _ (by omega) (by omega)).mono ?_); rintro e w2 ⟨rfl, hb⟩; exact ⟨rfl, hw'.trans (hb.below.mono hw'.size)⟩)
                       | (go_at_call 55; (with_reducible refine (VaC.of_calls _ _ (by omega) (by omega)).mono ?_); rintro e w2 ⟨rfl, hb⟩; exact ⟨rfl, hw'.trans (hb.below.mono hw'.size)⟩)
                       | (go_at_call 53; (with_reducible refine (VaC.base_calls _ _ _ (by omega) (by omega) (by omega) (by omega) (hG0.below hw' (Nat.le_refl _))).mono ?_); rintro e w2 ⟨rfl, hb⟩; exact ⟨rfl, hw'.trans (hb.below.mono hw'.size)⟩)
                       | (go_at_call 56; (with_reducible refine (VaC.off_calls _ _ _ (by omega) (by omega) (by omega) (by omega) (hG0.below hw' (Nat.le_refl _))).mono ?_); rintro e w2 ⟨rfl, hb⟩; exact ⟨rfl, hw'.trans (hb.below.mono hw'.size)⟩)
                       | (go_at_call 51; (with_reducible refine (BitsC.even_calls _ _ _ (by assumption) (by assumption)).mono ?_); rintro e w2 ⟨rfl, hb⟩; exact ⟨rfl, hw'.trans (hb.below.mono hw'.size)⟩)
                       | (go_at_call 54; (with_reducible refine (VaR.rnum_calls _ _ (by omega) (by omega)).mono ?_); rintro e w2 ⟨rfl, hb⟩; exact ⟨rfl, hw'.trans (hb.below.mono hw'.size)⟩)
                       | (go_at_call 57; (with_reducible refine (VaR.roff_calls _ _ _ (by omega) (by omega) (by omega) (by omega)).mono ?_); rintro e w2 ⟨rfl, hb⟩; exact ⟨rfl, hw'.trans (hb.below.mono hw'.size)⟩)
                       | (go_at_call 31; (with_reducible refine (rpages_calls _ _ (by omega) (by omega)).mono ?_); rintro e w2 ⟨rfl, hb⟩; exact ⟨rfl, hw'.trans (hb.below.mono hw'.size)⟩)
                       | (go_at_call 34; (with_reducible refine (PteC.may_calls _ _ _ _ _ _ _ _ _ _ _ _ (by first | assumption | exact ⟨by omega, by omega⟩) (by first | assumption | exact ⟨by omega, by omega⟩) (by first | assumption | exact ⟨by omega, by omega⟩)).mono ?_); rintro e w2 ⟨rfl, hb⟩; exact ⟨rfl, hw'.trans (hb.mono hw'.size)⟩)
                       | (go_at_call 36; (with_reducible refine (PteC.pget_calls _ _ (by first | assumption | exact ⟨by omega, by omega⟩)).mono ?_); rintro e w2 ⟨rfl, hb⟩; exact ⟨rfl, hw'.trans (hb.mono hw'.size)⟩)
                       | (go_at_call 39; (with_reducible refine (PteC.leaf_calls _ _ _ _ _ _ _ _ _ _ _ _).mono ?_); rintro e w2 ⟨rfl, hb⟩; exact ⟨rfl, hw'.trans (hb.mono hw'.size)⟩)
                       | (go_at_call 41; (with_reducible refine (PteC.link_calls _ _ _ _ _ _ _ _ _ _ _ _).mono ?_); rintro e w2 ⟨rfl, hb⟩; exact ⟨rfl, hw'.trans (hb.mono hw'.size)⟩)
                       | (go_at_call 43; (with_reducible refine (PteC.bad_calls _ _ _ _ _ _ _ _ _ _ _ _ _ (by first | assumption | exact ⟨by omega, by omega⟩) (by first | assumption | exact ⟨by omega, by omega⟩) (by first | assumption | exact ⟨by omega, by omega⟩) (by omega) (by omega) (hG0.below hw' (Nat.le_refl _))).mono ?_); rintro e w2 ⟨rfl, hb⟩; exact ⟨rfl, hw'.trans (hb.mono hw'.size)⟩)
                       | (go_at_call 47; (with_reducible refine (PteC.perm_calls _ _ _ _ _ _ _ _ _ _ _ _).mono ?_); rintro e w2 ⟨rfl, hb⟩; exact ⟨rfl, hw'.trans (hb.mono hw'.size)⟩)
                       | (go_at_call 37; (with_reducible refine (PteR.rget_calls _ _ (by first | assumption | exact ⟨by omega, by omega⟩)).mono ?_); rintro e w2 ⟨rfl, hb⟩; exact ⟨rfl, hw'.trans (hb.mono hw'.size)⟩)
                       | (go_at_call 35; (with_reducible refine (PteR.rmay_calls _ _ _ _ _ _ _ _ _ _ _ _ (by first | assumption | exact ⟨by omega, by omega⟩) (by first | assumption | exact ⟨by omega, by omega⟩) (by first | assumption | exact ⟨by omega, by omega⟩)).mono ?_); rintro e w2 ⟨rfl, hb⟩; exact ⟨rfl, hw'.trans (hb.mono hw'.size)⟩)
                       | (go_at_call 40; (with_reducible refine (PteR.rleaf_calls _ _ _ _ _ _ _ _ _ _ _ _).mono ?_); rintro e w2 ⟨rfl, hb⟩; exact ⟨rfl, hw'.trans (hb.mono hw'.size)⟩)
                       | (go_at_call 42; (with_reducible refine (PteR.rlink_calls _ _ _ _ _ _ _ _ _ _ _ _).mono ?_); rintro e w2 ⟨rfl, hb⟩; exact ⟨rfl, hw'.trans (hb.mono hw'.size)⟩)
                       | (go_at_call 44; (with_reducible refine (PteR.rbad_calls _ _ _ _ _ _ _ _ _ _ _ _ _ (by first | assumption | exact ⟨by omega, by omega⟩) (by first | assumption | exact ⟨by omega, by omega⟩) (by first | assumption | exact ⟨by omega, by omega⟩) (by omega) (by omega)).mono ?_); rintro e w2 ⟨rfl, hb⟩; exact ⟨rfl, hw'.trans (hb.mono hw'.size)⟩)
                       | (go_at_call 46; (with_reducible refine (PteR.rmake_calls _ _ _ _ _ _ _).mono ?_); rintro e w2 ⟨rfl, hb⟩; exact ⟨rfl, hw'.trans (hb.mono hw'.size)⟩)
                       | (go_at_call 48; (with_reducible refine (PteR.rperm_calls _ _ _ _ _ _ _ _ _ _ _ _).mono ?_); rintro e w2 ⟨rfl, hb⟩; exact ⟨rfl, hw'.trans (hb.mono hw'.size)⟩)
                       | (go_at_call 45; (with_reducible refine (PteC.make_calls _ _ _ _ _ _ _).mono ?_); rintro e w2 ⟨rfl, hb⟩; exact ⟨rfl, hw'.trans (hb.mono hw'.size)⟩)
                       | (obtain ⟨hcc, _⟩ := bcell hw'; go_simp; done)
                       | (obtain ⟨hcc, _⟩ := bcell hw'; go_simp; rfl)
                     clear hK K))
        refine wpQuiet_nil ?_
        intro w9 b9
        go_wp2
        go_ret
        refine ⟨congrArg (fun z => Ending.returned (.bool z)) ?_, bel_trans BX b9⟩
        rw [HM.out]; simp [c1]
def leafE (lv ppn : Int) : Bool := decide (0 ≤ lv) && decide (lv ≤ 2) && decide (ppn < 17592186044416) && (ppn % pages lv == 0)
set_option maxHeartbeats 4000000 in
theorem leaf_calls (lv at_ : Int) (v r w x u g a d : Bool) (rsw ppn high : Int) (W : World) (n0 : U ppn) (hG : G W) :
    Calls Tryd.prog 16 #[.agg #[.int .i64 lv, .int .u64 at_, .bool v, .bool r, .bool w, .bool x, .bool u, .bool g, .bool a, .bool d, .int .u64 rsw, .int .u64 ppn, .int .u64 high]] W fun e w' => e = .returned (.bool (leafE lv ppn)) ∧ Below W.heap.size W w' := by
  have hp := pages_bd lv
  have hpn : ¬ pages lv = 0 := by omega
  have t1 : ppn.tmod (pages lv) = ppn % pages lv := Int.tmod_eq_emod_of_nonneg n0.1
  have HM := Lib.hid (show leafE lv ppn = (decide (0 ≤ lv) && decide (lv ≤ 2) && decide (ppn < 17592186044416) && (ppn % pages lv == 0)) from rfl)
  cases c1 : decide (0 ≤ lv)
  · go_enter Tryd.func16, Tryd.ntmps16
    go_wp2_with fail
    refine name_world (F := fun w1 => w1.cell? ⟨W.heap.size, 0, none⟩ = some (.int .i64 lv) ∧ w1.cell? ⟨W.heap.size, 1, none⟩ = some (.int .u64 at_) ∧ w1.cell? ⟨W.heap.size, 2, none⟩ = some (.bool v) ∧ w1.cell? ⟨W.heap.size, 3, none⟩ = some (.bool r) ∧ w1.cell? ⟨W.heap.size, 4, none⟩ = some (.bool w) ∧ w1.cell? ⟨W.heap.size, 5, none⟩ = some (.bool x) ∧ w1.cell? ⟨W.heap.size, 6, none⟩ = some (.bool u) ∧ w1.cell? ⟨W.heap.size, 7, none⟩ = some (.bool g) ∧ w1.cell? ⟨W.heap.size, 8, none⟩ = some (.bool a) ∧ w1.cell? ⟨W.heap.size, 9, none⟩ = some (.bool d) ∧ w1.cell? ⟨W.heap.size, 10, none⟩ = some (.int .u64 rsw) ∧ w1.cell? ⟨W.heap.size, 11, none⟩ = some (.int .u64 ppn) ∧ w1.cell? ⟨W.heap.size, 12, none⟩ = some (.int .u64 high) ∧ W.heap.size < w1.heap.size ∧ Below W.heap.size W w1) (by
      refine ⟨?_, ?_, ?_, ?_, ?_, ?_, ?_, ?_, ?_, ?_, ?_, ?_, ?_, ?_, ?_⟩
      all_goals first | (simp; done) | (simp; omega) | (intro i; simp; done) | exact (by repeat (first | (with_reducible exact Below.refl _ _) | (with_reducible apply bel_drewN) | (with_reducible apply bel_alloc) | (with_reducible apply bel_trans; rotate_left; with_reducible assumption) | (with_reducible refine bel_setCell _ _ _ (by first | omega | (simp; done) | (simp; omega) | (simp at *; omega)) ?_)))) ?_
    rintro Wx ⟨p0, p1, p2, p3, p4, p5, p6, p7, p8, p9, p10, p11, p12, hz0, BX⟩
    have hG0 : G Wx := hG.to BX
    refine region_below (by kernel_rfl) (by kernel_rfl) ?_
    repeat (with_reducible refine wpQuiet_step (fun K hK => ?_)
            go_simp
            first
              | (refine hK _ ?_; clear hK K)
              | (refine ⟨_, fun _ _ => rfl, hK _ ?_⟩; clear hK K)
              | (apply Exists.intro
                 refine ⟨fun w' hw' => ?_, hK _ ?_⟩
                 · first
                   | (go_at_call 66; (with_reducible refine (VaC.size_calls _ _ (by omega) (by omega) (hG0.below hw' (Nat.le_refl _))).mono ?_); rintro e w2 ⟨rfl, hb⟩; exact ⟨rfl, hw'.trans (hb.below.mono hw'.size)⟩)
                   | (go_at_call 52; (with_reducible refine (VaC.num_calls _ _ (by omega) (by omega)).mono ?_); rintro e w2 ⟨rfl, hb⟩; exact ⟨rfl, hw'.trans (hb.below.mono hw'.size)⟩)
                   | (go_at_call 55; (with_reducible refine (VaC.of_calls _ _ (by omega) (by omega)).mono ?_); rintro e w2 ⟨rfl, hb⟩; exact ⟨rfl, hw'.trans (hb.below.mono hw'.size)⟩)
                   | (go_at_call 53; (with_reducible refine (VaC.base_calls _ _ _ (by omega) (by omega) (by omega) (by omega) (hG0.below hw' (Nat.le_refl _))).mono ?_); rintro e w2 ⟨rfl, hb⟩; exact ⟨rfl, hw'.trans (hb.below.mono hw'.size)⟩)
                   | (go_at_call 56; (with_reducible refine (VaC.off_calls _ _ _ (by omega) (by omega) (by omega) (by omega) (hG0.below hw' (Nat.le_refl _))).mono ?_); rintro e w2 ⟨rfl, hb⟩; exact ⟨rfl, hw'.trans (hb.below.mono hw'.size)⟩)
                   | (go_at_call 51; (with_reducible refine (BitsC.even_calls _ _ _ (by assumption) (by assumption)).mono ?_); rintro e w2 ⟨rfl, hb⟩; exact ⟨rfl, hw'.trans (hb.below.mono hw'.size)⟩)
                   | (go_at_call 54; (with_reducible refine (VaR.rnum_calls _ _ (by omega) (by omega)).mono ?_); rintro e w2 ⟨rfl, hb⟩; exact ⟨rfl, hw'.trans (hb.below.mono hw'.size)⟩)
                   | (go_at_call 57; (with_reducible refine (VaR.roff_calls _ _ _ (by omega) (by omega) (by omega) (by omega)).mono ?_); rintro e w2 ⟨rfl, hb⟩; exact ⟨rfl, hw'.trans (hb.below.mono hw'.size)⟩)
                   | (go_at_call 31; (with_reducible refine (rpages_calls _ _ (by omega) (by omega)).mono ?_); rintro e w2 ⟨rfl, hb⟩; exact ⟨rfl, hw'.trans (hb.below.mono hw'.size)⟩)
                   | (go_at_call 34; (with_reducible refine (PteC.may_calls _ _ _ _ _ _ _ _ _ _ _ _ (by first | assumption | exact ⟨by omega, by omega⟩) (by first | assumption | exact ⟨by omega, by omega⟩) (by first | assumption | exact ⟨by omega, by omega⟩)).mono ?_); rintro e w2 ⟨rfl, hb⟩; exact ⟨rfl, hw'.trans (hb.mono hw'.size)⟩)
                   | (go_at_call 36; (with_reducible refine (PteC.pget_calls _ _ (by first | assumption | exact ⟨by omega, by omega⟩)).mono ?_); rintro e w2 ⟨rfl, hb⟩; exact ⟨rfl, hw'.trans (hb.mono hw'.size)⟩)
                   | (go_at_call 39; (with_reducible refine (PteC.leaf_calls _ _ _ _ _ _ _ _ _ _ _ _).mono ?_); rintro e w2 ⟨rfl, hb⟩; exact ⟨rfl, hw'.trans (hb.mono hw'.size)⟩)
                   | (go_at_call 41; (with_reducible refine (PteC.link_calls _ _ _ _ _ _ _ _ _ _ _ _).mono ?_); rintro e w2 ⟨rfl, hb⟩; exact ⟨rfl, hw'.trans (hb.mono hw'.size)⟩)
                   | (go_at_call 43; (with_reducible refine (PteC.bad_calls _ _ _ _ _ _ _ _ _ _ _ _ _ (by first | assumption | exact ⟨by omega, by omega⟩) (by first | assumption | exact ⟨by omega, by omega⟩) (by first | assumption | exact ⟨by omega, by omega⟩) (by omega) (by omega) (hG0.below hw' (Nat.le_refl _))).mono ?_); rintro e w2 ⟨rfl, hb⟩; exact ⟨rfl, hw'.trans (hb.mono hw'.size)⟩)
                   | (go_at_call 47; (with_reducible refine (PteC.perm_calls _ _ _ _ _ _ _ _ _ _ _ _).mono ?_); rintro e w2 ⟨rfl, hb⟩; exact ⟨rfl, hw'.trans (hb.mono hw'.size)⟩)
                   | (go_at_call 37; (with_reducible refine (PteR.rget_calls _ _ (by first | assumption | exact ⟨by omega, by omega⟩)).mono ?_); rintro e w2 ⟨rfl, hb⟩; exact ⟨rfl, hw'.trans (hb.mono hw'.size)⟩)
                   | (go_at_call 35; (with_reducible refine (PteR.rmay_calls _ _ _ _ _ _ _ _ _ _ _ _ (by first | assumption | exact ⟨by omega, by omega⟩) (by first | assumption | exact ⟨by omega, by omega⟩) (by first | assumption | exact ⟨by omega, by omega⟩)).mono ?_); rintro e w2 ⟨rfl, hb⟩; exact ⟨rfl, hw'.trans (hb.mono hw'.size)⟩)
                   | (go_at_call 40; (with_reducible refine (PteR.rleaf_calls _ _ _ _ _ _ _ _ _ _ _ _).mono ?_); rintro e w2 ⟨rfl, hb⟩; exact ⟨rfl, hw'.trans (hb.mono hw'.size)⟩)
                   | (go_at_call 42; (with_reducible refine (PteR.rlink_calls _ _ _ _ _ _ _ _ _ _ _ _).mono ?_); rintro e w2 ⟨rfl, hb⟩; exact ⟨rfl, hw'.trans (hb.mono hw'.size)⟩)
                   | (go_at_call 44; (with_reducible refine (PteR.rbad_calls _ _ _ _ _ _ _ _ _ _ _ _ _ (by first | assumption | exact ⟨by omega, by omega⟩) (by first | assumption | exact ⟨by omega, by omega⟩) (by first | assumption | exact ⟨by omega, by omega⟩) (by omega) (by omega)).mono ?_); rintro e w2 ⟨rfl, hb⟩; exact ⟨rfl, hw'.trans (hb.mono hw'.size)⟩)
                   | (go_at_call 46; (with_reducible refine (PteR.rmake_calls _ _ _ _ _ _ _).mono ?_); rintro e w2 ⟨rfl, hb⟩; exact ⟨rfl, hw'.trans (hb.mono hw'.size)⟩)
                   | (go_at_call 48; (with_reducible refine (PteR.rperm_calls _ _ _ _ _ _ _ _ _ _ _ _).mono ?_); rintro e w2 ⟨rfl, hb⟩; exact ⟨rfl, hw'.trans (hb.mono hw'.size)⟩)
                   | (go_at_call 45; (with_reducible refine (PteC.make_calls _ _ _ _ _ _ _).mono ?_); rintro e w2 ⟨rfl, hb⟩; exact ⟨rfl, hw'.trans (hb.mono hw'.size)⟩)
                   | (obtain ⟨hcc, _⟩ := bcell hw'; go_simp; done)
                   | (obtain ⟨hcc, _⟩ := bcell hw'; go_simp; rfl)
                 clear hK K))
    refine wpQuiet_nil ?_
    intro w9 b9
    go_wp2
    go_ret
    refine ⟨congrArg (fun z => Ending.returned (.bool z)) ?_, bel_trans BX b9⟩
    rw [HM.out]; simp [c1]
  · cases c2 : decide (lv ≤ 2)
    · go_enter Tryd.func16, Tryd.ntmps16
      go_wp2_with fail
      refine name_world (F := fun w1 => w1.cell? ⟨W.heap.size, 0, none⟩ = some (.int .i64 lv) ∧ w1.cell? ⟨W.heap.size, 1, none⟩ = some (.int .u64 at_) ∧ w1.cell? ⟨W.heap.size, 2, none⟩ = some (.bool v) ∧ w1.cell? ⟨W.heap.size, 3, none⟩ = some (.bool r) ∧ w1.cell? ⟨W.heap.size, 4, none⟩ = some (.bool w) ∧ w1.cell? ⟨W.heap.size, 5, none⟩ = some (.bool x) ∧ w1.cell? ⟨W.heap.size, 6, none⟩ = some (.bool u) ∧ w1.cell? ⟨W.heap.size, 7, none⟩ = some (.bool g) ∧ w1.cell? ⟨W.heap.size, 8, none⟩ = some (.bool a) ∧ w1.cell? ⟨W.heap.size, 9, none⟩ = some (.bool d) ∧ w1.cell? ⟨W.heap.size, 10, none⟩ = some (.int .u64 rsw) ∧ w1.cell? ⟨W.heap.size, 11, none⟩ = some (.int .u64 ppn) ∧ w1.cell? ⟨W.heap.size, 12, none⟩ = some (.int .u64 high) ∧ W.heap.size < w1.heap.size ∧ Below W.heap.size W w1) (by
        refine ⟨?_, ?_, ?_, ?_, ?_, ?_, ?_, ?_, ?_, ?_, ?_, ?_, ?_, ?_, ?_⟩
        all_goals first | (simp; done) | (simp; omega) | (intro i; simp; done) | exact (by repeat (first | (with_reducible exact Below.refl _ _) | (with_reducible apply bel_drewN) | (with_reducible apply bel_alloc) | (with_reducible apply bel_trans; rotate_left; with_reducible assumption) | (with_reducible refine bel_setCell _ _ _ (by first | omega | (simp; done) | (simp; omega) | (simp at *; omega)) ?_)))) ?_
      rintro Wx ⟨p0, p1, p2, p3, p4, p5, p6, p7, p8, p9, p10, p11, p12, hz0, BX⟩
      have hG0 : G Wx := hG.to BX
      refine region_below (by kernel_rfl) (by kernel_rfl) ?_
      repeat (with_reducible refine wpQuiet_step (fun K hK => ?_)
              go_simp
              first
                | (refine hK _ ?_; clear hK K)
                | (refine ⟨_, fun _ _ => rfl, hK _ ?_⟩; clear hK K)
                | (apply Exists.intro
                   refine ⟨fun w' hw' => ?_, hK _ ?_⟩
                   · first
                     | (go_at_call 66; (with_reducible refine (VaC.size_calls _ _ (by omega) (by omega) (hG0.below hw' (Nat.le_refl _))).mono ?_); rintro e w2 ⟨rfl, hb⟩; exact ⟨rfl, hw'.trans (hb.below.mono hw'.size)⟩)
                     | (go_at_call 52; (with_reducible refine (VaC.num_calls _ _ (by omega) (by omega)).mono ?_); rintro e w2 ⟨rfl, hb⟩; exact ⟨rfl, hw'.trans (hb.below.mono hw'.size)⟩)
                     | (go_at_call 55; (with_reducible refine (VaC.of_calls _ _ (by omega) (by omega)).mono ?_); rintro e w2 ⟨rfl, hb⟩; exact ⟨rfl, hw'.trans (hb.below.mono hw'.size)⟩)
                     | (go_at_call 53; (with_reducible refine (VaC.base_calls _ _ _ (by omega) (by omega) (by omega) (by omega) (hG0.below hw' (Nat.le_refl _))).mono ?_); rintro e w2 ⟨rfl, hb⟩; exact ⟨rfl, hw'.trans (hb.below.mono hw'.size)⟩)
                     | (go_at_call 56; (with_reducible refine (VaC.off_calls _ _ _ (by omega) (by omega) (by omega) (by omega) (hG0.below hw' (Nat.le_refl _))).mono ?_); rintro e w2 ⟨rfl, hb⟩; exact ⟨rfl, hw'.trans (hb.below.mono hw'.size)⟩)
                     | (go_at_call 51; (with_reducible refine (BitsC.even_calls _ _ _ (by assumption) (by assumption)).mono ?_); rintro e w2 ⟨rfl, hb⟩; exact ⟨rfl, hw'.trans (hb.below.mono hw'.size)⟩)
                     | (go_at_call 54; (with_reducible refine (VaR.rnum_calls _ _ (by omega) (by omega)).mono ?_); rintro e w2 ⟨rfl, hb⟩; exact ⟨rfl, hw'.trans (hb.below.mono hw'.size)⟩)
                     | (go_at_call 57; (with_reducible refine (VaR.roff_calls _ _ _ (by omega) (by omega) (by omega) (by omega)).mono ?_); rintro e w2 ⟨rfl, hb⟩; exact ⟨rfl, hw'.trans (hb.below.mono hw'.size)⟩)
                     | (go_at_call 31; (with_reducible refine (rpages_calls _ _ (by omega) (by omega)).mono ?_); rintro e w2 ⟨rfl, hb⟩; exact ⟨rfl, hw'.trans (hb.below.mono hw'.size)⟩)
                     | (go_at_call 34; (with_reducible refine (PteC.may_calls _ _ _ _ _ _ _ _ _ _ _ _ (by first | assumption | exact ⟨by omega, by omega⟩) (by first | assumption | exact ⟨by omega, by omega⟩) (by first | assumption | exact ⟨by omega, by omega⟩)).mono ?_); rintro e w2 ⟨rfl, hb⟩; exact ⟨rfl, hw'.trans (hb.mono hw'.size)⟩)
                     | (go_at_call 36; (with_reducible refine (PteC.pget_calls _ _ (by first | assumption | exact ⟨by omega, by omega⟩)).mono ?_); rintro e w2 ⟨rfl, hb⟩; exact ⟨rfl, hw'.trans (hb.mono hw'.size)⟩)
                     | (go_at_call 39; (with_reducible refine (PteC.leaf_calls _ _ _ _ _ _ _ _ _ _ _ _).mono ?_); rintro e w2 ⟨rfl, hb⟩; exact ⟨rfl, hw'.trans (hb.mono hw'.size)⟩)
                     | (go_at_call 41; (with_reducible refine (PteC.link_calls _ _ _ _ _ _ _ _ _ _ _ _).mono ?_); rintro e w2 ⟨rfl, hb⟩; exact ⟨rfl, hw'.trans (hb.mono hw'.size)⟩)
                     | (go_at_call 43; (with_reducible refine (PteC.bad_calls _ _ _ _ _ _ _ _ _ _ _ _ _ (by first | assumption | exact ⟨by omega, by omega⟩) (by first | assumption | exact ⟨by omega, by omega⟩) (by first | assumption | exact ⟨by omega, by omega⟩) (by omega) (by omega) (hG0.below hw' (Nat.le_refl _))).mono ?_); rintro e w2 ⟨rfl, hb⟩; exact ⟨rfl, hw'.trans (hb.mono hw'.size)⟩)
                     | (go_at_call 47; (with_reducible refine (PteC.perm_calls _ _ _ _ _ _ _ _ _ _ _ _).mono ?_); rintro e w2 ⟨rfl, hb⟩; exact ⟨rfl, hw'.trans (hb.mono hw'.size)⟩)
                     | (go_at_call 37; (with_reducible refine (PteR.rget_calls _ _ (by first | assumption | exact ⟨by omega, by omega⟩)).mono ?_); rintro e w2 ⟨rfl, hb⟩; exact ⟨rfl, hw'.trans (hb.mono hw'.size)⟩)
                     | (go_at_call 35; (with_reducible refine (PteR.rmay_calls _ _ _ _ _ _ _ _ _ _ _ _ (by first | assumption | exact ⟨by omega, by omega⟩) (by first | assumption | exact ⟨by omega, by omega⟩) (by first | assumption | exact ⟨by omega, by omega⟩)).mono ?_); rintro e w2 ⟨rfl, hb⟩; exact ⟨rfl, hw'.trans (hb.mono hw'.size)⟩)
                     | (go_at_call 40; (with_reducible refine (PteR.rleaf_calls _ _ _ _ _ _ _ _ _ _ _ _).mono ?_); rintro e w2 ⟨rfl, hb⟩; exact ⟨rfl, hw'.trans (hb.mono hw'.size)⟩)
                     | (go_at_call 42; (with_reducible refine (PteR.rlink_calls _ _ _ _ _ _ _ _ _ _ _ _).mono ?_); rintro e w2 ⟨rfl, hb⟩; exact ⟨rfl, hw'.trans (hb.mono hw'.size)⟩)
                     | (go_at_call 44; (with_reducible refine (PteR.rbad_calls _ _ _ _ _ _ _ _ _ _ _ _ _ (by first | assumption | exact ⟨by omega, by omega⟩) (by first | assumption | exact ⟨by omega, by omega⟩) (by first | assumption | exact ⟨by omega, by omega⟩) (by omega) (by omega)).mono ?_); rintro e w2 ⟨rfl, hb⟩; exact ⟨rfl, hw'.trans (hb.mono hw'.size)⟩)
                     | (go_at_call 46; (with_reducible refine (PteR.rmake_calls _ _ _ _ _ _ _).mono ?_); rintro e w2 ⟨rfl, hb⟩; exact ⟨rfl, hw'.trans (hb.mono hw'.size)⟩)
                     | (go_at_call 48; (with_reducible refine (PteR.rperm_calls _ _ _ _ _ _ _ _ _ _ _ _).mono ?_); rintro e w2 ⟨rfl, hb⟩; exact ⟨rfl, hw'.trans (hb.mono hw'.size)⟩)
                     | (go_at_call 45; (with_reducible refine (PteC.make_calls _ _ _ _ _ _ _).mono ?_); rintro e w2 ⟨rfl, hb⟩; exact ⟨rfl, hw'.trans (hb.mono hw'.size)⟩)
                     | (obtain ⟨hcc, _⟩ := bcell hw'; go_simp; done)
                     | (obtain ⟨hcc, _⟩ := bcell hw'; go_simp; rfl)
                   clear hK K))
      refine wpQuiet_nil ?_
      intro w9 b9
      go_wp2
      go_ret
      refine ⟨congrArg (fun z => Ending.returned (.bool z)) ?_, bel_trans BX b9⟩
      rw [HM.out]; simp [c1, c2]
    · have l0 : 0 ≤ lv := of_decide_eq_true c1
      have l2 : lv ≤ 2 := of_decide_eq_true c2
      cases c3 : decide (ppn < 17592186044416)
      · go_enter Tryd.func16, Tryd.ntmps16
        go_wp2_with fail
        refine name_world (F := fun w1 => w1.cell? ⟨W.heap.size, 0, none⟩ = some (.int .i64 lv) ∧ w1.cell? ⟨W.heap.size, 1, none⟩ = some (.int .u64 at_) ∧ w1.cell? ⟨W.heap.size, 2, none⟩ = some (.bool v) ∧ w1.cell? ⟨W.heap.size, 3, none⟩ = some (.bool r) ∧ w1.cell? ⟨W.heap.size, 4, none⟩ = some (.bool w) ∧ w1.cell? ⟨W.heap.size, 5, none⟩ = some (.bool x) ∧ w1.cell? ⟨W.heap.size, 6, none⟩ = some (.bool u) ∧ w1.cell? ⟨W.heap.size, 7, none⟩ = some (.bool g) ∧ w1.cell? ⟨W.heap.size, 8, none⟩ = some (.bool a) ∧ w1.cell? ⟨W.heap.size, 9, none⟩ = some (.bool d) ∧ w1.cell? ⟨W.heap.size, 10, none⟩ = some (.int .u64 rsw) ∧ w1.cell? ⟨W.heap.size, 11, none⟩ = some (.int .u64 ppn) ∧ w1.cell? ⟨W.heap.size, 12, none⟩ = some (.int .u64 high) ∧ W.heap.size < w1.heap.size ∧ Below W.heap.size W w1) (by
          refine ⟨?_, ?_, ?_, ?_, ?_, ?_, ?_, ?_, ?_, ?_, ?_, ?_, ?_, ?_, ?_⟩
          all_goals first | (simp; done) | (simp; omega) | (intro i; simp; done) | exact (by repeat (first | (with_reducible exact Below.refl _ _) | (with_reducible apply bel_drewN) | (with_reducible apply bel_alloc) | (with_reducible apply bel_trans; rotate_left; with_reducible assumption) | (with_reducible refine bel_setCell _ _ _ (by first | omega | (simp; done) | (simp; omega) | (simp at *; omega)) ?_)))) ?_
        rintro Wx ⟨p0, p1, p2, p3, p4, p5, p6, p7, p8, p9, p10, p11, p12, hz0, BX⟩
        have hG0 : G Wx := hG.to BX
        refine region_below (by kernel_rfl) (by kernel_rfl) ?_
        repeat (with_reducible refine wpQuiet_step (fun K hK => ?_)
                go_simp
                first
                  | (refine hK _ ?_; clear hK K)
                  | (refine ⟨_, fun _ _ => rfl, hK _ ?_⟩; clear hK K)
                  | (apply Exists.intro
                     refine ⟨fun w' hw' => ?_, hK _ ?_⟩
                     · first
                       | (go_at_call 66; (with_reducible refine (VaC.size_calls _ _ (by omega) (by omega) (hG0.below hw' (Nat.le_refl _))).mono ?_); rintro e w2 ⟨rfl, hb⟩; exact ⟨rfl, hw'.trans (hb.below.mono hw'.size)⟩)
                       | (go_at_call 52; (with_reducible refine (VaC.num_calls _ _ (by omega) (by omega)).mono ?_); rintro e w2 ⟨rfl, hb⟩; exact ⟨rfl, hw'.trans (hb.below.mono hw'.size)⟩)
                       | (go_at_call 55; (with_reducible refine (VaC.of_calls _ _ (by omega) (by omega)).mono ?_); rintro e w2 ⟨rfl, hb⟩; exact ⟨rfl, hw'.trans (hb.below.mono hw'.size)⟩)
                       | (go_at_call 53; (with_reducible refine (VaC.base_calls _ _ _ (by omega) (by omega) (by omega) (by omega) (hG0.below hw' (Nat.le_refl _))).mono ?_); rintro e w2 ⟨rfl, hb⟩; exact ⟨rfl, hw'.trans (hb.below.mono hw'.size)⟩)
                       | (go_at_call 56; (with_reducible refine (VaC.off_calls _ _ _ (by omega) (by omega) (by omega) (by omega) (hG0.below hw' (Nat.le_refl _))).mono ?_); rintro e w2 ⟨rfl, hb⟩; exact ⟨rfl, hw'.trans (hb.below.mono hw'.size)⟩)
                       | (go_at_call 51; (with_reducible refine (BitsC.even_calls _ _ _ (by assumption) (by assumption)).mono ?_); rintro e w2 ⟨rfl, hb⟩; exact ⟨rfl, hw'.trans (hb.below.mono hw'.size)⟩)
                       | (go_at_call 54; (with_reducible refine (VaR.rnum_calls _ _ (by omega) (by omega)).mono ?_); rintro e w2 ⟨rfl, hb⟩; exact ⟨rfl, hw'.trans (hb.below.mono hw'.size)⟩)
                       | (go_at_call 57; (with_reducible refine (VaR.roff_calls _ _ _ (by omega) (by omega) (by omega) (by omega)).mono ?_); rintro e w2 ⟨rfl, hb⟩; exact ⟨rfl, hw'.trans (hb.below.mono hw'.size)⟩)
                       | (go_at_call 31; (with_reducible refine (rpages_calls _ _ (by omega) (by omega)).mono ?_); rintro e w2 ⟨rfl, hb⟩; exact ⟨rfl, hw'.trans (hb.below.mono hw'.size)⟩)
                       | (go_at_call 34; (with_reducible refine (PteC.may_calls _ _ _ _ _ _ _ _ _ _ _ _ (by first | assumption | exact ⟨by omega, by omega⟩) (by first | assumption | exact ⟨by omega, by omega⟩) (by first | assumption | exact ⟨by omega, by omega⟩)).mono ?_); rintro e w2 ⟨rfl, hb⟩; exact ⟨rfl, hw'.trans (hb.mono hw'.size)⟩)
                       | (go_at_call 36; (with_reducible refine (PteC.pget_calls _ _ (by first | assumption | exact ⟨by omega, by omega⟩)).mono ?_); rintro e w2 ⟨rfl, hb⟩; exact ⟨rfl, hw'.trans (hb.mono hw'.size)⟩)
                       | (go_at_call 39; (with_reducible refine (PteC.leaf_calls _ _ _ _ _ _ _ _ _ _ _ _).mono ?_); rintro e w2 ⟨rfl, hb⟩; exact ⟨rfl, hw'.trans (hb.mono hw'.size)⟩)
                       | (go_at_call 41; (with_reducible refine (PteC.link_calls _ _ _ _ _ _ _ _ _ _ _ _).mono ?_); rintro e w2 ⟨rfl, hb⟩; exact ⟨rfl, hw'.trans (hb.mono hw'.size)⟩)
                       | (go_at_call 43; (with_reducible refine (PteC.bad_calls _ _ _ _ _ _ _ _ _ _ _ _ _ (by first | assumption | exact ⟨by omega, by omega⟩) (by first | assumption | exact ⟨by omega, by omega⟩) (by first | assumption | exact ⟨by omega, by omega⟩) (by omega) (by omega) (hG0.below hw' (Nat.le_refl _))).mono ?_); rintro e w2 ⟨rfl, hb⟩; exact ⟨rfl, hw'.trans (hb.mono hw'.size)⟩)
                       | (go_at_call 47; (with_reducible refine (PteC.perm_calls _ _ _ _ _ _ _ _ _ _ _ _).mono ?_); rintro e w2 ⟨rfl, hb⟩; exact ⟨rfl, hw'.trans (hb.mono hw'.size)⟩)
                       | (go_at_call 37; (with_reducible refine (PteR.rget_calls _ _ (by first | assumption | exact ⟨by omega, by omega⟩)).mono ?_); rintro e w2 ⟨rfl, hb⟩; exact ⟨rfl, hw'.trans (hb.mono hw'.size)⟩)
                       | (go_at_call 35; (with_reducible refine (PteR.rmay_calls _ _ _ _ _ _ _ _ _ _ _ _ (by first | assumption | exact ⟨by omega, by omega⟩) (by first | assumption | exact ⟨by omega, by omega⟩) (by first | assumption | exact ⟨by omega, by omega⟩)).mono ?_); rintro e w2 ⟨rfl, hb⟩; exact ⟨rfl, hw'.trans (hb.mono hw'.size)⟩)
                       | (go_at_call 40; (with_reducible refine (PteR.rleaf_calls _ _ _ _ _ _ _ _ _ _ _ _).mono ?_); rintro e w2 ⟨rfl, hb⟩; exact ⟨rfl, hw'.trans (hb.mono hw'.size)⟩)
                       | (go_at_call 42; (with_reducible refine (PteR.rlink_calls _ _ _ _ _ _ _ _ _ _ _ _).mono ?_); rintro e w2 ⟨rfl, hb⟩; exact ⟨rfl, hw'.trans (hb.mono hw'.size)⟩)
                       | (go_at_call 44; (with_reducible refine (PteR.rbad_calls _ _ _ _ _ _ _ _ _ _ _ _ _ (by first | assumption | exact ⟨by omega, by omega⟩) (by first | assumption | exact ⟨by omega, by omega⟩) (by first | assumption | exact ⟨by omega, by omega⟩) (by omega) (by omega)).mono ?_); rintro e w2 ⟨rfl, hb⟩; exact ⟨rfl, hw'.trans (hb.mono hw'.size)⟩)
                       | (go_at_call 46; (with_reducible refine (PteR.rmake_calls _ _ _ _ _ _ _).mono ?_); rintro e w2 ⟨rfl, hb⟩; exact ⟨rfl, hw'.trans (hb.mono hw'.size)⟩)
                       | (go_at_call 48; (with_reducible refine (PteR.rperm_calls _ _ _ _ _ _ _ _ _ _ _ _).mono ?_); rintro e w2 ⟨rfl, hb⟩; exact ⟨rfl, hw'.trans (hb.mono hw'.size)⟩)
                       | (go_at_call 45; (with_reducible refine (PteC.make_calls _ _ _ _ _ _ _).mono ?_); rintro e w2 ⟨rfl, hb⟩; exact ⟨rfl, hw'.trans (hb.mono hw'.size)⟩)
                       | (obtain ⟨hcc, _⟩ := bcell hw'; go_simp; done)
                       | (obtain ⟨hcc, _⟩ := bcell hw'; go_simp; rfl)
                     clear hK K))
        refine wpQuiet_nil ?_
        intro w9 b9
        go_wp2
        go_ret
        refine ⟨congrArg (fun z => Ending.returned (.bool z)) ?_, bel_trans BX b9⟩
        rw [HM.out]; simp [c1, c2, c3]
      · go_enter Tryd.func16, Tryd.ntmps16
        go_wp2_with fail
        refine name_world (F := fun w1 => w1.cell? ⟨W.heap.size, 0, none⟩ = some (.int .i64 lv) ∧ w1.cell? ⟨W.heap.size, 1, none⟩ = some (.int .u64 at_) ∧ w1.cell? ⟨W.heap.size, 2, none⟩ = some (.bool v) ∧ w1.cell? ⟨W.heap.size, 3, none⟩ = some (.bool r) ∧ w1.cell? ⟨W.heap.size, 4, none⟩ = some (.bool w) ∧ w1.cell? ⟨W.heap.size, 5, none⟩ = some (.bool x) ∧ w1.cell? ⟨W.heap.size, 6, none⟩ = some (.bool u) ∧ w1.cell? ⟨W.heap.size, 7, none⟩ = some (.bool g) ∧ w1.cell? ⟨W.heap.size, 8, none⟩ = some (.bool a) ∧ w1.cell? ⟨W.heap.size, 9, none⟩ = some (.bool d) ∧ w1.cell? ⟨W.heap.size, 10, none⟩ = some (.int .u64 rsw) ∧ w1.cell? ⟨W.heap.size, 11, none⟩ = some (.int .u64 ppn) ∧ w1.cell? ⟨W.heap.size, 12, none⟩ = some (.int .u64 high) ∧ W.heap.size < w1.heap.size ∧ Below W.heap.size W w1) (by
          refine ⟨?_, ?_, ?_, ?_, ?_, ?_, ?_, ?_, ?_, ?_, ?_, ?_, ?_, ?_, ?_⟩
          all_goals first | (simp; done) | (simp; omega) | (intro i; simp; done) | exact (by repeat (first | (with_reducible exact Below.refl _ _) | (with_reducible apply bel_drewN) | (with_reducible apply bel_alloc) | (with_reducible apply bel_trans; rotate_left; with_reducible assumption) | (with_reducible refine bel_setCell _ _ _ (by first | omega | (simp; done) | (simp; omega) | (simp at *; omega)) ?_)))) ?_
        rintro Wx ⟨p0, p1, p2, p3, p4, p5, p6, p7, p8, p9, p10, p11, p12, hz0, BX⟩
        have hG0 : G Wx := hG.to BX
        refine region_below (by kernel_rfl) (by kernel_rfl) ?_
        repeat (with_reducible refine wpQuiet_step (fun K hK => ?_)
                go_simp
                first
                  | (refine hK _ ?_; clear hK K)
                  | (refine ⟨_, fun _ _ => rfl, hK _ ?_⟩; clear hK K)
                  | (apply Exists.intro
                     refine ⟨fun w' hw' => ?_, hK _ ?_⟩
                     · first
                       | (go_at_call 66; (with_reducible refine (VaC.size_calls _ _ (by omega) (by omega) (hG0.below hw' (Nat.le_refl _))).mono ?_); rintro e w2 ⟨rfl, hb⟩; exact ⟨rfl, hw'.trans (hb.below.mono hw'.size)⟩)
                       | (go_at_call 52; (with_reducible refine (VaC.num_calls _ _ (by omega) (by omega)).mono ?_); rintro e w2 ⟨rfl, hb⟩; exact ⟨rfl, hw'.trans (hb.below.mono hw'.size)⟩)
                       | (go_at_call 55; (with_reducible refine (VaC.of_calls _ _ (by omega) (by omega)).mono ?_); rintro e w2 ⟨rfl, hb⟩; exact ⟨rfl, hw'.trans (hb.below.mono hw'.size)⟩)
                       | (go_at_call 53; (with_reducible refine (VaC.base_calls _ _ _ (by omega) (by omega) (by omega) (by omega) (hG0.below hw' (Nat.le_refl _))).mono ?_); rintro e w2 ⟨rfl, hb⟩; exact ⟨rfl, hw'.trans (hb.below.mono hw'.size)⟩)
                       | (go_at_call 56; (with_reducible refine (VaC.off_calls _ _ _ (by omega) (by omega) (by omega) (by omega) (hG0.below hw' (Nat.le_refl _))).mono ?_); rintro e w2 ⟨rfl, hb⟩; exact ⟨rfl, hw'.trans (hb.below.mono hw'.size)⟩)
                       | (go_at_call 51; (with_reducible refine (BitsC.even_calls _ _ _ (by assumption) (by assumption)).mono ?_); rintro e w2 ⟨rfl, hb⟩; exact ⟨rfl, hw'.trans (hb.below.mono hw'.size)⟩)
                       | (go_at_call 54; (with_reducible refine (VaR.rnum_calls _ _ (by omega) (by omega)).mono ?_); rintro e w2 ⟨rfl, hb⟩; exact ⟨rfl, hw'.trans (hb.below.mono hw'.size)⟩)
                       | (go_at_call 57; (with_reducible refine (VaR.roff_calls _ _ _ (by omega) (by omega) (by omega) (by omega)).mono ?_); rintro e w2 ⟨rfl, hb⟩; exact ⟨rfl, hw'.trans (hb.below.mono hw'.size)⟩)
                       | (go_at_call 31; (with_reducible refine (rpages_calls _ _ (by omega) (by omega)).mono ?_); rintro e w2 ⟨rfl, hb⟩; exact ⟨rfl, hw'.trans (hb.below.mono hw'.size)⟩)
                       | (go_at_call 34; (with_reducible refine (PteC.may_calls _ _ _ _ _ _ _ _ _ _ _ _ (by first | assumption | exact ⟨by omega, by omega⟩) (by first | assumption | exact ⟨by omega, by omega⟩) (by first | assumption | exact ⟨by omega, by omega⟩)).mono ?_); rintro e w2 ⟨rfl, hb⟩; exact ⟨rfl, hw'.trans (hb.mono hw'.size)⟩)
                       | (go_at_call 36; (with_reducible refine (PteC.pget_calls _ _ (by first | assumption | exact ⟨by omega, by omega⟩)).mono ?_); rintro e w2 ⟨rfl, hb⟩; exact ⟨rfl, hw'.trans (hb.mono hw'.size)⟩)
                       | (go_at_call 39; (with_reducible refine (PteC.leaf_calls _ _ _ _ _ _ _ _ _ _ _ _).mono ?_); rintro e w2 ⟨rfl, hb⟩; exact ⟨rfl, hw'.trans (hb.mono hw'.size)⟩)
                       | (go_at_call 41; (with_reducible refine (PteC.link_calls _ _ _ _ _ _ _ _ _ _ _ _).mono ?_); rintro e w2 ⟨rfl, hb⟩; exact ⟨rfl, hw'.trans (hb.mono hw'.size)⟩)
                       | (go_at_call 43; (with_reducible refine (PteC.bad_calls _ _ _ _ _ _ _ _ _ _ _ _ _ (by first | assumption | exact ⟨by omega, by omega⟩) (by first | assumption | exact ⟨by omega, by omega⟩) (by first | assumption | exact ⟨by omega, by omega⟩) (by omega) (by omega) (hG0.below hw' (Nat.le_refl _))).mono ?_); rintro e w2 ⟨rfl, hb⟩; exact ⟨rfl, hw'.trans (hb.mono hw'.size)⟩)
                       | (go_at_call 47; (with_reducible refine (PteC.perm_calls _ _ _ _ _ _ _ _ _ _ _ _).mono ?_); rintro e w2 ⟨rfl, hb⟩; exact ⟨rfl, hw'.trans (hb.mono hw'.size)⟩)
                       | (go_at_call 37; (with_reducible refine (PteR.rget_calls _ _ (by first | assumption | exact ⟨by omega, by omega⟩)).mono ?_); rintro e w2 ⟨rfl, hb⟩; exact ⟨rfl, hw'.trans (hb.mono hw'.size)⟩)
                       | (go_at_call 35; (with_reducible refine (PteR.rmay_calls _ _ _ _ _ _ _ _ _ _ _ _ (by first | assumption | exact ⟨by omega, by omega⟩) (by first | assumption | exact ⟨by omega, by omega⟩) (by first | assumption | exact ⟨by omega, by omega⟩)).mono ?_); rintro e w2 ⟨rfl, hb⟩; exact ⟨rfl, hw'.trans (hb.mono hw'.size)⟩)
                       | (go_at_call 40; (with_reducible refine (PteR.rleaf_calls _ _ _ _ _ _ _ _ _ _ _ _).mono ?_); rintro e w2 ⟨rfl, hb⟩; exact ⟨rfl, hw'.trans (hb.mono hw'.size)⟩)
                       | (go_at_call 42; (with_reducible refine (PteR.rlink_calls _ _ _ _ _ _ _ _ _ _ _ _).mono ?_); rintro e w2 ⟨rfl, hb⟩; exact ⟨rfl, hw'.trans (hb.mono hw'.size)⟩)
                       | (go_at_call 44; (with_reducible refine (PteR.rbad_calls _ _ _ _ _ _ _ _ _ _ _ _ _ (by first | assumption | exact ⟨by omega, by omega⟩) (by first | assumption | exact ⟨by omega, by omega⟩) (by first | assumption | exact ⟨by omega, by omega⟩) (by omega) (by omega)).mono ?_); rintro e w2 ⟨rfl, hb⟩; exact ⟨rfl, hw'.trans (hb.mono hw'.size)⟩)
                       | (go_at_call 46; (with_reducible refine (PteR.rmake_calls _ _ _ _ _ _ _).mono ?_); rintro e w2 ⟨rfl, hb⟩; exact ⟨rfl, hw'.trans (hb.mono hw'.size)⟩)
                       | (go_at_call 48; (with_reducible refine (PteR.rperm_calls _ _ _ _ _ _ _ _ _ _ _ _).mono ?_); rintro e w2 ⟨rfl, hb⟩; exact ⟨rfl, hw'.trans (hb.mono hw'.size)⟩)
                       | (go_at_call 45; (with_reducible refine (PteC.make_calls _ _ _ _ _ _ _).mono ?_); rintro e w2 ⟨rfl, hb⟩; exact ⟨rfl, hw'.trans (hb.mono hw'.size)⟩)
                       | (obtain ⟨hcc, _⟩ := bcell hw'; go_simp; done)
                       | (obtain ⟨hcc, _⟩ := bcell hw'; go_simp; rfl)
                     clear hK K))
        refine wpQuiet_nil ?_
        intro w9 b9
        go_wp2
        go_ret
        refine ⟨congrArg (fun z => Ending.returned (.bool z)) ?_, bel_trans BX b9⟩
        rw [HM.out]; simp [c1, c2, c3]
end Go.Proofs.YtjgnckhbafgalaaDoor.EntryR
