/- The walk of the law PteKinds. -/
import Derived.Test.YtjgnckhbafgalaaDoorPteW
namespace Go.Proofs.YtjgnckhbafgalaaDoor.PteW
open Go.RowKit Go.Proofs.YtjgnckhbafgalaaDoor.Bv Go.Proofs.YtjgnckhbafgalaaDoor.VaSpec Go.Proofs.YtjgnckhbafgalaaDoor.Base Go.Proofs.YtjgnckhbafgalaaDoor.BitsC Go.Proofs.YtjgnckhbafgalaaDoor.VaC Go.Proofs.YtjgnckhbafgalaaDoor.PteSpec Go.Proofs.YtjgnckhbafgalaaDoor.EntrySpec Go.Proofs.YtjgnckhbafgalaaDoor.EqS
set_option linter.unusedVariables false
set_option linter.unusedSimpArgs false
attribute [local go_sem high] eq_perm eq_pte eq_ent
attribute [local go_sem] eqPerm_self eqPte_self eqEnt_self
set_option maxHeartbeats 8000000 in
set_option maxRecDepth 100000 in
theorem kinds_walk (v r w x u g a d : Bool) (rsw ppn high : Int) (n : Nat) (f : Int) (pr pw px pu : Bool) (gl : Bool) (W : World) (h1 : U rsw) (h2 : U ppn) (h3 : U high) (hn : n < 256) (hf : U f) (hG : G W) :
    Calls Tryd.prog 9 #[.agg #[.bool v, .bool r, .bool w, .bool x, .bool u, .bool g, .bool a, .bool d, .int .u64 rsw, .int .u64 ppn, .int .u64 high], .int .u8 n, .int .u64 f, .agg #[.bool pr, .bool pw, .bool px, .bool pu], .bool gl] W fun e w' => e = .returned (.bool true) ∧ Below W.heap.size W w' := by
  obtain ⟨l, l0, l2, el⟩ : ∃ l : Int, 0 ≤ l ∧ l ≤ 2 ∧ (n : Int) % 3 = l := ⟨_, by omega, by omega, rfl⟩
  have El := Lib.hid el; clear el
  obtain ⟨W0, hW0⟩ : ∃ W0 : World, (W.alloc (Obj.cells #[.bool v, .bool r, .bool w, .bool x, .bool u, .bool g, .bool a, .bool d, .int .u64 rsw, .int .u64 ppn, .int .u64 high] 24)).alloc (Obj.cells #[.bool pr, .bool pw, .bool px, .bool pu] 28) = W0 := ⟨_, rfl⟩
  have hcell : ∀ i, W0.cell? ⟨W.heap.size, i, none⟩ = (W.alloc (Obj.cells #[.bool v, .bool r, .bool w, .bool x, .bool u, .bool g, .bool a, .bool d, .int .u64 rsw, .int .u64 ppn, .int .u64 high] 24)).cell? ⟨W.heap.size, i, none⟩ := fun i => by rw [← hW0]; simp
  have hcell2 : ∀ i, W0.cell? ⟨W.heap.size + 1, i, none⟩ = ((W.alloc (Obj.cells #[.bool v, .bool r, .bool w, .bool x, .bool u, .bool g, .bool a, .bool d, .int .u64 rsw, .int .u64 ppn, .int .u64 high] 24)).alloc (Obj.cells #[.bool pr, .bool pw, .bool px, .bool pu] 28)).cell? ⟨W.heap.size + 1, i, none⟩ := fun i => by rw [← hW0]
  have hlt : W.heap.size < W0.heap.size := by rw [← hW0]; simp; omega
  have hltb : W.heap.size + 1 < W0.heap.size := by rw [← hW0]; simp
  have HW : Below W.heap.size W W0 := by rw [← hW0]; exact (by repeat (first | (with_reducible exact Below.refl _ _) | (with_reducible apply bel_drewN) | (with_reducible apply bel_alloc) | (with_reducible apply bel_trans; rotate_left; with_reducible assumption) | (with_reducible refine bel_setCell _ _ _ (by first | omega | (simp; done) | (simp; omega) | (simp at *; omega)) ?_)))
  have hG0 : G W0 := hG.to HW
  have HW0 := Lib.hid hW0
  clear hW0
  go_enter Tryd.func9, Tryd.ntmps9
  go_wp2_with fail
  rw [HW0.out]
  refine (awake_calls W0 hG0).mono ?_
  rintro e w1 ⟨rfl, b1⟩
  obtain ⟨c1, _⟩ := bcell b1
  go_wp2_with fail
  rw [El.out]
  replace hG0 : G w1 := hG0.to b1
  have hlt1 : W.heap.size < w1.heap.size := Nat.lt_of_lt_of_le hlt b1.size
  have hlt2 : W.heap.size + 1 < w1.heap.size := Nat.lt_of_lt_of_le hltb b1.size
  refine region_below (by kernel_rfl) (by kernel_rfl) ?_
  repeat (refine wpQuiet_step (fun K hK => ?_)
          go_simp
          first
            | (refine hK _ ?_; clear hK K)
            | (refine ⟨_, fun _ _ => rfl, hK _ ?_⟩; clear hK K)
            | (apply Exists.intro
               refine ⟨fun w' hw' => ?_, hK _ ?_⟩
               · first
                 | (go_at_call 34; (with_reducible refine (PteC.may_calls _ _ _ _ _ _ _ _ _ _ _ _ (by first | assumption | exact ⟨by omega, by omega⟩) (by first | assumption | exact ⟨by omega, by omega⟩) (by first | assumption | exact ⟨by omega, by omega⟩)).mono ?_); rintro e w2 ⟨rfl, hb⟩; exact ⟨rfl, hw'.trans (hb.mono hw'.size)⟩)
                 | (go_at_call 36; (with_reducible refine (PteC.pget_calls _ _ (by first | assumption | exact ⟨by omega, by omega⟩)).mono ?_); rintro e w2 ⟨rfl, hb⟩; exact ⟨rfl, hw'.trans (hb.mono hw'.size)⟩)
                 | (go_at_call 39; (with_reducible refine (PteC.leaf_calls _ _ _ _ _ _ _ _ _ _ _ _).mono ?_); rintro e w2 ⟨rfl, hb⟩; exact ⟨rfl, hw'.trans (hb.mono hw'.size)⟩)
                 | (go_at_call 41; (with_reducible refine (PteC.link_calls _ _ _ _ _ _ _ _ _ _ _ _).mono ?_); rintro e w2 ⟨rfl, hb⟩; exact ⟨rfl, hw'.trans (hb.mono hw'.size)⟩)
                 | (go_at_call 43; (with_reducible refine (PteC.bad_calls _ _ _ _ _ _ _ _ _ _ _ _ _ (by first | assumption | exact ⟨by omega, by omega⟩) (by first | assumption | exact ⟨by omega, by omega⟩) (by first | assumption | exact ⟨by omega, by omega⟩) (by omega) (by omega) (hG0.below hw' (Nat.le_refl _))).mono ?_); rintro e w2 ⟨rfl, hb⟩; exact ⟨rfl, hw'.trans (hb.mono hw'.size)⟩)
                 | (go_at_call 47; (with_reducible refine (PteC.perm_calls _ _ _ _ _ _ _ _ _ _ _ _).mono ?_); rintro e w2 ⟨rfl, hb⟩; exact ⟨rfl, hw'.trans (hb.mono hw'.size)⟩)
                 | (go_at_call 37; (with_reducible refine (PteR.rget_calls _ _ (by first | assumption | exact ⟨by omega, by omega⟩)).mono ?_); rintro e w2 ⟨rfl, hb⟩; exact ⟨rfl, hw'.trans (hb.mono hw'.size)⟩)
                 | (go_at_call 35; (with_reducible refine (PteR.rmay_calls _ _ _ _ _ _ _ _ _ _ _ _ (by first | assumption | exact ⟨by omega, by omega⟩) (by first | assumption | exact ⟨by omega, by omega⟩) (by first | assumption | exact ⟨by omega, by omega⟩)).mono ?_); rintro e w2 ⟨rfl, hb⟩; exact ⟨rfl, hw'.trans (hb.mono hw'.size)⟩)
                 | (go_at_call 40; (with_reducible refine (PteR.rleaf_calls _ _ _ _ _ _ _ _ _ _ _ _).mono ?_); rintro e w2 ⟨rfl, hb⟩; exact ⟨rfl, hw'.trans (hb.mono hw'.size)⟩)
                 | (go_at_call 42; (with_reducible refine (PteR.rlink_calls _ _ _ _ _ _ _ _ _ _ _ _).mono ?_); rintro e w2 ⟨rfl, hb⟩; exact ⟨rfl, hw'.trans (hb.mono hw'.size)⟩)
                 | (go_at_call 44; (with_reducible refine (PteR.rbad_calls _ _ _ _ _ _ _ _ _ _ _ _ _ (by first | assumption | exact ⟨by omega, by omega⟩) (by first | assumption | exact ⟨by omega, by omega⟩) (by first | assumption | exact ⟨by omega, by omega⟩) (by omega) (by omega)).mono ?_); rintro e w2 ⟨rfl, hb⟩; exact ⟨rfl, hw'.trans (hb.mono hw'.size)⟩)
                 | (go_at_call 46; (with_reducible refine (PteR.rmake_calls _ _ _ _ _ _ _).mono ?_); rintro e w2 ⟨rfl, hb⟩; exact ⟨rfl, hw'.trans (hb.mono hw'.size)⟩)
                 | (go_at_call 48; (with_reducible refine (PteR.rperm_calls _ _ _ _ _ _ _ _ _ _ _ _).mono ?_); rintro e w2 ⟨rfl, hb⟩; exact ⟨rfl, hw'.trans (hb.mono hw'.size)⟩)
                 | (go_at_call 45; (with_reducible refine (PteC.make_calls _ _ _ _ _ _ _).mono ?_); rintro e w2 ⟨rfl, hb⟩; exact ⟨rfl, hw'.trans (hb.mono hw'.size)⟩)
                 | (obtain ⟨hcc, _⟩ := bcell hw'; go_simp; done)
                 | (obtain ⟨hcc, _⟩ := bcell hw'; go_simp; rfl)
               clear hK K))
  refine wpQuiet_nil ?_
  intro w3 b3
  go_wp2
  go_ret
  exact ⟨rfl, bel_trans HW (bel_trans b1 b3)⟩
end Go.Proofs.YtjgnckhbafgalaaDoor.PteW
