/- The walk of the law PteMade. -/
import Derived.Test.YtjgnckhbafgalaaDoorPteW
namespace Go.Proofs.YtjgnckhbafgalaaDoor.PteW
open Go.RowKit Go.Proofs.YtjgnckhbafgalaaDoor.Bv Go.Proofs.YtjgnckhbafgalaaDoor.VaSpec Go.Proofs.YtjgnckhbafgalaaDoor.Base Go.Proofs.YtjgnckhbafgalaaDoor.BitsC Go.Proofs.YtjgnckhbafgalaaDoor.VaC Go.Proofs.YtjgnckhbafgalaaDoor.PteSpec Go.Proofs.YtjgnckhbafgalaaDoor.EntrySpec Go.Proofs.YtjgnckhbafgalaaDoor.EqS
set_option linter.unusedVariables false
set_option linter.unusedSimpArgs false
attribute [local go_sem high] eq_perm eq_pte eq_ent
attribute [local go_sem] eqPerm_self eqPte_self eqEnt_self
theorem made_ppn (f : Int) (n : Nat) (hf : U f) : (0 ≤ IntKind.u64.wrap (f % 67108864 * 2 ^ (9 * (n % 3))) ∧ IntKind.u64.wrap (f % 67108864 * 2 ^ (9 * (n % 3))) < 17592186044416) ∧ IntKind.u64.wrap (f % 67108864 * 2 ^ (9 * (n % 3))) % (sz ((n : Int) % 3) / 4096) = 0 := by
  have h3 : n % 3 = 0 ∨ n % 3 = 1 ∨ n % 3 = 2 := by omega
  have e : (n : Int) % 3 = ((n % 3 : Nat) : Int) := by omega
  obtain ⟨f0, f1⟩ := hf
  rw [e]
  rcases h3 with h | h | h <;> rw [h, wrap_u64]
  · rw [show sz ((0 : Nat) : Int) / 4096 = 1 from rfl, show (2 : Int) ^ (9 * 0) = 1 from rfl]; omega
  · rw [show sz ((1 : Nat) : Int) / 4096 = 512 from rfl, show (2 : Int) ^ (9 * 1) = 512 from rfl]; omega
  · rw [show sz ((2 : Nat) : Int) / 4096 = 262144 from rfl, show (2 : Int) ^ (9 * 2) = 262144 from rfl]; omega
theorem made_facts (r w x u gl : Bool) (p l : Int) (hp : 0 ≤ p ∧ p < 17592186044416) (hl : p % (sz l / 4096) = 0) (h : (r || (x && !w)) = true) :
    mayP ⟨true, r, w, x, u, gl, false, false, 0, p, 0⟩ = true ∧ leafP ⟨true, r, w, x, u, gl, false, false, 0, p, 0⟩ = true ∧ badP ⟨true, r, w, x, u, gl, false, false, 0, p, 0⟩ l = false := by
  refine ⟨by rw [mayP_iff]; simp only; omega, ?_, ?_⟩
  · revert h; cases r <;> cases x <;> cases w <;> simp [leafP]
  · revert h; unfold badP; cases r <;> cases x <;> cases w <;> simp [linkP, hl]
theorem zero_facts (l : Int) : badP ⟨false, false, false, false, false, false, false, false, 0, 0, 0⟩ l = true ∧ leafP ⟨false, false, false, false, false, false, false, false, 0, 0, 0⟩ = false ∧ linkP ⟨false, false, false, false, false, false, false, false, 0, 0, 0⟩ = false ∧ pteOf 0 = ⟨false, false, false, false, false, false, false, false, 0, 0, 0⟩ := by
  refine ⟨rfl, rfl, rfl, by decide +kernel⟩
set_option maxHeartbeats 8000000 in
set_option maxRecDepth 100000 in
theorem made_walk (f : Int) (n : Nat) (r w x u gl : Bool) (W : World) (hf : U f) (hn : n < 256) (hG : G W) :
    Calls Tryd.prog 12 #[.int .u64 f, .int .u8 n, .agg #[.bool r, .bool w, .bool x, .bool u], .bool gl] W fun e w' => e = .returned (.bool true) ∧ Below W.heap.size W w' := by
  obtain ⟨l, l0, l2, el⟩ : ∃ l : Int, 0 ≤ l ∧ l ≤ 2 ∧ (n : Int) % 3 = l := ⟨_, by omega, by omega, rfl⟩
  have El := Lib.hid el; clear el
  obtain ⟨W0, hW0⟩ : ∃ W0 : World, W.alloc (Obj.cells #[.bool r, .bool w, .bool x, .bool u] 28) = W0 := ⟨_, rfl⟩
  have hcell : ∀ i, W0.cell? ⟨W.heap.size, i, none⟩ = (W.alloc (Obj.cells #[.bool r, .bool w, .bool x, .bool u] 28)).cell? ⟨W.heap.size, i, none⟩ := fun i => by rw [hW0]
  have hlt : W.heap.size < W0.heap.size := by rw [← hW0]; simp
  have HW : Below W.heap.size W W0 := by rw [← hW0]; exact (by repeat (first | (with_reducible exact Below.refl _ _) | (with_reducible apply bel_drewN) | (with_reducible apply bel_alloc) | (with_reducible apply bel_trans; rotate_left; with_reducible assumption) | (with_reducible refine bel_setCell _ _ _ (by first | omega | (simp; done) | (simp; omega) | (simp at *; omega)) ?_)))
  have hG0 : G W0 := hG.to HW
  have HW0 := Lib.hid hW0
  clear hW0
  obtain ⟨hp, hpl⟩ := made_ppn f n hf
  rw [El.out] at hpl
  obtain ⟨p, hpe⟩ : ∃ p : Int, IntKind.u64.wrap (f % 67108864 * 2 ^ (9 * (n % 3))) = p := ⟨_, rfl⟩
  rw [hpe] at hp hpl
  have HP := Lib.hid hpe; clear hpe
  have u0 : (0 : Int) ≤ 0 ∧ (0 : Int) < 18446744073709551616 := by decide
  have up : 0 ≤ p ∧ p < 18446744073709551616 := by omega
  have hpl' := Lib.hid hpl
  clear hpl
  have hpl := hpl'.out
  cases r
  · cases x
    · go_enter Tryd.func12, Tryd.ntmps12
      go_wp2_with fail
      rw [HW0.out]
      refine (awake_calls W0 hG0).mono ?_
      rintro e w1 ⟨rfl, b1⟩
      obtain ⟨c1, _⟩ := bcell b1
      go_wp2
      go_ret
      exact ⟨rfl, bel_trans HW b1⟩
    · cases w
      · obtain ⟨hm, hl, hb⟩ := made_facts false false true u gl p l hp hpl rfl
        have e1 : PteC.putE ⟨true, false, false, true, u, gl, false, false, 0, p, 0⟩ = word ⟨true, false, false, true, u, gl, false, false, 0, p, 0⟩ := by unfold PteC.putE; rw [hm]; rfl
        have e2 : PteC.putErr ⟨true, false, false, true, u, gl, false, false, 0, p, 0⟩ = 0 := by unfold PteC.putErr; rw [hm]; rfl
        have hwU : U (word ⟨true, false, false, true, u, gl, false, false, 0, p, 0⟩) := word_bd _ ⟨u0, up, u0⟩ hm
        have hback : pteOf (word ⟨true, false, false, true, u, gl, false, false, 0, p, 0⟩) = ⟨true, false, false, true, u, gl, false, false, 0, p, 0⟩ := pteOf_word _ ⟨u0, up, u0⟩ hm
        have F6 : eqPte ⟨(pteOf (word ⟨true, false, false, true, u, gl, false, false, 0, p, 0⟩)).v, (pteOf (word ⟨true, false, false, true, u, gl, false, false, 0, p, 0⟩)).r, (pteOf (word ⟨true, false, false, true, u, gl, false, false, 0, p, 0⟩)).w, (pteOf (word ⟨true, false, false, true, u, gl, false, false, 0, p, 0⟩)).x, (pteOf (word ⟨true, false, false, true, u, gl, false, false, 0, p, 0⟩)).u, (pteOf (word ⟨true, false, false, true, u, gl, false, false, 0, p, 0⟩)).g, (pteOf (word ⟨true, false, false, true, u, gl, false, false, 0, p, 0⟩)).a, (pteOf (word ⟨true, false, false, true, u, gl, false, false, 0, p, 0⟩)).d, (pteOf (word ⟨true, false, false, true, u, gl, false, false, 0, p, 0⟩)).rsw, (pteOf (word ⟨true, false, false, true, u, gl, false, false, 0, p, 0⟩)).ppn, (pteOf (word ⟨true, false, false, true, u, gl, false, false, 0, p, 0⟩)).high⟩ ⟨true, false, false, true, u, gl, false, false, 0, p, 0⟩ = true := by show eqPte (pteOf (word ⟨true, false, false, true, u, gl, false, false, 0, p, 0⟩)) _ = true; rw [hback]; exact eqPte_self _
        have HF := Lib.hid hback; clear hback
        obtain ⟨z1, z2, z3, z4⟩ := zero_facts l
        have HZ := Lib.hid z4; clear z4
        clear hm
        go_enter Tryd.func12, Tryd.ntmps12
        go_wp2_with fail
        rw [HW0.out]
        refine (awake_calls W0 hG0).mono ?_
        rintro e w1 ⟨rfl, b1⟩
        obtain ⟨c1, _⟩ := bcell b1
        go_wp2_with fail
        rw [HP.out, El.out]
        refine (PteC.make_calls _ _ _ _ _ _ _).mono ?_
        rintro e w2 ⟨rfl, b2⟩
        obtain ⟨c2, _⟩ := bcell b2
        have hw2 : W.heap.size < w2.heap.size := Nat.lt_of_lt_of_le hlt (Nat.le_trans b1.size b2.size)
        have hw1 : W.heap.size < w1.heap.size := Nat.lt_of_lt_of_le hlt b1.size
        go_wp2_with fail
        refine (PteC.put_calls _ _ _ _ _ _ _ _ _ _ _ _ ⟨by omega, by omega⟩ ⟨by omega, by omega⟩ ⟨by omega, by omega⟩).mono ?_
        rintro e w3 ⟨rfl, b3⟩
        obtain ⟨c3, _⟩ := bcell b3
        rw [e1, e2]
        have hw3 : w2.heap.size + 1 ≤ w3.heap.size := by have := b3.size; simpa using this
        go_wp2_with fail
        refine (PteC.pget_calls 0 _ ⟨by omega, by omega⟩).mono ?_
        rintro e w4 ⟨rfl, b4⟩
        obtain ⟨c4, _⟩ := bcell b4
        have hw4 := b4.size
        rw [HZ.out]
        go_wp2_with fail
        obtain ⟨Wx, hWx⟩ : ∃ Wx : World, w4.alloc (Obj.cells #[.bool false, .bool false, .bool false, .bool false, .bool false, .bool false, .bool false, .bool false, .int .u64 0, .int .u64 0, .int .u64 0] 24) = Wx := ⟨_, rfl⟩
        have d0 : ∀ i, Wx.cell? ⟨W.heap.size, i, none⟩ = (W.alloc (Obj.cells #[.bool false, .bool false, .bool true, .bool u] 28)).cell? ⟨W.heap.size, i, none⟩ := fun i => by
          rw [← hWx, ((Below.refl w4.heap.size w4).alloc (Nat.le_refl _) _).cell (p := ⟨W.heap.size, i, none⟩) (by show W.heap.size < w4.heap.size; omega), c4 _ _ (by omega), c3 _ _ (by simp; omega), ((Below.refl w2.heap.size w2).alloc (Nat.le_refl _) _).cell (p := ⟨W.heap.size, i, none⟩) (by show W.heap.size < w2.heap.size; omega), c2 _ _ hw1, c1 _ _ hlt, hcell]
        have d1 : ∀ i, Wx.cell? ⟨w2.heap.size, i, none⟩ = (w2.alloc (Obj.cells #[.bool true, .bool false, .bool false, .bool true, .bool u, .bool gl, .bool false, .bool false, .int .u64 0, .int .u64 p, .int .u64 0] 24)).cell? ⟨w2.heap.size, i, none⟩ := fun i => by
          rw [← hWx, ((Below.refl w4.heap.size w4).alloc (Nat.le_refl _) _).cell (p := ⟨w2.heap.size, i, none⟩) (by show w2.heap.size < w4.heap.size; omega), c4 _ _ (by omega), c3 _ _ (by simp)]
        have d2 : ∀ i, Wx.cell? ⟨w4.heap.size, i, none⟩ = (w4.alloc (Obj.cells #[.bool false, .bool false, .bool false, .bool false, .bool false, .bool false, .bool false, .bool false, .int .u64 0, .int .u64 0, .int .u64 0] 24)).cell? ⟨w4.heap.size, i, none⟩ := fun i => by rw [hWx]
        have hx : w4.heap.size < Wx.heap.size := by rw [← hWx]; simp
        have hx0 : W.heap.size < Wx.heap.size := by omega
        have hx2 : w2.heap.size < Wx.heap.size := by omega
        have BX : Below W.heap.size W Wx := by rw [← hWx]; exact bel_alloc (bel_trans (bel_trans (bel_alloc (bel_trans (bel_trans HW b1) b2) _) b3) b4) _
        rw [hWx]
        replace hG0 : G Wx := hG.to BX
        clear c1 c2 c3 c4 b1 b2 b3 b4 hWx hcell
        go_wp2_with fail
        refine region_below (by kernel_rfl) (by kernel_rfl) ?_
        repeat (refine wpQuiet_step (fun K hK => ?_)
                go_simp
                first
                  | (refine hK _ ?_; clear hK K)
                  | (refine ⟨_, fun _ _ => rfl, hK _ ?_⟩; clear hK K)
                  | (apply Exists.intro
                     refine ⟨fun w' hw' => ?_, hK _ ?_⟩
                     · first
                       | (go_at_call 34; (with_reducible refine (PteC.may_calls _ _ _ _ _ _ _ _ _ _ _ _ (by first | assumption | exact ⟨by omega, by omega⟩) (by first | assumption | exact ⟨by omega, by omega⟩) (by first | assumption | exact ⟨by omega, by omega⟩)).mono ?_); rintro e w2 ⟨rfl, hb⟩; exact ⟨rfl, hw'.trans (hb.mono hw'.size)⟩)
                       | (go_at_call 36; (with_reducible refine (PteC.pget_calls _ _ (by first | assumption | exact ⟨by omega, by omega⟩)).mono ?_); rintro e w2 ⟨rfl, hb⟩; exact ⟨rfl, hw'.trans (hb.mono hw'.size)⟩)
                       | (go_at_call 39; (with_reducible refine (PteC.leaf_calls _ _ _ _ _ _ _ _ _ _ _ _).mono ?_); rintro e w2 ⟨rfl, hb⟩; exact ⟨rfl, hw'.trans (hb.mono hw'.size)⟩)
                       | (go_at_call 41; (with_reducible refine (PteC.link_calls _ _ _ _ _ _ _ _ _ _ _ _).mono ?_); rintro e w2 ⟨rfl, hb⟩; exact ⟨rfl, hw'.trans (hb.mono hw'.size)⟩)
                       | (go_at_call 43; (with_reducible refine (PteC.bad_calls _ _ _ _ _ _ _ _ _ _ _ _ _ (by first | assumption | exact ⟨by omega, by omega⟩) (by first | assumption | exact ⟨by omega, by omega⟩) (by first | assumption | exact ⟨by omega, by omega⟩) (by omega) (by omega) (hG0.below hw' (Nat.le_refl _))).mono ?_); rintro e w2 ⟨rfl, hb⟩; exact ⟨rfl, hw'.trans (hb.mono hw'.size)⟩)
                       | (go_at_call 47; (with_reducible refine (PteC.perm_calls _ _ _ _ _ _ _ _ _ _ _ _).mono ?_); rintro e w2 ⟨rfl, hb⟩; exact ⟨rfl, hw'.trans (hb.mono hw'.size)⟩)
                       | (go_at_call 37; (with_reducible refine (PteR.rget_calls _ _ (by first | assumption | exact ⟨by omega, by omega⟩)).mono ?_); rintro e w2 ⟨rfl, hb⟩; exact ⟨rfl, hw'.trans (hb.mono hw'.size)⟩)
                       | (go_at_call 35; (with_reducible refine (PteR.rmay_calls _ _ _ _ _ _ _ _ _ _ _ _ (by first | assumption | exact ⟨by omega, by omega⟩) (by first | assumption | exact ⟨by omega, by omega⟩) (by first | assumption | exact ⟨by omega, by omega⟩)).mono ?_); rintro e w2 ⟨rfl, hb⟩; exact ⟨rfl, hw'.trans (hb.mono hw'.size)⟩)
                       | (go_at_call 40; (with_reducible refine (PteR.rleaf_calls _ _ _ _ _ _ _ _ _ _ _ _).mono ?_); rintro e w2 ⟨rfl, hb⟩; exact ⟨rfl, hw'.trans (hb.mono hw'.size)⟩)
                       | (go_at_call 42; (with_reducible refine (PteR.rlink_calls _ _ _ _ _ _ _ _ _ _ _ _).mono ?_); rintro e w2 ⟨rfl, hb⟩; exact ⟨rfl, hw'.trans (hb.mono hw'.size)⟩)
                       | (go_at_call 44; (with_reducible refine (PteR.rbad_calls _ _ _ _ _ _ _ _ _ _ _ _ _ (by first | assumption | exact ⟨by omega, by omega⟩) (by first | assumption | exact ⟨by omega, by omega⟩) (by first | assumption | exact ⟨by omega, by omega⟩) (by omega) (by omega)).mono ?_); rintro e w2 ⟨rfl, hb⟩; exact ⟨rfl, hw'.trans (hb.mono hw'.size)⟩)
                       | (go_at_call 46; (with_reducible refine (PteR.rmake_calls _ _ _ _ _ _ _).mono ?_); rintro e w2 ⟨rfl, hb⟩; exact ⟨rfl, hw'.trans (hb.mono hw'.size)⟩)
                       | (go_at_call 48; (with_reducible refine (PteR.rperm_calls _ _ _ _ _ _ _ _ _ _ _ _).mono ?_); rintro e w2 ⟨rfl, hb⟩; exact ⟨rfl, hw'.trans (hb.mono hw'.size)⟩)
                       | (go_at_call 45; (with_reducible refine (PteC.make_calls _ _ _ _ _ _ _).mono ?_); rintro e w2 ⟨rfl, hb⟩; exact ⟨rfl, hw'.trans (hb.mono hw'.size)⟩)
                       | (obtain ⟨hcc, _⟩ := bcell hw'; go_simp; done)
                       | (obtain ⟨hcc, _⟩ := bcell hw'; go_simp; rfl)
                     clear hK K))
        refine wpQuiet_nil ?_
        intro w9 b9
        go_wp2
        go_ret
        exact ⟨rfl, bel_trans BX b9⟩
      · go_enter Tryd.func12, Tryd.ntmps12
        go_wp2_with fail
        rw [HW0.out]
        refine (awake_calls W0 hG0).mono ?_
        rintro e w1 ⟨rfl, b1⟩
        obtain ⟨c1, _⟩ := bcell b1
        go_wp2
        go_ret
        exact ⟨rfl, bel_trans HW b1⟩
  · obtain ⟨hm, hl, hb⟩ := made_facts true w x u gl p l hp hpl rfl
    have e1 : PteC.putE ⟨true, true, w, x, u, gl, false, false, 0, p, 0⟩ = word ⟨true, true, w, x, u, gl, false, false, 0, p, 0⟩ := by unfold PteC.putE; rw [hm]; rfl
    have e2 : PteC.putErr ⟨true, true, w, x, u, gl, false, false, 0, p, 0⟩ = 0 := by unfold PteC.putErr; rw [hm]; rfl
    have hwU : U (word ⟨true, true, w, x, u, gl, false, false, 0, p, 0⟩) := word_bd _ ⟨u0, up, u0⟩ hm
    have hback : pteOf (word ⟨true, true, w, x, u, gl, false, false, 0, p, 0⟩) = ⟨true, true, w, x, u, gl, false, false, 0, p, 0⟩ := pteOf_word _ ⟨u0, up, u0⟩ hm
    have F6 : eqPte ⟨(pteOf (word ⟨true, true, w, x, u, gl, false, false, 0, p, 0⟩)).v, (pteOf (word ⟨true, true, w, x, u, gl, false, false, 0, p, 0⟩)).r, (pteOf (word ⟨true, true, w, x, u, gl, false, false, 0, p, 0⟩)).w, (pteOf (word ⟨true, true, w, x, u, gl, false, false, 0, p, 0⟩)).x, (pteOf (word ⟨true, true, w, x, u, gl, false, false, 0, p, 0⟩)).u, (pteOf (word ⟨true, true, w, x, u, gl, false, false, 0, p, 0⟩)).g, (pteOf (word ⟨true, true, w, x, u, gl, false, false, 0, p, 0⟩)).a, (pteOf (word ⟨true, true, w, x, u, gl, false, false, 0, p, 0⟩)).d, (pteOf (word ⟨true, true, w, x, u, gl, false, false, 0, p, 0⟩)).rsw, (pteOf (word ⟨true, true, w, x, u, gl, false, false, 0, p, 0⟩)).ppn, (pteOf (word ⟨true, true, w, x, u, gl, false, false, 0, p, 0⟩)).high⟩ ⟨true, true, w, x, u, gl, false, false, 0, p, 0⟩ = true := by show eqPte (pteOf (word ⟨true, true, w, x, u, gl, false, false, 0, p, 0⟩)) _ = true; rw [hback]; exact eqPte_self _
    have HF := Lib.hid hback; clear hback
    obtain ⟨z1, z2, z3, z4⟩ := zero_facts l
    have HZ := Lib.hid z4; clear z4
    clear hm
    go_enter Tryd.func12, Tryd.ntmps12
    go_wp2_with fail
    rw [HW0.out]
    refine (awake_calls W0 hG0).mono ?_
    rintro e w1 ⟨rfl, b1⟩
    obtain ⟨c1, _⟩ := bcell b1
    go_wp2_with fail
    rw [HP.out, El.out]
    refine (PteC.make_calls _ _ _ _ _ _ _).mono ?_
    rintro e w2 ⟨rfl, b2⟩
    obtain ⟨c2, _⟩ := bcell b2
    have hw2 : W.heap.size < w2.heap.size := Nat.lt_of_lt_of_le hlt (Nat.le_trans b1.size b2.size)
    have hw1 : W.heap.size < w1.heap.size := Nat.lt_of_lt_of_le hlt b1.size
    go_wp2_with fail
    refine (PteC.put_calls _ _ _ _ _ _ _ _ _ _ _ _ ⟨by omega, by omega⟩ ⟨by omega, by omega⟩ ⟨by omega, by omega⟩).mono ?_
    rintro e w3 ⟨rfl, b3⟩
    obtain ⟨c3, _⟩ := bcell b3
    rw [e1, e2]
    have hw3 : w2.heap.size + 1 ≤ w3.heap.size := by have := b3.size; simpa using this
    go_wp2_with fail
    refine (PteC.pget_calls 0 _ ⟨by omega, by omega⟩).mono ?_
    rintro e w4 ⟨rfl, b4⟩
    obtain ⟨c4, _⟩ := bcell b4
    have hw4 := b4.size
    rw [HZ.out]
    go_wp2_with fail
    obtain ⟨Wx, hWx⟩ : ∃ Wx : World, w4.alloc (Obj.cells #[.bool false, .bool false, .bool false, .bool false, .bool false, .bool false, .bool false, .bool false, .int .u64 0, .int .u64 0, .int .u64 0] 24) = Wx := ⟨_, rfl⟩
    have d0 : ∀ i, Wx.cell? ⟨W.heap.size, i, none⟩ = (W.alloc (Obj.cells #[.bool true, .bool w, .bool x, .bool u] 28)).cell? ⟨W.heap.size, i, none⟩ := fun i => by
      rw [← hWx, ((Below.refl w4.heap.size w4).alloc (Nat.le_refl _) _).cell (p := ⟨W.heap.size, i, none⟩) (by show W.heap.size < w4.heap.size; omega), c4 _ _ (by omega), c3 _ _ (by simp; omega), ((Below.refl w2.heap.size w2).alloc (Nat.le_refl _) _).cell (p := ⟨W.heap.size, i, none⟩) (by show W.heap.size < w2.heap.size; omega), c2 _ _ hw1, c1 _ _ hlt, hcell]
    have d1 : ∀ i, Wx.cell? ⟨w2.heap.size, i, none⟩ = (w2.alloc (Obj.cells #[.bool true, .bool true, .bool w, .bool x, .bool u, .bool gl, .bool false, .bool false, .int .u64 0, .int .u64 p, .int .u64 0] 24)).cell? ⟨w2.heap.size, i, none⟩ := fun i => by
      rw [← hWx, ((Below.refl w4.heap.size w4).alloc (Nat.le_refl _) _).cell (p := ⟨w2.heap.size, i, none⟩) (by show w2.heap.size < w4.heap.size; omega), c4 _ _ (by omega), c3 _ _ (by simp)]
    have d2 : ∀ i, Wx.cell? ⟨w4.heap.size, i, none⟩ = (w4.alloc (Obj.cells #[.bool false, .bool false, .bool false, .bool false, .bool false, .bool false, .bool false, .bool false, .int .u64 0, .int .u64 0, .int .u64 0] 24)).cell? ⟨w4.heap.size, i, none⟩ := fun i => by rw [hWx]
    have hx : w4.heap.size < Wx.heap.size := by rw [← hWx]; simp
    have hx0 : W.heap.size < Wx.heap.size := by omega
    have hx2 : w2.heap.size < Wx.heap.size := by omega
    have BX : Below W.heap.size W Wx := by rw [← hWx]; exact bel_alloc (bel_trans (bel_trans (bel_alloc (bel_trans (bel_trans HW b1) b2) _) b3) b4) _
    rw [hWx]
    replace hG0 : G Wx := hG.to BX
    clear c1 c2 c3 c4 b1 b2 b3 b4 hWx hcell
    go_wp2_with fail
    refine region_below (by kernel_rfl) (by kernel_rfl) ?_
    repeat (refine wpQuiet_step (fun K hK => ?_)
            go_simp
            first
              | (refine hK _ ?_; clear hK K)
              | (refine ⟨_, fun _ _ => rfl, hK _ ?_⟩; clear hK K)
              | (apply Exists.intro
                 refine ⟨fun w' hw' => ?_, hK _ ?_⟩
                 · first
                   | (go_at_call 34; (with_reducible refine (PteC.may_calls _ _ _ _ _ _ _ _ _ _ _ _ (by first | assumption | exact ⟨by omega, by omega⟩) (by first | assumption | exact ⟨by omega, by omega⟩) (by first | assumption | exact ⟨by omega, by omega⟩)).mono ?_); rintro e w2 ⟨rfl, hb⟩; exact ⟨rfl, hw'.trans (hb.mono hw'.size)⟩)
                   | (go_at_call 36; (with_reducible refine (PteC.pget_calls _ _ (by first | assumption | exact ⟨by omega, by omega⟩)).mono ?_); rintro e w2 ⟨rfl, hb⟩; exact ⟨rfl, hw'.trans (hb.mono hw'.size)⟩)
                   | (go_at_call 39; (with_reducible refine (PteC.leaf_calls _ _ _ _ _ _ _ _ _ _ _ _).mono ?_); rintro e w2 ⟨rfl, hb⟩; exact ⟨rfl, hw'.trans (hb.mono hw'.size)⟩)
                   | (go_at_call 41; (with_reducible refine (PteC.link_calls _ _ _ _ _ _ _ _ _ _ _ _).mono ?_); rintro e w2 ⟨rfl, hb⟩; exact ⟨rfl, hw'.trans (hb.mono hw'.size)⟩)
                   | (go_at_call 43; (with_reducible refine (PteC.bad_calls _ _ _ _ _ _ _ _ _ _ _ _ _ (by first | assumption | exact ⟨by omega, by omega⟩) (by first | assumption | exact ⟨by omega, by omega⟩) (by first | assumption | exact ⟨by omega, by omega⟩) (by omega) (by omega) (hG0.below hw' (Nat.le_refl _))).mono ?_); rintro e w2 ⟨rfl, hb⟩; exact ⟨rfl, hw'.trans (hb.mono hw'.size)⟩)
                   | (go_at_call 47; (with_reducible refine (PteC.perm_calls _ _ _ _ _ _ _ _ _ _ _ _).mono ?_); rintro e w2 ⟨rfl, hb⟩; exact ⟨rfl, hw'.trans (hb.mono hw'.size)⟩)
                   | (go_at_call 37; (with_reducible refine (PteR.rget_calls _ _ (by first | assumption | exact ⟨by omega, by omega⟩)).mono ?_); rintro e w2 ⟨rfl, hb⟩; exact ⟨rfl, hw'.trans (hb.mono hw'.size)⟩)
                   | (go_at_call 35; (with_reducible refine (PteR.rmay_calls _ _ _ _ _ _ _ _ _ _ _ _ (by first | assumption | exact ⟨by omega, by omega⟩) (by first | assumption | exact ⟨by omega, by omega⟩) (by first | assumption | exact ⟨by omega, by omega⟩)).mono ?_); rintro e w2 ⟨rfl, hb⟩; exact ⟨rfl, hw'.trans (hb.mono hw'.size)⟩)
                   | (go_at_call 40; (with_reducible refine (PteR.rleaf_calls _ _ _ _ _ _ _ _ _ _ _ _).mono ?_); rintro e w2 ⟨rfl, hb⟩; exact ⟨rfl, hw'.trans (hb.mono hw'.size)⟩)
                   | (go_at_call 42; (with_reducible refine (PteR.rlink_calls _ _ _ _ _ _ _ _ _ _ _ _).mono ?_); rintro e w2 ⟨rfl, hb⟩; exact ⟨rfl, hw'.trans (hb.mono hw'.size)⟩)
                   | (go_at_call 44; (with_reducible refine (PteR.rbad_calls _ _ _ _ _ _ _ _ _ _ _ _ _ (by first | assumption | exact ⟨by omega, by omega⟩) (by first | assumption | exact ⟨by omega, by omega⟩) (by first | assumption | exact ⟨by omega, by omega⟩) (by omega) (by omega)).mono ?_); rintro e w2 ⟨rfl, hb⟩; exact ⟨rfl, hw'.trans (hb.mono hw'.size)⟩)
                   | (go_at_call 46; (with_reducible refine (PteR.rmake_calls _ _ _ _ _ _ _).mono ?_); rintro e w2 ⟨rfl, hb⟩; exact ⟨rfl, hw'.trans (hb.mono hw'.size)⟩)
                   | (go_at_call 48; (with_reducible refine (PteR.rperm_calls _ _ _ _ _ _ _ _ _ _ _ _).mono ?_); rintro e w2 ⟨rfl, hb⟩; exact ⟨rfl, hw'.trans (hb.mono hw'.size)⟩)
                   | (go_at_call 45; (with_reducible refine (PteC.make_calls _ _ _ _ _ _ _).mono ?_); rintro e w2 ⟨rfl, hb⟩; exact ⟨rfl, hw'.trans (hb.mono hw'.size)⟩)
                   | (obtain ⟨hcc, _⟩ := bcell hw'; go_simp; done)
                   | (obtain ⟨hcc, _⟩ := bcell hw'; go_simp; rfl)
                 clear hK K))
    refine wpQuiet_nil ?_
    intro w9 b9
    go_wp2
    go_ret
    exact ⟨rfl, bel_trans BX b9⟩
end Go.Proofs.YtjgnckhbafgalaaDoor.PteW
