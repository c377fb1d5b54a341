/- The walk of the law PteOne. -/
import Derived.Test.YtjgnckhbafgalaaDoorPteW
import Derived.Test.YtjgnckhbafgalaaDoorEntryW
import Derived.Test.YtjgnckhbafgalaaDoorRegR2
namespace Go.Proofs.YtjgnckhbafgalaaDoor.PteOne
open Go.RowKit Go.Proofs.YtjgnckhbafgalaaDoor.Bv Go.Proofs.YtjgnckhbafgalaaDoor.VaSpec Go.Proofs.YtjgnckhbafgalaaDoor.Base Go.Proofs.YtjgnckhbafgalaaDoor.BitsC Go.Proofs.YtjgnckhbafgalaaDoor.VaC Go.Proofs.YtjgnckhbafgalaaDoor.PteSpec Go.Proofs.YtjgnckhbafgalaaDoor.EntrySpec Go.Proofs.YtjgnckhbafgalaaDoor.EqS Go.Proofs.YtjgnckhbafgalaaDoor.QTail
set_option linter.unusedVariables false
set_option linter.unusedSimpArgs false
attribute [local go_sem high] eq_perm eq_pte eq_ent
open Go.Proofs.YtjgnckhbafgalaaDoor.EntryC (name_world)
open Go.Proofs.YtjgnckhbafgalaaDoor.EntryW (name_calls)
attribute [local go_sem] eqPerm_self eqPte_self eqEnt_self
theorem one_less (p : Pte) (l : Int) (h1 : l = 1 ∨ l = 2) (hp : 0 ≤ p.ppn) (hb : badP p l = false) (hc : badP p (l - 1) = true) : linkP p = true ∧ l = 1 := by
  unfold badP at hb hc
  cases hk : linkP p
  · exfalso
    rw [hk] at hb hc
    split at hb
    · cases hb
    · rw [if_neg (by assumption)] at hc
      simp only [Bool.false_eq_true, if_false] at hb hc
      rcases h1 with rfl | rfl
      · rw [show sz 1 / 4096 = 512 from rfl] at hb
        rw [show sz (1 - 1) / 4096 = 1 from rfl] at hc
        simp at hb hc
      · rw [show sz 2 / 4096 = 262144 from rfl] at hb
        rw [show sz (2 - 1) / 4096 = 512 from rfl] at hc
        simp at hb hc; omega
  · rw [hk] at hb hc
    refine ⟨rfl, ?_⟩
    split at hb
    · cases hb
    · rw [if_neg (by assumption)] at hc
      simp only [if_true] at hb hc
      rcases h1 with rfl | rfl
      · rfl
      · simp at hb hc
        obtain ⟨⟨q1, q2⟩, q3⟩ := hb
        rw [q1, q2, q3] at hc; simp at hc
theorem one_cases (v r w x u g a d : Bool) (rsw ppn high : Int) : (leafP ⟨v, r, w, x, u, g, a, d, rsw, ppn, high⟩ = true ∧ linkP ⟨v, r, w, x, u, g, a, d, rsw, ppn, high⟩ = false ∧ v = true) ∨ (leafP ⟨v, r, w, x, u, g, a, d, rsw, ppn, high⟩ = false ∧ linkP ⟨v, r, w, x, u, g, a, d, rsw, ppn, high⟩ = true ∧ v = true) ∨ (leafP ⟨v, r, w, x, u, g, a, d, rsw, ppn, high⟩ = false ∧ linkP ⟨v, r, w, x, u, g, a, d, rsw, ppn, high⟩ = false ∧ v = false) := by
  cases v <;> cases r <;> cases x <;> simp [leafP, linkP]
theorem one_same (v r w x u g a d : Bool) (rsw ppn high : Int) (g2 a2 d2 : Bool) (rsw2 l : Int) (h : leafP ⟨v, r, w, x, u, g, a, d, rsw, ppn, high⟩ = true) :
    badP ⟨v, r, w, x, u, g, a, d, rsw, ppn, high⟩ l = badP ⟨v, r, w, x, u, g2, a2, d2, rsw2, ppn, high⟩ l := by
  revert h; cases v <;> cases r <;> cases x <;> simp [leafP, badP, linkP]
/-- the cells of the first entry -/
def S1 (W : World) (v r w x u g a d : Bool) (rsw ppn high : Int) (wx w' : World) : Prop := Below wx.heap.size wx w' ∧ W.heap.size < w'.heap.size ∧ w'.cell? ⟨W.heap.size, 0, none⟩ = some (.bool v) ∧ w'.cell? ⟨W.heap.size, 1, none⟩ = some (.bool r) ∧ w'.cell? ⟨W.heap.size, 2, none⟩ = some (.bool w) ∧ w'.cell? ⟨W.heap.size, 3, none⟩ = some (.bool x) ∧ w'.cell? ⟨W.heap.size, 4, none⟩ = some (.bool u) ∧ w'.cell? ⟨W.heap.size, 5, none⟩ = some (.bool g) ∧ w'.cell? ⟨W.heap.size, 6, none⟩ = some (.bool a) ∧ w'.cell? ⟨W.heap.size, 7, none⟩ = some (.bool d) ∧ w'.cell? ⟨W.heap.size, 8, none⟩ = some (.int .u64 rsw) ∧ w'.cell? ⟨W.heap.size, 9, none⟩ = some (.int .u64 ppn) ∧ w'.cell? ⟨W.heap.size, 10, none⟩ = some (.int .u64 high)
theorem S1.to {W : World} {v r w x u g a d : Bool} {rsw ppn high : Int} {wx w1 w2 : World} (h : S1 W v r w x u g a d rsw ppn high wx w1) (b : Below w1.heap.size w1 w2) : S1 W v r w x u g a d rsw ppn high wx w2 := by
  obtain ⟨hb, hl, p0, p1, p2, p3, p4, p5, p6, p7, p8, p9, p10⟩ := h
  obtain ⟨c, _⟩ := bcell b
  refine ⟨bel_trans hb b, Nat.lt_of_lt_of_le hl b.size, ?_, ?_, ?_, ?_, ?_, ?_, ?_, ?_, ?_, ?_, ?_⟩ <;> (rw [c _ _ hl]; assumption)
theorem S1.le {W : World} {v r w x u g a d : Bool} {rsw ppn high : Int} {wx w1 : World} (h : S1 W v r w x u g a d rsw ppn high wx w1) : wx.heap.size ≤ w1.heap.size := h.1.size
theorem S1.ne {W : World} {v r w x u g a d : Bool} {rsw ppn high : Int} {wx w1 : World} (h : S1 W v r w x u g a d rsw ppn high wx w1) : w1.heap.size ≠ W.heap.size := by have := h.2.1; omega
theorem S1.set2 {W : World} {v r w x u g a d : Bool} {rsw ppn high : Int} {wx w1 : World} {n i : Nat} {y : Value} (h : S1 W v r w x u g a d rsw ppn high wx w1) (h1 : wx.heap.size ≤ n) (h3 : W.heap.size < wx.heap.size) : S1 W v r w x u g a d rsw ppn high wx (w1.setCell ⟨n, i, none⟩ y) := by
  have h2 : n ≠ W.heap.size := by omega
  obtain ⟨hb, hl, p0, p1, p2, p3, p4, p5, p6, p7, p8, p9, p10⟩ := h
  refine ⟨hb.setCell h1 _, by simpa using hl, ?_, ?_, ?_, ?_, ?_, ?_, ?_, ?_, ?_, ?_, ?_⟩ <;> (rw [World.cell?_setCell_other _ _ _ _ (fun e => h2 (congrArg Addr.block e))]; assumption)
theorem S1.set {W : World} {v r w x u g a d : Bool} {rsw ppn high : Int} {wx w1 : World} {n i : Nat} {y : Value} (h : S1 W v r w x u g a d rsw ppn high wx w1) (h1 : wx.heap.size ≤ n) (h2 : n ≠ W.heap.size) : S1 W v r w x u g a d rsw ppn high wx (w1.setCell ⟨n, i, none⟩ y) := by
  obtain ⟨hb, hl, p0, p1, p2, p3, p4, p5, p6, p7, p8, p9, p10⟩ := h
  refine ⟨hb.setCell h1 _, by simpa using hl, ?_, ?_, ?_, ?_, ?_, ?_, ?_, ?_, ?_, ?_, ?_⟩ <;> (rw [World.cell?_setCell_other _ _ _ _ (fun e => h2 (congrArg Addr.block e))]; assumption)
set_option maxHeartbeats 16000000 in
set_option maxRecDepth 100000 in
theorem one_walk (v r w x u g a d : Bool) (rsw ppn high : Int) (v2 r2 wq2 x2 u2 g2 a2 d2 : Bool) (rsw2 ppn2 high2 : Int) (W : World) (h1 : U rsw) (h2 : U ppn) (h3 : U high) (k1 : U rsw2) (hG : G W) :
    Calls Tryd.prog 11 #[.agg #[.bool v, .bool r, .bool w, .bool x, .bool u, .bool g, .bool a, .bool d, .int .u64 rsw, .int .u64 ppn, .int .u64 high], .agg #[.bool v2, .bool r2, .bool wq2, .bool x2, .bool u2, .bool g2, .bool a2, .bool d2, .int .u64 rsw2, .int .u64 ppn2, .int .u64 high2]] W fun e w' => e = .returned (.bool true) ∧ Below W.heap.size W w' := by
  go_enter Tryd.func11, Tryd.ntmps11
  go_wp2_with fail
  refine name_calls (F := fun w1 => w1.cell? ⟨W.heap.size, 0, none⟩ = some (.bool v) ∧ w1.cell? ⟨W.heap.size, 1, none⟩ = some (.bool r) ∧ w1.cell? ⟨W.heap.size, 2, none⟩ = some (.bool w) ∧ w1.cell? ⟨W.heap.size, 3, none⟩ = some (.bool x) ∧ w1.cell? ⟨W.heap.size, 4, none⟩ = some (.bool u) ∧ w1.cell? ⟨W.heap.size, 5, none⟩ = some (.bool g) ∧ w1.cell? ⟨W.heap.size, 6, none⟩ = some (.bool a) ∧ w1.cell? ⟨W.heap.size, 7, none⟩ = some (.bool d) ∧ w1.cell? ⟨W.heap.size, 8, none⟩ = some (.int .u64 rsw) ∧ w1.cell? ⟨W.heap.size, 9, none⟩ = some (.int .u64 ppn) ∧ w1.cell? ⟨W.heap.size, 10, none⟩ = some (.int .u64 high) ∧ w1.cell? ⟨W.heap.size + 1, 0, none⟩ = some (.bool v2) ∧ w1.cell? ⟨W.heap.size + 1, 1, none⟩ = some (.bool r2) ∧ w1.cell? ⟨W.heap.size + 1, 2, none⟩ = some (.bool wq2) ∧ w1.cell? ⟨W.heap.size + 1, 3, none⟩ = some (.bool x2) ∧ w1.cell? ⟨W.heap.size + 1, 4, none⟩ = some (.bool u2) ∧ w1.cell? ⟨W.heap.size + 1, 5, none⟩ = some (.bool g2) ∧ w1.cell? ⟨W.heap.size + 1, 6, none⟩ = some (.bool a2) ∧ w1.cell? ⟨W.heap.size + 1, 7, none⟩ = some (.bool d2) ∧ w1.cell? ⟨W.heap.size + 1, 8, none⟩ = some (.int .u64 rsw2) ∧ w1.cell? ⟨W.heap.size + 1, 9, none⟩ = some (.int .u64 ppn2) ∧ w1.cell? ⟨W.heap.size + 1, 10, none⟩ = some (.int .u64 high2) ∧ W.heap.size < w1.heap.size ∧ W.heap.size + 1 < w1.heap.size ∧ Below W.heap.size W w1) (by
    refine ⟨?_, ?_, ?_, ?_, ?_, ?_, ?_, ?_, ?_, ?_, ?_, ?_, ?_, ?_, ?_, ?_, ?_, ?_, ?_, ?_, ?_, ?_, ?_, ?_, ?_⟩
    all_goals first | (simp; done) | (simp; omega) | (intro i; simp; done) | exact (by repeat (first | (with_reducible exact Below.refl _ _) | (with_reducible apply bel_drewN) | (with_reducible apply bel_alloc) | (with_reducible apply bel_trans; rotate_left; with_reducible assumption) | (with_reducible refine bel_setCell _ _ _ (by first | omega | (simp; done) | (simp; omega) | (simp at *; omega)) ?_)))) ?_
  rintro Wx ⟨f0, p1, p2, p3, p4, p5, p6, p7, p8, p9, p10, q0, q1, q2, q3, q4, q5, q6, q7, q8, q9, q10, hz0, hz1, BX⟩
  have hG1 : G Wx := hG.to BX
  refine (PteW.awake_calls Wx hG1).mono ?_
  rintro e w1 ⟨rfl, B1⟩
  obtain ⟨c1, _⟩ := bcell B1
  go_wp2_with fail
  have hG0 : G w1 := hG1.to B1
  have hsame := fun l => Lib.hid (one_same v r w x u g a d rsw ppn high g2 a2 d2 rsw2 l)
  have HL := fun l q => Lib.hid (one_less ⟨v, r, w, x, u, g, a, d, rsw, ppn, high⟩ l q h2.1)
  have y0 : W.heap.size < w1.heap.size := Nat.lt_of_lt_of_le hz0 B1.size
  rcases one_cases v r w x u g a d rsw ppn high with ⟨hl, hk, rfl⟩ | ⟨hl, hk, rfl⟩ | ⟨hl, hk, rfl⟩
  · refine region_below (by kernel_rfl) (by kernel_rfl) ?_
    repeat (with_reducible refine wpQuiet_step (fun K hK => ?_)
            go_simp
            first
              | (refine hK _ ?_; clear hK K)
              | (refine ⟨_, fun _ _ => rfl, hK _ ?_⟩; clear hK K)
              | (apply Exists.intro
                 refine ⟨fun w' hw' => ?_, hK _ ?_⟩
                 · first
                   | (go_at_call 34; (with_reducible refine (PteC.may_calls _ _ _ _ _ _ _ _ _ _ _ _ (by first | assumption | exact ⟨by omega, by omega⟩) (by first | assumption | exact ⟨by omega, by omega⟩) (by first | assumption | exact ⟨by omega, by omega⟩)).mono ?_); rintro e w2 ⟨rfl, hb⟩; exact ⟨rfl, hw'.trans (hb.mono hw'.size)⟩)
                   | (go_at_call 36; (with_reducible refine (PteC.pget_calls _ _ (by first | assumption | exact ⟨by omega, by omega⟩)).mono ?_); rintro e w2 ⟨rfl, hb⟩; exact ⟨rfl, hw'.trans (hb.mono hw'.size)⟩)
                   | (go_at_call 39; (with_reducible refine (PteC.leaf_calls _ _ _ _ _ _ _ _ _ _ _ _).mono ?_); rintro e w2 ⟨rfl, hb⟩; exact ⟨rfl, hw'.trans (hb.mono hw'.size)⟩)
                   | (go_at_call 41; (with_reducible refine (PteC.link_calls _ _ _ _ _ _ _ _ _ _ _ _).mono ?_); rintro e w2 ⟨rfl, hb⟩; exact ⟨rfl, hw'.trans (hb.mono hw'.size)⟩)
                   | (go_at_call 43; (with_reducible refine (PteC.bad_calls _ _ _ _ _ _ _ _ _ _ _ _ _ (by first | assumption | exact ⟨by omega, by omega⟩) (by first | assumption | exact ⟨by omega, by omega⟩) (by first | assumption | exact ⟨by omega, by omega⟩) (by omega) (by omega) (hG0.below hw' (Nat.le_refl _))).mono ?_); rintro e w2 ⟨rfl, hb⟩; exact ⟨rfl, hw'.trans (hb.mono hw'.size)⟩)
                   | (go_at_call 47; (with_reducible refine (PteC.perm_calls _ _ _ _ _ _ _ _ _ _ _ _).mono ?_); rintro e w2 ⟨rfl, hb⟩; exact ⟨rfl, hw'.trans (hb.mono hw'.size)⟩)
                   | (go_at_call 37; (with_reducible refine (PteR.rget_calls _ _ (by first | assumption | exact ⟨by omega, by omega⟩)).mono ?_); rintro e w2 ⟨rfl, hb⟩; exact ⟨rfl, hw'.trans (hb.mono hw'.size)⟩)
                   | (go_at_call 35; (with_reducible refine (PteR.rmay_calls _ _ _ _ _ _ _ _ _ _ _ _ (by first | assumption | exact ⟨by omega, by omega⟩) (by first | assumption | exact ⟨by omega, by omega⟩) (by first | assumption | exact ⟨by omega, by omega⟩)).mono ?_); rintro e w2 ⟨rfl, hb⟩; exact ⟨rfl, hw'.trans (hb.mono hw'.size)⟩)
                   | (go_at_call 40; (with_reducible refine (PteR.rleaf_calls _ _ _ _ _ _ _ _ _ _ _ _).mono ?_); rintro e w2 ⟨rfl, hb⟩; exact ⟨rfl, hw'.trans (hb.mono hw'.size)⟩)
                   | (go_at_call 42; (with_reducible refine (PteR.rlink_calls _ _ _ _ _ _ _ _ _ _ _ _).mono ?_); rintro e w2 ⟨rfl, hb⟩; exact ⟨rfl, hw'.trans (hb.mono hw'.size)⟩)
                   | (go_at_call 44; (with_reducible refine (PteR.rbad_calls _ _ _ _ _ _ _ _ _ _ _ _ _ (by first | assumption | exact ⟨by omega, by omega⟩) (by first | assumption | exact ⟨by omega, by omega⟩) (by first | assumption | exact ⟨by omega, by omega⟩) (by omega) (by omega)).mono ?_); rintro e w2 ⟨rfl, hb⟩; exact ⟨rfl, hw'.trans (hb.mono hw'.size)⟩)
                   | (go_at_call 46; (with_reducible refine (PteR.rmake_calls _ _ _ _ _ _ _).mono ?_); rintro e w2 ⟨rfl, hb⟩; exact ⟨rfl, hw'.trans (hb.mono hw'.size)⟩)
                   | (go_at_call 48; (with_reducible refine (PteR.rperm_calls _ _ _ _ _ _ _ _ _ _ _ _).mono ?_); rintro e w2 ⟨rfl, hb⟩; exact ⟨rfl, hw'.trans (hb.mono hw'.size)⟩)
                   | (go_at_call 45; (with_reducible refine (PteC.make_calls _ _ _ _ _ _ _).mono ?_); rintro e w2 ⟨rfl, hb⟩; exact ⟨rfl, hw'.trans (hb.mono hw'.size)⟩)
                   | (obtain ⟨hcc, _⟩ := bcell hw'; go_simp; done)
                   | (obtain ⟨hcc, _⟩ := bcell hw'; go_simp; rfl)
                 clear hK K))
    refine wpQuiet_nil ?_
    intro wa ba
    have BA := bel_trans B1 ba
    clear c1 B1 ba hG0 y0
    obtain ⟨ca, _⟩ := bcell BA
    go_wp2_with fail
    go_loopw [5] (fun i wr => ∃ k : Nat, 1 ≤ k ∧ k ≤ 3 ∧ i = .int .i64 k ∧ Below Wx.heap.size Wx wr) (fun i _ => 3 - (intOf i).toNat)
    case atStart => exact ⟨1, by omega, by omega, rfl, BA⟩
    case round =>
      obtain ⟨k, hk1, hk3, rfl, BR⟩ := hrel
      clear ca BA
      obtain ⟨cr, _⟩ := bcell BR
      have y0 : W.heap.size < wr.heap.size := Nat.lt_of_lt_of_le hz0 BR.size
      have y1 : W.heap.size + 1 < wr.heap.size := Nat.lt_of_lt_of_le hz1 BR.size
      have hGr : G wr := hG1.to BR
      by_cases hlt3 : k < 3
      · cases hb : badP ⟨true, r, w, x, u, g, a, d, rsw, ppn, high⟩ k
        all_goals cases hc : badP ⟨true, r, w, x, u, g, a, d, rsw, ppn, high⟩ ((k : Int) - 1)
        all_goals first
          | (exfalso; have q := ((HL k (by omega)).out hb hc).1; rw [hk] at q; exact absurd q (by decide))
          | ((try (have q2 := ((HL k (by omega)).out hb hc).2; have q3 : ((k : Int) == 1) = true := by simpa using q2))
             go_wp2_with (first
               | (go_at_call 43; (with_reducible refine (PteC.bad_calls _ _ _ _ _ _ _ _ _ _ _ _ _ h1 h2 h3 (by omega) (by omega) (by first | assumption | exact hGr.to (by repeat (first | (with_reducible exact Below.refl _ _) | (with_reducible apply bel_drewN) | (with_reducible apply bel_alloc) | (with_reducible apply bel_trans; rotate_left; with_reducible assumption) | (with_reducible refine bel_setCell _ _ _ (by first | omega | (simp; done) | (simp; omega) | (simp at *; omega)) ?_))))).mono ?_); rintro e wn ⟨rfl, hbn⟩; obtain ⟨hcn, hfn⟩ := bcell hbn; have hyn : W.heap.size < wn.heap.size := (by have q := hbn.size; (try simp at q); omega))
               | (go_at_call 41; (with_reducible refine (PteC.link_calls _ _ _ _ _ _ _ _ _ _ _ _).mono ?_); rintro e wn ⟨rfl, hbn⟩)
               | fail)
             all_goals first
               | exact ⟨⟨k + 1, by omega, by omega, by go_num, (by repeat (first | (with_reducible exact Below.refl _ _) | (with_reducible apply bel_drewN) | (with_reducible apply bel_alloc) | (with_reducible apply bel_trans; rotate_left; with_reducible assumption) | (with_reducible refine bel_setCell _ _ _ (by first | omega | (simp; done) | (simp; omega) | (simp at *; omega)) ?_)))⟩, by first | (simp [intOf]; done) | (simp [intOf]; omega)⟩
               | exact ⟨⟨2, by omega, by omega, rfl, (by repeat (first | (with_reducible exact Below.refl _ _) | (with_reducible apply bel_drewN) | (with_reducible apply bel_alloc) | (with_reducible apply bel_trans; rotate_left; with_reducible assumption) | (with_reducible refine bel_setCell _ _ _ (by first | omega | (simp; done) | (simp; omega) | (simp at *; omega)) ?_)))⟩, by first | (simp [intOf]; done) | (simp [intOf]; omega)⟩)
      · obtain ⟨wo, rfl⟩ : ∃ wo : World, wo = wr := ⟨_, rfl⟩
        go_wp2_with fail
        refine name_world (F := fun w1 => w1.cell? ⟨W.heap.size, 0, none⟩ = some (.bool true) ∧ w1.cell? ⟨W.heap.size, 1, none⟩ = some (.bool r) ∧ w1.cell? ⟨W.heap.size, 2, none⟩ = some (.bool w) ∧ w1.cell? ⟨W.heap.size, 3, none⟩ = some (.bool x) ∧ w1.cell? ⟨W.heap.size, 4, none⟩ = some (.bool u) ∧ w1.cell? ⟨W.heap.size, 5, none⟩ = some (.bool g) ∧ w1.cell? ⟨W.heap.size, 6, none⟩ = some (.bool a) ∧ w1.cell? ⟨W.heap.size, 7, none⟩ = some (.bool d) ∧ w1.cell? ⟨W.heap.size, 8, none⟩ = some (.int .u64 rsw) ∧ w1.cell? ⟨W.heap.size, 9, none⟩ = some (.int .u64 ppn) ∧ w1.cell? ⟨W.heap.size, 10, none⟩ = some (.int .u64 high) ∧ w1.cell? ⟨wo.heap.size, 0, none⟩ = some (.bool true) ∧ w1.cell? ⟨wo.heap.size, 1, none⟩ = some (.bool r) ∧ w1.cell? ⟨wo.heap.size, 2, none⟩ = some (.bool w) ∧ w1.cell? ⟨wo.heap.size, 3, none⟩ = some (.bool x) ∧ w1.cell? ⟨wo.heap.size, 4, none⟩ = some (.bool u) ∧ w1.cell? ⟨wo.heap.size, 5, none⟩ = some (.bool g2) ∧ w1.cell? ⟨wo.heap.size, 6, none⟩ = some (.bool a2) ∧ w1.cell? ⟨wo.heap.size, 7, none⟩ = some (.bool d2) ∧ w1.cell? ⟨wo.heap.size, 8, none⟩ = some (.int .u64 rsw2) ∧ w1.cell? ⟨wo.heap.size, 9, none⟩ = some (.int .u64 ppn) ∧ w1.cell? ⟨wo.heap.size, 10, none⟩ = some (.int .u64 high) ∧ W.heap.size < w1.heap.size ∧ wo.heap.size < w1.heap.size ∧ Below W.heap.size W w1) (by
          refine ⟨?_, ?_, ?_, ?_, ?_, ?_, ?_, ?_, ?_, ?_, ?_, ?_, ?_, ?_, ?_, ?_, ?_, ?_, ?_, ?_, ?_, ?_, ?_, ?_, ?_⟩
          all_goals first | (simp; done) | (rw [World.cell?_alloc_lt _ _ _ y0, cr _ _ hz0]; assumption) | (simp; omega) | (intro i; simp; done) | exact bel_alloc (bel_trans BX BR) _) ?_
        clear f0 p1 p2 p3 p4 p5 p6 p7 p8 p9 p10 q0 q1 q2 q3 q4 q5 q6 q7 q8 q9 q10 cr y0 y1
        rintro Wy ⟨f0, p1, p2, p3, p4, p5, p6, p7, p8, p9, p10, q0, q1, q2, q3, q4, q5, q6, q7, q8, q9, q10, hy0, hy1, BY⟩
        have hGy : G Wy := hG.to BY
        go_loopw [7] (fun i wr => ∃ j : Nat, j ≤ 3 ∧ i = .int .i64 j ∧ Below Wy.heap.size Wy wr) (fun i _ => 3 - (intOf i).toNat)
        case atStart => exact ⟨0, by omega, rfl, Below.refl _ _⟩
        case round =>
          obtain ⟨j, hj, rfl, bq⟩ := hrel
          obtain ⟨cq, _⟩ := bcell bq
          have y0 : W.heap.size < wr.heap.size := Nat.lt_of_lt_of_le hy0 bq.size
          have y1 : wo.heap.size < wr.heap.size := Nat.lt_of_lt_of_le hy1 bq.size
          have hG0 : G wr := hGy.to bq
          by_cases hj3 : j < 3
          · have hsj := (hsame j).out hl
            go_wp2_with fail
            refine region_below (by kernel_rfl) (by kernel_rfl) ?_
            repeat (with_reducible refine wpQuiet_step (fun K hK => ?_)
                    go_simp
                    first
                      | (refine hK _ ?_; clear hK K)
                      | (refine ⟨_, fun _ _ => rfl, hK _ ?_⟩; clear hK K)
                      | (apply Exists.intro
                         refine ⟨fun w' hw' => ?_, hK _ ?_⟩
                         · first
                           | (go_at_call 34; (with_reducible refine (PteC.may_calls _ _ _ _ _ _ _ _ _ _ _ _ (by first | assumption | exact ⟨by omega, by omega⟩) (by first | assumption | exact ⟨by omega, by omega⟩) (by first | assumption | exact ⟨by omega, by omega⟩)).mono ?_); rintro e w2 ⟨rfl, hb⟩; exact ⟨rfl, hw'.trans (hb.mono hw'.size)⟩)
                           | (go_at_call 36; (with_reducible refine (PteC.pget_calls _ _ (by first | assumption | exact ⟨by omega, by omega⟩)).mono ?_); rintro e w2 ⟨rfl, hb⟩; exact ⟨rfl, hw'.trans (hb.mono hw'.size)⟩)
                           | (go_at_call 39; (with_reducible refine (PteC.leaf_calls _ _ _ _ _ _ _ _ _ _ _ _).mono ?_); rintro e w2 ⟨rfl, hb⟩; exact ⟨rfl, hw'.trans (hb.mono hw'.size)⟩)
                           | (go_at_call 41; (with_reducible refine (PteC.link_calls _ _ _ _ _ _ _ _ _ _ _ _).mono ?_); rintro e w2 ⟨rfl, hb⟩; exact ⟨rfl, hw'.trans (hb.mono hw'.size)⟩)
                           | (go_at_call 43; (with_reducible refine (PteC.bad_calls _ _ _ _ _ _ _ _ _ _ _ _ _ (by first | assumption | exact ⟨by omega, by omega⟩) (by first | assumption | exact ⟨by omega, by omega⟩) (by first | assumption | exact ⟨by omega, by omega⟩) (by omega) (by omega) (hG0.below hw' (Nat.le_refl _))).mono ?_); rintro e w2 ⟨rfl, hb⟩; exact ⟨rfl, hw'.trans (hb.mono hw'.size)⟩)
                           | (go_at_call 47; (with_reducible refine (PteC.perm_calls _ _ _ _ _ _ _ _ _ _ _ _).mono ?_); rintro e w2 ⟨rfl, hb⟩; exact ⟨rfl, hw'.trans (hb.mono hw'.size)⟩)
                           | (go_at_call 37; (with_reducible refine (PteR.rget_calls _ _ (by first | assumption | exact ⟨by omega, by omega⟩)).mono ?_); rintro e w2 ⟨rfl, hb⟩; exact ⟨rfl, hw'.trans (hb.mono hw'.size)⟩)
                           | (go_at_call 35; (with_reducible refine (PteR.rmay_calls _ _ _ _ _ _ _ _ _ _ _ _ (by first | assumption | exact ⟨by omega, by omega⟩) (by first | assumption | exact ⟨by omega, by omega⟩) (by first | assumption | exact ⟨by omega, by omega⟩)).mono ?_); rintro e w2 ⟨rfl, hb⟩; exact ⟨rfl, hw'.trans (hb.mono hw'.size)⟩)
                           | (go_at_call 40; (with_reducible refine (PteR.rleaf_calls _ _ _ _ _ _ _ _ _ _ _ _).mono ?_); rintro e w2 ⟨rfl, hb⟩; exact ⟨rfl, hw'.trans (hb.mono hw'.size)⟩)
                           | (go_at_call 42; (with_reducible refine (PteR.rlink_calls _ _ _ _ _ _ _ _ _ _ _ _).mono ?_); rintro e w2 ⟨rfl, hb⟩; exact ⟨rfl, hw'.trans (hb.mono hw'.size)⟩)
                           | (go_at_call 44; (with_reducible refine (PteR.rbad_calls _ _ _ _ _ _ _ _ _ _ _ _ _ (by first | assumption | exact ⟨by omega, by omega⟩) (by first | assumption | exact ⟨by omega, by omega⟩) (by first | assumption | exact ⟨by omega, by omega⟩) (by omega) (by omega)).mono ?_); rintro e w2 ⟨rfl, hb⟩; exact ⟨rfl, hw'.trans (hb.mono hw'.size)⟩)
                           | (go_at_call 46; (with_reducible refine (PteR.rmake_calls _ _ _ _ _ _ _).mono ?_); rintro e w2 ⟨rfl, hb⟩; exact ⟨rfl, hw'.trans (hb.mono hw'.size)⟩)
                           | (go_at_call 48; (with_reducible refine (PteR.rperm_calls _ _ _ _ _ _ _ _ _ _ _ _).mono ?_); rintro e w2 ⟨rfl, hb⟩; exact ⟨rfl, hw'.trans (hb.mono hw'.size)⟩)
                           | (go_at_call 45; (with_reducible refine (PteC.make_calls _ _ _ _ _ _ _).mono ?_); rintro e w2 ⟨rfl, hb⟩; exact ⟨rfl, hw'.trans (hb.mono hw'.size)⟩)
                           | (obtain ⟨hcc, _⟩ := bcell hw'; go_simp; done)
                           | (obtain ⟨hcc, _⟩ := bcell hw'; go_simp; rfl)
                         clear hK K))
            refine wpQuiet_nil ?_
            intro wz bz
            have BZ := bel_trans bq bz
            go_wp2_with fail
            exact ⟨⟨j + 1, by omega, by go_num, BZ⟩, by first | (simp [intOf]; done) | (simp [intOf]; omega)⟩
          · obtain ⟨wb, rfl⟩ : ∃ wb : World, wb = wr := ⟨_, rfl⟩
            go_wp2_with fail
            refine RegR.region (Θ := Nat) [0, 0, 0, 0, 0, 0, 0, 1, 2] [0, 1, 2, 3, 4, 5, 6, 7, 8] (fun w' => Below wb.heap.size wb w') (fun _ n => .pointer (some ⟨n, 0, none⟩)) (fun _ n w' => wb.heap.size ≤ n ∧ ∃ c : Array Value, c.size = 11 ∧ MemL.Bx w' n c)
              (by kernel_rfl) (by kernel_rfl) (RegR.stab_below _ _ rfl) (fun _ n => RegR.stab_shape _ _ n) (Below.drew (Below.refl _ _)) ?_
            repeat (with_reducible refine RegR.can0 _ rfl rfl (fun K hK => ?_)
                    go_simp
                    first
                      | (refine hK _ ?_; clear hK K)
                      | (refine ⟨_, fun _ _ => rfl, hK _ ?_⟩; clear hK K)
                      | (apply Exists.intro
                         refine ⟨fun w' hw' => ?_, hK _ ?_⟩
                         · first
                           | (go_at_call 34; (with_reducible refine (PteC.may_calls _ _ _ _ _ _ _ _ _ _ _ _ (by first | assumption | exact ⟨by omega, by omega⟩) (by first | assumption | exact ⟨by omega, by omega⟩) (by first | assumption | exact ⟨by omega, by omega⟩)).mono ?_); rintro e w2 ⟨rfl, hb⟩; exact ⟨rfl, hb⟩)
                           | (go_at_call 36; (with_reducible refine (PteC.pget_calls _ _ (by first | assumption | exact ⟨by omega, by omega⟩)).mono ?_); rintro e w2 ⟨rfl, hb⟩; exact ⟨rfl, hb⟩)
                           | (go_at_call 39; (with_reducible refine (PteC.leaf_calls _ _ _ _ _ _ _ _ _ _ _ _).mono ?_); rintro e w2 ⟨rfl, hb⟩; exact ⟨rfl, hb⟩)
                           | (go_at_call 41; (with_reducible refine (PteC.link_calls _ _ _ _ _ _ _ _ _ _ _ _).mono ?_); rintro e w2 ⟨rfl, hb⟩; exact ⟨rfl, hb⟩)
                           | (go_at_call 43; (with_reducible refine (PteC.bad_calls _ _ _ _ _ _ _ _ _ _ _ _ _ (by first | assumption | exact ⟨by omega, by omega⟩) (by first | assumption | exact ⟨by omega, by omega⟩) (by first | assumption | exact ⟨by omega, by omega⟩) (by omega) (by omega) (hG0.below hw' (Nat.le_refl _))).mono ?_); rintro e w2 ⟨rfl, hb⟩; exact ⟨rfl, hb⟩)
                           | (go_at_call 47; (with_reducible refine (PteC.perm_calls _ _ _ _ _ _ _ _ _ _ _ _).mono ?_); rintro e w2 ⟨rfl, hb⟩; exact ⟨rfl, hb⟩)
                           | (go_at_call 37; (with_reducible refine (PteR.rget_calls _ _ (by first | assumption | exact ⟨by omega, by omega⟩)).mono ?_); rintro e w2 ⟨rfl, hb⟩; exact ⟨rfl, hb⟩)
                           | (go_at_call 35; (with_reducible refine (PteR.rmay_calls _ _ _ _ _ _ _ _ _ _ _ _ (by first | assumption | exact ⟨by omega, by omega⟩) (by first | assumption | exact ⟨by omega, by omega⟩) (by first | assumption | exact ⟨by omega, by omega⟩)).mono ?_); rintro e w2 ⟨rfl, hb⟩; exact ⟨rfl, hb⟩)
                           | (go_at_call 40; (with_reducible refine (PteR.rleaf_calls _ _ _ _ _ _ _ _ _ _ _ _).mono ?_); rintro e w2 ⟨rfl, hb⟩; exact ⟨rfl, hb⟩)
                           | (go_at_call 42; (with_reducible refine (PteR.rlink_calls _ _ _ _ _ _ _ _ _ _ _ _).mono ?_); rintro e w2 ⟨rfl, hb⟩; exact ⟨rfl, hb⟩)
                           | (go_at_call 44; (with_reducible refine (PteR.rbad_calls _ _ _ _ _ _ _ _ _ _ _ _ _ (by first | assumption | exact ⟨by omega, by omega⟩) (by first | assumption | exact ⟨by omega, by omega⟩) (by first | assumption | exact ⟨by omega, by omega⟩) (by omega) (by omega)).mono ?_); rintro e w2 ⟨rfl, hb⟩; exact ⟨rfl, hb⟩)
                           | (go_at_call 46; (with_reducible refine (PteR.rmake_calls _ _ _ _ _ _ _).mono ?_); rintro e w2 ⟨rfl, hb⟩; exact ⟨rfl, hb⟩)
                           | (go_at_call 48; (with_reducible refine (PteR.rperm_calls _ _ _ _ _ _ _ _ _ _ _ _).mono ?_); rintro e w2 ⟨rfl, hb⟩; exact ⟨rfl, hb⟩)
                           | (go_at_call 45; (with_reducible refine (PteC.make_calls _ _ _ _ _ _ _).mono ?_); rintro e w2 ⟨rfl, hb⟩; exact ⟨rfl, hb⟩)
                           | (obtain ⟨hcc, _⟩ := bcell hw'; go_simp; done)
                           | (obtain ⟨hcc, _⟩ := bcell hw'; go_simp; rfl)
                         clear hK K))
            refine RegR.can1_alloc _ rfl rfl rfl #[.bool false, .bool false, .bool false, .bool false, .bool false, .bool false, .bool false, .bool false, .int .u64 0, .int .u64 0, .int .u64 0] 24 wb.heap.size (fun w h => h.size) (fun w => by kernel_rfl) _ _ (fun _ => rfl) (fun _ _ => Iff.rfl) (fun N hN => ?_)
            refine RegR.can2_store _ rfl rfl rfl 24 _ _ rfl N #[.bool true, .bool r, .bool w, .bool x, .bool u, .bool g, .bool false, .bool false, .int .u64 0, .int .u64 ppn, .int .u64 0] rfl rfl (by kernel_rfl) (by simp [Value.oneCell']) rfl (fun w w' h b => ⟨trivial, RegR.stab_shape _ _ N w w' h.2 b⟩) (fun w h => h.2.2) (fun w h => ⟨trivial, h.2.1, _, rfl, h.2.2.elim fun c hc => hc.2.row_same⟩) (fun w h => MemL.below_row h hN _) ?_
            intro wm BM0 hD
            have x8 := hD.2.cell
            have l8 := hD.2.lt
            clear hD cq
            have BM := bel_trans bq BM0
            obtain ⟨cm, _⟩ := bcell BM
            have y0m : W.heap.size < wm.heap.size := Nat.lt_of_lt_of_le hy0 BM.size
            have hG0 : G wm := hGy.to BM
            go_wp2_with fail
            refine region_below (by kernel_rfl) (by kernel_rfl) ?_
            repeat (with_reducible refine wpQuiet_step (fun K hK => ?_)
                    go_simp
                    first
                      | (refine hK _ ?_; clear hK K)
                      | (refine ⟨_, fun _ _ => rfl, hK _ ?_⟩; clear hK K)
                      | (apply Exists.intro
                         refine ⟨fun w' hw' => ?_, hK _ ?_⟩
                         · first
                           | (go_at_call 34; (with_reducible refine (PteC.may_calls _ _ _ _ _ _ _ _ _ _ _ _ (by first | assumption | exact ⟨by omega, by omega⟩) (by first | assumption | exact ⟨by omega, by omega⟩) (by first | assumption | exact ⟨by omega, by omega⟩)).mono ?_); rintro e w2 ⟨rfl, hb⟩; exact ⟨rfl, hw'.trans (hb.mono hw'.size)⟩)
                           | (go_at_call 36; (with_reducible refine (PteC.pget_calls _ _ (by first | assumption | exact ⟨by omega, by omega⟩)).mono ?_); rintro e w2 ⟨rfl, hb⟩; exact ⟨rfl, hw'.trans (hb.mono hw'.size)⟩)
                           | (go_at_call 39; (with_reducible refine (PteC.leaf_calls _ _ _ _ _ _ _ _ _ _ _ _).mono ?_); rintro e w2 ⟨rfl, hb⟩; exact ⟨rfl, hw'.trans (hb.mono hw'.size)⟩)
                           | (go_at_call 41; (with_reducible refine (PteC.link_calls _ _ _ _ _ _ _ _ _ _ _ _).mono ?_); rintro e w2 ⟨rfl, hb⟩; exact ⟨rfl, hw'.trans (hb.mono hw'.size)⟩)
                           | (go_at_call 43; (with_reducible refine (PteC.bad_calls _ _ _ _ _ _ _ _ _ _ _ _ _ (by first | assumption | exact ⟨by omega, by omega⟩) (by first | assumption | exact ⟨by omega, by omega⟩) (by first | assumption | exact ⟨by omega, by omega⟩) (by omega) (by omega) (hG0.below hw' (Nat.le_refl _))).mono ?_); rintro e w2 ⟨rfl, hb⟩; exact ⟨rfl, hw'.trans (hb.mono hw'.size)⟩)
                           | (go_at_call 47; (with_reducible refine (PteC.perm_calls _ _ _ _ _ _ _ _ _ _ _ _).mono ?_); rintro e w2 ⟨rfl, hb⟩; exact ⟨rfl, hw'.trans (hb.mono hw'.size)⟩)
                           | (go_at_call 37; (with_reducible refine (PteR.rget_calls _ _ (by first | assumption | exact ⟨by omega, by omega⟩)).mono ?_); rintro e w2 ⟨rfl, hb⟩; exact ⟨rfl, hw'.trans (hb.mono hw'.size)⟩)
                           | (go_at_call 35; (with_reducible refine (PteR.rmay_calls _ _ _ _ _ _ _ _ _ _ _ _ (by first | assumption | exact ⟨by omega, by omega⟩) (by first | assumption | exact ⟨by omega, by omega⟩) (by first | assumption | exact ⟨by omega, by omega⟩)).mono ?_); rintro e w2 ⟨rfl, hb⟩; exact ⟨rfl, hw'.trans (hb.mono hw'.size)⟩)
                           | (go_at_call 40; (with_reducible refine (PteR.rleaf_calls _ _ _ _ _ _ _ _ _ _ _ _).mono ?_); rintro e w2 ⟨rfl, hb⟩; exact ⟨rfl, hw'.trans (hb.mono hw'.size)⟩)
                           | (go_at_call 42; (with_reducible refine (PteR.rlink_calls _ _ _ _ _ _ _ _ _ _ _ _).mono ?_); rintro e w2 ⟨rfl, hb⟩; exact ⟨rfl, hw'.trans (hb.mono hw'.size)⟩)
                           | (go_at_call 44; (with_reducible refine (PteR.rbad_calls _ _ _ _ _ _ _ _ _ _ _ _ _ (by first | assumption | exact ⟨by omega, by omega⟩) (by first | assumption | exact ⟨by omega, by omega⟩) (by first | assumption | exact ⟨by omega, by omega⟩) (by omega) (by omega)).mono ?_); rintro e w2 ⟨rfl, hb⟩; exact ⟨rfl, hw'.trans (hb.mono hw'.size)⟩)
                           | (go_at_call 46; (with_reducible refine (PteR.rmake_calls _ _ _ _ _ _ _).mono ?_); rintro e w2 ⟨rfl, hb⟩; exact ⟨rfl, hw'.trans (hb.mono hw'.size)⟩)
                           | (go_at_call 48; (with_reducible refine (PteR.rperm_calls _ _ _ _ _ _ _ _ _ _ _ _).mono ?_); rintro e w2 ⟨rfl, hb⟩; exact ⟨rfl, hw'.trans (hb.mono hw'.size)⟩)
                           | (go_at_call 45; (with_reducible refine (PteC.make_calls _ _ _ _ _ _ _).mono ?_); rintro e w2 ⟨rfl, hb⟩; exact ⟨rfl, hw'.trans (hb.mono hw'.size)⟩)
                           | (obtain ⟨hcc, _⟩ := bcell hw'; go_simp; done)
                           | (obtain ⟨hcc, _⟩ := bcell hw'; go_simp; rfl)
                         clear hK K))
            refine wpQuiet_nil ?_
            intro wz bz
            go_wp2
            go_ret
            exact ⟨rfl, bel_trans BY (bel_trans BM bz)⟩
  · refine region_below (by kernel_rfl) (by kernel_rfl) ?_
    repeat (with_reducible refine wpQuiet_step (fun K hK => ?_)
            go_simp
            first
              | (refine hK _ ?_; clear hK K)
              | (refine ⟨_, fun _ _ => rfl, hK _ ?_⟩; clear hK K)
              | (apply Exists.intro
                 refine ⟨fun w' hw' => ?_, hK _ ?_⟩
                 · first
                   | (go_at_call 34; (with_reducible refine (PteC.may_calls _ _ _ _ _ _ _ _ _ _ _ _ (by first | assumption | exact ⟨by omega, by omega⟩) (by first | assumption | exact ⟨by omega, by omega⟩) (by first | assumption | exact ⟨by omega, by omega⟩)).mono ?_); rintro e w2 ⟨rfl, hb⟩; exact ⟨rfl, hw'.trans (hb.mono hw'.size)⟩)
                   | (go_at_call 36; (with_reducible refine (PteC.pget_calls _ _ (by first | assumption | exact ⟨by omega, by omega⟩)).mono ?_); rintro e w2 ⟨rfl, hb⟩; exact ⟨rfl, hw'.trans (hb.mono hw'.size)⟩)
                   | (go_at_call 39; (with_reducible refine (PteC.leaf_calls _ _ _ _ _ _ _ _ _ _ _ _).mono ?_); rintro e w2 ⟨rfl, hb⟩; exact ⟨rfl, hw'.trans (hb.mono hw'.size)⟩)
                   | (go_at_call 41; (with_reducible refine (PteC.link_calls _ _ _ _ _ _ _ _ _ _ _ _).mono ?_); rintro e w2 ⟨rfl, hb⟩; exact ⟨rfl, hw'.trans (hb.mono hw'.size)⟩)
                   | (go_at_call 43; (with_reducible refine (PteC.bad_calls _ _ _ _ _ _ _ _ _ _ _ _ _ (by first | assumption | exact ⟨by omega, by omega⟩) (by first | assumption | exact ⟨by omega, by omega⟩) (by first | assumption | exact ⟨by omega, by omega⟩) (by omega) (by omega) (hG0.below hw' (Nat.le_refl _))).mono ?_); rintro e w2 ⟨rfl, hb⟩; exact ⟨rfl, hw'.trans (hb.mono hw'.size)⟩)
                   | (go_at_call 47; (with_reducible refine (PteC.perm_calls _ _ _ _ _ _ _ _ _ _ _ _).mono ?_); rintro e w2 ⟨rfl, hb⟩; exact ⟨rfl, hw'.trans (hb.mono hw'.size)⟩)
                   | (go_at_call 37; (with_reducible refine (PteR.rget_calls _ _ (by first | assumption | exact ⟨by omega, by omega⟩)).mono ?_); rintro e w2 ⟨rfl, hb⟩; exact ⟨rfl, hw'.trans (hb.mono hw'.size)⟩)
                   | (go_at_call 35; (with_reducible refine (PteR.rmay_calls _ _ _ _ _ _ _ _ _ _ _ _ (by first | assumption | exact ⟨by omega, by omega⟩) (by first | assumption | exact ⟨by omega, by omega⟩) (by first | assumption | exact ⟨by omega, by omega⟩)).mono ?_); rintro e w2 ⟨rfl, hb⟩; exact ⟨rfl, hw'.trans (hb.mono hw'.size)⟩)
                   | (go_at_call 40; (with_reducible refine (PteR.rleaf_calls _ _ _ _ _ _ _ _ _ _ _ _).mono ?_); rintro e w2 ⟨rfl, hb⟩; exact ⟨rfl, hw'.trans (hb.mono hw'.size)⟩)
                   | (go_at_call 42; (with_reducible refine (PteR.rlink_calls _ _ _ _ _ _ _ _ _ _ _ _).mono ?_); rintro e w2 ⟨rfl, hb⟩; exact ⟨rfl, hw'.trans (hb.mono hw'.size)⟩)
                   | (go_at_call 44; (with_reducible refine (PteR.rbad_calls _ _ _ _ _ _ _ _ _ _ _ _ _ (by first | assumption | exact ⟨by omega, by omega⟩) (by first | assumption | exact ⟨by omega, by omega⟩) (by first | assumption | exact ⟨by omega, by omega⟩) (by omega) (by omega)).mono ?_); rintro e w2 ⟨rfl, hb⟩; exact ⟨rfl, hw'.trans (hb.mono hw'.size)⟩)
                   | (go_at_call 46; (with_reducible refine (PteR.rmake_calls _ _ _ _ _ _ _).mono ?_); rintro e w2 ⟨rfl, hb⟩; exact ⟨rfl, hw'.trans (hb.mono hw'.size)⟩)
                   | (go_at_call 48; (with_reducible refine (PteR.rperm_calls _ _ _ _ _ _ _ _ _ _ _ _).mono ?_); rintro e w2 ⟨rfl, hb⟩; exact ⟨rfl, hw'.trans (hb.mono hw'.size)⟩)
                   | (go_at_call 45; (with_reducible refine (PteC.make_calls _ _ _ _ _ _ _).mono ?_); rintro e w2 ⟨rfl, hb⟩; exact ⟨rfl, hw'.trans (hb.mono hw'.size)⟩)
                   | (obtain ⟨hcc, _⟩ := bcell hw'; go_simp; done)
                   | (obtain ⟨hcc, _⟩ := bcell hw'; go_simp; rfl)
                 clear hK K))
    refine wpQuiet_nil ?_
    intro wa ba
    have BA := bel_trans B1 ba
    clear c1 B1 ba hG0 y0
    obtain ⟨ca, _⟩ := bcell BA
    go_wp2_with fail
    go_loopw [5] (fun i wr => ∃ k : Nat, 1 ≤ k ∧ k ≤ 3 ∧ i = .int .i64 k ∧ Below Wx.heap.size Wx wr) (fun i _ => 3 - (intOf i).toNat)
    case atStart => exact ⟨1, by omega, by omega, rfl, BA⟩
    case round =>
      obtain ⟨k, hk1, hk3, rfl, BR⟩ := hrel
      clear ca BA
      obtain ⟨cr, _⟩ := bcell BR
      have y0 : W.heap.size < wr.heap.size := Nat.lt_of_lt_of_le hz0 BR.size
      have y1 : W.heap.size + 1 < wr.heap.size := Nat.lt_of_lt_of_le hz1 BR.size
      have hGr : G wr := hG1.to BR
      by_cases hlt3 : k < 3
      · cases hb : badP ⟨true, r, w, x, u, g, a, d, rsw, ppn, high⟩ k
        all_goals cases hc : badP ⟨true, r, w, x, u, g, a, d, rsw, ppn, high⟩ ((k : Int) - 1)
        all_goals first
          | (exfalso; have q := ((HL k (by omega)).out hb hc).1; rw [hk] at q; exact absurd q (by decide))
          | ((try (have q2 := ((HL k (by omega)).out hb hc).2; have q3 : ((k : Int) == 1) = true := by simpa using q2))
             go_wp2_with (first
               | (go_at_call 43; (with_reducible refine (PteC.bad_calls _ _ _ _ _ _ _ _ _ _ _ _ _ h1 h2 h3 (by omega) (by omega) (by first | assumption | exact hGr.to (by repeat (first | (with_reducible exact Below.refl _ _) | (with_reducible apply bel_drewN) | (with_reducible apply bel_alloc) | (with_reducible apply bel_trans; rotate_left; with_reducible assumption) | (with_reducible refine bel_setCell _ _ _ (by first | omega | (simp; done) | (simp; omega) | (simp at *; omega)) ?_))))).mono ?_); rintro e wn ⟨rfl, hbn⟩; obtain ⟨hcn, hfn⟩ := bcell hbn; have hyn : W.heap.size < wn.heap.size := (by have q := hbn.size; (try simp at q); omega))
               | (go_at_call 41; (with_reducible refine (PteC.link_calls _ _ _ _ _ _ _ _ _ _ _ _).mono ?_); rintro e wn ⟨rfl, hbn⟩)
               | fail)
             all_goals first
               | exact ⟨⟨k + 1, by omega, by omega, by go_num, (by repeat (first | (with_reducible exact Below.refl _ _) | (with_reducible apply bel_drewN) | (with_reducible apply bel_alloc) | (with_reducible apply bel_trans; rotate_left; with_reducible assumption) | (with_reducible refine bel_setCell _ _ _ (by first | omega | (simp; done) | (simp; omega) | (simp at *; omega)) ?_)))⟩, by first | (simp [intOf]; done) | (simp [intOf]; omega)⟩
               | exact ⟨⟨2, by omega, by omega, rfl, (by repeat (first | (with_reducible exact Below.refl _ _) | (with_reducible apply bel_drewN) | (with_reducible apply bel_alloc) | (with_reducible apply bel_trans; rotate_left; with_reducible assumption) | (with_reducible refine bel_setCell _ _ _ (by first | omega | (simp; done) | (simp; omega) | (simp at *; omega)) ?_)))⟩, by first | (simp [intOf]; done) | (simp [intOf]; omega)⟩)
      · obtain ⟨wo, rfl⟩ : ∃ wo : World, wo = wr := ⟨_, rfl⟩
        go_wp2_with fail
        refine name_world (F := fun w1 => w1.cell? ⟨W.heap.size, 0, none⟩ = some (.bool true) ∧ w1.cell? ⟨W.heap.size, 1, none⟩ = some (.bool r) ∧ w1.cell? ⟨W.heap.size, 2, none⟩ = some (.bool w) ∧ w1.cell? ⟨W.heap.size, 3, none⟩ = some (.bool x) ∧ w1.cell? ⟨W.heap.size, 4, none⟩ = some (.bool u) ∧ w1.cell? ⟨W.heap.size, 5, none⟩ = some (.bool g) ∧ w1.cell? ⟨W.heap.size, 6, none⟩ = some (.bool a) ∧ w1.cell? ⟨W.heap.size, 7, none⟩ = some (.bool d) ∧ w1.cell? ⟨W.heap.size, 8, none⟩ = some (.int .u64 rsw) ∧ w1.cell? ⟨W.heap.size, 9, none⟩ = some (.int .u64 ppn) ∧ w1.cell? ⟨W.heap.size, 10, none⟩ = some (.int .u64 high) ∧ w1.cell? ⟨wo.heap.size, 0, none⟩ = some (.bool true) ∧ w1.cell? ⟨wo.heap.size, 1, none⟩ = some (.bool r) ∧ w1.cell? ⟨wo.heap.size, 2, none⟩ = some (.bool w) ∧ w1.cell? ⟨wo.heap.size, 3, none⟩ = some (.bool x) ∧ w1.cell? ⟨wo.heap.size, 4, none⟩ = some (.bool u) ∧ w1.cell? ⟨wo.heap.size, 5, none⟩ = some (.bool g2) ∧ w1.cell? ⟨wo.heap.size, 6, none⟩ = some (.bool a2) ∧ w1.cell? ⟨wo.heap.size, 7, none⟩ = some (.bool d2) ∧ w1.cell? ⟨wo.heap.size, 8, none⟩ = some (.int .u64 rsw2) ∧ w1.cell? ⟨wo.heap.size, 9, none⟩ = some (.int .u64 ppn) ∧ w1.cell? ⟨wo.heap.size, 10, none⟩ = some (.int .u64 high) ∧ W.heap.size < w1.heap.size ∧ wo.heap.size < w1.heap.size ∧ Below W.heap.size W w1) (by
          refine ⟨?_, ?_, ?_, ?_, ?_, ?_, ?_, ?_, ?_, ?_, ?_, ?_, ?_, ?_, ?_, ?_, ?_, ?_, ?_, ?_, ?_, ?_, ?_, ?_, ?_⟩
          all_goals first | (simp; done) | (rw [World.cell?_alloc_lt _ _ _ y0, cr _ _ hz0]; assumption) | (simp; omega) | (intro i; simp; done) | exact bel_alloc (bel_trans BX BR) _) ?_
        clear f0 p1 p2 p3 p4 p5 p6 p7 p8 p9 p10 q0 q1 q2 q3 q4 q5 q6 q7 q8 q9 q10 cr y0 y1
        rintro Wy ⟨f0, p1, p2, p3, p4, p5, p6, p7, p8, p9, p10, q0, q1, q2, q3, q4, q5, q6, q7, q8, q9, q10, hy0, hy1, BY⟩
        have hGy : G Wy := hG.to BY
        go_loopw [7] (fun i wr => ∃ j : Nat, j ≤ 3 ∧ i = .int .i64 j ∧ Below Wy.heap.size Wy wr) (fun i _ => 3 - (intOf i).toNat)
        case atStart => exact ⟨0, by omega, rfl, Below.refl _ _⟩
        case round =>
          obtain ⟨j, hj, rfl, bq⟩ := hrel
          obtain ⟨cq, _⟩ := bcell bq
          have y0 : W.heap.size < wr.heap.size := Nat.lt_of_lt_of_le hy0 bq.size
          have y1 : wo.heap.size < wr.heap.size := Nat.lt_of_lt_of_le hy1 bq.size
          have hG0 : G wr := hGy.to bq
          by_cases hj3 : j < 3
          · skip
            go_wp2_with fail
            refine region_below (by kernel_rfl) (by kernel_rfl) ?_
            repeat (with_reducible refine wpQuiet_step (fun K hK => ?_)
                    go_simp
                    first
                      | (refine hK _ ?_; clear hK K)
                      | (refine ⟨_, fun _ _ => rfl, hK _ ?_⟩; clear hK K)
                      | (apply Exists.intro
                         refine ⟨fun w' hw' => ?_, hK _ ?_⟩
                         · first
                           | (go_at_call 34; (with_reducible refine (PteC.may_calls _ _ _ _ _ _ _ _ _ _ _ _ (by first | assumption | exact ⟨by omega, by omega⟩) (by first | assumption | exact ⟨by omega, by omega⟩) (by first | assumption | exact ⟨by omega, by omega⟩)).mono ?_); rintro e w2 ⟨rfl, hb⟩; exact ⟨rfl, hw'.trans (hb.mono hw'.size)⟩)
                           | (go_at_call 36; (with_reducible refine (PteC.pget_calls _ _ (by first | assumption | exact ⟨by omega, by omega⟩)).mono ?_); rintro e w2 ⟨rfl, hb⟩; exact ⟨rfl, hw'.trans (hb.mono hw'.size)⟩)
                           | (go_at_call 39; (with_reducible refine (PteC.leaf_calls _ _ _ _ _ _ _ _ _ _ _ _).mono ?_); rintro e w2 ⟨rfl, hb⟩; exact ⟨rfl, hw'.trans (hb.mono hw'.size)⟩)
                           | (go_at_call 41; (with_reducible refine (PteC.link_calls _ _ _ _ _ _ _ _ _ _ _ _).mono ?_); rintro e w2 ⟨rfl, hb⟩; exact ⟨rfl, hw'.trans (hb.mono hw'.size)⟩)
                           | (go_at_call 43; (with_reducible refine (PteC.bad_calls _ _ _ _ _ _ _ _ _ _ _ _ _ (by first | assumption | exact ⟨by omega, by omega⟩) (by first | assumption | exact ⟨by omega, by omega⟩) (by first | assumption | exact ⟨by omega, by omega⟩) (by omega) (by omega) (hG0.below hw' (Nat.le_refl _))).mono ?_); rintro e w2 ⟨rfl, hb⟩; exact ⟨rfl, hw'.trans (hb.mono hw'.size)⟩)
                           | (go_at_call 47; (with_reducible refine (PteC.perm_calls _ _ _ _ _ _ _ _ _ _ _ _).mono ?_); rintro e w2 ⟨rfl, hb⟩; exact ⟨rfl, hw'.trans (hb.mono hw'.size)⟩)
                           | (go_at_call 37; (with_reducible refine (PteR.rget_calls _ _ (by first | assumption | exact ⟨by omega, by omega⟩)).mono ?_); rintro e w2 ⟨rfl, hb⟩; exact ⟨rfl, hw'.trans (hb.mono hw'.size)⟩)
                           | (go_at_call 35; (with_reducible refine (PteR.rmay_calls _ _ _ _ _ _ _ _ _ _ _ _ (by first | assumption | exact ⟨by omega, by omega⟩) (by first | assumption | exact ⟨by omega, by omega⟩) (by first | assumption | exact ⟨by omega, by omega⟩)).mono ?_); rintro e w2 ⟨rfl, hb⟩; exact ⟨rfl, hw'.trans (hb.mono hw'.size)⟩)
                           | (go_at_call 40; (with_reducible refine (PteR.rleaf_calls _ _ _ _ _ _ _ _ _ _ _ _).mono ?_); rintro e w2 ⟨rfl, hb⟩; exact ⟨rfl, hw'.trans (hb.mono hw'.size)⟩)
                           | (go_at_call 42; (with_reducible refine (PteR.rlink_calls _ _ _ _ _ _ _ _ _ _ _ _).mono ?_); rintro e w2 ⟨rfl, hb⟩; exact ⟨rfl, hw'.trans (hb.mono hw'.size)⟩)
                           | (go_at_call 44; (with_reducible refine (PteR.rbad_calls _ _ _ _ _ _ _ _ _ _ _ _ _ (by first | assumption | exact ⟨by omega, by omega⟩) (by first | assumption | exact ⟨by omega, by omega⟩) (by first | assumption | exact ⟨by omega, by omega⟩) (by omega) (by omega)).mono ?_); rintro e w2 ⟨rfl, hb⟩; exact ⟨rfl, hw'.trans (hb.mono hw'.size)⟩)
                           | (go_at_call 46; (with_reducible refine (PteR.rmake_calls _ _ _ _ _ _ _).mono ?_); rintro e w2 ⟨rfl, hb⟩; exact ⟨rfl, hw'.trans (hb.mono hw'.size)⟩)
                           | (go_at_call 48; (with_reducible refine (PteR.rperm_calls _ _ _ _ _ _ _ _ _ _ _ _).mono ?_); rintro e w2 ⟨rfl, hb⟩; exact ⟨rfl, hw'.trans (hb.mono hw'.size)⟩)
                           | (go_at_call 45; (with_reducible refine (PteC.make_calls _ _ _ _ _ _ _).mono ?_); rintro e w2 ⟨rfl, hb⟩; exact ⟨rfl, hw'.trans (hb.mono hw'.size)⟩)
                           | (obtain ⟨hcc, _⟩ := bcell hw'; go_simp; done)
                           | (obtain ⟨hcc, _⟩ := bcell hw'; go_simp; rfl)
                         clear hK K))
            refine wpQuiet_nil ?_
            intro wz bz
            have BZ := bel_trans bq bz
            go_wp2_with fail
            exact ⟨⟨j + 1, by omega, by go_num, BZ⟩, by first | (simp [intOf]; done) | (simp [intOf]; omega)⟩
          · obtain ⟨wb, rfl⟩ : ∃ wb : World, wb = wr := ⟨_, rfl⟩
            go_wp2_with fail
            refine RegR.region (Θ := Nat) [0, 0, 0, 0, 0, 0, 0, 1, 2] [0, 1, 2, 3, 4, 5, 6, 7, 8] (fun w' => Below wb.heap.size wb w') (fun _ n => .pointer (some ⟨n, 0, none⟩)) (fun _ n w' => wb.heap.size ≤ n ∧ ∃ c : Array Value, c.size = 11 ∧ MemL.Bx w' n c)
              (by kernel_rfl) (by kernel_rfl) (RegR.stab_below _ _ rfl) (fun _ n => RegR.stab_shape _ _ n) (Below.drew (Below.refl _ _)) ?_
            repeat (with_reducible refine RegR.can0 _ rfl rfl (fun K hK => ?_)
                    go_simp
                    first
                      | (refine hK _ ?_; clear hK K)
                      | (refine ⟨_, fun _ _ => rfl, hK _ ?_⟩; clear hK K)
                      | (apply Exists.intro
                         refine ⟨fun w' hw' => ?_, hK _ ?_⟩
                         · first
                           | (go_at_call 34; (with_reducible refine (PteC.may_calls _ _ _ _ _ _ _ _ _ _ _ _ (by first | assumption | exact ⟨by omega, by omega⟩) (by first | assumption | exact ⟨by omega, by omega⟩) (by first | assumption | exact ⟨by omega, by omega⟩)).mono ?_); rintro e w2 ⟨rfl, hb⟩; exact ⟨rfl, hb⟩)
                           | (go_at_call 36; (with_reducible refine (PteC.pget_calls _ _ (by first | assumption | exact ⟨by omega, by omega⟩)).mono ?_); rintro e w2 ⟨rfl, hb⟩; exact ⟨rfl, hb⟩)
                           | (go_at_call 39; (with_reducible refine (PteC.leaf_calls _ _ _ _ _ _ _ _ _ _ _ _).mono ?_); rintro e w2 ⟨rfl, hb⟩; exact ⟨rfl, hb⟩)
                           | (go_at_call 41; (with_reducible refine (PteC.link_calls _ _ _ _ _ _ _ _ _ _ _ _).mono ?_); rintro e w2 ⟨rfl, hb⟩; exact ⟨rfl, hb⟩)
                           | (go_at_call 43; (with_reducible refine (PteC.bad_calls _ _ _ _ _ _ _ _ _ _ _ _ _ (by first | assumption | exact ⟨by omega, by omega⟩) (by first | assumption | exact ⟨by omega, by omega⟩) (by first | assumption | exact ⟨by omega, by omega⟩) (by omega) (by omega) (hG0.below hw' (Nat.le_refl _))).mono ?_); rintro e w2 ⟨rfl, hb⟩; exact ⟨rfl, hb⟩)
                           | (go_at_call 47; (with_reducible refine (PteC.perm_calls _ _ _ _ _ _ _ _ _ _ _ _).mono ?_); rintro e w2 ⟨rfl, hb⟩; exact ⟨rfl, hb⟩)
                           | (go_at_call 37; (with_reducible refine (PteR.rget_calls _ _ (by first | assumption | exact ⟨by omega, by omega⟩)).mono ?_); rintro e w2 ⟨rfl, hb⟩; exact ⟨rfl, hb⟩)
                           | (go_at_call 35; (with_reducible refine (PteR.rmay_calls _ _ _ _ _ _ _ _ _ _ _ _ (by first | assumption | exact ⟨by omega, by omega⟩) (by first | assumption | exact ⟨by omega, by omega⟩) (by first | assumption | exact ⟨by omega, by omega⟩)).mono ?_); rintro e w2 ⟨rfl, hb⟩; exact ⟨rfl, hb⟩)
                           | (go_at_call 40; (with_reducible refine (PteR.rleaf_calls _ _ _ _ _ _ _ _ _ _ _ _).mono ?_); rintro e w2 ⟨rfl, hb⟩; exact ⟨rfl, hb⟩)
                           | (go_at_call 42; (with_reducible refine (PteR.rlink_calls _ _ _ _ _ _ _ _ _ _ _ _).mono ?_); rintro e w2 ⟨rfl, hb⟩; exact ⟨rfl, hb⟩)
                           | (go_at_call 44; (with_reducible refine (PteR.rbad_calls _ _ _ _ _ _ _ _ _ _ _ _ _ (by first | assumption | exact ⟨by omega, by omega⟩) (by first | assumption | exact ⟨by omega, by omega⟩) (by first | assumption | exact ⟨by omega, by omega⟩) (by omega) (by omega)).mono ?_); rintro e w2 ⟨rfl, hb⟩; exact ⟨rfl, hb⟩)
                           | (go_at_call 46; (with_reducible refine (PteR.rmake_calls _ _ _ _ _ _ _).mono ?_); rintro e w2 ⟨rfl, hb⟩; exact ⟨rfl, hb⟩)
                           | (go_at_call 48; (with_reducible refine (PteR.rperm_calls _ _ _ _ _ _ _ _ _ _ _ _).mono ?_); rintro e w2 ⟨rfl, hb⟩; exact ⟨rfl, hb⟩)
                           | (go_at_call 45; (with_reducible refine (PteC.make_calls _ _ _ _ _ _ _).mono ?_); rintro e w2 ⟨rfl, hb⟩; exact ⟨rfl, hb⟩)
                           | (obtain ⟨hcc, _⟩ := bcell hw'; go_simp; done)
                           | (obtain ⟨hcc, _⟩ := bcell hw'; go_simp; rfl)
                         clear hK K))
            refine RegR.can1_alloc _ rfl rfl rfl #[.bool false, .bool false, .bool false, .bool false, .bool false, .bool false, .bool false, .bool false, .int .u64 0, .int .u64 0, .int .u64 0] 24 wb.heap.size (fun w h => h.size) (fun w => by kernel_rfl) _ _ (fun _ => rfl) (fun _ _ => Iff.rfl) (fun N hN => ?_)
            refine RegR.can2_store _ rfl rfl rfl 24 _ _ rfl N #[.bool true, .bool r, .bool w, .bool x, .bool u, .bool g, .bool false, .bool false, .int .u64 0, .int .u64 ppn, .int .u64 0] rfl rfl (by kernel_rfl) (by simp [Value.oneCell']) rfl (fun w w' h b => ⟨trivial, RegR.stab_shape _ _ N w w' h.2 b⟩) (fun w h => h.2.2) (fun w h => ⟨trivial, h.2.1, _, rfl, h.2.2.elim fun c hc => hc.2.row_same⟩) (fun w h => MemL.below_row h hN _) ?_
            intro wm BM0 hD
            have x8 := hD.2.cell
            have l8 := hD.2.lt
            clear hD cq
            have BM := bel_trans bq BM0
            obtain ⟨cm, _⟩ := bcell BM
            have y0m : W.heap.size < wm.heap.size := Nat.lt_of_lt_of_le hy0 BM.size
            have hG0 : G wm := hGy.to BM
            go_wp2_with fail
            refine region_below (by kernel_rfl) (by kernel_rfl) ?_
            repeat (with_reducible refine wpQuiet_step (fun K hK => ?_)
                    go_simp
                    first
                      | (refine hK _ ?_; clear hK K)
                      | (refine ⟨_, fun _ _ => rfl, hK _ ?_⟩; clear hK K)
                      | (apply Exists.intro
                         refine ⟨fun w' hw' => ?_, hK _ ?_⟩
                         · first
                           | (go_at_call 34; (with_reducible refine (PteC.may_calls _ _ _ _ _ _ _ _ _ _ _ _ (by first | assumption | exact ⟨by omega, by omega⟩) (by first | assumption | exact ⟨by omega, by omega⟩) (by first | assumption | exact ⟨by omega, by omega⟩)).mono ?_); rintro e w2 ⟨rfl, hb⟩; exact ⟨rfl, hw'.trans (hb.mono hw'.size)⟩)
                           | (go_at_call 36; (with_reducible refine (PteC.pget_calls _ _ (by first | assumption | exact ⟨by omega, by omega⟩)).mono ?_); rintro e w2 ⟨rfl, hb⟩; exact ⟨rfl, hw'.trans (hb.mono hw'.size)⟩)
                           | (go_at_call 39; (with_reducible refine (PteC.leaf_calls _ _ _ _ _ _ _ _ _ _ _ _).mono ?_); rintro e w2 ⟨rfl, hb⟩; exact ⟨rfl, hw'.trans (hb.mono hw'.size)⟩)
                           | (go_at_call 41; (with_reducible refine (PteC.link_calls _ _ _ _ _ _ _ _ _ _ _ _).mono ?_); rintro e w2 ⟨rfl, hb⟩; exact ⟨rfl, hw'.trans (hb.mono hw'.size)⟩)
                           | (go_at_call 43; (with_reducible refine (PteC.bad_calls _ _ _ _ _ _ _ _ _ _ _ _ _ (by first | assumption | exact ⟨by omega, by omega⟩) (by first | assumption | exact ⟨by omega, by omega⟩) (by first | assumption | exact ⟨by omega, by omega⟩) (by omega) (by omega) (hG0.below hw' (Nat.le_refl _))).mono ?_); rintro e w2 ⟨rfl, hb⟩; exact ⟨rfl, hw'.trans (hb.mono hw'.size)⟩)
                           | (go_at_call 47; (with_reducible refine (PteC.perm_calls _ _ _ _ _ _ _ _ _ _ _ _).mono ?_); rintro e w2 ⟨rfl, hb⟩; exact ⟨rfl, hw'.trans (hb.mono hw'.size)⟩)
                           | (go_at_call 37; (with_reducible refine (PteR.rget_calls _ _ (by first | assumption | exact ⟨by omega, by omega⟩)).mono ?_); rintro e w2 ⟨rfl, hb⟩; exact ⟨rfl, hw'.trans (hb.mono hw'.size)⟩)
                           | (go_at_call 35; (with_reducible refine (PteR.rmay_calls _ _ _ _ _ _ _ _ _ _ _ _ (by first | assumption | exact ⟨by omega, by omega⟩) (by first | assumption | exact ⟨by omega, by omega⟩) (by first | assumption | exact ⟨by omega, by omega⟩)).mono ?_); rintro e w2 ⟨rfl, hb⟩; exact ⟨rfl, hw'.trans (hb.mono hw'.size)⟩)
                           | (go_at_call 40; (with_reducible refine (PteR.rleaf_calls _ _ _ _ _ _ _ _ _ _ _ _).mono ?_); rintro e w2 ⟨rfl, hb⟩; exact ⟨rfl, hw'.trans (hb.mono hw'.size)⟩)
                           | (go_at_call 42; (with_reducible refine (PteR.rlink_calls _ _ _ _ _ _ _ _ _ _ _ _).mono ?_); rintro e w2 ⟨rfl, hb⟩; exact ⟨rfl, hw'.trans (hb.mono hw'.size)⟩)
                           | (go_at_call 44; (with_reducible refine (PteR.rbad_calls _ _ _ _ _ _ _ _ _ _ _ _ _ (by first | assumption | exact ⟨by omega, by omega⟩) (by first | assumption | exact ⟨by omega, by omega⟩) (by first | assumption | exact ⟨by omega, by omega⟩) (by omega) (by omega)).mono ?_); rintro e w2 ⟨rfl, hb⟩; exact ⟨rfl, hw'.trans (hb.mono hw'.size)⟩)
                           | (go_at_call 46; (with_reducible refine (PteR.rmake_calls _ _ _ _ _ _ _).mono ?_); rintro e w2 ⟨rfl, hb⟩; exact ⟨rfl, hw'.trans (hb.mono hw'.size)⟩)
                           | (go_at_call 48; (with_reducible refine (PteR.rperm_calls _ _ _ _ _ _ _ _ _ _ _ _).mono ?_); rintro e w2 ⟨rfl, hb⟩; exact ⟨rfl, hw'.trans (hb.mono hw'.size)⟩)
                           | (go_at_call 45; (with_reducible refine (PteC.make_calls _ _ _ _ _ _ _).mono ?_); rintro e w2 ⟨rfl, hb⟩; exact ⟨rfl, hw'.trans (hb.mono hw'.size)⟩)
                           | (obtain ⟨hcc, _⟩ := bcell hw'; go_simp; done)
                           | (obtain ⟨hcc, _⟩ := bcell hw'; go_simp; rfl)
                         clear hK K))
            refine wpQuiet_nil ?_
            intro wz bz
            go_wp2
            go_ret
            exact ⟨rfl, bel_trans BY (bel_trans BM bz)⟩
  · refine region_below (by kernel_rfl) (by kernel_rfl) ?_
    repeat (with_reducible refine wpQuiet_step (fun K hK => ?_)
            go_simp
            first
              | (refine hK _ ?_; clear hK K)
              | (refine ⟨_, fun _ _ => rfl, hK _ ?_⟩; clear hK K)
              | (apply Exists.intro
                 refine ⟨fun w' hw' => ?_, hK _ ?_⟩
                 · first
                   | (go_at_call 34; (with_reducible refine (PteC.may_calls _ _ _ _ _ _ _ _ _ _ _ _ (by first | assumption | exact ⟨by omega, by omega⟩) (by first | assumption | exact ⟨by omega, by omega⟩) (by first | assumption | exact ⟨by omega, by omega⟩)).mono ?_); rintro e w2 ⟨rfl, hb⟩; exact ⟨rfl, hw'.trans (hb.mono hw'.size)⟩)
                   | (go_at_call 36; (with_reducible refine (PteC.pget_calls _ _ (by first | assumption | exact ⟨by omega, by omega⟩)).mono ?_); rintro e w2 ⟨rfl, hb⟩; exact ⟨rfl, hw'.trans (hb.mono hw'.size)⟩)
                   | (go_at_call 39; (with_reducible refine (PteC.leaf_calls _ _ _ _ _ _ _ _ _ _ _ _).mono ?_); rintro e w2 ⟨rfl, hb⟩; exact ⟨rfl, hw'.trans (hb.mono hw'.size)⟩)
                   | (go_at_call 41; (with_reducible refine (PteC.link_calls _ _ _ _ _ _ _ _ _ _ _ _).mono ?_); rintro e w2 ⟨rfl, hb⟩; exact ⟨rfl, hw'.trans (hb.mono hw'.size)⟩)
                   | (go_at_call 43; (with_reducible refine (PteC.bad_calls _ _ _ _ _ _ _ _ _ _ _ _ _ (by first | assumption | exact ⟨by omega, by omega⟩) (by first | assumption | exact ⟨by omega, by omega⟩) (by first | assumption | exact ⟨by omega, by omega⟩) (by omega) (by omega) (hG0.below hw' (Nat.le_refl _))).mono ?_); rintro e w2 ⟨rfl, hb⟩; exact ⟨rfl, hw'.trans (hb.mono hw'.size)⟩)
                   | (go_at_call 47; (with_reducible refine (PteC.perm_calls _ _ _ _ _ _ _ _ _ _ _ _).mono ?_); rintro e w2 ⟨rfl, hb⟩; exact ⟨rfl, hw'.trans (hb.mono hw'.size)⟩)
                   | (go_at_call 37; (with_reducible refine (PteR.rget_calls _ _ (by first | assumption | exact ⟨by omega, by omega⟩)).mono ?_); rintro e w2 ⟨rfl, hb⟩; exact ⟨rfl, hw'.trans (hb.mono hw'.size)⟩)
                   | (go_at_call 35; (with_reducible refine (PteR.rmay_calls _ _ _ _ _ _ _ _ _ _ _ _ (by first | assumption | exact ⟨by omega, by omega⟩) (by first | assumption | exact ⟨by omega, by omega⟩) (by first | assumption | exact ⟨by omega, by omega⟩)).mono ?_); rintro e w2 ⟨rfl, hb⟩; exact ⟨rfl, hw'.trans (hb.mono hw'.size)⟩)
                   | (go_at_call 40; (with_reducible refine (PteR.rleaf_calls _ _ _ _ _ _ _ _ _ _ _ _).mono ?_); rintro e w2 ⟨rfl, hb⟩; exact ⟨rfl, hw'.trans (hb.mono hw'.size)⟩)
                   | (go_at_call 42; (with_reducible refine (PteR.rlink_calls _ _ _ _ _ _ _ _ _ _ _ _).mono ?_); rintro e w2 ⟨rfl, hb⟩; exact ⟨rfl, hw'.trans (hb.mono hw'.size)⟩)
                   | (go_at_call 44; (with_reducible refine (PteR.rbad_calls _ _ _ _ _ _ _ _ _ _ _ _ _ (by first | assumption | exact ⟨by omega, by omega⟩) (by first | assumption | exact ⟨by omega, by omega⟩) (by first | assumption | exact ⟨by omega, by omega⟩) (by omega) (by omega)).mono ?_); rintro e w2 ⟨rfl, hb⟩; exact ⟨rfl, hw'.trans (hb.mono hw'.size)⟩)
                   | (go_at_call 46; (with_reducible refine (PteR.rmake_calls _ _ _ _ _ _ _).mono ?_); rintro e w2 ⟨rfl, hb⟩; exact ⟨rfl, hw'.trans (hb.mono hw'.size)⟩)
                   | (go_at_call 48; (with_reducible refine (PteR.rperm_calls _ _ _ _ _ _ _ _ _ _ _ _).mono ?_); rintro e w2 ⟨rfl, hb⟩; exact ⟨rfl, hw'.trans (hb.mono hw'.size)⟩)
                   | (go_at_call 45; (with_reducible refine (PteC.make_calls _ _ _ _ _ _ _).mono ?_); rintro e w2 ⟨rfl, hb⟩; exact ⟨rfl, hw'.trans (hb.mono hw'.size)⟩)
                   | (obtain ⟨hcc, _⟩ := bcell hw'; go_simp; done)
                   | (obtain ⟨hcc, _⟩ := bcell hw'; go_simp; rfl)
                 clear hK K))
    refine wpQuiet_nil ?_
    intro wa ba
    have BA := bel_trans B1 ba
    clear c1 B1 ba hG0 y0
    obtain ⟨ca, _⟩ := bcell BA
    go_wp2_with fail
    go_loopw [5] (fun i wr => ∃ k : Nat, 1 ≤ k ∧ k ≤ 3 ∧ i = .int .i64 k ∧ Below Wx.heap.size Wx wr) (fun i _ => 3 - (intOf i).toNat)
    case atStart => exact ⟨1, by omega, by omega, rfl, BA⟩
    case round =>
      obtain ⟨k, hk1, hk3, rfl, BR⟩ := hrel
      clear ca BA
      obtain ⟨cr, _⟩ := bcell BR
      have y0 : W.heap.size < wr.heap.size := Nat.lt_of_lt_of_le hz0 BR.size
      have y1 : W.heap.size + 1 < wr.heap.size := Nat.lt_of_lt_of_le hz1 BR.size
      have hGr : G wr := hG1.to BR
      by_cases hlt3 : k < 3
      · cases hb : badP ⟨false, r, w, x, u, g, a, d, rsw, ppn, high⟩ k
        all_goals cases hc : badP ⟨false, r, w, x, u, g, a, d, rsw, ppn, high⟩ ((k : Int) - 1)
        all_goals first
          | (exfalso; have q := ((HL k (by omega)).out hb hc).1; rw [hk] at q; exact absurd q (by decide))
          | ((try (have q2 := ((HL k (by omega)).out hb hc).2; have q3 : ((k : Int) == 1) = true := by simpa using q2))
             go_wp2_with (first
               | (go_at_call 43; (with_reducible refine (PteC.bad_calls _ _ _ _ _ _ _ _ _ _ _ _ _ h1 h2 h3 (by omega) (by omega) (by first | assumption | exact hGr.to (by repeat (first | (with_reducible exact Below.refl _ _) | (with_reducible apply bel_drewN) | (with_reducible apply bel_alloc) | (with_reducible apply bel_trans; rotate_left; with_reducible assumption) | (with_reducible refine bel_setCell _ _ _ (by first | omega | (simp; done) | (simp; omega) | (simp at *; omega)) ?_))))).mono ?_); rintro e wn ⟨rfl, hbn⟩; obtain ⟨hcn, hfn⟩ := bcell hbn; have hyn : W.heap.size < wn.heap.size := (by have q := hbn.size; (try simp at q); omega))
               | (go_at_call 41; (with_reducible refine (PteC.link_calls _ _ _ _ _ _ _ _ _ _ _ _).mono ?_); rintro e wn ⟨rfl, hbn⟩)
               | fail)
             all_goals first
               | exact ⟨⟨k + 1, by omega, by omega, by go_num, (by repeat (first | (with_reducible exact Below.refl _ _) | (with_reducible apply bel_drewN) | (with_reducible apply bel_alloc) | (with_reducible apply bel_trans; rotate_left; with_reducible assumption) | (with_reducible refine bel_setCell _ _ _ (by first | omega | (simp; done) | (simp; omega) | (simp at *; omega)) ?_)))⟩, by first | (simp [intOf]; done) | (simp [intOf]; omega)⟩
               | exact ⟨⟨2, by omega, by omega, rfl, (by repeat (first | (with_reducible exact Below.refl _ _) | (with_reducible apply bel_drewN) | (with_reducible apply bel_alloc) | (with_reducible apply bel_trans; rotate_left; with_reducible assumption) | (with_reducible refine bel_setCell _ _ _ (by first | omega | (simp; done) | (simp; omega) | (simp at *; omega)) ?_)))⟩, by first | (simp [intOf]; done) | (simp [intOf]; omega)⟩)
      · obtain ⟨wo, rfl⟩ : ∃ wo : World, wo = wr := ⟨_, rfl⟩
        go_wp2_with fail
        refine name_world (F := fun w1 => w1.cell? ⟨W.heap.size, 0, none⟩ = some (.bool false) ∧ w1.cell? ⟨W.heap.size, 1, none⟩ = some (.bool r) ∧ w1.cell? ⟨W.heap.size, 2, none⟩ = some (.bool w) ∧ w1.cell? ⟨W.heap.size, 3, none⟩ = some (.bool x) ∧ w1.cell? ⟨W.heap.size, 4, none⟩ = some (.bool u) ∧ w1.cell? ⟨W.heap.size, 5, none⟩ = some (.bool g) ∧ w1.cell? ⟨W.heap.size, 6, none⟩ = some (.bool a) ∧ w1.cell? ⟨W.heap.size, 7, none⟩ = some (.bool d) ∧ w1.cell? ⟨W.heap.size, 8, none⟩ = some (.int .u64 rsw) ∧ w1.cell? ⟨W.heap.size, 9, none⟩ = some (.int .u64 ppn) ∧ w1.cell? ⟨W.heap.size, 10, none⟩ = some (.int .u64 high) ∧ w1.cell? ⟨wo.heap.size, 0, none⟩ = some (.bool false) ∧ w1.cell? ⟨wo.heap.size, 1, none⟩ = some (.bool r) ∧ w1.cell? ⟨wo.heap.size, 2, none⟩ = some (.bool w) ∧ w1.cell? ⟨wo.heap.size, 3, none⟩ = some (.bool x) ∧ w1.cell? ⟨wo.heap.size, 4, none⟩ = some (.bool u) ∧ w1.cell? ⟨wo.heap.size, 5, none⟩ = some (.bool g2) ∧ w1.cell? ⟨wo.heap.size, 6, none⟩ = some (.bool a2) ∧ w1.cell? ⟨wo.heap.size, 7, none⟩ = some (.bool d2) ∧ w1.cell? ⟨wo.heap.size, 8, none⟩ = some (.int .u64 rsw2) ∧ w1.cell? ⟨wo.heap.size, 9, none⟩ = some (.int .u64 ppn) ∧ w1.cell? ⟨wo.heap.size, 10, none⟩ = some (.int .u64 high) ∧ W.heap.size < w1.heap.size ∧ wo.heap.size < w1.heap.size ∧ Below W.heap.size W w1) (by
          refine ⟨?_, ?_, ?_, ?_, ?_, ?_, ?_, ?_, ?_, ?_, ?_, ?_, ?_, ?_, ?_, ?_, ?_, ?_, ?_, ?_, ?_, ?_, ?_, ?_, ?_⟩
          all_goals first | (simp; done) | (rw [World.cell?_alloc_lt _ _ _ y0, cr _ _ hz0]; assumption) | (simp; omega) | (intro i; simp; done) | exact bel_alloc (bel_trans BX BR) _) ?_
        clear f0 p1 p2 p3 p4 p5 p6 p7 p8 p9 p10 q0 q1 q2 q3 q4 q5 q6 q7 q8 q9 q10 cr y0 y1
        rintro Wy ⟨f0, p1, p2, p3, p4, p5, p6, p7, p8, p9, p10, q0, q1, q2, q3, q4, q5, q6, q7, q8, q9, q10, hy0, hy1, BY⟩
        have hGy : G Wy := hG.to BY
        go_loopw [7] (fun i wr => ∃ j : Nat, j ≤ 3 ∧ i = .int .i64 j ∧ Below Wy.heap.size Wy wr) (fun i _ => 3 - (intOf i).toNat)
        case atStart => exact ⟨0, by omega, rfl, Below.refl _ _⟩
        case round =>
          obtain ⟨j, hj, rfl, bq⟩ := hrel
          obtain ⟨cq, _⟩ := bcell bq
          have y0 : W.heap.size < wr.heap.size := Nat.lt_of_lt_of_le hy0 bq.size
          have y1 : wo.heap.size < wr.heap.size := Nat.lt_of_lt_of_le hy1 bq.size
          have hG0 : G wr := hGy.to bq
          by_cases hj3 : j < 3
          · skip
            go_wp2_with fail
            refine region_below (by kernel_rfl) (by kernel_rfl) ?_
            repeat (with_reducible refine wpQuiet_step (fun K hK => ?_)
                    go_simp
                    first
                      | (refine hK _ ?_; clear hK K)
                      | (refine ⟨_, fun _ _ => rfl, hK _ ?_⟩; clear hK K)
                      | (apply Exists.intro
                         refine ⟨fun w' hw' => ?_, hK _ ?_⟩
                         · first
                           | (go_at_call 34; (with_reducible refine (PteC.may_calls _ _ _ _ _ _ _ _ _ _ _ _ (by first | assumption | exact ⟨by omega, by omega⟩) (by first | assumption | exact ⟨by omega, by omega⟩) (by first | assumption | exact ⟨by omega, by omega⟩)).mono ?_); rintro e w2 ⟨rfl, hb⟩; exact ⟨rfl, hw'.trans (hb.mono hw'.size)⟩)
                           | (go_at_call 36; (with_reducible refine (PteC.pget_calls _ _ (by first | assumption | exact ⟨by omega, by omega⟩)).mono ?_); rintro e w2 ⟨rfl, hb⟩; exact ⟨rfl, hw'.trans (hb.mono hw'.size)⟩)
                           | (go_at_call 39; (with_reducible refine (PteC.leaf_calls _ _ _ _ _ _ _ _ _ _ _ _).mono ?_); rintro e w2 ⟨rfl, hb⟩; exact ⟨rfl, hw'.trans (hb.mono hw'.size)⟩)
                           | (go_at_call 41; (with_reducible refine (PteC.link_calls _ _ _ _ _ _ _ _ _ _ _ _).mono ?_); rintro e w2 ⟨rfl, hb⟩; exact ⟨rfl, hw'.trans (hb.mono hw'.size)⟩)
                           | (go_at_call 43; (with_reducible refine (PteC.bad_calls _ _ _ _ _ _ _ _ _ _ _ _ _ (by first | assumption | exact ⟨by omega, by omega⟩) (by first | assumption | exact ⟨by omega, by omega⟩) (by first | assumption | exact ⟨by omega, by omega⟩) (by omega) (by omega) (hG0.below hw' (Nat.le_refl _))).mono ?_); rintro e w2 ⟨rfl, hb⟩; exact ⟨rfl, hw'.trans (hb.mono hw'.size)⟩)
                           | (go_at_call 47; (with_reducible refine (PteC.perm_calls _ _ _ _ _ _ _ _ _ _ _ _).mono ?_); rintro e w2 ⟨rfl, hb⟩; exact ⟨rfl, hw'.trans (hb.mono hw'.size)⟩)
                           | (go_at_call 37; (with_reducible refine (PteR.rget_calls _ _ (by first | assumption | exact ⟨by omega, by omega⟩)).mono ?_); rintro e w2 ⟨rfl, hb⟩; exact ⟨rfl, hw'.trans (hb.mono hw'.size)⟩)
                           | (go_at_call 35; (with_reducible refine (PteR.rmay_calls _ _ _ _ _ _ _ _ _ _ _ _ (by first | assumption | exact ⟨by omega, by omega⟩) (by first | assumption | exact ⟨by omega, by omega⟩) (by first | assumption | exact ⟨by omega, by omega⟩)).mono ?_); rintro e w2 ⟨rfl, hb⟩; exact ⟨rfl, hw'.trans (hb.mono hw'.size)⟩)
                           | (go_at_call 40; (with_reducible refine (PteR.rleaf_calls _ _ _ _ _ _ _ _ _ _ _ _).mono ?_); rintro e w2 ⟨rfl, hb⟩; exact ⟨rfl, hw'.trans (hb.mono hw'.size)⟩)
                           | (go_at_call 42; (with_reducible refine (PteR.rlink_calls _ _ _ _ _ _ _ _ _ _ _ _).mono ?_); rintro e w2 ⟨rfl, hb⟩; exact ⟨rfl, hw'.trans (hb.mono hw'.size)⟩)
                           | (go_at_call 44; (with_reducible refine (PteR.rbad_calls _ _ _ _ _ _ _ _ _ _ _ _ _ (by first | assumption | exact ⟨by omega, by omega⟩) (by first | assumption | exact ⟨by omega, by omega⟩) (by first | assumption | exact ⟨by omega, by omega⟩) (by omega) (by omega)).mono ?_); rintro e w2 ⟨rfl, hb⟩; exact ⟨rfl, hw'.trans (hb.mono hw'.size)⟩)
                           | (go_at_call 46; (with_reducible refine (PteR.rmake_calls _ _ _ _ _ _ _).mono ?_); rintro e w2 ⟨rfl, hb⟩; exact ⟨rfl, hw'.trans (hb.mono hw'.size)⟩)
                           | (go_at_call 48; (with_reducible refine (PteR.rperm_calls _ _ _ _ _ _ _ _ _ _ _ _).mono ?_); rintro e w2 ⟨rfl, hb⟩; exact ⟨rfl, hw'.trans (hb.mono hw'.size)⟩)
                           | (go_at_call 45; (with_reducible refine (PteC.make_calls _ _ _ _ _ _ _).mono ?_); rintro e w2 ⟨rfl, hb⟩; exact ⟨rfl, hw'.trans (hb.mono hw'.size)⟩)
                           | (obtain ⟨hcc, _⟩ := bcell hw'; go_simp; done)
                           | (obtain ⟨hcc, _⟩ := bcell hw'; go_simp; rfl)
                         clear hK K))
            refine wpQuiet_nil ?_
            intro wz bz
            have BZ := bel_trans bq bz
            go_wp2_with fail
            exact ⟨⟨j + 1, by omega, by go_num, BZ⟩, by first | (simp [intOf]; done) | (simp [intOf]; omega)⟩
          · obtain ⟨wb, rfl⟩ : ∃ wb : World, wb = wr := ⟨_, rfl⟩
            go_wp2_with fail
            refine RegR.region (Θ := Nat) [0, 0, 0, 0, 0, 0, 0, 1, 2] [0, 1, 2, 3, 4, 5, 6, 7, 8] (fun w' => Below wb.heap.size wb w') (fun _ n => .pointer (some ⟨n, 0, none⟩)) (fun _ n w' => wb.heap.size ≤ n ∧ ∃ c : Array Value, c.size = 11 ∧ MemL.Bx w' n c)
              (by kernel_rfl) (by kernel_rfl) (RegR.stab_below _ _ rfl) (fun _ n => RegR.stab_shape _ _ n) (Below.drew (Below.refl _ _)) ?_
            repeat (with_reducible refine RegR.can0 _ rfl rfl (fun K hK => ?_)
                    go_simp
                    first
                      | (refine hK _ ?_; clear hK K)
                      | (refine ⟨_, fun _ _ => rfl, hK _ ?_⟩; clear hK K)
                      | (apply Exists.intro
                         refine ⟨fun w' hw' => ?_, hK _ ?_⟩
                         · first
                           | (go_at_call 34; (with_reducible refine (PteC.may_calls _ _ _ _ _ _ _ _ _ _ _ _ (by first | assumption | exact ⟨by omega, by omega⟩) (by first | assumption | exact ⟨by omega, by omega⟩) (by first | assumption | exact ⟨by omega, by omega⟩)).mono ?_); rintro e w2 ⟨rfl, hb⟩; exact ⟨rfl, hb⟩)
                           | (go_at_call 36; (with_reducible refine (PteC.pget_calls _ _ (by first | assumption | exact ⟨by omega, by omega⟩)).mono ?_); rintro e w2 ⟨rfl, hb⟩; exact ⟨rfl, hb⟩)
                           | (go_at_call 39; (with_reducible refine (PteC.leaf_calls _ _ _ _ _ _ _ _ _ _ _ _).mono ?_); rintro e w2 ⟨rfl, hb⟩; exact ⟨rfl, hb⟩)
                           | (go_at_call 41; (with_reducible refine (PteC.link_calls _ _ _ _ _ _ _ _ _ _ _ _).mono ?_); rintro e w2 ⟨rfl, hb⟩; exact ⟨rfl, hb⟩)
                           | (go_at_call 43; (with_reducible refine (PteC.bad_calls _ _ _ _ _ _ _ _ _ _ _ _ _ (by first | assumption | exact ⟨by omega, by omega⟩) (by first | assumption | exact ⟨by omega, by omega⟩) (by first | assumption | exact ⟨by omega, by omega⟩) (by omega) (by omega) (hG0.below hw' (Nat.le_refl _))).mono ?_); rintro e w2 ⟨rfl, hb⟩; exact ⟨rfl, hb⟩)
                           | (go_at_call 47; (with_reducible refine (PteC.perm_calls _ _ _ _ _ _ _ _ _ _ _ _).mono ?_); rintro e w2 ⟨rfl, hb⟩; exact ⟨rfl, hb⟩)
                           | (go_at_call 37; (with_reducible refine (PteR.rget_calls _ _ (by first | assumption | exact ⟨by omega, by omega⟩)).mono ?_); rintro e w2 ⟨rfl, hb⟩; exact ⟨rfl, hb⟩)
                           | (go_at_call 35; (with_reducible refine (PteR.rmay_calls _ _ _ _ _ _ _ _ _ _ _ _ (by first | assumption | exact ⟨by omega, by omega⟩) (by first | assumption | exact ⟨by omega, by omega⟩) (by first | assumption | exact ⟨by omega, by omega⟩)).mono ?_); rintro e w2 ⟨rfl, hb⟩; exact ⟨rfl, hb⟩)
                           | (go_at_call 40; (with_reducible refine (PteR.rleaf_calls _ _ _ _ _ _ _ _ _ _ _ _).mono ?_); rintro e w2 ⟨rfl, hb⟩; exact ⟨rfl, hb⟩)
                           | (go_at_call 42; (with_reducible refine (PteR.rlink_calls _ _ _ _ _ _ _ _ _ _ _ _).mono ?_); rintro e w2 ⟨rfl, hb⟩; exact ⟨rfl, hb⟩)
                           | (go_at_call 44; (with_reducible refine (PteR.rbad_calls _ _ _ _ _ _ _ _ _ _ _ _ _ (by first | assumption | exact ⟨by omega, by omega⟩) (by first | assumption | exact ⟨by omega, by omega⟩) (by first | assumption | exact ⟨by omega, by omega⟩) (by omega) (by omega)).mono ?_); rintro e w2 ⟨rfl, hb⟩; exact ⟨rfl, hb⟩)
                           | (go_at_call 46; (with_reducible refine (PteR.rmake_calls _ _ _ _ _ _ _).mono ?_); rintro e w2 ⟨rfl, hb⟩; exact ⟨rfl, hb⟩)
                           | (go_at_call 48; (with_reducible refine (PteR.rperm_calls _ _ _ _ _ _ _ _ _ _ _ _).mono ?_); rintro e w2 ⟨rfl, hb⟩; exact ⟨rfl, hb⟩)
                           | (go_at_call 45; (with_reducible refine (PteC.make_calls _ _ _ _ _ _ _).mono ?_); rintro e w2 ⟨rfl, hb⟩; exact ⟨rfl, hb⟩)
                           | (obtain ⟨hcc, _⟩ := bcell hw'; go_simp; done)
                           | (obtain ⟨hcc, _⟩ := bcell hw'; go_simp; rfl)
                         clear hK K))
            refine RegR.can1_alloc _ rfl rfl rfl #[.bool false, .bool false, .bool false, .bool false, .bool false, .bool false, .bool false, .bool false, .int .u64 0, .int .u64 0, .int .u64 0] 24 wb.heap.size (fun w h => h.size) (fun w => by kernel_rfl) _ _ (fun _ => rfl) (fun _ _ => Iff.rfl) (fun N hN => ?_)
            refine RegR.can2_store _ rfl rfl rfl 24 _ _ rfl N #[.bool true, .bool r, .bool w, .bool x, .bool u, .bool g, .bool false, .bool false, .int .u64 0, .int .u64 ppn, .int .u64 0] rfl rfl (by kernel_rfl) (by simp [Value.oneCell']) rfl (fun w w' h b => ⟨trivial, RegR.stab_shape _ _ N w w' h.2 b⟩) (fun w h => h.2.2) (fun w h => ⟨trivial, h.2.1, _, rfl, h.2.2.elim fun c hc => hc.2.row_same⟩) (fun w h => MemL.below_row h hN _) ?_
            intro wm BM0 hD
            have x8 := hD.2.cell
            have l8 := hD.2.lt
            clear hD cq
            have BM := bel_trans bq BM0
            obtain ⟨cm, _⟩ := bcell BM
            have y0m : W.heap.size < wm.heap.size := Nat.lt_of_lt_of_le hy0 BM.size
            have hG0 : G wm := hGy.to BM
            go_wp2_with fail
            refine region_below (by kernel_rfl) (by kernel_rfl) ?_
            repeat (with_reducible refine wpQuiet_step (fun K hK => ?_)
                    go_simp
                    first
                      | (refine hK _ ?_; clear hK K)
                      | (refine ⟨_, fun _ _ => rfl, hK _ ?_⟩; clear hK K)
                      | (apply Exists.intro
                         refine ⟨fun w' hw' => ?_, hK _ ?_⟩
                         · first
                           | (go_at_call 34; (with_reducible refine (PteC.may_calls _ _ _ _ _ _ _ _ _ _ _ _ (by first | assumption | exact ⟨by omega, by omega⟩) (by first | assumption | exact ⟨by omega, by omega⟩) (by first | assumption | exact ⟨by omega, by omega⟩)).mono ?_); rintro e w2 ⟨rfl, hb⟩; exact ⟨rfl, hw'.trans (hb.mono hw'.size)⟩)
                           | (go_at_call 36; (with_reducible refine (PteC.pget_calls _ _ (by first | assumption | exact ⟨by omega, by omega⟩)).mono ?_); rintro e w2 ⟨rfl, hb⟩; exact ⟨rfl, hw'.trans (hb.mono hw'.size)⟩)
                           | (go_at_call 39; (with_reducible refine (PteC.leaf_calls _ _ _ _ _ _ _ _ _ _ _ _).mono ?_); rintro e w2 ⟨rfl, hb⟩; exact ⟨rfl, hw'.trans (hb.mono hw'.size)⟩)
                           | (go_at_call 41; (with_reducible refine (PteC.link_calls _ _ _ _ _ _ _ _ _ _ _ _).mono ?_); rintro e w2 ⟨rfl, hb⟩; exact ⟨rfl, hw'.trans (hb.mono hw'.size)⟩)
                           | (go_at_call 43; (with_reducible refine (PteC.bad_calls _ _ _ _ _ _ _ _ _ _ _ _ _ (by first | assumption | exact ⟨by omega, by omega⟩) (by first | assumption | exact ⟨by omega, by omega⟩) (by first | assumption | exact ⟨by omega, by omega⟩) (by omega) (by omega) (hG0.below hw' (Nat.le_refl _))).mono ?_); rintro e w2 ⟨rfl, hb⟩; exact ⟨rfl, hw'.trans (hb.mono hw'.size)⟩)
                           | (go_at_call 47; (with_reducible refine (PteC.perm_calls _ _ _ _ _ _ _ _ _ _ _ _).mono ?_); rintro e w2 ⟨rfl, hb⟩; exact ⟨rfl, hw'.trans (hb.mono hw'.size)⟩)
                           | (go_at_call 37; (with_reducible refine (PteR.rget_calls _ _ (by first | assumption | exact ⟨by omega, by omega⟩)).mono ?_); rintro e w2 ⟨rfl, hb⟩; exact ⟨rfl, hw'.trans (hb.mono hw'.size)⟩)
                           | (go_at_call 35; (with_reducible refine (PteR.rmay_calls _ _ _ _ _ _ _ _ _ _ _ _ (by first | assumption | exact ⟨by omega, by omega⟩) (by first | assumption | exact ⟨by omega, by omega⟩) (by first | assumption | exact ⟨by omega, by omega⟩)).mono ?_); rintro e w2 ⟨rfl, hb⟩; exact ⟨rfl, hw'.trans (hb.mono hw'.size)⟩)
                           | (go_at_call 40; (with_reducible refine (PteR.rleaf_calls _ _ _ _ _ _ _ _ _ _ _ _).mono ?_); rintro e w2 ⟨rfl, hb⟩; exact ⟨rfl, hw'.trans (hb.mono hw'.size)⟩)
                           | (go_at_call 42; (with_reducible refine (PteR.rlink_calls _ _ _ _ _ _ _ _ _ _ _ _).mono ?_); rintro e w2 ⟨rfl, hb⟩; exact ⟨rfl, hw'.trans (hb.mono hw'.size)⟩)
                           | (go_at_call 44; (with_reducible refine (PteR.rbad_calls _ _ _ _ _ _ _ _ _ _ _ _ _ (by first | assumption | exact ⟨by omega, by omega⟩) (by first | assumption | exact ⟨by omega, by omega⟩) (by first | assumption | exact ⟨by omega, by omega⟩) (by omega) (by omega)).mono ?_); rintro e w2 ⟨rfl, hb⟩; exact ⟨rfl, hw'.trans (hb.mono hw'.size)⟩)
                           | (go_at_call 46; (with_reducible refine (PteR.rmake_calls _ _ _ _ _ _ _).mono ?_); rintro e w2 ⟨rfl, hb⟩; exact ⟨rfl, hw'.trans (hb.mono hw'.size)⟩)
                           | (go_at_call 48; (with_reducible refine (PteR.rperm_calls _ _ _ _ _ _ _ _ _ _ _ _).mono ?_); rintro e w2 ⟨rfl, hb⟩; exact ⟨rfl, hw'.trans (hb.mono hw'.size)⟩)
                           | (go_at_call 45; (with_reducible refine (PteC.make_calls _ _ _ _ _ _ _).mono ?_); rintro e w2 ⟨rfl, hb⟩; exact ⟨rfl, hw'.trans (hb.mono hw'.size)⟩)
                           | (obtain ⟨hcc, _⟩ := bcell hw'; go_simp; done)
                           | (obtain ⟨hcc, _⟩ := bcell hw'; go_simp; rfl)
                         clear hK K))
            refine wpQuiet_nil ?_
            intro wz bz
            go_wp2
            go_ret
            exact ⟨rfl, bel_trans BY (bel_trans BM bz)⟩
end Go.Proofs.YtjgnckhbafgalaaDoor.PteOne
