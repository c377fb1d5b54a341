/- The walk of the law EntryAsks. -/
import Derived.Test.YtjgnckhbafgalaaDoorEntryL1
namespace Go.Proofs.YtjgnckhbafgalaaDoor.EntryL
open Go.RowKit Go.Proofs.YtjgnckhbafgalaaDoor.Bv Go.Proofs.YtjgnckhbafgalaaDoor.VaSpec Go.Proofs.YtjgnckhbafgalaaDoor.Base Go.Proofs.YtjgnckhbafgalaaDoor.BitsC Go.Proofs.YtjgnckhbafgalaaDoor.VaC Go.Proofs.YtjgnckhbafgalaaDoor.PteSpec Go.Proofs.YtjgnckhbafgalaaDoor.EntrySpec Go.Proofs.YtjgnckhbafgalaaDoor.EqS Go.Proofs.YtjgnckhbafgalaaDoor.QTail
set_option linter.unusedVariables false
set_option linter.unusedSimpArgs false
attribute [local go_sem high] eq_perm eq_pte eq_ent
open Go.Proofs.YtjgnckhbafgalaaDoor.EntryC (name_world)
open Go.Proofs.YtjgnckhbafgalaaDoor.EntryW (name_calls)
attribute [local go_sem] eqPerm_self eqPte_self eqEnt_self
set_option maxHeartbeats 8000000 in
theorem asks_walk (v : Bool) (si : Int) (gl : Bool) (lv vpn ppn : Int) (r w x u d : Bool) (vq : Bool) (siq : Int) (glq : Bool) (lvq vpnq ppnq : Int) (rq wq xq uq dq : Bool) (va asid : Int) (W : World) (n0 : U vpn) (p0 : U ppn) (s0 : U si) (nq0 : U vpnq) (pq0 : U ppnq) (sq0 : U siq) (ha : U va) (hG : G W) :
    Calls Tryd.prog 4 #[.agg #[.bool v, .int .u64 si, .bool gl, .int .i64 lv, .int .u64 vpn, .int .u64 ppn, .bool r, .bool w, .bool x, .bool u, .bool d], .agg #[.bool vq, .int .u64 siq, .bool glq, .int .i64 lvq, .int .u64 vpnq, .int .u64 ppnq, .bool rq, .bool wq, .bool xq, .bool uq, .bool dq], .int .u64 va, .int .u64 asid] W fun e w' => e = .returned (.bool true) ∧ Below W.heap.size W w' := by
  obtain ⟨a0, a1⟩ := ha
  go_enter Tryd.func4, Tryd.ntmps4
  go_wp2_with fail
  refine name_calls (F := fun w1 => w1.cell? ⟨W.heap.size, 0, none⟩ = some (.bool v) ∧ w1.cell? ⟨W.heap.size, 1, none⟩ = some (.int .u64 si) ∧ w1.cell? ⟨W.heap.size, 2, none⟩ = some (.bool gl) ∧ w1.cell? ⟨W.heap.size, 3, none⟩ = some (.int .i64 lv) ∧ w1.cell? ⟨W.heap.size, 4, none⟩ = some (.int .u64 vpn) ∧ w1.cell? ⟨W.heap.size, 5, none⟩ = some (.int .u64 ppn) ∧ w1.cell? ⟨W.heap.size, 6, none⟩ = some (.bool r) ∧ w1.cell? ⟨W.heap.size, 7, none⟩ = some (.bool w) ∧ w1.cell? ⟨W.heap.size, 8, none⟩ = some (.bool x) ∧ w1.cell? ⟨W.heap.size, 9, none⟩ = some (.bool u) ∧ w1.cell? ⟨W.heap.size, 10, none⟩ = some (.bool d) ∧ w1.cell? ⟨W.heap.size + 1, 0, none⟩ = some (.bool vq) ∧ w1.cell? ⟨W.heap.size + 1, 1, none⟩ = some (.int .u64 siq) ∧ w1.cell? ⟨W.heap.size + 1, 2, none⟩ = some (.bool glq) ∧ w1.cell? ⟨W.heap.size + 1, 3, none⟩ = some (.int .i64 lvq) ∧ w1.cell? ⟨W.heap.size + 1, 4, none⟩ = some (.int .u64 vpnq) ∧ w1.cell? ⟨W.heap.size + 1, 5, none⟩ = some (.int .u64 ppnq) ∧ w1.cell? ⟨W.heap.size + 1, 6, none⟩ = some (.bool rq) ∧ w1.cell? ⟨W.heap.size + 1, 7, none⟩ = some (.bool wq) ∧ w1.cell? ⟨W.heap.size + 1, 8, none⟩ = some (.bool xq) ∧ w1.cell? ⟨W.heap.size + 1, 9, none⟩ = some (.bool uq) ∧ w1.cell? ⟨W.heap.size + 1, 10, none⟩ = some (.bool dq) ∧ W.heap.size < w1.heap.size ∧ W.heap.size + 1 < w1.heap.size ∧ Below W.heap.size W w1) (by
    refine ⟨?_, ?_, ?_, ?_, ?_, ?_, ?_, ?_, ?_, ?_, ?_, ?_, ?_, ?_, ?_, ?_, ?_, ?_, ?_, ?_, ?_, ?_, ?_, ?_, ?_⟩
    all_goals first | (simp; done) | (simp; omega) | (intro i; simp; done) | exact (by repeat (first | (with_reducible exact Below.refl _ _) | (with_reducible apply bel_drewN) | (with_reducible apply bel_alloc) | (with_reducible apply bel_trans; rotate_left; with_reducible assumption) | (with_reducible refine bel_setCell _ _ _ (by first | omega | (simp; done) | (simp; omega) | (simp at *; omega)) ?_)))) ?_
  rintro Wx ⟨f0, p1, p2, p3, p4, p5, p6, p7, p8, p9, p10, q0, q1, q2, q3, q4, q5, q6, q7, q8, q9, q10, hz0, hz1, BX⟩
  have hG0 : G Wx := hG.to BX
  refine (EntryW.awake_calls Wx hG0).mono ?_
  rintro e w1 ⟨rfl, b_w1⟩
  have B_w1 := bel_trans (Below.refl _ _) b_w1
  clear b_w1
  obtain ⟨c_w1, _⟩ := bcell B_w1
  go_wp2_with fail
  refine (EntryR.rmay_calls _ _ _ _ _ _ _ _ _ _ _ _ n0 p0 s0).mono ?_
  rintro e w2 ⟨rfl, b_w2⟩
  clear c_w1
  have B_w2 := bel_trans B_w1 b_w2
  clear b_w2
  obtain ⟨c_w2, _⟩ := bcell B_w2
  cases hm : mayE ⟨v, si, gl, lv, vpn, ppn, ⟨r, w, x, u⟩, d⟩
  · go_wp2_with fail
    refine (EntryW.awake_calls _ (hG0.to B_w2)).mono ?_
    rintro e w9 ⟨rfl, b9⟩
    go_wp2
    go_ret
    exact ⟨rfl, bel_trans BX (bel_trans B_w2 b9)⟩
  go_wp2_with fail
  refine (EntryR.rmay_calls _ _ _ _ _ _ _ _ _ _ _ _ nq0 pq0 sq0).mono ?_
  rintro e w3 ⟨rfl, b_w3⟩
  clear c_w2
  have B_w3 := bel_trans B_w2 b_w3
  clear b_w3
  obtain ⟨c_w3, _⟩ := bcell B_w3
  cases hk : mayE ⟨vq, siq, glq, lvq, vpnq, ppnq, ⟨rq, wq, xq, uq⟩, dq⟩
  · go_wp2_with fail
    refine (EntryW.awake_calls _ (hG0.to B_w3)).mono ?_
    rintro e w9 ⟨rfl, b9⟩
    go_wp2
    go_ret
    exact ⟨rfl, bel_trans BX (bel_trans B_w3 b9)⟩
  go_wp2_with fail
  refine (VaR.ris_calls _ _).mono ?_
  rintro e w4 ⟨rfl, b4⟩
  have B_w4 := bel_trans B_w3 b4.below
  clear c_w3 b4
  obtain ⟨c_w4, _⟩ := bcell B_w4
  cases hi : isv va
  · go_wp2_with fail
    refine (EntryW.awake_calls _ (hG0.to B_w4)).mono ?_
    rintro e w9 ⟨rfl, b9⟩
    go_wp2
    go_ret
    exact ⟨rfl, bel_trans BX (bel_trans B_w4 b9)⟩
  go_wp2_with fail
  have hv1 : v = true → (0 ≤ lv ∧ lv ≤ 2) ∧ vpn < 134217728 ∧ vpn % pages lv = 0 := fun h => by have := mayE_valid hm h; simp only at this; omega
  have hl1 : v = true → 0 ≤ lv ∧ lv ≤ 2 := fun h => (hv1 h).1
  have hb1 := mayE_bd hm
  obtain ⟨⟨lo1, hi1⟩, np1, pp1⟩ := hb1
  simp only at lo1 hi1 np1 pp1
  have hv2 : vq = true → (0 ≤ lvq ∧ lvq ≤ 2) ∧ vpnq < 134217728 ∧ vpnq % pages lvq = 0 := fun h => by have := mayE_valid hk h; simp only at this; omega
  have hl2 : vq = true → 0 ≤ lvq ∧ lvq ≤ 2 := fun h => (hv2 h).1
  have hb2 := mayE_bd hk
  obtain ⟨⟨lo2, hi2⟩, np2, pp2⟩ := hb2
  simp only at lo2 hi2 np2 pp2
  obtain ⟨n00, n01⟩ := n0
  obtain ⟨q00, q01⟩ := nq0
  have s4 := B_w4.size
  have y0 : W.heap.size < w4.heap.size := Nat.lt_of_lt_of_le hz0 s4
  have y1 : W.heap.size + 1 < w4.heap.size := Nat.lt_of_lt_of_le hz1 s4
  have hG0' := hG0
  replace hG0 : G w4 := hG0'.to B_w4
  clear s4 B_w1 B_w2 B_w3
  refine region_below (by kernel_rfl) (by kernel_rfl) ?_
  repeat (with_reducible refine wpQuiet_step (fun K hK => ?_)
          go_simp
          first
            | (refine hK _ ?_; clear hK K)
            | (refine ⟨_, fun _ _ => rfl, hK _ ?_⟩; clear hK K)
            | (apply Exists.intro
               refine ⟨fun w' hw' => ?_, hK _ ?_⟩
               · first
                 | (go_at_call 13; (with_reducible refine (EntryW.awake_calls _ (hG0.below hw' (Nat.le_refl _))).mono ?_); rintro e w2 ⟨rfl, hb⟩; exact ⟨rfl, hw'.trans (hb.mono hw'.size)⟩)
                 | (go_at_call 14; (with_reducible refine (EntryC.may_calls _ _ _ _ _ _ _ _ _ _ _ _ (by first | assumption | omega | exact ⟨by omega, by omega⟩) (by first | assumption | omega | exact ⟨by omega, by omega⟩) (by first | assumption | omega | exact ⟨by omega, by omega⟩) (hG0.below hw' (Nat.le_refl _))).mono ?_); rintro e w2 ⟨rfl, hb⟩; exact ⟨rfl, hw'.trans (hb.mono hw'.size)⟩)
                 | (go_at_call 15; (with_reducible refine (EntryR.rmay_calls _ _ _ _ _ _ _ _ _ _ _ _ (by first | assumption | omega | exact ⟨by omega, by omega⟩) (by first | assumption | omega | exact ⟨by omega, by omega⟩) (by first | assumption | omega | exact ⟨by omega, by omega⟩)).mono ?_); rintro e w2 ⟨rfl, hb⟩; exact ⟨rfl, hw'.trans (hb.mono hw'.size)⟩)
                 | (go_at_call 16; (with_reducible refine (EntryR.leaf_calls _ _ _ _ _ _ _ _ _ _ _ _ _ _ (by first | assumption | omega | exact ⟨by omega, by omega⟩) (hG0.below hw' (Nat.le_refl _))).mono ?_); rintro e w2 ⟨rfl, hb⟩; exact ⟨rfl, hw'.trans (hb.mono hw'.size)⟩)
                 | (go_at_call 17; (with_reducible refine (VaR.ris_calls _ _ ).mono ?_); rintro e w2 ⟨rfl, hb⟩; exact ⟨rfl, hw'.trans (hb.below.mono hw'.size)⟩)
                 | (go_at_call 18; (with_reducible refine (EntryC.of_calls _ _ _ _ _ _ _ _ _ _ _ _ _ _ _ _ (by first | assumption | omega | exact ⟨by omega, by omega⟩) (by first | assumption | omega | exact ⟨by omega, by omega⟩) (by first | assumption | omega | exact ⟨by omega, by omega⟩) (by first | assumption | omega | exact ⟨by omega, by omega⟩) (hG0.below hw' (Nat.le_refl _))).mono ?_); rintro e w2 ⟨rfl, hb⟩; exact ⟨rfl, hw'.trans (hb.mono hw'.size)⟩)
                 | (go_at_call 19; (with_reducible refine (EntryR.rof_calls _ _ _ _ _ _ _ _ _ _ _ _ _ _ _ _ (by first | assumption | omega | exact ⟨by omega, by omega⟩) (by first | assumption | omega | exact ⟨by omega, by omega⟩) (by first | assumption | omega | exact ⟨by omega, by omega⟩) (by first | assumption | omega | exact ⟨by omega, by omega⟩) (hG0.below hw' (Nat.le_refl _))).mono ?_); rintro e w2 ⟨rfl, hb⟩; exact ⟨rfl, hw'.trans (hb.mono hw'.size)⟩)
                 | (go_at_call 20; (with_reducible refine (EntryC.covers_calls _ _ _ _ _ _ _ _ _ _ _ _ _ (by first | assumption | omega | exact ⟨by omega, by omega⟩) (by first | assumption | omega | exact ⟨by omega, by omega⟩) (by first | assumption | omega | exact ⟨by omega, by omega⟩) (hG0.below hw' (Nat.le_refl _))).mono ?_); rintro e w2 ⟨rfl, hb⟩; exact ⟨rfl, hw'.trans (hb.mono hw'.size)⟩)
                 | (go_at_call 21; (with_reducible refine (EntryR.rcovers_calls _ _ _ _ _ _ _ _ _ _ _ _ _ (by first | assumption | omega | exact ⟨by omega, by omega⟩) (by first | assumption | omega | exact ⟨by omega, by omega⟩) (by first | assumption | omega | exact ⟨by omega, by omega⟩) (by first | assumption | omega | exact ⟨by omega, by omega⟩) (hG0.below hw' (Nat.le_refl _))).mono ?_); rintro e w2 ⟨rfl, hb⟩; exact ⟨rfl, hw'.trans (hb.mono hw'.size)⟩)
                 | (go_at_call 22; (with_reducible refine (EntryC.matches_calls _ _ _ _ _ _ _ _ _ _ _ _ _ _ (by first | assumption | omega | exact ⟨by omega, by omega⟩) (by first | assumption | omega | exact ⟨by omega, by omega⟩) (by first | assumption | omega | exact ⟨by omega, by omega⟩) (hG0.below hw' (Nat.le_refl _))).mono ?_); rintro e w2 ⟨rfl, hb⟩; exact ⟨rfl, hw'.trans (hb.mono hw'.size)⟩)
                 | (go_at_call 23; (with_reducible refine (EntryR.rmatches_calls _ _ _ _ _ _ _ _ _ _ _ _ _ _ (by first | assumption | omega | exact ⟨by omega, by omega⟩) (by first | assumption | omega | exact ⟨by omega, by omega⟩) (by first | assumption | omega | exact ⟨by omega, by omega⟩) (by first | assumption | omega | exact ⟨by omega, by omega⟩) (hG0.below hw' (Nat.le_refl _))).mono ?_); rintro e w2 ⟨rfl, hb⟩; exact ⟨rfl, hw'.trans (hb.mono hw'.size)⟩)
                 | (go_at_call 24; (with_reducible refine (EntryC.over_calls _ _ _ _ _ _ _ _ _ _ _ _ _ _ _ _ _ _ _ _ _ _ _ (by first | assumption | omega | exact ⟨by omega, by omega⟩) (by first | assumption | omega | exact ⟨by omega, by omega⟩) (by first | assumption | omega | exact ⟨by omega, by omega⟩) (by first | assumption | omega | exact ⟨by omega, by omega⟩) (hG0.below hw' (Nat.le_refl _))).mono ?_); rintro e w2 ⟨rfl, hb⟩; exact ⟨rfl, hw'.trans (hb.mono hw'.size)⟩)
                 | (go_at_call 25; (with_reducible refine (EntryR.rover_calls _ _ _ _ _ _ _ _ _ _ _ _ _ _ _ _ _ _ _ _ _ _ _ (by first | assumption | omega | exact ⟨by omega, by omega⟩) (by first | assumption | omega | exact ⟨by omega, by omega⟩) (by first | assumption | omega | exact ⟨by omega, by omega⟩) (by first | assumption | omega | exact ⟨by omega, by omega⟩) (hG0.below hw' (Nat.le_refl _))).mono ?_); rintro e w2 ⟨rfl, hb⟩; exact ⟨rfl, hw'.trans (hb.mono hw'.size)⟩)
                 | (go_at_call 26; (with_reducible refine (EntryC.phys_calls _ _ _ _ _ _ _ _ _ _ _ _ _ (by first | assumption | omega | exact ⟨by omega, by omega⟩) (by first | assumption | omega | exact ⟨by omega, by omega⟩) (by first | assumption | omega | exact ⟨by omega, by omega⟩) (by first | assumption | omega | exact ⟨by omega, by omega⟩) (by first | assumption | omega | exact ⟨by omega, by omega⟩) (by first | assumption | omega | exact ⟨by omega, by omega⟩) (hG0.below hw' (Nat.le_refl _))).mono ?_); rintro e w2 ⟨rfl, hb⟩; exact ⟨rfl, hw'.trans (hb.mono hw'.size)⟩)
                 | (go_at_call 27; (with_reducible refine (EntryR.rphys_calls _ _ _ _ _ _ _ _ _ _ _ _ _ (by first | assumption | omega | exact ⟨by omega, by omega⟩) (by first | assumption | omega | exact ⟨by omega, by omega⟩) (by first | assumption | omega | exact ⟨by omega, by omega⟩) (by first | assumption | omega | exact ⟨by omega, by omega⟩) (by first | assumption | omega | exact ⟨by omega, by omega⟩) (by first | assumption | omega | exact ⟨by omega, by omega⟩) (hG0.below hw' (Nat.le_refl _))).mono ?_); rintro e w2 ⟨rfl, hb⟩; exact ⟨rfl, hw'.trans (hb.mono hw'.size)⟩)
                 | (go_at_call 29; (with_reducible refine (EntryR.phys10_calls _ _ _ _ _ _ _ _ _ _ _ _ _ _ _ (by first | assumption | omega | exact ⟨by omega, by omega⟩) (by first | assumption | omega | exact ⟨by omega, by omega⟩) (by first | assumption | omega | exact ⟨by omega, by omega⟩) (by first | assumption | omega | exact ⟨by omega, by omega⟩) (by first | assumption | omega | exact ⟨by omega, by omega⟩) (by first | assumption | omega | exact ⟨by omega, by omega⟩) (hG0.below hw' (Nat.le_refl _))).mono ?_); rintro e w2 ⟨rfl, hb⟩; exact ⟨rfl, hw'.trans (hb.mono hw'.size)⟩)
                 | (go_at_call 28; (with_reducible refine (VaR.rbase_calls _ _ _ (by first | assumption | omega | exact ⟨by omega, by omega⟩) (by first | assumption | omega | exact ⟨by omega, by omega⟩) (by first | assumption | omega | exact ⟨by omega, by omega⟩) (by first | assumption | omega | exact ⟨by omega, by omega⟩)).mono ?_); rintro e w2 ⟨rfl, hb⟩; exact ⟨rfl, hw'.trans (hb.below.mono hw'.size)⟩)
                 | (go_at_call 30; (with_reducible refine (VaR.rof_calls _ _ (by first | assumption | omega | exact ⟨by omega, by omega⟩) (by first | assumption | omega | exact ⟨by omega, by omega⟩)).mono ?_); rintro e w2 ⟨rfl, hb⟩; exact ⟨rfl, hw'.trans (hb.mono hw'.size)⟩)
                 | (go_at_call 31; (with_reducible refine (EntryR.rpages_calls _ _ (by first | assumption | omega | exact ⟨by omega, by omega⟩) (by first | assumption | omega | exact ⟨by omega, by omega⟩)).mono ?_); rintro e w2 ⟨rfl, hb⟩; exact ⟨rfl, hw'.trans (hb.below.mono hw'.size)⟩)
                 | (obtain ⟨hcc, _⟩ := bcell hw'; go_simp; done)
                 | (obtain ⟨hcc, _⟩ := bcell hw'; go_simp; rfl)
               clear hK K))
  refine wpQuiet_nil ?_
  intro w5 b5
  have B_w5 := bel_trans B_w4 b5
  clear c_w4 b5 y0 y1
  obtain ⟨c_w5, _⟩ := bcell B_w5
  have s5 := B_w5.size
  have y0 : W.heap.size < w5.heap.size := Nat.lt_of_lt_of_le hz0 s5
  have y1 : W.heap.size + 1 < w5.heap.size := Nat.lt_of_lt_of_le hz1 s5
  replace hG0 : G w5 := hG0'.to B_w5
  clear s5 B_w4
  go_wp2_with fail
  cases hc : coversE ⟨v, si, gl, lv, vpn, ppn, ⟨r, w, x, u⟩, d⟩ va
  · refine region_below (by kernel_rfl) (by kernel_rfl) ?_
    repeat (with_reducible refine wpQuiet_step (fun K hK => ?_)
            go_simp
            first
              | (refine hK _ ?_; clear hK K)
              | (refine ⟨_, fun _ _ => rfl, hK _ ?_⟩; clear hK K)
              | (apply Exists.intro
                 refine ⟨fun w' hw' => ?_, hK _ ?_⟩
                 · first
                   | (go_at_call 13; (with_reducible refine (EntryW.awake_calls _ (hG0.below hw' (Nat.le_refl _))).mono ?_); rintro e w2 ⟨rfl, hb⟩; exact ⟨rfl, hw'.trans (hb.mono hw'.size)⟩)
                   | (go_at_call 14; (with_reducible refine (EntryC.may_calls _ _ _ _ _ _ _ _ _ _ _ _ (by first | assumption | omega | exact ⟨by omega, by omega⟩) (by first | assumption | omega | exact ⟨by omega, by omega⟩) (by first | assumption | omega | exact ⟨by omega, by omega⟩) (hG0.below hw' (Nat.le_refl _))).mono ?_); rintro e w2 ⟨rfl, hb⟩; exact ⟨rfl, hw'.trans (hb.mono hw'.size)⟩)
                   | (go_at_call 15; (with_reducible refine (EntryR.rmay_calls _ _ _ _ _ _ _ _ _ _ _ _ (by first | assumption | omega | exact ⟨by omega, by omega⟩) (by first | assumption | omega | exact ⟨by omega, by omega⟩) (by first | assumption | omega | exact ⟨by omega, by omega⟩)).mono ?_); rintro e w2 ⟨rfl, hb⟩; exact ⟨rfl, hw'.trans (hb.mono hw'.size)⟩)
                   | (go_at_call 16; (with_reducible refine (EntryR.leaf_calls _ _ _ _ _ _ _ _ _ _ _ _ _ _ (by first | assumption | omega | exact ⟨by omega, by omega⟩) (hG0.below hw' (Nat.le_refl _))).mono ?_); rintro e w2 ⟨rfl, hb⟩; exact ⟨rfl, hw'.trans (hb.mono hw'.size)⟩)
                   | (go_at_call 17; (with_reducible refine (VaR.ris_calls _ _ ).mono ?_); rintro e w2 ⟨rfl, hb⟩; exact ⟨rfl, hw'.trans (hb.below.mono hw'.size)⟩)
                   | (go_at_call 18; (with_reducible refine (EntryC.of_calls _ _ _ _ _ _ _ _ _ _ _ _ _ _ _ _ (by first | assumption | omega | exact ⟨by omega, by omega⟩) (by first | assumption | omega | exact ⟨by omega, by omega⟩) (by first | assumption | omega | exact ⟨by omega, by omega⟩) (by first | assumption | omega | exact ⟨by omega, by omega⟩) (hG0.below hw' (Nat.le_refl _))).mono ?_); rintro e w2 ⟨rfl, hb⟩; exact ⟨rfl, hw'.trans (hb.mono hw'.size)⟩)
                   | (go_at_call 19; (with_reducible refine (EntryR.rof_calls _ _ _ _ _ _ _ _ _ _ _ _ _ _ _ _ (by first | assumption | omega | exact ⟨by omega, by omega⟩) (by first | assumption | omega | exact ⟨by omega, by omega⟩) (by first | assumption | omega | exact ⟨by omega, by omega⟩) (by first | assumption | omega | exact ⟨by omega, by omega⟩) (hG0.below hw' (Nat.le_refl _))).mono ?_); rintro e w2 ⟨rfl, hb⟩; exact ⟨rfl, hw'.trans (hb.mono hw'.size)⟩)
                   | (go_at_call 20; (with_reducible refine (EntryC.covers_calls _ _ _ _ _ _ _ _ _ _ _ _ _ (by first | assumption | omega | exact ⟨by omega, by omega⟩) (by first | assumption | omega | exact ⟨by omega, by omega⟩) (by first | assumption | omega | exact ⟨by omega, by omega⟩) (hG0.below hw' (Nat.le_refl _))).mono ?_); rintro e w2 ⟨rfl, hb⟩; exact ⟨rfl, hw'.trans (hb.mono hw'.size)⟩)
                   | (go_at_call 21; (with_reducible refine (EntryR.rcovers_calls _ _ _ _ _ _ _ _ _ _ _ _ _ (by first | assumption | omega | exact ⟨by omega, by omega⟩) (by first | assumption | omega | exact ⟨by omega, by omega⟩) (by first | assumption | omega | exact ⟨by omega, by omega⟩) (by first | assumption | omega | exact ⟨by omega, by omega⟩) (hG0.below hw' (Nat.le_refl _))).mono ?_); rintro e w2 ⟨rfl, hb⟩; exact ⟨rfl, hw'.trans (hb.mono hw'.size)⟩)
                   | (go_at_call 22; (with_reducible refine (EntryC.matches_calls _ _ _ _ _ _ _ _ _ _ _ _ _ _ (by first | assumption | omega | exact ⟨by omega, by omega⟩) (by first | assumption | omega | exact ⟨by omega, by omega⟩) (by first | assumption | omega | exact ⟨by omega, by omega⟩) (hG0.below hw' (Nat.le_refl _))).mono ?_); rintro e w2 ⟨rfl, hb⟩; exact ⟨rfl, hw'.trans (hb.mono hw'.size)⟩)
                   | (go_at_call 23; (with_reducible refine (EntryR.rmatches_calls _ _ _ _ _ _ _ _ _ _ _ _ _ _ (by first | assumption | omega | exact ⟨by omega, by omega⟩) (by first | assumption | omega | exact ⟨by omega, by omega⟩) (by first | assumption | omega | exact ⟨by omega, by omega⟩) (by first | assumption | omega | exact ⟨by omega, by omega⟩) (hG0.below hw' (Nat.le_refl _))).mono ?_); rintro e w2 ⟨rfl, hb⟩; exact ⟨rfl, hw'.trans (hb.mono hw'.size)⟩)
                   | (go_at_call 24; (with_reducible refine (EntryC.over_calls _ _ _ _ _ _ _ _ _ _ _ _ _ _ _ _ _ _ _ _ _ _ _ (by first | assumption | omega | exact ⟨by omega, by omega⟩) (by first | assumption | omega | exact ⟨by omega, by omega⟩) (by first | assumption | omega | exact ⟨by omega, by omega⟩) (by first | assumption | omega | exact ⟨by omega, by omega⟩) (hG0.below hw' (Nat.le_refl _))).mono ?_); rintro e w2 ⟨rfl, hb⟩; exact ⟨rfl, hw'.trans (hb.mono hw'.size)⟩)
                   | (go_at_call 25; (with_reducible refine (EntryR.rover_calls _ _ _ _ _ _ _ _ _ _ _ _ _ _ _ _ _ _ _ _ _ _ _ (by first | assumption | omega | exact ⟨by omega, by omega⟩) (by first | assumption | omega | exact ⟨by omega, by omega⟩) (by first | assumption | omega | exact ⟨by omega, by omega⟩) (by first | assumption | omega | exact ⟨by omega, by omega⟩) (hG0.below hw' (Nat.le_refl _))).mono ?_); rintro e w2 ⟨rfl, hb⟩; exact ⟨rfl, hw'.trans (hb.mono hw'.size)⟩)
                   | (go_at_call 26; (with_reducible refine (EntryC.phys_calls _ _ _ _ _ _ _ _ _ _ _ _ _ (by first | assumption | omega | exact ⟨by omega, by omega⟩) (by first | assumption | omega | exact ⟨by omega, by omega⟩) (by first | assumption | omega | exact ⟨by omega, by omega⟩) (by first | assumption | omega | exact ⟨by omega, by omega⟩) (by first | assumption | omega | exact ⟨by omega, by omega⟩) (by first | assumption | omega | exact ⟨by omega, by omega⟩) (hG0.below hw' (Nat.le_refl _))).mono ?_); rintro e w2 ⟨rfl, hb⟩; exact ⟨rfl, hw'.trans (hb.mono hw'.size)⟩)
                   | (go_at_call 27; (with_reducible refine (EntryR.rphys_calls _ _ _ _ _ _ _ _ _ _ _ _ _ (by first | assumption | omega | exact ⟨by omega, by omega⟩) (by first | assumption | omega | exact ⟨by omega, by omega⟩) (by first | assumption | omega | exact ⟨by omega, by omega⟩) (by first | assumption | omega | exact ⟨by omega, by omega⟩) (by first | assumption | omega | exact ⟨by omega, by omega⟩) (by first | assumption | omega | exact ⟨by omega, by omega⟩) (hG0.below hw' (Nat.le_refl _))).mono ?_); rintro e w2 ⟨rfl, hb⟩; exact ⟨rfl, hw'.trans (hb.mono hw'.size)⟩)
                   | (go_at_call 29; (with_reducible refine (EntryR.phys10_calls _ _ _ _ _ _ _ _ _ _ _ _ _ _ _ (by first | assumption | omega | exact ⟨by omega, by omega⟩) (by first | assumption | omega | exact ⟨by omega, by omega⟩) (by first | assumption | omega | exact ⟨by omega, by omega⟩) (by first | assumption | omega | exact ⟨by omega, by omega⟩) (by first | assumption | omega | exact ⟨by omega, by omega⟩) (by first | assumption | omega | exact ⟨by omega, by omega⟩) (hG0.below hw' (Nat.le_refl _))).mono ?_); rintro e w2 ⟨rfl, hb⟩; exact ⟨rfl, hw'.trans (hb.mono hw'.size)⟩)
                   | (go_at_call 28; (with_reducible refine (VaR.rbase_calls _ _ _ (by first | assumption | omega | exact ⟨by omega, by omega⟩) (by first | assumption | omega | exact ⟨by omega, by omega⟩) (by first | assumption | omega | exact ⟨by omega, by omega⟩) (by first | assumption | omega | exact ⟨by omega, by omega⟩)).mono ?_); rintro e w2 ⟨rfl, hb⟩; exact ⟨rfl, hw'.trans (hb.below.mono hw'.size)⟩)
                   | (go_at_call 30; (with_reducible refine (VaR.rof_calls _ _ (by first | assumption | omega | exact ⟨by omega, by omega⟩) (by first | assumption | omega | exact ⟨by omega, by omega⟩)).mono ?_); rintro e w2 ⟨rfl, hb⟩; exact ⟨rfl, hw'.trans (hb.mono hw'.size)⟩)
                   | (go_at_call 31; (with_reducible refine (EntryR.rpages_calls _ _ (by first | assumption | omega | exact ⟨by omega, by omega⟩) (by first | assumption | omega | exact ⟨by omega, by omega⟩)).mono ?_); rintro e w2 ⟨rfl, hb⟩; exact ⟨rfl, hw'.trans (hb.below.mono hw'.size)⟩)
                   | (obtain ⟨hcc, _⟩ := bcell hw'; go_simp; done)
                   | (obtain ⟨hcc, _⟩ := bcell hw'; go_simp; rfl)
                 clear hK K))
    refine wpQuiet_nil ?_
    intro w8 b8
    go_wp2
    go_ret
    exact ⟨rfl, bel_trans BX (bel_trans B_w5 b8)⟩
  · refine region_below (by kernel_rfl) (by kernel_rfl) ?_
    repeat (with_reducible refine wpQuiet_step (fun K hK => ?_)
            go_simp
            first
              | (refine hK _ ?_; clear hK K)
              | (refine ⟨_, fun _ _ => rfl, hK _ ?_⟩; clear hK K)
              | (apply Exists.intro
                 refine ⟨fun w' hw' => ?_, hK _ ?_⟩
                 · first
                   | (go_at_call 13; (with_reducible refine (EntryW.awake_calls _ (hG0.below hw' (Nat.le_refl _))).mono ?_); rintro e w2 ⟨rfl, hb⟩; exact ⟨rfl, hw'.trans (hb.mono hw'.size)⟩)
                   | (go_at_call 14; (with_reducible refine (EntryC.may_calls _ _ _ _ _ _ _ _ _ _ _ _ (by first | assumption | omega | exact ⟨by omega, by omega⟩) (by first | assumption | omega | exact ⟨by omega, by omega⟩) (by first | assumption | omega | exact ⟨by omega, by omega⟩) (hG0.below hw' (Nat.le_refl _))).mono ?_); rintro e w2 ⟨rfl, hb⟩; exact ⟨rfl, hw'.trans (hb.mono hw'.size)⟩)
                   | (go_at_call 15; (with_reducible refine (EntryR.rmay_calls _ _ _ _ _ _ _ _ _ _ _ _ (by first | assumption | omega | exact ⟨by omega, by omega⟩) (by first | assumption | omega | exact ⟨by omega, by omega⟩) (by first | assumption | omega | exact ⟨by omega, by omega⟩)).mono ?_); rintro e w2 ⟨rfl, hb⟩; exact ⟨rfl, hw'.trans (hb.mono hw'.size)⟩)
                   | (go_at_call 16; (with_reducible refine (EntryR.leaf_calls _ _ _ _ _ _ _ _ _ _ _ _ _ _ (by first | assumption | omega | exact ⟨by omega, by omega⟩) (hG0.below hw' (Nat.le_refl _))).mono ?_); rintro e w2 ⟨rfl, hb⟩; exact ⟨rfl, hw'.trans (hb.mono hw'.size)⟩)
                   | (go_at_call 17; (with_reducible refine (VaR.ris_calls _ _ ).mono ?_); rintro e w2 ⟨rfl, hb⟩; exact ⟨rfl, hw'.trans (hb.below.mono hw'.size)⟩)
                   | (go_at_call 18; (with_reducible refine (EntryC.of_calls _ _ _ _ _ _ _ _ _ _ _ _ _ _ _ _ (by first | assumption | omega | exact ⟨by omega, by omega⟩) (by first | assumption | omega | exact ⟨by omega, by omega⟩) (by first | assumption | omega | exact ⟨by omega, by omega⟩) (by first | assumption | omega | exact ⟨by omega, by omega⟩) (hG0.below hw' (Nat.le_refl _))).mono ?_); rintro e w2 ⟨rfl, hb⟩; exact ⟨rfl, hw'.trans (hb.mono hw'.size)⟩)
                   | (go_at_call 19; (with_reducible refine (EntryR.rof_calls _ _ _ _ _ _ _ _ _ _ _ _ _ _ _ _ (by first | assumption | omega | exact ⟨by omega, by omega⟩) (by first | assumption | omega | exact ⟨by omega, by omega⟩) (by first | assumption | omega | exact ⟨by omega, by omega⟩) (by first | assumption | omega | exact ⟨by omega, by omega⟩) (hG0.below hw' (Nat.le_refl _))).mono ?_); rintro e w2 ⟨rfl, hb⟩; exact ⟨rfl, hw'.trans (hb.mono hw'.size)⟩)
                   | (go_at_call 20; (with_reducible refine (EntryC.covers_calls _ _ _ _ _ _ _ _ _ _ _ _ _ (by first | assumption | omega | exact ⟨by omega, by omega⟩) (by first | assumption | omega | exact ⟨by omega, by omega⟩) (by first | assumption | omega | exact ⟨by omega, by omega⟩) (hG0.below hw' (Nat.le_refl _))).mono ?_); rintro e w2 ⟨rfl, hb⟩; exact ⟨rfl, hw'.trans (hb.mono hw'.size)⟩)
                   | (go_at_call 21; (with_reducible refine (EntryR.rcovers_calls _ _ _ _ _ _ _ _ _ _ _ _ _ (by first | assumption | omega | exact ⟨by omega, by omega⟩) (by first | assumption | omega | exact ⟨by omega, by omega⟩) (by first | assumption | omega | exact ⟨by omega, by omega⟩) (by first | assumption | omega | exact ⟨by omega, by omega⟩) (hG0.below hw' (Nat.le_refl _))).mono ?_); rintro e w2 ⟨rfl, hb⟩; exact ⟨rfl, hw'.trans (hb.mono hw'.size)⟩)
                   | (go_at_call 22; (with_reducible refine (EntryC.matches_calls _ _ _ _ _ _ _ _ _ _ _ _ _ _ (by first | assumption | omega | exact ⟨by omega, by omega⟩) (by first | assumption | omega | exact ⟨by omega, by omega⟩) (by first | assumption | omega | exact ⟨by omega, by omega⟩) (hG0.below hw' (Nat.le_refl _))).mono ?_); rintro e w2 ⟨rfl, hb⟩; exact ⟨rfl, hw'.trans (hb.mono hw'.size)⟩)
                   | (go_at_call 23; (with_reducible refine (EntryR.rmatches_calls _ _ _ _ _ _ _ _ _ _ _ _ _ _ (by first | assumption | omega | exact ⟨by omega, by omega⟩) (by first | assumption | omega | exact ⟨by omega, by omega⟩) (by first | assumption | omega | exact ⟨by omega, by omega⟩) (by first | assumption | omega | exact ⟨by omega, by omega⟩) (hG0.below hw' (Nat.le_refl _))).mono ?_); rintro e w2 ⟨rfl, hb⟩; exact ⟨rfl, hw'.trans (hb.mono hw'.size)⟩)
                   | (go_at_call 24; (with_reducible refine (EntryC.over_calls _ _ _ _ _ _ _ _ _ _ _ _ _ _ _ _ _ _ _ _ _ _ _ (by first | assumption | omega | exact ⟨by omega, by omega⟩) (by first | assumption | omega | exact ⟨by omega, by omega⟩) (by first | assumption | omega | exact ⟨by omega, by omega⟩) (by first | assumption | omega | exact ⟨by omega, by omega⟩) (hG0.below hw' (Nat.le_refl _))).mono ?_); rintro e w2 ⟨rfl, hb⟩; exact ⟨rfl, hw'.trans (hb.mono hw'.size)⟩)
                   | (go_at_call 25; (with_reducible refine (EntryR.rover_calls _ _ _ _ _ _ _ _ _ _ _ _ _ _ _ _ _ _ _ _ _ _ _ (by first | assumption | omega | exact ⟨by omega, by omega⟩) (by first | assumption | omega | exact ⟨by omega, by omega⟩) (by first | assumption | omega | exact ⟨by omega, by omega⟩) (by first | assumption | omega | exact ⟨by omega, by omega⟩) (hG0.below hw' (Nat.le_refl _))).mono ?_); rintro e w2 ⟨rfl, hb⟩; exact ⟨rfl, hw'.trans (hb.mono hw'.size)⟩)
                   | (go_at_call 26; (with_reducible refine (EntryC.phys_calls _ _ _ _ _ _ _ _ _ _ _ _ _ (by first | assumption | omega | exact ⟨by omega, by omega⟩) (by first | assumption | omega | exact ⟨by omega, by omega⟩) (by first | assumption | omega | exact ⟨by omega, by omega⟩) (by first | assumption | omega | exact ⟨by omega, by omega⟩) (by first | assumption | omega | exact ⟨by omega, by omega⟩) (by first | assumption | omega | exact ⟨by omega, by omega⟩) (hG0.below hw' (Nat.le_refl _))).mono ?_); rintro e w2 ⟨rfl, hb⟩; exact ⟨rfl, hw'.trans (hb.mono hw'.size)⟩)
                   | (go_at_call 27; (with_reducible refine (EntryR.rphys_calls _ _ _ _ _ _ _ _ _ _ _ _ _ (by first | assumption | omega | exact ⟨by omega, by omega⟩) (by first | assumption | omega | exact ⟨by omega, by omega⟩) (by first | assumption | omega | exact ⟨by omega, by omega⟩) (by first | assumption | omega | exact ⟨by omega, by omega⟩) (by first | assumption | omega | exact ⟨by omega, by omega⟩) (by first | assumption | omega | exact ⟨by omega, by omega⟩) (hG0.below hw' (Nat.le_refl _))).mono ?_); rintro e w2 ⟨rfl, hb⟩; exact ⟨rfl, hw'.trans (hb.mono hw'.size)⟩)
                   | (go_at_call 29; (with_reducible refine (EntryR.phys10_calls _ _ _ _ _ _ _ _ _ _ _ _ _ _ _ (by first | assumption | omega | exact ⟨by omega, by omega⟩) (by first | assumption | omega | exact ⟨by omega, by omega⟩) (by first | assumption | omega | exact ⟨by omega, by omega⟩) (by first | assumption | omega | exact ⟨by omega, by omega⟩) (by first | assumption | omega | exact ⟨by omega, by omega⟩) (by first | assumption | omega | exact ⟨by omega, by omega⟩) (hG0.below hw' (Nat.le_refl _))).mono ?_); rintro e w2 ⟨rfl, hb⟩; exact ⟨rfl, hw'.trans (hb.mono hw'.size)⟩)
                   | (go_at_call 28; (with_reducible refine (VaR.rbase_calls _ _ _ (by first | assumption | omega | exact ⟨by omega, by omega⟩) (by first | assumption | omega | exact ⟨by omega, by omega⟩) (by first | assumption | omega | exact ⟨by omega, by omega⟩) (by first | assumption | omega | exact ⟨by omega, by omega⟩)).mono ?_); rintro e w2 ⟨rfl, hb⟩; exact ⟨rfl, hw'.trans (hb.below.mono hw'.size)⟩)
                   | (go_at_call 30; (with_reducible refine (VaR.rof_calls _ _ (by first | assumption | omega | exact ⟨by omega, by omega⟩) (by first | assumption | omega | exact ⟨by omega, by omega⟩)).mono ?_); rintro e w2 ⟨rfl, hb⟩; exact ⟨rfl, hw'.trans (hb.mono hw'.size)⟩)
                   | (go_at_call 31; (with_reducible refine (EntryR.rpages_calls _ _ (by first | assumption | omega | exact ⟨by omega, by omega⟩) (by first | assumption | omega | exact ⟨by omega, by omega⟩)).mono ?_); rintro e w2 ⟨rfl, hb⟩; exact ⟨rfl, hw'.trans (hb.below.mono hw'.size)⟩)
                   | (obtain ⟨hcc, _⟩ := bcell hw'; go_simp; done)
                   | (obtain ⟨hcc, _⟩ := bcell hw'; go_simp; rfl)
                 clear hK K))
    refine wpQuiet_nil ?_
    intro w8 b8
    go_wp2
    go_ret
    exact ⟨rfl, bel_trans BX (bel_trans B_w5 b8)⟩
end Go.Proofs.YtjgnckhbafgalaaDoor.EntryL
