/- The walk of the law EntryOver. -/
import Derived.Test.YtjgnckhbafgalaaDoorEntryL1
import Derived.Test.YtjgnckhbafgalaaDoorEntryP
import Derived.Test.YtjgnckhbafgalaaDoorVaR3
namespace Go.Proofs.YtjgnckhbafgalaaDoor.EntryL4
open Go.RowKit Go.Proofs.YtjgnckhbafgalaaDoor.Bv Go.Proofs.YtjgnckhbafgalaaDoor.VaSpec Go.Proofs.YtjgnckhbafgalaaDoor.Base Go.Proofs.YtjgnckhbafgalaaDoor.BitsC Go.Proofs.YtjgnckhbafgalaaDoor.VaC Go.Proofs.YtjgnckhbafgalaaDoor.PteSpec Go.Proofs.YtjgnckhbafgalaaDoor.EntrySpec Go.Proofs.YtjgnckhbafgalaaDoor.EqS Go.Proofs.YtjgnckhbafgalaaDoor.QTail
set_option linter.unusedVariables false
set_option linter.unusedSimpArgs false
attribute [local go_sem high] eq_perm eq_pte eq_ent
open Go.Proofs.YtjgnckhbafgalaaDoor.EntryC (name_world)
open Go.Proofs.YtjgnckhbafgalaaDoor.EntryW (name_calls)
attribute [local go_sem] eqPerm_self eqPte_self eqEnt_self
set_option maxHeartbeats 8000000 in
theorem over_walk (v : Bool) (si : Int) (gl : Bool) (lv vpn ppn : Int) (r w x u d : Bool) (vq : Bool) (siq : Int) (glq : Bool) (lvq vpnq ppnq : Int) (rq wq xq uq dq : Bool) (va : Int) (W : World) (n0 : U vpn) (p0 : U ppn) (s0 : U si) (nq0 : U vpnq) (pq0 : U ppnq) (sq0 : U siq) (ha : U va) (hG : G W) :
    Calls Tryd.prog 6 #[.agg #[.bool v, .int .u64 si, .bool gl, .int .i64 lv, .int .u64 vpn, .int .u64 ppn, .bool r, .bool w, .bool x, .bool u, .bool d], .agg #[.bool vq, .int .u64 siq, .bool glq, .int .i64 lvq, .int .u64 vpnq, .int .u64 ppnq, .bool rq, .bool wq, .bool xq, .bool uq, .bool dq], .int .u64 va] W fun e w' => e = .returned (.bool true) ∧ Below W.heap.size W w' := by
  obtain ⟨a0, a1⟩ := ha
  go_enter Tryd.func6, Tryd.ntmps6
  go_wp2_with fail
  refine name_calls (F := fun w1 => w1.cell? ⟨W.heap.size, 0, none⟩ = some (.bool v) ∧ w1.cell? ⟨W.heap.size, 1, none⟩ = some (.int .u64 si) ∧ w1.cell? ⟨W.heap.size, 2, none⟩ = some (.bool gl) ∧ w1.cell? ⟨W.heap.size, 3, none⟩ = some (.int .i64 lv) ∧ w1.cell? ⟨W.heap.size, 4, none⟩ = some (.int .u64 vpn) ∧ w1.cell? ⟨W.heap.size, 5, none⟩ = some (.int .u64 ppn) ∧ w1.cell? ⟨W.heap.size, 6, none⟩ = some (.bool r) ∧ w1.cell? ⟨W.heap.size, 7, none⟩ = some (.bool w) ∧ w1.cell? ⟨W.heap.size, 8, none⟩ = some (.bool x) ∧ w1.cell? ⟨W.heap.size, 9, none⟩ = some (.bool u) ∧ w1.cell? ⟨W.heap.size, 10, none⟩ = some (.bool d) ∧ w1.cell? ⟨W.heap.size + 1, 0, none⟩ = some (.bool vq) ∧ w1.cell? ⟨W.heap.size + 1, 1, none⟩ = some (.int .u64 siq) ∧ w1.cell? ⟨W.heap.size + 1, 2, none⟩ = some (.bool glq) ∧ w1.cell? ⟨W.heap.size + 1, 3, none⟩ = some (.int .i64 lvq) ∧ w1.cell? ⟨W.heap.size + 1, 4, none⟩ = some (.int .u64 vpnq) ∧ w1.cell? ⟨W.heap.size + 1, 5, none⟩ = some (.int .u64 ppnq) ∧ w1.cell? ⟨W.heap.size + 1, 6, none⟩ = some (.bool rq) ∧ w1.cell? ⟨W.heap.size + 1, 7, none⟩ = some (.bool wq) ∧ w1.cell? ⟨W.heap.size + 1, 8, none⟩ = some (.bool xq) ∧ w1.cell? ⟨W.heap.size + 1, 9, none⟩ = some (.bool uq) ∧ w1.cell? ⟨W.heap.size + 1, 10, none⟩ = some (.bool dq) ∧ W.heap.size < w1.heap.size ∧ W.heap.size + 1 < w1.heap.size ∧ Below W.heap.size W w1) (by
    refine ⟨?_, ?_, ?_, ?_, ?_, ?_, ?_, ?_, ?_, ?_, ?_, ?_, ?_, ?_, ?_, ?_, ?_, ?_, ?_, ?_, ?_, ?_, ?_, ?_, ?_⟩
    all_goals first | (simp; done) | (simp; omega) | (intro i; simp; done) | exact (by repeat (first | (with_reducible exact Below.refl _ _) | (with_reducible apply bel_drewN) | (with_reducible apply bel_alloc) | (with_reducible apply bel_trans; rotate_left; with_reducible assumption) | (with_reducible refine bel_setCell _ _ _ (by first | omega | (simp; done) | (simp; omega) | (simp at *; omega)) ?_)))) ?_
  rintro Wx ⟨f0, p1, p2, p3, p4, p5, p6, p7, p8, p9, p10, q0, q1, q2, q3, q4, q5, q6, q7, q8, q9, q10, hz0, hz1, BX⟩
  have hG0 : G Wx := hG.to BX
  refine (EntryW.awake_calls Wx hG0).mono ?_
  rintro e w1 ⟨rfl, bw1⟩
  have Bw1 := bel_trans (Below.refl _ _) bw1
  obtain ⟨cw1, _⟩ := bcell Bw1
  go_wp2_with fail
  refine (EntryR.rmay_calls _ _ _ _ _ _ _ _ _ _ _ _ n0 p0 s0).mono ?_
  rintro e w2 ⟨rfl, bw2⟩
  have Bw2 := bel_trans Bw1 bw2
  clear cw1 bw2
  obtain ⟨cw2, _⟩ := bcell Bw2
  cases hm : mayE ⟨v, si, gl, lv, vpn, ppn, ⟨r, w, x, u⟩, d⟩
  · go_wp2_with fail
    refine (EntryW.awake_calls _ (hG0.to Bw2)).mono ?_
    rintro e w9 ⟨rfl, b9⟩
    go_wp2
    go_ret
    exact ⟨rfl, bel_trans BX (bel_trans Bw2 b9)⟩
  go_wp2_with fail
  refine (EntryR.rmay_calls _ _ _ _ _ _ _ _ _ _ _ _ nq0 pq0 sq0).mono ?_
  rintro e w3 ⟨rfl, bw3⟩
  have Bw3 := bel_trans Bw2 bw3
  clear cw2 bw3
  obtain ⟨cw3, _⟩ := bcell Bw3
  cases hk : mayE ⟨vq, siq, glq, lvq, vpnq, ppnq, ⟨rq, wq, xq, uq⟩, dq⟩
  · go_wp2_with fail
    refine (EntryW.awake_calls _ (hG0.to Bw3)).mono ?_
    rintro e w9 ⟨rfl, b9⟩
    go_wp2
    go_ret
    exact ⟨rfl, bel_trans BX (bel_trans Bw3 b9)⟩
  go_wp2_with fail
  refine (VaR.ris_calls _ _).mono ?_
  rintro e w4 ⟨rfl, bw4⟩
  have Bw4 := bel_trans Bw3 bw4.below
  clear cw3 bw4
  obtain ⟨cw4, _⟩ := bcell Bw4
  cases hi : isv va
  · go_wp2_with fail
    refine (EntryW.awake_calls _ (hG0.to Bw4)).mono ?_
    rintro e w9 ⟨rfl, b9⟩
    go_wp2
    go_ret
    exact ⟨rfl, bel_trans BX (bel_trans Bw4 b9)⟩
  have hl1 : v = true → 0 ≤ lv ∧ lv ≤ 2 := fun h => by have := mayE_valid hm h; simp only at this; omega
  have hl2 : vq = true → 0 ≤ lvq ∧ lvq ≤ 2 := fun h => by have := mayE_valid hk h; simp only at this; omega
  obtain ⟨n00, n01⟩ := n0
  obtain ⟨q00, q01⟩ := nq0
  have hfe := EntryP.over_comm ⟨v, si, gl, lv, vpn, ppn, ⟨r, w, x, u⟩, d⟩ ⟨vq, siq, glq, lvq, vpnq, ppnq, ⟨rq, wq, xq, uq⟩, dq⟩ n00 q00 hm hk
  have hee := EntryP.over_self ⟨v, si, gl, lv, vpn, ppn, ⟨r, w, x, u⟩, d⟩ n00 hm
  have hco := Lib.hid (EntryP.over_of_covers ⟨v, si, gl, lv, vpn, ppn, ⟨r, w, x, u⟩, d⟩ ⟨vq, siq, glq, lvq, vpnq, ppnq, ⟨rq, wq, xq, uq⟩, dq⟩ va a0 n00 q00 hm hk)
  have hoc := Lib.hid (EntryP.over_covers ⟨v, si, gl, lv, vpn, ppn, ⟨r, w, x, u⟩, d⟩ ⟨vq, siq, glq, lvq, vpnq, ppnq, ⟨rq, wq, xq, uq⟩, dq⟩ n00 q00 hm hk)
  have HM := Lib.hid hm
  have HK := Lib.hid hk
  simp only at hee
  have hG1 := hG0
  clear hG0 hm hk Bw1 Bw2 Bw3
  obtain ⟨oa0, oa1⟩ := VaC.ofv_bd vpn
  obtain ⟨ob0, ob1⟩ := VaC.ofv_bd vpnq
  go_wp2_with fail
  refine (EntryC.over_calls _ _ _ _ _ _ _ _ _ _ _ _ _ _ _ _ _ _ _ _ _ _ _ hl1 hl2 ⟨n00, n01⟩ ⟨q00, q01⟩ (hG1.to Bw4)).mono ?_
  rintro e w5 ⟨rfl, bw5⟩
  have Bw5 := bel_trans Bw4 bw5
  clear cw4 bw5
  obtain ⟨cw5, _⟩ := bcell Bw5
  cases ho : overE ⟨v, si, gl, lv, vpn, ppn, ⟨r, w, x, u⟩, d⟩ ⟨vq, siq, glq, lvq, vpnq, ppnq, ⟨rq, wq, xq, uq⟩, dq⟩
  · rw [ho] at hfe
    cases h1 : coversE ⟨v, si, gl, lv, vpn, ppn, ⟨r, w, x, u⟩, d⟩ va
    · have y0 : W.heap.size < w5.heap.size := Nat.lt_of_lt_of_le hz0 Bw5.size
      have y1 : W.heap.size + 1 < w5.heap.size := Nat.lt_of_lt_of_le hz1 Bw5.size
      have hG0 : G w5 := hG1.to Bw5
      go_wp2_with fail
      refine region_below (by kernel_rfl) (by kernel_rfl) ?_
      repeat (with_reducible refine wpQuiet_step (fun K hK => ?_)
              go_simp
              first
                | (refine hK _ ?_; clear hK K)
                | (refine ⟨_, fun _ _ => rfl, hK _ ?_⟩; clear hK K)
                | (apply Exists.intro
                   refine ⟨fun w' hw' => ?_, hK _ ?_⟩
                   · first
                     | (go_at_call 13; (with_reducible refine (EntryW.awake_calls _ (hG0.below hw' (Nat.le_refl _))).mono ?_); rintro e w2 ⟨rfl, hb⟩; exact ⟨rfl, hw'.trans (hb.mono hw'.size)⟩)
                     | (go_at_call 14; (with_reducible refine (EntryC.may_calls _ _ _ _ _ _ _ _ _ _ _ _ (by first | assumption | omega | exact ⟨by omega, by omega⟩) (by first | assumption | omega | exact ⟨by omega, by omega⟩) (by first | assumption | omega | exact ⟨by omega, by omega⟩) (hG0.below hw' (Nat.le_refl _))).mono ?_); rintro e w2 ⟨rfl, hb⟩; exact ⟨rfl, hw'.trans (hb.mono hw'.size)⟩)
                     | (go_at_call 15; (with_reducible refine (EntryR.rmay_calls _ _ _ _ _ _ _ _ _ _ _ _ (by first | assumption | omega | exact ⟨by omega, by omega⟩) (by first | assumption | omega | exact ⟨by omega, by omega⟩) (by first | assumption | omega | exact ⟨by omega, by omega⟩)).mono ?_); rintro e w2 ⟨rfl, hb⟩; exact ⟨rfl, hw'.trans (hb.mono hw'.size)⟩)
                     | (go_at_call 16; (with_reducible refine (EntryR.leaf_calls _ _ _ _ _ _ _ _ _ _ _ _ _ _ (by first | assumption | omega | exact ⟨by omega, by omega⟩) (hG0.below hw' (Nat.le_refl _))).mono ?_); rintro e w2 ⟨rfl, hb⟩; exact ⟨rfl, hw'.trans (hb.mono hw'.size)⟩)
                     | (go_at_call 17; (with_reducible refine (VaR.ris_calls _ _ ).mono ?_); rintro e w2 ⟨rfl, hb⟩; exact ⟨rfl, hw'.trans (hb.below.mono hw'.size)⟩)
                     | (go_at_call 18; (with_reducible refine (EntryC.of_calls _ _ _ _ _ _ _ _ _ _ _ _ _ _ _ _ (by first | assumption | omega | exact ⟨by omega, by omega⟩) (by first | assumption | omega | exact ⟨by omega, by omega⟩) (by first | assumption | omega | exact ⟨by omega, by omega⟩) (by first | assumption | omega | exact ⟨by omega, by omega⟩) (hG0.below hw' (Nat.le_refl _))).mono ?_); rintro e w2 ⟨rfl, hb⟩; exact ⟨rfl, hw'.trans (hb.mono hw'.size)⟩)
                     | (go_at_call 19; (with_reducible refine (EntryR.rof_calls _ _ _ _ _ _ _ _ _ _ _ _ _ _ _ _ (by first | assumption | omega | exact ⟨by omega, by omega⟩) (by first | assumption | omega | exact ⟨by omega, by omega⟩) (by first | assumption | omega | exact ⟨by omega, by omega⟩) (by first | assumption | omega | exact ⟨by omega, by omega⟩) (hG0.below hw' (Nat.le_refl _))).mono ?_); rintro e w2 ⟨rfl, hb⟩; exact ⟨rfl, hw'.trans (hb.mono hw'.size)⟩)
                     | (go_at_call 20; (with_reducible refine (EntryC.covers_calls _ _ _ _ _ _ _ _ _ _ _ _ _ (by first | assumption | omega | exact ⟨by omega, by omega⟩) (by first | assumption | omega | exact ⟨by omega, by omega⟩) (by first | assumption | omega | exact ⟨by omega, by omega⟩) (hG0.below hw' (Nat.le_refl _))).mono ?_); rintro e w2 ⟨rfl, hb⟩; exact ⟨rfl, hw'.trans (hb.mono hw'.size)⟩)
                     | (go_at_call 21; (with_reducible refine (EntryR.rcovers_calls _ _ _ _ _ _ _ _ _ _ _ _ _ (by first | assumption | omega | exact ⟨by omega, by omega⟩) (by first | assumption | omega | exact ⟨by omega, by omega⟩) (by first | assumption | omega | exact ⟨by omega, by omega⟩) (by first | assumption | omega | exact ⟨by omega, by omega⟩) (hG0.below hw' (Nat.le_refl _))).mono ?_); rintro e w2 ⟨rfl, hb⟩; exact ⟨rfl, hw'.trans (hb.mono hw'.size)⟩)
                     | (go_at_call 22; (with_reducible refine (EntryC.matches_calls _ _ _ _ _ _ _ _ _ _ _ _ _ _ (by first | assumption | omega | exact ⟨by omega, by omega⟩) (by first | assumption | omega | exact ⟨by omega, by omega⟩) (by first | assumption | omega | exact ⟨by omega, by omega⟩) (hG0.below hw' (Nat.le_refl _))).mono ?_); rintro e w2 ⟨rfl, hb⟩; exact ⟨rfl, hw'.trans (hb.mono hw'.size)⟩)
                     | (go_at_call 23; (with_reducible refine (EntryR.rmatches_calls _ _ _ _ _ _ _ _ _ _ _ _ _ _ (by first | assumption | omega | exact ⟨by omega, by omega⟩) (by first | assumption | omega | exact ⟨by omega, by omega⟩) (by first | assumption | omega | exact ⟨by omega, by omega⟩) (by first | assumption | omega | exact ⟨by omega, by omega⟩) (hG0.below hw' (Nat.le_refl _))).mono ?_); rintro e w2 ⟨rfl, hb⟩; exact ⟨rfl, hw'.trans (hb.mono hw'.size)⟩)
                     | (go_at_call 24; (with_reducible refine (EntryC.over_calls _ _ _ _ _ _ _ _ _ _ _ _ _ _ _ _ _ _ _ _ _ _ _ (by first | assumption | omega | exact ⟨by omega, by omega⟩) (by first | assumption | omega | exact ⟨by omega, by omega⟩) (by first | assumption | omega | exact ⟨by omega, by omega⟩) (by first | assumption | omega | exact ⟨by omega, by omega⟩) (hG0.below hw' (Nat.le_refl _))).mono ?_); rintro e w2 ⟨rfl, hb⟩; exact ⟨rfl, hw'.trans (hb.mono hw'.size)⟩)
                     | (go_at_call 25; (with_reducible refine (EntryR.rover_calls _ _ _ _ _ _ _ _ _ _ _ _ _ _ _ _ _ _ _ _ _ _ _ (by first | assumption | omega | exact ⟨by omega, by omega⟩) (by first | assumption | omega | exact ⟨by omega, by omega⟩) (by first | assumption | omega | exact ⟨by omega, by omega⟩) (by first | assumption | omega | exact ⟨by omega, by omega⟩) (hG0.below hw' (Nat.le_refl _))).mono ?_); rintro e w2 ⟨rfl, hb⟩; exact ⟨rfl, hw'.trans (hb.mono hw'.size)⟩)
                     | (go_at_call 26; (with_reducible refine (EntryC.phys_calls _ _ _ _ _ _ _ _ _ _ _ _ _ (by first | assumption | omega | exact ⟨by omega, by omega⟩) (by first | assumption | omega | exact ⟨by omega, by omega⟩) (by first | assumption | omega | exact ⟨by omega, by omega⟩) (by first | assumption | omega | exact ⟨by omega, by omega⟩) (by first | assumption | omega | exact ⟨by omega, by omega⟩) (by first | assumption | omega | exact ⟨by omega, by omega⟩) (hG0.below hw' (Nat.le_refl _))).mono ?_); rintro e w2 ⟨rfl, hb⟩; exact ⟨rfl, hw'.trans (hb.mono hw'.size)⟩)
                     | (go_at_call 27; (with_reducible refine (EntryR.rphys_calls _ _ _ _ _ _ _ _ _ _ _ _ _ (by first | assumption | omega | exact ⟨by omega, by omega⟩) (by first | assumption | omega | exact ⟨by omega, by omega⟩) (by first | assumption | omega | exact ⟨by omega, by omega⟩) (by first | assumption | omega | exact ⟨by omega, by omega⟩) (by first | assumption | omega | exact ⟨by omega, by omega⟩) (by first | assumption | omega | exact ⟨by omega, by omega⟩) (hG0.below hw' (Nat.le_refl _))).mono ?_); rintro e w2 ⟨rfl, hb⟩; exact ⟨rfl, hw'.trans (hb.mono hw'.size)⟩)
                     | (go_at_call 29; (with_reducible refine (EntryR.phys10_calls _ _ _ _ _ _ _ _ _ _ _ _ _ _ _ (by first | assumption | omega | exact ⟨by omega, by omega⟩) (by first | assumption | omega | exact ⟨by omega, by omega⟩) (by first | assumption | omega | exact ⟨by omega, by omega⟩) (by first | assumption | omega | exact ⟨by omega, by omega⟩) (by first | assumption | omega | exact ⟨by omega, by omega⟩) (by first | assumption | omega | exact ⟨by omega, by omega⟩) (hG0.below hw' (Nat.le_refl _))).mono ?_); rintro e w2 ⟨rfl, hb⟩; exact ⟨rfl, hw'.trans (hb.mono hw'.size)⟩)
                     | (go_at_call 28; (with_reducible refine (VaR.rbase_calls _ _ _ (by first | assumption | omega | exact ⟨by omega, by omega⟩) (by first | assumption | omega | exact ⟨by omega, by omega⟩) (by first | assumption | omega | exact ⟨by omega, by omega⟩) (by first | assumption | omega | exact ⟨by omega, by omega⟩)).mono ?_); rintro e w2 ⟨rfl, hb⟩; exact ⟨rfl, hw'.trans (hb.below.mono hw'.size)⟩)
                     | (go_at_call 30; (with_reducible refine (VaR.rof_calls _ _ (by first | assumption | omega | exact ⟨by omega, by omega⟩) (by first | assumption | omega | exact ⟨by omega, by omega⟩)).mono ?_); rintro e w2 ⟨rfl, hb⟩; exact ⟨rfl, hw'.trans (hb.mono hw'.size)⟩)
                     | (go_at_call 31; (with_reducible refine (EntryR.rpages_calls _ _ (by first | assumption | omega | exact ⟨by omega, by omega⟩) (by first | assumption | omega | exact ⟨by omega, by omega⟩)).mono ?_); rintro e w2 ⟨rfl, hb⟩; exact ⟨rfl, hw'.trans (hb.below.mono hw'.size)⟩)
                     | (obtain ⟨hcc, _⟩ := bcell hw'; go_simp; done)
                     | (obtain ⟨hcc, _⟩ := bcell hw'; go_simp; rfl)
                   clear hK K))
      refine wpQuiet_nil ?_
      intro w6 bw6
      have Bw6 := bel_trans Bw5 bw6
      clear cw5 bw6 y0 y1 hG0
      obtain ⟨cw6, _⟩ := bcell Bw6
      go_wp2_with fail
      refine (VaR.rof_calls _ _ n00 n01).mono ?_
      rintro e w7 ⟨rfl, bw7⟩
      have Bw7 := bel_trans Bw6 bw7
      clear cw6 bw7
      obtain ⟨cw7, _⟩ := bcell Bw7
      go_wp2_with fail
      refine (VaR.rof_calls _ _ q00 q01).mono ?_
      rintro e w8 ⟨rfl, bw8⟩
      have Bw8 := bel_trans Bw7 bw8
      clear cw7 bw8
      obtain ⟨cw8, _⟩ := bcell Bw8
      go_wp2
      go_ret
      exact ⟨rfl, bel_trans BX Bw8⟩
    · cases h2 : coversE ⟨vq, siq, glq, lvq, vpnq, ppnq, ⟨rq, wq, xq, uq⟩, dq⟩ va
      · have y0 : W.heap.size < w5.heap.size := Nat.lt_of_lt_of_le hz0 Bw5.size
        have y1 : W.heap.size + 1 < w5.heap.size := Nat.lt_of_lt_of_le hz1 Bw5.size
        have hG0 : G w5 := hG1.to Bw5
        go_wp2_with fail
        refine region_below (by kernel_rfl) (by kernel_rfl) ?_
        repeat (with_reducible refine wpQuiet_step (fun K hK => ?_)
                go_simp
                first
                  | (refine hK _ ?_; clear hK K)
                  | (refine ⟨_, fun _ _ => rfl, hK _ ?_⟩; clear hK K)
                  | (apply Exists.intro
                     refine ⟨fun w' hw' => ?_, hK _ ?_⟩
                     · first
                       | (go_at_call 13; (with_reducible refine (EntryW.awake_calls _ (hG0.below hw' (Nat.le_refl _))).mono ?_); rintro e w2 ⟨rfl, hb⟩; exact ⟨rfl, hw'.trans (hb.mono hw'.size)⟩)
                       | (go_at_call 14; (with_reducible refine (EntryC.may_calls _ _ _ _ _ _ _ _ _ _ _ _ (by first | assumption | omega | exact ⟨by omega, by omega⟩) (by first | assumption | omega | exact ⟨by omega, by omega⟩) (by first | assumption | omega | exact ⟨by omega, by omega⟩) (hG0.below hw' (Nat.le_refl _))).mono ?_); rintro e w2 ⟨rfl, hb⟩; exact ⟨rfl, hw'.trans (hb.mono hw'.size)⟩)
                       | (go_at_call 15; (with_reducible refine (EntryR.rmay_calls _ _ _ _ _ _ _ _ _ _ _ _ (by first | assumption | omega | exact ⟨by omega, by omega⟩) (by first | assumption | omega | exact ⟨by omega, by omega⟩) (by first | assumption | omega | exact ⟨by omega, by omega⟩)).mono ?_); rintro e w2 ⟨rfl, hb⟩; exact ⟨rfl, hw'.trans (hb.mono hw'.size)⟩)
                       | (go_at_call 16; (with_reducible refine (EntryR.leaf_calls _ _ _ _ _ _ _ _ _ _ _ _ _ _ (by first | assumption | omega | exact ⟨by omega, by omega⟩) (hG0.below hw' (Nat.le_refl _))).mono ?_); rintro e w2 ⟨rfl, hb⟩; exact ⟨rfl, hw'.trans (hb.mono hw'.size)⟩)
                       | (go_at_call 17; (with_reducible refine (VaR.ris_calls _ _ ).mono ?_); rintro e w2 ⟨rfl, hb⟩; exact ⟨rfl, hw'.trans (hb.below.mono hw'.size)⟩)
                       | (go_at_call 18; (with_reducible refine (EntryC.of_calls _ _ _ _ _ _ _ _ _ _ _ _ _ _ _ _ (by first | assumption | omega | exact ⟨by omega, by omega⟩) (by first | assumption | omega | exact ⟨by omega, by omega⟩) (by first | assumption | omega | exact ⟨by omega, by omega⟩) (by first | assumption | omega | exact ⟨by omega, by omega⟩) (hG0.below hw' (Nat.le_refl _))).mono ?_); rintro e w2 ⟨rfl, hb⟩; exact ⟨rfl, hw'.trans (hb.mono hw'.size)⟩)
                       | (go_at_call 19; (with_reducible refine (EntryR.rof_calls _ _ _ _ _ _ _ _ _ _ _ _ _ _ _ _ (by first | assumption | omega | exact ⟨by omega, by omega⟩) (by first | assumption | omega | exact ⟨by omega, by omega⟩) (by first | assumption | omega | exact ⟨by omega, by omega⟩) (by first | assumption | omega | exact ⟨by omega, by omega⟩) (hG0.below hw' (Nat.le_refl _))).mono ?_); rintro e w2 ⟨rfl, hb⟩; exact ⟨rfl, hw'.trans (hb.mono hw'.size)⟩)
                       | (go_at_call 20; (with_reducible refine (EntryC.covers_calls _ _ _ _ _ _ _ _ _ _ _ _ _ (by first | assumption | omega | exact ⟨by omega, by omega⟩) (by first | assumption | omega | exact ⟨by omega, by omega⟩) (by first | assumption | omega | exact ⟨by omega, by omega⟩) (hG0.below hw' (Nat.le_refl _))).mono ?_); rintro e w2 ⟨rfl, hb⟩; exact ⟨rfl, hw'.trans (hb.mono hw'.size)⟩)
                       | (go_at_call 21; (with_reducible refine (EntryR.rcovers_calls _ _ _ _ _ _ _ _ _ _ _ _ _ (by first | assumption | omega | exact ⟨by omega, by omega⟩) (by first | assumption | omega | exact ⟨by omega, by omega⟩) (by first | assumption | omega | exact ⟨by omega, by omega⟩) (by first | assumption | omega | exact ⟨by omega, by omega⟩) (hG0.below hw' (Nat.le_refl _))).mono ?_); rintro e w2 ⟨rfl, hb⟩; exact ⟨rfl, hw'.trans (hb.mono hw'.size)⟩)
                       | (go_at_call 22; (with_reducible refine (EntryC.matches_calls _ _ _ _ _ _ _ _ _ _ _ _ _ _ (by first | assumption | omega | exact ⟨by omega, by omega⟩) (by first | assumption | omega | exact ⟨by omega, by omega⟩) (by first | assumption | omega | exact ⟨by omega, by omega⟩) (hG0.below hw' (Nat.le_refl _))).mono ?_); rintro e w2 ⟨rfl, hb⟩; exact ⟨rfl, hw'.trans (hb.mono hw'.size)⟩)
                       | (go_at_call 23; (with_reducible refine (EntryR.rmatches_calls _ _ _ _ _ _ _ _ _ _ _ _ _ _ (by first | assumption | omega | exact ⟨by omega, by omega⟩) (by first | assumption | omega | exact ⟨by omega, by omega⟩) (by first | assumption | omega | exact ⟨by omega, by omega⟩) (by first | assumption | omega | exact ⟨by omega, by omega⟩) (hG0.below hw' (Nat.le_refl _))).mono ?_); rintro e w2 ⟨rfl, hb⟩; exact ⟨rfl, hw'.trans (hb.mono hw'.size)⟩)
                       | (go_at_call 24; (with_reducible refine (EntryC.over_calls _ _ _ _ _ _ _ _ _ _ _ _ _ _ _ _ _ _ _ _ _ _ _ (by first | assumption | omega | exact ⟨by omega, by omega⟩) (by first | assumption | omega | exact ⟨by omega, by omega⟩) (by first | assumption | omega | exact ⟨by omega, by omega⟩) (by first | assumption | omega | exact ⟨by omega, by omega⟩) (hG0.below hw' (Nat.le_refl _))).mono ?_); rintro e w2 ⟨rfl, hb⟩; exact ⟨rfl, hw'.trans (hb.mono hw'.size)⟩)
                       | (go_at_call 25; (with_reducible refine (EntryR.rover_calls _ _ _ _ _ _ _ _ _ _ _ _ _ _ _ _ _ _ _ _ _ _ _ (by first | assumption | omega | exact ⟨by omega, by omega⟩) (by first | assumption | omega | exact ⟨by omega, by omega⟩) (by first | assumption | omega | exact ⟨by omega, by omega⟩) (by first | assumption | omega | exact ⟨by omega, by omega⟩) (hG0.below hw' (Nat.le_refl _))).mono ?_); rintro e w2 ⟨rfl, hb⟩; exact ⟨rfl, hw'.trans (hb.mono hw'.size)⟩)
                       | (go_at_call 26; (with_reducible refine (EntryC.phys_calls _ _ _ _ _ _ _ _ _ _ _ _ _ (by first | assumption | omega | exact ⟨by omega, by omega⟩) (by first | assumption | omega | exact ⟨by omega, by omega⟩) (by first | assumption | omega | exact ⟨by omega, by omega⟩) (by first | assumption | omega | exact ⟨by omega, by omega⟩) (by first | assumption | omega | exact ⟨by omega, by omega⟩) (by first | assumption | omega | exact ⟨by omega, by omega⟩) (hG0.below hw' (Nat.le_refl _))).mono ?_); rintro e w2 ⟨rfl, hb⟩; exact ⟨rfl, hw'.trans (hb.mono hw'.size)⟩)
                       | (go_at_call 27; (with_reducible refine (EntryR.rphys_calls _ _ _ _ _ _ _ _ _ _ _ _ _ (by first | assumption | omega | exact ⟨by omega, by omega⟩) (by first | assumption | omega | exact ⟨by omega, by omega⟩) (by first | assumption | omega | exact ⟨by omega, by omega⟩) (by first | assumption | omega | exact ⟨by omega, by omega⟩) (by first | assumption | omega | exact ⟨by omega, by omega⟩) (by first | assumption | omega | exact ⟨by omega, by omega⟩) (hG0.below hw' (Nat.le_refl _))).mono ?_); rintro e w2 ⟨rfl, hb⟩; exact ⟨rfl, hw'.trans (hb.mono hw'.size)⟩)
                       | (go_at_call 29; (with_reducible refine (EntryR.phys10_calls _ _ _ _ _ _ _ _ _ _ _ _ _ _ _ (by first | assumption | omega | exact ⟨by omega, by omega⟩) (by first | assumption | omega | exact ⟨by omega, by omega⟩) (by first | assumption | omega | exact ⟨by omega, by omega⟩) (by first | assumption | omega | exact ⟨by omega, by omega⟩) (by first | assumption | omega | exact ⟨by omega, by omega⟩) (by first | assumption | omega | exact ⟨by omega, by omega⟩) (hG0.below hw' (Nat.le_refl _))).mono ?_); rintro e w2 ⟨rfl, hb⟩; exact ⟨rfl, hw'.trans (hb.mono hw'.size)⟩)
                       | (go_at_call 28; (with_reducible refine (VaR.rbase_calls _ _ _ (by first | assumption | omega | exact ⟨by omega, by omega⟩) (by first | assumption | omega | exact ⟨by omega, by omega⟩) (by first | assumption | omega | exact ⟨by omega, by omega⟩) (by first | assumption | omega | exact ⟨by omega, by omega⟩)).mono ?_); rintro e w2 ⟨rfl, hb⟩; exact ⟨rfl, hw'.trans (hb.below.mono hw'.size)⟩)
                       | (go_at_call 30; (with_reducible refine (VaR.rof_calls _ _ (by first | assumption | omega | exact ⟨by omega, by omega⟩) (by first | assumption | omega | exact ⟨by omega, by omega⟩)).mono ?_); rintro e w2 ⟨rfl, hb⟩; exact ⟨rfl, hw'.trans (hb.mono hw'.size)⟩)
                       | (go_at_call 31; (with_reducible refine (EntryR.rpages_calls _ _ (by first | assumption | omega | exact ⟨by omega, by omega⟩) (by first | assumption | omega | exact ⟨by omega, by omega⟩)).mono ?_); rintro e w2 ⟨rfl, hb⟩; exact ⟨rfl, hw'.trans (hb.below.mono hw'.size)⟩)
                       | (obtain ⟨hcc, _⟩ := bcell hw'; go_simp; done)
                       | (obtain ⟨hcc, _⟩ := bcell hw'; go_simp; rfl)
                     clear hK K))
        refine wpQuiet_nil ?_
        intro w6 bw6
        have Bw6 := bel_trans Bw5 bw6
        clear cw5 bw6 y0 y1 hG0
        obtain ⟨cw6, _⟩ := bcell Bw6
        go_wp2_with fail
        refine (VaR.rof_calls _ _ n00 n01).mono ?_
        rintro e w7 ⟨rfl, bw7⟩
        have Bw7 := bel_trans Bw6 bw7
        clear cw6 bw7
        obtain ⟨cw7, _⟩ := bcell Bw7
        go_wp2_with fail
        refine (VaR.rof_calls _ _ q00 q01).mono ?_
        rintro e w8 ⟨rfl, bw8⟩
        have Bw8 := bel_trans Bw7 bw8
        clear cw7 bw8
        obtain ⟨cw8, _⟩ := bcell Bw8
        go_wp2
        go_ret
        exact ⟨rfl, bel_trans BX Bw8⟩
      · exact absurd (hco.out h1 h2) (by rw [ho]; simp)
  · rw [ho] at hfe
    cases h1 : coversE ⟨v, si, gl, lv, vpn, ppn, ⟨r, w, x, u⟩, d⟩ va
    · have y0 : W.heap.size < w5.heap.size := Nat.lt_of_lt_of_le hz0 Bw5.size
      have y1 : W.heap.size + 1 < w5.heap.size := Nat.lt_of_lt_of_le hz1 Bw5.size
      have hG0 : G w5 := hG1.to Bw5
      go_wp2_with fail
      refine region_below (by kernel_rfl) (by kernel_rfl) ?_
      repeat (with_reducible refine wpQuiet_step (fun K hK => ?_)
              go_simp
              first
                | (refine hK _ ?_; clear hK K)
                | (refine ⟨_, fun _ _ => rfl, hK _ ?_⟩; clear hK K)
                | (apply Exists.intro
                   refine ⟨fun w' hw' => ?_, hK _ ?_⟩
                   · first
                     | (go_at_call 13; (with_reducible refine (EntryW.awake_calls _ (hG0.below hw' (Nat.le_refl _))).mono ?_); rintro e w2 ⟨rfl, hb⟩; exact ⟨rfl, hw'.trans (hb.mono hw'.size)⟩)
                     | (go_at_call 14; (with_reducible refine (EntryC.may_calls _ _ _ _ _ _ _ _ _ _ _ _ (by first | assumption | omega | exact ⟨by omega, by omega⟩) (by first | assumption | omega | exact ⟨by omega, by omega⟩) (by first | assumption | omega | exact ⟨by omega, by omega⟩) (hG0.below hw' (Nat.le_refl _))).mono ?_); rintro e w2 ⟨rfl, hb⟩; exact ⟨rfl, hw'.trans (hb.mono hw'.size)⟩)
                     | (go_at_call 15; (with_reducible refine (EntryR.rmay_calls _ _ _ _ _ _ _ _ _ _ _ _ (by first | assumption | omega | exact ⟨by omega, by omega⟩) (by first | assumption | omega | exact ⟨by omega, by omega⟩) (by first | assumption | omega | exact ⟨by omega, by omega⟩)).mono ?_); rintro e w2 ⟨rfl, hb⟩; exact ⟨rfl, hw'.trans (hb.mono hw'.size)⟩)
                     | (go_at_call 16; (with_reducible refine (EntryR.leaf_calls _ _ _ _ _ _ _ _ _ _ _ _ _ _ (by first | assumption | omega | exact ⟨by omega, by omega⟩) (hG0.below hw' (Nat.le_refl _))).mono ?_); rintro e w2 ⟨rfl, hb⟩; exact ⟨rfl, hw'.trans (hb.mono hw'.size)⟩)
                     | (go_at_call 17; (with_reducible refine (VaR.ris_calls _ _ ).mono ?_); rintro e w2 ⟨rfl, hb⟩; exact ⟨rfl, hw'.trans (hb.below.mono hw'.size)⟩)
                     | (go_at_call 18; (with_reducible refine (EntryC.of_calls _ _ _ _ _ _ _ _ _ _ _ _ _ _ _ _ (by first | assumption | omega | exact ⟨by omega, by omega⟩) (by first | assumption | omega | exact ⟨by omega, by omega⟩) (by first | assumption | omega | exact ⟨by omega, by omega⟩) (by first | assumption | omega | exact ⟨by omega, by omega⟩) (hG0.below hw' (Nat.le_refl _))).mono ?_); rintro e w2 ⟨rfl, hb⟩; exact ⟨rfl, hw'.trans (hb.mono hw'.size)⟩)
                     | (go_at_call 19; (with_reducible refine (EntryR.rof_calls _ _ _ _ _ _ _ _ _ _ _ _ _ _ _ _ (by first | assumption | omega | exact ⟨by omega, by omega⟩) (by first | assumption | omega | exact ⟨by omega, by omega⟩) (by first | assumption | omega | exact ⟨by omega, by omega⟩) (by first | assumption | omega | exact ⟨by omega, by omega⟩) (hG0.below hw' (Nat.le_refl _))).mono ?_); rintro e w2 ⟨rfl, hb⟩; exact ⟨rfl, hw'.trans (hb.mono hw'.size)⟩)
                     | (go_at_call 20; (with_reducible refine (EntryC.covers_calls _ _ _ _ _ _ _ _ _ _ _ _ _ (by first | assumption | omega | exact ⟨by omega, by omega⟩) (by first | assumption | omega | exact ⟨by omega, by omega⟩) (by first | assumption | omega | exact ⟨by omega, by omega⟩) (hG0.below hw' (Nat.le_refl _))).mono ?_); rintro e w2 ⟨rfl, hb⟩; exact ⟨rfl, hw'.trans (hb.mono hw'.size)⟩)
                     | (go_at_call 21; (with_reducible refine (EntryR.rcovers_calls _ _ _ _ _ _ _ _ _ _ _ _ _ (by first | assumption | omega | exact ⟨by omega, by omega⟩) (by first | assumption | omega | exact ⟨by omega, by omega⟩) (by first | assumption | omega | exact ⟨by omega, by omega⟩) (by first | assumption | omega | exact ⟨by omega, by omega⟩) (hG0.below hw' (Nat.le_refl _))).mono ?_); rintro e w2 ⟨rfl, hb⟩; exact ⟨rfl, hw'.trans (hb.mono hw'.size)⟩)
                     | (go_at_call 22; (with_reducible refine (EntryC.matches_calls _ _ _ _ _ _ _ _ _ _ _ _ _ _ (by first | assumption | omega | exact ⟨by omega, by omega⟩) (by first | assumption | omega | exact ⟨by omega, by omega⟩) (by first | assumption | omega | exact ⟨by omega, by omega⟩) (hG0.below hw' (Nat.le_refl _))).mono ?_); rintro e w2 ⟨rfl, hb⟩; exact ⟨rfl, hw'.trans (hb.mono hw'.size)⟩)
                     | (go_at_call 23; (with_reducible refine (EntryR.rmatches_calls _ _ _ _ _ _ _ _ _ _ _ _ _ _ (by first | assumption | omega | exact ⟨by omega, by omega⟩) (by first | assumption | omega | exact ⟨by omega, by omega⟩) (by first | assumption | omega | exact ⟨by omega, by omega⟩) (by first | assumption | omega | exact ⟨by omega, by omega⟩) (hG0.below hw' (Nat.le_refl _))).mono ?_); rintro e w2 ⟨rfl, hb⟩; exact ⟨rfl, hw'.trans (hb.mono hw'.size)⟩)
                     | (go_at_call 24; (with_reducible refine (EntryC.over_calls _ _ _ _ _ _ _ _ _ _ _ _ _ _ _ _ _ _ _ _ _ _ _ (by first | assumption | omega | exact ⟨by omega, by omega⟩) (by first | assumption | omega | exact ⟨by omega, by omega⟩) (by first | assumption | omega | exact ⟨by omega, by omega⟩) (by first | assumption | omega | exact ⟨by omega, by omega⟩) (hG0.below hw' (Nat.le_refl _))).mono ?_); rintro e w2 ⟨rfl, hb⟩; exact ⟨rfl, hw'.trans (hb.mono hw'.size)⟩)
                     | (go_at_call 25; (with_reducible refine (EntryR.rover_calls _ _ _ _ _ _ _ _ _ _ _ _ _ _ _ _ _ _ _ _ _ _ _ (by first | assumption | omega | exact ⟨by omega, by omega⟩) (by first | assumption | omega | exact ⟨by omega, by omega⟩) (by first | assumption | omega | exact ⟨by omega, by omega⟩) (by first | assumption | omega | exact ⟨by omega, by omega⟩) (hG0.below hw' (Nat.le_refl _))).mono ?_); rintro e w2 ⟨rfl, hb⟩; exact ⟨rfl, hw'.trans (hb.mono hw'.size)⟩)
                     | (go_at_call 26; (with_reducible refine (EntryC.phys_calls _ _ _ _ _ _ _ _ _ _ _ _ _ (by first | assumption | omega | exact ⟨by omega, by omega⟩) (by first | assumption | omega | exact ⟨by omega, by omega⟩) (by first | assumption | omega | exact ⟨by omega, by omega⟩) (by first | assumption | omega | exact ⟨by omega, by omega⟩) (by first | assumption | omega | exact ⟨by omega, by omega⟩) (by first | assumption | omega | exact ⟨by omega, by omega⟩) (hG0.below hw' (Nat.le_refl _))).mono ?_); rintro e w2 ⟨rfl, hb⟩; exact ⟨rfl, hw'.trans (hb.mono hw'.size)⟩)
                     | (go_at_call 27; (with_reducible refine (EntryR.rphys_calls _ _ _ _ _ _ _ _ _ _ _ _ _ (by first | assumption | omega | exact ⟨by omega, by omega⟩) (by first | assumption | omega | exact ⟨by omega, by omega⟩) (by first | assumption | omega | exact ⟨by omega, by omega⟩) (by first | assumption | omega | exact ⟨by omega, by omega⟩) (by first | assumption | omega | exact ⟨by omega, by omega⟩) (by first | assumption | omega | exact ⟨by omega, by omega⟩) (hG0.below hw' (Nat.le_refl _))).mono ?_); rintro e w2 ⟨rfl, hb⟩; exact ⟨rfl, hw'.trans (hb.mono hw'.size)⟩)
                     | (go_at_call 29; (with_reducible refine (EntryR.phys10_calls _ _ _ _ _ _ _ _ _ _ _ _ _ _ _ (by first | assumption | omega | exact ⟨by omega, by omega⟩) (by first | assumption | omega | exact ⟨by omega, by omega⟩) (by first | assumption | omega | exact ⟨by omega, by omega⟩) (by first | assumption | omega | exact ⟨by omega, by omega⟩) (by first | assumption | omega | exact ⟨by omega, by omega⟩) (by first | assumption | omega | exact ⟨by omega, by omega⟩) (hG0.below hw' (Nat.le_refl _))).mono ?_); rintro e w2 ⟨rfl, hb⟩; exact ⟨rfl, hw'.trans (hb.mono hw'.size)⟩)
                     | (go_at_call 28; (with_reducible refine (VaR.rbase_calls _ _ _ (by first | assumption | omega | exact ⟨by omega, by omega⟩) (by first | assumption | omega | exact ⟨by omega, by omega⟩) (by first | assumption | omega | exact ⟨by omega, by omega⟩) (by first | assumption | omega | exact ⟨by omega, by omega⟩)).mono ?_); rintro e w2 ⟨rfl, hb⟩; exact ⟨rfl, hw'.trans (hb.below.mono hw'.size)⟩)
                     | (go_at_call 30; (with_reducible refine (VaR.rof_calls _ _ (by first | assumption | omega | exact ⟨by omega, by omega⟩) (by first | assumption | omega | exact ⟨by omega, by omega⟩)).mono ?_); rintro e w2 ⟨rfl, hb⟩; exact ⟨rfl, hw'.trans (hb.mono hw'.size)⟩)
                     | (go_at_call 31; (with_reducible refine (EntryR.rpages_calls _ _ (by first | assumption | omega | exact ⟨by omega, by omega⟩) (by first | assumption | omega | exact ⟨by omega, by omega⟩)).mono ?_); rintro e w2 ⟨rfl, hb⟩; exact ⟨rfl, hw'.trans (hb.below.mono hw'.size)⟩)
                     | (obtain ⟨hcc, _⟩ := bcell hw'; go_simp; done)
                     | (obtain ⟨hcc, _⟩ := bcell hw'; go_simp; rfl)
                   clear hK K))
      refine wpQuiet_nil ?_
      intro w6 bw6
      have Bw6 := bel_trans Bw5 bw6
      clear cw5 bw6 y0 y1 hG0
      obtain ⟨cw6, _⟩ := bcell Bw6
      go_wp2_with fail
      refine (VaR.rof_calls _ _ n00 n01).mono ?_
      rintro e w7 ⟨rfl, bw7⟩
      have Bw7 := bel_trans Bw6 bw7
      clear cw6 bw7
      obtain ⟨cw7, _⟩ := bcell Bw7
      go_wp2_with fail
      refine (VaR.rof_calls _ _ q00 q01).mono ?_
      rintro e w8 ⟨rfl, bw8⟩
      have Bw8 := bel_trans Bw7 bw8
      clear cw7 bw8
      obtain ⟨cw8, _⟩ := bcell Bw8
      cases k1 : coversE ⟨v, si, gl, lv, vpn, ppn, ⟨r, w, x, u⟩, d⟩ (ofv vpn)
      · have k3 : coversE ⟨v, si, gl, lv, vpn, ppn, ⟨r, w, x, u⟩, d⟩ (ofv vpnq) = true := by rcases hoc.out ho with h | h; exact absurd h.1 (by rw [k1]; simp); exact h.1
        have k4 : coversE ⟨vq, siq, glq, lvq, vpnq, ppnq, ⟨rq, wq, xq, uq⟩, dq⟩ (ofv vpnq) = true := by rcases hoc.out ho with h | h; exact absurd h.1 (by rw [k1]; simp); exact h.2
        go_wp2_with fail
        refine (EntryC.covers_calls _ _ _ _ _ _ _ _ _ _ _ _ _ hl1 (by assumption) (by assumption) (hG1.to Bw8)).mono ?_
        rintro e w9 ⟨rfl, bw9⟩
        rw [k1]
        have Bw9 := bel_trans Bw8 bw9
        clear cw8 bw9
        obtain ⟨cw9, _⟩ := bcell Bw9
        go_wp2_with fail
        refine (EntryC.covers_calls _ _ _ _ _ _ _ _ _ _ _ _ _ hl1 (by assumption) (by assumption) (hG1.to Bw9)).mono ?_
        rintro e wa ⟨rfl, bwa⟩
        rw [k3]
        have Bwa := bel_trans Bw9 bwa
        clear cw9 bwa
        obtain ⟨cwa, _⟩ := bcell Bwa
        go_wp2_with fail
        refine (EntryC.covers_calls _ _ _ _ _ _ _ _ _ _ _ _ _ hl2 (by assumption) (by assumption) (hG1.to Bwa)).mono ?_
        rintro e wb ⟨rfl, bwb⟩
        rw [k4]
        have Bwb := bel_trans Bwa bwb
        clear cwa bwb
        obtain ⟨cwb, _⟩ := bcell Bwb
        go_wp2
        go_ret
        exact ⟨rfl, bel_trans BX Bwb⟩
      · cases k2 : coversE ⟨vq, siq, glq, lvq, vpnq, ppnq, ⟨rq, wq, xq, uq⟩, dq⟩ (ofv vpn)
        · have k3 : coversE ⟨v, si, gl, lv, vpn, ppn, ⟨r, w, x, u⟩, d⟩ (ofv vpnq) = true := by rcases hoc.out ho with h | h; exact absurd h.2 (by rw [k2]; simp); exact h.1
          have k4 : coversE ⟨vq, siq, glq, lvq, vpnq, ppnq, ⟨rq, wq, xq, uq⟩, dq⟩ (ofv vpnq) = true := by rcases hoc.out ho with h | h; exact absurd h.2 (by rw [k2]; simp); exact h.2
          go_wp2_with fail
          refine (EntryC.covers_calls _ _ _ _ _ _ _ _ _ _ _ _ _ hl1 (by assumption) (by assumption) (hG1.to Bw8)).mono ?_
          rintro e w9 ⟨rfl, bw9⟩
          rw [k1]
          have Bw9 := bel_trans Bw8 bw9
          clear cw8 bw9
          obtain ⟨cw9, _⟩ := bcell Bw9
          go_wp2_with fail
          refine (EntryC.covers_calls _ _ _ _ _ _ _ _ _ _ _ _ _ hl2 (by assumption) (by assumption) (hG1.to Bw9)).mono ?_
          rintro e wa ⟨rfl, bwa⟩
          rw [k2]
          have Bwa := bel_trans Bw9 bwa
          clear cw9 bwa
          obtain ⟨cwa, _⟩ := bcell Bwa
          go_wp2_with fail
          refine (EntryC.covers_calls _ _ _ _ _ _ _ _ _ _ _ _ _ hl1 (by assumption) (by assumption) (hG1.to Bwa)).mono ?_
          rintro e wb ⟨rfl, bwb⟩
          rw [k3]
          have Bwb := bel_trans Bwa bwb
          clear cwa bwb
          obtain ⟨cwb, _⟩ := bcell Bwb
          go_wp2_with fail
          refine (EntryC.covers_calls _ _ _ _ _ _ _ _ _ _ _ _ _ hl2 (by assumption) (by assumption) (hG1.to Bwb)).mono ?_
          rintro e wc ⟨rfl, bwc⟩
          rw [k4]
          have Bwc := bel_trans Bwb bwc
          clear cwb bwc
          obtain ⟨cwc, _⟩ := bcell Bwc
          go_wp2
          go_ret
          exact ⟨rfl, bel_trans BX Bwc⟩
        ·
          go_wp2_with fail
          refine (EntryC.covers_calls _ _ _ _ _ _ _ _ _ _ _ _ _ hl1 (by assumption) (by assumption) (hG1.to Bw8)).mono ?_
          rintro e w9 ⟨rfl, bw9⟩
          rw [k1]
          have Bw9 := bel_trans Bw8 bw9
          clear cw8 bw9
          obtain ⟨cw9, _⟩ := bcell Bw9
          go_wp2_with fail
          refine (EntryC.covers_calls _ _ _ _ _ _ _ _ _ _ _ _ _ hl2 (by assumption) (by assumption) (hG1.to Bw9)).mono ?_
          rintro e wa ⟨rfl, bwa⟩
          rw [k2]
          have Bwa := bel_trans Bw9 bwa
          clear cw9 bwa
          obtain ⟨cwa, _⟩ := bcell Bwa
          go_wp2
          go_ret
          exact ⟨rfl, bel_trans BX Bwa⟩
    · cases h2 : coversE ⟨vq, siq, glq, lvq, vpnq, ppnq, ⟨rq, wq, xq, uq⟩, dq⟩ va
      · have y0 : W.heap.size < w5.heap.size := Nat.lt_of_lt_of_le hz0 Bw5.size
        have y1 : W.heap.size + 1 < w5.heap.size := Nat.lt_of_lt_of_le hz1 Bw5.size
        have hG0 : G w5 := hG1.to Bw5
        go_wp2_with fail
        refine region_below (by kernel_rfl) (by kernel_rfl) ?_
        repeat (with_reducible refine wpQuiet_step (fun K hK => ?_)
                go_simp
                first
                  | (refine hK _ ?_; clear hK K)
                  | (refine ⟨_, fun _ _ => rfl, hK _ ?_⟩; clear hK K)
                  | (apply Exists.intro
                     refine ⟨fun w' hw' => ?_, hK _ ?_⟩
                     · first
                       | (go_at_call 13; (with_reducible refine (EntryW.awake_calls _ (hG0.below hw' (Nat.le_refl _))).mono ?_); rintro e w2 ⟨rfl, hb⟩; exact ⟨rfl, hw'.trans (hb.mono hw'.size)⟩)
                       | (go_at_call 14; (with_reducible refine (EntryC.may_calls _ _ _ _ _ _ _ _ _ _ _ _ (by first | assumption | omega | exact ⟨by omega, by omega⟩) (by first | assumption | omega | exact ⟨by omega, by omega⟩) (by first | assumption | omega | exact ⟨by omega, by omega⟩) (hG0.below hw' (Nat.le_refl _))).mono ?_); rintro e w2 ⟨rfl, hb⟩; exact ⟨rfl, hw'.trans (hb.mono hw'.size)⟩)
                       | (go_at_call 15; (with_reducible refine (EntryR.rmay_calls _ _ _ _ _ _ _ _ _ _ _ _ (by first | assumption | omega | exact ⟨by omega, by omega⟩) (by first | assumption | omega | exact ⟨by omega, by omega⟩) (by first | assumption | omega | exact ⟨by omega, by omega⟩)).mono ?_); rintro e w2 ⟨rfl, hb⟩; exact ⟨rfl, hw'.trans (hb.mono hw'.size)⟩)
                       | (go_at_call 16; (with_reducible refine (EntryR.leaf_calls _ _ _ _ _ _ _ _ _ _ _ _ _ _ (by first | assumption | omega | exact ⟨by omega, by omega⟩) (hG0.below hw' (Nat.le_refl _))).mono ?_); rintro e w2 ⟨rfl, hb⟩; exact ⟨rfl, hw'.trans (hb.mono hw'.size)⟩)
                       | (go_at_call 17; (with_reducible refine (VaR.ris_calls _ _ ).mono ?_); rintro e w2 ⟨rfl, hb⟩; exact ⟨rfl, hw'.trans (hb.below.mono hw'.size)⟩)
                       | (go_at_call 18; (with_reducible refine (EntryC.of_calls _ _ _ _ _ _ _ _ _ _ _ _ _ _ _ _ (by first | assumption | omega | exact ⟨by omega, by omega⟩) (by first | assumption | omega | exact ⟨by omega, by omega⟩) (by first | assumption | omega | exact ⟨by omega, by omega⟩) (by first | assumption | omega | exact ⟨by omega, by omega⟩) (hG0.below hw' (Nat.le_refl _))).mono ?_); rintro e w2 ⟨rfl, hb⟩; exact ⟨rfl, hw'.trans (hb.mono hw'.size)⟩)
                       | (go_at_call 19; (with_reducible refine (EntryR.rof_calls _ _ _ _ _ _ _ _ _ _ _ _ _ _ _ _ (by first | assumption | omega | exact ⟨by omega, by omega⟩) (by first | assumption | omega | exact ⟨by omega, by omega⟩) (by first | assumption | omega | exact ⟨by omega, by omega⟩) (by first | assumption | omega | exact ⟨by omega, by omega⟩) (hG0.below hw' (Nat.le_refl _))).mono ?_); rintro e w2 ⟨rfl, hb⟩; exact ⟨rfl, hw'.trans (hb.mono hw'.size)⟩)
                       | (go_at_call 20; (with_reducible refine (EntryC.covers_calls _ _ _ _ _ _ _ _ _ _ _ _ _ (by first | assumption | omega | exact ⟨by omega, by omega⟩) (by first | assumption | omega | exact ⟨by omega, by omega⟩) (by first | assumption | omega | exact ⟨by omega, by omega⟩) (hG0.below hw' (Nat.le_refl _))).mono ?_); rintro e w2 ⟨rfl, hb⟩; exact ⟨rfl, hw'.trans (hb.mono hw'.size)⟩)
                       | (go_at_call 21; (with_reducible refine (EntryR.rcovers_calls _ _ _ _ _ _ _ _ _ _ _ _ _ (by first | assumption | omega | exact ⟨by omega, by omega⟩) (by first | assumption | omega | exact ⟨by omega, by omega⟩) (by first | assumption | omega | exact ⟨by omega, by omega⟩) (by first | assumption | omega | exact ⟨by omega, by omega⟩) (hG0.below hw' (Nat.le_refl _))).mono ?_); rintro e w2 ⟨rfl, hb⟩; exact ⟨rfl, hw'.trans (hb.mono hw'.size)⟩)
                       | (go_at_call 22; (with_reducible refine (EntryC.matches_calls _ _ _ _ _ _ _ _ _ _ _ _ _ _ (by first | assumption | omega | exact ⟨by omega, by omega⟩) (by first | assumption | omega | exact ⟨by omega, by omega⟩) (by first | assumption | omega | exact ⟨by omega, by omega⟩) (hG0.below hw' (Nat.le_refl _))).mono ?_); rintro e w2 ⟨rfl, hb⟩; exact ⟨rfl, hw'.trans (hb.mono hw'.size)⟩)
                       | (go_at_call 23; (with_reducible refine (EntryR.rmatches_calls _ _ _ _ _ _ _ _ _ _ _ _ _ _ (by first | assumption | omega | exact ⟨by omega, by omega⟩) (by first | assumption | omega | exact ⟨by omega, by omega⟩) (by first | assumption | omega | exact ⟨by omega, by omega⟩) (by first | assumption | omega | exact ⟨by omega, by omega⟩) (hG0.below hw' (Nat.le_refl _))).mono ?_); rintro e w2 ⟨rfl, hb⟩; exact ⟨rfl, hw'.trans (hb.mono hw'.size)⟩)
                       | (go_at_call 24; (with_reducible refine (EntryC.over_calls _ _ _ _ _ _ _ _ _ _ _ _ _ _ _ _ _ _ _ _ _ _ _ (by first | assumption | omega | exact ⟨by omega, by omega⟩) (by first | assumption | omega | exact ⟨by omega, by omega⟩) (by first | assumption | omega | exact ⟨by omega, by omega⟩) (by first | assumption | omega | exact ⟨by omega, by omega⟩) (hG0.below hw' (Nat.le_refl _))).mono ?_); rintro e w2 ⟨rfl, hb⟩; exact ⟨rfl, hw'.trans (hb.mono hw'.size)⟩)
                       | (go_at_call 25; (with_reducible refine (EntryR.rover_calls _ _ _ _ _ _ _ _ _ _ _ _ _ _ _ _ _ _ _ _ _ _ _ (by first | assumption | omega | exact ⟨by omega, by omega⟩) (by first | assumption | omega | exact ⟨by omega, by omega⟩) (by first | assumption | omega | exact ⟨by omega, by omega⟩) (by first | assumption | omega | exact ⟨by omega, by omega⟩) (hG0.below hw' (Nat.le_refl _))).mono ?_); rintro e w2 ⟨rfl, hb⟩; exact ⟨rfl, hw'.trans (hb.mono hw'.size)⟩)
                       | (go_at_call 26; (with_reducible refine (EntryC.phys_calls _ _ _ _ _ _ _ _ _ _ _ _ _ (by first | assumption | omega | exact ⟨by omega, by omega⟩) (by first | assumption | omega | exact ⟨by omega, by omega⟩) (by first | assumption | omega | exact ⟨by omega, by omega⟩) (by first | assumption | omega | exact ⟨by omega, by omega⟩) (by first | assumption | omega | exact ⟨by omega, by omega⟩) (by first | assumption | omega | exact ⟨by omega, by omega⟩) (hG0.below hw' (Nat.le_refl _))).mono ?_); rintro e w2 ⟨rfl, hb⟩; exact ⟨rfl, hw'.trans (hb.mono hw'.size)⟩)
                       | (go_at_call 27; (with_reducible refine (EntryR.rphys_calls _ _ _ _ _ _ _ _ _ _ _ _ _ (by first | assumption | omega | exact ⟨by omega, by omega⟩) (by first | assumption | omega | exact ⟨by omega, by omega⟩) (by first | assumption | omega | exact ⟨by omega, by omega⟩) (by first | assumption | omega | exact ⟨by omega, by omega⟩) (by first | assumption | omega | exact ⟨by omega, by omega⟩) (by first | assumption | omega | exact ⟨by omega, by omega⟩) (hG0.below hw' (Nat.le_refl _))).mono ?_); rintro e w2 ⟨rfl, hb⟩; exact ⟨rfl, hw'.trans (hb.mono hw'.size)⟩)
                       | (go_at_call 29; (with_reducible refine (EntryR.phys10_calls _ _ _ _ _ _ _ _ _ _ _ _ _ _ _ (by first | assumption | omega | exact ⟨by omega, by omega⟩) (by first | assumption | omega | exact ⟨by omega, by omega⟩) (by first | assumption | omega | exact ⟨by omega, by omega⟩) (by first | assumption | omega | exact ⟨by omega, by omega⟩) (by first | assumption | omega | exact ⟨by omega, by omega⟩) (by first | assumption | omega | exact ⟨by omega, by omega⟩) (hG0.below hw' (Nat.le_refl _))).mono ?_); rintro e w2 ⟨rfl, hb⟩; exact ⟨rfl, hw'.trans (hb.mono hw'.size)⟩)
                       | (go_at_call 28; (with_reducible refine (VaR.rbase_calls _ _ _ (by first | assumption | omega | exact ⟨by omega, by omega⟩) (by first | assumption | omega | exact ⟨by omega, by omega⟩) (by first | assumption | omega | exact ⟨by omega, by omega⟩) (by first | assumption | omega | exact ⟨by omega, by omega⟩)).mono ?_); rintro e w2 ⟨rfl, hb⟩; exact ⟨rfl, hw'.trans (hb.below.mono hw'.size)⟩)
                       | (go_at_call 30; (with_reducible refine (VaR.rof_calls _ _ (by first | assumption | omega | exact ⟨by omega, by omega⟩) (by first | assumption | omega | exact ⟨by omega, by omega⟩)).mono ?_); rintro e w2 ⟨rfl, hb⟩; exact ⟨rfl, hw'.trans (hb.mono hw'.size)⟩)
                       | (go_at_call 31; (with_reducible refine (EntryR.rpages_calls _ _ (by first | assumption | omega | exact ⟨by omega, by omega⟩) (by first | assumption | omega | exact ⟨by omega, by omega⟩)).mono ?_); rintro e w2 ⟨rfl, hb⟩; exact ⟨rfl, hw'.trans (hb.below.mono hw'.size)⟩)
                       | (obtain ⟨hcc, _⟩ := bcell hw'; go_simp; done)
                       | (obtain ⟨hcc, _⟩ := bcell hw'; go_simp; rfl)
                     clear hK K))
        refine wpQuiet_nil ?_
        intro w6 bw6
        have Bw6 := bel_trans Bw5 bw6
        clear cw5 bw6 y0 y1 hG0
        obtain ⟨cw6, _⟩ := bcell Bw6
        go_wp2_with fail
        refine (VaR.rof_calls _ _ n00 n01).mono ?_
        rintro e w7 ⟨rfl, bw7⟩
        have Bw7 := bel_trans Bw6 bw7
        clear cw6 bw7
        obtain ⟨cw7, _⟩ := bcell Bw7
        go_wp2_with fail
        refine (VaR.rof_calls _ _ q00 q01).mono ?_
        rintro e w8 ⟨rfl, bw8⟩
        have Bw8 := bel_trans Bw7 bw8
        clear cw7 bw8
        obtain ⟨cw8, _⟩ := bcell Bw8
        cases k1 : coversE ⟨v, si, gl, lv, vpn, ppn, ⟨r, w, x, u⟩, d⟩ (ofv vpn)
        · have k3 : coversE ⟨v, si, gl, lv, vpn, ppn, ⟨r, w, x, u⟩, d⟩ (ofv vpnq) = true := by rcases hoc.out ho with h | h; exact absurd h.1 (by rw [k1]; simp); exact h.1
          have k4 : coversE ⟨vq, siq, glq, lvq, vpnq, ppnq, ⟨rq, wq, xq, uq⟩, dq⟩ (ofv vpnq) = true := by rcases hoc.out ho with h | h; exact absurd h.1 (by rw [k1]; simp); exact h.2
          go_wp2_with fail
          refine (EntryC.covers_calls _ _ _ _ _ _ _ _ _ _ _ _ _ hl1 (by assumption) (by assumption) (hG1.to Bw8)).mono ?_
          rintro e w9 ⟨rfl, bw9⟩
          rw [k1]
          have Bw9 := bel_trans Bw8 bw9
          clear cw8 bw9
          obtain ⟨cw9, _⟩ := bcell Bw9
          go_wp2_with fail
          refine (EntryC.covers_calls _ _ _ _ _ _ _ _ _ _ _ _ _ hl1 (by assumption) (by assumption) (hG1.to Bw9)).mono ?_
          rintro e wa ⟨rfl, bwa⟩
          rw [k3]
          have Bwa := bel_trans Bw9 bwa
          clear cw9 bwa
          obtain ⟨cwa, _⟩ := bcell Bwa
          go_wp2_with fail
          refine (EntryC.covers_calls _ _ _ _ _ _ _ _ _ _ _ _ _ hl2 (by assumption) (by assumption) (hG1.to Bwa)).mono ?_
          rintro e wb ⟨rfl, bwb⟩
          rw [k4]
          have Bwb := bel_trans Bwa bwb
          clear cwa bwb
          obtain ⟨cwb, _⟩ := bcell Bwb
          go_wp2
          go_ret
          exact ⟨rfl, bel_trans BX Bwb⟩
        · cases k2 : coversE ⟨vq, siq, glq, lvq, vpnq, ppnq, ⟨rq, wq, xq, uq⟩, dq⟩ (ofv vpn)
          · have k3 : coversE ⟨v, si, gl, lv, vpn, ppn, ⟨r, w, x, u⟩, d⟩ (ofv vpnq) = true := by rcases hoc.out ho with h | h; exact absurd h.2 (by rw [k2]; simp); exact h.1
            have k4 : coversE ⟨vq, siq, glq, lvq, vpnq, ppnq, ⟨rq, wq, xq, uq⟩, dq⟩ (ofv vpnq) = true := by rcases hoc.out ho with h | h; exact absurd h.2 (by rw [k2]; simp); exact h.2
            go_wp2_with fail
            refine (EntryC.covers_calls _ _ _ _ _ _ _ _ _ _ _ _ _ hl1 (by assumption) (by assumption) (hG1.to Bw8)).mono ?_
            rintro e w9 ⟨rfl, bw9⟩
            rw [k1]
            have Bw9 := bel_trans Bw8 bw9
            clear cw8 bw9
            obtain ⟨cw9, _⟩ := bcell Bw9
            go_wp2_with fail
            refine (EntryC.covers_calls _ _ _ _ _ _ _ _ _ _ _ _ _ hl2 (by assumption) (by assumption) (hG1.to Bw9)).mono ?_
            rintro e wa ⟨rfl, bwa⟩
            rw [k2]
            have Bwa := bel_trans Bw9 bwa
            clear cw9 bwa
            obtain ⟨cwa, _⟩ := bcell Bwa
            go_wp2_with fail
            refine (EntryC.covers_calls _ _ _ _ _ _ _ _ _ _ _ _ _ hl1 (by assumption) (by assumption) (hG1.to Bwa)).mono ?_
            rintro e wb ⟨rfl, bwb⟩
            rw [k3]
            have Bwb := bel_trans Bwa bwb
            clear cwa bwb
            obtain ⟨cwb, _⟩ := bcell Bwb
            go_wp2_with fail
            refine (EntryC.covers_calls _ _ _ _ _ _ _ _ _ _ _ _ _ hl2 (by assumption) (by assumption) (hG1.to Bwb)).mono ?_
            rintro e wc ⟨rfl, bwc⟩
            rw [k4]
            have Bwc := bel_trans Bwb bwc
            clear cwb bwc
            obtain ⟨cwc, _⟩ := bcell Bwc
            go_wp2
            go_ret
            exact ⟨rfl, bel_trans BX Bwc⟩
          ·
            go_wp2_with fail
            refine (EntryC.covers_calls _ _ _ _ _ _ _ _ _ _ _ _ _ hl1 (by assumption) (by assumption) (hG1.to Bw8)).mono ?_
            rintro e w9 ⟨rfl, bw9⟩
            rw [k1]
            have Bw9 := bel_trans Bw8 bw9
            clear cw8 bw9
            obtain ⟨cw9, _⟩ := bcell Bw9
            go_wp2_with fail
            refine (EntryC.covers_calls _ _ _ _ _ _ _ _ _ _ _ _ _ hl2 (by assumption) (by assumption) (hG1.to Bw9)).mono ?_
            rintro e wa ⟨rfl, bwa⟩
            rw [k2]
            have Bwa := bel_trans Bw9 bwa
            clear cw9 bwa
            obtain ⟨cwa, _⟩ := bcell Bwa
            go_wp2
            go_ret
            exact ⟨rfl, bel_trans BX Bwa⟩
      · have y0 : W.heap.size < w5.heap.size := Nat.lt_of_lt_of_le hz0 Bw5.size
        have y1 : W.heap.size + 1 < w5.heap.size := Nat.lt_of_lt_of_le hz1 Bw5.size
        have hG0 : G w5 := hG1.to Bw5
        go_wp2_with fail
        refine region_below (by kernel_rfl) (by kernel_rfl) ?_
        repeat (with_reducible refine wpQuiet_step (fun K hK => ?_)
                go_simp
                first
                  | (refine hK _ ?_; clear hK K)
                  | (refine ⟨_, fun _ _ => rfl, hK _ ?_⟩; clear hK K)
                  | (apply Exists.intro
                     refine ⟨fun w' hw' => ?_, hK _ ?_⟩
                     · first
                       | (go_at_call 13; (with_reducible refine (EntryW.awake_calls _ (hG0.below hw' (Nat.le_refl _))).mono ?_); rintro e w2 ⟨rfl, hb⟩; exact ⟨rfl, hw'.trans (hb.mono hw'.size)⟩)
                       | (go_at_call 14; (with_reducible refine (EntryC.may_calls _ _ _ _ _ _ _ _ _ _ _ _ (by first | assumption | omega | exact ⟨by omega, by omega⟩) (by first | assumption | omega | exact ⟨by omega, by omega⟩) (by first | assumption | omega | exact ⟨by omega, by omega⟩) (hG0.below hw' (Nat.le_refl _))).mono ?_); rintro e w2 ⟨rfl, hb⟩; exact ⟨rfl, hw'.trans (hb.mono hw'.size)⟩)
                       | (go_at_call 15; (with_reducible refine (EntryR.rmay_calls _ _ _ _ _ _ _ _ _ _ _ _ (by first | assumption | omega | exact ⟨by omega, by omega⟩) (by first | assumption | omega | exact ⟨by omega, by omega⟩) (by first | assumption | omega | exact ⟨by omega, by omega⟩)).mono ?_); rintro e w2 ⟨rfl, hb⟩; exact ⟨rfl, hw'.trans (hb.mono hw'.size)⟩)
                       | (go_at_call 16; (with_reducible refine (EntryR.leaf_calls _ _ _ _ _ _ _ _ _ _ _ _ _ _ (by first | assumption | omega | exact ⟨by omega, by omega⟩) (hG0.below hw' (Nat.le_refl _))).mono ?_); rintro e w2 ⟨rfl, hb⟩; exact ⟨rfl, hw'.trans (hb.mono hw'.size)⟩)
                       | (go_at_call 17; (with_reducible refine (VaR.ris_calls _ _ ).mono ?_); rintro e w2 ⟨rfl, hb⟩; exact ⟨rfl, hw'.trans (hb.below.mono hw'.size)⟩)
                       | (go_at_call 18; (with_reducible refine (EntryC.of_calls _ _ _ _ _ _ _ _ _ _ _ _ _ _ _ _ (by first | assumption | omega | exact ⟨by omega, by omega⟩) (by first | assumption | omega | exact ⟨by omega, by omega⟩) (by first | assumption | omega | exact ⟨by omega, by omega⟩) (by first | assumption | omega | exact ⟨by omega, by omega⟩) (hG0.below hw' (Nat.le_refl _))).mono ?_); rintro e w2 ⟨rfl, hb⟩; exact ⟨rfl, hw'.trans (hb.mono hw'.size)⟩)
                       | (go_at_call 19; (with_reducible refine (EntryR.rof_calls _ _ _ _ _ _ _ _ _ _ _ _ _ _ _ _ (by first | assumption | omega | exact ⟨by omega, by omega⟩) (by first | assumption | omega | exact ⟨by omega, by omega⟩) (by first | assumption | omega | exact ⟨by omega, by omega⟩) (by first | assumption | omega | exact ⟨by omega, by omega⟩) (hG0.below hw' (Nat.le_refl _))).mono ?_); rintro e w2 ⟨rfl, hb⟩; exact ⟨rfl, hw'.trans (hb.mono hw'.size)⟩)
                       | (go_at_call 20; (with_reducible refine (EntryC.covers_calls _ _ _ _ _ _ _ _ _ _ _ _ _ (by first | assumption | omega | exact ⟨by omega, by omega⟩) (by first | assumption | omega | exact ⟨by omega, by omega⟩) (by first | assumption | omega | exact ⟨by omega, by omega⟩) (hG0.below hw' (Nat.le_refl _))).mono ?_); rintro e w2 ⟨rfl, hb⟩; exact ⟨rfl, hw'.trans (hb.mono hw'.size)⟩)
                       | (go_at_call 21; (with_reducible refine (EntryR.rcovers_calls _ _ _ _ _ _ _ _ _ _ _ _ _ (by first | assumption | omega | exact ⟨by omega, by omega⟩) (by first | assumption | omega | exact ⟨by omega, by omega⟩) (by first | assumption | omega | exact ⟨by omega, by omega⟩) (by first | assumption | omega | exact ⟨by omega, by omega⟩) (hG0.below hw' (Nat.le_refl _))).mono ?_); rintro e w2 ⟨rfl, hb⟩; exact ⟨rfl, hw'.trans (hb.mono hw'.size)⟩)
                       | (go_at_call 22; (with_reducible refine (EntryC.matches_calls _ _ _ _ _ _ _ _ _ _ _ _ _ _ (by first | assumption | omega | exact ⟨by omega, by omega⟩) (by first | assumption | omega | exact ⟨by omega, by omega⟩) (by first | assumption | omega | exact ⟨by omega, by omega⟩) (hG0.below hw' (Nat.le_refl _))).mono ?_); rintro e w2 ⟨rfl, hb⟩; exact ⟨rfl, hw'.trans (hb.mono hw'.size)⟩)
                       | (go_at_call 23; (with_reducible refine (EntryR.rmatches_calls _ _ _ _ _ _ _ _ _ _ _ _ _ _ (by first | assumption | omega | exact ⟨by omega, by omega⟩) (by first | assumption | omega | exact ⟨by omega, by omega⟩) (by first | assumption | omega | exact ⟨by omega, by omega⟩) (by first | assumption | omega | exact ⟨by omega, by omega⟩) (hG0.below hw' (Nat.le_refl _))).mono ?_); rintro e w2 ⟨rfl, hb⟩; exact ⟨rfl, hw'.trans (hb.mono hw'.size)⟩)
                       | (go_at_call 24; (with_reducible refine (EntryC.over_calls _ _ _ _ _ _ _ _ _ _ _ _ _ _ _ _ _ _ _ _ _ _ _ (by first | assumption | omega | exact ⟨by omega, by omega⟩) (by first | assumption | omega | exact ⟨by omega, by omega⟩) (by first | assumption | omega | exact ⟨by omega, by omega⟩) (by first | assumption | omega | exact ⟨by omega, by omega⟩) (hG0.below hw' (Nat.le_refl _))).mono ?_); rintro e w2 ⟨rfl, hb⟩; exact ⟨rfl, hw'.trans (hb.mono hw'.size)⟩)
                       | (go_at_call 25; (with_reducible refine (EntryR.rover_calls _ _ _ _ _ _ _ _ _ _ _ _ _ _ _ _ _ _ _ _ _ _ _ (by first | assumption | omega | exact ⟨by omega, by omega⟩) (by first | assumption | omega | exact ⟨by omega, by omega⟩) (by first | assumption | omega | exact ⟨by omega, by omega⟩) (by first | assumption | omega | exact ⟨by omega, by omega⟩) (hG0.below hw' (Nat.le_refl _))).mono ?_); rintro e w2 ⟨rfl, hb⟩; exact ⟨rfl, hw'.trans (hb.mono hw'.size)⟩)
                       | (go_at_call 26; (with_reducible refine (EntryC.phys_calls _ _ _ _ _ _ _ _ _ _ _ _ _ (by first | assumption | omega | exact ⟨by omega, by omega⟩) (by first | assumption | omega | exact ⟨by omega, by omega⟩) (by first | assumption | omega | exact ⟨by omega, by omega⟩) (by first | assumption | omega | exact ⟨by omega, by omega⟩) (by first | assumption | omega | exact ⟨by omega, by omega⟩) (by first | assumption | omega | exact ⟨by omega, by omega⟩) (hG0.below hw' (Nat.le_refl _))).mono ?_); rintro e w2 ⟨rfl, hb⟩; exact ⟨rfl, hw'.trans (hb.mono hw'.size)⟩)
                       | (go_at_call 27; (with_reducible refine (EntryR.rphys_calls _ _ _ _ _ _ _ _ _ _ _ _ _ (by first | assumption | omega | exact ⟨by omega, by omega⟩) (by first | assumption | omega | exact ⟨by omega, by omega⟩) (by first | assumption | omega | exact ⟨by omega, by omega⟩) (by first | assumption | omega | exact ⟨by omega, by omega⟩) (by first | assumption | omega | exact ⟨by omega, by omega⟩) (by first | assumption | omega | exact ⟨by omega, by omega⟩) (hG0.below hw' (Nat.le_refl _))).mono ?_); rintro e w2 ⟨rfl, hb⟩; exact ⟨rfl, hw'.trans (hb.mono hw'.size)⟩)
                       | (go_at_call 29; (with_reducible refine (EntryR.phys10_calls _ _ _ _ _ _ _ _ _ _ _ _ _ _ _ (by first | assumption | omega | exact ⟨by omega, by omega⟩) (by first | assumption | omega | exact ⟨by omega, by omega⟩) (by first | assumption | omega | exact ⟨by omega, by omega⟩) (by first | assumption | omega | exact ⟨by omega, by omega⟩) (by first | assumption | omega | exact ⟨by omega, by omega⟩) (by first | assumption | omega | exact ⟨by omega, by omega⟩) (hG0.below hw' (Nat.le_refl _))).mono ?_); rintro e w2 ⟨rfl, hb⟩; exact ⟨rfl, hw'.trans (hb.mono hw'.size)⟩)
                       | (go_at_call 28; (with_reducible refine (VaR.rbase_calls _ _ _ (by first | assumption | omega | exact ⟨by omega, by omega⟩) (by first | assumption | omega | exact ⟨by omega, by omega⟩) (by first | assumption | omega | exact ⟨by omega, by omega⟩) (by first | assumption | omega | exact ⟨by omega, by omega⟩)).mono ?_); rintro e w2 ⟨rfl, hb⟩; exact ⟨rfl, hw'.trans (hb.below.mono hw'.size)⟩)
                       | (go_at_call 30; (with_reducible refine (VaR.rof_calls _ _ (by first | assumption | omega | exact ⟨by omega, by omega⟩) (by first | assumption | omega | exact ⟨by omega, by omega⟩)).mono ?_); rintro e w2 ⟨rfl, hb⟩; exact ⟨rfl, hw'.trans (hb.mono hw'.size)⟩)
                       | (go_at_call 31; (with_reducible refine (EntryR.rpages_calls _ _ (by first | assumption | omega | exact ⟨by omega, by omega⟩) (by first | assumption | omega | exact ⟨by omega, by omega⟩)).mono ?_); rintro e w2 ⟨rfl, hb⟩; exact ⟨rfl, hw'.trans (hb.below.mono hw'.size)⟩)
                       | (obtain ⟨hcc, _⟩ := bcell hw'; go_simp; done)
                       | (obtain ⟨hcc, _⟩ := bcell hw'; go_simp; rfl)
                     clear hK K))
        refine wpQuiet_nil ?_
        intro w6 bw6
        have Bw6 := bel_trans Bw5 bw6
        clear cw5 bw6 y0 y1 hG0
        obtain ⟨cw6, _⟩ := bcell Bw6
        go_wp2_with fail
        refine (VaR.rof_calls _ _ n00 n01).mono ?_
        rintro e w7 ⟨rfl, bw7⟩
        have Bw7 := bel_trans Bw6 bw7
        clear cw6 bw7
        obtain ⟨cw7, _⟩ := bcell Bw7
        go_wp2_with fail
        refine (VaR.rof_calls _ _ q00 q01).mono ?_
        rintro e w8 ⟨rfl, bw8⟩
        have Bw8 := bel_trans Bw7 bw8
        clear cw7 bw8
        obtain ⟨cw8, _⟩ := bcell Bw8
        cases k1 : coversE ⟨v, si, gl, lv, vpn, ppn, ⟨r, w, x, u⟩, d⟩ (ofv vpn)
        · have k3 : coversE ⟨v, si, gl, lv, vpn, ppn, ⟨r, w, x, u⟩, d⟩ (ofv vpnq) = true := by rcases hoc.out ho with h | h; exact absurd h.1 (by rw [k1]; simp); exact h.1
          have k4 : coversE ⟨vq, siq, glq, lvq, vpnq, ppnq, ⟨rq, wq, xq, uq⟩, dq⟩ (ofv vpnq) = true := by rcases hoc.out ho with h | h; exact absurd h.1 (by rw [k1]; simp); exact h.2
          go_wp2_with fail
          refine (EntryC.covers_calls _ _ _ _ _ _ _ _ _ _ _ _ _ hl1 (by assumption) (by assumption) (hG1.to Bw8)).mono ?_
          rintro e w9 ⟨rfl, bw9⟩
          rw [k1]
          have Bw9 := bel_trans Bw8 bw9
          clear cw8 bw9
          obtain ⟨cw9, _⟩ := bcell Bw9
          go_wp2_with fail
          refine (EntryC.covers_calls _ _ _ _ _ _ _ _ _ _ _ _ _ hl1 (by assumption) (by assumption) (hG1.to Bw9)).mono ?_
          rintro e wa ⟨rfl, bwa⟩
          rw [k3]
          have Bwa := bel_trans Bw9 bwa
          clear cw9 bwa
          obtain ⟨cwa, _⟩ := bcell Bwa
          go_wp2_with fail
          refine (EntryC.covers_calls _ _ _ _ _ _ _ _ _ _ _ _ _ hl2 (by assumption) (by assumption) (hG1.to Bwa)).mono ?_
          rintro e wb ⟨rfl, bwb⟩
          rw [k4]
          have Bwb := bel_trans Bwa bwb
          clear cwa bwb
          obtain ⟨cwb, _⟩ := bcell Bwb
          go_wp2
          go_ret
          exact ⟨rfl, bel_trans BX Bwb⟩
        · cases k2 : coversE ⟨vq, siq, glq, lvq, vpnq, ppnq, ⟨rq, wq, xq, uq⟩, dq⟩ (ofv vpn)
          · have k3 : coversE ⟨v, si, gl, lv, vpn, ppn, ⟨r, w, x, u⟩, d⟩ (ofv vpnq) = true := by rcases hoc.out ho with h | h; exact absurd h.2 (by rw [k2]; simp); exact h.1
            have k4 : coversE ⟨vq, siq, glq, lvq, vpnq, ppnq, ⟨rq, wq, xq, uq⟩, dq⟩ (ofv vpnq) = true := by rcases hoc.out ho with h | h; exact absurd h.2 (by rw [k2]; simp); exact h.2
            go_wp2_with fail
            refine (EntryC.covers_calls _ _ _ _ _ _ _ _ _ _ _ _ _ hl1 (by assumption) (by assumption) (hG1.to Bw8)).mono ?_
            rintro e w9 ⟨rfl, bw9⟩
            rw [k1]
            have Bw9 := bel_trans Bw8 bw9
            clear cw8 bw9
            obtain ⟨cw9, _⟩ := bcell Bw9
            go_wp2_with fail
            refine (EntryC.covers_calls _ _ _ _ _ _ _ _ _ _ _ _ _ hl2 (by assumption) (by assumption) (hG1.to Bw9)).mono ?_
            rintro e wa ⟨rfl, bwa⟩
            rw [k2]
            have Bwa := bel_trans Bw9 bwa
            clear cw9 bwa
            obtain ⟨cwa, _⟩ := bcell Bwa
            go_wp2_with fail
            refine (EntryC.covers_calls _ _ _ _ _ _ _ _ _ _ _ _ _ hl1 (by assumption) (by assumption) (hG1.to Bwa)).mono ?_
            rintro e wb ⟨rfl, bwb⟩
            rw [k3]
            have Bwb := bel_trans Bwa bwb
            clear cwa bwb
            obtain ⟨cwb, _⟩ := bcell Bwb
            go_wp2_with fail
            refine (EntryC.covers_calls _ _ _ _ _ _ _ _ _ _ _ _ _ hl2 (by assumption) (by assumption) (hG1.to Bwb)).mono ?_
            rintro e wc ⟨rfl, bwc⟩
            rw [k4]
            have Bwc := bel_trans Bwb bwc
            clear cwb bwc
            obtain ⟨cwc, _⟩ := bcell Bwc
            go_wp2
            go_ret
            exact ⟨rfl, bel_trans BX Bwc⟩
          ·
            go_wp2_with fail
            refine (EntryC.covers_calls _ _ _ _ _ _ _ _ _ _ _ _ _ hl1 (by assumption) (by assumption) (hG1.to Bw8)).mono ?_
            rintro e w9 ⟨rfl, bw9⟩
            rw [k1]
            have Bw9 := bel_trans Bw8 bw9
            clear cw8 bw9
            obtain ⟨cw9, _⟩ := bcell Bw9
            go_wp2_with fail
            refine (EntryC.covers_calls _ _ _ _ _ _ _ _ _ _ _ _ _ hl2 (by assumption) (by assumption) (hG1.to Bw9)).mono ?_
            rintro e wa ⟨rfl, bwa⟩
            rw [k2]
            have Bwa := bel_trans Bw9 bwa
            clear cw9 bwa
            obtain ⟨cwa, _⟩ := bcell Bwa
            go_wp2
            go_ret
            exact ⟨rfl, bel_trans BX Bwa⟩
end Go.Proofs.YtjgnckhbafgalaaDoor.EntryL4
