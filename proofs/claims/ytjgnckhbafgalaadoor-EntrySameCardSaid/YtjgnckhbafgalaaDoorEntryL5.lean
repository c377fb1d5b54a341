/- The walk of the law EntrySame. -/
import Derived.Test.YtjgnckhbafgalaaDoorEntryL1
import Derived.Test.YtjgnckhbafgalaaDoorEntryP
import Derived.Test.YtjgnckhbafgalaaDoorVaR3
namespace Go.Proofs.YtjgnckhbafgalaaDoor.EntryL5
open Go.RowKit Go.Proofs.YtjgnckhbafgalaaDoor.Bv Go.Proofs.YtjgnckhbafgalaaDoor.VaSpec Go.Proofs.YtjgnckhbafgalaaDoor.Base Go.Proofs.YtjgnckhbafgalaaDoor.BitsC Go.Proofs.YtjgnckhbafgalaaDoor.VaC Go.Proofs.YtjgnckhbafgalaaDoor.PteSpec Go.Proofs.YtjgnckhbafgalaaDoor.EntrySpec Go.Proofs.YtjgnckhbafgalaaDoor.EqS Go.Proofs.YtjgnckhbafgalaaDoor.QTail
set_option linter.unusedVariables false
set_option linter.unusedSimpArgs false
attribute [local go_sem high] eq_perm eq_pte eq_ent
open Go.Proofs.YtjgnckhbafgalaaDoor.EntryC (name_world)
open Go.Proofs.YtjgnckhbafgalaaDoor.EntryW (name_calls)
attribute [local go_sem] eqPerm_self eqPte_self eqEnt_self
set_option maxHeartbeats 8000000 in
theorem same_walk (v : Bool) (si : Int) (gl : Bool) (lv vpn ppn : Int) (r w x u d : Bool) (vq : Bool) (siq : Int) (glq : Bool) (lvq vpnq ppnq : Int) (rq wq xq uq dq : Bool) (W : World) (n0 : U vpn) (p0 : U ppn) (s0 : U si) (nq0 : U vpnq) (pq0 : U ppnq) (sq0 : U siq) (hG : G W) :
    Calls Tryd.prog 7 #[.agg #[.bool v, .int .u64 si, .bool gl, .int .i64 lv, .int .u64 vpn, .int .u64 ppn, .bool r, .bool w, .bool x, .bool u, .bool d], .agg #[.bool vq, .int .u64 siq, .bool glq, .int .i64 lvq, .int .u64 vpnq, .int .u64 ppnq, .bool rq, .bool wq, .bool xq, .bool uq, .bool dq]] W fun e w' => e = .returned (.bool true) ∧ Below W.heap.size W w' := by
  go_enter Tryd.func7, Tryd.ntmps7
  go_wp2_with fail
  refine name_calls (F := fun w1 => w1.cell? ⟨W.heap.size, 0, none⟩ = some (.bool v) ∧ w1.cell? ⟨W.heap.size, 1, none⟩ = some (.int .u64 si) ∧ w1.cell? ⟨W.heap.size, 2, none⟩ = some (.bool gl) ∧ w1.cell? ⟨W.heap.size, 3, none⟩ = some (.int .i64 lv) ∧ w1.cell? ⟨W.heap.size, 4, none⟩ = some (.int .u64 vpn) ∧ w1.cell? ⟨W.heap.size, 5, none⟩ = some (.int .u64 ppn) ∧ w1.cell? ⟨W.heap.size, 6, none⟩ = some (.bool r) ∧ w1.cell? ⟨W.heap.size, 7, none⟩ = some (.bool w) ∧ w1.cell? ⟨W.heap.size, 8, none⟩ = some (.bool x) ∧ w1.cell? ⟨W.heap.size, 9, none⟩ = some (.bool u) ∧ w1.cell? ⟨W.heap.size, 10, none⟩ = some (.bool d) ∧ w1.cell? ⟨W.heap.size + 1, 0, none⟩ = some (.bool vq) ∧ w1.cell? ⟨W.heap.size + 1, 1, none⟩ = some (.int .u64 siq) ∧ w1.cell? ⟨W.heap.size + 1, 2, none⟩ = some (.bool glq) ∧ w1.cell? ⟨W.heap.size + 1, 3, none⟩ = some (.int .i64 lvq) ∧ w1.cell? ⟨W.heap.size + 1, 4, none⟩ = some (.int .u64 vpnq) ∧ w1.cell? ⟨W.heap.size + 1, 5, none⟩ = some (.int .u64 ppnq) ∧ w1.cell? ⟨W.heap.size + 1, 6, none⟩ = some (.bool rq) ∧ w1.cell? ⟨W.heap.size + 1, 7, none⟩ = some (.bool wq) ∧ w1.cell? ⟨W.heap.size + 1, 8, none⟩ = some (.bool xq) ∧ w1.cell? ⟨W.heap.size + 1, 9, none⟩ = some (.bool uq) ∧ w1.cell? ⟨W.heap.size + 1, 10, none⟩ = some (.bool dq) ∧ W.heap.size < w1.heap.size ∧ W.heap.size + 1 < w1.heap.size ∧ Below W.heap.size W w1) (by
    refine ⟨?_, ?_, ?_, ?_, ?_, ?_, ?_, ?_, ?_, ?_, ?_, ?_, ?_, ?_, ?_, ?_, ?_, ?_, ?_, ?_, ?_, ?_, ?_, ?_, ?_⟩
    all_goals first | (simp; done) | (simp; omega) | (intro i; simp; done) | exact (by repeat (first | (with_reducible exact Below.refl _ _) | (with_reducible apply bel_drewN) | (with_reducible apply bel_alloc) | (with_reducible apply bel_trans; rotate_left; with_reducible assumption) | (with_reducible refine bel_setCell _ _ _ (by first | omega | (simp; done) | (simp; omega) | (simp at *; omega)) ?_)))) ?_
  rintro Wx ⟨f0, p1, p2, p3, p4, p5, p6, p7, p8, p9, p10, q0, q1, q2, q3, q4, q5, q6, q7, q8, q9, q10, hz0, hz1, BX⟩
  have hG0 : G Wx := hG.to BX
  refine (EntryW.awake_calls Wx hG0).mono ?_
  rintro e w1 ⟨rfl, bw1⟩
  have Bw1 := bel_trans (Below.refl _ _) bw1
  obtain ⟨cw1, _⟩ := bcell Bw1
  go_wp2_with fail
  refine (EntryR.rmay_calls _ _ _ _ _ _ _ _ _ _ _ _ n0 p0 s0).mono ?_
  rintro e w2 ⟨rfl, bw2⟩
  have Bw2 := bel_trans Bw1 bw2
  clear cw1 bw2
  obtain ⟨cw2, _⟩ := bcell Bw2
  cases hm : mayE ⟨v, si, gl, lv, vpn, ppn, ⟨r, w, x, u⟩, d⟩
  · go_wp2_with fail
    refine (EntryW.awake_calls _ (hG0.to Bw2)).mono ?_
    rintro e w9 ⟨rfl, b9⟩
    go_wp2
    go_ret
    exact ⟨rfl, bel_trans BX (bel_trans Bw2 b9)⟩
  go_wp2_with fail
  refine (EntryR.rmay_calls _ _ _ _ _ _ _ _ _ _ _ _ nq0 pq0 sq0).mono ?_
  rintro e w3 ⟨rfl, bw3⟩
  have Bw3 := bel_trans Bw2 bw3
  clear cw2 bw3
  obtain ⟨cw3, _⟩ := bcell Bw3
  cases hk : mayE ⟨vq, siq, glq, lvq, vpnq, ppnq, ⟨rq, wq, xq, uq⟩, dq⟩
  · go_wp2_with fail
    refine (EntryW.awake_calls _ (hG0.to Bw3)).mono ?_
    rintro e w9 ⟨rfl, b9⟩
    go_wp2
    go_ret
    exact ⟨rfl, bel_trans BX (bel_trans Bw3 b9)⟩
  cases v
  · go_wp2_with fail
    refine (EntryW.awake_calls _ (hG0.to Bw3)).mono ?_
    rintro e w9 ⟨rfl, b9⟩
    go_wp2
    go_ret
    exact ⟨rfl, bel_trans BX (bel_trans Bw3 b9)⟩
  cases vq
  · go_wp2_with fail
    refine (EntryW.awake_calls _ (hG0.to Bw3)).mono ?_
    rintro e w9 ⟨rfl, b9⟩
    go_wp2
    go_ret
    exact ⟨rfl, bel_trans BX (bel_trans Bw3 b9)⟩
  have hl1 : true = true → 0 ≤ lv ∧ lv ≤ 2 := fun h => by have := mayE_valid hm h; simp only at this; omega
  have hl2 : true = true → 0 ≤ lvq ∧ lvq ≤ 2 := fun h => by have := mayE_valid hk h; simp only at this; omega
  obtain ⟨n00, n01⟩ := n0
  obtain ⟨q00, q01⟩ := nq0
  have hsl := Lib.hid (EntryP.over_same ⟨true, si, gl, lv, vpn, ppn, ⟨r, w, x, u⟩, d⟩ ⟨true, siq, glq, lvq, vpnq, ppnq, ⟨rq, wq, xq, uq⟩, dq⟩ n00 q00 hm hk rfl rfl)
  have hcf := EntryP.covers_first ⟨true, si, gl, lv, vpn, ppn, ⟨r, w, x, u⟩, d⟩ n00 hm
  have hcl := EntryP.cov_last ⟨true, si, gl, lv, vpn, ppn, ⟨r, w, x, u⟩, d⟩ n00 hm rfl
  have hca := EntryP.cov_ahead ⟨true, si, gl, lv, vpn, ppn, ⟨r, w, x, u⟩, d⟩ n00 hm rfl
  have hcb := EntryP.cov_behind ⟨true, si, gl, lv, vpn, ppn, ⟨r, w, x, u⟩, d⟩ n00 hm rfl
  obtain ⟨⟨l0, l2⟩, n1, pp1, _, m, _⟩ := mayE_valid hm rfl
  obtain ⟨⟨j0, j2⟩, _⟩ := mayE_valid hk rfl
  have hpf := EntryP.phys_first lv vpn ppn n00 m
  have hpl := EntryP.phys_last lv vpn ppn n00 m
  simp only at hcf hcl hca hcb l0 l2 n1 pp1 m j0 j2
  obtain ⟨g1, g2⟩ := pages_bd lv
  obtain ⟨pp0, _⟩ := p0
  have hw1 : IntKind.u64.wrap (4096 * ppn) = 4096 * ppn := by rw [wrap_u64]; omega
  have hw3 : IntKind.u64.wrap (4096 * IntKind.u64.wrap (IntKind.u64.wrap (ppn + pages lv) - 1)) = 4096 * (ppn + pages lv - 1) := by rw [wrap_u64, wrap_u64, wrap_u64]; omega
  obtain ⟨oa0, oa1⟩ := VaC.ofv_bd vpn
  obtain ⟨ob0, ob1⟩ := VaC.ofv_bd (vpn + pages lv - 1)
  obtain ⟨oc0, oc1⟩ := VaC.ofv_bd (vpn + 134217728 - 1)
  obtain ⟨od0, od1⟩ := VaC.ofv_bd (vpn + pages lv)
  have HM := Lib.hid hm
  have HK := Lib.hid hk
  have hMM := Lib.hid m
  have hG1 := hG0
  clear hG0 hm hk Bw1 Bw2 m
  by_cases hs : lv = lvq
  · by_cases hn : vpn = vpnq
    · have ho : overE ⟨true, si, gl, lv, vpn, ppn, ⟨r, w, x, u⟩, d⟩ ⟨true, siq, glq, lvq, vpnq, ppnq, ⟨rq, wq, xq, uq⟩, dq⟩ = true := by rw [hsl.out hs]; simpa using hn
      have hs1 : (lv == lvq) = true := by simpa using hs
      have hs2 : decide (lv = lvq) = true := by simpa using hs
      have hn1 : (vpn == vpnq) = true := by simpa using hn
      have hn2 : decide (vpn = vpnq) = true := by simpa using hn
      clear hs hn hsl
      have y0 : W.heap.size < w3.heap.size := Nat.lt_of_lt_of_le hz0 Bw3.size
      have y1 : W.heap.size + 1 < w3.heap.size := Nat.lt_of_lt_of_le hz1 Bw3.size
      have hG0 : G w3 := hG1.to Bw3
      go_wp2_with fail
      refine region_below (by kernel_rfl) (by kernel_rfl) ?_
      repeat (with_reducible refine wpQuiet_step (fun K hK => ?_)
              go_simp
              first
                | (refine hK _ ?_; clear hK K)
                | (refine ⟨_, fun _ _ => rfl, hK _ ?_⟩; clear hK K)
                | (apply Exists.intro
                   refine ⟨fun w' hw' => ?_, hK _ ?_⟩
                   · first
                     | (go_at_call 13; (with_reducible refine (EntryW.awake_calls _ (hG0.below hw' (Nat.le_refl _))).mono ?_); rintro e w2 ⟨rfl, hb⟩; exact ⟨rfl, hw'.trans (hb.mono hw'.size)⟩)
                     | (go_at_call 14; (with_reducible refine (EntryC.may_calls _ _ _ _ _ _ _ _ _ _ _ _ (by first | assumption | omega | exact ⟨by omega, by omega⟩) (by first | assumption | omega | exact ⟨by omega, by omega⟩) (by first | assumption | omega | exact ⟨by omega, by omega⟩) (hG0.below hw' (Nat.le_refl _))).mono ?_); rintro e w2 ⟨rfl, hb⟩; exact ⟨rfl, hw'.trans (hb.mono hw'.size)⟩)
                     | (go_at_call 15; (with_reducible refine (EntryR.rmay_calls _ _ _ _ _ _ _ _ _ _ _ _ (by first | assumption | omega | exact ⟨by omega, by omega⟩) (by first | assumption | omega | exact ⟨by omega, by omega⟩) (by first | assumption | omega | exact ⟨by omega, by omega⟩)).mono ?_); rintro e w2 ⟨rfl, hb⟩; exact ⟨rfl, hw'.trans (hb.mono hw'.size)⟩)
                     | (go_at_call 16; (with_reducible refine (EntryR.leaf_calls _ _ _ _ _ _ _ _ _ _ _ _ _ _ (by first | assumption | omega | exact ⟨by omega, by omega⟩) (hG0.below hw' (Nat.le_refl _))).mono ?_); rintro e w2 ⟨rfl, hb⟩; exact ⟨rfl, hw'.trans (hb.mono hw'.size)⟩)
                     | (go_at_call 17; (with_reducible refine (VaR.ris_calls _ _ ).mono ?_); rintro e w2 ⟨rfl, hb⟩; exact ⟨rfl, hw'.trans (hb.below.mono hw'.size)⟩)
                     | (go_at_call 18; (with_reducible refine (EntryC.of_calls _ _ _ _ _ _ _ _ _ _ _ _ _ _ _ _ (by first | assumption | omega | exact ⟨by omega, by omega⟩) (by first | assumption | omega | exact ⟨by omega, by omega⟩) (by first | assumption | omega | exact ⟨by omega, by omega⟩) (by first | assumption | omega | exact ⟨by omega, by omega⟩) (hG0.below hw' (Nat.le_refl _))).mono ?_); rintro e w2 ⟨rfl, hb⟩; exact ⟨rfl, hw'.trans (hb.mono hw'.size)⟩)
                     | (go_at_call 19; (with_reducible refine (EntryR.rof_calls _ _ _ _ _ _ _ _ _ _ _ _ _ _ _ _ (by first | assumption | omega | exact ⟨by omega, by omega⟩) (by first | assumption | omega | exact ⟨by omega, by omega⟩) (by first | assumption | omega | exact ⟨by omega, by omega⟩) (by first | assumption | omega | exact ⟨by omega, by omega⟩) (hG0.below hw' (Nat.le_refl _))).mono ?_); rintro e w2 ⟨rfl, hb⟩; exact ⟨rfl, hw'.trans (hb.mono hw'.size)⟩)
                     | (go_at_call 20; (with_reducible refine (EntryC.covers_calls _ _ _ _ _ _ _ _ _ _ _ _ _ (by first | assumption | omega | exact ⟨by omega, by omega⟩) (by first | assumption | omega | exact ⟨by omega, by omega⟩) (by first | assumption | omega | exact ⟨by omega, by omega⟩) (hG0.below hw' (Nat.le_refl _))).mono ?_); rintro e w2 ⟨rfl, hb⟩; exact ⟨rfl, hw'.trans (hb.mono hw'.size)⟩)
                     | (go_at_call 21; (with_reducible refine (EntryR.rcovers_calls _ _ _ _ _ _ _ _ _ _ _ _ _ (by first | assumption | omega | exact ⟨by omega, by omega⟩) (by first | assumption | omega | exact ⟨by omega, by omega⟩) (by first | assumption | omega | exact ⟨by omega, by omega⟩) (by first | assumption | omega | exact ⟨by omega, by omega⟩) (hG0.below hw' (Nat.le_refl _))).mono ?_); rintro e w2 ⟨rfl, hb⟩; exact ⟨rfl, hw'.trans (hb.mono hw'.size)⟩)
                     | (go_at_call 22; (with_reducible refine (EntryC.matches_calls _ _ _ _ _ _ _ _ _ _ _ _ _ _ (by first | assumption | omega | exact ⟨by omega, by omega⟩) (by first | assumption | omega | exact ⟨by omega, by omega⟩) (by first | assumption | omega | exact ⟨by omega, by omega⟩) (hG0.below hw' (Nat.le_refl _))).mono ?_); rintro e w2 ⟨rfl, hb⟩; exact ⟨rfl, hw'.trans (hb.mono hw'.size)⟩)
                     | (go_at_call 23; (with_reducible refine (EntryR.rmatches_calls _ _ _ _ _ _ _ _ _ _ _ _ _ _ (by first | assumption | omega | exact ⟨by omega, by omega⟩) (by first | assumption | omega | exact ⟨by omega, by omega⟩) (by first | assumption | omega | exact ⟨by omega, by omega⟩) (by first | assumption | omega | exact ⟨by omega, by omega⟩) (hG0.below hw' (Nat.le_refl _))).mono ?_); rintro e w2 ⟨rfl, hb⟩; exact ⟨rfl, hw'.trans (hb.mono hw'.size)⟩)
                     | (go_at_call 24; (with_reducible refine (EntryC.over_calls _ _ _ _ _ _ _ _ _ _ _ _ _ _ _ _ _ _ _ _ _ _ _ (by first | assumption | omega | exact ⟨by omega, by omega⟩) (by first | assumption | omega | exact ⟨by omega, by omega⟩) (by first | assumption | omega | exact ⟨by omega, by omega⟩) (by first | assumption | omega | exact ⟨by omega, by omega⟩) (hG0.below hw' (Nat.le_refl _))).mono ?_); rintro e w2 ⟨rfl, hb⟩; exact ⟨rfl, hw'.trans (hb.mono hw'.size)⟩)
                     | (go_at_call 25; (with_reducible refine (EntryR.rover_calls _ _ _ _ _ _ _ _ _ _ _ _ _ _ _ _ _ _ _ _ _ _ _ (by first | assumption | omega | exact ⟨by omega, by omega⟩) (by first | assumption | omega | exact ⟨by omega, by omega⟩) (by first | assumption | omega | exact ⟨by omega, by omega⟩) (by first | assumption | omega | exact ⟨by omega, by omega⟩) (hG0.below hw' (Nat.le_refl _))).mono ?_); rintro e w2 ⟨rfl, hb⟩; exact ⟨rfl, hw'.trans (hb.mono hw'.size)⟩)
                     | (go_at_call 26; (with_reducible refine (EntryC.phys_calls _ _ _ _ _ _ _ _ _ _ _ _ _ (by first | assumption | omega | exact ⟨by omega, by omega⟩) (by first | assumption | omega | exact ⟨by omega, by omega⟩) (by first | assumption | omega | exact ⟨by omega, by omega⟩) (by first | assumption | omega | exact ⟨by omega, by omega⟩) (by first | assumption | omega | exact ⟨by omega, by omega⟩) (by first | assumption | omega | exact ⟨by omega, by omega⟩) (hG0.below hw' (Nat.le_refl _))).mono ?_); rintro e w2 ⟨rfl, hb⟩; exact ⟨rfl, hw'.trans (hb.mono hw'.size)⟩)
                     | (go_at_call 27; (with_reducible refine (EntryR.rphys_calls _ _ _ _ _ _ _ _ _ _ _ _ _ (by first | assumption | omega | exact ⟨by omega, by omega⟩) (by first | assumption | omega | exact ⟨by omega, by omega⟩) (by first | assumption | omega | exact ⟨by omega, by omega⟩) (by first | assumption | omega | exact ⟨by omega, by omega⟩) (by first | assumption | omega | exact ⟨by omega, by omega⟩) (by first | assumption | omega | exact ⟨by omega, by omega⟩) (hG0.below hw' (Nat.le_refl _))).mono ?_); rintro e w2 ⟨rfl, hb⟩; exact ⟨rfl, hw'.trans (hb.mono hw'.size)⟩)
                     | (go_at_call 29; (with_reducible refine (EntryR.phys10_calls _ _ _ _ _ _ _ _ _ _ _ _ _ _ _ (by first | assumption | omega | exact ⟨by omega, by omega⟩) (by first | assumption | omega | exact ⟨by omega, by omega⟩) (by first | assumption | omega | exact ⟨by omega, by omega⟩) (by first | assumption | omega | exact ⟨by omega, by omega⟩) (by first | assumption | omega | exact ⟨by omega, by omega⟩) (by first | assumption | omega | exact ⟨by omega, by omega⟩) (hG0.below hw' (Nat.le_refl _))).mono ?_); rintro e w2 ⟨rfl, hb⟩; exact ⟨rfl, hw'.trans (hb.mono hw'.size)⟩)
                     | (go_at_call 28; (with_reducible refine (VaR.rbase_calls _ _ _ (by first | assumption | omega | exact ⟨by omega, by omega⟩) (by first | assumption | omega | exact ⟨by omega, by omega⟩) (by first | assumption | omega | exact ⟨by omega, by omega⟩) (by first | assumption | omega | exact ⟨by omega, by omega⟩)).mono ?_); rintro e w2 ⟨rfl, hb⟩; exact ⟨rfl, hw'.trans (hb.below.mono hw'.size)⟩)
                     | (go_at_call 30; (with_reducible refine (VaR.rof_calls _ _ (by first | assumption | omega | exact ⟨by omega, by omega⟩) (by first | assumption | omega | exact ⟨by omega, by omega⟩)).mono ?_); rintro e w2 ⟨rfl, hb⟩; exact ⟨rfl, hw'.trans (hb.mono hw'.size)⟩)
                     | (go_at_call 31; (with_reducible refine (EntryR.rpages_calls _ _ (by first | assumption | omega | exact ⟨by omega, by omega⟩) (by first | assumption | omega | exact ⟨by omega, by omega⟩)).mono ?_); rintro e w2 ⟨rfl, hb⟩; exact ⟨rfl, hw'.trans (hb.below.mono hw'.size)⟩)
                     | (obtain ⟨hcc, _⟩ := bcell hw'; go_simp; done)
                     | (obtain ⟨hcc, _⟩ := bcell hw'; go_simp; rfl)
                   clear hK K))
      refine wpQuiet_nil ?_
      intro w4 bw4
      have Bw4 := bel_trans Bw3 bw4
      clear cw3 bw4 y0 y1 hG0
      obtain ⟨cw4, _⟩ := bcell Bw4
      go_wp2_with fail
      refine (EntryR.rpages_calls _ _ l0 l2).mono ?_
      rintro e w5 ⟨rfl, bw5⟩
      have Bw5 := bel_trans Bw4 bw5.below
      clear cw4 bw5
      obtain ⟨cw5, _⟩ := bcell Bw5
      go_wp2_with fail
      refine (VaR.rof_calls _ _ n00 n01).mono ?_
      rintro e w6 ⟨rfl, bw6⟩
      have Bw6 := bel_trans Bw5 bw6
      clear cw5 bw6
      obtain ⟨cw6, _⟩ := bcell Bw6
      go_wp2_with fail
      refine (VaR.rof_calls _ _ (by omega) (by omega)).mono ?_
      rintro e w7 ⟨rfl, bw7⟩
      have Bw7 := bel_trans Bw6 bw7
      clear cw6 bw7
      obtain ⟨cw7, _⟩ := bcell Bw7
      go_wp2_with fail
      refine (VaR.rof_calls _ _ (by omega) (by omega)).mono ?_
      rintro e w8 ⟨rfl, bw8⟩
      have Bw8 := bel_trans Bw7 bw8
      clear cw7 bw8
      obtain ⟨cw8, _⟩ := bcell Bw8
      go_wp2_with fail
      refine (VaR.rof_calls _ _ (by omega) (by omega)).mono ?_
      rintro e w9 ⟨rfl, bw9⟩
      have Bw9 := bel_trans Bw8 bw9
      clear cw8 bw9
      obtain ⟨cw9, _⟩ := bcell Bw9
      have y0 : W.heap.size < w9.heap.size := Nat.lt_of_lt_of_le hz0 Bw9.size
      have y1 : W.heap.size + 1 < w9.heap.size := Nat.lt_of_lt_of_le hz1 Bw9.size
      have hG0 : G w9 := hG1.to Bw9
      go_wp2_with fail
      refine region_below (by kernel_rfl) (by kernel_rfl) ?_
      repeat (with_reducible refine wpQuiet_step (fun K hK => ?_)
              go_simp
              first
                | (refine hK _ ?_; clear hK K)
                | (refine ⟨_, fun _ _ => rfl, hK _ ?_⟩; clear hK K)
                | (apply Exists.intro
                   refine ⟨fun w' hw' => ?_, hK _ ?_⟩
                   · first
                     | (go_at_call 13; (with_reducible refine (EntryW.awake_calls _ (hG0.below hw' (Nat.le_refl _))).mono ?_); rintro e w2 ⟨rfl, hb⟩; exact ⟨rfl, hw'.trans (hb.mono hw'.size)⟩)
                     | (go_at_call 14; (with_reducible refine (EntryC.may_calls _ _ _ _ _ _ _ _ _ _ _ _ (by first | assumption | omega | exact ⟨by omega, by omega⟩) (by first | assumption | omega | exact ⟨by omega, by omega⟩) (by first | assumption | omega | exact ⟨by omega, by omega⟩) (hG0.below hw' (Nat.le_refl _))).mono ?_); rintro e w2 ⟨rfl, hb⟩; exact ⟨rfl, hw'.trans (hb.mono hw'.size)⟩)
                     | (go_at_call 15; (with_reducible refine (EntryR.rmay_calls _ _ _ _ _ _ _ _ _ _ _ _ (by first | assumption | omega | exact ⟨by omega, by omega⟩) (by first | assumption | omega | exact ⟨by omega, by omega⟩) (by first | assumption | omega | exact ⟨by omega, by omega⟩)).mono ?_); rintro e w2 ⟨rfl, hb⟩; exact ⟨rfl, hw'.trans (hb.mono hw'.size)⟩)
                     | (go_at_call 16; (with_reducible refine (EntryR.leaf_calls _ _ _ _ _ _ _ _ _ _ _ _ _ _ (by first | assumption | omega | exact ⟨by omega, by omega⟩) (hG0.below hw' (Nat.le_refl _))).mono ?_); rintro e w2 ⟨rfl, hb⟩; exact ⟨rfl, hw'.trans (hb.mono hw'.size)⟩)
                     | (go_at_call 17; (with_reducible refine (VaR.ris_calls _ _ ).mono ?_); rintro e w2 ⟨rfl, hb⟩; exact ⟨rfl, hw'.trans (hb.below.mono hw'.size)⟩)
                     | (go_at_call 18; (with_reducible refine (EntryC.of_calls _ _ _ _ _ _ _ _ _ _ _ _ _ _ _ _ (by first | assumption | omega | exact ⟨by omega, by omega⟩) (by first | assumption | omega | exact ⟨by omega, by omega⟩) (by first | assumption | omega | exact ⟨by omega, by omega⟩) (by first | assumption | omega | exact ⟨by omega, by omega⟩) (hG0.below hw' (Nat.le_refl _))).mono ?_); rintro e w2 ⟨rfl, hb⟩; exact ⟨rfl, hw'.trans (hb.mono hw'.size)⟩)
                     | (go_at_call 19; (with_reducible refine (EntryR.rof_calls _ _ _ _ _ _ _ _ _ _ _ _ _ _ _ _ (by first | assumption | omega | exact ⟨by omega, by omega⟩) (by first | assumption | omega | exact ⟨by omega, by omega⟩) (by first | assumption | omega | exact ⟨by omega, by omega⟩) (by first | assumption | omega | exact ⟨by omega, by omega⟩) (hG0.below hw' (Nat.le_refl _))).mono ?_); rintro e w2 ⟨rfl, hb⟩; exact ⟨rfl, hw'.trans (hb.mono hw'.size)⟩)
                     | (go_at_call 20; (with_reducible refine (EntryC.covers_calls _ _ _ _ _ _ _ _ _ _ _ _ _ (by first | assumption | omega | exact ⟨by omega, by omega⟩) (by first | assumption | omega | exact ⟨by omega, by omega⟩) (by first | assumption | omega | exact ⟨by omega, by omega⟩) (hG0.below hw' (Nat.le_refl _))).mono ?_); rintro e w2 ⟨rfl, hb⟩; exact ⟨rfl, hw'.trans (hb.mono hw'.size)⟩)
                     | (go_at_call 21; (with_reducible refine (EntryR.rcovers_calls _ _ _ _ _ _ _ _ _ _ _ _ _ (by first | assumption | omega | exact ⟨by omega, by omega⟩) (by first | assumption | omega | exact ⟨by omega, by omega⟩) (by first | assumption | omega | exact ⟨by omega, by omega⟩) (by first | assumption | omega | exact ⟨by omega, by omega⟩) (hG0.below hw' (Nat.le_refl _))).mono ?_); rintro e w2 ⟨rfl, hb⟩; exact ⟨rfl, hw'.trans (hb.mono hw'.size)⟩)
                     | (go_at_call 22; (with_reducible refine (EntryC.matches_calls _ _ _ _ _ _ _ _ _ _ _ _ _ _ (by first | assumption | omega | exact ⟨by omega, by omega⟩) (by first | assumption | omega | exact ⟨by omega, by omega⟩) (by first | assumption | omega | exact ⟨by omega, by omega⟩) (hG0.below hw' (Nat.le_refl _))).mono ?_); rintro e w2 ⟨rfl, hb⟩; exact ⟨rfl, hw'.trans (hb.mono hw'.size)⟩)
                     | (go_at_call 23; (with_reducible refine (EntryR.rmatches_calls _ _ _ _ _ _ _ _ _ _ _ _ _ _ (by first | assumption | omega | exact ⟨by omega, by omega⟩) (by first | assumption | omega | exact ⟨by omega, by omega⟩) (by first | assumption | omega | exact ⟨by omega, by omega⟩) (by first | assumption | omega | exact ⟨by omega, by omega⟩) (hG0.below hw' (Nat.le_refl _))).mono ?_); rintro e w2 ⟨rfl, hb⟩; exact ⟨rfl, hw'.trans (hb.mono hw'.size)⟩)
                     | (go_at_call 24; (with_reducible refine (EntryC.over_calls _ _ _ _ _ _ _ _ _ _ _ _ _ _ _ _ _ _ _ _ _ _ _ (by first | assumption | omega | exact ⟨by omega, by omega⟩) (by first | assumption | omega | exact ⟨by omega, by omega⟩) (by first | assumption | omega | exact ⟨by omega, by omega⟩) (by first | assumption | omega | exact ⟨by omega, by omega⟩) (hG0.below hw' (Nat.le_refl _))).mono ?_); rintro e w2 ⟨rfl, hb⟩; exact ⟨rfl, hw'.trans (hb.mono hw'.size)⟩)
                     | (go_at_call 25; (with_reducible refine (EntryR.rover_calls _ _ _ _ _ _ _ _ _ _ _ _ _ _ _ _ _ _ _ _ _ _ _ (by first | assumption | omega | exact ⟨by omega, by omega⟩) (by first | assumption | omega | exact ⟨by omega, by omega⟩) (by first | assumption | omega | exact ⟨by omega, by omega⟩) (by first | assumption | omega | exact ⟨by omega, by omega⟩) (hG0.below hw' (Nat.le_refl _))).mono ?_); rintro e w2 ⟨rfl, hb⟩; exact ⟨rfl, hw'.trans (hb.mono hw'.size)⟩)
                     | (go_at_call 26; (with_reducible refine (EntryC.phys_calls _ _ _ _ _ _ _ _ _ _ _ _ _ (by first | assumption | omega | exact ⟨by omega, by omega⟩) (by first | assumption | omega | exact ⟨by omega, by omega⟩) (by first | assumption | omega | exact ⟨by omega, by omega⟩) (by first | assumption | omega | exact ⟨by omega, by omega⟩) (by first | assumption | omega | exact ⟨by omega, by omega⟩) (by first | assumption | omega | exact ⟨by omega, by omega⟩) (hG0.below hw' (Nat.le_refl _))).mono ?_); rintro e w2 ⟨rfl, hb⟩; exact ⟨rfl, hw'.trans (hb.mono hw'.size)⟩)
                     | (go_at_call 27; (with_reducible refine (EntryR.rphys_calls _ _ _ _ _ _ _ _ _ _ _ _ _ (by first | assumption | omega | exact ⟨by omega, by omega⟩) (by first | assumption | omega | exact ⟨by omega, by omega⟩) (by first | assumption | omega | exact ⟨by omega, by omega⟩) (by first | assumption | omega | exact ⟨by omega, by omega⟩) (by first | assumption | omega | exact ⟨by omega, by omega⟩) (by first | assumption | omega | exact ⟨by omega, by omega⟩) (hG0.below hw' (Nat.le_refl _))).mono ?_); rintro e w2 ⟨rfl, hb⟩; exact ⟨rfl, hw'.trans (hb.mono hw'.size)⟩)
                     | (go_at_call 29; (with_reducible refine (EntryR.phys10_calls _ _ _ _ _ _ _ _ _ _ _ _ _ _ _ (by first | assumption | omega | exact ⟨by omega, by omega⟩) (by first | assumption | omega | exact ⟨by omega, by omega⟩) (by first | assumption | omega | exact ⟨by omega, by omega⟩) (by first | assumption | omega | exact ⟨by omega, by omega⟩) (by first | assumption | omega | exact ⟨by omega, by omega⟩) (by first | assumption | omega | exact ⟨by omega, by omega⟩) (hG0.below hw' (Nat.le_refl _))).mono ?_); rintro e w2 ⟨rfl, hb⟩; exact ⟨rfl, hw'.trans (hb.mono hw'.size)⟩)
                     | (go_at_call 28; (with_reducible refine (VaR.rbase_calls _ _ _ (by first | assumption | omega | exact ⟨by omega, by omega⟩) (by first | assumption | omega | exact ⟨by omega, by omega⟩) (by first | assumption | omega | exact ⟨by omega, by omega⟩) (by first | assumption | omega | exact ⟨by omega, by omega⟩)).mono ?_); rintro e w2 ⟨rfl, hb⟩; exact ⟨rfl, hw'.trans (hb.below.mono hw'.size)⟩)
                     | (go_at_call 30; (with_reducible refine (VaR.rof_calls _ _ (by first | assumption | omega | exact ⟨by omega, by omega⟩) (by first | assumption | omega | exact ⟨by omega, by omega⟩)).mono ?_); rintro e w2 ⟨rfl, hb⟩; exact ⟨rfl, hw'.trans (hb.mono hw'.size)⟩)
                     | (go_at_call 31; (with_reducible refine (EntryR.rpages_calls _ _ (by first | assumption | omega | exact ⟨by omega, by omega⟩) (by first | assumption | omega | exact ⟨by omega, by omega⟩)).mono ?_); rintro e w2 ⟨rfl, hb⟩; exact ⟨rfl, hw'.trans (hb.below.mono hw'.size)⟩)
                     | (obtain ⟨hcc, _⟩ := bcell hw'; go_simp; done)
                     | (obtain ⟨hcc, _⟩ := bcell hw'; go_simp; rfl)
                   clear hK K))
      refine wpQuiet_nil ?_
      intro wa bwa
      have Bwa := bel_trans Bw9 bwa
      clear cw9 bwa y0 y1 hG0
      obtain ⟨cwa, _⟩ := bcell Bwa
      go_wp2
      go_ret
      exact ⟨rfl, bel_trans BX Bwa⟩
    · have ho : overE ⟨true, si, gl, lv, vpn, ppn, ⟨r, w, x, u⟩, d⟩ ⟨true, siq, glq, lvq, vpnq, ppnq, ⟨rq, wq, xq, uq⟩, dq⟩ = false := by rw [hsl.out hs]; simpa using hn
      have hs1 : (lv == lvq) = true := by simpa using hs
      have hs2 : decide (lv = lvq) = true := by simpa using hs
      have hn1 : (vpn == vpnq) = false := by simpa using hn
      have hn2 : decide (vpn = vpnq) = false := by simpa using hn
      clear hs hn hsl
      have y0 : W.heap.size < w3.heap.size := Nat.lt_of_lt_of_le hz0 Bw3.size
      have y1 : W.heap.size + 1 < w3.heap.size := Nat.lt_of_lt_of_le hz1 Bw3.size
      have hG0 : G w3 := hG1.to Bw3
      go_wp2_with fail
      refine region_below (by kernel_rfl) (by kernel_rfl) ?_
      repeat (with_reducible refine wpQuiet_step (fun K hK => ?_)
              go_simp
              first
                | (refine hK _ ?_; clear hK K)
                | (refine ⟨_, fun _ _ => rfl, hK _ ?_⟩; clear hK K)
                | (apply Exists.intro
                   refine ⟨fun w' hw' => ?_, hK _ ?_⟩
                   · first
                     | (go_at_call 13; (with_reducible refine (EntryW.awake_calls _ (hG0.below hw' (Nat.le_refl _))).mono ?_); rintro e w2 ⟨rfl, hb⟩; exact ⟨rfl, hw'.trans (hb.mono hw'.size)⟩)
                     | (go_at_call 14; (with_reducible refine (EntryC.may_calls _ _ _ _ _ _ _ _ _ _ _ _ (by first | assumption | omega | exact ⟨by omega, by omega⟩) (by first | assumption | omega | exact ⟨by omega, by omega⟩) (by first | assumption | omega | exact ⟨by omega, by omega⟩) (hG0.below hw' (Nat.le_refl _))).mono ?_); rintro e w2 ⟨rfl, hb⟩; exact ⟨rfl, hw'.trans (hb.mono hw'.size)⟩)
                     | (go_at_call 15; (with_reducible refine (EntryR.rmay_calls _ _ _ _ _ _ _ _ _ _ _ _ (by first | assumption | omega | exact ⟨by omega, by omega⟩) (by first | assumption | omega | exact ⟨by omega, by omega⟩) (by first | assumption | omega | exact ⟨by omega, by omega⟩)).mono ?_); rintro e w2 ⟨rfl, hb⟩; exact ⟨rfl, hw'.trans (hb.mono hw'.size)⟩)
                     | (go_at_call 16; (with_reducible refine (EntryR.leaf_calls _ _ _ _ _ _ _ _ _ _ _ _ _ _ (by first | assumption | omega | exact ⟨by omega, by omega⟩) (hG0.below hw' (Nat.le_refl _))).mono ?_); rintro e w2 ⟨rfl, hb⟩; exact ⟨rfl, hw'.trans (hb.mono hw'.size)⟩)
                     | (go_at_call 17; (with_reducible refine (VaR.ris_calls _ _ ).mono ?_); rintro e w2 ⟨rfl, hb⟩; exact ⟨rfl, hw'.trans (hb.below.mono hw'.size)⟩)
                     | (go_at_call 18; (with_reducible refine (EntryC.of_calls _ _ _ _ _ _ _ _ _ _ _ _ _ _ _ _ (by first | assumption | omega | exact ⟨by omega, by omega⟩) (by first | assumption | omega | exact ⟨by omega, by omega⟩) (by first | assumption | omega | exact ⟨by omega, by omega⟩) (by first | assumption | omega | exact ⟨by omega, by omega⟩) (hG0.below hw' (Nat.le_refl _))).mono ?_); rintro e w2 ⟨rfl, hb⟩; exact ⟨rfl, hw'.trans (hb.mono hw'.size)⟩)
                     | (go_at_call 19; (with_reducible refine (EntryR.rof_calls _ _ _ _ _ _ _ _ _ _ _ _ _ _ _ _ (by first | assumption | omega | exact ⟨by omega, by omega⟩) (by first | assumption | omega | exact ⟨by omega, by omega⟩) (by first | assumption | omega | exact ⟨by omega, by omega⟩) (by first | assumption | omega | exact ⟨by omega, by omega⟩) (hG0.below hw' (Nat.le_refl _))).mono ?_); rintro e w2 ⟨rfl, hb⟩; exact ⟨rfl, hw'.trans (hb.mono hw'.size)⟩)
                     | (go_at_call 20; (with_reducible refine (EntryC.covers_calls _ _ _ _ _ _ _ _ _ _ _ _ _ (by first | assumption | omega | exact ⟨by omega, by omega⟩) (by first | assumption | omega | exact ⟨by omega, by omega⟩) (by first | assumption | omega | exact ⟨by omega, by omega⟩) (hG0.below hw' (Nat.le_refl _))).mono ?_); rintro e w2 ⟨rfl, hb⟩; exact ⟨rfl, hw'.trans (hb.mono hw'.size)⟩)
                     | (go_at_call 21; (with_reducible refine (EntryR.rcovers_calls _ _ _ _ _ _ _ _ _ _ _ _ _ (by first | assumption | omega | exact ⟨by omega, by omega⟩) (by first | assumption | omega | exact ⟨by omega, by omega⟩) (by first | assumption | omega | exact ⟨by omega, by omega⟩) (by first | assumption | omega | exact ⟨by omega, by omega⟩) (hG0.below hw' (Nat.le_refl _))).mono ?_); rintro e w2 ⟨rfl, hb⟩; exact ⟨rfl, hw'.trans (hb.mono hw'.size)⟩)
                     | (go_at_call 22; (with_reducible refine (EntryC.matches_calls _ _ _ _ _ _ _ _ _ _ _ _ _ _ (by first | assumption | omega | exact ⟨by omega, by omega⟩) (by first | assumption | omega | exact ⟨by omega, by omega⟩) (by first | assumption | omega | exact ⟨by omega, by omega⟩) (hG0.below hw' (Nat.le_refl _))).mono ?_); rintro e w2 ⟨rfl, hb⟩; exact ⟨rfl, hw'.trans (hb.mono hw'.size)⟩)
                     | (go_at_call 23; (with_reducible refine (EntryR.rmatches_calls _ _ _ _ _ _ _ _ _ _ _ _ _ _ (by first | assumption | omega | exact ⟨by omega, by omega⟩) (by first | assumption | omega | exact ⟨by omega, by omega⟩) (by first | assumption | omega | exact ⟨by omega, by omega⟩) (by first | assumption | omega | exact ⟨by omega, by omega⟩) (hG0.below hw' (Nat.le_refl _))).mono ?_); rintro e w2 ⟨rfl, hb⟩; exact ⟨rfl, hw'.trans (hb.mono hw'.size)⟩)
                     | (go_at_call 24; (with_reducible refine (EntryC.over_calls _ _ _ _ _ _ _ _ _ _ _ _ _ _ _ _ _ _ _ _ _ _ _ (by first | assumption | omega | exact ⟨by omega, by omega⟩) (by first | assumption | omega | exact ⟨by omega, by omega⟩) (by first | assumption | omega | exact ⟨by omega, by omega⟩) (by first | assumption | omega | exact ⟨by omega, by omega⟩) (hG0.below hw' (Nat.le_refl _))).mono ?_); rintro e w2 ⟨rfl, hb⟩; exact ⟨rfl, hw'.trans (hb.mono hw'.size)⟩)
                     | (go_at_call 25; (with_reducible refine (EntryR.rover_calls _ _ _ _ _ _ _ _ _ _ _ _ _ _ _ _ _ _ _ _ _ _ _ (by first | assumption | omega | exact ⟨by omega, by omega⟩) (by first | assumption | omega | exact ⟨by omega, by omega⟩) (by first | assumption | omega | exact ⟨by omega, by omega⟩) (by first | assumption | omega | exact ⟨by omega, by omega⟩) (hG0.below hw' (Nat.le_refl _))).mono ?_); rintro e w2 ⟨rfl, hb⟩; exact ⟨rfl, hw'.trans (hb.mono hw'.size)⟩)
                     | (go_at_call 26; (with_reducible refine (EntryC.phys_calls _ _ _ _ _ _ _ _ _ _ _ _ _ (by first | assumption | omega | exact ⟨by omega, by omega⟩) (by first | assumption | omega | exact ⟨by omega, by omega⟩) (by first | assumption | omega | exact ⟨by omega, by omega⟩) (by first | assumption | omega | exact ⟨by omega, by omega⟩) (by first | assumption | omega | exact ⟨by omega, by omega⟩) (by first | assumption | omega | exact ⟨by omega, by omega⟩) (hG0.below hw' (Nat.le_refl _))).mono ?_); rintro e w2 ⟨rfl, hb⟩; exact ⟨rfl, hw'.trans (hb.mono hw'.size)⟩)
                     | (go_at_call 27; (with_reducible refine (EntryR.rphys_calls _ _ _ _ _ _ _ _ _ _ _ _ _ (by first | assumption | omega | exact ⟨by omega, by omega⟩) (by first | assumption | omega | exact ⟨by omega, by omega⟩) (by first | assumption | omega | exact ⟨by omega, by omega⟩) (by first | assumption | omega | exact ⟨by omega, by omega⟩) (by first | assumption | omega | exact ⟨by omega, by omega⟩) (by first | assumption | omega | exact ⟨by omega, by omega⟩) (hG0.below hw' (Nat.le_refl _))).mono ?_); rintro e w2 ⟨rfl, hb⟩; exact ⟨rfl, hw'.trans (hb.mono hw'.size)⟩)
                     | (go_at_call 29; (with_reducible refine (EntryR.phys10_calls _ _ _ _ _ _ _ _ _ _ _ _ _ _ _ (by first | assumption | omega | exact ⟨by omega, by omega⟩) (by first | assumption | omega | exact ⟨by omega, by omega⟩) (by first | assumption | omega | exact ⟨by omega, by omega⟩) (by first | assumption | omega | exact ⟨by omega, by omega⟩) (by first | assumption | omega | exact ⟨by omega, by omega⟩) (by first | assumption | omega | exact ⟨by omega, by omega⟩) (hG0.below hw' (Nat.le_refl _))).mono ?_); rintro e w2 ⟨rfl, hb⟩; exact ⟨rfl, hw'.trans (hb.mono hw'.size)⟩)
                     | (go_at_call 28; (with_reducible refine (VaR.rbase_calls _ _ _ (by first | assumption | omega | exact ⟨by omega, by omega⟩) (by first | assumption | omega | exact ⟨by omega, by omega⟩) (by first | assumption | omega | exact ⟨by omega, by omega⟩) (by first | assumption | omega | exact ⟨by omega, by omega⟩)).mono ?_); rintro e w2 ⟨rfl, hb⟩; exact ⟨rfl, hw'.trans (hb.below.mono hw'.size)⟩)
                     | (go_at_call 30; (with_reducible refine (VaR.rof_calls _ _ (by first | assumption | omega | exact ⟨by omega, by omega⟩) (by first | assumption | omega | exact ⟨by omega, by omega⟩)).mono ?_); rintro e w2 ⟨rfl, hb⟩; exact ⟨rfl, hw'.trans (hb.mono hw'.size)⟩)
                     | (go_at_call 31; (with_reducible refine (EntryR.rpages_calls _ _ (by first | assumption | omega | exact ⟨by omega, by omega⟩) (by first | assumption | omega | exact ⟨by omega, by omega⟩)).mono ?_); rintro e w2 ⟨rfl, hb⟩; exact ⟨rfl, hw'.trans (hb.below.mono hw'.size)⟩)
                     | (obtain ⟨hcc, _⟩ := bcell hw'; go_simp; done)
                     | (obtain ⟨hcc, _⟩ := bcell hw'; go_simp; rfl)
                   clear hK K))
      refine wpQuiet_nil ?_
      intro w4 bw4
      have Bw4 := bel_trans Bw3 bw4
      clear cw3 bw4 y0 y1 hG0
      obtain ⟨cw4, _⟩ := bcell Bw4
      go_wp2_with fail
      refine (EntryR.rpages_calls _ _ l0 l2).mono ?_
      rintro e w5 ⟨rfl, bw5⟩
      have Bw5 := bel_trans Bw4 bw5.below
      clear cw4 bw5
      obtain ⟨cw5, _⟩ := bcell Bw5
      go_wp2_with fail
      refine (VaR.rof_calls _ _ n00 n01).mono ?_
      rintro e w6 ⟨rfl, bw6⟩
      have Bw6 := bel_trans Bw5 bw6
      clear cw5 bw6
      obtain ⟨cw6, _⟩ := bcell Bw6
      go_wp2_with fail
      refine (VaR.rof_calls _ _ (by omega) (by omega)).mono ?_
      rintro e w7 ⟨rfl, bw7⟩
      have Bw7 := bel_trans Bw6 bw7
      clear cw6 bw7
      obtain ⟨cw7, _⟩ := bcell Bw7
      go_wp2_with fail
      refine (VaR.rof_calls _ _ (by omega) (by omega)).mono ?_
      rintro e w8 ⟨rfl, bw8⟩
      have Bw8 := bel_trans Bw7 bw8
      clear cw7 bw8
      obtain ⟨cw8, _⟩ := bcell Bw8
      go_wp2_with fail
      refine (VaR.rof_calls _ _ (by omega) (by omega)).mono ?_
      rintro e w9 ⟨rfl, bw9⟩
      have Bw9 := bel_trans Bw8 bw9
      clear cw8 bw9
      obtain ⟨cw9, _⟩ := bcell Bw9
      have y0 : W.heap.size < w9.heap.size := Nat.lt_of_lt_of_le hz0 Bw9.size
      have y1 : W.heap.size + 1 < w9.heap.size := Nat.lt_of_lt_of_le hz1 Bw9.size
      have hG0 : G w9 := hG1.to Bw9
      go_wp2_with fail
      refine region_below (by kernel_rfl) (by kernel_rfl) ?_
      repeat (with_reducible refine wpQuiet_step (fun K hK => ?_)
              go_simp
              first
                | (refine hK _ ?_; clear hK K)
                | (refine ⟨_, fun _ _ => rfl, hK _ ?_⟩; clear hK K)
                | (apply Exists.intro
                   refine ⟨fun w' hw' => ?_, hK _ ?_⟩
                   · first
                     | (go_at_call 13; (with_reducible refine (EntryW.awake_calls _ (hG0.below hw' (Nat.le_refl _))).mono ?_); rintro e w2 ⟨rfl, hb⟩; exact ⟨rfl, hw'.trans (hb.mono hw'.size)⟩)
                     | (go_at_call 14; (with_reducible refine (EntryC.may_calls _ _ _ _ _ _ _ _ _ _ _ _ (by first | assumption | omega | exact ⟨by omega, by omega⟩) (by first | assumption | omega | exact ⟨by omega, by omega⟩) (by first | assumption | omega | exact ⟨by omega, by omega⟩) (hG0.below hw' (Nat.le_refl _))).mono ?_); rintro e w2 ⟨rfl, hb⟩; exact ⟨rfl, hw'.trans (hb.mono hw'.size)⟩)
                     | (go_at_call 15; (with_reducible refine (EntryR.rmay_calls _ _ _ _ _ _ _ _ _ _ _ _ (by first | assumption | omega | exact ⟨by omega, by omega⟩) (by first | assumption | omega | exact ⟨by omega, by omega⟩) (by first | assumption | omega | exact ⟨by omega, by omega⟩)).mono ?_); rintro e w2 ⟨rfl, hb⟩; exact ⟨rfl, hw'.trans (hb.mono hw'.size)⟩)
                     | (go_at_call 16; (with_reducible refine (EntryR.leaf_calls _ _ _ _ _ _ _ _ _ _ _ _ _ _ (by first | assumption | omega | exact ⟨by omega, by omega⟩) (hG0.below hw' (Nat.le_refl _))).mono ?_); rintro e w2 ⟨rfl, hb⟩; exact ⟨rfl, hw'.trans (hb.mono hw'.size)⟩)
                     | (go_at_call 17; (with_reducible refine (VaR.ris_calls _ _ ).mono ?_); rintro e w2 ⟨rfl, hb⟩; exact ⟨rfl, hw'.trans (hb.below.mono hw'.size)⟩)
                     | (go_at_call 18; (with_reducible refine (EntryC.of_calls _ _ _ _ _ _ _ _ _ _ _ _ _ _ _ _ (by first | assumption | omega | exact ⟨by omega, by omega⟩) (by first | assumption | omega | exact ⟨by omega, by omega⟩) (by first | assumption | omega | exact ⟨by omega, by omega⟩) (by first | assumption | omega | exact ⟨by omega, by omega⟩) (hG0.below hw' (Nat.le_refl _))).mono ?_); rintro e w2 ⟨rfl, hb⟩; exact ⟨rfl, hw'.trans (hb.mono hw'.size)⟩)
                     | (go_at_call 19; (with_reducible refine (EntryR.rof_calls _ _ _ _ _ _ _ _ _ _ _ _ _ _ _ _ (by first | assumption | omega | exact ⟨by omega, by omega⟩) (by first | assumption | omega | exact ⟨by omega, by omega⟩) (by first | assumption | omega | exact ⟨by omega, by omega⟩) (by first | assumption | omega | exact ⟨by omega, by omega⟩) (hG0.below hw' (Nat.le_refl _))).mono ?_); rintro e w2 ⟨rfl, hb⟩; exact ⟨rfl, hw'.trans (hb.mono hw'.size)⟩)
                     | (go_at_call 20; (with_reducible refine (EntryC.covers_calls _ _ _ _ _ _ _ _ _ _ _ _ _ (by first | assumption | omega | exact ⟨by omega, by omega⟩) (by first | assumption | omega | exact ⟨by omega, by omega⟩) (by first | assumption | omega | exact ⟨by omega, by omega⟩) (hG0.below hw' (Nat.le_refl _))).mono ?_); rintro e w2 ⟨rfl, hb⟩; exact ⟨rfl, hw'.trans (hb.mono hw'.size)⟩)
                     | (go_at_call 21; (with_reducible refine (EntryR.rcovers_calls _ _ _ _ _ _ _ _ _ _ _ _ _ (by first | assumption | omega | exact ⟨by omega, by omega⟩) (by first | assumption | omega | exact ⟨by omega, by omega⟩) (by first | assumption | omega | exact ⟨by omega, by omega⟩) (by first | assumption | omega | exact ⟨by omega, by omega⟩) (hG0.below hw' (Nat.le_refl _))).mono ?_); rintro e w2 ⟨rfl, hb⟩; exact ⟨rfl, hw'.trans (hb.mono hw'.size)⟩)
                     | (go_at_call 22; (with_reducible refine (EntryC.matches_calls _ _ _ _ _ _ _ _ _ _ _ _ _ _ (by first | assumption | omega | exact ⟨by omega, by omega⟩) (by first | assumption | omega | exact ⟨by omega, by omega⟩) (by first | assumption | omega | exact ⟨by omega, by omega⟩) (hG0.below hw' (Nat.le_refl _))).mono ?_); rintro e w2 ⟨rfl, hb⟩; exact ⟨rfl, hw'.trans (hb.mono hw'.size)⟩)
                     | (go_at_call 23; (with_reducible refine (EntryR.rmatches_calls _ _ _ _ _ _ _ _ _ _ _ _ _ _ (by first | assumption | omega | exact ⟨by omega, by omega⟩) (by first | assumption | omega | exact ⟨by omega, by omega⟩) (by first | assumption | omega | exact ⟨by omega, by omega⟩) (by first | assumption | omega | exact ⟨by omega, by omega⟩) (hG0.below hw' (Nat.le_refl _))).mono ?_); rintro e w2 ⟨rfl, hb⟩; exact ⟨rfl, hw'.trans (hb.mono hw'.size)⟩)
                     | (go_at_call 24; (with_reducible refine (EntryC.over_calls _ _ _ _ _ _ _ _ _ _ _ _ _ _ _ _ _ _ _ _ _ _ _ (by first | assumption | omega | exact ⟨by omega, by omega⟩) (by first | assumption | omega | exact ⟨by omega, by omega⟩) (by first | assumption | omega | exact ⟨by omega, by omega⟩) (by first | assumption | omega | exact ⟨by omega, by omega⟩) (hG0.below hw' (Nat.le_refl _))).mono ?_); rintro e w2 ⟨rfl, hb⟩; exact ⟨rfl, hw'.trans (hb.mono hw'.size)⟩)
                     | (go_at_call 25; (with_reducible refine (EntryR.rover_calls _ _ _ _ _ _ _ _ _ _ _ _ _ _ _ _ _ _ _ _ _ _ _ (by first | assumption | omega | exact ⟨by omega, by omega⟩) (by first | assumption | omega | exact ⟨by omega, by omega⟩) (by first | assumption | omega | exact ⟨by omega, by omega⟩) (by first | assumption | omega | exact ⟨by omega, by omega⟩) (hG0.below hw' (Nat.le_refl _))).mono ?_); rintro e w2 ⟨rfl, hb⟩; exact ⟨rfl, hw'.trans (hb.mono hw'.size)⟩)
                     | (go_at_call 26; (with_reducible refine (EntryC.phys_calls _ _ _ _ _ _ _ _ _ _ _ _ _ (by first | assumption | omega | exact ⟨by omega, by omega⟩) (by first | assumption | omega | exact ⟨by omega, by omega⟩) (by first | assumption | omega | exact ⟨by omega, by omega⟩) (by first | assumption | omega | exact ⟨by omega, by omega⟩) (by first | assumption | omega | exact ⟨by omega, by omega⟩) (by first | assumption | omega | exact ⟨by omega, by omega⟩) (hG0.below hw' (Nat.le_refl _))).mono ?_); rintro e w2 ⟨rfl, hb⟩; exact ⟨rfl, hw'.trans (hb.mono hw'.size)⟩)
                     | (go_at_call 27; (with_reducible refine (EntryR.rphys_calls _ _ _ _ _ _ _ _ _ _ _ _ _ (by first | assumption | omega | exact ⟨by omega, by omega⟩) (by first | assumption | omega | exact ⟨by omega, by omega⟩) (by first | assumption | omega | exact ⟨by omega, by omega⟩) (by first | assumption | omega | exact ⟨by omega, by omega⟩) (by first | assumption | omega | exact ⟨by omega, by omega⟩) (by first | assumption | omega | exact ⟨by omega, by omega⟩) (hG0.below hw' (Nat.le_refl _))).mono ?_); rintro e w2 ⟨rfl, hb⟩; exact ⟨rfl, hw'.trans (hb.mono hw'.size)⟩)
                     | (go_at_call 29; (with_reducible refine (EntryR.phys10_calls _ _ _ _ _ _ _ _ _ _ _ _ _ _ _ (by first | assumption | omega | exact ⟨by omega, by omega⟩) (by first | assumption | omega | exact ⟨by omega, by omega⟩) (by first | assumption | omega | exact ⟨by omega, by omega⟩) (by first | assumption | omega | exact ⟨by omega, by omega⟩) (by first | assumption | omega | exact ⟨by omega, by omega⟩) (by first | assumption | omega | exact ⟨by omega, by omega⟩) (hG0.below hw' (Nat.le_refl _))).mono ?_); rintro e w2 ⟨rfl, hb⟩; exact ⟨rfl, hw'.trans (hb.mono hw'.size)⟩)
                     | (go_at_call 28; (with_reducible refine (VaR.rbase_calls _ _ _ (by first | assumption | omega | exact ⟨by omega, by omega⟩) (by first | assumption | omega | exact ⟨by omega, by omega⟩) (by first | assumption | omega | exact ⟨by omega, by omega⟩) (by first | assumption | omega | exact ⟨by omega, by omega⟩)).mono ?_); rintro e w2 ⟨rfl, hb⟩; exact ⟨rfl, hw'.trans (hb.below.mono hw'.size)⟩)
                     | (go_at_call 30; (with_reducible refine (VaR.rof_calls _ _ (by first | assumption | omega | exact ⟨by omega, by omega⟩) (by first | assumption | omega | exact ⟨by omega, by omega⟩)).mono ?_); rintro e w2 ⟨rfl, hb⟩; exact ⟨rfl, hw'.trans (hb.mono hw'.size)⟩)
                     | (go_at_call 31; (with_reducible refine (EntryR.rpages_calls _ _ (by first | assumption | omega | exact ⟨by omega, by omega⟩) (by first | assumption | omega | exact ⟨by omega, by omega⟩)).mono ?_); rintro e w2 ⟨rfl, hb⟩; exact ⟨rfl, hw'.trans (hb.below.mono hw'.size)⟩)
                     | (obtain ⟨hcc, _⟩ := bcell hw'; go_simp; done)
                     | (obtain ⟨hcc, _⟩ := bcell hw'; go_simp; rfl)
                   clear hK K))
      refine wpQuiet_nil ?_
      intro wa bwa
      have Bwa := bel_trans Bw9 bwa
      clear cw9 bwa y0 y1 hG0
      obtain ⟨cwa, _⟩ := bcell Bwa
      go_wp2
      go_ret
      exact ⟨rfl, bel_trans BX Bwa⟩
  · have hs1 : (lv == lvq) = false := by simpa using hs
    have hs2 : decide (lv = lvq) = false := by simpa using hs
    clear hs hsl
    have y0 : W.heap.size < w3.heap.size := Nat.lt_of_lt_of_le hz0 Bw3.size
    have y1 : W.heap.size + 1 < w3.heap.size := Nat.lt_of_lt_of_le hz1 Bw3.size
    have hG0 : G w3 := hG1.to Bw3
    go_wp2_with fail
    refine region_below (by kernel_rfl) (by kernel_rfl) ?_
    repeat (with_reducible refine wpQuiet_step (fun K hK => ?_)
            go_simp
            first
              | (refine hK _ ?_; clear hK K)
              | (refine ⟨_, fun _ _ => rfl, hK _ ?_⟩; clear hK K)
              | (apply Exists.intro
                 refine ⟨fun w' hw' => ?_, hK _ ?_⟩
                 · first
                   | (go_at_call 13; (with_reducible refine (EntryW.awake_calls _ (hG0.below hw' (Nat.le_refl _))).mono ?_); rintro e w2 ⟨rfl, hb⟩; exact ⟨rfl, hw'.trans (hb.mono hw'.size)⟩)
                   | (go_at_call 14; (with_reducible refine (EntryC.may_calls _ _ _ _ _ _ _ _ _ _ _ _ (by first | assumption | omega | exact ⟨by omega, by omega⟩) (by first | assumption | omega | exact ⟨by omega, by omega⟩) (by first | assumption | omega | exact ⟨by omega, by omega⟩) (hG0.below hw' (Nat.le_refl _))).mono ?_); rintro e w2 ⟨rfl, hb⟩; exact ⟨rfl, hw'.trans (hb.mono hw'.size)⟩)
                   | (go_at_call 15; (with_reducible refine (EntryR.rmay_calls _ _ _ _ _ _ _ _ _ _ _ _ (by first | assumption | omega | exact ⟨by omega, by omega⟩) (by first | assumption | omega | exact ⟨by omega, by omega⟩) (by first | assumption | omega | exact ⟨by omega, by omega⟩)).mono ?_); rintro e w2 ⟨rfl, hb⟩; exact ⟨rfl, hw'.trans (hb.mono hw'.size)⟩)
                   | (go_at_call 16; (with_reducible refine (EntryR.leaf_calls _ _ _ _ _ _ _ _ _ _ _ _ _ _ (by first | assumption | omega | exact ⟨by omega, by omega⟩) (hG0.below hw' (Nat.le_refl _))).mono ?_); rintro e w2 ⟨rfl, hb⟩; exact ⟨rfl, hw'.trans (hb.mono hw'.size)⟩)
                   | (go_at_call 17; (with_reducible refine (VaR.ris_calls _ _ ).mono ?_); rintro e w2 ⟨rfl, hb⟩; exact ⟨rfl, hw'.trans (hb.below.mono hw'.size)⟩)
                   | (go_at_call 18; (with_reducible refine (EntryC.of_calls _ _ _ _ _ _ _ _ _ _ _ _ _ _ _ _ (by first | assumption | omega | exact ⟨by omega, by omega⟩) (by first | assumption | omega | exact ⟨by omega, by omega⟩) (by first | assumption | omega | exact ⟨by omega, by omega⟩) (by first | assumption | omega | exact ⟨by omega, by omega⟩) (hG0.below hw' (Nat.le_refl _))).mono ?_); rintro e w2 ⟨rfl, hb⟩; exact ⟨rfl, hw'.trans (hb.mono hw'.size)⟩)
                   | (go_at_call 19; (with_reducible refine (EntryR.rof_calls _ _ _ _ _ _ _ _ _ _ _ _ _ _ _ _ (by first | assumption | omega | exact ⟨by omega, by omega⟩) (by first | assumption | omega | exact ⟨by omega, by omega⟩) (by first | assumption | omega | exact ⟨by omega, by omega⟩) (by first | assumption | omega | exact ⟨by omega, by omega⟩) (hG0.below hw' (Nat.le_refl _))).mono ?_); rintro e w2 ⟨rfl, hb⟩; exact ⟨rfl, hw'.trans (hb.mono hw'.size)⟩)
                   | (go_at_call 20; (with_reducible refine (EntryC.covers_calls _ _ _ _ _ _ _ _ _ _ _ _ _ (by first | assumption | omega | exact ⟨by omega, by omega⟩) (by first | assumption | omega | exact ⟨by omega, by omega⟩) (by first | assumption | omega | exact ⟨by omega, by omega⟩) (hG0.below hw' (Nat.le_refl _))).mono ?_); rintro e w2 ⟨rfl, hb⟩; exact ⟨rfl, hw'.trans (hb.mono hw'.size)⟩)
                   | (go_at_call 21; (with_reducible refine (EntryR.rcovers_calls _ _ _ _ _ _ _ _ _ _ _ _ _ (by first | assumption | omega | exact ⟨by omega, by omega⟩) (by first | assumption | omega | exact ⟨by omega, by omega⟩) (by first | assumption | omega | exact ⟨by omega, by omega⟩) (by first | assumption | omega | exact ⟨by omega, by omega⟩) (hG0.below hw' (Nat.le_refl _))).mono ?_); rintro e w2 ⟨rfl, hb⟩; exact ⟨rfl, hw'.trans (hb.mono hw'.size)⟩)
                   | (go_at_call 22; (with_reducible refine (EntryC.matches_calls _ _ _ _ _ _ _ _ _ _ _ _ _ _ (by first | assumption | omega | exact ⟨by omega, by omega⟩) (by first | assumption | omega | exact ⟨by omega, by omega⟩) (by first | assumption | omega | exact ⟨by omega, by omega⟩) (hG0.below hw' (Nat.le_refl _))).mono ?_); rintro e w2 ⟨rfl, hb⟩; exact ⟨rfl, hw'.trans (hb.mono hw'.size)⟩)
                   | (go_at_call 23; (with_reducible refine (EntryR.rmatches_calls _ _ _ _ _ _ _ _ _ _ _ _ _ _ (by first | assumption | omega | exact ⟨by omega, by omega⟩) (by first | assumption | omega | exact ⟨by omega, by omega⟩) (by first | assumption | omega | exact ⟨by omega, by omega⟩) (by first | assumption | omega | exact ⟨by omega, by omega⟩) (hG0.below hw' (Nat.le_refl _))).mono ?_); rintro e w2 ⟨rfl, hb⟩; exact ⟨rfl, hw'.trans (hb.mono hw'.size)⟩)
                   | (go_at_call 24; (with_reducible refine (EntryC.over_calls _ _ _ _ _ _ _ _ _ _ _ _ _ _ _ _ _ _ _ _ _ _ _ (by first | assumption | omega | exact ⟨by omega, by omega⟩) (by first | assumption | omega | exact ⟨by omega, by omega⟩) (by first | assumption | omega | exact ⟨by omega, by omega⟩) (by first | assumption | omega | exact ⟨by omega, by omega⟩) (hG0.below hw' (Nat.le_refl _))).mono ?_); rintro e w2 ⟨rfl, hb⟩; exact ⟨rfl, hw'.trans (hb.mono hw'.size)⟩)
                   | (go_at_call 25; (with_reducible refine (EntryR.rover_calls _ _ _ _ _ _ _ _ _ _ _ _ _ _ _ _ _ _ _ _ _ _ _ (by first | assumption | omega | exact ⟨by omega, by omega⟩) (by first | assumption | omega | exact ⟨by omega, by omega⟩) (by first | assumption | omega | exact ⟨by omega, by omega⟩) (by first | assumption | omega | exact ⟨by omega, by omega⟩) (hG0.below hw' (Nat.le_refl _))).mono ?_); rintro e w2 ⟨rfl, hb⟩; exact ⟨rfl, hw'.trans (hb.mono hw'.size)⟩)
                   | (go_at_call 26; (with_reducible refine (EntryC.phys_calls _ _ _ _ _ _ _ _ _ _ _ _ _ (by first | assumption | omega | exact ⟨by omega, by omega⟩) (by first | assumption | omega | exact ⟨by omega, by omega⟩) (by first | assumption | omega | exact ⟨by omega, by omega⟩) (by first | assumption | omega | exact ⟨by omega, by omega⟩) (by first | assumption | omega | exact ⟨by omega, by omega⟩) (by first | assumption | omega | exact ⟨by omega, by omega⟩) (hG0.below hw' (Nat.le_refl _))).mono ?_); rintro e w2 ⟨rfl, hb⟩; exact ⟨rfl, hw'.trans (hb.mono hw'.size)⟩)
                   | (go_at_call 27; (with_reducible refine (EntryR.rphys_calls _ _ _ _ _ _ _ _ _ _ _ _ _ (by first | assumption | omega | exact ⟨by omega, by omega⟩) (by first | assumption | omega | exact ⟨by omega, by omega⟩) (by first | assumption | omega | exact ⟨by omega, by omega⟩) (by first | assumption | omega | exact ⟨by omega, by omega⟩) (by first | assumption | omega | exact ⟨by omega, by omega⟩) (by first | assumption | omega | exact ⟨by omega, by omega⟩) (hG0.below hw' (Nat.le_refl _))).mono ?_); rintro e w2 ⟨rfl, hb⟩; exact ⟨rfl, hw'.trans (hb.mono hw'.size)⟩)
                   | (go_at_call 29; (with_reducible refine (EntryR.phys10_calls _ _ _ _ _ _ _ _ _ _ _ _ _ _ _ (by first | assumption | omega | exact ⟨by omega, by omega⟩) (by first | assumption | omega | exact ⟨by omega, by omega⟩) (by first | assumption | omega | exact ⟨by omega, by omega⟩) (by first | assumption | omega | exact ⟨by omega, by omega⟩) (by first | assumption | omega | exact ⟨by omega, by omega⟩) (by first | assumption | omega | exact ⟨by omega, by omega⟩) (hG0.below hw' (Nat.le_refl _))).mono ?_); rintro e w2 ⟨rfl, hb⟩; exact ⟨rfl, hw'.trans (hb.mono hw'.size)⟩)
                   | (go_at_call 28; (with_reducible refine (VaR.rbase_calls _ _ _ (by first | assumption | omega | exact ⟨by omega, by omega⟩) (by first | assumption | omega | exact ⟨by omega, by omega⟩) (by first | assumption | omega | exact ⟨by omega, by omega⟩) (by first | assumption | omega | exact ⟨by omega, by omega⟩)).mono ?_); rintro e w2 ⟨rfl, hb⟩; exact ⟨rfl, hw'.trans (hb.below.mono hw'.size)⟩)
                   | (go_at_call 30; (with_reducible refine (VaR.rof_calls _ _ (by first | assumption | omega | exact ⟨by omega, by omega⟩) (by first | assumption | omega | exact ⟨by omega, by omega⟩)).mono ?_); rintro e w2 ⟨rfl, hb⟩; exact ⟨rfl, hw'.trans (hb.mono hw'.size)⟩)
                   | (go_at_call 31; (with_reducible refine (EntryR.rpages_calls _ _ (by first | assumption | omega | exact ⟨by omega, by omega⟩) (by first | assumption | omega | exact ⟨by omega, by omega⟩)).mono ?_); rintro e w2 ⟨rfl, hb⟩; exact ⟨rfl, hw'.trans (hb.below.mono hw'.size)⟩)
                   | (obtain ⟨hcc, _⟩ := bcell hw'; go_simp; done)
                   | (obtain ⟨hcc, _⟩ := bcell hw'; go_simp; rfl)
                 clear hK K))
    refine wpQuiet_nil ?_
    intro w4 bw4
    have Bw4 := bel_trans Bw3 bw4
    clear cw3 bw4 y0 y1 hG0
    obtain ⟨cw4, _⟩ := bcell Bw4
    go_wp2_with fail
    refine (EntryR.rpages_calls _ _ l0 l2).mono ?_
    rintro e w5 ⟨rfl, bw5⟩
    have Bw5 := bel_trans Bw4 bw5.below
    clear cw4 bw5
    obtain ⟨cw5, _⟩ := bcell Bw5
    go_wp2_with fail
    refine (VaR.rof_calls _ _ n00 n01).mono ?_
    rintro e w6 ⟨rfl, bw6⟩
    have Bw6 := bel_trans Bw5 bw6
    clear cw5 bw6
    obtain ⟨cw6, _⟩ := bcell Bw6
    go_wp2_with fail
    refine (VaR.rof_calls _ _ (by omega) (by omega)).mono ?_
    rintro e w7 ⟨rfl, bw7⟩
    have Bw7 := bel_trans Bw6 bw7
    clear cw6 bw7
    obtain ⟨cw7, _⟩ := bcell Bw7
    go_wp2_with fail
    refine (VaR.rof_calls _ _ (by omega) (by omega)).mono ?_
    rintro e w8 ⟨rfl, bw8⟩
    have Bw8 := bel_trans Bw7 bw8
    clear cw7 bw8
    obtain ⟨cw8, _⟩ := bcell Bw8
    go_wp2_with fail
    refine (VaR.rof_calls _ _ (by omega) (by omega)).mono ?_
    rintro e w9 ⟨rfl, bw9⟩
    have Bw9 := bel_trans Bw8 bw9
    clear cw8 bw9
    obtain ⟨cw9, _⟩ := bcell Bw9
    have y0 : W.heap.size < w9.heap.size := Nat.lt_of_lt_of_le hz0 Bw9.size
    have y1 : W.heap.size + 1 < w9.heap.size := Nat.lt_of_lt_of_le hz1 Bw9.size
    have hG0 : G w9 := hG1.to Bw9
    go_wp2_with fail
    refine region_below (by kernel_rfl) (by kernel_rfl) ?_
    repeat (with_reducible refine wpQuiet_step (fun K hK => ?_)
            go_simp
            first
              | (refine hK _ ?_; clear hK K)
              | (refine ⟨_, fun _ _ => rfl, hK _ ?_⟩; clear hK K)
              | (apply Exists.intro
                 refine ⟨fun w' hw' => ?_, hK _ ?_⟩
                 · first
                   | (go_at_call 13; (with_reducible refine (EntryW.awake_calls _ (hG0.below hw' (Nat.le_refl _))).mono ?_); rintro e w2 ⟨rfl, hb⟩; exact ⟨rfl, hw'.trans (hb.mono hw'.size)⟩)
                   | (go_at_call 14; (with_reducible refine (EntryC.may_calls _ _ _ _ _ _ _ _ _ _ _ _ (by first | assumption | omega | exact ⟨by omega, by omega⟩) (by first | assumption | omega | exact ⟨by omega, by omega⟩) (by first | assumption | omega | exact ⟨by omega, by omega⟩) (hG0.below hw' (Nat.le_refl _))).mono ?_); rintro e w2 ⟨rfl, hb⟩; exact ⟨rfl, hw'.trans (hb.mono hw'.size)⟩)
                   | (go_at_call 15; (with_reducible refine (EntryR.rmay_calls _ _ _ _ _ _ _ _ _ _ _ _ (by first | assumption | omega | exact ⟨by omega, by omega⟩) (by first | assumption | omega | exact ⟨by omega, by omega⟩) (by first | assumption | omega | exact ⟨by omega, by omega⟩)).mono ?_); rintro e w2 ⟨rfl, hb⟩; exact ⟨rfl, hw'.trans (hb.mono hw'.size)⟩)
                   | (go_at_call 16; (with_reducible refine (EntryR.leaf_calls _ _ _ _ _ _ _ _ _ _ _ _ _ _ (by first | assumption | omega | exact ⟨by omega, by omega⟩) (hG0.below hw' (Nat.le_refl _))).mono ?_); rintro e w2 ⟨rfl, hb⟩; exact ⟨rfl, hw'.trans (hb.mono hw'.size)⟩)
                   | (go_at_call 17; (with_reducible refine (VaR.ris_calls _ _ ).mono ?_); rintro e w2 ⟨rfl, hb⟩; exact ⟨rfl, hw'.trans (hb.below.mono hw'.size)⟩)
                   | (go_at_call 18; (with_reducible refine (EntryC.of_calls _ _ _ _ _ _ _ _ _ _ _ _ _ _ _ _ (by first | assumption | omega | exact ⟨by omega, by omega⟩) (by first | assumption | omega | exact ⟨by omega, by omega⟩) (by first | assumption | omega | exact ⟨by omega, by omega⟩) (by first | assumption | omega | exact ⟨by omega, by omega⟩) (hG0.below hw' (Nat.le_refl _))).mono ?_); rintro e w2 ⟨rfl, hb⟩; exact ⟨rfl, hw'.trans (hb.mono hw'.size)⟩)
                   | (go_at_call 19; (with_reducible refine (EntryR.rof_calls _ _ _ _ _ _ _ _ _ _ _ _ _ _ _ _ (by first | assumption | omega | exact ⟨by omega, by omega⟩) (by first | assumption | omega | exact ⟨by omega, by omega⟩) (by first | assumption | omega | exact ⟨by omega, by omega⟩) (by first | assumption | omega | exact ⟨by omega, by omega⟩) (hG0.below hw' (Nat.le_refl _))).mono ?_); rintro e w2 ⟨rfl, hb⟩; exact ⟨rfl, hw'.trans (hb.mono hw'.size)⟩)
                   | (go_at_call 20; (with_reducible refine (EntryC.covers_calls _ _ _ _ _ _ _ _ _ _ _ _ _ (by first | assumption | omega | exact ⟨by omega, by omega⟩) (by first | assumption | omega | exact ⟨by omega, by omega⟩) (by first | assumption | omega | exact ⟨by omega, by omega⟩) (hG0.below hw' (Nat.le_refl _))).mono ?_); rintro e w2 ⟨rfl, hb⟩; exact ⟨rfl, hw'.trans (hb.mono hw'.size)⟩)
                   | (go_at_call 21; (with_reducible refine (EntryR.rcovers_calls _ _ _ _ _ _ _ _ _ _ _ _ _ (by first | assumption | omega | exact ⟨by omega, by omega⟩) (by first | assumption | omega | exact ⟨by omega, by omega⟩) (by first | assumption | omega | exact ⟨by omega, by omega⟩) (by first | assumption | omega | exact ⟨by omega, by omega⟩) (hG0.below hw' (Nat.le_refl _))).mono ?_); rintro e w2 ⟨rfl, hb⟩; exact ⟨rfl, hw'.trans (hb.mono hw'.size)⟩)
                   | (go_at_call 22; (with_reducible refine (EntryC.matches_calls _ _ _ _ _ _ _ _ _ _ _ _ _ _ (by first | assumption | omega | exact ⟨by omega, by omega⟩) (by first | assumption | omega | exact ⟨by omega, by omega⟩) (by first | assumption | omega | exact ⟨by omega, by omega⟩) (hG0.below hw' (Nat.le_refl _))).mono ?_); rintro e w2 ⟨rfl, hb⟩; exact ⟨rfl, hw'.trans (hb.mono hw'.size)⟩)
                   | (go_at_call 23; (with_reducible refine (EntryR.rmatches_calls _ _ _ _ _ _ _ _ _ _ _ _ _ _ (by first | assumption | omega | exact ⟨by omega, by omega⟩) (by first | assumption | omega | exact ⟨by omega, by omega⟩) (by first | assumption | omega | exact ⟨by omega, by omega⟩) (by first | assumption | omega | exact ⟨by omega, by omega⟩) (hG0.below hw' (Nat.le_refl _))).mono ?_); rintro e w2 ⟨rfl, hb⟩; exact ⟨rfl, hw'.trans (hb.mono hw'.size)⟩)
                   | (go_at_call 24; (with_reducible refine (EntryC.over_calls _ _ _ _ _ _ _ _ _ _ _ _ _ _ _ _ _ _ _ _ _ _ _ (by first | assumption | omega | exact ⟨by omega, by omega⟩) (by first | assumption | omega | exact ⟨by omega, by omega⟩) (by first | assumption | omega | exact ⟨by omega, by omega⟩) (by first | assumption | omega | exact ⟨by omega, by omega⟩) (hG0.below hw' (Nat.le_refl _))).mono ?_); rintro e w2 ⟨rfl, hb⟩; exact ⟨rfl, hw'.trans (hb.mono hw'.size)⟩)
                   | (go_at_call 25; (with_reducible refine (EntryR.rover_calls _ _ _ _ _ _ _ _ _ _ _ _ _ _ _ _ _ _ _ _ _ _ _ (by first | assumption | omega | exact ⟨by omega, by omega⟩) (by first | assumption | omega | exact ⟨by omega, by omega⟩) (by first | assumption | omega | exact ⟨by omega, by omega⟩) (by first | assumption | omega | exact ⟨by omega, by omega⟩) (hG0.below hw' (Nat.le_refl _))).mono ?_); rintro e w2 ⟨rfl, hb⟩; exact ⟨rfl, hw'.trans (hb.mono hw'.size)⟩)
                   | (go_at_call 26; (with_reducible refine (EntryC.phys_calls _ _ _ _ _ _ _ _ _ _ _ _ _ (by first | assumption | omega | exact ⟨by omega, by omega⟩) (by first | assumption | omega | exact ⟨by omega, by omega⟩) (by first | assumption | omega | exact ⟨by omega, by omega⟩) (by first | assumption | omega | exact ⟨by omega, by omega⟩) (by first | assumption | omega | exact ⟨by omega, by omega⟩) (by first | assumption | omega | exact ⟨by omega, by omega⟩) (hG0.below hw' (Nat.le_refl _))).mono ?_); rintro e w2 ⟨rfl, hb⟩; exact ⟨rfl, hw'.trans (hb.mono hw'.size)⟩)
                   | (go_at_call 27; (with_reducible refine (EntryR.rphys_calls _ _ _ _ _ _ _ _ _ _ _ _ _ (by first | assumption | omega | exact ⟨by omega, by omega⟩) (by first | assumption | omega | exact ⟨by omega, by omega⟩) (by first | assumption | omega | exact ⟨by omega, by omega⟩) (by first | assumption | omega | exact ⟨by omega, by omega⟩) (by first | assumption | omega | exact ⟨by omega, by omega⟩) (by first | assumption | omega | exact ⟨by omega, by omega⟩) (hG0.below hw' (Nat.le_refl _))).mono ?_); rintro e w2 ⟨rfl, hb⟩; exact ⟨rfl, hw'.trans (hb.mono hw'.size)⟩)
                   | (go_at_call 29; (with_reducible refine (EntryR.phys10_calls _ _ _ _ _ _ _ _ _ _ _ _ _ _ _ (by first | assumption | omega | exact ⟨by omega, by omega⟩) (by first | assumption | omega | exact ⟨by omega, by omega⟩) (by first | assumption | omega | exact ⟨by omega, by omega⟩) (by first | assumption | omega | exact ⟨by omega, by omega⟩) (by first | assumption | omega | exact ⟨by omega, by omega⟩) (by first | assumption | omega | exact ⟨by omega, by omega⟩) (hG0.below hw' (Nat.le_refl _))).mono ?_); rintro e w2 ⟨rfl, hb⟩; exact ⟨rfl, hw'.trans (hb.mono hw'.size)⟩)
                   | (go_at_call 28; (with_reducible refine (VaR.rbase_calls _ _ _ (by first | assumption | omega | exact ⟨by omega, by omega⟩) (by first | assumption | omega | exact ⟨by omega, by omega⟩) (by first | assumption | omega | exact ⟨by omega, by omega⟩) (by first | assumption | omega | exact ⟨by omega, by omega⟩)).mono ?_); rintro e w2 ⟨rfl, hb⟩; exact ⟨rfl, hw'.trans (hb.below.mono hw'.size)⟩)
                   | (go_at_call 30; (with_reducible refine (VaR.rof_calls _ _ (by first | assumption | omega | exact ⟨by omega, by omega⟩) (by first | assumption | omega | exact ⟨by omega, by omega⟩)).mono ?_); rintro e w2 ⟨rfl, hb⟩; exact ⟨rfl, hw'.trans (hb.mono hw'.size)⟩)
                   | (go_at_call 31; (with_reducible refine (EntryR.rpages_calls _ _ (by first | assumption | omega | exact ⟨by omega, by omega⟩) (by first | assumption | omega | exact ⟨by omega, by omega⟩)).mono ?_); rintro e w2 ⟨rfl, hb⟩; exact ⟨rfl, hw'.trans (hb.below.mono hw'.size)⟩)
                   | (obtain ⟨hcc, _⟩ := bcell hw'; go_simp; done)
                   | (obtain ⟨hcc, _⟩ := bcell hw'; go_simp; rfl)
                 clear hK K))
    refine wpQuiet_nil ?_
    intro wa bwa
    have Bwa := bel_trans Bw9 bwa
    clear cw9 bwa y0 y1 hG0
    obtain ⟨cwa, _⟩ := bcell Bwa
    go_wp2
    go_ret
    exact ⟨rfl, bel_trans BX Bwa⟩
end Go.Proofs.YtjgnckhbafgalaaDoor.EntryL5
