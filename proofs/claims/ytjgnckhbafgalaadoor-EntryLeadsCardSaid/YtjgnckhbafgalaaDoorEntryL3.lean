/- The walk of the law EntryLeads. -/
import Derived.Test.YtjgnckhbafgalaaDoorEntryL1
namespace Go.Proofs.YtjgnckhbafgalaaDoor.EntryL3
open Go.RowKit Go.Proofs.YtjgnckhbafgalaaDoor.Bv Go.Proofs.YtjgnckhbafgalaaDoor.VaSpec Go.Proofs.YtjgnckhbafgalaaDoor.Base Go.Proofs.YtjgnckhbafgalaaDoor.BitsC Go.Proofs.YtjgnckhbafgalaaDoor.VaC Go.Proofs.YtjgnckhbafgalaaDoor.PteSpec Go.Proofs.YtjgnckhbafgalaaDoor.EntrySpec Go.Proofs.YtjgnckhbafgalaaDoor.EqS Go.Proofs.YtjgnckhbafgalaaDoor.QTail
set_option linter.unusedVariables false
set_option linter.unusedSimpArgs false
attribute [local go_sem high] eq_perm eq_pte eq_ent
open Go.Proofs.YtjgnckhbafgalaaDoor.EntryC (name_world)
open Go.Proofs.YtjgnckhbafgalaaDoor.EntryR (leafE)
open Go.Proofs.YtjgnckhbafgalaaDoor.EntryW (name_calls)
attribute [local go_sem] eqPerm_self eqPte_self eqEnt_self
theorem bd_u16 {a : Int} (h : (Lit.int .u16 a).wf = true) : 0 ≤ a ∧ a < 65536 := by
  simp [Lit.wf, IntKind.min, IntKind.max, IntKind.bits, IntKind.signed] at h; omega
theorem nb_mod (va l : Int) (h : 0 ≤ va) : num (base va l) % pages l = 0 := by
  rw [numbase va l h]
  have := num_bd va
  rcases pages_cases l with e | e | e <;> rw [e] <;> omega
theorem may_of (va asid ll pl : Int) (g rl wl xl ul dl : Bool) (h : leafE ll pl = true) (a0 : 0 ≤ va) (s1 : asid < 65536) : mayE ⟨true, asid, g, ll, num (base va ll), pl, ⟨rl, wl, xl, ul⟩, dl⟩ = true := by
  obtain ⟨l0, l2, p1, pm⟩ := EntryR.leafE_le h
  have hb := num_bd (base va ll)
  have hm := nb_mod va ll a0
  unfold mayE rightE
  simp [l0, l2, p1, pm, s1, hm, hb]
theorem cov_self (va asid ll pl : Int) (g rl wl xl ul dl : Bool) : coversE ⟨true, asid, g, ll, num (base va ll), pl, ⟨rl, wl, xl, ul⟩, dl⟩ va = true := by
  unfold coversE cov; simp
theorem base_num (va ll : Int) (l0 : 0 ≤ ll) (l2 : ll ≤ 2) (a0 : 0 ≤ va) (a1 : va < 18446744073709551616) (h : isv va = true) : base va ll = ofv (num (base va ll)) := by
  unfold isv at h; simp at h
  rcases lev l0 l2 with rfl | rfl | rfl <;> simp only [base, num, ofv, ext39, sz] <;> simp <;> split <;> omega
theorem cov_other (va other asid ll pl : Int) (g rl wl xl ul dl : Bool) (l0 : 0 ≤ ll) (l2 : ll ≤ 2) (a0 : 0 ≤ va) (a1 : va < 18446744073709551616) (h : isv va = true) (o0 : 0 ≤ other) (o1 : other < 18446744073709551616) (k : isv other = true) :
    coversE ⟨true, asid, g, ll, num (base va ll), pl, ⟨rl, wl, xl, ul⟩, dl⟩ other = decide (base va ll = base other ll) := by
  have e1 := base_num va ll l0 l2 a0 a1 h
  have e2 := base_num other ll l0 l2 o0 o1 k
  unfold coversE cov
  simp only [Bool.true_and]
  by_cases q : base va ll = base other ll
  · rw [q]; simp
  · have : ¬ num (base other ll) = num (base va ll) := fun e => q (by rw [e1, e2, e])
    simp [q, this]
theorem mat_of (va asid second ll pl : Int) (g rl wl xl ul dl : Bool) : matchesE ⟨true, asid, g, ll, num (base va ll), pl, ⟨rl, wl, xl, ul⟩, dl⟩ second va = (g || asid == second) := by
  unfold matchesE; rw [cov_self]; simp
set_option maxHeartbeats 8000000 in
theorem leads_walk (ll at_ : Int) (vl rl wl xl ul g a dl : Bool) (rsw pl high : Int) (va other asid second : Int) (W : World) (hp : U pl) (ha : U va) (ho : U other) (hs : 0 ≤ asid ∧ asid < 65536) (hs2 : 0 ≤ second ∧ second < 65536) (hG : G W) :
    Calls Tryd.prog 5 #[.agg #[.int .i64 ll, .int .u64 at_, .bool vl, .bool rl, .bool wl, .bool xl, .bool ul, .bool g, .bool a, .bool dl, .int .u64 rsw, .int .u64 pl, .int .u64 high], .int .u64 va, .int .u64 other, .int .u16 asid, .int .u16 second] W fun e w' => e = .returned (.bool true) ∧ Below W.heap.size W w' := by
  obtain ⟨a0, a1⟩ := ha
  obtain ⟨o0, o1⟩ := ho
  obtain ⟨s0, s1⟩ := hs
  obtain ⟨t0, t1⟩ := hs2
  go_enter Tryd.func5, Tryd.ntmps5
  go_wp2_with fail
  refine name_calls (F := fun w1 => w1.cell? ⟨W.heap.size, 0, none⟩ = some (.int .i64 ll) ∧ w1.cell? ⟨W.heap.size, 1, none⟩ = some (.int .u64 at_) ∧ w1.cell? ⟨W.heap.size, 2, none⟩ = some (.bool vl) ∧ w1.cell? ⟨W.heap.size, 3, none⟩ = some (.bool rl) ∧ w1.cell? ⟨W.heap.size, 4, none⟩ = some (.bool wl) ∧ w1.cell? ⟨W.heap.size, 5, none⟩ = some (.bool xl) ∧ w1.cell? ⟨W.heap.size, 6, none⟩ = some (.bool ul) ∧ w1.cell? ⟨W.heap.size, 7, none⟩ = some (.bool g) ∧ w1.cell? ⟨W.heap.size, 8, none⟩ = some (.bool a) ∧ w1.cell? ⟨W.heap.size, 9, none⟩ = some (.bool dl) ∧ w1.cell? ⟨W.heap.size, 10, none⟩ = some (.int .u64 rsw) ∧ w1.cell? ⟨W.heap.size, 11, none⟩ = some (.int .u64 pl) ∧ w1.cell? ⟨W.heap.size, 12, none⟩ = some (.int .u64 high) ∧ W.heap.size < w1.heap.size ∧ Below W.heap.size W w1) (by
    refine ⟨?_, ?_, ?_, ?_, ?_, ?_, ?_, ?_, ?_, ?_, ?_, ?_, ?_, ?_, ?_⟩
    all_goals first | (simp; done) | (simp; omega) | (intro i; simp; done) | exact (by repeat (first | (with_reducible exact Below.refl _ _) | (with_reducible apply bel_drewN) | (with_reducible apply bel_alloc) | (with_reducible apply bel_trans; rotate_left; with_reducible assumption) | (with_reducible refine bel_setCell _ _ _ (by first | omega | (simp; done) | (simp; omega) | (simp at *; omega)) ?_)))) ?_
  rintro Wx ⟨f0, p1, p2, p3, p4, p5, p6, p7, p8, p9, p10, p11, p12, hz0, BX⟩
  have hG0 : G Wx := hG.to BX
  refine (EntryW.awake_calls Wx hG0).mono ?_
  rintro e w1 ⟨rfl, B1⟩
  obtain ⟨c1, _⟩ := bcell B1
  go_wp2_with fail
  refine (EntryR.leaf_calls _ _ _ _ _ _ _ _ _ _ _ _ _ _ hp (hG0.to B1)).mono ?_
  rintro e w2 ⟨rfl, b2⟩
  have B2 := bel_trans B1 b2
  clear c1 B1 b2
  obtain ⟨c2, _⟩ := bcell B2
  cases hl : leafE ll pl
  · go_wp2_with fail
    refine (EntryW.awake_calls _ (hG0.to B2)).mono ?_
    rintro e w9 ⟨rfl, b9⟩
    go_wp2
    go_ret
    exact ⟨rfl, bel_trans BX (bel_trans B2 b9)⟩
  go_wp2_with fail
  refine (VaR.ris_calls _ _).mono ?_
  rintro e w3 ⟨rfl, b3⟩
  have B3 := bel_trans B2 b3.below
  clear c2 B2 b3
  obtain ⟨c3, _⟩ := bcell B3
  cases hi : isv va
  · go_wp2_with fail
    refine (EntryW.awake_calls _ (hG0.to B3)).mono ?_
    rintro e w9 ⟨rfl, b9⟩
    go_wp2
    go_ret
    exact ⟨rfl, bel_trans BX (bel_trans B3 b9)⟩
  go_wp2_with fail
  refine (VaR.ris_calls _ _).mono ?_
  rintro e w4 ⟨rfl, b4⟩
  have B4 := bel_trans B3 b4.below
  clear c3 B3 b4
  obtain ⟨c4, _⟩ := bcell B4
  cases hj : isv other
  · go_wp2_with fail
    refine (EntryW.awake_calls _ (hG0.to B4)).mono ?_
    rintro e w9 ⟨rfl, b9⟩
    go_wp2
    go_ret
    exact ⟨rfl, bel_trans BX (bel_trans B4 b9)⟩
  obtain ⟨l0, l2, ppl, pmm⟩ := EntryR.leafE_le hl
  obtain ⟨pl0, _⟩ := hp
  go_wp2_with fail
  refine (EntryC.of_calls _ _ _ _ _ _ _ _ _ _ _ _ _ _ _ _ l0 l2 a0 a1 (hG0.to B4)).mono ?_
  rintro e w5 ⟨rfl, b5⟩
  have B5 := bel_trans B4 b5
  clear c4 B4 b5
  obtain ⟨c5, _⟩ := bcell B5
  have hmay := may_of va asid ll pl g rl wl xl ul dl hl a0 s1
  have hcs := cov_self va asid ll pl g rl wl xl ul dl
  have hco := cov_other va other asid ll pl g rl wl xl ul dl l0 l2 a0 a1 hi o0 o1 hj
  have hma := mat_of va asid asid ll pl g rl wl xl ul dl
  have hmb := mat_of va asid second ll pl g rl wl xl ul dl
  have hn := num_bd (base va ll)
  have hnm := nb_mod va ll a0
  generalize num (base va ll) = nb at hmay hcs hco hma hmb hn hnm ⊢
  obtain ⟨n0, n1⟩ := hn
  have hl1 : true = true → 0 ≤ ll ∧ ll ≤ 2 := fun _ => ⟨l0, l2⟩
  have s5 := B5.size
  have y0 : W.heap.size < w5.heap.size := Nat.lt_of_lt_of_le hz0 s5
  have BXX := bel_trans BX B5
  replace hG0 : G w5 := hG.to BXX
  simp only [beq_self_eq_true, Bool.or_true] at hma
  have HCO := Lib.hid hco
  have HMB := Lib.hid hmb
  clear hco hmb s5 hl hi hj hnm
  go_wp2_with fail
  refine name_world (F := fun w1 => w1.cell? ⟨W.heap.size, 0, none⟩ = some (.int .i64 ll) ∧ w1.cell? ⟨W.heap.size, 1, none⟩ = some (.int .u64 at_) ∧ w1.cell? ⟨W.heap.size, 2, none⟩ = some (.bool vl) ∧ w1.cell? ⟨W.heap.size, 3, none⟩ = some (.bool rl) ∧ w1.cell? ⟨W.heap.size, 4, none⟩ = some (.bool wl) ∧ w1.cell? ⟨W.heap.size, 5, none⟩ = some (.bool xl) ∧ w1.cell? ⟨W.heap.size, 6, none⟩ = some (.bool ul) ∧ w1.cell? ⟨W.heap.size, 7, none⟩ = some (.bool g) ∧ w1.cell? ⟨W.heap.size, 8, none⟩ = some (.bool a) ∧ w1.cell? ⟨W.heap.size, 9, none⟩ = some (.bool dl) ∧ w1.cell? ⟨W.heap.size, 10, none⟩ = some (.int .u64 rsw) ∧ w1.cell? ⟨W.heap.size, 11, none⟩ = some (.int .u64 pl) ∧ w1.cell? ⟨W.heap.size, 12, none⟩ = some (.int .u64 high) ∧ w1.cell? ⟨w5.heap.size, 0, none⟩ = some (.bool true) ∧ w1.cell? ⟨w5.heap.size, 1, none⟩ = some (.int .u64 asid) ∧ w1.cell? ⟨w5.heap.size, 2, none⟩ = some (.bool g) ∧ w1.cell? ⟨w5.heap.size, 3, none⟩ = some (.int .i64 ll) ∧ w1.cell? ⟨w5.heap.size, 4, none⟩ = some (.int .u64 nb) ∧ w1.cell? ⟨w5.heap.size, 5, none⟩ = some (.int .u64 pl) ∧ w1.cell? ⟨w5.heap.size, 6, none⟩ = some (.bool rl) ∧ w1.cell? ⟨w5.heap.size, 7, none⟩ = some (.bool wl) ∧ w1.cell? ⟨w5.heap.size, 8, none⟩ = some (.bool xl) ∧ w1.cell? ⟨w5.heap.size, 9, none⟩ = some (.bool ul) ∧ w1.cell? ⟨w5.heap.size, 10, none⟩ = some (.bool dl) ∧ W.heap.size < w1.heap.size ∧ w5.heap.size < w1.heap.size ∧ Below w5.heap.size w5 w1) (by
    refine ⟨?_, ?_, ?_, ?_, ?_, ?_, ?_, ?_, ?_, ?_, ?_, ?_, ?_, ?_, ?_, ?_, ?_, ?_, ?_, ?_, ?_, ?_, ?_, ?_, ?_, ?_, ?_⟩
    all_goals first | (simp; done) | (rw [World.cell?_alloc_lt _ _ _ y0, c5 _ _ hz0]; assumption) | (simp; omega) | (intro i; simp; done) | exact (by repeat (first | (with_reducible exact Below.refl _ _) | (with_reducible apply bel_drewN) | (with_reducible apply bel_alloc) | (with_reducible apply bel_trans; rotate_left; with_reducible assumption) | (with_reducible refine bel_setCell _ _ _ (by first | omega | (simp; done) | (simp; omega) | (simp at *; omega)) ?_)))) ?_
  clear f0 p1 p2 p3 p4 p5 p6 p7 p8 p9 p10 p11 p12 c5
  rintro Wy ⟨f0, p1, p2, p3, p4, p5, p6, p7, p8, p9, p10, p11, p12, q0, q1, q2, q3, q4, q5, q6, q7, q8, q9, q10, hy0, hy1, BY⟩
  replace BXX := bel_trans BXX BY
  have hG1 : G Wy := hG.to BXX
  replace hG0 := hG1
  clear hz0 y0 BY B5
  by_cases hs : base va ll = base other ll
  · have hco : coversE ⟨true, asid, g, ll, nb, pl, ⟨rl, wl, xl, ul⟩, dl⟩ other = true := by rw [HCO.out]; simp [hs]
    have HS := Lib.hid hs
    clear hs HCO
    have hb3 : (base va ll == base other ll) = true := by simpa using HS.out
    have hb4 : decide (base va ll = base other ll) = true := by simpa using HS.out
    refine region_below (by kernel_rfl) (by kernel_rfl) ?_
    repeat (with_reducible refine wpQuiet_step (fun K hK => ?_)
            go_simp
            first
              | (refine hK _ ?_; clear hK K)
              | (refine ⟨_, fun _ _ => rfl, hK _ ?_⟩; clear hK K)
              | (apply Exists.intro
                 refine ⟨fun w' hw' => ?_, hK _ ?_⟩
                 · first
                   | (go_at_call 13; (with_reducible refine (EntryW.awake_calls _ (hG0.below hw' (Nat.le_refl _))).mono ?_); rintro e w2 ⟨rfl, hb⟩; exact ⟨rfl, hw'.trans (hb.mono hw'.size)⟩)
                   | (go_at_call 14; (with_reducible refine (EntryC.may_calls _ _ _ _ _ _ _ _ _ _ _ _ (by first | assumption | omega | exact ⟨by omega, by omega⟩) (by first | assumption | omega | exact ⟨by omega, by omega⟩) (by first | assumption | omega | exact ⟨by omega, by omega⟩) (hG0.below hw' (Nat.le_refl _))).mono ?_); rintro e w2 ⟨rfl, hb⟩; exact ⟨rfl, hw'.trans (hb.mono hw'.size)⟩)
                   | (go_at_call 15; (with_reducible refine (EntryR.rmay_calls _ _ _ _ _ _ _ _ _ _ _ _ (by first | assumption | omega | exact ⟨by omega, by omega⟩) (by first | assumption | omega | exact ⟨by omega, by omega⟩) (by first | assumption | omega | exact ⟨by omega, by omega⟩)).mono ?_); rintro e w2 ⟨rfl, hb⟩; exact ⟨rfl, hw'.trans (hb.mono hw'.size)⟩)
                   | (go_at_call 16; (with_reducible refine (EntryR.leaf_calls _ _ _ _ _ _ _ _ _ _ _ _ _ _ (by first | assumption | omega | exact ⟨by omega, by omega⟩) (hG0.below hw' (Nat.le_refl _))).mono ?_); rintro e w2 ⟨rfl, hb⟩; exact ⟨rfl, hw'.trans (hb.mono hw'.size)⟩)
                   | (go_at_call 17; (with_reducible refine (VaR.ris_calls _ _ ).mono ?_); rintro e w2 ⟨rfl, hb⟩; exact ⟨rfl, hw'.trans (hb.below.mono hw'.size)⟩)
                   | (go_at_call 18; (with_reducible refine (EntryC.of_calls _ _ _ _ _ _ _ _ _ _ _ _ _ _ _ _ (by first | assumption | omega | exact ⟨by omega, by omega⟩) (by first | assumption | omega | exact ⟨by omega, by omega⟩) (by first | assumption | omega | exact ⟨by omega, by omega⟩) (by first | assumption | omega | exact ⟨by omega, by omega⟩) (hG0.below hw' (Nat.le_refl _))).mono ?_); rintro e w2 ⟨rfl, hb⟩; exact ⟨rfl, hw'.trans (hb.mono hw'.size)⟩)
                   | (go_at_call 19; (with_reducible refine (EntryR.rof_calls _ _ _ _ _ _ _ _ _ _ _ _ _ _ _ _ (by first | assumption | omega | exact ⟨by omega, by omega⟩) (by first | assumption | omega | exact ⟨by omega, by omega⟩) (by first | assumption | omega | exact ⟨by omega, by omega⟩) (by first | assumption | omega | exact ⟨by omega, by omega⟩) (hG0.below hw' (Nat.le_refl _))).mono ?_); rintro e w2 ⟨rfl, hb⟩; exact ⟨rfl, hw'.trans (hb.mono hw'.size)⟩)
                   | (go_at_call 20; (with_reducible refine (EntryC.covers_calls _ _ _ _ _ _ _ _ _ _ _ _ _ (by first | assumption | omega | exact ⟨by omega, by omega⟩) (by first | assumption | omega | exact ⟨by omega, by omega⟩) (by first | assumption | omega | exact ⟨by omega, by omega⟩) (hG0.below hw' (Nat.le_refl _))).mono ?_); rintro e w2 ⟨rfl, hb⟩; exact ⟨rfl, hw'.trans (hb.mono hw'.size)⟩)
                   | (go_at_call 21; (with_reducible refine (EntryR.rcovers_calls _ _ _ _ _ _ _ _ _ _ _ _ _ (by first | assumption | omega | exact ⟨by omega, by omega⟩) (by first | assumption | omega | exact ⟨by omega, by omega⟩) (by first | assumption | omega | exact ⟨by omega, by omega⟩) (by first | assumption | omega | exact ⟨by omega, by omega⟩) (hG0.below hw' (Nat.le_refl _))).mono ?_); rintro e w2 ⟨rfl, hb⟩; exact ⟨rfl, hw'.trans (hb.mono hw'.size)⟩)
                   | (go_at_call 22; (with_reducible refine (EntryC.matches_calls _ _ _ _ _ _ _ _ _ _ _ _ _ _ (by first | assumption | omega | exact ⟨by omega, by omega⟩) (by first | assumption | omega | exact ⟨by omega, by omega⟩) (by first | assumption | omega | exact ⟨by omega, by omega⟩) (hG0.below hw' (Nat.le_refl _))).mono ?_); rintro e w2 ⟨rfl, hb⟩; exact ⟨rfl, hw'.trans (hb.mono hw'.size)⟩)
                   | (go_at_call 23; (with_reducible refine (EntryR.rmatches_calls _ _ _ _ _ _ _ _ _ _ _ _ _ _ (by first | assumption | omega | exact ⟨by omega, by omega⟩) (by first | assumption | omega | exact ⟨by omega, by omega⟩) (by first | assumption | omega | exact ⟨by omega, by omega⟩) (by first | assumption | omega | exact ⟨by omega, by omega⟩) (hG0.below hw' (Nat.le_refl _))).mono ?_); rintro e w2 ⟨rfl, hb⟩; exact ⟨rfl, hw'.trans (hb.mono hw'.size)⟩)
                   | (go_at_call 24; (with_reducible refine (EntryC.over_calls _ _ _ _ _ _ _ _ _ _ _ _ _ _ _ _ _ _ _ _ _ _ _ (by first | assumption | omega | exact ⟨by omega, by omega⟩) (by first | assumption | omega | exact ⟨by omega, by omega⟩) (by first | assumption | omega | exact ⟨by omega, by omega⟩) (by first | assumption | omega | exact ⟨by omega, by omega⟩) (hG0.below hw' (Nat.le_refl _))).mono ?_); rintro e w2 ⟨rfl, hb⟩; exact ⟨rfl, hw'.trans (hb.mono hw'.size)⟩)
                   | (go_at_call 25; (with_reducible refine (EntryR.rover_calls _ _ _ _ _ _ _ _ _ _ _ _ _ _ _ _ _ _ _ _ _ _ _ (by first | assumption | omega | exact ⟨by omega, by omega⟩) (by first | assumption | omega | exact ⟨by omega, by omega⟩) (by first | assumption | omega | exact ⟨by omega, by omega⟩) (by first | assumption | omega | exact ⟨by omega, by omega⟩) (hG0.below hw' (Nat.le_refl _))).mono ?_); rintro e w2 ⟨rfl, hb⟩; exact ⟨rfl, hw'.trans (hb.mono hw'.size)⟩)
                   | (go_at_call 26; (with_reducible refine (EntryC.phys_calls _ _ _ _ _ _ _ _ _ _ _ _ _ (by first | assumption | omega | exact ⟨by omega, by omega⟩) (by first | assumption | omega | exact ⟨by omega, by omega⟩) (by first | assumption | omega | exact ⟨by omega, by omega⟩) (by first | assumption | omega | exact ⟨by omega, by omega⟩) (by first | assumption | omega | exact ⟨by omega, by omega⟩) (by first | assumption | omega | exact ⟨by omega, by omega⟩) (hG0.below hw' (Nat.le_refl _))).mono ?_); rintro e w2 ⟨rfl, hb⟩; exact ⟨rfl, hw'.trans (hb.mono hw'.size)⟩)
                   | (go_at_call 27; (with_reducible refine (EntryR.rphys_calls _ _ _ _ _ _ _ _ _ _ _ _ _ (by first | assumption | omega | exact ⟨by omega, by omega⟩) (by first | assumption | omega | exact ⟨by omega, by omega⟩) (by first | assumption | omega | exact ⟨by omega, by omega⟩) (by first | assumption | omega | exact ⟨by omega, by omega⟩) (by first | assumption | omega | exact ⟨by omega, by omega⟩) (by first | assumption | omega | exact ⟨by omega, by omega⟩) (hG0.below hw' (Nat.le_refl _))).mono ?_); rintro e w2 ⟨rfl, hb⟩; exact ⟨rfl, hw'.trans (hb.mono hw'.size)⟩)
                   | (go_at_call 29; (with_reducible refine (EntryR.phys10_calls _ _ _ _ _ _ _ _ _ _ _ _ _ _ _ (by first | assumption | omega | exact ⟨by omega, by omega⟩) (by first | assumption | omega | exact ⟨by omega, by omega⟩) (by first | assumption | omega | exact ⟨by omega, by omega⟩) (by first | assumption | omega | exact ⟨by omega, by omega⟩) (by first | assumption | omega | exact ⟨by omega, by omega⟩) (by first | assumption | omega | exact ⟨by omega, by omega⟩) (hG0.below hw' (Nat.le_refl _))).mono ?_); rintro e w2 ⟨rfl, hb⟩; exact ⟨rfl, hw'.trans (hb.mono hw'.size)⟩)
                   | (go_at_call 28; (with_reducible refine (VaR.rbase_calls _ _ _ (by first | assumption | omega | exact ⟨by omega, by omega⟩) (by first | assumption | omega | exact ⟨by omega, by omega⟩) (by first | assumption | omega | exact ⟨by omega, by omega⟩) (by first | assumption | omega | exact ⟨by omega, by omega⟩)).mono ?_); rintro e w2 ⟨rfl, hb⟩; exact ⟨rfl, hw'.trans (hb.below.mono hw'.size)⟩)
                   | (go_at_call 30; (with_reducible refine (VaR.rof_calls _ _ (by first | assumption | omega | exact ⟨by omega, by omega⟩) (by first | assumption | omega | exact ⟨by omega, by omega⟩)).mono ?_); rintro e w2 ⟨rfl, hb⟩; exact ⟨rfl, hw'.trans (hb.mono hw'.size)⟩)
                   | (go_at_call 31; (with_reducible refine (EntryR.rpages_calls _ _ (by first | assumption | omega | exact ⟨by omega, by omega⟩) (by first | assumption | omega | exact ⟨by omega, by omega⟩)).mono ?_); rintro e w2 ⟨rfl, hb⟩; exact ⟨rfl, hw'.trans (hb.below.mono hw'.size)⟩)
                   | (obtain ⟨hcc, _⟩ := bcell hw'; go_simp; done)
                   | (obtain ⟨hcc, _⟩ := bcell hw'; go_simp; rfl)
                 clear hK K))
    refine wpQuiet_nil ?_
    intro w6 B6
    obtain ⟨c6, _⟩ := bcell B6
    have s6 := B6.size
    have y0 : W.heap.size < w6.heap.size := Nat.lt_of_lt_of_le hy0 s6
    have y1 : w5.heap.size < w6.heap.size := Nat.lt_of_lt_of_le hy1 s6
    replace hG0 : G w6 := hG1.to B6
    clear s6
    go_wp2_with fail
    refine region_below (by kernel_rfl) (by kernel_rfl) ?_
    repeat (with_reducible refine wpQuiet_step (fun K hK => ?_)
            go_simp
            first
              | (refine hK _ ?_; clear hK K)
              | (refine ⟨_, fun _ _ => rfl, hK _ ?_⟩; clear hK K)
              | (apply Exists.intro
                 refine ⟨fun w' hw' => ?_, hK _ ?_⟩
                 · first
                   | (go_at_call 13; (with_reducible refine (EntryW.awake_calls _ (hG0.below hw' (Nat.le_refl _))).mono ?_); rintro e w2 ⟨rfl, hb⟩; exact ⟨rfl, hw'.trans (hb.mono hw'.size)⟩)
                   | (go_at_call 14; (with_reducible refine (EntryC.may_calls _ _ _ _ _ _ _ _ _ _ _ _ (by first | assumption | omega | exact ⟨by omega, by omega⟩) (by first | assumption | omega | exact ⟨by omega, by omega⟩) (by first | assumption | omega | exact ⟨by omega, by omega⟩) (hG0.below hw' (Nat.le_refl _))).mono ?_); rintro e w2 ⟨rfl, hb⟩; exact ⟨rfl, hw'.trans (hb.mono hw'.size)⟩)
                   | (go_at_call 15; (with_reducible refine (EntryR.rmay_calls _ _ _ _ _ _ _ _ _ _ _ _ (by first | assumption | omega | exact ⟨by omega, by omega⟩) (by first | assumption | omega | exact ⟨by omega, by omega⟩) (by first | assumption | omega | exact ⟨by omega, by omega⟩)).mono ?_); rintro e w2 ⟨rfl, hb⟩; exact ⟨rfl, hw'.trans (hb.mono hw'.size)⟩)
                   | (go_at_call 16; (with_reducible refine (EntryR.leaf_calls _ _ _ _ _ _ _ _ _ _ _ _ _ _ (by first | assumption | omega | exact ⟨by omega, by omega⟩) (hG0.below hw' (Nat.le_refl _))).mono ?_); rintro e w2 ⟨rfl, hb⟩; exact ⟨rfl, hw'.trans (hb.mono hw'.size)⟩)
                   | (go_at_call 17; (with_reducible refine (VaR.ris_calls _ _ ).mono ?_); rintro e w2 ⟨rfl, hb⟩; exact ⟨rfl, hw'.trans (hb.below.mono hw'.size)⟩)
                   | (go_at_call 18; (with_reducible refine (EntryC.of_calls _ _ _ _ _ _ _ _ _ _ _ _ _ _ _ _ (by first | assumption | omega | exact ⟨by omega, by omega⟩) (by first | assumption | omega | exact ⟨by omega, by omega⟩) (by first | assumption | omega | exact ⟨by omega, by omega⟩) (by first | assumption | omega | exact ⟨by omega, by omega⟩) (hG0.below hw' (Nat.le_refl _))).mono ?_); rintro e w2 ⟨rfl, hb⟩; exact ⟨rfl, hw'.trans (hb.mono hw'.size)⟩)
                   | (go_at_call 19; (with_reducible refine (EntryR.rof_calls _ _ _ _ _ _ _ _ _ _ _ _ _ _ _ _ (by first | assumption | omega | exact ⟨by omega, by omega⟩) (by first | assumption | omega | exact ⟨by omega, by omega⟩) (by first | assumption | omega | exact ⟨by omega, by omega⟩) (by first | assumption | omega | exact ⟨by omega, by omega⟩) (hG0.below hw' (Nat.le_refl _))).mono ?_); rintro e w2 ⟨rfl, hb⟩; exact ⟨rfl, hw'.trans (hb.mono hw'.size)⟩)
                   | (go_at_call 20; (with_reducible refine (EntryC.covers_calls _ _ _ _ _ _ _ _ _ _ _ _ _ (by first | assumption | omega | exact ⟨by omega, by omega⟩) (by first | assumption | omega | exact ⟨by omega, by omega⟩) (by first | assumption | omega | exact ⟨by omega, by omega⟩) (hG0.below hw' (Nat.le_refl _))).mono ?_); rintro e w2 ⟨rfl, hb⟩; exact ⟨rfl, hw'.trans (hb.mono hw'.size)⟩)
                   | (go_at_call 21; (with_reducible refine (EntryR.rcovers_calls _ _ _ _ _ _ _ _ _ _ _ _ _ (by first | assumption | omega | exact ⟨by omega, by omega⟩) (by first | assumption | omega | exact ⟨by omega, by omega⟩) (by first | assumption | omega | exact ⟨by omega, by omega⟩) (by first | assumption | omega | exact ⟨by omega, by omega⟩) (hG0.below hw' (Nat.le_refl _))).mono ?_); rintro e w2 ⟨rfl, hb⟩; exact ⟨rfl, hw'.trans (hb.mono hw'.size)⟩)
                   | (go_at_call 22; (with_reducible refine (EntryC.matches_calls _ _ _ _ _ _ _ _ _ _ _ _ _ _ (by first | assumption | omega | exact ⟨by omega, by omega⟩) (by first | assumption | omega | exact ⟨by omega, by omega⟩) (by first | assumption | omega | exact ⟨by omega, by omega⟩) (hG0.below hw' (Nat.le_refl _))).mono ?_); rintro e w2 ⟨rfl, hb⟩; exact ⟨rfl, hw'.trans (hb.mono hw'.size)⟩)
                   | (go_at_call 23; (with_reducible refine (EntryR.rmatches_calls _ _ _ _ _ _ _ _ _ _ _ _ _ _ (by first | assumption | omega | exact ⟨by omega, by omega⟩) (by first | assumption | omega | exact ⟨by omega, by omega⟩) (by first | assumption | omega | exact ⟨by omega, by omega⟩) (by first | assumption | omega | exact ⟨by omega, by omega⟩) (hG0.below hw' (Nat.le_refl _))).mono ?_); rintro e w2 ⟨rfl, hb⟩; exact ⟨rfl, hw'.trans (hb.mono hw'.size)⟩)
                   | (go_at_call 24; (with_reducible refine (EntryC.over_calls _ _ _ _ _ _ _ _ _ _ _ _ _ _ _ _ _ _ _ _ _ _ _ (by first | assumption | omega | exact ⟨by omega, by omega⟩) (by first | assumption | omega | exact ⟨by omega, by omega⟩) (by first | assumption | omega | exact ⟨by omega, by omega⟩) (by first | assumption | omega | exact ⟨by omega, by omega⟩) (hG0.below hw' (Nat.le_refl _))).mono ?_); rintro e w2 ⟨rfl, hb⟩; exact ⟨rfl, hw'.trans (hb.mono hw'.size)⟩)
                   | (go_at_call 25; (with_reducible refine (EntryR.rover_calls _ _ _ _ _ _ _ _ _ _ _ _ _ _ _ _ _ _ _ _ _ _ _ (by first | assumption | omega | exact ⟨by omega, by omega⟩) (by first | assumption | omega | exact ⟨by omega, by omega⟩) (by first | assumption | omega | exact ⟨by omega, by omega⟩) (by first | assumption | omega | exact ⟨by omega, by omega⟩) (hG0.below hw' (Nat.le_refl _))).mono ?_); rintro e w2 ⟨rfl, hb⟩; exact ⟨rfl, hw'.trans (hb.mono hw'.size)⟩)
                   | (go_at_call 26; (with_reducible refine (EntryC.phys_calls _ _ _ _ _ _ _ _ _ _ _ _ _ (by first | assumption | omega | exact ⟨by omega, by omega⟩) (by first | assumption | omega | exact ⟨by omega, by omega⟩) (by first | assumption | omega | exact ⟨by omega, by omega⟩) (by first | assumption | omega | exact ⟨by omega, by omega⟩) (by first | assumption | omega | exact ⟨by omega, by omega⟩) (by first | assumption | omega | exact ⟨by omega, by omega⟩) (hG0.below hw' (Nat.le_refl _))).mono ?_); rintro e w2 ⟨rfl, hb⟩; exact ⟨rfl, hw'.trans (hb.mono hw'.size)⟩)
                   | (go_at_call 27; (with_reducible refine (EntryR.rphys_calls _ _ _ _ _ _ _ _ _ _ _ _ _ (by first | assumption | omega | exact ⟨by omega, by omega⟩) (by first | assumption | omega | exact ⟨by omega, by omega⟩) (by first | assumption | omega | exact ⟨by omega, by omega⟩) (by first | assumption | omega | exact ⟨by omega, by omega⟩) (by first | assumption | omega | exact ⟨by omega, by omega⟩) (by first | assumption | omega | exact ⟨by omega, by omega⟩) (hG0.below hw' (Nat.le_refl _))).mono ?_); rintro e w2 ⟨rfl, hb⟩; exact ⟨rfl, hw'.trans (hb.mono hw'.size)⟩)
                   | (go_at_call 29; (with_reducible refine (EntryR.phys10_calls _ _ _ _ _ _ _ _ _ _ _ _ _ _ _ (by first | assumption | omega | exact ⟨by omega, by omega⟩) (by first | assumption | omega | exact ⟨by omega, by omega⟩) (by first | assumption | omega | exact ⟨by omega, by omega⟩) (by first | assumption | omega | exact ⟨by omega, by omega⟩) (by first | assumption | omega | exact ⟨by omega, by omega⟩) (by first | assumption | omega | exact ⟨by omega, by omega⟩) (hG0.below hw' (Nat.le_refl _))).mono ?_); rintro e w2 ⟨rfl, hb⟩; exact ⟨rfl, hw'.trans (hb.mono hw'.size)⟩)
                   | (go_at_call 28; (with_reducible refine (VaR.rbase_calls _ _ _ (by first | assumption | omega | exact ⟨by omega, by omega⟩) (by first | assumption | omega | exact ⟨by omega, by omega⟩) (by first | assumption | omega | exact ⟨by omega, by omega⟩) (by first | assumption | omega | exact ⟨by omega, by omega⟩)).mono ?_); rintro e w2 ⟨rfl, hb⟩; exact ⟨rfl, hw'.trans (hb.below.mono hw'.size)⟩)
                   | (go_at_call 30; (with_reducible refine (VaR.rof_calls _ _ (by first | assumption | omega | exact ⟨by omega, by omega⟩) (by first | assumption | omega | exact ⟨by omega, by omega⟩)).mono ?_); rintro e w2 ⟨rfl, hb⟩; exact ⟨rfl, hw'.trans (hb.mono hw'.size)⟩)
                   | (go_at_call 31; (with_reducible refine (EntryR.rpages_calls _ _ (by first | assumption | omega | exact ⟨by omega, by omega⟩) (by first | assumption | omega | exact ⟨by omega, by omega⟩)).mono ?_); rintro e w2 ⟨rfl, hb⟩; exact ⟨rfl, hw'.trans (hb.below.mono hw'.size)⟩)
                   | (obtain ⟨hcc, _⟩ := bcell hw'; go_simp; done)
                   | (obtain ⟨hcc, _⟩ := bcell hw'; go_simp; rfl)
                 clear hK K))
    refine wpQuiet_nil ?_
    intro w7 b7
    have B7 := bel_trans B6 b7
    clear c6 B6 b7 y0 y1
    obtain ⟨c7, _⟩ := bcell B7
    have s7 := B7.size
    have y0 : W.heap.size < w7.heap.size := Nat.lt_of_lt_of_le hy0 s7
    have y1 : w5.heap.size < w7.heap.size := Nat.lt_of_lt_of_le hy1 s7
    replace hG0 : G w7 := hG1.to B7
    clear s7
    go_wp2_with fail
    refine region_below (by kernel_rfl) (by kernel_rfl) ?_
    repeat (with_reducible refine wpQuiet_step (fun K hK => ?_)
            go_simp
            first
              | (refine hK _ ?_; clear hK K)
              | (refine ⟨_, fun _ _ => rfl, hK _ ?_⟩; clear hK K)
              | (apply Exists.intro
                 refine ⟨fun w' hw' => ?_, hK _ ?_⟩
                 · first
                   | (go_at_call 13; (with_reducible refine (EntryW.awake_calls _ (hG0.below hw' (Nat.le_refl _))).mono ?_); rintro e w2 ⟨rfl, hb⟩; exact ⟨rfl, hw'.trans (hb.mono hw'.size)⟩)
                   | (go_at_call 14; (with_reducible refine (EntryC.may_calls _ _ _ _ _ _ _ _ _ _ _ _ (by first | assumption | omega | exact ⟨by omega, by omega⟩) (by first | assumption | omega | exact ⟨by omega, by omega⟩) (by first | assumption | omega | exact ⟨by omega, by omega⟩) (hG0.below hw' (Nat.le_refl _))).mono ?_); rintro e w2 ⟨rfl, hb⟩; exact ⟨rfl, hw'.trans (hb.mono hw'.size)⟩)
                   | (go_at_call 15; (with_reducible refine (EntryR.rmay_calls _ _ _ _ _ _ _ _ _ _ _ _ (by first | assumption | omega | exact ⟨by omega, by omega⟩) (by first | assumption | omega | exact ⟨by omega, by omega⟩) (by first | assumption | omega | exact ⟨by omega, by omega⟩)).mono ?_); rintro e w2 ⟨rfl, hb⟩; exact ⟨rfl, hw'.trans (hb.mono hw'.size)⟩)
                   | (go_at_call 16; (with_reducible refine (EntryR.leaf_calls _ _ _ _ _ _ _ _ _ _ _ _ _ _ (by first | assumption | omega | exact ⟨by omega, by omega⟩) (hG0.below hw' (Nat.le_refl _))).mono ?_); rintro e w2 ⟨rfl, hb⟩; exact ⟨rfl, hw'.trans (hb.mono hw'.size)⟩)
                   | (go_at_call 17; (with_reducible refine (VaR.ris_calls _ _ ).mono ?_); rintro e w2 ⟨rfl, hb⟩; exact ⟨rfl, hw'.trans (hb.below.mono hw'.size)⟩)
                   | (go_at_call 18; (with_reducible refine (EntryC.of_calls _ _ _ _ _ _ _ _ _ _ _ _ _ _ _ _ (by first | assumption | omega | exact ⟨by omega, by omega⟩) (by first | assumption | omega | exact ⟨by omega, by omega⟩) (by first | assumption | omega | exact ⟨by omega, by omega⟩) (by first | assumption | omega | exact ⟨by omega, by omega⟩) (hG0.below hw' (Nat.le_refl _))).mono ?_); rintro e w2 ⟨rfl, hb⟩; exact ⟨rfl, hw'.trans (hb.mono hw'.size)⟩)
                   | (go_at_call 19; (with_reducible refine (EntryR.rof_calls _ _ _ _ _ _ _ _ _ _ _ _ _ _ _ _ (by first | assumption | omega | exact ⟨by omega, by omega⟩) (by first | assumption | omega | exact ⟨by omega, by omega⟩) (by first | assumption | omega | exact ⟨by omega, by omega⟩) (by first | assumption | omega | exact ⟨by omega, by omega⟩) (hG0.below hw' (Nat.le_refl _))).mono ?_); rintro e w2 ⟨rfl, hb⟩; exact ⟨rfl, hw'.trans (hb.mono hw'.size)⟩)
                   | (go_at_call 20; (with_reducible refine (EntryC.covers_calls _ _ _ _ _ _ _ _ _ _ _ _ _ (by first | assumption | omega | exact ⟨by omega, by omega⟩) (by first | assumption | omega | exact ⟨by omega, by omega⟩) (by first | assumption | omega | exact ⟨by omega, by omega⟩) (hG0.below hw' (Nat.le_refl _))).mono ?_); rintro e w2 ⟨rfl, hb⟩; exact ⟨rfl, hw'.trans (hb.mono hw'.size)⟩)
                   | (go_at_call 21; (with_reducible refine (EntryR.rcovers_calls _ _ _ _ _ _ _ _ _ _ _ _ _ (by first | assumption | omega | exact ⟨by omega, by omega⟩) (by first | assumption | omega | exact ⟨by omega, by omega⟩) (by first | assumption | omega | exact ⟨by omega, by omega⟩) (by first | assumption | omega | exact ⟨by omega, by omega⟩) (hG0.below hw' (Nat.le_refl _))).mono ?_); rintro e w2 ⟨rfl, hb⟩; exact ⟨rfl, hw'.trans (hb.mono hw'.size)⟩)
                   | (go_at_call 22; (with_reducible refine (EntryC.matches_calls _ _ _ _ _ _ _ _ _ _ _ _ _ _ (by first | assumption | omega | exact ⟨by omega, by omega⟩) (by first | assumption | omega | exact ⟨by omega, by omega⟩) (by first | assumption | omega | exact ⟨by omega, by omega⟩) (hG0.below hw' (Nat.le_refl _))).mono ?_); rintro e w2 ⟨rfl, hb⟩; exact ⟨rfl, hw'.trans (hb.mono hw'.size)⟩)
                   | (go_at_call 23; (with_reducible refine (EntryR.rmatches_calls _ _ _ _ _ _ _ _ _ _ _ _ _ _ (by first | assumption | omega | exact ⟨by omega, by omega⟩) (by first | assumption | omega | exact ⟨by omega, by omega⟩) (by first | assumption | omega | exact ⟨by omega, by omega⟩) (by first | assumption | omega | exact ⟨by omega, by omega⟩) (hG0.below hw' (Nat.le_refl _))).mono ?_); rintro e w2 ⟨rfl, hb⟩; exact ⟨rfl, hw'.trans (hb.mono hw'.size)⟩)
                   | (go_at_call 24; (with_reducible refine (EntryC.over_calls _ _ _ _ _ _ _ _ _ _ _ _ _ _ _ _ _ _ _ _ _ _ _ (by first | assumption | omega | exact ⟨by omega, by omega⟩) (by first | assumption | omega | exact ⟨by omega, by omega⟩) (by first | assumption | omega | exact ⟨by omega, by omega⟩) (by first | assumption | omega | exact ⟨by omega, by omega⟩) (hG0.below hw' (Nat.le_refl _))).mono ?_); rintro e w2 ⟨rfl, hb⟩; exact ⟨rfl, hw'.trans (hb.mono hw'.size)⟩)
                   | (go_at_call 25; (with_reducible refine (EntryR.rover_calls _ _ _ _ _ _ _ _ _ _ _ _ _ _ _ _ _ _ _ _ _ _ _ (by first | assumption | omega | exact ⟨by omega, by omega⟩) (by first | assumption | omega | exact ⟨by omega, by omega⟩) (by first | assumption | omega | exact ⟨by omega, by omega⟩) (by first | assumption | omega | exact ⟨by omega, by omega⟩) (hG0.below hw' (Nat.le_refl _))).mono ?_); rintro e w2 ⟨rfl, hb⟩; exact ⟨rfl, hw'.trans (hb.mono hw'.size)⟩)
                   | (go_at_call 26; (with_reducible refine (EntryC.phys_calls _ _ _ _ _ _ _ _ _ _ _ _ _ (by first | assumption | omega | exact ⟨by omega, by omega⟩) (by first | assumption | omega | exact ⟨by omega, by omega⟩) (by first | assumption | omega | exact ⟨by omega, by omega⟩) (by first | assumption | omega | exact ⟨by omega, by omega⟩) (by first | assumption | omega | exact ⟨by omega, by omega⟩) (by first | assumption | omega | exact ⟨by omega, by omega⟩) (hG0.below hw' (Nat.le_refl _))).mono ?_); rintro e w2 ⟨rfl, hb⟩; exact ⟨rfl, hw'.trans (hb.mono hw'.size)⟩)
                   | (go_at_call 27; (with_reducible refine (EntryR.rphys_calls _ _ _ _ _ _ _ _ _ _ _ _ _ (by first | assumption | omega | exact ⟨by omega, by omega⟩) (by first | assumption | omega | exact ⟨by omega, by omega⟩) (by first | assumption | omega | exact ⟨by omega, by omega⟩) (by first | assumption | omega | exact ⟨by omega, by omega⟩) (by first | assumption | omega | exact ⟨by omega, by omega⟩) (by first | assumption | omega | exact ⟨by omega, by omega⟩) (hG0.below hw' (Nat.le_refl _))).mono ?_); rintro e w2 ⟨rfl, hb⟩; exact ⟨rfl, hw'.trans (hb.mono hw'.size)⟩)
                   | (go_at_call 29; (with_reducible refine (EntryR.phys10_calls _ _ _ _ _ _ _ _ _ _ _ _ _ _ _ (by first | assumption | omega | exact ⟨by omega, by omega⟩) (by first | assumption | omega | exact ⟨by omega, by omega⟩) (by first | assumption | omega | exact ⟨by omega, by omega⟩) (by first | assumption | omega | exact ⟨by omega, by omega⟩) (by first | assumption | omega | exact ⟨by omega, by omega⟩) (by first | assumption | omega | exact ⟨by omega, by omega⟩) (hG0.below hw' (Nat.le_refl _))).mono ?_); rintro e w2 ⟨rfl, hb⟩; exact ⟨rfl, hw'.trans (hb.mono hw'.size)⟩)
                   | (go_at_call 28; (with_reducible refine (VaR.rbase_calls _ _ _ (by first | assumption | omega | exact ⟨by omega, by omega⟩) (by first | assumption | omega | exact ⟨by omega, by omega⟩) (by first | assumption | omega | exact ⟨by omega, by omega⟩) (by first | assumption | omega | exact ⟨by omega, by omega⟩)).mono ?_); rintro e w2 ⟨rfl, hb⟩; exact ⟨rfl, hw'.trans (hb.below.mono hw'.size)⟩)
                   | (go_at_call 30; (with_reducible refine (VaR.rof_calls _ _ (by first | assumption | omega | exact ⟨by omega, by omega⟩) (by first | assumption | omega | exact ⟨by omega, by omega⟩)).mono ?_); rintro e w2 ⟨rfl, hb⟩; exact ⟨rfl, hw'.trans (hb.mono hw'.size)⟩)
                   | (go_at_call 31; (with_reducible refine (EntryR.rpages_calls _ _ (by first | assumption | omega | exact ⟨by omega, by omega⟩) (by first | assumption | omega | exact ⟨by omega, by omega⟩)).mono ?_); rintro e w2 ⟨rfl, hb⟩; exact ⟨rfl, hw'.trans (hb.below.mono hw'.size)⟩)
                   | (obtain ⟨hcc, _⟩ := bcell hw'; go_simp; done)
                   | (obtain ⟨hcc, _⟩ := bcell hw'; go_simp; rfl)
                 clear hK K))
    refine wpQuiet_nil ?_
    intro w8 b8
    have B8 := bel_trans B7 b8
    clear c7 B7 b8 y0 y1
    obtain ⟨c8, _⟩ := bcell B8
    have s8 := B8.size
    have y0 : W.heap.size < w8.heap.size := Nat.lt_of_lt_of_le hy0 s8
    have y1 : w5.heap.size < w8.heap.size := Nat.lt_of_lt_of_le hy1 s8
    replace hG0 : G w8 := hG1.to B8
    clear s8
    go_wp2_with fail
    refine (EntryC.matches_calls _ _ _ _ _ _ _ _ _ _ _ _ _ _ (fun _ => ⟨l0, l2⟩) a0 a1 hG0).mono ?_
    rintro e w9 ⟨rfl, b9⟩
    rw [hma]
    have B9 := bel_trans B8 b9
    clear c8 B8 b9 y0 y1
    obtain ⟨c9, _⟩ := bcell B9
    have hG9 : G w9 := hG1.to B9
    go_wp2_with fail
    refine (EntryC.matches_calls _ _ _ _ _ _ _ _ _ _ _ _ _ _ (fun _ => ⟨l0, l2⟩) a0 a1 hG9).mono ?_
    rintro e wa ⟨rfl, ba⟩
    rw [HMB.out]
    have Ba := bel_trans B9 ba
    clear c9 B9 ba
    obtain ⟨ca, _⟩ := bcell Ba
    by_cases hq : asid = second
    · subst hq
      cases g <;>
      · go_wp2
        go_ret
        exact ⟨rfl, bel_trans BXX Ba⟩
    · have hq1 : (asid == second) = false := by simpa using hq
      have hq2 : decide (asid = second) = false := by simpa using hq
      have HQ := Lib.hid hq
      clear hq
      rw [hq1]
      cases g <;>
      · go_wp2
        go_ret
        exact ⟨rfl, bel_trans BXX Ba⟩
  · have hco : coversE ⟨true, asid, g, ll, nb, pl, ⟨rl, wl, xl, ul⟩, dl⟩ other = false := by rw [HCO.out]; simp [hs]
    have HS := Lib.hid hs
    clear hs HCO
    have hb3 : (base va ll == base other ll) = false := by simpa using HS.out
    have hb4 : decide (base va ll = base other ll) = false := by simpa using HS.out
    refine region_below (by kernel_rfl) (by kernel_rfl) ?_
    repeat (with_reducible refine wpQuiet_step (fun K hK => ?_)
            go_simp
            first
              | (refine hK _ ?_; clear hK K)
              | (refine ⟨_, fun _ _ => rfl, hK _ ?_⟩; clear hK K)
              | (apply Exists.intro
                 refine ⟨fun w' hw' => ?_, hK _ ?_⟩
                 · first
                   | (go_at_call 13; (with_reducible refine (EntryW.awake_calls _ (hG0.below hw' (Nat.le_refl _))).mono ?_); rintro e w2 ⟨rfl, hb⟩; exact ⟨rfl, hw'.trans (hb.mono hw'.size)⟩)
                   | (go_at_call 14; (with_reducible refine (EntryC.may_calls _ _ _ _ _ _ _ _ _ _ _ _ (by first | assumption | omega | exact ⟨by omega, by omega⟩) (by first | assumption | omega | exact ⟨by omega, by omega⟩) (by first | assumption | omega | exact ⟨by omega, by omega⟩) (hG0.below hw' (Nat.le_refl _))).mono ?_); rintro e w2 ⟨rfl, hb⟩; exact ⟨rfl, hw'.trans (hb.mono hw'.size)⟩)
                   | (go_at_call 15; (with_reducible refine (EntryR.rmay_calls _ _ _ _ _ _ _ _ _ _ _ _ (by first | assumption | omega | exact ⟨by omega, by omega⟩) (by first | assumption | omega | exact ⟨by omega, by omega⟩) (by first | assumption | omega | exact ⟨by omega, by omega⟩)).mono ?_); rintro e w2 ⟨rfl, hb⟩; exact ⟨rfl, hw'.trans (hb.mono hw'.size)⟩)
                   | (go_at_call 16; (with_reducible refine (EntryR.leaf_calls _ _ _ _ _ _ _ _ _ _ _ _ _ _ (by first | assumption | omega | exact ⟨by omega, by omega⟩) (hG0.below hw' (Nat.le_refl _))).mono ?_); rintro e w2 ⟨rfl, hb⟩; exact ⟨rfl, hw'.trans (hb.mono hw'.size)⟩)
                   | (go_at_call 17; (with_reducible refine (VaR.ris_calls _ _ ).mono ?_); rintro e w2 ⟨rfl, hb⟩; exact ⟨rfl, hw'.trans (hb.below.mono hw'.size)⟩)
                   | (go_at_call 18; (with_reducible refine (EntryC.of_calls _ _ _ _ _ _ _ _ _ _ _ _ _ _ _ _ (by first | assumption | omega | exact ⟨by omega, by omega⟩) (by first | assumption | omega | exact ⟨by omega, by omega⟩) (by first | assumption | omega | exact ⟨by omega, by omega⟩) (by first | assumption | omega | exact ⟨by omega, by omega⟩) (hG0.below hw' (Nat.le_refl _))).mono ?_); rintro e w2 ⟨rfl, hb⟩; exact ⟨rfl, hw'.trans (hb.mono hw'.size)⟩)
                   | (go_at_call 19; (with_reducible refine (EntryR.rof_calls _ _ _ _ _ _ _ _ _ _ _ _ _ _ _ _ (by first | assumption | omega | exact ⟨by omega, by omega⟩) (by first | assumption | omega | exact ⟨by omega, by omega⟩) (by first | assumption | omega | exact ⟨by omega, by omega⟩) (by first | assumption | omega | exact ⟨by omega, by omega⟩) (hG0.below hw' (Nat.le_refl _))).mono ?_); rintro e w2 ⟨rfl, hb⟩; exact ⟨rfl, hw'.trans (hb.mono hw'.size)⟩)
                   | (go_at_call 20; (with_reducible refine (EntryC.covers_calls _ _ _ _ _ _ _ _ _ _ _ _ _ (by first | assumption | omega | exact ⟨by omega, by omega⟩) (by first | assumption | omega | exact ⟨by omega, by omega⟩) (by first | assumption | omega | exact ⟨by omega, by omega⟩) (hG0.below hw' (Nat.le_refl _))).mono ?_); rintro e w2 ⟨rfl, hb⟩; exact ⟨rfl, hw'.trans (hb.mono hw'.size)⟩)
                   | (go_at_call 21; (with_reducible refine (EntryR.rcovers_calls _ _ _ _ _ _ _ _ _ _ _ _ _ (by first | assumption | omega | exact ⟨by omega, by omega⟩) (by first | assumption | omega | exact ⟨by omega, by omega⟩) (by first | assumption | omega | exact ⟨by omega, by omega⟩) (by first | assumption | omega | exact ⟨by omega, by omega⟩) (hG0.below hw' (Nat.le_refl _))).mono ?_); rintro e w2 ⟨rfl, hb⟩; exact ⟨rfl, hw'.trans (hb.mono hw'.size)⟩)
                   | (go_at_call 22; (with_reducible refine (EntryC.matches_calls _ _ _ _ _ _ _ _ _ _ _ _ _ _ (by first | assumption | omega | exact ⟨by omega, by omega⟩) (by first | assumption | omega | exact ⟨by omega, by omega⟩) (by first | assumption | omega | exact ⟨by omega, by omega⟩) (hG0.below hw' (Nat.le_refl _))).mono ?_); rintro e w2 ⟨rfl, hb⟩; exact ⟨rfl, hw'.trans (hb.mono hw'.size)⟩)
                   | (go_at_call 23; (with_reducible refine (EntryR.rmatches_calls _ _ _ _ _ _ _ _ _ _ _ _ _ _ (by first | assumption | omega | exact ⟨by omega, by omega⟩) (by first | assumption | omega | exact ⟨by omega, by omega⟩) (by first | assumption | omega | exact ⟨by omega, by omega⟩) (by first | assumption | omega | exact ⟨by omega, by omega⟩) (hG0.below hw' (Nat.le_refl _))).mono ?_); rintro e w2 ⟨rfl, hb⟩; exact ⟨rfl, hw'.trans (hb.mono hw'.size)⟩)
                   | (go_at_call 24; (with_reducible refine (EntryC.over_calls _ _ _ _ _ _ _ _ _ _ _ _ _ _ _ _ _ _ _ _ _ _ _ (by first | assumption | omega | exact ⟨by omega, by omega⟩) (by first | assumption | omega | exact ⟨by omega, by omega⟩) (by first | assumption | omega | exact ⟨by omega, by omega⟩) (by first | assumption | omega | exact ⟨by omega, by omega⟩) (hG0.below hw' (Nat.le_refl _))).mono ?_); rintro e w2 ⟨rfl, hb⟩; exact ⟨rfl, hw'.trans (hb.mono hw'.size)⟩)
                   | (go_at_call 25; (with_reducible refine (EntryR.rover_calls _ _ _ _ _ _ _ _ _ _ _ _ _ _ _ _ _ _ _ _ _ _ _ (by first | assumption | omega | exact ⟨by omega, by omega⟩) (by first | assumption | omega | exact ⟨by omega, by omega⟩) (by first | assumption | omega | exact ⟨by omega, by omega⟩) (by first | assumption | omega | exact ⟨by omega, by omega⟩) (hG0.below hw' (Nat.le_refl _))).mono ?_); rintro e w2 ⟨rfl, hb⟩; exact ⟨rfl, hw'.trans (hb.mono hw'.size)⟩)
                   | (go_at_call 26; (with_reducible refine (EntryC.phys_calls _ _ _ _ _ _ _ _ _ _ _ _ _ (by first | assumption | omega | exact ⟨by omega, by omega⟩) (by first | assumption | omega | exact ⟨by omega, by omega⟩) (by first | assumption | omega | exact ⟨by omega, by omega⟩) (by first | assumption | omega | exact ⟨by omega, by omega⟩) (by first | assumption | omega | exact ⟨by omega, by omega⟩) (by first | assumption | omega | exact ⟨by omega, by omega⟩) (hG0.below hw' (Nat.le_refl _))).mono ?_); rintro e w2 ⟨rfl, hb⟩; exact ⟨rfl, hw'.trans (hb.mono hw'.size)⟩)
                   | (go_at_call 27; (with_reducible refine (EntryR.rphys_calls _ _ _ _ _ _ _ _ _ _ _ _ _ (by first | assumption | omega | exact ⟨by omega, by omega⟩) (by first | assumption | omega | exact ⟨by omega, by omega⟩) (by first | assumption | omega | exact ⟨by omega, by omega⟩) (by first | assumption | omega | exact ⟨by omega, by omega⟩) (by first | assumption | omega | exact ⟨by omega, by omega⟩) (by first | assumption | omega | exact ⟨by omega, by omega⟩) (hG0.below hw' (Nat.le_refl _))).mono ?_); rintro e w2 ⟨rfl, hb⟩; exact ⟨rfl, hw'.trans (hb.mono hw'.size)⟩)
                   | (go_at_call 29; (with_reducible refine (EntryR.phys10_calls _ _ _ _ _ _ _ _ _ _ _ _ _ _ _ (by first | assumption | omega | exact ⟨by omega, by omega⟩) (by first | assumption | omega | exact ⟨by omega, by omega⟩) (by first | assumption | omega | exact ⟨by omega, by omega⟩) (by first | assumption | omega | exact ⟨by omega, by omega⟩) (by first | assumption | omega | exact ⟨by omega, by omega⟩) (by first | assumption | omega | exact ⟨by omega, by omega⟩) (hG0.below hw' (Nat.le_refl _))).mono ?_); rintro e w2 ⟨rfl, hb⟩; exact ⟨rfl, hw'.trans (hb.mono hw'.size)⟩)
                   | (go_at_call 28; (with_reducible refine (VaR.rbase_calls _ _ _ (by first | assumption | omega | exact ⟨by omega, by omega⟩) (by first | assumption | omega | exact ⟨by omega, by omega⟩) (by first | assumption | omega | exact ⟨by omega, by omega⟩) (by first | assumption | omega | exact ⟨by omega, by omega⟩)).mono ?_); rintro e w2 ⟨rfl, hb⟩; exact ⟨rfl, hw'.trans (hb.below.mono hw'.size)⟩)
                   | (go_at_call 30; (with_reducible refine (VaR.rof_calls _ _ (by first | assumption | omega | exact ⟨by omega, by omega⟩) (by first | assumption | omega | exact ⟨by omega, by omega⟩)).mono ?_); rintro e w2 ⟨rfl, hb⟩; exact ⟨rfl, hw'.trans (hb.mono hw'.size)⟩)
                   | (go_at_call 31; (with_reducible refine (EntryR.rpages_calls _ _ (by first | assumption | omega | exact ⟨by omega, by omega⟩) (by first | assumption | omega | exact ⟨by omega, by omega⟩)).mono ?_); rintro e w2 ⟨rfl, hb⟩; exact ⟨rfl, hw'.trans (hb.below.mono hw'.size)⟩)
                   | (obtain ⟨hcc, _⟩ := bcell hw'; go_simp; done)
                   | (obtain ⟨hcc, _⟩ := bcell hw'; go_simp; rfl)
                 clear hK K))
    refine wpQuiet_nil ?_
    intro w6 B6
    obtain ⟨c6, _⟩ := bcell B6
    have s6 := B6.size
    have y0 : W.heap.size < w6.heap.size := Nat.lt_of_lt_of_le hy0 s6
    have y1 : w5.heap.size < w6.heap.size := Nat.lt_of_lt_of_le hy1 s6
    replace hG0 : G w6 := hG1.to B6
    clear s6
    go_wp2_with fail
    refine region_below (by kernel_rfl) (by kernel_rfl) ?_
    repeat (with_reducible refine wpQuiet_step (fun K hK => ?_)
            go_simp
            first
              | (refine hK _ ?_; clear hK K)
              | (refine ⟨_, fun _ _ => rfl, hK _ ?_⟩; clear hK K)
              | (apply Exists.intro
                 refine ⟨fun w' hw' => ?_, hK _ ?_⟩
                 · first
                   | (go_at_call 13; (with_reducible refine (EntryW.awake_calls _ (hG0.below hw' (Nat.le_refl _))).mono ?_); rintro e w2 ⟨rfl, hb⟩; exact ⟨rfl, hw'.trans (hb.mono hw'.size)⟩)
                   | (go_at_call 14; (with_reducible refine (EntryC.may_calls _ _ _ _ _ _ _ _ _ _ _ _ (by first | assumption | omega | exact ⟨by omega, by omega⟩) (by first | assumption | omega | exact ⟨by omega, by omega⟩) (by first | assumption | omega | exact ⟨by omega, by omega⟩) (hG0.below hw' (Nat.le_refl _))).mono ?_); rintro e w2 ⟨rfl, hb⟩; exact ⟨rfl, hw'.trans (hb.mono hw'.size)⟩)
                   | (go_at_call 15; (with_reducible refine (EntryR.rmay_calls _ _ _ _ _ _ _ _ _ _ _ _ (by first | assumption | omega | exact ⟨by omega, by omega⟩) (by first | assumption | omega | exact ⟨by omega, by omega⟩) (by first | assumption | omega | exact ⟨by omega, by omega⟩)).mono ?_); rintro e w2 ⟨rfl, hb⟩; exact ⟨rfl, hw'.trans (hb.mono hw'.size)⟩)
                   | (go_at_call 16; (with_reducible refine (EntryR.leaf_calls _ _ _ _ _ _ _ _ _ _ _ _ _ _ (by first | assumption | omega | exact ⟨by omega, by omega⟩) (hG0.below hw' (Nat.le_refl _))).mono ?_); rintro e w2 ⟨rfl, hb⟩; exact ⟨rfl, hw'.trans (hb.mono hw'.size)⟩)
                   | (go_at_call 17; (with_reducible refine (VaR.ris_calls _ _ ).mono ?_); rintro e w2 ⟨rfl, hb⟩; exact ⟨rfl, hw'.trans (hb.below.mono hw'.size)⟩)
                   | (go_at_call 18; (with_reducible refine (EntryC.of_calls _ _ _ _ _ _ _ _ _ _ _ _ _ _ _ _ (by first | assumption | omega | exact ⟨by omega, by omega⟩) (by first | assumption | omega | exact ⟨by omega, by omega⟩) (by first | assumption | omega | exact ⟨by omega, by omega⟩) (by first | assumption | omega | exact ⟨by omega, by omega⟩) (hG0.below hw' (Nat.le_refl _))).mono ?_); rintro e w2 ⟨rfl, hb⟩; exact ⟨rfl, hw'.trans (hb.mono hw'.size)⟩)
                   | (go_at_call 19; (with_reducible refine (EntryR.rof_calls _ _ _ _ _ _ _ _ _ _ _ _ _ _ _ _ (by first | assumption | omega | exact ⟨by omega, by omega⟩) (by first | assumption | omega | exact ⟨by omega, by omega⟩) (by first | assumption | omega | exact ⟨by omega, by omega⟩) (by first | assumption | omega | exact ⟨by omega, by omega⟩) (hG0.below hw' (Nat.le_refl _))).mono ?_); rintro e w2 ⟨rfl, hb⟩; exact ⟨rfl, hw'.trans (hb.mono hw'.size)⟩)
                   | (go_at_call 20; (with_reducible refine (EntryC.covers_calls _ _ _ _ _ _ _ _ _ _ _ _ _ (by first | assumption | omega | exact ⟨by omega, by omega⟩) (by first | assumption | omega | exact ⟨by omega, by omega⟩) (by first | assumption | omega | exact ⟨by omega, by omega⟩) (hG0.below hw' (Nat.le_refl _))).mono ?_); rintro e w2 ⟨rfl, hb⟩; exact ⟨rfl, hw'.trans (hb.mono hw'.size)⟩)
                   | (go_at_call 21; (with_reducible refine (EntryR.rcovers_calls _ _ _ _ _ _ _ _ _ _ _ _ _ (by first | assumption | omega | exact ⟨by omega, by omega⟩) (by first | assumption | omega | exact ⟨by omega, by omega⟩) (by first | assumption | omega | exact ⟨by omega, by omega⟩) (by first | assumption | omega | exact ⟨by omega, by omega⟩) (hG0.below hw' (Nat.le_refl _))).mono ?_); rintro e w2 ⟨rfl, hb⟩; exact ⟨rfl, hw'.trans (hb.mono hw'.size)⟩)
                   | (go_at_call 22; (with_reducible refine (EntryC.matches_calls _ _ _ _ _ _ _ _ _ _ _ _ _ _ (by first | assumption | omega | exact ⟨by omega, by omega⟩) (by first | assumption | omega | exact ⟨by omega, by omega⟩) (by first | assumption | omega | exact ⟨by omega, by omega⟩) (hG0.below hw' (Nat.le_refl _))).mono ?_); rintro e w2 ⟨rfl, hb⟩; exact ⟨rfl, hw'.trans (hb.mono hw'.size)⟩)
                   | (go_at_call 23; (with_reducible refine (EntryR.rmatches_calls _ _ _ _ _ _ _ _ _ _ _ _ _ _ (by first | assumption | omega | exact ⟨by omega, by omega⟩) (by first | assumption | omega | exact ⟨by omega, by omega⟩) (by first | assumption | omega | exact ⟨by omega, by omega⟩) (by first | assumption | omega | exact ⟨by omega, by omega⟩) (hG0.below hw' (Nat.le_refl _))).mono ?_); rintro e w2 ⟨rfl, hb⟩; exact ⟨rfl, hw'.trans (hb.mono hw'.size)⟩)
                   | (go_at_call 24; (with_reducible refine (EntryC.over_calls _ _ _ _ _ _ _ _ _ _ _ _ _ _ _ _ _ _ _ _ _ _ _ (by first | assumption | omega | exact ⟨by omega, by omega⟩) (by first | assumption | omega | exact ⟨by omega, by omega⟩) (by first | assumption | omega | exact ⟨by omega, by omega⟩) (by first | assumption | omega | exact ⟨by omega, by omega⟩) (hG0.below hw' (Nat.le_refl _))).mono ?_); rintro e w2 ⟨rfl, hb⟩; exact ⟨rfl, hw'.trans (hb.mono hw'.size)⟩)
                   | (go_at_call 25; (with_reducible refine (EntryR.rover_calls _ _ _ _ _ _ _ _ _ _ _ _ _ _ _ _ _ _ _ _ _ _ _ (by first | assumption | omega | exact ⟨by omega, by omega⟩) (by first | assumption | omega | exact ⟨by omega, by omega⟩) (by first | assumption | omega | exact ⟨by omega, by omega⟩) (by first | assumption | omega | exact ⟨by omega, by omega⟩) (hG0.below hw' (Nat.le_refl _))).mono ?_); rintro e w2 ⟨rfl, hb⟩; exact ⟨rfl, hw'.trans (hb.mono hw'.size)⟩)
                   | (go_at_call 26; (with_reducible refine (EntryC.phys_calls _ _ _ _ _ _ _ _ _ _ _ _ _ (by first | assumption | omega | exact ⟨by omega, by omega⟩) (by first | assumption | omega | exact ⟨by omega, by omega⟩) (by first | assumption | omega | exact ⟨by omega, by omega⟩) (by first | assumption | omega | exact ⟨by omega, by omega⟩) (by first | assumption | omega | exact ⟨by omega, by omega⟩) (by first | assumption | omega | exact ⟨by omega, by omega⟩) (hG0.below hw' (Nat.le_refl _))).mono ?_); rintro e w2 ⟨rfl, hb⟩; exact ⟨rfl, hw'.trans (hb.mono hw'.size)⟩)
                   | (go_at_call 27; (with_reducible refine (EntryR.rphys_calls _ _ _ _ _ _ _ _ _ _ _ _ _ (by first | assumption | omega | exact ⟨by omega, by omega⟩) (by first | assumption | omega | exact ⟨by omega, by omega⟩) (by first | assumption | omega | exact ⟨by omega, by omega⟩) (by first | assumption | omega | exact ⟨by omega, by omega⟩) (by first | assumption | omega | exact ⟨by omega, by omega⟩) (by first | assumption | omega | exact ⟨by omega, by omega⟩) (hG0.below hw' (Nat.le_refl _))).mono ?_); rintro e w2 ⟨rfl, hb⟩; exact ⟨rfl, hw'.trans (hb.mono hw'.size)⟩)
                   | (go_at_call 29; (with_reducible refine (EntryR.phys10_calls _ _ _ _ _ _ _ _ _ _ _ _ _ _ _ (by first | assumption | omega | exact ⟨by omega, by omega⟩) (by first | assumption | omega | exact ⟨by omega, by omega⟩) (by first | assumption | omega | exact ⟨by omega, by omega⟩) (by first | assumption | omega | exact ⟨by omega, by omega⟩) (by first | assumption | omega | exact ⟨by omega, by omega⟩) (by first | assumption | omega | exact ⟨by omega, by omega⟩) (hG0.below hw' (Nat.le_refl _))).mono ?_); rintro e w2 ⟨rfl, hb⟩; exact ⟨rfl, hw'.trans (hb.mono hw'.size)⟩)
                   | (go_at_call 28; (with_reducible refine (VaR.rbase_calls _ _ _ (by first | assumption | omega | exact ⟨by omega, by omega⟩) (by first | assumption | omega | exact ⟨by omega, by omega⟩) (by first | assumption | omega | exact ⟨by omega, by omega⟩) (by first | assumption | omega | exact ⟨by omega, by omega⟩)).mono ?_); rintro e w2 ⟨rfl, hb⟩; exact ⟨rfl, hw'.trans (hb.below.mono hw'.size)⟩)
                   | (go_at_call 30; (with_reducible refine (VaR.rof_calls _ _ (by first | assumption | omega | exact ⟨by omega, by omega⟩) (by first | assumption | omega | exact ⟨by omega, by omega⟩)).mono ?_); rintro e w2 ⟨rfl, hb⟩; exact ⟨rfl, hw'.trans (hb.mono hw'.size)⟩)
                   | (go_at_call 31; (with_reducible refine (EntryR.rpages_calls _ _ (by first | assumption | omega | exact ⟨by omega, by omega⟩) (by first | assumption | omega | exact ⟨by omega, by omega⟩)).mono ?_); rintro e w2 ⟨rfl, hb⟩; exact ⟨rfl, hw'.trans (hb.below.mono hw'.size)⟩)
                   | (obtain ⟨hcc, _⟩ := bcell hw'; go_simp; done)
                   | (obtain ⟨hcc, _⟩ := bcell hw'; go_simp; rfl)
                 clear hK K))
    refine wpQuiet_nil ?_
    intro w7 b7
    have B7 := bel_trans B6 b7
    clear c6 B6 b7 y0 y1
    obtain ⟨c7, _⟩ := bcell B7
    have s7 := B7.size
    have y0 : W.heap.size < w7.heap.size := Nat.lt_of_lt_of_le hy0 s7
    have y1 : w5.heap.size < w7.heap.size := Nat.lt_of_lt_of_le hy1 s7
    replace hG0 : G w7 := hG1.to B7
    clear s7
    go_wp2_with fail
    refine region_below (by kernel_rfl) (by kernel_rfl) ?_
    repeat (with_reducible refine wpQuiet_step (fun K hK => ?_)
            go_simp
            first
              | (refine hK _ ?_; clear hK K)
              | (refine ⟨_, fun _ _ => rfl, hK _ ?_⟩; clear hK K)
              | (apply Exists.intro
                 refine ⟨fun w' hw' => ?_, hK _ ?_⟩
                 · first
                   | (go_at_call 13; (with_reducible refine (EntryW.awake_calls _ (hG0.below hw' (Nat.le_refl _))).mono ?_); rintro e w2 ⟨rfl, hb⟩; exact ⟨rfl, hw'.trans (hb.mono hw'.size)⟩)
                   | (go_at_call 14; (with_reducible refine (EntryC.may_calls _ _ _ _ _ _ _ _ _ _ _ _ (by first | assumption | omega | exact ⟨by omega, by omega⟩) (by first | assumption | omega | exact ⟨by omega, by omega⟩) (by first | assumption | omega | exact ⟨by omega, by omega⟩) (hG0.below hw' (Nat.le_refl _))).mono ?_); rintro e w2 ⟨rfl, hb⟩; exact ⟨rfl, hw'.trans (hb.mono hw'.size)⟩)
                   | (go_at_call 15; (with_reducible refine (EntryR.rmay_calls _ _ _ _ _ _ _ _ _ _ _ _ (by first | assumption | omega | exact ⟨by omega, by omega⟩) (by first | assumption | omega | exact ⟨by omega, by omega⟩) (by first | assumption | omega | exact ⟨by omega, by omega⟩)).mono ?_); rintro e w2 ⟨rfl, hb⟩; exact ⟨rfl, hw'.trans (hb.mono hw'.size)⟩)
                   | (go_at_call 16; (with_reducible refine (EntryR.leaf_calls _ _ _ _ _ _ _ _ _ _ _ _ _ _ (by first | assumption | omega | exact ⟨by omega, by omega⟩) (hG0.below hw' (Nat.le_refl _))).mono ?_); rintro e w2 ⟨rfl, hb⟩; exact ⟨rfl, hw'.trans (hb.mono hw'.size)⟩)
                   | (go_at_call 17; (with_reducible refine (VaR.ris_calls _ _ ).mono ?_); rintro e w2 ⟨rfl, hb⟩; exact ⟨rfl, hw'.trans (hb.below.mono hw'.size)⟩)
                   | (go_at_call 18; (with_reducible refine (EntryC.of_calls _ _ _ _ _ _ _ _ _ _ _ _ _ _ _ _ (by first | assumption | omega | exact ⟨by omega, by omega⟩) (by first | assumption | omega | exact ⟨by omega, by omega⟩) (by first | assumption | omega | exact ⟨by omega, by omega⟩) (by first | assumption | omega | exact ⟨by omega, by omega⟩) (hG0.below hw' (Nat.le_refl _))).mono ?_); rintro e w2 ⟨rfl, hb⟩; exact ⟨rfl, hw'.trans (hb.mono hw'.size)⟩)
                   | (go_at_call 19; (with_reducible refine (EntryR.rof_calls _ _ _ _ _ _ _ _ _ _ _ _ _ _ _ _ (by first | assumption | omega | exact ⟨by omega, by omega⟩) (by first | assumption | omega | exact ⟨by omega, by omega⟩) (by first | assumption | omega | exact ⟨by omega, by omega⟩) (by first | assumption | omega | exact ⟨by omega, by omega⟩) (hG0.below hw' (Nat.le_refl _))).mono ?_); rintro e w2 ⟨rfl, hb⟩; exact ⟨rfl, hw'.trans (hb.mono hw'.size)⟩)
                   | (go_at_call 20; (with_reducible refine (EntryC.covers_calls _ _ _ _ _ _ _ _ _ _ _ _ _ (by first | assumption | omega | exact ⟨by omega, by omega⟩) (by first | assumption | omega | exact ⟨by omega, by omega⟩) (by first | assumption | omega | exact ⟨by omega, by omega⟩) (hG0.below hw' (Nat.le_refl _))).mono ?_); rintro e w2 ⟨rfl, hb⟩; exact ⟨rfl, hw'.trans (hb.mono hw'.size)⟩)
                   | (go_at_call 21; (with_reducible refine (EntryR.rcovers_calls _ _ _ _ _ _ _ _ _ _ _ _ _ (by first | assumption | omega | exact ⟨by omega, by omega⟩) (by first | assumption | omega | exact ⟨by omega, by omega⟩) (by first | assumption | omega | exact ⟨by omega, by omega⟩) (by first | assumption | omega | exact ⟨by omega, by omega⟩) (hG0.below hw' (Nat.le_refl _))).mono ?_); rintro e w2 ⟨rfl, hb⟩; exact ⟨rfl, hw'.trans (hb.mono hw'.size)⟩)
                   | (go_at_call 22; (with_reducible refine (EntryC.matches_calls _ _ _ _ _ _ _ _ _ _ _ _ _ _ (by first | assumption | omega | exact ⟨by omega, by omega⟩) (by first | assumption | omega | exact ⟨by omega, by omega⟩) (by first | assumption | omega | exact ⟨by omega, by omega⟩) (hG0.below hw' (Nat.le_refl _))).mono ?_); rintro e w2 ⟨rfl, hb⟩; exact ⟨rfl, hw'.trans (hb.mono hw'.size)⟩)
                   | (go_at_call 23; (with_reducible refine (EntryR.rmatches_calls _ _ _ _ _ _ _ _ _ _ _ _ _ _ (by first | assumption | omega | exact ⟨by omega, by omega⟩) (by first | assumption | omega | exact ⟨by omega, by omega⟩) (by first | assumption | omega | exact ⟨by omega, by omega⟩) (by first | assumption | omega | exact ⟨by omega, by omega⟩) (hG0.below hw' (Nat.le_refl _))).mono ?_); rintro e w2 ⟨rfl, hb⟩; exact ⟨rfl, hw'.trans (hb.mono hw'.size)⟩)
                   | (go_at_call 24; (with_reducible refine (EntryC.over_calls _ _ _ _ _ _ _ _ _ _ _ _ _ _ _ _ _ _ _ _ _ _ _ (by first | assumption | omega | exact ⟨by omega, by omega⟩) (by first | assumption | omega | exact ⟨by omega, by omega⟩) (by first | assumption | omega | exact ⟨by omega, by omega⟩) (by first | assumption | omega | exact ⟨by omega, by omega⟩) (hG0.below hw' (Nat.le_refl _))).mono ?_); rintro e w2 ⟨rfl, hb⟩; exact ⟨rfl, hw'.trans (hb.mono hw'.size)⟩)
                   | (go_at_call 25; (with_reducible refine (EntryR.rover_calls _ _ _ _ _ _ _ _ _ _ _ _ _ _ _ _ _ _ _ _ _ _ _ (by first | assumption | omega | exact ⟨by omega, by omega⟩) (by first | assumption | omega | exact ⟨by omega, by omega⟩) (by first | assumption | omega | exact ⟨by omega, by omega⟩) (by first | assumption | omega | exact ⟨by omega, by omega⟩) (hG0.below hw' (Nat.le_refl _))).mono ?_); rintro e w2 ⟨rfl, hb⟩; exact ⟨rfl, hw'.trans (hb.mono hw'.size)⟩)
                   | (go_at_call 26; (with_reducible refine (EntryC.phys_calls _ _ _ _ _ _ _ _ _ _ _ _ _ (by first | assumption | omega | exact ⟨by omega, by omega⟩) (by first | assumption | omega | exact ⟨by omega, by omega⟩) (by first | assumption | omega | exact ⟨by omega, by omega⟩) (by first | assumption | omega | exact ⟨by omega, by omega⟩) (by first | assumption | omega | exact ⟨by omega, by omega⟩) (by first | assumption | omega | exact ⟨by omega, by omega⟩) (hG0.below hw' (Nat.le_refl _))).mono ?_); rintro e w2 ⟨rfl, hb⟩; exact ⟨rfl, hw'.trans (hb.mono hw'.size)⟩)
                   | (go_at_call 27; (with_reducible refine (EntryR.rphys_calls _ _ _ _ _ _ _ _ _ _ _ _ _ (by first | assumption | omega | exact ⟨by omega, by omega⟩) (by first | assumption | omega | exact ⟨by omega, by omega⟩) (by first | assumption | omega | exact ⟨by omega, by omega⟩) (by first | assumption | omega | exact ⟨by omega, by omega⟩) (by first | assumption | omega | exact ⟨by omega, by omega⟩) (by first | assumption | omega | exact ⟨by omega, by omega⟩) (hG0.below hw' (Nat.le_refl _))).mono ?_); rintro e w2 ⟨rfl, hb⟩; exact ⟨rfl, hw'.trans (hb.mono hw'.size)⟩)
                   | (go_at_call 29; (with_reducible refine (EntryR.phys10_calls _ _ _ _ _ _ _ _ _ _ _ _ _ _ _ (by first | assumption | omega | exact ⟨by omega, by omega⟩) (by first | assumption | omega | exact ⟨by omega, by omega⟩) (by first | assumption | omega | exact ⟨by omega, by omega⟩) (by first | assumption | omega | exact ⟨by omega, by omega⟩) (by first | assumption | omega | exact ⟨by omega, by omega⟩) (by first | assumption | omega | exact ⟨by omega, by omega⟩) (hG0.below hw' (Nat.le_refl _))).mono ?_); rintro e w2 ⟨rfl, hb⟩; exact ⟨rfl, hw'.trans (hb.mono hw'.size)⟩)
                   | (go_at_call 28; (with_reducible refine (VaR.rbase_calls _ _ _ (by first | assumption | omega | exact ⟨by omega, by omega⟩) (by first | assumption | omega | exact ⟨by omega, by omega⟩) (by first | assumption | omega | exact ⟨by omega, by omega⟩) (by first | assumption | omega | exact ⟨by omega, by omega⟩)).mono ?_); rintro e w2 ⟨rfl, hb⟩; exact ⟨rfl, hw'.trans (hb.below.mono hw'.size)⟩)
                   | (go_at_call 30; (with_reducible refine (VaR.rof_calls _ _ (by first | assumption | omega | exact ⟨by omega, by omega⟩) (by first | assumption | omega | exact ⟨by omega, by omega⟩)).mono ?_); rintro e w2 ⟨rfl, hb⟩; exact ⟨rfl, hw'.trans (hb.mono hw'.size)⟩)
                   | (go_at_call 31; (with_reducible refine (EntryR.rpages_calls _ _ (by first | assumption | omega | exact ⟨by omega, by omega⟩) (by first | assumption | omega | exact ⟨by omega, by omega⟩)).mono ?_); rintro e w2 ⟨rfl, hb⟩; exact ⟨rfl, hw'.trans (hb.below.mono hw'.size)⟩)
                   | (obtain ⟨hcc, _⟩ := bcell hw'; go_simp; done)
                   | (obtain ⟨hcc, _⟩ := bcell hw'; go_simp; rfl)
                 clear hK K))
    refine wpQuiet_nil ?_
    intro w8 b8
    have B8 := bel_trans B7 b8
    clear c7 B7 b8 y0 y1
    obtain ⟨c8, _⟩ := bcell B8
    have s8 := B8.size
    have y0 : W.heap.size < w8.heap.size := Nat.lt_of_lt_of_le hy0 s8
    have y1 : w5.heap.size < w8.heap.size := Nat.lt_of_lt_of_le hy1 s8
    replace hG0 : G w8 := hG1.to B8
    clear s8
    go_wp2_with fail
    refine (EntryC.matches_calls _ _ _ _ _ _ _ _ _ _ _ _ _ _ (fun _ => ⟨l0, l2⟩) a0 a1 hG0).mono ?_
    rintro e w9 ⟨rfl, b9⟩
    rw [hma]
    have B9 := bel_trans B8 b9
    clear c8 B8 b9 y0 y1
    obtain ⟨c9, _⟩ := bcell B9
    have hG9 : G w9 := hG1.to B9
    go_wp2_with fail
    refine (EntryC.matches_calls _ _ _ _ _ _ _ _ _ _ _ _ _ _ (fun _ => ⟨l0, l2⟩) a0 a1 hG9).mono ?_
    rintro e wa ⟨rfl, ba⟩
    rw [HMB.out]
    have Ba := bel_trans B9 ba
    clear c9 B9 ba
    obtain ⟨ca, _⟩ := bcell Ba
    by_cases hq : asid = second
    · subst hq
      cases g <;>
      · go_wp2
        go_ret
        exact ⟨rfl, bel_trans BXX Ba⟩
    · have hq1 : (asid == second) = false := by simpa using hq
      have hq2 : decide (asid = second) = false := by simpa using hq
      have HQ := Lib.hid hq
      clear hq
      rw [hq1]
      cases g <;>
      · go_wp2
        go_ret
        exact ⟨rfl, bel_trans BXX Ba⟩
end Go.Proofs.YtjgnckhbafgalaaDoor.EntryL3
