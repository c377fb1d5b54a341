/- The contracts of the reference of the layer entry: each call comes to plain data. -/
import Derived.Test.YtjgnckhbafgalaaDoorEntryC2
import Derived.Test.YtjgnckhbafgalaaDoorVaR
namespace Go.Proofs.YtjgnckhbafgalaaDoor.EntryR
open Go.RowKit Go.Proofs.YtjgnckhbafgalaaDoor.Bv Go.Proofs.YtjgnckhbafgalaaDoor.VaSpec Go.Proofs.YtjgnckhbafgalaaDoor.Base Go.Proofs.YtjgnckhbafgalaaDoor.BitsC Go.Proofs.YtjgnckhbafgalaaDoor.VaC Go.Proofs.YtjgnckhbafgalaaDoor.PteSpec Go.Proofs.YtjgnckhbafgalaaDoor.EntrySpec Go.Proofs.YtjgnckhbafgalaaDoor.EqS Go.Proofs.YtjgnckhbafgalaaDoor.QTail
set_option linter.unusedVariables false
set_option linter.unusedSimpArgs false
attribute [local go_sem high] eq_perm eq_pte eq_ent
open Go.Proofs.YtjgnckhbafgalaaDoor.EntryC (name_world pages_div)
theorem rpages_calls (l : Int) (W : World) (h0 : 0 ≤ l) (h2 : l ≤ 2) : Calls Tryd.prog 31 #[.int .i64 l] W fun e w' => e = .returned (.int .u64 (pages l)) ∧ Q W w' := by
  have H := Lib.hid (pages_div l)
  go_enter Tryd.func31, Tryd.ntmps31
  go_wp2_with (go_at_call 58; (with_reducible refine (VaR.rsize_calls _ _ h0 h2).mono ?_); rintro e w' ⟨rfl, ⟨nd, rfl⟩⟩)
  go_ret
  exact ⟨congrArg (fun z => Ending.returned (.int .u64 z)) H.out, ⟨_, rfl⟩⟩
theorem num_sub (va p : Int) (h : 0 ≤ va) (hp : 1 ≤ p) : 0 ≤ num va % p ∧ num va % p ≤ num va := by
  have hn : 0 ≤ num va := by unfold num; omega
  have h1 := Int.mul_ediv_add_emod (num va) p
  have h2 : 0 ≤ p * (num va / p) := Int.mul_nonneg (by omega) (Int.ediv_nonneg hn (by omega))
  exact ⟨Int.emod_nonneg _ (by omega), by omega⟩
set_option maxHeartbeats 1000000 in
theorem rof_calls (lv at_ : Int) (v r w x u g a d : Bool) (rsw ppn high : Int) (va asid : Int) (W : World) (h0 : 0 ≤ lv) (h2 : lv ≤ 2) (a0 : 0 ≤ va) (a1 : va < 18446744073709551616) (hG : G W) :
    Calls Tryd.prog 19 #[.agg #[.int .i64 lv, .int .u64 at_, .bool v, .bool r, .bool w, .bool x, .bool u, .bool g, .bool a, .bool d, .int .u64 rsw, .int .u64 ppn, .int .u64 high], .int .u64 va, .int .u64 asid] W fun e w' => e = .returned (.agg #[.bool true, .int .u64 asid, .bool g, .int .i64 lv, .int .u64 (num (base va lv)), .int .u64 ppn, .bool r, .bool w, .bool x, .bool u, .bool d]) ∧ Below W.heap.size W w' := by
  have hp := pages_bd lv
  have HN := Lib.hid (numbase va lv a0)
  have hpz : (pages lv == 0) = false := by simp; omega
  have hs := num_sub va (pages lv) a0 (by omega)
  have hpn : ¬ pages lv = 0 := by omega
  obtain ⟨n0, n1⟩ := num_bd va
  have ht : (num va).tmod (pages lv) = num va % pages lv := Int.tmod_eq_emod_of_nonneg n0
  have hwr : IntKind.u64.wrap (num va - num va % pages lv) = num (base va lv) := by rw [HN.out, wrap_u64]; omega
  go_enter Tryd.func19, Tryd.ntmps19
  go_wp2_with (first | (go_at_call 54; (with_reducible refine (VaR.rnum_calls _ _ (by omega) (by omega)).mono ?_); rintro e w' ⟨rfl, ⟨nd, rfl⟩⟩) | fail)
  refine name_world (F := fun w1 => w1.cell? ⟨W.heap.size, 0, none⟩ = some (.int .i64 lv) ∧ w1.cell? ⟨W.heap.size, 1, none⟩ = some (.int .u64 at_) ∧ w1.cell? ⟨W.heap.size, 2, none⟩ = some (.bool v) ∧ w1.cell? ⟨W.heap.size, 3, none⟩ = some (.bool r) ∧ w1.cell? ⟨W.heap.size, 4, none⟩ = some (.bool w) ∧ w1.cell? ⟨W.heap.size, 5, none⟩ = some (.bool x) ∧ w1.cell? ⟨W.heap.size, 6, none⟩ = some (.bool u) ∧ w1.cell? ⟨W.heap.size, 7, none⟩ = some (.bool g) ∧ w1.cell? ⟨W.heap.size, 8, none⟩ = some (.bool a) ∧ w1.cell? ⟨W.heap.size, 9, none⟩ = some (.bool d) ∧ w1.cell? ⟨W.heap.size, 10, none⟩ = some (.int .u64 rsw) ∧ w1.cell? ⟨W.heap.size, 11, none⟩ = some (.int .u64 ppn) ∧ w1.cell? ⟨W.heap.size, 12, none⟩ = some (.int .u64 high) ∧ w1.cell? ⟨W.heap.size + 1, 0, none⟩ = some (.bool false) ∧ w1.cell? ⟨W.heap.size + 1, 1, none⟩ = some (.int .u64 0) ∧ w1.cell? ⟨W.heap.size + 1, 2, none⟩ = some (.bool false) ∧ w1.cell? ⟨W.heap.size + 1, 3, none⟩ = some (.int .i64 0) ∧ w1.cell? ⟨W.heap.size + 1, 4, none⟩ = some (.int .u64 0) ∧ w1.cell? ⟨W.heap.size + 1, 5, none⟩ = some (.int .u64 0) ∧ w1.cell? ⟨W.heap.size + 1, 6, none⟩ = some (.bool false) ∧ w1.cell? ⟨W.heap.size + 1, 7, none⟩ = some (.bool false) ∧ w1.cell? ⟨W.heap.size + 1, 8, none⟩ = some (.bool false) ∧ w1.cell? ⟨W.heap.size + 1, 9, none⟩ = some (.bool false) ∧ w1.cell? ⟨W.heap.size + 1, 10, none⟩ = some (.bool false) ∧ (∀ i, w1.frozen? ⟨W.heap.size + 1, i, none⟩ = false) ∧ W.heap.size < w1.heap.size ∧ W.heap.size + 1 < w1.heap.size ∧ Below W.heap.size W w1) (by
    refine ⟨?_, ?_, ?_, ?_, ?_, ?_, ?_, ?_, ?_, ?_, ?_, ?_, ?_, ?_, ?_, ?_, ?_, ?_, ?_, ?_, ?_, ?_, ?_, ?_, ?_, ?_, ?_, ?_⟩
    all_goals first | (simp; done) | (simp; omega) | (intro i; simp; done) | exact (by repeat (first | (with_reducible exact Below.refl _ _) | (with_reducible apply bel_drewN) | (with_reducible apply bel_alloc) | (with_reducible apply bel_trans; rotate_left; with_reducible assumption) | (with_reducible refine bel_setCell _ _ _ (by first | omega | (simp; done) | (simp; omega) | (simp at *; omega)) ?_)))) ?_
  rintro Wx ⟨p0, p1, p2, p3, p4, p5, p6, p7, p8, p9, p10, p11, p12, q0, q1, q2, q3, q4, q5, q6, q7, q8, q9, q10, fz0, hz0, hz1, BX⟩
  have hG0 : G Wx := hG.to BX
  refine region_below_tail 23 (by kernel_rfl) (by kernel_rfl) ?_
  simp only [List.take, List.drop]
  repeat (with_reducible refine wpQuiet_step (fun K hK => ?_)
          go_simp
          first
            | (refine hK _ ?_; clear hK K)
            | (refine ⟨_, fun _ _ => rfl, hK _ ?_⟩; clear hK K)
            | (apply Exists.intro
               refine ⟨fun w' hw' => ?_, hK _ ?_⟩
               · first
                 | (go_at_call 66; (with_reducible refine (VaC.size_calls _ _ (by omega) (by omega) (hG0.below hw' (Nat.le_refl _))).mono ?_); rintro e w2 ⟨rfl, hb⟩; exact ⟨rfl, hw'.trans (hb.below.mono hw'.size)⟩)
                 | (go_at_call 52; (with_reducible refine (VaC.num_calls _ _ (by omega) (by omega)).mono ?_); rintro e w2 ⟨rfl, hb⟩; exact ⟨rfl, hw'.trans (hb.below.mono hw'.size)⟩)
                 | (go_at_call 55; (with_reducible refine (VaC.of_calls _ _ (by omega) (by omega)).mono ?_); rintro e w2 ⟨rfl, hb⟩; exact ⟨rfl, hw'.trans (hb.below.mono hw'.size)⟩)
                 | (go_at_call 53; (with_reducible refine (VaC.base_calls _ _ _ (by omega) (by omega) (by omega) (by omega) (hG0.below hw' (Nat.le_refl _))).mono ?_); rintro e w2 ⟨rfl, hb⟩; exact ⟨rfl, hw'.trans (hb.below.mono hw'.size)⟩)
                 | (go_at_call 56; (with_reducible refine (VaC.off_calls _ _ _ (by omega) (by omega) (by omega) (by omega) (hG0.below hw' (Nat.le_refl _))).mono ?_); rintro e w2 ⟨rfl, hb⟩; exact ⟨rfl, hw'.trans (hb.below.mono hw'.size)⟩)
                 | (go_at_call 51; (with_reducible refine (BitsC.even_calls _ _ _ (by assumption) (by assumption)).mono ?_); rintro e w2 ⟨rfl, hb⟩; exact ⟨rfl, hw'.trans (hb.below.mono hw'.size)⟩)
                 | (go_at_call 54; (with_reducible refine (VaR.rnum_calls _ _ (by omega) (by omega)).mono ?_); rintro e w2 ⟨rfl, hb⟩; exact ⟨rfl, hw'.trans (hb.below.mono hw'.size)⟩)
                 | (go_at_call 57; (with_reducible refine (VaR.roff_calls _ _ _ (by omega) (by omega) (by omega) (by omega)).mono ?_); rintro e w2 ⟨rfl, hb⟩; exact ⟨rfl, hw'.trans (hb.below.mono hw'.size)⟩)
                 | (go_at_call 31; (with_reducible refine (rpages_calls _ _ (by omega) (by omega)).mono ?_); rintro e w2 ⟨rfl, hb⟩; exact ⟨rfl, hw'.trans (hb.below.mono hw'.size)⟩)
                 | (go_at_call 34; (with_reducible refine (PteC.may_calls _ _ _ _ _ _ _ _ _ _ _ _ (by first | assumption | exact ⟨by omega, by omega⟩) (by first | assumption | exact ⟨by omega, by omega⟩) (by first | assumption | exact ⟨by omega, by omega⟩)).mono ?_); rintro e w2 ⟨rfl, hb⟩; exact ⟨rfl, hw'.trans (hb.mono hw'.size)⟩)
                 | (go_at_call 36; (with_reducible refine (PteC.pget_calls _ _ (by first | assumption | exact ⟨by omega, by omega⟩)).mono ?_); rintro e w2 ⟨rfl, hb⟩; exact ⟨rfl, hw'.trans (hb.mono hw'.size)⟩)
                 | (go_at_call 39; (with_reducible refine (PteC.leaf_calls _ _ _ _ _ _ _ _ _ _ _ _).mono ?_); rintro e w2 ⟨rfl, hb⟩; exact ⟨rfl, hw'.trans (hb.mono hw'.size)⟩)
                 | (go_at_call 41; (with_reducible refine (PteC.link_calls _ _ _ _ _ _ _ _ _ _ _ _).mono ?_); rintro e w2 ⟨rfl, hb⟩; exact ⟨rfl, hw'.trans (hb.mono hw'.size)⟩)
                 | (go_at_call 43; (with_reducible refine (PteC.bad_calls _ _ _ _ _ _ _ _ _ _ _ _ _ (by first | assumption | exact ⟨by omega, by omega⟩) (by first | assumption | exact ⟨by omega, by omega⟩) (by first | assumption | exact ⟨by omega, by omega⟩) (by omega) (by omega) (hG0.below hw' (Nat.le_refl _))).mono ?_); rintro e w2 ⟨rfl, hb⟩; exact ⟨rfl, hw'.trans (hb.mono hw'.size)⟩)
                 | (go_at_call 47; (with_reducible refine (PteC.perm_calls _ _ _ _ _ _ _ _ _ _ _ _).mono ?_); rintro e w2 ⟨rfl, hb⟩; exact ⟨rfl, hw'.trans (hb.mono hw'.size)⟩)
                 | (go_at_call 37; (with_reducible refine (PteR.rget_calls _ _ (by first | assumption | exact ⟨by omega, by omega⟩)).mono ?_); rintro e w2 ⟨rfl, hb⟩; exact ⟨rfl, hw'.trans (hb.mono hw'.size)⟩)
                 | (go_at_call 35; (with_reducible refine (PteR.rmay_calls _ _ _ _ _ _ _ _ _ _ _ _ (by first | assumption | exact ⟨by omega, by omega⟩) (by first | assumption | exact ⟨by omega, by omega⟩) (by first | assumption | exact ⟨by omega, by omega⟩)).mono ?_); rintro e w2 ⟨rfl, hb⟩; exact ⟨rfl, hw'.trans (hb.mono hw'.size)⟩)
                 | (go_at_call 40; (with_reducible refine (PteR.rleaf_calls _ _ _ _ _ _ _ _ _ _ _ _).mono ?_); rintro e w2 ⟨rfl, hb⟩; exact ⟨rfl, hw'.trans (hb.mono hw'.size)⟩)
                 | (go_at_call 42; (with_reducible refine (PteR.rlink_calls _ _ _ _ _ _ _ _ _ _ _ _).mono ?_); rintro e w2 ⟨rfl, hb⟩; exact ⟨rfl, hw'.trans (hb.mono hw'.size)⟩)
                 | (go_at_call 44; (with_reducible refine (PteR.rbad_calls _ _ _ _ _ _ _ _ _ _ _ _ _ (by first | assumption | exact ⟨by omega, by omega⟩) (by first | assumption | exact ⟨by omega, by omega⟩) (by first | assumption | exact ⟨by omega, by omega⟩) (by omega) (by omega)).mono ?_); rintro e w2 ⟨rfl, hb⟩; exact ⟨rfl, hw'.trans (hb.mono hw'.size)⟩)
                 | (go_at_call 46; (with_reducible refine (PteR.rmake_calls _ _ _ _ _ _ _).mono ?_); rintro e w2 ⟨rfl, hb⟩; exact ⟨rfl, hw'.trans (hb.mono hw'.size)⟩)
                 | (go_at_call 48; (with_reducible refine (PteR.rperm_calls _ _ _ _ _ _ _ _ _ _ _ _).mono ?_); rintro e w2 ⟨rfl, hb⟩; exact ⟨rfl, hw'.trans (hb.mono hw'.size)⟩)
                 | (go_at_call 45; (with_reducible refine (PteC.make_calls _ _ _ _ _ _ _).mono ?_); rintro e w2 ⟨rfl, hb⟩; exact ⟨rfl, hw'.trans (hb.mono hw'.size)⟩)
                 | (obtain ⟨hcc, _⟩ := bcell hw'; go_simp; done)
                 | (obtain ⟨hcc, _⟩ := bcell hw'; go_simp; rfl)
               clear hK K))
  refine wpQuiet_nil ?_
  intro w9 b9
  obtain ⟨c9, z9⟩ := bcell b9
  go_wp2
  refine bodyPost_ret (v := .agg #[.bool true, .int .u64 asid, .bool g, .int .i64 lv, .int .u64 (num (base va lv)), .int .u64 ppn, .bool r, .bool w, .bool x, .bool u, .bool d]) ?_ rfl ?_
  · simp [results, Tryd.results19, go_sem, c9 _ _ hz1, q0, q1, q2, q3, q4, q5, q6, q7, q8, q9, q10]
  · have b8 := bel_trans BX b9
    exact ⟨rfl, (by repeat (first | (with_reducible exact Below.refl _ _) | (with_reducible apply bel_drewN) | (with_reducible apply bel_alloc) | (with_reducible apply bel_trans; rotate_left; with_reducible assumption) | (with_reducible refine bel_setCell _ _ _ (by first | omega | (simp; done) | (simp; omega) | (simp at *; omega)) ?_)))⟩
theorem cov_range (lv vpn va : Int) (a0 : 0 ≤ va) (h : vpn % pages lv = 0) : cov lv vpn va = (decide (vpn ≤ num va) && decide (num va < vpn + pages lv)) := by
  unfold cov
  rw [numbase va lv a0]
  have hn := num_bd va
  rw [Bool.eq_iff_iff]
  simp only [beq_iff_eq, Bool.and_eq_true, decide_eq_true_eq]
  rcases pages_cases lv with e | e | e <;> rw [e] at h ⊢ <;> omega
theorem num_ofv (n : Int) (h0 : 0 ≤ n) (h : n < 134217728) : num (ofv n) = n := by
  unfold num ofv ext39; split <;> omega
theorem pages_mono (a b : Int) (h0 : 0 ≤ a) (h : a ≤ b) (h2 : b ≤ 2) : pages a ≤ pages b := by
  have h1 : a = 0 ∨ a = 1 ∨ a = 2 := by omega
  have h3 : b = 0 ∨ b = 1 ∨ b = 2 := by omega
  rcases h1 with rfl | rfl | rfl <;> rcases h3 with rfl | rfl | rfl <;> first | omega | decide
theorem over_range (lv vpn lvq vpnq : Int) (n0 : 0 ≤ vpn) (n1 : vpn < 134217728) (m0 : 0 ≤ vpnq) (m1 : vpnq < 134217728) (l0 : 0 ≤ lv) (l2 : lv ≤ 2) (k0 : 0 ≤ lvq) (k2 : lvq ≤ 2) (h : vpn % pages lv = 0) (k : vpnq % pages lvq = 0) :
    (if lv < lvq then cov lvq vpnq (ofv vpn) else cov lv vpn (ofv vpnq)) = (decide (vpn < vpnq + pages lvq) && decide (vpnq < vpn + pages lv)) := by
  have o1 := ofv_bd vpn
  have o2 := ofv_bd vpnq
  by_cases hl : lv < lvq
  · rw [if_pos hl, cov_range _ _ _ o1.1 k, num_ofv _ n0 n1]
    have hm := pages_mono lv lvq l0 (by omega) k2
    rw [Bool.eq_iff_iff]
    simp only [Bool.and_eq_true, decide_eq_true_eq]
    rcases pages_cases lv with e | e | e <;> rcases pages_cases lvq with f | f | f <;> rw [e] at h hm ⊢ <;> rw [f] at k hm ⊢ <;> omega
  · rw [if_neg hl, cov_range _ _ _ o2.1 h, num_ofv _ m0 m1]
    have hm := pages_mono lvq lv k0 (by omega) l2
    rw [Bool.eq_iff_iff]
    simp only [Bool.and_eq_true, decide_eq_true_eq]
    rcases pages_cases lv with e | e | e <;> rcases pages_cases lvq with f | f | f <;> rw [e] at h hm ⊢ <;> rw [f] at k hm ⊢ <;> omega
theorem over_plain (e f : Ent) (h0 : 0 ≤ e.vpn) (k0 : 0 ≤ f.vpn) (h : mayE e = true) (k : mayE f = true) :
    overE e f = (e.valid && f.valid && decide (e.vpn < f.vpn + pages f.level) && decide (f.vpn < e.vpn + pages e.level)) := by
  unfold overE coversE
  cases v : e.valid
  · simp
  · cases q : f.valid
    · simp
    · obtain ⟨⟨a, b⟩, c, d, g, i, j⟩ := mayE_valid h v
      obtain ⟨⟨a', b'⟩, c', d', g', i', j'⟩ := mayE_valid k q
      have := over_range e.level e.vpn f.level f.vpn h0 c k0 c' a b a' b' i i'
      simpa using this
set_option maxHeartbeats 1000000 in
theorem rcovers_calls (v : Bool) (si : Int) (gl : Bool) (lv vpn ppn : Int) (r w x u d : Bool) (va : Int) (W : World) (hl : v = true → (0 ≤ lv ∧ lv ≤ 2) ∧ vpn < 134217728 ∧ vpn % pages lv = 0) (n0 : 0 ≤ vpn) (a0 : 0 ≤ va) (a1 : va < 18446744073709551616) (hG : G W) :
    Calls Tryd.prog 21 #[.agg #[.bool v, .int .u64 si, .bool gl, .int .i64 lv, .int .u64 vpn, .int .u64 ppn, .bool r, .bool w, .bool x, .bool u, .bool d], .int .u64 va] W fun e w' => e = .returned (.bool (coversE ⟨v, si, gl, lv, vpn, ppn, ⟨r, w, x, u⟩, d⟩ va)) ∧ Below W.heap.size W w' := by
  obtain ⟨nb0, nb1⟩ := num_bd va
  obtain ⟨p0, p1⟩ := pages_bd lv
  cases v
  · clear hl
    go_enter Tryd.func21, Tryd.ntmps21
    go_wp2_with (first | (go_at_call 54; (with_reducible refine (VaR.rnum_calls _ _ (by omega) (by omega)).mono ?_); rintro e w' ⟨rfl, ⟨nd, rfl⟩⟩) | fail)
    refine name_world (F := fun w1 => w1.cell? ⟨W.heap.size, 0, none⟩ = some (.bool false) ∧ w1.cell? ⟨W.heap.size, 1, none⟩ = some (.int .u64 si) ∧ w1.cell? ⟨W.heap.size, 2, none⟩ = some (.bool gl) ∧ w1.cell? ⟨W.heap.size, 3, none⟩ = some (.int .i64 lv) ∧ w1.cell? ⟨W.heap.size, 4, none⟩ = some (.int .u64 vpn) ∧ w1.cell? ⟨W.heap.size, 5, none⟩ = some (.int .u64 ppn) ∧ w1.cell? ⟨W.heap.size, 6, none⟩ = some (.bool r) ∧ w1.cell? ⟨W.heap.size, 7, none⟩ = some (.bool w) ∧ w1.cell? ⟨W.heap.size, 8, none⟩ = some (.bool x) ∧ w1.cell? ⟨W.heap.size, 9, none⟩ = some (.bool u) ∧ w1.cell? ⟨W.heap.size, 10, none⟩ = some (.bool d) ∧ W.heap.size < w1.heap.size ∧ Below W.heap.size W w1) (by
      refine ⟨?_, ?_, ?_, ?_, ?_, ?_, ?_, ?_, ?_, ?_, ?_, ?_, ?_⟩
      all_goals first | (simp; done) | (simp; omega) | (intro i; simp; done) | exact (by repeat (first | (with_reducible exact Below.refl _ _) | (with_reducible apply bel_drewN) | (with_reducible apply bel_alloc) | (with_reducible apply bel_trans; rotate_left; with_reducible assumption) | (with_reducible refine bel_setCell _ _ _ (by first | omega | (simp; done) | (simp; omega) | (simp at *; omega)) ?_)))) ?_
    rintro Wx ⟨p0, p1, p2, p3, p4, p5, p6, p7, p8, p9, p10, hz0, BX⟩
    have hG0 : G Wx := hG.to BX
    refine region_below (by kernel_rfl) (by kernel_rfl) ?_
    repeat (with_reducible refine wpQuiet_step (fun K hK => ?_)
            go_simp
            first
              | (refine hK _ ?_; clear hK K)
              | (refine ⟨_, fun _ _ => rfl, hK _ ?_⟩; clear hK K)
              | (apply Exists.intro
                 refine ⟨fun w' hw' => ?_, hK _ ?_⟩
                 · first
                   | (go_at_call 66; (with_reducible refine (VaC.size_calls _ _ (by omega) (by omega) (hG0.below hw' (Nat.le_refl _))).mono ?_); rintro e w2 ⟨rfl, hb⟩; exact ⟨rfl, hw'.trans (hb.below.mono hw'.size)⟩)
                   | (go_at_call 52; (with_reducible refine (VaC.num_calls _ _ (by omega) (by omega)).mono ?_); rintro e w2 ⟨rfl, hb⟩; exact ⟨rfl, hw'.trans (hb.below.mono hw'.size)⟩)
                   | (go_at_call 55; (with_reducible refine (VaC.of_calls _ _ (by omega) (by omega)).mono ?_); rintro e w2 ⟨rfl, hb⟩; exact ⟨rfl, hw'.trans (hb.below.mono hw'.size)⟩)
                   | (go_at_call 53; (with_reducible refine (VaC.base_calls _ _ _ (by omega) (by omega) (by omega) (by omega) (hG0.below hw' (Nat.le_refl _))).mono ?_); rintro e w2 ⟨rfl, hb⟩; exact ⟨rfl, hw'.trans (hb.below.mono hw'.size)⟩)
                   | (go_at_call 56; (with_reducible refine (VaC.off_calls _ _ _ (by omega) (by omega) (by omega) (by omega) (hG0.below hw' (Nat.le_refl _))).mono ?_); rintro e w2 ⟨rfl, hb⟩; exact ⟨rfl, hw'.trans (hb.below.mono hw'.size)⟩)
                   | (go_at_call 51; (with_reducible refine (BitsC.even_calls _ _ _ (by assumption) (by assumption)).mono ?_); rintro e w2 ⟨rfl, hb⟩; exact ⟨rfl, hw'.trans (hb.below.mono hw'.size)⟩)
                   | (go_at_call 54; (with_reducible refine (VaR.rnum_calls _ _ (by omega) (by omega)).mono ?_); rintro e w2 ⟨rfl, hb⟩; exact ⟨rfl, hw'.trans (hb.below.mono hw'.size)⟩)
                   | (go_at_call 57; (with_reducible refine (VaR.roff_calls _ _ _ (by omega) (by omega) (by omega) (by omega)).mono ?_); rintro e w2 ⟨rfl, hb⟩; exact ⟨rfl, hw'.trans (hb.below.mono hw'.size)⟩)
                   | (go_at_call 31; (with_reducible refine (rpages_calls _ _ (by omega) (by omega)).mono ?_); rintro e w2 ⟨rfl, hb⟩; exact ⟨rfl, hw'.trans (hb.below.mono hw'.size)⟩)
                   | (go_at_call 34; (with_reducible refine (PteC.may_calls _ _ _ _ _ _ _ _ _ _ _ _ (by first | assumption | exact ⟨by omega, by omega⟩) (by first | assumption | exact ⟨by omega, by omega⟩) (by first | assumption | exact ⟨by omega, by omega⟩)).mono ?_); rintro e w2 ⟨rfl, hb⟩; exact ⟨rfl, hw'.trans (hb.mono hw'.size)⟩)
                   | (go_at_call 36; (with_reducible refine (PteC.pget_calls _ _ (by first | assumption | exact ⟨by omega, by omega⟩)).mono ?_); rintro e w2 ⟨rfl, hb⟩; exact ⟨rfl, hw'.trans (hb.mono hw'.size)⟩)
                   | (go_at_call 39; (with_reducible refine (PteC.leaf_calls _ _ _ _ _ _ _ _ _ _ _ _).mono ?_); rintro e w2 ⟨rfl, hb⟩; exact ⟨rfl, hw'.trans (hb.mono hw'.size)⟩)
                   | (go_at_call 41; (with_reducible refine (PteC.link_calls _ _ _ _ _ _ _ _ _ _ _ _).mono ?_); rintro e w2 ⟨rfl, hb⟩; exact ⟨rfl, hw'.trans (hb.mono hw'.size)⟩)
                   | (go_at_call 43; (with_reducible refine (PteC.bad_calls _ _ _ _ _ _ _ _ _ _ _ _ _ (by first | assumption | exact ⟨by omega, by omega⟩) (by first | assumption | exact ⟨by omega, by omega⟩) (by first | assumption | exact ⟨by omega, by omega⟩) (by omega) (by omega) (hG0.below hw' (Nat.le_refl _))).mono ?_); rintro e w2 ⟨rfl, hb⟩; exact ⟨rfl, hw'.trans (hb.mono hw'.size)⟩)
                   | (go_at_call 47; (with_reducible refine (PteC.perm_calls _ _ _ _ _ _ _ _ _ _ _ _).mono ?_); rintro e w2 ⟨rfl, hb⟩; exact ⟨rfl, hw'.trans (hb.mono hw'.size)⟩)
                   | (go_at_call 37; (with_reducible refine (PteR.rget_calls _ _ (by first | assumption | exact ⟨by omega, by omega⟩)).mono ?_); rintro e w2 ⟨rfl, hb⟩; exact ⟨rfl, hw'.trans (hb.mono hw'.size)⟩)
                   | (go_at_call 35; (with_reducible refine (PteR.rmay_calls _ _ _ _ _ _ _ _ _ _ _ _ (by first | assumption | exact ⟨by omega, by omega⟩) (by first | assumption | exact ⟨by omega, by omega⟩) (by first | assumption | exact ⟨by omega, by omega⟩)).mono ?_); rintro e w2 ⟨rfl, hb⟩; exact ⟨rfl, hw'.trans (hb.mono hw'.size)⟩)
                   | (go_at_call 40; (with_reducible refine (PteR.rleaf_calls _ _ _ _ _ _ _ _ _ _ _ _).mono ?_); rintro e w2 ⟨rfl, hb⟩; exact ⟨rfl, hw'.trans (hb.mono hw'.size)⟩)
                   | (go_at_call 42; (with_reducible refine (PteR.rlink_calls _ _ _ _ _ _ _ _ _ _ _ _).mono ?_); rintro e w2 ⟨rfl, hb⟩; exact ⟨rfl, hw'.trans (hb.mono hw'.size)⟩)
                   | (go_at_call 44; (with_reducible refine (PteR.rbad_calls _ _ _ _ _ _ _ _ _ _ _ _ _ (by first | assumption | exact ⟨by omega, by omega⟩) (by first | assumption | exact ⟨by omega, by omega⟩) (by first | assumption | exact ⟨by omega, by omega⟩) (by omega) (by omega)).mono ?_); rintro e w2 ⟨rfl, hb⟩; exact ⟨rfl, hw'.trans (hb.mono hw'.size)⟩)
                   | (go_at_call 46; (with_reducible refine (PteR.rmake_calls _ _ _ _ _ _ _).mono ?_); rintro e w2 ⟨rfl, hb⟩; exact ⟨rfl, hw'.trans (hb.mono hw'.size)⟩)
                   | (go_at_call 48; (with_reducible refine (PteR.rperm_calls _ _ _ _ _ _ _ _ _ _ _ _).mono ?_); rintro e w2 ⟨rfl, hb⟩; exact ⟨rfl, hw'.trans (hb.mono hw'.size)⟩)
                   | (go_at_call 45; (with_reducible refine (PteC.make_calls _ _ _ _ _ _ _).mono ?_); rintro e w2 ⟨rfl, hb⟩; exact ⟨rfl, hw'.trans (hb.mono hw'.size)⟩)
                   | (obtain ⟨hcc, _⟩ := bcell hw'; go_simp; done)
                   | (obtain ⟨hcc, _⟩ := bcell hw'; go_simp; rfl)
                 clear hK K))
    refine wpQuiet_nil ?_
    intro w9 b9
    go_wp2
    go_ret
    exact ⟨rfl, bel_trans BX b9⟩
  · obtain ⟨⟨l0, l2⟩, n1, n2⟩ := hl rfl
    clear hl
    have HC := Lib.hid (cov_range lv vpn va a0 n2)
    have hwr : IntKind.u64.wrap (vpn + pages lv) = vpn + pages lv := by rw [wrap_u64]; omega
    clear n2
    by_cases h1 : vpn ≤ num va
    · go_enter Tryd.func21, Tryd.ntmps21
      go_wp2_with (first | (go_at_call 54; (with_reducible refine (VaR.rnum_calls _ _ (by omega) (by omega)).mono ?_); rintro e w' ⟨rfl, ⟨nd, rfl⟩⟩) | fail)
      refine name_world (F := fun w1 => w1.cell? ⟨W.heap.size, 0, none⟩ = some (.bool true) ∧ w1.cell? ⟨W.heap.size, 1, none⟩ = some (.int .u64 si) ∧ w1.cell? ⟨W.heap.size, 2, none⟩ = some (.bool gl) ∧ w1.cell? ⟨W.heap.size, 3, none⟩ = some (.int .i64 lv) ∧ w1.cell? ⟨W.heap.size, 4, none⟩ = some (.int .u64 vpn) ∧ w1.cell? ⟨W.heap.size, 5, none⟩ = some (.int .u64 ppn) ∧ w1.cell? ⟨W.heap.size, 6, none⟩ = some (.bool r) ∧ w1.cell? ⟨W.heap.size, 7, none⟩ = some (.bool w) ∧ w1.cell? ⟨W.heap.size, 8, none⟩ = some (.bool x) ∧ w1.cell? ⟨W.heap.size, 9, none⟩ = some (.bool u) ∧ w1.cell? ⟨W.heap.size, 10, none⟩ = some (.bool d) ∧ W.heap.size < w1.heap.size ∧ Below W.heap.size W w1) (by
        refine ⟨?_, ?_, ?_, ?_, ?_, ?_, ?_, ?_, ?_, ?_, ?_, ?_, ?_⟩
        all_goals first | (simp; done) | (simp; omega) | (intro i; simp; done) | exact (by repeat (first | (with_reducible exact Below.refl _ _) | (with_reducible apply bel_drewN) | (with_reducible apply bel_alloc) | (with_reducible apply bel_trans; rotate_left; with_reducible assumption) | (with_reducible refine bel_setCell _ _ _ (by first | omega | (simp; done) | (simp; omega) | (simp at *; omega)) ?_)))) ?_
      rintro Wx ⟨p0, p1, p2, p3, p4, p5, p6, p7, p8, p9, p10, hz0, BX⟩
      have hG0 : G Wx := hG.to BX
      refine region_below (by kernel_rfl) (by kernel_rfl) ?_
      repeat (with_reducible refine wpQuiet_step (fun K hK => ?_)
              go_simp
              first
                | (refine hK _ ?_; clear hK K)
                | (refine ⟨_, fun _ _ => rfl, hK _ ?_⟩; clear hK K)
                | (apply Exists.intro
                   refine ⟨fun w' hw' => ?_, hK _ ?_⟩
                   · first
                     | (go_at_call 66; (with_reducible refine (VaC.size_calls _ _ (by omega) (by omega) (hG0.below hw' (Nat.le_refl _))).mono ?_); rintro e w2 ⟨rfl, hb⟩; exact ⟨rfl, hw'.trans (hb.below.mono hw'.size)⟩)
                     | (go_at_call 52; (with_reducible refine (VaC.num_calls _ _ (by omega) (by omega)).mono ?_); rintro e w2 ⟨rfl, hb⟩; exact ⟨rfl, hw'.trans (hb.below.mono hw'.size)⟩)
                     | (go_at_call 55; (with_reducible refine (VaC.of_calls _ _ (by omega) (by omega)).mono ?_); rintro e w2 ⟨rfl, hb⟩; exact ⟨rfl, hw'.trans (hb.below.mono hw'.size)⟩)
                     | (go_at_call 53; (with_reducible refine (VaC.base_calls _ _ _ (by omega) (by omega) (by omega) (by omega) (hG0.below hw' (Nat.le_refl _))).mono ?_); rintro e w2 ⟨rfl, hb⟩; exact ⟨rfl, hw'.trans (hb.below.mono hw'.size)⟩)
                     | (go_at_call 56; (with_reducible refine (VaC.off_calls _ _ _ (by omega) (by omega) (by omega) (by omega) (hG0.below hw' (Nat.le_refl _))).mono ?_); rintro e w2 ⟨rfl, hb⟩; exact ⟨rfl, hw'.trans (hb.below.mono hw'.size)⟩)
                     | (go_at_call 51; (with_reducible refine (BitsC.even_calls _ _ _ (by assumption) (by assumption)).mono ?_); rintro e w2 ⟨rfl, hb⟩; exact ⟨rfl, hw'.trans (hb.below.mono hw'.size)⟩)
                     | (go_at_call 54; (with_reducible refine (VaR.rnum_calls _ _ (by omega) (by omega)).mono ?_); rintro e w2 ⟨rfl, hb⟩; exact ⟨rfl, hw'.trans (hb.below.mono hw'.size)⟩)
                     | (go_at_call 57; (with_reducible refine (VaR.roff_calls _ _ _ (by omega) (by omega) (by omega) (by omega)).mono ?_); rintro e w2 ⟨rfl, hb⟩; exact ⟨rfl, hw'.trans (hb.below.mono hw'.size)⟩)
                     | (go_at_call 31; (with_reducible refine (rpages_calls _ _ (by omega) (by omega)).mono ?_); rintro e w2 ⟨rfl, hb⟩; exact ⟨rfl, hw'.trans (hb.below.mono hw'.size)⟩)
                     | (go_at_call 34; (with_reducible refine (PteC.may_calls _ _ _ _ _ _ _ _ _ _ _ _ (by first | assumption | exact ⟨by omega, by omega⟩) (by first | assumption | exact ⟨by omega, by omega⟩) (by first | assumption | exact ⟨by omega, by omega⟩)).mono ?_); rintro e w2 ⟨rfl, hb⟩; exact ⟨rfl, hw'.trans (hb.mono hw'.size)⟩)
                     | (go_at_call 36; (with_reducible refine (PteC.pget_calls _ _ (by first | assumption | exact ⟨by omega, by omega⟩)).mono ?_); rintro e w2 ⟨rfl, hb⟩; exact ⟨rfl, hw'.trans (hb.mono hw'.size)⟩)
                     | (go_at_call 39; (with_reducible refine (PteC.leaf_calls _ _ _ _ _ _ _ _ _ _ _ _).mono ?_); rintro e w2 ⟨rfl, hb⟩; exact ⟨rfl, hw'.trans (hb.mono hw'.size)⟩)
                     | (go_at_call 41; (with_reducible refine (PteC.link_calls _ _ _ _ _ _ _ _ _ _ _ _).mono ?_); rintro e w2 ⟨rfl, hb⟩; exact ⟨rfl, hw'.trans (hb.mono hw'.size)⟩)
                     | (go_at_call 43; (with_reducible refine (PteC.bad_calls _ _ _ _ _ _ _ _ _ _ _ _ _ (by first | assumption | exact ⟨by omega, by omega⟩) (by first | assumption | exact ⟨by omega, by omega⟩) (by first | assumption | exact ⟨by omega, by omega⟩) (by omega) (by omega) (hG0.below hw' (Nat.le_refl _))).mono ?_); rintro e w2 ⟨rfl, hb⟩; exact ⟨rfl, hw'.trans (hb.mono hw'.size)⟩)
                     | (go_at_call 47; (with_reducible refine (PteC.perm_calls _ _ _ _ _ _ _ _ _ _ _ _).mono ?_); rintro e w2 ⟨rfl, hb⟩; exact ⟨rfl, hw'.trans (hb.mono hw'.size)⟩)
                     | (go_at_call 37; (with_reducible refine (PteR.rget_calls _ _ (by first | assumption | exact ⟨by omega, by omega⟩)).mono ?_); rintro e w2 ⟨rfl, hb⟩; exact ⟨rfl, hw'.trans (hb.mono hw'.size)⟩)
                     | (go_at_call 35; (with_reducible refine (PteR.rmay_calls _ _ _ _ _ _ _ _ _ _ _ _ (by first | assumption | exact ⟨by omega, by omega⟩) (by first | assumption | exact ⟨by omega, by omega⟩) (by first | assumption | exact ⟨by omega, by omega⟩)).mono ?_); rintro e w2 ⟨rfl, hb⟩; exact ⟨rfl, hw'.trans (hb.mono hw'.size)⟩)
                     | (go_at_call 40; (with_reducible refine (PteR.rleaf_calls _ _ _ _ _ _ _ _ _ _ _ _).mono ?_); rintro e w2 ⟨rfl, hb⟩; exact ⟨rfl, hw'.trans (hb.mono hw'.size)⟩)
                     | (go_at_call 42; (with_reducible refine (PteR.rlink_calls _ _ _ _ _ _ _ _ _ _ _ _).mono ?_); rintro e w2 ⟨rfl, hb⟩; exact ⟨rfl, hw'.trans (hb.mono hw'.size)⟩)
                     | (go_at_call 44; (with_reducible refine (PteR.rbad_calls _ _ _ _ _ _ _ _ _ _ _ _ _ (by first | assumption | exact ⟨by omega, by omega⟩) (by first | assumption | exact ⟨by omega, by omega⟩) (by first | assumption | exact ⟨by omega, by omega⟩) (by omega) (by omega)).mono ?_); rintro e w2 ⟨rfl, hb⟩; exact ⟨rfl, hw'.trans (hb.mono hw'.size)⟩)
                     | (go_at_call 46; (with_reducible refine (PteR.rmake_calls _ _ _ _ _ _ _).mono ?_); rintro e w2 ⟨rfl, hb⟩; exact ⟨rfl, hw'.trans (hb.mono hw'.size)⟩)
                     | (go_at_call 48; (with_reducible refine (PteR.rperm_calls _ _ _ _ _ _ _ _ _ _ _ _).mono ?_); rintro e w2 ⟨rfl, hb⟩; exact ⟨rfl, hw'.trans (hb.mono hw'.size)⟩)
                     | (go_at_call 45; (with_reducible refine (PteC.make_calls _ _ _ _ _ _ _).mono ?_); rintro e w2 ⟨rfl, hb⟩; exact ⟨rfl, hw'.trans (hb.mono hw'.size)⟩)
                     | (obtain ⟨hcc, _⟩ := bcell hw'; go_simp; done)
                     | (obtain ⟨hcc, _⟩ := bcell hw'; go_simp; rfl)
                   clear hK K))
      refine wpQuiet_nil ?_
      intro w9 b9
      go_wp2
      go_ret
      exact ⟨congrArg (fun z => Ending.returned (.bool z)) (by show _ = (true && cov lv vpn va); rw [HC.out, decide_eq_true h1]; rfl), bel_trans BX b9⟩
    · have h2 : decide (vpn ≤ num va) = false := by simpa using h1
      go_enter Tryd.func21, Tryd.ntmps21
      go_wp2_with (first | (go_at_call 54; (with_reducible refine (VaR.rnum_calls _ _ (by omega) (by omega)).mono ?_); rintro e w' ⟨rfl, ⟨nd, rfl⟩⟩) | fail)
      refine name_world (F := fun w1 => w1.cell? ⟨W.heap.size, 0, none⟩ = some (.bool true) ∧ w1.cell? ⟨W.heap.size, 1, none⟩ = some (.int .u64 si) ∧ w1.cell? ⟨W.heap.size, 2, none⟩ = some (.bool gl) ∧ w1.cell? ⟨W.heap.size, 3, none⟩ = some (.int .i64 lv) ∧ w1.cell? ⟨W.heap.size, 4, none⟩ = some (.int .u64 vpn) ∧ w1.cell? ⟨W.heap.size, 5, none⟩ = some (.int .u64 ppn) ∧ w1.cell? ⟨W.heap.size, 6, none⟩ = some (.bool r) ∧ w1.cell? ⟨W.heap.size, 7, none⟩ = some (.bool w) ∧ w1.cell? ⟨W.heap.size, 8, none⟩ = some (.bool x) ∧ w1.cell? ⟨W.heap.size, 9, none⟩ = some (.bool u) ∧ w1.cell? ⟨W.heap.size, 10, none⟩ = some (.bool d) ∧ W.heap.size < w1.heap.size ∧ Below W.heap.size W w1) (by
        refine ⟨?_, ?_, ?_, ?_, ?_, ?_, ?_, ?_, ?_, ?_, ?_, ?_, ?_⟩
        all_goals first | (simp; done) | (simp; omega) | (intro i; simp; done) | exact (by repeat (first | (with_reducible exact Below.refl _ _) | (with_reducible apply bel_drewN) | (with_reducible apply bel_alloc) | (with_reducible apply bel_trans; rotate_left; with_reducible assumption) | (with_reducible refine bel_setCell _ _ _ (by first | omega | (simp; done) | (simp; omega) | (simp at *; omega)) ?_)))) ?_
      rintro Wx ⟨p0, p1, p2, p3, p4, p5, p6, p7, p8, p9, p10, hz0, BX⟩
      have hG0 : G Wx := hG.to BX
      refine region_below (by kernel_rfl) (by kernel_rfl) ?_
      repeat (with_reducible refine wpQuiet_step (fun K hK => ?_)
              go_simp
              first
                | (refine hK _ ?_; clear hK K)
                | (refine ⟨_, fun _ _ => rfl, hK _ ?_⟩; clear hK K)
                | (apply Exists.intro
                   refine ⟨fun w' hw' => ?_, hK _ ?_⟩
                   · first
                     | (go_at_call 66; (with_reducible refine (VaC.size_calls _ _ (by omega) (by omega) (hG0.below hw' (Nat.le_refl _))).mono ?_); rintro e w2 ⟨rfl, hb⟩; exact ⟨rfl, hw'.trans (hb.below.mono hw'.size)⟩)
                     | (go_at_call 52; (with_reducible refine (VaC.num_calls _ _ (by omega) (by omega)).mono ?_); rintro e w2 ⟨rfl, hb⟩; exact ⟨rfl, hw'.trans (hb.below.mono hw'.size)⟩)
                     | (go_at_call 55; (with_reducible refine (VaC.of_calls _ _ (by omega) (by omega)).mono ?_); rintro e w2 ⟨rfl, hb⟩; exact ⟨rfl, hw'.trans (hb.below.mono hw'.size)⟩)
                     | (go_at_call 53; (with_reducible refine (VaC.base_calls _ _ _ (by omega) (by omega) (by omega) (by omega) (hG0.below hw' (Nat.le_refl _))).mono ?_); rintro e w2 ⟨rfl, hb⟩; exact ⟨rfl, hw'.trans (hb.below.mono hw'.size)⟩)
                     | (go_at_call 56; (with_reducible refine (VaC.off_calls _ _ _ (by omega) (by omega) (by omega) (by omega) (hG0.below hw' (Nat.le_refl _))).mono ?_); rintro e w2 ⟨rfl, hb⟩; exact ⟨rfl, hw'.trans (hb.below.mono hw'.size)⟩)
                     | (go_at_call 51; (with_reducible refine (BitsC.even_calls _ _ _ (by assumption) (by assumption)).mono ?_); rintro e w2 ⟨rfl, hb⟩; exact ⟨rfl, hw'.trans (hb.below.mono hw'.size)⟩)
                     | (go_at_call 54; (with_reducible refine (VaR.rnum_calls _ _ (by omega) (by omega)).mono ?_); rintro e w2 ⟨rfl, hb⟩; exact ⟨rfl, hw'.trans (hb.below.mono hw'.size)⟩)
                     | (go_at_call 57; (with_reducible refine (VaR.roff_calls _ _ _ (by omega) (by omega) (by omega) (by omega)).mono ?_); rintro e w2 ⟨rfl, hb⟩; exact ⟨rfl, hw'.trans (hb.below.mono hw'.size)⟩)
                     | (go_at_call 31; (with_reducible refine (rpages_calls _ _ (by omega) (by omega)).mono ?_); rintro e w2 ⟨rfl, hb⟩; exact ⟨rfl, hw'.trans (hb.below.mono hw'.size)⟩)
                     | (go_at_call 34; (with_reducible refine (PteC.may_calls _ _ _ _ _ _ _ _ _ _ _ _ (by first | assumption | exact ⟨by omega, by omega⟩) (by first | assumption | exact ⟨by omega, by omega⟩) (by first | assumption | exact ⟨by omega, by omega⟩)).mono ?_); rintro e w2 ⟨rfl, hb⟩; exact ⟨rfl, hw'.trans (hb.mono hw'.size)⟩)
                     | (go_at_call 36; (with_reducible refine (PteC.pget_calls _ _ (by first | assumption | exact ⟨by omega, by omega⟩)).mono ?_); rintro e w2 ⟨rfl, hb⟩; exact ⟨rfl, hw'.trans (hb.mono hw'.size)⟩)
                     | (go_at_call 39; (with_reducible refine (PteC.leaf_calls _ _ _ _ _ _ _ _ _ _ _ _).mono ?_); rintro e w2 ⟨rfl, hb⟩; exact ⟨rfl, hw'.trans (hb.mono hw'.size)⟩)
                     | (go_at_call 41; (with_reducible refine (PteC.link_calls _ _ _ _ _ _ _ _ _ _ _ _).mono ?_); rintro e w2 ⟨rfl, hb⟩; exact ⟨rfl, hw'.trans (hb.mono hw'.size)⟩)
                     | (go_at_call 43; (with_reducible refine (PteC.bad_calls _ _ _ _ _ _ _ _ _ _ _ _ _ (by first | assumption | exact ⟨by omega, by omega⟩) (by first | assumption | exact ⟨by omega, by omega⟩) (by first | assumption | exact ⟨by omega, by omega⟩) (by omega) (by omega) (hG0.below hw' (Nat.le_refl _))).mono ?_); rintro e w2 ⟨rfl, hb⟩; exact ⟨rfl, hw'.trans (hb.mono hw'.size)⟩)
                     | (go_at_call 47; (with_reducible refine (PteC.perm_calls _ _ _ _ _ _ _ _ _ _ _ _).mono ?_); rintro e w2 ⟨rfl, hb⟩; exact ⟨rfl, hw'.trans (hb.mono hw'.size)⟩)
                     | (go_at_call 37; (with_reducible refine (PteR.rget_calls _ _ (by first | assumption | exact ⟨by omega, by omega⟩)).mono ?_); rintro e w2 ⟨rfl, hb⟩; exact ⟨rfl, hw'.trans (hb.mono hw'.size)⟩)
                     | (go_at_call 35; (with_reducible refine (PteR.rmay_calls _ _ _ _ _ _ _ _ _ _ _ _ (by first | assumption | exact ⟨by omega, by omega⟩) (by first | assumption | exact ⟨by omega, by omega⟩) (by first | assumption | exact ⟨by omega, by omega⟩)).mono ?_); rintro e w2 ⟨rfl, hb⟩; exact ⟨rfl, hw'.trans (hb.mono hw'.size)⟩)
                     | (go_at_call 40; (with_reducible refine (PteR.rleaf_calls _ _ _ _ _ _ _ _ _ _ _ _).mono ?_); rintro e w2 ⟨rfl, hb⟩; exact ⟨rfl, hw'.trans (hb.mono hw'.size)⟩)
                     | (go_at_call 42; (with_reducible refine (PteR.rlink_calls _ _ _ _ _ _ _ _ _ _ _ _).mono ?_); rintro e w2 ⟨rfl, hb⟩; exact ⟨rfl, hw'.trans (hb.mono hw'.size)⟩)
                     | (go_at_call 44; (with_reducible refine (PteR.rbad_calls _ _ _ _ _ _ _ _ _ _ _ _ _ (by first | assumption | exact ⟨by omega, by omega⟩) (by first | assumption | exact ⟨by omega, by omega⟩) (by first | assumption | exact ⟨by omega, by omega⟩) (by omega) (by omega)).mono ?_); rintro e w2 ⟨rfl, hb⟩; exact ⟨rfl, hw'.trans (hb.mono hw'.size)⟩)
                     | (go_at_call 46; (with_reducible refine (PteR.rmake_calls _ _ _ _ _ _ _).mono ?_); rintro e w2 ⟨rfl, hb⟩; exact ⟨rfl, hw'.trans (hb.mono hw'.size)⟩)
                     | (go_at_call 48; (with_reducible refine (PteR.rperm_calls _ _ _ _ _ _ _ _ _ _ _ _).mono ?_); rintro e w2 ⟨rfl, hb⟩; exact ⟨rfl, hw'.trans (hb.mono hw'.size)⟩)
                     | (go_at_call 45; (with_reducible refine (PteC.make_calls _ _ _ _ _ _ _).mono ?_); rintro e w2 ⟨rfl, hb⟩; exact ⟨rfl, hw'.trans (hb.mono hw'.size)⟩)
                     | (obtain ⟨hcc, _⟩ := bcell hw'; go_simp; done)
                     | (obtain ⟨hcc, _⟩ := bcell hw'; go_simp; rfl)
                   clear hK K))
      refine wpQuiet_nil ?_
      intro w9 b9
      go_wp2
      go_ret
      exact ⟨congrArg (fun z => Ending.returned (.bool z)) (by show _ = (true && cov lv vpn va); rw [HC.out, decide_eq_false (show ¬ vpn ≤ num va by omega)]; rfl), bel_trans BX b9⟩
set_option maxHeartbeats 1000000 in
theorem rmatches_calls (v : Bool) (si : Int) (gl : Bool) (lv vpn ppn : Int) (r w x u d : Bool) (asid va : Int) (W : World) (hl : v = true → (0 ≤ lv ∧ lv ≤ 2) ∧ vpn < 134217728 ∧ vpn % pages lv = 0) (n0 : 0 ≤ vpn) (a0 : 0 ≤ va) (a1 : va < 18446744073709551616) (hG : G W) :
    Calls Tryd.prog 23 #[.agg #[.bool v, .int .u64 si, .bool gl, .int .i64 lv, .int .u64 vpn, .int .u64 ppn, .bool r, .bool w, .bool x, .bool u, .bool d], .int .u64 asid, .int .u64 va] W fun e w' => e = .returned (.bool (matchesE ⟨v, si, gl, lv, vpn, ppn, ⟨r, w, x, u⟩, d⟩ asid va)) ∧ Below W.heap.size W w' := by
  cases hc : coversE ⟨v, si, gl, lv, vpn, ppn, ⟨r, w, x, u⟩, d⟩ va
  all_goals
    have hm : matchesE ⟨v, si, gl, lv, vpn, ppn, ⟨r, w, x, u⟩, d⟩ asid va = (coversE ⟨v, si, gl, lv, vpn, ppn, ⟨r, w, x, u⟩, d⟩ va && (gl || si == asid)) := rfl
    rw [hc] at hm
    have HM := Lib.hid hm; clear hm
    have HC := Lib.hid hc; clear hc
    cases gl
    all_goals
      go_enter Tryd.func23, Tryd.ntmps23
      go_wp2_with (first
        | (go_at_call 21; (with_reducible refine (rcovers_calls _ _ _ _ _ _ _ _ _ _ _ _ _ hl n0 a0 a1 (hG.alloc _)).mono ?_); rintro e w1 ⟨rfl, b1⟩; rw [HC.out]; obtain ⟨c1, _⟩ := bcell b1)
        | fail)
      all_goals
        go_ret
        refine ⟨congrArg (fun z => Ending.returned (.bool z)) ?_, (by repeat (first | (with_reducible exact Below.refl _ _) | (with_reducible apply bel_drewN) | (with_reducible apply bel_alloc) | (with_reducible apply bel_trans; rotate_left; with_reducible assumption) | (with_reducible refine bel_setCell _ _ _ (by first | omega | (simp; done) | (simp; omega) | (simp at *; omega)) ?_)))⟩
        rw [HM.out]; simp
set_option maxHeartbeats 1000000 in
theorem rphys_calls (v : Bool) (si : Int) (gl : Bool) (lv vpn ppn : Int) (r w x u d : Bool) (va : Int) (W : World) (l0 : 0 ≤ lv) (l2 : lv ≤ 2) (p0 : 0 ≤ ppn) (p1 : ppn < 17592186044416) (a0 : 0 ≤ va) (a1 : va < 18446744073709551616) (hG : G W) :
    Calls Tryd.prog 27 #[.agg #[.bool v, .int .u64 si, .bool gl, .int .i64 lv, .int .u64 vpn, .int .u64 ppn, .bool r, .bool w, .bool x, .bool u, .bool d], .int .u64 va] W fun e w' => e = .returned (.int .u64 (physE lv ppn va)) ∧ Below W.heap.size W w' := by
  have hb := off_bd va lv a0
  have hs := sz_le lv
  have hw1 : IntKind.u64.wrap (4096 * ppn) = 4096 * ppn := by rw [wrap_u64]; omega
  have hw2 : IntKind.u64.wrap (4096 * ppn + off va lv) = physE lv ppn va := by rw [wrap_u64]; unfold physE; omega
  go_enter Tryd.func27, Tryd.ntmps27
  go_wp2_with fail
  refine name_world (F := fun w1 => w1.cell? ⟨W.heap.size, 0, none⟩ = some (.bool v) ∧ w1.cell? ⟨W.heap.size, 1, none⟩ = some (.int .u64 si) ∧ w1.cell? ⟨W.heap.size, 2, none⟩ = some (.bool gl) ∧ w1.cell? ⟨W.heap.size, 3, none⟩ = some (.int .i64 lv) ∧ w1.cell? ⟨W.heap.size, 4, none⟩ = some (.int .u64 vpn) ∧ w1.cell? ⟨W.heap.size, 5, none⟩ = some (.int .u64 ppn) ∧ w1.cell? ⟨W.heap.size, 6, none⟩ = some (.bool r) ∧ w1.cell? ⟨W.heap.size, 7, none⟩ = some (.bool w) ∧ w1.cell? ⟨W.heap.size, 8, none⟩ = some (.bool x) ∧ w1.cell? ⟨W.heap.size, 9, none⟩ = some (.bool u) ∧ w1.cell? ⟨W.heap.size, 10, none⟩ = some (.bool d) ∧ W.heap.size < w1.heap.size ∧ Below W.heap.size W w1) (by
    refine ⟨?_, ?_, ?_, ?_, ?_, ?_, ?_, ?_, ?_, ?_, ?_, ?_, ?_⟩
    all_goals first | (simp; done) | (simp; omega) | (intro i; simp; done) | exact (by repeat (first | (with_reducible exact Below.refl _ _) | (with_reducible apply bel_drewN) | (with_reducible apply bel_alloc) | (with_reducible apply bel_trans; rotate_left; with_reducible assumption) | (with_reducible refine bel_setCell _ _ _ (by first | omega | (simp; done) | (simp; omega) | (simp at *; omega)) ?_)))) ?_
  rintro Wx ⟨p0, p1, p2, p3, p4, p5, p6, p7, p8, p9, p10, hz0, BX⟩
  have hG0 : G Wx := hG.to BX
  refine region_below (by kernel_rfl) (by kernel_rfl) ?_
  repeat (with_reducible refine wpQuiet_step (fun K hK => ?_)
          go_simp
          first
            | (refine hK _ ?_; clear hK K)
            | (refine ⟨_, fun _ _ => rfl, hK _ ?_⟩; clear hK K)
            | (apply Exists.intro
               refine ⟨fun w' hw' => ?_, hK _ ?_⟩
               · first
                 | (go_at_call 66; (with_reducible refine (VaC.size_calls _ _ (by omega) (by omega) (hG0.below hw' (Nat.le_refl _))).mono ?_); rintro e w2 ⟨rfl, hb⟩; exact ⟨rfl, hw'.trans (hb.below.mono hw'.size)⟩)
                 | (go_at_call 52; (with_reducible refine (VaC.num_calls _ _ (by omega) (by omega)).mono ?_); rintro e w2 ⟨rfl, hb⟩; exact ⟨rfl, hw'.trans (hb.below.mono hw'.size)⟩)
                 | (go_at_call 55; (with_reducible refine (VaC.of_calls _ _ (by omega) (by omega)).mono ?_); rintro e w2 ⟨rfl, hb⟩; exact ⟨rfl, hw'.trans (hb.below.mono hw'.size)⟩)
                 | (go_at_call 53; (with_reducible refine (VaC.base_calls _ _ _ (by omega) (by omega) (by omega) (by omega) (hG0.below hw' (Nat.le_refl _))).mono ?_); rintro e w2 ⟨rfl, hb⟩; exact ⟨rfl, hw'.trans (hb.below.mono hw'.size)⟩)
                 | (go_at_call 56; (with_reducible refine (VaC.off_calls _ _ _ (by omega) (by omega) (by omega) (by omega) (hG0.below hw' (Nat.le_refl _))).mono ?_); rintro e w2 ⟨rfl, hb⟩; exact ⟨rfl, hw'.trans (hb.below.mono hw'.size)⟩)
                 | (go_at_call 51; (with_reducible refine (BitsC.even_calls _ _ _ (by assumption) (by assumption)).mono ?_); rintro e w2 ⟨rfl, hb⟩; exact ⟨rfl, hw'.trans (hb.below.mono hw'.size)⟩)
                 | (go_at_call 54; (with_reducible refine (VaR.rnum_calls _ _ (by omega) (by omega)).mono ?_); rintro e w2 ⟨rfl, hb⟩; exact ⟨rfl, hw'.trans (hb.below.mono hw'.size)⟩)
                 | (go_at_call 57; (with_reducible refine (VaR.roff_calls _ _ _ (by omega) (by omega) (by omega) (by omega)).mono ?_); rintro e w2 ⟨rfl, hb⟩; exact ⟨rfl, hw'.trans (hb.below.mono hw'.size)⟩)
                 | (go_at_call 31; (with_reducible refine (rpages_calls _ _ (by omega) (by omega)).mono ?_); rintro e w2 ⟨rfl, hb⟩; exact ⟨rfl, hw'.trans (hb.below.mono hw'.size)⟩)
                 | (go_at_call 34; (with_reducible refine (PteC.may_calls _ _ _ _ _ _ _ _ _ _ _ _ (by first | assumption | exact ⟨by omega, by omega⟩) (by first | assumption | exact ⟨by omega, by omega⟩) (by first | assumption | exact ⟨by omega, by omega⟩)).mono ?_); rintro e w2 ⟨rfl, hb⟩; exact ⟨rfl, hw'.trans (hb.mono hw'.size)⟩)
                 | (go_at_call 36; (with_reducible refine (PteC.pget_calls _ _ (by first | assumption | exact ⟨by omega, by omega⟩)).mono ?_); rintro e w2 ⟨rfl, hb⟩; exact ⟨rfl, hw'.trans (hb.mono hw'.size)⟩)
                 | (go_at_call 39; (with_reducible refine (PteC.leaf_calls _ _ _ _ _ _ _ _ _ _ _ _).mono ?_); rintro e w2 ⟨rfl, hb⟩; exact ⟨rfl, hw'.trans (hb.mono hw'.size)⟩)
                 | (go_at_call 41; (with_reducible refine (PteC.link_calls _ _ _ _ _ _ _ _ _ _ _ _).mono ?_); rintro e w2 ⟨rfl, hb⟩; exact ⟨rfl, hw'.trans (hb.mono hw'.size)⟩)
                 | (go_at_call 43; (with_reducible refine (PteC.bad_calls _ _ _ _ _ _ _ _ _ _ _ _ _ (by first | assumption | exact ⟨by omega, by omega⟩) (by first | assumption | exact ⟨by omega, by omega⟩) (by first | assumption | exact ⟨by omega, by omega⟩) (by omega) (by omega) (hG0.below hw' (Nat.le_refl _))).mono ?_); rintro e w2 ⟨rfl, hb⟩; exact ⟨rfl, hw'.trans (hb.mono hw'.size)⟩)
                 | (go_at_call 47; (with_reducible refine (PteC.perm_calls _ _ _ _ _ _ _ _ _ _ _ _).mono ?_); rintro e w2 ⟨rfl, hb⟩; exact ⟨rfl, hw'.trans (hb.mono hw'.size)⟩)
                 | (go_at_call 37; (with_reducible refine (PteR.rget_calls _ _ (by first | assumption | exact ⟨by omega, by omega⟩)).mono ?_); rintro e w2 ⟨rfl, hb⟩; exact ⟨rfl, hw'.trans (hb.mono hw'.size)⟩)
                 | (go_at_call 35; (with_reducible refine (PteR.rmay_calls _ _ _ _ _ _ _ _ _ _ _ _ (by first | assumption | exact ⟨by omega, by omega⟩) (by first | assumption | exact ⟨by omega, by omega⟩) (by first | assumption | exact ⟨by omega, by omega⟩)).mono ?_); rintro e w2 ⟨rfl, hb⟩; exact ⟨rfl, hw'.trans (hb.mono hw'.size)⟩)
                 | (go_at_call 40; (with_reducible refine (PteR.rleaf_calls _ _ _ _ _ _ _ _ _ _ _ _).mono ?_); rintro e w2 ⟨rfl, hb⟩; exact ⟨rfl, hw'.trans (hb.mono hw'.size)⟩)
                 | (go_at_call 42; (with_reducible refine (PteR.rlink_calls _ _ _ _ _ _ _ _ _ _ _ _).mono ?_); rintro e w2 ⟨rfl, hb⟩; exact ⟨rfl, hw'.trans (hb.mono hw'.size)⟩)
                 | (go_at_call 44; (with_reducible refine (PteR.rbad_calls _ _ _ _ _ _ _ _ _ _ _ _ _ (by first | assumption | exact ⟨by omega, by omega⟩) (by first | assumption | exact ⟨by omega, by omega⟩) (by first | assumption | exact ⟨by omega, by omega⟩) (by omega) (by omega)).mono ?_); rintro e w2 ⟨rfl, hb⟩; exact ⟨rfl, hw'.trans (hb.mono hw'.size)⟩)
                 | (go_at_call 46; (with_reducible refine (PteR.rmake_calls _ _ _ _ _ _ _).mono ?_); rintro e w2 ⟨rfl, hb⟩; exact ⟨rfl, hw'.trans (hb.mono hw'.size)⟩)
                 | (go_at_call 48; (with_reducible refine (PteR.rperm_calls _ _ _ _ _ _ _ _ _ _ _ _).mono ?_); rintro e w2 ⟨rfl, hb⟩; exact ⟨rfl, hw'.trans (hb.mono hw'.size)⟩)
                 | (go_at_call 45; (with_reducible refine (PteC.make_calls _ _ _ _ _ _ _).mono ?_); rintro e w2 ⟨rfl, hb⟩; exact ⟨rfl, hw'.trans (hb.mono hw'.size)⟩)
                 | (obtain ⟨hcc, _⟩ := bcell hw'; go_simp; done)
                 | (obtain ⟨hcc, _⟩ := bcell hw'; go_simp; rfl)
               clear hK K))
  refine wpQuiet_nil ?_
  intro w9 b9
  go_wp2
  go_ret
  exact ⟨rfl, bel_trans BX b9⟩
set_option maxHeartbeats 1000000 in
theorem phys10_calls (lv at_ : Int) (v r w x u g a d : Bool) (rsw ppn high : Int) (va : Int) (W : World) (l0 : 0 ≤ lv) (l2 : lv ≤ 2) (p0 : 0 ≤ ppn) (p1 : ppn < 17592186044416) (a0 : 0 ≤ va) (a1 : va < 18446744073709551616) (hG : G W) :
    Calls Tryd.prog 29 #[.agg #[.int .i64 lv, .int .u64 at_, .bool v, .bool r, .bool w, .bool x, .bool u, .bool g, .bool a, .bool d, .int .u64 rsw, .int .u64 ppn, .int .u64 high], .int .u64 va] W fun e w' => e = .returned (.int .u64 (physE lv ppn va)) ∧ Below W.heap.size W w' := by
  have hb := off_bd va lv a0
  have hs := sz_le lv
  have hw1 : IntKind.u64.wrap (4096 * ppn) = 4096 * ppn := by rw [wrap_u64]; omega
  have hw2 : IntKind.u64.wrap (4096 * ppn + off va lv) = physE lv ppn va := by rw [wrap_u64]; unfold physE; omega
  go_enter Tryd.func29, Tryd.ntmps29
  go_wp2_with fail
  refine name_world (F := fun w1 => w1.cell? ⟨W.heap.size, 0, none⟩ = some (.int .i64 lv) ∧ w1.cell? ⟨W.heap.size, 1, none⟩ = some (.int .u64 at_) ∧ w1.cell? ⟨W.heap.size, 2, none⟩ = some (.bool v) ∧ w1.cell? ⟨W.heap.size, 3, none⟩ = some (.bool r) ∧ w1.cell? ⟨W.heap.size, 4, none⟩ = some (.bool w) ∧ w1.cell? ⟨W.heap.size, 5, none⟩ = some (.bool x) ∧ w1.cell? ⟨W.heap.size, 6, none⟩ = some (.bool u) ∧ w1.cell? ⟨W.heap.size, 7, none⟩ = some (.bool g) ∧ w1.cell? ⟨W.heap.size, 8, none⟩ = some (.bool a) ∧ w1.cell? ⟨W.heap.size, 9, none⟩ = some (.bool d) ∧ w1.cell? ⟨W.heap.size, 10, none⟩ = some (.int .u64 rsw) ∧ w1.cell? ⟨W.heap.size, 11, none⟩ = some (.int .u64 ppn) ∧ w1.cell? ⟨W.heap.size, 12, none⟩ = some (.int .u64 high) ∧ W.heap.size < w1.heap.size ∧ Below W.heap.size W w1) (by
    refine ⟨?_, ?_, ?_, ?_, ?_, ?_, ?_, ?_, ?_, ?_, ?_, ?_, ?_, ?_, ?_⟩
    all_goals first | (simp; done) | (simp; omega) | (intro i; simp; done) | exact (by repeat (first | (with_reducible exact Below.refl _ _) | (with_reducible apply bel_drewN) | (with_reducible apply bel_alloc) | (with_reducible apply bel_trans; rotate_left; with_reducible assumption) | (with_reducible refine bel_setCell _ _ _ (by first | omega | (simp; done) | (simp; omega) | (simp at *; omega)) ?_)))) ?_
  rintro Wx ⟨p0, p1, p2, p3, p4, p5, p6, p7, p8, p9, p10, p11, p12, hz0, BX⟩
  have hG0 : G Wx := hG.to BX
  refine region_below (by kernel_rfl) (by kernel_rfl) ?_
  repeat (with_reducible refine wpQuiet_step (fun K hK => ?_)
          go_simp
          first
            | (refine hK _ ?_; clear hK K)
            | (refine ⟨_, fun _ _ => rfl, hK _ ?_⟩; clear hK K)
            | (apply Exists.intro
               refine ⟨fun w' hw' => ?_, hK _ ?_⟩
               · first
                 | (go_at_call 66; (with_reducible refine (VaC.size_calls _ _ (by omega) (by omega) (hG0.below hw' (Nat.le_refl _))).mono ?_); rintro e w2 ⟨rfl, hb⟩; exact ⟨rfl, hw'.trans (hb.below.mono hw'.size)⟩)
                 | (go_at_call 52; (with_reducible refine (VaC.num_calls _ _ (by omega) (by omega)).mono ?_); rintro e w2 ⟨rfl, hb⟩; exact ⟨rfl, hw'.trans (hb.below.mono hw'.size)⟩)
                 | (go_at_call 55; (with_reducible refine (VaC.of_calls _ _ (by omega) (by omega)).mono ?_); rintro e w2 ⟨rfl, hb⟩; exact ⟨rfl, hw'.trans (hb.below.mono hw'.size)⟩)
                 | (go_at_call 53; (with_reducible refine (VaC.base_calls _ _ _ (by omega) (by omega) (by omega) (by omega) (hG0.below hw' (Nat.le_refl _))).mono ?_); rintro e w2 ⟨rfl, hb⟩; exact ⟨rfl, hw'.trans (hb.below.mono hw'.size)⟩)
                 | (go_at_call 56; (with_reducible refine (VaC.off_calls _ _ _ (by omega) (by omega) (by omega) (by omega) (hG0.below hw' (Nat.le_refl _))).mono ?_); rintro e w2 ⟨rfl, hb⟩; exact ⟨rfl, hw'.trans (hb.below.mono hw'.size)⟩)
                 | (go_at_call 51; (with_reducible refine (BitsC.even_calls _ _ _ (by assumption) (by assumption)).mono ?_); rintro e w2 ⟨rfl, hb⟩; exact ⟨rfl, hw'.trans (hb.below.mono hw'.size)⟩)
                 | (go_at_call 54; (with_reducible refine (VaR.rnum_calls _ _ (by omega) (by omega)).mono ?_); rintro e w2 ⟨rfl, hb⟩; exact ⟨rfl, hw'.trans (hb.below.mono hw'.size)⟩)
                 | (go_at_call 57; (with_reducible refine (VaR.roff_calls _ _ _ (by omega) (by omega) (by omega) (by omega)).mono ?_); rintro e w2 ⟨rfl, hb⟩; exact ⟨rfl, hw'.trans (hb.below.mono hw'.size)⟩)
                 | (go_at_call 31; (with_reducible refine (rpages_calls _ _ (by omega) (by omega)).mono ?_); rintro e w2 ⟨rfl, hb⟩; exact ⟨rfl, hw'.trans (hb.below.mono hw'.size)⟩)
                 | (go_at_call 34; (with_reducible refine (PteC.may_calls _ _ _ _ _ _ _ _ _ _ _ _ (by first | assumption | exact ⟨by omega, by omega⟩) (by first | assumption | exact ⟨by omega, by omega⟩) (by first | assumption | exact ⟨by omega, by omega⟩)).mono ?_); rintro e w2 ⟨rfl, hb⟩; exact ⟨rfl, hw'.trans (hb.mono hw'.size)⟩)
                 | (go_at_call 36; (with_reducible refine (PteC.pget_calls _ _ (by first | assumption | exact ⟨by omega, by omega⟩)).mono ?_); rintro e w2 ⟨rfl, hb⟩; exact ⟨rfl, hw'.trans (hb.mono hw'.size)⟩)
                 | (go_at_call 39; (with_reducible refine (PteC.leaf_calls _ _ _ _ _ _ _ _ _ _ _ _).mono ?_); rintro e w2 ⟨rfl, hb⟩; exact ⟨rfl, hw'.trans (hb.mono hw'.size)⟩)
                 | (go_at_call 41; (with_reducible refine (PteC.link_calls _ _ _ _ _ _ _ _ _ _ _ _).mono ?_); rintro e w2 ⟨rfl, hb⟩; exact ⟨rfl, hw'.trans (hb.mono hw'.size)⟩)
                 | (go_at_call 43; (with_reducible refine (PteC.bad_calls _ _ _ _ _ _ _ _ _ _ _ _ _ (by first | assumption | exact ⟨by omega, by omega⟩) (by first | assumption | exact ⟨by omega, by omega⟩) (by first | assumption | exact ⟨by omega, by omega⟩) (by omega) (by omega) (hG0.below hw' (Nat.le_refl _))).mono ?_); rintro e w2 ⟨rfl, hb⟩; exact ⟨rfl, hw'.trans (hb.mono hw'.size)⟩)
                 | (go_at_call 47; (with_reducible refine (PteC.perm_calls _ _ _ _ _ _ _ _ _ _ _ _).mono ?_); rintro e w2 ⟨rfl, hb⟩; exact ⟨rfl, hw'.trans (hb.mono hw'.size)⟩)
                 | (go_at_call 37; (with_reducible refine (PteR.rget_calls _ _ (by first | assumption | exact ⟨by omega, by omega⟩)).mono ?_); rintro e w2 ⟨rfl, hb⟩; exact ⟨rfl, hw'.trans (hb.mono hw'.size)⟩)
                 | (go_at_call 35; (with_reducible refine (PteR.rmay_calls _ _ _ _ _ _ _ _ _ _ _ _ (by first | assumption | exact ⟨by omega, by omega⟩) (by first | assumption | exact ⟨by omega, by omega⟩) (by first | assumption | exact ⟨by omega, by omega⟩)).mono ?_); rintro e w2 ⟨rfl, hb⟩; exact ⟨rfl, hw'.trans (hb.mono hw'.size)⟩)
                 | (go_at_call 40; (with_reducible refine (PteR.rleaf_calls _ _ _ _ _ _ _ _ _ _ _ _).mono ?_); rintro e w2 ⟨rfl, hb⟩; exact ⟨rfl, hw'.trans (hb.mono hw'.size)⟩)
                 | (go_at_call 42; (with_reducible refine (PteR.rlink_calls _ _ _ _ _ _ _ _ _ _ _ _).mono ?_); rintro e w2 ⟨rfl, hb⟩; exact ⟨rfl, hw'.trans (hb.mono hw'.size)⟩)
                 | (go_at_call 44; (with_reducible refine (PteR.rbad_calls _ _ _ _ _ _ _ _ _ _ _ _ _ (by first | assumption | exact ⟨by omega, by omega⟩) (by first | assumption | exact ⟨by omega, by omega⟩) (by first | assumption | exact ⟨by omega, by omega⟩) (by omega) (by omega)).mono ?_); rintro e w2 ⟨rfl, hb⟩; exact ⟨rfl, hw'.trans (hb.mono hw'.size)⟩)
                 | (go_at_call 46; (with_reducible refine (PteR.rmake_calls _ _ _ _ _ _ _).mono ?_); rintro e w2 ⟨rfl, hb⟩; exact ⟨rfl, hw'.trans (hb.mono hw'.size)⟩)
                 | (go_at_call 48; (with_reducible refine (PteR.rperm_calls _ _ _ _ _ _ _ _ _ _ _ _).mono ?_); rintro e w2 ⟨rfl, hb⟩; exact ⟨rfl, hw'.trans (hb.mono hw'.size)⟩)
                 | (go_at_call 45; (with_reducible refine (PteC.make_calls _ _ _ _ _ _ _).mono ?_); rintro e w2 ⟨rfl, hb⟩; exact ⟨rfl, hw'.trans (hb.mono hw'.size)⟩)
                 | (obtain ⟨hcc, _⟩ := bcell hw'; go_simp; done)
                 | (obtain ⟨hcc, _⟩ := bcell hw'; go_simp; rfl)
               clear hK K))
  refine wpQuiet_nil ?_
  intro w9 b9
  go_wp2
  go_ret
  exact ⟨rfl, bel_trans BX b9⟩
end Go.Proofs.YtjgnckhbafgalaaDoor.EntryR
