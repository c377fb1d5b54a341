/- Plain laws of entries: what is over what, and what is covered. No program here. -/
import Derived.Test.YtjgnckhbafgalaaDoorEntryR
namespace Go.Proofs.YtjgnckhbafgalaaDoor.EntryP
open Go.RowKit Go.Proofs.YtjgnckhbafgalaaDoor.Bv Go.Proofs.YtjgnckhbafgalaaDoor.VaSpec Go.Proofs.YtjgnckhbafgalaaDoor.EntrySpec Go.Proofs.YtjgnckhbafgalaaDoor.EntryR
open Go.Proofs.YtjgnckhbafgalaaDoor.VaC (ofv_bd num_bd)
set_option linter.unusedVariables false
theorem over_comm (e f : Ent) (h0 : 0 ≤ e.vpn) (k0 : 0 ≤ f.vpn) (h : mayE e = true) (k : mayE f = true) : overE f e = overE e f := by
  rw [over_plain e f h0 k0 h k, over_plain f e k0 h0 k h]
  cases e.valid <;> cases f.valid <;> simp [Bool.and_comm]
theorem covers_range (e : Ent) (va : Int) (a0 : 0 ≤ va) (h : mayE e = true) : coversE e va = (e.valid && decide (e.vpn ≤ num va) && decide (num va < e.vpn + pages e.level)) := by
  unfold coversE
  cases v : e.valid
  · simp
  · obtain ⟨_, _, _, _, m, _⟩ := mayE_valid h v
    rw [cov_range _ _ _ a0 m]; simp
theorem over_of_covers (e f : Ent) (va : Int) (a0 : 0 ≤ va) (h0 : 0 ≤ e.vpn) (k0 : 0 ≤ f.vpn) (h : mayE e = true) (k : mayE f = true) (c : coversE e va = true) (d : coversE f va = true) : overE e f = true := by
  rw [covers_range e va a0 h] at c
  rw [covers_range f va a0 k] at d
  rw [over_plain e f h0 k0 h k]
  simp only [Bool.and_eq_true, decide_eq_true_eq] at c d ⊢
  refine ⟨⟨⟨c.1.1, d.1.1⟩, ?_⟩, ?_⟩ <;> omega
theorem over_self (e : Ent) (h0 : 0 ≤ e.vpn) (h : mayE e = true) : overE e e = e.valid := by
  rw [over_plain e e h0 h0 h h]
  have := pages_bd e.level
  cases e.valid
  · simp
  · simp; omega
theorem covers_first (e : Ent) (h0 : 0 ≤ e.vpn) (h : mayE e = true) : coversE e (ofv e.vpn) = e.valid := by
  rw [covers_range e _ (ofv_bd _).1 h]
  cases v : e.valid
  · simp
  · obtain ⟨_, n, _⟩ := mayE_valid h v
    have := pages_bd e.level
    rw [num_ofv _ h0 n]; simp; omega
theorem over_covers (e f : Ent) (h0 : 0 ≤ e.vpn) (k0 : 0 ≤ f.vpn) (h : mayE e = true) (k : mayE f = true) (o : overE e f = true) :
    (coversE e (ofv e.vpn) = true ∧ coversE f (ofv e.vpn) = true) ∨ (coversE e (ofv f.vpn) = true ∧ coversE f (ofv f.vpn) = true) := by
  unfold overE at o
  split at o
  · simp only [Bool.and_eq_true] at o
    exact .inl ⟨by rw [covers_first e h0 h]; exact o.1, o.2⟩
  · simp only [Bool.and_eq_true] at o
    exact .inr ⟨o.2, by rw [covers_first f k0 k]; exact o.1⟩
/-- entries of one level -/
theorem over_same (e f : Ent) (h0 : 0 ≤ e.vpn) (k0 : 0 ≤ f.vpn) (h : mayE e = true) (k : mayE f = true) (v : e.valid = true) (q : f.valid = true) (l : e.level = f.level) : overE e f = decide (e.vpn = f.vpn) := by
  obtain ⟨_, n, _, _, m, _⟩ := mayE_valid h v
  obtain ⟨_, n', _, _, m', _⟩ := mayE_valid k q
  rw [over_plain e f h0 k0 h k, v, q]
  rw [← l] at m' ⊢
  rw [Bool.eq_iff_iff]
  simp only [Bool.true_and, Bool.and_eq_true, decide_eq_true_eq]
  rcases pages_cases e.level with g | g | g <;> rw [g] at m m' ⊢ <;> omega
theorem num_ofv' (n : Int) (h0 : 0 ≤ n) : num (ofv n) = n % 134217728 := by
  unfold num ofv ext39; split <;> omega
theorem cov_last (e : Ent) (h0 : 0 ≤ e.vpn) (h : mayE e = true) (v : e.valid = true) : coversE e (ofv (e.vpn + pages e.level - 1)) = true := by
  obtain ⟨_, n, _, _, m, _⟩ := mayE_valid h v
  have g := pages_bd e.level
  rw [covers_range e _ (ofv_bd _).1 h, v, num_ofv' _ (by omega)]
  simp only [Bool.true_and, Bool.and_eq_true, decide_eq_true_eq]
  rcases pages_cases e.level with q | q | q <;> rw [q] at m ⊢ <;> omega
theorem cov_ahead (e : Ent) (h0 : 0 ≤ e.vpn) (h : mayE e = true) (v : e.valid = true) : coversE e (ofv (e.vpn + 134217728 - 1)) = false := by
  obtain ⟨_, n, _, _, m, _⟩ := mayE_valid h v
  have g := pages_bd e.level
  rw [covers_range e _ (ofv_bd _).1 h, v, num_ofv' _ (by omega)]
  simp only [Bool.true_and, Bool.and_eq_false_iff, decide_eq_false_iff_not]
  rcases pages_cases e.level with q | q | q <;> rw [q] at m ⊢ <;> omega
theorem cov_behind (e : Ent) (h0 : 0 ≤ e.vpn) (h : mayE e = true) (v : e.valid = true) : coversE e (ofv (e.vpn + pages e.level)) = false := by
  obtain ⟨_, n, _, _, m, _⟩ := mayE_valid h v
  have g := pages_bd e.level
  rw [covers_range e _ (ofv_bd _).1 h, v, num_ofv' _ (by omega)]
  simp only [Bool.true_and, Bool.and_eq_false_iff, decide_eq_false_iff_not]
  rcases pages_cases e.level with q | q | q <;> rw [q] at m ⊢ <;> omega
theorem off_ofv (n l : Int) (h0 : 0 ≤ n) : off (ofv n) l = n % pages l * 4096 := by
  unfold off
  rw [sz_pages]
  unfold ofv ext39
  rcases pages_cases l with q | q | q <;> rw [q] <;> split <;> omega
theorem phys_first (l vpn ppn : Int) (h0 : 0 ≤ vpn) (m : vpn % pages l = 0) : physE l ppn (ofv vpn) = 4096 * ppn := by
  unfold physE; rw [off_ofv _ _ h0, m]; omega
theorem phys_last (l vpn ppn : Int) (h0 : 0 ≤ vpn) (m : vpn % pages l = 0) : physE l ppn (ofv (vpn + pages l - 1)) = 4096 * (ppn + pages l - 1) := by
  have g := pages_bd l
  unfold physE; rw [off_ofv _ _ (by omega)]
  rcases pages_cases l with q | q | q <;> rw [q] at m ⊢ <;> omega
end Go.Proofs.YtjgnckhbafgalaaDoor.EntryP
