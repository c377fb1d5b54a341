/- What the functions of the layer entry answer, in plain data. No program here. -/
import Derived.Test.YtjgnckhbafgalaaDoorPteSpec
namespace Go.Proofs.YtjgnckhbafgalaaDoor.EntrySpec
open Go.RowKit Go.Proofs.YtjgnckhbafgalaaDoor.Bv Go.Proofs.YtjgnckhbafgalaaDoor.VaSpec Go.Proofs.YtjgnckhbafgalaaDoor.PteSpec
set_option linter.unusedVariables false
set_option linter.unusedSimpArgs false
structure Ent where
  valid : Bool
  asid : Int
  glob : Bool
  level : Int
  vpn : Int
  ppn : Int
  perm : Perm
  dirty : Bool
deriving DecidableEq
def zeroE : Ent := ⟨false, 0, false, 0, 0, 0, ⟨false, false, false, false⟩, false⟩
def pages (l : Int) : Int := sz l / 4096
/-- the numbers of an entry that may be -/
def rightE (level vpn ppn asid : Int) : Bool := decide (vpn < 134217728) && decide (ppn < 17592186044416) && decide (asid < 65536) && (vpn % pages level == 0) && (ppn % pages level == 0)
def mayE (e : Ent) : Bool := if e.valid && (decide (0 ≤ e.level) && decide (e.level ≤ 2)) then rightE e.level e.vpn e.ppn e.asid else decide (e = zeroE)
def cov (level vpn va : Int) : Bool := num (base va level) == vpn
def coversE (e : Ent) (va : Int) : Bool := e.valid && cov e.level e.vpn va
def matchesE (e : Ent) (asid va : Int) : Bool := coversE e va && (e.glob || e.asid == asid)
def physE (level ppn va : Int) : Int := ppn * 4096 + off va level
def overE (e f : Ent) : Bool := if e.level < f.level then e.valid && coversE f (ofv e.vpn) else f.valid && coversE e (ofv f.vpn)
def ofE (level ppn : Int) (g d r w x u : Bool) (va asid : Int) : Ent := ⟨true, asid, g, level, num (base va level), ppn, ⟨r, w, x, u⟩, d⟩
theorem pages_cases (l : Int) : pages l = 1 ∨ pages l = 512 ∨ pages l = 262144 := by
  unfold pages sz; split
  · left; rfl
  · split
    · right; left; rfl
    · right; right; rfl
theorem pages_bd (l : Int) : 1 ≤ pages l ∧ pages l ≤ 262144 := by rcases pages_cases l with h | h | h <;> omega
theorem sz_pages (l : Int) : sz l = 4096 * pages l := by
  unfold pages sz; split
  · rfl
  · split <;> rfl
theorem numbase (va l : Int) (h : 0 ≤ va) : num (base va l) = num va - num va % pages l := by
  unfold num base
  rw [sz_pages]
  rcases pages_cases l with e | e | e <;> rw [e] <;> omega
theorem mayE_valid {e : Ent} (h : mayE e = true) (v : e.valid = true) : (0 ≤ e.level ∧ e.level ≤ 2) ∧ e.vpn < 134217728 ∧ e.ppn < 17592186044416 ∧ e.asid < 65536 ∧ e.vpn % pages e.level = 0 ∧ e.ppn % pages e.level = 0 := by
  unfold mayE at h
  split at h
  · rename_i q
    simp at q
    unfold rightE at h; simp at h
    omega
  · simp at h; rw [h] at v; cases v
theorem mayE_zero {e : Ent} (h : mayE e = true) (v : e.valid = false) : e = zeroE := by
  unfold mayE at h; rw [v] at h; simpa using h
theorem mayE_bd {e : Ent} (h : mayE e = true) : (0 ≤ e.level ∧ e.level ≤ 2) ∧ e.vpn < 134217728 ∧ e.ppn < 17592186044416 := by
  cases v : e.valid
  · rw [mayE_zero h v]; decide
  · obtain ⟨a, b, c, _⟩ := mayE_valid h v; exact ⟨a, b, c⟩
end Go.Proofs.YtjgnckhbafgalaaDoor.EntrySpec
