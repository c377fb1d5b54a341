/- Words of this session's own proofs: blocks of the call's own, told whole; slices that read as lists. -/
import Derived.Below
import Derived.WalkKit
import Derived.OwnWalk
import Derived.Laws.AppendOwn
import Derived.Deep.QuietTactic
import Derived.Laws.Tables
namespace Go.Proofs.YtjgnckhbafgalaaDoor.MemL
open Go.RowKit
set_option linter.unusedVariables false
/-- block b holds these cells, and may be written -/
def Bx (w : World) (b : Nat) (c : Array Value) : Prop := ∃ T, w.heap[b]? = some (.cells c T (0, 0))
theorem Bx.lt {w : World} {b : Nat} {c : Array Value} (h : Bx w b c) : b < w.heap.size := by
  obtain ⟨T, h⟩ := h
  rcases Nat.lt_or_ge b w.heap.size with k | k
  · exact k
  · rw [Array.getElem?_eq_none k] at h; cases h
theorem Bx.cell {w : World} {b : Nat} {c : Array Value} (h : Bx w b c) : ∀ i, w.cell? ⟨b, i, none⟩ = c[i]? := fun i => by
  obtain ⟨T, h⟩ := h; unfold World.cell?; simp [h]
theorem Bx.free {w : World} {b : Nat} {c : Array Value} (h : Bx w b c) : ∀ i, w.frozen? ⟨b, i, none⟩ = false := fun i => by
  obtain ⟨T, h⟩ := h; unfold World.frozen?; simp [h]
theorem Bx.of_below {w w' : World} {b n : Nat} {c : Array Value} (h : Bx w b c) (hb : Below n w w') (hn : b < n) : Bx w' b c := by
  obtain ⟨T, h⟩ := h; exact ⟨T, (hb.block b hn).trans h⟩
theorem Bx.below {w w' : World} {b : Nat} {c : Array Value} (h : Bx w b c) (hb : Below w.heap.size w w') : Bx w' b c := h.of_below hb h.lt
theorem Bx.drewN {w : World} {b n : Nat} {c : Array Value} (h : Bx w b c) : Bx (w.drewN n) b c := h
theorem Bx.drew {w : World} {b : Nat} {c : Array Value} (h : Bx w b c) : Bx w.drew b c := h
theorem Bx.alloc {w : World} {b : Nat} {c : Array Value} {o : Obj} (h : Bx w b c) : Bx (w.alloc o) b c := by
  have k := h.lt
  obtain ⟨T, h⟩ := h
  exact ⟨T, by show (w.heap.push o)[b]? = _; rw [Array.getElem?_push, if_neg (by omega)]; exact h⟩
theorem Bx.new {w : World} {c : Array Value} {T : TypeId} : Bx (w.alloc (.cells c T)) w.heap.size c :=
  ⟨T, by show (w.heap.push _)[w.heap.size]? = _; rw [Array.getElem?_push, if_pos rfl]⟩
theorem Bx.set_far {w : World} {b d i : Nat} {c : Array Value} {v : Value} (h : Bx w b c) (hne : d ≠ b) : Bx (w.setCell ⟨d, i, none⟩ v) b c := by
  obtain ⟨T, h⟩ := h
  exact ⟨T, by simp only [World.setCell, Array.getElem?_modify]; rw [if_neg hne]; exact h⟩
theorem Bx.set_same {w : World} {b i : Nat} {c : Array Value} {v : Value} (h : Bx w b c) : Bx (w.setCell ⟨b, i, none⟩ v) b (c.setIfInBounds i v) := by
  obtain ⟨T, h⟩ := h
  exact ⟨T, by simp [World.setCell, Array.getElem?_modify, h]⟩
theorem Bx.cast {w : World} {b : Nat} {c d : Array Value} (h : Bx w b c) (e : c = d) : Bx w b d := e ▸ h
theorem Bx.row_same {w : World} {b : Nat} {c d : Array Value} (h : Bx w b c) : Bx (w.setRow b d) b d := by
  obtain ⟨T, h⟩ := h; exact ⟨T, setRow_heap w b c d T (0, 0) h⟩
theorem Bx.row_far {w : World} {b g : Nat} {c d : Array Value} (h : Bx w b c) (hne : g ≠ b) : Bx (w.setRow g d) b c := by
  obtain ⟨T, h⟩ := h
  exact ⟨T, by unfold World.setRow; simp only [Array.getElem?_modify]; rw [if_neg hne]; exact h⟩
theorem below_row {n g : Nat} {w0 w : World} (h : Below n w0 w) (hg : n ≤ g) (d : Array Value) : Below n w0 (w.setRow g d) :=
  h.trans ⟨rfl, rfl, rfl, by simp [World.setRow], fun k hk => by unfold World.setRow; simp only [Array.getElem?_modify]; rw [if_neg (by omega)]⟩
/-- a slice value of n elements, each of so many cells, that reads as these cells -/
def Sl (w : World) (v : Value) (n size : Nat) (xs : List Value) : Prop :=
  xs.length = n * size ∧ ((v = .slice none 0 0 ∧ n = 0) ∨ ∃ b o cap, v = .slice (some ⟨b, o, none⟩) n cap ∧ b < w.heap.size ∧ n ≤ cap ∧ cap ≤ maxLen ∧ ∀ i, i < n * size → w.cell? ⟨b, o + i, none⟩ = xs[i]?)
theorem Sl.below {w w' : World} {v : Value} {n size : Nat} {xs : List Value} (h : Sl w v n size xs) (hb : Below w.heap.size w w') : Sl w' v n size xs := by
  obtain ⟨h1, h2⟩ := h
  refine ⟨h1, ?_⟩
  rcases h2 with h2 | ⟨b, o, cap, e, l, h3, h4, h5⟩
  · exact .inl h2
  · exact .inr ⟨b, o, cap, e, Nat.lt_of_lt_of_le l hb.size, h3, h4, fun i hi => (hb.cell (p := ⟨b, o + i, none⟩) l).trans (h5 i hi)⟩
theorem Sl.of_owns {w : World} {base e size n : Nat} {v : Value} {xs : List Value} (h : w.ownsRow base e size v n xs) : Sl w v n size xs := by
  obtain ⟨h1, h2⟩ := h
  refine ⟨h1, ?_⟩
  rcases h2 with h2 | ⟨g, cap, cur, rfl, hb, hh, h3, h4, h5, h6⟩
  · exact .inl h2
  · refine .inr ⟨g, 0, cap, rfl, (Bx.lt ⟨e, hh⟩), h3, h4, fun i hi => ?_⟩
    rw [Nat.zero_add, (Bx.cell ⟨e, hh⟩ : _) i, ← h6, List.getElem?_take_of_lt hi, Array.getElem?_toList]
/-- a world is given a name -/
theorem gen {P : Program} {Q : Exit → Act → World → Prop} {a : Act} {w : World} {c : Code} {F : World → Prop} (hF : F w) (h : ∀ w', F w' → c.wp P Q a w') : c.wp P Q a w := h w hF
end Go.Proofs.YtjgnckhbafgalaaDoor.MemL
