/- Arguments opened (structs by value), and all arguments read again where nothing below has changed. -/
import Derived.Test.YtjgnckhbafgalaaDoorBase
import Derived.ProofKit
import Derived.Carry
import Derived.ChangeOld
import Derived.ChangeArms
import Derived.WideShapes
namespace Go.Proofs.YtjgnckhbafgalaaDoor.Open
open Go.RowKit Go.WideShapes Go.ChangeShapes Go.Proofs.YtjgnckhbafgalaaDoor.Base
set_option linter.unusedVariables false
set_option linter.unusedSimpArgs false
section
variable {H : Type} {enc : TypeId × Value → H} {P : Program}
theorem keepAll (hl : laidOutB P = true) {W W' : World} (hb : Below W.heap.size W W') : ∀ {ts : List TypeId} {vs : List Value} {ds : List (DataW H)} {ps : List MemPlace},
    (ts.all fun t => P.readableRec t && decide (t < P.types.size)) = true → DataW.TrodAll enc P W 0 (fun _ => true) true ts vs ds ps → DataW.TrodAll enc P W' 0 (fun b => decide (b < W.heap.size)) true ts vs ds ps
  | [], [], [], _, _, h => h
  | t :: ts, v :: vs, d :: ds, ps, ht, ⟨a, b, h1, h2, e⟩ => by
    simp only [List.all_cons, Bool.and_eq_true, decide_eq_true_eq] at ht
    have h1' := h1
    obtain ⟨n, hn⟩ := h1
    exact ⟨a, b, Below.trod hl ht.1.1 ht.1.2 h1' hb (fun x hx => DataW.trod_lt n t _ _ hn x hx), keepAll hl hb ht.2 h2, e⟩
end
section
variable {H : Type} {enc : TypeId × Value → H} {W : World} {base b0 : Nat} {sp : Nat → Bool} {held : Bool} {n : Nat} {r : Reach}
theorem cell_bool {c : Value} {x : Option (DataW H × List MemPlace)} {y : DataW H × List MemPlace} (h : DataW.trod enc Tryd.prog W base sp held n 4 [c] = x) (hx : x = some y) : ∃ b, c = .bool b := by
  rw [hx] at h
  obtain ⟨b, e, _⟩ := DataW.trod_bool Tryd.underlying4 h
  exact ⟨b, by simpa using e⟩
theorem cell_u64 {c : Value} {x : Option (DataW H × List MemPlace)} {y : DataW H × List MemPlace} (h : DataW.trod enc Tryd.prog W base sp held n 22 [c] = x) (hx : x = some y) : ∃ a, c = .int .u64 a ∧ U a := by
  rw [hx] at h
  obtain ⟨b, e, _, wf⟩ := DataW.trod_int Tryd.underlying22 h
  exact ⟨b, by simpa using e, U.of wf⟩
theorem cell_int {c : Value} {x : Option (DataW H × List MemPlace)} {y : DataW H × List MemPlace} (h : DataW.trod enc Tryd.prog W base sp held n 3 [c] = x) (hx : x = some y) : ∃ a, c = .int .i64 a ∧ (-9223372036854775808 ≤ a ∧ a ≤ 9223372036854775807) := by
  rw [hx] at h
  obtain ⟨b, e, _, wf⟩ := DataW.trod_int Tryd.underlying3 h
  refine ⟨b, by simpa using e, ?_⟩
  simp [Lit.wf, IntKind.min, IntKind.max, IntKind.bits, IntKind.signed] at wf; omega
theorem some_of {α : Type} {xs : List α} {m i : Nat} (h : xs.length = m) (hi : i < m) : ∃ y, xs[i]? = some y := ⟨xs[i]'(by omega), List.getElem?_eq_getElem _⟩
theorem open_pte {v : Value} {d : DataW H} {p : List MemPlace} (hv : Value.okWide Tryd.prog W r b0 24 v) (h : DataW.Trod enc Tryd.prog W base sp held 24 v d p) :
    ∃ x0 x1 x2 x3 x4 x5 x6 x7 x8 x9 x10, v = .agg #[.bool x0, .bool x1, .bool x2, .bool x3, .bool x4, .bool x5, .bool x6, .bool x7, .int .u64 x8, .int .u64 x9, .int .u64 x10] ∧ U x8 ∧ U x9 ∧ U x10 := by
  obtain ⟨⟨l⟩, rfl, hsz⟩ := okWide_struct Tryd.underlying24 hv
  rw [show Tryd.prog.cellsOf 24 = 11 by kernel_rfl] at hsz
  obtain ⟨fuel, hf⟩ := h
  obtain ⟨xs, n, _, _, _, hlen, hfd⟩ := DataW.trod_struct Tryd.underlying24 hf
  match l, hsz with
  | [c0, c1, c2, c3, c4, c5, c6, c7, c8, c9, c10], _ =>
    have g := fun i f (e : _ = some f) => hfd i f e
    have k4 : Tryd.prog.cellsOf 4 = 1 := by kernel_rfl
    have k64 : Tryd.prog.cellsOf 22 = 1 := by kernel_rfl
    have h0 : DataW.trod enc Tryd.prog W base sp held n 4 [c0] = xs[0]? := by have := g 0 _ rfl; simpa [Value.cells, k4, k64] using this
    have h1 : DataW.trod enc Tryd.prog W base sp held n 4 [c1] = xs[1]? := by have := g 1 _ rfl; simpa [Value.cells, k4, k64] using this
    have h2 : DataW.trod enc Tryd.prog W base sp held n 4 [c2] = xs[2]? := by have := g 2 _ rfl; simpa [Value.cells, k4, k64] using this
    have h3 : DataW.trod enc Tryd.prog W base sp held n 4 [c3] = xs[3]? := by have := g 3 _ rfl; simpa [Value.cells, k4, k64] using this
    have h4 : DataW.trod enc Tryd.prog W base sp held n 4 [c4] = xs[4]? := by have := g 4 _ rfl; simpa [Value.cells, k4, k64] using this
    have h5 : DataW.trod enc Tryd.prog W base sp held n 4 [c5] = xs[5]? := by have := g 5 _ rfl; simpa [Value.cells, k4, k64] using this
    have h6 : DataW.trod enc Tryd.prog W base sp held n 4 [c6] = xs[6]? := by have := g 6 _ rfl; simpa [Value.cells, k4, k64] using this
    have h7 : DataW.trod enc Tryd.prog W base sp held n 4 [c7] = xs[7]? := by have := g 7 _ rfl; simpa [Value.cells, k4, k64] using this
    have h8 : DataW.trod enc Tryd.prog W base sp held n 22 [c8] = xs[8]? := by have := g 8 _ rfl; simpa [Value.cells, k4, k64] using this
    have h9 : DataW.trod enc Tryd.prog W base sp held n 22 [c9] = xs[9]? := by have := g 9 _ rfl; simpa [Value.cells, k4, k64] using this
    have h10 : DataW.trod enc Tryd.prog W base sp held n 22 [c10] = xs[10]? := by have := g 10 _ rfl; simpa [Value.cells, k4, k64] using this
    have hl : xs.length = 11 := hlen
    obtain ⟨y0, q0⟩ := some_of hl (show 0 < 11 by decide)
    obtain ⟨y1, q1⟩ := some_of hl (show 1 < 11 by decide)
    obtain ⟨y2, q2⟩ := some_of hl (show 2 < 11 by decide)
    obtain ⟨y3, q3⟩ := some_of hl (show 3 < 11 by decide)
    obtain ⟨y4, q4⟩ := some_of hl (show 4 < 11 by decide)
    obtain ⟨y5, q5⟩ := some_of hl (show 5 < 11 by decide)
    obtain ⟨y6, q6⟩ := some_of hl (show 6 < 11 by decide)
    obtain ⟨y7, q7⟩ := some_of hl (show 7 < 11 by decide)
    obtain ⟨y8, q8⟩ := some_of hl (show 8 < 11 by decide)
    obtain ⟨y9, q9⟩ := some_of hl (show 9 < 11 by decide)
    obtain ⟨y10, q10⟩ := some_of hl (show 10 < 11 by decide)
    obtain ⟨x0, rfl⟩ := cell_bool (c := c0) h0 q0
    obtain ⟨x1, rfl⟩ := cell_bool (c := c1) h1 q1
    obtain ⟨x2, rfl⟩ := cell_bool (c := c2) h2 q2
    obtain ⟨x3, rfl⟩ := cell_bool (c := c3) h3 q3
    obtain ⟨x4, rfl⟩ := cell_bool (c := c4) h4 q4
    obtain ⟨x5, rfl⟩ := cell_bool (c := c5) h5 q5
    obtain ⟨x6, rfl⟩ := cell_bool (c := c6) h6 q6
    obtain ⟨x7, rfl⟩ := cell_bool (c := c7) h7 q7
    obtain ⟨x8, rfl, u8⟩ := cell_u64 (c := c8) h8 q8
    obtain ⟨x9, rfl, u9⟩ := cell_u64 (c := c9) h9 q9
    obtain ⟨x10, rfl, u10⟩ := cell_u64 (c := c10) h10 q10
    exact ⟨x0, x1, x2, x3, x4, x5, x6, x7, x8, x9, x10, rfl, u8, u9, u10⟩
theorem open_perm {v : Value} {d : DataW H} {p : List MemPlace} (hv : Value.okWide Tryd.prog W r b0 28 v) (h : DataW.Trod enc Tryd.prog W base sp held 28 v d p) :
    ∃ x0 x1 x2 x3, v = .agg #[.bool x0, .bool x1, .bool x2, .bool x3] := by
  obtain ⟨⟨l⟩, rfl, hsz⟩ := okWide_struct Tryd.underlying28 hv
  rw [show Tryd.prog.cellsOf 28 = 4 by kernel_rfl] at hsz
  obtain ⟨fuel, hf⟩ := h
  obtain ⟨xs, n, _, _, _, hlen, hfd⟩ := DataW.trod_struct Tryd.underlying28 hf
  match l, hsz with
  | [c0, c1, c2, c3], _ =>
    have g := fun i f (e : _ = some f) => hfd i f e
    have k4 : Tryd.prog.cellsOf 4 = 1 := by kernel_rfl
    have hl : xs.length = 4 := hlen
    have h0 : DataW.trod enc Tryd.prog W base sp held n 4 [c0] = xs[0]? := by have := g 0 _ rfl; simpa [Value.cells, k4] using this
    obtain ⟨y0, q0⟩ := some_of hl (show 0 < 4 by decide)
    obtain ⟨x0, rfl⟩ := cell_bool (c := c0) h0 q0
    have h1 : DataW.trod enc Tryd.prog W base sp held n 4 [c1] = xs[1]? := by have := g 1 _ rfl; simpa [Value.cells, k4] using this
    obtain ⟨y1, q1⟩ := some_of hl (show 1 < 4 by decide)
    obtain ⟨x1, rfl⟩ := cell_bool (c := c1) h1 q1
    have h2 : DataW.trod enc Tryd.prog W base sp held n 4 [c2] = xs[2]? := by have := g 2 _ rfl; simpa [Value.cells, k4] using this
    obtain ⟨y2, q2⟩ := some_of hl (show 2 < 4 by decide)
    obtain ⟨x2, rfl⟩ := cell_bool (c := c2) h2 q2
    have h3 : DataW.trod enc Tryd.prog W base sp held n 4 [c3] = xs[3]? := by have := g 3 _ rfl; simpa [Value.cells, k4] using this
    obtain ⟨y3, q3⟩ := some_of hl (show 3 < 4 by decide)
    obtain ⟨x3, rfl⟩ := cell_bool (c := c3) h3 q3
    exact ⟨x0, x1, x2, x3, rfl⟩
end
end Go.Proofs.YtjgnckhbafgalaaDoor.Open
