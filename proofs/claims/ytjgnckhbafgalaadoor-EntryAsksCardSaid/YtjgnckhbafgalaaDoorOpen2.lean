/- Arguments opened: structs that hold structs. -/
import Derived.Test.YtjgnckhbafgalaaDoorOpen
namespace Go.Proofs.YtjgnckhbafgalaaDoor.Open
open Go.RowKit Go.WideShapes Go.ChangeShapes Go.Proofs.YtjgnckhbafgalaaDoor.Base
set_option linter.unusedVariables false
set_option linter.unusedSimpArgs false
section
variable {H : Type} {enc : TypeId × Value → H} {W : World} {base b0 : Nat} {sp : Nat → Bool} {held : Bool} {n : Nat} {r : Reach}
theorem sub_perm {c0 c1 c2 c3 : Value} {x : Option (DataW H × List MemPlace)} {y : DataW H × List MemPlace} (h : DataW.trod enc Tryd.prog W base sp held n 28 [c0, c1, c2, c3] = x) (hx : x = some y) : ∃ x0 x1 x2 x3, c0 = .bool x0 ∧ c1 = .bool x1 ∧ c2 = .bool x2 ∧ c3 = .bool x3 := by
  rw [hx] at h
  obtain ⟨xs, n, _, _, _, hlen, hfd⟩ := DataW.trod_struct Tryd.underlying28 h
  have g := fun i f (e : _ = some f) => hfd i f e
  have k4 : Tryd.prog.cellsOf 4 = 1 := by kernel_rfl
  have k64 : Tryd.prog.cellsOf 22 = 1 := by kernel_rfl
  have ki : Tryd.prog.cellsOf 3 = 1 := by kernel_rfl
  have hl : xs.length = 4 := hlen
  have h0 : DataW.trod enc Tryd.prog W base sp held n 4 [c0] = xs[0]? := by have := g 0 _ rfl; simpa [Value.cells, k4, k64, ki] using this
  obtain ⟨y0, q0⟩ := some_of hl (show 0 < 4 by decide)
  obtain ⟨x0, rfl⟩ := cell_bool (c := c0) h0 q0
  have h1 : DataW.trod enc Tryd.prog W base sp held n 4 [c1] = xs[1]? := by have := g 1 _ rfl; simpa [Value.cells, k4, k64, ki] using this
  obtain ⟨y1, q1⟩ := some_of hl (show 1 < 4 by decide)
  obtain ⟨x1, rfl⟩ := cell_bool (c := c1) h1 q1
  have h2 : DataW.trod enc Tryd.prog W base sp held n 4 [c2] = xs[2]? := by have := g 2 _ rfl; simpa [Value.cells, k4, k64, ki] using this
  obtain ⟨y2, q2⟩ := some_of hl (show 2 < 4 by decide)
  obtain ⟨x2, rfl⟩ := cell_bool (c := c2) h2 q2
  have h3 : DataW.trod enc Tryd.prog W base sp held n 4 [c3] = xs[3]? := by have := g 3 _ rfl; simpa [Value.cells, k4, k64, ki] using this
  obtain ⟨y3, q3⟩ := some_of hl (show 3 < 4 by decide)
  obtain ⟨x3, rfl⟩ := cell_bool (c := c3) h3 q3
  exact ⟨x0, x1, x2, x3, rfl, rfl, rfl, rfl⟩
theorem sub_pte {c0 c1 c2 c3 c4 c5 c6 c7 c8 c9 c10 : Value} {x : Option (DataW H × List MemPlace)} {y : DataW H × List MemPlace} (h : DataW.trod enc Tryd.prog W base sp held n 24 [c0, c1, c2, c3, c4, c5, c6, c7, c8, c9, c10] = x) (hx : x = some y) : ∃ x0 x1 x2 x3 x4 x5 x6 x7 x8 x9 x10, c0 = .bool x0 ∧ c1 = .bool x1 ∧ c2 = .bool x2 ∧ c3 = .bool x3 ∧ c4 = .bool x4 ∧ c5 = .bool x5 ∧ c6 = .bool x6 ∧ c7 = .bool x7 ∧ c8 = .int .u64 x8 ∧ c9 = .int .u64 x9 ∧ c10 = .int .u64 x10 ∧ U x8 ∧ U x9 ∧ U x10 := by
  rw [hx] at h
  obtain ⟨xs, n, _, _, _, hlen, hfd⟩ := DataW.trod_struct Tryd.underlying24 h
  have g := fun i f (e : _ = some f) => hfd i f e
  have k4 : Tryd.prog.cellsOf 4 = 1 := by kernel_rfl
  have k64 : Tryd.prog.cellsOf 22 = 1 := by kernel_rfl
  have ki : Tryd.prog.cellsOf 3 = 1 := by kernel_rfl
  have hl : xs.length = 11 := hlen
  have h0 : DataW.trod enc Tryd.prog W base sp held n 4 [c0] = xs[0]? := by have := g 0 _ rfl; simpa [Value.cells, k4, k64, ki] using this
  obtain ⟨y0, q0⟩ := some_of hl (show 0 < 11 by decide)
  obtain ⟨x0, rfl⟩ := cell_bool (c := c0) h0 q0
  have h1 : DataW.trod enc Tryd.prog W base sp held n 4 [c1] = xs[1]? := by have := g 1 _ rfl; simpa [Value.cells, k4, k64, ki] using this
  obtain ⟨y1, q1⟩ := some_of hl (show 1 < 11 by decide)
  obtain ⟨x1, rfl⟩ := cell_bool (c := c1) h1 q1
  have h2 : DataW.trod enc Tryd.prog W base sp held n 4 [c2] = xs[2]? := by have := g 2 _ rfl; simpa [Value.cells, k4, k64, ki] using this
  obtain ⟨y2, q2⟩ := some_of hl (show 2 < 11 by decide)
  obtain ⟨x2, rfl⟩ := cell_bool (c := c2) h2 q2
  have h3 : DataW.trod enc Tryd.prog W base sp held n 4 [c3] = xs[3]? := by have := g 3 _ rfl; simpa [Value.cells, k4, k64, ki] using this
  obtain ⟨y3, q3⟩ := some_of hl (show 3 < 11 by decide)
  obtain ⟨x3, rfl⟩ := cell_bool (c := c3) h3 q3
  have h4 : DataW.trod enc Tryd.prog W base sp held n 4 [c4] = xs[4]? := by have := g 4 _ rfl; simpa [Value.cells, k4, k64, ki] using this
  obtain ⟨y4, q4⟩ := some_of hl (show 4 < 11 by decide)
  obtain ⟨x4, rfl⟩ := cell_bool (c := c4) h4 q4
  have h5 : DataW.trod enc Tryd.prog W base sp held n 4 [c5] = xs[5]? := by have := g 5 _ rfl; simpa [Value.cells, k4, k64, ki] using this
  obtain ⟨y5, q5⟩ := some_of hl (show 5 < 11 by decide)
  obtain ⟨x5, rfl⟩ := cell_bool (c := c5) h5 q5
  have h6 : DataW.trod enc Tryd.prog W base sp held n 4 [c6] = xs[6]? := by have := g 6 _ rfl; simpa [Value.cells, k4, k64, ki] using this
  obtain ⟨y6, q6⟩ := some_of hl (show 6 < 11 by decide)
  obtain ⟨x6, rfl⟩ := cell_bool (c := c6) h6 q6
  have h7 : DataW.trod enc Tryd.prog W base sp held n 4 [c7] = xs[7]? := by have := g 7 _ rfl; simpa [Value.cells, k4, k64, ki] using this
  obtain ⟨y7, q7⟩ := some_of hl (show 7 < 11 by decide)
  obtain ⟨x7, rfl⟩ := cell_bool (c := c7) h7 q7
  have h8 : DataW.trod enc Tryd.prog W base sp held n 22 [c8] = xs[8]? := by have := g 8 _ rfl; simpa [Value.cells, k4, k64, ki] using this
  obtain ⟨y8, q8⟩ := some_of hl (show 8 < 11 by decide)
  obtain ⟨x8, rfl, u8⟩ := cell_u64 (c := c8) h8 q8
  have h9 : DataW.trod enc Tryd.prog W base sp held n 22 [c9] = xs[9]? := by have := g 9 _ rfl; simpa [Value.cells, k4, k64, ki] using this
  obtain ⟨y9, q9⟩ := some_of hl (show 9 < 11 by decide)
  obtain ⟨x9, rfl, u9⟩ := cell_u64 (c := c9) h9 q9
  have h10 : DataW.trod enc Tryd.prog W base sp held n 22 [c10] = xs[10]? := by have := g 10 _ rfl; simpa [Value.cells, k4, k64, ki] using this
  obtain ⟨y10, q10⟩ := some_of hl (show 10 < 11 by decide)
  obtain ⟨x10, rfl, u10⟩ := cell_u64 (c := c10) h10 q10
  exact ⟨x0, x1, x2, x3, x4, x5, x6, x7, x8, x9, x10, rfl, rfl, rfl, rfl, rfl, rfl, rfl, rfl, rfl, rfl, rfl, u8, u9, u10⟩
theorem open_entry {v : Value} {d : DataW H} {p : List MemPlace} (hv : Value.okWide Tryd.prog W r b0 30 v) (h : DataW.Trod enc Tryd.prog W base sp held 30 v d p) :
    ∃ x0 x1 x2 x3 x4 x5 x6 x7 x8 x9 x10, v = .agg #[.bool x0, .int .u64 x1, .bool x2, .int .i64 x3, .int .u64 x4, .int .u64 x5, .bool x6, .bool x7, .bool x8, .bool x9, .bool x10] ∧ U x1 ∧ (-9223372036854775808 ≤ x3 ∧ x3 ≤ 9223372036854775807) ∧ U x4 ∧ U x5 := by
  obtain ⟨⟨l⟩, rfl, hsz⟩ := okWide_struct Tryd.underlying30 hv
  rw [show Tryd.prog.cellsOf 30 = 11 by kernel_rfl] at hsz
  obtain ⟨fuel, hf⟩ := h
  obtain ⟨xs, n, _, _, _, hlen, hfd⟩ := DataW.trod_struct Tryd.underlying30 hf
  match l, hsz with
  | [c0, c1, c2, c3, c4, c5, c6, c7, c8, c9, c10], _ =>
    have g := fun i f (e : _ = some f) => hfd i f e
    have k4 : Tryd.prog.cellsOf 4 = 1 := by kernel_rfl
    have k64 : Tryd.prog.cellsOf 22 = 1 := by kernel_rfl
    have ki : Tryd.prog.cellsOf 3 = 1 := by kernel_rfl
    have kperm : Tryd.prog.cellsOf 28 = 4 := by kernel_rfl
    have hl : xs.length = 8 := hlen
    have h0 : DataW.trod enc Tryd.prog W base sp held n 4 [c0] = xs[0]? := by have := g 0 _ rfl; simpa [Value.cells, k4, k64, ki, kperm] using this
    obtain ⟨y0, q0⟩ := some_of hl (show 0 < 8 by decide)
    obtain ⟨x0, rfl⟩ := cell_bool (c := c0) h0 q0
    have h1 : DataW.trod enc Tryd.prog W base sp held n 22 [c1] = xs[1]? := by have := g 1 _ rfl; simpa [Value.cells, k4, k64, ki, kperm] using this
    obtain ⟨y1, q1⟩ := some_of hl (show 1 < 8 by decide)
    obtain ⟨x1, rfl, u1⟩ := cell_u64 (c := c1) h1 q1
    have h2 : DataW.trod enc Tryd.prog W base sp held n 4 [c2] = xs[2]? := by have := g 2 _ rfl; simpa [Value.cells, k4, k64, ki, kperm] using this
    obtain ⟨y2, q2⟩ := some_of hl (show 2 < 8 by decide)
    obtain ⟨x2, rfl⟩ := cell_bool (c := c2) h2 q2
    have h3 : DataW.trod enc Tryd.prog W base sp held n 3 [c3] = xs[3]? := by have := g 3 _ rfl; simpa [Value.cells, k4, k64, ki, kperm] using this
    obtain ⟨y3, q3⟩ := some_of hl (show 3 < 8 by decide)
    obtain ⟨x3, rfl, u3⟩ := cell_int (c := c3) h3 q3
    have h4 : DataW.trod enc Tryd.prog W base sp held n 22 [c4] = xs[4]? := by have := g 4 _ rfl; simpa [Value.cells, k4, k64, ki, kperm] using this
    obtain ⟨y4, q4⟩ := some_of hl (show 4 < 8 by decide)
    obtain ⟨x4, rfl, u4⟩ := cell_u64 (c := c4) h4 q4
    have h5 : DataW.trod enc Tryd.prog W base sp held n 22 [c5] = xs[5]? := by have := g 5 _ rfl; simpa [Value.cells, k4, k64, ki, kperm] using this
    obtain ⟨y5, q5⟩ := some_of hl (show 5 < 8 by decide)
    obtain ⟨x5, rfl, u5⟩ := cell_u64 (c := c5) h5 q5
    have h6 : DataW.trod enc Tryd.prog W base sp held n 28 [c6, c7, c8, c9] = xs[6]? := by have := g 6 _ rfl; simpa [Value.cells, k4, k64, ki, kperm] using this
    obtain ⟨y6, q6⟩ := some_of hl (show 6 < 8 by decide)
    obtain ⟨x6, x7, x8, x9, rfl, rfl, rfl, rfl⟩ := sub_perm h6 q6
    have h7 : DataW.trod enc Tryd.prog W base sp held n 4 [c10] = xs[7]? := by have := g 7 _ rfl; simpa [Value.cells, k4, k64, ki, kperm] using this
    obtain ⟨y7, q7⟩ := some_of hl (show 7 < 8 by decide)
    obtain ⟨x10, rfl⟩ := cell_bool (c := c10) h7 q7
    exact ⟨x0, x1, x2, x3, x4, x5, x6, x7, x8, x9, x10, rfl, u1, u3, u4, u5⟩
theorem open_leaf {v : Value} {d : DataW H} {p : List MemPlace} (hv : Value.okWide Tryd.prog W r b0 26 v) (h : DataW.Trod enc Tryd.prog W base sp held 26 v d p) :
    ∃ x0 x1 x2 x3 x4 x5 x6 x7 x8 x9 x10 x11 x12, v = .agg #[.int .i64 x0, .int .u64 x1, .bool x2, .bool x3, .bool x4, .bool x5, .bool x6, .bool x7, .bool x8, .bool x9, .int .u64 x10, .int .u64 x11, .int .u64 x12] ∧ (-9223372036854775808 ≤ x0 ∧ x0 ≤ 9223372036854775807) ∧ U x1 ∧ U x10 ∧ U x11 ∧ U x12 := by
  obtain ⟨⟨l⟩, rfl, hsz⟩ := okWide_struct Tryd.underlying26 hv
  rw [show Tryd.prog.cellsOf 26 = 13 by kernel_rfl] at hsz
  obtain ⟨fuel, hf⟩ := h
  obtain ⟨xs, n, _, _, _, hlen, hfd⟩ := DataW.trod_struct Tryd.underlying26 hf
  match l, hsz with
  | [c0, c1, c2, c3, c4, c5, c6, c7, c8, c9, c10, c11, c12], _ =>
    have g := fun i f (e : _ = some f) => hfd i f e
    have k4 : Tryd.prog.cellsOf 4 = 1 := by kernel_rfl
    have k64 : Tryd.prog.cellsOf 22 = 1 := by kernel_rfl
    have ki : Tryd.prog.cellsOf 3 = 1 := by kernel_rfl
    have kpte : Tryd.prog.cellsOf 24 = 11 := by kernel_rfl
    have hl : xs.length = 3 := hlen
    have h0 : DataW.trod enc Tryd.prog W base sp held n 3 [c0] = xs[0]? := by have := g 0 _ rfl; simpa [Value.cells, k4, k64, ki, kpte] using this
    obtain ⟨y0, q0⟩ := some_of hl (show 0 < 3 by decide)
    obtain ⟨x0, rfl, u0⟩ := cell_int (c := c0) h0 q0
    have h1 : DataW.trod enc Tryd.prog W base sp held n 22 [c1] = xs[1]? := by have := g 1 _ rfl; simpa [Value.cells, k4, k64, ki, kpte] using this
    obtain ⟨y1, q1⟩ := some_of hl (show 1 < 3 by decide)
    obtain ⟨x1, rfl, u1⟩ := cell_u64 (c := c1) h1 q1
    have h2 : DataW.trod enc Tryd.prog W base sp held n 24 [c2, c3, c4, c5, c6, c7, c8, c9, c10, c11, c12] = xs[2]? := by have := g 2 _ rfl; simpa [Value.cells, k4, k64, ki, kpte] using this
    obtain ⟨y2, q2⟩ := some_of hl (show 2 < 3 by decide)
    obtain ⟨x2, x3, x4, x5, x6, x7, x8, x9, x10, x11, x12, rfl, rfl, rfl, rfl, rfl, rfl, rfl, rfl, rfl, rfl, rfl, u10, u11, u12⟩ := sub_pte h2 q2
    exact ⟨x0, x1, x2, x3, x4, x5, x6, x7, x8, x9, x10, x11, x12, rfl, u0, u1, u10, u11, u12⟩
end
end Go.Proofs.YtjgnckhbafgalaaDoor.Open
