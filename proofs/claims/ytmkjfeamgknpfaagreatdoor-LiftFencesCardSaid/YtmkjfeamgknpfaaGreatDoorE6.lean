/- Texts of this claim, one behind the other: Laid. -/
import Derived.Test.YtmkjfeamgknpfaaGreatDoorRows
import Derived.Test.YtmkjfeamgknpfaaGreatDoorE5
import Derived.LaidMore
import Derived.Lib.LaidTab
import Derived.SevenTiedAt
import Derived.LaidHandle
import Derived.Deep.SlicePairs
set_option linter.unusedVariables false
set_option linter.unusedSimpArgs false
namespace Go.Proofs.YtmkjfeamgknpfaaGreatDoor.Laid
open Go.ChangeShapes Go.WideShapes Go.ChangeAt Go.RowKit Ax OkS LaC LaB Bv Base SpA LkF LkG MemL
set_option maxRecDepth 10000
def laidS : List (String × DataW Unit) := [("atlas/va.sizes", Rows.laid_atlas_va_sizes), ("math/bits.deBruijn64tab", Rows.laid_math_bits_deBruijn64tab), ("atlas/fence.asks", Rows.laid_atlas_fence_asks)]
theorem g_sizes : Tryz.prog.globalNamed "atlas/va.sizes" = some 0 := by kernel_rfl
theorem g_tab : Tryz.prog.globalNamed "math/bits.deBruijn64tab" = some 1 := by kernel_rfl
theorem g_asks : Tryz.prog.globalNamed "atlas/fence.asks" = some 2 := by kernel_rfl
theorem t_sizes : (Tryz.prog.globals[0]?).map (·.type) = some 192 := by kernel_rfl
theorem t_tab : (Tryz.prog.globals[1]?).map (·.type) = some 225 := by kernel_rfl
theorem t_asks : (Tryz.prog.globals[2]?).map (·.type) = some 244 := by kernel_rfl
theorem gg_of_laid {W : World} (h : laidMetH Tryz.prog laidS W) : GG W := by
  have hp := (show laidMet Tryz.prog _ W ∧ handlesMet Tryz.prog _ W from h).1
  obtain ⟨ps, ⟨g1, t1, cs1, f1, p1, q1, hg1, ht1, hv1, hd1, hr, _⟩, _, _⟩ := hp
  obtain ⟨g2, t2, cs2, f2, p2, q2, hg2, ht2, hv2, hd2, _, _⟩ := hr
  obtain rfl := Option.some.inj (g_sizes.symm.trans hg1)
  obtain rfl := Option.some.inj (t_sizes.symm.trans ht1)
  obtain rfl := Option.some.inj (g_tab.symm.trans hg2)
  obtain rfl := Option.some.inj (t_tab.symm.trans ht2)
  have e1 := Lib.cells_of_tab (k := .u64) (zs := [4096, 2097152, 1073741824]) Tryz.underlying192 Tryz.underlying25 (by kernel_rfl) (by kernel_rfl) hd1
  have e2 := Lib.cells_of_tab (k := .u8) (zs := List.map (fun n : Nat => (n : Int)) Lib.deBruijn64tab) Tryz.underlying225 Tryz.underlying5 (by kernel_rfl) (by kernel_rfl) hd2
  obtain ⟨g, t, cs, fuel, p, hg, ht, hv, hd⟩ := h.funcs (n := "atlas/fence.asks") (List.mem_cons_of_mem _ (List.mem_cons_of_mem _ (List.mem_cons_self ..)))
  obtain rfl := Option.some.inj (g_asks.symm.trans hg)
  obtain rfl := Option.some.inj (t_asks.symm.trans ht)
  have hd' : DataW.trod (funcToken Tryz.prog) Tryz.prog W 0 (fun _ => true) true fuel 244 cs.toList = some (.slice [.held [40, 97, 116, 108, 97, 115, 47, 102, 101, 110, 99, 101, 46, 102, 111, 114, 109, 41, 46, 97, 100, 100, 114], .held [40, 97, 116, 108, 97, 115, 47, 102, 101, 110, 99, 101, 46, 102, 111, 114, 109, 41, 46, 97, 115, 105, 100]] [], p) := hd
  obtain ⟨a, cap, hcs, _, hel⟩ := open_row Tryz.underlying244 (by kernel_rfl) hd'
  obtain ⟨v0, n0, q0, hc0, hr0⟩ := hel 0 _ rfl
  obtain ⟨v1, n1, q1', hc1, hr1⟩ := hel 1 _ rfl
  obtain rfl := func_of_trod (f0 := 220) Tryz.underlying245 (by kernel_rfl) hr0
  obtain rfl := func_of_trod (f0 := 222) Tryz.underlying245 (by kernel_rfl) hr1
  obtain ⟨b, off, spot⟩ := a
  have hspot : spot = none := by simpa [Addr.add] using World.cell?_spot hc0
  subst hspot
  have c1 : ∀ i, W.cell? ⟨0, i, none⟩ = cs1[i]? := fun i => by simpa using World.var?_cell hg1 hv1 i
  have c2 : ∀ i, W.cell? ⟨1, i, none⟩ = cs2[i]? := fun i => by simpa using World.var?_cell hg2 hv2 i
  have c3 : ∀ i, W.cell? ⟨2, i, none⟩ = cs[i]? := fun i => by simpa using World.var?_cell hg hv i
  refine ⟨⟨?_, ?_, ?_⟩, fun j hj => ?_, b, off, cap, ?_, by simpa [Addr.add, zyw] using hc0, by simpa [Addr.add, zyw] using hc1⟩
  · rw [c1, ← Array.getElem?_toList, e1]; rfl
  · rw [c1, ← Array.getElem?_toList, e1]; rfl
  · rw [c1, ← Array.getElem?_toList, e1]; rfl
  · rw [c2, ← Array.getElem?_toList, e2]
    simp [List.getD, hj]
  · rw [c3, ← Array.getElem?_toList, hcs]; rfl
theorem u8_of {a : Int} (wf : (Lit.int .u8 a).wf = true) : 0 ≤ a ∧ a < 256 := by
  simp [Lit.wf, IntKind.min, IntKind.max, IntKind.bits, IntKind.signed] at wf; omega
section
variable {H : Type} {enc : TypeId × Value → H} {W : World} {base b0 : Nat} {sp : Nat → Bool} {held : Bool} {n : Nat} {r : Reach}
theorem open_conf {v : Value} {d : DataW H} {p : List MemPlace} (hv : Value.okWide Tryz.prog W r b0 23 v) (h : DataW.Trod enc Tryz.prog W base sp held 23 v d p) :
    ∃ x0 x1 x2 x3, v = .agg #[.int .i64 x0, .int .i64 x1, .int .i64 x2, .int .i64 x3] := by
  obtain ⟨⟨l⟩, rfl, hsz⟩ := okWide_struct Tryz.underlying23 hv
  rw [show Tryz.prog.cellsOf 23 = 4 by kernel_rfl] at hsz
  obtain ⟨fuel, hf⟩ := h
  obtain ⟨xs, n, _, _, _, hlen, hfd⟩ := DataW.trod_struct Tryz.underlying23 hf
  match l, hsz with
  | [c0, c1, c2, c3], _ =>
    have g := fun i f (e : _ = some f) => hfd i f e
    have k4 : Tryz.prog.cellsOf 3 = 1 := by kernel_rfl
    have hl : xs.length = 4 := hlen
    have h0 : DataW.trod enc Tryz.prog W base sp held n 3 [c0] = xs[0]? := by have := g 0 _ rfl; simpa [Value.cells, k4] using this
    obtain ⟨y0, q0⟩ := Open.zbx hl (show 0 < 4 by decide)
    obtain ⟨x0, rfl, _⟩ := Open.zey (c := c0) h0 q0
    have h1 : DataW.trod enc Tryz.prog W base sp held n 3 [c1] = xs[1]? := by have := g 1 _ rfl; simpa [Value.cells, k4] using this
    obtain ⟨y1, q1⟩ := Open.zbx hl (show 1 < 4 by decide)
    obtain ⟨x1, rfl, _⟩ := Open.zey (c := c1) h1 q1
    have h2 : DataW.trod enc Tryz.prog W base sp held n 3 [c2] = xs[2]? := by have := g 2 _ rfl; simpa [Value.cells, k4] using this
    obtain ⟨y2, q2⟩ := Open.zbx hl (show 2 < 4 by decide)
    obtain ⟨x2, rfl, _⟩ := Open.zey (c := c2) h2 q2
    have h3 : DataW.trod enc Tryz.prog W base sp held n 3 [c3] = xs[3]? := by have := g 3 _ rfl; simpa [Value.cells, k4] using this
    obtain ⟨y3, q3⟩ := Open.zbx hl (show 3 < 4 by decide)
    obtain ⟨x3, rfl, _⟩ := Open.zey (c := c3) h3 q3
    exact ⟨x0, x1, x2, x3, rfl⟩
theorem z0t (b off k : Nat) : (⟨b, off, none⟩ : Addr).add k = ⟨b, off + k, none⟩ := by
  unfold Addr.add; split
  · rename_i h; subst h; rfl
  · rfl
theorem zpy {cs : List Value} {y : DataW H × List MemPlace} (hsz : cs.length = 9) (hf : DataW.trod enc Tryz.prog W base sp held n 54 cs = some y) : ∃ q : Dd, cs = q.vs ∧ UD q := by
  obtain ⟨xs, n, _, _, _, hlen, hfd⟩ := DataW.trod_struct Tryz.underlying54 hf
  match cs, hsz with
  | [c0, c1, c2, c3, c4, c5, c6, c7, c8], _ =>
    have g := fun i f (e : _ = some f) => hfd i f e
    have k_int : Tryz.prog.cellsOf 3 = 1 := by kernel_rfl
    have k_u64 : Tryz.prog.cellsOf 25 = 1 := by kernel_rfl
    have k_bool : Tryz.prog.cellsOf 4 = 1 := by kernel_rfl
    have k_perm : Tryz.prog.cellsOf 52 = 4 := by kernel_rfl
    have hl : xs.length = 6 := hlen
    have h0 : DataW.trod enc Tryz.prog W base sp held n 4 [c0] = xs[0]? := by have := g 0 _ rfl; simpa [Value.cells, k_int, k_u64, k_bool, k_perm] using this
    obtain ⟨y0, q0⟩ := Open.zbx hl (show 0 < 6 by decide)
    obtain ⟨x0, rfl⟩ := Open.zcw (c := c0) h0 q0
    have h1 : DataW.trod enc Tryz.prog W base sp held n 3 [c1] = xs[1]? := by have := g 1 _ rfl; simpa [Value.cells, k_int, k_u64, k_bool, k_perm] using this
    obtain ⟨y1, q1⟩ := Open.zbx hl (show 1 < 6 by decide)
    obtain ⟨x1, rfl, _⟩ := Open.zey (c := c1) h1 q1
    have h2 : DataW.trod enc Tryz.prog W base sp held n 25 [c2] = xs[2]? := by have := g 2 _ rfl; simpa [Value.cells, k_int, k_u64, k_bool, k_perm] using this
    obtain ⟨y2, q2⟩ := Open.zbx hl (show 2 < 6 by decide)
    obtain ⟨x2, rfl, u2⟩ := Open.zh5 (c := c2) h2 q2
    have h3 : DataW.trod enc Tryz.prog W base sp held n 25 [c3] = xs[3]? := by have := g 3 _ rfl; simpa [Value.cells, k_int, k_u64, k_bool, k_perm] using this
    obtain ⟨y3, q3⟩ := Open.zbx hl (show 3 < 6 by decide)
    obtain ⟨x3, rfl, u3⟩ := Open.zh5 (c := c3) h3 q3
    have h4 : DataW.trod enc Tryz.prog W base sp held n 3 [c4] = xs[4]? := by have := g 4 _ rfl; simpa [Value.cells, k_int, k_u64, k_bool, k_perm] using this
    obtain ⟨y4, q4⟩ := Open.zbx hl (show 4 < 6 by decide)
    obtain ⟨x4, rfl, _⟩ := Open.zey (c := c4) h4 q4
    have h5 : DataW.trod enc Tryz.prog W base sp held n 52 [c5, c6, c7, c8] = xs[5]? := by have := g 5 _ rfl; simpa [Value.cells, k_int, k_u64, k_bool, k_perm] using this
    obtain ⟨y5, q5⟩ := Open.zbx hl (show 5 < 6 by decide)
    rw [q5] at h5
    obtain ⟨zs, m, _, _, _, hlen2, hfd2⟩ := DataW.trod_struct Tryz.underlying52 h5
    have g2 := fun i f (e : _ = some f) => hfd2 i f e
    have hl2 : zs.length = 4 := hlen2
    have p0 : DataW.trod enc Tryz.prog W base sp held m 4 [c5] = zs[0]? := by have := g2 0 _ rfl; simpa [Value.cells, k_bool] using this
    obtain ⟨z0, w0⟩ := Open.zbx hl2 (show 0 < 4 by decide)
    obtain ⟨b0, rfl⟩ := Open.zcw (c := c5) p0 w0
    have p1 : DataW.trod enc Tryz.prog W base sp held m 4 [c6] = zs[1]? := by have := g2 1 _ rfl; simpa [Value.cells, k_bool] using this
    obtain ⟨z1, w1⟩ := Open.zbx hl2 (show 1 < 4 by decide)
    obtain ⟨b1, rfl⟩ := Open.zcw (c := c6) p1 w1
    have p2 : DataW.trod enc Tryz.prog W base sp held m 4 [c7] = zs[2]? := by have := g2 2 _ rfl; simpa [Value.cells, k_bool] using this
    obtain ⟨z2, w2⟩ := Open.zbx hl2 (show 2 < 4 by decide)
    obtain ⟨b2, rfl⟩ := Open.zcw (c := c7) p2 w2
    have p3 : DataW.trod enc Tryz.prog W base sp held m 4 [c8] = zs[3]? := by have := g2 3 _ rfl; simpa [Value.cells, k_bool] using this
    obtain ⟨z3, w3⟩ := Open.zbx hl2 (show 3 < 4 by decide)
    obtain ⟨b3, rfl⟩ := Open.zcw (c := c8) p3 w3
    exact ⟨⟨x0, x1, x2, x3, x4, ⟨b0, b1, b2, b3⟩⟩, rfl, u2, u3⟩
theorem open_dd {v : Value} {d : DataW H} {p : List MemPlace} (hv : Value.okWide Tryz.prog W r b0 54 v) (h : DataW.Trod enc Tryz.prog W base sp held 54 v d p) :
    ∃ q : Dd, v = .agg #[.bool q.lift, .int .i64 q.id, .int .u64 q.va, .int .u64 q.pa, .int .i64 q.lev, .bool q.p.r, .bool q.p.w, .bool q.p.x, .bool q.p.u] ∧ UD q := by
  obtain ⟨⟨l⟩, rfl, hsz⟩ := okWide_struct Tryz.underlying54 hv
  rw [show Tryz.prog.cellsOf 54 = 9 by kernel_rfl] at hsz
  obtain ⟨fuel, hf⟩ := h
  obtain ⟨q, e, hq⟩ := zpy (cs := l) hsz hf
  exact ⟨q, by rw [e]; rfl, hq⟩
theorem zvq (l : List Dd) : (zvo l).length = l.length * 9 := by
  induction l with
  | nil => rfl
  | cons c l ih => show ((_ :: _ :: _ :: _ :: _ :: _ :: _ :: _ :: _ :: zvo l).length) = _; simp only [List.length_cons, ih]; omega
theorem zpz : ∀ (l : List Dd) (i j : Nat) (q : Dd), l[i]? = some q → j < 9 → (zvo l)[i * 9 + j]? = q.vs[j]?
  | [], i, j, q, h, _ => by simp at h
  | x :: l, 0, j, q, h, hj => by
    simp at h; subst h
    show (x.vs ++ zvo l)[0 * 9 + j]? = _
    rw [Nat.zero_mul, Nat.zero_add, List.getElem?_append_left (by show j < 9; exact hj)]
  | x :: l, i + 1, j, q, h, hj => by
    have := zpz l i j q (by simpa using h) hj
    show (x.vs ++ zvo l)[(i + 1) * 9 + j]? = _
    rw [List.getElem?_append_right (by show 9 ≤ _; omega), show (i + 1) * 9 + j - x.vs.length = i * 9 + j by show (i + 1) * 9 + j - 9 = _; omega]
    exact this
theorem open_dds {v : Value} {d : DataW H} {p : List MemPlace} (hv : Value.okWide Tryz.prog W r b0 24 v) (h : DataW.Trod enc Tryz.prog W base (fun _ => true) held 24 v d p) :
    ∃ l : List Dd, (∀ x ∈ l, UD x) ∧ Ce.R (en0 (fun _ => True) W) (.s l.length 9 (zvo l)) v := by
  obtain ⟨a, len, cap, rfl⟩ := okWide_slice Tryz.underlying24 hv
  obtain ⟨fuel, hf⟩ := h
  have hf : DataW.trod enc Tryz.prog W base (fun _ => true) held fuel 24 [.slice a len cap] = some (d, p) := hf
  have ke : Tryz.prog.cellsOf 54 = 9 := by kernel_rfl
  rcases Deep.open_slice Tryz.underlying24 hf with ⟨e, _⟩ | ⟨a', len', cap', m, k, D, Pl, e, _, hl, hm, hmm, _, hx⟩
  · simp only [List.cons.injEq, and_true] at e
    refine ⟨[], fun x hx => (by cases hx), ?_⟩
    rw [e]
    exact ⟨⟨rfl, .inl ⟨rfl, rfl⟩⟩, fun a l c e => by cases e⟩
  · simp only [List.cons.injEq, and_true, Value.slice.injEq] at e
    obtain ⟨rfl, rfl, rfl⟩ := e
    have hok : Cell.ok Tryz.prog W r b0 24 (.slice (some a') len cap) := by
      have hv := hv
      unfold Value.okWide at hv
      rw [Tryz.underlying24] at hv
      unfold Cell.okWide at hv
      rw [Tryz.underlying24] at hv
      exact hv
    unfold Cell.ok at hok
    rw [Tryz.underlying24] at hok
    obtain ⟨_, _, _, hsp, row, cells, hsh, _⟩ := hok
    obtain ⟨b, off, spot⟩ := a'
    have hsp : spot = none := hsp
    subst hsp
    have hb : b < W.heap.size := by
      rcases Nat.lt_or_ge b W.heap.size with h | h
      · exact h
      · have hsh : W.shape? b = some (row, cells) := hsh
        unfold World.shape? at hsh
        rw [Array.getElem?_eq_none h] at hsh
        cases hsh
    have ku : ∀ i, i < len → ∃ q : Dd, (∀ j, j < 9 → W.cell? ⟨b, off + (i * 9 + j), none⟩ = q.vs[j]?) ∧ UD q := fun i hi => by
      obtain ⟨cs, g1, g2⟩ := hx i (by rw [hmm]; simp; omega)
      rw [ke] at g1
      obtain ⟨_, hlen, hcell⟩ := World.cells?_some g1
      obtain ⟨q, rfl, hq⟩ := zpy hlen g2
      refine ⟨q, fun j hj => ?_, hq⟩
      have e0 := hcell j (by omega)
      rw [z0t, z0t] at e0
      rw [← e0, Nat.add_assoc]
    haveI : Inhabited Dd := ⟨⟨false, 0, 0, 0, 0, ⟨false, false, false, false⟩⟩⟩
    obtain ⟨f, hf⟩ := Deep.choose_lt (α := Dd) (p := fun i q => (∀ j, j < 9 → W.cell? ⟨b, off + (i * 9 + j), none⟩ = q.vs[j]?) ∧ UD q) ku
    have hlen : ((List.range len).map f).length = len := by simp
    refine ⟨(List.range len).map f, fun x hx => ?_, ⟨by rw [zvq], .inr ⟨b, off, cap, by rw [hlen], hb, by rw [hlen]; exact hl, hm, fun i hi => ?_⟩⟩, fun _ _ _ _ => trivial⟩
    · obtain ⟨i, hi, rfl⟩ := List.mem_map.1 hx
      exact (hf i (List.mem_range.1 hi)).2
    · rw [hlen] at hi
      have hi2 : i / 9 < len := by omega
      obtain ⟨e0, _⟩ := hf (i / 9) hi2
      have hg := zpz ((List.range len).map f) (i / 9) (i % 9) (f (i / 9)) (by simp [hi2]) (by omega)
      have e1 := e0 (i % 9) (by omega)
      rw [show i / 9 * 9 + i % 9 = i by omega] at hg e1
      rw [hg]; exact e1
def UPg (p : Pg) : Prop := U p.va ∧ U p.pa
theorem zvr {cs : List Value} {y : DataW H × List MemPlace} (hsz : cs.length = 8) (hf : DataW.trod enc Tryz.prog W base sp held n 94 cs = some y) : ∃ q : Pg, cs = q.vs ∧ UPg q := by
  obtain ⟨xs, n, _, _, _, hlen, hfd⟩ := DataW.trod_struct Tryz.underlying94 hf
  match cs, hsz with
  | [c0, c1, c2, c3, c4, c5, c6, c7], _ =>
    have g := fun i f (e : _ = some f) => hfd i f e
    have k_int : Tryz.prog.cellsOf 3 = 1 := by kernel_rfl
    have k_u64 : Tryz.prog.cellsOf 25 = 1 := by kernel_rfl
    have k_bool : Tryz.prog.cellsOf 4 = 1 := by kernel_rfl
    have k_perm : Tryz.prog.cellsOf 52 = 4 := by kernel_rfl
    have hl : xs.length = 5 := hlen
    have h0 : DataW.trod enc Tryz.prog W base sp held n 25 [c0] = xs[0]? := by have := g 0 _ rfl; simpa [Value.cells, k_int, k_u64, k_bool, k_perm] using this
    obtain ⟨y0, q0⟩ := Open.zbx hl (show 0 < 5 by decide)
    obtain ⟨x0, rfl, u0⟩ := Open.zh5 (c := c0) h0 q0
    have h1 : DataW.trod enc Tryz.prog W base sp held n 25 [c1] = xs[1]? := by have := g 1 _ rfl; simpa [Value.cells, k_int, k_u64, k_bool, k_perm] using this
    obtain ⟨y1, q1⟩ := Open.zbx hl (show 1 < 5 by decide)
    obtain ⟨x1, rfl, u1⟩ := Open.zh5 (c := c1) h1 q1
    have h2 : DataW.trod enc Tryz.prog W base sp held n 3 [c2] = xs[2]? := by have := g 2 _ rfl; simpa [Value.cells, k_int, k_u64, k_bool, k_perm] using this
    obtain ⟨y2, q2⟩ := Open.zbx hl (show 2 < 5 by decide)
    obtain ⟨x2, rfl, _⟩ := Open.zey (c := c2) h2 q2
    have h3 : DataW.trod enc Tryz.prog W base sp held n 52 [c3, c4, c5, c6] = xs[3]? := by have := g 3 _ rfl; simpa [Value.cells, k_int, k_u64, k_bool, k_perm] using this
    obtain ⟨y3, q3⟩ := Open.zbx hl (show 3 < 5 by decide)
    rw [q3] at h3
    obtain ⟨zs, m, _, _, _, hlen2, hfd2⟩ := DataW.trod_struct Tryz.underlying52 h3
    have g2 := fun i f (e : _ = some f) => hfd2 i f e
    have hl2 : zs.length = 4 := hlen2
    have p0 : DataW.trod enc Tryz.prog W base sp held m 4 [c3] = zs[0]? := by have := g2 0 _ rfl; simpa [Value.cells, k_bool] using this
    obtain ⟨z0, w0⟩ := Open.zbx hl2 (show 0 < 4 by decide)
    obtain ⟨b0, rfl⟩ := Open.zcw (c := c3) p0 w0
    have p1 : DataW.trod enc Tryz.prog W base sp held m 4 [c4] = zs[1]? := by have := g2 1 _ rfl; simpa [Value.cells, k_bool] using this
    obtain ⟨z1, w1⟩ := Open.zbx hl2 (show 1 < 4 by decide)
    obtain ⟨b1, rfl⟩ := Open.zcw (c := c4) p1 w1
    have p2 : DataW.trod enc Tryz.prog W base sp held m 4 [c5] = zs[2]? := by have := g2 2 _ rfl; simpa [Value.cells, k_bool] using this
    obtain ⟨z2, w2⟩ := Open.zbx hl2 (show 2 < 4 by decide)
    obtain ⟨b2, rfl⟩ := Open.zcw (c := c5) p2 w2
    have p3 : DataW.trod enc Tryz.prog W base sp held m 4 [c6] = zs[3]? := by have := g2 3 _ rfl; simpa [Value.cells, k_bool] using this
    obtain ⟨z3, w3⟩ := Open.zbx hl2 (show 3 < 4 by decide)
    obtain ⟨b3, rfl⟩ := Open.zcw (c := c6) p3 w3
    have h4 : DataW.trod enc Tryz.prog W base sp held n 4 [c7] = xs[4]? := by have := g 4 _ rfl; simpa [Value.cells, k_int, k_u64, k_bool, k_perm] using this
    obtain ⟨y4, q4⟩ := Open.zbx hl (show 4 < 5 by decide)
    obtain ⟨x4, rfl⟩ := Open.zcw (c := c7) h4 q4
    exact ⟨⟨x0, x1, x2, b0, b1, b2, b3, x4⟩, rfl, u0, u1⟩
theorem zyu (l : List Pg) : (flP l).length = l.length * 8 := by
  induction l with
  | nil => rfl
  | cons c l ih => show ((_ :: _ :: _ :: _ :: _ :: _ :: _ :: _ :: flP l).length) = _; simp only [List.length_cons, ih]; omega
theorem ztp : ∀ (l : List Pg) (i j : Nat) (q : Pg), l[i]? = some q → j < 8 → (flP l)[i * 8 + j]? = q.vs[j]?
  | [], i, j, q, h, _ => by simp at h
  | x :: l, 0, j, q, h, hj => by
    simp at h; subst h
    show (x.vs ++ flP l)[0 * 8 + j]? = _
    rw [Nat.zero_mul, Nat.zero_add, List.getElem?_append_left (by show j < 8; exact hj)]
  | x :: l, i + 1, j, q, h, hj => by
    have := ztp l i j q (by simpa using h) hj
    show (x.vs ++ flP l)[(i + 1) * 8 + j]? = _
    rw [List.getElem?_append_right (by show 8 ≤ _; omega), show (i + 1) * 8 + j - x.vs.length = i * 8 + j by show (i + 1) * 8 + j - 8 = _; omega]
    exact this
theorem open_pgs {v : Value} {d : DataW H} {p : List MemPlace} (hv : Value.okWide Tryz.prog W r b0 59 v) (h : DataW.Trod enc Tryz.prog W base (fun _ => true) held 59 v d p) :
    ∃ l : List Pg, (∀ x ∈ l, UPg x) ∧ Ce.R (en0 (fun _ => True) W) (.s l.length 8 (flP l)) v := by
  obtain ⟨a, len, cap, rfl⟩ := okWide_slice Tryz.underlying59 hv
  obtain ⟨fuel, hf⟩ := h
  have hf : DataW.trod enc Tryz.prog W base (fun _ => true) held fuel 59 [.slice a len cap] = some (d, p) := hf
  have ke : Tryz.prog.cellsOf 94 = 8 := by kernel_rfl
  rcases Deep.open_slice Tryz.underlying59 hf with ⟨e, _⟩ | ⟨a', len', cap', m, k, D, Pl, e, _, hl, hm, hmm, _, hx⟩
  · simp only [List.cons.injEq, and_true] at e
    refine ⟨[], fun x hx => (by cases hx), ?_⟩
    rw [e]
    exact ⟨⟨rfl, .inl ⟨rfl, rfl⟩⟩, fun a l c e => by cases e⟩
  · simp only [List.cons.injEq, and_true, Value.slice.injEq] at e
    obtain ⟨rfl, rfl, rfl⟩ := e
    have hok : Cell.ok Tryz.prog W r b0 59 (.slice (some a') len cap) := by
      have hv := hv
      unfold Value.okWide at hv
      rw [Tryz.underlying59] at hv
      unfold Cell.okWide at hv
      rw [Tryz.underlying59] at hv
      exact hv
    unfold Cell.ok at hok
    rw [Tryz.underlying59] at hok
    obtain ⟨_, _, _, hsp, row, cells, hsh, _⟩ := hok
    obtain ⟨b, off, spot⟩ := a'
    have hsp : spot = none := hsp
    subst hsp
    have hb : b < W.heap.size := by
      rcases Nat.lt_or_ge b W.heap.size with h | h
      · exact h
      · have hsh : W.shape? b = some (row, cells) := hsh
        unfold World.shape? at hsh
        rw [Array.getElem?_eq_none h] at hsh
        cases hsh
    have ku : ∀ i, i < len → ∃ q : Pg, (∀ j, j < 8 → W.cell? ⟨b, off + (i * 8 + j), none⟩ = q.vs[j]?) ∧ UPg q := fun i hi => by
      obtain ⟨cs, g1, g2⟩ := hx i (by rw [hmm]; simp; omega)
      rw [ke] at g1
      obtain ⟨_, hlen, hcell⟩ := World.cells?_some g1
      obtain ⟨q, rfl, hq⟩ := zvr hlen g2
      refine ⟨q, fun j hj => ?_, hq⟩
      have e0 := hcell j (by omega)
      rw [z0t, z0t] at e0
      rw [← e0, Nat.add_assoc]
    haveI : Inhabited Pg := ⟨⟨0, 0, 0, false, false, false, false, false⟩⟩
    obtain ⟨f, hf⟩ := Deep.choose_lt (α := Pg) (p := fun i q => (∀ j, j < 8 → W.cell? ⟨b, off + (i * 8 + j), none⟩ = q.vs[j]?) ∧ UPg q) ku
    have hlen : ((List.range len).map f).length = len := by simp
    refine ⟨(List.range len).map f, fun x hx => ?_, ⟨by rw [zyu], .inr ⟨b, off, cap, by rw [hlen], hb, by rw [hlen]; exact hl, hm, fun i hi => ?_⟩⟩, fun _ _ _ _ => trivial⟩
    · obtain ⟨i, hi, rfl⟩ := List.mem_map.1 hx
      exact (hf i (List.mem_range.1 hi)).2
    · rw [hlen] at hi
      have hi2 : i / 8 < len := by omega
      obtain ⟨e0, _⟩ := hf (i / 8) hi2
      have hg := ztp ((List.range len).map f) (i / 8) (i % 8) (f (i / 8)) (by simp [hi2]) (by omega)
      have e1 := e0 (i % 8) (by omega)
      rw [show i / 8 * 8 + i % 8 = i by omega] at hg e1
      rw [hg]; exact e1
end
end Go.Proofs.YtmkjfeamgknpfaaGreatDoor.Laid
