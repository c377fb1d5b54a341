/- Texts of this claim, one behind the other: OkS, SpA, SpB, SpC, IterC, AxP, AxQ, AxR, AxU, AxV, SpD, SpE, SpF, LaA, IterE, AxX, AxY, LaC, LaB, SpG, SpH, SpI, SpJ, SpK, SpL, SpM, SpN, RfP. -/
import Derived.Test.YtomeaibdedaldaaGreatDoorW2
import Derived.RangeFuncNested
import Derived.RangeFuncBound
import Derived.RangeFuncCalls
import Derived.RangeFuncLeaves
import Derived.RangeFuncFrom
import Derived.Shelf.Abstract
import Derived.ScopeJumps
import Derived.Shelf.RegionOpen
import Derived.WalkKit
import Derived.OwnWalkIn
import Derived.TacticsInMore
import Derived.LoopNIn
import Derived.LoopIn
set_option linter.unusedVariables false
set_option linter.unusedSimpArgs false
set_option maxRecDepth 20000
set_option maxHeartbeats 4000000
namespace Go.Proofs.YtomeaibdedaldaaGreatDoor
namespace OkS
open Go.RowKit Bv VaSpec Base MemL RegR Ax MemC PutC MemC3 TzC
open BitsC PteSpec
def tb : Tb := ⟨fun t => Ax.look false [(7, true), (8, true), (13, true), (14, true), (18, true), (19, true), (22, true), (23, true), (29, true), (30, true), (32, true), (33, true), (34, true), (35, true), (36, true), (37, true), (38, true), (39, true), (40, true), (41, true), (44, true), (45, true), (48, true), (49, true), (50, true), (51, true), (59, true), (60, true), (61, true), (62, true), (64, true), (65, true), (66, true), (67, true), (68, true), (69, true), (78, true), (79, true), (85, true), (86, true), (96, true), (97, true), (113, true), (114, true), (121, true), (122, true), (140, true), (141, true), (152, true), (153, true), (154, true), (159, true), (160, true), (201, true), (203, true), (204, true), (214, true), (215, true), (240, true), (242, true), (263, true), (267, true), (268, true), (269, true), (270, true), (271, true), (280, true), (281, true)] t, fun t => Ax.look 1 [(7, 4), (8, 4), (13, 2), (14, 2), (22, 4), (23, 4), (29, 2), (30, 2), (34, 3), (35, 3), (36, 8), (37, 8), (38, 3), (39, 3), (40, 3), (41, 3), (44, 24), (45, 24), (48, 4), (49, 4), (50, 8), (51, 8), (59, 8), (60, 8), (61, 3), (62, 3), (64, 11), (65, 11), (66, 13), (67, 13), (68, 3), (69, 3), (78, 9), (79, 9), (85, 11), (86, 11), (96, 9), (97, 9), (113, 13), (114, 13), (140, 4), (141, 4), (152, 44), (153, 45), (154, 45), (159, 6), (160, 6), (201, 3), (203, 2), (204, 2), (214, 6), (215, 6), (240, 64), (242, 64), (263, 4), (267, 4), (268, 4), (269, 0), (270, 0), (271, 0), (280, 11), (281, 11)] t, fun t f => (Ax.look [] [(7, [0, 1, 2, 3]), (8, [0, 1, 2, 3]), (13, [0, 1]), (14, [0, 1]), (18, [0]), (19, [0]), (22, [0, 1, 2, 3]), (23, [0, 1, 2, 3]), (29, [0, 1]), (30, [0, 1]), (32, [0]), (33, [0]), (34, [0, 1, 2]), (35, [0, 1, 2]), (36, [0, 1, 4, 5, 6, 7]), (37, [0, 1, 4, 5, 6, 7]), (38, [0, 1, 2]), (39, [0, 1, 2]), (40, [0, 1, 2]), (41, [0, 1, 2]), (44, [0, 4, 6, 14, 17, 20, 21, 22, 23]), (45, [0, 4, 6, 14, 17, 20, 21, 22, 23]), (48, [0, 1, 2, 3]), (49, [0, 1, 2, 3]), (50, [0, 1, 2, 3, 4]), (51, [0, 1, 2, 3, 4]), (59, [0, 1, 2, 3, 7]), (60, [0, 1, 2, 3, 7]), (61, [0, 1, 2]), (62, [0, 1, 2]), (64, [0, 1, 2, 3, 4, 5, 6, 7, 8, 9, 10]), (65, [0, 1, 2, 3, 4, 5, 6, 7, 8, 9, 10]), (66, [0, 1, 2]), (67, [0, 1, 2]), (68, [0, 1, 2]), (69, [0, 1, 2]), (78, [0, 1, 2, 3, 4, 5]), (79, [0, 1, 2, 3, 4, 5]), (85, [0, 1, 2, 3, 4, 5, 6, 10]), (86, [0, 1, 2, 3, 4, 5, 6, 10]), (96, [0, 1, 2, 3, 4, 5]), (97, [0, 1, 2, 3, 4, 5]), (113, [0, 1, 2]), (114, [0, 1, 2]), (121, [0]), (122, [0]), (140, [0, 1, 2, 3]), (141, [0, 1, 2, 3]), (153, [0, 44]), (154, [0, 44]), (159, [0, 2]), (160, [0, 2]), (203, [0, 1]), (204, [0, 1]), (214, [0, 2, 5]), (215, [0, 2, 5]), (263, [0, 1, 2, 3]), (267, [0, 1, 2, 3]), (268, [0, 1, 2, 3]), (270, [0]), (271, [0]), (280, [0, 1, 2, 3, 4, 5, 6, 7, 8, 9, 10]), (281, [0, 1, 2, 3, 4, 5, 6, 7, 8, 9, 10])] t).getD f 0⟩
def z5j (i : Nat) : Value := if i = 0 then .func (.func 223) #[] #[] else .func (.func 225) #[] #[]
def z8d (w : World) : Prop := ∃ b o c, w.cell? ⟨2, 0, none⟩ = some (.slice (some ⟨b, o, none⟩) 2 c) ∧ w.cell? ⟨b, o, none⟩ = some (z5j 0) ∧ w.cell? ⟨b, o + 1, none⟩ = some (z5j 1)
theorem zur {w w' : World} (h : z8d w) (hb : Below w.heap.size w w') : z8d w' := by
 obtain ⟨b, o, c, h1, h2, h3⟩ := h; exact ⟨b, o, c, (hb.cell (p := ⟨2, 0, none⟩) (block_lt_of_cell h1)).trans h1, (hb.cell (p := ⟨b, o, none⟩) (block_lt_of_cell h2)).trans h2, (hb.cell (p := ⟨b, o + 1, none⟩) (block_lt_of_cell h3)).trans h3⟩
structure GG (w : World) : Prop where
 s : G w
 t : z12 w
 k : z8d w
theorem zus {w w' : World} (h : z12 w) (b : Below w.heap.size w w') : z12 w' := fun j hj => (b.cell (p := ⟨1, j, none⟩) (block_lt_of_cell (h j hj))).trans (h j hj)
theorem GG.to (w w' : World) (h : GG w) (b : Below w.heap.size w w') : GG w' := ⟨h.s.to b, zus h.t b, zur h.k b⟩
abbrev Ok (k : FuncId) (args : List Cm) (r : AV) : Prop := zbr Tryz.prog GG k args r
abbrev iu (n : Int) : Cm := .c (.v (.int .u64 n))
abbrev ii (n : Int) : Cm := .c (.v (.int .i64 n))
abbrev ib (b : Bool) : Cm := .c (.v (.bool b))
abbrev cu (n : Int) : Ce := .v (.int .u64 n)
abbrev ci (n : Int) : Ce := .v (.int .i64 n)
abbrev cb (b : Bool) : Ce := .v (.bool b)
def _root_.Go.Proofs.YtomeaibdedaldaaGreatDoor.PteSpec.Pte.ce (p : Pte) : List Ce := [cb p.v, cb p.r, cb p.w, cb p.x, cb p.u, cb p.g, cb p.a, cb p.d, cu p.rsw, cu p.ppn, cu p.high]
theorem z6d (a lo n : Int) (ha : U a) (l0 : 0 ≤ lo) (l1 : lo ≤ 64) (h0 : 0 ≤ n) (h : n ≤ 64) : Ok 158 [iu a, ii lo, ii n] (.m (iu (zei a lo n))) :=
 zbb #[.int .u64 a, .int .i64 lo, .int .i64 n] (.int .u64 (zei a lo n)) fun W _ => (zc8 a lo n W ha l0 l1 h0 h).mono fun _ _ ⟨e, q⟩ => ⟨e, q.below⟩
theorem z13 (a lo n v : Int) (ha : U a) (hv : U v) (l0 : 0 ≤ lo) (l1 : lo ≤ 64) (h0 : 0 ≤ n) (h : n ≤ 64) : Ok 111 [iu a, ii lo, ii n, iu v] (.m (iu (zbx a lo n v))) :=
 zbb #[.int .u64 a, .int .i64 lo, .int .i64 n, .int .u64 v] (.int .u64 (zbx a lo n v)) fun W _ => (zej a lo n v W ha hv l0 l1 h0 h).mono fun _ _ ⟨e, q⟩ => ⟨e, q.below⟩
theorem z3g (a b : Int) (ha : U a) (hb : U b) : Ok 56 [iu a, iu b] (.m (ib (zfu a b))) :=
 zbb #[.int .u64 a, .int .u64 b] (.bool (zfu a b)) fun W _ => (ze3 a b W ha hb).mono fun _ _ ⟨e, q⟩ => ⟨e, q.below⟩
theorem zl8 (a l : Int) (ha : U a) (h0 : 0 ≤ l) (h2 : l ≤ 2) : Ok 120 [iu a, ii l] (.m (ii (idx a l))) :=
 zbb #[.int .u64 a, .int .i64 l] (.int .i64 (idx a l)) fun W _ => (VaC.idx_calls a l W ha.1 ha.2 h0 h2).mono fun _ _ ⟨e, q⟩ => ⟨e, q.below⟩
theorem z3h (n : Int) (ha : U n) : Ok 47 [iu n] (.m (iu (ofv n))) :=
 zbb #[.int .u64 n] (.int .u64 (ofv n)) fun W _ => (VaC.of_calls n W ha.1 ha.2).mono fun _ _ ⟨e, q⟩ => ⟨e, q.below⟩
theorem zz6 (a l : Int) (ha : U a) (h0 : 0 ≤ l) (h2 : l ≤ 2) : Ok 123 [iu a, ii l] (.m (ib (zhh a l))) :=
 zbb #[.int .u64 a, .int .i64 l] (.bool (zhh a l)) fun W g => (VaC.fits_calls a l W ha.1 ha.2 h0 h2 g.s).mono fun _ _ ⟨e, q⟩ => ⟨e, q.below⟩
theorem z14 (a : Int) (ha : U a) : Ok 173 [iu a] (.m (ib (isv a))) :=
 zbb #[.int .u64 a] (.bool (isv a)) fun W g => (VaC.is_calls a W ha.1 ha.2).mono fun _ _ ⟨e, q⟩ => ⟨e, q.below⟩
theorem zhs (a l : Int) (ha : U a) (h0 : 0 ≤ l) (h2 : l ≤ 2) : Ok 139 [iu a, ii l] (.m (iu (VaSpec.base a l))) :=
 zbb #[.int .u64 a, .int .i64 l] (.int .u64 (VaSpec.base a l)) fun W g => (VaC.zun a l W ha.1 ha.2 h0 h2 g.s).mono fun _ _ ⟨e, q⟩ => ⟨e, q.below⟩
theorem z3i (a : Int) (ha : U a) : Ok 115 [iu a] (.m (iu (num a))) :=
 zbb #[.int .u64 a] (.int .u64 (num a)) fun W g => (VaC.zwn a W ha.1 ha.2).mono fun _ _ ⟨e, q⟩ => ⟨e, q.below⟩
theorem zs0 (f i : Int) (hf : 0 ≤ f ∧ f < 1099511627776) (hi : 0 ≤ i ∧ i < 512) : Ok 119 [iu f, ii i] (.m (iu (f * 4096 + i * 8))) :=
 zbb #[.int .u64 f, .int .i64 i] (.int .u64 (f * 4096 + i * 8)) fun W _ => (TableC.zq8 f i W hf hi).mono fun _ _ ⟨e, q⟩ => ⟨e, q.below⟩
theorem zwv (p : Pte) (h : p.U) : Ok 117 [.ag p.ce] (.tu [iu (PteC.zc4 p), ii (PteC.zkd p)]) :=
 zbb #[.agg #[.bool p.v, .bool p.r, .bool p.w, .bool p.x, .bool p.u, .bool p.g, .bool p.a, .bool p.d, .int .u64 p.rsw, .int .u64 p.ppn, .int .u64 p.high]] (.tuple #[.int .u64 (PteC.zc4 p), .int .i64 (PteC.zkd p)])
  fun W _ => PteC.put_calls p.v p.r p.w p.x p.u p.g p.a p.d p.rsw p.ppn p.high W h.1 h.2.1 h.2.2
theorem zgg (p : Pte) : Ok 76 [.ag p.ce] (.m (ib (zbf p))) :=
 zbb #[.agg #[.bool p.v, .bool p.r, .bool p.w, .bool p.x, .bool p.u, .bool p.g, .bool p.a, .bool p.d, .int .u64 p.rsw, .int .u64 p.ppn, .int .u64 p.high]] (.bool (zbf p))
  fun W _ => PteC.zl6 p.v p.r p.w p.x p.u p.g p.a p.d p.rsw p.ppn p.high W
theorem zig (p : Pte) (h : p.U) (l : Int) (l0 : 0 ≤ l) (l2 : l ≤ 2) : Ok 113 [.ag p.ce, ii l] (.m (ib (zco p l))) :=
 zbb #[.agg #[.bool p.v, .bool p.r, .bool p.w, .bool p.x, .bool p.u, .bool p.g, .bool p.a, .bool p.d, .int .u64 p.rsw, .int .u64 p.ppn, .int .u64 p.high], .int .i64 l] (.bool (zco p l))
  fun W g => PteC.zwr p.v p.r p.w p.x p.u p.g p.a p.d p.rsw p.ppn p.high l W h.1 h.2.1 h.2.2 l0 l2 g.s
theorem z3j (x : Int) (hx : U x) : Ok 168 [iu x] (.m (.ag (zay x).ce)) :=
 zbb #[.int .u64 x] (.agg #[.bool (zay x).v, .bool (zay x).r, .bool (zay x).w, .bool (zay x).x, .bool (zay x).u, .bool (zay x).g, .bool (zay x).a, .bool (zay x).d, .int .u64 (zay x).rsw, .int .u64 (zay x).ppn, .int .u64 (zay x).high])
  fun W g => PteC.zl7 x W hx
theorem zww (sz : Int) (hz : U sz) : Ok 95 [iu sz] (avV (MemNewC.newV sz)) :=
 zbb #[.int .u64 sz] (MemNewC.newV sz) fun W g => MemNewC.new_calls sz W hz
theorem zut (b m : Int) (hb : U b) (hm : 0 ≤ m ∧ m ≤ 64) : Ok 96 [iu b, ii m] (avV (PoolC2.newV b m)) :=
 zbb #[.int .u64 b, .int .i64 m] (PoolC2.newV b m) fun W g => PoolC2.new_calls b m W hb hm
theorem zuu (m : Int) : Ok 97 [ii m] (avV (AsidC2.newV m)) :=
 zbb #[.int .i64 m] (AsidC2.newV m) fun W g => AsidC2.new_calls m W
theorem z8e (x : Int) (hx : U x) : Ok 162 [iu x] (.m (ii (tzI x))) :=
 zbb #[.int .u64 x] (.int .i64 (tzI x)) fun W g => (zsz x W hx (fun _ => g.t)).mono fun _ _ ⟨e, q⟩ => ⟨e, q.below⟩
theorem zg6 {E : En} {sz : Int} {n k : Nat} {xs : List Value} {v : Value} (h : Cm.R E (.ag [cu sz, .s n k xs]) v) : ∃ u, v = .agg #[.int .u64 sz, u] ∧ Ce.R E (.s n k xs) u := by
 obtain ⟨vs, rfl, h⟩ := h; obtain ⟨l⟩ := vs
 match l, h with
 | [a, b], h => exact ⟨b, by rw [show a = .int .u64 sz from h.1], h.2.1⟩
 | [], h => exact h.elim
 | [_], h => exact h.2.elim
 | _ :: _ :: _ :: _, h => exact h.2.2.elim
theorem z8f {E : En} {m : Cm} {vs : Array Value} (h : All2 (Cm.R E) [m] vs.toList) : ∃ v, vs = #[v] ∧ m.R E v := by
 obtain ⟨l⟩ := vs
 match l, h with
 | [a], h => exact ⟨a, rfl, h.1⟩
 | [], h => exact h.elim
 | _ :: _ :: _, h => exact h.2.elim
theorem zwx {E : En} {m n : Cm} {vs : Array Value} (h : All2 (Cm.R E) [m, n] vs.toList) : ∃ v u, vs = #[v, u] ∧ m.R E v ∧ n.R E u := by
 obtain ⟨l⟩ := vs
 match l, h with
 | [a, b], h => exact ⟨a, b, rfl, h.1, h.2.1⟩
 | [], h => exact h.elim
 | [_], h => exact h.2.elim
 | _ :: _ :: _ :: _, h => exact h.2.2.elim
theorem z8g {E : En} {m n o : Cm} {vs : Array Value} (h : All2 (Cm.R E) [m, n, o] vs.toList) : ∃ v u x, vs = #[v, u, x] ∧ m.R E v ∧ n.R E u ∧ o.R E x := by
 obtain ⟨l⟩ := vs
 match l, h with
 | [a, b, c], h => exact ⟨a, b, c, rfl, h.1, h.2.1, h.2.2.1⟩
 | [], h => exact h.elim
 | [_], h => exact h.2.elim
 | [_, _], h => exact h.2.2.elim
 | _ :: _ :: _ :: _ :: _, h => exact h.2.2.2.elim
theorem z6e {E : En} {m n o p : Cm} {vs : Array Value} (h : All2 (Cm.R E) [m, n, o, p] vs.toList) : ∃ v u x y, vs = #[v, u, x, y] ∧ m.R E v ∧ n.R E u ∧ o.R E x ∧ p.R E y := by
 obtain ⟨l⟩ := vs
 match l, h with
 | [a, b, c, d], h => exact ⟨a, b, c, d, rfl, h.1, h.2.1, h.2.2.1, h.2.2.2.1⟩
 | [], h => exact h.elim
 | [_], h => exact h.2.elim
 | [_, _], h => exact h.2.2.elim
 | [_, _, _], h => exact h.2.2.2.elim
 | _ :: _ :: _ :: _ :: _ :: _, h => exact h.2.2.2.2.elim
abbrev zbm (sz : Int) (xs : List (Int × Int)) : Cm := .ag [cu sz, .s xs.length 2 (fl xs)]
theorem z3k (sz : Int) (xs : List (Int × Int)) (a : Int) (ha : U a) (hs : Srt xs) : Ok 167 [zbm sz xs, iu a] (.m (iu (zbs sz xs a))) :=
 zcd rfl fun A W vs hG hR => by
  obtain ⟨v1, v2, rfl, h1, h2⟩ := zwx hR; obtain ⟨u, rfl, hu⟩ := zg6 h1; obtain rfl : v2 = .int .u64 a := h2; exact (zie sz u xs a W ha hs hu.1).mono fun e w' ⟨he, hb⟩ => ⟨_, he, hb, rfl⟩
theorem zht {E : En} {sz : Int} {c : Ce} {u : Value} (h : c.R E u) : Cm.R E (.ag [cu sz, c]) (.agg #[.int .u64 sz, u]) := ⟨_, rfl, rfl, h, trivial⟩
theorem zz7 (sz : Int) (xs : List (Int × Int)) (a n x : Int) (ha : U a) (hx : U x) (hs : Srt xs) (hu : Uw xs) (hbig : (xs.length + 1) * 16 ≤ 140737488355328) (hw : zdy sz a n = 0) : Ok 118 [zbm sz xs, iu a, ii n, iu x] (.tu [zbm sz (zeb sz xs a n x), ii 0]) :=
 zcd rfl fun A W vs hG hR => by
  obtain ⟨v1, v2, v3, v4, rfl, h1, h2, h3, h4⟩ := z6e hR; obtain ⟨u, rfl, hu'⟩ := zg6 h1; obtain rfl : v2 = .int .u64 a := h2; obtain rfl : v3 = .int .i64 n := h3; obtain rfl : v4 = .int .u64 x := h4; refine (zkc sz u xs a n x W ha hx hs hu hbig hu'.1).mono ?_; rintro e w' ⟨v', rfl, h5, hb⟩; rw [if_pos hw] at h5; rw [hw]; exact ⟨_, rfl, hb, _, rfl, zht (zwg h5), rfl, trivial⟩
theorem zz8 (sz : Int) (xs : List (Int × Int)) (a n x : Int) (ha : U a) (hx : U x) (hs : Srt xs) (hu : Uw xs) (hbig : (xs.length + 1) * 16 ≤ 140737488355328) (hw : zdy sz a n ≠ 0) : Ok 118 [zbm sz xs, iu a, ii n, iu x] (.tu [zbm sz xs, ii (zdy sz a n)]) :=
 zcd rfl fun A W vs hG hR => by
  obtain ⟨v1, v2, v3, v4, rfl, h1, h2, h3, h4⟩ := z6e hR; obtain ⟨u, rfl, hu'⟩ := zg6 h1; obtain rfl : v2 = .int .u64 a := h2; obtain rfl : v3 = .int .i64 n := h3; obtain rfl : v4 = .int .u64 x := h4; refine (zkc sz u xs a n x W ha hx hs hu hbig hu'.1).mono ?_; rintro e w' ⟨v', rfl, h5, hb⟩; rw [if_neg hw] at h5; subst h5; exact ⟨_, rfl, hb, _, rfl, zht (z50 hu' hb), rfl, trivial⟩
theorem zwy (sz : Int) (xs : List (Int × Int)) (base many free f : Int) (hb : U base) (hm : 0 ≤ many ∧ many ≤ 64) (hr : U free) (hf : 0 ≤ f ∧ f < 1099511627776) (hs : Srt xs) (hbig : (xs.length + 1) * 32 ≤ 140737488355328) :
 Ok 78 [zbm sz xs, .ag [cu base, ci many, cu free], iu f] (.tu [zbm sz (TableC.za6 xs f), .ag [cu base, ci many, cu (TableC2.zdz base many free f)]]) :=
 zcd rfl fun A W vs hG hR => by
  obtain ⟨v1, v2, v3, rfl, h1, h2, h3⟩ := z8g hR; obtain ⟨u, rfl, hu'⟩ := zg6 h1; obtain rfl := zm4 (xs := [.int .u64 base, .int .i64 many, .int .u64 free]) h2; obtain rfl : v3 = .int .u64 f := h3; refine (TableC2.zul sz u xs base many free f W hb hm hr hf hs hbig hu'.1).mono ?_; rintro e w' ⟨v', rfl, h5, hb'⟩; exact ⟨_, rfl, hb', _, rfl, zht (zwg h5), ⟨_, rfl, rfl, rfl, rfl, trivial⟩, trivial⟩
theorem zgh (sz : Int) (xs : List (Int × Int)) (base many free : Int) (hb : 0 ≤ base ∧ base ≤ 268435456) (hm : 0 ≤ many ∧ many ≤ 64) (hr : U free) (hfr : free ≠ 0) (hs : Srt xs) (hbig : (xs.length + 1) * 32 ≤ 140737488355328) :
 Ok 99 [zbm sz xs, .ag [cu base, ci many, cu free]] (.tu [zbm sz (TableC.za6 xs (base + tzI free)), .ag [cu base, ci many, cu (zbx free (tzI free) 1 0)], iu (base + tzI free), ii 0]) :=
 zcd rfl fun A W vs hG hR => by
  obtain ⟨v1, v2, rfl, h1, h2⟩ := zwx hR; obtain ⟨u, rfl, hu'⟩ := zg6 h1; obtain rfl := zm4 (xs := [.int .u64 base, .int .i64 many, .int .u64 free]) h2; refine (TableC3.zra sz u xs base many free W hb hm hr hfr hG.t hs hbig hu'.1).mono ?_; rintro e w' ⟨v', rfl, h5, hb'⟩; exact ⟨_, rfl, hb', _, rfl, zht (zwg h5), ⟨_, rfl, rfl, rfl, rfl, trivial⟩, rfl, rfl, trivial⟩
theorem zwz (n : Nat) (hn : n ≤ 16) (z : Value) (hz : (Tryz.prog.info? 154).bind (·.zero) = some z) : Ok 98 [ii n] (.tu [.ag [.s n 45 (madeCells z.cells (n * 45)).toList], ii 0]) :=
 zcd rfl fun A W vs hG hR => by
  obtain ⟨v1, rfl, h1⟩ := z8f hR; obtain rfl : v1 = .int .i64 n := h1; refine (TlbNewC.new_calls n W hn z hz).mono ?_; rintro e w' ⟨a, c, rfl, h5, hb'⟩; exact ⟨_, rfl, hb', _, rfl, ⟨_, rfl, zwg h5, trivial⟩, rfl, trivial⟩
end OkS
namespace SpA
open Go.RowKit Bv VaSpec Base MemL RegR Ax OkS
open PteSpec
theorem znb (n : Int) : Ok 106 [iu n] (.m (.ag [cb false, cu 0, cb true, cu n])) := by
 refine zad 5 Tryz.func106 rfl rfl rfl rfl ?_ GG.to; intro W A hG
 repeat (first | (refine zai rfl ?_; first | refine zaj ?_) | (refine hK _ ?_; clear hK K) | refine zac rfl ?_ | exact zah (show zat _ _ _ = some _ by kernel_rfl) | refine zab (fun K hK => ?_))
def zd8 (n a b : Int) : Bool := decide (a ≤ n) && decide (n ≤ b)
theorem zpc (n a b : Int) : Ok 121 [ii n, ii a, ii b] (.m (ib (zd8 n a b))) := by
 by_cases h1 : a ≤ n
 · by_cases h2 : n ≤ b
   · rw [show zd8 n a b = true by simp [zd8, h1, h2]]; refine zad 15 Tryz.func121 rfl rfl rfl rfl ?_ GG.to; intro W A hG
     repeat (first | (refine zai rfl ?_; first | refine zaj ?_) | (refine hK _ ?_; clear hK K) | refine zac rfl ?_ | exact zah (show zat _ _ _ = some _ by kernel_rfl) | refine zab (fun K hK => ?_))
   · rw [show zd8 n a b = false by simp [zd8, h2]]; refine zad 15 Tryz.func121 rfl rfl rfl rfl ?_ GG.to; intro W A hG
     repeat (first | (refine zai rfl ?_; first | refine zaj ?_) | (refine hK _ ?_; clear hK K) | refine zac rfl ?_ | exact zah (show zat _ _ _ = some _ by kernel_rfl) | refine zab (fun K hK => ?_))
 · rw [show zd8 n a b = false by simp [zd8, h1]]; refine zad 15 Tryz.func121 rfl rfl rfl rfl ?_ GG.to; intro W A hG
   repeat (first | (refine zai rfl ?_; first | refine zaj ?_) | (refine hK _ ?_; clear hK K) | refine zac rfl ?_ | exact zah (show zat _ _ _ = some _ by kernel_rfl) | refine zab (fun K hK => ?_))
theorem zz9 : Ok 104 [] (.m (iu (ofv 133955584))) := by
 refine zad 2 Tryz.func104 rfl rfl rfl rfl ?_ GG.to; intro W A hG
 repeat (first | (refine zai rfl ?_; first | refine zaj ?_ | refine gdr (zaa rfl rfl rfl (z3h _ ⟨by omega, by omega⟩) rfl) ?_) | (refine hK _ ?_; clear hK K) | refine zac rfl ?_ | exact zah (show zat _ _ _ = some _ by kernel_rfl) | refine zab (fun K hK => ?_))
def za2 (p : Pte) (l : Int) : Bool := zbf p && !zco p l
theorem zi7 (p : Pte) (h : p.U) (l : Int) (l0 : 0 ≤ l) (l2 : l ≤ 2) : Ok 125 [.ag p.ce, ii l] (.m (ib (za2 p l))) := by
 cases hl : zbf p with
 | false =>
  rw [show za2 p l = false by simp [za2, hl]]; refine zad 13 Tryz.func125 rfl rfl rfl rfl ?_ GG.to; intro W A hG
  repeat (first | (refine zai rfl ?_; first | refine zaj ?_ | refine gdr (zaa rfl rfl rfl (hl ▸ zgg p) rfl) ?_) | (refine hK _ ?_; clear hK K) | refine zac rfl ?_ | exact zah (show zat _ _ _ = some _ by kernel_rfl) | refine zab (fun K hK => ?_))
 | true =>
  rw [show za2 p l = !zco p l by simp [za2, hl]]; refine zad 13 Tryz.func125 rfl rfl rfl rfl ?_ GG.to; intro W A hG
  repeat (first | (refine zai rfl ?_; first | refine zaj ?_ | refine gdr (zaa rfl rfl rfl (hl ▸ zgg p) rfl) ?_ | refine gdr (zaa rfl rfl rfl (zig p h l l0 l2) rfl) ?_) | (refine hK _ ?_; clear hK K) | refine zac rfl ?_ | exact zah (show zat _ _ _ = some _ by kernel_rfl) | refine zab (fun K hK => ?_))
end SpA
namespace SpB
open Go.RowKit Bv VaSpec Base MemL RegR Ax MemC MemC3 OkS SpA
open PteSpec
structure Sp where
 root : Int
 asid : Int
 live : Bool
deriving DecidableEq
structure Fe where
 ha : Bool
 ad : Int
 hs : Bool
 sn : Int
deriving DecidableEq
def Sp.vs (s : Sp) : List Value := [.int .u64 s.root, .int .u64 s.asid, .bool s.live]
def Fe.vs (f : Fe) : List Value := [.bool f.ha, .int .u64 f.ad, .bool f.hs, .int .u64 f.sn]
def flS (l : List Sp) : List Value := l.flatMap Sp.vs
def flF (l : List Fe) : List Value := l.flatMap Fe.vs
structure Kr where
 cd : Int
 cp : Int
 ca : Int
 cs : Int
 sz : Int
 m : List (Int × Int)
 tn : Nat
 ts : List Value
 sm : Int
 sa : Int
 sp : Int
 priv : Int
 su : Bool
 mx : Bool
 vic : Int
 pb : Int
 pm : Int
 pf : Int
 am : Int
 af : Int
 ao : Int
 ss : List Sp
 now : Int
 sh : Int
 fs : List Fe
def Kr.ce (k : Kr) : List Ce := [ci k.cd, ci k.cp, ci k.ca, ci k.cs, cu k.sz, .s k.m.length 2 (fl k.m), .s k.tn 45 k.ts, cu k.sm, cu k.sa, cu k.sp, ci k.priv, cb k.su, cb k.mx, ci k.vic, cu k.pb, ci k.pm, cu k.pf, ci k.am, cu k.af, cu k.ao, .s k.ss.length 3 (flS k.ss), ci k.now, cu k.sh, .s k.fs.length 4 (flF k.fs)]
theorem zfc {α : Type} (f : α → List Value) (k : Nat) (hk : ∀ a, (f a).length = k) : ∀ (l : List α) (i : Nat) (a : α), l[i]? = some a → ((l.flatMap f).drop (i * k)).take k = f a
 | [], i, a, h => by simp at h
 | x :: l, 0, a, h => by
  simp at h; subst h; simp only [Nat.zero_mul, List.drop_zero, List.flatMap_cons]; rw [← hk x]; simp
 | x :: l, i + 1, a, h => by
  have e : (i + 1) * k = (f x).length + i * k := by rw [hk, Nat.succ_mul]; omega
  rw [List.flatMap_cons, e, ← List.drop_drop]; simp only [List.drop_left]; exact zfc f k hk l i a (by simpa using h)
theorem zke {l : List Sp} {i : Int} {s : Sp} (h : l[i.toNat]? = some s) : ((flS l).drop (i.toNat * 3)).take 3 = [.int .u64 s.root, .int .u64 s.asid, .bool s.live] := zfc Sp.vs 3 (fun _ => rfl) l _ s h
def za4 (k : Kr) (id : Int) : Bool := decide (0 ≤ id) && (match k.ss[id.toNat]? with | some s => s.live | none => false)
theorem z0a (k : Kr) (id : Int) : Ok 122 [.ag k.ce, ii id] (.m (ib (za4 k id))) := by
 by_cases h0 : 0 ≤ id
 · by_cases h : id < k.ss.length
   · obtain ⟨s, hs⟩ : ∃ s, k.ss[id.toNat]? = some s := ⟨_, List.getElem?_eq_getElem (by omega)⟩; have hx := zke hs; rw [show za4 k id = s.live by simp [za4, h0, hs]]; refine zad 22 Tryz.func122 rfl rfl rfl rfl ?_ GG.to; intro W A hG
     repeat (first | (refine zai rfl ?_; first | refine zaj ?_) | (refine hK _ ?_; clear hK K) | refine zac rfl ?_ | exact zah (show zat _ _ _ = some _ by kernel_rfl) | refine zab (fun K hK => ?_))
   · rw [show za4 k id = false by simp [za4, List.getElem?_eq_none (show k.ss.length ≤ id.toNat by omega)]]; refine zad 22 Tryz.func122 rfl rfl rfl rfl ?_ GG.to; intro W A hG
     repeat (first | (refine zai rfl ?_; first | refine zaj ?_) | (refine hK _ ?_; clear hK K) | refine zac rfl ?_ | exact zah (show zat _ _ _ = some _ by kernel_rfl) | refine zab (fun K hK => ?_))
 · rw [show za4 k id = false by simp [za4, h0]]; refine zad 22 Tryz.func122 rfl rfl rfl rfl ?_ GG.to; intro W A hG
   repeat (first | (refine zai rfl ?_; first | refine zaj ?_) | (refine hK _ ?_; clear hK K) | refine zac rfl ?_ | exact zah (show zat _ _ _ = some _ by kernel_rfl) | refine zab (fun K hK => ?_))
def zba (sz : Int) (xs : List (Int × Int)) (t i : Int) (p : Pte) : List (Int × Int) := if zdy sz (t * 4096 + i * 8) 8 = 0 then zeb sz xs (t * 4096 + i * 8) 8 (PteC.zc4 p) else xs
end SpB
namespace SpC
open Go.RowKit Bv VaSpec Base MemL RegR Ax MemC MemC3 TzC OkS SpA SpB
open BitsC PteSpec
theorem idx_bd (a l : Int) : 0 ≤ idx a l ∧ idx a l < 512 := by unfold idx; omega
theorem zfq (p : Pte) (h : p.U) : U (PteC.zc4 p) := by
 unfold PteC.zc4; by_cases hm : zhr p = true
 · rw [if_pos hm]; exact z3d p h hm
 · rw [if_neg hm]; exact ⟨by omega, by omega⟩
def zbq (t l : Int) (q : Pte) : List Ce := [cu t, ci l, cb q.v, cb q.r, cb q.w, cb q.x, cb q.u, cb q.g, cb q.a, cb q.d, cu q.rsw, cu q.ppn, cu q.high]
theorem zd9 (sz : Int) (xs : List (Int × Int)) (t l : Int) (q : Pte) (addr : Int) (p : Pte) (ha : U addr) (hp : p.U) (l0 : 0 ≤ l) (l2 : l ≤ 2) (ht : 0 ≤ t ∧ t < 1099511627776) (hs : Srt xs) (hu : Uw xs) (hbig : (xs.length + 1) * 16 ≤ 140737488355328) :
 Ok 49 [zbm sz xs, .ag (zbq t l q), iu addr, .ag p.ce] (.m (zbm sz (zba sz xs t (idx addr l) p))) := by
 have hi := idx_bd addr l; have hU : U (t * 4096 + idx addr l * 8) := ⟨by omega, by omega⟩; by_cases hw : zdy sz (t * 4096 + idx addr l * 8) 8 = 0
 · rw [show zba sz xs t (idx addr l) p = zeb sz xs (t * 4096 + idx addr l * 8) 8 (PteC.zc4 p) by unfold zba; rw [if_pos hw]]
   refine zad 32 Tryz.func49 rfl rfl rfl rfl ?_ GG.to; intro W A hG
   repeat (first | (refine zai rfl ?_; first | refine zaj ?_ | refine gdr (zaa rfl rfl rfl (zwv p hp) rfl) ?_ | refine gdr (zaa rfl rfl rfl (zl8 addr l ha l0 l2) rfl) ?_ | refine gdr (zaa rfl rfl rfl (zs0 t _ ht hi) rfl) ?_ | refine gdr (zaa rfl rfl rfl (zz7 sz xs _ 8 _ hU (zfq p hp) hs hu hbig hw) rfl) ?_) | (refine hK _ ?_; clear hK K) | refine zac rfl ?_ | refine zaq (by kernel_rfl) (by kernel_rfl) rfl ?_ | exact zah (show zat _ _ _ = some _ by kernel_rfl) | refine zab (fun K hK => ?_))
 · rw [show zba sz xs t (idx addr l) p = xs by unfold zba; rw [if_neg hw]]
   refine zad 32 Tryz.func49 rfl rfl rfl rfl ?_ GG.to; intro W A hG
   repeat (first | (refine zai rfl ?_; first | refine zaj ?_ | refine gdr (zaa rfl rfl rfl (zwv p hp) rfl) ?_ | refine gdr (zaa rfl rfl rfl (zl8 addr l ha l0 l2) rfl) ?_ | refine gdr (zaa rfl rfl rfl (zs0 t _ ht hi) rfl) ?_ | refine gdr (zaa rfl rfl rfl (zz8 sz xs _ 8 _ hU (zfq p hp) hs hu hbig hw) rfl) ?_) | (refine hK _ ?_; clear hK K) | refine zac rfl ?_ | refine zaq (by kernel_rfl) (by kernel_rfl) rfl ?_ | exact zah (show zat _ _ _ = some _ by kernel_rfl) | refine zab (fun K hK => ?_))
theorem znc (w : World) (x0 y0 x1 y1 x2 y2 : Int) :
 (Op.equalIn 10000 41 (.agg #[.int .i64 x0, .int .u64 x1, .int .u64 x2]) (.agg #[.int .i64 y0, .int .u64 y1, .int .u64 y2])).run Tryz.prog w = .ok (x0 == y0 && (x1 == y1 && (x2 == y2 && true))) w := by
 refine PoolC4.zc9 Tryz.underlying41 (by kernel_rfl) ?_; refine PoolC4.zau (by rfl) (by go_simp; rfl) (by go_simp; rfl) (by go_simp) ?_
 refine PoolC4.zau (by rfl) (by go_simp; rfl) (by go_simp; rfl) (by go_simp) ?_
 exact PoolC4.zau (by rfl) (by go_simp; rfl) (by go_simp; rfl) (by go_simp) PoolC4.zcq
theorem z0b (m o : Int) : Ok 103 [.ag [ci m, cu 0, cu o]] (.tu [.ag [ci m, cu 0, cu o], iu 0, ib false, ii 9]) := by
 refine zad 39 Tryz.func103 rfl rfl rfl rfl ?_ GG.to; intro W A hG; have he : ∀ w, (Op.equalIn 10000 41 (.agg #[.int .i64 m, .int .u64 0, .int .u64 o]) (.agg #[.int .i64 m, .int .u64 0, .int .u64 o])).run Tryz.prog w = .ok true w := fun w => by rw [znc]; simp
 repeat (first | (refine zai rfl ?_; first | refine zaj ?_ | refine gdr (zeh (us := [.int .i64 m, .int .u64 0, .int .u64 o]) (vs := [.int .i64 m, .int .u64 0, .int .u64 o]) he (by kernel_rfl) rfl rfl rfl rfl) ?_) | (refine hK _ ?_; clear hK K) | refine zac rfl ?_ | exact zah (show zat _ _ _ = some _ by kernel_rfl) | refine zaf rfl rfl ?_ | refine zab (fun K hK => ?_))
def zgy (f : Int) : Int := zbx f (tzI f) 1 0
def zgz (f o : Int) : Int := zbx o (tzI f) 1 1
theorem z8h {f : Int} (hf : U f) (h0 : f ≠ 0) : 0 ≤ tzI f ∧ tzI f < 64 := by
 have := PoolC4.z3c hf h0; omega
theorem zi8 (m f o : Int) (hf : U f) (ho : U o) (h0 : f ≠ 0) : Ok 103 [.ag [ci m, cu f, cu o]] (.tu [.ag [ci m, cu (zgy f), cu (zgz f o)], iu (tzI f + 1), ib (zei o (tzI f) 1 == 1), ii 0]) := by
 have t1 := z8h hf h0; refine zad 39 Tryz.func103 rfl rfl rfl rfl ?_ GG.to; intro W A hG; have he : ∀ w, (Op.equalIn 10000 41 (.agg #[.int .i64 m, .int .u64 f, .int .u64 o]) (.agg #[.int .i64 m, .int .u64 0, .int .u64 o])).run Tryz.prog w = .ok false w := fun w => by rw [znc]; simp [h0]
 repeat (first | (refine zai rfl ?_; first | refine zaj ?_ | refine gdr (zeh (us := [.int .i64 m, .int .u64 f, .int .u64 o]) (vs := [.int .i64 m, .int .u64 0, .int .u64 o]) he (by kernel_rfl) rfl rfl rfl rfl) ?_ | refine gdr (zaa rfl rfl rfl (z8e f hf) rfl) ?_ | refine gdr (zaa rfl rfl rfl (z6d o (tzI f) 1 ho t1.1 (by omega) (by omega) (by omega)) rfl) ?_ | refine gdr (zaa rfl rfl rfl (z13 f (tzI f) 1 0 hf ⟨by omega, by omega⟩ t1.1 (by omega) (by omega) (by omega)) rfl) ?_ | refine gdr (zaa rfl rfl rfl (z13 o (tzI f) 1 1 ho ⟨by omega, by omega⟩ t1.1 (by omega) (by omega) (by omega)) rfl) ?_) | (refine hK _ ?_; clear hK K) | refine zac rfl ?_ | refine zaq (by kernel_rfl) (by kernel_rfl) rfl ?_ | exact zah (show zat _ _ _ = some _ by kernel_rfl) | refine zae rfl rfl ?_ | refine zak ?_ | refine zab (fun K hK => ?_))
end SpC
namespace IterC
open Go.RowKit Go.Shelf Bv MemL
open Ax
end IterC
namespace Ax
open Go.RowKit MemL RegR
variable {P : Program} {ops : Array Oper} {X : Cx} {o : Oper} {S : St}
def zqb (b : Nat) (h : Nat → Hs) : Nat → Hs := upd [(b, .dead)] h
theorem z15 (b : Nat) (h : Nat → Hs) : zqb b h b = .dead := by
 show cond (Nat.beq b b) (zzh .dead (h b)) (h b) = .dead; rw [Nat.beq_refl]; rfl
theorem zw0 {b i : Nat} (h : Nat → Hs) (e : i ≠ b) : zqb b h i = h i := by
 show cond (Nat.beq i b) (zzh .dead (h i)) (h i) = h i; rw [zbe e]; rfl
theorem zek {b i : Nat} {h : Nat → Hs} (k : zck (zqb b h) i) : i ≠ b ∧ zck h i := by
 obtain ⟨q, hq⟩ := k; by_cases e : i = b
 · subst e; rw [z15] at hq; cases hq
 · rw [zw0 h e] at hq; exact ⟨e, q, hq⟩
theorem zw1 {b : Nat} {h : Nat → Hs} {τ : Nat → Value} {w w' : World} (hb : Below w.heap.size w w') : (env X h τ w).le (env X (zqb b h) τ w') := by
 refine ⟨fun i hi => ⟨?_, rfl⟩, fun g _ ha => ⟨ha.1, fun i hi => ha.2 i (zek hi).2⟩, hb.size, fun g o hg _ => hb.cell (p := ⟨g, o, none⟩) hg⟩; have hi : h i ≠ .fresh := hi; show zqb b h i ≠ .fresh; by_cases e : i = b
 · subst e; rw [z15]; intro e; cases e
 · rw [zw0 h e]; exact hi
theorem z6f {b e k n : Nat} {xs : List Value} {τ : Nat → Value} {a : Act} {w : World} (h : SimT X S τ a w) (hb : S.hp b = .live (.row e k n xs)) : ∀ (c : Ce) (v : Value), (idC c).all (Nat.beq · b) = true → c.R (env X S.hp τ w) v → (zib S.hp c).R (env X (zqb b S.hp) τ w) v := fun c v hc hR => by
 have wk : ∀ (c : Ce), c.R (env X S.hp τ w) v → c.R (env X (zqb b S.hp) τ w) v := fun c hR => zcj (zw1 (Below.refl _ _)) _ _ hR; unfold zib
 split
 · rename_i i; simp only [idC, List.all_cons, List.all_nil, Bool.and_true] at hc; obtain rfl := Nat.eq_of_beq_eq_true hc; rw [hb]; obtain ⟨_, hv⟩ := hR; have hv : v = τ i := hv; subst hv; have hr : w.ownsRow X.base e k (τ i) n xs := h.hp i _ hb; refine ⟨Sl.of_owns hr, fun ad l c e' => ⟨.inr (World.ownsRow.lt hr ad.block (by rw [e']; rfl)).1, fun j hj ho => ?_⟩⟩
   obtain ⟨hne, hj⟩ := zek hj; exact h.sep j i ad.block hne hj ⟨_, hb⟩ ho (by rw [e']; rfl)
 · exact wk _ hR
theorem z6g {b e k n : Nat} {xs : List Value} {τ : Nat → Value} {a : Act} {w : World} (h : SimT X S τ a w) (hb : S.hp b = .live (.row e k n xs)) : ∀ (c : Cm) (v : Value), (idM c).all (Nat.beq · b) = true → c.R (env X S.hp τ w) v → (zll S.hp c).R (env X (zqb b S.hp) τ w) v
 | .c x, v, hc, hR => z6f h hb x v hc hR
 | .ag cs, v, hc, ⟨vs, e, hR⟩ => by
  refine ⟨vs, e, ?_⟩; have : ∀ (cs : List Ce) (vs : List Value), (cs.flatMap idC).all (Nat.beq · b) = true → All2 (Ce.R (env X S.hp τ w)) cs vs → All2 (Ce.R (env X (zqb b S.hp) τ w)) (cs.map (zib S.hp)) vs := by
   intro cs
   induction cs with
   | nil => intro vs _ h; cases vs with | nil => trivial | cons _ _ => exact h.elim
   | cons c cs ih =>
    intro vs hc k; rw [List.flatMap_cons, List.all_append, Bool.and_eq_true] at hc; cases vs with | nil => exact k.elim | cons v vs => exact ⟨z6f h hb c v hc.1 k.1, ih vs hc.2 k.2⟩
  exact this cs _ hc hR
theorem z16 {b e k n : Nat} {xs : List Value} {τ : Nat → Value} {a : Act} {w : World} (h : SimT X S τ a w) (hb : S.hp b = .live (.row e k n xs)) : ∀ (l : List Cm) (vs : List Value), (l.flatMap idM).all (Nat.beq · b) = true → All2 (Cm.R (env X S.hp τ w)) l vs → All2 (Cm.R (env X (zqb b S.hp) τ w)) (l.map (zll S.hp)) vs
 | [], [], _, _ => trivial
 | m :: l, v :: vs, hc, k => by
  rw [List.flatMap_cons, List.all_append, Bool.and_eq_true] at hc; exact ⟨z6g h hb m v hc.1 k.1, z16 h hb l vs hc.2 k.2⟩
 | [], _ :: _, _, h => h.elim
 | _ :: _, [], _, h => h.elim
theorem z6h {b : Nat} {h : Nat → Hs} {τ : Nat → Value} {w : World} : ∀ (k : Bk) (v : Value) (base : Nat), k.R (env X h τ w) base v → k.R (env X (zqb b h) τ w) base v
 | .box cs, v, base, ⟨g, vs, h1, h2, h3⟩ => ⟨g, vs, h1, h2, All2.mono (zcj (zw1 (Below.refl _ _))) _ _ h3⟩
 | .row e k n xs, v, base, hk => hk
theorem zd0 {k b e q n : Nat} {ys : List Value} {xs : Array Operand} {ts : Array TypeId} {l : List Cm} {r : AV} (ho : o.op = .call { callee := .value (.func k), args := xs, argTypes := ts }) (hw : zam ops S o = true) (hk : zb6 P k = true) (hl : zj4 S xs.toList = some l) (hb : S.hp b = .live (.row e q n ys)) (hi : (l.flatMap idM).all (Nat.beq · b) = true) (hc : zbr P X.G k (l.map (zll S.hp)) r) : za9 P ops X o S ⟨r, [(b, .dead)], []⟩ := fun S2 a w h1 h2 h3 ⟨τ, hS⟩ => by
 refine .inl ⟨zbv hw h1 h3 hS, ?_⟩; rw [zhm ho hk]; obtain ⟨c1, c2, hc⟩ := hc
 have hR := zfy (S := S) (E := env X S2.hp τ w) (a := a) xs.toList l hl (fun x hx => by
  have hm : x ∈ o.op.operands := by rw [ho]; simp [Op.operands, Call.operands]; exact .inr (by simpa using hx)
  rw [← zca h1 hm]; exact hS.ev x (fun t e => h3 t (.inl (zbu (e ▸ hm)))))
 have e2 : S2.hp b = S.hp b := h2 (.all b) (by simp [Ef.foot, zfv]); have hsh : l.map (zll S2.hp) = l.map (zll S.hp) := List.map_congr_left fun m hm => zue fun i hi' => by
  have := List.all_eq_true.1 hi i (List.mem_flatMap.2 ⟨m, hm, hi'⟩); rw [Nat.eq_of_beq_eq_true this]; exact e2
 have hb2 : S2.hp b = .live (.row e q n ys) := e2.trans hb; have hR1 := z16 hS hb2 _ _ hi hR; rw [hsh] at hR1; have hR' := zdw (F := en0 (alw X (zqb b S2.hp) τ) w) (E := env X (zqb b S2.hp) τ w) rfl (fun _ _ h => h) _ _ c2 hR1; refine (hc (alw X (zqb b S2.hp) τ) w (xs.map a.eval) (X.hG w hS.bel) (by simpa using hR')).mono ?_; rintro e' w' ⟨v, rfl, hbl, hr⟩; refine ⟨v, rfl, τ, hS.turn (u := [(b, .dead)]) (zw1 hbl) (hS.belT hbl) (fun i q hq => ?_) (fun i g hi hg => ?_) (fun i j g hne hi hj => hS.sep i j g hne (zek hi).2 (zek hj).2) hS.one ?_⟩
 · have hq : zqb b S2.hp i = .live q := hq; obtain ⟨hne, _⟩ := zek ⟨q, hq⟩; rw [zw0 _ hne] at hq; exact z6h _ _ _ (zjt hbl _ _ _ (hS.hp i q hq))
 · have := hS.own i g (zek hi).2 hg; exact ⟨this.1, Nat.lt_of_lt_of_le this.2 hbl.size⟩
 · refine zj3 (E := en0 _ w') (F := env X (zqb b S2.hp) τ w') rfl (fun g _ hg => ?_) _ _ c1 hr; rcases hg with hg | hg
   · exact hg
   · exact ⟨.inr (Nat.le_trans hS.bsz hg), fun i hi he => by have := (hS.own i g (zek hi).2 he).2; omega⟩
end Ax
namespace Ax
open Go.RowKit MemL RegR
variable {P : Program} {ops : Array Oper} {X : Cx} {anc : Nat → Nat → Bool} {R : St → Prop} {T : List (Nat × List Rd × List Rd)} {S : St} {i : Nat} {r : List Nat} {o : Oper}
theorem znd (d : Tmp) (_ : o.dst = some d) (h : Nxt P ops X anc R T S i r o) : Nxt P ops X anc R T S i r o := h
end Ax
namespace Ax
open Go.RowKit MemL RegR
variable {P : Program} {X : Cx} {S : St}
def St.mv (S : St) (b b' : Nat) (r : Bk) : St := ⟨fun t => frV b (.o b') (S.tm t), fun i => cond (Nat.beq i b') (.live r) (cond (Nat.beq i b) .dead (frH b (.o b') (S.hp i)))⟩
theorem zd1 {b b' e n k : Nat} {xs : List Value} (hb : S.hp b = .live (.row e k n xs)) (hf : S.hp b' = .fresh) : Sub X S (S.mv b b' (.row e k n xs)) := fun a w ⟨τ, h⟩ => by
 have hne : b ≠ b' := fun e => by rw [e, hf] at hb; cases hb
 have hb1 : (S.mv b b' (.row e k n xs)).hp b' = .live (.row e k n xs) := by
  show cond (Nat.beq b' b') _ _ = _; rw [Nat.beq_refl]; rfl
 have hb2 : ∀ i, i ≠ b' → i ≠ b → (S.mv b b' (.row e k n xs)).hp i = frH b (.o b') (S.hp i) := fun i h1 h2 => by
  show cond (Nat.beq i b') _ _ = _; rw [zbe h1]; show cond (Nat.beq i b) _ _ = _; rw [zbe h2]; rfl
 have hb3 : (S.mv b b' (.row e k n xs)).hp b = .dead := by
  show cond (Nat.beq b b') _ _ = _; rw [zbe hne]; show cond (Nat.beq b b) _ _ = _; rw [Nat.beq_refl]; rfl
 have fr : ∀ q, frH b (.o b') q ≠ .fresh ↔ q ≠ .fresh := fun q => by
  cases q with
  | live q => cases q <;> simp [frH]
  | fresh => simp [frH]
  | dead => simp [frH]
  | patch _ _ => simp [frH]
 have hal : ∀ i, zck (S.mv b b' (.row e k n xs)).hp i → i = b' ∨ (i ≠ b' ∧ i ≠ b ∧ zck S.hp i) := fun i ⟨q, hq⟩ => by
  by_cases e1 : i = b'
  · exact .inl e1
  · by_cases e2 : i = b
    · subst e2; rw [hb3] at hq; cases hq
    · rw [hb2 i e1 e2] at hq; refine .inr ⟨e1, e2, ?_⟩; cases hh : S.hp i with
      | live q' => exact ⟨q', hh⟩
      | fresh => rw [hh] at hq; cases hq
      | dead => rw [hh] at hq; cases hq
      | patch _ _ => rw [hh] at hq; cases hq
 have t1 : zcy τ b' (τ b) b' = τ b := by unfold zcy; rw [if_pos rfl]
 have t2 : ∀ i, i ≠ b' → zcy τ b' (τ b) i = τ i := fun i hi => by unfold zcy; rw [if_neg hi]
 have hle : (env X S.hp τ w).le (env X (S.mv b b' (.row e k n xs)).hp (zcy τ b' (τ b)) w) := by
  refine ⟨fun i hi => ?_, fun g _ ha => ⟨ha.1, fun i hi => ?_⟩, Nat.le_refl _, fun _ _ _ _ => rfl⟩
  · have hi : S.hp i ≠ .fresh := hi; have e1 : i ≠ b' := fun e => hi (e ▸ hf); refine ⟨?_, t2 i e1⟩; show (S.mv b b' (.row e k n xs)).hp i ≠ .fresh; by_cases e2 : i = b
    · subst e2; rw [hb3]; intro e; cases e
    · rw [hb2 i e1 e2]; exact (fr _).2 hi
  · show occ (zcy τ b' (τ b) i) ≠ some g; rcases hal i hi with rfl | ⟨e1, e2, hi⟩
    · rw [t1]; exact ha.2 b ⟨_, hb⟩
    · rw [t2 i e1]; exact ha.2 i hi
 have hC : ∀ (c : Ce) (v : Value), c.R (env X S.hp τ w) v → (frC b (.o b') c).R (env X (S.mv b b' (.row e k n xs)).hp (zcy τ b' (τ b)) w) v := fun c v hR => by
  cases c with
  | o i =>
   simp only [frC]; by_cases ei : i = b
   · subst ei; rw [Nat.beq_refl]; have : v = τ i := hR.2; refine ⟨?_, ?_⟩
     · show (S.mv i b' (.row e k n xs)).hp b' ≠ .fresh; rw [hb1]; intro e; cases e
     · show v = zcy τ b' (τ i) b'; rw [t1]; exact this
   · rw [zbe ei]; exact zcj hle _ _ hR
  | _ => exact zcj hle _ _ hR
 have hM : ∀ (c : Cm) (v : Value), c.R (env X S.hp τ w) v → (frM b (.o b') c).R (env X (S.mv b b' (.row e k n xs)).hp (zcy τ b' (τ b)) w) v := fun c v hR => by
  cases c with
  | c x => exact hC x v hR
  | ag cs => obtain ⟨vs, e', q⟩ := hR; exact ⟨vs, e', zg4 _ hC _ _ q⟩
 refine ⟨zcy τ b' (τ b), h.size, h.nodef, h.bel, fun t ht => ?_, fun i q hq => ?_, fun i g hi ho => ?_, fun i j g hij hi hj ho => ?_, fun i => ?_, fun p hp => ⟨(hle.U _ (h.pin p hp).1).1, (hle.U _ (h.pin p hp).1).2.trans (h.pin p hp).2⟩⟩
 · have := h.tm t ht; show (frV b (.o b') (S.tm t)).R _ _; cases hv : S.tm t with
   | m m => rw [hv] at this; exact hM m _ this
   | tu l => rw [hv] at this; obtain ⟨vs, e', q⟩ := this; exact ⟨vs, e', zg4 _ hM _ _ q⟩
 · rcases hal i ⟨q, hq⟩ with rfl | ⟨e1, e2, q', hq'⟩
   · rw [hb1] at hq; cases hq
     rw [t1]; exact h.hp b _ hb
   · rw [hb2 i e1 e2, hq'] at hq; rw [t2 i e1]; have hk := h.hp i q' hq'; cases q' with
     | box cs =>
      simp only [frH] at hq; cases hq
      obtain ⟨g, vs, x1, x2, x3⟩ := hk; exact ⟨g, vs, x1, x2, zg4 _ hC _ _ x3⟩
     | row _ _ _ _ => simp only [frH] at hq; cases hq; exact hk
 · rcases hal i hi with rfl | ⟨e1, e2, hi⟩
   · rw [t1] at ho; exact h.own b g ⟨_, hb⟩ ho
   · rw [t2 i e1] at ho; exact h.own i g hi ho
 · rcases hal i hi with e0 | ⟨e1, e2, hi'⟩
   · rw [e0, t1] at ho; rcases hal j hj with f0 | ⟨f1, f2, hj'⟩
     · exact absurd (e0.trans f0.symm) hij
     · rw [t2 j f1]; exact h.sep b j g (Ne.symm f2) ⟨_, hb⟩ hj' ho
   · rw [t2 i e1] at ho; rcases hal j hj with f0 | ⟨f1, f2, hj'⟩
     · rw [f0, t1]; exact h.sep i b g e2 hi' ⟨_, hb⟩ ho
     · rw [t2 j f1]; exact h.sep i j g hij hi' hj' ho
 · by_cases e1 : i = b'
   · subst e1; rw [t1]; exact h.one b
   · rw [t2 i e1]; exact h.one i
def St.nl (S : St) (t b : Nat) (r : Bk) : St := ⟨fun t' => cond (Nat.beq t' t) (.m (.c (.o b))) (S.tm t'), fun i => cond (Nat.beq i b) (.live r) (S.hp i)⟩
theorem zg7 (t b e k : Nat) (ht : S.tm t = .m (.c (.v (.slice none 0 0)))) (hf : S.hp b = .fresh) : Sub X S (S.nl t b (.row e k 0 [])) := fun a w ⟨τ, h⟩ => by
 have hb1 : (S.nl t b (.row e k 0 [])).hp b = .live (.row e k 0 []) := by
  show cond (Nat.beq b b) _ _ = _; rw [Nat.beq_refl]; rfl
 have hb2 : ∀ i, i ≠ b → (S.nl t b (.row e k 0 [])).hp i = S.hp i := fun i h1 => by
  show cond (Nat.beq i b) _ _ = _; rw [zbe h1]; rfl
 have hal : ∀ i, zck (S.nl t b (.row e k 0 [])).hp i → i = b ∨ (i ≠ b ∧ zck S.hp i) := fun i ⟨q, hq⟩ => by
  by_cases e1 : i = b
  · exact .inl e1
  · rw [hb2 i e1] at hq; exact .inr ⟨e1, q, hq⟩
 have t1 : zcy τ b (.slice none 0 0) b = .slice none 0 0 := by unfold zcy; rw [if_pos rfl]
 have t2 : ∀ i, i ≠ b → zcy τ b (.slice none 0 0) i = τ i := fun i hi => by unfold zcy; rw [if_neg hi]
 have hle : (env X S.hp τ w).le (env X (S.nl t b (.row e k 0 [])).hp (zcy τ b (.slice none 0 0)) w) := by
  refine ⟨fun i hi => ?_, fun g _ ha => ⟨ha.1, fun i hi => ?_⟩, Nat.le_refl _, fun _ _ _ _ => rfl⟩
  · have hi : S.hp i ≠ .fresh := hi; have e1 : i ≠ b := fun e => hi (e ▸ hf); exact ⟨by show (S.nl t b (.row e k 0 [])).hp i ≠ .fresh; rw [hb2 i e1]; exact hi, t2 i e1⟩
  · show occ (zcy τ b (.slice none 0 0) i) ≠ some g; rcases hal i hi with rfl | ⟨e1, hi⟩
    · rw [t1]; intro e; cases e
    · rw [t2 i e1]; exact ha.2 i hi
 refine ⟨zcy τ b (.slice none 0 0), h.size, h.nodef, h.bel, fun t' ht' => ?_, fun i q hq => ?_, fun i g hi ho => ?_, fun i j g hij hi hj ho => ?_, fun i => ?_, fun p hp => ⟨(hle.U _ (h.pin p hp).1).1, (hle.U _ (h.pin p hp).1).2.trans (h.pin p hp).2⟩⟩
 · show (cond (Nat.beq t' t) (.m (.c (.o b))) (S.tm t')).R _ _; by_cases et : t' = t
   · subst et; rw [Nat.beq_refl]; have := h.tm t' ht'; rw [ht] at this; have this : a.tmps.getD t' undef = .slice none 0 0 := this; refine ⟨?_, ?_⟩
     · show (S.nl t' b (.row e k 0 [])).hp b ≠ .fresh; rw [hb1]; intro e; cases e
     · show _ = zcy τ b (.slice none 0 0) b; rw [t1]; exact this
   · rw [zbe et]; exact zvk hle _ _ (h.tm t' ht')
 · rcases hal i ⟨q, hq⟩ with rfl | ⟨e1, q', hq'⟩
   · rw [hb1] at hq; cases hq
     rw [t1]; exact World.ownsRow_nil w X.base e k
   · rw [hb2 i e1] at hq; rw [t2 i e1]; have hk := h.hp i q hq; cases q with
     | box cs =>
      obtain ⟨g, vs, x1, x2, x3⟩ := hk; exact ⟨g, vs, x1, x2, All2.mono (zcj hle) _ _ x3⟩
     | row _ _ _ _ => exact hk
 · rcases hal i hi with rfl | ⟨e1, hi⟩
   · rw [t1] at ho; cases ho
   · rw [t2 i e1] at ho; exact h.own i g hi ho
 · rcases hal i hi with e0 | ⟨e1, hi'⟩
   · rw [e0, t1] at ho; cases ho
   · rw [t2 i e1] at ho; rcases hal j hj with f0 | ⟨f1, hj'⟩
     · rw [f0, t1]; intro e; cases e
     · rw [t2 j f1]; exact h.sep i j g hij hi' hj' ho
 · by_cases e1 : i = b
   · subst e1; rw [t1]; rfl
   · rw [t2 i e1]; exact h.one i
def ltM (c c' : Cm) : Prop := ∀ E v, c.R E v → c'.R E v
theorem zs1 {E : En} : ∀ (cs cs' : List Cm) (vs : List Value), All2 ltM cs cs' → All2 (Cm.R E) cs vs → All2 (Cm.R E) cs' vs
 | [], [], _, _, h => h
 | c :: cs, c' :: cs', [], _, h => h.elim
 | c :: cs, c' :: cs', v :: vs, k, h => ⟨k.1 _ _ h.1, zs1 cs cs' vs k.2 h.2⟩
 | [], _ :: _, _, k, _ => k.elim
 | _ :: _, [], _, k, _ => k.elim
theorem zre {G : World → Prop} {k : FuncId} {args args' : List Cm} {r : AV} (h : zbr P G k args' r) (hc : args.all zcf = true) (hlt : All2 ltM args args') : zbr P G k args r :=
 ⟨h.1, hc, fun A W vs hG hR => h.2.2 A W vs hG (zs1 _ _ _ hlt hR)⟩
end Ax
namespace Ax
open Go.RowKit MemL RegR
variable {P : Program} {ops : Array Oper} {X : Cx} {o : Oper} {S : St}
abbrev Ln := Nat × List Ce × List Ce
def zqc (τ : Nat → Value) (bs : List Ln) (g : Nat) : Prop := ∃ p ∈ bs, occ (τ p.1) = some g
def zby (P : Program) (G : World → Prop) (k : FuncId) (bs : List Ln) (args : List Cm) (r : AV) : Prop :=
 (zcu r && bs.all (fun p => p.2.1.all zbl && p.2.2.all zbl)) = true ∧ (args.flatMap idM).all (fun b => bs.any (fun p => Nat.beq p.1 b)) = true ∧
 ∀ (A : Nat → Prop) (W : World) (τ : Nat → Value) (vs : Array Value), (∀ w, Kept (fun g => g < W.heap.size ∧ ¬ zqc τ bs g) W w → G w) →
  (∀ p ∈ bs, ∃ g us, τ p.1 = .pointer (some ⟨g, 0, none⟩) ∧ Bx W g us ∧ All2 (Ce.R (en0 A W)) p.2.1 us.toList ∧ ¬ A g) →
  (∀ p ∈ bs, ∀ q ∈ bs, p.1 ≠ q.1 → ∀ g, occ (τ p.1) = some g → occ (τ q.1) ≠ some g) →
  All2 (Cm.R ⟨A, fun b => ∃ p ∈ bs, p.1 = b, τ, W⟩) args vs.toList →
  Calls P k vs W fun e w' => ∃ v, e = .returned v ∧ Kept (fun g => g < W.heap.size ∧ ¬ zqc τ bs g) W w' ∧ r.R (en0 (fun g => A g ∨ W.heap.size ≤ g) w') v ∧
   ∀ p ∈ bs, ∃ g us, τ p.1 = .pointer (some ⟨g, 0, none⟩) ∧ Bx w' g us ∧ All2 (Ce.R (en0 (fun g => A g ∨ W.heap.size ≤ g) w')) p.2.2 us.toList
theorem look_mem {α : Type} {d : α} : ∀ (l : List (Nat × α)) (b : Nat) (x : α), look d l b = x → x ≠ d → ∃ p ∈ l, p.1 = b ∧ p.2 = x
 | [], b, x, h, k => absurd h.symm k
 | p :: r, b, x, h, k => by
  simp only [look] at h; cases e : Nat.beq b p.1 with
  | true => rw [e] at h; exact ⟨p, by simp, (Nat.eq_of_beq_eq_true e).symm, h⟩
  | false =>
   rw [e] at h; obtain ⟨q, h1, h2⟩ := look_mem r b x h k; exact ⟨q, List.mem_cons_of_mem _ h1, h2⟩
theorem zkf {α : Type} {d : α} : ∀ (l : List (Nat × α)) (p : Nat × α), p ∈ l → ∃ q ∈ l, q.1 = p.1 ∧ look d l p.1 = q.2
 | q :: r, p, h => by
  simp only [look]; cases e : Nat.beq p.1 q.1 with
  | true => exact ⟨q, by simp, (Nat.eq_of_beq_eq_true e).symm, rfl⟩
  | false =>
   rcases List.mem_cons.1 h with rfl | h
   · rw [Nat.beq_refl] at e; cases e
   · obtain ⟨q', h1, h2⟩ := zkf r p h; exact ⟨q', List.mem_cons_of_mem _ h1, h2⟩
def zfr (bs : List Ln) (args : List Cm) : St := ⟨(zow args).tm, look .fresh (bs.map fun p => (p.1, .live (.box p.2.1)))⟩
def EndB (S : St) : List Ln → Prop
 | [] => True
 | p :: l => (∃ cs, S.hp p.1 = .live (.box cs) ∧ cs.map (zib S.hp) = p.2.2) ∧ EndB S l
theorem EndB.mem {S : St} : ∀ {l : List Ln}, EndB S l → ∀ p ∈ l, ∃ cs, S.hp p.1 = .live (.box cs) ∧ cs.map (zib S.hp) = p.2.2
 | q :: l, h, p, hp => by
  rcases List.mem_cons.1 hp with rfl | hp
  · exact h.1
  · exact EndB.mem h.2 p hp
def RetW (P : Program) (fn : Func) (r : AV) (bs : List Ln) (e : Exit) (S : St) : Prop := match e with
 | .normal | .ret => zat P fn S = some r ∧ EndB S bs
 | _ => False
theorem zne {τ : Nat → Value} {a : Act} {w : World} (h : SimT X S τ a w) : ∀ (cs : List Ce) (vs : List Value), All2 (Ce.R (env X S.hp τ w)) cs vs → All2 (Ce.R ⟨fun g => X.A0 g ∨ X.base ≤ g, fun b => S.hp b ≠ .fresh, τ, w⟩) (cs.map (zib S.hp)) vs
 | [], [], _ => trivial
 | c :: cs, v :: vs, k => ⟨zj5 h c v k.1, zne h cs vs k.2⟩
 | [], _ :: _, k => k.elim
 | _ :: _, [], k => k.elim
def cxW (N : Nat) (W : World) (A : Nat → Prop) (G : World → Prop) (τ : Nat → Value) (bs : List Ln) (hG : ∀ w, Kept (fun g => g < W.heap.size ∧ ¬ zqc τ bs g) W w → G w) : Cx :=
 ⟨N, W, A, G, W.heap.size, Nat.le_refl _, fun g => g < W.heap.size ∧ ¬ zqc τ bs g, fun _ h => h.1, hG, bs.map fun p => (p.1, τ p.1), none, []⟩
theorem zb1 {G : World → Prop} {k : FuncId} {fn : Func} {c : Code} {bs : List Ln} {args : List Cm} {r : AV} (N : Nat) (hf : P.funcs[k]? = some fn) (hb : fn.body = some c) (hcl : (zcu r && bs.all (fun p => p.2.1.all zbl && p.2.2.all zbl)) = true) (hid : (args.flatMap idM).all (fun b => bs.any (fun p => Nat.beq p.1 b)) = true)
 (hN : args.length + (fn.ntmps - args.length) = N) (hres : zex N fn.results.toList = true)
 (h : ∀ (W : World) (A : Nat → Prop) (τ : Nat → Value) (hG : ∀ w, Kept (fun g => g < W.heap.size ∧ ¬ zqc τ bs g) W w → G w), Aw P (cxW N W A G τ bs hG) c (RetW P fn r bs) (zfr bs args)) : zby P G k bs args r := by
 refine ⟨hcl, hid, fun A W τ vs hG hB hsep hR => ?_⟩; simp only [Bool.and_eq_true, List.all_eq_true] at hcl; obtain ⟨hcr, hcb⟩ := hcl; refine calls_of_wp hf hb ?_; have hlen := All2.length _ _ hR; simp only [Array.length_toList] at hlen; obtain ⟨τ', hτ'⟩ : ∃ τ' : Nat → Value, τ' = fun b => cond (bs.any fun p => Nat.beq p.1 b) (τ b) (.bool false) := ⟨_, rfl⟩; have ht : ∀ p ∈ bs, τ' p.1 = τ p.1 := fun p hp => by
  rw [hτ']; have : (bs.any fun q => Nat.beq q.1 p.1) = true := List.any_eq_true.2 ⟨p, hp, Nat.beq_refl _⟩; simp only [this, cond]
 have hlive : ∀ b q, look .fresh (bs.map fun p => (p.1, Hs.live (.box p.2.1))) b = .live q → ∃ p ∈ bs, p.1 = b ∧ q = .box p.2.1 := fun b q hq => by
  obtain ⟨x, h1, h2, h3⟩ := look_mem _ b _ hq (fun e => by cases e); obtain ⟨p, hp, rfl⟩ := List.mem_map.1 h1; exact ⟨p, hp, h2, by cases h3; rfl⟩
 have halw : ∀ g, A g → alw (cxW N W A G τ bs hG) (zfr bs args).hp τ' g := fun g hg => ⟨.inl hg, fun b ⟨q, hq⟩ ho => by
  obtain ⟨p, hp, rfl, _⟩ := hlive b q hq; obtain ⟨g', us, e1, _, _, e4⟩ := hB p hp; rw [ht p hp, e1] at ho
  cases ho; exact e4 hg⟩
 have hS : Sim (cxW N W A G τ bs hG) (zfr bs args) { tmps := vs ++ Array.replicate (fn.ntmps - vs.size) undef, defers := [] } W := by
  refine ⟨τ', by simp [← hN, hlen, cxW], rfl, Kept.refl _ _, fun t ht' => ?_, fun b k hk => ?_, fun b g hk ho => ?_, fun b b' g hne hk hk' ho => ?_, fun b => ?_, fun q hq => ?_⟩
  · show AV.R _ (match args[t]? with | some m => .m m | none => .m (.c (.v undef))) _; have ht' : t < N := ht'; by_cases hlt : t < args.length
    · obtain ⟨v, hv, hr⟩ := All2.get _ _ t _ hR (List.getElem?_eq_getElem hlt); rw [List.getElem?_eq_getElem hlt]; have e : (vs ++ Array.replicate (fn.ntmps - vs.size) undef).getD t undef = v := by
       rw [Array.getD_eq_getD_getElem?, Array.getElem?_append_left (by omega)]; simp only [Array.getElem?_toList] at hv; rw [hv]; rfl
      rw [e]; refine zsj (E := ⟨A, fun b => ∃ p ∈ bs, p.1 = b, τ, W⟩) (F := env (cxW N W A G τ bs hG) (zfr bs args).hp τ' W) ⟨fun b hb' => ?_, fun g _ hg => halw g hg, Nat.le_refl _, fun _ _ _ _ => rfl⟩ _ _ hr; obtain ⟨p, hp, rfl⟩ := hb'; refine ⟨?_, ht p hp⟩; obtain ⟨q, q1, q2, q3⟩ := zkf (d := Hs.fresh) (bs.map fun p => (p.1, Hs.live (.box p.2.1))) (p.1, .live (.box p.2.1)) (List.mem_map.2 ⟨p, hp, rfl⟩); show look Hs.fresh (bs.map fun p => (p.1, Hs.live (.box p.2.1))) p.1 ≠ Hs.fresh; rw [show look Hs.fresh (bs.map fun p => (p.1, Hs.live (.box p.2.1))) p.1 = q.2 from q3]; obtain ⟨p', _, rfl⟩ := List.mem_map.1 q1; intro e; cases e
    · rw [List.getElem?_eq_none (by omega)]; show _ = undef; rw [Array.getD_eq_getD_getElem?, Array.getElem?_append_right (by omega)]; rw [Array.getElem?_replicate]; split <;> rfl
  · obtain ⟨p, hp, rfl, rfl⟩ := hlive b k hk; obtain ⟨g, us, e1, e2, e3, _⟩ := hB p hp; have := hcb p hp; exact ⟨g, us, (ht p hp).trans e1, e2, zds (E := en0 A W) (F := env (cxW N W A G τ bs hG) (zfr bs args).hp τ' W) rfl (fun g _ hg => halw g hg) _ _ (List.all_eq_true.2 this.1) e3⟩
  · obtain ⟨q, hq⟩ := hk; obtain ⟨p, hp, rfl, rfl⟩ := hlive b q hq; obtain ⟨g', us, e1, e2, e3, _⟩ := hB p hp; rw [ht p hp] at ho; refine ⟨fun hk => hk.2 ⟨p, hp, ho⟩, ?_⟩; rw [e1] at ho; cases ho
    exact e2.lt
  · obtain ⟨q, hq⟩ := hk; obtain ⟨q', hq'⟩ := hk'; obtain ⟨p, hp, rfl, rfl⟩ := hlive b q hq; obtain ⟨p', hp', rfl, rfl⟩ := hlive b' q' hq'; rw [ht p hp] at ho; rw [ht p' hp']; exact hsep p hp p' hp' hne g ho
  · have e0 : τ' b = cond (bs.any fun p => Nat.beq p.1 b) (τ b) (.bool false) := by rw [hτ']
    rw [e0]; cases e : bs.any fun p => Nat.beq p.1 b with
    | false => rfl
    | true =>
     obtain ⟨p, hp, e'⟩ := List.any_eq_true.1 e; obtain rfl := Nat.eq_of_beq_eq_true e'; obtain ⟨g, us, e1, _⟩ := hB p hp; show (τ p.1).oneCell' = true; rw [e1]; rfl
  · obtain ⟨p, hp, rfl⟩ := List.mem_map.1 hq; refine ⟨?_, ht p hp⟩; obtain ⟨q, q1, q2, q3⟩ := zkf (d := Hs.fresh) (bs.map fun p => (p.1, Hs.live (.box p.2.1))) (p.1, .live (.box p.2.1)) (List.mem_map.2 ⟨p, hp, rfl⟩); show look Hs.fresh (bs.map fun p => (p.1, Hs.live (.box p.2.1))) p.1 ≠ Hs.fresh; rw [show look Hs.fresh (bs.map fun p => (p.1, Hs.live (.box p.2.1))) p.1 = q.2 from q3]; obtain ⟨p', _, rfl⟩ := List.mem_map.1 q1; intro e; cases e
 refine wp_mono (wpIn_wide.1 (h W A τ hG _ W hS 0)) ?_; intro e a' w' ⟨S', q, τe, s⟩
 have fin : zat P fn S' = some r ∧ EndB S' bs → a'.defers = [] ∧ ∃ v, (results fn a'.tmps).run P w' = .ok v w' ∧ (∃ u, Ending.returned v = .returned u ∧ Kept (fun g => g < W.heap.size ∧ ¬ zqc τ bs g) W w' ∧ r.R (en0 (fun g => A g ∨ W.heap.size ≤ g) w') u ∧
  ∀ p ∈ bs, ∃ g us, τ p.1 = .pointer (some ⟨g, 0, none⟩) ∧ Bx w' g us ∧ All2 (Ce.R (en0 (fun g => A g ∨ W.heap.size ≤ g) w')) p.2.2 us.toList) := fun ⟨hr, hE⟩ => by
  refine ⟨s.nodef, ?_⟩; have hbx : ∀ p ∈ bs, ∃ g us, τ p.1 = .pointer (some ⟨g, 0, none⟩) ∧ Bx w' g us ∧ All2 (Ce.R (en0 (fun g => A g ∨ W.heap.size ≤ g) w')) p.2.2 us.toList := fun p hp => by
   obtain ⟨cs, e1, e2⟩ := hE.mem p hp; obtain ⟨g, us, e3, e4, e5⟩ := s.hp p.1 _ e1; have hpin := (s.pin (p.1, τ p.1) (List.mem_map.2 ⟨p, hp, rfl⟩)).2; have e6 := zne s _ _ e5; rw [e2] at e6; have := hcb p hp; exact ⟨g, us, by rw [← e3]; exact hpin.symm, e4, zds (E := ⟨_, _, τe, w'⟩) (F := en0 (fun g => A g ∨ W.heap.size ≤ g) w') rfl (fun g _ hg => hg) _ _ (List.all_eq_true.2 this.2) e6⟩
  unfold zat at hr
  split at hr
  · rename_i m hm; cases hr
    obtain ⟨vs', h1, h2⟩ := zeu s _ _ hres hm; obtain ⟨v, rfl⟩ : ∃ v, vs' = [v] := by
     cases vs' with
     | nil => exact h2.elim
     | cons v l => cases l with | nil => exact ⟨v, rfl⟩ | cons _ _ => exact h2.2.elim
    refine ⟨v, ?_, v, rfl, s.bel, (zfx (E := ⟨_, _, τe, w'⟩) (F := en0 (fun g => A g ∨ W.heap.size ≤ g) w') rfl (fun g _ hg => hg) _ _ hcr h2.1 : Cm.R _ _ _), hbx⟩; rw [zdl]; rw [Array.mapM_eq_mapM_toList]; simp only [Sem.run_bind, Sem.run_map, h1, Result.andThen_ok, Sem.run_pure]
    rfl
  · rename_i ms hne hm; cases hr
    obtain ⟨vs', h1, h2⟩ := zeu s _ _ hres hm; have hl := All2.length _ _ h2; have hsz : vs'.length ≠ 1 := fun e => by
     cases ms with
     | nil => simp at hl; omega
     | cons m l => cases l with
      | nil => exact hne m rfl
      | cons _ _ => simp at hl; omega
    refine ⟨.tuple vs'.toArray, ?_, _, rfl, s.bel, ⟨_, rfl, zdw (E := ⟨_, _, τe, w'⟩) (F := en0 (fun g => A g ∨ W.heap.size ≤ g) w') rfl (fun g _ hg => hg) _ _ hcr h2⟩, hbx⟩; rw [zdl]; rw [Array.mapM_eq_mapM_toList]; simp only [Sem.run_bind, Sem.run_map, h1, Result.andThen_ok, Sem.run_pure]; simp [hsz]
  · cases hr
 cases e with
 | normal => exact fin q
 | ret => exact fin q
 | _ => exact q.elim
def rnC (nm : Nat → Nat) : Ce → Ce
 | .p b o => .p (nm b) o
 | .cl fi bs => .cl fi (bs.map nm)
 | c => c
def rnM (nm : Nat → Nat) : Cm → Cm
 | .c x => .c (rnC nm x)
 | .ag cs => .ag (cs.map (rnC nm))
def z7x : Ce → Bool
 | .p _ _ | .cl _ _ => true
 | c => zbl c
def zpd : Cm → Bool
 | .c x => z7x x
 | .ag cs => cs.all z7x
theorem z6i {E : En} {τ : Nat → Value} {nm : Nat → Nat} {U : Nat → Prop} (hτ : ∀ b, U b → E.τ (nm b) = τ b) : ∀ (c : Ce) (v : Value), z7x c = true → (∀ b ∈ idC c, U b) → (rnC nm c).R E v → c.R ⟨E.A, U, τ, E.w⟩ v
 | .v x, v, _, _, h => h
 | .s n k xs, v, _, _, h => h
 | .q xs, v, _, _, h => h
 | .any, _, _, _, _ => trivial
 | .p b off, v, _, hu, ⟨_, g, h1, h2⟩ => ⟨hu b (by simp [idC]), g, (hτ b (hu b (by simp [idC]))).symm.trans h1, h2⟩
 | .cl fi bs, v, _, hu, ⟨h1, h2⟩ => ⟨by
  have e : bs.map (E.τ ∘ nm) = bs.map τ := List.map_congr_left (fun b hb => hτ b (hu b hb))
  rw [h1, List.map_map, e], fun b hb => hu b hb⟩
 | .o _, _, h, _, _ | .rp _ _, _, h, _, _ | .f _ _ _, _, h, _, _ | .bs _ _ _, _, h, _, _ => by cases h
theorem z6j {E : En} {τ : Nat → Value} {nm : Nat → Nat} {U : Nat → Prop} (hτ : ∀ b, U b → E.τ (nm b) = τ b) : ∀ (cs : List Ce) (vs : List Value), cs.all z7x = true → (∀ b ∈ cs.flatMap idC, U b) → All2 (Ce.R E) (cs.map (rnC nm)) vs → All2 (Ce.R ⟨E.A, U, τ, E.w⟩) cs vs
 | [], [], _, _, _ => trivial
 | c :: cs, v :: vs, h, hu, k => by
  simp only [List.all_cons, Bool.and_eq_true] at h; exact ⟨z6i hτ c v h.1 (fun b hb => hu b (by rw [List.flatMap_cons]; exact List.mem_append_left _ hb)) k.1, z6j hτ cs vs h.2 (fun b hb => hu b (by rw [List.flatMap_cons]; exact List.mem_append_right _ hb)) k.2⟩
 | [], _ :: _, _, _, k => k.elim
 | _ :: _, [], _, _, k => k.elim
theorem z8i {E : En} {τ : Nat → Value} {nm : Nat → Nat} {U : Nat → Prop} (hτ : ∀ b, U b → E.τ (nm b) = τ b) : ∀ (c : Cm) (v : Value), zpd c = true → (∀ b ∈ idM c, U b) → (rnM nm c).R E v → c.R ⟨E.A, U, τ, E.w⟩ v
 | .c x, v, h, hu, k => z6i hτ x v h hu k
 | .ag cs, v, h, hu, ⟨vs, e, k⟩ => ⟨vs, e, z6j hτ cs _ h hu k⟩
theorem zw2 {E : En} {τ : Nat → Value} {nm : Nat → Nat} {U : Nat → Prop} (hτ : ∀ b, U b → E.τ (nm b) = τ b) : ∀ (cs : List Cm) (vs : List Value), cs.all zpd = true → (∀ b ∈ cs.flatMap idM, U b) → All2 (Cm.R E) (cs.map (rnM nm)) vs → All2 (Cm.R ⟨E.A, U, τ, E.w⟩) cs vs
 | [], [], _, _, _ => trivial
 | c :: cs, v :: vs, h, hu, k => by
  simp only [List.all_cons, Bool.and_eq_true] at h; exact ⟨z8i hτ c v h.1 (fun b hb => hu b (by rw [List.flatMap_cons]; exact List.mem_append_left _ hb)) k.1, zw2 hτ cs vs h.2 (fun b hb => hu b (by rw [List.flatMap_cons]; exact List.mem_append_right _ hb)) k.2⟩
 | [], _ :: _, _, _, k => k.elim
 | _ :: _, [], _, _, k => k.elim
def upB (nm : Nat → Nat) (bs : List Ln) : List (Nat × Hs) := bs.map fun p => (nm p.1, .live (.box p.2.2))
theorem zel {nm : Nat → Nat} (h : Nat → Hs) : ∀ (bs : List Ln) (b : Nat), (∃ p ∈ bs, nm p.1 = b ∧ upd (upB nm bs) h b = .live (.box p.2.2)) ∨ ((∀ p ∈ bs, nm p.1 ≠ b) ∧ upd (upB nm bs) h b = h b)
 | [], b => .inr ⟨fun p hp => (by cases hp), rfl⟩
 | p :: bs, b => by
  show (∃ q ∈ p :: bs, nm q.1 = b ∧ cond (Nat.beq b (nm p.1)) (Hs.live (.box p.2.2)) (upd (upB nm bs) h b) = .live (.box q.2.2)) ∨ ((∀ q ∈ p :: bs, nm q.1 ≠ b) ∧ cond (Nat.beq b (nm p.1)) (Hs.live (.box p.2.2)) (upd (upB nm bs) h b) = h b); cases e : Nat.beq b (nm p.1) with
  | true => exact .inl ⟨p, by simp, (Nat.eq_of_beq_eq_true e).symm, rfl⟩
  | false =>
   have hne : nm p.1 ≠ b := fun e' => by rw [← e', Nat.beq_refl] at e; cases e
   rcases zel (nm := nm) h bs b with ⟨q, h1, h2, h3⟩ | ⟨h1, h2⟩
   · exact .inl ⟨q, List.mem_cons_of_mem _ h1, h2, h3⟩
   · refine .inr ⟨fun q hq => ?_, h2⟩; rcases List.mem_cons.1 hq with rfl | hq
     · exact hne
     · exact h1 q hq
def z5k (nm : Nat → Nat) (bs : List Ln) : Bool := bs.all fun p => bs.all fun q => Nat.beq p.1 q.1 || !Nat.beq (nm p.1) (nm q.1)
theorem zih {k : FuncId} {bs : List Ln} {nm : Nat → Nat} {args : List Cm} {r : AV} {vals : Array Value} {τ : Nat → Value} {a : Act} {w : World} (hS : SimT X S τ a w) (hc : zby P X.G k bs args r) (hb : ∀ p ∈ bs, S.hp (nm p.1) = .live (.box p.2.1)) (hin : z5k nm bs = true)
 (hok : args.all zpd = true) (hR : All2 (Cm.R (env X S.hp τ w)) (args.map (rnM nm)) vals.toList) {d : Option Tmp} {rd : List Rd} :
 Calls P k vals w fun e w' => ∃ v, e = .returned v ∧ SimT X (S.app d ⟨r, upB nm bs, rd⟩) τ (a.put d v) w' := by
 obtain ⟨c1, c2, hc⟩ := hc; simp only [Bool.and_eq_true, List.all_eq_true] at c1; obtain ⟨c1, c3⟩ := c1; have c3 : ∀ p ∈ bs, p.2.1.all zbl = true ∧ p.2.2.all zbl = true := fun p hp => by
  have := c3 p hp; exact ⟨List.all_eq_true.2 this.1, List.all_eq_true.2 this.2⟩
 have hinj : ∀ p ∈ bs, ∀ q ∈ bs, p.1 ≠ q.1 → nm p.1 ≠ nm q.1 := fun p hp q hq hne e => by
  have := List.all_eq_true.1 (List.all_eq_true.1 hin p hp) q hq; rw [e, Nat.beq_refl] at this; simp at this; exact hne this
 have hal : ∀ p ∈ bs, zck S.hp (nm p.1) := fun p hp => ⟨_, hb p hp⟩; have hlent : ∀ g, zqc (fun b => τ (nm b)) bs g → ∃ b, zck S.hp b ∧ occ (τ b) = some g := fun g ⟨p, hp, e⟩ => ⟨_, hal p hp, e⟩
 refine (hc (alw X S.hp τ) w (fun b => τ (nm b)) vals (fun w' hk => X.hG w' (hS.bel.trans (hk.mono fun g hg => ⟨Nat.lt_of_lt_of_le (X.hK g hg) hS.bel.size, fun hl => by
  obtain ⟨b, h1, h2⟩ := hlent g hl
  exact (hS.own b g h1 h2).1 hg⟩))) (fun p hp => ?_) (fun p hp q hq hne g ho => hS.sep _ _ g (hinj p hp q hq hne) (hal p hp) (hal q hq) ho) ?_).mono ?_
 · obtain ⟨g, us, e1, e2, e3⟩ := hS.hp _ _ (hb p hp); exact ⟨g, us, e1, e2, zds (E := env X S.hp τ w) (F := en0 (alw X S.hp τ) w) rfl (fun _ _ h => h) _ _ (c3 p hp).1 e3, fun hA => hA.2 _ (hal p hp) (by rw [e1]; rfl)⟩
 · refine zw2 (E := env X S.hp τ w) (nm := nm) (U := fun b => ∃ p ∈ bs, p.1 = b) (fun b _ => rfl) _ _ hok (fun b hb' => ?_) hR; obtain ⟨p, hp, e⟩ := List.any_eq_true.1 (List.all_eq_true.1 c2 b hb'); exact ⟨p, hp, Nat.eq_of_beq_eq_true e⟩
 rintro e w' ⟨v, rfl, hk, hr, hbx⟩; refine ⟨v, rfl, ?_⟩; have hal' : ∀ b, zck (upd (upB nm bs) S.hp) b → zck S.hp b := fun b ⟨q, hq⟩ => by
  rcases zel (nm := nm) S.hp bs b with ⟨p, h1, rfl, _⟩ | ⟨_, h2⟩
  · exact hal p h1
  · rw [h2] at hq; exact ⟨q, hq⟩
 have hbel : Kept X.K X.W0 w' := hS.bel.trans (hk.mono fun g hg => ⟨Nat.lt_of_lt_of_le (X.hK g hg) hS.bel.size, fun hl => by
  obtain ⟨b, h1, h2⟩ := hlent g hl
  exact (hS.own b g h1 h2).1 hg⟩)
 have hle : (env X S.hp τ w).le (env X (upd (upB nm bs) S.hp) τ w') := by
  refine ⟨fun i hi => ⟨?_, rfl⟩, fun g _ ha => ⟨ha.1, fun i hi => ha.2 i (hal' i hi)⟩, hk.size, fun g o hg ha => hk.cell (p := ⟨g, o, none⟩) ⟨hg, fun hl => ?_⟩⟩
  · show upd (upB nm bs) S.hp i ≠ .fresh; rcases zel (nm := nm) S.hp bs i with ⟨p, h1, rfl, h3⟩ | ⟨_, h2⟩
    · rw [h3]; intro e; cases e
    · rw [h2]; exact hi
  · obtain ⟨b, h1, h2⟩ := hlent g hl; exact ha.2 b h1 h2
 have hA' : ∀ g, g < w'.heap.size → (alw X S.hp τ g ∨ w.heap.size ≤ g) → alw X (upd (upB nm bs) S.hp) τ g := fun g _ hg => by
  rcases hg with hg | hg
  · exact ⟨hg.1, fun i hi => hg.2 i (hal' i hi)⟩
  · exact ⟨.inr (Nat.le_trans hS.bsz hg), fun i hi he => by have := (hS.own i g (hal' i hi) he).2; omega⟩
 refine hS.turn (u := upB nm bs) hle hbel (fun i q hq => ?_) (fun i g hi ho => ?_) (fun i j g hij hi hj ho => hS.sep i j g hij (hal' i hi) (hal' j hj) ho) hS.one ?_
 · rcases zel (nm := nm) S.hp bs i with ⟨p, h1, rfl, h3⟩ | ⟨h1, h2⟩
   · rw [h3] at hq; cases hq
     obtain ⟨g, us, e1, e2, e3⟩ := hbx p h1; exact ⟨g, us, e1, e2, zds (E := en0 (fun g => alw X S.hp τ g ∨ w.heap.size ≤ g) w') (F := env X (upd (upB nm bs) S.hp) τ w') rfl (fun g hg h => hA' g hg h) _ _ (c3 p h1).2 e3⟩
   · rw [h2] at hq; have hfar : ∀ g, occ (τ i) = some g → w'.heap[g]? = w.heap[g]? := fun g ho => hk.block g ⟨(hS.own i g ⟨q, hq⟩ ho).2, fun ⟨p, hp, e⟩ => hS.sep _ _ g (h1 p hp) (hal p hp) ⟨q, hq⟩ e ho⟩; have hk' := hS.hp i q hq; cases q with
     | box cs' =>
      obtain ⟨g', vs', x1, ⟨T', x2⟩, x3⟩ := hk'; exact ⟨g', vs', x1, ⟨T', (hfar g' (by rw [x1]; rfl)).trans x2⟩, All2.mono (zcj hle) _ _ x3⟩
     | row e' k' n' xs' =>
      obtain ⟨x0, x1⟩ := hk'; refine ⟨x0, ?_⟩; rcases x1 with x1 | ⟨g', cap, cur, y1, y2, y3, y4⟩
      · exact .inl x1
      · exact .inr ⟨g', cap, cur, y1, y2, (hfar g' (by rw [y1]; rfl)).trans y3, y4⟩
 · have := hS.own i g (hal' i hi) ho; exact ⟨this.1, Nat.lt_of_lt_of_le this.2 hk.size⟩
 · exact zj3 (E := en0 (fun g => alw X S.hp τ g ∨ w.heap.size ≤ g) w') (F := env X (upd (upB nm bs) S.hp) τ w') rfl hA' _ _ c1 hr
def AtB (S : St) (nm : Nat → Nat) : List Ln → Prop
 | [] => True
 | p :: l => S.hp (nm p.1) = .live (.box p.2.1) ∧ AtB S nm l
theorem AtB.mem {S : St} {nm : Nat → Nat} : ∀ {l : List Ln}, AtB S nm l → ∀ p ∈ l, S.hp (nm p.1) = .live (.box p.2.1)
 | q :: l, h, p, hp => by
  rcases List.mem_cons.1 hp with rfl | hp
  · exact h.1
  · exact AtB.mem h.2 p hp
theorem zev {k : FuncId} {xs : Array Operand} {ts : Array TypeId} {bs : List Ln} (nm : Nat → Nat) {args : List Cm} {r : AV} (hc : zby P X.G k bs args r) (ho : o.op = .call { callee := .value (.func k), args := xs, argTypes := ts }) (hw : zam ops S o = true) (hk : zb6 P k = true) (hl : zj4 S xs.toList = some (args.map (rnM nm)))
 (hb : AtB S nm bs) (hin : (z5k nm bs && args.all zpd) = true) : za9 P ops X o S ⟨r, upB nm bs, []⟩ := fun S2 a w h1 h2 h3 ⟨τ, hS⟩ => by
 refine .inl ⟨zbv hw h1 h3 hS, ?_⟩; rw [zhm ho hk]; simp only [Bool.and_eq_true] at hin
 have hR := zfy (S := S) (E := env X S2.hp τ w) (a := a) xs.toList _ hl (fun x hx => by
  have hm : x ∈ o.op.operands := by rw [ho]; simp [Op.operands, Call.operands]; exact .inr (by simpa using hx)
  rw [← zca h1 hm]; exact hS.ev x (fun t e => h3 t (.inl (zbu (e ▸ hm)))))
 refine (zih (d := o.dst) (rd := []) hS hc (fun p hp => ?_) hin.1 hin.2 (by simpa using hR)).mono ?_
 · exact Eq.trans (h2 (.all (nm p.1)) (by
    simp only [Ef.foot, List.nil_append, List.mem_map]
    exact ⟨(nm p.1, .live (.box p.2.2)), List.mem_map.2 ⟨p, hp, rfl⟩, rfl⟩)) (hb.mem p hp)
 · rintro e w' ⟨v, rfl, hS'⟩; exact ⟨v, rfl, τ, hS'⟩
theorem zbz {k : FuncId} {t : Tmp} {cap : List Nat} {xs : Array Operand} {ts : Array TypeId} {bs : List Ln} (nm : Nat → Nat) {args : List Cm} {l : List Cm} {r : AV} (hc : zby P X.G k bs args r) (ho : o.op = .call { callee := .value (.tmp t), args := xs, argTypes := ts }) (hw : zam ops S o = true) (hf : S.tm t = .m (.c (.cl k cap))) (hk : zb6 P k = true) (hl : zj4 S xs.toList = some l)
 (hlc : l ++ cap.map (fun b => .c (.p b 0)) = args.map (rnM nm)) (hb : AtB S nm bs) (hin : (z5k nm bs && args.all zpd && cap.all fun b => bs.any fun p => Nat.beq (nm p.1) b) = true) (h9 : Nat.ble k 999999 = true := by rfl) : za9 P ops X o S ⟨r, upB nm bs, []⟩ := fun S2 a w h1 h2 h3 ⟨τ, hS⟩ => by
 refine .inl ⟨zbv hw h1 h3 hS, ?_⟩; simp only [Bool.and_eq_true] at hin
 have hb2 : ∀ p ∈ bs, S2.hp (nm p.1) = .live (.box p.2.1) := fun p hp => Eq.trans (h2 (.all (nm p.1)) (by
  simp only [Ef.foot, List.nil_append, List.mem_map]
  exact ⟨(nm p.1, .live (.box p.2.2)), List.mem_map.2 ⟨p, hp, rfl⟩, rfl⟩)) (hb.mem p hp)
 have hmt : Operand.tmp t ∈ o.op.operands := by rw [ho]; simp [Op.operands, Call.operands]
 have hfv : (Ce.cl k cap).R (env X S2.hp τ w) (a.eval (.tmp t)) := by
  have := hS.ev (.tmp t) (fun t' e => h3 t' (.inl (zbu (e ▸ hmt)))); rw [zca h1 hmt] at this; rw [show S.ev (.tmp t) = S.tm t from rfl, hf] at this; exact this
 obtain ⟨hfv, hU⟩ := hfv; unfold clV at hfv; rw [h9] at hfv; have hfv : a.eval (.tmp t) = .func (.func k) #[] (cap.map τ).toArray := hfv; have hrun : (execOp a.eval o).run P w = .ok (.enter k (xs.map a.eval ++ (cap.map τ).toArray)) w := by
  unfold zb6 at hk
  split at hk
  · rename_i fn hfn; simp only [Bool.and_eq_true, Bool.not_eq_true'] at hk; obtain ⟨k1, k2⟩ := hk; have k2 : ¬ fn.name = "runtime.NumGoroutine" := by simpa using k2
    have k3 : ¬ fn.body = none := by intro e; rw [e] at k1; cases k1
    simp [execOp, ho, resolve, hfv, Deferred.ofValue, invoke, callFunc, hfn, k2, k3, env]
  · cases hk
 rw [hrun]
 have hR := zfy (S := S) (E := env X S2.hp τ w) (a := a) xs.toList _ hl (fun x hx => by
  have hm : x ∈ o.op.operands := by rw [ho]; simp [Op.operands, Call.operands]; exact .inr (by simpa using hx)
  rw [← zca h1 hm]; exact hS.ev x (fun t e => h3 t (.inl (zbu (e ▸ hm)))))
 have hcap : ∀ (l : List Nat), (∀ b ∈ l, b ∈ cap) → All2 (Cm.R (env X S2.hp τ w)) (l.map fun b => .c (.p b 0)) (l.map τ) := by
  intro l
  induction l with
  | nil => intro _; trivial
  | cons b l ih =>
   intro h; refine ⟨?_, ih fun c hc => h c (List.mem_cons_of_mem _ hc)⟩; have hbm := h b (by simp); obtain ⟨p, hp, e⟩ := List.any_eq_true.1 (List.all_eq_true.1 hin.2 b hbm); obtain rfl := Nat.eq_of_beq_eq_true e; obtain ⟨g, us, e1, _⟩ := hS.hp _ _ (hb2 p hp); exact ⟨hU _ hbm, g, e1, e1⟩
 refine (zih (d := o.dst) (rd := []) hS hc hb2 hin.1.1 hin.1.2 ?_).mono ?_
 · rw [← hlc]; have : (xs.map a.eval ++ (cap.map τ).toArray).toList = (xs.map a.eval).toList ++ cap.map τ := by simp
   rw [this]; exact All2.append _ _ _ _ (by simpa using hR) (hcap cap (fun _ h => h))
 · rintro e w' ⟨v, rfl, hS'⟩; exact ⟨v, rfl, τ, hS'⟩
theorem zix {k : FuncId} {t : Tmp} {cap : List Nat} {xs : Array Operand} {ts : Array TypeId} {bs : List Ln} (nm : Nat → Nat) {args : List Cm} {l : List Cm} {r : AV} (hc : zby P X.G k bs args r) (ho : o.op = .call { callee := .value (.tmp t), args := xs, argTypes := ts }) (hw : zam ops S o = true) (hf : S.tm t = .m (.c (.cl (k + 1000000) cap))) (hk : zb6 P k = true) (hl : zj4 S xs.toList = some l)
 (hlc : cap.map (fun b => .c (.p b 0)) ++ l = args.map (rnM nm)) (hb : AtB S nm bs) (hin : (z5k nm bs && args.all zpd && cap.all fun b => bs.any fun p => Nat.beq (nm p.1) b) = true) : za9 P ops X o S ⟨r, upB nm bs, []⟩ := fun S2 a w h1 h2 h3 ⟨τ, hS⟩ => by
 refine .inl ⟨zbv hw h1 h3 hS, ?_⟩; simp only [Bool.and_eq_true] at hin
 have hb2 : ∀ p ∈ bs, S2.hp (nm p.1) = .live (.box p.2.1) := fun p hp => Eq.trans (h2 (.all (nm p.1)) (by
  simp only [Ef.foot, List.nil_append, List.mem_map]
  exact ⟨(nm p.1, .live (.box p.2.2)), List.mem_map.2 ⟨p, hp, rfl⟩, rfl⟩)) (hb.mem p hp)
 have hmt : Operand.tmp t ∈ o.op.operands := by rw [ho]; simp [Op.operands, Call.operands]
 have hfv : (Ce.cl (k + 1000000) cap).R (env X S2.hp τ w) (a.eval (.tmp t)) := by
  have := hS.ev (.tmp t) (fun t' e => h3 t' (.inl (zbu (e ▸ hmt)))); rw [zca h1 hmt] at this; rw [show S.ev (.tmp t) = S.tm t from rfl, hf] at this; exact this
 obtain ⟨hfv, hU⟩ := hfv; unfold clV at hfv; rw [show Nat.ble (k + 1000000) 999999 = false from by cases e : Nat.ble (k + 1000000) 999999 with | false => rfl | true => have := Nat.le_of_ble_eq_true e; omega] at hfv
 have hfv : a.eval (.tmp t) = .func (.func k) (cap.map τ).toArray #[] := by rw [hfv, cond_false, Nat.add_sub_cancel]; rfl
 have hrun : (execOp a.eval o).run P w = .ok (.enter k ((cap.map τ).toArray ++ xs.map a.eval)) w := by
  unfold zb6 at hk
  split at hk
  · rename_i fn hfn; simp only [Bool.and_eq_true, Bool.not_eq_true'] at hk; obtain ⟨k1, k2⟩ := hk; have k2 : ¬ fn.name = "runtime.NumGoroutine" := by simpa using k2
    have k3 : ¬ fn.body = none := by intro e; rw [e] at k1; cases k1
    simp [execOp, ho, resolve, hfv, Deferred.ofValue, invoke, callFunc, hfn, k2, k3, env]
  · cases hk
 rw [hrun]
 have hR := zfy (S := S) (E := env X S2.hp τ w) (a := a) xs.toList _ hl (fun x hx => by
  have hm : x ∈ o.op.operands := by rw [ho]; simp [Op.operands, Call.operands]; exact .inr (by simpa using hx)
  rw [← zca h1 hm]; exact hS.ev x (fun t e => h3 t (.inl (zbu (e ▸ hm)))))
 have hcap : ∀ (l : List Nat), (∀ b ∈ l, b ∈ cap) → All2 (Cm.R (env X S2.hp τ w)) (l.map fun b => .c (.p b 0)) (l.map τ) := by
  intro l
  induction l with
  | nil => intro _; trivial
  | cons b l ih =>
   intro h; refine ⟨?_, ih fun c hc => h c (List.mem_cons_of_mem _ hc)⟩; have hbm := h b (by simp); obtain ⟨p, hp, e⟩ := List.any_eq_true.1 (List.all_eq_true.1 hin.2 b hbm); obtain rfl := Nat.eq_of_beq_eq_true e; obtain ⟨g, us, e1, _⟩ := hS.hp _ _ (hb2 p hp); exact ⟨hU _ hbm, g, e1, e1⟩
 refine (zih (d := o.dst) (rd := []) hS hc hb2 hin.1.1 hin.1.2 ?_).mono ?_
 · rw [← hlc]; have : ((cap.map τ).toArray ++ xs.map a.eval).toList = cap.map τ ++ (xs.map a.eval).toList := by simp
   rw [this]; exact All2.append _ _ _ _ (hcap cap (fun _ h => h)) (by simpa using hR)
 · rintro e w' ⟨v, rfl, hS'⟩; exact ⟨v, rfl, τ, hS'⟩
end Ax
namespace Ax
open Go.RowKit MemL RegR
section
variable {P : Program} {ops : Array Oper} {X : Cx} {o : Oper} {S : St}
def z5l (S : St) : List Operand → Option (List Nat)
 | [] => some []
 | x :: r => match S.ev x, z5l S r with
  | .m (.c (.p b 0)), some l => some (b :: l)
  | _, _ => none
theorem zw3 {τ : Nat → Value} {h : Nat → Hs} {w : World} {a : Act} : ∀ (l : List Operand) (bs : List Nat), z5l S l = some bs → (∀ x ∈ l, (S.ev x).R (env X h τ w) (a.eval x)) → l.map a.eval = bs.map τ ∧ ∀ b ∈ bs, h b ≠ .fresh
 | [], bs, e, _ => by simp only [z5l, Option.some.injEq] at e; subst e; exact ⟨rfl, fun b hb => (by cases hb)⟩
 | x :: r, bs, e, hR => by
  simp only [z5l] at e
  split at e
  · rename_i b l hx hl; cases e
    obtain ⟨i1, i2⟩ := zw3 r l hl (fun y hy => hR y (List.mem_cons_of_mem _ hy)); have := hR x (by simp); rw [hx] at this; obtain ⟨h0, g, e1, e2⟩ := this; have e1 : τ b = .pointer (some ⟨g, 0, none⟩) := e1; refine ⟨?_, fun c hc => ?_⟩
    · rw [List.map_cons, List.map_cons, i1, e2, e1]
    · rcases List.mem_cons.1 hc with rfl | hc
      · exact h0
      · exact i2 c hc
  · cases e
theorem zuv {fi : FuncId} {cs : Array Operand} {bs : List Nat} (ho : o.op = .makeFunc (.func fi) #[] cs) (hw : zam ops S o = true) (hl : z5l S cs.toList = some bs) (h9 : Nat.ble fi 999999 = true := by rfl) : za9 P ops X o S ⟨.m (.c (.cl fi bs)), [], []⟩ :=
 za5 [] hw fun S2 τ a w h _ hS => by
  obtain ⟨i1, i2⟩ := zw3 (X := X) (τ := τ) (h := S2.hp) (w := w) (a := a) cs.toList bs hl (fun x hx => h x (by rw [ho]; simpa [Op.operands] using hx))
  refine ⟨.func (.func fi) #[] (bs.map τ).toArray, ?_, by unfold clV; rw [h9]; rfl, i2⟩
  have : cs.map a.eval = (bs.map τ).toArray := by rw [← i1, ← Array.toList_inj, Array.toList_map]
  simp [execOp, ho, Instr.makeFunc, this]
theorem zl9 {fi : FuncId} {cs : Array Operand} {bs : List Nat} (ho : o.op = .makeFunc (.func fi) cs #[]) (hw : zam ops S o = true) (hl : z5l S cs.toList = some bs) : za9 P ops X o S ⟨.m (.c (.cl (fi + 1000000) bs)), [], []⟩ :=
 za5 [] hw fun S2 τ a w h _ hS => by
  obtain ⟨i1, i2⟩ := zw3 (X := X) (τ := τ) (h := S2.hp) (w := w) (a := a) cs.toList bs hl (fun x hx => h x (by rw [ho]; simpa [Op.operands] using hx))
  refine ⟨.func (.func fi) (bs.map τ).toArray #[], ?_, by unfold clV; rw [show Nat.ble (fi + 1000000) 999999 = false from by cases e : Nat.ble (fi + 1000000) 999999 with | false => rfl | true => have := Nat.le_of_ble_eq_true e; omega]; rw [cond_false, Nat.add_sub_cancel]; rfl, i2⟩
  have : cs.map a.eval = (bs.map τ).toArray := by rw [← i1, ← Array.toList_inj, Array.toList_map]
  simp [execOp, ho, Instr.makeFunc, this]
theorem zlo {t el len k b : Nat} {parts : Array (Nat × Operand)} {l : List (Nat × Cm)} {z cs : List Ce} (ho : o.op = .buildSlice t len parts) (hd : o.dst = some b) (hw : zam ops S o = true) (hf : S.hp b = .fresh) (hl : zj2 S parts.toList = some l)
 (hu : P.underlying t = some (.slice el)) (hk : zes P el = some k) (hz : zsr P el len k = some z) (hc : zlj (fun i => some (i * k, k)) z l = some cs) (hsm : (Nat.ble (len * k) 16777216 && Nat.ble 1 (len * k)) = true) :
 za9 P ops X o S ⟨.m (.c (.bs b 0 len)), [(b, .live (.box cs))], []⟩ := fun S2 a w h1 h2 h3 ⟨τ, hS⟩ => by
 refine .inl ⟨zbv hw h1 h3 hS, ?_⟩; have get : ∀ z ∈ o.op.operands, (S.ev z).R (env X S2.hp τ w) (a.eval z) := fun z hz => by rw [← zca h1 hz]; exact hS.ev z (fun t e => h3 t (.inl (zbu (e ▸ hz))))
 have hR := zi5 (S := S) (E := env X S2.hp τ w) (a := a) parts.toList l hl (fun p hp => get p.2 (by rw [ho]; simp [Op.operands]; exact ⟨p.1, by simpa using hp⟩))
 unfold zsr at hz; obtain ⟨zv, hzv, rfl⟩ := Option.map_eq_some_iff.1 hz; obtain ⟨ie, hie, hz0⟩ := Option.bind_eq_some_iff.1 hzv; have hk' : ie.size = k := by unfold zes at hk; rw [hie] at hk; simpa using hk
 subst hk'; simp only [Bool.and_eq_true] at hsm; have s1 := Nat.le_of_ble_eq_true hsm.1; have s2 := Nat.le_of_ble_eq_true hsm.2; have hzR : All2 (Ce.R (env X S2.hp τ w)) (((List.range (len * ie.size)).map (fun i => zv.cells[i % zv.cells.size]!)).map .v) ((Array.range (len * ie.size)).map (zv.cells[· % zv.cells.size]!)).toList := by
  have : ((Array.range (len * ie.size)).map (zv.cells[· % zv.cells.size]!)).toList = (List.range (len * ie.size)).map (fun i => zv.cells[i % zv.cells.size]!) := by simp
  rw [this]; exact All2.of_map (R := Ce.R _) Ce.v (fun _ => rfl) _
 obtain ⟨cur, hf', hcR⟩ := zm0 (E := env X S2.hp τ w) hS.one _ l _ _ cs _ hR hzR hc; have hrun := run_buildSlice w t el len (parts.map fun p => (p.1, a.eval p.2)) cur ie zv hu hie hz0 (by omega) (by omega) (by simpa using hf'); have hrun' : (execOp a.eval o).run P w = .ok (.value (.slice (some ⟨w.heap.size, 0, none⟩) len len)) (w.alloc (.cells cur el)) := by
  simp only [execOp, ho, hrun, Sem.run_bind, Result.andThen_ok, Sem.run_pure]
 rw [hrun']; have hf2 : S2.hp b = .fresh := Eq.trans (h2 (.all b) (by simp [Ef.foot, zfv])) hf; refine ⟨_, hS.newb (k := .box cs) hf2 ((Below.refl _ _).alloc (Nat.le_refl _) _) (v := .pointer (some ⟨w.heap.size, 0, none⟩)) (g := w.heap.size) rfl ⟨Nat.le_refl _, by rw [World.size_alloc]; omega⟩ rfl (fun E hE hw' => ⟨w.heap.size, cur, rfl, by rw [hw']; exact Bx.new, All2.mono (zcj hE) _ _ hcR⟩) ?_⟩
 refine ⟨?_, w.heap.size, ?_, rfl⟩
 · show upd _ _ b ≠ _; rw [zdk, if_pos rfl]; intro e; cases e
 · show zcy τ b _ b = _; unfold zcy; rw [if_pos rfl]
theorem zpe {t el k n : Nat} {x y : Operand} {b off : Nat} {kk : IntKind} {i : Int} (ho : o.op = .indexAddr t x y) (hw : zam ops S o = true) (hx : S.ev x = .m (.c (.bs b off n))) (hy : S.ev y = .m (.c (.v (.int kk i))))
 (hu : P.underlying t = some (.slice el)) (hk : zes P el = some k) (h0 : 0 ≤ i) (h1 : i < n) : za9 P ops X o S ⟨.m (.c (.p b (off + i.toNat * k))), [], []⟩ :=
 za5 [] hw fun S2 τ a w h _ _ => by
  have q1 := h x (by rw [ho]; simp [Op.operands])
  have q2 := h y (by rw [ho]; simp [Op.operands])
  rw [hx] at q1; rw [hy] at q2; obtain ⟨u0, g, e1, e2⟩ := q1; have q2 : a.eval y = .int kk i := q2; exact ⟨_, by simp [execOp, ho, e2, q2, zdr hu hk h0 h1], u0, g, e1, rfl⟩
theorem zpf {x : Operand} {t el : TypeId} {b off n : Nat} (ho : o.op = .call { callee := .builtin .len, args := #[x], argTypes := #[t] }) (hu : P.underlying t = some (.slice el)) (hw : zam ops S o = true) (hx : S.ev x = .m (.c (.bs b off n))) : za9 P ops X o S ⟨.m (.c (.v (.int .i64 n))), [], []⟩ :=
 za5 [] hw fun S2 τ a w h _ _ => by
  have h1 := h x (by rw [ho]; simp [Op.operands, Call.operands])
  rw [hx] at h1; obtain ⟨_, g, _, e⟩ := h1; exact ⟨_, by simp [execOp, ho, resolve, invoke, builtin, e, Builtin.len_, goInt, run_underlying hu], rfl⟩
end
section
variable {P : Program} {X : Cx} {S : St} {Q : Exit → St → Prop}
theorem za3 {l : Nat} (h : Q (.goto l) S) : Aw P X (.goto l) Q S := fun a w hs n => wpIn_goto ⟨S, h, hs⟩
theorem zaz {l : Nat} (h : Q .normal S) : Aw P X (.label l) Q S := fun a w hs n => wpIn_label ⟨S, h, hs⟩
theorem zlp {Q : Exit → Act → World → Prop} {a : Act} {w : World} {c rest : Code} (l : Nat) (J : Nat → Act → World → Prop) (hf : findLabel c l = some rest)
 (first : c.wp P (Exit.jump l (fun a w => ∃ n, J n a w) Q) a w)
 (pass : ∀ n a w, J n a w → rest.wp P (Exit.jump l (fun a' w' => ∃ n', n' < n ∧ J n' a' w') Q) a w) : (Code.scope c).wp P Q a w := by
 intro b k cs; have hg : gotoIn l (.inScope c :: k) = some (.code rest :: .inScope c :: k) := by simp [gotoIn, hf]
 have key : ∀ n a w, J n a w → ∃ e a' w', Q e a' w' ∧ Arrives P (lone (b.at a (.code rest :: .inScope c :: k)) cs w) b k cs e a' w' := by
  intro n
  induction n using Nat.strongRecOn with
  | _ n ih =>
   intro a w hJ; obtain ⟨e, a1, w1, hq, harr⟩ := pass n a w hJ b (.inScope c :: k) cs; cases e with
   | goto l' =>
    obtain ⟨rfl, n', hlt, hJ'⟩ := hq; obtain ⟨e2, a2, w2, hq2, harr2⟩ := ih n' hlt a1 w1 hJ'; exact ⟨e2, a2, w2, hq2, .of_steps (harr _ hg) harr2⟩
   | normal => exact ⟨.normal, a1, w1, hq, Steps.trans harr (.one step_inScope)⟩
   | exit id => exact ⟨.exit id, a1, w1, hq, fun k' hk => harr k' (by simp [exitTo, hk])⟩
   | ret => exact ⟨_, a1, w1, hq, harr⟩
   | panic ch => exact ⟨_, a1, w1, hq, harr⟩
   | outgrown => exact ⟨_, a1, w1, hq, harr⟩
 obtain ⟨e, a1, w1, hq, harr⟩ := first b (.inScope c :: k) cs; cases e with
 | goto l' =>
  obtain ⟨rfl, n, hJ'⟩ := hq; obtain ⟨e2, a2, w2, hq2, harr2⟩ := key n a1 w1 hJ'; exact ⟨e2, a2, w2, hq2, .of_steps (.head step_scope (harr _ hg)) harr2⟩
 | normal => exact ⟨.normal, a1, w1, hq, .head step_scope (Steps.trans harr (.one step_inScope))⟩
 | exit id => exact ⟨.exit id, a1, w1, hq, fun k' hk => .head step_scope (harr k' (by simp [exitTo, hk]))⟩
 | ret => exact ⟨_, a1, w1, hq, .of_steps (.one step_scope) harr⟩
 | panic ch => exact ⟨_, a1, w1, hq, .of_steps (.one step_scope) harr⟩
 | outgrown => exact ⟨_, a1, w1, hq, .of_steps (.one step_scope) harr⟩
def z3l (l : Nat) (J : St → Prop) (Q : Exit → St → Prop) : Exit → St → Prop
 | .goto l', S => l' = l ∧ J S
 | e, S => Q e S
theorem zuw {c : Code} (hr : X.rd = none) (h : Aw P X c Q S) {a : Act} {w : World} (hs : Sim X S a w) : c.wp P (fun e a' w' => ∃ S', Q e S' ∧ Sim X S' a' w') a w := by
 have := h a w hs 0; rw [zia hr] at this; exact wpIn_wide.1 this
theorem zw4 {α : Type} {c rest : Code} (l : Nat) (hf : findLabel c l = some rest) (F : α → Prop) (H : α → St) (μ : α → Nat) (first : Aw P X c (z3l l (fun S' => ∃ p, F p ∧ Sub X S' (H p)) Q) S)
 (pass : ∀ p, F p → Aw P X rest (z3l l (fun S' => ∃ p', F p' ∧ μ p' < μ p ∧ Sub X S' (H p')) Q) (H p)) (hr : X.rd = none := by rfl) : Aw P X (.scope c) Q S := fun a w hs m => by
 rw [zia hr]; refine wpIn_wide.2 (zlp l (fun n a w => ∃ p, F p ∧ μ p = n ∧ Sim X (H p) a w) hf (wp_mono (zuw hr first hs) fun e a' w' ⟨S', q, s⟩ => ?_) fun n a w ⟨p, hp, hn, hs⟩ => wp_mono (zuw hr (pass p hp) hs) fun e a' w' ⟨S', q, s⟩ => ?_)
 · cases e with
   | goto l' => obtain ⟨rfl, p, hp, hsub⟩ := q; exact ⟨rfl, μ p, p, hp, rfl, hsub a' w' s⟩
   | _ => exact ⟨S', q, s⟩
 · cases e with
   | goto l' => obtain ⟨rfl, p', hp', hlt, hsub⟩ := q; exact ⟨rfl, μ p', by omega, p', hp', rfl, hsub a' w' s⟩
   | _ => exact ⟨S', q, s⟩
theorem zw5 {α : Type} {x body : Code} (l : Nat) (hx : findLabel x l = none) (F : α → Prop) (H : α → St) (μ : α → Nat) (p0 : α) (hp0 : F p0)
 (zow : Aw P X x (zlk (fun S' => Sub X S' (H p0)) (fun _ _ => False)) S)
 (pass : ∀ p, F p → Aw P X body (z3l l (fun S' => ∃ p', F p' ∧ μ p' < μ p ∧ Sub X S' (H p')) Q) (H p)) (hr : X.rd = none := by rfl) : Aw P X (.scope (.seq x (.seq (.label l) body))) Q S := by
 refine zw4 l (rest := .seq .skip body) (by simp [findLabel, hx]) F H μ ?_ (fun p hp => zso (zak (pass p hp))) hr; refine zso (zqu zow fun e S'' q' => ?_); cases e with
 | normal =>
  refine zso (zaz ?_); refine zc7 q' (zqu (pass p0 hp0) fun e S3 q3 => ?_); cases e with
  | goto l' => obtain ⟨h1, p', h2, _, h3⟩ := q3; exact ⟨h1, p', h2, h3⟩
  | _ => exact q3
 | _ => exact q'.elim
end
end Ax
namespace SpD
open Go.RowKit Bv VaSpec Base MemL RegR Ax MemC PutC OkS SpA SpB
open PteSpec
def Fe.ce (f : Fe) : List Ce := [cb f.ha, cu f.ad, cb f.hs, cu f.sn]
def zE : List Ce := [cb false, cu 0, cb false, ci 0, cu 0, cu 0, cb false, cb false, cb false, cb false, cb false]
theorem zux (a : Int) : Ok 226 [.ag zE, iu a] (.m (ib false)) := by
 refine zad 17 Tryz.func226 rfl rfl rfl rfl ?_ GG.to; intro W A hG
 repeat (first | (refine zai rfl ?_; first | refine zaj ?_) | (refine hK _ ?_; clear hK K) | refine zac rfl ?_ | refine zaq (by kernel_rfl) (by kernel_rfl) rfl ?_ | exact zah (show zat _ _ _ = some _ by kernel_rfl) | refine zab (fun K hK => ?_))
theorem z0c (f : Fe) (h : U f.ad) : Ok 223 [.ag (Fe.ce f), .ag zE] (.m (ib (!f.ha))) := by
 obtain ⟨ha, ad, hs, sn⟩ := f; cases ha with
 | false =>
  refine zad 19 Tryz.func223 rfl rfl rfl rfl ?_ GG.to; intro W A hG
  repeat (first | (refine zai rfl ?_; first | refine zaj ?_) | (refine hK _ ?_; clear hK K) | refine zac rfl ?_ | exact zah (show zat _ _ _ = some _ by kernel_rfl) | refine zab (fun K hK => ?_))
 | true =>
  cases hi : isv ad with
  | false =>
   refine zad 19 Tryz.func223 rfl rfl rfl rfl ?_ GG.to; intro W A hG
   repeat (first | (refine zai rfl ?_; first | refine zaj ?_ | refine gdr (zaa rfl rfl rfl (hi ▸ z14 ad h) rfl) ?_) | (refine hK _ ?_; clear hK K) | refine zac rfl ?_ | exact zah (show zat _ _ _ = some _ by kernel_rfl) | refine zab (fun K hK => ?_))
  | true =>
   refine zad 19 Tryz.func223 rfl rfl rfl rfl ?_ GG.to; intro W A hG
   repeat (first | (refine zai rfl ?_; first | refine zaj ?_ | refine gdr (zaa rfl rfl rfl (hi ▸ z14 ad h) rfl) ?_ | refine gdr (zaa rfl rfl rfl (zux ad) rfl) ?_) | (refine hK _ ?_; clear hK K) | refine zac rfl ?_ | exact zah (show zat _ _ _ = some _ by kernel_rfl) | refine zab (fun K hK => ?_))
theorem z0d (f : Fe) : Ok 225 [.ag (Fe.ce f), .ag zE] (.m (ib (!f.hs || (0 == f.sn)))) := by
 obtain ⟨ha, ad, hs, sn⟩ := f; cases hs with
 | false =>
  refine zad 20 Tryz.func225 rfl rfl rfl rfl ?_ GG.to; intro W A hG
  repeat (first | (refine zai rfl ?_; first | refine zaj ?_) | (refine hK _ ?_; clear hK K) | refine zac rfl ?_ | exact zah (show zat _ _ _ = some _ by kernel_rfl) | refine zab (fun K hK => ?_))
 | true =>
  refine zad 20 Tryz.func225 rfl rfl rfl rfl ?_ GG.to; intro W A hG
  repeat (first | (refine zai rfl ?_; first | refine zaj ?_) | (refine hK _ ?_; clear hK K) | refine zac rfl ?_ | exact zah (show zat _ _ _ = some _ by kernel_rfl) | refine zab (fun K hK => ?_))
theorem zhu (f : Fe) (h : U f.ad) : Ok 194 [.ag (Fe.ce f), .ag zE] (.m (ib false)) := by
 refine zad 21 Tryz.func194 rfl rfl rfl rfl ?_ GG.to; intro W A hG; obtain ⟨b, o, c, g1, g2, g3⟩ := (hG W (Below.refl _ _)).k; have q1 : ∀ w, Kept (fun g => g < W.heap.size) W w → w.cell? ⟨2, 0, none⟩ = some (.slice (some ⟨b, o, none⟩) 2 c) := fun w hb => (hb.cell (p := ⟨2, 0, none⟩) (block_lt_of_cell g1)).trans g1; have q2 : ∀ w, Kept (fun g => g < W.heap.size) W w → w.cell? ⟨b, o, none⟩ = some (z5j 0) := fun w hb => (hb.cell (p := ⟨b, o, none⟩) (block_lt_of_cell g2)).trans g2; have q3 : ∀ w, Kept (fun g => g < W.heap.size) W w → w.cell? ⟨b, o + 1, none⟩ = some (z5j 1) := fun w hb => (hb.cell (p := ⟨b, o + 1, none⟩) (block_lt_of_cell g3)).trans g3
 repeat (first | (refine zai rfl ?_; first | refine zaj ?_ | refine gdr (zf0 rfl rfl rfl rfl rfl q1) ?_) | (refine hK _ ?_; clear hK K) | refine zac rfl ?_ | refine zag ?_ | refine zab (fun K hK => ?_))
 refine za1 (α := Nat) (fun i => i ≤ 2) (fun i => St.of [(2, .m (.c (.p 2 0))), (3, .m (.c (.p 3 0))), (7, .m (.c (.v (.slice (some ⟨b, o, none⟩) 2 c)))), (8, .m (ii 2)), (9, .m (ii i))] [(2, .live (.box (Fe.ce f))), (3, .live (.box zE))]) (fun i => 2 - i) 0 (by omega) (zaw _ _ ⟨rfl, rfl, rfl, rfl, rfl, trivial⟩ ⟨rfl, rfl, trivial⟩ rfl) ?_; intro i hi; rcases (by omega : i = 0 ∨ i = 1 ∨ i = 2) with rfl | rfl | rfl
 · skip
   repeat (first | (refine zai rfl ?_; first | refine zaj ?_ | refine gdr (zf0 rfl rfl rfl rfl rfl q2) ?_ | refine gdr (zj6 rfl rfl rfl rfl rfl rfl (by omega) (by omega)) ?_ | refine gdr (zf1 rfl rfl rfl rfl (z0c f h) rfl) ?_) | (refine hK _ ?_; clear hK K) | refine zac rfl ?_ | refine zaf rfl rfl ?_ | refine zag ?_ | refine zak ?_ | refine zab (fun K hK => ?_))
   refine zm1 rfl rfl (fun hc => ?_) (fun hc => ?_)
   · skip
     repeat (first | (refine zai rfl ?_; first | refine zaj ?_) | (refine hK _ ?_; clear hK K) | refine zac rfl ?_ | exact zah (show zat _ _ _ = some _ by kernel_rfl) | refine zab (fun K hK => ?_))
   · skip
     repeat (first | (refine zai rfl ?_; first | refine zaj ?_) | (refine hK _ ?_; clear hK K) | refine zac rfl ?_ | refine zak ?_)
     exact ⟨1, by omega, by omega, zaw _ _ ⟨rfl, rfl, rfl, rfl, rfl, trivial⟩ ⟨rfl, rfl, trivial⟩ rfl⟩
 · skip
   repeat (first | (refine zai rfl ?_; first | refine zaj ?_ | refine gdr (zf0 rfl rfl rfl rfl rfl q3) ?_ | refine gdr (zj6 rfl rfl rfl rfl rfl rfl (by omega) (by omega)) ?_ | refine gdr (zf1 rfl rfl rfl rfl (z0d f) rfl) ?_) | (refine hK _ ?_; clear hK K) | refine zac rfl ?_ | refine zaf rfl rfl ?_ | refine zag ?_ | refine zak ?_ | refine zab (fun K hK => ?_))
   refine zm1 rfl rfl (fun hc => ?_) (fun hc => ?_)
   · skip
     repeat (first | (refine zai rfl ?_; first | refine zaj ?_) | (refine hK _ ?_; clear hK K) | refine zac rfl ?_ | exact zah (show zat _ _ _ = some _ by kernel_rfl) | refine zab (fun K hK => ?_))
   · skip
     repeat (first | (refine zai rfl ?_; first | refine zaj ?_) | (refine hK _ ?_; clear hK K) | refine zac rfl ?_ | refine zak ?_)
     exact ⟨2, by omega, by omega, zaw _ _ ⟨rfl, rfl, rfl, rfl, rfl, trivial⟩ ⟨rfl, rfl, trivial⟩ rfl⟩
 · skip
   repeat (first | (refine zai rfl ?_; first | refine zaj ?_) | (refine hK _ ?_; clear hK K) | (rename_i K1 hK1; refine hK1 _ ?_; clear hK hK1; clear K) | refine zac rfl ?_ | exact zah (show zat _ _ _ = some _ by kernel_rfl) | refine zae rfl rfl ?_ | refine zar ?_ | refine zab (fun K hK => ?_))
def zEv : List Value := [.bool false, .int .u64 0, .bool false, .int .i64 0, .int .u64 0, .int .u64 0, .bool false, .bool false, .bool false, .bool false, .bool false]
def zS : List Value := zEv ++ zEv ++ zEv ++ zEv ++ [.int .u8 0]
def zsL (n : Nat) : List Value := (List.replicate n ()).flatMap (fun _ => zS)
theorem zw6 (n k : Nat) (h : k < n) : ((zsL n).drop (k * 45)).take 45 = [.bool false, .int .u64 0, .bool false, .int .i64 0, .int .u64 0, .int .u64 0, .bool false, .bool false, .bool false, .bool false, .bool false, .bool false, .int .u64 0, .bool false, .int .i64 0, .int .u64 0, .int .u64 0, .bool false, .bool false, .bool false, .bool false, .bool false, .bool false, .int .u64 0, .bool false, .int .i64 0, .int .u64 0, .int .u64 0, .bool false, .bool false, .bool false, .bool false, .bool false, .bool false, .int .u64 0, .bool false, .int .i64 0, .int .u64 0, .int .u64 0, .bool false, .bool false, .bool false, .bool false, .bool false, .int .u8 0] :=
 zfc (fun _ => zS) 45 (fun _ => rfl) (List.replicate n ()) k () (by rw [List.getElem?_replicate, if_pos h])
theorem zw7 (n : Nat) : (zsL n).all (·.oneCell') = true := by
 rw [List.all_eq_true]; intro v hv; obtain ⟨_, _, hv⟩ := List.mem_flatMap.1 hv; exact List.all_eq_true.1 (show zS.all (·.oneCell') = true from rfl) v hv
def zs44 : List Ce := (zEv ++ zEv ++ zEv ++ zEv).map .v
theorem z6k (f : Fe) (h : U f.ad) (n : Nat) (hn : n ≤ 16) : Ok 178 [.ag [.s n 45 (zsL n)], .ag (Fe.ce f)] (.m (.ag [.s n 45 (zsL n)])) := by
 refine zad 40 Tryz.func178 rfl rfl rfl rfl ?_ GG.to; intro W A hG
 repeat (first | (refine zai rfl ?_; first | refine zaj ?_) | (refine hK _ ?_; clear hK K) | refine zac rfl ?_ | refine zag ?_ | refine zab (fun K hK => ?_))
 refine za1 (α := Nat) (fun k => k ≤ n) (fun k => St.of [(2, .m (.c (.p 2 0))), (3, .m (.c (.p 3 0))), (4, .m (.c (.p 4 0))), (10, .m (.c (.s n 45 (zsL n)))), (11, .m (ii n)), (12, .m (ii k))] [(2, .live (.box [.s n 45 (zsL n)])), (3, .live (.box (Fe.ce f))), (4, .live (.box [.v (.slice none 0 0)]))]) (fun k => n - k) 0 (by omega) (zaw _ _ ⟨rfl, rfl, rfl, rfl, rfl, rfl, trivial⟩ ⟨rfl, rfl, rfl, trivial⟩ rfl) ?_; intro k hk; by_cases hlt : k < n
 · have hx := zw6 n k hlt
   repeat (first | (refine zai rfl ?_; first | refine zaj ?_) | (refine hK _ ?_; clear hK K) | refine zac rfl ?_ | refine zaf rfl rfl ?_ | refine zag ?_ | refine zak ?_ | refine zab (fun K hK => ?_))
   refine za1 (α := Nat) (fun w => w ≤ 4) (fun w => St.of [(2, .m (.c (.p 2 0))), (3, .m (.c (.p 3 0))), (4, .m (.c (.p 4 0))), (10, .m (.c (.s n 45 (zsL n)))), (11, .m (ii n)), (12, .m (ii k)), (18, .m (.ag zs44)), (19, .m (ii w))] [(2, .live (.box [.s n 45 (zsL n)])), (3, .live (.box (Fe.ce f))), (4, .live (.box [.v (.slice none 0 0)]))]) (fun w => 4 - w) 0 (by omega) (zaw _ _ ⟨rfl, rfl, rfl, rfl, rfl, rfl, rfl, rfl, trivial⟩ ⟨rfl, rfl, rfl, trivial⟩ rfl) ?_; intro w hw; rcases (by omega : w = 0 ∨ w = 1 ∨ w = 2 ∨ w = 3 ∨ w = 4) with rfl | rfl | rfl | rfl | rfl
   · skip
     repeat (first | (refine zai rfl ?_; first | refine zaj ?_ | refine gdr (zaa rfl rfl rfl (zhu f h) rfl) ?_) | (refine hK _ ?_; clear hK K) | refine zac rfl ?_ | refine zaf rfl rfl ?_ | refine zae rfl rfl ?_ | refine zag ?_ | refine zak ?_ | refine zab (fun K hK => ?_))
     exact ⟨1, by omega, by omega, zaw _ _ ⟨rfl, rfl, rfl, rfl, rfl, rfl, rfl, rfl, trivial⟩ ⟨rfl, rfl, rfl, trivial⟩ rfl⟩
   · skip
     repeat (first | (refine zai rfl ?_; first | refine zaj ?_ | refine gdr (zaa rfl rfl rfl (zhu f h) rfl) ?_) | (refine hK _ ?_; clear hK K) | refine zac rfl ?_ | refine zaf rfl rfl ?_ | refine zae rfl rfl ?_ | refine zag ?_ | refine zak ?_ | refine zab (fun K hK => ?_))
     exact ⟨2, by omega, by omega, zaw _ _ ⟨rfl, rfl, rfl, rfl, rfl, rfl, rfl, rfl, trivial⟩ ⟨rfl, rfl, rfl, trivial⟩ rfl⟩
   · skip
     repeat (first | (refine zai rfl ?_; first | refine zaj ?_ | refine gdr (zaa rfl rfl rfl (zhu f h) rfl) ?_) | (refine hK _ ?_; clear hK K) | refine zac rfl ?_ | refine zaf rfl rfl ?_ | refine zae rfl rfl ?_ | refine zag ?_ | refine zak ?_ | refine zab (fun K hK => ?_))
     exact ⟨3, by omega, by omega, zaw _ _ ⟨rfl, rfl, rfl, rfl, rfl, rfl, rfl, rfl, trivial⟩ ⟨rfl, rfl, rfl, trivial⟩ rfl⟩
   · skip
     repeat (first | (refine zai rfl ?_; first | refine zaj ?_ | refine gdr (zaa rfl rfl rfl (zhu f h) rfl) ?_) | (refine hK _ ?_; clear hK K) | refine zac rfl ?_ | refine zaf rfl rfl ?_ | refine zae rfl rfl ?_ | refine zag ?_ | refine zak ?_ | refine zab (fun K hK => ?_))
     exact ⟨4, by omega, by omega, zaw _ _ ⟨rfl, rfl, rfl, rfl, rfl, rfl, rfl, rfl, trivial⟩ ⟨rfl, rfl, rfl, trivial⟩ rfl⟩
   · skip
     repeat (first | (refine zai rfl ?_; first | refine zaj ?_) | (refine hK _ ?_; clear hK K) | (rename_i K1 hK1; refine hK1 _ ?_; clear hK hK1; clear K) | refine zac rfl ?_ | refine zae rfl rfl ?_ | refine zar ?_ | refine zab (fun K hK => ?_))
     exact ⟨k + 1, by omega, by omega, zaw _ _ ⟨rfl, rfl, rfl, rfl, rfl, rfl, trivial⟩ ⟨rfl, rfl, rfl, trivial⟩ rfl⟩
 · skip
   repeat (first | (refine zai rfl ?_; first | refine zaj ?_ | refine gdr (zdm rfl rfl rfl rfl rfl rfl rfl rfl rfl rfl rfl rfl (zw7 n) (by omega)) ?_) | (refine hK _ ?_; clear hK K) | (rename_i K1 hK1; refine hK1 _ ?_; clear hK hK1; clear K) | refine zac rfl ?_ | exact zah (show zat _ _ _ = some _ by kernel_rfl) | refine zae rfl rfl ?_ | refine zar ?_ | refine zab (fun K hK => ?_))
theorem zrf (l : List Fe) : (flF l).all (·.oneCell') = true := by
 rw [List.all_eq_true]; intro v hv; obtain ⟨f, _, hv⟩ := List.mem_flatMap.1 hv; exact List.all_eq_true.1 (show f.vs.all (·.oneCell') = true from rfl) v hv
theorem zw8 {l : List Fe} {k : Nat} {f : Fe} (h : l[k]? = some f) : ((flF l).drop (k * 4)).take 4 = [.bool f.ha, .int .u64 f.ad, .bool f.hs, .int .u64 f.sn] := zfc Fe.vs 4 (fun _ => rfl) l _ f h
theorem z3m (l : List Fe) (h : ∀ f ∈ l, U f.ad) (hl : l.length ≤ 1000000) (n : Nat) (hn : n ≤ 16) : Ok 143 [.ag [.s n 45 (zsL n)], .c (.s l.length 4 (flF l))] (.m (.ag [.s n 45 (zsL n)])) := by
 refine zad 23 Tryz.func143 rfl rfl rfl rfl ?_ GG.to; intro W A hG
 repeat (first | (refine zai rfl ?_; first | refine zaj ?_ | refine gdr (zdm rfl rfl rfl rfl rfl rfl rfl rfl rfl rfl rfl rfl (zw7 n) (by omega)) ?_) | (refine hK _ ?_; clear hK K) | refine zac rfl ?_ | refine zag ?_ | refine zab (fun K hK => ?_))
 refine za1 (α := Nat) (fun k => k ≤ l.length) (fun k => St.of [(2, .m (.c (.p 2 0))), (4, .m (.c (.p 4 0))), (12, .m (.c (.s l.length 4 (flF l)))), (13, .m (ii l.length)), (14, .m (ii k))] [(2, .live (.box [.s n 45 (zsL n)])), (4, .live (.box [.v (.slice none 0 0)]))]) (fun k => l.length - k) 0 (by omega) (Sub.trans (z1y (b := 10) rfl) (zaw _ _ ⟨rfl, rfl, rfl, rfl, rfl, trivial⟩ ⟨rfl, rfl, trivial⟩ rfl)) ?_; intro k hk; by_cases hlt : k < l.length
 · obtain ⟨f, hf⟩ : ∃ f, l[k]? = some f := ⟨_, List.getElem?_eq_getElem hlt⟩; have hx := zw8 hf
   repeat (first | (refine zai rfl ?_; first | refine zaj ?_ | refine gdr (zaa rfl rfl rfl (z6k f (h f (List.mem_of_getElem? hf)) n hn) rfl) ?_) | (refine hK _ ?_; clear hK K) | refine zac rfl ?_ | refine zaf rfl rfl ?_ | refine zag ?_ | refine zak ?_ | refine zab (fun K hK => ?_))
   exact ⟨k + 1, by omega, by omega, zaw _ _ ⟨rfl, rfl, rfl, rfl, rfl, trivial⟩ ⟨rfl, rfl, trivial⟩ rfl⟩
 · skip
   repeat (first | (refine zai rfl ?_; first | refine zaj ?_) | (refine hK _ ?_; clear hK K) | (rename_i K1 hK1; refine hK1 _ ?_; clear hK hK1; clear K) | refine zac rfl ?_ | exact zah (show zat _ _ _ = some _ by kernel_rfl) | refine zae rfl rfl ?_ | refine zar ?_ | refine zab (fun K hK => ?_))
end SpD
namespace SpE
open Go.RowKit Bv VaSpec Base MemL RegR Ax MemC PutC OkS SpA SpB SpD IterC
open PteSpec
def _root_.Go.Proofs.YtomeaibdedaldaaGreatDoor.SpB.Kr.raw (k : Kr) (tn : Nat) (ts : List Value) (sn : Nat) (ss : List Value) (fn : Nat) (fs : List Value) : List Ce := [ci k.cd, ci k.cp, ci k.ca, ci k.cs, cu k.sz, .s k.m.length 2 (fl k.m), .s tn 45 ts, cu k.sm, cu k.sa, cu k.sp, ci k.priv, cb k.su, cb k.mx, ci k.vic, cu k.pb, ci k.pm, cu k.pf, ci k.am, cu k.af, cu k.ao, .s sn 3 ss, ci k.now, cu k.sh, .s fn 4 fs]
def zK : List Ce := [ci 0, ci 0, ci 0, ci 0, cu 0, .v (.slice none 0 0), .v (.slice none 0 0), cu 0, cu 0, cu 0, ci 0, cb false, cb false, ci 0, cu 0, ci 0, cu 0, ci 0, cu 0, cu 0, .v (.slice none 0 0), ci 0, cu 0, .v (.slice none 0 0)]
def zda (k : Kr) (l : List Fe) : Kr := { k with fs := k.fs ++ l }
theorem ce_z (k : Kr) (ht : k.ts = zsL k.tn) : k.ce = k.raw k.tn (zsL k.tn) k.ss.length (flS k.ss) k.fs.length (flF k.fs) := by rw [← ht]; rfl
theorem zkg (k : Kr) (ht : k.ts = zsL k.tn) (hn : k.tn ≤ 16) (l : List Fe) (h : ∀ f ∈ l, U f.ad) (hl : l.length ≤ 1000000) (hk : k.fs.length ≤ 1000000) : Ok 80 [.ag k.ce, .c (.s l.length 4 (flF l))] (.m (.ag (zda k l).ce)) := by
 rw [ce_z k ht, show (zda k l).ce = k.raw k.tn (zsL k.tn) k.ss.length (flS k.ss) (k.fs.length + l.length) (flF k.fs ++ flF l) from by rw [← ht]; simp [zda, Kr.ce, Kr.raw, flF]]
 refine zad 25 Tryz.func80 rfl rfl rfl rfl ?_ GG.to; intro W A hG
 repeat (first | (refine zai rfl ?_; first | refine zaj ?_ | refine gdr (zaa rfl rfl rfl (z3m l h hl k.tn hn) rfl) ?_ | refine gdr (zo0 rfl rfl rfl rfl rfl rfl rfl) ?_ | refine gdr (zqx rfl rfl rfl rfl rfl rfl rfl rfl rfl (zrf l) (by omega)) ?_) | (refine hK _ ?_; clear hK K) | refine zac rfl ?_ | exact zah (show zat _ _ _ = some _ by kernel_rfl) | refine zab (fun K hK => ?_))
end SpE
namespace SpF
open Go.RowKit Bv VaSpec Base MemL RegR Ax OkS SpA SpB SpD IterC
open PteSpec
attribute [local irreducible] Ax.zbr
theorem z6l : ∃ a, a = ofv 133955584 := ⟨_, rfl⟩
noncomputable def kA : Int := Classical.choose z6l
theorem z0e : kA = ofv 133955584 := Classical.choose_spec z6l
theorem z7y : U kA := by rw [z0e]; decide
theorem zpg : Ok 104 [] (.m (iu kA)) := by rw [z0e]; exact zz9
def zP : Pte := ⟨false, false, false, false, false, false, false, false, 0, 0, 0⟩
theorem z17 : zP.U := by unfold Pte.U zP; simp
def zSp : Sp := ⟨0, 0, false⟩
theorem flS_one (l : List Sp) : ∀ u ∈ flS l, u.oneCell' = true := by
 intro v hv; obtain ⟨f, _, hv⟩ := List.mem_flatMap.1 hv; exact List.all_eq_true.1 (show f.vs.all (·.oneCell') = true from rfl) v hv
end SpF
namespace LaA
open Go.RowKit Bv VaSpec Base MemL RegR Ax MemC PutC MemC3 OkS SpA SpB SpC SpF
open PteSpec
theorem zw9 (f i : Int) (hf : 0 ≤ f ∧ f < 17592186044416) (hi : 0 ≤ i ∧ i < 512) : Ok 119 [iu f, ii i] (.m (iu (f * 4096 + i * 8))) := by
 refine zad 11 Tryz.func119 rfl rfl rfl rfl ?_ GG.to; intro W A hG
 repeat (first | (refine zai rfl ?_; first | refine zaj ?_) | (refine hK _ ?_; clear hK K) | refine zac rfl ?_ | exact zah (show zat _ _ _ = some _ by kernel_rfl) | refine zab (fun K hK => ?_))
theorem zxa {xs : List (Int × Int)} (hu : Uw xs) (a : Int) : U (MemC.look xs a) := by
 have h0 : U 0 := ⟨by omega, by omega⟩; unfold MemC.look
 split
 · rename_i c hc
   split
   · exact (hu c (List.mem_of_getElem? hc)).2
   · exact h0
 · exact h0
theorem zf5 {xs : List (Int × Int)} (hu : Uw xs) (sz a : Int) : U (zbs sz xs a) := by
 unfold zbs
 split
 · exact zxa hu _
 · exact ⟨by omega, by omega⟩
def atM (sz : Int) (xs : List (Int × Int)) (f i : Int) : Pte := zay (zbs sz xs (f * 4096 + i * 8))
theorem ze5 {xs : List (Int × Int)} (hu : Uw xs) (sz f i : Int) : (atM sz xs f i).U := z3e _ (zf5 hu _ _).1 (zf5 hu _ _).2
theorem zdo {xs : List (Int × Int)} (sz f i : Int) : 0 ≤ (atM sz xs f i).ppn ∧ (atM sz xs f i).ppn < 17592186044416 := by
 unfold atM zay; simp only; omega
theorem z3n (sz : Int) (xs : List (Int × Int)) (f i : Int) (hf : 0 ≤ f ∧ f < 17592186044416) (hi : 0 ≤ i ∧ i < 512) (hs : Srt xs) (hu : Uw xs) : Ok 124 [zbm sz xs, iu f, ii i] (.m (.ag (atM sz xs f i).ce)) := by
 have hU : U (f * 4096 + i * 8) := ⟨by omega, by omega⟩; have hW := zf5 hu sz (f * 4096 + i * 8); refine zad 13 Tryz.func124 rfl rfl rfl rfl ?_ GG.to; intro W A hG
 repeat (first | (refine zai rfl ?_; first | refine zaj ?_ | refine gdr (zaa rfl rfl rfl (zw9 f i hf hi) rfl) ?_ | refine gdr (zaa rfl rfl rfl (z3k sz xs _ hU hs) rfl) ?_ | refine gdr (zaa rfl rfl rfl (z3j _ hW) rfl) ?_) | (refine hK _ ?_; clear hK K) | refine zac rfl ?_ | refine zaq (by kernel_rfl) (by kernel_rfl) rfl ?_ | exact zah (show zat _ _ _ = some _ by kernel_rfl) | refine zab (fun K hK => ?_))
def zao (sz : Int) (xs : List (Int × Int)) (addr zam : Int) : Nat → Int → Int × Int
 | 0, t => (t, 0)
 | l + 1, t => cond (decide (zam < ((l + 1 : Nat) : Int)) && za2 (atM sz xs t (idx addr ((l + 1 : Nat) : Int))) ((l + 1 : Nat) : Int)) (zao sz xs addr zam l (atM sz xs t (idx addr ((l + 1 : Nat) : Int))).ppn) (t, ((l + 1 : Nat) : Int))
def zi2 (sz : Int) (xs : List (Int × Int)) (addr : Int) (p : Int × Int) : List Ce := zbq p.1 p.2 (atM sz xs p.1 (idx addr p.2))
theorem zbk {sz : Int} {xs : List (Int × Int)} {addr zam : Int} {l : Nat} {t : Int} (h : zam < ((l + 1 : Nat) : Int)) (hl : za2 (atM sz xs t (idx addr ((l + 1 : Nat) : Int))) ((l + 1 : Nat) : Int) = true) : zao sz xs addr zam (l + 1) t = zao sz xs addr zam l (atM sz xs t (idx addr ((l + 1 : Nat) : Int))).ppn := by
 simp only [zao, decide_eq_true h, hl, Bool.and_self, cond]
theorem zbh {sz : Int} {xs : List (Int × Int)} {addr zam : Int} {l : Nat} {t : Int} (hl : zam < (l : Int) → za2 (atM sz xs t (idx addr (l : Int))) (l : Int) = false) (hw : 0 ≤ zam) : zao sz xs addr zam l t = (t, (l : Int)) := by
 cases l with
 | zero => rfl
 | succ l =>
  simp only [zao]; by_cases h : zam < ((l + 1 : Nat) : Int)
  · rw [hl h, Bool.and_false]; rfl
  · rw [decide_eq_false h, Bool.false_and]; rfl
def za0 (sz : Int) (xs : List (Int × Int)) (addr zam l t : Int) : Int × Int := zao sz xs addr zam l.toNat t
theorem zxb {sz : Int} {xs : List (Int × Int)} {addr zam l t : Int} (h : zam < l) (h0 : 0 < l) (hl : za2 (atM sz xs t (idx addr l)) l = true) : za0 sz xs addr zam l t = za0 sz xs addr zam (l - 1) (atM sz xs t (idx addr l)).ppn := by
 obtain ⟨m, rfl⟩ : ∃ m : Nat, l = ((m + 1 : Nat) : Int) := ⟨(l - 1).toNat, by omega⟩; unfold za0; rw [show (((m + 1 : Nat) : Int) - 1).toNat = m by omega, Int.toNat_natCast]; exact zbk h hl
theorem zkh {sz : Int} {xs : List (Int × Int)} {addr zam l t : Int} (h0 : 0 ≤ l) (hl : zam < l → za2 (atM sz xs t (idx addr l)) l = false) (hw : 0 ≤ zam) : za0 sz xs addr zam l t = (t, l) := by
 obtain ⟨m, rfl⟩ := Int.eq_ofNat_of_zero_le h0; unfold za0; rw [Int.toNat_natCast]; exact zbh hl hw
theorem zfd (sz : Int) (xs : List (Int × Int)) (top lv addr zam : Int) (ht : 0 ≤ top ∧ top < 17592186044416) (ha : U addr) (h0 : 0 ≤ lv) (h2 : lv ≤ 2) (hw : 0 ≤ zam) (hs : Srt xs) (hu : Uw xs) :
 Ok 53 [zbm sz xs, iu top, ii lv, iu addr, ii zam] (.m (.ag (zi2 sz xs addr (za0 sz xs addr zam lv top)))) := by
 refine zad 44 Tryz.func53 rfl rfl rfl rfl ?_ GG.to; intro W A hG; obtain ⟨res, hres⟩ : ∃ res, res = za0 sz xs addr zam lv top := ⟨_, rfl⟩; rw [← hres]
 repeat (first | (refine zai rfl ?_; first | refine zaj ?_) | (refine hK _ ?_; clear hK K) | refine zac rfl ?_ | refine zab (fun K hK => ?_))
 refine zw5 (α := Int × Int × Pte) 0 (by rfl) (fun p => (0 ≤ p.1 ∧ p.1 ≤ 2) ∧ (0 ≤ p.2.1 ∧ p.2.1 < 17592186044416) ∧ za0 sz xs addr zam p.1 p.2.1 = res)
  (fun p => St.of [(3, .m (iu addr)), (4, .m (ii zam)), (5, .m (.c (.p 5 0))), (10, .m (.c (.p 10 0))), (11, .m (.c (.p 11 0)))] [(5, .live (.box [cu sz, .s xs.length 2 (fl xs)])), (10, .live (.box (zbq 0 0 zP))), (11, .live (.box (zbq p.2.1 p.1 p.2.2)))])
  (fun p => p.1.toNat) (lv, top, zP) ⟨⟨h0, h2⟩, ht, hres.symm⟩ ?_ ?_
 · skip
   repeat (first | (refine zai rfl ?_; first | refine zaj ?_) | refine zac rfl ?_)
   exact zaw _ _ ⟨rfl, rfl, rfl, rfl, rfl, trivial⟩ ⟨rfl, rfl, rfl, trivial⟩ rfl
 · rintro ⟨l, t, q⟩ ⟨⟨l0, l2⟩, t2, hr⟩; have l0 : 0 ≤ l := l0; have l2 : l ≤ 2 := l2; have t2 : 0 ≤ t ∧ t < 17592186044416 := t2; have hr : za0 sz xs addr zam l t = res := hr; have hA := ze5 hu sz t (idx addr l); have hi := idx_bd addr l; have hp := zdo (xs := xs) sz t (idx addr l); by_cases hlt : zam < l
   · cases hl : za2 (atM sz xs t (idx addr l)) l with
     | true =>
      have hr' := (zxb hlt (by omega) hl).symm.trans hr
      repeat (first | (refine zai rfl ?_; first | refine zaj ?_ | refine gdr (zaa rfl rfl rfl (zl8 addr _ ha (by omega) (by omega)) rfl) ?_ | refine gdr (zaa rfl rfl rfl (z3n sz xs t _ t2 hi hs hu) rfl) ?_ | refine gdr (zaa rfl rfl rfl (hl ▸ zi7 _ hA _ (by omega) (by omega)) rfl) ?_) | (refine hK _ ?_; clear hK K) | refine zac rfl ?_ | refine zaq (by kernel_rfl) (by kernel_rfl) rfl ?_ | refine zaf rfl rfl ?_ | refine zab (fun K hK => ?_) | refine za3 ?_)
      exact ⟨rfl, (l - 1, _, _), ⟨⟨by show 0 ≤ l - 1; omega, by show l - 1 ≤ 2; omega⟩, hp, hr'⟩, by show (l - 1).toNat < l.toNat; omega, zaw _ _ ⟨rfl, rfl, rfl, rfl, rfl, trivial⟩ ⟨rfl, rfl, rfl, trivial⟩ rfl⟩
     | false =>
      have hr' := (zkh l0 (fun _ => hl) hw).symm.trans hr; subst hr'
      repeat (first | (refine zai rfl ?_; first | refine zaj ?_ | refine gdr (zaa rfl rfl rfl (zl8 addr _ ha (by omega) (by omega)) rfl) ?_ | refine gdr (zaa rfl rfl rfl (z3n sz xs t _ t2 hi hs hu) rfl) ?_ | refine gdr (zaa rfl rfl rfl (hl ▸ zi7 _ hA _ (by omega) (by omega)) rfl) ?_) | (refine hK _ ?_; clear hK K) | refine zac rfl ?_ | refine zaq (by kernel_rfl) (by kernel_rfl) rfl ?_ | exact zah (show zat _ _ _ = some _ by kernel_rfl) | refine zae rfl rfl ?_ | refine zak ?_ | refine zab (fun K hK => ?_))
   · have hr' := (zkh l0 (fun h => absurd h hlt) hw).symm.trans hr; subst hr'
     repeat (first | (refine zai rfl ?_; first | refine zaj ?_ | refine gdr (zaa rfl rfl rfl (zl8 addr _ ha (by omega) (by omega)) rfl) ?_ | refine gdr (zaa rfl rfl rfl (z3n sz xs t _ t2 hi hs hu) rfl) ?_) | (refine hK _ ?_; clear hK K) | refine zac rfl ?_ | refine zaq (by kernel_rfl) (by kernel_rfl) rfl ?_ | exact zah (show zat _ _ _ = some _ by kernel_rfl) | refine zae rfl rfl ?_ | refine zak ?_ | refine zab (fun K hK => ?_))
end LaA
namespace IterE
open Go.RowKit Go.Shelf Bv Base MemL MemC MemC3 IterC LaA PteSpec
attribute [local go_sem] Oper.semAt_some
def z5m (p : Pte) : Value := .agg #[.bool p.v, .bool p.r, .bool p.w, .bool p.x, .bool p.u, .bool p.g, .bool p.a, .bool p.d, .int .u64 p.rsw, .int .u64 p.ppn, .int .u64 p.high]
abbrev Ie (sz : Int) (xs : List (Int × Int)) (f : Int) := { i : Nat // i < 512 ∧ zbs sz xs (f * 4096 + (i : Int) * 8) ≠ 0 }
def z5n (sz : Int) (xs : List (Int × Int)) (f : Int) (x : Ie sz xs f) : Array Value := #[.int .i64 (x.1 : Int), z5m (atM sz xs f x.1)]
def nzB (sz : Int) (xs : List (Int × Int)) (f : Int) (i : Nat) : Bool := zbs sz xs (f * 4096 + (i : Int) * 8) != 0
def Ent (sz : Int) (xs : List (Int × Int)) (f : Int) (b1 b2 : Nat) (W : World) : Prop := ∃ u, Bx W b1 #[.int .u64 sz, u] ∧ Bx W b2 #[.int .u64 f] ∧ Sl W u xs.length 2 (fl xs)
theorem Ent.below {sz : Int} {xs : List (Int × Int)} {f : Int} {b1 b2 : Nat} {W W' : World} (h : Ent sz xs f b1 b2 W) (b : Below W.heap.size W W') : Ent sz xs f b1 b2 W' := by
 obtain ⟨u, h1, h2, h3⟩ := h; exact ⟨u, h1.below b, h2.below b, h3.below b⟩
def KpE (sz : Int) (xs : List (Int × Int)) (f : Int) (b1 b2 : Nat) (A B : World) : Prop := A.heap.size ≤ B.heap.size ∧ (Ent sz xs f b1 b2 A → Ent sz xs f b1 b2 B)
theorem KpE.trans {sz : Int} {xs : List (Int × Int)} {f : Int} {b1 b2 : Nat} {A B C : World} (h : KpE sz xs f b1 b2 A B) (k : KpE sz xs f b1 b2 B C) : KpE sz xs f b1 b2 A C := ⟨Nat.le_trans h.1 k.1, fun e => k.2 (h.2 e)⟩
theorem z18 {W : World} {l b : Nat} {o o' : Obj} {vs : Array Value} (h : Bx W b vs) (hl : W.heap[l]? = some o) (ho : o.isCells = false) : Bx (W.putObj l o') b vs := by
 obtain ⟨T, h⟩ := h; refine ⟨T, ?_⟩; have hne : b ≠ l := fun e => by subst e; rw [h] at hl; cases hl; cases ho
 exact ((grownBy_putObj' W l o').block b (Array.getElem?_eq_some_iff.1 h).1 (fun e => hne (by cases e; rfl))).trans h
theorem zs2 {W : World} {l b o : Nat} {x x' : Obj} {v : Value} (h : W.cell? ⟨b, o, none⟩ = some v) (hl : W.heap[l]? = some x) (hx : x.isCells = false) : (W.putObj l x').cell? ⟨b, o, none⟩ = some v :=
 cell_kept h (grownBy_putObj' W l x') (fun r e => by cases e; exact ⟨x, hl, hx⟩)
theorem KpE.put {sz : Int} {xs : List (Int × Int)} {f : Int} {b1 b2 : Nat} (W : World) (l : Nat) (o o' : Obj) (hl : W.heap[l]? = some o) (ho : o.isCells = false) : KpE sz xs f b1 b2 W (W.putObj l o') := by
 refine ⟨(grownBy_putObj' W l o').size, fun ⟨u, h1, h2, h3, h4⟩ => ⟨u, z18 h1 hl ho, z18 h2 hl ho, h3, ?_⟩⟩; rcases h4 with h4 | ⟨b, off, cap, e, q1, q2, q3, q4⟩
 · exact .inl h4
 · refine .inr ⟨b, off, cap, e, Nat.lt_of_lt_of_le q1 (grownBy_putObj' W l o').size, q2, q3, fun i hi => ?_⟩; have := q4 i hi; obtain ⟨v, hv⟩ : ∃ v, (fl xs)[i]? = some v := ⟨_, List.getElem?_eq_getElem (by rw [h3]; exact hi)⟩
   rw [hv] at this ⊢; exact zs2 this hl ho
theorem z3o {sz : Int} {xs : List (Int × Int)} {f : Int} {k : Nat} (h : nzB sz xs f k = true) : (List.range (k + 1)).filter (nzB sz xs f) = (List.range k).filter (nzB sz xs f) ++ [k] := by
 rw [List.range_succ, List.filter_append]; simp [h]
theorem z6m {sz : Int} {xs : List (Int × Int)} {f : Int} {k : Nat} (h : nzB sz xs f k = false) : (List.range (k + 1)).filter (nzB sz xs f) = (List.range k).filter (nzB sz xs f) := by
 rw [List.range_succ, List.filter_append]; simp [h]
set_option maxHeartbeats 1000000 in
theorem zph (f i : Int) (W : World) (hf : 0 ≤ f ∧ f < 17592186044416) (hi : 0 ≤ i ∧ i < 512) : Calls Tryz.prog 119 #[.int .u64 f, .int .i64 i] W fun e w' => e = .returned (.int .u64 (f * 4096 + i * 8)) ∧ Below W.heap.size W w' := by
 have h1 : IntKind.u64.wrap (f * 4096) = f * 4096 := by rw [IntKind.wrap_u64]; omega
 have h2 : IntKind.u64.wrap i = i := by rw [IntKind.wrap_u64]; omega
 have h3 : IntKind.u64.wrap (i * 8) = i * 8 := by rw [IntKind.wrap_u64]; omega
 have h4 : IntKind.u64.wrap (f * 4096 + i * 8) = f * 4096 + i * 8 := by rw [IntKind.wrap_u64]; omega
 go_enter Tryz.func119, Tryz.ntmps119
 go_wp2
 go_ret
 exact ⟨rfl, Below.refl _ _⟩
set_option maxHeartbeats 4000000 in
theorem zpi (n : Nat) (hn : 2 ≤ n) (sz : Int) (xs : List (Int × Int)) (f : Int) (b1 b2 : Nat) (W0 : World) (hE : Ent sz xs f b1 b2 W0) (hf : 0 ≤ f ∧ f < 17592186044416) (hs : Srt xs) (hu : Uw xs) :
 SeqStopsK Fence.wide n Tryz.prog 166 #[.pointer (some ⟨b1, 0, none⟩), .pointer (some ⟨b2, 0, none⟩)] (z5n sz xs f) (KpE sz xs f b1 b2) (fun ys => ys.map (·.1) = (List.range 512).filter (nzB sz xs f)) (fun _ => True) 512 W0 := by
 intro l J Jx W hW hJ hJx hY h0; have hEW : Ent sz xs f b1 b2 W := hE.below hW; have grow : ∀ {pre : List (Ie sz xs f)} {A B : World}, W.heap.size ≤ A.heap.size → J pre A → Below A.heap.size A B → J pre B := fun hsz hj hb => hJ _ _ _ none hj ⟨hb.os, hb.tape, hb.output, hb.size, fun k hk _ => hb.block k hk⟩ (fun r e => by cases e); refine callsIn_of_wp Tryz.func166 rfl trivial ?_ rfl; simp only [Tryz.ntmps166, List.size_toArray, List.length_cons, List.length_nil, Nat.reduceAdd, Nat.reduceSub, Array.replicate_succ, Array.replicate_zero, List.push_toArray, List.append_toArray, List.nil_append, List.cons_append]
 gi_wp2
 gi_loopw [6] (fun i wr => ∃ k : Nat, k ≤ 512 ∧ i = .int .i64 k ∧ W.heap.size ≤ wr.heap.size ∧ Ent sz xs f b1 b2 wr ∧ ∃ pre : List (Ie sz xs f), pre.map (·.1) = (List.range k).filter (nzB sz xs f) ∧ J pre wr) (fun i _ => 512 - (intOf i).toNat)
 case atStart => exact ⟨0, by omega, rfl, Nat.le_refl _, hEW, [], rfl, h0⟩
 case round =>
  obtain ⟨k, hk, rfl, hsz, ⟨u, X1, X2, V⟩, pre, hpre, hj⟩ := hrel; have y0 := X1.cell 0; have y1 := X1.cell 1; have p0 := X2.cell 0; simp at y0 y1 p0; have l1 := X1.lt; have l2 := X2.lt; by_cases hlt : k < 512
  · have hU : U (f * 4096 + (k : Int) * 8) := ⟨by omega, by omega⟩; have HW := Lib.hid (show zbs sz xs (f * 4096 + (k : Int) * 8) = zbs sz xs (f * 4096 + (k : Int) * 8) from rfl); have hWU := zf5 hu sz (f * 4096 + (k : Int) * 8); generalize hwd : zbs sz xs (f * 4096 + (k : Int) * 8) = wd at HW hWU; clear HW; have Hwd := Lib.hid hwd; clear hwd
    gi_wp2
    refine wpIn_wide.2 ?_; refine zo3 (by kernel_rfl) (by kernel_rfl) ?_
    repeat (with_reducible refine wpQuiet_step (fun K hK => ?_)
            go_simp
            first
             | (refine hK _ ?_; clear hK K)
             | (refine ⟨_, fun _ _ => rfl, hK _ ?_⟩; clear hK K)
             | (apply Exists.intro
                refine ⟨fun w' hw' => ?_, hK _ ?_⟩
                · first
                  | (go_at_call 119; (with_reducible refine (zph _ _ _ hf ⟨by omega, by omega⟩).mono ?_); rintro e w2 ⟨rfl, hq⟩; exact ⟨rfl, hw'.trans (hq.mono hw'.size)⟩)
                  | (go_at_call 167; (with_reducible refine (zie _ _ xs _ _ hU hs (V.below hw')).mono ?_); rintro e w2 ⟨rfl, hb⟩; exact ⟨rfl, hw'.trans (hb.mono hw'.size)⟩)
                  | (obtain ⟨hcc, _⟩ := zo2 hw'; go_simp; done)
                  | (obtain ⟨hcc, _⟩ := zo2 hw'; go_simp; rfl)
                clear hK K))
    refine wpQuiet_nil ?_; intro w2 hb2; have E2 : Ent sz xs f b1 b2 w2 := Ent.below ⟨u, X1, X2, V⟩ hb2; have j2 : J pre w2 := grow hsz hj hb2; have s2 : W.heap.size ≤ w2.heap.size := Nat.le_trans hsz hb2.size; rw [show zbs sz xs (f * 4096 + (k : Int) * 8) = wd from Hwd.out]; clear X1 X2 V y0 y1 p0 hb2 hj; by_cases hz : wd = 0
    · subst hz; have hn0 : nzB sz xs f k = false := by unfold nzB; rw [Hwd.out]; rfl
      gi_wp2
      refine ⟨trivial, ?_⟩
      gi_wp2
      refine ⟨fun _ h => (by cases h), ?_⟩
      gi_wp2
      go_roundw
      case rel => exact ⟨k + 1, by omega, by go_num, s2, E2, pre, by rw [z6m hn0]; exact hpre, j2⟩
      case measure => simp [intOf]; omega
    · have hn1 : nzB sz xs f k = true := by unfold nzB; rw [Hwd.out]; simp [hz]
      obtain ⟨x, hx⟩ : ∃ x : Ie sz xs f, x = ⟨k, hlt, by rw [Hwd.out]; exact hz⟩ := ⟨_, rfl⟩
      have he : z5n sz xs f x = #[.int .i64 (k : Int), .agg #[.bool (zay wd).v, .bool (zay wd).r, .bool (zay wd).w, .bool (zay wd).x, .bool (zay wd).u, .bool (zay wd).g, .bool (zay wd).a, .bool (zay wd).d, .int .u64 (zay wd).rsw, .int .u64 (zay wd).ppn, .int .u64 (zay wd).high]] := by
       rw [hx]; show #[Value.int .i64 (k : Int), z5m (zay (zbs sz xs (f * 4096 + (k : Int) * 8)))] = _; rw [Hwd.out]; rfl
      have hpl : pre.length < 512 := by
       have e1 : pre.length = ((List.range k).filter (nzB sz xs f)).length := by rw [← hpre, List.length_map]
       have e2 := List.length_filter_le (nzB sz xs f) (List.range k); rw [List.length_range] at e2; omega
      gi_wp2
      refine ⟨trivial, fun h => (by cases h), ?_⟩; refine (callsIn_wide.2 (PteC.zl7 _ _ hWU)).mono ?_; rintro e w3 ⟨rfl, hb3⟩; obtain ⟨fn, tmps, assign, body, hy, hR⟩ := hY pre x w3 (grow s2 j2 hb3) hpl; rw [he] at hy
      gi_wp2
      refine ⟨fun h => (by cases h), ?_⟩; refine hR.mono ?_; have hb : (wd != 0) = true := by simp [hz]
      rintro e w4 (⟨rfl, hj4, hk4⟩ | ⟨rfl, hjx4⟩)
      · have E4 := hk4.2 (E2.below hb3); have s4 : W.heap.size ≤ w4.heap.size := Nat.le_trans s2 (Nat.le_trans hb3.size hk4.1)
        gi_wp2
        go_roundw
        case rel => exact ⟨k + 1, by omega, by go_num, s4, E4, pre ++ [x], by rw [z3o hn1, List.map_append, hpre, hx]; rfl, hj4⟩
        case measure => simp [intOf]; omega
      · gi_wp2
        refine bodyPost_ret (results_none rfl _ _ _) rfl ?_; exact ⟨⟨_, rfl⟩, .inr ⟨pre ++ [x], trivial, hjx4⟩⟩
  · obtain rfl : k = 512 := by omega
    gi_wp2
    go_end0
    exact ⟨⟨_, rfl⟩, .inl ⟨pre, hpre, hj⟩⟩
end IterE
namespace Ax
open Go.RowKit MemL RegR MemC MemC3 PutC LaA IterE PteSpec BitsC OkS Go
structure En.lw (E F : En) : Prop where
 U : ∀ b, E.U b → F.U b ∧ F.τ b = E.τ b
 A : ∀ g, g < E.w.heap.size → E.A g → F.A g
 size : E.w.heap.size ≤ F.w.heap.size
 cell : ∀ g o v, g < E.w.heap.size → E.A g → E.w.cell? ⟨g, o, none⟩ = some v → F.w.cell? ⟨g, o, none⟩ = some v
theorem z3p {E F : En} (h : E.lw F) {n k : Nat} {xs : List Value} {u : Value} (k1 : Sl E.w u n k xs) (k3 : ∀ a l c, u = .slice (some a) l c → E.A a.block) : Sl F.w u n k xs ∧ ∀ a l c, u = .slice (some a) l c → F.A a.block := by
 obtain ⟨k1, k2⟩ := k1; rcases k2 with k2 | ⟨b, o, cap, rfl, l, h3, h4, h5⟩
 · refine ⟨⟨k1, .inl k2⟩, fun a l c e => ?_⟩; rw [k2.1] at e; cases e
 · have ha := k3 ⟨b, o, none⟩ _ _ rfl; refine ⟨⟨k1, .inr ⟨b, o, cap, rfl, Nat.lt_of_lt_of_le l h.size, h3, h4, fun i hi => ?_⟩⟩, fun a l' c e => ?_⟩
   · have e := h5 i hi; rw [List.getElem?_eq_getElem (by rw [k1]; exact hi)] at e ⊢
     exact h.cell b (o + i) _ l ha e
   · cases e; exact h.A b l ha
theorem zxc {E F : En} (h : E.lw F) : ∀ (x : Ce) (u : Value), x.R E u → x.R F u
 | .v x, u, k => k
 | .s n k xs, u, ⟨k1, k2⟩ => z3p h k1 k2
 | .q xs, u, ⟨g, o, k1, k2, k3, k4⟩ => ⟨g, o, k1, Nat.lt_of_lt_of_le k2 h.size, h.A g k2 k3, fun i hi => by
  have e := k4 i hi; rw [List.getElem?_eq_getElem hi] at e ⊢
  exact h.cell g (o + i) _ k2 k3 e⟩
 | .p b off, u, ⟨k0, g, k1, k2⟩ => ⟨(h.U b k0).1, g, (h.U b k0).2.trans k1, k2⟩
 | .o b, u, ⟨k0, k1⟩ => ⟨(h.U b k0).1, k1.trans (h.U b k0).2.symm⟩
 | .rp b off, u, ⟨k0, g, n, cap, k1, k2⟩ => ⟨(h.U b k0).1, g, n, cap, (h.U b k0).2.trans k1, k2⟩
 | .f n k xs, u, ⟨k1, k2, k3⟩ => ⟨(z3p h k1 k2).1, (z3p h k1 k2).2, k3⟩
 | .bs b off n, u, ⟨k0, g, k1, k2⟩ => ⟨(h.U b k0).1, g, (h.U b k0).2.trans k1, k2⟩
 | .cl fi bs, u, ⟨k1, k2⟩ => ⟨by rw [k1, List.map_congr_left (fun b hb => ((h.U b (k2 b hb)).2).symm)], fun b hb => (h.U b (k2 b hb)).1⟩
 | .any, _, _ => trivial
theorem zxd {E F : En} (h : E.lw F) : ∀ (x : Cm) (u : Value), x.R E u → x.R F u
 | .c x, u, k => zxc h x u k
 | .ag cs, u, ⟨vs, k1, k2⟩ => ⟨vs, k1, All2.mono (zxc h) _ _ k2⟩
theorem z6n {E F : En} (h : E.lw F) : ∀ (x : AV) (u : Value), x.R E u → x.R F u
 | .m x, u, k => zxd h x u k
 | .tu l, u, ⟨vs, k1, k2⟩ => ⟨vs, k1, All2.mono (zxd h) _ _ k2⟩
section
variable {P : Program} {X : Cx} {S : St} {Q : Exit → St → Prop} {τ : Nat → Value} {a : Act} {w : World}
def z7z (W : World) (g : Nat) : Prop := ∃ o, W.heap[g]? = some o ∧ o.isCells = false
theorem zg8 (h : SimT X S τ a w) {b g : Nat} (hb : zck S.hp b) (ho : occ (τ b) = some g) : ¬ z7z w g := by
 obtain ⟨k, hk⟩ := hb; have hR := h.hp b k hk; rintro ⟨o, h1, h2⟩; cases k with
 | box cs =>
  obtain ⟨g', vs, e1, ⟨T, e2⟩, _⟩ := hR; rw [e1] at ho; cases ho
  have e2 : w.heap[g']? = some (Obj.cells vs T (0, 0)) := e2; rw [e2] at h1; cases h1; cases h2
 | row e k n xs =>
  rcases hR.2 with ⟨e1, _⟩ | ⟨g', cap, cur, e1, _, e3, _⟩
  · rw [e1] at ho; cases ho
  · rw [e1] at ho; cases ho
    have e3 : w.heap[g']? = some (Obj.cells cur e (0, 0)) := e3; rw [e3] at h1; cases h1; cases h2
theorem zki {w' : World} (h : SimT X S τ a w) {row : Option Nat} (hg : w.grownBy w' row) (hr : ∀ r, row = some r → z7z w r ∧ ¬ X.K r) : SimT X S τ a w' := by
 have hlw : (env X S.hp τ w).lw (env X S.hp τ w') := ⟨fun b hb => ⟨hb, rfl⟩, fun g _ hg => hg, hg.size, fun g o v _ _ hv => cell_kept hv hg (fun r e => (hr r e).1)⟩; have hbk : ∀ b g, zck S.hp b → occ (τ b) = some g → w'.heap[g]? = w.heap[g]? := fun b g hb ho => hg.block g (h.own b g hb ho).2 (fun e => zg8 h hb ho (hr g e.symm).1); refine ⟨h.size, h.nodef, h.bel.grown hg (fun g hk => Nat.lt_of_lt_of_le (X.hK g hk) h.bel.size) (fun k e => (hr k e).2), fun t ht => z6n hlw _ _ (h.tm t ht), fun b k hk => ?_, fun b g hb ho => ⟨(h.own b g hb ho).1, Nat.lt_of_lt_of_le (h.own b g hb ho).2 hg.size⟩, h.sep, h.one, h.pin⟩; have hR := h.hp b k hk; cases k with
 | box cs =>
  obtain ⟨g, vs, e1, ⟨T, e2⟩, e3⟩ := hR; exact ⟨g, vs, e1, ⟨T, (hbk b g ⟨_, hk⟩ (by rw [e1]; rfl)).trans e2⟩, All2.mono (zxc hlw) _ _ e3⟩
 | row e k n xs =>
  refine ⟨hR.1, ?_⟩; rcases hR.2 with e1 | ⟨g, cap, cur, e1, e2, e3, e4⟩
  · exact .inl e1
  · exact .inr ⟨g, cap, cur, e1, e2, (hbk b g ⟨_, hk⟩ (by rw [e1]; rfl)).trans e3, e4⟩
def cxR (X : Cx) (W : World) (l : Nat) (τ : Nat → Value) (ns : List Nat) (hk : Kept X.K X.W0 W) : Cx :=
 { X with
  W0 := W
  hB := Nat.le_trans X.hB hk.size
  K := fun g => X.K g ∨ z7z W g
  hK := fun g h => h.elim (fun h => Nat.lt_of_lt_of_le (X.hK g h) hk.size) (fun ⟨o, h, _⟩ => (Array.getElem?_eq_some_iff.1 h).1)
  hG := fun w h => X.hG w (hk.trans (h.mono fun _ => .inl))
  pn := ns.map fun b => (b, τ b)
  rd := some l }
def cxP (X : Cx) (τ : Nat → Value) (ns : List Nat) : Cx := { X with pn := ns.map fun b => (b, τ b), rd := none }
theorem zhv {τ0 : Nat → Value} {ns : List Nat} {l : Nat} (h : SimT (cxP X τ0 ns) S τ a w) (hk : Kept X.K X.W0 w) : SimT (cxR X w l τ0 ns hk) S τ a w :=
 ⟨h.size, h.nodef, Kept.refl _ _, h.tm, h.hp, fun b g hb ho => ⟨fun k => k.elim (h.own b g hb ho).1 (zg8 h hb ho), (h.own b g hb ho).2⟩, h.sep, h.one, h.pin⟩
theorem zhw {τ0 : Nat → Value} {ns : List Nat} {l : Nat} {W : World} {hk : Kept X.K X.W0 W} (h : SimT (cxR X W l τ0 ns hk) S τ a w) : SimT (cxP X τ0 ns) S τ a w :=
 ⟨h.size, h.nodef, hk.trans (h.bel.mono fun _ => .inl), h.tm, h.hp, fun b g hb ho => ⟨fun k => (h.own b g hb ho).1 (.inl k), (h.own b g hb ho).2⟩, h.sep, h.one, h.pin⟩
theorem zfe {τ0 : Nat → Value} {ns : List Nat} {l : Nat} {W : World} {hk : Kept X.K X.W0 W} (h : SimT (cxR X W l τ0 ns hk) S τ a w) (B : Nat) : KeepsFrom B W w :=
 ⟨h.bel.size, fun k o _ ho hc => (h.bel.block k (.inr ⟨o, ho, hc⟩)).trans ho⟩
def ptT (ts : List (Nat × Nat)) : List (Nat × AV) := ts.map fun p => (p.1, .m (.c (.p p.2 0)))
theorem zgi {τ0 : Nat → Value} {ns : List Nat} {a0 : Act} (h : Sim (cxP X τ0 ns) S a w) (ts : List (Nat × Nat)) (bs : List (Nat × Hs)) (hb : EqB S bs) (hc : (bs.all fun p => (idK p.2).all (zlx · bs)) = true) (hns : (ns.all fun b => zlx b bs) = true)
 (hts : ∀ p ∈ ts, p.2 ∈ ns ∧ a0.tmps.getD p.1 undef = τ0 p.2 ∧ ∃ g, τ0 p.2 = .pointer (some ⟨g, 0, none⟩)) (hsz : a0.tmps.size = X.N) (hd : a0.defers = X.df) : Sim (cxP X τ0 ns) (St.of (ptT ts) bs) a0 w := by
 obtain ⟨τ', s⟩ := zaw (X := cxP X τ0 ns) [] bs trivial hb (by simp only [List.all_nil, Bool.true_and]; exact hc) (by
  show ((ns.map fun b => (b, τ0 b)).all fun p => zlx p.1 bs) = true
  rw [List.all_map]; exact hns) a w h
 refine ⟨τ', hsz, hd, s.bel, fun t ht => ?_, s.hp, s.own, s.sep, s.one, s.pin⟩; have key : look (.m (.c .any)) (ptT ts) t = .m (.c .any) ∨ ∃ p ∈ ts, p.1 = t ∧ look (.m (.c .any)) (ptT ts) t = .m (.c (.p p.2 0)) := by
  by_cases e : look (.m (.c .any)) (ptT ts) t = .m (.c .any)
  · exact .inl e
  · obtain ⟨q, h1, h2, h3⟩ := look_mem _ _ _ rfl e; obtain ⟨p, hp, rfl⟩ := List.mem_map.1 h1; exact .inr ⟨p, hp, h2, h3.symm⟩
 show AV.R _ (look (.m (.c .any)) (ptT ts) t) _; rcases key with e | ⟨p, hp, rfl, e⟩
 · rw [e]; trivial
 · rw [e]; obtain ⟨h1, h2, g, h3⟩ := hts p hp; have hpin := s.pin (p.2, τ0 p.2) (List.mem_map.2 ⟨p.2, h1, rfl⟩); exact ⟨hpin.1, g, hpin.2.trans h3, h2.trans h3⟩
def St.two (S : St) (p1 p2 : Nat) (v1 v2 : AV) : St := ⟨zhj (some p2) v2 (zhj (some p1) v1 S.tm), S.hp⟩
theorem zxe {p1 p2 : Nat} {v1 v2 : AV} {u1 u2 : Value} (hdf : X.df = []) (h : SimT X S τ a w) (h1 : v1.R (env X S.hp τ w) u1) (h2 : v2.R (env X S.hp τ w) u2) : SimT X (S.two p1 p2 v1 v2) τ { tmps := (a.tmps.setIfInBounds p1 u1).setIfInBounds p2 u2, defers := [] } w := by
 refine ⟨by simp [h.size], hdf.symm, h.bel, ?_, h.hp, h.own, h.sep, h.one, h.pin⟩; have t1 := zvq (X := X) (S := S) (d := some p1) h.size h.tm h1; exact zvq (X := X) (S := ⟨zhj (some p1) v1 S.tm, S.hp⟩) (a := a.put (some p1) u1) (d := some p2) (by simp [Act.put, h.size]) t1 h2
theorem z19 {τ0 : Nat → Value} {ns : List Nat} {sz f : Int} {xs : List (Int × Int)} {n1 n2 b1 b2 : Nat} (h : SimT (cxP X τ0 ns) S τ a w) (h1 : S.hp n1 = .live (.box [.v (.int .u64 sz), .s xs.length 2 (fl xs)])) (h2 : S.hp n2 = .live (.box [.v (.int .u64 f)])) (m1 : n1 ∈ ns) (m2 : n2 ∈ ns)
 (e1 : τ0 n1 = .pointer (some ⟨b1, 0, none⟩)) (e2 : τ0 n2 = .pointer (some ⟨b2, 0, none⟩)) : Ent sz xs f b1 b2 w := by
 have p1 := (h.pin (n1, τ0 n1) (List.mem_map.2 ⟨n1, m1, rfl⟩)).2; have p2 := (h.pin (n2, τ0 n2) (List.mem_map.2 ⟨n2, m2, rfl⟩)).2; have p1 : τ n1 = .pointer (some ⟨b1, 0, none⟩) := p1.trans e1; have p2 : τ n2 = .pointer (some ⟨b2, 0, none⟩) := p2.trans e2; obtain ⟨g, vs, q1, q2, q3⟩ := h.hp n1 _ h1; rw [p1] at q1; cases q1
 obtain ⟨g, us, r1, r2, r3⟩ := h.hp n2 _ h2; rw [p2] at r1; cases r1
 obtain ⟨vs⟩ := vs; obtain ⟨us⟩ := us
 match vs, q3, us, r3 with
 | [v1, v2], q3, [v3], r3 =>
  rw [show v1 = .int .u64 sz from q3.1] at q2; rw [show v3 = .int .u64 f from r3.1] at r2; exact ⟨v2, q2, r2, q3.2.1.1⟩
 | [], q3, _, _ => exact q3.elim
 | [_], q3, _, _ => exact q3.2.elim
 | _ :: _ :: _ :: _, q3, _, _ => exact q3.2.2.elim
 | [_, _], _, [], r3 => exact r3.elim
 | [_, _], _, _ :: _ :: _, r3 => exact r3.2.elim
theorem zkj {S S' : St} (h : S.hp = S'.hp) : ∀ (l : List (Nat × Hs)), EqB S l → EqB S' l
 | [], _ => trivial
 | p :: l, k => ⟨by rw [← h]; exact k.1, zkj h l k.2⟩
def z70 : Exit → St → Prop := fun _ _ => False
set_option maxHeartbeats 1000000 in
theorem z2a {β : Type} {X : Cx} {S : St} {τ0 : Nat → Value} {a : Act} {w : World} {t p1 p2 : Tmp} {assign body : Code} {Q : Exit → Act → World → Prop} {sz f : Int} {xs : List (Int × Int)} (hf : 0 ≤ f ∧ f < 17592186044416) (hs : Srt xs) (hu : Uw xs)
 (hdf : X.df = []) (ts : List (Nat × Nat)) (ns : List Nat) (n1 n2 : Nat) (bs : β → List (Nat × Hs)) (mid : β → Ie sz xs f → St) (next : β → Ie sz xs f → β) (b0 : β)
 (hS : SimT (cxP X τ0 ns) S τ0 a w) (htN : t < X.N) (hcl : S.tm t = .m (.c (.cl 166 [n1, n2])))
 (hts : ∀ p ∈ ts, S.tm p.1 = .m (.c (.p p.2 0)) ∧ p.2 ∈ ns ∧ p.1 < X.N) (hns : ∀ b ∈ ns, ∃ cs, S.hp b = .live (.box cs)) (hb0 : EqB S (bs b0)) (m1 : n1 ∈ ns) (m2 : n2 ∈ ns)
 (hbs : ∀ o, ((bs o).all (fun p => (idK p.2).all (zlx · (bs o))) && ns.all (fun b => zlx b (bs o))) = true)
 (hn1 : ∀ o, look Hs.fresh (bs o) n1 = .live (.box [.v (.int .u64 sz), .s xs.length 2 (fl xs)])) (hn2 : ∀ o, look Hs.fresh (bs o) n2 = .live (.box [.v (.int .u64 f)]))
 (hmid : ∀ o x, EqB (mid o x) (bs o)) (hself : ∀ o, EqB (St.of [] (bs o)) (bs o))
 (hinj : ∀ (τ τ' : Nat → Value) (a a' : Act) (W : World) (o o' : β) (x : Ie sz xs f), SimT (cxP X τ0 ns) (St.of (ptT ts) (bs o)) τ a W → SimT (cxP X τ0 ns) (mid o' x) τ' a' W → o = o')
 (hA : ∀ (W : World) (l : Nat) (hk : Kept X.K X.W0 W) (o : β) (x : Ie sz xs f), Aw Tryz.prog (cxR X W l τ0 ns hk) assign (zlk (fun S' => Sub (cxR X W l τ0 ns hk) S' (mid o x)) z70) ((St.of (ptT ts) (bs o)).two p1 p2 (.m (.c (.v (.int .i64 (x.1 : Int))))) (.m (.ag (atM sz xs f x.1).ce))))
 (F : β → Prop) (hF : ∀ pre : List (Ie sz xs f), pre.length < 512 → F (pre.foldl next b0))
 (hB : ∀ (W : World) (l : Nat) (hk : Kept X.K X.W0 W) (o : β) (x : Ie sz xs f), F o → Aw Tryz.prog (cxR X W l τ0 ns hk) body (zlk (fun S' => Sub (cxR X W l τ0 ns hk) S' (St.of (ptT []) (bs (next o x)))) z70) (mid o x))
 (hdone : ∀ (D : Nat) (ys : List (Ie sz xs f)) (W : World), w.heap.size ≤ D → ys.map (·.1) = (List.range 512).filter (nzB sz xs f) → Sim (cxP X τ0 ns) (St.of (ptT ts) (bs (ys.foldl next b0))) a W → W.heap[D]? = some (.deferred (some [])) → Q .normal { a with defers := { target := .collected D, args := #[] } :: a.defers } W) :
 (Code.rangeFunc (.tmp t) #[p1, p2] assign body).wp Tryz.prog Q a w := by
 have hptr : ∀ b ∈ ns, ∃ g, τ0 b = .pointer (some ⟨g, 0, none⟩) := fun b hb => by
  obtain ⟨cs, e⟩ := hns b hb; obtain ⟨g, vs, e1, _⟩ := hS.hp b _ e; exact ⟨g, e1⟩
 obtain ⟨b1, e1⟩ := hptr n1 m1; obtain ⟨b2, e2⟩ := hptr n2 m2; have hval : a.eval (.tmp t) = .func (.func 166) #[] #[.pointer (some ⟨b1, 0, none⟩), .pointer (some ⟨b2, 0, none⟩)] := by
  have := hS.tm t htN; rw [hcl] at this; have this : a.tmps.getD t undef = .func (.func 166) #[] ([n1, n2].map τ0).toArray := this.1; show a.tmps.getD t undef = _; rw [this]; simp [e1, e2]
 have hts' : ∀ p ∈ ts, p.2 ∈ ns ∧ a.tmps.getD p.1 undef = τ0 p.2 ∧ ∃ g, τ0 p.2 = .pointer (some ⟨g, 0, none⟩) := fun p hp => by
  obtain ⟨q1, q2, q3⟩ := hts p hp; have := hS.tm p.1 q3; rw [q1] at this; obtain ⟨_, g, r1, r2⟩ := this; have r1 : τ0 p.2 = .pointer (some ⟨g, 0, none⟩) := r1; exact ⟨q2, r2.trans r1.symm, g, r1⟩
 have hbs1 : ∀ o, ((bs o).all fun p => (idK p.2).all (zlx · (bs o))) = true := fun o => by have := hbs o; rw [Bool.and_eq_true] at this; exact this.1
 have hbs2 : ∀ o, (ns.all fun b => zlx b (bs o)) = true := fun o => by have := hbs o; rw [Bool.and_eq_true] at this; exact this.2
 have hent : ∀ {S' : St} {τ' : Nat → Value} {a' : Act} {W' : World} {o : β}, SimT (cxP X τ0 ns) S' τ' a' W' → EqB S' (bs o) → Ent sz xs f b1 b2 W' := fun {S' τ' a' W' o} s h => by
  have hl : ∀ n v, look Hs.fresh (bs o) n = .live v → S'.hp n = .live v := fun n v hv => by
   rcases zm3 h n with e | e
   · rw [e] at hv; cases hv
   · rw [← e]; exact hv
  exact z19 s (hl _ _ (hn1 o)) (hl _ _ (hn2 o)) m1 m2 e1 e2
 have hE0 : Ent sz xs f b1 b2 w := hent hS hb0; have hszW : X.W0.heap.size ≤ w.heap.size := hS.bel.size
 have hgr : ∀ (S' : St) (a' : Act), OwnFrom w.heap.size (fun (_ : Unit) W => Sim (cxP X τ0 ns) S' a' W) := fun S' a' _ W W' row ⟨τ', s⟩ hg hr => ⟨τ', zki s hg fun r e => ⟨(hr r e).2, fun k => by
  have := X.hK r k; have := (hr r e).1; omega⟩⟩
 have hI0 : Sim (cxP X τ0 ns) (St.of (ptT ts) (bs b0)) a w := zgi ⟨τ0, hS⟩ ts (bs b0) hb0 (hbs1 b0) (hbs2 b0) hts' hS.size hS.nodef
 refine (wpIn_wide (n := 5)).1 (wpIn_rangeFunc_ownH (w0 := w) rfl (by omega) (gf := 166) hval trivial (enters_of Tryz.func166 (by kernel_rfl) rfl)
  (zpi 4 (by omega) sz xs f b1 b2 w hE0 hf hs hu) KpE.trans (fun W l o o' _ hl ho _ => KpE.put W l o o' hl ho) (Below.refl _ _) (fun _ => rfl)
  (fun pre W => Sim (cxP X τ0 ns) (St.of (ptT ts) (bs (pre.foldl next b0))) a W) (fun _ _ _ => False) (fun s W W' row hi hg hr => hgr _ _ () W W' row hi hg hr) (fun _ _ _ _ _ h _ _ => h) hI0
  (fun x a' W => ∃ o, Sim (cxP X τ0 ns) (mid o x) a' W) (fun x a' _ W W' row ⟨o, hi⟩ hg hr => ⟨o, hgr _ _ () W W' row hi hg hr⟩) ?_ ?_ ?_ (fun _ _ _ _ _ _ h => h.elim))
 · intro l pre x W K hI hK; obtain ⟨τ1, s1⟩ := hI; have hk : Kept X.K X.W0 W := s1.bel; have s2 := zxe (p1 := p1) (p2 := p2) (v1 := .m (.c (.v (.int .i64 (x.1 : Int))))) (v2 := .m (.ag (atM sz xs f x.1).ce)) (u1 := .int .i64 (x.1 : Int)) (u2 := z5m (atM sz xs f x.1)) (show (cxP X τ0 ns).df = [] from hdf) s1 rfl ⟨_, rfl, rfl, rfl, rfl, rfl, rfl, rfl, rfl, rfl, rfl, rfl, rfl, trivial⟩; have s3 := zhv (l := l) s2 hk; have ez : (#[p1, p2].zip (z5n sz xs f x)).foldl (fun t (p, v) => t.setIfInBounds p v) a.tmps = (a.tmps.setIfInBounds p1 (.int .i64 (x.1 : Int))).setIfInBounds p2 (z5m (atM sz xs f x.1)) := by simp [z5n]
   rw [ez]; refine wpIn_mono (hA W l hk _ x _ W ⟨_, s3⟩ _) ?_; intro e a' W' ⟨S', q, s4⟩; cases e with
   | normal =>
    obtain ⟨τ5, s5⟩ := q _ _ s4; have s6 := zhw s5; exact hK a' W' (zfe s5 _) ⟨s5.bel.size, fun _ => hent s6 (hmid _ _)⟩ (zgi ⟨_, s6⟩ ts _ (hmid _ x) (hbs1 _) (hbs2 _) hts' hS.size hS.nodef) ⟨_, _, s6⟩
   | _ => exact q.elim
 · intro l pre x a' W hl hr hI ⟨o, τ2, s2⟩ hlen; obtain ⟨τ1, s1⟩ := hI; obtain rfl := hinj _ _ _ _ _ _ _ x s1 s2; have hk : Kept X.K X.W0 W := s2.bel; have s3 := zhv (l := l) s2 hk; refine wpIn_mono (hB W l hk _ x (hF pre hlen) _ W ⟨_, s3⟩ _) ?_; intro e a2 W' ⟨S', q, s4⟩; cases e with
   | normal =>
    obtain ⟨τ5, s5⟩ := q _ _ s4; have s6 := zhw s5; have hq := zkj (S := St.of [] (bs (next (pre.foldl next b0) x))) (S' := St.of (ptT []) (bs (next (pre.foldl next b0) x))) rfl _ (hself _); refine ⟨zfe s5 _, ⟨s5.bel.size, fun _ => hent s6 hq⟩, ?_⟩; show Sim (cxP X τ0 ns) (St.of (ptT ts) (bs ((pre ++ [x]).foldl next b0))) a W'; rw [List.foldl_append]; exact zgi ⟨_, s6⟩ ts _ hq (hbs1 _) (hbs2 _) hts' hS.size hS.nodef
   | _ => exact q.elim
 · intro D ys W hD hys hI hK; exact hdone D ys W hD hys hI hK
def Aw2 (P : Program) (X : Cx) (c : Code) (Q : Exit → Act → World → Prop) (S : St) : Prop := ∀ a w, Sim X S a w → c.wp P Q a w
theorem zcz {x y : Code} {Q : Exit → Act → World → Prop} (h : ∀ K : St → Prop, (∀ S, Aw2 P X y Q S → K S) → Aw P X x (zlk K z70) S) (hr : X.rd = none := by rfl) : Aw2 P X (.seq x y) Q S := fun a w hs =>
 wp_seq (wp_mono (zuw hr (h _ fun _ h => h) hs) fun e a' w' ⟨S', q, s⟩ => by
  cases e with
  | normal => exact q a' w' s
  | _ => exact q.elim)
theorem zxf {x y : Code} {Q : Exit → Act → World → Prop} (h : Aw2 P X x (Exit.then (y.wp P Q) Q) S) : Aw2 P X (.seq x y) Q S := fun a w hs => wp_seq (h a w hs)
theorem zkk {id : Nat} {c : Code} {Q : Exit → Act → World → Prop} (h : Aw2 P X c (Exit.inBlock id Q) S) : Aw2 P X (.block id c) Q S := fun a w hs => wp_block (h a w hs)
theorem zkl {c : Code} {Q : Exit → Act → World → Prop} {S' : St} (h : Sub X S S') (k : Aw2 P X c Q S') : Aw2 P X c Q S := fun a w hs => k a w (h a w hs)
theorem zrg {ns : List Nat} (h : SimT X S τ a w) (hns : ∀ b ∈ ns, ∃ cs, S.hp b = .live (.box cs)) : SimT (cxP X τ ns) S τ a w :=
 ⟨h.size, h.nodef, h.bel, h.tm, h.hp, h.own, h.sep, h.one, fun p hp => by
  obtain ⟨b, hb, rfl⟩ := List.mem_map.1 hp; obtain ⟨cs, e⟩ := hns b hb
  exact ⟨(by rw [e]; intro e'; cases e'), rfl⟩⟩
def cxD (X : Cx) (W : World) (D : Nat) (hk : Kept X.K X.W0 W) (hD : D < W.heap.size) : Cx :=
 { X with
  W0 := W
  hB := Nat.le_trans X.hB hk.size
  K := fun g => X.K g ∨ g = D
  hK := fun g h => h.elim (fun h => Nat.lt_of_lt_of_le (X.hK g h) hk.size) (fun h => h ▸ hD)
  hG := fun w h => X.hG w (hk.trans (h.mono fun _ => .inl))
  pn := []
  rd := none
  df := [{ target := .collected D, args := #[] }] }
theorem zrh {D : Nat} (h : SimT X S τ a w) (hdf : X.df = []) (hN : z7z w D) (hD : D < w.heap.size) : SimT (cxD X w D h.bel hD) S τ { a with defers := { target := .collected D, args := #[] } :: a.defers } w :=
 ⟨h.size, by show _ :: a.defers = _; rw [h.nodef, hdf]; rfl, Kept.refl _ _, h.tm, h.hp, fun b g hb ho => ⟨fun k => k.elim (h.own b g hb ho).1 (fun e => zg8 h hb ho (e ▸ hN)), (h.own b g hb ho).2⟩, h.sep, h.one, fun p hp => by cases hp⟩
def zri (W : World) (A : Nat → Prop) (r : AV) (e : Ending) (w' : World) : Prop := ∃ v, e = .returned v ∧ Below W.heap.size W w' ∧ r.R (en0 (fun g => A g ∨ W.heap.size ≤ g) w') v
theorem zma {G : World → Prop} {N : Nat} {W0 : World} {A : Nat → Prop} {hG : ∀ w, Below W0.heap.size W0 w → G w} {fn : Func} {rest : Code} {t : Tmp} {m : Cm} {D : Nat} {W : World} (hres : fn.results = #[.tmp t]) (ht : t < N) (hcl : zcf m = true) (hs : SimT (Cx.of N W0 A G hG) S τ a W) (hDW : W0.heap.size ≤ D) (hK : W.heap[D]? = some (.deferred (some [])))
 (h : ∀ (hk : Kept (Cx.of N W0 A G hG).K (Cx.of N W0 A G hG).W0 W) (hD : D < W.heap.size), Aw P (cxD (Cx.of N W0 A G hG) W D hk hD) rest (fun e S' => (e = .normal ∨ e = .ret) ∧ ∃ m', S'.tm t = .m m' ∧ zll S'.hp m' = m) S) :
 rest.wp P (bodyPostM Fence.wide 5 P fn (zri W0 A (.m m))) { a with defers := { target := .collected D, args := #[] } :: a.defers } W := by
 have hlt : D < W.heap.size := (Array.getElem?_eq_some_iff.1 hK).1; have s1 := zrh hs rfl ⟨_, hK, rfl⟩ hlt; refine wp_mono (zuw rfl (h hs.bel hlt) ⟨_, s1⟩) ?_; intro e a' w' ⟨S', ⟨he, m', hm1, hm2⟩, τ', s⟩; have hK' : w'.heap[D]? = some (.deferred (some [])) := (s.bel.block D (.inr rfl)).trans hK; have key : LeavesInM Fence.wide 5 P fn a'.tmps (zri W0 A (.m m)) a'.defers .returning w' := by
  rw [s.nodef]; refine ⟨by simp, .inl ⟨_, _, rfl, run_takeDeferred hK', ?_⟩⟩; refine ⟨_, results_tmp hres _ _ _, _, rfl, ?_, ?_⟩
  · have b1 : Below W0.heap.size W0 W := hs.bel.below fun _ h => h; have b2 : Below W0.heap.size W w' := s.bel.below fun _ h => .inl h; exact (b1.trans b2).trans ((Below.refl _ _).grown (grownBy_putObj' w' D (.deferred none)) (Nat.le_trans b1.size b2.size) (fun k e => by cases e; exact hDW))
  · have hR := s.tm t ht; rw [hm1] at hR; have hR2 := zv2 s m' _ hR; rw [hm2] at hR2; have hR3 := zfx (E := ⟨_, _, τ', w'⟩) (F := en0 (fun g => A g ∨ W0.heap.size ≤ g) w') rfl (fun g _ hg => hg) _ _ hcl hR2; exact zxd (E := en0 (fun g => A g ∨ W0.heap.size ≤ g) w') (F := en0 (fun g => A g ∨ W0.heap.size ≤ g) (w'.putObj D (.deferred none))) ⟨fun _ h => h.elim, fun _ _ h => h, (grownBy_putObj' w' D _).size, fun g o v _ _ hv => zs2 hv hK' rfl⟩ _ _ hR3
 rcases he with rfl | rfl
 · exact key
 · exact key
theorem zf6 {G : World → Prop} {k : FuncId} {fn : Func} {c : Code} {args : List Cm} {m : Cm} (N : Nat) (hf : P.funcs[k]? = some fn) (hb : fn.body = some c) (hcl : (zcf m && args.all zcf) = true) (hN : args.length + (fn.ntmps - args.length) = N)
 (h : ∀ (W : World) (A : Nat → Prop) (hG : ∀ w, Below W.heap.size W w → G w), Aw2 P (Cx.of N W A G hG) c (bodyPostM Fence.wide 5 P fn (zri W A (.m m))) (zow args)) (hGb : ∀ w w', G w → Below w.heap.size w w' → G w') : zbr P G k args (.m m) := by
 simp only [Bool.and_eq_true] at hcl; refine ⟨hcl.1, hcl.2, fun A W vs hG hR => ?_⟩; have hlen := All2.length _ _ hR; simp only [Array.length_toList] at hlen; exact callsIn_wide.1 (callsIn_of_wp_marks (F := Fence.wide) (n := 5) hf hb trivial (wpIn_wide.2 (h W A (fun w hb => hGb W w hG hb) _ W (zox hN hcl.2 hlen hR))) rfl)
end
end Ax
namespace Ax
open Go.RowKit MemL RegR MemC MemC3 PutC LaA IterE PteSpec OkS Go
section
variable {X : Cx} {S : St} {ops : Array Oper} {o : Oper}
set_option maxHeartbeats 1000000 in
theorem zlq (sz f : Int) (v : Value) (W : World) : Calls Tryz.prog 112 #[.agg #[.int .u64 sz, v], .int .u64 f] W fun e w' => e = .returned (.func (.func 166) #[] #[.pointer (some ⟨W.heap.size, 0, none⟩), .pointer (some ⟨W.heap.size + 1, 0, none⟩)]) ∧ w' = (W.alloc (.cells #[.int .u64 sz, v] 30)).alloc (.cells #[.int .u64 f] 25) := by
 go_enter Tryz.func112, Tryz.ntmps112
 go_wp2
 go_ret
 exact ⟨rfl, rfl⟩
theorem zff {sz f : Int} {l : List (Int × Int)} {n1 n2 : Nat} {xs : Array Operand} {ts : Array TypeId} (ho : o.op = .call { callee := .value (.func 112), args := xs, argTypes := ts }) (hw : zam ops S o = true) (hl : zj4 S xs.toList = some [zbm sz l, iu f]) (h1 : S.hp n1 = .fresh) (h2 : S.hp n2 = .fresh) (hne : Nat.beq n2 n1 = false) :
 za9 Tryz.prog ops X o S ⟨.m (.c (.cl 166 [n1, n2])), [(n2, .live (.box [cu f])), (n1, .live (.box [cu sz, .s l.length 2 (fl l)]))], []⟩ := fun S2 a w k1 k2 k3 ⟨τ, hS⟩ => by
 refine .inl ⟨zbv hw k1 k3 hS, ?_⟩; rw [zhm ho (by kernel_rfl)]
 have hR := zfy (S := S) (E := env X S2.hp τ w) (a := a) xs.toList _ hl (fun x hx => by
  have hm : x ∈ o.op.operands := by rw [ho]; simp [Op.operands, Call.operands]; exact .inr (by simpa using hx)
  rw [← zca k1 hm]; exact hS.ev x (fun t e => k3 t (.inl (zbu (e ▸ hm)))))
 obtain ⟨vm, vf, hv, r1, r2⟩ := zwx (vs := (xs.toList.map a.eval).toArray) (by simpa using hR); have hv : xs.map a.eval = #[vm, vf] := by rw [← hv, ← Array.toList_inj, Array.toList_map]
 obtain ⟨u, rfl, hu⟩ := zg6 r1; obtain rfl : vf = .int .u64 f := r2; rw [hv]; refine (zlq sz f u w).mono ?_; rintro e w' ⟨rfl, rfl⟩; have f1 : S2.hp n1 = .fresh := Eq.trans (k2 (.all n1) (by simp [Ef.foot, zfv])) h1; have f2 : S2.hp n2 = .fresh := Eq.trans (k2 (.all n2) (by simp [Ef.foot, zfv])) h2; have hn : n2 ≠ n1 := fun e => by rw [e, Nat.beq_refl] at hne; cases hne
 have s1 := hS.newb (k := .box [cu sz, .s l.length 2 (fl l)]) (b := n1) (d := none) (r := .m (.c .any)) (u := undef) (rd := []) f1 ((Below.refl _ _).alloc (Nat.le_refl _) (.cells #[.int .u64 sz, u] 30)) (v := .pointer (some ⟨w.heap.size, 0, none⟩)) (g := w.heap.size) rfl ⟨Nat.le_refl _, by rw [World.size_alloc]; omega⟩ rfl
  (fun E hE hw' => ⟨w.heap.size, #[.int .u64 sz, u], rfl, by rw [hw']; exact Bx.new, rfl, zcj hE _ _ hu, trivial⟩) trivial
 have f2' : (S2.app none ⟨.m (.c .any), [(n1, .live (.box [cu sz, .s l.length 2 (fl l)]))], []⟩).hp n2 = .fresh := by
  show upd _ _ n2 = _; rw [zdk, if_neg hn]; exact f2
 have hz : (w.alloc (.cells #[.int .u64 sz, u] 30)).heap.size = w.heap.size + 1 := World.size_alloc ..; have s2 := s1.newb (k := .box [cu f]) (b := n2) (d := o.dst) (r := .m (.c (.cl 166 [n1, n2]))) (u := .func (.func 166) #[] #[.pointer (some ⟨w.heap.size, 0, none⟩), .pointer (some ⟨w.heap.size + 1, 0, none⟩)]) (rd := []) f2' ((Below.refl _ _).alloc (Nat.le_refl _) (.cells #[.int .u64 f] 25)) (v := .pointer (some ⟨w.heap.size + 1, 0, none⟩)) (g := w.heap.size + 1) rfl ⟨by rw [hz]; exact Nat.le_refl _, by rw [World.size_alloc, hz]; omega⟩ rfl
  (fun E hE hw' => ⟨w.heap.size + 1, #[.int .u64 f], rfl, by rw [hw', ← hz]; exact Bx.new, rfl, trivial⟩) (by
   refine ⟨?_, fun b hb => ?_⟩
   · show _ = Value.func _ #[] ([n1, n2].map (zcy (zcy τ n1 _) n2 _)).toArray; have e1 : zcy (zcy τ n1 (.pointer (some ⟨w.heap.size, 0, none⟩))) n2 (.pointer (some ⟨w.heap.size + 1, 0, none⟩)) n1 = .pointer (some ⟨w.heap.size, 0, none⟩) := by
      unfold zcy; rw [if_neg (Ne.symm hn), if_pos rfl]
     have e2 : zcy (zcy τ n1 (.pointer (some ⟨w.heap.size, 0, none⟩))) n2 (.pointer (some ⟨w.heap.size + 1, 0, none⟩)) n2 = .pointer (some ⟨w.heap.size + 1, 0, none⟩) := by
      unfold zcy; rw [if_pos rfl]
     simp only [List.map_cons, List.map_nil, e1, e2]
   · show upd _ _ b ≠ .fresh; rw [zdk]
     split
     · intro e; cases e
     · rename_i hb2; have : b = n1 := by
        rcases List.mem_cons.1 hb with rfl | hb
        · rfl
        · rcases List.mem_cons.1 hb with rfl | hb
          · exact absurd rfl hb2
          · cases hb
       subst this; show upd _ _ b ≠ .fresh
       rw [zdk, if_pos rfl]; intro e; cases e)
 exact ⟨_, rfl, _, s2⟩
end
section
variable {X : Cx} {S : St}
def St.nb (S : St) (c b : Nat) (r : Bk) : St := ⟨S.tm, fun i => cond (Nat.beq i b) (.live r) (cond (Nat.beq i c) (.live (.box [.o b])) (S.hp i))⟩
theorem z0f (c b e k : Nat) (hc : S.hp c = .live (.box [.v (.slice none 0 0)])) (hf : S.hp b = .fresh) : Sub X S (S.nb c b (.row e k 0 [])) := fun a w ⟨τ, h⟩ => by
 have hcb : c ≠ b := fun e => by rw [e, hf] at hc; cases hc
 have hb1 : (S.nb c b (.row e k 0 [])).hp b = .live (.row e k 0 []) := by
  show cond (Nat.beq b b) _ _ = _; rw [Nat.beq_refl]; rfl
 have hbc : (S.nb c b (.row e k 0 [])).hp c = .live (.box [.o b]) := by
  show cond (Nat.beq c b) _ (cond (Nat.beq c c) _ _) = _; rw [zbe hcb, Nat.beq_refl]; rfl
 have hb2 : ∀ i, i ≠ b → i ≠ c → (S.nb c b (.row e k 0 [])).hp i = S.hp i := fun i h1 h2 => by
  show cond (Nat.beq i b) _ (cond (Nat.beq i c) _ _) = _; rw [zbe h1, zbe h2]; rfl
 have hal : ∀ i, zck (S.nb c b (.row e k 0 [])).hp i → i = b ∨ (i ≠ b ∧ zck S.hp i) := fun i ⟨q, hq⟩ => by
  by_cases e1 : i = b
  · exact .inl e1
  · by_cases e2 : i = c
    · subst e2; exact .inr ⟨e1, _, hc⟩
    · rw [hb2 i e1 e2] at hq; exact .inr ⟨e1, q, hq⟩
 have t1 : zcy τ b (.slice none 0 0) b = .slice none 0 0 := by unfold zcy; rw [if_pos rfl]
 have t2 : ∀ i, i ≠ b → zcy τ b (.slice none 0 0) i = τ i := fun i hi => by unfold zcy; rw [if_neg hi]
 have hle : (env X S.hp τ w).le (env X (S.nb c b (.row e k 0 [])).hp (zcy τ b (.slice none 0 0)) w) := by
  refine ⟨fun i hi => ?_, fun g _ ha => ⟨ha.1, fun i hi => ?_⟩, Nat.le_refl _, fun _ _ _ _ => rfl⟩
  · have hi : S.hp i ≠ .fresh := hi; have e1 : i ≠ b := fun e => hi (e ▸ hf); refine ⟨?_, t2 i e1⟩; show (S.nb c b (.row e k 0 [])).hp i ≠ .fresh; by_cases e2 : i = c
    · subst e2; rw [hbc]; intro e; cases e
    · rw [hb2 i e1 e2]; exact hi
  · show occ (zcy τ b (.slice none 0 0) i) ≠ some g; rcases hal i hi with rfl | ⟨e1, hi⟩
    · rw [t1]; intro e; cases e
    · rw [t2 i e1]; exact ha.2 i hi
 refine ⟨zcy τ b (.slice none 0 0), h.size, h.nodef, h.bel, fun t ht => zvk hle _ _ (h.tm t ht), fun i q hq => ?_, fun i g hi ho => ?_, fun i j g hij hi hj ho => ?_, fun i => ?_, fun p hp => ⟨(hle.U _ (h.pin p hp).1).1, (hle.U _ (h.pin p hp).1).2.trans (h.pin p hp).2⟩⟩
 · by_cases e1 : i = b
   · subst e1; rw [hb1] at hq; cases hq
     rw [t1]; exact World.ownsRow_nil w X.base e k
   · rw [t2 i e1]; by_cases e2 : i = c
     · subst e2; rw [hbc] at hq; cases hq
       obtain ⟨g, vs, x1, x2, x3⟩ := h.hp i _ hc; refine ⟨g, vs, x1, x2, ?_⟩; obtain ⟨vs⟩ := vs
       match vs, x3 with
       | [v], x3 =>
        refine ⟨⟨?_, ?_⟩, trivial⟩
        · show (S.nb i b (.row e k 0 [])).hp b ≠ .fresh; rw [hb1]; intro e; cases e
        · show v = zcy τ b (.slice none 0 0) b; rw [t1]; exact x3.1
       | [], x3 => exact x3.elim
       | _ :: _ :: _, x3 => exact x3.2.elim
     · rw [hb2 i e1 e2] at hq; have hk := h.hp i q hq; cases q with
       | box cs =>
        obtain ⟨g, vs, x1, x2, x3⟩ := hk; exact ⟨g, vs, x1, x2, All2.mono (zcj hle) _ _ x3⟩
       | row _ _ _ _ => exact hk
 · rcases hal i hi with rfl | ⟨e1, hi⟩
   · rw [t1] at ho; cases ho
   · rw [t2 i e1] at ho; exact h.own i g hi ho
 · rcases hal i hi with e0 | ⟨e1, hi'⟩
   · rw [e0, t1] at ho; cases ho
   · rw [t2 i e1] at ho; rcases hal j hj with f0 | ⟨f1, hj'⟩
     · rw [f0, t1]; intro e; cases e
     · rw [t2 j f1]; exact h.sep i j g hij hi' hj' ho
 · by_cases e1 : i = b
   · subst e1; rw [t1]; rfl
   · rw [t2 i e1]; exact h.one i
theorem z0g {w : World} {base base' e k n e' n' : Nat} {v : Value} {xs xs' : List Value} (h : w.ownsRow base e k v n xs) (h' : w.ownsRow base' e' k v n' xs') : n = n' ∧ xs = xs' := by
 obtain ⟨l, h⟩ := h; obtain ⟨l', h'⟩ := h'; rcases h with ⟨e1, e2⟩ | ⟨g, cap, cur, e1, e2, e3, e4, e5, e6, e7⟩
 · rcases h' with ⟨f1, f2⟩ | ⟨g', cap', cur', f1, _⟩
   · subst e2; subst f2; rw [Nat.zero_mul] at l l'; rw [List.eq_nil_of_length_eq_zero l, List.eq_nil_of_length_eq_zero l']; exact ⟨rfl, rfl⟩
   · rw [e1] at f1; cases f1
 · rcases h' with ⟨f1, f2⟩ | ⟨g', cap', cur', f1, f2, f3, f4, f5, f6, f7⟩
   · rw [e1] at f1; cases f1
   · rw [e1] at f1; cases f1
     rw [e3] at f3; cases f3
     exact ⟨rfl, by rw [← e7, ← f7]⟩
theorem zxg {X : Cx} {τ0 τ τ' : Nat → Value} {ns : List Nat} {S S' : St} {a a' : Act} {W : World} {c b e k n e' n' : Nat} {xs xs' : List Value} (h : SimT (cxP X τ0 ns) S τ a W) (h' : SimT (cxP X τ0 ns) S' τ' a' W) (hc : c ∈ ns) (h1 : S.hp c = .live (.box [.o b])) (h1' : S'.hp c = .live (.box [.o b])) (h2 : S.hp b = .live (.row e k n xs)) (h2' : S'.hp b = .live (.row e' k n' xs')) : n = n' ∧ xs = xs' := by
 have p := (h.pin (c, τ0 c) (List.mem_map.2 ⟨c, hc, rfl⟩)).2; have p' := (h'.pin (c, τ0 c) (List.mem_map.2 ⟨c, hc, rfl⟩)).2; have p : τ c = τ' c := p.trans p'.symm; obtain ⟨g, vs, q1, ⟨T, q2⟩, q3⟩ := h.hp c _ h1; obtain ⟨g', vs', r1, ⟨T', r2⟩, r3⟩ := h'.hp c _ h1'; rw [p, r1] at q1; cases q1
 have q2 : W.heap[g]? = some (Obj.cells vs T (0, 0)) := q2; have r2 : W.heap[g]? = some (Obj.cells vs' T' (0, 0)) := r2; rw [q2] at r2; cases r2
 obtain ⟨vs⟩ := vs
 match vs, q3, r3 with
 | [v], q3, r3 =>
  have e1 : v = τ b := q3.1.2; have e2 : v = τ' b := r3.1.2; have o1 : W.ownsRow X.base e k (τ b) n xs := h.hp b _ h2; have o2 : W.ownsRow X.base e' k (τ' b) n' xs' := h'.hp b _ h2'; rw [← e1] at o1; rw [← e2] at o2; exact z0g o1 o2
 | [], q3, _ => exact q3.elim
 | _ :: _ :: _, q3, _ => exact q3.2.elim
end
end Ax
namespace LaC
open Go.RowKit Bv VaSpec Base MemL RegR Ax MemC PutC MemC3 OkS SpA SpB LaA IterE
open PteSpec
structure Pg where
 va : Int
 pa : Int
 lev : Int
 r : Bool
 w : Bool
 x : Bool
 u : Bool
 d : Bool
deriving DecidableEq
def Pg.vs (p : Pg) : List Value := [.int .u64 p.va, .int .u64 p.pa, .int .i64 p.lev, .bool p.r, .bool p.w, .bool p.x, .bool p.u, .bool p.d]
def flP (l : List Pg) : List Value := l.flatMap Pg.vs
theorem zrj (a b : List Pg) : flP (a ++ b) = flP a ++ flP b := List.flatMap_append ..
theorem znf (p : Pg) : flP [p] = p.vs := by simp [flP]
theorem zf7 (l : Int) (h0 : 0 ≤ l) (h2 : l ≤ 2) : Ok 51 [ii l] (.m (iu (VaSpec.sz l))) :=
 zbb #[.int .i64 l] (.int .u64 (VaSpec.sz l)) fun W g => (VaC.zl4 l W h0 h2 g.s).mono fun _ _ ⟨e, q⟩ => ⟨e, q.below⟩
theorem zgj (p : Pte) : Ok 114 [.ag p.ce] (.m (ib (zas p))) :=
 zbb #[.agg #[.bool p.v, .bool p.r, .bool p.w, .bool p.x, .bool p.u, .bool p.g, .bool p.a, .bool p.d, .int .u64 p.rsw, .int .u64 p.ppn, .int .u64 p.high]] (.bool (zas p))
  fun W _ => PteC.zup p.v p.r p.w p.x p.u p.g p.a p.d p.rsw p.ppn p.high W
theorem zng (p : Pte) : Ok 116 [.ag p.ce] (.m (.ag [cb p.r, cb p.w, cb p.x, cb p.u])) :=
 zbb #[.agg #[.bool p.v, .bool p.r, .bool p.w, .bool p.x, .bool p.u, .bool p.g, .bool p.a, .bool p.d, .int .u64 p.rsw, .int .u64 p.ppn, .int .u64 p.high]] (.agg #[.bool p.r, .bool p.w, .bool p.x, .bool p.u])
  fun W _ => PteC.zuq p.v p.r p.w p.x p.u p.g p.a p.d p.rsw p.ppn p.high W
theorem zxh (l : Int) (h0 : 0 ≤ l) (h2 : l ≤ 2) : 0 ≤ VaSpec.sz l ∧ VaSpec.sz l ≤ 1073741824 := by
 rcases VaSpec.lev h0 h2 with rfl | rfl | rfl <;> decide
def adr (b i l : Int) : Int := IntKind.u64.wrap (b + IntKind.u64.wrap (i * VaSpec.sz l))
def zxi (p : Pte) (a l : Int) : Pg := ⟨ofv (num a), p.ppn * 4096, l, p.r, p.w, p.x, p.u, p.d⟩
def ze6 (rec : Int → Int → List Pg) (p : Pte) (l a : Int) : List Pg := if zco p l then [] else if zas p then [zxi p a l] else rec p.ppn a
def za7 (sz : Int) (xs : List (Int × Int)) : Nat → Int → Int → List Pg
 | 0, top, b => (List.range 512).flatMap fun (i : Nat) => ze6 (fun _ _ => []) (atM sz xs top i) 0 (adr b i 0)
 | l + 1, top, b => (List.range 512).flatMap fun (i : Nat) => ze6 (za7 sz xs l) (atM sz xs top i) (l + 1 : Nat) (adr b i (l + 1 : Nat))
theorem z6o (p : Pg) : (p.vs).all (·.oneCell') = true := rfl
theorem zrk : ∀ l : List Pg, (flP l).all (·.oneCell') = true
 | [] => rfl
 | p :: l => by rw [show flP (p :: l) = p.vs ++ flP l from rfl, List.all_append, z6o, zrk l]; rfl
theorem zpj {p : Pte} (h : zco p 0 = false) : zas p = true := by
 obtain ⟨v, r, w, x, u, g, a, d, rsw, ppn, high⟩ := p; revert h; unfold zco zas zbf; cases v <;> cases r <;> cases x <;> simp
theorem z3q (b i l : Int) : U (adr b i l) := by
 have := IntKind.wrap_u64 (b + IntKind.u64.wrap (i * VaSpec.sz l)); unfold adr; rw [this]; exact ⟨by omega, by omega⟩
theorem z0h (l : Int) : zco (zay 0) l = true := by
 unfold zco; rw [show (zay 0).v = false by decide]
 rfl
theorem zrl {sz : Int} {xs : List (Int × Int)} {f : Int} (E : Nat → List Pg) (h : ∀ i, nzB sz xs f i = false → E i = []) : ∀ l : List Nat, (l.filter (nzB sz xs f)).flatMap E = l.flatMap E
 | [] => rfl
 | i :: l => by
  cases e : nzB sz xs f i with
  | true => rw [List.filter_cons, e]; simp only [if_true, List.flatMap_cons]; rw [zrl E h l]
  | false => rw [List.filter_cons, e]; simp only [Bool.false_eq_true, if_false]; rw [List.flatMap_cons, h i e, zrl E h l]; rfl
theorem zrm {α : Type} (E : α → List Pg) : ∀ (ys : List α) (acc : Nat × List Value), ys.foldl (fun p x => (p.1 + (E x).length, p.2 ++ flP (E x))) acc = (acc.1 + (ys.flatMap E).length, acc.2 ++ flP (ys.flatMap E))
 | [], acc => by simp [flP]
 | y :: ys, acc => by
  rw [List.foldl_cons, zrm E ys, List.flatMap_cons, List.length_append, zrj]; simp only [Nat.add_assoc, List.append_assoc]
theorem znh {α : Type} (E : α → List Pg) (M : Nat) (h : ∀ x, (E x).length ≤ M) : ∀ ys : List α, (ys.flatMap E).length ≤ ys.length * M
 | [] => by simp
 | y :: ys => by
  rw [List.flatMap_cons, List.length_append, List.length_cons, Nat.succ_mul]; have := h y; have := znh E M h ys; omega
theorem zxj {rec : Int → Int → List Pg} (hrec : ∀ t a, (rec t a).length ≤ 262144) (p : Pte) (l a : Int) : (ze6 rec p l a).length ≤ 262144 := by
 unfold ze6
 split
 · simp
 · split
   · simp
   · exact hrec _ _
theorem z6p {a : Int} (h : U a) : U (num a) := by
 obtain ⟨h0, h1⟩ := h; unfold num; exact ⟨by omega, by omega⟩
def ts0 : List (Nat × Nat) := [(4, 4), (6, 6), (7, 7), (9, 9)]
def ns0 : List Nat := [4, 6, 7, 9, 1001, 1002]
def bs0 (sz : Int) (xs : List (Int × Int)) (top base lv : Int) (p : Nat × List Value) : List (Nat × Hs) := [(4, .live (.box [cu sz, .s xs.length 2 (fl xs)])), (6, .live (.box [ci lv])), (7, .live (.box [cu base])), (9, .live (.box [.o 1000])), (1000, .live (.row 60 8 p.1 p.2)), (1001, .live (.box [cu sz, .s xs.length 2 (fl xs)])), (1002, .live (.box [cu top]))]
theorem zkm (sz : Int) (xs : List (Int × Int)) (top base lv : Int) (rec : Int → Int → List Pg) (ht : 0 ≤ top ∧ top < 17592186044416) (hb : U base) (h0 : 0 ≤ lv) (h2 : lv ≤ 2) (hs : Srt xs) (hu : Uw xs) (hrec : ∀ t a, (rec t a).length ≤ 262144)
 (hIH : 1 ≤ lv → ∀ t a, (0 ≤ t ∧ t < 17592186044416) → U a → Ok 48 [zbm sz xs, iu t, ii (lv - 1), iu a] (.m (.c (.s (rec t a).length 8 (flP (rec t a))))))
 (L : List Pg) (hL : L = (List.range 512).flatMap fun (i : Nat) => ze6 rec (atM sz xs top i) lv (adr base i lv)) :
 Ok 48 [zbm sz xs, iu top, ii lv, iu base] (.m (.c (.s L.length 8 (flP L)))) := by
 have hz := zxh lv h0 h2; refine zf6 57 Tryz.func48 rfl rfl rfl ?_ GG.to; intro W A hG; refine zcz (fun K hK => ?_)
 repeat (first | (refine zai rfl ?_; first | refine zaj ?_) | (refine hK _ ?_; clear hK K) | refine zac rfl ?_)
 refine zcz (fun K hK => ?_)
 repeat (first | (refine zai rfl ?_; first | refine zaj ?_) | (refine hK _ ?_; clear hK K) | refine zac rfl ?_)
 refine zxf ?_; refine zcz (fun K hK => ?_)
 repeat (first | (refine zai rfl ?_; first | refine zaj ?_ | refine gdr (zff (n1 := 1001) (n2 := 1002) rfl rfl rfl rfl rfl rfl) ?_) | (refine hK _ ?_; clear hK K) | refine zac rfl ?_)
 refine zkk ?_
 refine zkl (zaw [(4, .m (.c (.p 4 0))), (6, .m (.c (.p 6 0))), (7, .m (.c (.p 7 0))), (9, .m (.c (.p 9 0))), (15, .m (.c (.cl 166 [1001, 1002])))] [(4, .live (.box [cu sz, .s xs.length 2 (fl xs)])), (6, .live (.box [ci lv])), (7, .live (.box [cu base])), (9, .live (.box [.v (.slice none 0 0)])), (1001, .live (.box [cu sz, .s xs.length 2 (fl xs)])), (1002, .live (.box [cu top]))]
  ⟨rfl, rfl, rfl, rfl, rfl, trivial⟩ ⟨rfl, rfl, rfl, rfl, rfl, rfl, trivial⟩ rfl) ?_
 refine zkl (z0f 9 1000 60 8 rfl rfl) ?_; intro a w ⟨τ0, s⟩
 have s' := zrg (ns := ns0) s (by
  intro b hb; simp only [ns0, List.mem_cons, List.not_mem_nil, or_false] at hb; rcases hb with rfl | rfl | rfl | rfl | rfl | rfl
  all_goals exact ⟨_, rfl⟩)
 refine z2a (β := Nat × List Value) ht hs hu rfl ts0 ns0 1001 1002 (bs0 sz xs top base lv)
  (fun p x => St.of [(4, .m (.c (.p 4 0))), (6, .m (.c (.p 6 0))), (7, .m (.c (.p 7 0))), (9, .m (.c (.p 9 0))), (10, .m (ii (x.1 : Int))), (11, .m (.c (.p 11 0)))] (bs0 sz xs top base lv p ++ [(11, .live (.box (atM sz xs top x.1).ce))]))
  (fun p x => (p.1 + (ze6 rec (atM sz xs top x.1) lv (adr base x.1 lv)).length, p.2 ++ flP (ze6 rec (atM sz xs top x.1) lv (adr base x.1 lv)))) (0, []) s' (show 15 < 57 by decide) rfl
  (by
   intro p hp; simp only [ts0, List.mem_cons, List.not_mem_nil, or_false] at hp; rcases hp with rfl | rfl | rfl | rfl
   all_goals exact ⟨rfl, by simp [ns0], by show _ < 57; decide⟩)
  (by
   intro b hb; simp only [ns0, List.mem_cons, List.not_mem_nil, or_false] at hb; rcases hb with rfl | rfl | rfl | rfl | rfl | rfl
   all_goals exact ⟨_, rfl⟩)
  ⟨rfl, rfl, rfl, rfl, rfl, rfl, rfl, trivial⟩ (by simp [ns0]) (by simp [ns0]) (fun _ => rfl) (fun _ => rfl) (fun _ => rfl) (fun _ _ => ⟨rfl, rfl, rfl, rfl, rfl, rfl, rfl, trivial⟩) (fun _ => ⟨rfl, rfl, rfl, rfl, rfl, rfl, rfl, trivial⟩)
  (by
   intro τ τ' a a' W o o' x h h'; have := zxg (c := 9) (b := 1000) h h' (by simp [ns0]) rfl rfl rfl rfl
   exact Prod.ext this.1 this.2)
  ?_ (fun p => p.1 ≤ 512 * 262144) ?_ ?_ ?_
 · intro W l hk o x
   repeat (first | (refine zai rfl ?_; first | refine zaj ?_) | (refine hK _ ?_; clear hK K) | refine zac rfl ?_ | refine zab (fun K hK => ?_))
   exact zaw _ _ ⟨rfl, rfl, rfl, rfl, rfl, rfl, trivial⟩ ⟨rfl, rfl, rfl, rfl, rfl, rfl, rfl, rfl, trivial⟩ rfl
 · intro pre hpre; rw [zrm (fun x : Ie sz xs top => ze6 rec (atM sz xs top x.1) lv (adr base x.1 lv))]; have := znh (fun x : Ie sz xs top => ze6 rec (atM sz xs top x.1) lv (adr base x.1 lv)) 262144 (fun x => zxj hrec _ _ _) pre; have h3 : pre.length * 262144 ≤ 512 * 262144 := Nat.mul_le_mul_right _ (by omega); show 0 + _ ≤ 512 * 262144; omega
 · intro W' l hk o x ho; have hx := x.2.1; have hU := ze5 hu sz top (x.1 : Int); have hp := zdo (xs := xs) sz top (x.1 : Int); have hA := z3q base x.1 lv; have hN := z6p hA; have ho : o.1 ≤ 512 * 262144 := ho; generalize hq : atM sz xs top (x.1 : Int) = q at hU hp ⊢; have hmv : ∀ (S' : St) (n : Nat) (vs : List Value), EqT S' [] → EqB S' [(4, .live (.box [cu sz, .s xs.length 2 (fl xs)])), (6, .live (.box [ci lv])), (7, .live (.box [cu base])), (9, .live (.box [.o 55])), (55, .live (.row 60 8 n vs)), (1001, .live (.box [cu sz, .s xs.length 2 (fl xs)])), (1002, .live (.box [cu top]))] → Sub (cxR (Cx.of 57 W A GG hG) W' l τ0 ns0 hk) S' (St.of (ptT []) (bs0 sz xs top base lv (n, vs))) := fun S' n vs h1 h2 =>
    Sub.trans (zaw [] _ h1 h2 rfl) (Sub.trans (zd1 (b := 55) (b' := 1000) rfl rfl) (zaw [] _ trivial ⟨rfl, rfl, rfl, rfl, rfl, rfl, rfl, trivial⟩ rfl))
   have hm3 : ∀ (S' : St) (n : Nat) (vs : List Value), EqT S' [] → EqB S' [(4, .live (.box [cu sz, .s xs.length 2 (fl xs)])), (6, .live (.box [ci lv])), (7, .live (.box [cu base])), (9, .live (.box [.o 33])), (33, .live (.row 60 8 n vs)), (1001, .live (.box [cu sz, .s xs.length 2 (fl xs)])), (1002, .live (.box [cu top]))] → Sub (cxR (Cx.of 57 W A GG hG) W' l τ0 ns0 hk) S' (St.of (ptT []) (bs0 sz xs top base lv (n, vs))) := fun S' n vs h1 h2 =>
    Sub.trans (zaw [] _ h1 h2 rfl) (Sub.trans (zd1 (b := 33) (b' := 1000) rfl rfl) (zaw [] _ trivial ⟨rfl, rfl, rfl, rfl, rfl, rfl, rfl, trivial⟩ rfl))
   cases hbad : zco q lv with
   | true =>
    have hE : ze6 rec q lv (adr base x.1 lv) = [] := by unfold ze6; rw [hbad]; rfl
    rw [hE]
    repeat (first | (refine zai rfl ?_; first | refine zaj ?_ | refine gdr (zaa rfl rfl rfl (zf7 lv h0 h2) rfl) ?_ | refine gdr (zaa rfl rfl rfl (hbad ▸ zig q hU lv h0 h2) rfl) ?_) | (refine hK _ ?_; clear hK K) | refine zac rfl ?_ | refine zaq (by kernel_rfl) (by kernel_rfl) rfl ?_ | refine zaf rfl rfl ?_ | refine zag ?_ | refine zak ?_ | refine zab (fun K hK => ?_))
    rw [show flP [] = [] from rfl, List.append_nil]; exact zaw _ _ trivial ⟨rfl, rfl, rfl, rfl, rfl, rfl, rfl, trivial⟩ rfl
   | false =>
    cases hleaf : zas q with
    | true =>
     have hE : ze6 rec q lv (adr base x.1 lv) = [zxi q (adr base x.1 lv) lv] := by unfold ze6; rw [hbad, hleaf]; rfl
     rw [hE, znf]
     repeat (first | (refine zai rfl ?_; first | refine zaj ?_ | refine gdr (zaa rfl rfl rfl (zf7 lv h0 h2) rfl) ?_ | refine gdr (zaa rfl rfl rfl (hbad ▸ zig q hU lv h0 h2) rfl) ?_ | refine gdr (zaa rfl rfl rfl (hleaf ▸ zgj q) rfl) ?_ | refine gdr (zaa rfl rfl rfl (z3i _ hA) rfl) ?_ | refine gdr (zaa rfl rfl rfl (z3h _ hN) rfl) ?_ | refine gdr (zaa rfl rfl rfl (zng q) rfl) ?_) | (refine hK _ ?_; clear hK K) | refine zac rfl ?_ | refine zaq (by kernel_rfl) (by kernel_rfl) rfl ?_ | refine zaf rfl rfl ?_ | refine zae rfl rfl ?_ | refine zag ?_ | refine zab (fun K hK => ?_))
     refine zai rfl ?_; refine zi1 (zbg rfl rfl rfl rfl rfl rfl rfl rfl rfl rfl rfl rfl rfl (by omega)) (by kernel_rfl) ?_
     repeat (first | (refine zai rfl ?_; first | refine zaj ?_))
     exact hmv _ _ _ trivial ⟨rfl, rfl, rfl, rfl, rfl, rfl, rfl, trivial⟩
    | false =>
     have hlv : 1 ≤ lv := by
      rcases (by omega : lv = 0 ∨ 1 ≤ lv) with rfl | h
      · rw [zpj hbad] at hleaf; cases hleaf
      · exact h
     have hE : ze6 rec q lv (adr base x.1 lv) = rec q.ppn (adr base x.1 lv) := by unfold ze6; rw [hbad, hleaf]; rfl
     rw [hE]; have hi := hIH hlv q.ppn (adr base x.1 lv) hp hA; have hl := hrec q.ppn (adr base x.1 lv); have ha := zrk (rec q.ppn (adr base x.1 lv))
     repeat (first | (refine zai rfl ?_; first | refine zaj ?_ | refine gdr (zaa rfl rfl rfl (zf7 lv h0 h2) rfl) ?_ | refine gdr (zaa rfl rfl rfl (hbad ▸ zig q hU lv h0 h2) rfl) ?_ | refine gdr (zaa rfl rfl rfl (hleaf ▸ zgj q) rfl) ?_ | refine gdr (zaa rfl rfl rfl (hi) rfl) ?_ | refine gdr (zbg rfl rfl rfl rfl rfl rfl rfl rfl rfl rfl rfl rfl ha (by omega)) ?_) | (refine hK _ ?_; clear hK K) | refine zac rfl ?_ | refine zaq (by kernel_rfl) (by kernel_rfl) rfl ?_ | refine zae rfl rfl ?_ | refine zag ?_ | refine zab (fun K hK => ?_))
     exact hm3 _ _ _ trivial ⟨rfl, rfl, rfl, rfl, rfl, rfl, rfl, trivial⟩
 · intro D ys W hD hys hI hK; have hfold : ys.foldl (fun (p : Nat × List Value) (x : Ie sz xs top) => (p.1 + (ze6 rec (atM sz xs top x.1) lv (adr base x.1 lv)).length, p.2 ++ flP (ze6 rec (atM sz xs top x.1) lv (adr base x.1 lv)))) (0, []) = (L.length, flP L) := by
    rw [zrm (fun x : Ie sz xs top => ze6 rec (atM sz xs top x.1) lv (adr base x.1 lv))]; have e : ys.flatMap (fun x : Ie sz xs top => ze6 rec (atM sz xs top x.1) lv (adr base x.1 lv)) = L := by
     rw [hL, ← zrl (sz := sz) (xs := xs) (f := top) _ (fun i hi => ?_), ← hys, List.flatMap_map]; have : zbs sz xs (top * 4096 + (i : Int) * 8) = 0 := by unfold nzB at hi; simpa using hi
     unfold ze6 atM; rw [this, z0h, if_pos rfl]
    rw [e, Nat.zero_add, List.nil_append]
   rw [hfold] at hI; obtain ⟨τ1, s1⟩ := hI; have s2 : SimT (Cx.of 57 _ A GG hG) (St.of (ptT ts0) (bs0 sz xs top base lv (L.length, flP L))) τ1 a W := ⟨s1.size, s1.nodef, s1.bel, s1.tm, s1.hp, s1.own, s1.sep, s1.one, fun p hp => by cases hp⟩; refine zma (t := 8) rfl (by decide) rfl s2 (Nat.le_trans s.bel.size hD) hK (fun hk hD => ?_)
   repeat (first | (refine zai rfl ?_; first | refine zaj ?_) | (refine hK _ ?_; clear hK K) | refine zac rfl ?_ | refine zab (fun K hK => ?_))
   exact zah ⟨.inr rfl, _, rfl, rfl⟩
end LaC
namespace LaB
open Go.RowKit Bv VaSpec Base MemL RegR Ax MemC PutC MemC3 OkS SpA SpB LaA
open BitsC PteSpec
theorem zii (b : Bool) (e : Int) : Ok 54 [ib b, ii e] (.m (ii (if b then 0 else e))) := by
 cases b with
 | true =>
  refine zad 7 Tryz.func54 rfl rfl rfl rfl ?_ GG.to; intro W A hG
  repeat (first | (refine zai rfl ?_; first | refine zaj ?_) | (refine hK _ ?_; clear hK K) | refine zac rfl ?_ | exact zah (show zat _ _ _ = some _ by kernel_rfl) | refine zaf rfl rfl ?_ | refine zab (fun K hK => ?_))
 | false =>
  refine zad 7 Tryz.func54 rfl rfl rfl rfl ?_ GG.to; intro W A hG
  repeat (first | (refine zai rfl ?_; first | refine zaj ?_) | (refine hK _ ?_; clear hK K) | refine zac rfl ?_ | exact zah (show zat _ _ _ = some _ by kernel_rfl) | refine zae rfl rfl ?_ | refine zak ?_ | refine zab (fun K hK => ?_))
structure Pm where
 r : Bool
 w : Bool
 x : Bool
 u : Bool
deriving DecidableEq
def Pm.ce (p : Pm) : List Ce := [cb p.r, cb p.w, cb p.x, cb p.u]
def zcb (p : Pm) : Bool := (p.r || p.x) && (p.r || !p.w)
theorem zxk (p : Pm) : Ok 59 [.ag p.ce] (.m (ib (zcb p))) := by
 obtain ⟨r, w, x, u⟩ := p; cases r <;> cases w <;> cases x
 all_goals
  refine zad 18 Tryz.func59 rfl rfl rfl rfl ?_ GG.to; intro W A hG
  repeat (first | (refine zai rfl ?_; first | refine zaj ?_) | (refine hK _ ?_; clear hK K) | refine zac rfl ?_ | exact zah (show zat _ _ _ = some _ by kernel_rfl) | refine zab (fun K hK => ?_))
def mkP (n : Int) (p : Pm) (g : Bool) : Pte := ⟨true, p.r, p.w, p.x, p.u, g, false, false, 0, n, 0⟩
theorem zs3 (n : Int) (p : Pm) (g : Bool) : Ok 61 [iu n, .ag p.ce, ib g] (.m (.ag (mkP n p g).ce)) := by
 refine zad 18 Tryz.func61 rfl rfl rfl rfl ?_ GG.to; intro W A hG
 repeat (first | (refine zai rfl ?_; first | refine zaj ?_) | (refine hK _ ?_; clear hK K) | refine zac rfl ?_ | exact zah (show zat _ _ _ = some _ by kernel_rfl) | refine zab (fun K hK => ?_))
def spB (n : Nat) (cs : List Ce) : Ln := (n, cs, cs)
theorem z3r (pa sz : Int) (hp : U pa) (hz : U sz) : zby Tryz.prog GG 55 [spB 2000 [cu pa], spB 2001 [cu sz]] [.c (.p 2000 0), .c (.p 2001 0)] (.m (ii (if zfu pa sz then 0 else 2))) := by
 refine zb1 7 Tryz.func55 rfl rfl rfl rfl rfl ?_; intro W A τ hG
 repeat (first | (refine zai rfl ?_; first | refine zaj ?_ | refine gdr (zaa rfl rfl rfl (z3g pa sz hp hz) rfl) ?_ | refine gdr (zaa rfl rfl rfl (zii _ _) rfl) ?_) | (refine hK _ ?_; clear hK K) | refine zac rfl ?_ | refine zab (fun K hK => ?_) | refine zah (show zat _ _ _ = some _ ∧ EndB _ _ from ⟨by kernel_rfl, ?_⟩))
 exact ⟨⟨_, rfl, rfl⟩, ⟨_, rfl, rfl⟩, trivial⟩
def inD (pa d sz : Int) : Bool := decide (pa < d) && decide (sz ≤ d - pa)
theorem z3s (pa d sz : Int) (hp : U pa) (hd : U d) (hz : U sz) : zby Tryz.prog GG 57 [spB 2000 [cu pa], spB 2001 [cu d], spB 2002 [cu sz]] [.c (.p 2000 0), .c (.p 2001 0), .c (.p 2002 0)] (.m (ii (if inD pa d sz then 0 else 3))) := by
 obtain ⟨p0, p1⟩ := hp; obtain ⟨d0, d1⟩ := hd; obtain ⟨z0, z1⟩ := hz; by_cases h : pa < d
 · by_cases h2 : sz ≤ d - pa
   · rw [show inD pa d sz = true by unfold inD; rw [decide_eq_true h, decide_eq_true h2]; rfl]
     refine zb1 15 Tryz.func57 rfl rfl rfl rfl rfl ?_; intro W A τ hG
     repeat (first | (refine zai rfl ?_; first | refine zaj ?_ | refine gdr (zaa rfl rfl rfl (zii _ _) rfl) ?_) | (refine hK _ ?_; clear hK K) | refine zac rfl ?_ | refine zab (fun K hK => ?_) | refine zah (show zat _ _ _ = some _ ∧ EndB _ _ from ⟨by kernel_rfl, ?_⟩))
     exact ⟨⟨_, rfl, rfl⟩, ⟨_, rfl, rfl⟩, ⟨_, rfl, rfl⟩, trivial⟩
   · rw [show inD pa d sz = false by unfold inD; rw [decide_eq_true h, decide_eq_false h2]; rfl]
     refine zb1 15 Tryz.func57 rfl rfl rfl rfl rfl ?_; intro W A τ hG
     repeat (first | (refine zai rfl ?_; first | refine zaj ?_ | refine gdr (zaa rfl rfl rfl (zii _ _) rfl) ?_) | (refine hK _ ?_; clear hK K) | refine zac rfl ?_ | refine zab (fun K hK => ?_) | refine zah (show zat _ _ _ = some _ ∧ EndB _ _ from ⟨by kernel_rfl, ?_⟩))
     exact ⟨⟨_, rfl, rfl⟩, ⟨_, rfl, rfl⟩, ⟨_, rfl, rfl⟩, trivial⟩
 · rw [show inD pa d sz = false by unfold inD; rw [decide_eq_false h]; rfl]
   refine zb1 15 Tryz.func57 rfl rfl rfl rfl rfl ?_; intro W A τ hG
   repeat (first | (refine zai rfl ?_; first | refine zaj ?_ | refine gdr (zaa rfl rfl rfl (zii _ _) rfl) ?_) | (refine hK _ ?_; clear hK K) | refine zac rfl ?_ | refine zab (fun K hK => ?_) | refine zah (show zat _ _ _ = some _ ∧ EndB _ _ from ⟨by kernel_rfl, ?_⟩))
   exact ⟨⟨_, rfl, rfl⟩, ⟨_, rfl, rfl⟩, ⟨_, rfl, rfl⟩, trivial⟩
theorem z3t (p : Pm) : zby Tryz.prog GG 58 [spB 2000 p.ce] [.c (.p 2000 0)] (.m (ii (if zcb p then 0 else 5))) := by
 refine zb1 5 Tryz.func58 rfl rfl rfl rfl rfl ?_; intro W A τ hG
 repeat (first | (refine zai rfl ?_; first | refine zaj ?_ | refine gdr (zaa rfl rfl rfl (zxk p) rfl) ?_ | refine gdr (zaa rfl rfl rfl (zii _ _) rfl) ?_) | (refine hK _ ?_; clear hK K) | refine zac rfl ?_ | refine zab (fun K hK => ?_) | refine zah (show zat _ _ _ = some _ ∧ EndB _ _ from ⟨by kernel_rfl, ?_⟩))
 exact ⟨⟨_, rfl, rfl⟩, trivial⟩
structure MOk (k : Kr) : Prop where
 s : Srt k.m
 u : Uw k.m
theorem z3u (k : Kr) (top lv addr zam : Int) (hk : MOk k) (ht : 0 ≤ top ∧ top < 17592186044416) (ha : U addr) (h0 : 0 ≤ lv) (h2 : lv ≤ 2) (hw : 0 ≤ zam) :
 zby Tryz.prog GG 52 [spB 2000 k.ce, spB 2001 [cu top], spB 2002 [ci lv], spB 2003 [cu addr], spB 2004 [ci zam]] [.c (.p 2000 0), .c (.p 2001 0), .c (.p 2002 0), .c (.p 2003 0), .c (.p 2004 0)]
  (.m (ii (if !(atM k.sz k.m (za0 k.sz k.m addr zam lv top).1 (idx addr (za0 k.sz k.m addr zam lv top).2)).v then 0 else 6))) := by
 refine zb1 19 Tryz.func52 rfl rfl rfl rfl rfl ?_; intro W A τ hG
 repeat (first | (refine zai rfl ?_; first | refine zaj ?_ | refine gdr (zaa rfl rfl rfl (zfd k.sz k.m top lv addr zam ht ha h0 h2 hw hk.s hk.u) rfl) ?_ | refine gdr (zaa rfl rfl rfl (zii _ _) rfl) ?_) | (refine hK _ ?_; clear hK K) | refine zac rfl ?_ | refine zab (fun K hK => ?_) | refine zah (show zat _ _ _ = some _ ∧ EndB _ _ from ⟨by kernel_rfl, ?_⟩))
 exact ⟨⟨_, rfl, rfl⟩, ⟨_, rfl, rfl⟩, ⟨_, rfl, rfl⟩, ⟨_, rfl, rfl⟩, ⟨_, rfl, rfl⟩, trivial⟩
end LaB
namespace SpG
open Go.RowKit Bv VaSpec Base MemL RegR Ax MemC MemC3 TzC OkS SpA SpB SpC SpD IterC SpE SpF
open BitsC PteSpec
attribute [local irreducible] Ax.zbr
theorem zrn (k : Kr) (h : 32 ≤ k.ss.length) (hb : k.ss.length ≤ 1000) : Ok 45 [.ag k.ce] (.tu [.ag k.ce, ii 0, ii 1]) := by
 refine zad 78 Tryz.func45 rfl rfl rfl rfl ?_ GG.to; intro W A hG
 repeat (first | (refine zai rfl ?_; first | refine zaj ?_) | (refine hK _ ?_; clear hK K) | refine zac rfl ?_ | exact zah (show zat _ _ _ = some _ by kernel_rfl) | refine zaf rfl rfl ?_ | refine zab (fun K hK => ?_))
theorem zni (k : Kr) (h : k.ss.length < 32) (h0 : k.af = 0) : Ok 45 [.ag k.ce] (.tu [.ag k.ce, ii 0, ii 9]) := by
 refine zad 78 Tryz.func45 rfl rfl rfl rfl ?_ GG.to; intro W A hG; have ht : Ok 103 [.ag [ci k.am, cu k.af, cu k.ao]] (.tu [.ag [ci k.am, cu k.af, cu k.ao], iu 0, ib false, ii 9]) := by rw [h0]; exact z0b k.am k.ao
 repeat (first | (refine zai rfl ?_; first | refine zaj ?_ | refine gdr (zaa rfl rfl rfl (ht) (by kernel_rfl)) ?_) | (refine hK _ ?_; clear hK K) | refine zac rfl ?_ | exact zah (show zat _ _ _ = some _ by kernel_rfl) | refine zaf rfl rfl ?_ | refine zae rfl rfl ?_ | refine zak ?_ | refine zab (fun K hK => ?_))
def gP (n : Int) : Pte := ⟨true, false, false, false, false, true, false, false, 0, n, 0⟩
noncomputable def zqd (k : Kr) : List (Int × Int) := zba k.sz (TableC.za6 k.m (k.pb + tzI k.pf)) (k.pb + tzI k.pf) (idx kA 2) (gP k.sh)
theorem zpk (k : Kr) (h : k.ss.length < 32) (haf : U k.af) (hao : U k.ao) (h0 : k.af ≠ 0) (hpf : U k.pf) (hp0 : k.pf ≠ 0) (hb : 0 ≤ k.pb ∧ k.pb ≤ 268435456) (hpm : 0 ≤ k.pm ∧ k.pm ≤ 64) (hm : Srt k.m) (hbig : (k.m.length + 1) * 32 ≤ 140737488355328)
 (hP : (gP k.sh).U) (hm1 : Srt (TableC.za6 k.m (k.pb + tzI k.pf))) (hu1 : Uw (TableC.za6 k.m (k.pb + tzI k.pf))) (hbig1 : ((TableC.za6 k.m (k.pb + tzI k.pf)).length + 1) * 16 ≤ 140737488355328) (hown : (zei k.ao (tzI k.af) 1 == 1) = false) (hr : 0 ≤ k.pb + tzI k.pf ∧ k.pb + tzI k.pf < 1099511627776)
 : Ok 45 [.ag k.ce] (.tu [.ag (({ k with m := zqd k, pf := zbx k.pf (tzI k.pf) 1 0, af := zgy k.af, ao := zgz k.af k.ao } : Kr).raw k.tn k.ts (k.ss.length + 1) (flS k.ss ++ (⟨k.pb + tzI k.pf, tzI k.af + 1, true⟩ : Sp).vs) k.fs.length (flF k.fs)), ii k.ss.length, ii 0]) := by
 refine zad 78 Tryz.func45 rfl rfl rfl rfl ?_ GG.to; intro W A hG; have ht := zi8 k.am k.af k.ao haf hao h0; rw [hown] at ht; have hf := zgh k.sz k.m k.pb k.pm k.pf hb hpm hpf hp0 hm hbig; have hw := zd9 k.sz (TableC.za6 k.m (k.pb + tzI k.pf)) (k.pb + tzI k.pf) 2 zP kA (gP k.sh) z7y hP (by omega) (by omega) hr hm1 hu1 (by omega); have hcc : ∀ (W : World) (vb : Nat) (v1 v2 : Value), GG W → Bx W vb #[v1, v2] → Sl W v1 k.ss.length 3 (flS k.ss) → Sl W v2 1 3 (⟨k.pb + tzI k.pf, tzI k.af + 1, true⟩ : Sp).vs → Calls Tryz.prog 105 #[.slice (some ⟨vb, 0, none⟩) 2 2] W fun e w' => ∃ v', e = .returned v' ∧ w'.ownsRow W.heap.size 62 3 v' (k.ss.length + 1) (flS k.ss ++ (⟨k.pb + tzI k.pf, tzI k.af + 1, true⟩ : Sp).vs) ∧ Below W.heap.size W w' :=
  fun W vb v1 v2 _ h1 h2 h3 => ConcatSpace.concat_calls vb v1 v2 _ _ _ _ W h1 h2 h3 (flS_one _) (fun u hu => List.all_eq_true.1 (show (⟨k.pb + tzI k.pf, tzI k.af + 1, true⟩ : Sp).vs.all (·.oneCell') = true from rfl) u hu) (by omega)
 repeat (first | (refine zai rfl ?_; first | refine zaj ?_ | refine gdr (zaa rfl rfl rfl (ht) (by kernel_rfl)) ?_ | refine gdr (zaa rfl rfl rfl (hf) (by kernel_rfl)) ?_ | refine gdr (zaa rfl rfl rfl (zpg) (by kernel_rfl)) ?_ | refine gdr (zaa rfl rfl rfl (hw) (by kernel_rfl)) ?_ | refine gdr (zf2 rfl rfl rfl rfl rfl rfl (by kernel_rfl) rfl rfl rfl) ?_ | refine gdr (ziu rfl rfl rfl rfl rfl (by kernel_rfl) (by kernel_rfl) hcc) ?_) | (refine hK _ ?_; clear hK K) | refine zac rfl ?_ | refine zaq (by kernel_rfl) (by kernel_rfl) rfl ?_ | exact zah (show zat _ _ _ = some _ by kernel_rfl) | refine zae rfl rfl ?_ | refine zak ?_ | refine zab (fun K hK => ?_))
theorem zhx {P : Program} {G : World → Prop} {f : FuncId} {l l2 : List Cm} {r : AV} (e : l = l2) (h : zbr P G f l2 r) : zbr P G f l r := e ▸ h
def aFe (n : Int) : Fe := ⟨false, 0, true, n⟩
noncomputable def zbo (k : Kr) : Kr := { k with m := zqd k, pf := zbx k.pf (tzI k.pf) 1 0, af := zgy k.af, ao := zgz k.af k.ao, ss := k.ss ++ [⟨k.pb + tzI k.pf, tzI k.af + 1, true⟩] }
theorem zgk (k : Kr) : (zbo k).ce = (({ k with m := zqd k, pf := zbx k.pf (tzI k.pf) 1 0, af := zgy k.af, ao := zgz k.af k.ao } : Kr).raw k.tn k.ts (k.ss.length + 1) (flS k.ss ++ (⟨k.pb + tzI k.pf, tzI k.af + 1, true⟩ : Sp).vs) k.fs.length (flF k.fs)) := by
 simp [zbo, Kr.ce, Kr.raw, flS]
end SpG
namespace SpH
open Go.RowKit Bv VaSpec Base MemL RegR Ax MemC PutC MemC3 TzC OkS SpA SpB SpC SpD IterC SpE SpF SpG
open BitsC PteSpec
attribute [local irreducible] Ax.zbr
theorem zpl (k : Kr) (h : k.ss.length < 32) (haf : U k.af) (hao : U k.ao) (h0 : k.af ≠ 0) (hpf : U k.pf) (hp0 : k.pf ≠ 0) (hb : 0 ≤ k.pb ∧ k.pb ≤ 268435456) (hpm : 0 ≤ k.pm ∧ k.pm ≤ 64) (hm : Srt k.m) (hbig : (k.m.length + 1) * 32 ≤ 140737488355328)
 (hP : (gP k.sh).U) (hm1 : Srt (TableC.za6 k.m (k.pb + tzI k.pf))) (hu1 : Uw (TableC.za6 k.m (k.pb + tzI k.pf))) (hbig1 : ((TableC.za6 k.m (k.pb + tzI k.pf)).length + 1) * 16 ≤ 140737488355328) (hown : (zei k.ao (tzI k.af) 1 == 1) = true) (hts : k.ts = zsL k.tn) (htn : k.tn ≤ 16) (hfs : k.fs.length ≤ 1000000) (hr : 0 ≤ k.pb + tzI k.pf ∧ k.pb + tzI k.pf < 1099511627776)
 : Ok 45 [.ag k.ce] (.tu [.ag (zda (zbo k) [aFe (tzI k.af + 1)]).ce, ii k.ss.length, ii 0]) := by
 refine zad 78 Tryz.func45 rfl rfl rfl rfl ?_ GG.to; intro W A hG; have ht := zi8 k.am k.af k.ao haf hao h0; rw [hown] at ht; have hf := zgh k.sz k.m k.pb k.pm k.pf hb hpm hpf hp0 hm hbig; have hw := zd9 k.sz (TableC.za6 k.m (k.pb + tzI k.pf)) (k.pb + tzI k.pf) 2 zP kA (gP k.sh) z7y hP (by omega) (by omega) hr hm1 hu1 (by omega); have hs : Ok 80 [.ag (({ k with m := zqd k, pf := zbx k.pf (tzI k.pf) 1 0, af := zgy k.af, ao := zgz k.af k.ao } : Kr).raw k.tn k.ts (k.ss.length + 1) (flS k.ss ++ (⟨k.pb + tzI k.pf, tzI k.af + 1, true⟩ : Sp).vs) k.fs.length (flF k.fs)), .c (.s 1 4 (flF [aFe (tzI k.af + 1)]))] (.m (.ag (zda (zbo k) [aFe (tzI k.af + 1)]).ce)) := by
  rw [← zgk]; exact zkg (zbo k) hts htn [aFe (tzI k.af + 1)] (fun f hf => by simp at hf; subst hf; exact ⟨by show (0 : Int) ≤ 0; omega, by show (0 : Int) < 18446744073709551616; omega⟩) (by simp) hfs
 have hfa := znb (tzI k.af + 1); have hcc : ∀ (W : World) (vb : Nat) (v1 v2 : Value), GG W → Bx W vb #[v1, v2] → Sl W v1 k.ss.length 3 (flS k.ss) → Sl W v2 1 3 (⟨k.pb + tzI k.pf, tzI k.af + 1, true⟩ : Sp).vs → Calls Tryz.prog 105 #[.slice (some ⟨vb, 0, none⟩) 2 2] W fun e w' => ∃ v', e = .returned v' ∧ w'.ownsRow W.heap.size 62 3 v' (k.ss.length + 1) (flS k.ss ++ (⟨k.pb + tzI k.pf, tzI k.af + 1, true⟩ : Sp).vs) ∧ Below W.heap.size W w' :=
  fun W vb v1 v2 _ h1 h2 h3 => ConcatSpace.concat_calls vb v1 v2 _ _ _ _ W h1 h2 h3 (flS_one _) (fun u hu => List.all_eq_true.1 (show (⟨k.pb + tzI k.pf, tzI k.af + 1, true⟩ : Sp).vs.all (·.oneCell') = true from rfl) u hu) (by omega)
 repeat (first | (refine zai rfl ?_; first | refine zaj ?_ | refine gdr (zaa rfl rfl rfl (hfa) (by kernel_rfl)) ?_ | refine gdr (zaa rfl rfl rfl (ht) (by kernel_rfl)) ?_ | refine gdr (zaa rfl rfl rfl (hf) (by kernel_rfl)) ?_ | refine gdr (zaa rfl rfl rfl (zpg) (by kernel_rfl)) ?_ | refine gdr (zaa rfl rfl rfl (hw) (by kernel_rfl)) ?_ | refine gdr (zf2 rfl rfl rfl rfl rfl rfl (by kernel_rfl) rfl rfl rfl) ?_ | refine gdr (ziu rfl rfl rfl rfl rfl (by kernel_rfl) (by kernel_rfl) hcc) ?_) | (refine hK _ ?_; clear hK K) | refine zac rfl ?_ | refine zaq (by kernel_rfl) (by kernel_rfl) rfl ?_ | refine zaf rfl rfl ?_ | refine zae rfl rfl ?_ | refine zak ?_ | refine zab (fun K hK => ?_))
 refine zai rfl ?_; refine zi1 (zd0 (b := 72) (l := [.ag (({ k with m := zqd k, pf := zbx k.pf (tzI k.pf) 1 0, af := zgy k.af, ao := zgz k.af k.ao } : Kr).raw k.tn k.ts (k.ss.length + 1) (flS k.ss ++ (⟨k.pb + tzI k.pf, tzI k.af + 1, true⟩ : Sp).vs) k.fs.length (flF k.fs)), .c (.o 72)]) rfl rfl rfl (by kernel_rfl) rfl (by kernel_rfl) (zhx (by kernel_rfl) hs)) (by kernel_rfl) ?_; refine zai rfl ?_; refine zi1 (zhn rfl rfl rfl rfl rfl rfl (by kernel_rfl) rfl) (by kernel_rfl) ?_
 first
  | (refine hK _ ?_; clear hK K)
  | (rename_i K1 hK1; refine hK1 _ ?_; clear hK hK1; clear K)
  | (rename_i K1 hK1; refine hK1 _ ?_; clear hK1)
 refine zc7 (sbq [(1, .m (.c (.p 1 0))), (2, .m (.c (.p 2 0))), (5, .m (.c (.p 5 0)))] [(1, .live (.box k.ce)), (2, .live (.box zK)), (5, .live (.box (zda (zbo k) [aFe (tzI k.af + 1)]).ce))]) ?_
 repeat (first | (refine zai rfl ?_; first | refine zaj ?_) | (refine hK _ ?_; clear hK K) | refine zaq (by kernel_rfl) (by kernel_rfl) rfl ?_ | exact zah (show zat _ _ _ = some _ by kernel_rfl) | refine zab (fun K hK => ?_))
theorem zij (sz : Int) (xs : List (Int × Int)) (base many : Int) (hb : 0 ≤ base ∧ base ≤ 268435456) (hm : 0 ≤ many ∧ many ≤ 64) :
 Ok 99 [zbm sz xs, .ag [cu base, ci many, cu 0]] (.tu [zbm sz xs, .ag [cu base, ci many, cu 0], iu 0, ii 8]) :=
 zcd rfl fun A W vs hG hR => by
  obtain ⟨v1, v2, rfl, h1, h2⟩ := zwx hR; obtain ⟨u, rfl, hu'⟩ := zg6 h1; obtain rfl := zm4 (xs := [.int .u64 base, .int .i64 many, .int .u64 0]) h2; obtain ⟨a, c, rfl⟩ := zzz hu'.1; refine (TableC4.zum sz a _ c base many W hb hm hG.t).mono ?_; rintro e w' ⟨rfl, hb'⟩; exact ⟨_, rfl, hb', _, rfl, zht (z50 hu' hb'), ⟨_, rfl, rfl, rfl, rfl, trivial⟩, rfl, rfl, trivial⟩
theorem zlr (k : Kr) (h : k.ss.length < 32) (haf : U k.af) (hao : U k.ao) (h0 : k.af ≠ 0) (hp0 : k.pf = 0) (hb : 0 ≤ k.pb ∧ k.pb ≤ 268435456) (hpm : 0 ≤ k.pm ∧ k.pm ≤ 64)
 : Ok 45 [.ag k.ce] (.tu [.ag k.ce, ii 0, ii 8]) := by
 have hf : Ok 99 [zbm k.sz k.m, .ag [cu k.pb, ci k.pm, cu k.pf]] (.tu [zbm k.sz k.m, .ag [cu k.pb, ci k.pm, cu k.pf], iu 0, ii 8]) := by rw [hp0]; exact zij k.sz k.m k.pb k.pm hb hpm
 cases hown : (zei k.ao (tzI k.af) 1 == 1) with
 | false =>
  refine zad 78 Tryz.func45 rfl rfl rfl rfl ?_ GG.to; intro W A hG; have ht := zi8 k.am k.af k.ao haf hao h0; rw [hown] at ht
  repeat (first | (refine zai rfl ?_; first | refine zaj ?_ | refine gdr (zaa rfl rfl rfl (ht) (by kernel_rfl)) ?_ | refine gdr (zaa rfl rfl rfl (hf) (by kernel_rfl)) ?_) | (refine hK _ ?_; clear hK K) | refine zac rfl ?_ | exact zah (show zat _ _ _ = some _ by kernel_rfl) | refine zaf rfl rfl ?_ | refine zae rfl rfl ?_ | refine zak ?_ | refine zab (fun K hK => ?_))
 | true =>
  refine zad 78 Tryz.func45 rfl rfl rfl rfl ?_ GG.to; intro W A hG; have ht := zi8 k.am k.af k.ao haf hao h0; rw [hown] at ht
  repeat (first | (refine zai rfl ?_; first | refine zaj ?_ | refine gdr (zaa rfl rfl rfl (ht) (by kernel_rfl)) ?_ | refine gdr (zaa rfl rfl rfl (hf) (by kernel_rfl)) ?_) | (refine hK _ ?_; clear hK K) | refine zac rfl ?_ | exact zah (show zat _ _ _ = some _ by kernel_rfl) | refine zaf rfl rfl ?_ | refine zae rfl rfl ?_ | refine zak ?_ | refine zab (fun K hK => ?_))
end SpH
namespace SpI
open Go.RowKit Bv Base MemL RegR Ax MemC PutC MemC3 TzC OkS SpA SpB SpD IterC
open BitsC PteSpec
theorem zc2 : ∀ (xs : List (Int × Int)) (k v : Int) (c : Int × Int), c ∈ zb3 xs k v → c ∈ xs ∨ (c = (k, v) ∧ v ≠ 0)
 | [], k, v, c, h => by
  simp only [zb3] at h
  split at h
  · simp at h
  · rename_i hv; simp at h; exact .inr ⟨h, hv⟩
 | x :: xs, k, v, c, h => by
  simp only [zb3] at h
  split at h
  · rcases List.mem_cons.1 h with h | h
    · exact .inl (by simp [h])
    · exact (zc2 xs k v c h).imp (List.mem_cons_of_mem _) id
  · split at h
    · split at h
      · exact .inl (List.mem_cons_of_mem _ h)
      · rename_i hv; rcases List.mem_cons.1 h with h | h
        · exact .inr ⟨h, hv⟩
        · exact .inl (List.mem_cons_of_mem _ h)
    · split at h
      · exact .inl h
      · rename_i hv; rcases List.mem_cons.1 h with h | h
        · exact .inr ⟨h, hv⟩
        · exact .inl h
theorem zi9 : ∀ (xs : List (Int × Int)) (k v : Int), (zb3 xs k v).length ≤ xs.length + 1
 | [], k, v => by simp only [zb3]; split <;> simp
 | x :: xs, k, v => by
  have := zi9 xs k v; simp only [zb3]
  split
  · simp; omega
  · split <;> split <;> simp <;> omega
theorem zed : ∀ (xs : List (Int × Int)) (k v : Int), Srt xs → Srt (zb3 xs k v)
 | [], k, v, _ => by simp only [zb3]; split <;> simp [Srt]
 | x :: xs, k, v, h => by
  have h' := List.pairwise_cons.1 h; simp only [zb3]
  split
  · rename_i hx; refine List.pairwise_cons.2 ⟨fun d hd => ?_, zed xs k v h'.2⟩; rcases zc2 _ _ _ _ hd with hd | ⟨rfl, _⟩
    · exact h'.1 d hd
    · exact hx
  · split
    · rename_i hk
      split
      · exact h'.2
      · exact List.pairwise_cons.2 ⟨fun d hd => by have := h'.1 d hd; rw [hk] at this; exact this, h'.2⟩
    · split
      · exact h
      · exact List.pairwise_cons.2 ⟨fun d hd => by
         rcases List.mem_cons.1 hd with rfl | hd
         · show k < _; omega
         · have := h'.1 d hd; show k < _; omega, h⟩
theorem zxl : ∀ (xs : List (Int × Int)) (a b : Int), a ≤ b → lb xs a ≤ lb xs b
 | [], a, b, _ => by simp [lb]
 | x :: xs, a, b, h => by
  have := zxl xs a b h; simp only [lb]
  split
  · rw [if_pos (by omega)]; omega
  · omega
theorem znj (xs : List (Int × Int)) (f : Int) : (TableC.za6 xs f).Sublist xs := by
 unfold TableC.za6 ClearC.zbt; have h := zxl xs (f * 512) (f * 512 + 512) (by omega); have e : xs.drop (lb xs (f * 512 + 512)) = (xs.drop (lb xs (f * 512))).drop (lb xs (f * 512 + 512) - lb xs (f * 512)) := by
  rw [List.drop_drop]; congr 1; omega
 rw [e]; have := List.Sublist.append (List.Sublist.refl (xs.take (lb xs (f * 512)))) (List.drop_sublist (lb xs (f * 512 + 512) - lb xs (f * 512)) (xs.drop (lb xs (f * 512))))
 rwa [List.take_append_drop] at this
theorem zcr {xs : List (Int × Int)} (f : Int) (h : Srt xs) : Srt (TableC.za6 xs f) := List.Pairwise.sublist (znj xs f) h
theorem zfg {xs : List (Int × Int)} {f : Int} {c : Int × Int} (h : c ∈ TableC.za6 xs f) : c ∈ xs := (znj xs f).subset h
theorem zee (xs : List (Int × Int)) (f : Int) : (TableC.za6 xs f).length ≤ xs.length := (znj xs f).length_le
def COk (lo hi : Int) (c : Int × Int) : Prop := lo * 512 ≤ c.1 ∧ c.1 < hi * 512 ∧ c.1 % 512 = 511 ∧ U c.2
theorem z6q {lo hi : Int} {xs : List (Int × Int)} (h : ∀ c ∈ xs, COk lo hi c) (h0 : 0 ≤ lo) (h1 : hi ≤ 1099511627776) : Uw xs := fun c hc => by
 obtain ⟨a, b, d, e⟩ := h c hc; exact ⟨⟨by omega, by omega⟩, e⟩
theorem zdb {xs : List (Int × Int)} {k : Int} (h : ∀ c ∈ xs, c.1 ≠ k) : MemC.look xs k = 0 := by
 unfold MemC.look
 split
 · rename_i c hc; rw [if_neg (h c (List.mem_of_getElem? hc))]
 · rfl
theorem zro {a : Int} (h : U a) : (X a).toNat = a.toNat := by
 have e := B_X h; unfold B at e; obtain ⟨h0, h1⟩ := h; omega
theorem zik {w : BitVec 64} {n : Nat} (h : ∀ i, n ≤ i → w.getLsbD i = false) : w.toNat < 2 ^ n :=
 Nat.lt_pow_two_of_testBit _ fun i hi => by rw [BitVec.testBit_toNat]; exact h i hi
theorem zuy {w : BitVec 64} {n : Nat} (h : w.toNat < 2 ^ n) (i : Nat) (hi : n ≤ i) : w.getLsbD i = false := by
 rw [← BitVec.testBit_toNat]; exact Nat.testBit_lt_two_pow (Nat.lt_of_lt_of_le h (Nat.pow_le_pow_right (by decide) hi))
theorem zxm {x : Int} {n : Nat} (h0 : 0 ≤ x) : x < 2 ^ n ↔ x.toNat < 2 ^ n := by
 have e : ((2 : Int) ^ n) = ((2 ^ n : Nat) : Int) := by norm_cast
 rw [e]; omega
theorem zg9 {x i v : Int} {n : Nat} (h : U x) (hx : x < 2 ^ n) (h0 : 0 ≤ i) (hi : i < n) : zbx x i 1 v < 2 ^ n := by
 rw [zxm (zfp _ _ _ _).1]; rw [zxm h.1, ← zro h] at hx; unfold zbx; have : (B (zvh (X x) i.toNat (1 : Int).toNat (X v))).toNat = (zvh (X x) i.toNat (1 : Int).toNat (X v)).toNat := by unfold B; omega
 rw [this]; refine zik fun j hj => ?_; rw [zfb, if_neg (by rw [show (1 : Int).toNat = 1 from rfl]; omega), zuy hx j hj, Bool.and_false]
theorem zct {x : Int} {n : Nat} (h : U x) (hx : x < 2 ^ n) (h0 : x ≠ 0) : 0 ≤ tzI x ∧ tzI x < n := by
 obtain ⟨h1, h2⟩ := h; obtain ⟨hb, _⟩ := Lib.lowest_bit 64 x.toNat (by omega) (by omega); have hle : 2 ^ Lib.ctz 64 x.toNat ≤ x.toNat := by rw [← hb]; exact Nat.and_le_left
 have hx := (zxm h1).1 hx; have := (Nat.pow_lt_pow_iff_right (show 1 < 2 by decide)).1 (Nat.lt_of_le_of_lt hle hx); unfold tzI; omega
theorem zha {x : Int} {n : Nat} (h0 : 0 ≤ x) (h : x < 2 ^ n) (hn : n ≤ 64) : U x := by
 refine ⟨h0, Int.lt_of_lt_of_le h ?_⟩; have : (2 : Nat) ^ n ≤ 2 ^ 64 := Nat.pow_le_pow_right (by decide) hn; have e : ((2 : Int) ^ n) = ((2 ^ n : Nat) : Int) := by norm_cast
 rw [e]; omega
def zfh (x i : Int) : Bool := zei x i 1 == 1
theorem zea {x i : Int} (h0 : 0 ≤ i) : zfh x i = (X x).getLsbD i.toNat := by
 unfold zfh zei; have hb := fun j => zfa (X x) i.toNat 1 j; rw [show (1 : Int).toNat = 1 from rfl]; have hlt : (zm6 (X x) i.toNat 1).toNat < 2 ^ 1 := zik fun j hj => by rw [hb j, decide_eq_false (by omega), Bool.false_and]
 have h0' := hb 0; rw [← BitVec.testBit_toNat, Nat.testBit_zero] at h0'; simp only [Nat.add_zero, show decide (0 < 1) = true from rfl, Bool.true_and] at h0'; rw [← h0']; have e : B (zm6 (X x) i.toNat 1) = ((zm6 (X x) i.toNat 1).toNat : Int) := rfl; rw [e]; rcases (by omega : (zm6 (X x) i.toNat 1).toNat = 0 ∨ (zm6 (X x) i.toNat 1).toNat = 1) with h | h <;> rw [h] <;> rfl
theorem zfi {x i v j : Int} (h : U x) (h0 : 0 ≤ i) (h1 : i < 64) (hj : 0 ≤ j) (hj1 : j < 64) : zfh (zbx x i 1 v) j = if j = i then (X v).getLsbD 0 else zfh x j := by
 rw [zea hj, zea hj]; unfold zbx; rw [X_B, zfb, decide_eq_true (by omega), Bool.true_and, show (1 : Int).toNat = 1 from rfl]; by_cases e : j = i
 · subst e; rw [if_pos ⟨Nat.le_refl _, by omega⟩, if_pos rfl, Nat.sub_self]
 · rw [if_neg (by omega), if_neg e]
end SpI
namespace SpJ
open Go.RowKit Bv VaSpec Base MemL RegR Ax MemC PutC MemC3 TzC OkS SpA SpB SpC SpD IterC SpE SpF SpG SpI
open BitsC PteSpec
noncomputable def zb4 (k : Kr) : Kr × Int × Int :=
 if 32 ≤ k.ss.length then (k, 0, 1) else if k.af = 0 then (k, 0, 9) else if k.pf = 0 then (k, 0, 8)
 else if zei k.ao (tzI k.af) 1 == 1 then (zda (zbo k) [aFe (tzI k.af + 1)], (k.ss.length : Int), 0) else (zbo k, (k.ss.length : Int), 0)
def zcw (k : Kr) (id : Int) : Sp := (k.ss[id.toNat]?).getD zSp
theorem zdc {k : Kr} {id : Int} (h : za4 k id = true) : 0 ≤ id ∧ id < k.ss.length ∧ k.ss[id.toNat]? = some (zcw k id) ∧ (zcw k id).live = true := by
 unfold za4 at h; simp only [Bool.and_eq_true, decide_eq_true_eq] at h; obtain ⟨h0, h1⟩ := h
 split at h1
 · rename_i s hs; have e : zcw k id = s := by unfold zcw; rw [hs]; rfl
   have := (List.getElem?_eq_some_iff.1 hs).1; exact ⟨h0, by omega, by rw [e]; exact hs, by rw [e]; exact h1⟩
 · cases h1
structure Inv (n : Nat) (k : Kr) : Prop where
 cd : 1 ≤ k.cd ∧ k.cd ≤ 524288
 cp : 1 ≤ k.cp ∧ k.cp ≤ 64
 ca : 1 ≤ k.ca ∧ k.ca ≤ 16
 cs : k.cs = k.tn ∧ k.tn ≤ 16
 sz : k.sz = (k.cd + k.cp) * 4096
 pb : k.pb = k.cd
 pm : k.pm = k.cp
 am : k.am = k.ca
 pf : 0 ≤ k.pf ∧ k.pf < 2 ^ k.cp.toNat
 af : 0 ≤ k.af ∧ k.af < 2 ^ k.ca.toNat
 ao : 0 ≤ k.ao ∧ k.ao < 2 ^ k.ca.toNat
 sh : k.cd ≤ k.sh ∧ k.sh < k.cd + k.cp
 ts : k.ts = zsL k.tn
 m : Srt k.m
 mc : ∀ c ∈ k.m, COk k.cd (k.cd + k.cp) c
 ml : k.m.length ≤ n
 fl : k.fs.length ≤ n
 sl : k.ss.length ≤ 32
 ss : ∀ s ∈ k.ss, s.live = true → (k.cd ≤ s.root ∧ s.root < k.cd + k.cp) ∧ (1 ≤ s.asid ∧ s.asid ≤ 16)
 nw : (k.now = -1 ∧ k.sm = 0 ∧ k.sa = 0 ∧ k.sp = 0) ∨ (za4 k k.now = true ∧ k.sm = 8 ∧ k.sa = (zcw k k.now).asid ∧ k.sp = (zcw k k.now).root)
theorem Inv.upf {n : Nat} {k : Kr} (h : Inv n k) : U k.pf := zha h.pf.1 h.pf.2 (by have := h.cp; omega)
theorem Inv.uaf {n : Nat} {k : Kr} (h : Inv n k) : U k.af := zha h.af.1 h.af.2 (by have := h.ca; omega)
theorem Inv.uao {n : Nat} {k : Kr} (h : Inv n k) : U k.ao := zha h.ao.1 h.ao.2 (by have := h.ca; omega)
theorem zpm : idx kA 2 = 511 := by rw [z0e]; decide
theorem zil (sz : Int) (xs : List (Int × Int)) (t i : Int) (p : Pte) : zba sz xs t i p = xs ∨ ∃ v, U v ∧ zba sz xs t i p = zb3 xs (t * 512 + i) v := by
 unfold zba zeb; by_cases hw : zdy sz (t * 4096 + i * 8) 8 = 0
 · rw [if_pos hw, if_pos hw]; refine .inr ⟨zbx (zbs sz xs (t * 4096 + i * 8)) ((t * 4096 + i * 8) % 8 * 8) (8 * 8) (PteC.zc4 p), zfp _ _ _ _, ?_⟩; rw [show (t * 4096 + i * 8) / 8 = t * 512 + i by omega]
 · rw [if_neg hw]; exact .inl rfl
theorem z0i {sz : Int} {xs : List (Int × Int)} {t i : Int} {p : Pte} (h : Srt xs) : Srt (zba sz xs t i p) := by
 rcases zil sz xs t i p with e | ⟨v, _, e⟩ <;> rw [e]
 · exact h
 · exact zed _ _ _ h
theorem zhy (sz : Int) (xs : List (Int × Int)) (t i : Int) (p : Pte) : (zba sz xs t i p).length ≤ xs.length + 1 := by
 rcases zil sz xs t i p with e | ⟨v, _, e⟩ <;> rw [e]
 · omega
 · exact zi9 _ _ _
theorem z0j {sz : Int} {xs : List (Int × Int)} {t : Int} {p : Pte} {lo hi : Int} (h : ∀ c ∈ xs, COk lo hi c) (h0 : lo ≤ t) (h1 : t < hi) : ∀ c ∈ zba sz xs t 511 p, COk lo hi c := fun c hc => by
 rcases zil sz xs t 511 p with e | ⟨v, hv, e⟩ <;> rw [e] at hc
 · exact h c hc
 · rcases zc2 _ _ _ _ hc with hc | ⟨rfl, _⟩
   · exact h c hc
   · exact ⟨by show lo * 512 ≤ t * 512 + 511; omega, by show t * 512 + 511 < hi * 512; omega, by show (t * 512 + 511) % 512 = 511; omega, hv⟩
theorem z3v (a v : Int) (hv : U v) : zbx a 0 64 v = v := by
 unfold zbx; rw [show (0 : Int).toNat = 0 from rfl, show (64 : Int).toNat = 64 from rfl]; have : zvh (X a) 0 64 (X v) = X v := by
  apply BitVec.eq_of_getLsbD_eq; intro i hi; rw [zfb, decide_eq_true hi, Bool.true_and, if_pos ⟨Nat.zero_le _, by omega⟩, Nat.sub_zero]
 rw [this, B_X hv]
theorem z6r {sz t i : Int} (h0 : 0 ≤ t) (hi : 0 ≤ i ∧ i < 512) (hs : t * 4096 + i * 8 < sz) : zdy sz (t * 4096 + i * 8) 8 = 0 := by
 unfold zdy; rw [if_pos (by rfl), if_pos, if_pos hs]; unfold zfu; rw [if_neg (by omega)]; simp; omega
theorem zem {sz : Int} {xs : List (Int × Int)} {t i : Int} {p : Pte} (hp : p.U) (h0 : 0 ≤ t) (hi : 0 ≤ i ∧ i < 512) (hs : t * 4096 + i * 8 < sz) : zba sz xs t i p = zb3 xs (t * 512 + i) (PteC.zc4 p) := by
 unfold zba zeb; have hw := z6r h0 hi hs; rw [if_pos hw, if_pos hw, show (t * 4096 + i * 8) / 8 = t * 512 + i by omega, show (t * 4096 + i * 8) % 8 * 8 = 0 by omega, show (8 : Int) * 8 = 64 by rfl, z3v _ _ (zfq p hp)]
theorem zpn : PteC.zc4 zP = 0 := by decide
theorem zxn {k k' : Kr} {s : Sp} {id : Int} (e : k'.ss = k.ss ++ [s]) (h : za4 k id = true) : za4 k' id = true ∧ zcw k' id = zcw k id := by
 obtain ⟨h0, h1, h2, h3⟩ := zdc h; have hk : k'.ss[id.toNat]? = some (zcw k id) := by rw [e, List.getElem?_append_left (by omega)]; exact h2
 have e2 : zcw k' id = zcw k id := by show (k'.ss[id.toNat]?).getD zSp = _; rw [hk]; rfl
 refine ⟨?_, e2⟩; unfold za4; rw [hk, decide_eq_true h0]; exact h3
theorem zrp {n : Nat} {k : Kr} (h : Inv n k) (hl : k.ss.length < 32) (ha : k.af ≠ 0) (hp : k.pf ≠ 0) : Inv (n + 1) (zbo k) := by
 have t1 := zct h.upf h.pf.2 hp; have t2 := zct h.uaf h.af.2 ha; have c1 := h.cp; have c2 := h.ca; have hpb := h.pb; refine { cd := h.cd, cp := h.cp, ca := h.ca, cs := h.cs, sz := h.sz, pb := h.pb, pm := h.pm, am := h.am, pf := ?_, af := ?_, ao := ?_, sh := h.sh, ts := h.ts, m := ?_, mc := ?_, ml := ?_, fl := ?_, sl := ?_, ss := ?_, nw := ?_ }
 · exact ⟨(zfp _ _ _ _).1, zg9 h.upf h.pf.2 t1.1 t1.2⟩
 · exact ⟨(zfp _ _ _ _).1, zg9 h.uaf h.af.2 t2.1 t2.2⟩
 · exact ⟨(zfp _ _ _ _).1, zg9 h.uao h.ao.2 t2.1 t2.2⟩
 · exact z0i (zcr _ h.m)
 · show ∀ c ∈ zqd k, _; unfold zqd; rw [zpm]; exact z0j (fun c hc => h.mc c (zfg hc)) (by show k.cd ≤ _; omega) (by show _ < k.cd + k.cp; omega)
 · have e1 := zhy k.sz (TableC.za6 k.m (k.pb + tzI k.pf)) (k.pb + tzI k.pf) (idx kA 2) (gP k.sh); have e2 := zee k.m (k.pb + tzI k.pf); have e3 := h.ml; show (zqd k).length ≤ n + 1; unfold zqd; omega
 · have := h.fl; show k.fs.length ≤ n + 1; omega
 · show (k.ss ++ [_]).length ≤ 32; simp; omega
 · intro s hs hlv; have hs : s ∈ k.ss ++ [⟨k.pb + tzI k.pf, tzI k.af + 1, true⟩] := hs; rcases List.mem_append.1 hs with hs | hs
   · exact h.ss s hs hlv
   · rw [List.mem_singleton.1 hs]; exact ⟨⟨by show k.cd ≤ k.pb + tzI k.pf; omega, by show k.pb + tzI k.pf < k.cd + k.cp; omega⟩, by show 1 ≤ tzI k.af + 1; omega, by show tzI k.af + 1 ≤ 16; omega⟩
 · rcases h.nw with x | ⟨x1, x2, x3, x4⟩
   · exact .inl x
   · obtain ⟨y1, y2⟩ := zxn (k' := zbo k) rfl x1; exact .inr ⟨y1, x2, by rw [show (zbo k).now = k.now from rfl, y2]; exact x3, by rw [show (zbo k).now = k.now from rfl, y2]; exact x4⟩
theorem Inv.mono {n n' : Nat} {k : Kr} (h : Inv n k) (e : n ≤ n') : Inv n' k := { h with ml := Nat.le_trans h.ml e, fl := Nat.le_trans h.fl e }
theorem zxo {n : Nat} {k : Kr} (h : Inv n k) (l : List Fe) (e : k.fs.length + l.length ≤ n) : Inv n (zda k l) := { h with fl := by show (k.fs ++ l).length ≤ n; simpa using e }
theorem zcs {n : Nat} {k : Kr} (h : Inv n k) : Inv (n + 1) (zb4 k).1 := by
 unfold zb4
 split
 · exact h.mono (by omega)
 · split
   · exact h.mono (by omega)
   · split
     · exact h.mono (by omega)
     · rename_i h1 h2 h3; have hc := zrp h (by omega) h2 h3
       split
       · refine zxo hc _ ?_; have := h.fl; show k.fs.length + 1 ≤ n + 1; omega
       · exact hc
end SpJ
namespace SpK
open Go.RowKit Bv Base MemL RegR Ax MemC PutC MemC3 TzC OkS SpA SpB SpD IterC SpE SpG SpH SpI SpJ
open BitsC PteSpec
attribute [local irreducible] Ax.zbr
theorem zuz {n : Nat} {k : Kr} (h : Inv n k) (hn : n ≤ 100000) : Ok 45 [.ag k.ce] (.tu [.ag (zb4 k).1.ce, ii (zb4 k).2.1, ii (zb4 k).2.2]) := by
 have h1 := h.cd; have h2 := h.cp; have h3 := h.pb; have h4 := h.pm; have h5 := h.ml; have h6 := h.sl; have h7 := h.fl; have h8 := h.sh; have hpb : 0 ≤ k.pb ∧ k.pb ≤ 268435456 := by omega
 have hpm : 0 ≤ k.pm ∧ k.pm ≤ 64 := by omega
 unfold zb4; by_cases c1 : 32 ≤ k.ss.length
 · rw [if_pos c1]; exact zrn k c1 (by omega)
 rw [if_neg c1]; by_cases c2 : k.af = 0
 · rw [if_pos c2]; exact zni k (by omega) c2
 rw [if_neg c2]; by_cases c3 : k.pf = 0
 · rw [if_pos c3]; exact zlr k (by omega) h.uaf h.uao c2 c3 hpb hpm
 rw [if_neg c3]; have t1 := zct h.upf h.pf.2 c3; have w1 := zee k.m (k.pb + tzI k.pf); have hP : (gP k.sh).U := ⟨by show (0 : Int) ≤ 0 ∧ (0 : Int) < _; omega, by show 0 ≤ k.sh ∧ k.sh < _; omega, by show (0 : Int) ≤ 0 ∧ (0 : Int) < _; omega⟩
 have hu : Uw (TableC.za6 k.m (k.pb + tzI k.pf)) := fun c hc => z6q h.mc (by omega) (by omega) c (zfg hc); by_cases c4 : (zei k.ao (tzI k.af) 1 == 1) = true
 · rw [if_pos c4]; exact zpl k (by omega) h.uaf h.uao c2 h.upf c3 hpb hpm h.m (by omega) hP (zcr _ h.m) hu (by omega) c4 h.ts h.cs.2 (by omega) (by omega)
 · rw [if_neg c4]; show Ok _ _ (.tu [.ag (zbo k).ce, _, _]); rw [zgk]; exact zpk k (by omega) h.uaf h.uao c2 h.upf c3 hpb hpm h.m (by omega) hP (zcr _ h.m) hu (by omega) (by simpa using c4) (by omega)
end SpK
namespace SpL
open Go.RowKit Bv VaSpec Base MemL RegR Ax MemC PutC OkS SpA SpB SpD IterC
theorem z3w (w : World) (x0 x1 y0 y1 : Int) :
 (Op.equalIn 10000 204 (.agg #[.int .u64 x0, .int .u64 x1]) (.agg #[.int .u64 y0, .int .u64 y1])).run Tryz.prog w = .ok (x0 == y0 && (x1 == y1 && true)) w := by
 refine PoolC4.zc9 Tryz.underlying204 (by kernel_rfl) ?_; refine PoolC4.zau (by rfl) (by go_simp; rfl) (by go_simp; rfl) (by go_simp) ?_
 exact PoolC4.zau (by rfl) (by go_simp; rfl) (by go_simp; rfl) (by go_simp) PoolC4.zcq
theorem z3x (w : World) (x0 x1 x2 x3 y0 y1 y2 y3 : Int) :
 (Op.equalIn 10000 23 (.agg #[.int .i64 x0, .int .i64 x1, .int .i64 x2, .int .i64 x3]) (.agg #[.int .i64 y0, .int .i64 y1, .int .i64 y2, .int .i64 y3])).run Tryz.prog w = .ok (x0 == y0 && (x1 == y1 && (x2 == y2 && (x3 == y3 && true)))) w := by
 refine PoolC4.zc9 Tryz.underlying23 (by kernel_rfl) ?_; refine PoolC4.zau (by rfl) (by go_simp; rfl) (by go_simp; rfl) (by go_simp) ?_
 refine PoolC4.zau (by rfl) (by go_simp; rfl) (by go_simp; rfl) (by go_simp) ?_
 refine PoolC4.zau (by rfl) (by go_simp; rfl) (by go_simp; rfl) (by go_simp) ?_
 exact PoolC4.zau (by rfl) (by go_simp; rfl) (by go_simp; rfl) (by go_simp) PoolC4.zcq
theorem z3y (w : World) (x0 x1 x2 y0 y1 y2 : Int) :
 (Op.equalIn 10000 35 (.agg #[.int .u64 x0, .int .u64 x1, .int .u64 x2]) (.agg #[.int .u64 y0, .int .u64 y1, .int .u64 y2])).run Tryz.prog w = .ok (x0 == y0 && (x1 == y1 && (x2 == y2 && true))) w := by
 refine PoolC4.zc9 Tryz.underlying35 (by kernel_rfl) ?_; refine PoolC4.zau (by rfl) (by go_simp; rfl) (by go_simp; rfl) (by go_simp) ?_
 refine PoolC4.zau (by rfl) (by go_simp; rfl) (by go_simp; rfl) (by go_simp) ?_
 exact PoolC4.zau (by rfl) (by go_simp; rfl) (by go_simp; rfl) (by go_simp) PoolC4.zcq
theorem z0k (w : World) (x0 x1 y0 y1 : Int) (x2 y2 : Bool) :
 (Op.equalIn 10000 62 (.agg #[.int .u64 x0, .int .u64 x1, .bool x2]) (.agg #[.int .u64 y0, .int .u64 y1, .bool y2])).run Tryz.prog w = .ok (x0 == y0 && (x1 == y1 && (x2 == y2 && true))) w := by
 refine PoolC4.zc9 Tryz.underlying62 (by kernel_rfl) ?_; refine PoolC4.zau (by rfl) (by go_simp; rfl) (by go_simp; rfl) (by go_simp) ?_
 refine PoolC4.zau (by rfl) (by go_simp; rfl) (by go_simp; rfl) (by go_simp) ?_
 exact PoolC4.zau (by rfl) (by go_simp; rfl) (by go_simp; rfl) (by go_simp) PoolC4.zcq
theorem z0l (w : World) (x1 x3 y1 y3 : Int) (x0 x2 y0 y2 : Bool) :
 (Op.equalIn 10000 141 (.agg #[.bool x0, .int .u64 x1, .bool x2, .int .u64 x3]) (.agg #[.bool y0, .int .u64 y1, .bool y2, .int .u64 y3])).run Tryz.prog w = .ok (x0 == y0 && (x1 == y1 && (x2 == y2 && (x3 == y3 && true)))) w := by
 refine PoolC4.zc9 Tryz.underlying141 (by kernel_rfl) ?_; refine PoolC4.zau (by rfl) (by go_simp; rfl) (by go_simp; rfl) (by go_simp) ?_
 refine PoolC4.zau (by rfl) (by go_simp; rfl) (by go_simp; rfl) (by go_simp) ?_
 refine PoolC4.zau (by rfl) (by go_simp; rfl) (by go_simp; rfl) (by go_simp) ?_
 exact PoolC4.zau (by rfl) (by go_simp; rfl) (by go_simp; rfl) (by go_simp) PoolC4.zcq
theorem z3z (w : World) : (Op.equalIn 10000 154 (.agg zS.toArray) (.agg zS.toArray)).run Tryz.prog w = .ok true w := by kernel_rfl
theorem zpo {l : List (Int × Int)} {k : Nat} {c : Int × Int} (h : l[k]? = some c) : ((fl l).drop (k * 2)).take 2 = [.int .u64 c.1, .int .u64 c.2] := zfc (fun c : Int × Int => [.int .u64 c.1, .int .u64 c.2]) 2 (fun _ => rfl) l _ c h
theorem z0m (sz : Int) (m : List (Int × Int)) (hl : m.length ≤ 1000000) : Ok 62 [zbm sz m, zbm sz m] (.m (ib true)) := by
 refine zad 38 Tryz.func62 rfl rfl rfl rfl ?_ GG.to; intro W A hG
 repeat (first | (refine zai rfl ?_; first | refine zaj ?_) | (refine hK _ ?_; clear hK K) | refine zac rfl ?_ | refine zae rfl rfl ?_ | refine zag ?_ | refine zak ?_ | refine zab (fun K hK => ?_))
 refine za1 (α := Nat) (fun k => k ≤ m.length) (fun k => St.of [(2, .m (.c (.p 2 0))), (3, .m (.c (.p 3 0))), (5, .m (ii k))] [(2, .live (.box [cu sz, .s m.length 2 (fl m)])), (3, .live (.box [cu sz, .s m.length 2 (fl m)]))]) (fun k => m.length - k) 0 (by omega) (zaw _ _ ⟨rfl, rfl, rfl, trivial⟩ ⟨rfl, rfl, trivial⟩ rfl) ?_; intro k hk; by_cases hlt : k < m.length
 · obtain ⟨c, hc⟩ : ∃ c, m[k]? = some c := ⟨_, List.getElem?_eq_getElem hlt⟩; have hx := zpo hc; have he : ∀ w, (Op.equalIn 10000 204 (.agg #[.int .u64 c.1, .int .u64 c.2]) (.agg #[.int .u64 c.1, .int .u64 c.2])).run Tryz.prog w = .ok true w := fun w => by rw [z3w]; simp
   repeat (first | (refine zai rfl ?_; first | refine zaj ?_ | refine gdr (zcl (us := [.int .u64 c.1, .int .u64 c.2]) (vs := [.int .u64 c.1, .int .u64 c.2]) he (by kernel_rfl) rfl rfl rfl rfl) ?_) | (refine hK _ ?_; clear hK K) | refine zac rfl ?_ | refine zaq (by kernel_rfl) (by kernel_rfl) rfl ?_ | refine zaf rfl rfl ?_ | refine zae rfl rfl ?_ | refine zag ?_ | refine zak ?_ | refine zab (fun K hK => ?_))
   exact ⟨k + 1, by omega, by omega, zaw _ _ ⟨rfl, rfl, rfl, trivial⟩ ⟨rfl, rfl, trivial⟩ rfl⟩
 · skip
   repeat (first | (refine zai rfl ?_; first | refine zaj ?_) | (refine hK _ ?_; clear hK K) | (rename_i K1 hK1; refine hK1 _ ?_; clear hK hK1; clear K) | refine zac rfl ?_ | exact zah (show zat _ _ _ = some _ by kernel_rfl) | refine zae rfl rfl ?_ | refine zar ?_ | refine zab (fun K hK => ?_))
theorem zja (n : Nat) (hn : n ≤ 16) : Ok 127 [.ag [.s n 45 (zsL n)], .ag [.s n 45 (zsL n)]] (.m (ib true)) := by
 refine zad 31 Tryz.func127 rfl rfl rfl rfl ?_ GG.to; intro W A hG
 repeat (first | (refine zai rfl ?_; first | refine zaj ?_) | (refine hK _ ?_; clear hK K) | refine zac rfl ?_ | refine zae rfl rfl ?_ | refine zag ?_ | refine zak ?_ | refine zab (fun K hK => ?_))
 refine za1 (α := Nat) (fun k => k ≤ n) (fun k => St.of [(2, .m (.c (.p 2 0))), (3, .m (.c (.p 3 0))), (5, .m (ii k))] [(2, .live (.box [.s n 45 (zsL n)])), (3, .live (.box [.s n 45 (zsL n)]))]) (fun k => n - k) 0 (by omega) (zaw _ _ ⟨rfl, rfl, rfl, trivial⟩ ⟨rfl, rfl, trivial⟩ rfl) ?_; intro k hk; by_cases hlt : k < n
 · have hx : ((zsL n).drop (k * 45)).take 45 = zS := zw6 n k hlt
   repeat (first | (refine zai rfl ?_; first | refine zaj ?_ | refine gdr (zcl (us := zS) (vs := zS) z3z (by kernel_rfl) rfl rfl rfl rfl) ?_) | (refine hK _ ?_; clear hK K) | refine zac rfl ?_ | refine zaq (by kernel_rfl) (by kernel_rfl) rfl ?_ | refine zaf rfl rfl ?_ | refine zae rfl rfl ?_ | refine zag ?_ | refine zak ?_ | refine zab (fun K hK => ?_))
   exact ⟨k + 1, by omega, by omega, zaw _ _ ⟨rfl, rfl, rfl, trivial⟩ ⟨rfl, rfl, trivial⟩ rfl⟩
 · skip
   repeat (first | (refine zai rfl ?_; first | refine zaj ?_) | (refine hK _ ?_; clear hK K) | (rename_i K1 hK1; refine hK1 _ ?_; clear hK hK1; clear K) | refine zac rfl ?_ | exact zah (show zat _ _ _ = some _ by kernel_rfl) | refine zae rfl rfl ?_ | refine zar ?_ | refine zab (fun K hK => ?_))
theorem zs4 (l : List Fe) (hl : l.length ≤ 1000000) : Ok 64 [.c (.s l.length 4 (flF l)), .c (.s l.length 4 (flF l))] (.m (ib true)) := by
 refine zad 26 Tryz.func64 rfl rfl rfl rfl ?_ GG.to; intro W A hG
 repeat (first | (refine zai rfl ?_; first | refine zaj ?_) | (refine hK _ ?_; clear hK K) | refine zac rfl ?_ | refine zae rfl rfl ?_ | refine zag ?_ | refine zak ?_ | refine zab (fun K hK => ?_))
 refine za1 (α := Nat) (fun k => k ≤ l.length) (fun k => St.of [(0, .m (.c (.s l.length 4 (flF l)))), (1, .m (.c (.s l.length 4 (flF l)))), (5, .m (ii k))] []) (fun k => l.length - k) 0 (by omega) (zaw _ _ ⟨rfl, rfl, rfl, trivial⟩ trivial rfl) ?_; intro k hk; by_cases hlt : k < l.length
 · obtain ⟨f, hf⟩ : ∃ f, l[k]? = some f := ⟨_, List.getElem?_eq_getElem hlt⟩; have hx := zw8 hf; have he : ∀ w, (Op.equalIn 10000 141 (.agg #[.bool f.ha, .int .u64 f.ad, .bool f.hs, .int .u64 f.sn]) (.agg #[.bool f.ha, .int .u64 f.ad, .bool f.hs, .int .u64 f.sn])).run Tryz.prog w = .ok true w := fun w => by rw [z0l]; simp
   repeat (first | (refine zai rfl ?_; first | refine zaj ?_ | refine gdr (zcl (us := [.bool f.ha, .int .u64 f.ad, .bool f.hs, .int .u64 f.sn]) (vs := [.bool f.ha, .int .u64 f.ad, .bool f.hs, .int .u64 f.sn]) he (by kernel_rfl) rfl rfl rfl rfl) ?_) | (refine hK _ ?_; clear hK K) | refine zac rfl ?_ | refine zaq (by kernel_rfl) (by kernel_rfl) rfl ?_ | refine zaf rfl rfl ?_ | refine zae rfl rfl ?_ | refine zag ?_ | refine zak ?_ | refine zab (fun K hK => ?_))
   exact ⟨k + 1, by omega, by omega, zaw _ _ ⟨rfl, rfl, rfl, trivial⟩ trivial rfl⟩
 · skip
   repeat (first | (refine zai rfl ?_; first | refine zaj ?_) | (refine hK _ ?_; clear hK K) | (rename_i K1 hK1; refine hK1 _ ?_; clear hK hK1; clear K) | refine zac rfl ?_ | exact zah (show zat _ _ _ = some _ by kernel_rfl) | refine zae rfl rfl ?_ | refine zar ?_ | refine zab (fun K hK => ?_))
def z6s (n : Nat) (ts : List Value) (sm sa sp pr : Int) (su mx : Bool) (vic : Int) : List Ce := [.s n 45 ts, cu sm, cu sa, cu sp, ci pr, cb su, cb mx, ci vic]
theorem z0n (n : Nat) (hn : n ≤ 16) (sm sa sp pr : Int) (su mx : Bool) (vic : Int) : Ok 63 [.ag (z6s n (zsL n) sm sa sp pr su mx vic), .ag (z6s n (zsL n) sm sa sp pr su mx vic)] (.m (ib true)) := by
 refine zad 45 Tryz.func63 rfl rfl rfl rfl ?_ GG.to; intro W A hG; have he : ∀ w, (Op.equalIn 10000 35 (.agg #[.int .u64 sm, .int .u64 sa, .int .u64 sp]) (.agg #[.int .u64 sm, .int .u64 sa, .int .u64 sp])).run Tryz.prog w = .ok true w := fun w => by rw [z3y]; simp
 cases su <;> cases mx
 · skip
   repeat (first | (refine zai rfl ?_; first | refine zaj ?_ | refine gdr (zaa rfl rfl rfl (zja n hn) (by kernel_rfl)) ?_ | refine gdr (zeh (us := [.int .u64 sm, .int .u64 sa, .int .u64 sp]) (vs := [.int .u64 sm, .int .u64 sa, .int .u64 sp]) he (by kernel_rfl) rfl rfl rfl rfl) ?_) | (refine hK _ ?_; clear hK K) | refine zac rfl ?_ | exact zah (show zat _ _ _ = some _ by kernel_rfl) | refine zab (fun K hK => ?_))
 · skip
   repeat (first | (refine zai rfl ?_; first | refine zaj ?_ | refine gdr (zaa rfl rfl rfl (zja n hn) (by kernel_rfl)) ?_ | refine gdr (zeh (us := [.int .u64 sm, .int .u64 sa, .int .u64 sp]) (vs := [.int .u64 sm, .int .u64 sa, .int .u64 sp]) he (by kernel_rfl) rfl rfl rfl rfl) ?_) | (refine hK _ ?_; clear hK K) | refine zac rfl ?_ | exact zah (show zat _ _ _ = some _ by kernel_rfl) | refine zab (fun K hK => ?_))
 · skip
   repeat (first | (refine zai rfl ?_; first | refine zaj ?_ | refine gdr (zaa rfl rfl rfl (zja n hn) (by kernel_rfl)) ?_ | refine gdr (zeh (us := [.int .u64 sm, .int .u64 sa, .int .u64 sp]) (vs := [.int .u64 sm, .int .u64 sa, .int .u64 sp]) he (by kernel_rfl) rfl rfl rfl rfl) ?_) | (refine hK _ ?_; clear hK K) | refine zac rfl ?_ | exact zah (show zat _ _ _ = some _ by kernel_rfl) | refine zab (fun K hK => ?_))
 · skip
   repeat (first | (refine zai rfl ?_; first | refine zaj ?_ | refine gdr (zaa rfl rfl rfl (zja n hn) (by kernel_rfl)) ?_ | refine gdr (zeh (us := [.int .u64 sm, .int .u64 sa, .int .u64 sp]) (vs := [.int .u64 sm, .int .u64 sa, .int .u64 sp]) he (by kernel_rfl) rfl rfl rfl rfl) ?_) | (refine hK _ ?_; clear hK K) | refine zac rfl ?_ | exact zah (show zat _ _ _ = some _ by kernel_rfl) | refine zab (fun K hK => ?_))
end SpL
namespace SpM
open Go.RowKit Bv VaSpec Base MemL RegR Ax MemC PutC OkS SpA SpB SpC SpD IterC SpE SpL
attribute [local irreducible] Ax.zbr
theorem flS_one (l : List Sp) : (flS l).all (·.oneCell') = true := by
 rw [List.all_eq_true]; intro v hv; obtain ⟨f, _, hv⟩ := List.mem_flatMap.1 hv; exact List.all_eq_true.1 (show f.vs.all (·.oneCell') = true from rfl) v hv
theorem z30 (k : Kr) (ht : k.ts = zsL k.tn) (hn : k.tn ≤ 16) (hm : k.m.length ≤ 1000000) (hs : k.ss.length ≤ 1000000) (hf : k.fs.length ≤ 1000000) : Ok 16 [.ag k.ce, .ag k.ce] (.m (ib true)) := by
 have s1 := z0m k.sz k.m hm; have s2 := z0n k.tn hn k.sm k.sa k.sp k.priv k.su k.mx k.vic; rw [← ht] at s2; have s3 := zs4 k.fs hf; have e1 : ∀ w, (Op.equalIn 10000 23 (.agg #[.int .i64 k.cd, .int .i64 k.cp, .int .i64 k.ca, .int .i64 k.cs]) (.agg #[.int .i64 k.cd, .int .i64 k.cp, .int .i64 k.ca, .int .i64 k.cs])).run Tryz.prog w = .ok true w := fun w => by rw [z3x]; simp
 have e2 : ∀ w, (Op.equalIn 10000 39 (.agg #[.int .u64 k.pb, .int .i64 k.pm, .int .u64 k.pf]) (.agg #[.int .u64 k.pb, .int .i64 k.pm, .int .u64 k.pf])).run Tryz.prog w = .ok true w := fun w => by rw [PoolC4.z3b 9998]; simp
 have e3 : ∀ w, (Op.equalIn 10000 41 (.agg #[.int .i64 k.am, .int .u64 k.af, .int .u64 k.ao]) (.agg #[.int .i64 k.am, .int .u64 k.af, .int .u64 k.ao])).run Tryz.prog w = .ok true w := fun w => by rw [znc]; simp
 refine zad 90 Tryz.func16 rfl rfl rfl rfl ?_ GG.to; intro W A hG
 repeat (first | (refine zai rfl ?_; first | refine zaj ?_ | refine gdr (zaa rfl rfl rfl (s1) (by kernel_rfl)) ?_ | refine gdr (zaa rfl rfl rfl (s2) (by kernel_rfl)) ?_ | refine gdr (zaa rfl rfl rfl (s3) (by kernel_rfl)) ?_ | refine gdr (zcl (us := [.int .i64 k.cd, .int .i64 k.cp, .int .i64 k.ca, .int .i64 k.cs]) (vs := [.int .i64 k.cd, .int .i64 k.cp, .int .i64 k.ca, .int .i64 k.cs]) e1 (by kernel_rfl) rfl rfl rfl rfl) ?_ | refine gdr (zcl (us := [.int .u64 k.pb, .int .i64 k.pm, .int .u64 k.pf]) (vs := [.int .u64 k.pb, .int .i64 k.pm, .int .u64 k.pf]) e2 (by kernel_rfl) rfl rfl rfl rfl) ?_ | refine gdr (zcl (us := [.int .i64 k.am, .int .u64 k.af, .int .u64 k.ao]) (vs := [.int .i64 k.am, .int .u64 k.af, .int .u64 k.ao]) e3 (by kernel_rfl) rfl rfl rfl rfl) ?_) | (refine hK _ ?_; clear hK K) | refine zac rfl ?_ | refine zae rfl rfl ?_ | refine zag ?_ | refine zak ?_ | refine zab (fun K hK => ?_))
 refine za1 (α := Nat) (fun i => i ≤ k.ss.length) (fun i => St.of [(2, .m (.c (.p 2 0))), (3, .m (.c (.p 3 0))), (5, .m (ii i))] [(2, .live (.box k.ce)), (3, .live (.box k.ce))]) (fun i => k.ss.length - i) 0 (by omega) (sbq _ _) ?_; intro i hi; by_cases hlt : i < k.ss.length
 · obtain ⟨s, hs⟩ : ∃ s, k.ss[i]? = some s := ⟨_, List.getElem?_eq_getElem hlt⟩; have hx : ((flS k.ss).drop (i * 3)).take 3 = [.int .u64 s.root, .int .u64 s.asid, .bool s.live] := zfc Sp.vs 3 (fun _ => rfl) k.ss _ s hs; have he : ∀ w, (Op.equalIn 10000 62 (.agg #[.int .u64 s.root, .int .u64 s.asid, .bool s.live]) (.agg #[.int .u64 s.root, .int .u64 s.asid, .bool s.live])).run Tryz.prog w = .ok true w := fun w => by rw [z0k]; simp
   repeat (first | (refine zai rfl ?_; first | refine zaj ?_ | refine gdr (zcl (us := [.int .u64 s.root, .int .u64 s.asid, .bool s.live]) (vs := [.int .u64 s.root, .int .u64 s.asid, .bool s.live]) he (by kernel_rfl) rfl rfl rfl rfl) ?_) | (refine hK _ ?_; clear hK K) | refine zac rfl ?_ | refine zaq (by kernel_rfl) (by kernel_rfl) rfl ?_ | refine zaf rfl rfl ?_ | refine zae rfl rfl ?_ | refine zag ?_ | refine zak ?_ | refine zab (fun K hK => ?_))
   exact ⟨i + 1, by omega, by omega, zaw _ _ ⟨rfl, rfl, rfl, trivial⟩ ⟨rfl, rfl, trivial⟩ rfl⟩
 · skip
   repeat (first | (refine zai rfl ?_; first | refine zaj ?_) | (refine hK _ ?_; clear hK K) | (rename_i K1 hK1; refine hK1 _ ?_; clear hK hK1; clear K) | refine zac rfl ?_ | exact zah (show zat _ _ _ = some _ by kernel_rfl) | refine zae rfl rfl ?_ | refine zar ?_ | refine zab (fun K hK => ?_))
end SpM
namespace SpN
open Go.RowKit Bv VaSpec Base MemL RegR Ax MemC PutC TzC OkS SpA SpB SpD IterC SpE SpH SpI SpJ
open BitsC PteSpec
attribute [local irreducible] Ax.zbr
theorem zd2 {P : Program} {G : World → Prop} {k : FuncId} {args : List Cm} {r r' : AV} (h : zbr P G k args r) (hc : zcu r' = true) (hlt : r.lt r') : zbr P G k args r' := by
 unfold zbr at h ⊢; obtain ⟨h1, h2, h3⟩ := h; exact ⟨hc, h2, fun A W vs hG hR => (h3 A W vs hG hR).mono fun e w' ⟨v, he, hb, hr⟩ => ⟨v, he, hb, hlt _ _ hr⟩⟩
def ltC (c c' : Ce) : Prop := ∀ E v, c.R E v → c'.R E v
theorem ltC.rf (c : Ce) : ltC c c := fun _ _ h => h
theorem ltC.nil (k : Nat) : ltC (.v (.slice none 0 0)) (.s 0 k []) := fun E v h => by
 have h : v = .slice none 0 0 := h; subst h; exact ⟨⟨by simp, .inl ⟨rfl, rfl⟩⟩, fun a l c e => by cases e⟩
theorem zrq {E : En} : ∀ (cs cs' : List Ce) (vs : List Value), All2 ltC cs cs' → All2 (Ce.R E) cs vs → All2 (Ce.R E) cs' vs
 | [], [], _, _, h => h
 | c :: cs, c' :: cs', [], _, h => h.elim
 | c :: cs, c' :: cs', v :: vs, k, h => ⟨k.1 _ _ h.1, zrq cs cs' vs k.2 h.2⟩
 | [], _ :: _, _, k, _ => k.elim
 | _ :: _, [], _, k, _ => k.elim
theorem z6t {cs cs' : List Ce} {l : List Cm} (h : All2 ltC cs cs') : AV.lt (.tu (.ag cs :: l)) (.tu (.ag cs' :: l)) := fun E v ⟨vs, e, k⟩ => by
 refine ⟨vs, e, ?_⟩; generalize vs.toList = xs at k; cases xs with
 | nil => exact k.elim
 | cons x xs =>
  obtain ⟨⟨us, e', k1⟩, k2⟩ := k; exact ⟨⟨us, e', zrq _ _ _ h k1⟩, k2⟩
theorem m_lt {cs cs' : List Ce} (h : All2 ltC cs cs') : AV.lt (.m (.ag cs)) (.m (.ag cs')) := fun E v ⟨vs, e, k⟩ => ⟨vs, e, zrq _ _ _ h k⟩
def zf8 (a b c d : Int) : Bool := decide (1 ≤ a) && (decide (a ≤ 524288) && (decide (1 ≤ b) && (decide (b ≤ 64) && (decide (1 ≤ c) && (decide (c ≤ 16) && (decide (0 ≤ d) && decide (d ≤ 16)))))))
theorem zd3 {a b c d : Int} : zf8 a b c d = true ↔ (1 ≤ a ∧ a ≤ 524288) ∧ (1 ≤ b ∧ b ≤ 64) ∧ (1 ≤ c ∧ c ≤ 16) ∧ (0 ≤ d ∧ d ≤ 16) := by
 unfold zf8; simp only [Bool.and_eq_true, decide_eq_true_eq]; omega
theorem zc3 {a b c d : Int} (h : ¬ ((1 ≤ a ∧ a ≤ 524288) ∧ (1 ≤ b ∧ b ≤ 64) ∧ (1 ≤ c ∧ c ≤ 16) ∧ (0 ≤ d ∧ d ≤ 16))) : zf8 a b c d = false := by
 cases e : zf8 a b c d with
 | false => rfl
 | true => exact absurd (zd3.1 e) h
def znk (a b c d : Int) : Cm := .ag [ci a, ci b, ci c, ci d]
theorem z31 (a b c d : Int) : Ok 12 [znk a b c d] (.m (ib (zf8 a b c d))) := by
 by_cases h1 : 1 ≤ a
 · by_cases h2 : a ≤ 524288
   · by_cases h3 : 1 ≤ b
     · by_cases h4 : b ≤ 64
       · by_cases h5 : 1 ≤ c
         · by_cases h6 : c ≤ 16
           · by_cases h7 : 0 ≤ d
             · by_cases h8 : d ≤ 16
               · rw [zd3.2 (by omega)]; refine zad 41 Tryz.func12 rfl rfl rfl rfl ?_ GG.to; intro W A hG
                 repeat (first | (refine zai rfl ?_; first | refine zaj ?_) | (refine hK _ ?_; clear hK K) | refine zac rfl ?_ | exact zah (show zat _ _ _ = some _ by kernel_rfl) | refine zab (fun K hK => ?_))
               · rw [zc3 (by omega)]; refine zad 41 Tryz.func12 rfl rfl rfl rfl ?_ GG.to; intro W A hG
                 repeat (first | (refine zai rfl ?_; first | refine zaj ?_) | (refine hK _ ?_; clear hK K) | refine zac rfl ?_ | exact zah (show zat _ _ _ = some _ by kernel_rfl) | refine zab (fun K hK => ?_))
             · rw [zc3 (by omega)]; refine zad 41 Tryz.func12 rfl rfl rfl rfl ?_ GG.to; intro W A hG
               repeat (first | (refine zai rfl ?_; first | refine zaj ?_) | (refine hK _ ?_; clear hK K) | refine zac rfl ?_ | exact zah (show zat _ _ _ = some _ by kernel_rfl) | refine zab (fun K hK => ?_))
           · rw [zc3 (by omega)]; refine zad 41 Tryz.func12 rfl rfl rfl rfl ?_ GG.to; intro W A hG
             repeat (first | (refine zai rfl ?_; first | refine zaj ?_) | (refine hK _ ?_; clear hK K) | refine zac rfl ?_ | exact zah (show zat _ _ _ = some _ by kernel_rfl) | refine zab (fun K hK => ?_))
         · rw [zc3 (by omega)]; refine zad 41 Tryz.func12 rfl rfl rfl rfl ?_ GG.to; intro W A hG
           repeat (first | (refine zai rfl ?_; first | refine zaj ?_) | (refine hK _ ?_; clear hK K) | refine zac rfl ?_ | exact zah (show zat _ _ _ = some _ by kernel_rfl) | refine zab (fun K hK => ?_))
       · rw [zc3 (by omega)]; refine zad 41 Tryz.func12 rfl rfl rfl rfl ?_ GG.to; intro W A hG
         repeat (first | (refine zai rfl ?_; first | refine zaj ?_) | (refine hK _ ?_; clear hK K) | refine zac rfl ?_ | exact zah (show zat _ _ _ = some _ by kernel_rfl) | refine zab (fun K hK => ?_))
     · rw [zc3 (by omega)]; refine zad 41 Tryz.func12 rfl rfl rfl rfl ?_ GG.to; intro W A hG
       repeat (first | (refine zai rfl ?_; first | refine zaj ?_) | (refine hK _ ?_; clear hK K) | refine zac rfl ?_ | exact zah (show zat _ _ _ = some _ by kernel_rfl) | refine zab (fun K hK => ?_))
   · rw [zc3 (by omega)]; refine zad 41 Tryz.func12 rfl rfl rfl rfl ?_ GG.to; intro W A hG
     repeat (first | (refine zai rfl ?_; first | refine zaj ?_) | (refine hK _ ?_; clear hK K) | refine zac rfl ?_ | exact zah (show zat _ _ _ = some _ by kernel_rfl) | refine zab (fun K hK => ?_))
 · rw [zc3 (by omega)]; refine zad 41 Tryz.func12 rfl rfl rfl rfl ?_ GG.to; intro W A hG
   repeat (first | (refine zai rfl ?_; first | refine zaj ?_) | (refine hK _ ?_; clear hK K) | refine zac rfl ?_ | exact zah (show zat _ _ _ = some _ by kernel_rfl) | refine zab (fun K hK => ?_))
theorem zen {n a b : Int} (h : a ≤ n ∧ n ≤ b) : Ok 121 [ii n, ii a, ii b] (.m (ib true)) := by
 have := zpc n a b
 rwa [show zd8 n a b = true by simp [zd8, h.1, h.2]] at this
theorem zkn {n a b : Int} (h : ¬ (a ≤ n ∧ n ≤ b)) : Ok 121 [ii n, ii a, ii b] (.m (ib false)) := by
 have := zpc n a b
 rwa [show zd8 n a b = false by cases e : zd8 n a b with | false => rfl | true => (simp [zd8] at e; exact absurd e h)] at this
theorem z32 (a b c d : Int) : Ok 94 [znk a b c d] (.m (ib (zf8 a b c d))) := by
 by_cases h1 : 1 ≤ a ∧ a ≤ 524288
 · by_cases h2 : 1 ≤ b ∧ b ≤ 64
   · by_cases h3 : 1 ≤ c ∧ c ≤ 16
     · by_cases h4 : 0 ≤ d ∧ d ≤ 16
       · rw [zd3.2 (by omega)]; refine zad 21 Tryz.func94 rfl rfl rfl rfl ?_ GG.to; intro W A hG
         repeat (first | (refine zai rfl ?_; first | refine zaj ?_ | refine gdr (zaa rfl rfl rfl (zen h1) rfl) ?_ | refine gdr (zaa rfl rfl rfl (zen h2) rfl) ?_ | refine gdr (zaa rfl rfl rfl (zen h3) rfl) ?_ | refine gdr (zaa rfl rfl rfl (zen h4) rfl) ?_) | (refine hK _ ?_; clear hK K) | refine zac rfl ?_ | exact zah (show zat _ _ _ = some _ by kernel_rfl) | refine zab (fun K hK => ?_))
       · rw [zc3 (by omega)]; refine zad 21 Tryz.func94 rfl rfl rfl rfl ?_ GG.to; intro W A hG
         repeat (first | (refine zai rfl ?_; first | refine zaj ?_ | refine gdr (zaa rfl rfl rfl (zen h1) rfl) ?_ | refine gdr (zaa rfl rfl rfl (zen h2) rfl) ?_ | refine gdr (zaa rfl rfl rfl (zen h3) rfl) ?_ | refine gdr (zaa rfl rfl rfl (zkn h4) rfl) ?_) | (refine hK _ ?_; clear hK K) | refine zac rfl ?_ | exact zah (show zat _ _ _ = some _ by kernel_rfl) | refine zab (fun K hK => ?_))
     · rw [zc3 (by omega)]; refine zad 21 Tryz.func94 rfl rfl rfl rfl ?_ GG.to; intro W A hG
       repeat (first | (refine zai rfl ?_; first | refine zaj ?_ | refine gdr (zaa rfl rfl rfl (zen h1) rfl) ?_ | refine gdr (zaa rfl rfl rfl (zen h2) rfl) ?_ | refine gdr (zaa rfl rfl rfl (zkn h3) rfl) ?_) | (refine hK _ ?_; clear hK K) | refine zac rfl ?_ | exact zah (show zat _ _ _ = some _ by kernel_rfl) | refine zab (fun K hK => ?_))
   · rw [zc3 (by omega)]; refine zad 21 Tryz.func94 rfl rfl rfl rfl ?_ GG.to; intro W A hG
     repeat (first | (refine zai rfl ?_; first | refine zaj ?_ | refine gdr (zaa rfl rfl rfl (zen h1) rfl) ?_ | refine gdr (zaa rfl rfl rfl (zkn h2) rfl) ?_) | (refine hK _ ?_; clear hK K) | refine zac rfl ?_ | exact zah (show zat _ _ _ = some _ by kernel_rfl) | refine zab (fun K hK => ?_))
 · rw [zc3 (by omega)]; refine zad 21 Tryz.func94 rfl rfl rfl rfl ?_ GG.to; intro W A hG
   repeat (first | (refine zai rfl ?_; first | refine zaj ?_ | refine gdr (zaa rfl rfl rfl (zkn h1) rfl) ?_) | (refine hK _ ?_; clear hK K) | refine zac rfl ?_ | exact zah (show zat _ _ _ = some _ by kernel_rfl) | refine zab (fun K hK => ?_))
def zd6 (n : Int) : Int := zei 18446744073709551615 0 n
theorem zko {n : Int} (h0 : 0 ≤ n) (h : n ≤ 64) : 0 ≤ zd6 n ∧ zd6 n < 2 ^ n.toNat := by
 refine ⟨(zwl _ _ _).1, ?_⟩; unfold zd6; rw [zc1 _ _ _ ⟨by omega, by omega⟩ h]; exact Int.emod_lt_of_pos _ (Int.pow_pos (by omega))
theorem znl {n : Int} (h0 : 1 ≤ n) (h : n ≤ 64) : zd6 n ≠ 0 := by
 unfold zd6; rw [zc1 _ _ _ ⟨by omega, by omega⟩ h]; intro e; obtain ⟨k, hk⟩ : ∃ k, n.toNat = k + 1 := ⟨n.toNat - 1, by omega⟩; have := Int.emod_emod_of_dvd (18446744073709551615 / 2 ^ (0 : Int).toNat) (show (2 : Int) ∣ 2 ^ n.toNat from ⟨2 ^ k, by rw [hk, Int.pow_succ, Int.mul_comm]⟩); rw [e] at this; revert this; decide
def zvi (a b c : Int) (n : Nat) : Kr := { cd := a, cp := b, ca := c, cs := n, sz := (a + b) * 4096, m := [], tn := n, ts := zsL n, sm := 0, sa := 0, sp := 0, priv := 0, su := false, mx := false, vic := -1, pb := a, pm := b, pf := zbx (zd6 b) (tzI (zd6 b)) 1 0, am := c, af := zd6 c, ao := 0, ss := [], now := -1, sh := a + tzI (zd6 b), fs := [] }
theorem z33 (sz : Int) (h : 0 ≤ sz) (h1 : sz ≤ 1099511627776) (h2 : sz % 4096 = 0) : Ok 95 [iu sz] (.tu [zbm sz [], ii 0]) := by
 have hz : U sz := ⟨h, by omega⟩; have := zww sz hz; have e : MemNewC.zl1 sz = true := by
  unfold MemNewC.zl1 zfu; rw [if_neg (by omega), h2, decide_eq_true h1]; rfl
 unfold MemNewC.newV at this; rw [if_pos e] at this; exact zd2 this rfl (z6t (cs := [cu sz, .v (.slice none 0 0)]) ⟨ltC.rf _, ltC.nil 2, trivial⟩)
theorem z0o (b m : Int) (hb : 0 ≤ b ∧ b ≤ 268435456) (hm : 0 ≤ m ∧ m ≤ 64) : Ok 96 [iu b, ii m] (.tu [.ag [cu b, ci m, cu (zd6 m)], ii 0]) := by
 have := zut b m ⟨hb.1, by omega⟩ hm; have e : PoolC2.zl2 b m 0 = true := by
  unfold PoolC2.zl2; rw [decide_eq_true hm.1, decide_eq_true hm.2, decide_eq_true hb.2, zc1 _ _ _ ⟨by omega, by omega⟩ hm.2]; simp
 unfold PoolC2.newV at this; rw [if_pos e] at this; exact this
theorem z0p (m : Int) (hm : 1 ≤ m ∧ m ≤ 16) : Ok 97 [ii m] (.tu [.ag [ci m, cu (zd6 m), cu 0], ii 0]) := by
 have := zuu m; have e : AsidC2.newV m = .tuple #[.agg #[.int .i64 m, .int .u64 (zd6 m), .int .u64 0], .int .i64 0] := by
  unfold AsidC2.newV; rw [if_pos]; rfl
  unfold AsidC.zf4 AsidC.zf3; rw [decide_eq_true hm.1, decide_eq_true hm.2, zc1 _ _ _ ⟨by omega, by omega⟩ (by omega)]; simp
 rw [e] at this; exact this
theorem zset : ∃ z, (Tryz.prog.info? 154).bind (·.zero) = some z ∧ z.cells.toList = zS := by
 refine ⟨.agg zS.toArray, by kernel_rfl, ?_⟩; show zS.toArray.toList = zS
 rfl
theorem z34 (n : Nat) : ∀ i : Nat, i < n * 45 → (zsL n)[i]? = zS[i % 45]? := by
 induction n with
 | zero => intro i h; omega
 | succ n ih =>
  intro i h; have e : zsL (n + 1) = zS ++ zsL n := rfl; have l : zS.length = 45 := rfl; rw [e]; by_cases hi : i < 45
  · rw [List.getElem?_append_left (by omega), Nat.mod_eq_of_lt hi]
  · rw [List.getElem?_append_right (by omega), l, ih (i - 45) (by omega), Nat.mod_eq_sub_mod (by omega : 45 ≤ i)]
theorem z35 (n : Nat) : (zsL n).length = n * 45 := by
 induction n with
 | zero => rfl
 | succ n ih =>
  have e : zsL (n + 1) = zS ++ zsL n := rfl; have l : zS.length = 45 := rfl; rw [e, List.length_append, ih, l]; omega
theorem zxp (n : Nat) (z : Value) (h : z.cells.toList = zS) : (madeCells z.cells (n * 45)).toList = zsL n := by
 have l : z.cells.size = 45 := by rw [← Array.length_toList, h]; rfl
 apply List.ext_getElem?; intro i; by_cases hi : i < n * 45
 · rw [z34 n i hi, ← h]; simp [madeCells, hi, l, List.getElem?_eq_getElem, Nat.mod_lt]
 · rw [List.getElem?_eq_none (by rw [Array.length_toList, size_madeCells]; omega), List.getElem?_eq_none (by rw [z35]; omega)]
theorem z36 (n : Nat) (hn : n ≤ 16) : Ok 98 [ii n] (.tu [.ag [.s n 45 (zsL n)], ii 0]) := by
 obtain ⟨z, hz, hc⟩ := zset; have := zwz n hn z hz
 rwa [zxp n z hc] at this
theorem z37 (a b c : Int) (n : Nat) (h : zf8 a b c n = true) : Ok 43 [znk a b c n] (.tu [.ag (zvi a b c n).ce, ii 0]) := by
 obtain ⟨ha, hb, hc, hn⟩ := zd3.1 h; have hm := z32 a b c n; rw [h] at hm; have l1 := zko (n := b) (by omega) (by omega); have l2 := znl (n := b) (by omega) (by omega); have h1 := z33 ((a + b) * 4096) (by omega) (by omega) (by omega); have h2 := z0o a b (by omega) (by omega); have h3 := z0p c hc; have h4 := z36 n (by omega); have h5 := zgh ((a + b) * 4096) [] a b (zd6 b) (by omega) (by omega) (zha l1.1 l1.2 (by omega)) l2 List.Pairwise.nil (by simp); have key : Ok 43 [znk a b c n] (.tu [.ag [ci a, ci b, ci c, ci n, cu ((a + b) * 4096), .s 0 2 [], .s n 45 (zsL n), cu 0, cu 0, cu 0, ci 0, cb false, cb false, ci (-1), cu a, ci b, cu (zbx (zd6 b) (tzI (zd6 b)) 1 0), ci c, cu (zd6 c), cu 0, .v (.slice none 0 0), ci (-1), cu (a + tzI (zd6 b)), .v (.slice none 0 0)], ii 0]) := by
  refine zad 63 Tryz.func43 rfl rfl rfl rfl ?_ GG.to; intro W A hG
  repeat (first | (refine zai rfl ?_; first | refine zaj ?_ | refine gdr (zaa rfl rfl rfl (hm) (by kernel_rfl)) ?_ | refine gdr (zaa rfl rfl rfl (h1) (by kernel_rfl)) ?_ | refine gdr (zaa rfl rfl rfl (h2) (by kernel_rfl)) ?_ | refine gdr (zaa rfl rfl rfl (h3) (by kernel_rfl)) ?_ | refine gdr (zaa rfl rfl rfl (h4) (by kernel_rfl)) ?_ | refine gdr (zaa rfl rfl rfl (h5) (by kernel_rfl)) ?_) | (refine hK _ ?_; clear hK K) | refine zac rfl ?_ | exact zah (show zat _ _ _ = some _ by kernel_rfl) | refine zae rfl rfl ?_ | refine zak ?_ | refine zab (fun K hK => ?_))
 refine zd2 key rfl (z6t ?_); exact ⟨ltC.rf _, ltC.rf _, ltC.rf _, ltC.rf _, ltC.rf _, ltC.rf _, ltC.rf _, ltC.rf _, ltC.rf _, ltC.rf _, ltC.rf _, ltC.rf _, ltC.rf _, ltC.rf _, ltC.rf _, ltC.rf _, ltC.rf _, ltC.rf _, ltC.rf _, ltC.rf _, ltC.nil 3, ltC.rf _, ltC.rf _, ltC.nil 4, trivial⟩
theorem zim {a b c : Int} {n : Nat} (h : zf8 a b c n = true) : Inv 0 (zvi a b c n) := by
 obtain ⟨ha, hb, hc, hn⟩ := zd3.1 h; have l1 := zko (n := b) (by omega) (by omega); have l2 := znl (n := b) (by omega) (by omega); have l3 := zko (n := c) (by omega) (by omega); have u1 : U (zd6 b) := zha l1.1 l1.2 (by omega); have t := zct u1 l1.2 l2; exact { cd := ha, cp := hb, ca := hc, cs := ⟨rfl, by show n ≤ 16; omega⟩, sz := rfl, pb := rfl, pm := rfl, am := rfl, pf := ⟨(zfp _ _ _ _).1, zg9 u1 l1.2 t.1 t.2⟩, af := l3, ao := ⟨by show (0 : Int) ≤ 0; omega, by show (0 : Int) < _; exact Int.pow_pos (by omega)⟩, sh := ⟨by show a ≤ a + _; omega, by show a + tzI (zd6 b) < a + b; omega⟩, ts := rfl, m := List.Pairwise.nil, mc := fun c hc => (by cases hc), ml := Nat.le_refl _, fl := Nat.le_refl _, sl := by show 0 ≤ 32; omega, ss := fun s hs => (by cases hs), nw := .inl ⟨rfl, rfl, rfl, rfl⟩ }
def i8 (n : Int) : Ce := .v (.int .u8 n)
end SpN
namespace RfP
open Go.RowKit Bv Base MemL RegR Ax TzC OkS SpA SpB SpD IterC SpH SpI SpN
open BitsC PteSpec
theorem zxq {x : Int} (h : U x) (h0 : x ≠ 0) : ∃ m, x.toNat = 2 ^ (tzI x).toNat * (2 * m + 1) := by
 obtain ⟨h1, h2⟩ := h; obtain ⟨m, hm, _⟩ := Lib.ctzFrom_spec 64 x.toNat (by omega) (by omega); refine ⟨m, ?_⟩; have : (tzI x).toNat = Lib.ctzFrom 64 x.toNat := by
  unfold tzI Lib.ctz; rw [if_neg (by omega)]; simp
 rw [this]; exact hm
theorem zmb {x : Int} (h : U x) (h0 : x ≠ 0) : zfh x (tzI x) = true := by
 obtain ⟨m, hm⟩ := zxq h h0; rw [zea (by unfold tzI; omega), ← BitVec.testBit_toNat, zro h, hm, Nat.testBit_two_pow_mul]
 simp
theorem zkp {x i : Int} (h : U x) (h0 : x ≠ 0) (hi : 0 ≤ i) (hlt : i < tzI x) : zfh x i = false := by
 obtain ⟨m, hm⟩ := zxq h h0; rw [zea hi, ← BitVec.testBit_toNat, zro h, hm, Nat.testBit_two_pow_mul]; simp; omega
theorem zs5 (i : Int) (hi : 0 ≤ i) : zfh 0 i = false := by
 rw [zea hi]; rw [show X 0 = 0#64 from rfl, BitVec.getLsbD_zero]
theorem znm (x i : Int) (hi : 0 ≤ i) : (zei x i 1 == 0) = !zfh x i := by
 have hu := zwl x i 1; have hlt : zei x i 1 < 2 := by
  unfold zei; have hb := fun j => zfa (X x) i.toNat 1 j; have : (zm6 (X x) i.toNat 1).toNat < 2 ^ 1 := zik fun j hj => by rw [hb j, decide_eq_false (by omega), Bool.false_and]
  rw [show (1 : Int).toNat = 1 from rfl]; unfold B; omega
 unfold zfh; rcases (by have := hu.1; omega : zei x i 1 = 0 ∨ zei x i 1 = 1) with e | e <;> rw [e] <;> rfl
theorem zs6 (j : Nat) (hj : j < 64) : (X 18446744073709551615).getLsbD j = true := by
 rw [show X 18446744073709551615 = BitVec.allOnes 64 from rfl, BitVec.getLsbD_allOnes, decide_eq_true hj]
theorem zpp (i : Int) (h0 : 0 ≤ i) (h : i < 64) : zbx (zd6 i) i 1 1 = zd6 (i + 1) := by
 unfold zbx zd6 zei; rw [X_B]
 congr 1
 apply BitVec.eq_of_getLsbD_eq; intro j hj; rw [zfb, zfa, zfa, decide_eq_true hj, Bool.true_and, show (1 : Int).toNat = 1 from rfl, show (0 : Int).toNat = 0 from rfl, Nat.zero_add, zs6 j hj, Bool.and_true, Bool.and_true]; by_cases e : j = i.toNat
 · rw [if_pos ⟨by omega, by omega⟩, e, Nat.sub_self, decide_eq_true (by omega)]; rfl
 · rw [if_neg (by omega)]; by_cases e2 : j < i.toNat
   · rw [decide_eq_true e2, decide_eq_true (by omega)]
   · rw [decide_eq_false e2, decide_eq_false (by omega)]
theorem allI_zero : zd6 0 = 0 := by
 unfold zd6; rw [zc1 _ _ _ ⟨by omega, by omega⟩ (by omega)]
 decide
theorem zpq (n : Int) : U (zd6 n) := zwl _ _ _
end RfP
end Go.Proofs.YtomeaibdedaldaaGreatDoor
