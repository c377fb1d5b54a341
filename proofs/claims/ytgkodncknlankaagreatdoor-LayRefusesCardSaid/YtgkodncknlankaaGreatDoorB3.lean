/- Texts of this claim, one behind the other: OkS, SpA, SpB, SpC, IterC, AxP, AxQ, AxR, AxU, AxV, SpD, SpE, SpF, LaA, IterE, AxX, AxY, LaC, LaB, SpG. -/
import Derived.Test.YtgkodncknlankaaGreatDoorB1
import Derived.Test.YtgkodncknlankaaGreatDoorB2
import Derived.RangeFuncNested
import Derived.RangeFuncBound
import Derived.RangeFuncCalls
import Derived.RangeFuncLeaves
import Derived.RangeFuncFrom
import Derived.Shelf.Abstract
import Derived.ScopeJumps
import Derived.Shelf.RegionOpen
import Derived.WalkKit
import Derived.OwnWalkIn
import Derived.TacticsInMore
import Derived.LoopNIn
import Derived.LoopIn
/- Contracts that were proved by hand, as contracts of the abstract walk. -/
namespace Go.Proofs.YtgkodncknlankaaGreatDoor.OkS
open Go.RowKit Go.Proofs.YtgkodncknlankaaGreatDoor.Bv Go.Proofs.YtgkodncknlankaaGreatDoor.VaSpec Go.Proofs.YtgkodncknlankaaGreatDoor.Base Go.Proofs.YtgkodncknlankaaGreatDoor.MemL Go.Proofs.YtgkodncknlankaaGreatDoor.RegR Go.Proofs.YtgkodncknlankaaGreatDoor.Ax Go.Proofs.YtgkodncknlankaaGreatDoor.MemC Go.Proofs.YtgkodncknlankaaGreatDoor.PutC Go.Proofs.YtgkodncknlankaaGreatDoor.MemC3 Go.Proofs.YtgkodncknlankaaGreatDoor.TzC
open Go.Proofs.YtgkodncknlankaaGreatDoor.BitsC Go.Proofs.YtgkodncknlankaaGreatDoor.PteSpec
set_option linter.unusedVariables false
set_option linter.unusedSimpArgs false
/-- the types of the program, as tables -/
def tb : Tb := ⟨fun t => Ax.look false [(7, true), (8, true), (13, true), (14, true), (18, true), (19, true), (22, true), (23, true), (26, true), (27, true), (28, true), (29, true), (33, true), (34, true), (36, true), (37, true), (38, true), (39, true), (40, true), (41, true), (42, true), (43, true), (44, true), (45, true), (48, true), (49, true), (58, true), (59, true), (64, true), (65, true), (86, true), (87, true), (88, true), (89, true), (94, true), (95, true), (104, true), (105, true), (107, true), (108, true), (151, true), (166, true), (167, true), (174, true), (175, true), (199, true), (200, true), (201, true), (202, true), (203, true), (207, true), (209, true), (230, true), (237, true), (238, true), (239, true), (240, true), (241, true), (250, true), (251, true)] t, fun t => Ax.look 1 [(7, 4), (8, 4), (13, 2), (14, 2), (22, 4), (23, 4), (26, 4), (27, 4), (28, 8), (29, 8), (33, 2), (34, 2), (38, 3), (39, 3), (40, 8), (41, 8), (42, 3), (43, 3), (44, 3), (45, 3), (48, 24), (49, 24), (58, 8), (59, 8), (64, 9), (65, 9), (86, 11), (87, 11), (88, 13), (89, 13), (104, 3), (105, 3), (107, 4), (108, 4), (151, 3), (166, 2), (167, 2), (174, 6), (175, 6), (199, 11), (200, 11), (201, 44), (202, 45), (203, 45), (207, 64), (209, 64), (230, 4), (237, 4), (238, 4), (239, 0), (240, 0), (241, 0), (250, 11), (251, 11)] t, fun t f => (Ax.look [] [(7, [0, 1, 2, 3]), (8, [0, 1, 2, 3]), (13, [0, 1]), (14, [0, 1]), (18, [0]), (19, [0]), (22, [0, 1, 2, 3]), (23, [0, 1, 2, 3]), (26, [0, 1, 2, 3]), (27, [0, 1, 2, 3]), (28, [0, 1, 2, 3, 4]), (29, [0, 1, 2, 3, 4]), (33, [0, 1]), (34, [0, 1]), (36, [0]), (37, [0]), (38, [0, 1, 2]), (39, [0, 1, 2]), (40, [0, 1, 4, 5, 6, 7]), (41, [0, 1, 4, 5, 6, 7]), (42, [0, 1, 2]), (43, [0, 1, 2]), (44, [0, 1, 2]), (45, [0, 1, 2]), (48, [0, 4, 6, 14, 17, 20, 21, 22, 23]), (49, [0, 4, 6, 14, 17, 20, 21, 22, 23]), (58, [0, 1, 2, 3, 7]), (59, [0, 1, 2, 3, 7]), (64, [0, 1, 2, 3, 4, 5]), (65, [0, 1, 2, 3, 4, 5]), (86, [0, 1, 2, 3, 4, 5, 6, 7, 8, 9, 10]), (87, [0, 1, 2, 3, 4, 5, 6, 7, 8, 9, 10]), (88, [0, 1, 2]), (89, [0, 1, 2]), (94, [0]), (95, [0]), (104, [0, 1, 2]), (105, [0, 1, 2]), (107, [0, 1, 2, 3]), (108, [0, 1, 2, 3]), (166, [0, 1]), (167, [0, 1]), (174, [0, 2, 5]), (175, [0, 2, 5]), (199, [0, 1, 2, 3, 4, 5, 6, 10]), (200, [0, 1, 2, 3, 4, 5, 6, 10]), (202, [0, 44]), (203, [0, 44]), (230, [0, 1, 2, 3]), (237, [0, 1, 2, 3]), (238, [0, 1, 2, 3]), (240, [0]), (241, [0]), (250, [0, 1, 2, 3, 4, 5, 6, 7, 8, 9, 10]), (251, [0, 1, 2, 3, 4, 5, 6, 7, 8, 9, 10])] t).getD f 0⟩
/-- the functions that the fence's table names -/
def askF (i : Nat) : Value := if i = 0 then .func (.func 205) #[] #[] else .func (.func 207) #[] #[]
def Asks (w : World) : Prop := ∃ b o c, w.cell? ⟨2, 0, none⟩ = some (.slice (some ⟨b, o, none⟩) 2 c) ∧ w.cell? ⟨b, o, none⟩ = some (askF 0) ∧ w.cell? ⟨b, o + 1, none⟩ = some (askF 1)
theorem asks_below {w w' : World} (h : Asks w) (hb : Below w.heap.size w w') : Asks w' := by
  obtain ⟨b, o, c, h1, h2, h3⟩ := h
  exact ⟨b, o, c, (hb.cell (p := ⟨2, 0, none⟩) (block_lt_of_cell h1)).trans h1, (hb.cell (p := ⟨b, o, none⟩) (block_lt_of_cell h2)).trans h2, (hb.cell (p := ⟨b, o + 1, none⟩) (block_lt_of_cell h3)).trans h3⟩
/-- what the program's text lays -/
structure GG (w : World) : Prop where
  s : G w
  t : TabT w
  k : Asks w
theorem tabT_below {w w' : World} (h : TabT w) (b : Below w.heap.size w w') : TabT w' := fun j hj => (b.cell (p := ⟨1, j, none⟩) (block_lt_of_cell (h j hj))).trans (h j hj)
theorem GG.to (w w' : World) (h : GG w) (b : Below w.heap.size w w') : GG w' := ⟨h.s.to b, tabT_below h.t b, asks_below h.k b⟩
abbrev Ok (k : FuncId) (args : List Cm) (r : AV) : Prop := CallOk Tryz.prog GG k args r
abbrev iu (n : Int) : Cm := .c (.v (.int .u64 n))
abbrev ii (n : Int) : Cm := .c (.v (.int .i64 n))
abbrev ib (b : Bool) : Cm := .c (.v (.bool b))
abbrev cu (n : Int) : Ce := .v (.int .u64 n)
abbrev ci (n : Int) : Ce := .v (.int .i64 n)
abbrev cb (b : Bool) : Ce := .v (.bool b)
def _root_.Go.Proofs.YtgkodncknlankaaGreatDoor.PteSpec.Pte.ce (p : Pte) : List Ce := [cb p.v, cb p.r, cb p.w, cb p.x, cb p.u, cb p.g, cb p.a, cb p.d, cu p.rsw, cu p.ppn, cu p.high]
theorem get_ok (a lo n : Int) (ha : U a) (l0 : 0 ≤ lo) (l1 : lo ≤ 64) (h0 : 0 ≤ n) (h : n ≤ 64) : Ok 124 [iu a, ii lo, ii n] (.m (iu (getI a lo n))) :=
  ok_plain #[.int .u64 a, .int .i64 lo, .int .i64 n] (.int .u64 (getI a lo n)) fun W _ => (get_calls a lo n W ha l0 l1 h0 h).mono fun _ _ ⟨e, q⟩ => ⟨e, q.below⟩
theorem set_ok (a lo n v : Int) (ha : U a) (hv : U v) (l0 : 0 ≤ lo) (l1 : lo ≤ 64) (h0 : 0 ≤ n) (h : n ≤ 64) : Ok 92 [iu a, ii lo, ii n, iu v] (.m (iu (setI a lo n v))) :=
  ok_plain #[.int .u64 a, .int .i64 lo, .int .i64 n, .int .u64 v] (.int .u64 (setI a lo n v)) fun W _ => (set_calls a lo n v W ha hv l0 l1 h0 h).mono fun _ _ ⟨e, q⟩ => ⟨e, q.below⟩
theorem even_ok (a b : Int) (ha : U a) (hb : U b) : Ok 37 [iu a, iu b] (.m (ib (evenI a b))) :=
  ok_plain #[.int .u64 a, .int .u64 b] (.bool (evenI a b)) fun W _ => (even_calls a b W ha hb).mono fun _ _ ⟨e, q⟩ => ⟨e, q.below⟩
theorem idx_ok (a l : Int) (ha : U a) (h0 : 0 ≤ l) (h2 : l ≤ 2) : Ok 84 [iu a, ii l] (.m (ii (idx a l))) :=
  ok_plain #[.int .u64 a, .int .i64 l] (.int .i64 (idx a l)) fun W _ => (VaC.idx_calls a l W ha.1 ha.2 h0 h2).mono fun _ _ ⟨e, q⟩ => ⟨e, q.below⟩
theorem of_ok (n : Int) (ha : U n) : Ok 44 [iu n] (.m (iu (ofv n))) :=
  ok_plain #[.int .u64 n] (.int .u64 (ofv n)) fun W _ => (VaC.of_calls n W ha.1 ha.2).mono fun _ _ ⟨e, q⟩ => ⟨e, q.below⟩
theorem vfits_ok (a l : Int) (ha : U a) (h0 : 0 ≤ l) (h2 : l ≤ 2) : Ok 83 [iu a, ii l] (.m (ib (fits a l))) :=
  ok_plain #[.int .u64 a, .int .i64 l] (.bool (fits a l)) fun W g => (VaC.fits_calls a l W ha.1 ha.2 h0 h2 g.s).mono fun _ _ ⟨e, q⟩ => ⟨e, q.below⟩
theorem vis_ok (a : Int) (ha : U a) : Ok 132 [iu a] (.m (ib (isv a))) :=
  ok_plain #[.int .u64 a] (.bool (isv a)) fun W g => (VaC.is_calls a W ha.1 ha.2).mono fun _ _ ⟨e, q⟩ => ⟨e, q.below⟩
theorem vnum_ok (a : Int) (ha : U a) : Ok 96 [iu a] (.m (iu (num a))) :=
  ok_plain #[.int .u64 a] (.int .u64 (num a)) fun W g => (VaC.num_calls a W ha.1 ha.2).mono fun _ _ ⟨e, q⟩ => ⟨e, q.below⟩
theorem place_ok (f i : Int) (hf : 0 ≤ f ∧ f < 1099511627776) (hi : 0 ≤ i ∧ i < 512) : Ok 90 [iu f, ii i] (.m (iu (f * 4096 + i * 8))) :=
  ok_plain #[.int .u64 f, .int .i64 i] (.int .u64 (f * 4096 + i * 8)) fun W _ => (TableC.place_calls f i W hf hi).mono fun _ _ ⟨e, q⟩ => ⟨e, q.below⟩
theorem pput_ok (p : Pte) (h : p.U) : Ok 88 [.ag p.ce] (.tu [iu (PteC.putE p), ii (PteC.putErr p)]) :=
  ok_plain #[.agg #[.bool p.v, .bool p.r, .bool p.w, .bool p.x, .bool p.u, .bool p.g, .bool p.a, .bool p.d, .int .u64 p.rsw, .int .u64 p.ppn, .int .u64 p.high]] (.tuple #[.int .u64 (PteC.putE p), .int .i64 (PteC.putErr p)])
    fun W _ => PteC.put_calls p.v p.r p.w p.x p.u p.g p.a p.d p.rsw p.ppn p.high W h.1 h.2.1 h.2.2
theorem plink_ok (p : Pte) : Ok 60 [.ag p.ce] (.m (ib (linkP p))) :=
  ok_plain #[.agg #[.bool p.v, .bool p.r, .bool p.w, .bool p.x, .bool p.u, .bool p.g, .bool p.a, .bool p.d, .int .u64 p.rsw, .int .u64 p.ppn, .int .u64 p.high]] (.bool (linkP p))
    fun W _ => PteC.link_calls p.v p.r p.w p.x p.u p.g p.a p.d p.rsw p.ppn p.high W
theorem pbad_ok (p : Pte) (h : p.U) (l : Int) (l0 : 0 ≤ l) (l2 : l ≤ 2) : Ok 94 [.ag p.ce, ii l] (.m (ib (badP p l))) :=
  ok_plain #[.agg #[.bool p.v, .bool p.r, .bool p.w, .bool p.x, .bool p.u, .bool p.g, .bool p.a, .bool p.d, .int .u64 p.rsw, .int .u64 p.ppn, .int .u64 p.high], .int .i64 l] (.bool (badP p l))
    fun W g => PteC.bad_calls p.v p.r p.w p.x p.u p.g p.a p.d p.rsw p.ppn p.high l W h.1 h.2.1 h.2.2 l0 l2 g.s
theorem pget_ok (x : Int) (hx : U x) : Ok 134 [iu x] (.m (.ag (pteOf x).ce)) :=
  ok_plain #[.int .u64 x] (.agg #[.bool (pteOf x).v, .bool (pteOf x).r, .bool (pteOf x).w, .bool (pteOf x).x, .bool (pteOf x).u, .bool (pteOf x).g, .bool (pteOf x).a, .bool (pteOf x).d, .int .u64 (pteOf x).rsw, .int .u64 (pteOf x).ppn, .int .u64 (pteOf x).high])
    fun W g => PteC.pget_calls x W hx
theorem memnew_ok (sz : Int) (hz : U sz) : Ok 66 [iu sz] (avV (MemNewC.newV sz)) :=
  ok_plain #[.int .u64 sz] (MemNewC.newV sz) fun W g => MemNewC.new_calls sz W hz
theorem poolnew_ok (b m : Int) (hb : U b) (hm : 0 ≤ m ∧ m ≤ 64) : Ok 67 [iu b, ii m] (avV (PoolC2.newV b m)) :=
  ok_plain #[.int .u64 b, .int .i64 m] (PoolC2.newV b m) fun W g => PoolC2.new_calls b m W hb hm
theorem asidnew_ok (m : Int) : Ok 68 [ii m] (avV (AsidC2.newV m)) :=
  ok_plain #[.int .i64 m] (AsidC2.newV m) fun W g => AsidC2.new_calls m W
theorem tz_ok (x : Int) (hx : U x) : Ok 128 [iu x] (.m (ii (tzI x))) :=
  ok_plain #[.int .u64 x] (.int .i64 (tzI x)) fun W g => (tz_calls x W hx (fun _ => g.t)).mono fun _ _ ⟨e, q⟩ => ⟨e, q.below⟩
theorem arg_mem {E : En} {sz : Int} {n k : Nat} {xs : List Value} {v : Value} (h : Cm.R E (.ag [cu sz, .s n k xs]) v) : ∃ u, v = .agg #[.int .u64 sz, u] ∧ Ce.R E (.s n k xs) u := by
  obtain ⟨vs, rfl, h⟩ := h
  obtain ⟨l⟩ := vs
  match l, h with
  | [a, b], h => exact ⟨b, by rw [show a = .int .u64 sz from h.1], h.2.1⟩
  | [], h => exact h.elim
  | [_], h => exact h.2.elim
  | _ :: _ :: _ :: _, h => exact h.2.2.elim
theorem args1 {E : En} {m : Cm} {vs : Array Value} (h : All2 (Cm.R E) [m] vs.toList) : ∃ v, vs = #[v] ∧ m.R E v := by
  obtain ⟨l⟩ := vs
  match l, h with
  | [a], h => exact ⟨a, rfl, h.1⟩
  | [], h => exact h.elim
  | _ :: _ :: _, h => exact h.2.elim
theorem args2 {E : En} {m n : Cm} {vs : Array Value} (h : All2 (Cm.R E) [m, n] vs.toList) : ∃ v u, vs = #[v, u] ∧ m.R E v ∧ n.R E u := by
  obtain ⟨l⟩ := vs
  match l, h with
  | [a, b], h => exact ⟨a, b, rfl, h.1, h.2.1⟩
  | [], h => exact h.elim
  | [_], h => exact h.2.elim
  | _ :: _ :: _ :: _, h => exact h.2.2.elim
theorem args4 {E : En} {m n o p : Cm} {vs : Array Value} (h : All2 (Cm.R E) [m, n, o, p] vs.toList) : ∃ v u x y, vs = #[v, u, x, y] ∧ m.R E v ∧ n.R E u ∧ o.R E x ∧ p.R E y := by
  obtain ⟨l⟩ := vs
  match l, h with
  | [a, b, c, d], h => exact ⟨a, b, c, d, rfl, h.1, h.2.1, h.2.2.1, h.2.2.2.1⟩
  | [], h => exact h.elim
  | [_], h => exact h.2.elim
  | [_, _], h => exact h.2.2.elim
  | [_, _, _], h => exact h.2.2.2.elim
  | _ :: _ :: _ :: _ :: _ :: _, h => exact h.2.2.2.2.elim
abbrev memA (sz : Int) (xs : List (Int × Int)) : Cm := .ag [cu sz, .s xs.length 2 (fl xs)]
theorem word_ok (sz : Int) (xs : List (Int × Int)) (a : Int) (ha : U a) (hs : Srt xs) : Ok 135 [memA sz xs, iu a] (.m (iu (wordM sz xs a))) :=
  callOk_calls rfl fun A W vs hG hR => by
    obtain ⟨v1, v2, rfl, h1, h2⟩ := args2 hR
    obtain ⟨u, rfl, hu⟩ := arg_mem h1
    obtain rfl : v2 = .int .u64 a := h2
    exact (word_calls sz u xs a W ha hs hu.1).mono fun e w' ⟨he, hb⟩ => ⟨_, he, hb, rfl⟩
theorem all2_two {E : En} {sz : Int} {c : Ce} {u : Value} (h : c.R E u) : Cm.R E (.ag [cu sz, c]) (.agg #[.int .u64 sz, u]) := ⟨_, rfl, rfl, h, trivial⟩
theorem store_ok (sz : Int) (xs : List (Int × Int)) (a n x : Int) (ha : U a) (hx : U x) (hs : Srt xs) (hu : Uw xs) (hbig : (xs.length + 1) * 16 ≤ 140737488355328) (hw : wrongI sz a n = 0) : Ok 89 [memA sz xs, iu a, ii n, iu x] (.tu [memA sz (storeM sz xs a n x), ii 0]) :=
  callOk_calls rfl fun A W vs hG hR => by
    obtain ⟨v1, v2, v3, v4, rfl, h1, h2, h3, h4⟩ := args4 hR
    obtain ⟨u, rfl, hu'⟩ := arg_mem h1
    obtain rfl : v2 = .int .u64 a := h2
    obtain rfl : v3 = .int .i64 n := h3
    obtain rfl : v4 = .int .u64 x := h4
    refine (store_calls sz u xs a n x W ha hx hs hu hbig hu'.1).mono ?_
    rintro e w' ⟨v', rfl, h5, hb⟩
    rw [if_pos hw] at h5
    rw [hw]
    exact ⟨_, rfl, hb, _, rfl, all2_two (own_s h5), rfl, trivial⟩
theorem store_no (sz : Int) (xs : List (Int × Int)) (a n x : Int) (ha : U a) (hx : U x) (hs : Srt xs) (hu : Uw xs) (hbig : (xs.length + 1) * 16 ≤ 140737488355328) (hw : wrongI sz a n ≠ 0) : Ok 89 [memA sz xs, iu a, ii n, iu x] (.tu [memA sz xs, ii (wrongI sz a n)]) :=
  callOk_calls rfl fun A W vs hG hR => by
    obtain ⟨v1, v2, v3, v4, rfl, h1, h2, h3, h4⟩ := args4 hR
    obtain ⟨u, rfl, hu'⟩ := arg_mem h1
    obtain rfl : v2 = .int .u64 a := h2
    obtain rfl : v3 = .int .i64 n := h3
    obtain rfl : v4 = .int .u64 x := h4
    refine (store_calls sz u xs a n x W ha hx hs hu hbig hu'.1).mono ?_
    rintro e w' ⟨v', rfl, h5, hb⟩
    rw [if_neg hw] at h5
    subst h5
    exact ⟨_, rfl, hb, _, rfl, all2_two (old_s hu' hb), rfl, trivial⟩
theorem fresh_ok (sz : Int) (xs : List (Int × Int)) (base many free : Int) (hb : 0 ≤ base ∧ base ≤ 268435456) (hm : 0 ≤ many ∧ many ≤ 64) (hr : U free) (hfr : free ≠ 0) (hs : Srt xs) (hbig : (xs.length + 1) * 32 ≤ 140737488355328) :
    Ok 70 [memA sz xs, .ag [cu base, ci many, cu free]] (.tu [memA sz (TableC.wipeM xs (base + tzI free)), .ag [cu base, ci many, cu (setI free (tzI free) 1 0)], iu (base + tzI free), ii 0]) :=
  callOk_calls rfl fun A W vs hG hR => by
    obtain ⟨v1, v2, rfl, h1, h2⟩ := args2 hR
    obtain ⟨u, rfl, hu'⟩ := arg_mem h1
    obtain rfl := plain_ag (xs := [.int .u64 base, .int .i64 many, .int .u64 free]) h2
    refine (TableC3.fresh_calls sz u xs base many free W hb hm hr hfr hG.t hs hbig hu'.1).mono ?_
    rintro e w' ⟨v', rfl, h5, hb'⟩
    exact ⟨_, rfl, hb', _, rfl, all2_two (own_s h5), ⟨_, rfl, rfl, rfl, rfl, trivial⟩, rfl, rfl, trivial⟩
theorem tlbnew_ok (n : Nat) (hn : n ≤ 16) (z : Value) (hz : (Tryz.prog.info? 203).bind (·.zero) = some z) : Ok 69 [ii n] (.tu [.ag [.s n 45 (madeCells z.cells (n * 45)).toList], ii 0]) :=
  callOk_calls rfl fun A W vs hG hR => by
    obtain ⟨v1, rfl, h1⟩ := args1 hR
    obtain rfl : v1 = .int .i64 n := h1
    refine (TlbNewC.new_calls n W hn z hz).mono ?_
    rintro e w' ⟨a, c, rfl, h5, hb'⟩
    exact ⟨_, rfl, hb', _, rfl, ⟨_, rfl, own_s h5, trivial⟩, rfl, trivial⟩
end Go.Proofs.YtgkodncknlankaaGreatDoor.OkS
/- The abstract walk: the small functions of the layers table, asid, space. -/
namespace Go.Proofs.YtgkodncknlankaaGreatDoor.SpA
open Go.RowKit Go.Proofs.YtgkodncknlankaaGreatDoor.Bv Go.Proofs.YtgkodncknlankaaGreatDoor.VaSpec Go.Proofs.YtgkodncknlankaaGreatDoor.Base Go.Proofs.YtgkodncknlankaaGreatDoor.MemL Go.Proofs.YtgkodncknlankaaGreatDoor.RegR Go.Proofs.YtgkodncknlankaaGreatDoor.Ax Go.Proofs.YtgkodncknlankaaGreatDoor.MemC Go.Proofs.YtgkodncknlankaaGreatDoor.PutC Go.Proofs.YtgkodncknlankaaGreatDoor.MemC3 Go.Proofs.YtgkodncknlankaaGreatDoor.TzC Go.Proofs.YtgkodncknlankaaGreatDoor.OkS
open Go.Proofs.YtgkodncknlankaaGreatDoor.BitsC Go.Proofs.YtgkodncknlankaaGreatDoor.PteSpec
set_option linter.unusedVariables false
set_option linter.unusedSimpArgs false
set_option maxRecDepth 10000
theorem fasid_ok (n : Int) : Ok 58 [iu n] (.m (.ag [cb false, cu 0, cb true, cu n])) := by
  refine callOk_of 5 Tryz.func58 rfl rfl rfl rfl ?_ GG.to
  intro W A hG
  repeat (first
    | (refine go_at rfl ?_; first
        | refine go_do (valid_mv (.inl rfl) rfl) rfl ?_
        | refine go_do (valid_alloc rfl rfl rfl rfl rfl) rfl ?_
        | (refine nxt_s 1 rfl ?_; refine go_do (valid_store_p rfl rfl rfl rfl rfl rfl (by first | kernel_rfl | rfl) rfl) (by first | kernel_rfl | rfl) ?_)
        | refine go_do (valid_build rfl rfl rfl rfl) rfl ?_)
    | (refine hK _ ?_; clear hK K)
    | refine aw_text rfl ?_
    | exact aw_ret (show resA _ _ _ = some _ by kernel_rfl)
    | refine aw_seq_k (fun K hK => ?_))
def withinB (n a b : Int) : Bool := decide (a ≤ n) && decide (n ≤ b)
theorem within_ok (n a b : Int) : Ok 81 [ii n, ii a, ii b] (.m (ib (withinB n a b))) := by
  by_cases h1 : a ≤ n
  · by_cases h2 : n ≤ b
    · rw [show withinB n a b = true by simp [withinB, h1, h2]]
      refine callOk_of 15 Tryz.func81 rfl rfl rfl rfl ?_ GG.to
      intro W A hG
      repeat (first
        | (refine go_at rfl ?_; first
            | refine go_do (valid_mv (.inl rfl) rfl) rfl ?_
            | refine go_do (valid_mv (.inr rfl) rfl) rfl ?_
            | refine go_do (valid_pick rfl rfl rfl) rfl ?_
            | refine go_do (valid_cmp rfl rfl rfl rfl (by first | exact .eql1 (by omega) | exact .eql0 (by omega) | exact .neq1 (by omega) | exact .neq0 (by omega) | exact .lss1 (by omega) | exact .lss0 (by omega) | exact .leq1 (by omega) | exact .leq0 (by omega) | exact .gtr1 (by omega) | exact .gtr0 (by omega) | exact .geq1 (by omega) | exact .geq0 (by omega) | constructor)) rfl ?_)
        | (refine hK _ ?_; clear hK K)
        | refine aw_text rfl ?_
        | exact aw_ret (show resA _ _ _ = some _ by kernel_rfl)
        | refine aw_seq_k (fun K hK => ?_))
    · rw [show withinB n a b = false by simp [withinB, h2]]
      refine callOk_of 15 Tryz.func81 rfl rfl rfl rfl ?_ GG.to
      intro W A hG
      repeat (first
        | (refine go_at rfl ?_; first
            | refine go_do (valid_mv (.inl rfl) rfl) rfl ?_
            | refine go_do (valid_mv (.inr rfl) rfl) rfl ?_
            | refine go_do (valid_pick rfl rfl rfl) rfl ?_
            | refine go_do (valid_cmp rfl rfl rfl rfl (by first | exact .eql1 (by omega) | exact .eql0 (by omega) | exact .neq1 (by omega) | exact .neq0 (by omega) | exact .lss1 (by omega) | exact .lss0 (by omega) | exact .leq1 (by omega) | exact .leq0 (by omega) | exact .gtr1 (by omega) | exact .gtr0 (by omega) | exact .geq1 (by omega) | exact .geq0 (by omega) | constructor)) rfl ?_)
        | (refine hK _ ?_; clear hK K)
        | refine aw_text rfl ?_
        | exact aw_ret (show resA _ _ _ = some _ by kernel_rfl)
        | refine aw_seq_k (fun K hK => ?_))
  · rw [show withinB n a b = false by simp [withinB, h1]]
    refine callOk_of 15 Tryz.func81 rfl rfl rfl rfl ?_ GG.to
    intro W A hG
    repeat (first
      | (refine go_at rfl ?_; first
          | refine go_do (valid_skip rfl) rfl ?_
          | refine go_do (valid_mv (.inl rfl) rfl) rfl ?_
          | refine go_do (valid_mv (.inr rfl) rfl) rfl ?_
          | refine go_do (valid_pick rfl rfl rfl) rfl ?_
          | refine go_do (valid_cmp rfl rfl rfl rfl (by first | exact .eql1 (by omega) | exact .eql0 (by omega) | exact .neq1 (by omega) | exact .neq0 (by omega) | exact .lss1 (by omega) | exact .lss0 (by omega) | exact .leq1 (by omega) | exact .leq0 (by omega) | exact .gtr1 (by omega) | exact .gtr0 (by omega) | exact .geq1 (by omega) | exact .geq0 (by omega) | constructor)) rfl ?_)
      | (refine hK _ ?_; clear hK K)
      | refine aw_text rfl ?_
      | exact aw_ret (show resA _ _ _ = some _ by kernel_rfl)
      | refine aw_seq_k (fun K hK => ?_))
theorem kaddr_ok : Ok 75 [] (.m (iu (ofv 133955584))) := by
  refine callOk_of 2 Tryz.func75 rfl rfl rfl rfl ?_ GG.to
  intro W A hG
  repeat (first
    | (refine go_at rfl ?_; first
        | refine go_do (valid_mv (.inr rfl) rfl) rfl ?_
        | refine go_do (valid_call rfl rfl rfl (of_ok _ ⟨by omega, by omega⟩) rfl) rfl ?_)
    | (refine hK _ ?_; clear hK K)
    | refine aw_text rfl ?_
    | exact aw_ret (show resA _ _ _ = some _ by kernel_rfl)
    | refine aw_seq_k (fun K hK => ?_))
def linksP (p : Pte) (l : Int) : Bool := linkP p && !badP p l
theorem links_ok (p : Pte) (h : p.U) (l : Int) (l0 : 0 ≤ l) (l2 : l ≤ 2) : Ok 86 [.ag p.ce, ii l] (.m (ib (linksP p l))) := by
  cases hl : linkP p with
  | false =>
    rw [show linksP p l = false by simp [linksP, hl]]
    refine callOk_of 13 Tryz.func86 rfl rfl rfl rfl ?_ GG.to
    intro W A hG
    repeat (first
      | (refine go_at rfl ?_; first
          | refine go_do (valid_skip rfl) rfl ?_
          | refine go_do (valid_mv (.inl rfl) rfl) rfl ?_
          | (refine nxt_s 1 rfl ?_; refine go_do (valid_load_p tb rfl rfl rfl rfl rfl (by first | kernel_rfl | rfl)) (by first | kernel_rfl | rfl) ?_)
          | refine go_do (valid_mv (.inr rfl) rfl) rfl ?_
          | refine go_do (valid_pick rfl rfl rfl) rfl ?_
          | refine go_do (valid_box rfl rfl rfl rfl rfl rfl) rfl ?_
          | refine go_do (valid_call rfl rfl rfl (hl ▸ plink_ok p) rfl) rfl ?_)
      | (refine hK _ ?_; clear hK K)
      | refine aw_text rfl ?_
      | exact aw_ret (show resA _ _ _ = some _ by kernel_rfl)
      | refine aw_seq_k (fun K hK => ?_))
  | true =>
    rw [show linksP p l = !badP p l by simp [linksP, hl]]
    refine callOk_of 13 Tryz.func86 rfl rfl rfl rfl ?_ GG.to
    intro W A hG
    repeat (first
      | (refine go_at rfl ?_; first
          | refine go_do (valid_mv (.inl rfl) rfl) rfl ?_
          | (refine nxt_s 1 rfl ?_; refine go_do (valid_load_p tb rfl rfl rfl rfl rfl (by first | kernel_rfl | rfl)) (by first | kernel_rfl | rfl) ?_)
          | refine go_do (valid_mv (.inr rfl) rfl) rfl ?_
          | refine go_do (valid_pick rfl rfl rfl) rfl ?_
          | refine go_do (valid_box rfl rfl rfl rfl rfl rfl) rfl ?_
          | refine go_do (valid_not rfl rfl rfl) rfl ?_
          | refine go_do (valid_call rfl rfl rfl (hl ▸ plink_ok p) rfl) rfl ?_
          | refine go_do (valid_call rfl rfl rfl (pbad_ok p h l l0 l2) rfl) rfl ?_)
      | (refine hK _ ?_; clear hK K)
      | refine aw_text rfl ?_
      | exact aw_ret (show resA _ _ _ = some _ by kernel_rfl)
      | refine aw_seq_k (fun K hK => ?_))
end Go.Proofs.YtgkodncknlankaaGreatDoor.SpA
/- The abstract walk: kernels, as plain data; the small functions of the layer space. -/
namespace Go.Proofs.YtgkodncknlankaaGreatDoor.SpB
open Go.RowKit Go.Proofs.YtgkodncknlankaaGreatDoor.Bv Go.Proofs.YtgkodncknlankaaGreatDoor.VaSpec Go.Proofs.YtgkodncknlankaaGreatDoor.Base Go.Proofs.YtgkodncknlankaaGreatDoor.MemL Go.Proofs.YtgkodncknlankaaGreatDoor.RegR Go.Proofs.YtgkodncknlankaaGreatDoor.Ax Go.Proofs.YtgkodncknlankaaGreatDoor.MemC Go.Proofs.YtgkodncknlankaaGreatDoor.PutC Go.Proofs.YtgkodncknlankaaGreatDoor.MemC3 Go.Proofs.YtgkodncknlankaaGreatDoor.TzC Go.Proofs.YtgkodncknlankaaGreatDoor.OkS Go.Proofs.YtgkodncknlankaaGreatDoor.SpA
open Go.Proofs.YtgkodncknlankaaGreatDoor.BitsC Go.Proofs.YtgkodncknlankaaGreatDoor.PteSpec
set_option linter.unusedVariables false
set_option linter.unusedSimpArgs false
set_option maxRecDepth 10000
set_option maxHeartbeats 1000000
structure Sp where
  root : Int
  asid : Int
  live : Bool
deriving DecidableEq
structure Fe where
  ha : Bool
  ad : Int
  hs : Bool
  sn : Int
deriving DecidableEq
def Sp.vs (s : Sp) : List Value := [.int .u64 s.root, .int .u64 s.asid, .bool s.live]
def Fe.vs (f : Fe) : List Value := [.bool f.ha, .int .u64 f.ad, .bool f.hs, .int .u64 f.sn]
def flS (l : List Sp) : List Value := l.flatMap Sp.vs
def flF (l : List Fe) : List Value := l.flatMap Fe.vs
/-- a kernel -/
structure Kr where
  cd : Int
  cp : Int
  ca : Int
  cs : Int
  sz : Int
  m : List (Int × Int)
  tn : Nat
  ts : List Value
  sm : Int
  sa : Int
  sp : Int
  priv : Int
  su : Bool
  mx : Bool
  vic : Int
  pb : Int
  pm : Int
  pf : Int
  am : Int
  af : Int
  ao : Int
  ss : List Sp
  now : Int
  sh : Int
  fs : List Fe
def Kr.ce (k : Kr) : List Ce := [ci k.cd, ci k.cp, ci k.ca, ci k.cs, cu k.sz, .s k.m.length 2 (fl k.m), .s k.tn 45 k.ts, cu k.sm, cu k.sa, cu k.sp, ci k.priv, cb k.su, cb k.mx, ci k.vic, cu k.pb, ci k.pm, cu k.pf, ci k.am, cu k.af, cu k.ao, .s k.ss.length 3 (flS k.ss), ci k.now, cu k.sh, .s k.fs.length 4 (flF k.fs)]
theorem flat_at {α : Type} (f : α → List Value) (k : Nat) (hk : ∀ a, (f a).length = k) : ∀ (l : List α) (i : Nat) (a : α), l[i]? = some a → ((l.flatMap f).drop (i * k)).take k = f a
  | [], i, a, h => by simp at h
  | x :: l, 0, a, h => by
    simp at h; subst h
    simp only [Nat.zero_mul, List.drop_zero, List.flatMap_cons]
    rw [← hk x]; simp
  | x :: l, i + 1, a, h => by
    have e : (i + 1) * k = (f x).length + i * k := by rw [hk, Nat.succ_mul]; omega
    rw [List.flatMap_cons, e, ← List.drop_drop]
    simp only [List.drop_left]
    exact flat_at f k hk l i a (by simpa using h)
theorem flS_at {l : List Sp} {i : Int} {s : Sp} (h : l[i.toNat]? = some s) : ((flS l).drop (i.toNat * 3)).take 3 = [.int .u64 s.root, .int .u64 s.asid, .bool s.live] := flat_at Sp.vs 3 (fun _ => rfl) l _ s h
def livesB (k : Kr) (id : Int) : Bool := decide (0 ≤ id) && (match k.ss[id.toNat]? with | some s => s.live | none => false)
theorem lives_ok (k : Kr) (id : Int) : Ok 82 [.ag k.ce, ii id] (.m (ib (livesB k id))) := by
  by_cases h0 : 0 ≤ id
  · by_cases h : id < k.ss.length
    · obtain ⟨s, hs⟩ : ∃ s, k.ss[id.toNat]? = some s := ⟨_, List.getElem?_eq_getElem (by omega)⟩
      have hx := flS_at hs
      rw [show livesB k id = s.live by simp [livesB, h0, hs]]
      refine callOk_of 22 Tryz.func82 rfl rfl rfl rfl ?_ GG.to
      intro W A hG
      repeat (first
        | (refine go_at rfl ?_; first
            | refine go_do (valid_mv (.inl rfl) rfl) rfl ?_
            | (refine nxt_s 1 rfl ?_; refine go_do (valid_load_p tb rfl rfl rfl rfl rfl (by first | kernel_rfl | rfl)) (by first | kernel_rfl | rfl) ?_)
            | (refine nxt_s 1 rfl ?_; refine go_do (valid_fld_p tb rfl rfl rfl (by kernel_rfl)) rfl ?_)
            | refine go_do (valid_mv (.inr rfl) rfl) rfl ?_
            | refine go_do (valid_pick rfl rfl rfl) rfl ?_
            | refine go_do (valid_cmp rfl rfl rfl rfl (by first | exact .eql1 (by omega) | exact .eql0 (by omega) | exact .neq1 (by omega) | exact .neq0 (by omega) | exact .lss1 (by omega) | exact .lss0 (by omega) | exact .leq1 (by omega) | exact .leq0 (by omega) | exact .gtr1 (by omega) | exact .gtr0 (by omega) | exact .geq1 (by omega) | exact .geq0 (by omega) | constructor)) rfl ?_
            | refine go_do (valid_box rfl rfl rfl rfl rfl rfl) rfl ?_
            | refine go_do (valid_len_s rfl rfl rfl rfl) rfl ?_
            | (refine nxt_s 3 rfl ?_; refine go_do (valid_load_q tb rfl rfl rfl rfl (by first | kernel_rfl | rfl)) rfl ?_)
            | (refine nxt_s 3 rfl ?_; refine go_do (valid_fld_q tb rfl rfl rfl rfl) rfl ?_)
            | (refine nxt_s 4 rfl ?_; refine go_do (valid_idx_s rfl rfl rfl rfl rfl rfl (by omega) (by omega) _ (by assumption)) rfl ?_))
        | (refine hK _ ?_; clear hK K)
        | refine aw_text rfl ?_
        | exact aw_ret (show resA _ _ _ = some _ by kernel_rfl)
        | refine aw_seq_k (fun K hK => ?_))
    · rw [show livesB k id = false by simp [livesB, List.getElem?_eq_none (show k.ss.length ≤ id.toNat by omega)]]
      refine callOk_of 22 Tryz.func82 rfl rfl rfl rfl ?_ GG.to
      intro W A hG
      repeat (first
        | (refine go_at rfl ?_; first
            | refine go_do (valid_skip rfl) rfl ?_
            | refine go_do (valid_mv (.inl rfl) rfl) rfl ?_
            | (refine nxt_s 1 rfl ?_; refine go_do (valid_load_p tb rfl rfl rfl rfl rfl (by first | kernel_rfl | rfl)) (by first | kernel_rfl | rfl) ?_)
            | (refine nxt_s 1 rfl ?_; refine go_do (valid_fld_p tb rfl rfl rfl (by kernel_rfl)) rfl ?_)
            | refine go_do (valid_mv (.inr rfl) rfl) rfl ?_
            | refine go_do (valid_pick rfl rfl rfl) rfl ?_
            | refine go_do (valid_cmp rfl rfl rfl rfl (by first | exact .eql1 (by omega) | exact .eql0 (by omega) | exact .neq1 (by omega) | exact .neq0 (by omega) | exact .lss1 (by omega) | exact .lss0 (by omega) | exact .leq1 (by omega) | exact .leq0 (by omega) | exact .gtr1 (by omega) | exact .gtr0 (by omega) | exact .geq1 (by omega) | exact .geq0 (by omega) | constructor)) rfl ?_
            | refine go_do (valid_box rfl rfl rfl rfl rfl rfl) rfl ?_
            | refine go_do (valid_len_s rfl rfl rfl rfl) rfl ?_)
        | (refine hK _ ?_; clear hK K)
        | refine aw_text rfl ?_
        | exact aw_ret (show resA _ _ _ = some _ by kernel_rfl)
        | refine aw_seq_k (fun K hK => ?_))
  · rw [show livesB k id = false by simp [livesB, h0]]
    refine callOk_of 22 Tryz.func82 rfl rfl rfl rfl ?_ GG.to
    intro W A hG
    repeat (first
      | (refine go_at rfl ?_; first
          | refine go_do (valid_skip rfl) rfl ?_
          | refine go_do (valid_mv (.inl rfl) rfl) rfl ?_
          | refine go_do (valid_mv (.inr rfl) rfl) rfl ?_
          | refine go_do (valid_pick rfl rfl rfl) rfl ?_
          | refine go_do (valid_cmp rfl rfl rfl rfl (by first | exact .eql1 (by omega) | exact .eql0 (by omega) | exact .neq1 (by omega) | exact .neq0 (by omega) | exact .lss1 (by omega) | exact .lss0 (by omega) | exact .leq1 (by omega) | exact .leq0 (by omega) | exact .gtr1 (by omega) | exact .gtr0 (by omega) | exact .geq1 (by omega) | exact .geq0 (by omega) | constructor)) rfl ?_
          | refine go_do (valid_box rfl rfl rfl rfl rfl rfl) rfl ?_)
      | (refine hK _ ?_; clear hK K)
      | refine aw_text rfl ?_
      | exact aw_ret (show resA _ _ _ = some _ by kernel_rfl)
      | refine aw_seq_k (fun K hK => ?_))
def swK (k : Kr) (id : Int) (s : Sp) : Kr := { k with now := id, sm := 8, sa := s.asid, sp := s.root }
def offK (k : Kr) : Kr := { k with now := -1, sm := 0, sa := 0, sp := 0 }
def withM (sz : Int) (xs : List (Int × Int)) (t i : Int) (p : Pte) : List (Int × Int) := if wrongI sz (t * 4096 + i * 8) 8 = 0 then storeM sz xs (t * 4096 + i * 8) 8 (PteC.putE p) else xs
end Go.Proofs.YtgkodncknlankaaGreatDoor.SpB
/- The abstract walk: table.With, asid.Take, configurations, Where, fences' names. -/
namespace Go.Proofs.YtgkodncknlankaaGreatDoor.SpC
open Go.RowKit Go.Proofs.YtgkodncknlankaaGreatDoor.Bv Go.Proofs.YtgkodncknlankaaGreatDoor.VaSpec Go.Proofs.YtgkodncknlankaaGreatDoor.Base Go.Proofs.YtgkodncknlankaaGreatDoor.MemL Go.Proofs.YtgkodncknlankaaGreatDoor.RegR Go.Proofs.YtgkodncknlankaaGreatDoor.Ax Go.Proofs.YtgkodncknlankaaGreatDoor.MemC Go.Proofs.YtgkodncknlankaaGreatDoor.PutC Go.Proofs.YtgkodncknlankaaGreatDoor.MemC3 Go.Proofs.YtgkodncknlankaaGreatDoor.TzC Go.Proofs.YtgkodncknlankaaGreatDoor.OkS Go.Proofs.YtgkodncknlankaaGreatDoor.SpA Go.Proofs.YtgkodncknlankaaGreatDoor.SpB
open Go.Proofs.YtgkodncknlankaaGreatDoor.BitsC Go.Proofs.YtgkodncknlankaaGreatDoor.PteSpec
set_option linter.unusedVariables false
set_option linter.unusedSimpArgs false
set_option maxRecDepth 10000
set_option maxHeartbeats 1000000
theorem idx_bd (a l : Int) : 0 ≤ idx a l ∧ idx a l < 512 := by unfold idx; omega
theorem putE_U (p : Pte) (h : p.U) : U (PteC.putE p) := by
  unfold PteC.putE
  by_cases hm : mayP p = true
  · rw [if_pos hm]; exact word_bd p h hm
  · rw [if_neg hm]; exact ⟨by omega, by omega⟩
def spotC (t l : Int) (q : Pte) : List Ce := [cu t, ci l, cb q.v, cb q.r, cb q.w, cb q.x, cb q.u, cb q.g, cb q.a, cb q.d, cu q.rsw, cu q.ppn, cu q.high]
theorem with_ok (sz : Int) (xs : List (Int × Int)) (t l : Int) (q : Pte) (addr : Int) (p : Pte) (ha : U addr) (hp : p.U) (l0 : 0 ≤ l) (l2 : l ≤ 2) (ht : 0 ≤ t ∧ t < 1099511627776) (hs : Srt xs) (hu : Uw xs) (hbig : (xs.length + 1) * 16 ≤ 140737488355328) :
    Ok 42 [memA sz xs, .ag (spotC t l q), iu addr, .ag p.ce] (.m (memA sz (withM sz xs t (idx addr l) p))) := by
  have hi := idx_bd addr l
  have hU : U (t * 4096 + idx addr l * 8) := ⟨by omega, by omega⟩
  by_cases hw : wrongI sz (t * 4096 + idx addr l * 8) 8 = 0
  · rw [show withM sz xs t (idx addr l) p = storeM sz xs (t * 4096 + idx addr l * 8) 8 (PteC.putE p) by unfold withM; rw [if_pos hw]]
    refine callOk_of 32 Tryz.func42 rfl rfl rfl rfl ?_ GG.to
    intro W A hG
    repeat (first
      | (refine go_at rfl ?_; first
          | refine go_do (valid_mv (.inl rfl) rfl) rfl ?_
          | (refine nxt_s 1 rfl ?_; refine go_do (valid_load_p tb rfl rfl rfl rfl rfl (by first | kernel_rfl | rfl)) (by first | kernel_rfl | rfl) ?_)
          | (refine nxt_s 1 rfl ?_; refine go_do (valid_fld_p tb rfl rfl rfl (by kernel_rfl)) rfl ?_)
          | refine go_do (valid_mv (.inr rfl) rfl) rfl ?_
          | refine go_do (valid_extract rfl rfl rfl rfl) rfl ?_
          | refine go_do (valid_box rfl rfl rfl rfl rfl rfl) rfl ?_
          | refine go_do (valid_alloc rfl rfl rfl rfl rfl) rfl ?_
          | (refine nxt_s 1 rfl ?_; refine go_do (valid_store_p rfl rfl rfl rfl rfl rfl (by first | kernel_rfl | rfl) rfl) (by first | kernel_rfl | rfl) ?_)
          | refine go_do (valid_call rfl rfl rfl (pput_ok p hp) rfl) rfl ?_
          | refine go_do (valid_call rfl rfl rfl (idx_ok addr l ha l0 l2) rfl) rfl ?_
          | refine go_do (valid_call rfl rfl rfl (place_ok t _ ht hi) rfl) rfl ?_
          | refine go_do (valid_call rfl rfl rfl (store_ok sz xs _ 8 _ hU (putE_U p hp) hs hu hbig hw) rfl) rfl ?_)
      | (refine hK _ ?_; clear hK K)
      | refine aw_text rfl ?_
      | refine aw_any (by kernel_rfl) (by kernel_rfl) rfl ?_
      | exact aw_ret (show resA _ _ _ = some _ by kernel_rfl)
      | refine aw_seq_k (fun K hK => ?_))
  · rw [show withM sz xs t (idx addr l) p = xs by unfold withM; rw [if_neg hw]]
    refine callOk_of 32 Tryz.func42 rfl rfl rfl rfl ?_ GG.to
    intro W A hG
    repeat (first
      | (refine go_at rfl ?_; first
          | refine go_do (valid_mv (.inl rfl) rfl) rfl ?_
          | (refine nxt_s 1 rfl ?_; refine go_do (valid_load_p tb rfl rfl rfl rfl rfl (by first | kernel_rfl | rfl)) (by first | kernel_rfl | rfl) ?_)
          | (refine nxt_s 1 rfl ?_; refine go_do (valid_fld_p tb rfl rfl rfl (by kernel_rfl)) rfl ?_)
          | refine go_do (valid_mv (.inr rfl) rfl) rfl ?_
          | refine go_do (valid_extract rfl rfl rfl rfl) rfl ?_
          | refine go_do (valid_box rfl rfl rfl rfl rfl rfl) rfl ?_
          | refine go_do (valid_alloc rfl rfl rfl rfl rfl) rfl ?_
          | (refine nxt_s 1 rfl ?_; refine go_do (valid_store_p rfl rfl rfl rfl rfl rfl (by first | kernel_rfl | rfl) rfl) (by first | kernel_rfl | rfl) ?_)
          | refine go_do (valid_call rfl rfl rfl (pput_ok p hp) rfl) rfl ?_
          | refine go_do (valid_call rfl rfl rfl (idx_ok addr l ha l0 l2) rfl) rfl ?_
          | refine go_do (valid_call rfl rfl rfl (place_ok t _ ht hi) rfl) rfl ?_
          | refine go_do (valid_call rfl rfl rfl (store_no sz xs _ 8 _ hU (putE_U p hp) hs hu hbig hw) rfl) rfl ?_)
      | (refine hK _ ?_; clear hK K)
      | refine aw_text rfl ?_
      | refine aw_any (by kernel_rfl) (by kernel_rfl) rfl ?_
      | exact aw_ret (show resA _ _ _ = some _ by kernel_rfl)
      | refine aw_seq_k (fun K hK => ?_))
theorem eq_asids (w : World) (x0 y0 x1 y1 x2 y2 : Int) :
    (Op.equalIn 10000 45 (.agg #[.int .i64 x0, .int .u64 x1, .int .u64 x2]) (.agg #[.int .i64 y0, .int .u64 y1, .int .u64 y2])).run Tryz.prog w = .ok (x0 == y0 && (x1 == y1 && (x2 == y2 && true))) w := by
  refine PoolC4.struct_of Tryz.underlying45 (by kernel_rfl) ?_
  refine PoolC4.fields_cons (by rfl) (by go_simp; rfl) (by go_simp; rfl) (by go_simp) ?_
  refine PoolC4.fields_cons (by rfl) (by go_simp; rfl) (by go_simp; rfl) (by go_simp) ?_
  exact PoolC4.fields_cons (by rfl) (by go_simp; rfl) (by go_simp; rfl) (by go_simp) PoolC4.fields_nil
theorem atake_no (m o : Int) : Ok 74 [.ag [ci m, cu 0, cu o]] (.tu [.ag [ci m, cu 0, cu o], iu 0, ib false, ii 9]) := by
  refine callOk_of 39 Tryz.func74 rfl rfl rfl rfl ?_ GG.to
  intro W A hG
  have he : ∀ w, (Op.equalIn 10000 45 (.agg #[.int .i64 m, .int .u64 0, .int .u64 o]) (.agg #[.int .i64 m, .int .u64 0, .int .u64 o])).run Tryz.prog w = .ok true w := fun w => by rw [eq_asids]; simp
  repeat (first
    | (refine go_at rfl ?_; first
        | (refine nxt_s 1 rfl ?_; refine go_do (valid_load_p tb rfl rfl rfl rfl rfl (by first | kernel_rfl | rfl)) (by first | kernel_rfl | rfl) ?_)
        | (refine nxt_s 1 rfl ?_; refine go_do (valid_fld_p tb rfl rfl rfl (by kernel_rfl)) rfl ?_)
        | refine go_do (valid_mv (.inr rfl) rfl) rfl ?_
        | refine go_do (valid_box rfl rfl rfl rfl rfl rfl) rfl ?_
        | refine go_do (valid_alloc rfl rfl rfl rfl rfl) rfl ?_
        | (refine nxt_s 1 rfl ?_; refine go_do (valid_store_p rfl rfl rfl rfl rfl rfl (by first | kernel_rfl | rfl) rfl) (by first | kernel_rfl | rfl) ?_)
        | refine go_do (valid_build rfl rfl rfl rfl) rfl ?_
        | refine go_do (valid_eql (us := [.int .i64 m, .int .u64 0, .int .u64 o]) (vs := [.int .i64 m, .int .u64 0, .int .u64 o]) he (by kernel_rfl) rfl rfl rfl rfl) rfl ?_)
    | (refine hK _ ?_; clear hK K)
    | refine aw_text rfl ?_
    | exact aw_ret (show resA _ _ _ = some _ by kernel_rfl)
    | refine aw_cond1 rfl rfl ?_
    | refine aw_seq_k (fun K hK => ?_))
def takeA1 (f : Int) : Int := setI f (tzI f) 1 0
def takeA2 (f o : Int) : Int := setI o (tzI f) 1 1
theorem tz_bd {f : Int} (hf : U f) (h0 : f ≠ 0) : 0 ≤ tzI f ∧ tzI f < 64 := by
  have := PoolC4.tz_lt hf h0; omega
theorem atake_ok (m f o : Int) (hf : U f) (ho : U o) (h0 : f ≠ 0) : Ok 74 [.ag [ci m, cu f, cu o]] (.tu [.ag [ci m, cu (takeA1 f), cu (takeA2 f o)], iu (tzI f + 1), ib (getI o (tzI f) 1 == 1), ii 0]) := by
  have t1 := tz_bd hf h0
  refine callOk_of 39 Tryz.func74 rfl rfl rfl rfl ?_ GG.to
  intro W A hG
  have he : ∀ w, (Op.equalIn 10000 45 (.agg #[.int .i64 m, .int .u64 f, .int .u64 o]) (.agg #[.int .i64 m, .int .u64 0, .int .u64 o])).run Tryz.prog w = .ok false w := fun w => by rw [eq_asids]; simp [h0]
  repeat (first
    | (refine go_at rfl ?_; first
        | refine go_do (valid_mv (.inl rfl) rfl) rfl ?_
        | (refine nxt_s 1 rfl ?_; refine go_do (valid_load_p tb rfl rfl rfl rfl rfl (by first | kernel_rfl | rfl)) (by first | kernel_rfl | rfl) ?_)
        | (refine nxt_s 1 rfl ?_; refine go_do (valid_fld_p tb rfl rfl rfl (by kernel_rfl)) rfl ?_)
        | refine go_do (valid_mv (.inr rfl) rfl) rfl ?_
        | refine go_do (valid_cmp rfl rfl rfl rfl (by first | exact .eql1 (by omega) | exact .eql0 (by omega) | exact .neq1 (by omega) | exact .neq0 (by omega) | exact .lss1 (by omega) | exact .lss0 (by omega) | exact .leq1 (by omega) | exact .leq0 (by omega) | exact .gtr1 (by omega) | exact .gtr0 (by omega) | exact .geq1 (by omega) | exact .geq0 (by omega) | constructor)) rfl ?_
        | refine go_do (valid_ar rfl rfl rfl rfl (by constructor) (by first | exact wr_u64 (by omega) (by omega) | exact wr_i64 (by omega) (by omega) | rfl)) rfl ?_
        | refine go_do (valid_cv rfl rfl rfl rfl rfl (by first | exact wr_u64 (by omega) (by omega) | exact wr_i64 (by omega) (by omega) | rfl)) rfl ?_
        | refine go_do (valid_box rfl rfl rfl rfl rfl rfl) rfl ?_
        | refine go_do (valid_alloc rfl rfl rfl rfl rfl) rfl ?_
        | (refine nxt_s 1 rfl ?_; refine go_do (valid_store_p rfl rfl rfl rfl rfl rfl (by first | kernel_rfl | rfl) rfl) (by first | kernel_rfl | rfl) ?_)
        | refine go_do (valid_build rfl rfl rfl rfl) rfl ?_
        | refine go_do (valid_eql (us := [.int .i64 m, .int .u64 f, .int .u64 o]) (vs := [.int .i64 m, .int .u64 0, .int .u64 o]) he (by kernel_rfl) rfl rfl rfl rfl) rfl ?_
        | refine go_do (valid_call rfl rfl rfl (tz_ok f hf) rfl) rfl ?_
        | refine go_do (valid_call rfl rfl rfl (get_ok o (tzI f) 1 ho t1.1 (by omega) (by omega) (by omega)) rfl) rfl ?_
        | refine go_do (valid_call rfl rfl rfl (set_ok f (tzI f) 1 0 hf ⟨by omega, by omega⟩ t1.1 (by omega) (by omega) (by omega)) rfl) rfl ?_
        | refine go_do (valid_call rfl rfl rfl (set_ok o (tzI f) 1 1 ho ⟨by omega, by omega⟩ t1.1 (by omega) (by omega) (by omega)) rfl) rfl ?_)
    | (refine hK _ ?_; clear hK K)
    | refine aw_text rfl ?_
    | refine aw_any (by kernel_rfl) (by kernel_rfl) rfl ?_
    | exact aw_ret (show resA _ _ _ = some _ by kernel_rfl)
    | refine aw_cond0 rfl rfl ?_
    | refine aw_skip ?_
    | refine aw_seq_k (fun K hK => ?_))
end Go.Proofs.YtgkodncknlankaaGreatDoor.SpC
/- table.entries, and table.Frames, of a table that holds nothing. -/
namespace Go.Proofs.YtgkodncknlankaaGreatDoor.IterC
open Go.RowKit Go.Shelf Go.Proofs.YtgkodncknlankaaGreatDoor.Bv Go.Proofs.YtgkodncknlankaaGreatDoor.Base Go.Proofs.YtgkodncknlankaaGreatDoor.MemL Go.Proofs.YtgkodncknlankaaGreatDoor.MemC Go.Proofs.YtgkodncknlankaaGreatDoor.PutC Go.Proofs.YtgkodncknlankaaGreatDoor.TableC
open Go.Proofs.YtgkodncknlankaaGreatDoor.BitsC
set_option linter.unusedVariables false
set_option linter.unusedSimpArgs false
set_option maxRecDepth 20000
open Go.Proofs.YtgkodncknlankaaGreatDoor.Ax Go.Proofs.YtgkodncknlankaaGreatDoor.OkS
end Go.Proofs.YtgkodncknlankaaGreatDoor.IterC
/- The abstract walk: an own row is handed to a function whose answer may hold slices: nobody writes it any more. -/
namespace Go.Proofs.YtgkodncknlankaaGreatDoor.Ax
open Go.RowKit Go.Proofs.YtgkodncknlankaaGreatDoor.MemL Go.Proofs.YtgkodncknlankaaGreatDoor.RegR
set_option linter.unusedVariables false
set_option linter.unusedSimpArgs false
variable {P : Program} {ops : Array Oper} {X : Cx} {o : Oper} {S : St}
def offH (b : Nat) (h : Nat → Hs) : Nat → Hs := upd [(b, .dead)] h
theorem off_at (b : Nat) (h : Nat → Hs) : offH b h b = .dead := by
  show cond (Nat.beq b b) (put1 .dead (h b)) (h b) = .dead
  rw [Nat.beq_refl]; rfl
theorem off_ne {b i : Nat} (h : Nat → Hs) (e : i ≠ b) : offH b h i = h i := by
  show cond (Nat.beq i b) (put1 .dead (h i)) (h i) = h i
  rw [beq_false e]; rfl
theorem off_alive {b i : Nat} {h : Nat → Hs} (k : alive (offH b h) i) : i ≠ b ∧ alive h i := by
  obtain ⟨q, hq⟩ := k
  by_cases e : i = b
  · subst e; rw [off_at] at hq; cases hq
  · rw [off_ne h e] at hq; exact ⟨e, q, hq⟩
theorem off_le {b : Nat} {h : Nat → Hs} {τ : Nat → Value} {w w' : World} (hb : Below w.heap.size w w') : (env X h τ w).le (env X (offH b h) τ w') := by
  refine ⟨fun i hi => ⟨?_, rfl⟩, fun g _ ha => ⟨ha.1, fun i hi => ha.2 i (off_alive hi).2⟩, hb.size, fun g o hg _ => hb.cell (p := ⟨g, o, none⟩) hg⟩
  have hi : h i ≠ .fresh := hi
  show offH b h i ≠ .fresh
  by_cases e : i = b
  · subst e; rw [off_at]; intro e; cases e
  · rw [off_ne h e]; exact hi
theorem off_R {b e k n : Nat} {xs : List Value} {τ : Nat → Value} {a : Act} {w : World} (h : SimT X S τ a w) (hb : S.hp b = .live (.row e k n xs)) : ∀ (c : Ce) (v : Value), (idC c).all (Nat.beq · b) = true → c.R (env X S.hp τ w) v → (shut S.hp c).R (env X (offH b S.hp) τ w) v := fun c v hc hR => by
  have wk : ∀ (c : Ce), c.R (env X S.hp τ w) v → c.R (env X (offH b S.hp) τ w) v := fun c hR => ceR_le (off_le (Below.refl _ _)) _ _ hR
  unfold shut
  split
  · rename_i i
    simp only [idC, List.all_cons, List.all_nil, Bool.and_true] at hc
    obtain rfl := Nat.eq_of_beq_eq_true hc
    rw [hb]
    obtain ⟨_, hv⟩ := hR
    have hv : v = τ i := hv
    subst hv
    have hr : w.ownsRow X.base e k (τ i) n xs := h.hp i _ hb
    refine ⟨Sl.of_owns hr, fun ad l c e' => ⟨.inr (World.ownsRow.lt hr ad.block (by rw [e']; rfl)).1, fun j hj ho => ?_⟩⟩
    obtain ⟨hne, hj⟩ := off_alive hj
    exact h.sep j i ad.block hne hj ⟨_, hb⟩ ho (by rw [e']; rfl)
  · exact wk _ hR
theorem off_Rm {b e k n : Nat} {xs : List Value} {τ : Nat → Value} {a : Act} {w : World} (h : SimT X S τ a w) (hb : S.hp b = .live (.row e k n xs)) : ∀ (c : Cm) (v : Value), (idM c).all (Nat.beq · b) = true → c.R (env X S.hp τ w) v → (shutM S.hp c).R (env X (offH b S.hp) τ w) v
  | .c x, v, hc, hR => off_R h hb x v hc hR
  | .ag cs, v, hc, ⟨vs, e, hR⟩ => by
    refine ⟨vs, e, ?_⟩
    have : ∀ (cs : List Ce) (vs : List Value), (cs.flatMap idC).all (Nat.beq · b) = true → All2 (Ce.R (env X S.hp τ w)) cs vs → All2 (Ce.R (env X (offH b S.hp) τ w)) (cs.map (shut S.hp)) vs := by
      intro cs
      induction cs with
      | nil => intro vs _ h; cases vs with | nil => trivial | cons _ _ => exact h.elim
      | cons c cs ih =>
        intro vs hc k
        rw [List.flatMap_cons, List.all_append, Bool.and_eq_true] at hc
        cases vs with | nil => exact k.elim | cons v vs => exact ⟨off_R h hb c v hc.1 k.1, ih vs hc.2 k.2⟩
    exact this cs _ hc hR
theorem off_Rs {b e k n : Nat} {xs : List Value} {τ : Nat → Value} {a : Act} {w : World} (h : SimT X S τ a w) (hb : S.hp b = .live (.row e k n xs)) : ∀ (l : List Cm) (vs : List Value), (l.flatMap idM).all (Nat.beq · b) = true → All2 (Cm.R (env X S.hp τ w)) l vs → All2 (Cm.R (env X (offH b S.hp) τ w)) (l.map (shutM S.hp)) vs
  | [], [], _, _ => trivial
  | m :: l, v :: vs, hc, k => by
    rw [List.flatMap_cons, List.all_append, Bool.and_eq_true] at hc
    exact ⟨off_Rm h hb m v hc.1 k.1, off_Rs h hb l vs hc.2 k.2⟩
  | [], _ :: _, _, h => h.elim
  | _ :: _, [], _, h => h.elim
theorem off_bk {b : Nat} {h : Nat → Hs} {τ : Nat → Value} {w : World} : ∀ (k : Bk) (v : Value) (base : Nat), k.R (env X h τ w) base v → k.R (env X (offH b h) τ w) base v
  | .box cs, v, base, ⟨g, vs, h1, h2, h3⟩ => ⟨g, vs, h1, h2, All2.mono (ceR_le (off_le (Below.refl _ _))) _ _ h3⟩
  | .row e k n xs, v, base, hk => hk
/-- an own row is handed over for good -/
theorem valid_call_d {k b e q n : Nat} {ys : List Value} {xs : Array Operand} {ts : Array TypeId} {l : List Cm} {r : AV} (ho : o.op = .call { callee := .value (.func k), args := xs, argTypes := ts }) (hw : want ops S o = true) (hk : callable P k = true) (hl : argsA S xs.toList = some l) (hb : S.hp b = .live (.row e q n ys)) (hi : (l.flatMap idM).all (Nat.beq · b) = true) (hc : CallOk P X.G k (l.map (shutM S.hp)) r) : Valid P ops X o S ⟨r, [(b, .dead)], []⟩ := fun S2 a w h1 h2 h3 ⟨τ, hS⟩ => by
  refine .inl ⟨want_spec hw h1 h3 hS, ?_⟩
  rw [run_call ho hk]
  obtain ⟨c1, c2, hc⟩ := hc
  have hR := argsA_R (S := S) (E := env X S2.hp τ w) (a := a) xs.toList l hl (fun x hx => by
    have hm : x ∈ o.op.operands := by rw [ho]; simp [Op.operands, Call.operands]; exact .inr (by simpa using hx)
    rw [← ev_same h1 hm]; exact hS.ev x (fun t e => h3 t (.inl (looks_op (e ▸ hm)))))
  have e2 : S2.hp b = S.hp b := h2 (.all b) (by simp [Ef.foot, upRd])
  have hsh : l.map (shutM S2.hp) = l.map (shutM S.hp) := List.map_congr_left fun m hm => shutM_same fun i hi' => by
    have := List.all_eq_true.1 hi i (List.mem_flatMap.2 ⟨m, hm, hi'⟩)
    rw [Nat.eq_of_beq_eq_true this]; exact e2
  have hb2 : S2.hp b = .live (.row e q n ys) := e2.trans hb
  have hR1 := off_Rs hS hb2 _ _ hi hR
  rw [hsh] at hR1
  have hR' := all2m_map (F := en0 (alw X (offH b S2.hp) τ) w) (E := env X (offH b S2.hp) τ w) rfl (fun _ _ h => h) _ _ c2 hR1
  refine (hc (alw X (offH b S2.hp) τ) w (xs.map a.eval) (X.hG w hS.bel) (by simpa using hR')).mono ?_
  rintro e' w' ⟨v, rfl, hbl, hr⟩
  refine ⟨v, rfl, τ, hS.turn (u := [(b, .dead)]) (off_le hbl) (hS.belT hbl) (fun i q hq => ?_) (fun i g hi hg => ?_) (fun i j g hne hi hj => hS.sep i j g hne (off_alive hi).2 (off_alive hj).2) hS.one ?_⟩
  · have hq : offH b S2.hp i = .live q := hq
    obtain ⟨hne, _⟩ := off_alive ⟨q, hq⟩
    rw [off_ne _ hne] at hq
    exact off_bk _ _ _ (bkR_below hbl _ _ _ (hS.hp i q hq))
  · have := hS.own i g (off_alive hi).2 hg
    exact ⟨this.1, Nat.lt_of_lt_of_le this.2 hbl.size⟩
  · refine avR_map (E := en0 _ w') (F := env X (offH b S2.hp) τ w') rfl (fun g _ hg => ?_) _ _ c1 hr
    rcases hg with hg | hg
    · exact hg
    · exact ⟨.inr (Nat.le_trans hS.bsz hg), fun i hi he => by have := (hS.own i g (off_alive hi).2 he).2; omega⟩
end Go.Proofs.YtgkodncknlankaaGreatDoor.Ax
/- The abstract walk: a rule for one operation alone, told by its answer's name. -/
namespace Go.Proofs.YtgkodncknlankaaGreatDoor.Ax
open Go.RowKit Go.Proofs.YtgkodncknlankaaGreatDoor.MemL Go.Proofs.YtgkodncknlankaaGreatDoor.RegR
set_option linter.unusedVariables false
variable {P : Program} {ops : Array Oper} {X : Cx} {anc : Nat → Nat → Bool} {R : St → Prop} {T : List (Nat × List Rd × List Rd)} {S : St} {i : Nat} {r : List Nat} {o : Oper}
theorem nxt_dst (d : Tmp) (_ : o.dst = some d) (h : Nxt P ops X anc R T S i r o) : Nxt P ops X anc R T S i r o := h
end Go.Proofs.YtgkodncknlankaaGreatDoor.Ax
/- The abstract walk: an own row gets another name; nothing is told as an own row; what is told of arguments. -/
namespace Go.Proofs.YtgkodncknlankaaGreatDoor.Ax
open Go.RowKit Go.Proofs.YtgkodncknlankaaGreatDoor.MemL Go.Proofs.YtgkodncknlankaaGreatDoor.RegR
set_option linter.unusedVariables false
set_option linter.unusedSimpArgs false
variable {P : Program} {X : Cx} {S : St}
def St.mv (S : St) (b b' : Nat) (r : Bk) : St := ⟨fun t => frV b (.o b') (S.tm t), fun i => cond (Nat.beq i b') (.live r) (cond (Nat.beq i b) .dead (frH b (.o b') (S.hp i)))⟩
theorem sub_mv {b b' e n k : Nat} {xs : List Value} (hb : S.hp b = .live (.row e k n xs)) (hf : S.hp b' = .fresh) : Sub X S (S.mv b b' (.row e k n xs)) := fun a w ⟨τ, h⟩ => by
  have hne : b ≠ b' := fun e => by rw [e, hf] at hb; cases hb
  have hb1 : (S.mv b b' (.row e k n xs)).hp b' = .live (.row e k n xs) := by
    show cond (Nat.beq b' b') _ _ = _; rw [Nat.beq_refl]; rfl
  have hb2 : ∀ i, i ≠ b' → i ≠ b → (S.mv b b' (.row e k n xs)).hp i = frH b (.o b') (S.hp i) := fun i h1 h2 => by
    show cond (Nat.beq i b') _ _ = _; rw [beq_false h1]
    show cond (Nat.beq i b) _ _ = _; rw [beq_false h2]; rfl
  have hb3 : (S.mv b b' (.row e k n xs)).hp b = .dead := by
    show cond (Nat.beq b b') _ _ = _; rw [beq_false hne]
    show cond (Nat.beq b b) _ _ = _; rw [Nat.beq_refl]; rfl
  have fr : ∀ q, frH b (.o b') q ≠ .fresh ↔ q ≠ .fresh := fun q => by
    cases q with
    | live q => cases q <;> simp [frH]
    | fresh => simp [frH]
    | dead => simp [frH]
    | patch _ _ => simp [frH]
  have hal : ∀ i, alive (S.mv b b' (.row e k n xs)).hp i → i = b' ∨ (i ≠ b' ∧ i ≠ b ∧ alive S.hp i) := fun i ⟨q, hq⟩ => by
    by_cases e1 : i = b'
    · exact .inl e1
    · by_cases e2 : i = b
      · subst e2; rw [hb3] at hq; cases hq
      · rw [hb2 i e1 e2] at hq
        refine .inr ⟨e1, e2, ?_⟩
        cases hh : S.hp i with
        | live q' => exact ⟨q', hh⟩
        | fresh => rw [hh] at hq; cases hq
        | dead => rw [hh] at hq; cases hq
        | patch _ _ => rw [hh] at hq; cases hq
  have t1 : setτ τ b' (τ b) b' = τ b := by unfold setτ; rw [if_pos rfl]
  have t2 : ∀ i, i ≠ b' → setτ τ b' (τ b) i = τ i := fun i hi => by unfold setτ; rw [if_neg hi]
  have hle : (env X S.hp τ w).le (env X (S.mv b b' (.row e k n xs)).hp (setτ τ b' (τ b)) w) := by
    refine ⟨fun i hi => ?_, fun g _ ha => ⟨ha.1, fun i hi => ?_⟩, Nat.le_refl _, fun _ _ _ _ => rfl⟩
    · have hi : S.hp i ≠ .fresh := hi
      have e1 : i ≠ b' := fun e => hi (e ▸ hf)
      refine ⟨?_, t2 i e1⟩
      show (S.mv b b' (.row e k n xs)).hp i ≠ .fresh
      by_cases e2 : i = b
      · subst e2; rw [hb3]; intro e; cases e
      · rw [hb2 i e1 e2]; exact (fr _).2 hi
    · show occ (setτ τ b' (τ b) i) ≠ some g
      rcases hal i hi with rfl | ⟨e1, e2, hi⟩
      · rw [t1]; exact ha.2 b ⟨_, hb⟩
      · rw [t2 i e1]; exact ha.2 i hi
  have hC : ∀ (c : Ce) (v : Value), c.R (env X S.hp τ w) v → (frC b (.o b') c).R (env X (S.mv b b' (.row e k n xs)).hp (setτ τ b' (τ b)) w) v := fun c v hR => by
    cases c with
    | o i =>
      simp only [frC]
      by_cases ei : i = b
      · subst ei; rw [Nat.beq_refl]
        have : v = τ i := hR.2
        refine ⟨?_, ?_⟩
        · show (S.mv i b' (.row e k n xs)).hp b' ≠ .fresh
          rw [hb1]; intro e; cases e
        · show v = setτ τ b' (τ i) b'
          rw [t1]; exact this
      · rw [beq_false ei]; exact ceR_le hle _ _ hR
    | _ => exact ceR_le hle _ _ hR
  have hM : ∀ (c : Cm) (v : Value), c.R (env X S.hp τ w) v → (frM b (.o b') c).R (env X (S.mv b b' (.row e k n xs)).hp (setτ τ b' (τ b)) w) v := fun c v hR => by
    cases c with
    | c x => exact hC x v hR
    | ag cs => obtain ⟨vs, e', q⟩ := hR; exact ⟨vs, e', all2_fr _ hC _ _ q⟩
  refine ⟨setτ τ b' (τ b), h.size, h.nodef, h.bel, fun t ht => ?_, fun i q hq => ?_, fun i g hi ho => ?_, fun i j g hij hi hj ho => ?_, fun i => ?_, fun p hp => ⟨(hle.U _ (h.pin p hp).1).1, (hle.U _ (h.pin p hp).1).2.trans (h.pin p hp).2⟩⟩
  · have := h.tm t ht
    show (frV b (.o b') (S.tm t)).R _ _
    cases hv : S.tm t with
    | m m => rw [hv] at this; exact hM m _ this
    | tu l => rw [hv] at this; obtain ⟨vs, e', q⟩ := this; exact ⟨vs, e', all2_fr _ hM _ _ q⟩
  · rcases hal i ⟨q, hq⟩ with rfl | ⟨e1, e2, q', hq'⟩
    · rw [hb1] at hq; cases hq
      rw [t1]; exact h.hp b _ hb
    · rw [hb2 i e1 e2, hq'] at hq
      rw [t2 i e1]
      have hk := h.hp i q' hq'
      cases q' with
      | box cs =>
        simp only [frH] at hq; cases hq
        obtain ⟨g, vs, x1, x2, x3⟩ := hk
        exact ⟨g, vs, x1, x2, all2_fr _ hC _ _ x3⟩
      | row _ _ _ _ => simp only [frH] at hq; cases hq; exact hk
  · rcases hal i hi with rfl | ⟨e1, e2, hi⟩
    · rw [t1] at ho; exact h.own b g ⟨_, hb⟩ ho
    · rw [t2 i e1] at ho; exact h.own i g hi ho
  · rcases hal i hi with e0 | ⟨e1, e2, hi'⟩
    · rw [e0, t1] at ho
      rcases hal j hj with f0 | ⟨f1, f2, hj'⟩
      · exact absurd (e0.trans f0.symm) hij
      · rw [t2 j f1]; exact h.sep b j g (Ne.symm f2) ⟨_, hb⟩ hj' ho
    · rw [t2 i e1] at ho
      rcases hal j hj with f0 | ⟨f1, f2, hj'⟩
      · rw [f0, t1]; exact h.sep i b g e2 hi' ⟨_, hb⟩ ho
      · rw [t2 j f1]; exact h.sep i j g hij hi' hj' ho
  · by_cases e1 : i = b'
    · subst e1; rw [t1]; exact h.one b
    · rw [t2 i e1]; exact h.one i
def St.nl (S : St) (t b : Nat) (r : Bk) : St := ⟨fun t' => cond (Nat.beq t' t) (.m (.c (.o b))) (S.tm t'), fun i => cond (Nat.beq i b) (.live r) (S.hp i)⟩
/-- nothing, told as an own row -/
theorem sub_nil (t b e k : Nat) (ht : S.tm t = .m (.c (.v (.slice none 0 0)))) (hf : S.hp b = .fresh) : Sub X S (S.nl t b (.row e k 0 [])) := fun a w ⟨τ, h⟩ => by
  have hb1 : (S.nl t b (.row e k 0 [])).hp b = .live (.row e k 0 []) := by
    show cond (Nat.beq b b) _ _ = _; rw [Nat.beq_refl]; rfl
  have hb2 : ∀ i, i ≠ b → (S.nl t b (.row e k 0 [])).hp i = S.hp i := fun i h1 => by
    show cond (Nat.beq i b) _ _ = _; rw [beq_false h1]; rfl
  have hal : ∀ i, alive (S.nl t b (.row e k 0 [])).hp i → i = b ∨ (i ≠ b ∧ alive S.hp i) := fun i ⟨q, hq⟩ => by
    by_cases e1 : i = b
    · exact .inl e1
    · rw [hb2 i e1] at hq; exact .inr ⟨e1, q, hq⟩
  have t1 : setτ τ b (.slice none 0 0) b = .slice none 0 0 := by unfold setτ; rw [if_pos rfl]
  have t2 : ∀ i, i ≠ b → setτ τ b (.slice none 0 0) i = τ i := fun i hi => by unfold setτ; rw [if_neg hi]
  have hle : (env X S.hp τ w).le (env X (S.nl t b (.row e k 0 [])).hp (setτ τ b (.slice none 0 0)) w) := by
    refine ⟨fun i hi => ?_, fun g _ ha => ⟨ha.1, fun i hi => ?_⟩, Nat.le_refl _, fun _ _ _ _ => rfl⟩
    · have hi : S.hp i ≠ .fresh := hi
      have e1 : i ≠ b := fun e => hi (e ▸ hf)
      exact ⟨by show (S.nl t b (.row e k 0 [])).hp i ≠ .fresh; rw [hb2 i e1]; exact hi, t2 i e1⟩
    · show occ (setτ τ b (.slice none 0 0) i) ≠ some g
      rcases hal i hi with rfl | ⟨e1, hi⟩
      · rw [t1]; intro e; cases e
      · rw [t2 i e1]; exact ha.2 i hi
  refine ⟨setτ τ b (.slice none 0 0), h.size, h.nodef, h.bel, fun t' ht' => ?_, fun i q hq => ?_, fun i g hi ho => ?_, fun i j g hij hi hj ho => ?_, fun i => ?_, fun p hp => ⟨(hle.U _ (h.pin p hp).1).1, (hle.U _ (h.pin p hp).1).2.trans (h.pin p hp).2⟩⟩
  · show (cond (Nat.beq t' t) (.m (.c (.o b))) (S.tm t')).R _ _
    by_cases et : t' = t
    · subst et; rw [Nat.beq_refl]
      have := h.tm t' ht'
      rw [ht] at this
      have this : a.tmps.getD t' undef = .slice none 0 0 := this
      refine ⟨?_, ?_⟩
      · show (S.nl t' b (.row e k 0 [])).hp b ≠ .fresh
        rw [hb1]; intro e; cases e
      · show _ = setτ τ b (.slice none 0 0) b
        rw [t1]; exact this
    · rw [beq_false et]; exact avR_le hle _ _ (h.tm t' ht')
  · rcases hal i ⟨q, hq⟩ with rfl | ⟨e1, q', hq'⟩
    · rw [hb1] at hq; cases hq
      rw [t1]; exact World.ownsRow_nil w X.base e k
    · rw [hb2 i e1] at hq
      rw [t2 i e1]
      have hk := h.hp i q hq
      cases q with
      | box cs =>
        obtain ⟨g, vs, x1, x2, x3⟩ := hk
        exact ⟨g, vs, x1, x2, All2.mono (ceR_le hle) _ _ x3⟩
      | row _ _ _ _ => exact hk
  · rcases hal i hi with rfl | ⟨e1, hi⟩
    · rw [t1] at ho; cases ho
    · rw [t2 i e1] at ho; exact h.own i g hi ho
  · rcases hal i hi with e0 | ⟨e1, hi'⟩
    · rw [e0, t1] at ho; cases ho
    · rw [t2 i e1] at ho
      rcases hal j hj with f0 | ⟨f1, hj'⟩
      · rw [f0, t1]; intro e; cases e
      · rw [t2 j f1]; exact h.sep i j g hij hi' hj' ho
  · by_cases e1 : i = b
    · subst e1; rw [t1]; rfl
    · rw [t2 i e1]; exact h.one i
/-! ### less is asked of arguments -/
end Go.Proofs.YtgkodncknlankaaGreatDoor.Ax
/- The abstract walk: functions that are handed boxes of their caller's: closures over variables, methods of pointers. -/
namespace Go.Proofs.YtgkodncknlankaaGreatDoor.Ax
open Go.RowKit Go.Proofs.YtgkodncknlankaaGreatDoor.MemL Go.Proofs.YtgkodncknlankaaGreatDoor.RegR
set_option linter.unusedVariables false
set_option linter.unusedSimpArgs false
variable {P : Program} {ops : Array Oper} {X : Cx} {o : Oper} {S : St}
/-- a box that is lent: its name, its cells ahead, its cells behind -/
abbrev Ln := Nat × List Ce × List Ce
def lent (τ : Nat → Value) (bs : List Ln) (g : Nat) : Prop := ∃ p ∈ bs, occ (τ p.1) = some g
def CallOkW (P : Program) (G : World → Prop) (k : FuncId) (bs : List Ln) (args : List Cm) (r : AV) : Prop :=
  (closedV r && bs.all (fun p => p.2.1.all closedC && p.2.2.all closedC)) = true ∧ (args.flatMap idM).all (fun b => bs.any (fun p => Nat.beq p.1 b)) = true ∧
  ∀ (A : Nat → Prop) (W : World) (τ : Nat → Value) (vs : Array Value), (∀ w, Kept (fun g => g < W.heap.size ∧ ¬ lent τ bs g) W w → G w) →
    (∀ p ∈ bs, ∃ g us, τ p.1 = .pointer (some ⟨g, 0, none⟩) ∧ Bx W g us ∧ All2 (Ce.R (en0 A W)) p.2.1 us.toList ∧ ¬ A g) →
    (∀ p ∈ bs, ∀ q ∈ bs, p.1 ≠ q.1 → ∀ g, occ (τ p.1) = some g → occ (τ q.1) ≠ some g) →
    All2 (Cm.R ⟨A, fun b => ∃ p ∈ bs, p.1 = b, τ, W⟩) args vs.toList →
    Calls P k vs W fun e w' => ∃ v, e = .returned v ∧ Kept (fun g => g < W.heap.size ∧ ¬ lent τ bs g) W w' ∧ r.R (en0 (fun g => A g ∨ W.heap.size ≤ g) w') v ∧
      ∀ p ∈ bs, ∃ g us, τ p.1 = .pointer (some ⟨g, 0, none⟩) ∧ Bx w' g us ∧ All2 (Ce.R (en0 (fun g => A g ∨ W.heap.size ≤ g) w')) p.2.2 us.toList
theorem look_mem {α : Type} {d : α} : ∀ (l : List (Nat × α)) (b : Nat) (x : α), look d l b = x → x ≠ d → ∃ p ∈ l, p.1 = b ∧ p.2 = x
  | [], b, x, h, k => absurd h.symm k
  | p :: r, b, x, h, k => by
    simp only [look] at h
    cases e : Nat.beq b p.1 with
    | true => rw [e] at h; exact ⟨p, by simp, (Nat.eq_of_beq_eq_true e).symm, h⟩
    | false =>
      rw [e] at h
      obtain ⟨q, h1, h2⟩ := look_mem r b x h k
      exact ⟨q, List.mem_cons_of_mem _ h1, h2⟩
theorem look_in {α : Type} {d : α} : ∀ (l : List (Nat × α)) (p : Nat × α), p ∈ l → ∃ q ∈ l, q.1 = p.1 ∧ look d l p.1 = q.2
  | q :: r, p, h => by
    simp only [look]
    cases e : Nat.beq p.1 q.1 with
    | true => exact ⟨q, by simp, (Nat.eq_of_beq_eq_true e).symm, rfl⟩
    | false =>
      rcases List.mem_cons.1 h with rfl | h
      · rw [Nat.beq_refl] at e; cases e
      · obtain ⟨q', h1, h2⟩ := look_in r p h
        exact ⟨q', List.mem_cons_of_mem _ h1, h2⟩
/-- where such a function begins -/
def startW (bs : List Ln) (args : List Cm) : St := ⟨(start args).tm, look .fresh (bs.map fun p => (p.1, .live (.box p.2.1)))⟩
def EndB (S : St) : List Ln → Prop
  | [] => True
  | p :: l => (∃ cs, S.hp p.1 = .live (.box cs) ∧ cs.map (shut S.hp) = p.2.2) ∧ EndB S l
theorem EndB.mem {S : St} : ∀ {l : List Ln}, EndB S l → ∀ p ∈ l, ∃ cs, S.hp p.1 = .live (.box cs) ∧ cs.map (shut S.hp) = p.2.2
  | q :: l, h, p, hp => by
    rcases List.mem_cons.1 hp with rfl | hp
    · exact h.1
    · exact EndB.mem h.2 p hp
def RetW (P : Program) (fn : Func) (r : AV) (bs : List Ln) (e : Exit) (S : St) : Prop := match e with
  | .normal | .ret => resA P fn S = some r ∧ EndB S bs
  | _ => False
/-- the box's cells, as they may be read behind -/
theorem shut_all {τ : Nat → Value} {a : Act} {w : World} (h : SimT X S τ a w) : ∀ (cs : List Ce) (vs : List Value), All2 (Ce.R (env X S.hp τ w)) cs vs → All2 (Ce.R ⟨fun g => X.A0 g ∨ X.base ≤ g, fun b => S.hp b ≠ .fresh, τ, w⟩) (cs.map (shut S.hp)) vs
  | [], [], _ => trivial
  | c :: cs, v :: vs, k => ⟨shut_R h c v k.1, shut_all h cs vs k.2⟩
  | [], _ :: _, k => k.elim
  | _ :: _, [], k => k.elim
def cxW (N : Nat) (W : World) (A : Nat → Prop) (G : World → Prop) (τ : Nat → Value) (bs : List Ln) (hG : ∀ w, Kept (fun g => g < W.heap.size ∧ ¬ lent τ bs g) W w → G w) : Cx :=
  ⟨N, W, A, G, W.heap.size, Nat.le_refl _, fun g => g < W.heap.size ∧ ¬ lent τ bs g, fun _ h => h.1, hG, bs.map fun p => (p.1, τ p.1), none, []⟩
theorem callOkW_of {G : World → Prop} {k : FuncId} {fn : Func} {c : Code} {bs : List Ln} {args : List Cm} {r : AV} (N : Nat) (hf : P.funcs[k]? = some fn) (hb : fn.body = some c) (hcl : (closedV r && bs.all (fun p => p.2.1.all closedC && p.2.2.all closedC)) = true) (hid : (args.flatMap idM).all (fun b => bs.any (fun p => Nat.beq p.1 b)) = true)
    (hN : args.length + (fn.ntmps - args.length) = N) (hres : tmpsRes N fn.results.toList = true)
    (h : ∀ (W : World) (A : Nat → Prop) (τ : Nat → Value) (hG : ∀ w, Kept (fun g => g < W.heap.size ∧ ¬ lent τ bs g) W w → G w), Aw P (cxW N W A G τ bs hG) c (RetW P fn r bs) (startW bs args)) : CallOkW P G k bs args r := by
  refine ⟨hcl, hid, fun A W τ vs hG hB hsep hR => ?_⟩
  simp only [Bool.and_eq_true, List.all_eq_true] at hcl
  obtain ⟨hcr, hcb⟩ := hcl
  refine calls_of_wp hf hb ?_
  have hlen := All2.length _ _ hR
  simp only [Array.length_toList] at hlen
  obtain ⟨τ', hτ'⟩ : ∃ τ' : Nat → Value, τ' = fun b => cond (bs.any fun p => Nat.beq p.1 b) (τ b) (.bool false) := ⟨_, rfl⟩
  have ht : ∀ p ∈ bs, τ' p.1 = τ p.1 := fun p hp => by
    rw [hτ']
    have : (bs.any fun q => Nat.beq q.1 p.1) = true := List.any_eq_true.2 ⟨p, hp, Nat.beq_refl _⟩
    simp only [this, cond]
  have hlive : ∀ b q, look .fresh (bs.map fun p => (p.1, Hs.live (.box p.2.1))) b = .live q → ∃ p ∈ bs, p.1 = b ∧ q = .box p.2.1 := fun b q hq => by
    obtain ⟨x, h1, h2, h3⟩ := look_mem _ b _ hq (fun e => by cases e)
    obtain ⟨p, hp, rfl⟩ := List.mem_map.1 h1
    exact ⟨p, hp, h2, by cases h3; rfl⟩
  have halw : ∀ g, A g → alw (cxW N W A G τ bs hG) (startW bs args).hp τ' g := fun g hg => ⟨.inl hg, fun b ⟨q, hq⟩ ho => by
    obtain ⟨p, hp, rfl, _⟩ := hlive b q hq
    obtain ⟨g', us, e1, _, _, e4⟩ := hB p hp
    rw [ht p hp, e1] at ho
    cases ho; exact e4 hg⟩
  have hS : Sim (cxW N W A G τ bs hG) (startW bs args) { tmps := vs ++ Array.replicate (fn.ntmps - vs.size) undef, defers := [] } W := by
    refine ⟨τ', by simp [← hN, hlen, cxW], rfl, Kept.refl _ _, fun t ht' => ?_, fun b k hk => ?_, fun b g hk ho => ?_, fun b b' g hne hk hk' ho => ?_, fun b => ?_, fun q hq => ?_⟩
    · show AV.R _ (match args[t]? with | some m => .m m | none => .m (.c (.v undef))) _
      have ht' : t < N := ht'
      by_cases hlt : t < args.length
      · obtain ⟨v, hv, hr⟩ := All2.get _ _ t _ hR (List.getElem?_eq_getElem hlt)
        rw [List.getElem?_eq_getElem hlt]
        have e : (vs ++ Array.replicate (fn.ntmps - vs.size) undef).getD t undef = v := by
          rw [Array.getD_eq_getD_getElem?, Array.getElem?_append_left (by omega)]
          simp only [Array.getElem?_toList] at hv
          rw [hv]; rfl
        rw [e]
        refine cmR_le (E := ⟨A, fun b => ∃ p ∈ bs, p.1 = b, τ, W⟩) (F := env (cxW N W A G τ bs hG) (startW bs args).hp τ' W) ⟨fun b hb' => ?_, fun g _ hg => halw g hg, Nat.le_refl _, fun _ _ _ _ => rfl⟩ _ _ hr
        obtain ⟨p, hp, rfl⟩ := hb'
        refine ⟨?_, ht p hp⟩
        obtain ⟨q, q1, q2, q3⟩ := look_in (d := Hs.fresh) (bs.map fun p => (p.1, Hs.live (.box p.2.1))) (p.1, .live (.box p.2.1)) (List.mem_map.2 ⟨p, hp, rfl⟩)
        show look Hs.fresh (bs.map fun p => (p.1, Hs.live (.box p.2.1))) p.1 ≠ Hs.fresh
        rw [show look Hs.fresh (bs.map fun p => (p.1, Hs.live (.box p.2.1))) p.1 = q.2 from q3]
        obtain ⟨p', _, rfl⟩ := List.mem_map.1 q1
        intro e; cases e
      · rw [List.getElem?_eq_none (by omega)]
        show _ = undef
        rw [Array.getD_eq_getD_getElem?, Array.getElem?_append_right (by omega)]
        rw [Array.getElem?_replicate]; split <;> rfl
    · obtain ⟨p, hp, rfl, rfl⟩ := hlive b k hk
      obtain ⟨g, us, e1, e2, e3, _⟩ := hB p hp
      have := hcb p hp
      exact ⟨g, us, (ht p hp).trans e1, e2, all2_map (E := en0 A W) (F := env (cxW N W A G τ bs hG) (startW bs args).hp τ' W) rfl (fun g _ hg => halw g hg) _ _ (List.all_eq_true.2 this.1) e3⟩
    · obtain ⟨q, hq⟩ := hk
      obtain ⟨p, hp, rfl, rfl⟩ := hlive b q hq
      obtain ⟨g', us, e1, e2, e3, _⟩ := hB p hp
      rw [ht p hp] at ho
      refine ⟨fun hk => hk.2 ⟨p, hp, ho⟩, ?_⟩
      rw [e1] at ho; cases ho
      exact e2.lt
    · obtain ⟨q, hq⟩ := hk
      obtain ⟨q', hq'⟩ := hk'
      obtain ⟨p, hp, rfl, rfl⟩ := hlive b q hq
      obtain ⟨p', hp', rfl, rfl⟩ := hlive b' q' hq'
      rw [ht p hp] at ho
      rw [ht p' hp']
      exact hsep p hp p' hp' hne g ho
    · have e0 : τ' b = cond (bs.any fun p => Nat.beq p.1 b) (τ b) (.bool false) := by rw [hτ']
      rw [e0]
      cases e : bs.any fun p => Nat.beq p.1 b with
      | false => rfl
      | true =>
        obtain ⟨p, hp, e'⟩ := List.any_eq_true.1 e
        obtain rfl := Nat.eq_of_beq_eq_true e'
        obtain ⟨g, us, e1, _⟩ := hB p hp
        show (τ p.1).oneCell' = true
        rw [e1]; rfl
    · obtain ⟨p, hp, rfl⟩ := List.mem_map.1 hq
      refine ⟨?_, ht p hp⟩
      obtain ⟨q, q1, q2, q3⟩ := look_in (d := Hs.fresh) (bs.map fun p => (p.1, Hs.live (.box p.2.1))) (p.1, .live (.box p.2.1)) (List.mem_map.2 ⟨p, hp, rfl⟩)
      show look Hs.fresh (bs.map fun p => (p.1, Hs.live (.box p.2.1))) p.1 ≠ Hs.fresh
      rw [show look Hs.fresh (bs.map fun p => (p.1, Hs.live (.box p.2.1))) p.1 = q.2 from q3]
      obtain ⟨p', _, rfl⟩ := List.mem_map.1 q1
      intro e; cases e
  refine wp_mono (wpIn_wide.1 (h W A τ hG _ W hS 0)) ?_
  intro e a' w' ⟨S', q, τe, s⟩
  have fin : resA P fn S' = some r ∧ EndB S' bs → a'.defers = [] ∧ ∃ v, (results fn a'.tmps).run P w' = .ok v w' ∧ (∃ u, Ending.returned v = .returned u ∧ Kept (fun g => g < W.heap.size ∧ ¬ lent τ bs g) W w' ∧ r.R (en0 (fun g => A g ∨ W.heap.size ≤ g) w') u ∧
      ∀ p ∈ bs, ∃ g us, τ p.1 = .pointer (some ⟨g, 0, none⟩) ∧ Bx w' g us ∧ All2 (Ce.R (en0 (fun g => A g ∨ W.heap.size ≤ g) w')) p.2.2 us.toList) := fun ⟨hr, hE⟩ => by
    refine ⟨s.nodef, ?_⟩
    have hbx : ∀ p ∈ bs, ∃ g us, τ p.1 = .pointer (some ⟨g, 0, none⟩) ∧ Bx w' g us ∧ All2 (Ce.R (en0 (fun g => A g ∨ W.heap.size ≤ g) w')) p.2.2 us.toList := fun p hp => by
      obtain ⟨cs, e1, e2⟩ := hE.mem p hp
      obtain ⟨g, us, e3, e4, e5⟩ := s.hp p.1 _ e1
      have hpin := (s.pin (p.1, τ p.1) (List.mem_map.2 ⟨p, hp, rfl⟩)).2
      have e6 := shut_all s _ _ e5
      rw [e2] at e6
      have := hcb p hp
      exact ⟨g, us, by rw [← e3]; exact hpin.symm, e4, all2_map (E := ⟨_, _, τe, w'⟩) (F := en0 (fun g => A g ∨ W.heap.size ≤ g) w') rfl (fun g _ hg => hg) _ _ (List.all_eq_true.2 this.2) e6⟩
    unfold resA at hr
    split at hr
    · rename_i m hm
      cases hr
      obtain ⟨vs', h1, h2⟩ := resL_run s _ _ hres hm
      obtain ⟨v, rfl⟩ : ∃ v, vs' = [v] := by
        cases vs' with
        | nil => exact h2.elim
        | cons v l => cases l with | nil => exact ⟨v, rfl⟩ | cons _ _ => exact h2.2.elim
      refine ⟨v, ?_, v, rfl, s.bel, (cmR_map (E := ⟨_, _, τe, w'⟩) (F := en0 (fun g => A g ∨ W.heap.size ≤ g) w') rfl (fun g _ hg => hg) _ _ hcr h2.1 : Cm.R _ _ _), hbx⟩
      rw [results_eq]
      rw [Array.mapM_eq_mapM_toList]
      simp only [Sem.run_bind, Sem.run_map, h1, Result.andThen_ok, Sem.run_pure]
      rfl
    · rename_i ms hne hm
      cases hr
      obtain ⟨vs', h1, h2⟩ := resL_run s _ _ hres hm
      have hl := All2.length _ _ h2
      have hsz : vs'.length ≠ 1 := fun e => by
        cases ms with
        | nil => simp at hl; omega
        | cons m l => cases l with
          | nil => exact hne m rfl
          | cons _ _ => simp at hl; omega
      refine ⟨.tuple vs'.toArray, ?_, _, rfl, s.bel, ⟨_, rfl, all2m_map (E := ⟨_, _, τe, w'⟩) (F := en0 (fun g => A g ∨ W.heap.size ≤ g) w') rfl (fun g _ hg => hg) _ _ hcr h2⟩, hbx⟩
      rw [results_eq]
      rw [Array.mapM_eq_mapM_toList]
      simp only [Sem.run_bind, Sem.run_map, h1, Result.andThen_ok, Sem.run_pure]
      simp [hsz]
    · cases hr
  cases e with
  | normal => exact fin q
  | ret => exact fin q
  | _ => exact q.elim
/-! ### the caller -/
def rnC (nm : Nat → Nat) : Ce → Ce
  | .p b o => .p (nm b) o
  | .cl fi bs => .cl fi (bs.map nm)
  | c => c
def rnM (nm : Nat → Nat) : Cm → Cm
  | .c x => .c (rnC nm x)
  | .ag cs => .ag (cs.map (rnC nm))
def rnOk : Ce → Bool
  | .p _ _ | .cl _ _ => true
  | c => closedC c
def rnOkM : Cm → Bool
  | .c x => rnOk x
  | .ag cs => cs.all rnOk
theorem rn_ce {E : En} {τ : Nat → Value} {nm : Nat → Nat} {U : Nat → Prop} (hτ : ∀ b, U b → E.τ (nm b) = τ b) : ∀ (c : Ce) (v : Value), rnOk c = true → (∀ b ∈ idC c, U b) → (rnC nm c).R E v → c.R ⟨E.A, U, τ, E.w⟩ v
  | .v x, v, _, _, h => h
  | .s n k xs, v, _, _, h => h
  | .q xs, v, _, _, h => h
  | .any, _, _, _, _ => trivial
  | .p b off, v, _, hu, ⟨_, g, h1, h2⟩ => ⟨hu b (by simp [idC]), g, (hτ b (hu b (by simp [idC]))).symm.trans h1, h2⟩
  | .cl fi bs, v, _, hu, ⟨h1, h2⟩ => ⟨by
      have e : bs.map (E.τ ∘ nm) = bs.map τ := List.map_congr_left (fun b hb => hτ b (hu b hb))
      rw [h1, List.map_map, e], fun b hb => hu b hb⟩
  | .o _, _, h, _, _ | .rp _ _, _, h, _, _ | .f _ _ _, _, h, _, _ | .bs _ _ _, _, h, _, _ => by cases h
theorem rn_cs {E : En} {τ : Nat → Value} {nm : Nat → Nat} {U : Nat → Prop} (hτ : ∀ b, U b → E.τ (nm b) = τ b) : ∀ (cs : List Ce) (vs : List Value), cs.all rnOk = true → (∀ b ∈ cs.flatMap idC, U b) → All2 (Ce.R E) (cs.map (rnC nm)) vs → All2 (Ce.R ⟨E.A, U, τ, E.w⟩) cs vs
  | [], [], _, _, _ => trivial
  | c :: cs, v :: vs, h, hu, k => by
    simp only [List.all_cons, Bool.and_eq_true] at h
    exact ⟨rn_ce hτ c v h.1 (fun b hb => hu b (by rw [List.flatMap_cons]; exact List.mem_append_left _ hb)) k.1, rn_cs hτ cs vs h.2 (fun b hb => hu b (by rw [List.flatMap_cons]; exact List.mem_append_right _ hb)) k.2⟩
  | [], _ :: _, _, _, k => k.elim
  | _ :: _, [], _, _, k => k.elim
theorem rn_cm {E : En} {τ : Nat → Value} {nm : Nat → Nat} {U : Nat → Prop} (hτ : ∀ b, U b → E.τ (nm b) = τ b) : ∀ (c : Cm) (v : Value), rnOkM c = true → (∀ b ∈ idM c, U b) → (rnM nm c).R E v → c.R ⟨E.A, U, τ, E.w⟩ v
  | .c x, v, h, hu, k => rn_ce hτ x v h hu k
  | .ag cs, v, h, hu, ⟨vs, e, k⟩ => ⟨vs, e, rn_cs hτ cs _ h hu k⟩
theorem rn_cms {E : En} {τ : Nat → Value} {nm : Nat → Nat} {U : Nat → Prop} (hτ : ∀ b, U b → E.τ (nm b) = τ b) : ∀ (cs : List Cm) (vs : List Value), cs.all rnOkM = true → (∀ b ∈ cs.flatMap idM, U b) → All2 (Cm.R E) (cs.map (rnM nm)) vs → All2 (Cm.R ⟨E.A, U, τ, E.w⟩) cs vs
  | [], [], _, _, _ => trivial
  | c :: cs, v :: vs, h, hu, k => by
    simp only [List.all_cons, Bool.and_eq_true] at h
    exact ⟨rn_cm hτ c v h.1 (fun b hb => hu b (by rw [List.flatMap_cons]; exact List.mem_append_left _ hb)) k.1, rn_cms hτ cs vs h.2 (fun b hb => hu b (by rw [List.flatMap_cons]; exact List.mem_append_right _ hb)) k.2⟩
  | [], _ :: _, _, _, k => k.elim
  | _ :: _, [], _, _, k => k.elim
def upB (nm : Nat → Nat) (bs : List Ln) : List (Nat × Hs) := bs.map fun p => (nm p.1, .live (.box p.2.2))
theorem upB_cases {nm : Nat → Nat} (h : Nat → Hs) : ∀ (bs : List Ln) (b : Nat), (∃ p ∈ bs, nm p.1 = b ∧ upd (upB nm bs) h b = .live (.box p.2.2)) ∨ ((∀ p ∈ bs, nm p.1 ≠ b) ∧ upd (upB nm bs) h b = h b)
  | [], b => .inr ⟨fun p hp => (by cases hp), rfl⟩
  | p :: bs, b => by
    show (∃ q ∈ p :: bs, nm q.1 = b ∧ cond (Nat.beq b (nm p.1)) (Hs.live (.box p.2.2)) (upd (upB nm bs) h b) = .live (.box q.2.2)) ∨ ((∀ q ∈ p :: bs, nm q.1 ≠ b) ∧ cond (Nat.beq b (nm p.1)) (Hs.live (.box p.2.2)) (upd (upB nm bs) h b) = h b)
    cases e : Nat.beq b (nm p.1) with
    | true => exact .inl ⟨p, by simp, (Nat.eq_of_beq_eq_true e).symm, rfl⟩
    | false =>
      have hne : nm p.1 ≠ b := fun e' => by rw [← e', Nat.beq_refl] at e; cases e
      rcases upB_cases (nm := nm) h bs b with ⟨q, h1, h2, h3⟩ | ⟨h1, h2⟩
      · exact .inl ⟨q, List.mem_cons_of_mem _ h1, h2, h3⟩
      · refine .inr ⟨fun q hq => ?_, h2⟩
        rcases List.mem_cons.1 hq with rfl | hq
        · exact hne
        · exact h1 q hq
def injB (nm : Nat → Nat) (bs : List Ln) : Bool := bs.all fun p => bs.all fun q => Nat.beq p.1 q.1 || !Nat.beq (nm p.1) (nm q.1)
/-- boxes are lent to a function, which may write them -/
theorem callW_core {k : FuncId} {bs : List Ln} {nm : Nat → Nat} {args : List Cm} {r : AV} {vals : Array Value} {τ : Nat → Value} {a : Act} {w : World} (hS : SimT X S τ a w) (hc : CallOkW P X.G k bs args r) (hb : ∀ p ∈ bs, S.hp (nm p.1) = .live (.box p.2.1)) (hin : injB nm bs = true)
    (hok : args.all rnOkM = true) (hR : All2 (Cm.R (env X S.hp τ w)) (args.map (rnM nm)) vals.toList) {d : Option Tmp} {rd : List Rd} :
    Calls P k vals w fun e w' => ∃ v, e = .returned v ∧ SimT X (S.app d ⟨r, upB nm bs, rd⟩) τ (a.put d v) w' := by
  obtain ⟨c1, c2, hc⟩ := hc
  simp only [Bool.and_eq_true, List.all_eq_true] at c1
  obtain ⟨c1, c3⟩ := c1
  have c3 : ∀ p ∈ bs, p.2.1.all closedC = true ∧ p.2.2.all closedC = true := fun p hp => by
    have := c3 p hp
    exact ⟨List.all_eq_true.2 this.1, List.all_eq_true.2 this.2⟩
  have hinj : ∀ p ∈ bs, ∀ q ∈ bs, p.1 ≠ q.1 → nm p.1 ≠ nm q.1 := fun p hp q hq hne e => by
    have := List.all_eq_true.1 (List.all_eq_true.1 hin p hp) q hq
    rw [e, Nat.beq_refl] at this
    simp at this
    exact hne this
  have hal : ∀ p ∈ bs, alive S.hp (nm p.1) := fun p hp => ⟨_, hb p hp⟩
  have hlent : ∀ g, lent (fun b => τ (nm b)) bs g → ∃ b, alive S.hp b ∧ occ (τ b) = some g := fun g ⟨p, hp, e⟩ => ⟨_, hal p hp, e⟩
  refine (hc (alw X S.hp τ) w (fun b => τ (nm b)) vals (fun w' hk => X.hG w' (hS.bel.trans (hk.mono fun g hg => ⟨Nat.lt_of_lt_of_le (X.hK g hg) hS.bel.size, fun hl => by
      obtain ⟨b, h1, h2⟩ := hlent g hl
      exact (hS.own b g h1 h2).1 hg⟩))) (fun p hp => ?_) (fun p hp q hq hne g ho => hS.sep _ _ g (hinj p hp q hq hne) (hal p hp) (hal q hq) ho) ?_).mono ?_
  · obtain ⟨g, us, e1, e2, e3⟩ := hS.hp _ _ (hb p hp)
    exact ⟨g, us, e1, e2, all2_map (E := env X S.hp τ w) (F := en0 (alw X S.hp τ) w) rfl (fun _ _ h => h) _ _ (c3 p hp).1 e3, fun hA => hA.2 _ (hal p hp) (by rw [e1]; rfl)⟩
  · refine rn_cms (E := env X S.hp τ w) (nm := nm) (U := fun b => ∃ p ∈ bs, p.1 = b) (fun b _ => rfl) _ _ hok (fun b hb' => ?_) hR
    obtain ⟨p, hp, e⟩ := List.any_eq_true.1 (List.all_eq_true.1 c2 b hb')
    exact ⟨p, hp, Nat.eq_of_beq_eq_true e⟩
  rintro e w' ⟨v, rfl, hk, hr, hbx⟩
  refine ⟨v, rfl, ?_⟩
  have hal' : ∀ b, alive (upd (upB nm bs) S.hp) b → alive S.hp b := fun b ⟨q, hq⟩ => by
    rcases upB_cases (nm := nm) S.hp bs b with ⟨p, h1, rfl, _⟩ | ⟨_, h2⟩
    · exact hal p h1
    · rw [h2] at hq; exact ⟨q, hq⟩
  have hbel : Kept X.K X.W0 w' := hS.bel.trans (hk.mono fun g hg => ⟨Nat.lt_of_lt_of_le (X.hK g hg) hS.bel.size, fun hl => by
      obtain ⟨b, h1, h2⟩ := hlent g hl
      exact (hS.own b g h1 h2).1 hg⟩)
  have hle : (env X S.hp τ w).le (env X (upd (upB nm bs) S.hp) τ w') := by
    refine ⟨fun i hi => ⟨?_, rfl⟩, fun g _ ha => ⟨ha.1, fun i hi => ha.2 i (hal' i hi)⟩, hk.size, fun g o hg ha => hk.cell (p := ⟨g, o, none⟩) ⟨hg, fun hl => ?_⟩⟩
    · show upd (upB nm bs) S.hp i ≠ .fresh
      rcases upB_cases (nm := nm) S.hp bs i with ⟨p, h1, rfl, h3⟩ | ⟨_, h2⟩
      · rw [h3]; intro e; cases e
      · rw [h2]; exact hi
    · obtain ⟨b, h1, h2⟩ := hlent g hl
      exact ha.2 b h1 h2
  have hA' : ∀ g, g < w'.heap.size → (alw X S.hp τ g ∨ w.heap.size ≤ g) → alw X (upd (upB nm bs) S.hp) τ g := fun g _ hg => by
    rcases hg with hg | hg
    · exact ⟨hg.1, fun i hi => hg.2 i (hal' i hi)⟩
    · exact ⟨.inr (Nat.le_trans hS.bsz hg), fun i hi he => by have := (hS.own i g (hal' i hi) he).2; omega⟩
  refine hS.turn (u := upB nm bs) hle hbel (fun i q hq => ?_) (fun i g hi ho => ?_) (fun i j g hij hi hj ho => hS.sep i j g hij (hal' i hi) (hal' j hj) ho) hS.one ?_
  · rcases upB_cases (nm := nm) S.hp bs i with ⟨p, h1, rfl, h3⟩ | ⟨h1, h2⟩
    · rw [h3] at hq; cases hq
      obtain ⟨g, us, e1, e2, e3⟩ := hbx p h1
      exact ⟨g, us, e1, e2, all2_map (E := en0 (fun g => alw X S.hp τ g ∨ w.heap.size ≤ g) w') (F := env X (upd (upB nm bs) S.hp) τ w') rfl (fun g hg h => hA' g hg h) _ _ (c3 p h1).2 e3⟩
    · rw [h2] at hq
      have hfar : ∀ g, occ (τ i) = some g → w'.heap[g]? = w.heap[g]? := fun g ho => hk.block g ⟨(hS.own i g ⟨q, hq⟩ ho).2, fun ⟨p, hp, e⟩ => hS.sep _ _ g (h1 p hp) (hal p hp) ⟨q, hq⟩ e ho⟩
      have hk' := hS.hp i q hq
      cases q with
      | box cs' =>
        obtain ⟨g', vs', x1, ⟨T', x2⟩, x3⟩ := hk'
        exact ⟨g', vs', x1, ⟨T', (hfar g' (by rw [x1]; rfl)).trans x2⟩, All2.mono (ceR_le hle) _ _ x3⟩
      | row e' k' n' xs' =>
        obtain ⟨x0, x1⟩ := hk'
        refine ⟨x0, ?_⟩
        rcases x1 with x1 | ⟨g', cap, cur, y1, y2, y3, y4⟩
        · exact .inl x1
        · exact .inr ⟨g', cap, cur, y1, y2, (hfar g' (by rw [y1]; rfl)).trans y3, y4⟩
  · have := hS.own i g (hal' i hi) ho
    exact ⟨this.1, Nat.lt_of_lt_of_le this.2 hk.size⟩
  · exact avR_map (E := en0 (fun g => alw X S.hp τ g ∨ w.heap.size ≤ g) w') (F := env X (upd (upB nm bs) S.hp) τ w') rfl hA' _ _ c1 hr
def AtB (S : St) (nm : Nat → Nat) : List Ln → Prop
  | [] => True
  | p :: l => S.hp (nm p.1) = .live (.box p.2.1) ∧ AtB S nm l
theorem AtB.mem {S : St} {nm : Nat → Nat} : ∀ {l : List Ln}, AtB S nm l → ∀ p ∈ l, S.hp (nm p.1) = .live (.box p.2.1)
  | q :: l, h, p, hp => by
    rcases List.mem_cons.1 hp with rfl | hp
    · exact h.1
    · exact AtB.mem h.2 p hp
/-- a call of a function value that captures boxes -/
theorem valid_call_cl {k : FuncId} {t : Tmp} {cap : List Nat} {xs : Array Operand} {ts : Array TypeId} {bs : List Ln} (nm : Nat → Nat) {args : List Cm} {l : List Cm} {r : AV} (hc : CallOkW P X.G k bs args r) (ho : o.op = .call { callee := .value (.tmp t), args := xs, argTypes := ts }) (hw : want ops S o = true) (hf : S.tm t = .m (.c (.cl k cap))) (hk : callable P k = true) (hl : argsA S xs.toList = some l)
    (hlc : l ++ cap.map (fun b => .c (.p b 0)) = args.map (rnM nm)) (hb : AtB S nm bs) (hin : (injB nm bs && args.all rnOkM && cap.all fun b => bs.any fun p => Nat.beq (nm p.1) b) = true) : Valid P ops X o S ⟨r, upB nm bs, []⟩ := fun S2 a w h1 h2 h3 ⟨τ, hS⟩ => by
  refine .inl ⟨want_spec hw h1 h3 hS, ?_⟩
  simp only [Bool.and_eq_true] at hin
  have hb2 : ∀ p ∈ bs, S2.hp (nm p.1) = .live (.box p.2.1) := fun p hp => Eq.trans (h2 (.all (nm p.1)) (by
      simp only [Ef.foot, List.nil_append, List.mem_map]
      exact ⟨(nm p.1, .live (.box p.2.2)), List.mem_map.2 ⟨p, hp, rfl⟩, rfl⟩)) (hb.mem p hp)
  have hmt : Operand.tmp t ∈ o.op.operands := by rw [ho]; simp [Op.operands, Call.operands]
  have hfv : (Ce.cl k cap).R (env X S2.hp τ w) (a.eval (.tmp t)) := by
    have := hS.ev (.tmp t) (fun t' e => h3 t' (.inl (looks_op (e ▸ hmt))))
    rw [ev_same h1 hmt] at this
    rw [show S.ev (.tmp t) = S.tm t from rfl, hf] at this
    exact this
  obtain ⟨hfv, hU⟩ := hfv
  have hrun : (execOp a.eval o).run P w = .ok (.enter k (xs.map a.eval ++ (cap.map τ).toArray)) w := by
    unfold callable at hk
    split at hk
    · rename_i fn hfn
      simp only [Bool.and_eq_true, Bool.not_eq_true'] at hk
      obtain ⟨k1, k2⟩ := hk
      have k2 : ¬ fn.name = "runtime.NumGoroutine" := by simpa using k2
      have k3 : ¬ fn.body = none := by intro e; rw [e] at k1; cases k1
      simp [execOp, ho, resolve, hfv, Deferred.ofValue, invoke, callFunc, hfn, k2, k3, env]
    · cases hk
  rw [hrun]
  have hR := argsA_R (S := S) (E := env X S2.hp τ w) (a := a) xs.toList _ hl (fun x hx => by
    have hm : x ∈ o.op.operands := by rw [ho]; simp [Op.operands, Call.operands]; exact .inr (by simpa using hx)
    rw [← ev_same h1 hm]; exact hS.ev x (fun t e => h3 t (.inl (looks_op (e ▸ hm)))))
  have hcap : ∀ (l : List Nat), (∀ b ∈ l, b ∈ cap) → All2 (Cm.R (env X S2.hp τ w)) (l.map fun b => .c (.p b 0)) (l.map τ) := by
    intro l
    induction l with
    | nil => intro _; trivial
    | cons b l ih =>
      intro h
      refine ⟨?_, ih fun c hc => h c (List.mem_cons_of_mem _ hc)⟩
      have hbm := h b (by simp)
      obtain ⟨p, hp, e⟩ := List.any_eq_true.1 (List.all_eq_true.1 hin.2 b hbm)
      obtain rfl := Nat.eq_of_beq_eq_true e
      obtain ⟨g, us, e1, _⟩ := hS.hp _ _ (hb2 p hp)
      exact ⟨hU _ hbm, g, e1, e1⟩
  refine (callW_core (d := o.dst) (rd := []) hS hc hb2 hin.1.1 hin.1.2 ?_).mono ?_
  · rw [← hlc]
    have : (xs.map a.eval ++ (cap.map τ).toArray).toList = (xs.map a.eval).toList ++ cap.map τ := by simp
    rw [this]
    exact All2.append _ _ _ _ (by simpa using hR) (hcap cap (fun _ h => h))
  · rintro e w' ⟨v, rfl, hS'⟩
    exact ⟨v, rfl, τ, hS'⟩
end Go.Proofs.YtgkodncknlankaaGreatDoor.Ax
/- The abstract walk: function values that capture boxes, slices of whatever lies in a box, labels. -/
namespace Go.Proofs.YtgkodncknlankaaGreatDoor.Ax
open Go.RowKit Go.Proofs.YtgkodncknlankaaGreatDoor.MemL Go.Proofs.YtgkodncknlankaaGreatDoor.RegR
set_option linter.unusedVariables false
set_option linter.unusedSimpArgs false
section
variable {P : Program} {ops : Array Oper} {X : Cx} {o : Oper} {S : St}
def capA (S : St) : List Operand → Option (List Nat)
  | [] => some []
  | x :: r => match S.ev x, capA S r with
    | .m (.c (.p b 0)), some l => some (b :: l)
    | _, _ => none
theorem capA_R {τ : Nat → Value} {h : Nat → Hs} {w : World} {a : Act} : ∀ (l : List Operand) (bs : List Nat), capA S l = some bs → (∀ x ∈ l, (S.ev x).R (env X h τ w) (a.eval x)) → l.map a.eval = bs.map τ ∧ ∀ b ∈ bs, h b ≠ .fresh
  | [], bs, e, _ => by simp only [capA, Option.some.injEq] at e; subst e; exact ⟨rfl, fun b hb => (by cases hb)⟩
  | x :: r, bs, e, hR => by
    simp only [capA] at e
    split at e
    · rename_i b l hx hl
      cases e
      obtain ⟨i1, i2⟩ := capA_R r l hl (fun y hy => hR y (List.mem_cons_of_mem _ hy))
      have := hR x (by simp)
      rw [hx] at this
      obtain ⟨h0, g, e1, e2⟩ := this
      have e1 : τ b = .pointer (some ⟨g, 0, none⟩) := e1
      refine ⟨?_, fun c hc => ?_⟩
      · rw [List.map_cons, List.map_cons, i1, e2, e1]
      · rcases List.mem_cons.1 hc with rfl | hc
        · exact h0
        · exact i2 c hc
    · cases e
/-- a function value that captures boxes -/
theorem valid_clos {fi : FuncId} {cs : Array Operand} {bs : List Nat} (ho : o.op = .makeFunc (.func fi) #[] cs) (hw : want ops S o = true) (hl : capA S cs.toList = some bs) : Valid P ops X o S ⟨.m (.c (.cl fi bs)), [], []⟩ :=
  valid_val [] hw fun S2 τ a w h _ hS => by
    obtain ⟨i1, i2⟩ := capA_R (X := X) (τ := τ) (h := S2.hp) (w := w) (a := a) cs.toList bs hl (fun x hx => h x (by rw [ho]; simpa [Op.operands] using hx))
    refine ⟨.func (.func fi) #[] (bs.map τ).toArray, ?_, rfl, i2⟩
    have : cs.map a.eval = (bs.map τ).toArray := by rw [← i1, ← Array.toList_inj, Array.toList_map]
    simp [execOp, ho, Instr.makeFunc, this]
/-- a slice of whatever, in a box -/
theorem valid_bslice_b {t el len k b : Nat} {parts : Array (Nat × Operand)} {l : List (Nat × Cm)} {z cs : List Ce} (ho : o.op = .buildSlice t len parts) (hd : o.dst = some b) (hw : want ops S o = true) (hf : S.hp b = .fresh) (hl : partsA S parts.toList = some l)
    (hu : P.underlying t = some (.slice el)) (hk : sizeA P el = some k) (hz : zerosA P el len k = some z) (hc : fillA (fun i => some (i * k, k)) z l = some cs) (hsm : (Nat.ble (len * k) 16777216 && Nat.ble 1 (len * k)) = true) :
    Valid P ops X o S ⟨.m (.c (.bs b 0 len)), [(b, .live (.box cs))], []⟩ := fun S2 a w h1 h2 h3 ⟨τ, hS⟩ => by
  refine .inl ⟨want_spec hw h1 h3 hS, ?_⟩
  have get : ∀ z ∈ o.op.operands, (S.ev z).R (env X S2.hp τ w) (a.eval z) := fun z hz => by rw [← ev_same h1 hz]; exact hS.ev z (fun t e => h3 t (.inl (looks_op (e ▸ hz))))
  have hR := partsA_R (S := S) (E := env X S2.hp τ w) (a := a) parts.toList l hl (fun p hp => get p.2 (by rw [ho]; simp [Op.operands]; exact ⟨p.1, by simpa using hp⟩))
  unfold zerosA at hz
  obtain ⟨zv, hzv, rfl⟩ := Option.map_eq_some_iff.1 hz
  obtain ⟨ie, hie, hz0⟩ := Option.bind_eq_some_iff.1 hzv
  have hk' : ie.size = k := by unfold sizeA at hk; rw [hie] at hk; simpa using hk
  subst hk'
  simp only [Bool.and_eq_true] at hsm
  have s1 := Nat.le_of_ble_eq_true hsm.1
  have s2 := Nat.le_of_ble_eq_true hsm.2
  have hzR : All2 (Ce.R (env X S2.hp τ w)) (((List.range (len * ie.size)).map (fun i => zv.cells[i % zv.cells.size]!)).map .v) ((Array.range (len * ie.size)).map (zv.cells[· % zv.cells.size]!)).toList := by
    have : ((Array.range (len * ie.size)).map (zv.cells[· % zv.cells.size]!)).toList = (List.range (len * ie.size)).map (fun i => zv.cells[i % zv.cells.size]!) := by simp
    rw [this]
    exact All2.of_map (R := Ce.R _) Ce.v (fun _ => rfl) _
  obtain ⟨cur, hf', hcR⟩ := fill_of (E := env X S2.hp τ w) hS.one _ l _ _ cs _ hR hzR hc
  have hrun := run_buildSlice w t el len (parts.map fun p => (p.1, a.eval p.2)) cur ie zv hu hie hz0 (by omega) (by omega) (by simpa using hf')
  have hrun' : (execOp a.eval o).run P w = .ok (.value (.slice (some ⟨w.heap.size, 0, none⟩) len len)) (w.alloc (.cells cur el)) := by
    simp only [execOp, ho, hrun, Sem.run_bind, Result.andThen_ok, Sem.run_pure]
  rw [hrun']
  have hf2 : S2.hp b = .fresh := Eq.trans (h2 (.all b) (by simp [Ef.foot, upRd])) hf
  refine ⟨_, hS.newb (k := .box cs) hf2 ((Below.refl _ _).alloc (Nat.le_refl _) _) (v := .pointer (some ⟨w.heap.size, 0, none⟩)) (g := w.heap.size) rfl ⟨Nat.le_refl _, by rw [World.size_alloc]; omega⟩ rfl (fun E hE hw' => ⟨w.heap.size, cur, rfl, by rw [hw']; exact Bx.new, All2.mono (ceR_le hE) _ _ hcR⟩) ?_⟩
  refine ⟨?_, w.heap.size, ?_, rfl⟩
  · show upd _ _ b ≠ _; rw [upd_one, if_pos rfl]; intro e; cases e
  · show setτ τ b _ b = _; unfold setτ; rw [if_pos rfl]
theorem valid_idx_bs {t el k n : Nat} {x y : Operand} {b off : Nat} {kk : IntKind} {i : Int} (ho : o.op = .indexAddr t x y) (hw : want ops S o = true) (hx : S.ev x = .m (.c (.bs b off n))) (hy : S.ev y = .m (.c (.v (.int kk i))))
    (hu : P.underlying t = some (.slice el)) (hk : sizeA P el = some k) (h0 : 0 ≤ i) (h1 : i < n) : Valid P ops X o S ⟨.m (.c (.p b (off + i.toNat * k))), [], []⟩ :=
  valid_val [] hw fun S2 τ a w h _ _ => by
    have q1 := h x (by rw [ho]; simp [Op.operands])
    have q2 := h y (by rw [ho]; simp [Op.operands])
    rw [hx] at q1; rw [hy] at q2
    obtain ⟨u0, g, e1, e2⟩ := q1
    have q2 : a.eval y = .int kk i := q2
    exact ⟨_, by simp [execOp, ho, e2, q2, run_indexAt_sl hu hk h0 h1], u0, g, e1, rfl⟩
theorem valid_len_bs {x : Operand} {t el : TypeId} {b off n : Nat} (ho : o.op = .call { callee := .builtin .len, args := #[x], argTypes := #[t] }) (hu : P.underlying t = some (.slice el)) (hw : want ops S o = true) (hx : S.ev x = .m (.c (.bs b off n))) : Valid P ops X o S ⟨.m (.c (.v (.int .i64 n))), [], []⟩ :=
  valid_val [] hw fun S2 τ a w h _ _ => by
    have h1 := h x (by rw [ho]; simp [Op.operands, Call.operands])
    rw [hx] at h1
    obtain ⟨_, g, _, e⟩ := h1
    exact ⟨_, by simp [execOp, ho, resolve, invoke, builtin, e, Builtin.len_, goInt, run_underlying hu], rfl⟩
end
section
variable {P : Program} {X : Cx} {S : St} {Q : Exit → St → Prop}
theorem aw_goto {l : Nat} (h : Q (.goto l) S) : Aw P X (.goto l) Q S := fun a w hs n => wpIn_goto ⟨S, h, hs⟩
theorem aw_label {l : Nat} (h : Q .normal S) : Aw P X (.label l) Q S := fun a w hs n => wpIn_label ⟨S, h, hs⟩
/-- a scope whose run jumps back to one label, what is true there bearing a number -/
theorem wp_scope_ghost {Q : Exit → Act → World → Prop} {a : Act} {w : World} {c rest : Code} (l : Nat) (J : Nat → Act → World → Prop) (hf : findLabel c l = some rest)
    (first : c.wp P (Exit.jump l (fun a w => ∃ n, J n a w) Q) a w)
    (pass : ∀ n a w, J n a w → rest.wp P (Exit.jump l (fun a' w' => ∃ n', n' < n ∧ J n' a' w') Q) a w) : (Code.scope c).wp P Q a w := by
  intro b k cs
  have hg : gotoIn l (.inScope c :: k) = some (.code rest :: .inScope c :: k) := by simp [gotoIn, hf]
  have key : ∀ n a w, J n a w → ∃ e a' w', Q e a' w' ∧ Arrives P (lone (b.at a (.code rest :: .inScope c :: k)) cs w) b k cs e a' w' := by
    intro n
    induction n using Nat.strongRecOn with
    | _ n ih =>
      intro a w hJ
      obtain ⟨e, a1, w1, hq, harr⟩ := pass n a w hJ b (.inScope c :: k) cs
      cases e with
      | goto l' =>
        obtain ⟨rfl, n', hlt, hJ'⟩ := hq
        obtain ⟨e2, a2, w2, hq2, harr2⟩ := ih n' hlt a1 w1 hJ'
        exact ⟨e2, a2, w2, hq2, .of_steps (harr _ hg) harr2⟩
      | normal => exact ⟨.normal, a1, w1, hq, Steps.trans harr (.one step_inScope)⟩
      | exit id => exact ⟨.exit id, a1, w1, hq, fun k' hk => harr k' (by simp [exitTo, hk])⟩
      | ret => exact ⟨_, a1, w1, hq, harr⟩
      | panic ch => exact ⟨_, a1, w1, hq, harr⟩
      | outgrown => exact ⟨_, a1, w1, hq, harr⟩
  obtain ⟨e, a1, w1, hq, harr⟩ := first b (.inScope c :: k) cs
  cases e with
  | goto l' =>
    obtain ⟨rfl, n, hJ'⟩ := hq
    obtain ⟨e2, a2, w2, hq2, harr2⟩ := key n a1 w1 hJ'
    exact ⟨e2, a2, w2, hq2, .of_steps (.head step_scope (harr _ hg)) harr2⟩
  | normal => exact ⟨.normal, a1, w1, hq, .head step_scope (Steps.trans harr (.one step_inScope))⟩
  | exit id => exact ⟨.exit id, a1, w1, hq, fun k' hk => .head step_scope (harr k' (by simp [exitTo, hk]))⟩
  | ret => exact ⟨_, a1, w1, hq, .of_steps (.one step_scope) harr⟩
  | panic ch => exact ⟨_, a1, w1, hq, .of_steps (.one step_scope) harr⟩
  | outgrown => exact ⟨_, a1, w1, hq, .of_steps (.one step_scope) harr⟩
def jumpA (l : Nat) (J : St → Prop) (Q : Exit → St → Prop) : Exit → St → Prop
  | .goto l', S => l' = l ∧ J S
  | e, S => Q e S
theorem aw_wp {c : Code} (hr : X.rd = none) (h : Aw P X c Q S) {a : Act} {w : World} (hs : Sim X S a w) : c.wp P (fun e a' w' => ∃ S', Q e S' ∧ Sim X S' a' w') a w := by
  have := h a w hs 0
  rw [FX_none hr] at this
  exact wpIn_wide.1 this
theorem aw_scopeH {α : Type} {c rest : Code} (l : Nat) (hf : findLabel c l = some rest) (F : α → Prop) (H : α → St) (μ : α → Nat) (first : Aw P X c (jumpA l (fun S' => ∃ p, F p ∧ Sub X S' (H p)) Q) S)
    (pass : ∀ p, F p → Aw P X rest (jumpA l (fun S' => ∃ p', F p' ∧ μ p' < μ p ∧ Sub X S' (H p')) Q) (H p)) (hr : X.rd = none := by rfl) : Aw P X (.scope c) Q S := fun a w hs m => by
  rw [FX_none hr]
  refine wpIn_wide.2 (wp_scope_ghost l (fun n a w => ∃ p, F p ∧ μ p = n ∧ Sim X (H p) a w) hf (wp_mono (aw_wp hr first hs) fun e a' w' ⟨S', q, s⟩ => ?_) fun n a w ⟨p, hp, hn, hs⟩ => wp_mono (aw_wp hr (pass p hp) hs) fun e a' w' ⟨S', q, s⟩ => ?_)
  · cases e with
    | goto l' => obtain ⟨rfl, p, hp, hsub⟩ := q; exact ⟨rfl, μ p, p, hp, rfl, hsub a' w' s⟩
    | _ => exact ⟨S', q, s⟩
  · cases e with
    | goto l' => obtain ⟨rfl, p', hp', hlt, hsub⟩ := q; exact ⟨rfl, μ p', by omega, p', hp', rfl, hsub a' w' s⟩
    | _ => exact ⟨S', q, s⟩
/-- a scope of a part, and then a label, to which the rest jumps back -/
theorem aw_scopeP {α : Type} {x body : Code} (l : Nat) (hx : findLabel x l = none) (F : α → Prop) (H : α → St) (μ : α → Nat) (p0 : α) (hp0 : F p0)
    (start : Aw P X x (thenA (fun S' => Sub X S' (H p0)) (fun _ _ => False)) S)
    (pass : ∀ p, F p → Aw P X body (jumpA l (fun S' => ∃ p', F p' ∧ μ p' < μ p ∧ Sub X S' (H p')) Q) (H p)) (hr : X.rd = none := by rfl) : Aw P X (.scope (.seq x (.seq (.label l) body))) Q S := by
  refine aw_scopeH l (rest := .seq .skip body) (by simp [findLabel, hx]) F H μ ?_ (fun p hp => aw_seq (aw_skip (pass p hp))) hr
  refine aw_seq (aw_mono start fun e S'' q' => ?_)
  cases e with
  | normal =>
    refine aw_seq (aw_label ?_)
    refine aw_sub q' (aw_mono (pass p0 hp0) fun e S3 q3 => ?_)
    cases e with
    | goto l' => obtain ⟨h1, p', h2, _, h3⟩ := q3; exact ⟨h1, p', h2, h3⟩
    | _ => exact q3
  | _ => exact q'.elim
end
end Go.Proofs.YtgkodncknlankaaGreatDoor.Ax
/- The abstract walk: fences over entries that are zero. -/
namespace Go.Proofs.YtgkodncknlankaaGreatDoor.SpD
open Go.RowKit Go.Proofs.YtgkodncknlankaaGreatDoor.Bv Go.Proofs.YtgkodncknlankaaGreatDoor.VaSpec Go.Proofs.YtgkodncknlankaaGreatDoor.Base Go.Proofs.YtgkodncknlankaaGreatDoor.MemL Go.Proofs.YtgkodncknlankaaGreatDoor.RegR Go.Proofs.YtgkodncknlankaaGreatDoor.Ax Go.Proofs.YtgkodncknlankaaGreatDoor.MemC Go.Proofs.YtgkodncknlankaaGreatDoor.PutC Go.Proofs.YtgkodncknlankaaGreatDoor.MemC3 Go.Proofs.YtgkodncknlankaaGreatDoor.TzC Go.Proofs.YtgkodncknlankaaGreatDoor.OkS Go.Proofs.YtgkodncknlankaaGreatDoor.SpA Go.Proofs.YtgkodncknlankaaGreatDoor.SpB Go.Proofs.YtgkodncknlankaaGreatDoor.SpC
open Go.Proofs.YtgkodncknlankaaGreatDoor.BitsC Go.Proofs.YtgkodncknlankaaGreatDoor.PteSpec
set_option linter.unusedVariables false
set_option linter.unusedSimpArgs false
set_option maxRecDepth 10000
set_option maxHeartbeats 1000000
def Fe.ce (f : Fe) : List Ce := [cb f.ha, cu f.ad, cb f.hs, cu f.sn]
def zE : List Ce := [cb false, cu 0, cb false, ci 0, cu 0, cu 0, cb false, cb false, cb false, cb false, cb false]
theorem covers0_ok (a : Int) : Ok 208 [.ag zE, iu a] (.m (ib false)) := by
  refine callOk_of 17 Tryz.func208 rfl rfl rfl rfl ?_ GG.to
  intro W A hG
  repeat (first
    | (refine go_at rfl ?_; first
        | refine go_do (valid_skip rfl) rfl ?_
        | refine go_do (valid_mv (.inl rfl) rfl) rfl ?_
        | (refine nxt_s 1 rfl ?_; refine go_do (valid_load_p tb rfl rfl rfl rfl rfl (by first | kernel_rfl | rfl)) (by first | kernel_rfl | rfl) ?_)
        | (refine nxt_s 1 rfl ?_; refine go_do (valid_fld_p tb rfl rfl rfl (by kernel_rfl)) rfl ?_)
        | refine go_do (valid_mv (.inr rfl) rfl) rfl ?_
        | refine go_do (valid_pick rfl rfl rfl) rfl ?_
        | refine go_do (valid_box rfl rfl rfl rfl rfl rfl) rfl ?_)
    | (refine hK _ ?_; clear hK K)
    | refine aw_text rfl ?_
    | refine aw_any (by kernel_rfl) (by kernel_rfl) rfl ?_
    | exact aw_ret (show resA _ _ _ = some _ by kernel_rfl)
    | refine aw_seq_k (fun K hK => ?_))
theorem addr0_ok (f : Fe) (h : U f.ad) : Ok 205 [.ag (Fe.ce f), .ag zE] (.m (ib (!f.ha))) := by
  obtain ⟨ha, ad, hs, sn⟩ := f
  cases ha with
  | false =>
    refine callOk_of 19 Tryz.func205 rfl rfl rfl rfl ?_ GG.to
    intro W A hG
    repeat (first
      | (refine go_at rfl ?_; first
          | refine go_do (valid_skip rfl) rfl ?_
          | refine go_do (valid_mv (.inl rfl) rfl) rfl ?_
          | (refine nxt_s 1 rfl ?_; refine go_do (valid_load_p tb rfl rfl rfl rfl rfl (by first | kernel_rfl | rfl)) (by first | kernel_rfl | rfl) ?_)
          | (refine nxt_s 1 rfl ?_; refine go_do (valid_fld_p tb rfl rfl rfl (by kernel_rfl)) rfl ?_)
          | refine go_do (valid_mv (.inr rfl) rfl) rfl ?_
          | refine go_do (valid_pick rfl rfl rfl) rfl ?_
          | refine go_do (valid_box rfl rfl rfl rfl rfl rfl) rfl ?_
          | refine go_do (valid_not rfl rfl rfl) rfl ?_)
      | (refine hK _ ?_; clear hK K)
      | refine aw_text rfl ?_
      | exact aw_ret (show resA _ _ _ = some _ by kernel_rfl)
      | refine aw_seq_k (fun K hK => ?_))
  | true =>
    cases hi : isv ad with
    | false =>
      refine callOk_of 19 Tryz.func205 rfl rfl rfl rfl ?_ GG.to
      intro W A hG
      repeat (first
        | (refine go_at rfl ?_; first
            | refine go_do (valid_skip rfl) rfl ?_
            | refine go_do (valid_mv (.inl rfl) rfl) rfl ?_
            | (refine nxt_s 1 rfl ?_; refine go_do (valid_load_p tb rfl rfl rfl rfl rfl (by first | kernel_rfl | rfl)) (by first | kernel_rfl | rfl) ?_)
            | (refine nxt_s 1 rfl ?_; refine go_do (valid_fld_p tb rfl rfl rfl (by kernel_rfl)) rfl ?_)
            | refine go_do (valid_mv (.inr rfl) rfl) rfl ?_
            | refine go_do (valid_pick rfl rfl rfl) rfl ?_
            | refine go_do (valid_box rfl rfl rfl rfl rfl rfl) rfl ?_
            | refine go_do (valid_not rfl rfl rfl) rfl ?_
            | refine go_do (valid_call rfl rfl rfl (hi ▸ vis_ok ad h) rfl) rfl ?_)
        | (refine hK _ ?_; clear hK K)
        | refine aw_text rfl ?_
        | exact aw_ret (show resA _ _ _ = some _ by kernel_rfl)
        | refine aw_seq_k (fun K hK => ?_))
    | true =>
      refine callOk_of 19 Tryz.func205 rfl rfl rfl rfl ?_ GG.to
      intro W A hG
      repeat (first
        | (refine go_at rfl ?_; first
            | refine go_do (valid_mv (.inl rfl) rfl) rfl ?_
            | (refine nxt_s 1 rfl ?_; refine go_do (valid_load_p tb rfl rfl rfl rfl rfl (by first | kernel_rfl | rfl)) (by first | kernel_rfl | rfl) ?_)
            | (refine nxt_s 1 rfl ?_; refine go_do (valid_fld_p tb rfl rfl rfl (by kernel_rfl)) rfl ?_)
            | refine go_do (valid_mv (.inr rfl) rfl) rfl ?_
            | refine go_do (valid_pick rfl rfl rfl) rfl ?_
            | refine go_do (valid_box rfl rfl rfl rfl rfl rfl) rfl ?_
            | refine go_do (valid_not rfl rfl rfl) rfl ?_
            | refine go_do (valid_call rfl rfl rfl (hi ▸ vis_ok ad h) rfl) rfl ?_
            | refine go_do (valid_call rfl rfl rfl (covers0_ok ad) rfl) rfl ?_)
        | (refine hK _ ?_; clear hK K)
        | refine aw_text rfl ?_
        | exact aw_ret (show resA _ _ _ = some _ by kernel_rfl)
        | refine aw_seq_k (fun K hK => ?_))
theorem asid0_ok (f : Fe) : Ok 207 [.ag (Fe.ce f), .ag zE] (.m (ib (!f.hs || (0 == f.sn)))) := by
  obtain ⟨ha, ad, hs, sn⟩ := f
  cases hs with
  | false =>
    refine callOk_of 20 Tryz.func207 rfl rfl rfl rfl ?_ GG.to
    intro W A hG
    repeat (first
      | (refine go_at rfl ?_; first
          | refine go_do (valid_skip rfl) rfl ?_
          | refine go_do (valid_mv (.inl rfl) rfl) rfl ?_
          | (refine nxt_s 1 rfl ?_; refine go_do (valid_load_p tb rfl rfl rfl rfl rfl (by first | kernel_rfl | rfl)) (by first | kernel_rfl | rfl) ?_)
          | (refine nxt_s 1 rfl ?_; refine go_do (valid_fld_p tb rfl rfl rfl (by kernel_rfl)) rfl ?_)
          | refine go_do (valid_mv (.inr rfl) rfl) rfl ?_
          | refine go_do (valid_pick rfl rfl rfl) rfl ?_
          | refine go_do (valid_box rfl rfl rfl rfl rfl rfl) rfl ?_
          | refine go_do (valid_not rfl rfl rfl) rfl ?_)
      | (refine hK _ ?_; clear hK K)
      | refine aw_text rfl ?_
      | exact aw_ret (show resA _ _ _ = some _ by kernel_rfl)
      | refine aw_seq_k (fun K hK => ?_))
  | true =>
    refine callOk_of 20 Tryz.func207 rfl rfl rfl rfl ?_ GG.to
    intro W A hG
    repeat (first
      | (refine go_at rfl ?_; first
          | refine go_do (valid_mv (.inl rfl) rfl) rfl ?_
          | (refine nxt_s 1 rfl ?_; refine go_do (valid_load_p tb rfl rfl rfl rfl rfl (by first | kernel_rfl | rfl)) (by first | kernel_rfl | rfl) ?_)
          | (refine nxt_s 1 rfl ?_; refine go_do (valid_fld_p tb rfl rfl rfl (by kernel_rfl)) rfl ?_)
          | refine go_do (valid_mv (.inr rfl) rfl) rfl ?_
          | refine go_do (valid_pick rfl rfl rfl) rfl ?_
          | refine go_do (valid_cmp rfl rfl rfl rfl (by first | exact .eql1 (by omega) | exact .eql0 (by omega) | exact .neq1 (by omega) | exact .neq0 (by omega) | exact .lss1 (by omega) | exact .lss0 (by omega) | exact .leq1 (by omega) | exact .leq0 (by omega) | exact .gtr1 (by omega) | exact .gtr0 (by omega) | exact .geq1 (by omega) | exact .geq0 (by omega) | constructor)) rfl ?_
          | refine go_do (valid_box rfl rfl rfl rfl rfl rfl) rfl ?_
          | refine go_do (valid_not rfl rfl rfl) rfl ?_)
      | (refine hK _ ?_; clear hK K)
      | refine aw_text rfl ?_
      | exact aw_ret (show resA _ _ _ = some _ by kernel_rfl)
      | refine aw_seq_k (fun K hK => ?_))
theorem names0_ok (f : Fe) (h : U f.ad) : Ok 174 [.ag (Fe.ce f), .ag zE] (.m (ib false)) := by
  refine callOk_of 21 Tryz.func174 rfl rfl rfl rfl ?_ GG.to
  intro W A hG
  obtain ⟨b, o, c, g1, g2, g3⟩ := (hG W (Below.refl _ _)).k
  have q1 : ∀ w, Kept (fun g => g < W.heap.size) W w → w.cell? ⟨2, 0, none⟩ = some (.slice (some ⟨b, o, none⟩) 2 c) := fun w hb => (hb.cell (p := ⟨2, 0, none⟩) (block_lt_of_cell g1)).trans g1
  have q2 : ∀ w, Kept (fun g => g < W.heap.size) W w → w.cell? ⟨b, o, none⟩ = some (askF 0) := fun w hb => (hb.cell (p := ⟨b, o, none⟩) (block_lt_of_cell g2)).trans g2
  have q3 : ∀ w, Kept (fun g => g < W.heap.size) W w → w.cell? ⟨b, o + 1, none⟩ = some (askF 1) := fun w hb => (hb.cell (p := ⟨b, o + 1, none⟩) (block_lt_of_cell g3)).trans g3
  repeat (first
    | (refine go_at rfl ?_; first
        | refine go_do (valid_mv (.inl rfl) rfl) rfl ?_
        | refine go_do (valid_mv (.inr rfl) rfl) rfl ?_
        | refine go_do (valid_box rfl rfl rfl rfl rfl rfl) rfl ?_
        | refine go_do (valid_len_v rfl rfl rfl rfl) rfl ?_
        | refine go_do (valid_load_v rfl rfl rfl rfl rfl q1) rfl ?_)
    | (refine hK _ ?_; clear hK K)
    | refine aw_text rfl ?_
    | refine aw_block ?_
    | refine aw_seq_k (fun K hK => ?_))
  refine aw_loopH (α := Nat) (fun i => i ≤ 2) (fun i => St.of [(2, .m (.c (.p 2 0))), (3, .m (.c (.p 3 0))), (7, .m (.c (.v (.slice (some ⟨b, o, none⟩) 2 c)))), (8, .m (ii 2)), (9, .m (ii i))] [(2, .live (.box (Fe.ce f))), (3, .live (.box zE))]) (fun i => 2 - i) 0 (by omega) (sub_of _ _ ⟨rfl, rfl, rfl, rfl, rfl, trivial⟩ ⟨rfl, rfl, trivial⟩ rfl) ?_
  intro i hi
  rcases (by omega : i = 0 ∨ i = 1 ∨ i = 2) with rfl | rfl | rfl
  · skip
    repeat (first
      | (refine go_at rfl ?_; first
          | refine go_do (valid_mv (.inl rfl) rfl) rfl ?_
          | (refine nxt_s 1 rfl ?_; refine go_do (valid_load_p tb rfl rfl rfl rfl rfl (by first | kernel_rfl | rfl)) (by first | kernel_rfl | rfl) ?_)
          | refine go_do (valid_mv (.inr rfl) rfl) rfl ?_
          | refine go_do (valid_cmp rfl rfl rfl rfl (by first | exact .eql1 (by omega) | exact .eql0 (by omega) | exact .neq1 (by omega) | exact .neq0 (by omega) | exact .lss1 (by omega) | exact .lss0 (by omega) | exact .leq1 (by omega) | exact .leq0 (by omega) | exact .gtr1 (by omega) | exact .gtr0 (by omega) | exact .geq1 (by omega) | exact .geq0 (by omega) | constructor)) rfl ?_
          | refine go_do (valid_not rfl rfl rfl) rfl ?_
          | refine go_do (valid_load_v rfl rfl rfl rfl rfl q2) rfl ?_
          | refine go_do (valid_idx_v rfl rfl rfl rfl rfl rfl (by omega) (by omega)) rfl ?_
          | refine go_do (valid_call_f rfl rfl rfl rfl (addr0_ok f h) rfl) rfl ?_)
      | (refine hK _ ?_; clear hK K)
      | refine aw_text rfl ?_
      | refine aw_cond1 rfl rfl ?_
      | refine aw_block ?_
      | refine aw_skip ?_
      | refine aw_seq_k (fun K hK => ?_))
    refine aw_cond rfl rfl (fun hc => ?_) (fun hc => ?_)
    · skip
      repeat (first
        | (refine go_at rfl ?_; first
            | refine go_do (valid_mv (.inr rfl) rfl) rfl ?_)
        | (refine hK _ ?_; clear hK K)
        | refine aw_text rfl ?_
        | exact aw_ret (show resA _ _ _ = some _ by kernel_rfl)
        | refine aw_seq_k (fun K hK => ?_))
    · skip
      repeat (first
        | (refine go_at rfl ?_; first
            | refine go_do (valid_mv (.inl rfl) rfl) rfl ?_
            | refine go_do (valid_ar rfl rfl rfl rfl (by constructor) (by first | exact wr_u64 (by omega) (by omega) | exact wr_i64 (by omega) (by omega) | rfl)) rfl ?_)
        | (refine hK _ ?_; clear hK K)
        | refine aw_text rfl ?_
        | refine aw_skip ?_)
      exact ⟨1, by omega, by omega, sub_of _ _ ⟨rfl, rfl, rfl, rfl, rfl, trivial⟩ ⟨rfl, rfl, trivial⟩ rfl⟩
  · skip
    repeat (first
      | (refine go_at rfl ?_; first
          | refine go_do (valid_mv (.inl rfl) rfl) rfl ?_
          | (refine nxt_s 1 rfl ?_; refine go_do (valid_load_p tb rfl rfl rfl rfl rfl (by first | kernel_rfl | rfl)) (by first | kernel_rfl | rfl) ?_)
          | refine go_do (valid_mv (.inr rfl) rfl) rfl ?_
          | refine go_do (valid_cmp rfl rfl rfl rfl (by first | exact .eql1 (by omega) | exact .eql0 (by omega) | exact .neq1 (by omega) | exact .neq0 (by omega) | exact .lss1 (by omega) | exact .lss0 (by omega) | exact .leq1 (by omega) | exact .leq0 (by omega) | exact .gtr1 (by omega) | exact .gtr0 (by omega) | exact .geq1 (by omega) | exact .geq0 (by omega) | constructor)) rfl ?_
          | refine go_do (valid_not rfl rfl rfl) rfl ?_
          | refine go_do (valid_load_v rfl rfl rfl rfl rfl q3) rfl ?_
          | refine go_do (valid_idx_v rfl rfl rfl rfl rfl rfl (by omega) (by omega)) rfl ?_
          | refine go_do (valid_call_f rfl rfl rfl rfl (asid0_ok f) rfl) rfl ?_)
      | (refine hK _ ?_; clear hK K)
      | refine aw_text rfl ?_
      | refine aw_cond1 rfl rfl ?_
      | refine aw_block ?_
      | refine aw_skip ?_
      | refine aw_seq_k (fun K hK => ?_))
    refine aw_cond rfl rfl (fun hc => ?_) (fun hc => ?_)
    · skip
      repeat (first
        | (refine go_at rfl ?_; first
            | refine go_do (valid_mv (.inr rfl) rfl) rfl ?_)
        | (refine hK _ ?_; clear hK K)
        | refine aw_text rfl ?_
        | exact aw_ret (show resA _ _ _ = some _ by kernel_rfl)
        | refine aw_seq_k (fun K hK => ?_))
    · skip
      repeat (first
        | (refine go_at rfl ?_; first
            | refine go_do (valid_mv (.inl rfl) rfl) rfl ?_
            | refine go_do (valid_ar rfl rfl rfl rfl (by constructor) (by first | exact wr_u64 (by omega) (by omega) | exact wr_i64 (by omega) (by omega) | rfl)) rfl ?_)
        | (refine hK _ ?_; clear hK K)
        | refine aw_text rfl ?_
        | refine aw_skip ?_)
      exact ⟨2, by omega, by omega, sub_of _ _ ⟨rfl, rfl, rfl, rfl, rfl, trivial⟩ ⟨rfl, rfl, trivial⟩ rfl⟩
  · skip
    repeat (first
      | (refine go_at rfl ?_; first
          | (refine nxt_s 1 rfl ?_; refine go_do (valid_load_p tb rfl rfl rfl rfl rfl (by first | kernel_rfl | rfl)) (by first | kernel_rfl | rfl) ?_)
          | (refine nxt_s 1 rfl ?_; refine go_do (valid_fld_p tb rfl rfl rfl (by kernel_rfl)) rfl ?_)
          | refine go_do (valid_mv (.inr rfl) rfl) rfl ?_
          | refine go_do (valid_cmp rfl rfl rfl rfl (by first | exact .eql1 (by omega) | exact .eql0 (by omega) | exact .neq1 (by omega) | exact .neq0 (by omega) | exact .lss1 (by omega) | exact .lss0 (by omega) | exact .leq1 (by omega) | exact .leq0 (by omega) | exact .gtr1 (by omega) | exact .gtr0 (by omega) | exact .geq1 (by omega) | exact .geq0 (by omega) | constructor)) rfl ?_)
      | (refine hK _ ?_; clear hK K)
      | (rename_i K1 hK1; refine hK1 _ ?_; clear hK hK1; clear K)
      | refine aw_text rfl ?_
      | exact aw_ret (show resA _ _ _ = some _ by kernel_rfl)
      | refine aw_cond0 rfl rfl ?_
      | refine aw_exit ?_
      | refine aw_seq_k (fun K hK => ?_))
def zEv : List Value := [.bool false, .int .u64 0, .bool false, .int .i64 0, .int .u64 0, .int .u64 0, .bool false, .bool false, .bool false, .bool false, .bool false]
def zS : List Value := zEv ++ zEv ++ zEv ++ zEv ++ [.int .u8 0]
def zsL (n : Nat) : List Value := (List.replicate n ()).flatMap (fun _ => zS)
theorem zsL_at (n k : Nat) (h : k < n) : ((zsL n).drop (k * 45)).take 45 = [.bool false, .int .u64 0, .bool false, .int .i64 0, .int .u64 0, .int .u64 0, .bool false, .bool false, .bool false, .bool false, .bool false, .bool false, .int .u64 0, .bool false, .int .i64 0, .int .u64 0, .int .u64 0, .bool false, .bool false, .bool false, .bool false, .bool false, .bool false, .int .u64 0, .bool false, .int .i64 0, .int .u64 0, .int .u64 0, .bool false, .bool false, .bool false, .bool false, .bool false, .bool false, .int .u64 0, .bool false, .int .i64 0, .int .u64 0, .int .u64 0, .bool false, .bool false, .bool false, .bool false, .bool false, .int .u8 0] :=
  flat_at (fun _ => zS) 45 (fun _ => rfl) (List.replicate n ()) k () (by rw [List.getElem?_replicate, if_pos h])
theorem zsL_one (n : Nat) : (zsL n).all (·.oneCell') = true := by
  rw [List.all_eq_true]
  intro v hv
  obtain ⟨_, _, hv⟩ := List.mem_flatMap.1 hv
  exact List.all_eq_true.1 (show zS.all (·.oneCell') = true from rfl) v hv
def zs44 : List Ce := (zEv ++ zEv ++ zEv ++ zEv).map .v
theorem do0_ok (f : Fe) (h : U f.ad) (n : Nat) (hn : n ≤ 16) : Ok 156 [.ag [.s n 45 (zsL n)], .ag (Fe.ce f)] (.m (.ag [.s n 45 (zsL n)])) := by
  refine callOk_of 40 Tryz.func156 rfl rfl rfl rfl ?_ GG.to
  intro W A hG
  repeat (first
    | (refine go_at rfl ?_; first
        | refine go_do (valid_mv (.inl rfl) rfl) rfl ?_
        | (refine nxt_s 1 rfl ?_; refine go_do (valid_load_p tb rfl rfl rfl rfl rfl (by first | kernel_rfl | rfl)) (by first | kernel_rfl | rfl) ?_)
        | (refine nxt_s 1 rfl ?_; refine go_do (valid_fld_p tb rfl rfl rfl (by kernel_rfl)) rfl ?_)
        | refine go_do (valid_box rfl rfl rfl rfl rfl rfl) rfl ?_
        | refine go_do (valid_alloc rfl rfl rfl rfl rfl) rfl ?_
        | refine go_do (valid_len_s rfl rfl rfl rfl) rfl ?_)
    | (refine hK _ ?_; clear hK K)
    | refine aw_text rfl ?_
    | refine aw_block ?_
    | refine aw_seq_k (fun K hK => ?_))
  refine aw_loopH (α := Nat) (fun k => k ≤ n) (fun k => St.of [(2, .m (.c (.p 2 0))), (3, .m (.c (.p 3 0))), (4, .m (.c (.p 4 0))), (10, .m (.c (.s n 45 (zsL n)))), (11, .m (ii n)), (12, .m (ii k))] [(2, .live (.box [.s n 45 (zsL n)])), (3, .live (.box (Fe.ce f))), (4, .live (.box [.v (.slice none 0 0)]))]) (fun k => n - k) 0 (by omega) (sub_of _ _ ⟨rfl, rfl, rfl, rfl, rfl, rfl, trivial⟩ ⟨rfl, rfl, rfl, trivial⟩ rfl) ?_
  intro k hk
  by_cases hlt : k < n
  · have hx := zsL_at n k hlt
    repeat (first
      | (refine go_at rfl ?_; first
          | refine go_do (valid_mv (.inl rfl) rfl) rfl ?_
          | (refine nxt_s 1 rfl ?_; refine go_do (valid_load_p tb rfl rfl rfl rfl rfl (by first | kernel_rfl | rfl)) (by first | kernel_rfl | rfl) ?_)
          | (refine nxt_s 1 rfl ?_; refine go_do (valid_fld_p tb rfl rfl rfl (by kernel_rfl)) rfl ?_)
          | refine go_do (valid_mv (.inr rfl) rfl) rfl ?_
          | refine go_do (valid_cmp rfl rfl rfl rfl (by first | exact .eql1 (by omega) | exact .eql0 (by omega) | exact .neq1 (by omega) | exact .neq0 (by omega) | exact .lss1 (by omega) | exact .lss0 (by omega) | exact .leq1 (by omega) | exact .leq0 (by omega) | exact .gtr1 (by omega) | exact .gtr0 (by omega) | exact .geq1 (by omega) | exact .geq0 (by omega) | constructor)) rfl ?_
          | refine go_do (valid_alloc rfl rfl rfl rfl rfl) rfl ?_
          | (refine nxt_s 1 rfl ?_; refine go_do (valid_store_p rfl rfl rfl rfl rfl rfl (by first | kernel_rfl | rfl) rfl) (by first | kernel_rfl | rfl) ?_)
          | (refine nxt_s 3 rfl ?_; refine go_do (valid_load_q tb rfl rfl rfl rfl (by first | kernel_rfl | rfl)) rfl ?_)
          | (refine nxt_s 4 rfl ?_; refine go_do (valid_idx_s rfl rfl rfl rfl rfl rfl (by omega) (by omega) _ (by assumption)) rfl ?_))
      | (refine hK _ ?_; clear hK K)
      | refine aw_text rfl ?_
      | refine aw_cond1 rfl rfl ?_
      | refine aw_block ?_
      | refine aw_skip ?_
      | refine aw_seq_k (fun K hK => ?_))
    refine aw_loopH (α := Nat) (fun w => w ≤ 4) (fun w => St.of [(2, .m (.c (.p 2 0))), (3, .m (.c (.p 3 0))), (4, .m (.c (.p 4 0))), (10, .m (.c (.s n 45 (zsL n)))), (11, .m (ii n)), (12, .m (ii k)), (18, .m (.ag zs44)), (19, .m (ii w))] [(2, .live (.box [.s n 45 (zsL n)])), (3, .live (.box (Fe.ce f))), (4, .live (.box [.v (.slice none 0 0)]))]) (fun w => 4 - w) 0 (by omega) (sub_of _ _ ⟨rfl, rfl, rfl, rfl, rfl, rfl, rfl, rfl, trivial⟩ ⟨rfl, rfl, rfl, trivial⟩ rfl) ?_
    intro w hw
    rcases (by omega : w = 0 ∨ w = 1 ∨ w = 2 ∨ w = 3 ∨ w = 4) with rfl | rfl | rfl | rfl | rfl
    · skip
      repeat (first
        | (refine go_at rfl ?_; first
            | refine go_do (valid_mv (.inl rfl) rfl) rfl ?_
            | (refine nxt_s 1 rfl ?_; refine go_do (valid_load_p tb rfl rfl rfl rfl rfl (by first | kernel_rfl | rfl)) (by first | kernel_rfl | rfl) ?_)
            | refine go_do (valid_mv (.inr rfl) rfl) rfl ?_
            | refine go_do (valid_cmp rfl rfl rfl rfl (by first | exact .eql1 (by omega) | exact .eql0 (by omega) | exact .neq1 (by omega) | exact .neq0 (by omega) | exact .lss1 (by omega) | exact .lss0 (by omega) | exact .leq1 (by omega) | exact .leq0 (by omega) | exact .gtr1 (by omega) | exact .gtr0 (by omega) | exact .geq1 (by omega) | exact .geq0 (by omega) | constructor)) rfl ?_
            | refine go_do (valid_ar rfl rfl rfl rfl (by constructor) (by first | exact wr_u64 (by omega) (by omega) | exact wr_i64 (by omega) (by omega) | rfl)) rfl ?_
            | refine go_do (valid_alloc rfl rfl rfl rfl rfl) rfl ?_
            | (refine nxt_s 1 rfl ?_; refine go_do (valid_store_p rfl rfl rfl rfl rfl rfl (by first | kernel_rfl | rfl) rfl) (by first | kernel_rfl | rfl) ?_)
            | refine go_do (valid_index tb rfl rfl rfl rfl rfl rfl (by omega) (by omega) rfl) rfl ?_
            | refine go_do (valid_call rfl rfl rfl (names0_ok f h) rfl) rfl ?_)
        | (refine hK _ ?_; clear hK K)
        | refine aw_text rfl ?_
        | refine aw_cond1 rfl rfl ?_
        | refine aw_cond0 rfl rfl ?_
        | refine aw_block ?_
        | refine aw_skip ?_
        | refine aw_seq_k (fun K hK => ?_))
      exact ⟨1, by omega, by omega, sub_of _ _ ⟨rfl, rfl, rfl, rfl, rfl, rfl, rfl, rfl, trivial⟩ ⟨rfl, rfl, rfl, trivial⟩ rfl⟩
    · skip
      repeat (first
        | (refine go_at rfl ?_; first
            | refine go_do (valid_mv (.inl rfl) rfl) rfl ?_
            | (refine nxt_s 1 rfl ?_; refine go_do (valid_load_p tb rfl rfl rfl rfl rfl (by first | kernel_rfl | rfl)) (by first | kernel_rfl | rfl) ?_)
            | refine go_do (valid_mv (.inr rfl) rfl) rfl ?_
            | refine go_do (valid_cmp rfl rfl rfl rfl (by first | exact .eql1 (by omega) | exact .eql0 (by omega) | exact .neq1 (by omega) | exact .neq0 (by omega) | exact .lss1 (by omega) | exact .lss0 (by omega) | exact .leq1 (by omega) | exact .leq0 (by omega) | exact .gtr1 (by omega) | exact .gtr0 (by omega) | exact .geq1 (by omega) | exact .geq0 (by omega) | constructor)) rfl ?_
            | refine go_do (valid_ar rfl rfl rfl rfl (by constructor) (by first | exact wr_u64 (by omega) (by omega) | exact wr_i64 (by omega) (by omega) | rfl)) rfl ?_
            | refine go_do (valid_alloc rfl rfl rfl rfl rfl) rfl ?_
            | (refine nxt_s 1 rfl ?_; refine go_do (valid_store_p rfl rfl rfl rfl rfl rfl (by first | kernel_rfl | rfl) rfl) (by first | kernel_rfl | rfl) ?_)
            | refine go_do (valid_index tb rfl rfl rfl rfl rfl rfl (by omega) (by omega) rfl) rfl ?_
            | refine go_do (valid_call rfl rfl rfl (names0_ok f h) rfl) rfl ?_)
        | (refine hK _ ?_; clear hK K)
        | refine aw_text rfl ?_
        | refine aw_cond1 rfl rfl ?_
        | refine aw_cond0 rfl rfl ?_
        | refine aw_block ?_
        | refine aw_skip ?_
        | refine aw_seq_k (fun K hK => ?_))
      exact ⟨2, by omega, by omega, sub_of _ _ ⟨rfl, rfl, rfl, rfl, rfl, rfl, rfl, rfl, trivial⟩ ⟨rfl, rfl, rfl, trivial⟩ rfl⟩
    · skip
      repeat (first
        | (refine go_at rfl ?_; first
            | refine go_do (valid_mv (.inl rfl) rfl) rfl ?_
            | (refine nxt_s 1 rfl ?_; refine go_do (valid_load_p tb rfl rfl rfl rfl rfl (by first | kernel_rfl | rfl)) (by first | kernel_rfl | rfl) ?_)
            | refine go_do (valid_mv (.inr rfl) rfl) rfl ?_
            | refine go_do (valid_cmp rfl rfl rfl rfl (by first | exact .eql1 (by omega) | exact .eql0 (by omega) | exact .neq1 (by omega) | exact .neq0 (by omega) | exact .lss1 (by omega) | exact .lss0 (by omega) | exact .leq1 (by omega) | exact .leq0 (by omega) | exact .gtr1 (by omega) | exact .gtr0 (by omega) | exact .geq1 (by omega) | exact .geq0 (by omega) | constructor)) rfl ?_
            | refine go_do (valid_ar rfl rfl rfl rfl (by constructor) (by first | exact wr_u64 (by omega) (by omega) | exact wr_i64 (by omega) (by omega) | rfl)) rfl ?_
            | refine go_do (valid_alloc rfl rfl rfl rfl rfl) rfl ?_
            | (refine nxt_s 1 rfl ?_; refine go_do (valid_store_p rfl rfl rfl rfl rfl rfl (by first | kernel_rfl | rfl) rfl) (by first | kernel_rfl | rfl) ?_)
            | refine go_do (valid_index tb rfl rfl rfl rfl rfl rfl (by omega) (by omega) rfl) rfl ?_
            | refine go_do (valid_call rfl rfl rfl (names0_ok f h) rfl) rfl ?_)
        | (refine hK _ ?_; clear hK K)
        | refine aw_text rfl ?_
        | refine aw_cond1 rfl rfl ?_
        | refine aw_cond0 rfl rfl ?_
        | refine aw_block ?_
        | refine aw_skip ?_
        | refine aw_seq_k (fun K hK => ?_))
      exact ⟨3, by omega, by omega, sub_of _ _ ⟨rfl, rfl, rfl, rfl, rfl, rfl, rfl, rfl, trivial⟩ ⟨rfl, rfl, rfl, trivial⟩ rfl⟩
    · skip
      repeat (first
        | (refine go_at rfl ?_; first
            | refine go_do (valid_mv (.inl rfl) rfl) rfl ?_
            | (refine nxt_s 1 rfl ?_; refine go_do (valid_load_p tb rfl rfl rfl rfl rfl (by first | kernel_rfl | rfl)) (by first | kernel_rfl | rfl) ?_)
            | refine go_do (valid_mv (.inr rfl) rfl) rfl ?_
            | refine go_do (valid_cmp rfl rfl rfl rfl (by first | exact .eql1 (by omega) | exact .eql0 (by omega) | exact .neq1 (by omega) | exact .neq0 (by omega) | exact .lss1 (by omega) | exact .lss0 (by omega) | exact .leq1 (by omega) | exact .leq0 (by omega) | exact .gtr1 (by omega) | exact .gtr0 (by omega) | exact .geq1 (by omega) | exact .geq0 (by omega) | constructor)) rfl ?_
            | refine go_do (valid_ar rfl rfl rfl rfl (by constructor) (by first | exact wr_u64 (by omega) (by omega) | exact wr_i64 (by omega) (by omega) | rfl)) rfl ?_
            | refine go_do (valid_alloc rfl rfl rfl rfl rfl) rfl ?_
            | (refine nxt_s 1 rfl ?_; refine go_do (valid_store_p rfl rfl rfl rfl rfl rfl (by first | kernel_rfl | rfl) rfl) (by first | kernel_rfl | rfl) ?_)
            | refine go_do (valid_index tb rfl rfl rfl rfl rfl rfl (by omega) (by omega) rfl) rfl ?_
            | refine go_do (valid_call rfl rfl rfl (names0_ok f h) rfl) rfl ?_)
        | (refine hK _ ?_; clear hK K)
        | refine aw_text rfl ?_
        | refine aw_cond1 rfl rfl ?_
        | refine aw_cond0 rfl rfl ?_
        | refine aw_block ?_
        | refine aw_skip ?_
        | refine aw_seq_k (fun K hK => ?_))
      exact ⟨4, by omega, by omega, sub_of _ _ ⟨rfl, rfl, rfl, rfl, rfl, rfl, rfl, rfl, trivial⟩ ⟨rfl, rfl, rfl, trivial⟩ rfl⟩
    · skip
      repeat (first
        | (refine go_at rfl ?_; first
            | refine go_do (valid_mv (.inl rfl) rfl) rfl ?_
            | refine go_do (valid_cmp rfl rfl rfl rfl (by first | exact .eql1 (by omega) | exact .eql0 (by omega) | exact .neq1 (by omega) | exact .neq0 (by omega) | exact .lss1 (by omega) | exact .lss0 (by omega) | exact .leq1 (by omega) | exact .leq0 (by omega) | exact .gtr1 (by omega) | exact .gtr0 (by omega) | exact .geq1 (by omega) | exact .geq0 (by omega) | constructor)) rfl ?_
            | refine go_do (valid_ar rfl rfl rfl rfl (by constructor) (by first | exact wr_u64 (by omega) (by omega) | exact wr_i64 (by omega) (by omega) | rfl)) rfl ?_)
        | (refine hK _ ?_; clear hK K)
        | (rename_i K1 hK1; refine hK1 _ ?_; clear hK hK1; clear K)
        | refine aw_text rfl ?_
        | refine aw_cond0 rfl rfl ?_
        | refine aw_exit ?_
        | refine aw_seq_k (fun K hK => ?_))
      exact ⟨k + 1, by omega, by omega, sub_of _ _ ⟨rfl, rfl, rfl, rfl, rfl, rfl, trivial⟩ ⟨rfl, rfl, rfl, trivial⟩ rfl⟩
  · skip
    repeat (first
      | (refine go_at rfl ?_; first
          | (refine nxt_s 1 rfl ?_; refine go_do (valid_load_p tb rfl rfl rfl rfl rfl (by first | kernel_rfl | rfl)) (by first | kernel_rfl | rfl) ?_)
          | (refine nxt_s 1 rfl ?_; refine go_do (valid_fld_p tb rfl rfl rfl (by kernel_rfl)) rfl ?_)
          | refine go_do (valid_cmp rfl rfl rfl rfl (by first | exact .eql1 (by omega) | exact .eql0 (by omega) | exact .neq1 (by omega) | exact .neq0 (by omega) | exact .lss1 (by omega) | exact .lss0 (by omega) | exact .leq1 (by omega) | exact .leq0 (by omega) | exact .gtr1 (by omega) | exact .gtr0 (by omega) | exact .geq1 (by omega) | exact .geq0 (by omega) | constructor)) rfl ?_
          | (refine nxt_s 1 rfl ?_; refine go_do (valid_store_p rfl rfl rfl rfl rfl rfl (by first | kernel_rfl | rfl) rfl) (by first | kernel_rfl | rfl) ?_)
          | refine go_do (valid_build rfl rfl rfl rfl) rfl ?_
          | refine go_do (valid_bslice0 rfl rfl rfl rfl rfl rfl rfl) rfl ?_
          | refine go_do (valid_app_e rfl rfl rfl rfl rfl rfl rfl rfl rfl rfl rfl rfl (zsL_one n) (by omega)) rfl ?_)
      | (refine hK _ ?_; clear hK K)
      | (rename_i K1 hK1; refine hK1 _ ?_; clear hK hK1; clear K)
      | refine aw_text rfl ?_
      | exact aw_ret (show resA _ _ _ = some _ by kernel_rfl)
      | refine aw_cond0 rfl rfl ?_
      | refine aw_exit ?_
      | refine aw_seq_k (fun K hK => ?_))
theorem flF_one (l : List Fe) : (flF l).all (·.oneCell') = true := by
  rw [List.all_eq_true]
  intro v hv
  obtain ⟨f, _, hv⟩ := List.mem_flatMap.1 hv
  exact List.all_eq_true.1 (show f.vs.all (·.oneCell') = true from rfl) v hv
theorem flF_at {l : List Fe} {k : Nat} {f : Fe} (h : l[k]? = some f) : ((flF l).drop (k * 4)).take 4 = [.bool f.ha, .int .u64 f.ad, .bool f.hs, .int .u64 f.sn] := flat_at Fe.vs 4 (fun _ => rfl) l _ f h
theorem all0_ok (l : List Fe) (h : ∀ f ∈ l, U f.ad) (hl : l.length ≤ 1000000) (n : Nat) (hn : n ≤ 16) : Ok 121 [.ag [.s n 45 (zsL n)], .c (.s l.length 4 (flF l))] (.m (.ag [.s n 45 (zsL n)])) := by
  refine callOk_of 23 Tryz.func121 rfl rfl rfl rfl ?_ GG.to
  intro W A hG
  repeat (first
    | (refine go_at rfl ?_; first
        | refine go_do (valid_mv (.inl rfl) rfl) rfl ?_
        | (refine nxt_s 1 rfl ?_; refine go_do (valid_load_p tb rfl rfl rfl rfl rfl (by first | kernel_rfl | rfl)) (by first | kernel_rfl | rfl) ?_)
        | (refine nxt_s 1 rfl ?_; refine go_do (valid_fld_p tb rfl rfl rfl (by kernel_rfl)) rfl ?_)
        | refine go_do (valid_box rfl rfl rfl rfl rfl rfl) rfl ?_
        | refine go_do (valid_alloc rfl rfl rfl rfl rfl) rfl ?_
        | (refine nxt_s 1 rfl ?_; refine go_do (valid_store_p rfl rfl rfl rfl rfl rfl (by first | kernel_rfl | rfl) rfl) (by first | kernel_rfl | rfl) ?_)
        | refine go_do (valid_len_s rfl rfl rfl rfl) rfl ?_
        | refine go_do (valid_build rfl rfl rfl rfl) rfl ?_
        | refine go_do (valid_bslice0 rfl rfl rfl rfl rfl rfl rfl) rfl ?_
        | refine go_do (valid_app_e rfl rfl rfl rfl rfl rfl rfl rfl rfl rfl rfl rfl (zsL_one n) (by omega)) rfl ?_)
    | (refine hK _ ?_; clear hK K)
    | refine aw_text rfl ?_
    | refine aw_block ?_
    | refine aw_seq_k (fun K hK => ?_))
  refine aw_loopH (α := Nat) (fun k => k ≤ l.length) (fun k => St.of [(2, .m (.c (.p 2 0))), (4, .m (.c (.p 4 0))), (12, .m (.c (.s l.length 4 (flF l)))), (13, .m (ii l.length)), (14, .m (ii k))] [(2, .live (.box [.s n 45 (zsL n)])), (4, .live (.box [.v (.slice none 0 0)]))]) (fun k => l.length - k) 0 (by omega) (Sub.trans (sub_fr (b := 10) rfl) (sub_of _ _ ⟨rfl, rfl, rfl, rfl, rfl, trivial⟩ ⟨rfl, rfl, trivial⟩ rfl)) ?_
  intro k hk
  by_cases hlt : k < l.length
  · obtain ⟨f, hf⟩ : ∃ f, l[k]? = some f := ⟨_, List.getElem?_eq_getElem hlt⟩
    have hx := flF_at hf
    repeat (first
      | (refine go_at rfl ?_; first
          | refine go_do (valid_mv (.inl rfl) rfl) rfl ?_
          | (refine nxt_s 1 rfl ?_; refine go_do (valid_load_p tb rfl rfl rfl rfl rfl (by first | kernel_rfl | rfl)) (by first | kernel_rfl | rfl) ?_)
          | refine go_do (valid_cmp rfl rfl rfl rfl (by first | exact .eql1 (by omega) | exact .eql0 (by omega) | exact .neq1 (by omega) | exact .neq0 (by omega) | exact .lss1 (by omega) | exact .lss0 (by omega) | exact .leq1 (by omega) | exact .leq0 (by omega) | exact .gtr1 (by omega) | exact .gtr0 (by omega) | exact .geq1 (by omega) | exact .geq0 (by omega) | constructor)) rfl ?_
          | refine go_do (valid_ar rfl rfl rfl rfl (by constructor) (by first | exact wr_u64 (by omega) (by omega) | exact wr_i64 (by omega) (by omega) | rfl)) rfl ?_
          | refine go_do (valid_alloc rfl rfl rfl rfl rfl) rfl ?_
          | (refine nxt_s 1 rfl ?_; refine go_do (valid_store_p rfl rfl rfl rfl rfl rfl (by first | kernel_rfl | rfl) rfl) (by first | kernel_rfl | rfl) ?_)
          | (refine nxt_s 3 rfl ?_; refine go_do (valid_load_q tb rfl rfl rfl rfl (by first | kernel_rfl | rfl)) rfl ?_)
          | (refine nxt_s 4 rfl ?_; refine go_do (valid_idx_s rfl rfl rfl rfl rfl rfl (by omega) (by omega) _ (by assumption)) rfl ?_)
          | refine go_do (valid_call rfl rfl rfl (do0_ok f (h f (List.mem_of_getElem? hf)) n hn) rfl) rfl ?_)
      | (refine hK _ ?_; clear hK K)
      | refine aw_text rfl ?_
      | refine aw_cond1 rfl rfl ?_
      | refine aw_block ?_
      | refine aw_skip ?_
      | refine aw_seq_k (fun K hK => ?_))
    exact ⟨k + 1, by omega, by omega, sub_of _ _ ⟨rfl, rfl, rfl, rfl, rfl, trivial⟩ ⟨rfl, rfl, trivial⟩ rfl⟩
  · skip
    repeat (first
      | (refine go_at rfl ?_; first
          | (refine nxt_s 1 rfl ?_; refine go_do (valid_load_p tb rfl rfl rfl rfl rfl (by first | kernel_rfl | rfl)) (by first | kernel_rfl | rfl) ?_)
          | refine go_do (valid_cmp rfl rfl rfl rfl (by first | exact .eql1 (by omega) | exact .eql0 (by omega) | exact .neq1 (by omega) | exact .neq0 (by omega) | exact .lss1 (by omega) | exact .lss0 (by omega) | exact .leq1 (by omega) | exact .leq0 (by omega) | exact .gtr1 (by omega) | exact .gtr0 (by omega) | exact .geq1 (by omega) | exact .geq0 (by omega) | constructor)) rfl ?_
          | (refine nxt_s 1 rfl ?_; refine go_do (valid_store_p rfl rfl rfl rfl rfl rfl (by first | kernel_rfl | rfl) rfl) (by first | kernel_rfl | rfl) ?_))
      | (refine hK _ ?_; clear hK K)
      | (rename_i K1 hK1; refine hK1 _ ?_; clear hK hK1; clear K)
      | refine aw_text rfl ?_
      | exact aw_ret (show resA _ _ _ = some _ by kernel_rfl)
      | refine aw_cond0 rfl rfl ?_
      | refine aw_exit ?_
      | refine aw_seq_k (fun K hK => ?_))
end Go.Proofs.YtgkodncknlankaaGreatDoor.SpD
/- The abstract walk: space.Fence, back, Destroy, Create, New, over a buffer of zeros. -/
namespace Go.Proofs.YtgkodncknlankaaGreatDoor.SpE
open Go.RowKit Go.Proofs.YtgkodncknlankaaGreatDoor.Bv Go.Proofs.YtgkodncknlankaaGreatDoor.VaSpec Go.Proofs.YtgkodncknlankaaGreatDoor.Base Go.Proofs.YtgkodncknlankaaGreatDoor.MemL Go.Proofs.YtgkodncknlankaaGreatDoor.RegR Go.Proofs.YtgkodncknlankaaGreatDoor.Ax Go.Proofs.YtgkodncknlankaaGreatDoor.MemC Go.Proofs.YtgkodncknlankaaGreatDoor.PutC Go.Proofs.YtgkodncknlankaaGreatDoor.MemC3 Go.Proofs.YtgkodncknlankaaGreatDoor.TzC Go.Proofs.YtgkodncknlankaaGreatDoor.OkS Go.Proofs.YtgkodncknlankaaGreatDoor.SpA Go.Proofs.YtgkodncknlankaaGreatDoor.SpB Go.Proofs.YtgkodncknlankaaGreatDoor.SpC Go.Proofs.YtgkodncknlankaaGreatDoor.SpD Go.Proofs.YtgkodncknlankaaGreatDoor.IterC
open Go.Proofs.YtgkodncknlankaaGreatDoor.BitsC Go.Proofs.YtgkodncknlankaaGreatDoor.PteSpec
set_option linter.unusedVariables false
set_option linter.unusedSimpArgs false
set_option maxRecDepth 10000
set_option maxHeartbeats 2000000
/-- a kernel's cells, its lists told by themselves -/
def _root_.Go.Proofs.YtgkodncknlankaaGreatDoor.SpB.Kr.raw (k : Kr) (tn : Nat) (ts : List Value) (sn : Nat) (ss : List Value) (fn : Nat) (fs : List Value) : List Ce := [ci k.cd, ci k.cp, ci k.ca, ci k.cs, cu k.sz, .s k.m.length 2 (fl k.m), .s tn 45 ts, cu k.sm, cu k.sa, cu k.sp, ci k.priv, cb k.su, cb k.mx, ci k.vic, cu k.pb, ci k.pm, cu k.pf, ci k.am, cu k.af, cu k.ao, .s sn 3 ss, ci k.now, cu k.sh, .s fn 4 fs]
def zK : List Ce := [ci 0, ci 0, ci 0, ci 0, cu 0, .v (.slice none 0 0), .v (.slice none 0 0), cu 0, cu 0, cu 0, ci 0, cb false, cb false, ci 0, cu 0, ci 0, cu 0, ci 0, cu 0, cu 0, .v (.slice none 0 0), ci 0, cu 0, .v (.slice none 0 0)]
def fenceK (k : Kr) (l : List Fe) : Kr := { k with fs := k.fs ++ l }
theorem ce_z (k : Kr) (ht : k.ts = zsL k.tn) : k.ce = k.raw k.tn (zsL k.tn) k.ss.length (flS k.ss) k.fs.length (flF k.fs) := by rw [← ht]; rfl
theorem sfence_ok (k : Kr) (ht : k.ts = zsL k.tn) (hn : k.tn ≤ 16) (l : List Fe) (h : ∀ f ∈ l, U f.ad) (hl : l.length ≤ 1000000) (hk : k.fs.length ≤ 1000000) : Ok 64 [.ag k.ce, .c (.s l.length 4 (flF l))] (.m (.ag (fenceK k l).ce)) := by
  rw [ce_z k ht, show (fenceK k l).ce = k.raw k.tn (zsL k.tn) k.ss.length (flS k.ss) (k.fs.length + l.length) (flF k.fs ++ flF l) from by rw [← ht]; simp [fenceK, Kr.ce, Kr.raw, flF]]
  refine callOk_of 25 Tryz.func64 rfl rfl rfl rfl ?_ GG.to
  intro W A hG
  repeat (first
    | (refine go_at rfl ?_; first
        | refine go_do (valid_mv (.inl rfl) rfl) rfl ?_
        | (refine nxt_s 1 rfl ?_; refine go_do (valid_load_p tb rfl rfl rfl rfl rfl (by first | kernel_rfl | rfl)) (by first | kernel_rfl | rfl) ?_)
        | (refine nxt_s 1 rfl ?_; refine go_do (valid_fld_p tb rfl rfl rfl (by kernel_rfl)) rfl ?_)
        | refine go_do (valid_box rfl rfl rfl rfl rfl rfl) rfl ?_
        | refine go_do (valid_alloc rfl rfl rfl rfl rfl) rfl ?_
        | (refine nxt_s 1 rfl ?_; refine go_do (valid_store_p rfl rfl rfl rfl rfl rfl (by first | kernel_rfl | rfl) rfl) (by first | kernel_rfl | rfl) ?_)
        | refine go_do (valid_len_s rfl rfl rfl rfl) rfl ?_
        | refine go_do (valid_call rfl rfl rfl (all0_ok l h hl k.tn hn) rfl) rfl ?_
        | refine go_do (valid_slice3 rfl rfl rfl rfl rfl rfl rfl) rfl ?_
        | refine go_do (valid_app_f rfl rfl rfl rfl rfl rfl rfl rfl rfl (flF_one l) (by omega)) rfl ?_)
    | (refine hK _ ?_; clear hK K)
    | refine aw_text rfl ?_
    | exact aw_ret (show resA _ _ _ = some _ by kernel_rfl)
    | refine aw_seq_k (fun K hK => ?_))
end Go.Proofs.YtgkodncknlankaaGreatDoor.SpE
/- The abstract walk: Destroy, Create, over a buffer of zeros. -/
namespace Go.Proofs.YtgkodncknlankaaGreatDoor.SpF
open Go.RowKit Go.Proofs.YtgkodncknlankaaGreatDoor.Bv Go.Proofs.YtgkodncknlankaaGreatDoor.VaSpec Go.Proofs.YtgkodncknlankaaGreatDoor.Base Go.Proofs.YtgkodncknlankaaGreatDoor.MemL Go.Proofs.YtgkodncknlankaaGreatDoor.RegR Go.Proofs.YtgkodncknlankaaGreatDoor.Ax Go.Proofs.YtgkodncknlankaaGreatDoor.MemC Go.Proofs.YtgkodncknlankaaGreatDoor.PutC Go.Proofs.YtgkodncknlankaaGreatDoor.MemC3 Go.Proofs.YtgkodncknlankaaGreatDoor.TzC Go.Proofs.YtgkodncknlankaaGreatDoor.OkS Go.Proofs.YtgkodncknlankaaGreatDoor.SpA Go.Proofs.YtgkodncknlankaaGreatDoor.SpB Go.Proofs.YtgkodncknlankaaGreatDoor.SpC Go.Proofs.YtgkodncknlankaaGreatDoor.SpD Go.Proofs.YtgkodncknlankaaGreatDoor.IterC Go.Proofs.YtgkodncknlankaaGreatDoor.SpE
open Go.Proofs.YtgkodncknlankaaGreatDoor.BitsC Go.Proofs.YtgkodncknlankaaGreatDoor.PteSpec
set_option linter.unusedVariables false
set_option linter.unusedSimpArgs false
set_option maxRecDepth 10000
set_option maxHeartbeats 800000
attribute [local irreducible] Go.Proofs.YtgkodncknlankaaGreatDoor.Ax.CallOk
theorem kA_ex : ∃ a, a = ofv 133955584 := ⟨_, rfl⟩
/-- the address of what all share -/
noncomputable def kA : Int := Classical.choose kA_ex
theorem kA_eq : kA = ofv 133955584 := Classical.choose_spec kA_ex
theorem kA_U : U kA := by rw [kA_eq]; decide
theorem kaddr_ok' : Ok 75 [] (.m (iu kA)) := by rw [kA_eq]; exact kaddr_ok
def zP : Pte := ⟨false, false, false, false, false, false, false, false, 0, 0, 0⟩
theorem zP_U : zP.U := by unfold Pte.U zP; simp
def zSp : Sp := ⟨0, 0, false⟩
theorem flS_one (l : List Sp) : ∀ u ∈ flS l, u.oneCell' = true := by
  intro v hv
  obtain ⟨f, _, hv⟩ := List.mem_flatMap.1 hv
  exact List.all_eq_true.1 (show f.vs.all (·.oneCell') = true from rfl) v hv
end Go.Proofs.YtgkodncknlankaaGreatDoor.SpF
/- The abstract walk: table.at, links, Reach. -/
namespace Go.Proofs.YtgkodncknlankaaGreatDoor.LaA
open Go.RowKit Go.Proofs.YtgkodncknlankaaGreatDoor.Bv Go.Proofs.YtgkodncknlankaaGreatDoor.VaSpec Go.Proofs.YtgkodncknlankaaGreatDoor.Base Go.Proofs.YtgkodncknlankaaGreatDoor.MemL Go.Proofs.YtgkodncknlankaaGreatDoor.RegR Go.Proofs.YtgkodncknlankaaGreatDoor.Ax Go.Proofs.YtgkodncknlankaaGreatDoor.MemC Go.Proofs.YtgkodncknlankaaGreatDoor.PutC Go.Proofs.YtgkodncknlankaaGreatDoor.MemC3 Go.Proofs.YtgkodncknlankaaGreatDoor.TzC Go.Proofs.YtgkodncknlankaaGreatDoor.OkS Go.Proofs.YtgkodncknlankaaGreatDoor.SpA Go.Proofs.YtgkodncknlankaaGreatDoor.SpB Go.Proofs.YtgkodncknlankaaGreatDoor.SpC Go.Proofs.YtgkodncknlankaaGreatDoor.SpF
open Go.Proofs.YtgkodncknlankaaGreatDoor.BitsC Go.Proofs.YtgkodncknlankaaGreatDoor.PteSpec
set_option linter.unusedVariables false
set_option linter.unusedSimpArgs false
set_option maxRecDepth 10000
set_option maxHeartbeats 1000000
theorem place2_ok (f i : Int) (hf : 0 ≤ f ∧ f < 17592186044416) (hi : 0 ≤ i ∧ i < 512) : Ok 90 [iu f, ii i] (.m (iu (f * 4096 + i * 8))) := by
  refine callOk_of 11 Tryz.func90 rfl rfl rfl rfl ?_ GG.to
  intro W A hG
  repeat (first
    | (refine go_at rfl ?_; first
        | refine go_do (valid_mv (.inl rfl) rfl) rfl ?_
        | refine go_do (valid_mv (.inr rfl) rfl) rfl ?_
        | refine go_do (valid_ar rfl rfl rfl rfl (by constructor) (by first | exact wr_u64 (by omega) (by omega) | exact wr_i64 (by omega) (by omega) | rfl)) rfl ?_
        | refine go_do (valid_cv rfl rfl rfl rfl rfl (by first | exact wr_u64 (by omega) (by omega) | exact wr_i64 (by omega) (by omega) | rfl)) rfl ?_)
    | (refine hK _ ?_; clear hK K)
    | refine aw_text rfl ?_
    | exact aw_ret (show resA _ _ _ = some _ by kernel_rfl)
    | refine aw_seq_k (fun K hK => ?_))
theorem look_U {xs : List (Int × Int)} (hu : Uw xs) (a : Int) : U (MemC.look xs a) := by
  have h0 : U 0 := ⟨by omega, by omega⟩
  unfold MemC.look
  split
  · rename_i c hc
    split
    · exact (hu c (List.mem_of_getElem? hc)).2
    · exact h0
  · exact h0
theorem wordM_U {xs : List (Int × Int)} (hu : Uw xs) (sz a : Int) : U (wordM sz xs a) := by
  unfold wordM
  split
  · exact look_U hu _
  · exact ⟨by omega, by omega⟩
def atM (sz : Int) (xs : List (Int × Int)) (f i : Int) : Pte := pteOf (wordM sz xs (f * 4096 + i * 8))
theorem atM_U {xs : List (Int × Int)} (hu : Uw xs) (sz f i : Int) : (atM sz xs f i).U := pteOf_U _ (wordM_U hu _ _).1 (wordM_U hu _ _).2
theorem atM_ppn {xs : List (Int × Int)} (sz f i : Int) : 0 ≤ (atM sz xs f i).ppn ∧ (atM sz xs f i).ppn < 17592186044416 := by
  unfold atM pteOf
  simp only
  omega
theorem at_ok (sz : Int) (xs : List (Int × Int)) (f i : Int) (hf : 0 ≤ f ∧ f < 17592186044416) (hi : 0 ≤ i ∧ i < 512) (hs : Srt xs) (hu : Uw xs) : Ok 85 [memA sz xs, iu f, ii i] (.m (.ag (atM sz xs f i).ce)) := by
  have hU : U (f * 4096 + i * 8) := ⟨by omega, by omega⟩
  have hW := wordM_U hu sz (f * 4096 + i * 8)
  refine callOk_of 13 Tryz.func85 rfl rfl rfl rfl ?_ GG.to
  intro W A hG
  repeat (first
    | (refine go_at rfl ?_; first
        | refine go_do (valid_mv (.inl rfl) rfl) rfl ?_
        | (refine nxt_s 1 rfl ?_; refine go_do (valid_load_p tb rfl rfl rfl rfl rfl (by first | kernel_rfl | rfl)) (by first | kernel_rfl | rfl) ?_)
        | refine go_do (valid_box rfl rfl rfl rfl rfl rfl) rfl ?_
        | refine go_do (valid_alloc rfl rfl rfl rfl rfl) rfl ?_
        | (refine nxt_s 1 rfl ?_; refine go_do (valid_store_p rfl rfl rfl rfl rfl rfl (by first | kernel_rfl | rfl) rfl) (by first | kernel_rfl | rfl) ?_)
        | refine go_do (valid_call rfl rfl rfl (place2_ok f i hf hi) rfl) rfl ?_
        | refine go_do (valid_call rfl rfl rfl (word_ok sz xs _ hU hs) rfl) rfl ?_
        | refine go_do (valid_call rfl rfl rfl (pget_ok _ hW) rfl) rfl ?_)
    | (refine hK _ ?_; clear hK K)
    | refine aw_text rfl ?_
    | refine aw_any (by kernel_rfl) (by kernel_rfl) rfl ?_
    | exact aw_ret (show resA _ _ _ = some _ by kernel_rfl)
    | refine aw_seq_k (fun K hK => ?_))
/-- where an address's way ends: a table, its level -/
def reachN (sz : Int) (xs : List (Int × Int)) (addr want : Int) : Nat → Int → Int × Int
  | 0, t => (t, 0)
  | l + 1, t => cond (decide (want < ((l + 1 : Nat) : Int)) && linksP (atM sz xs t (idx addr ((l + 1 : Nat) : Int))) ((l + 1 : Nat) : Int)) (reachN sz xs addr want l (atM sz xs t (idx addr ((l + 1 : Nat) : Int))).ppn) (t, ((l + 1 : Nat) : Int))
def spotR (sz : Int) (xs : List (Int × Int)) (addr : Int) (p : Int × Int) : List Ce := spotC p.1 p.2 (atM sz xs p.1 (idx addr p.2))
theorem reachN_go {sz : Int} {xs : List (Int × Int)} {addr want : Int} {l : Nat} {t : Int} (h : want < ((l + 1 : Nat) : Int)) (hl : linksP (atM sz xs t (idx addr ((l + 1 : Nat) : Int))) ((l + 1 : Nat) : Int) = true) : reachN sz xs addr want (l + 1) t = reachN sz xs addr want l (atM sz xs t (idx addr ((l + 1 : Nat) : Int))).ppn := by
  simp only [reachN, decide_eq_true h, hl, Bool.and_self, cond]
theorem reachN_no {sz : Int} {xs : List (Int × Int)} {addr want : Int} {l : Nat} {t : Int} (hl : want < (l : Int) → linksP (atM sz xs t (idx addr (l : Int))) (l : Int) = false) (hw : 0 ≤ want) : reachN sz xs addr want l t = (t, (l : Int)) := by
  cases l with
  | zero => rfl
  | succ l =>
    simp only [reachN]
    by_cases h : want < ((l + 1 : Nat) : Int)
    · rw [hl h, Bool.and_false]; rfl
    · rw [decide_eq_false h, Bool.false_and]; rfl
def reachI (sz : Int) (xs : List (Int × Int)) (addr want l t : Int) : Int × Int := reachN sz xs addr want l.toNat t
theorem reachI_go {sz : Int} {xs : List (Int × Int)} {addr want l t : Int} (h : want < l) (h0 : 0 < l) (hl : linksP (atM sz xs t (idx addr l)) l = true) : reachI sz xs addr want l t = reachI sz xs addr want (l - 1) (atM sz xs t (idx addr l)).ppn := by
  obtain ⟨m, rfl⟩ : ∃ m : Nat, l = ((m + 1 : Nat) : Int) := ⟨(l - 1).toNat, by omega⟩
  unfold reachI
  rw [show (((m + 1 : Nat) : Int) - 1).toNat = m by omega, Int.toNat_natCast]
  exact reachN_go h hl
theorem reachI_no {sz : Int} {xs : List (Int × Int)} {addr want l t : Int} (h0 : 0 ≤ l) (hl : want < l → linksP (atM sz xs t (idx addr l)) l = false) (hw : 0 ≤ want) : reachI sz xs addr want l t = (t, l) := by
  obtain ⟨m, rfl⟩ := Int.eq_ofNat_of_zero_le h0
  unfold reachI
  rw [Int.toNat_natCast]
  exact reachN_no hl hw
theorem reach_ok (sz : Int) (xs : List (Int × Int)) (top lv addr want : Int) (ht : 0 ≤ top ∧ top < 17592186044416) (ha : U addr) (h0 : 0 ≤ lv) (h2 : lv ≤ 2) (hw : 0 ≤ want) (hs : Srt xs) (hu : Uw xs) :
    Ok 34 [memA sz xs, iu top, ii lv, iu addr, ii want] (.m (.ag (spotR sz xs addr (reachI sz xs addr want lv top)))) := by
  refine callOk_of 44 Tryz.func34 rfl rfl rfl rfl ?_ GG.to
  intro W A hG
  obtain ⟨res, hres⟩ : ∃ res, res = reachI sz xs addr want lv top := ⟨_, rfl⟩
  rw [← hres]
  repeat (first
    | (refine go_at rfl ?_; first
        | refine go_do (valid_box rfl rfl rfl rfl rfl rfl) rfl ?_
        | refine go_do (valid_alloc rfl rfl rfl rfl rfl) rfl ?_)
    | (refine hK _ ?_; clear hK K)
    | refine aw_text rfl ?_
    | refine aw_seq_k (fun K hK => ?_))
  refine aw_scopeP (α := Int × Int × Pte) 0 (by rfl) (fun p => (0 ≤ p.1 ∧ p.1 ≤ 2) ∧ (0 ≤ p.2.1 ∧ p.2.1 < 17592186044416) ∧ reachI sz xs addr want p.1 p.2.1 = res)
    (fun p => St.of [(3, .m (iu addr)), (4, .m (ii want)), (5, .m (.c (.p 5 0))), (10, .m (.c (.p 10 0))), (11, .m (.c (.p 11 0)))] [(5, .live (.box [cu sz, .s xs.length 2 (fl xs)])), (10, .live (.box (spotC 0 0 zP))), (11, .live (.box (spotC p.2.1 p.1 p.2.2)))])
    (fun p => p.1.toNat) (lv, top, zP) ⟨⟨h0, h2⟩, ht, hres.symm⟩ ?_ ?_
  · skip
    repeat (first
      | (refine go_at rfl ?_; first
          | refine go_do (valid_mv (.inl rfl) rfl) rfl ?_
          | refine go_do (valid_alloc rfl rfl rfl rfl rfl) rfl ?_
          | (refine nxt_s 1 rfl ?_; refine go_do (valid_store_p rfl rfl rfl rfl rfl rfl (by first | kernel_rfl | rfl) rfl) (by first | kernel_rfl | rfl) ?_)
          | refine go_do (valid_build rfl rfl rfl rfl) rfl ?_)
      | refine aw_text rfl ?_)
    exact sub_of _ _ ⟨rfl, rfl, rfl, rfl, rfl, trivial⟩ ⟨rfl, rfl, rfl, trivial⟩ rfl
  · rintro ⟨l, t, q⟩ ⟨⟨l0, l2⟩, t2, hr⟩
    have l0 : 0 ≤ l := l0
    have l2 : l ≤ 2 := l2
    have t2 : 0 ≤ t ∧ t < 17592186044416 := t2
    have hr : reachI sz xs addr want l t = res := hr
    have hA := atM_U hu sz t (idx addr l)
    have hi := idx_bd addr l
    have hp := atM_ppn (xs := xs) sz t (idx addr l)
    by_cases hlt : want < l
    · cases hl : linksP (atM sz xs t (idx addr l)) l with
      | true =>
        have hr' := (reachI_go hlt (by omega) hl).symm.trans hr
        repeat (first
          | (refine go_at rfl ?_; first
              | refine go_do (valid_mv (.inl rfl) rfl) rfl ?_
              | (refine nxt_s 1 rfl ?_; refine go_do (valid_load_p tb rfl rfl rfl rfl rfl (by first | kernel_rfl | rfl)) (by first | kernel_rfl | rfl) ?_)
              | (refine nxt_s 1 rfl ?_; refine go_do (valid_fld_p tb rfl rfl rfl (by kernel_rfl)) rfl ?_)
              | refine go_do (valid_pick rfl rfl rfl) rfl ?_
              | refine go_do (valid_cmp rfl rfl rfl rfl (by first | exact .eql1 (by omega) | exact .eql0 (by omega) | exact .neq1 (by omega) | exact .neq0 (by omega) | exact .lss1 (by omega) | exact .lss0 (by omega) | exact .leq1 (by omega) | exact .leq0 (by omega) | exact .gtr1 (by omega) | exact .gtr0 (by omega) | exact .geq1 (by omega) | exact .geq0 (by omega) | constructor)) rfl ?_
              | refine go_do (valid_ar rfl rfl rfl rfl (by constructor) (by first | exact wr_u64 (by omega) (by omega) | exact wr_i64 (by omega) (by omega) | rfl)) rfl ?_
              | (refine nxt_s 1 rfl ?_; refine go_do (valid_store_p rfl rfl rfl rfl rfl rfl (by first | kernel_rfl | rfl) rfl) (by first | kernel_rfl | rfl) ?_)
              | refine go_do (valid_call rfl rfl rfl (idx_ok addr _ ha (by omega) (by omega)) rfl) rfl ?_
              | refine go_do (valid_call rfl rfl rfl (at_ok sz xs t _ t2 hi hs hu) rfl) rfl ?_
              | refine go_do (valid_call rfl rfl rfl (hl ▸ links_ok _ hA _ (by omega) (by omega)) rfl) rfl ?_)
          | (refine hK _ ?_; clear hK K)
          | refine aw_text rfl ?_
          | refine aw_any (by kernel_rfl) (by kernel_rfl) rfl ?_
          | refine aw_cond1 rfl rfl ?_
          | refine aw_seq_k (fun K hK => ?_)
          | refine aw_goto ?_)
        exact ⟨rfl, (l - 1, _, _), ⟨⟨by show 0 ≤ l - 1; omega, by show l - 1 ≤ 2; omega⟩, hp, hr'⟩, by show (l - 1).toNat < l.toNat; omega, sub_of _ _ ⟨rfl, rfl, rfl, rfl, rfl, trivial⟩ ⟨rfl, rfl, rfl, trivial⟩ rfl⟩
      | false =>
        have hr' := (reachI_no l0 (fun _ => hl) hw).symm.trans hr
        subst hr'
        repeat (first
          | (refine go_at rfl ?_; first
              | refine go_do (valid_mv (.inl rfl) rfl) rfl ?_
              | (refine nxt_s 1 rfl ?_; refine go_do (valid_load_p tb rfl rfl rfl rfl rfl (by first | kernel_rfl | rfl)) (by first | kernel_rfl | rfl) ?_)
              | (refine nxt_s 1 rfl ?_; refine go_do (valid_fld_p tb rfl rfl rfl (by kernel_rfl)) rfl ?_)
              | refine go_do (valid_pick rfl rfl rfl) rfl ?_
              | refine go_do (valid_cmp rfl rfl rfl rfl (by first | exact .eql1 (by omega) | exact .eql0 (by omega) | exact .neq1 (by omega) | exact .neq0 (by omega) | exact .lss1 (by omega) | exact .lss0 (by omega) | exact .leq1 (by omega) | exact .leq0 (by omega) | exact .gtr1 (by omega) | exact .gtr0 (by omega) | exact .geq1 (by omega) | exact .geq0 (by omega) | constructor)) rfl ?_
              | (refine nxt_s 1 rfl ?_; refine go_do (valid_store_p rfl rfl rfl rfl rfl rfl (by first | kernel_rfl | rfl) rfl) (by first | kernel_rfl | rfl) ?_)
              | refine go_do (valid_call rfl rfl rfl (idx_ok addr _ ha (by omega) (by omega)) rfl) rfl ?_
              | refine go_do (valid_call rfl rfl rfl (at_ok sz xs t _ t2 hi hs hu) rfl) rfl ?_
              | refine go_do (valid_call rfl rfl rfl (hl ▸ links_ok _ hA _ (by omega) (by omega)) rfl) rfl ?_)
          | (refine hK _ ?_; clear hK K)
          | refine aw_text rfl ?_
          | refine aw_any (by kernel_rfl) (by kernel_rfl) rfl ?_
          | exact aw_ret (show resA _ _ _ = some _ by kernel_rfl)
          | refine aw_cond0 rfl rfl ?_
          | refine aw_skip ?_
          | refine aw_seq_k (fun K hK => ?_))
    · have hr' := (reachI_no l0 (fun h => absurd h hlt) hw).symm.trans hr
      subst hr'
      repeat (first
        | (refine go_at rfl ?_; first
            | refine go_do (valid_skip rfl) rfl ?_
            | refine go_do (valid_mv (.inl rfl) rfl) rfl ?_
            | (refine nxt_s 1 rfl ?_; refine go_do (valid_load_p tb rfl rfl rfl rfl rfl (by first | kernel_rfl | rfl)) (by first | kernel_rfl | rfl) ?_)
            | (refine nxt_s 1 rfl ?_; refine go_do (valid_fld_p tb rfl rfl rfl (by kernel_rfl)) rfl ?_)
            | refine go_do (valid_pick rfl rfl rfl) rfl ?_
            | refine go_do (valid_cmp rfl rfl rfl rfl (by first | exact .eql1 (by omega) | exact .eql0 (by omega) | exact .neq1 (by omega) | exact .neq0 (by omega) | exact .lss1 (by omega) | exact .lss0 (by omega) | exact .leq1 (by omega) | exact .leq0 (by omega) | exact .gtr1 (by omega) | exact .gtr0 (by omega) | exact .geq1 (by omega) | exact .geq0 (by omega) | constructor)) rfl ?_
            | (refine nxt_s 1 rfl ?_; refine go_do (valid_store_p rfl rfl rfl rfl rfl rfl (by first | kernel_rfl | rfl) rfl) (by first | kernel_rfl | rfl) ?_)
            | refine go_do (valid_call rfl rfl rfl (idx_ok addr _ ha (by omega) (by omega)) rfl) rfl ?_
            | refine go_do (valid_call rfl rfl rfl (at_ok sz xs t _ t2 hi hs hu) rfl) rfl ?_)
        | (refine hK _ ?_; clear hK K)
        | refine aw_text rfl ?_
        | refine aw_any (by kernel_rfl) (by kernel_rfl) rfl ?_
        | exact aw_ret (show resA _ _ _ = some _ by kernel_rfl)
        | refine aw_cond0 rfl rfl ?_
        | refine aw_skip ?_
        | refine aw_seq_k (fun K hK => ?_))
end Go.Proofs.YtgkodncknlankaaGreatDoor.LaA
/- table.entries, as an iterator over whatever table: what it hands out, round by round. -/
namespace Go.Proofs.YtgkodncknlankaaGreatDoor.IterE
open Go.RowKit Go.Shelf Go.Proofs.YtgkodncknlankaaGreatDoor.Bv Go.Proofs.YtgkodncknlankaaGreatDoor.Base Go.Proofs.YtgkodncknlankaaGreatDoor.MemL Go.Proofs.YtgkodncknlankaaGreatDoor.MemC Go.Proofs.YtgkodncknlankaaGreatDoor.MemC3 Go.Proofs.YtgkodncknlankaaGreatDoor.PutC Go.Proofs.YtgkodncknlankaaGreatDoor.TableC Go.Proofs.YtgkodncknlankaaGreatDoor.IterC Go.Proofs.YtgkodncknlankaaGreatDoor.LaA Go.Proofs.YtgkodncknlankaaGreatDoor.PteSpec
open Go.Proofs.YtgkodncknlankaaGreatDoor.BitsC
attribute [local go_sem] Oper.semAt_some
set_option linter.unusedVariables false
set_option linter.unusedSimpArgs false
set_option maxRecDepth 20000
def pteV (p : Pte) : Value := .agg #[.bool p.v, .bool p.r, .bool p.w, .bool p.x, .bool p.u, .bool p.g, .bool p.a, .bool p.d, .int .u64 p.rsw, .int .u64 p.ppn, .int .u64 p.high]
/-- the indexes of the entries that aren't 0 -/
abbrev Ie (sz : Int) (xs : List (Int × Int)) (f : Int) := { i : Nat // i < 512 ∧ wordM sz xs (f * 4096 + (i : Int) * 8) ≠ 0 }
def encE (sz : Int) (xs : List (Int × Int)) (f : Int) (x : Ie sz xs f) : Array Value := #[.int .i64 (x.1 : Int), pteV (atM sz xs f x.1)]
def nzB (sz : Int) (xs : List (Int × Int)) (f : Int) (i : Nat) : Bool := wordM sz xs (f * 4096 + (i : Int) * 8) != 0
/-- what the iterator reads -/
def Ent (sz : Int) (xs : List (Int × Int)) (f : Int) (b1 b2 : Nat) (W : World) : Prop := ∃ u, Bx W b1 #[.int .u64 sz, u] ∧ Bx W b2 #[.int .u64 f] ∧ Sl W u xs.length 2 (fl xs)
theorem Ent.below {sz : Int} {xs : List (Int × Int)} {f : Int} {b1 b2 : Nat} {W W' : World} (h : Ent sz xs f b1 b2 W) (b : Below W.heap.size W W') : Ent sz xs f b1 b2 W' := by
  obtain ⟨u, h1, h2, h3⟩ := h
  exact ⟨u, h1.below b, h2.below b, h3.below b⟩
/-- what the iterator asks of a round -/
def KpE (sz : Int) (xs : List (Int × Int)) (f : Int) (b1 b2 : Nat) (A B : World) : Prop := A.heap.size ≤ B.heap.size ∧ (Ent sz xs f b1 b2 A → Ent sz xs f b1 b2 B)
theorem KpE.trans {sz : Int} {xs : List (Int × Int)} {f : Int} {b1 b2 : Nat} {A B C : World} (h : KpE sz xs f b1 b2 A B) (k : KpE sz xs f b1 b2 B C) : KpE sz xs f b1 b2 A C := ⟨Nat.le_trans h.1 k.1, fun e => k.2 (h.2 e)⟩
theorem bx_put {W : World} {l b : Nat} {o o' : Obj} {vs : Array Value} (h : Bx W b vs) (hl : W.heap[l]? = some o) (ho : o.isCells = false) : Bx (W.putObj l o') b vs := by
  obtain ⟨T, h⟩ := h
  refine ⟨T, ?_⟩
  have hne : b ≠ l := fun e => by subst e; rw [h] at hl; cases hl; cases ho
  exact ((grownBy_putObj' W l o').block b (Array.getElem?_eq_some_iff.1 h).1 (fun e => hne (by cases e; rfl))).trans h
theorem cell_put {W : World} {l b o : Nat} {x x' : Obj} {v : Value} (h : W.cell? ⟨b, o, none⟩ = some v) (hl : W.heap[l]? = some x) (hx : x.isCells = false) : (W.putObj l x').cell? ⟨b, o, none⟩ = some v :=
  cell_kept h (grownBy_putObj' W l x') (fun r e => by cases e; exact ⟨x, hl, hx⟩)
theorem KpE.put {sz : Int} {xs : List (Int × Int)} {f : Int} {b1 b2 : Nat} (W : World) (l : Nat) (o o' : Obj) (hl : W.heap[l]? = some o) (ho : o.isCells = false) : KpE sz xs f b1 b2 W (W.putObj l o') := by
  refine ⟨(grownBy_putObj' W l o').size, fun ⟨u, h1, h2, h3, h4⟩ => ⟨u, bx_put h1 hl ho, bx_put h2 hl ho, h3, ?_⟩⟩
  rcases h4 with h4 | ⟨b, off, cap, e, q1, q2, q3, q4⟩
  · exact .inl h4
  · refine .inr ⟨b, off, cap, e, Nat.lt_of_lt_of_le q1 (grownBy_putObj' W l o').size, q2, q3, fun i hi => ?_⟩
    have := q4 i hi
    obtain ⟨v, hv⟩ : ∃ v, (fl xs)[i]? = some v := ⟨_, List.getElem?_eq_getElem (by rw [h3]; exact hi)⟩
    rw [hv] at this ⊢
    exact cell_put this hl ho
theorem rng_yes {sz : Int} {xs : List (Int × Int)} {f : Int} {k : Nat} (h : nzB sz xs f k = true) : (List.range (k + 1)).filter (nzB sz xs f) = (List.range k).filter (nzB sz xs f) ++ [k] := by
  rw [List.range_succ, List.filter_append]; simp [h]
theorem rng_no {sz : Int} {xs : List (Int × Int)} {f : Int} {k : Nat} (h : nzB sz xs f k = false) : (List.range (k + 1)).filter (nzB sz xs f) = (List.range k).filter (nzB sz xs f) := by
  rw [List.range_succ, List.filter_append]; simp [h]
set_option maxHeartbeats 1000000 in
theorem place3_calls (f i : Int) (W : World) (hf : 0 ≤ f ∧ f < 17592186044416) (hi : 0 ≤ i ∧ i < 512) : Calls Tryz.prog 90 #[.int .u64 f, .int .i64 i] W fun e w' => e = .returned (.int .u64 (f * 4096 + i * 8)) ∧ Below W.heap.size W w' := by
  have h1 : IntKind.u64.wrap (f * 4096) = f * 4096 := by rw [IntKind.wrap_u64]; omega
  have h2 : IntKind.u64.wrap i = i := by rw [IntKind.wrap_u64]; omega
  have h3 : IntKind.u64.wrap (i * 8) = i * 8 := by rw [IntKind.wrap_u64]; omega
  have h4 : IntKind.u64.wrap (f * 4096 + i * 8) = f * 4096 + i * 8 := by rw [IntKind.wrap_u64]; omega
  go_enter Tryz.func90, Tryz.ntmps90
  go_wp2
  go_ret
  exact ⟨rfl, Below.refl _ _⟩
set_option maxHeartbeats 4000000 in
theorem ent_stops (n : Nat) (hn : 2 ≤ n) (sz : Int) (xs : List (Int × Int)) (f : Int) (b1 b2 : Nat) (W0 : World) (hE : Ent sz xs f b1 b2 W0) (hf : 0 ≤ f ∧ f < 17592186044416) (hs : Srt xs) (hu : Uw xs) :
    SeqStopsK Fence.wide n Tryz.prog 141 #[.pointer (some ⟨b1, 0, none⟩), .pointer (some ⟨b2, 0, none⟩)] (encE sz xs f) (KpE sz xs f b1 b2) (fun ys => ys.map (·.1) = (List.range 512).filter (nzB sz xs f)) (fun _ => True) 512 W0 := by
  intro l J Jx W hW hJ hJx hY h0
  have hEW : Ent sz xs f b1 b2 W := hE.below hW
  have grow : ∀ {pre : List (Ie sz xs f)} {A B : World}, W.heap.size ≤ A.heap.size → J pre A → Below A.heap.size A B → J pre B := fun hsz hj hb => hJ _ _ _ none hj ⟨hb.os, hb.tape, hb.output, hb.size, fun k hk _ => hb.block k hk⟩ (fun r e => by cases e)
  refine callsIn_of_wp Tryz.func141 rfl trivial ?_ rfl
  simp only [Tryz.ntmps141, List.size_toArray, List.length_cons, List.length_nil, Nat.reduceAdd, Nat.reduceSub, Array.replicate_succ, Array.replicate_zero, List.push_toArray, List.append_toArray, List.nil_append, List.cons_append]
  gi_wp2
  gi_loopw [6] (fun i wr => ∃ k : Nat, k ≤ 512 ∧ i = .int .i64 k ∧ W.heap.size ≤ wr.heap.size ∧ Ent sz xs f b1 b2 wr ∧ ∃ pre : List (Ie sz xs f), pre.map (·.1) = (List.range k).filter (nzB sz xs f) ∧ J pre wr) (fun i _ => 512 - (intOf i).toNat)
  case atStart => exact ⟨0, by omega, rfl, Nat.le_refl _, hEW, [], rfl, h0⟩
  case round =>
    obtain ⟨k, hk, rfl, hsz, ⟨u, X1, X2, V⟩, pre, hpre, hj⟩ := hrel
    have y0 := X1.cell 0
    have y1 := X1.cell 1
    have p0 := X2.cell 0
    simp at y0 y1 p0
    have l1 := X1.lt
    have l2 := X2.lt
    by_cases hlt : k < 512
    · have hU : U (f * 4096 + (k : Int) * 8) := ⟨by omega, by omega⟩
      have HW := Lib.hid (show wordM sz xs (f * 4096 + (k : Int) * 8) = wordM sz xs (f * 4096 + (k : Int) * 8) from rfl)
      have hWU := wordM_U hu sz (f * 4096 + (k : Int) * 8)
      generalize hwd : wordM sz xs (f * 4096 + (k : Int) * 8) = wd at HW hWU
      clear HW
      have Hwd := Lib.hid hwd
      clear hwd
      gi_wp2
      refine wpIn_wide.2 ?_
      refine region_below (by kernel_rfl) (by kernel_rfl) ?_
      repeat (with_reducible refine wpQuiet_step (fun K hK => ?_)
              go_simp
              first
                | (refine hK _ ?_; clear hK K)
                | (refine ⟨_, fun _ _ => rfl, hK _ ?_⟩; clear hK K)
                | (apply Exists.intro
                   refine ⟨fun w' hw' => ?_, hK _ ?_⟩
                   · first
                     | (go_at_call 90; (with_reducible refine (place3_calls _ _ _ hf ⟨by omega, by omega⟩).mono ?_); rintro e w2 ⟨rfl, hq⟩; exact ⟨rfl, hw'.trans (hq.mono hw'.size)⟩)
                     | (go_at_call 135; (with_reducible refine (word_calls _ _ xs _ _ hU hs (V.below hw')).mono ?_); rintro e w2 ⟨rfl, hb⟩; exact ⟨rfl, hw'.trans (hb.mono hw'.size)⟩)
                     | (obtain ⟨hcc, _⟩ := bcell hw'; go_simp; done)
                     | (obtain ⟨hcc, _⟩ := bcell hw'; go_simp; rfl)
                   clear hK K))
      refine wpQuiet_nil ?_
      intro w2 hb2
      have E2 : Ent sz xs f b1 b2 w2 := Ent.below ⟨u, X1, X2, V⟩ hb2
      have j2 : J pre w2 := grow hsz hj hb2
      have s2 : W.heap.size ≤ w2.heap.size := Nat.le_trans hsz hb2.size
      rw [show wordM sz xs (f * 4096 + (k : Int) * 8) = wd from Hwd.out]
      clear X1 X2 V y0 y1 p0 hb2 hj
      by_cases hz : wd = 0
      · subst hz
        have hn0 : nzB sz xs f k = false := by unfold nzB; rw [Hwd.out]; rfl
        gi_wp2
        refine ⟨trivial, ?_⟩
        gi_wp2
        refine ⟨fun _ h => (by cases h), ?_⟩
        gi_wp2
        go_roundw
        case rel => exact ⟨k + 1, by omega, by go_num, s2, E2, pre, by rw [rng_no hn0]; exact hpre, j2⟩
        case measure => simp [intOf]; omega
      · have hn1 : nzB sz xs f k = true := by unfold nzB; rw [Hwd.out]; simp [hz]
        obtain ⟨x, hx⟩ : ∃ x : Ie sz xs f, x = ⟨k, hlt, by rw [Hwd.out]; exact hz⟩ := ⟨_, rfl⟩
        have he : encE sz xs f x = #[.int .i64 (k : Int), .agg #[.bool (pteOf wd).v, .bool (pteOf wd).r, .bool (pteOf wd).w, .bool (pteOf wd).x, .bool (pteOf wd).u, .bool (pteOf wd).g, .bool (pteOf wd).a, .bool (pteOf wd).d, .int .u64 (pteOf wd).rsw, .int .u64 (pteOf wd).ppn, .int .u64 (pteOf wd).high]] := by
          rw [hx]
          show #[Value.int .i64 (k : Int), pteV (pteOf (wordM sz xs (f * 4096 + (k : Int) * 8)))] = _
          rw [Hwd.out]; rfl
        have hpl : pre.length < 512 := by
          have e1 : pre.length = ((List.range k).filter (nzB sz xs f)).length := by rw [← hpre, List.length_map]
          have e2 := List.length_filter_le (nzB sz xs f) (List.range k)
          rw [List.length_range] at e2
          omega
        gi_wp2
        refine ⟨trivial, fun h => (by cases h), ?_⟩
        refine (callsIn_wide.2 (PteC.pget_calls _ _ hWU)).mono ?_
        rintro e w3 ⟨rfl, hb3⟩
        obtain ⟨fn, tmps, assign, body, hy, hR⟩ := hY pre x w3 (grow s2 j2 hb3) hpl
        rw [he] at hy
        gi_wp2
        refine ⟨fun h => (by cases h), ?_⟩
        refine hR.mono ?_
        have hb : (wd != 0) = true := by simp [hz]
        rintro e w4 (⟨rfl, hj4, hk4⟩ | ⟨rfl, hjx4⟩)
        · have E4 := hk4.2 (E2.below hb3)
          have s4 : W.heap.size ≤ w4.heap.size := Nat.le_trans s2 (Nat.le_trans hb3.size hk4.1)
          gi_wp2
          go_roundw
          case rel => exact ⟨k + 1, by omega, by go_num, s4, E4, pre ++ [x], by rw [rng_yes hn1, List.map_append, hpre, hx]; rfl, hj4⟩
          case measure => simp [intOf]; omega
        · gi_wp2
          refine bodyPost_ret (results_none rfl _ _ _) rfl ?_
          exact ⟨⟨_, rfl⟩, .inr ⟨pre ++ [x], trivial, hjx4⟩⟩
    · obtain rfl : k = 512 := by omega
      gi_wp2
      go_end0
      exact ⟨⟨_, rfl⟩, .inl ⟨pre, hpre, hj⟩⟩
end Go.Proofs.YtgkodncknlankaaGreatDoor.IterE
/- The abstract walk: a range over what table.entries hands out. -/
namespace Go.Proofs.YtgkodncknlankaaGreatDoor.Ax
open Go.RowKit Go.Proofs.YtgkodncknlankaaGreatDoor.MemL Go.Proofs.YtgkodncknlankaaGreatDoor.RegR Go.Proofs.YtgkodncknlankaaGreatDoor.MemC Go.Proofs.YtgkodncknlankaaGreatDoor.MemC3 Go.Proofs.YtgkodncknlankaaGreatDoor.PutC Go.Proofs.YtgkodncknlankaaGreatDoor.LaA Go.Proofs.YtgkodncknlankaaGreatDoor.IterE Go.Proofs.YtgkodncknlankaaGreatDoor.PteSpec Go.Proofs.YtgkodncknlankaaGreatDoor.BitsC Go.Proofs.YtgkodncknlankaaGreatDoor.OkS Go
set_option linter.unusedVariables false
set_option linter.unusedSimpArgs false
/-- what is read in the one may be read in the other, cell by cell -/
structure En.lw (E F : En) : Prop where
  U : ∀ b, E.U b → F.U b ∧ F.τ b = E.τ b
  A : ∀ g, g < E.w.heap.size → E.A g → F.A g
  size : E.w.heap.size ≤ F.w.heap.size
  cell : ∀ g o v, g < E.w.heap.size → E.A g → E.w.cell? ⟨g, o, none⟩ = some v → F.w.cell? ⟨g, o, none⟩ = some v
theorem sl_lw {E F : En} (h : E.lw F) {n k : Nat} {xs : List Value} {u : Value} (k1 : Sl E.w u n k xs) (k3 : ∀ a l c, u = .slice (some a) l c → E.A a.block) : Sl F.w u n k xs ∧ ∀ a l c, u = .slice (some a) l c → F.A a.block := by
  obtain ⟨k1, k2⟩ := k1
  rcases k2 with k2 | ⟨b, o, cap, rfl, l, h3, h4, h5⟩
  · refine ⟨⟨k1, .inl k2⟩, fun a l c e => ?_⟩
    rw [k2.1] at e; cases e
  · have ha := k3 ⟨b, o, none⟩ _ _ rfl
    refine ⟨⟨k1, .inr ⟨b, o, cap, rfl, Nat.lt_of_lt_of_le l h.size, h3, h4, fun i hi => ?_⟩⟩, fun a l' c e => ?_⟩
    · have e := h5 i hi
      rw [List.getElem?_eq_getElem (by rw [k1]; exact hi)] at e ⊢
      exact h.cell b (o + i) _ l ha e
    · cases e; exact h.A b l ha
theorem ceR_lw {E F : En} (h : E.lw F) : ∀ (x : Ce) (u : Value), x.R E u → x.R F u
  | .v x, u, k => k
  | .s n k xs, u, ⟨k1, k2⟩ => sl_lw h k1 k2
  | .q xs, u, ⟨g, o, k1, k2, k3, k4⟩ => ⟨g, o, k1, Nat.lt_of_lt_of_le k2 h.size, h.A g k2 k3, fun i hi => by
      have e := k4 i hi
      rw [List.getElem?_eq_getElem hi] at e ⊢
      exact h.cell g (o + i) _ k2 k3 e⟩
  | .p b off, u, ⟨k0, g, k1, k2⟩ => ⟨(h.U b k0).1, g, (h.U b k0).2.trans k1, k2⟩
  | .o b, u, ⟨k0, k1⟩ => ⟨(h.U b k0).1, k1.trans (h.U b k0).2.symm⟩
  | .rp b off, u, ⟨k0, g, n, cap, k1, k2⟩ => ⟨(h.U b k0).1, g, n, cap, (h.U b k0).2.trans k1, k2⟩
  | .f n k xs, u, ⟨k1, k2, k3⟩ => ⟨(sl_lw h k1 k2).1, (sl_lw h k1 k2).2, k3⟩
  | .bs b off n, u, ⟨k0, g, k1, k2⟩ => ⟨(h.U b k0).1, g, (h.U b k0).2.trans k1, k2⟩
  | .cl fi bs, u, ⟨k1, k2⟩ => ⟨by rw [k1, List.map_congr_left (fun b hb => ((h.U b (k2 b hb)).2).symm)], fun b hb => (h.U b (k2 b hb)).1⟩
  | .any, _, _ => trivial
theorem cmR_lw {E F : En} (h : E.lw F) : ∀ (x : Cm) (u : Value), x.R E u → x.R F u
  | .c x, u, k => ceR_lw h x u k
  | .ag cs, u, ⟨vs, k1, k2⟩ => ⟨vs, k1, All2.mono (ceR_lw h) _ _ k2⟩
theorem avR_lw {E F : En} (h : E.lw F) : ∀ (x : AV) (u : Value), x.R E u → x.R F u
  | .m x, u, k => cmR_lw h x u k
  | .tu l, u, ⟨vs, k1, k2⟩ => ⟨vs, k1, All2.mono (cmR_lw h) _ _ k2⟩
section
variable {P : Program} {X : Cx} {S : St} {Q : Exit → St → Prop} {τ : Nat → Value} {a : Act} {w : World}
def isNC (W : World) (g : Nat) : Prop := ∃ o, W.heap[g]? = some o ∧ o.isCells = false
theorem alive_cells (h : SimT X S τ a w) {b g : Nat} (hb : alive S.hp b) (ho : occ (τ b) = some g) : ¬ isNC w g := by
  obtain ⟨k, hk⟩ := hb
  have hR := h.hp b k hk
  rintro ⟨o, h1, h2⟩
  cases k with
  | box cs =>
    obtain ⟨g', vs, e1, ⟨T, e2⟩, _⟩ := hR
    rw [e1] at ho; cases ho
    have e2 : w.heap[g']? = some (Obj.cells vs T (0, 0)) := e2
    rw [e2] at h1; cases h1; cases h2
  | row e k n xs =>
    rcases hR.2 with ⟨e1, _⟩ | ⟨g', cap, cur, e1, _, e3, _⟩
    · rw [e1] at ho; cases ho
    · rw [e1] at ho; cases ho
      have e3 : w.heap[g']? = some (Obj.cells cur e (0, 0)) := e3
      rw [e3] at h1; cases h1; cases h2
/-- what is no cells turns, or memory is made -/
theorem sim_grown {w' : World} (h : SimT X S τ a w) {row : Option Nat} (hg : w.grownBy w' row) (hr : ∀ r, row = some r → isNC w r ∧ ¬ X.K r) : SimT X S τ a w' := by
  have hlw : (env X S.hp τ w).lw (env X S.hp τ w') := ⟨fun b hb => ⟨hb, rfl⟩, fun g _ hg => hg, hg.size, fun g o v _ _ hv => cell_kept hv hg (fun r e => (hr r e).1)⟩
  have hbk : ∀ b g, alive S.hp b → occ (τ b) = some g → w'.heap[g]? = w.heap[g]? := fun b g hb ho => hg.block g (h.own b g hb ho).2 (fun e => alive_cells h hb ho (hr g e.symm).1)
  refine ⟨h.size, h.nodef, h.bel.grown hg (fun g hk => Nat.lt_of_lt_of_le (X.hK g hk) h.bel.size) (fun k e => (hr k e).2), fun t ht => avR_lw hlw _ _ (h.tm t ht), fun b k hk => ?_, fun b g hb ho => ⟨(h.own b g hb ho).1, Nat.lt_of_lt_of_le (h.own b g hb ho).2 hg.size⟩, h.sep, h.one, h.pin⟩
  have hR := h.hp b k hk
  cases k with
  | box cs =>
    obtain ⟨g, vs, e1, ⟨T, e2⟩, e3⟩ := hR
    exact ⟨g, vs, e1, ⟨T, (hbk b g ⟨_, hk⟩ (by rw [e1]; rfl)).trans e2⟩, All2.mono (ceR_lw hlw) _ _ e3⟩
  | row e k n xs =>
    refine ⟨hR.1, ?_⟩
    rcases hR.2 with e1 | ⟨g, cap, cur, e1, e2, e3, e4⟩
    · exact .inl e1
    · exact .inr ⟨g, cap, cur, e1, e2, (hbk b g ⟨_, hk⟩ (by rw [e1]; rfl)).trans e3, e4⟩
/-- the walk of a round: what is no cells stays, some names stand for what they stand for -/
def cxR (X : Cx) (W : World) (l : Nat) (τ : Nat → Value) (ns : List Nat) (hk : Kept X.K X.W0 W) : Cx :=
  { X with
    W0 := W
    hB := Nat.le_trans X.hB hk.size
    K := fun g => X.K g ∨ isNC W g
    hK := fun g h => h.elim (fun h => Nat.lt_of_lt_of_le (X.hK g h) hk.size) (fun ⟨o, h, _⟩ => (Array.getElem?_eq_some_iff.1 h).1)
    hG := fun w h => X.hG w (hk.trans (h.mono fun _ => .inl))
    pn := ns.map fun b => (b, τ b)
    rd := some l }
def cxP (X : Cx) (τ : Nat → Value) (ns : List Nat) : Cx := { X with pn := ns.map fun b => (b, τ b), rd := none }
theorem sim_enter {τ0 : Nat → Value} {ns : List Nat} {l : Nat} (h : SimT (cxP X τ0 ns) S τ a w) (hk : Kept X.K X.W0 w) : SimT (cxR X w l τ0 ns hk) S τ a w :=
  ⟨h.size, h.nodef, Kept.refl _ _, h.tm, h.hp, fun b g hb ho => ⟨fun k => k.elim (h.own b g hb ho).1 (alive_cells h hb ho), (h.own b g hb ho).2⟩, h.sep, h.one, h.pin⟩
theorem sim_leave {τ0 : Nat → Value} {ns : List Nat} {l : Nat} {W : World} {hk : Kept X.K X.W0 W} (h : SimT (cxR X W l τ0 ns hk) S τ a w) : SimT (cxP X τ0 ns) S τ a w :=
  ⟨h.size, h.nodef, hk.trans (h.bel.mono fun _ => .inl), h.tm, h.hp, fun b g hb ho => ⟨fun k => (h.own b g hb ho).1 (.inl k), (h.own b g hb ho).2⟩, h.sep, h.one, h.pin⟩
theorem leave_keeps {τ0 : Nat → Value} {ns : List Nat} {l : Nat} {W : World} {hk : Kept X.K X.W0 W} (h : SimT (cxR X W l τ0 ns hk) S τ a w) (B : Nat) : KeepsFrom B W w :=
  ⟨h.bel.size, fun k o _ ho hc => (h.bel.block k (.inr ⟨o, ho, hc⟩)).trans ho⟩
/-- temporaries that point to boxes -/
def ptT (ts : List (Nat × Nat)) : List (Nat × AV) := ts.map fun p => (p.1, .m (.c (.p p.2 0)))
/-- the temporaries are told anew, as they were when the loop began -/
theorem sim_back {τ0 : Nat → Value} {ns : List Nat} {a0 : Act} (h : Sim (cxP X τ0 ns) S a w) (ts : List (Nat × Nat)) (bs : List (Nat × Hs)) (hb : EqB S bs) (hc : (bs.all fun p => (idK p.2).all (memN · bs)) = true) (hns : (ns.all fun b => memN b bs) = true)
    (hts : ∀ p ∈ ts, p.2 ∈ ns ∧ a0.tmps.getD p.1 undef = τ0 p.2 ∧ ∃ g, τ0 p.2 = .pointer (some ⟨g, 0, none⟩)) (hsz : a0.tmps.size = X.N) (hd : a0.defers = X.df) : Sim (cxP X τ0 ns) (St.of (ptT ts) bs) a0 w := by
  obtain ⟨τ', s⟩ := sub_of (X := cxP X τ0 ns) [] bs trivial hb (by simp only [List.all_nil, Bool.true_and]; exact hc) (by
    show ((ns.map fun b => (b, τ0 b)).all fun p => memN p.1 bs) = true
    rw [List.all_map]; exact hns) a w h
  refine ⟨τ', hsz, hd, s.bel, fun t ht => ?_, s.hp, s.own, s.sep, s.one, s.pin⟩
  have key : look (.m (.c .any)) (ptT ts) t = .m (.c .any) ∨ ∃ p ∈ ts, p.1 = t ∧ look (.m (.c .any)) (ptT ts) t = .m (.c (.p p.2 0)) := by
    by_cases e : look (.m (.c .any)) (ptT ts) t = .m (.c .any)
    · exact .inl e
    · obtain ⟨q, h1, h2, h3⟩ := look_mem _ _ _ rfl e
      obtain ⟨p, hp, rfl⟩ := List.mem_map.1 h1
      exact .inr ⟨p, hp, h2, h3.symm⟩
  show AV.R _ (look (.m (.c .any)) (ptT ts) t) _
  rcases key with e | ⟨p, hp, rfl, e⟩
  · rw [e]; trivial
  · rw [e]
    obtain ⟨h1, h2, g, h3⟩ := hts p hp
    have hpin := s.pin (p.2, τ0 p.2) (List.mem_map.2 ⟨p.2, h1, rfl⟩)
    exact ⟨hpin.1, g, hpin.2.trans h3, h2.trans h3⟩
/-- two temporaries are set -/
def St.two (S : St) (p1 p2 : Nat) (v1 v2 : AV) : St := ⟨setTm (some p2) v2 (setTm (some p1) v1 S.tm), S.hp⟩
theorem sim_two {p1 p2 : Nat} {v1 v2 : AV} {u1 u2 : Value} (hdf : X.df = []) (h : SimT X S τ a w) (h1 : v1.R (env X S.hp τ w) u1) (h2 : v2.R (env X S.hp τ w) u2) : SimT X (S.two p1 p2 v1 v2) τ { tmps := (a.tmps.setIfInBounds p1 u1).setIfInBounds p2 u2, defers := [] } w := by
  refine ⟨by simp [h.size], hdf.symm, h.bel, ?_, h.hp, h.own, h.sep, h.one, h.pin⟩
  have t1 := tm_put (X := X) (S := S) (d := some p1) h.size h.tm h1
  exact tm_put (X := X) (S := ⟨setTm (some p1) v1 S.tm, S.hp⟩) (a := a.put (some p1) u1) (d := some p2) (by simp [Act.put, h.size]) t1 h2
theorem ent_of {τ0 : Nat → Value} {ns : List Nat} {sz f : Int} {xs : List (Int × Int)} {n1 n2 b1 b2 : Nat} (h : SimT (cxP X τ0 ns) S τ a w) (h1 : S.hp n1 = .live (.box [.v (.int .u64 sz), .s xs.length 2 (fl xs)])) (h2 : S.hp n2 = .live (.box [.v (.int .u64 f)])) (m1 : n1 ∈ ns) (m2 : n2 ∈ ns)
    (e1 : τ0 n1 = .pointer (some ⟨b1, 0, none⟩)) (e2 : τ0 n2 = .pointer (some ⟨b2, 0, none⟩)) : Ent sz xs f b1 b2 w := by
  have p1 := (h.pin (n1, τ0 n1) (List.mem_map.2 ⟨n1, m1, rfl⟩)).2
  have p2 := (h.pin (n2, τ0 n2) (List.mem_map.2 ⟨n2, m2, rfl⟩)).2
  have p1 : τ n1 = .pointer (some ⟨b1, 0, none⟩) := p1.trans e1
  have p2 : τ n2 = .pointer (some ⟨b2, 0, none⟩) := p2.trans e2
  obtain ⟨g, vs, q1, q2, q3⟩ := h.hp n1 _ h1
  rw [p1] at q1; cases q1
  obtain ⟨g, us, r1, r2, r3⟩ := h.hp n2 _ h2
  rw [p2] at r1; cases r1
  obtain ⟨vs⟩ := vs
  obtain ⟨us⟩ := us
  match vs, q3, us, r3 with
  | [v1, v2], q3, [v3], r3 =>
    rw [show v1 = .int .u64 sz from q3.1] at q2
    rw [show v3 = .int .u64 f from r3.1] at r2
    exact ⟨v2, q2, r2, q3.2.1.1⟩
  | [], q3, _, _ => exact q3.elim
  | [_], q3, _, _ => exact q3.2.elim
  | _ :: _ :: _ :: _, q3, _, _ => exact q3.2.2.elim
  | [_, _], _, [], r3 => exact r3.elim
  | [_, _], _, _ :: _ :: _, r3 => exact r3.2.elim
theorem eqB_congr {S S' : St} (h : S.hp = S'.hp) : ∀ (l : List (Nat × Hs)), EqB S l → EqB S' l
  | [], _ => trivial
  | p :: l, k => ⟨by rw [← h]; exact k.1, eqB_congr h l k.2⟩
def Stop : Exit → St → Prop := fun _ _ => False
set_option maxHeartbeats 1000000 in
/-- a range over a table's entries -/
theorem rangeE {β : Type} {X : Cx} {S : St} {τ0 : Nat → Value} {a : Act} {w : World} {t p1 p2 : Tmp} {assign body : Code} {Q : Exit → Act → World → Prop} {sz f : Int} {xs : List (Int × Int)} (hf : 0 ≤ f ∧ f < 17592186044416) (hs : Srt xs) (hu : Uw xs)
    (hdf : X.df = []) (ts : List (Nat × Nat)) (ns : List Nat) (n1 n2 : Nat) (bs : β → List (Nat × Hs)) (mid : β → Ie sz xs f → St) (next : β → Ie sz xs f → β) (b0 : β)
    (hS : SimT (cxP X τ0 ns) S τ0 a w) (htN : t < X.N) (hcl : S.tm t = .m (.c (.cl 141 [n1, n2])))
    (hts : ∀ p ∈ ts, S.tm p.1 = .m (.c (.p p.2 0)) ∧ p.2 ∈ ns ∧ p.1 < X.N) (hns : ∀ b ∈ ns, ∃ cs, S.hp b = .live (.box cs)) (hb0 : EqB S (bs b0)) (m1 : n1 ∈ ns) (m2 : n2 ∈ ns)
    (hbs : ∀ o, ((bs o).all (fun p => (idK p.2).all (memN · (bs o))) && ns.all (fun b => memN b (bs o))) = true)
    (hn1 : ∀ o, look Hs.fresh (bs o) n1 = .live (.box [.v (.int .u64 sz), .s xs.length 2 (fl xs)])) (hn2 : ∀ o, look Hs.fresh (bs o) n2 = .live (.box [.v (.int .u64 f)]))
    (hmid : ∀ o x, EqB (mid o x) (bs o)) (hself : ∀ o, EqB (St.of [] (bs o)) (bs o))
    (hinj : ∀ (τ τ' : Nat → Value) (a a' : Act) (W : World) (o o' : β) (x : Ie sz xs f), SimT (cxP X τ0 ns) (St.of (ptT ts) (bs o)) τ a W → SimT (cxP X τ0 ns) (mid o' x) τ' a' W → o = o')
    (hA : ∀ (W : World) (l : Nat) (hk : Kept X.K X.W0 W) (o : β) (x : Ie sz xs f), Aw Tryz.prog (cxR X W l τ0 ns hk) assign (thenA (fun S' => Sub (cxR X W l τ0 ns hk) S' (mid o x)) Stop) ((St.of (ptT ts) (bs o)).two p1 p2 (.m (.c (.v (.int .i64 (x.1 : Int))))) (.m (.ag (atM sz xs f x.1).ce))))
    (F : β → Prop) (hF : ∀ pre : List (Ie sz xs f), pre.length < 512 → F (pre.foldl next b0))
    (hB : ∀ (W : World) (l : Nat) (hk : Kept X.K X.W0 W) (o : β) (x : Ie sz xs f), F o → Aw Tryz.prog (cxR X W l τ0 ns hk) body (thenA (fun S' => Sub (cxR X W l τ0 ns hk) S' (St.of (ptT []) (bs (next o x)))) Stop) (mid o x))
    (hdone : ∀ (D : Nat) (ys : List (Ie sz xs f)) (W : World), w.heap.size ≤ D → ys.map (·.1) = (List.range 512).filter (nzB sz xs f) → Sim (cxP X τ0 ns) (St.of (ptT ts) (bs (ys.foldl next b0))) a W → W.heap[D]? = some (.deferred (some [])) → Q .normal { a with defers := { target := .collected D, args := #[] } :: a.defers } W) :
    (Code.rangeFunc (.tmp t) #[p1, p2] assign body).wp Tryz.prog Q a w := by
  have hptr : ∀ b ∈ ns, ∃ g, τ0 b = .pointer (some ⟨g, 0, none⟩) := fun b hb => by
    obtain ⟨cs, e⟩ := hns b hb
    obtain ⟨g, vs, e1, _⟩ := hS.hp b _ e
    exact ⟨g, e1⟩
  obtain ⟨b1, e1⟩ := hptr n1 m1
  obtain ⟨b2, e2⟩ := hptr n2 m2
  have hval : a.eval (.tmp t) = .func (.func 141) #[] #[.pointer (some ⟨b1, 0, none⟩), .pointer (some ⟨b2, 0, none⟩)] := by
    have := hS.tm t htN
    rw [hcl] at this
    have this : a.tmps.getD t undef = .func (.func 141) #[] ([n1, n2].map τ0).toArray := this.1
    show a.tmps.getD t undef = _
    rw [this]; simp [e1, e2]
  have hts' : ∀ p ∈ ts, p.2 ∈ ns ∧ a.tmps.getD p.1 undef = τ0 p.2 ∧ ∃ g, τ0 p.2 = .pointer (some ⟨g, 0, none⟩) := fun p hp => by
    obtain ⟨q1, q2, q3⟩ := hts p hp
    have := hS.tm p.1 q3
    rw [q1] at this
    obtain ⟨_, g, r1, r2⟩ := this
    have r1 : τ0 p.2 = .pointer (some ⟨g, 0, none⟩) := r1
    exact ⟨q2, r2.trans r1.symm, g, r1⟩
  have hbs1 : ∀ o, ((bs o).all fun p => (idK p.2).all (memN · (bs o))) = true := fun o => by have := hbs o; rw [Bool.and_eq_true] at this; exact this.1
  have hbs2 : ∀ o, (ns.all fun b => memN b (bs o)) = true := fun o => by have := hbs o; rw [Bool.and_eq_true] at this; exact this.2
  have hent : ∀ {S' : St} {τ' : Nat → Value} {a' : Act} {W' : World} {o : β}, SimT (cxP X τ0 ns) S' τ' a' W' → EqB S' (bs o) → Ent sz xs f b1 b2 W' := fun {S' τ' a' W' o} s h => by
    have hl : ∀ n v, look Hs.fresh (bs o) n = .live v → S'.hp n = .live v := fun n v hv => by
      rcases look_eq h n with e | e
      · rw [e] at hv; cases hv
      · rw [← e]; exact hv
    exact ent_of s (hl _ _ (hn1 o)) (hl _ _ (hn2 o)) m1 m2 e1 e2
  have hE0 : Ent sz xs f b1 b2 w := hent hS hb0
  have hszW : X.W0.heap.size ≤ w.heap.size := hS.bel.size
  have hgr : ∀ (S' : St) (a' : Act), OwnFrom w.heap.size (fun (_ : Unit) W => Sim (cxP X τ0 ns) S' a' W) := fun S' a' _ W W' row ⟨τ', s⟩ hg hr => ⟨τ', sim_grown s hg fun r e => ⟨(hr r e).2, fun k => by
    have := X.hK r k; have := (hr r e).1; omega⟩⟩
  have hI0 : Sim (cxP X τ0 ns) (St.of (ptT ts) (bs b0)) a w := sim_back ⟨τ0, hS⟩ ts (bs b0) hb0 (hbs1 b0) (hbs2 b0) hts' hS.size hS.nodef
  refine (wpIn_wide (n := 5)).1 (wpIn_rangeFunc_ownH (w0 := w) rfl (by omega) (gf := 141) hval trivial (enters_of Tryz.func141 (by kernel_rfl) rfl)
    (ent_stops 4 (by omega) sz xs f b1 b2 w hE0 hf hs hu) KpE.trans (fun W l o o' _ hl ho _ => KpE.put W l o o' hl ho) (Below.refl _ _) (fun _ => rfl)
    (fun pre W => Sim (cxP X τ0 ns) (St.of (ptT ts) (bs (pre.foldl next b0))) a W) (fun _ _ _ => False) (fun s W W' row hi hg hr => hgr _ _ () W W' row hi hg hr) (fun _ _ _ _ _ h _ _ => h) hI0
    (fun x a' W => ∃ o, Sim (cxP X τ0 ns) (mid o x) a' W) (fun x a' _ W W' row ⟨o, hi⟩ hg hr => ⟨o, hgr _ _ () W W' row hi hg hr⟩) ?_ ?_ ?_ (fun _ _ _ _ _ _ h => h.elim))
  · intro l pre x W K hI hK
    obtain ⟨τ1, s1⟩ := hI
    have hk : Kept X.K X.W0 W := s1.bel
    have s2 := sim_two (p1 := p1) (p2 := p2) (v1 := .m (.c (.v (.int .i64 (x.1 : Int))))) (v2 := .m (.ag (atM sz xs f x.1).ce)) (u1 := .int .i64 (x.1 : Int)) (u2 := pteV (atM sz xs f x.1)) (show (cxP X τ0 ns).df = [] from hdf) s1 rfl ⟨_, rfl, rfl, rfl, rfl, rfl, rfl, rfl, rfl, rfl, rfl, rfl, rfl, trivial⟩
    have s3 := sim_enter (l := l) s2 hk
    have ez : (#[p1, p2].zip (encE sz xs f x)).foldl (fun t (p, v) => t.setIfInBounds p v) a.tmps = (a.tmps.setIfInBounds p1 (.int .i64 (x.1 : Int))).setIfInBounds p2 (pteV (atM sz xs f x.1)) := by simp [encE]
    rw [ez]
    refine wpIn_mono (hA W l hk _ x _ W ⟨_, s3⟩ _) ?_
    intro e a' W' ⟨S', q, s4⟩
    cases e with
    | normal =>
      obtain ⟨τ5, s5⟩ := q _ _ s4
      have s6 := sim_leave s5
      exact hK a' W' (leave_keeps s5 _) ⟨s5.bel.size, fun _ => hent s6 (hmid _ _)⟩ (sim_back ⟨_, s6⟩ ts _ (hmid _ x) (hbs1 _) (hbs2 _) hts' hS.size hS.nodef) ⟨_, _, s6⟩
    | _ => exact q.elim
  · intro l pre x a' W hl hr hI ⟨o, τ2, s2⟩ hlen
    obtain ⟨τ1, s1⟩ := hI
    obtain rfl := hinj _ _ _ _ _ _ _ x s1 s2
    have hk : Kept X.K X.W0 W := s2.bel
    have s3 := sim_enter (l := l) s2 hk
    refine wpIn_mono (hB W l hk _ x (hF pre hlen) _ W ⟨_, s3⟩ _) ?_
    intro e a2 W' ⟨S', q, s4⟩
    cases e with
    | normal =>
      obtain ⟨τ5, s5⟩ := q _ _ s4
      have s6 := sim_leave s5
      have hq := eqB_congr (S := St.of [] (bs (next (pre.foldl next b0) x))) (S' := St.of (ptT []) (bs (next (pre.foldl next b0) x))) rfl _ (hself _)
      refine ⟨leave_keeps s5 _, ⟨s5.bel.size, fun _ => hent s6 hq⟩, ?_⟩
      show Sim (cxP X τ0 ns) (St.of (ptT ts) (bs ((pre ++ [x]).foldl next b0))) a W'
      rw [List.foldl_append]
      exact sim_back ⟨_, s6⟩ ts _ hq (hbs1 _) (hbs2 _) hts' hS.size hS.nodef
    | _ => exact q.elim
  · intro D ys W hD hys hI hK
    exact hdone D ys W hD hys hI hK
/-! ### the function around the loop -/
def Aw2 (P : Program) (X : Cx) (c : Code) (Q : Exit → Act → World → Prop) (S : St) : Prop := ∀ a w, Sim X S a w → c.wp P Q a w
theorem aw2_seq_k {x y : Code} {Q : Exit → Act → World → Prop} (h : ∀ K : St → Prop, (∀ S, Aw2 P X y Q S → K S) → Aw P X x (thenA K Stop) S) (hr : X.rd = none := by rfl) : Aw2 P X (.seq x y) Q S := fun a w hs =>
  wp_seq (wp_mono (aw_wp hr (h _ fun _ h => h) hs) fun e a' w' ⟨S', q, s⟩ => by
    cases e with
    | normal => exact q a' w' s
    | _ => exact q.elim)
theorem aw2_in {x y : Code} {Q : Exit → Act → World → Prop} (h : Aw2 P X x (Exit.then (y.wp P Q) Q) S) : Aw2 P X (.seq x y) Q S := fun a w hs => wp_seq (h a w hs)
theorem aw2_block {id : Nat} {c : Code} {Q : Exit → Act → World → Prop} (h : Aw2 P X c (Exit.inBlock id Q) S) : Aw2 P X (.block id c) Q S := fun a w hs => wp_block (h a w hs)
theorem aw2_sub {c : Code} {Q : Exit → Act → World → Prop} {S' : St} (h : Sub X S S') (k : Aw2 P X c Q S') : Aw2 P X c Q S := fun a w hs => k a w (h a w hs)
theorem sim_pin {ns : List Nat} (h : SimT X S τ a w) (hns : ∀ b ∈ ns, ∃ cs, S.hp b = .live (.box cs)) : SimT (cxP X τ ns) S τ a w :=
  ⟨h.size, h.nodef, h.bel, h.tm, h.hp, h.own, h.sep, h.one, fun p hp => by
    obtain ⟨b, hb, rfl⟩ := List.mem_map.1 hp
    obtain ⟨cs, e⟩ := hns b hb
    exact ⟨(by rw [e]; intro e'; cases e'), rfl⟩⟩
/-- behind the loop: its block for deferred calls stays -/
def cxD (X : Cx) (W : World) (D : Nat) (hk : Kept X.K X.W0 W) (hD : D < W.heap.size) : Cx :=
  { X with
    W0 := W
    hB := Nat.le_trans X.hB hk.size
    K := fun g => X.K g ∨ g = D
    hK := fun g h => h.elim (fun h => Nat.lt_of_lt_of_le (X.hK g h) hk.size) (fun h => h ▸ hD)
    hG := fun w h => X.hG w (hk.trans (h.mono fun _ => .inl))
    pn := []
    rd := none
    df := [{ target := .collected D, args := #[] }] }
theorem sim_cxD {D : Nat} (h : SimT X S τ a w) (hdf : X.df = []) (hN : isNC w D) (hD : D < w.heap.size) : SimT (cxD X w D h.bel hD) S τ { a with defers := { target := .collected D, args := #[] } :: a.defers } w :=
  ⟨h.size, by show _ :: a.defers = _; rw [h.nodef, hdf]; rfl, Kept.refl _ _, h.tm, h.hp, fun b g hb ho => ⟨fun k => k.elim (h.own b g hb ho).1 (fun e => alive_cells h hb ho (e ▸ hN)), (h.own b g hb ho).2⟩, h.sep, h.one, fun p hp => by cases hp⟩
def MarkR (W : World) (A : Nat → Prop) (r : AV) (e : Ending) (w' : World) : Prop := ∃ v, e = .returned v ∧ Below W.heap.size W w' ∧ r.R (en0 (fun g => A g ∨ W.heap.size ≤ g) w') v
theorem after_loop {G : World → Prop} {N : Nat} {W0 : World} {A : Nat → Prop} {hG : ∀ w, Below W0.heap.size W0 w → G w} {fn : Func} {rest : Code} {t : Tmp} {m : Cm} {D : Nat} {W : World} (hres : fn.results = #[.tmp t]) (ht : t < N) (hcl : closedM m = true) (hs : SimT (Cx.of N W0 A G hG) S τ a W) (hDW : W0.heap.size ≤ D) (hK : W.heap[D]? = some (.deferred (some [])))
    (h : ∀ (hk : Kept (Cx.of N W0 A G hG).K (Cx.of N W0 A G hG).W0 W) (hD : D < W.heap.size), Aw P (cxD (Cx.of N W0 A G hG) W D hk hD) rest (fun e S' => (e = .normal ∨ e = .ret) ∧ ∃ m', S'.tm t = .m m' ∧ shutM S'.hp m' = m) S) :
    rest.wp P (bodyPostM Fence.wide 5 P fn (MarkR W0 A (.m m))) { a with defers := { target := .collected D, args := #[] } :: a.defers } W := by
  have hlt : D < W.heap.size := (Array.getElem?_eq_some_iff.1 hK).1
  have s1 := sim_cxD hs rfl ⟨_, hK, rfl⟩ hlt
  refine wp_mono (aw_wp rfl (h hs.bel hlt) ⟨_, s1⟩) ?_
  intro e a' w' ⟨S', ⟨he, m', hm1, hm2⟩, τ', s⟩
  have hK' : w'.heap[D]? = some (.deferred (some [])) := (s.bel.block D (.inr rfl)).trans hK
  have key : LeavesInM Fence.wide 5 P fn a'.tmps (MarkR W0 A (.m m)) a'.defers .returning w' := by
    rw [s.nodef]
    refine ⟨by simp, .inl ⟨_, _, rfl, run_takeDeferred hK', ?_⟩⟩
    refine ⟨_, results_tmp hres _ _ _, _, rfl, ?_, ?_⟩
    · have b1 : Below W0.heap.size W0 W := hs.bel.below fun _ h => h
      have b2 : Below W0.heap.size W w' := s.bel.below fun _ h => .inl h
      exact (b1.trans b2).trans ((Below.refl _ _).grown (grownBy_putObj' w' D (.deferred none)) (Nat.le_trans b1.size b2.size) (fun k e => by cases e; exact hDW))
    · have hR := s.tm t ht
      rw [hm1] at hR
      have hR2 := shutM_R s m' _ hR
      rw [hm2] at hR2
      have hR3 := cmR_map (E := ⟨_, _, τ', w'⟩) (F := en0 (fun g => A g ∨ W0.heap.size ≤ g) w') rfl (fun g _ hg => hg) _ _ hcl hR2
      exact cmR_lw (E := en0 (fun g => A g ∨ W0.heap.size ≤ g) w') (F := en0 (fun g => A g ∨ W0.heap.size ≤ g) (w'.putObj D (.deferred none))) ⟨fun _ h => h.elim, fun _ _ h => h, (grownBy_putObj' w' D _).size, fun g o v _ _ hv => cell_put hv hK' rfl⟩ _ _ hR3
  rcases he with rfl | rfl
  · exact key
  · exact key
theorem callOk_marks {G : World → Prop} {k : FuncId} {fn : Func} {c : Code} {args : List Cm} {m : Cm} (N : Nat) (hf : P.funcs[k]? = some fn) (hb : fn.body = some c) (hcl : (closedM m && args.all closedM) = true) (hN : args.length + (fn.ntmps - args.length) = N)
    (h : ∀ (W : World) (A : Nat → Prop) (hG : ∀ w, Below W.heap.size W w → G w), Aw2 P (Cx.of N W A G hG) c (bodyPostM Fence.wide 5 P fn (MarkR W A (.m m))) (start args)) (hGb : ∀ w w', G w → Below w.heap.size w w' → G w') : CallOk P G k args (.m m) := by
  simp only [Bool.and_eq_true] at hcl
  refine ⟨hcl.1, hcl.2, fun A W vs hG hR => ?_⟩
  have hlen := All2.length _ _ hR
  simp only [Array.length_toList] at hlen
  exact callsIn_wide.1 (callsIn_of_wp_marks (F := Fence.wide) (n := 5) hf hb trivial (wpIn_wide.2 (h W A (fun w hb => hGb W w hG hb) _ W (start_sim hN hcl.2 hlen hR))) rfl)
end
end Go.Proofs.YtgkodncknlankaaGreatDoor.Ax
/- The abstract walk: entries called; nothing in a box told as an own row; rows at one place are the same. -/
namespace Go.Proofs.YtgkodncknlankaaGreatDoor.Ax
open Go.RowKit Go.Proofs.YtgkodncknlankaaGreatDoor.MemL Go.Proofs.YtgkodncknlankaaGreatDoor.RegR Go.Proofs.YtgkodncknlankaaGreatDoor.MemC Go.Proofs.YtgkodncknlankaaGreatDoor.MemC3 Go.Proofs.YtgkodncknlankaaGreatDoor.PutC Go.Proofs.YtgkodncknlankaaGreatDoor.LaA Go.Proofs.YtgkodncknlankaaGreatDoor.IterE Go.Proofs.YtgkodncknlankaaGreatDoor.PteSpec Go.Proofs.YtgkodncknlankaaGreatDoor.BitsC Go.Proofs.YtgkodncknlankaaGreatDoor.OkS Go
set_option linter.unusedVariables false
set_option linter.unusedSimpArgs false
section
variable {X : Cx} {S : St} {ops : Array Oper} {o : Oper}
set_option maxHeartbeats 1000000 in
theorem entries2_calls (sz f : Int) (v : Value) (W : World) : Calls Tryz.prog 93 #[.agg #[.int .u64 sz, v], .int .u64 f] W fun e w' => e = .returned (.func (.func 141) #[] #[.pointer (some ⟨W.heap.size, 0, none⟩), .pointer (some ⟨W.heap.size + 1, 0, none⟩)]) ∧ w' = (W.alloc (.cells #[.int .u64 sz, v] 34)).alloc (.cells #[.int .u64 f] 25) := by
  go_enter Tryz.func93, Tryz.ntmps93
  go_wp2
  go_ret
  exact ⟨rfl, rfl⟩
/-- the iterator is made: its two boxes are the caller's from now on -/
theorem valid_entries {sz f : Int} {l : List (Int × Int)} {n1 n2 : Nat} {xs : Array Operand} {ts : Array TypeId} (ho : o.op = .call { callee := .value (.func 93), args := xs, argTypes := ts }) (hw : want ops S o = true) (hl : argsA S xs.toList = some [memA sz l, iu f]) (h1 : S.hp n1 = .fresh) (h2 : S.hp n2 = .fresh) (hne : Nat.beq n2 n1 = false) :
    Valid Tryz.prog ops X o S ⟨.m (.c (.cl 141 [n1, n2])), [(n2, .live (.box [cu f])), (n1, .live (.box [cu sz, .s l.length 2 (fl l)]))], []⟩ := fun S2 a w k1 k2 k3 ⟨τ, hS⟩ => by
  refine .inl ⟨want_spec hw k1 k3 hS, ?_⟩
  rw [run_call ho (by kernel_rfl)]
  have hR := argsA_R (S := S) (E := env X S2.hp τ w) (a := a) xs.toList _ hl (fun x hx => by
    have hm : x ∈ o.op.operands := by rw [ho]; simp [Op.operands, Call.operands]; exact .inr (by simpa using hx)
    rw [← ev_same k1 hm]; exact hS.ev x (fun t e => k3 t (.inl (looks_op (e ▸ hm)))))
  obtain ⟨vm, vf, hv, r1, r2⟩ := args2 (vs := (xs.toList.map a.eval).toArray) (by simpa using hR)
  have hv : xs.map a.eval = #[vm, vf] := by rw [← hv, ← Array.toList_inj, Array.toList_map]
  obtain ⟨u, rfl, hu⟩ := arg_mem r1
  obtain rfl : vf = .int .u64 f := r2
  rw [hv]
  refine (entries2_calls sz f u w).mono ?_
  rintro e w' ⟨rfl, rfl⟩
  have f1 : S2.hp n1 = .fresh := Eq.trans (k2 (.all n1) (by simp [Ef.foot, upRd])) h1
  have f2 : S2.hp n2 = .fresh := Eq.trans (k2 (.all n2) (by simp [Ef.foot, upRd])) h2
  have hn : n2 ≠ n1 := fun e => by rw [e, Nat.beq_refl] at hne; cases hne
  have s1 := hS.newb (k := .box [cu sz, .s l.length 2 (fl l)]) (b := n1) (d := none) (r := .m (.c .any)) (u := undef) (rd := []) f1 ((Below.refl _ _).alloc (Nat.le_refl _) (.cells #[.int .u64 sz, u] 34)) (v := .pointer (some ⟨w.heap.size, 0, none⟩)) (g := w.heap.size) rfl ⟨Nat.le_refl _, by rw [World.size_alloc]; omega⟩ rfl
    (fun E hE hw' => ⟨w.heap.size, #[.int .u64 sz, u], rfl, by rw [hw']; exact Bx.new, rfl, ceR_le hE _ _ hu, trivial⟩) trivial
  have f2' : (S2.app none ⟨.m (.c .any), [(n1, .live (.box [cu sz, .s l.length 2 (fl l)]))], []⟩).hp n2 = .fresh := by
    show upd _ _ n2 = _
    rw [upd_one, if_neg hn]; exact f2
  have hz : (w.alloc (.cells #[.int .u64 sz, u] 34)).heap.size = w.heap.size + 1 := World.size_alloc ..
  have s2 := s1.newb (k := .box [cu f]) (b := n2) (d := o.dst) (r := .m (.c (.cl 141 [n1, n2]))) (u := .func (.func 141) #[] #[.pointer (some ⟨w.heap.size, 0, none⟩), .pointer (some ⟨w.heap.size + 1, 0, none⟩)]) (rd := []) f2' ((Below.refl _ _).alloc (Nat.le_refl _) (.cells #[.int .u64 f] 25)) (v := .pointer (some ⟨w.heap.size + 1, 0, none⟩)) (g := w.heap.size + 1) rfl ⟨by rw [hz]; exact Nat.le_refl _, by rw [World.size_alloc, hz]; omega⟩ rfl
    (fun E hE hw' => ⟨w.heap.size + 1, #[.int .u64 f], rfl, by rw [hw', ← hz]; exact Bx.new, rfl, trivial⟩) (by
      refine ⟨?_, fun b hb => ?_⟩
      · show _ = Value.func _ #[] ([n1, n2].map (setτ (setτ τ n1 _) n2 _)).toArray
        have e1 : setτ (setτ τ n1 (.pointer (some ⟨w.heap.size, 0, none⟩))) n2 (.pointer (some ⟨w.heap.size + 1, 0, none⟩)) n1 = .pointer (some ⟨w.heap.size, 0, none⟩) := by
          unfold setτ; rw [if_neg (Ne.symm hn), if_pos rfl]
        have e2 : setτ (setτ τ n1 (.pointer (some ⟨w.heap.size, 0, none⟩))) n2 (.pointer (some ⟨w.heap.size + 1, 0, none⟩)) n2 = .pointer (some ⟨w.heap.size + 1, 0, none⟩) := by
          unfold setτ; rw [if_pos rfl]
        simp only [List.map_cons, List.map_nil, e1, e2]
      · show upd _ _ b ≠ .fresh
        rw [upd_one]
        split
        · intro e; cases e
        · rename_i hb2
          have : b = n1 := by
            rcases List.mem_cons.1 hb with rfl | hb
            · rfl
            · rcases List.mem_cons.1 hb with rfl | hb
              · exact absurd rfl hb2
              · cases hb
          subst this
          show upd _ _ b ≠ .fresh
          rw [upd_one, if_pos rfl]; intro e; cases e)
  exact ⟨_, rfl, _, s2⟩
end
section
variable {X : Cx} {S : St}
def St.nb (S : St) (c b : Nat) (r : Bk) : St := ⟨S.tm, fun i => cond (Nat.beq i b) (.live r) (cond (Nat.beq i c) (.live (.box [.o b])) (S.hp i))⟩
/-- nothing in a box, told as an own row -/
theorem sub_nilb (c b e k : Nat) (hc : S.hp c = .live (.box [.v (.slice none 0 0)])) (hf : S.hp b = .fresh) : Sub X S (S.nb c b (.row e k 0 [])) := fun a w ⟨τ, h⟩ => by
  have hcb : c ≠ b := fun e => by rw [e, hf] at hc; cases hc
  have hb1 : (S.nb c b (.row e k 0 [])).hp b = .live (.row e k 0 []) := by
    show cond (Nat.beq b b) _ _ = _; rw [Nat.beq_refl]; rfl
  have hbc : (S.nb c b (.row e k 0 [])).hp c = .live (.box [.o b]) := by
    show cond (Nat.beq c b) _ (cond (Nat.beq c c) _ _) = _; rw [beq_false hcb, Nat.beq_refl]; rfl
  have hb2 : ∀ i, i ≠ b → i ≠ c → (S.nb c b (.row e k 0 [])).hp i = S.hp i := fun i h1 h2 => by
    show cond (Nat.beq i b) _ (cond (Nat.beq i c) _ _) = _; rw [beq_false h1, beq_false h2]; rfl
  have hal : ∀ i, alive (S.nb c b (.row e k 0 [])).hp i → i = b ∨ (i ≠ b ∧ alive S.hp i) := fun i ⟨q, hq⟩ => by
    by_cases e1 : i = b
    · exact .inl e1
    · by_cases e2 : i = c
      · subst e2; exact .inr ⟨e1, _, hc⟩
      · rw [hb2 i e1 e2] at hq; exact .inr ⟨e1, q, hq⟩
  have t1 : setτ τ b (.slice none 0 0) b = .slice none 0 0 := by unfold setτ; rw [if_pos rfl]
  have t2 : ∀ i, i ≠ b → setτ τ b (.slice none 0 0) i = τ i := fun i hi => by unfold setτ; rw [if_neg hi]
  have hle : (env X S.hp τ w).le (env X (S.nb c b (.row e k 0 [])).hp (setτ τ b (.slice none 0 0)) w) := by
    refine ⟨fun i hi => ?_, fun g _ ha => ⟨ha.1, fun i hi => ?_⟩, Nat.le_refl _, fun _ _ _ _ => rfl⟩
    · have hi : S.hp i ≠ .fresh := hi
      have e1 : i ≠ b := fun e => hi (e ▸ hf)
      refine ⟨?_, t2 i e1⟩
      show (S.nb c b (.row e k 0 [])).hp i ≠ .fresh
      by_cases e2 : i = c
      · subst e2; rw [hbc]; intro e; cases e
      · rw [hb2 i e1 e2]; exact hi
    · show occ (setτ τ b (.slice none 0 0) i) ≠ some g
      rcases hal i hi with rfl | ⟨e1, hi⟩
      · rw [t1]; intro e; cases e
      · rw [t2 i e1]; exact ha.2 i hi
  refine ⟨setτ τ b (.slice none 0 0), h.size, h.nodef, h.bel, fun t ht => avR_le hle _ _ (h.tm t ht), fun i q hq => ?_, fun i g hi ho => ?_, fun i j g hij hi hj ho => ?_, fun i => ?_, fun p hp => ⟨(hle.U _ (h.pin p hp).1).1, (hle.U _ (h.pin p hp).1).2.trans (h.pin p hp).2⟩⟩
  · by_cases e1 : i = b
    · subst e1
      rw [hb1] at hq; cases hq
      rw [t1]; exact World.ownsRow_nil w X.base e k
    · rw [t2 i e1]
      by_cases e2 : i = c
      · subst e2
        rw [hbc] at hq; cases hq
        obtain ⟨g, vs, x1, x2, x3⟩ := h.hp i _ hc
        refine ⟨g, vs, x1, x2, ?_⟩
        obtain ⟨vs⟩ := vs
        match vs, x3 with
        | [v], x3 =>
          refine ⟨⟨?_, ?_⟩, trivial⟩
          · show (S.nb i b (.row e k 0 [])).hp b ≠ .fresh
            rw [hb1]; intro e; cases e
          · show v = setτ τ b (.slice none 0 0) b
            rw [t1]; exact x3.1
        | [], x3 => exact x3.elim
        | _ :: _ :: _, x3 => exact x3.2.elim
      · rw [hb2 i e1 e2] at hq
        have hk := h.hp i q hq
        cases q with
        | box cs =>
          obtain ⟨g, vs, x1, x2, x3⟩ := hk
          exact ⟨g, vs, x1, x2, All2.mono (ceR_le hle) _ _ x3⟩
        | row _ _ _ _ => exact hk
  · rcases hal i hi with rfl | ⟨e1, hi⟩
    · rw [t1] at ho; cases ho
    · rw [t2 i e1] at ho; exact h.own i g hi ho
  · rcases hal i hi with e0 | ⟨e1, hi'⟩
    · rw [e0, t1] at ho; cases ho
    · rw [t2 i e1] at ho
      rcases hal j hj with f0 | ⟨f1, hj'⟩
      · rw [f0, t1]; intro e; cases e
      · rw [t2 j f1]; exact h.sep i j g hij hi' hj' ho
  · by_cases e1 : i = b
    · subst e1; rw [t1]; rfl
    · rw [t2 i e1]; exact h.one i
theorem owns_inj {w : World} {base base' e k n e' n' : Nat} {v : Value} {xs xs' : List Value} (h : w.ownsRow base e k v n xs) (h' : w.ownsRow base' e' k v n' xs') : n = n' ∧ xs = xs' := by
  obtain ⟨l, h⟩ := h
  obtain ⟨l', h'⟩ := h'
  rcases h with ⟨e1, e2⟩ | ⟨g, cap, cur, e1, e2, e3, e4, e5, e6, e7⟩
  · rcases h' with ⟨f1, f2⟩ | ⟨g', cap', cur', f1, _⟩
    · subst e2; subst f2
      rw [Nat.zero_mul] at l l'
      rw [List.eq_nil_of_length_eq_zero l, List.eq_nil_of_length_eq_zero l']; exact ⟨rfl, rfl⟩
    · rw [e1] at f1; cases f1
  · rcases h' with ⟨f1, f2⟩ | ⟨g', cap', cur', f1, f2, f3, f4, f5, f6, f7⟩
    · rw [e1] at f1; cases f1
    · rw [e1] at f1; cases f1
      rw [e3] at f3; cases f3
      exact ⟨rfl, by rw [← e7, ← f7]⟩
/-- what is told of one row twice is the same -/
theorem row_inj {X : Cx} {τ0 τ τ' : Nat → Value} {ns : List Nat} {S S' : St} {a a' : Act} {W : World} {c b e k n e' n' : Nat} {xs xs' : List Value} (h : SimT (cxP X τ0 ns) S τ a W) (h' : SimT (cxP X τ0 ns) S' τ' a' W) (hc : c ∈ ns) (h1 : S.hp c = .live (.box [.o b])) (h1' : S'.hp c = .live (.box [.o b])) (h2 : S.hp b = .live (.row e k n xs)) (h2' : S'.hp b = .live (.row e' k n' xs')) : n = n' ∧ xs = xs' := by
  have p := (h.pin (c, τ0 c) (List.mem_map.2 ⟨c, hc, rfl⟩)).2
  have p' := (h'.pin (c, τ0 c) (List.mem_map.2 ⟨c, hc, rfl⟩)).2
  have p : τ c = τ' c := p.trans p'.symm
  obtain ⟨g, vs, q1, ⟨T, q2⟩, q3⟩ := h.hp c _ h1
  obtain ⟨g', vs', r1, ⟨T', r2⟩, r3⟩ := h'.hp c _ h1'
  rw [p, r1] at q1; cases q1
  have q2 : W.heap[g]? = some (Obj.cells vs T (0, 0)) := q2
  have r2 : W.heap[g]? = some (Obj.cells vs' T' (0, 0)) := r2
  rw [q2] at r2; cases r2
  obtain ⟨vs⟩ := vs
  match vs, q3, r3 with
  | [v], q3, r3 =>
    have e1 : v = τ b := q3.1.2
    have e2 : v = τ' b := r3.1.2
    have o1 : W.ownsRow X.base e k (τ b) n xs := h.hp b _ h2
    have o2 : W.ownsRow X.base e' k (τ' b) n' xs' := h'.hp b _ h2'
    rw [← e1] at o1; rw [← e2] at o2
    exact owns_inj o1 o2
  | [], q3, _ => exact q3.elim
  | _ :: _ :: _, q3, _ => exact q3.2.elim
end
end Go.Proofs.YtgkodncknlankaaGreatDoor.Ax
/- The abstract walk: table.Pages. -/
namespace Go.Proofs.YtgkodncknlankaaGreatDoor.LaC
open Go.RowKit Go.Proofs.YtgkodncknlankaaGreatDoor.Bv Go.Proofs.YtgkodncknlankaaGreatDoor.VaSpec Go.Proofs.YtgkodncknlankaaGreatDoor.Base Go.Proofs.YtgkodncknlankaaGreatDoor.MemL Go.Proofs.YtgkodncknlankaaGreatDoor.RegR Go.Proofs.YtgkodncknlankaaGreatDoor.Ax Go.Proofs.YtgkodncknlankaaGreatDoor.MemC Go.Proofs.YtgkodncknlankaaGreatDoor.PutC Go.Proofs.YtgkodncknlankaaGreatDoor.MemC3 Go.Proofs.YtgkodncknlankaaGreatDoor.TzC Go.Proofs.YtgkodncknlankaaGreatDoor.OkS Go.Proofs.YtgkodncknlankaaGreatDoor.SpA Go.Proofs.YtgkodncknlankaaGreatDoor.SpB Go.Proofs.YtgkodncknlankaaGreatDoor.SpC Go.Proofs.YtgkodncknlankaaGreatDoor.LaA Go.Proofs.YtgkodncknlankaaGreatDoor.IterE
open Go.Proofs.YtgkodncknlankaaGreatDoor.BitsC Go.Proofs.YtgkodncknlankaaGreatDoor.PteSpec
set_option linter.unusedVariables false
set_option linter.unusedSimpArgs false
set_option maxRecDepth 10000
set_option maxHeartbeats 1000000
/-- a page -/
structure Pg where
  va : Int
  pa : Int
  lev : Int
  r : Bool
  w : Bool
  x : Bool
  u : Bool
  d : Bool
deriving DecidableEq
def Pg.vs (p : Pg) : List Value := [.int .u64 p.va, .int .u64 p.pa, .int .i64 p.lev, .bool p.r, .bool p.w, .bool p.x, .bool p.u, .bool p.d]
def flP (l : List Pg) : List Value := l.flatMap Pg.vs
theorem flP_app (a b : List Pg) : flP (a ++ b) = flP a ++ flP b := List.flatMap_append ..
theorem flP_one (p : Pg) : flP [p] = p.vs := by simp [flP]
theorem size_ok (l : Int) (h0 : 0 ≤ l) (h2 : l ≤ 2) : Ok 32 [ii l] (.m (iu (VaSpec.sz l))) :=
  ok_plain #[.int .i64 l] (.int .u64 (VaSpec.sz l)) fun W g => (VaC.size_calls l W h0 h2 g.s).mono fun _ _ ⟨e, q⟩ => ⟨e, q.below⟩
theorem pleaf_ok (p : Pte) : Ok 95 [.ag p.ce] (.m (ib (leafP p))) :=
  ok_plain #[.agg #[.bool p.v, .bool p.r, .bool p.w, .bool p.x, .bool p.u, .bool p.g, .bool p.a, .bool p.d, .int .u64 p.rsw, .int .u64 p.ppn, .int .u64 p.high]] (.bool (leafP p))
    fun W _ => PteC.leaf_calls p.v p.r p.w p.x p.u p.g p.a p.d p.rsw p.ppn p.high W
theorem pperm_ok (p : Pte) : Ok 97 [.ag p.ce] (.m (.ag [cb p.r, cb p.w, cb p.x, cb p.u])) :=
  ok_plain #[.agg #[.bool p.v, .bool p.r, .bool p.w, .bool p.x, .bool p.u, .bool p.g, .bool p.a, .bool p.d, .int .u64 p.rsw, .int .u64 p.ppn, .int .u64 p.high]] (.agg #[.bool p.r, .bool p.w, .bool p.x, .bool p.u])
    fun W _ => PteC.perm_calls p.v p.r p.w p.x p.u p.g p.a p.d p.rsw p.ppn p.high W
theorem szv_bd (l : Int) (h0 : 0 ≤ l) (h2 : l ≤ 2) : 0 ≤ VaSpec.sz l ∧ VaSpec.sz l ≤ 1073741824 := by
  rcases VaSpec.lev h0 h2 with rfl | rfl | rfl <;> decide
/-- an address behind a base -/
def adr (b i l : Int) : Int := IntKind.u64.wrap (b + IntKind.u64.wrap (i * VaSpec.sz l))
def pgOf (p : Pte) (a l : Int) : Pg := ⟨ofv (num a), p.ppn * 4096, l, p.r, p.w, p.x, p.u, p.d⟩
/-- what an entry leads to -/
def entP (rec : Int → Int → List Pg) (p : Pte) (l a : Int) : List Pg := if badP p l then [] else if leafP p then [pgOf p a l] else rec p.ppn a
def pagesN (sz : Int) (xs : List (Int × Int)) : Nat → Int → Int → List Pg
  | 0, top, b => (List.range 512).flatMap fun (i : Nat) => entP (fun _ _ => []) (atM sz xs top i) 0 (adr b i 0)
  | l + 1, top, b => (List.range 512).flatMap fun (i : Nat) => entP (pagesN sz xs l) (atM sz xs top i) (l + 1 : Nat) (adr b i (l + 1 : Nat))
theorem vs_one (p : Pg) : (p.vs).all (·.oneCell') = true := rfl
theorem flP_all : ∀ l : List Pg, (flP l).all (·.oneCell') = true
  | [] => rfl
  | p :: l => by rw [show flP (p :: l) = p.vs ++ flP l from rfl, List.all_append, vs_one, flP_all l]; rfl
theorem bad0_leaf {p : Pte} (h : badP p 0 = false) : leafP p = true := by
  obtain ⟨v, r, w, x, u, g, a, d, rsw, ppn, high⟩ := p
  revert h
  unfold badP leafP linkP
  cases v <;> cases r <;> cases x <;> simp
theorem adr_U (b i l : Int) : U (adr b i l) := by
  have := IntKind.wrap_u64 (b + IntKind.u64.wrap (i * VaSpec.sz l))
  unfold adr
  rw [this]
  exact ⟨by omega, by omega⟩
theorem bad_zero (l : Int) : badP (pteOf 0) l = true := by
  unfold badP
  rw [show (pteOf 0).v = false by decide]
  rfl
theorem flat_nz {sz : Int} {xs : List (Int × Int)} {f : Int} (E : Nat → List Pg) (h : ∀ i, nzB sz xs f i = false → E i = []) : ∀ l : List Nat, (l.filter (nzB sz xs f)).flatMap E = l.flatMap E
  | [] => rfl
  | i :: l => by
    cases e : nzB sz xs f i with
    | true => rw [List.filter_cons, e]; simp only [if_true, List.flatMap_cons]; rw [flat_nz E h l]
    | false => rw [List.filter_cons, e]; simp only [Bool.false_eq_true, if_false]; rw [List.flatMap_cons, h i e, flat_nz E h l]; rfl
theorem fold_pg {α : Type} (E : α → List Pg) : ∀ (ys : List α) (acc : Nat × List Value), ys.foldl (fun p x => (p.1 + (E x).length, p.2 ++ flP (E x))) acc = (acc.1 + (ys.flatMap E).length, acc.2 ++ flP (ys.flatMap E))
  | [], acc => by simp [flP]
  | y :: ys, acc => by
    rw [List.foldl_cons, fold_pg E ys, List.flatMap_cons, List.length_append, flP_app]
    simp only [Nat.add_assoc, List.append_assoc]
theorem flat_bd {α : Type} (E : α → List Pg) (M : Nat) (h : ∀ x, (E x).length ≤ M) : ∀ ys : List α, (ys.flatMap E).length ≤ ys.length * M
  | [] => by simp
  | y :: ys => by
    rw [List.flatMap_cons, List.length_append, List.length_cons, Nat.succ_mul]
    have := h y
    have := flat_bd E M h ys
    omega
theorem entP_bd {rec : Int → Int → List Pg} (hrec : ∀ t a, (rec t a).length ≤ 262144) (p : Pte) (l a : Int) : (entP rec p l a).length ≤ 262144 := by
  unfold entP
  split
  · simp
  · split
    · simp
    · exact hrec _ _
theorem num_U {a : Int} (h : U a) : U (num a) := by
  obtain ⟨h0, h1⟩ := h
  unfold num
  exact ⟨by omega, by omega⟩
def ts0 : List (Nat × Nat) := [(4, 4), (6, 6), (7, 7), (9, 9)]
def ns0 : List Nat := [4, 6, 7, 9, 1001, 1002]
def bs0 (sz : Int) (xs : List (Int × Int)) (top base lv : Int) (p : Nat × List Value) : List (Nat × Hs) := [(4, .live (.box [cu sz, .s xs.length 2 (fl xs)])), (6, .live (.box [ci lv])), (7, .live (.box [cu base])), (9, .live (.box [.o 1000])), (1000, .live (.row 59 8 p.1 p.2)), (1001, .live (.box [cu sz, .s xs.length 2 (fl xs)])), (1002, .live (.box [cu top]))]
theorem pages_ok0 (sz : Int) (xs : List (Int × Int)) (top base lv : Int) (rec : Int → Int → List Pg) (ht : 0 ≤ top ∧ top < 17592186044416) (hb : U base) (h0 : 0 ≤ lv) (h2 : lv ≤ 2) (hs : Srt xs) (hu : Uw xs) (hrec : ∀ t a, (rec t a).length ≤ 262144)
    (hIH : 1 ≤ lv → ∀ t a, (0 ≤ t ∧ t < 17592186044416) → U a → Ok 45 [memA sz xs, iu t, ii (lv - 1), iu a] (.m (.c (.s (rec t a).length 8 (flP (rec t a))))))
    (L : List Pg) (hL : L = (List.range 512).flatMap fun (i : Nat) => entP rec (atM sz xs top i) lv (adr base i lv)) :
    Ok 45 [memA sz xs, iu top, ii lv, iu base] (.m (.c (.s L.length 8 (flP L)))) := by
  have hz := szv_bd lv h0 h2
  refine callOk_marks 57 Tryz.func45 rfl rfl rfl ?_ GG.to
  intro W A hG
  refine aw2_seq_k (fun K hK => ?_)
  repeat (first
    | (refine go_at rfl ?_; first
        | refine go_do (valid_mv (.inr rfl) rfl) rfl ?_
        | refine go_do (valid_box rfl rfl rfl rfl rfl rfl) rfl ?_)
    | (refine hK _ ?_; clear hK K)
    | refine aw_text rfl ?_)
  refine aw2_seq_k (fun K hK => ?_)
  repeat (first
    | (refine go_at rfl ?_; first
        | refine go_do (valid_alloc rfl rfl rfl rfl rfl) rfl ?_)
    | (refine hK _ ?_; clear hK K)
    | refine aw_text rfl ?_)
  refine aw2_in ?_
  refine aw2_seq_k (fun K hK => ?_)
  repeat (first
    | (refine go_at rfl ?_; first
        | refine go_do (valid_mv (.inl rfl) rfl) rfl ?_
        | (refine nxt_s 1 rfl ?_; refine go_do (valid_load_p tb rfl rfl rfl rfl rfl (by first | kernel_rfl | rfl)) (by first | kernel_rfl | rfl) ?_)
        | refine go_do (valid_entries (n1 := 1001) (n2 := 1002) rfl rfl rfl rfl rfl rfl) rfl ?_)
    | (refine hK _ ?_; clear hK K)
    | refine aw_text rfl ?_)
  refine aw2_block ?_
  refine aw2_sub (sub_of [(4, .m (.c (.p 4 0))), (6, .m (.c (.p 6 0))), (7, .m (.c (.p 7 0))), (9, .m (.c (.p 9 0))), (15, .m (.c (.cl 141 [1001, 1002])))] [(4, .live (.box [cu sz, .s xs.length 2 (fl xs)])), (6, .live (.box [ci lv])), (7, .live (.box [cu base])), (9, .live (.box [.v (.slice none 0 0)])), (1001, .live (.box [cu sz, .s xs.length 2 (fl xs)])), (1002, .live (.box [cu top]))]
    ⟨rfl, rfl, rfl, rfl, rfl, trivial⟩ ⟨rfl, rfl, rfl, rfl, rfl, rfl, trivial⟩ rfl) ?_
  refine aw2_sub (sub_nilb 9 1000 59 8 rfl rfl) ?_
  intro a w ⟨τ0, s⟩
  have s' := sim_pin (ns := ns0) s (by
    intro b hb
    simp only [ns0, List.mem_cons, List.not_mem_nil, or_false] at hb
    rcases hb with rfl | rfl | rfl | rfl | rfl | rfl
    all_goals exact ⟨_, rfl⟩)
  refine rangeE (β := Nat × List Value) ht hs hu rfl ts0 ns0 1001 1002 (bs0 sz xs top base lv)
    (fun p x => St.of [(4, .m (.c (.p 4 0))), (6, .m (.c (.p 6 0))), (7, .m (.c (.p 7 0))), (9, .m (.c (.p 9 0))), (10, .m (ii (x.1 : Int))), (11, .m (.c (.p 11 0)))] (bs0 sz xs top base lv p ++ [(11, .live (.box (atM sz xs top x.1).ce))]))
    (fun p x => (p.1 + (entP rec (atM sz xs top x.1) lv (adr base x.1 lv)).length, p.2 ++ flP (entP rec (atM sz xs top x.1) lv (adr base x.1 lv)))) (0, []) s' (show 15 < 57 by decide) rfl
    (by
      intro p hp
      simp only [ts0, List.mem_cons, List.not_mem_nil, or_false] at hp
      rcases hp with rfl | rfl | rfl | rfl
      all_goals exact ⟨rfl, by simp [ns0], by show _ < 57; decide⟩)
    (by
      intro b hb
      simp only [ns0, List.mem_cons, List.not_mem_nil, or_false] at hb
      rcases hb with rfl | rfl | rfl | rfl | rfl | rfl
      all_goals exact ⟨_, rfl⟩)
    ⟨rfl, rfl, rfl, rfl, rfl, rfl, rfl, trivial⟩ (by simp [ns0]) (by simp [ns0]) (fun _ => rfl) (fun _ => rfl) (fun _ => rfl) (fun _ _ => ⟨rfl, rfl, rfl, rfl, rfl, rfl, rfl, trivial⟩) (fun _ => ⟨rfl, rfl, rfl, rfl, rfl, rfl, rfl, trivial⟩)
    (by
      intro τ τ' a a' W o o' x h h'
      have := row_inj (c := 9) (b := 1000) h h' (by simp [ns0]) rfl rfl rfl rfl
      exact Prod.ext this.1 this.2)
    ?_ (fun p => p.1 ≤ 512 * 262144) ?_ ?_ ?_
  · intro W l hk o x
    repeat (first
      | (refine go_at rfl ?_; first
          | refine go_do (valid_mv (.inr rfl) rfl) rfl ?_
          | refine go_do (valid_alloc rfl rfl rfl rfl rfl) rfl ?_
          | (refine nxt_s 1 rfl ?_; refine go_do (valid_store_p rfl rfl rfl rfl rfl rfl (by first | kernel_rfl | rfl) rfl) (by first | kernel_rfl | rfl) ?_))
      | (refine hK _ ?_; clear hK K)
      | refine aw_text rfl ?_
      | refine aw_seq_k (fun K hK => ?_))
    exact sub_of _ _ ⟨rfl, rfl, rfl, rfl, rfl, rfl, trivial⟩ ⟨rfl, rfl, rfl, rfl, rfl, rfl, rfl, rfl, trivial⟩ rfl
  · intro pre hpre
    rw [fold_pg (fun x : Ie sz xs top => entP rec (atM sz xs top x.1) lv (adr base x.1 lv))]
    have := flat_bd (fun x : Ie sz xs top => entP rec (atM sz xs top x.1) lv (adr base x.1 lv)) 262144 (fun x => entP_bd hrec _ _ _) pre
    have h3 : pre.length * 262144 ≤ 512 * 262144 := Nat.mul_le_mul_right _ (by omega)
    show 0 + _ ≤ 512 * 262144
    omega
  · intro W' l hk o x ho
    have hx := x.2.1
    have hU := atM_U hu sz top (x.1 : Int)
    have hp := atM_ppn (xs := xs) sz top (x.1 : Int)
    have hA := adr_U base x.1 lv
    have hN := num_U hA
    have ho : o.1 ≤ 512 * 262144 := ho
    generalize hq : atM sz xs top (x.1 : Int) = q at hU hp ⊢
    have hmv : ∀ (S' : St) (n : Nat) (vs : List Value), EqT S' [] → EqB S' [(4, .live (.box [cu sz, .s xs.length 2 (fl xs)])), (6, .live (.box [ci lv])), (7, .live (.box [cu base])), (9, .live (.box [.o 55])), (55, .live (.row 59 8 n vs)), (1001, .live (.box [cu sz, .s xs.length 2 (fl xs)])), (1002, .live (.box [cu top]))] → Sub (cxR (Cx.of 57 W A GG hG) W' l τ0 ns0 hk) S' (St.of (ptT []) (bs0 sz xs top base lv (n, vs))) := fun S' n vs h1 h2 =>
      Sub.trans (sub_of [] _ h1 h2 rfl) (Sub.trans (sub_mv (b := 55) (b' := 1000) rfl rfl) (sub_of [] _ trivial ⟨rfl, rfl, rfl, rfl, rfl, rfl, rfl, trivial⟩ rfl))
    have hm3 : ∀ (S' : St) (n : Nat) (vs : List Value), EqT S' [] → EqB S' [(4, .live (.box [cu sz, .s xs.length 2 (fl xs)])), (6, .live (.box [ci lv])), (7, .live (.box [cu base])), (9, .live (.box [.o 33])), (33, .live (.row 59 8 n vs)), (1001, .live (.box [cu sz, .s xs.length 2 (fl xs)])), (1002, .live (.box [cu top]))] → Sub (cxR (Cx.of 57 W A GG hG) W' l τ0 ns0 hk) S' (St.of (ptT []) (bs0 sz xs top base lv (n, vs))) := fun S' n vs h1 h2 =>
      Sub.trans (sub_of [] _ h1 h2 rfl) (Sub.trans (sub_mv (b := 33) (b' := 1000) rfl rfl) (sub_of [] _ trivial ⟨rfl, rfl, rfl, rfl, rfl, rfl, rfl, trivial⟩ rfl))
    cases hbad : badP q lv with
    | true =>
      have hE : entP rec q lv (adr base x.1 lv) = [] := by unfold entP; rw [hbad]; rfl
      rw [hE]
      repeat (first
        | (refine go_at rfl ?_; first
            | refine go_do (valid_mv (.inl rfl) rfl) rfl ?_
            | (refine nxt_s 1 rfl ?_; refine go_do (valid_load_p tb rfl rfl rfl rfl rfl (by first | kernel_rfl | rfl)) (by first | kernel_rfl | rfl) ?_)
            | refine go_do (valid_mv (.inr rfl) rfl) rfl ?_
            | refine go_do (valid_ar rfl rfl rfl rfl (by constructor) (by first | exact wr_u64 (by omega) (by omega) | exact wr_i64 (by omega) (by omega) | rfl)) rfl ?_
            | refine go_do (valid_cv rfl rfl rfl rfl rfl (by first | exact wr_u64 (by omega) (by omega) | exact wr_i64 (by omega) (by omega) | rfl)) rfl ?_
            | refine go_do (valid_call rfl rfl rfl (size_ok lv h0 h2) rfl) rfl ?_
            | refine go_do (valid_call rfl rfl rfl (hbad ▸ pbad_ok q hU lv h0 h2) rfl) rfl ?_)
        | (refine hK _ ?_; clear hK K)
        | refine aw_text rfl ?_
        | refine aw_any (by kernel_rfl) (by kernel_rfl) rfl ?_
        | refine aw_cond1 rfl rfl ?_
        | refine aw_block ?_
        | refine aw_skip ?_
        | refine aw_seq_k (fun K hK => ?_))
      rw [show flP [] = [] from rfl, List.append_nil]
      exact sub_of _ _ trivial ⟨rfl, rfl, rfl, rfl, rfl, rfl, rfl, trivial⟩ rfl
    | false =>
      cases hleaf : leafP q with
      | true =>
        have hE : entP rec q lv (adr base x.1 lv) = [pgOf q (adr base x.1 lv) lv] := by unfold entP; rw [hbad, hleaf]; rfl
        rw [hE, flP_one]
        repeat (first
          | (refine go_at rfl ?_; first
              | refine go_do (valid_mv (.inl rfl) rfl) rfl ?_
              | (refine nxt_s 1 rfl ?_; refine go_do (valid_load_p tb rfl rfl rfl rfl rfl (by first | kernel_rfl | rfl)) (by first | kernel_rfl | rfl) ?_)
              | (refine nxt_s 1 rfl ?_; refine go_do (valid_fld_p tb rfl rfl rfl (by kernel_rfl)) rfl ?_)
              | refine go_do (valid_mv (.inr rfl) rfl) rfl ?_
              | refine go_do (valid_ar rfl rfl rfl rfl (by constructor) (by first | exact wr_u64 (by omega) (by omega) | exact wr_i64 (by omega) (by omega) | rfl)) rfl ?_
              | refine go_do (valid_cv rfl rfl rfl rfl rfl (by first | exact wr_u64 (by omega) (by omega) | exact wr_i64 (by omega) (by omega) | rfl)) rfl ?_
              | refine go_do (valid_build rfl rfl rfl rfl) rfl ?_
              | refine go_do (valid_bslice rfl rfl rfl rfl rfl rfl rfl rfl rfl rfl rfl) rfl ?_
              | refine go_do (valid_call rfl rfl rfl (size_ok lv h0 h2) rfl) rfl ?_
              | refine go_do (valid_call rfl rfl rfl (hbad ▸ pbad_ok q hU lv h0 h2) rfl) rfl ?_
              | refine go_do (valid_call rfl rfl rfl (hleaf ▸ pleaf_ok q) rfl) rfl ?_
              | refine go_do (valid_call rfl rfl rfl (vnum_ok _ hA) rfl) rfl ?_
              | refine go_do (valid_call rfl rfl rfl (of_ok _ hN) rfl) rfl ?_
              | refine go_do (valid_call rfl rfl rfl (pperm_ok q) rfl) rfl ?_)
          | (refine hK _ ?_; clear hK K)
          | refine aw_text rfl ?_
          | refine aw_any (by kernel_rfl) (by kernel_rfl) rfl ?_
          | refine aw_cond1 rfl rfl ?_
          | refine aw_cond0 rfl rfl ?_
          | refine aw_block ?_
          | refine aw_seq_k (fun K hK => ?_))
        refine go_at rfl ?_
        refine go_do (valid_app rfl rfl rfl rfl rfl rfl rfl rfl rfl rfl rfl rfl rfl (by omega)) (by kernel_rfl) ?_
        repeat (first
          | (refine go_at rfl ?_; first
              | (refine nxt_s 1 rfl ?_; refine go_do (valid_store_p rfl rfl rfl rfl rfl rfl (by first | kernel_rfl | rfl) rfl) (by first | kernel_rfl | rfl) ?_)))
        exact hmv _ _ _ trivial ⟨rfl, rfl, rfl, rfl, rfl, rfl, rfl, trivial⟩
      | false =>
        have hlv : 1 ≤ lv := by
          rcases (by omega : lv = 0 ∨ 1 ≤ lv) with rfl | h
          · rw [bad0_leaf hbad] at hleaf; cases hleaf
          · exact h
        have hE : entP rec q lv (adr base x.1 lv) = rec q.ppn (adr base x.1 lv) := by unfold entP; rw [hbad, hleaf]; rfl
        rw [hE]
        have hi := hIH hlv q.ppn (adr base x.1 lv) hp hA
        have hl := hrec q.ppn (adr base x.1 lv)
        have ha := flP_all (rec q.ppn (adr base x.1 lv))
        repeat (first
          | (refine go_at rfl ?_; first
              | refine go_do (valid_mv (.inl rfl) rfl) rfl ?_
              | (refine nxt_s 1 rfl ?_; refine go_do (valid_load_p tb rfl rfl rfl rfl rfl (by first | kernel_rfl | rfl)) (by first | kernel_rfl | rfl) ?_)
              | (refine nxt_s 1 rfl ?_; refine go_do (valid_fld_p tb rfl rfl rfl (by kernel_rfl)) rfl ?_)
              | refine go_do (valid_mv (.inr rfl) rfl) rfl ?_
              | refine go_do (valid_ar rfl rfl rfl rfl (by constructor) (by first | exact wr_u64 (by omega) (by omega) | exact wr_i64 (by omega) (by omega) | rfl)) rfl ?_
              | refine go_do (valid_cv rfl rfl rfl rfl rfl (by first | exact wr_u64 (by omega) (by omega) | exact wr_i64 (by omega) (by omega) | rfl)) rfl ?_
              | (refine nxt_s 1 rfl ?_; refine go_do (valid_store_p rfl rfl rfl rfl rfl rfl (by first | kernel_rfl | rfl) rfl) (by first | kernel_rfl | rfl) ?_)
              | refine go_do (valid_call rfl rfl rfl (size_ok lv h0 h2) rfl) rfl ?_
              | refine go_do (valid_call rfl rfl rfl (hbad ▸ pbad_ok q hU lv h0 h2) rfl) rfl ?_
              | refine go_do (valid_call rfl rfl rfl (hleaf ▸ pleaf_ok q) rfl) rfl ?_
              | refine go_do (valid_call rfl rfl rfl (hi) rfl) rfl ?_
              | refine go_do (valid_app rfl rfl rfl rfl rfl rfl rfl rfl rfl rfl rfl rfl ha (by omega)) rfl ?_)
          | (refine hK _ ?_; clear hK K)
          | refine aw_text rfl ?_
          | refine aw_any (by kernel_rfl) (by kernel_rfl) rfl ?_
          | refine aw_cond0 rfl rfl ?_
          | refine aw_block ?_
          | refine aw_seq_k (fun K hK => ?_))
        exact hm3 _ _ _ trivial ⟨rfl, rfl, rfl, rfl, rfl, rfl, rfl, trivial⟩
  · intro D ys W hD hys hI hK
    have hfold : ys.foldl (fun (p : Nat × List Value) (x : Ie sz xs top) => (p.1 + (entP rec (atM sz xs top x.1) lv (adr base x.1 lv)).length, p.2 ++ flP (entP rec (atM sz xs top x.1) lv (adr base x.1 lv)))) (0, []) = (L.length, flP L) := by
      rw [fold_pg (fun x : Ie sz xs top => entP rec (atM sz xs top x.1) lv (adr base x.1 lv))]
      have e : ys.flatMap (fun x : Ie sz xs top => entP rec (atM sz xs top x.1) lv (adr base x.1 lv)) = L := by
        rw [hL, ← flat_nz (sz := sz) (xs := xs) (f := top) _ (fun i hi => ?_), ← hys, List.flatMap_map]
        have : wordM sz xs (top * 4096 + (i : Int) * 8) = 0 := by unfold nzB at hi; simpa using hi
        unfold entP atM
        rw [this, bad_zero, if_pos rfl]
      rw [e, Nat.zero_add, List.nil_append]
    rw [hfold] at hI
    obtain ⟨τ1, s1⟩ := hI
    have s2 : SimT (Cx.of 57 _ A GG hG) (St.of (ptT ts0) (bs0 sz xs top base lv (L.length, flP L))) τ1 a W := ⟨s1.size, s1.nodef, s1.bel, s1.tm, s1.hp, s1.own, s1.sep, s1.one, fun p hp => by cases hp⟩
    refine after_loop (t := 8) rfl (by decide) rfl s2 (Nat.le_trans s.bel.size hD) hK (fun hk hD => ?_)
    repeat (first
      | (refine go_at rfl ?_; first
          | (refine nxt_s 1 rfl ?_; refine go_do (valid_load_p tb rfl rfl rfl rfl rfl (by first | kernel_rfl | rfl)) (by first | kernel_rfl | rfl) ?_)
          | refine go_do (valid_mv (.inr rfl) rfl) rfl ?_)
      | (refine hK _ ?_; clear hK K)
      | refine aw_text rfl ?_
      | refine aw_seq_k (fun K hK => ?_))
    exact aw_ret ⟨.inr rfl, _, rfl, rfl⟩
end Go.Proofs.YtgkodncknlankaaGreatDoor.LaC
/- The abstract walk: what lay.Map asks: must, perm.May, pte.Make, its closures. -/
namespace Go.Proofs.YtgkodncknlankaaGreatDoor.LaB
open Go.RowKit Go.Proofs.YtgkodncknlankaaGreatDoor.Bv Go.Proofs.YtgkodncknlankaaGreatDoor.VaSpec Go.Proofs.YtgkodncknlankaaGreatDoor.Base Go.Proofs.YtgkodncknlankaaGreatDoor.MemL Go.Proofs.YtgkodncknlankaaGreatDoor.RegR Go.Proofs.YtgkodncknlankaaGreatDoor.Ax Go.Proofs.YtgkodncknlankaaGreatDoor.MemC Go.Proofs.YtgkodncknlankaaGreatDoor.PutC Go.Proofs.YtgkodncknlankaaGreatDoor.MemC3 Go.Proofs.YtgkodncknlankaaGreatDoor.TzC Go.Proofs.YtgkodncknlankaaGreatDoor.OkS Go.Proofs.YtgkodncknlankaaGreatDoor.SpA Go.Proofs.YtgkodncknlankaaGreatDoor.SpB Go.Proofs.YtgkodncknlankaaGreatDoor.SpC Go.Proofs.YtgkodncknlankaaGreatDoor.LaA
open Go.Proofs.YtgkodncknlankaaGreatDoor.BitsC Go.Proofs.YtgkodncknlankaaGreatDoor.PteSpec
set_option linter.unusedVariables false
set_option linter.unusedSimpArgs false
set_option maxRecDepth 10000
set_option maxHeartbeats 1000000
theorem must_ok (b : Bool) (e : Int) : Ok 35 [ib b, ii e] (.m (ii (if b then 0 else e))) := by
  cases b with
  | true =>
    refine callOk_of 7 Tryz.func35 rfl rfl rfl rfl ?_ GG.to
    intro W A hG
    repeat (first
      | (refine go_at rfl ?_; first
          | refine go_do (valid_mv (.inl rfl) rfl) rfl ?_
          | refine go_do (valid_mv (.inr rfl) rfl) rfl ?_)
      | (refine hK _ ?_; clear hK K)
      | refine aw_text rfl ?_
      | exact aw_ret (show resA _ _ _ = some _ by kernel_rfl)
      | refine aw_cond1 rfl rfl ?_
      | refine aw_seq_k (fun K hK => ?_))
  | false =>
    refine callOk_of 7 Tryz.func35 rfl rfl rfl rfl ?_ GG.to
    intro W A hG
    repeat (first
      | (refine go_at rfl ?_; first
          | refine go_do (valid_mv (.inl rfl) rfl) rfl ?_
          | refine go_do (valid_mv (.inr rfl) rfl) rfl ?_)
      | (refine hK _ ?_; clear hK K)
      | refine aw_text rfl ?_
      | exact aw_ret (show resA _ _ _ = some _ by kernel_rfl)
      | refine aw_cond0 rfl rfl ?_
      | refine aw_skip ?_
      | refine aw_seq_k (fun K hK => ?_))
/-- permissions -/
structure Pm where
  r : Bool
  w : Bool
  x : Bool
  u : Bool
deriving DecidableEq
def Pm.ce (p : Pm) : List Ce := [cb p.r, cb p.w, cb p.x, cb p.u]
def pmMay (p : Pm) : Bool := (p.r || p.x) && (p.r || !p.w)
theorem pmay_ok (p : Pm) : Ok 40 [.ag p.ce] (.m (ib (pmMay p))) := by
  obtain ⟨r, w, x, u⟩ := p
  cases r <;> cases w <;> cases x
  all_goals
    refine callOk_of 18 Tryz.func40 rfl rfl rfl rfl ?_ GG.to
    intro W A hG
    repeat (first
      | (refine go_at rfl ?_; first
          | refine go_do (valid_skip rfl) rfl ?_
          | refine go_do (valid_mv (.inl rfl) rfl) rfl ?_
          | (refine nxt_s 1 rfl ?_; refine go_do (valid_load_p tb rfl rfl rfl rfl rfl (by first | kernel_rfl | rfl)) (by first | kernel_rfl | rfl) ?_)
          | (refine nxt_s 1 rfl ?_; refine go_do (valid_fld_p tb rfl rfl rfl (by kernel_rfl)) rfl ?_)
          | refine go_do (valid_mv (.inr rfl) rfl) rfl ?_
          | refine go_do (valid_pick rfl rfl rfl) rfl ?_
          | refine go_do (valid_box rfl rfl rfl rfl rfl rfl) rfl ?_
          | refine go_do (valid_not rfl rfl rfl) rfl ?_)
      | (refine hK _ ?_; clear hK K)
      | refine aw_text rfl ?_
      | exact aw_ret (show resA _ _ _ = some _ by kernel_rfl)
      | refine aw_seq_k (fun K hK => ?_))
def mkP (n : Int) (p : Pm) (g : Bool) : Pte := ⟨true, p.r, p.w, p.x, p.u, g, false, false, 0, n, 0⟩
theorem pmake_ok (n : Int) (p : Pm) (g : Bool) : Ok 43 [iu n, .ag p.ce, ib g] (.m (.ag (mkP n p g).ce)) := by
  refine callOk_of 18 Tryz.func43 rfl rfl rfl rfl ?_ GG.to
  intro W A hG
  repeat (first
    | (refine go_at rfl ?_; first
        | refine go_do (valid_mv (.inl rfl) rfl) rfl ?_
        | (refine nxt_s 1 rfl ?_; refine go_do (valid_load_p tb rfl rfl rfl rfl rfl (by first | kernel_rfl | rfl)) (by first | kernel_rfl | rfl) ?_)
        | (refine nxt_s 1 rfl ?_; refine go_do (valid_fld_p tb rfl rfl rfl (by kernel_rfl)) rfl ?_)
        | refine go_do (valid_box rfl rfl rfl rfl rfl rfl) rfl ?_
        | refine go_do (valid_alloc rfl rfl rfl rfl rfl) rfl ?_
        | (refine nxt_s 1 rfl ?_; refine go_do (valid_store_p rfl rfl rfl rfl rfl rfl (by first | kernel_rfl | rfl) rfl) (by first | kernel_rfl | rfl) ?_)
        | refine go_do (valid_build rfl rfl rfl rfl) rfl ?_)
    | (refine hK _ ?_; clear hK K)
    | refine aw_text rfl ?_
    | exact aw_ret (show resA _ _ _ = some _ by kernel_rfl)
    | refine aw_seq_k (fun K hK => ?_))
def spB (n : Nat) (cs : List Ce) : Ln := (n, cs, cs)
theorem map2_ok (pa sz : Int) (hp : U pa) (hz : U sz) : CallOkW Tryz.prog GG 36 [spB 2000 [cu pa], spB 2001 [cu sz]] [.c (.p 2000 0), .c (.p 2001 0)] (.m (ii (if evenI pa sz then 0 else 2))) := by
  refine callOkW_of 7 Tryz.func36 rfl rfl rfl rfl rfl ?_
  intro W A τ hG
  repeat (first
    | (refine go_at rfl ?_; first
        | (refine nxt_s 1 rfl ?_; refine go_do (valid_load_p tb rfl rfl rfl rfl rfl (by first | kernel_rfl | rfl)) (by first | kernel_rfl | rfl) ?_)
        | refine go_do (valid_mv (.inr rfl) rfl) rfl ?_
        | refine go_do (valid_call rfl rfl rfl (even_ok pa sz hp hz) rfl) rfl ?_
        | refine go_do (valid_call rfl rfl rfl (must_ok _ _) rfl) rfl ?_)
    | (refine hK _ ?_; clear hK K)
    | refine aw_text rfl ?_
    | refine aw_seq_k (fun K hK => ?_)
    | refine aw_ret (show resA _ _ _ = some _ ∧ EndB _ _ from ⟨by kernel_rfl, ?_⟩))
  exact ⟨⟨_, rfl, rfl⟩, ⟨_, rfl, rfl⟩, trivial⟩
/-- does a page lie among the data -/
def inD (pa d sz : Int) : Bool := decide (pa < d) && decide (sz ≤ d - pa)
theorem map3_ok (pa d sz : Int) (hp : U pa) (hd : U d) (hz : U sz) : CallOkW Tryz.prog GG 38 [spB 2000 [cu pa], spB 2001 [cu d], spB 2002 [cu sz]] [.c (.p 2000 0), .c (.p 2001 0), .c (.p 2002 0)] (.m (ii (if inD pa d sz then 0 else 3))) := by
  obtain ⟨p0, p1⟩ := hp
  obtain ⟨d0, d1⟩ := hd
  obtain ⟨z0, z1⟩ := hz
  by_cases h : pa < d
  · by_cases h2 : sz ≤ d - pa
    · rw [show inD pa d sz = true by unfold inD; rw [decide_eq_true h, decide_eq_true h2]; rfl]
      refine callOkW_of 15 Tryz.func38 rfl rfl rfl rfl rfl ?_
      intro W A τ hG
      repeat (first
        | (refine go_at rfl ?_; first
            | refine go_do (valid_mv (.inl rfl) rfl) rfl ?_
            | (refine nxt_s 1 rfl ?_; refine go_do (valid_load_p tb rfl rfl rfl rfl rfl (by first | kernel_rfl | rfl)) (by first | kernel_rfl | rfl) ?_)
            | refine go_do (valid_mv (.inr rfl) rfl) rfl ?_
            | refine go_do (valid_pick rfl rfl rfl) rfl ?_
            | refine go_do (valid_cmp rfl rfl rfl rfl (by first | exact .eql1 (by omega) | exact .eql0 (by omega) | exact .neq1 (by omega) | exact .neq0 (by omega) | exact .lss1 (by omega) | exact .lss0 (by omega) | exact .leq1 (by omega) | exact .leq0 (by omega) | exact .gtr1 (by omega) | exact .gtr0 (by omega) | exact .geq1 (by omega) | exact .geq0 (by omega) | constructor)) rfl ?_
            | refine go_do (valid_ar rfl rfl rfl rfl (by constructor) (by first | exact wr_u64 (by omega) (by omega) | exact wr_i64 (by omega) (by omega) | rfl)) rfl ?_
            | refine go_do (valid_call rfl rfl rfl (must_ok _ _) rfl) rfl ?_)
        | (refine hK _ ?_; clear hK K)
        | refine aw_text rfl ?_
        | refine aw_seq_k (fun K hK => ?_)
        | refine aw_ret (show resA _ _ _ = some _ ∧ EndB _ _ from ⟨by kernel_rfl, ?_⟩))
      exact ⟨⟨_, rfl, rfl⟩, ⟨_, rfl, rfl⟩, ⟨_, rfl, rfl⟩, trivial⟩
    · rw [show inD pa d sz = false by unfold inD; rw [decide_eq_true h, decide_eq_false h2]; rfl]
      refine callOkW_of 15 Tryz.func38 rfl rfl rfl rfl rfl ?_
      intro W A τ hG
      repeat (first
        | (refine go_at rfl ?_; first
            | refine go_do (valid_mv (.inl rfl) rfl) rfl ?_
            | (refine nxt_s 1 rfl ?_; refine go_do (valid_load_p tb rfl rfl rfl rfl rfl (by first | kernel_rfl | rfl)) (by first | kernel_rfl | rfl) ?_)
            | refine go_do (valid_mv (.inr rfl) rfl) rfl ?_
            | refine go_do (valid_pick rfl rfl rfl) rfl ?_
            | refine go_do (valid_cmp rfl rfl rfl rfl (by first | exact .eql1 (by omega) | exact .eql0 (by omega) | exact .neq1 (by omega) | exact .neq0 (by omega) | exact .lss1 (by omega) | exact .lss0 (by omega) | exact .leq1 (by omega) | exact .leq0 (by omega) | exact .gtr1 (by omega) | exact .gtr0 (by omega) | exact .geq1 (by omega) | exact .geq0 (by omega) | constructor)) rfl ?_
            | refine go_do (valid_ar rfl rfl rfl rfl (by constructor) (by first | exact wr_u64 (by omega) (by omega) | exact wr_i64 (by omega) (by omega) | rfl)) rfl ?_
            | refine go_do (valid_call rfl rfl rfl (must_ok _ _) rfl) rfl ?_)
        | (refine hK _ ?_; clear hK K)
        | refine aw_text rfl ?_
        | refine aw_seq_k (fun K hK => ?_)
        | refine aw_ret (show resA _ _ _ = some _ ∧ EndB _ _ from ⟨by kernel_rfl, ?_⟩))
      exact ⟨⟨_, rfl, rfl⟩, ⟨_, rfl, rfl⟩, ⟨_, rfl, rfl⟩, trivial⟩
  · rw [show inD pa d sz = false by unfold inD; rw [decide_eq_false h]; rfl]
    refine callOkW_of 15 Tryz.func38 rfl rfl rfl rfl rfl ?_
    intro W A τ hG
    repeat (first
      | (refine go_at rfl ?_; first
          | refine go_do (valid_skip rfl) rfl ?_
          | refine go_do (valid_mv (.inl rfl) rfl) rfl ?_
          | (refine nxt_s 1 rfl ?_; refine go_do (valid_load_p tb rfl rfl rfl rfl rfl (by first | kernel_rfl | rfl)) (by first | kernel_rfl | rfl) ?_)
          | refine go_do (valid_mv (.inr rfl) rfl) rfl ?_
          | refine go_do (valid_pick rfl rfl rfl) rfl ?_
          | refine go_do (valid_cmp rfl rfl rfl rfl (by first | exact .eql1 (by omega) | exact .eql0 (by omega) | exact .neq1 (by omega) | exact .neq0 (by omega) | exact .lss1 (by omega) | exact .lss0 (by omega) | exact .leq1 (by omega) | exact .leq0 (by omega) | exact .gtr1 (by omega) | exact .gtr0 (by omega) | exact .geq1 (by omega) | exact .geq0 (by omega) | constructor)) rfl ?_
          | refine go_do (valid_call rfl rfl rfl (must_ok _ _) rfl) rfl ?_)
      | (refine hK _ ?_; clear hK K)
      | refine aw_text rfl ?_
      | refine aw_seq_k (fun K hK => ?_)
      | refine aw_ret (show resA _ _ _ = some _ ∧ EndB _ _ from ⟨by kernel_rfl, ?_⟩))
    exact ⟨⟨_, rfl, rfl⟩, ⟨_, rfl, rfl⟩, ⟨_, rfl, rfl⟩, trivial⟩
theorem map4_ok (p : Pm) : CallOkW Tryz.prog GG 39 [spB 2000 p.ce] [.c (.p 2000 0)] (.m (ii (if pmMay p then 0 else 5))) := by
  refine callOkW_of 5 Tryz.func39 rfl rfl rfl rfl rfl ?_
  intro W A τ hG
  repeat (first
    | (refine go_at rfl ?_; first
        | (refine nxt_s 1 rfl ?_; refine go_do (valid_load_p tb rfl rfl rfl rfl rfl (by first | kernel_rfl | rfl)) (by first | kernel_rfl | rfl) ?_)
        | refine go_do (valid_mv (.inr rfl) rfl) rfl ?_
        | refine go_do (valid_call rfl rfl rfl (pmay_ok p) rfl) rfl ?_
        | refine go_do (valid_call rfl rfl rfl (must_ok _ _) rfl) rfl ?_)
    | (refine hK _ ?_; clear hK K)
    | refine aw_text rfl ?_
    | refine aw_seq_k (fun K hK => ?_)
    | refine aw_ret (show resA _ _ _ = some _ ∧ EndB _ _ from ⟨by kernel_rfl, ?_⟩))
  exact ⟨⟨_, rfl, rfl⟩, trivial⟩
/-- what holds of a kernel's memory -/
structure MOk (k : Kr) : Prop where
  s : Srt k.m
  u : Uw k.m
theorem map1_ok (k : Kr) (top lv addr want : Int) (hk : MOk k) (ht : 0 ≤ top ∧ top < 17592186044416) (ha : U addr) (h0 : 0 ≤ lv) (h2 : lv ≤ 2) (hw : 0 ≤ want) :
    CallOkW Tryz.prog GG 33 [spB 2000 k.ce, spB 2001 [cu top], spB 2002 [ci lv], spB 2003 [cu addr], spB 2004 [ci want]] [.c (.p 2000 0), .c (.p 2001 0), .c (.p 2002 0), .c (.p 2003 0), .c (.p 2004 0)]
      (.m (ii (if !(atM k.sz k.m (reachI k.sz k.m addr want lv top).1 (idx addr (reachI k.sz k.m addr want lv top).2)).v then 0 else 6))) := by
  refine callOkW_of 19 Tryz.func33 rfl rfl rfl rfl rfl ?_
  intro W A τ hG
  repeat (first
    | (refine go_at rfl ?_; first
        | (refine nxt_s 1 rfl ?_; refine go_do (valid_load_p tb rfl rfl rfl rfl rfl (by first | kernel_rfl | rfl)) (by first | kernel_rfl | rfl) ?_)
        | (refine nxt_s 1 rfl ?_; refine go_do (valid_fld_p tb rfl rfl rfl (by kernel_rfl)) rfl ?_)
        | refine go_do (valid_mv (.inr rfl) rfl) rfl ?_
        | refine go_do (valid_alloc rfl rfl rfl rfl rfl) rfl ?_
        | (refine nxt_s 1 rfl ?_; refine go_do (valid_store_p rfl rfl rfl rfl rfl rfl (by first | kernel_rfl | rfl) rfl) (by first | kernel_rfl | rfl) ?_)
        | refine go_do (valid_not rfl rfl rfl) rfl ?_
        | refine go_do (valid_call rfl rfl rfl (reach_ok k.sz k.m top lv addr want ht ha h0 h2 hw hk.s hk.u) rfl) rfl ?_
        | refine go_do (valid_call rfl rfl rfl (must_ok _ _) rfl) rfl ?_)
    | (refine hK _ ?_; clear hK K)
    | refine aw_text rfl ?_
    | refine aw_seq_k (fun K hK => ?_)
    | refine aw_ret (show resA _ _ _ = some _ ∧ EndB _ _ from ⟨by kernel_rfl, ?_⟩))
  exact ⟨⟨_, rfl, rfl⟩, ⟨_, rfl, rfl⟩, ⟨_, rfl, rfl⟩, ⟨_, rfl, rfl⟩, ⟨_, rfl, rfl⟩, trivial⟩
end Go.Proofs.YtgkodncknlankaaGreatDoor.LaB
/- The abstract walk: Create. -/
namespace Go.Proofs.YtgkodncknlankaaGreatDoor.SpG
open Go.RowKit Go.Proofs.YtgkodncknlankaaGreatDoor.Bv Go.Proofs.YtgkodncknlankaaGreatDoor.VaSpec Go.Proofs.YtgkodncknlankaaGreatDoor.Base Go.Proofs.YtgkodncknlankaaGreatDoor.MemL Go.Proofs.YtgkodncknlankaaGreatDoor.RegR Go.Proofs.YtgkodncknlankaaGreatDoor.Ax Go.Proofs.YtgkodncknlankaaGreatDoor.MemC Go.Proofs.YtgkodncknlankaaGreatDoor.PutC Go.Proofs.YtgkodncknlankaaGreatDoor.MemC3 Go.Proofs.YtgkodncknlankaaGreatDoor.TzC Go.Proofs.YtgkodncknlankaaGreatDoor.OkS Go.Proofs.YtgkodncknlankaaGreatDoor.SpA Go.Proofs.YtgkodncknlankaaGreatDoor.SpB Go.Proofs.YtgkodncknlankaaGreatDoor.SpC Go.Proofs.YtgkodncknlankaaGreatDoor.SpD Go.Proofs.YtgkodncknlankaaGreatDoor.IterC Go.Proofs.YtgkodncknlankaaGreatDoor.SpE Go.Proofs.YtgkodncknlankaaGreatDoor.SpF
open Go.Proofs.YtgkodncknlankaaGreatDoor.BitsC Go.Proofs.YtgkodncknlankaaGreatDoor.PteSpec
set_option linter.unusedVariables false
set_option linter.unusedSimpArgs false
set_option maxRecDepth 10000
set_option maxHeartbeats 800000
attribute [local irreducible] Go.Proofs.YtgkodncknlankaaGreatDoor.Ax.CallOk
theorem create_full (k : Kr) (h : 32 ≤ k.ss.length) (hb : k.ss.length ≤ 1000) : Ok 29 [.ag k.ce] (.tu [.ag k.ce, ii 0, ii 1]) := by
  refine callOk_of 78 Tryz.func29 rfl rfl rfl rfl ?_ GG.to
  intro W A hG
  repeat (first
    | (refine go_at rfl ?_; first
        | (refine nxt_s 1 rfl ?_; refine go_do (valid_load_p tb rfl rfl rfl rfl rfl (by first | kernel_rfl | rfl)) (by first | kernel_rfl | rfl) ?_)
        | (refine nxt_s 1 rfl ?_; refine go_do (valid_fld_p tb rfl rfl rfl (by kernel_rfl)) rfl ?_)
        | refine go_do (valid_mv (.inr rfl) rfl) rfl ?_
        | refine go_do (valid_cmp rfl rfl rfl rfl (by first | exact .eql1 (by omega) | exact .eql0 (by omega) | exact .neq1 (by omega) | exact .neq0 (by omega) | exact .lss1 (by omega) | exact .lss0 (by omega) | exact .leq1 (by omega) | exact .leq0 (by omega) | exact .gtr1 (by omega) | exact .gtr0 (by omega) | exact .geq1 (by omega) | exact .geq0 (by omega) | constructor)) rfl ?_
        | refine go_do (valid_box rfl rfl rfl rfl rfl rfl) rfl ?_
        | refine go_do (valid_alloc rfl rfl rfl rfl rfl) rfl ?_
        | (refine nxt_s 1 rfl ?_; refine go_do (valid_store_p rfl rfl rfl rfl rfl rfl (by first | kernel_rfl | rfl) rfl) (by first | kernel_rfl | rfl) ?_)
        | refine go_do (valid_len_s rfl rfl rfl rfl) rfl ?_)
    | (refine hK _ ?_; clear hK K)
    | refine aw_text rfl ?_
    | exact aw_ret (show resA _ _ _ = some _ by kernel_rfl)
    | refine aw_cond1 rfl rfl ?_
    | refine aw_seq_k (fun K hK => ?_))
theorem create_noasid (k : Kr) (h : k.ss.length < 32) (h0 : k.af = 0) : Ok 29 [.ag k.ce] (.tu [.ag k.ce, ii 0, ii 9]) := by
  refine callOk_of 78 Tryz.func29 rfl rfl rfl rfl ?_ GG.to
  intro W A hG
  have ht : Ok 74 [.ag [ci k.am, cu k.af, cu k.ao]] (.tu [.ag [ci k.am, cu k.af, cu k.ao], iu 0, ib false, ii 9]) := by rw [h0]; exact atake_no k.am k.ao
  repeat (first
    | (refine go_at rfl ?_; first
        | refine go_do (valid_mv (.inl rfl) rfl) rfl ?_
        | (refine nxt_s 1 rfl ?_; refine go_do (valid_load_p tb rfl rfl rfl rfl rfl (by first | kernel_rfl | rfl)) (by first | kernel_rfl | rfl) ?_)
        | (refine nxt_s 1 rfl ?_; refine go_do (valid_fld_p tb rfl rfl rfl (by kernel_rfl)) rfl ?_)
        | refine go_do (valid_mv (.inr rfl) rfl) rfl ?_
        | refine go_do (valid_extract rfl rfl rfl rfl) rfl ?_
        | refine go_do (valid_cmp rfl rfl rfl rfl (by first | exact .eql1 (by omega) | exact .eql0 (by omega) | exact .neq1 (by omega) | exact .neq0 (by omega) | exact .lss1 (by omega) | exact .lss0 (by omega) | exact .leq1 (by omega) | exact .leq0 (by omega) | exact .gtr1 (by omega) | exact .gtr0 (by omega) | exact .geq1 (by omega) | exact .geq0 (by omega) | constructor)) rfl ?_
        | refine go_do (valid_box rfl rfl rfl rfl rfl rfl) rfl ?_
        | refine go_do (valid_alloc rfl rfl rfl rfl rfl) rfl ?_
        | (refine nxt_s 1 rfl ?_; refine go_do (valid_store_p rfl rfl rfl rfl rfl rfl (by first | kernel_rfl | rfl) rfl) (by first | kernel_rfl | rfl) ?_)
        | refine go_do (valid_len_s rfl rfl rfl rfl) rfl ?_
        | refine go_do (valid_call rfl rfl rfl (ht) (by kernel_rfl)) rfl ?_)
    | (refine hK _ ?_; clear hK K)
    | refine aw_text rfl ?_
    | exact aw_ret (show resA _ _ _ = some _ by kernel_rfl)
    | refine aw_cond1 rfl rfl ?_
    | refine aw_cond0 rfl rfl ?_
    | refine aw_skip ?_
    | refine aw_seq_k (fun K hK => ?_))
def gP (n : Int) : Pte := ⟨true, false, false, false, false, true, false, false, 0, n, 0⟩
noncomputable def newM (k : Kr) : List (Int × Int) := withM k.sz (TableC.wipeM k.m (k.pb + tzI k.pf)) (k.pb + tzI k.pf) (idx kA 2) (gP k.sh)
theorem create_plain (k : Kr) (h : k.ss.length < 32) (haf : U k.af) (hao : U k.ao) (h0 : k.af ≠ 0) (hpf : U k.pf) (hp0 : k.pf ≠ 0) (hb : 0 ≤ k.pb ∧ k.pb ≤ 268435456) (hpm : 0 ≤ k.pm ∧ k.pm ≤ 64) (hm : Srt k.m) (hbig : (k.m.length + 1) * 32 ≤ 140737488355328)
    (hP : (gP k.sh).U) (hm1 : Srt (TableC.wipeM k.m (k.pb + tzI k.pf))) (hu1 : Uw (TableC.wipeM k.m (k.pb + tzI k.pf))) (hbig1 : ((TableC.wipeM k.m (k.pb + tzI k.pf)).length + 1) * 16 ≤ 140737488355328) (hown : (getI k.ao (tzI k.af) 1 == 1) = false) (hr : 0 ≤ k.pb + tzI k.pf ∧ k.pb + tzI k.pf < 1099511627776)
    : Ok 29 [.ag k.ce] (.tu [.ag (({ k with m := newM k, pf := setI k.pf (tzI k.pf) 1 0, af := takeA1 k.af, ao := takeA2 k.af k.ao } : Kr).raw k.tn k.ts (k.ss.length + 1) (flS k.ss ++ (⟨k.pb + tzI k.pf, tzI k.af + 1, true⟩ : Sp).vs) k.fs.length (flF k.fs)), ii k.ss.length, ii 0]) := by
  refine callOk_of 78 Tryz.func29 rfl rfl rfl rfl ?_ GG.to
  intro W A hG
  have ht := atake_ok k.am k.af k.ao haf hao h0
  rw [hown] at ht
  have hf := fresh_ok k.sz k.m k.pb k.pm k.pf hb hpm hpf hp0 hm hbig
  have hw := with_ok k.sz (TableC.wipeM k.m (k.pb + tzI k.pf)) (k.pb + tzI k.pf) 2 zP kA (gP k.sh) kA_U hP (by omega) (by omega) hr hm1 hu1 (by omega)
  have hcc : ∀ (W : World) (vb : Nat) (v1 v2 : Value), GG W → Bx W vb #[v1, v2] → Sl W v1 k.ss.length 3 (flS k.ss) → Sl W v2 1 3 (⟨k.pb + tzI k.pf, tzI k.af + 1, true⟩ : Sp).vs → Calls Tryz.prog 76 #[.slice (some ⟨vb, 0, none⟩) 2 2] W fun e w' => ∃ v', e = .returned v' ∧ w'.ownsRow W.heap.size 105 3 v' (k.ss.length + 1) (flS k.ss ++ (⟨k.pb + tzI k.pf, tzI k.af + 1, true⟩ : Sp).vs) ∧ Below W.heap.size W w' :=
    fun W vb v1 v2 _ h1 h2 h3 => Go.Proofs.YtgkodncknlankaaGreatDoor.ConcatSpace.concat_calls vb v1 v2 _ _ _ _ W h1 h2 h3 (flS_one _) (fun u hu => List.all_eq_true.1 (show (⟨k.pb + tzI k.pf, tzI k.af + 1, true⟩ : Sp).vs.all (·.oneCell') = true from rfl) u hu) (by omega)
  repeat (first
    | (refine go_at rfl ?_; first
        | refine go_do (valid_mv (.inl rfl) rfl) rfl ?_
        | (refine nxt_s 1 rfl ?_; refine go_do (valid_load_p tb rfl rfl rfl rfl rfl (by first | kernel_rfl | rfl)) (by first | kernel_rfl | rfl) ?_)
        | (refine nxt_s 1 rfl ?_; refine go_do (valid_fld_p tb rfl rfl rfl (by kernel_rfl)) rfl ?_)
        | refine go_do (valid_mv (.inr rfl) rfl) rfl ?_
        | refine go_do (valid_extract rfl rfl rfl rfl) rfl ?_
        | refine go_do (valid_cmp rfl rfl rfl rfl (by first | exact .eql1 (by omega) | exact .eql0 (by omega) | exact .neq1 (by omega) | exact .neq0 (by omega) | exact .lss1 (by omega) | exact .lss0 (by omega) | exact .leq1 (by omega) | exact .leq0 (by omega) | exact .gtr1 (by omega) | exact .gtr0 (by omega) | exact .geq1 (by omega) | exact .geq0 (by omega) | constructor)) rfl ?_
        | refine go_do (valid_box rfl rfl rfl rfl rfl rfl) rfl ?_
        | refine go_do (valid_alloc rfl rfl rfl rfl rfl) rfl ?_
        | (refine nxt_s 1 rfl ?_; refine go_do (valid_store_p rfl rfl rfl rfl rfl rfl (by first | kernel_rfl | rfl) rfl) (by first | kernel_rfl | rfl) ?_)
        | refine go_do (valid_len_s rfl rfl rfl rfl) rfl ?_
        | refine go_do (valid_build rfl rfl rfl rfl) rfl ?_
        | refine go_do (valid_bslice rfl rfl rfl rfl rfl rfl rfl rfl rfl rfl rfl) rfl ?_
        | refine go_do (valid_call rfl rfl rfl (ht) (by kernel_rfl)) rfl ?_
        | refine go_do (valid_call rfl rfl rfl (hf) (by kernel_rfl)) rfl ?_
        | refine go_do (valid_call rfl rfl rfl (kaddr_ok') (by kernel_rfl)) rfl ?_
        | refine go_do (valid_call rfl rfl rfl (hw) (by kernel_rfl)) rfl ?_
        | refine go_do (valid_bslice_ss rfl rfl rfl rfl rfl rfl (by kernel_rfl) rfl rfl rfl) rfl ?_
        | refine go_do (valid_concat rfl rfl rfl rfl rfl (by kernel_rfl) (by kernel_rfl) hcc) rfl ?_)
    | (refine hK _ ?_; clear hK K)
    | refine aw_text rfl ?_
    | refine aw_any (by kernel_rfl) (by kernel_rfl) rfl ?_
    | exact aw_ret (show resA _ _ _ = some _ by kernel_rfl)
    | refine aw_cond0 rfl rfl ?_
    | refine aw_skip ?_
    | refine aw_seq_k (fun K hK => ?_))
theorem callOk_l {P : Program} {G : World → Prop} {f : FuncId} {l l2 : List Cm} {r : AV} (e : l = l2) (h : CallOk P G f l2 r) : CallOk P G f l r := e ▸ h
def aFe (n : Int) : Fe := ⟨false, 0, true, n⟩
noncomputable def createK (k : Kr) : Kr := { k with m := newM k, pf := setI k.pf (tzI k.pf) 1 0, af := takeA1 k.af, ao := takeA2 k.af k.ao, ss := k.ss ++ [⟨k.pb + tzI k.pf, tzI k.af + 1, true⟩] }
theorem createK_ce (k : Kr) : (createK k).ce = (({ k with m := newM k, pf := setI k.pf (tzI k.pf) 1 0, af := takeA1 k.af, ao := takeA2 k.af k.ao } : Kr).raw k.tn k.ts (k.ss.length + 1) (flS k.ss ++ (⟨k.pb + tzI k.pf, tzI k.af + 1, true⟩ : Sp).vs) k.fs.length (flF k.fs)) := by
  simp [createK, Kr.ce, Kr.raw, flS]
end Go.Proofs.YtgkodncknlankaaGreatDoor.SpG
