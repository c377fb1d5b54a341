/- Texts of this claim, one behind the other: OkS, SpA. -/
import Derived.Test.YtkffmaeiplgjeaaDoorM6
import Derived.Test.YtkffmaeiplgjeaaDoorM9
import Derived.Test.YtkffmaeiplgjeaaDoorM10
/- Contracts that were proved by hand, as contracts of the abstract walk. -/
namespace Go.Proofs.YtkffmaeiplgjeaaDoor.OkS
open Go.RowKit Go.Proofs.YtkffmaeiplgjeaaDoor.Bv Go.Proofs.YtkffmaeiplgjeaaDoor.VaSpec Go.Proofs.YtkffmaeiplgjeaaDoor.Base Go.Proofs.YtkffmaeiplgjeaaDoor.MemL Go.Proofs.YtkffmaeiplgjeaaDoor.RegR Go.Proofs.YtkffmaeiplgjeaaDoor.Ax Go.Proofs.YtkffmaeiplgjeaaDoor.MemC Go.Proofs.YtkffmaeiplgjeaaDoor.PutC Go.Proofs.YtkffmaeiplgjeaaDoor.MemC3 Go.Proofs.YtkffmaeiplgjeaaDoor.TzC
open Go.Proofs.YtkffmaeiplgjeaaDoor.BitsC Go.Proofs.YtkffmaeiplgjeaaDoor.PteSpec
set_option linter.unusedVariables false
set_option linter.unusedSimpArgs false
/-- the types of the program, as tables -/
def tb : Tb := ⟨fun t => Ax.look false [(7, true), (8, true), (13, true), (14, true), (18, true), (19, true), (22, true), (23, true), (29, true), (30, true), (32, true), (33, true), (34, true), (35, true), (36, true), (37, true), (38, true), (39, true), (40, true), (41, true), (44, true), (45, true), (52, true), (53, true), (54, true), (55, true), (56, true), (57, true), (84, true), (85, true), (87, true), (88, true), (89, true), (90, true), (133, true), (134, true), (135, true), (136, true), (137, true), (138, true), (139, true), (149, true), (150, true), (156, true), (175, true), (176, true), (177, true), (178, true), (179, true), (188, true), (189, true)] t, fun t => Ax.look 1 [(7, 4), (8, 4), (13, 2), (14, 2), (22, 4), (23, 4), (29, 2), (30, 2), (34, 3), (35, 3), (36, 8), (37, 8), (38, 3), (39, 3), (40, 3), (41, 3), (44, 24), (45, 24), (52, 2), (53, 2), (54, 3), (55, 3), (56, 4), (57, 4), (84, 2), (85, 2), (87, 11), (88, 11), (89, 13), (90, 13), (133, 4), (134, 4), (135, 11), (136, 11), (137, 44), (138, 45), (139, 45), (149, 64), (150, 3), (156, 4), (175, 4), (176, 4), (177, 0), (178, 0), (179, 0), (188, 11), (189, 11)] t, fun t f => (Ax.look [] [(7, [0, 1, 2, 3]), (8, [0, 1, 2, 3]), (13, [0, 1]), (14, [0, 1]), (18, [0]), (19, [0]), (22, [0, 1, 2, 3]), (23, [0, 1, 2, 3]), (29, [0, 1]), (30, [0, 1]), (32, [0]), (33, [0]), (34, [0, 1, 2]), (35, [0, 1, 2]), (36, [0, 1, 4, 5, 6, 7]), (37, [0, 1, 4, 5, 6, 7]), (38, [0, 1, 2]), (39, [0, 1, 2]), (40, [0, 1, 2]), (41, [0, 1, 2]), (44, [0, 4, 6, 14, 17, 20, 21, 22, 23]), (45, [0, 4, 6, 14, 17, 20, 21, 22, 23]), (52, [0, 1]), (53, [0, 1]), (54, [0, 1, 2]), (55, [0, 1, 2]), (56, [0, 1, 2, 3]), (57, [0, 1, 2, 3]), (84, [0, 1]), (85, [0, 1]), (87, [0, 1, 2, 3, 4, 5, 6, 7, 8, 9, 10]), (88, [0, 1, 2, 3, 4, 5, 6, 7, 8, 9, 10]), (89, [0, 1, 2]), (90, [0, 1, 2]), (133, [0, 1, 2, 3]), (134, [0, 1, 2, 3]), (135, [0, 1, 2, 3, 4, 5, 6, 10]), (136, [0, 1, 2, 3, 4, 5, 6, 10]), (138, [0, 44]), (139, [0, 44]), (156, [0, 1, 2, 3]), (175, [0, 1, 2, 3]), (176, [0, 1, 2, 3]), (178, [0]), (179, [0]), (188, [0, 1, 2, 3, 4, 5, 6, 7, 8, 9, 10]), (189, [0, 1, 2, 3, 4, 5, 6, 7, 8, 9, 10])] t).getD f 0⟩
/-- the functions that the fence's table names -/
def askF (i : Nat) : Value := if i = 0 then .func (.func 118) #[] #[] else .func (.func 120) #[] #[]
def Asks (w : World) : Prop := ∃ b o c, w.cell? ⟨2, 0, none⟩ = some (.slice (some ⟨b, o, none⟩) 2 c) ∧ w.cell? ⟨b, o, none⟩ = some (askF 0) ∧ w.cell? ⟨b, o + 1, none⟩ = some (askF 1)
theorem asks_below {w w' : World} (h : Asks w) (hb : Below w.heap.size w w') : Asks w' := by
  obtain ⟨b, o, c, h1, h2, h3⟩ := h
  exact ⟨b, o, c, (hb.cell (p := ⟨2, 0, none⟩) (block_lt_of_cell h1)).trans h1, (hb.cell (p := ⟨b, o, none⟩) (block_lt_of_cell h2)).trans h2, (hb.cell (p := ⟨b, o + 1, none⟩) (block_lt_of_cell h3)).trans h3⟩
/-- what the program's text lays -/
structure GG (w : World) : Prop where
  s : G w
  t : TabT w
  k : Asks w
theorem tabT_below {w w' : World} (h : TabT w) (b : Below w.heap.size w w') : TabT w' := fun j hj => (b.cell (p := ⟨0, j, none⟩) (block_lt_of_cell (h j hj))).trans (h j hj)
theorem GG.to (w w' : World) (h : GG w) (b : Below w.heap.size w w') : GG w' := ⟨h.s.to b, tabT_below h.t b, asks_below h.k b⟩
abbrev Ok (k : FuncId) (args : List Cm) (r : AV) : Prop := CallOk Tryd.prog GG k args r
abbrev iu (n : Int) : Cm := .c (.v (.int .u64 n))
abbrev ii (n : Int) : Cm := .c (.v (.int .i64 n))
abbrev ib (b : Bool) : Cm := .c (.v (.bool b))
abbrev cu (n : Int) : Ce := .v (.int .u64 n)
abbrev ci (n : Int) : Ce := .v (.int .i64 n)
abbrev cb (b : Bool) : Ce := .v (.bool b)
def _root_.Go.Proofs.YtkffmaeiplgjeaaDoor.PteSpec.Pte.ce (p : Pte) : List Ce := [cb p.v, cb p.r, cb p.w, cb p.x, cb p.u, cb p.g, cb p.a, cb p.d, cu p.rsw, cu p.ppn, cu p.high]
theorem get_ok (a lo n : Int) (ha : U a) (l0 : 0 ≤ lo) (l1 : lo ≤ 64) (h0 : 0 ≤ n) (h : n ≤ 64) : Ok 44 [iu a, ii lo, ii n] (.m (iu (getI a lo n))) :=
  ok_plain #[.int .u64 a, .int .i64 lo, .int .i64 n] (.int .u64 (getI a lo n)) fun W _ => (get_calls a lo n W ha l0 l1 h0 h).mono fun _ _ ⟨e, q⟩ => ⟨e, q.below⟩
theorem set_ok (a lo n v : Int) (ha : U a) (hv : U v) (l0 : 0 ≤ lo) (l1 : lo ≤ 64) (h0 : 0 ≤ n) (h : n ≤ 64) : Ok 57 [iu a, ii lo, ii n, iu v] (.m (iu (setI a lo n v))) :=
  ok_plain #[.int .u64 a, .int .i64 lo, .int .i64 n, .int .u64 v] (.int .u64 (setI a lo n v)) fun W _ => (set_calls a lo n v W ha hv l0 l1 h0 h).mono fun _ _ ⟨e, q⟩ => ⟨e, q.below⟩
theorem even_ok (a b : Int) (ha : U a) (hb : U b) : Ok 62 [iu a, iu b] (.m (ib (evenI a b))) :=
  ok_plain #[.int .u64 a, .int .u64 b] (.bool (evenI a b)) fun W _ => (even_calls a b W ha hb).mono fun _ _ ⟨e, q⟩ => ⟨e, q.below⟩
theorem idx_ok (a l : Int) (ha : U a) (h0 : 0 ≤ l) (h2 : l ≤ 2) : Ok 40 [iu a, ii l] (.m (ii (idx a l))) :=
  ok_plain #[.int .u64 a, .int .i64 l] (.int .i64 (idx a l)) fun W _ => (VaC.idx_calls a l W ha.1 ha.2 h0 h2).mono fun _ _ ⟨e, q⟩ => ⟨e, q.below⟩
theorem of_ok (n : Int) (ha : U n) : Ok 53 [iu n] (.m (iu (ofv n))) :=
  ok_plain #[.int .u64 n] (.int .u64 (ofv n)) fun W _ => (VaC.of_calls n W ha.1 ha.2).mono fun _ _ ⟨e, q⟩ => ⟨e, q.below⟩
theorem vfits_ok (a l : Int) (ha : U a) (h0 : 0 ≤ l) (h2 : l ≤ 2) : Ok 39 [iu a, ii l] (.m (ib (fits a l))) :=
  ok_plain #[.int .u64 a, .int .i64 l] (.bool (fits a l)) fun W g => (VaC.fits_calls a l W ha.1 ha.2 h0 h2 g.s).mono fun _ _ ⟨e, q⟩ => ⟨e, q.below⟩
theorem vis_ok (a : Int) (ha : U a) : Ok 60 [iu a] (.m (ib (isv a))) :=
  ok_plain #[.int .u64 a] (.bool (isv a)) fun W g => (VaC.is_calls a W ha.1 ha.2).mono fun _ _ ⟨e, q⟩ => ⟨e, q.below⟩
theorem vbase_ok (a l : Int) (ha : U a) (h0 : 0 ≤ l) (h2 : l ≤ 2) : Ok 123 [iu a, ii l] (.m (iu (VaSpec.base a l))) :=
  ok_plain #[.int .u64 a, .int .i64 l] (.int .u64 (VaSpec.base a l)) fun W g => (VaC.base_calls a l W ha.1 ha.2 h0 h2 g.s).mono fun _ _ ⟨e, q⟩ => ⟨e, q.below⟩
theorem vnum_ok (a : Int) (ha : U a) : Ok 122 [iu a] (.m (iu (num a))) :=
  ok_plain #[.int .u64 a] (.int .u64 (num a)) fun W g => (VaC.num_calls a W ha.1 ha.2).mono fun _ _ ⟨e, q⟩ => ⟨e, q.below⟩
theorem place_ok (f i : Int) (hf : 0 ≤ f ∧ f < 1099511627776) (hi : 0 ≤ i ∧ i < 512) : Ok 52 [iu f, ii i] (.m (iu (f * 4096 + i * 8))) :=
  ok_plain #[.int .u64 f, .int .i64 i] (.int .u64 (f * 4096 + i * 8)) fun W _ => (TableC.place_calls f i W hf hi).mono fun _ _ ⟨e, q⟩ => ⟨e, q.below⟩
theorem pput_ok (p : Pte) (h : p.U) : Ok 50 [.ag p.ce] (.tu [iu (PteC.putE p), ii (PteC.putErr p)]) :=
  ok_plain #[.agg #[.bool p.v, .bool p.r, .bool p.w, .bool p.x, .bool p.u, .bool p.g, .bool p.a, .bool p.d, .int .u64 p.rsw, .int .u64 p.ppn, .int .u64 p.high]] (.tuple #[.int .u64 (PteC.putE p), .int .i64 (PteC.putErr p)])
    fun W _ => PteC.put_calls p.v p.r p.w p.x p.u p.g p.a p.d p.rsw p.ppn p.high W h.1 h.2.1 h.2.2
theorem plink_ok (p : Pte) : Ok 77 [.ag p.ce] (.m (ib (linkP p))) :=
  ok_plain #[.agg #[.bool p.v, .bool p.r, .bool p.w, .bool p.x, .bool p.u, .bool p.g, .bool p.a, .bool p.d, .int .u64 p.rsw, .int .u64 p.ppn, .int .u64 p.high]] (.bool (linkP p))
    fun W _ => PteC.link_calls p.v p.r p.w p.x p.u p.g p.a p.d p.rsw p.ppn p.high W
theorem pbad_ok (p : Pte) (h : p.U) (l : Int) (l0 : 0 ≤ l) (l2 : l ≤ 2) : Ok 78 [.ag p.ce, ii l] (.m (ib (badP p l))) :=
  ok_plain #[.agg #[.bool p.v, .bool p.r, .bool p.w, .bool p.x, .bool p.u, .bool p.g, .bool p.a, .bool p.d, .int .u64 p.rsw, .int .u64 p.ppn, .int .u64 p.high], .int .i64 l] (.bool (badP p l))
    fun W g => PteC.bad_calls p.v p.r p.w p.x p.u p.g p.a p.d p.rsw p.ppn p.high l W h.1 h.2.1 h.2.2 l0 l2 g.s
theorem pget_ok (x : Int) (hx : U x) : Ok 76 [iu x] (.m (.ag (pteOf x).ce)) :=
  ok_plain #[.int .u64 x] (.agg #[.bool (pteOf x).v, .bool (pteOf x).r, .bool (pteOf x).w, .bool (pteOf x).x, .bool (pteOf x).u, .bool (pteOf x).g, .bool (pteOf x).a, .bool (pteOf x).d, .int .u64 (pteOf x).rsw, .int .u64 (pteOf x).ppn, .int .u64 (pteOf x).high])
    fun W g => PteC.pget_calls x W hx
theorem memnew_ok (sz : Int) (hz : U sz) : Ok 20 [iu sz] (avV (MemNewC.newV sz)) :=
  ok_plain #[.int .u64 sz] (MemNewC.newV sz) fun W g => MemNewC.new_calls sz W hz
theorem poolnew_ok (b m : Int) (hb : U b) (hm : 0 ≤ m ∧ m ≤ 64) : Ok 21 [iu b, ii m] (avV (PoolC2.newV b m)) :=
  ok_plain #[.int .u64 b, .int .i64 m] (PoolC2.newV b m) fun W g => PoolC2.new_calls b m W hb hm
theorem asidnew_ok (m : Int) : Ok 22 [ii m] (avV (AsidC2.newV m)) :=
  ok_plain #[.int .i64 m] (AsidC2.newV m) fun W g => AsidC2.new_calls m W
theorem asidgive_ok (m f o n : Int) (hm : 0 ≤ m ∧ m ≤ 64) (hf : U f) (ho : U o) (hn : U n) : Ok 33 [.ag [ci m, cu f, cu o], iu n] (avV (AsidC2.giveV m f o n)) :=
  ok_plain #[.agg #[.int .i64 m, .int .u64 f, .int .u64 o], .int .u64 n] (AsidC2.giveV m f o n) fun W g => AsidC2.give_calls m f o n W hm hf ho hn
theorem tz_ok (x : Int) (hx : U x) : Ok 58 [iu x] (.m (ii (tzI x))) :=
  ok_plain #[.int .u64 x] (.int .i64 (tzI x)) fun W g => (tz_calls x W hx (fun _ => g.t)).mono fun _ _ ⟨e, q⟩ => ⟨e, q.below⟩
theorem arg_mem {E : En} {sz : Int} {n k : Nat} {xs : List Value} {v : Value} (h : Cm.R E (.ag [cu sz, .s n k xs]) v) : ∃ u, v = .agg #[.int .u64 sz, u] ∧ Ce.R E (.s n k xs) u := by
  obtain ⟨vs, rfl, h⟩ := h
  obtain ⟨l⟩ := vs
  match l, h with
  | [a, b], h => exact ⟨b, by rw [show a = .int .u64 sz from h.1], h.2.1⟩
  | [], h => exact h.elim
  | [_], h => exact h.2.elim
  | _ :: _ :: _ :: _, h => exact h.2.2.elim
theorem args1 {E : En} {m : Cm} {vs : Array Value} (h : All2 (Cm.R E) [m] vs.toList) : ∃ v, vs = #[v] ∧ m.R E v := by
  obtain ⟨l⟩ := vs
  match l, h with
  | [a], h => exact ⟨a, rfl, h.1⟩
  | [], h => exact h.elim
  | _ :: _ :: _, h => exact h.2.elim
theorem args2 {E : En} {m n : Cm} {vs : Array Value} (h : All2 (Cm.R E) [m, n] vs.toList) : ∃ v u, vs = #[v, u] ∧ m.R E v ∧ n.R E u := by
  obtain ⟨l⟩ := vs
  match l, h with
  | [a, b], h => exact ⟨a, b, rfl, h.1, h.2.1⟩
  | [], h => exact h.elim
  | [_], h => exact h.2.elim
  | _ :: _ :: _ :: _, h => exact h.2.2.elim
theorem args3 {E : En} {m n o : Cm} {vs : Array Value} (h : All2 (Cm.R E) [m, n, o] vs.toList) : ∃ v u x, vs = #[v, u, x] ∧ m.R E v ∧ n.R E u ∧ o.R E x := by
  obtain ⟨l⟩ := vs
  match l, h with
  | [a, b, c], h => exact ⟨a, b, c, rfl, h.1, h.2.1, h.2.2.1⟩
  | [], h => exact h.elim
  | [_], h => exact h.2.elim
  | [_, _], h => exact h.2.2.elim
  | _ :: _ :: _ :: _ :: _, h => exact h.2.2.2.elim
theorem args4 {E : En} {m n o p : Cm} {vs : Array Value} (h : All2 (Cm.R E) [m, n, o, p] vs.toList) : ∃ v u x y, vs = #[v, u, x, y] ∧ m.R E v ∧ n.R E u ∧ o.R E x ∧ p.R E y := by
  obtain ⟨l⟩ := vs
  match l, h with
  | [a, b, c, d], h => exact ⟨a, b, c, d, rfl, h.1, h.2.1, h.2.2.1, h.2.2.2.1⟩
  | [], h => exact h.elim
  | [_], h => exact h.2.elim
  | [_, _], h => exact h.2.2.elim
  | [_, _, _], h => exact h.2.2.2.elim
  | _ :: _ :: _ :: _ :: _ :: _, h => exact h.2.2.2.2.elim
abbrev memA (sz : Int) (xs : List (Int × Int)) : Cm := .ag [cu sz, .s xs.length 2 (fl xs)]
theorem word_ok (sz : Int) (xs : List (Int × Int)) (a : Int) (ha : U a) (hs : Srt xs) : Ok 72 [memA sz xs, iu a] (.m (iu (wordM sz xs a))) :=
  callOk_calls rfl fun A W vs hG hR => by
    obtain ⟨v1, v2, rfl, h1, h2⟩ := args2 hR
    obtain ⟨u, rfl, hu⟩ := arg_mem h1
    obtain rfl : v2 = .int .u64 a := h2
    exact (word_calls sz u xs a W ha hs hu.1).mono fun e w' ⟨he, hb⟩ => ⟨_, he, hb, rfl⟩
theorem all2_two {E : En} {sz : Int} {c : Ce} {u : Value} (h : c.R E u) : Cm.R E (.ag [cu sz, c]) (.agg #[.int .u64 sz, u]) := ⟨_, rfl, rfl, h, trivial⟩
theorem store_ok (sz : Int) (xs : List (Int × Int)) (a n x : Int) (ha : U a) (hx : U x) (hs : Srt xs) (hu : Uw xs) (hbig : (xs.length + 1) * 16 ≤ 140737488355328) (hw : wrongI sz a n = 0) : Ok 51 [memA sz xs, iu a, ii n, iu x] (.tu [memA sz (storeM sz xs a n x), ii 0]) :=
  callOk_calls rfl fun A W vs hG hR => by
    obtain ⟨v1, v2, v3, v4, rfl, h1, h2, h3, h4⟩ := args4 hR
    obtain ⟨u, rfl, hu'⟩ := arg_mem h1
    obtain rfl : v2 = .int .u64 a := h2
    obtain rfl : v3 = .int .i64 n := h3
    obtain rfl : v4 = .int .u64 x := h4
    refine (store_calls sz u xs a n x W ha hx hs hu hbig hu'.1).mono ?_
    rintro e w' ⟨v', rfl, h5, hb⟩
    rw [if_pos hw] at h5
    rw [hw]
    exact ⟨_, rfl, hb, _, rfl, all2_two (own_s h5), rfl, trivial⟩
theorem store_no (sz : Int) (xs : List (Int × Int)) (a n x : Int) (ha : U a) (hx : U x) (hs : Srt xs) (hu : Uw xs) (hbig : (xs.length + 1) * 16 ≤ 140737488355328) (hw : wrongI sz a n ≠ 0) : Ok 51 [memA sz xs, iu a, ii n, iu x] (.tu [memA sz xs, ii (wrongI sz a n)]) :=
  callOk_calls rfl fun A W vs hG hR => by
    obtain ⟨v1, v2, v3, v4, rfl, h1, h2, h3, h4⟩ := args4 hR
    obtain ⟨u, rfl, hu'⟩ := arg_mem h1
    obtain rfl : v2 = .int .u64 a := h2
    obtain rfl : v3 = .int .i64 n := h3
    obtain rfl : v4 = .int .u64 x := h4
    refine (store_calls sz u xs a n x W ha hx hs hu hbig hu'.1).mono ?_
    rintro e w' ⟨v', rfl, h5, hb⟩
    rw [if_neg hw] at h5
    subst h5
    exact ⟨_, rfl, hb, _, rfl, all2_two (old_s hu' hb), rfl, trivial⟩
theorem back_ok (sz : Int) (xs : List (Int × Int)) (base many free f : Int) (hb : U base) (hm : 0 ≤ many ∧ many ≤ 64) (hr : U free) (hf : 0 ≤ f ∧ f < 1099511627776) (hs : Srt xs) (hbig : (xs.length + 1) * 32 ≤ 140737488355328) :
    Ok 54 [memA sz xs, .ag [cu base, ci many, cu free], iu f] (.tu [memA sz (TableC.wipeM xs f), .ag [cu base, ci many, cu (TableC2.giveF base many free f)]]) :=
  callOk_calls rfl fun A W vs hG hR => by
    obtain ⟨v1, v2, v3, rfl, h1, h2, h3⟩ := args3 hR
    obtain ⟨u, rfl, hu'⟩ := arg_mem h1
    obtain rfl := plain_ag (xs := [.int .u64 base, .int .i64 many, .int .u64 free]) h2
    obtain rfl : v3 = .int .u64 f := h3
    refine (TableC2.back_calls sz u xs base many free f W hb hm hr hf hs hbig hu'.1).mono ?_
    rintro e w' ⟨v', rfl, h5, hb'⟩
    exact ⟨_, rfl, hb', _, rfl, all2_two (own_s h5), ⟨_, rfl, rfl, rfl, rfl, trivial⟩, trivial⟩
theorem fresh_ok (sz : Int) (xs : List (Int × Int)) (base many free : Int) (hb : 0 ≤ base ∧ base ≤ 268435456) (hm : 0 ≤ many ∧ many ≤ 64) (hr : U free) (hfr : free ≠ 0) (hs : Srt xs) (hbig : (xs.length + 1) * 32 ≤ 140737488355328) :
    Ok 24 [memA sz xs, .ag [cu base, ci many, cu free]] (.tu [memA sz (TableC.wipeM xs (base + tzI free)), .ag [cu base, ci many, cu (setI free (tzI free) 1 0)], iu (base + tzI free), ii 0]) :=
  callOk_calls rfl fun A W vs hG hR => by
    obtain ⟨v1, v2, rfl, h1, h2⟩ := args2 hR
    obtain ⟨u, rfl, hu'⟩ := arg_mem h1
    obtain rfl := plain_ag (xs := [.int .u64 base, .int .i64 many, .int .u64 free]) h2
    refine (TableC3.fresh_calls sz u xs base many free W hb hm hr hfr hG.t hs hbig hu'.1).mono ?_
    rintro e w' ⟨v', rfl, h5, hb'⟩
    exact ⟨_, rfl, hb', _, rfl, all2_two (own_s h5), ⟨_, rfl, rfl, rfl, rfl, trivial⟩, rfl, rfl, trivial⟩
theorem tlbnew_ok (n : Nat) (hn : n ≤ 16) (z : Value) (hz : (Tryd.prog.info? 139).bind (·.zero) = some z) : Ok 23 [ii n] (.tu [.ag [.s n 45 (madeCells z.cells (n * 45)).toList], ii 0]) :=
  callOk_calls rfl fun A W vs hG hR => by
    obtain ⟨v1, rfl, h1⟩ := args1 hR
    obtain rfl : v1 = .int .i64 n := h1
    refine (TlbNewC.new_calls n W hn z hz).mono ?_
    rintro e w' ⟨a, c, rfl, h5, hb'⟩
    exact ⟨_, rfl, hb', _, rfl, ⟨_, rfl, own_s h5, trivial⟩, rfl, trivial⟩
theorem clonesp_own (n : Nat) (xs : List Value) (h1 : ∀ u ∈ xs, u.oneCell' = true) (hbig : n * 24 ≤ 140737488355328) : CallOwn Tryd.prog GG 34 [.c (.s n 3 xs)] 55 3 n xs :=
  ⟨rfl, fun A W vs hG hR => by
    obtain ⟨v1, rfl, hv⟩ := args1 hR
    refine (CloneSpace.clone_calls v1 n xs W h1 hbig hv.1).mono ?_
    rintro e w' ⟨v', rfl, h5, hb'⟩
    exact ⟨_, rfl, hb', h5⟩⟩
theorem clonesp_ok (n : Nat) (xs : List Value) (h1 : ∀ u ∈ xs, u.oneCell' = true) (hbig : n * 24 ≤ 140737488355328) : Ok 34 [.c (.s n 3 xs)] (.m (.c (.s n 3 xs))) :=
  callOk_calls rfl fun A W vs hG hR => by
    obtain ⟨v1, rfl, hv⟩ := args1 hR
    refine (CloneSpace.clone_calls v1 n xs W h1 hbig hv.1).mono ?_
    rintro e w' ⟨v', rfl, h5, hb'⟩
    exact ⟨_, rfl, hb', own_s h5⟩
end Go.Proofs.YtkffmaeiplgjeaaDoor.OkS
/- The abstract walk: the small functions of the layers table, asid, space. -/
namespace Go.Proofs.YtkffmaeiplgjeaaDoor.SpA
open Go.RowKit Go.Proofs.YtkffmaeiplgjeaaDoor.Bv Go.Proofs.YtkffmaeiplgjeaaDoor.VaSpec Go.Proofs.YtkffmaeiplgjeaaDoor.Base Go.Proofs.YtkffmaeiplgjeaaDoor.MemL Go.Proofs.YtkffmaeiplgjeaaDoor.RegR Go.Proofs.YtkffmaeiplgjeaaDoor.Ax Go.Proofs.YtkffmaeiplgjeaaDoor.MemC Go.Proofs.YtkffmaeiplgjeaaDoor.PutC Go.Proofs.YtkffmaeiplgjeaaDoor.MemC3 Go.Proofs.YtkffmaeiplgjeaaDoor.TzC Go.Proofs.YtkffmaeiplgjeaaDoor.OkS
open Go.Proofs.YtkffmaeiplgjeaaDoor.BitsC Go.Proofs.YtkffmaeiplgjeaaDoor.PteSpec
set_option linter.unusedVariables false
set_option linter.unusedSimpArgs false
set_option maxRecDepth 10000
theorem fasid_ok (n : Int) : Ok 37 [iu n] (.m (.ag [cb false, cu 0, cb true, cu n])) := by
  refine callOk_of 5 Tryd.func37 rfl rfl rfl rfl ?_ GG.to
  intro W A hG
  repeat (first
    | (refine go_at rfl ?_; first
        | refine go_do (valid_skip rfl) rfl ?_
        | refine go_do (valid_mv (.inl rfl) rfl) rfl ?_
        | (refine nxt_s 1 rfl ?_; refine go_do (valid_load_p tb rfl rfl rfl rfl rfl (by first | kernel_rfl | rfl)) (by first | kernel_rfl | rfl) ?_)
        | (refine nxt_s 1 rfl ?_; refine go_do (valid_fld_p tb rfl rfl rfl (by kernel_rfl)) rfl ?_)
        | refine go_do (valid_mv (.inr rfl) rfl) rfl ?_
        | refine go_do (valid_pick rfl rfl rfl) rfl ?_
        | refine go_do (valid_extract rfl rfl rfl rfl) rfl ?_
        | refine go_do (valid_field tb rfl rfl rfl rfl rfl rfl) rfl ?_
        | refine go_do (valid_cmp rfl rfl rfl rfl (by first | exact .eql1 (by omega) | exact .eql0 (by omega) | exact .neq1 (by omega) | exact .neq0 (by omega) | exact .lss1 (by omega) | exact .lss0 (by omega) | exact .leq1 (by omega) | exact .leq0 (by omega) | exact .gtr1 (by omega) | exact .gtr0 (by omega) | exact .geq1 (by omega) | exact .geq0 (by omega) | constructor)) rfl ?_
        | refine go_do (valid_ar rfl rfl rfl rfl (by constructor) (by first | exact wr_u64 (by omega) (by omega) | exact wr_i64 (by omega) (by omega) | rfl)) rfl ?_
        | refine go_do (valid_cv rfl rfl rfl rfl rfl (by first | exact wr_u64 (by omega) (by omega) | exact wr_i64 (by omega) (by omega) | rfl)) rfl ?_
        | refine go_do (valid_quo rfl rfl rfl rfl (by omega) (by omega) (by first | exact wr_u64 (by omega) (by omega) | exact wr_i64 (by omega) (by omega))) rfl ?_
        | refine go_do (valid_rem rfl rfl rfl rfl (by omega) (by omega)) rfl ?_
        | refine go_do (valid_box rfl rfl rfl rfl rfl rfl) rfl ?_
        | refine go_do (valid_alloc rfl rfl rfl rfl rfl) rfl ?_
        | (refine nxt_s 1 rfl ?_; refine go_do (valid_store_p rfl rfl rfl rfl rfl rfl (by first | kernel_rfl | rfl) rfl) (by first | kernel_rfl | rfl) ?_)
        | refine go_do (valid_len_s rfl rfl rfl rfl) rfl ?_
        | (refine nxt_s 3 rfl ?_; refine go_do (valid_load_q tb rfl rfl rfl rfl (by first | kernel_rfl | rfl)) rfl ?_)
        | (refine nxt_s 3 rfl ?_; refine go_do (valid_fld_q tb rfl rfl rfl rfl) rfl ?_)
        | refine go_do (valid_not rfl rfl rfl) rfl ?_
        | refine go_do (valid_build rfl rfl rfl rfl) rfl ?_
        | refine go_do (valid_nil rfl rfl rfl rfl) rfl ?_
        | (refine nxt_s 4 rfl ?_; refine go_do (valid_idx_s rfl rfl rfl rfl rfl rfl (by omega) (by omega) _ (by assumption)) rfl ?_)
        | (refine nxt_s 5 rfl ?_; refine go_do (valid_store_rp rfl rfl rfl rfl rfl rfl rfl rfl rfl (by first | omega | (simp; omega)) rfl) rfl ?_)
        | (refine nxt_s 5 rfl ?_; refine go_do (valid_load_rp tb rfl rfl rfl rfl rfl rfl) rfl ?_)
        | (refine nxt_s 2 rfl ?_; refine go_do (valid_idx_o rfl rfl rfl rfl rfl rfl rfl (by omega) (by omega)) rfl ?_)
        | (refine nxt_s 1 rfl ?_; refine go_do (valid_idx_p rfl rfl rfl rfl rfl rfl (by omega) (by omega)) rfl ?_)
        | refine go_do (valid_index tb rfl rfl rfl rfl rfl rfl (by omega) (by omega) rfl) rfl ?_
        | refine go_do (valid_len_o rfl rfl rfl rfl rfl) rfl ?_
        | refine go_do (valid_len_v rfl rfl rfl rfl) rfl ?_
        | (refine nxt_s 5 rfl ?_; refine go_do (valid_fld_rp tb rfl rfl rfl rfl) rfl ?_)
        | refine go_do (valid_bslice rfl rfl rfl rfl rfl rfl rfl rfl rfl rfl rfl) rfl ?_
        | refine go_do (valid_bslice0 rfl rfl rfl rfl rfl rfl rfl) rfl ?_
        | refine go_do (valid_eqb rfl rfl rfl rfl rfl) rfl ?_
        | refine go_do (valid_neb rfl rfl rfl rfl rfl) rfl ?_)
    | (refine hK _ ?_; clear hK K)
    | (rename_i K1 hK1; refine hK1 _ ?_; clear hK hK1; clear K)
    | (rename_i K1 hK1; refine hK1 _ ?_; clear hK1)
    | refine aw_text rfl ?_
    | refine aw_any (by kernel_rfl) (by kernel_rfl) rfl ?_
    | exact aw_ret (show resA _ _ _ = some _ by kernel_rfl)
    | refine aw_cond1 rfl rfl ?_
    | refine aw_cond0 rfl rfl ?_
    | refine aw_block ?_
    | refine aw_exit ?_
    | refine aw_skip ?_
    | refine aw_seq_k (fun K hK => ?_))
def withinB (n a b : Int) : Bool := decide (a ≤ n) && decide (n ≤ b)
theorem within_ok (n a b : Int) : Ok 38 [ii n, ii a, ii b] (.m (ib (withinB n a b))) := by
  by_cases h1 : a ≤ n
  · by_cases h2 : n ≤ b
    · rw [show withinB n a b = true by simp [withinB, h1, h2]]
      refine callOk_of 15 Tryd.func38 rfl rfl rfl rfl ?_ GG.to
      intro W A hG
      repeat (first
        | (refine go_at rfl ?_; first
            | refine go_do (valid_skip rfl) rfl ?_
            | refine go_do (valid_mv (.inl rfl) rfl) rfl ?_
            | (refine nxt_s 1 rfl ?_; refine go_do (valid_load_p tb rfl rfl rfl rfl rfl (by first | kernel_rfl | rfl)) (by first | kernel_rfl | rfl) ?_)
            | (refine nxt_s 1 rfl ?_; refine go_do (valid_fld_p tb rfl rfl rfl (by kernel_rfl)) rfl ?_)
            | refine go_do (valid_mv (.inr rfl) rfl) rfl ?_
            | refine go_do (valid_pick rfl rfl rfl) rfl ?_
            | refine go_do (valid_extract rfl rfl rfl rfl) rfl ?_
            | refine go_do (valid_field tb rfl rfl rfl rfl rfl rfl) rfl ?_
            | refine go_do (valid_cmp rfl rfl rfl rfl (by first | exact .eql1 (by omega) | exact .eql0 (by omega) | exact .neq1 (by omega) | exact .neq0 (by omega) | exact .lss1 (by omega) | exact .lss0 (by omega) | exact .leq1 (by omega) | exact .leq0 (by omega) | exact .gtr1 (by omega) | exact .gtr0 (by omega) | exact .geq1 (by omega) | exact .geq0 (by omega) | constructor)) rfl ?_
            | refine go_do (valid_ar rfl rfl rfl rfl (by constructor) (by first | exact wr_u64 (by omega) (by omega) | exact wr_i64 (by omega) (by omega) | rfl)) rfl ?_
            | refine go_do (valid_cv rfl rfl rfl rfl rfl (by first | exact wr_u64 (by omega) (by omega) | exact wr_i64 (by omega) (by omega) | rfl)) rfl ?_
            | refine go_do (valid_quo rfl rfl rfl rfl (by omega) (by omega) (by first | exact wr_u64 (by omega) (by omega) | exact wr_i64 (by omega) (by omega))) rfl ?_
            | refine go_do (valid_rem rfl rfl rfl rfl (by omega) (by omega)) rfl ?_
            | refine go_do (valid_box rfl rfl rfl rfl rfl rfl) rfl ?_
            | refine go_do (valid_alloc rfl rfl rfl rfl rfl) rfl ?_
            | (refine nxt_s 1 rfl ?_; refine go_do (valid_store_p rfl rfl rfl rfl rfl rfl (by first | kernel_rfl | rfl) rfl) (by first | kernel_rfl | rfl) ?_)
            | refine go_do (valid_len_s rfl rfl rfl rfl) rfl ?_
            | (refine nxt_s 3 rfl ?_; refine go_do (valid_load_q tb rfl rfl rfl rfl (by first | kernel_rfl | rfl)) rfl ?_)
            | (refine nxt_s 3 rfl ?_; refine go_do (valid_fld_q tb rfl rfl rfl rfl) rfl ?_)
            | refine go_do (valid_not rfl rfl rfl) rfl ?_
            | refine go_do (valid_build rfl rfl rfl rfl) rfl ?_
            | refine go_do (valid_nil rfl rfl rfl rfl) rfl ?_
            | (refine nxt_s 4 rfl ?_; refine go_do (valid_idx_s rfl rfl rfl rfl rfl rfl (by omega) (by omega) _ (by assumption)) rfl ?_)
            | (refine nxt_s 5 rfl ?_; refine go_do (valid_store_rp rfl rfl rfl rfl rfl rfl rfl rfl rfl (by first | omega | (simp; omega)) rfl) rfl ?_)
            | (refine nxt_s 5 rfl ?_; refine go_do (valid_load_rp tb rfl rfl rfl rfl rfl rfl) rfl ?_)
            | (refine nxt_s 2 rfl ?_; refine go_do (valid_idx_o rfl rfl rfl rfl rfl rfl rfl (by omega) (by omega)) rfl ?_)
            | (refine nxt_s 1 rfl ?_; refine go_do (valid_idx_p rfl rfl rfl rfl rfl rfl (by omega) (by omega)) rfl ?_)
            | refine go_do (valid_index tb rfl rfl rfl rfl rfl rfl (by omega) (by omega) rfl) rfl ?_
            | refine go_do (valid_len_o rfl rfl rfl rfl rfl) rfl ?_
            | refine go_do (valid_len_v rfl rfl rfl rfl) rfl ?_
            | (refine nxt_s 5 rfl ?_; refine go_do (valid_fld_rp tb rfl rfl rfl rfl) rfl ?_)
            | refine go_do (valid_bslice rfl rfl rfl rfl rfl rfl rfl rfl rfl rfl rfl) rfl ?_
            | refine go_do (valid_bslice0 rfl rfl rfl rfl rfl rfl rfl) rfl ?_
            | refine go_do (valid_eqb rfl rfl rfl rfl rfl) rfl ?_
            | refine go_do (valid_neb rfl rfl rfl rfl rfl) rfl ?_)
        | (refine hK _ ?_; clear hK K)
        | (rename_i K1 hK1; refine hK1 _ ?_; clear hK hK1; clear K)
        | (rename_i K1 hK1; refine hK1 _ ?_; clear hK1)
        | refine aw_text rfl ?_
        | refine aw_any (by kernel_rfl) (by kernel_rfl) rfl ?_
        | exact aw_ret (show resA _ _ _ = some _ by kernel_rfl)
        | refine aw_cond1 rfl rfl ?_
        | refine aw_cond0 rfl rfl ?_
        | refine aw_block ?_
        | refine aw_exit ?_
        | refine aw_skip ?_
        | refine aw_seq_k (fun K hK => ?_))
    · rw [show withinB n a b = false by simp [withinB, h2]]
      refine callOk_of 15 Tryd.func38 rfl rfl rfl rfl ?_ GG.to
      intro W A hG
      repeat (first
        | (refine go_at rfl ?_; first
            | refine go_do (valid_skip rfl) rfl ?_
            | refine go_do (valid_mv (.inl rfl) rfl) rfl ?_
            | (refine nxt_s 1 rfl ?_; refine go_do (valid_load_p tb rfl rfl rfl rfl rfl (by first | kernel_rfl | rfl)) (by first | kernel_rfl | rfl) ?_)
            | (refine nxt_s 1 rfl ?_; refine go_do (valid_fld_p tb rfl rfl rfl (by kernel_rfl)) rfl ?_)
            | refine go_do (valid_mv (.inr rfl) rfl) rfl ?_
            | refine go_do (valid_pick rfl rfl rfl) rfl ?_
            | refine go_do (valid_extract rfl rfl rfl rfl) rfl ?_
            | refine go_do (valid_field tb rfl rfl rfl rfl rfl rfl) rfl ?_
            | refine go_do (valid_cmp rfl rfl rfl rfl (by first | exact .eql1 (by omega) | exact .eql0 (by omega) | exact .neq1 (by omega) | exact .neq0 (by omega) | exact .lss1 (by omega) | exact .lss0 (by omega) | exact .leq1 (by omega) | exact .leq0 (by omega) | exact .gtr1 (by omega) | exact .gtr0 (by omega) | exact .geq1 (by omega) | exact .geq0 (by omega) | constructor)) rfl ?_
            | refine go_do (valid_ar rfl rfl rfl rfl (by constructor) (by first | exact wr_u64 (by omega) (by omega) | exact wr_i64 (by omega) (by omega) | rfl)) rfl ?_
            | refine go_do (valid_cv rfl rfl rfl rfl rfl (by first | exact wr_u64 (by omega) (by omega) | exact wr_i64 (by omega) (by omega) | rfl)) rfl ?_
            | refine go_do (valid_quo rfl rfl rfl rfl (by omega) (by omega) (by first | exact wr_u64 (by omega) (by omega) | exact wr_i64 (by omega) (by omega))) rfl ?_
            | refine go_do (valid_rem rfl rfl rfl rfl (by omega) (by omega)) rfl ?_
            | refine go_do (valid_box rfl rfl rfl rfl rfl rfl) rfl ?_
            | refine go_do (valid_alloc rfl rfl rfl rfl rfl) rfl ?_
            | (refine nxt_s 1 rfl ?_; refine go_do (valid_store_p rfl rfl rfl rfl rfl rfl (by first | kernel_rfl | rfl) rfl) (by first | kernel_rfl | rfl) ?_)
            | refine go_do (valid_len_s rfl rfl rfl rfl) rfl ?_
            | (refine nxt_s 3 rfl ?_; refine go_do (valid_load_q tb rfl rfl rfl rfl (by first | kernel_rfl | rfl)) rfl ?_)
            | (refine nxt_s 3 rfl ?_; refine go_do (valid_fld_q tb rfl rfl rfl rfl) rfl ?_)
            | refine go_do (valid_not rfl rfl rfl) rfl ?_
            | refine go_do (valid_build rfl rfl rfl rfl) rfl ?_
            | refine go_do (valid_nil rfl rfl rfl rfl) rfl ?_
            | (refine nxt_s 4 rfl ?_; refine go_do (valid_idx_s rfl rfl rfl rfl rfl rfl (by omega) (by omega) _ (by assumption)) rfl ?_)
            | (refine nxt_s 5 rfl ?_; refine go_do (valid_store_rp rfl rfl rfl rfl rfl rfl rfl rfl rfl (by first | omega | (simp; omega)) rfl) rfl ?_)
            | (refine nxt_s 5 rfl ?_; refine go_do (valid_load_rp tb rfl rfl rfl rfl rfl rfl) rfl ?_)
            | (refine nxt_s 2 rfl ?_; refine go_do (valid_idx_o rfl rfl rfl rfl rfl rfl rfl (by omega) (by omega)) rfl ?_)
            | (refine nxt_s 1 rfl ?_; refine go_do (valid_idx_p rfl rfl rfl rfl rfl rfl (by omega) (by omega)) rfl ?_)
            | refine go_do (valid_index tb rfl rfl rfl rfl rfl rfl (by omega) (by omega) rfl) rfl ?_
            | refine go_do (valid_len_o rfl rfl rfl rfl rfl) rfl ?_
            | refine go_do (valid_len_v rfl rfl rfl rfl) rfl ?_
            | (refine nxt_s 5 rfl ?_; refine go_do (valid_fld_rp tb rfl rfl rfl rfl) rfl ?_)
            | refine go_do (valid_bslice rfl rfl rfl rfl rfl rfl rfl rfl rfl rfl rfl) rfl ?_
            | refine go_do (valid_bslice0 rfl rfl rfl rfl rfl rfl rfl) rfl ?_
            | refine go_do (valid_eqb rfl rfl rfl rfl rfl) rfl ?_
            | refine go_do (valid_neb rfl rfl rfl rfl rfl) rfl ?_)
        | (refine hK _ ?_; clear hK K)
        | (rename_i K1 hK1; refine hK1 _ ?_; clear hK hK1; clear K)
        | (rename_i K1 hK1; refine hK1 _ ?_; clear hK1)
        | refine aw_text rfl ?_
        | refine aw_any (by kernel_rfl) (by kernel_rfl) rfl ?_
        | exact aw_ret (show resA _ _ _ = some _ by kernel_rfl)
        | refine aw_cond1 rfl rfl ?_
        | refine aw_cond0 rfl rfl ?_
        | refine aw_block ?_
        | refine aw_exit ?_
        | refine aw_skip ?_
        | refine aw_seq_k (fun K hK => ?_))
  · rw [show withinB n a b = false by simp [withinB, h1]]
    refine callOk_of 15 Tryd.func38 rfl rfl rfl rfl ?_ GG.to
    intro W A hG
    repeat (first
      | (refine go_at rfl ?_; first
          | refine go_do (valid_skip rfl) rfl ?_
          | refine go_do (valid_mv (.inl rfl) rfl) rfl ?_
          | (refine nxt_s 1 rfl ?_; refine go_do (valid_load_p tb rfl rfl rfl rfl rfl (by first | kernel_rfl | rfl)) (by first | kernel_rfl | rfl) ?_)
          | (refine nxt_s 1 rfl ?_; refine go_do (valid_fld_p tb rfl rfl rfl (by kernel_rfl)) rfl ?_)
          | refine go_do (valid_mv (.inr rfl) rfl) rfl ?_
          | refine go_do (valid_pick rfl rfl rfl) rfl ?_
          | refine go_do (valid_extract rfl rfl rfl rfl) rfl ?_
          | refine go_do (valid_field tb rfl rfl rfl rfl rfl rfl) rfl ?_
          | refine go_do (valid_cmp rfl rfl rfl rfl (by first | exact .eql1 (by omega) | exact .eql0 (by omega) | exact .neq1 (by omega) | exact .neq0 (by omega) | exact .lss1 (by omega) | exact .lss0 (by omega) | exact .leq1 (by omega) | exact .leq0 (by omega) | exact .gtr1 (by omega) | exact .gtr0 (by omega) | exact .geq1 (by omega) | exact .geq0 (by omega) | constructor)) rfl ?_
          | refine go_do (valid_ar rfl rfl rfl rfl (by constructor) (by first | exact wr_u64 (by omega) (by omega) | exact wr_i64 (by omega) (by omega) | rfl)) rfl ?_
          | refine go_do (valid_cv rfl rfl rfl rfl rfl (by first | exact wr_u64 (by omega) (by omega) | exact wr_i64 (by omega) (by omega) | rfl)) rfl ?_
          | refine go_do (valid_quo rfl rfl rfl rfl (by omega) (by omega) (by first | exact wr_u64 (by omega) (by omega) | exact wr_i64 (by omega) (by omega))) rfl ?_
          | refine go_do (valid_rem rfl rfl rfl rfl (by omega) (by omega)) rfl ?_
          | refine go_do (valid_box rfl rfl rfl rfl rfl rfl) rfl ?_
          | refine go_do (valid_alloc rfl rfl rfl rfl rfl) rfl ?_
          | (refine nxt_s 1 rfl ?_; refine go_do (valid_store_p rfl rfl rfl rfl rfl rfl (by first | kernel_rfl | rfl) rfl) (by first | kernel_rfl | rfl) ?_)
          | refine go_do (valid_len_s rfl rfl rfl rfl) rfl ?_
          | (refine nxt_s 3 rfl ?_; refine go_do (valid_load_q tb rfl rfl rfl rfl (by first | kernel_rfl | rfl)) rfl ?_)
          | (refine nxt_s 3 rfl ?_; refine go_do (valid_fld_q tb rfl rfl rfl rfl) rfl ?_)
          | refine go_do (valid_not rfl rfl rfl) rfl ?_
          | refine go_do (valid_build rfl rfl rfl rfl) rfl ?_
          | refine go_do (valid_nil rfl rfl rfl rfl) rfl ?_
          | (refine nxt_s 4 rfl ?_; refine go_do (valid_idx_s rfl rfl rfl rfl rfl rfl (by omega) (by omega) _ (by assumption)) rfl ?_)
          | (refine nxt_s 5 rfl ?_; refine go_do (valid_store_rp rfl rfl rfl rfl rfl rfl rfl rfl rfl (by first | omega | (simp; omega)) rfl) rfl ?_)
          | (refine nxt_s 5 rfl ?_; refine go_do (valid_load_rp tb rfl rfl rfl rfl rfl rfl) rfl ?_)
          | (refine nxt_s 2 rfl ?_; refine go_do (valid_idx_o rfl rfl rfl rfl rfl rfl rfl (by omega) (by omega)) rfl ?_)
          | (refine nxt_s 1 rfl ?_; refine go_do (valid_idx_p rfl rfl rfl rfl rfl rfl (by omega) (by omega)) rfl ?_)
          | refine go_do (valid_index tb rfl rfl rfl rfl rfl rfl (by omega) (by omega) rfl) rfl ?_
          | refine go_do (valid_len_o rfl rfl rfl rfl rfl) rfl ?_
          | refine go_do (valid_len_v rfl rfl rfl rfl) rfl ?_
          | (refine nxt_s 5 rfl ?_; refine go_do (valid_fld_rp tb rfl rfl rfl rfl) rfl ?_)
          | refine go_do (valid_bslice rfl rfl rfl rfl rfl rfl rfl rfl rfl rfl rfl) rfl ?_
          | refine go_do (valid_bslice0 rfl rfl rfl rfl rfl rfl rfl) rfl ?_
          | refine go_do (valid_eqb rfl rfl rfl rfl rfl) rfl ?_
          | refine go_do (valid_neb rfl rfl rfl rfl rfl) rfl ?_)
      | (refine hK _ ?_; clear hK K)
      | (rename_i K1 hK1; refine hK1 _ ?_; clear hK hK1; clear K)
      | (rename_i K1 hK1; refine hK1 _ ?_; clear hK1)
      | refine aw_text rfl ?_
      | refine aw_any (by kernel_rfl) (by kernel_rfl) rfl ?_
      | exact aw_ret (show resA _ _ _ = some _ by kernel_rfl)
      | refine aw_cond1 rfl rfl ?_
      | refine aw_cond0 rfl rfl ?_
      | refine aw_block ?_
      | refine aw_exit ?_
      | refine aw_skip ?_
      | refine aw_seq_k (fun K hK => ?_))
theorem kaddr_ok : Ok 30 [] (.m (iu (ofv 133955584))) := by
  refine callOk_of 2 Tryd.func30 rfl rfl rfl rfl ?_ GG.to
  intro W A hG
  repeat (first
    | (refine go_at rfl ?_; first
        | refine go_do (valid_skip rfl) rfl ?_
        | refine go_do (valid_mv (.inl rfl) rfl) rfl ?_
        | (refine nxt_s 1 rfl ?_; refine go_do (valid_load_p tb rfl rfl rfl rfl rfl (by first | kernel_rfl | rfl)) (by first | kernel_rfl | rfl) ?_)
        | (refine nxt_s 1 rfl ?_; refine go_do (valid_fld_p tb rfl rfl rfl (by kernel_rfl)) rfl ?_)
        | refine go_do (valid_mv (.inr rfl) rfl) rfl ?_
        | refine go_do (valid_pick rfl rfl rfl) rfl ?_
        | refine go_do (valid_extract rfl rfl rfl rfl) rfl ?_
        | refine go_do (valid_field tb rfl rfl rfl rfl rfl rfl) rfl ?_
        | refine go_do (valid_cmp rfl rfl rfl rfl (by first | exact .eql1 (by omega) | exact .eql0 (by omega) | exact .neq1 (by omega) | exact .neq0 (by omega) | exact .lss1 (by omega) | exact .lss0 (by omega) | exact .leq1 (by omega) | exact .leq0 (by omega) | exact .gtr1 (by omega) | exact .gtr0 (by omega) | exact .geq1 (by omega) | exact .geq0 (by omega) | constructor)) rfl ?_
        | refine go_do (valid_ar rfl rfl rfl rfl (by constructor) (by first | exact wr_u64 (by omega) (by omega) | exact wr_i64 (by omega) (by omega) | rfl)) rfl ?_
        | refine go_do (valid_cv rfl rfl rfl rfl rfl (by first | exact wr_u64 (by omega) (by omega) | exact wr_i64 (by omega) (by omega) | rfl)) rfl ?_
        | refine go_do (valid_quo rfl rfl rfl rfl (by omega) (by omega) (by first | exact wr_u64 (by omega) (by omega) | exact wr_i64 (by omega) (by omega))) rfl ?_
        | refine go_do (valid_rem rfl rfl rfl rfl (by omega) (by omega)) rfl ?_
        | refine go_do (valid_box rfl rfl rfl rfl rfl rfl) rfl ?_
        | refine go_do (valid_alloc rfl rfl rfl rfl rfl) rfl ?_
        | (refine nxt_s 1 rfl ?_; refine go_do (valid_store_p rfl rfl rfl rfl rfl rfl (by first | kernel_rfl | rfl) rfl) (by first | kernel_rfl | rfl) ?_)
        | refine go_do (valid_len_s rfl rfl rfl rfl) rfl ?_
        | (refine nxt_s 3 rfl ?_; refine go_do (valid_load_q tb rfl rfl rfl rfl (by first | kernel_rfl | rfl)) rfl ?_)
        | (refine nxt_s 3 rfl ?_; refine go_do (valid_fld_q tb rfl rfl rfl rfl) rfl ?_)
        | refine go_do (valid_not rfl rfl rfl) rfl ?_
        | refine go_do (valid_build rfl rfl rfl rfl) rfl ?_
        | refine go_do (valid_nil rfl rfl rfl rfl) rfl ?_
        | (refine nxt_s 4 rfl ?_; refine go_do (valid_idx_s rfl rfl rfl rfl rfl rfl (by omega) (by omega) _ (by assumption)) rfl ?_)
        | (refine nxt_s 5 rfl ?_; refine go_do (valid_store_rp rfl rfl rfl rfl rfl rfl rfl rfl rfl (by first | omega | (simp; omega)) rfl) rfl ?_)
        | (refine nxt_s 5 rfl ?_; refine go_do (valid_load_rp tb rfl rfl rfl rfl rfl rfl) rfl ?_)
        | (refine nxt_s 2 rfl ?_; refine go_do (valid_idx_o rfl rfl rfl rfl rfl rfl rfl (by omega) (by omega)) rfl ?_)
        | (refine nxt_s 1 rfl ?_; refine go_do (valid_idx_p rfl rfl rfl rfl rfl rfl (by omega) (by omega)) rfl ?_)
        | refine go_do (valid_index tb rfl rfl rfl rfl rfl rfl (by omega) (by omega) rfl) rfl ?_
        | refine go_do (valid_len_o rfl rfl rfl rfl rfl) rfl ?_
        | refine go_do (valid_len_v rfl rfl rfl rfl) rfl ?_
        | (refine nxt_s 5 rfl ?_; refine go_do (valid_fld_rp tb rfl rfl rfl rfl) rfl ?_)
        | refine go_do (valid_bslice rfl rfl rfl rfl rfl rfl rfl rfl rfl rfl rfl) rfl ?_
        | refine go_do (valid_bslice0 rfl rfl rfl rfl rfl rfl rfl) rfl ?_
        | refine go_do (valid_eqb rfl rfl rfl rfl rfl) rfl ?_
        | refine go_do (valid_neb rfl rfl rfl rfl rfl) rfl ?_
        | refine go_do (valid_call rfl rfl rfl (of_ok _ ⟨by omega, by omega⟩) rfl) rfl ?_)
    | (refine hK _ ?_; clear hK K)
    | (rename_i K1 hK1; refine hK1 _ ?_; clear hK hK1; clear K)
    | (rename_i K1 hK1; refine hK1 _ ?_; clear hK1)
    | refine aw_text rfl ?_
    | refine aw_any (by kernel_rfl) (by kernel_rfl) rfl ?_
    | exact aw_ret (show resA _ _ _ = some _ by kernel_rfl)
    | refine aw_cond1 rfl rfl ?_
    | refine aw_cond0 rfl rfl ?_
    | refine aw_block ?_
    | refine aw_exit ?_
    | refine aw_skip ?_
    | refine aw_seq_k (fun K hK => ?_))
def linksP (p : Pte) (l : Int) : Bool := linkP p && !badP p l
theorem links_ok (p : Pte) (h : p.U) (l : Int) (l0 : 0 ≤ l) (l2 : l ≤ 2) : Ok 56 [.ag p.ce, ii l] (.m (ib (linksP p l))) := by
  cases hl : linkP p with
  | false =>
    rw [show linksP p l = false by simp [linksP, hl]]
    refine callOk_of 13 Tryd.func56 rfl rfl rfl rfl ?_ GG.to
    intro W A hG
    repeat (first
      | (refine go_at rfl ?_; first
          | refine go_do (valid_skip rfl) rfl ?_
          | refine go_do (valid_mv (.inl rfl) rfl) rfl ?_
          | (refine nxt_s 1 rfl ?_; refine go_do (valid_load_p tb rfl rfl rfl rfl rfl (by first | kernel_rfl | rfl)) (by first | kernel_rfl | rfl) ?_)
          | (refine nxt_s 1 rfl ?_; refine go_do (valid_fld_p tb rfl rfl rfl (by kernel_rfl)) rfl ?_)
          | refine go_do (valid_mv (.inr rfl) rfl) rfl ?_
          | refine go_do (valid_pick rfl rfl rfl) rfl ?_
          | refine go_do (valid_extract rfl rfl rfl rfl) rfl ?_
          | refine go_do (valid_field tb rfl rfl rfl rfl rfl rfl) rfl ?_
          | refine go_do (valid_cmp rfl rfl rfl rfl (by first | exact .eql1 (by omega) | exact .eql0 (by omega) | exact .neq1 (by omega) | exact .neq0 (by omega) | exact .lss1 (by omega) | exact .lss0 (by omega) | exact .leq1 (by omega) | exact .leq0 (by omega) | exact .gtr1 (by omega) | exact .gtr0 (by omega) | exact .geq1 (by omega) | exact .geq0 (by omega) | constructor)) rfl ?_
          | refine go_do (valid_ar rfl rfl rfl rfl (by constructor) (by first | exact wr_u64 (by omega) (by omega) | exact wr_i64 (by omega) (by omega) | rfl)) rfl ?_
          | refine go_do (valid_cv rfl rfl rfl rfl rfl (by first | exact wr_u64 (by omega) (by omega) | exact wr_i64 (by omega) (by omega) | rfl)) rfl ?_
          | refine go_do (valid_quo rfl rfl rfl rfl (by omega) (by omega) (by first | exact wr_u64 (by omega) (by omega) | exact wr_i64 (by omega) (by omega))) rfl ?_
          | refine go_do (valid_rem rfl rfl rfl rfl (by omega) (by omega)) rfl ?_
          | refine go_do (valid_box rfl rfl rfl rfl rfl rfl) rfl ?_
          | refine go_do (valid_alloc rfl rfl rfl rfl rfl) rfl ?_
          | (refine nxt_s 1 rfl ?_; refine go_do (valid_store_p rfl rfl rfl rfl rfl rfl (by first | kernel_rfl | rfl) rfl) (by first | kernel_rfl | rfl) ?_)
          | refine go_do (valid_len_s rfl rfl rfl rfl) rfl ?_
          | (refine nxt_s 3 rfl ?_; refine go_do (valid_load_q tb rfl rfl rfl rfl (by first | kernel_rfl | rfl)) rfl ?_)
          | (refine nxt_s 3 rfl ?_; refine go_do (valid_fld_q tb rfl rfl rfl rfl) rfl ?_)
          | refine go_do (valid_not rfl rfl rfl) rfl ?_
          | refine go_do (valid_build rfl rfl rfl rfl) rfl ?_
          | refine go_do (valid_nil rfl rfl rfl rfl) rfl ?_
          | (refine nxt_s 4 rfl ?_; refine go_do (valid_idx_s rfl rfl rfl rfl rfl rfl (by omega) (by omega) _ (by assumption)) rfl ?_)
          | (refine nxt_s 5 rfl ?_; refine go_do (valid_store_rp rfl rfl rfl rfl rfl rfl rfl rfl rfl (by first | omega | (simp; omega)) rfl) rfl ?_)
          | (refine nxt_s 5 rfl ?_; refine go_do (valid_load_rp tb rfl rfl rfl rfl rfl rfl) rfl ?_)
          | (refine nxt_s 2 rfl ?_; refine go_do (valid_idx_o rfl rfl rfl rfl rfl rfl rfl (by omega) (by omega)) rfl ?_)
          | (refine nxt_s 1 rfl ?_; refine go_do (valid_idx_p rfl rfl rfl rfl rfl rfl (by omega) (by omega)) rfl ?_)
          | refine go_do (valid_index tb rfl rfl rfl rfl rfl rfl (by omega) (by omega) rfl) rfl ?_
          | refine go_do (valid_len_o rfl rfl rfl rfl rfl) rfl ?_
          | refine go_do (valid_len_v rfl rfl rfl rfl) rfl ?_
          | (refine nxt_s 5 rfl ?_; refine go_do (valid_fld_rp tb rfl rfl rfl rfl) rfl ?_)
          | refine go_do (valid_bslice rfl rfl rfl rfl rfl rfl rfl rfl rfl rfl rfl) rfl ?_
          | refine go_do (valid_bslice0 rfl rfl rfl rfl rfl rfl rfl) rfl ?_
          | refine go_do (valid_eqb rfl rfl rfl rfl rfl) rfl ?_
          | refine go_do (valid_neb rfl rfl rfl rfl rfl) rfl ?_
          | refine go_do (valid_call rfl rfl rfl (hl ▸ plink_ok p) rfl) rfl ?_
          | refine go_do (valid_call rfl rfl rfl (pbad_ok p h l l0 l2) rfl) rfl ?_)
      | (refine hK _ ?_; clear hK K)
      | (rename_i K1 hK1; refine hK1 _ ?_; clear hK hK1; clear K)
      | (rename_i K1 hK1; refine hK1 _ ?_; clear hK1)
      | refine aw_text rfl ?_
      | refine aw_any (by kernel_rfl) (by kernel_rfl) rfl ?_
      | exact aw_ret (show resA _ _ _ = some _ by kernel_rfl)
      | refine aw_cond1 rfl rfl ?_
      | refine aw_cond0 rfl rfl ?_
      | refine aw_block ?_
      | refine aw_exit ?_
      | refine aw_skip ?_
      | refine aw_seq_k (fun K hK => ?_))
  | true =>
    rw [show linksP p l = !badP p l by simp [linksP, hl]]
    refine callOk_of 13 Tryd.func56 rfl rfl rfl rfl ?_ GG.to
    intro W A hG
    repeat (first
      | (refine go_at rfl ?_; first
          | refine go_do (valid_skip rfl) rfl ?_
          | refine go_do (valid_mv (.inl rfl) rfl) rfl ?_
          | (refine nxt_s 1 rfl ?_; refine go_do (valid_load_p tb rfl rfl rfl rfl rfl (by first | kernel_rfl | rfl)) (by first | kernel_rfl | rfl) ?_)
          | (refine nxt_s 1 rfl ?_; refine go_do (valid_fld_p tb rfl rfl rfl (by kernel_rfl)) rfl ?_)
          | refine go_do (valid_mv (.inr rfl) rfl) rfl ?_
          | refine go_do (valid_pick rfl rfl rfl) rfl ?_
          | refine go_do (valid_extract rfl rfl rfl rfl) rfl ?_
          | refine go_do (valid_field tb rfl rfl rfl rfl rfl rfl) rfl ?_
          | refine go_do (valid_cmp rfl rfl rfl rfl (by first | exact .eql1 (by omega) | exact .eql0 (by omega) | exact .neq1 (by omega) | exact .neq0 (by omega) | exact .lss1 (by omega) | exact .lss0 (by omega) | exact .leq1 (by omega) | exact .leq0 (by omega) | exact .gtr1 (by omega) | exact .gtr0 (by omega) | exact .geq1 (by omega) | exact .geq0 (by omega) | constructor)) rfl ?_
          | refine go_do (valid_ar rfl rfl rfl rfl (by constructor) (by first | exact wr_u64 (by omega) (by omega) | exact wr_i64 (by omega) (by omega) | rfl)) rfl ?_
          | refine go_do (valid_cv rfl rfl rfl rfl rfl (by first | exact wr_u64 (by omega) (by omega) | exact wr_i64 (by omega) (by omega) | rfl)) rfl ?_
          | refine go_do (valid_quo rfl rfl rfl rfl (by omega) (by omega) (by first | exact wr_u64 (by omega) (by omega) | exact wr_i64 (by omega) (by omega))) rfl ?_
          | refine go_do (valid_rem rfl rfl rfl rfl (by omega) (by omega)) rfl ?_
          | refine go_do (valid_box rfl rfl rfl rfl rfl rfl) rfl ?_
          | refine go_do (valid_alloc rfl rfl rfl rfl rfl) rfl ?_
          | (refine nxt_s 1 rfl ?_; refine go_do (valid_store_p rfl rfl rfl rfl rfl rfl (by first | kernel_rfl | rfl) rfl) (by first | kernel_rfl | rfl) ?_)
          | refine go_do (valid_len_s rfl rfl rfl rfl) rfl ?_
          | (refine nxt_s 3 rfl ?_; refine go_do (valid_load_q tb rfl rfl rfl rfl (by first | kernel_rfl | rfl)) rfl ?_)
          | (refine nxt_s 3 rfl ?_; refine go_do (valid_fld_q tb rfl rfl rfl rfl) rfl ?_)
          | refine go_do (valid_not rfl rfl rfl) rfl ?_
          | refine go_do (valid_build rfl rfl rfl rfl) rfl ?_
          | refine go_do (valid_nil rfl rfl rfl rfl) rfl ?_
          | (refine nxt_s 4 rfl ?_; refine go_do (valid_idx_s rfl rfl rfl rfl rfl rfl (by omega) (by omega) _ (by assumption)) rfl ?_)
          | (refine nxt_s 5 rfl ?_; refine go_do (valid_store_rp rfl rfl rfl rfl rfl rfl rfl rfl rfl (by first | omega | (simp; omega)) rfl) rfl ?_)
          | (refine nxt_s 5 rfl ?_; refine go_do (valid_load_rp tb rfl rfl rfl rfl rfl rfl) rfl ?_)
          | (refine nxt_s 2 rfl ?_; refine go_do (valid_idx_o rfl rfl rfl rfl rfl rfl rfl (by omega) (by omega)) rfl ?_)
          | (refine nxt_s 1 rfl ?_; refine go_do (valid_idx_p rfl rfl rfl rfl rfl rfl (by omega) (by omega)) rfl ?_)
          | refine go_do (valid_index tb rfl rfl rfl rfl rfl rfl (by omega) (by omega) rfl) rfl ?_
          | refine go_do (valid_len_o rfl rfl rfl rfl rfl) rfl ?_
          | refine go_do (valid_len_v rfl rfl rfl rfl) rfl ?_
          | (refine nxt_s 5 rfl ?_; refine go_do (valid_fld_rp tb rfl rfl rfl rfl) rfl ?_)
          | refine go_do (valid_bslice rfl rfl rfl rfl rfl rfl rfl rfl rfl rfl rfl) rfl ?_
          | refine go_do (valid_bslice0 rfl rfl rfl rfl rfl rfl rfl) rfl ?_
          | refine go_do (valid_eqb rfl rfl rfl rfl rfl) rfl ?_
          | refine go_do (valid_neb rfl rfl rfl rfl rfl) rfl ?_
          | refine go_do (valid_call rfl rfl rfl (hl ▸ plink_ok p) rfl) rfl ?_
          | refine go_do (valid_call rfl rfl rfl (pbad_ok p h l l0 l2) rfl) rfl ?_)
      | (refine hK _ ?_; clear hK K)
      | (rename_i K1 hK1; refine hK1 _ ?_; clear hK hK1; clear K)
      | (rename_i K1 hK1; refine hK1 _ ?_; clear hK1)
      | refine aw_text rfl ?_
      | refine aw_any (by kernel_rfl) (by kernel_rfl) rfl ?_
      | exact aw_ret (show resA _ _ _ = some _ by kernel_rfl)
      | refine aw_cond1 rfl rfl ?_
      | refine aw_cond0 rfl rfl ?_
      | refine aw_block ?_
      | refine aw_exit ?_
      | refine aw_skip ?_
      | refine aw_seq_k (fun K hK => ?_))
end Go.Proofs.YtkffmaeiplgjeaaDoor.SpA
