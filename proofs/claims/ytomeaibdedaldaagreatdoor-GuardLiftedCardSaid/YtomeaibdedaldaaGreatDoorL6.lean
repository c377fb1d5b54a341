/- Texts of this claim, one behind the other: DelFC, ClonePage, LmF, LmG, LaI, LmH, LaJ, LmI, Open, Laid, LnA, LnC. -/
import Derived.Test.YtomeaibdedaldaaGreatDoorL3
import Derived.Test.YtomeaibdedaldaaGreatDoorL1
import Derived.Test.YtomeaibdedaldaaGreatDoorL2
import Derived.Deep.MidRow
import Derived.Lib.SliceRun
import Derived.Test.YtomeaibdedaldaaGreatDoorL5
import Derived.Test.YtomeaibdedaldaaGreatDoorL4
import Derived.ProofKit
import Derived.Carry
import Derived.ChangeOld
import Derived.ChangeArms
import Derived.WideShapes
import Derived.Test.YtomeaibdedaldaaGreatDoorRows
import Derived.LaidMore
import Derived.Lib.LaidTab
import Derived.SevenTiedAt
import Derived.LaidHandle
import Derived.Deep.SlicePairs
set_option linter.unusedVariables false
set_option linter.unusedSimpArgs false
namespace Go.Proofs.YtomeaibdedaldaaGreatDoor.DelFC
open Go.RowKit Bv Base MemL LaC
def pgV (y : Pg) : Value := .agg #[.int .u64 y.va, .int .u64 y.pa, .int .i64 y.lev, .bool y.r, .bool y.w, .bool y.x, .bool y.u, .bool y.d]
def fI (q : Pg → Bool) : List Pg → Nat → Int
  | [], _ => -1
  | y :: l, i => if q y then (i : Int) else fI q l (i + 1)
theorem z4q {q : Pg → Bool} {l : List Pg} {k : Nat} {y : Pg} (h : l[k]? = some y) : fI q (l.drop k) k = if q y then (k : Int) else fI q (l.drop (k + 1)) (k + 1) := by
  obtain ⟨hk, e⟩ := List.getElem?_eq_some_iff.1 h
  rw [List.drop_eq_getElem_cons hk, e]
  rfl
theorem zl6 : ∀ (l : List Pg) (i j : Nat) (y : Pg), l[i]? = some y → j < 8 → (flP l)[i * 8 + j]? = y.vs[j]?
  | [], i, j, y, h, _ => by simp at h
  | x :: l, 0, j, y, h, hj => by
    simp at h; subst h
    show (x.vs ++ flP l)[0 * 8 + j]? = _
    rw [Nat.zero_mul, Nat.zero_add, List.getElem?_append_left (by show j < 8; exact hj)]
  | x :: l, i + 1, j, y, h, hj => by
    have := zl6 l i j y (by simpa using h) hj
    show (x.vs ++ flP l)[(i + 1) * 8 + j]? = _
    rw [List.getElem?_append_right (by show 8 ≤ _; omega), show (i + 1) * 8 + j - x.vs.length = i * 8 + j by show (i + 1) * 8 + j - 8 = _; omega]
    exact this
def z1t (base : Nat) (W : World) (k : FuncId) (lb : Array Value) (q : Pg → Bool) : Prop := ∀ w y, Below base W w → Calls Tryz.prog k (#[pgV y] ++ lb) w fun e w' => e = .returned (.bool (q y)) ∧ Below w.heap.size w w'
theorem zhs {P : Program} (w : World) {ops : Array Oper} {rest : List Oper} {o : Oper} {a : Act} {Q : Exit → Act → World → Prop} (hg : o.guard = none) (hd : o.dst = none) (ty : TypeId) (x y : Operand) (hop : o.op = .store ty x y) (b off : Nat) (cells : Array Value)
    (hx : a.eval x = .pointer (some ⟨b, off, none⟩)) (hy : a.eval y = .agg cells) (ht : w.there b off cells.size) (hi : (P.info? ty).map (·.size) = some cells.size) (h1 : cells.all (·.oneCell') = true) (h : wpList P ops Q rest a (w.setCells b off cells.toList)) : wpList P ops Q (o :: rest) a w := by
  refine wpList_plain hg fun K hK => ?_
  unfold Oper.wp
  have hr := run_storeVar_mid (P := P) w b off ty cells ht hi h1
  simp [execOp, hop, hx, hy, Instr.storeAt, Instr.sureAddr, hr, Result.andThen]
  refine hK _ _ ?_
  rw [hd]
  exact h
set_option maxHeartbeats 4000000 in
set_option maxRecDepth 1000000 in
theorem idx_calls (base : Nat) (W : World) (hB : base ≤ W.heap.size) (k : FuncId) (lb : Array Value) (q : Pg → Bool) (hk : ∀ args w, (callFunc k args).run Tryz.prog w = .ok (.enter k args) w) (hq : z1t base W k lb q) (g o n cap : Nat) (l : List Pg) (hn : l.length = n) (hmax : n ≤ 9223372036854775807)
    (hg : g < W.heap.size) (hc : ∀ t, t < n * 8 → W.cell? ⟨g, o + t, none⟩ = (flP l)[t]?) :
    Calls Tryz.prog 155 #[.slice (some ⟨g, o, none⟩) n cap, .func (.func k) #[] lb] W fun e w' => e = .returned (.int .i64 (fI q l 0)) ∧ Below W.heap.size W w' := by
  have HQ := Lib.hid hq
  have HC := Lib.hid hc
  have HN := Lib.hid hn
  clear hq hc hn
  go_enter Tryz.func155, Tryz.ntmps155
  go_wp2
  go_loopw [8] (fun i wr => ∃ j : Nat, j ≤ n ∧ i = .int .i64 j ∧ fI q (l.drop j) j = fI q l 0 ∧ Below W.heap.size W wr) (fun i _ => n - (intOf i).toNat)
  case atStart => exact ⟨0, by omega, rfl, rfl, Below.refl _ _⟩
  case round =>
    obtain ⟨j, hj, rfl, hf, br⟩ := hrel
    obtain ⟨cr, _⟩ := zmy br
    by_cases hlt : j < n
    · obtain ⟨y, hy⟩ : ∃ y, l[j]? = some y := ⟨_, List.getElem?_eq_getElem (by rw [HN.out]; exact hlt)⟩
      have hfl := z4q (q := q) hy
      rw [hf] at hfl
      have cl : ∀ t, t < 8 → wr.cell? ⟨g, o + j * 8 + t, none⟩ = y.vs[t]? := fun t ht => by rw [cr _ _ hg, Nat.add_assoc, HC.out _ (by omega), zl6 l j t y hy ht]
      have r0 : wr.cell? ⟨g, o + j * 8, none⟩ = some (.int .u64 y.va) := cl 0 (by omega)
      have r1 : wr.cell? ⟨g, o + j * 8 + 1, none⟩ = some (.int .u64 y.pa) := cl 1 (by omega)
      have r2 : wr.cell? ⟨g, o + j * 8 + 2, none⟩ = some (.int .i64 y.lev) := cl 2 (by omega)
      have r3 : wr.cell? ⟨g, o + j * 8 + 3, none⟩ = some (.bool y.r) := cl 3 (by omega)
      have r4 : wr.cell? ⟨g, o + j * 8 + 4, none⟩ = some (.bool y.w) := cl 4 (by omega)
      have r5 : wr.cell? ⟨g, o + j * 8 + 5, none⟩ = some (.bool y.x) := cl 5 (by omega)
      have r6 : wr.cell? ⟨g, o + j * 8 + 6, none⟩ = some (.bool y.u) := cl 6 (by omega)
      have r7 : wr.cell? ⟨g, o + j * 8 + 7, none⟩ = some (.bool y.d) := cl 7 (by omega)
      have hcall := HQ.out wr y (br.mono hB)
      unfold pgV at hcall
      have HF := Lib.hid hfl
      have HL := Lib.hid hf
      clear cr cl hfl hf hy
      have hjz : (j : Int) < (n : Int) := by omega
      cases hb : q y with
      | true =>
        rw [hb] at hcall
        have hR : fI q l 0 = (j : Int) := by rw [HF.out, hb]; rfl
        clear hb
        go_wp2_with fail
        refine hcall.mono ?_
        rintro e w2 ⟨rfl, b2⟩
        go_wp2
        go_ret
        exact ⟨by rw [hR]; rfl, zaq br b2⟩
      | false =>
        rw [hb] at hcall
        have hR : fI q (l.drop (j + 1)) (j + 1) = fI q l 0 := by rw [HF.out, hb]; rfl
        clear hb
        go_wp2_with fail
        refine hcall.mono ?_
        rintro e w2 ⟨rfl, b2⟩
        go_wp2
        exact ⟨⟨j + 1, by omega, by go_num, hR, zaq br b2⟩, by simp [intOf]; omega⟩
    · obtain rfl : j = n := by omega
      have hjz : ¬ (j : Int) < (j : Int) := by omega
      have hR : fI q l 0 = -1 := by rw [← hf, List.drop_eq_nil_of_le (by rw [HN.out]; exact Nat.le_refl _)]; rfl
      go_wp2
      go_ret
      exact ⟨by first | (rw [hR]; rfl) | rfl, br⟩
set_option maxHeartbeats 4000000 in
theorem z1u (W : World) (fv : Value) : Calls Tryz.prog 155 #[.slice none 0 0, fv] W fun e w' => e = .returned (.int .i64 (-1)) ∧ Below W.heap.size W w' := by
  go_enter Tryz.func155, Tryz.ntmps155
  go_wp2
  go_loopw [8] (fun i wr => i = .int .i64 0 ∧ Below W.heap.size W wr) (fun i _ => 0)
  case atStart => exact ⟨rfl, Below.refl _ _⟩
  case round =>
    obtain ⟨rfl, br⟩ := hrel
    go_wp2
    go_ret
    exact ⟨rfl, br⟩
def keep (q : Pg → Bool) (l : List Pg) : List Pg := l.filter fun y => !q y
theorem zjn {q : Pg → Bool} {l : List Pg} {j : Nat} {y : Pg} (h : l[j]? = some y) : keep q (l.take (j + 1)) = if q y then keep q (l.take j) else keep q (l.take j) ++ [y] := by
  unfold keep
  rw [List.take_add_one, h, List.filter_append]
  show _ ++ [y].filter _ = _
  cases c : q y <;> simp [List.filter, c]
theorem zp8 (l : List Pg) : (flP l).length = l.length * 8 := by
  induction l with
  | nil => rfl
  | cons y l ih => show (y.vs ++ flP l).length = _; rw [List.length_append, ih]; show 8 + _ = (l.length + 1) * 8; omega
theorem zro : ∀ (l : List Pg) (j : Nat), flP (l.take j) = (flP l).take (j * 8)
  | [], j => by rw [List.take_nil]; show ([] : List Value) = List.take (j * 8) []; rw [List.take_nil]
  | y :: l, 0 => by rw [Nat.zero_mul, List.take_zero, List.take_zero]; rfl
  | y :: l, j + 1 => by
    show y.vs ++ flP (l.take j) = (y.vs ++ flP l).take ((j + 1) * 8)
    rw [zro l j, List.take_append, show (j + 1) * 8 - y.vs.length = j * 8 by show (j + 1) * 8 - 8 = _; omega, show List.take ((j + 1) * 8) y.vs = y.vs from List.take_of_length_le (by show 8 ≤ (j + 1) * 8; omega)]
theorem zwh (cu : Array Value) (o : Nat) (vs : List Value) (h : o + vs.length ≤ cu.size) (t : Nat) : (MemL.zc2 cu o vs)[t]? = if t < o then cu[t]? else if t < o + vs.length then vs[t - o]? else cu[t]? := by
  rw [← Array.getElem?_toList, zb4 vs cu o h]
  have e9 : (cu.toList.take o).length = o := by rw [List.length_take, Array.length_toList]; omega
  by_cases h1 : t < o
  · rw [if_pos h1, List.append_assoc, List.getElem?_append_left (by rw [e9]; exact h1), List.getElem?_take_of_lt h1, Array.getElem?_toList]
  · rw [if_neg h1, List.append_assoc, List.getElem?_append_right (by rw [e9]; omega), e9]
    by_cases h2 : t < o + vs.length
    · rw [if_pos h2, List.getElem?_append_left (by omega)]
    · rw [if_neg h2, List.getElem?_append_right (by omega), List.getElem?_drop, Array.getElem?_toList, show o + vs.length + (t - o - vs.length) = t by omega]
structure DI (q : Pg → Bool) (l : List Pg) (n cap c j : Nat) (cu : Array Value) : Prop where
  sz : cu.size = cap * 8
  ct : c = (keep q (l.take j)).length
  lo : ∀ t, t < c * 8 → cu[t]? = (flP (keep q (l.take j)))[t]?
  hi : ∀ t, j * 8 ≤ t → t < n * 8 → cu[t]? = (flP l)[t]?
theorem DI.skip {q : Pg → Bool} {l : List Pg} {n cap c j : Nat} {cu : Array Value} (h : DI q l n cap c j cu) {y : Pg} (hy : l[j]? = some y) (hq : q y = true) : DI q l n cap c (j + 1) cu := by
  have hR : keep q (l.take (j + 1)) = keep q (l.take j) := by rw [zjn hy, hq, if_pos rfl]
  exact ⟨h.sz, by rw [hR]; exact h.ct, by rw [hR]; exact h.lo, fun t h1 h2 => h.hi t (by omega) h2⟩
theorem DI.keep {q : Pg → Bool} {l : List Pg} {n cap c j : Nat} {cu : Array Value} (h : DI q l n cap c j cu) {y : Pg} (hy : l[j]? = some y) (hq : q y = false) (hcj : c < j) (hj : j < n) (hn : n ≤ cap) : DI q l n cap (c + 1) (j + 1) (MemL.zc2 cu (c * 8) y.vs) := by
  have hR : DelFC.keep q (l.take (j + 1)) = DelFC.keep q (l.take j) ++ [y] := by rw [zjn hy, hq, if_neg (by simp)]
  have hl8 : y.vs.length = 8 := rfl
  have hkl : (flP (DelFC.keep q (l.take j))).length = c * 8 := by rw [zp8, ← h.ct]
  have hg := zwh cu (c * 8) y.vs (by rw [hl8, h.sz]; omega)
  rw [hl8] at hg
  refine ⟨by rw [zb0]; exact h.sz, by rw [hR, List.length_append, ← h.ct]; rfl, fun t ht => ?_, fun t h1 h2 => ?_⟩
  · rw [hg, hR, zpc]
    by_cases h1 : t < c * 8
    · rw [if_pos h1, List.getElem?_append_left (by rw [hkl]; exact h1)]
      exact h.lo t h1
    · rw [if_neg h1, if_pos (by omega), List.getElem?_append_right (by rw [hkl]; omega), hkl]
      show _ = (y.vs ++ [])[_]?
      rw [List.append_nil]
  · rw [hg, if_neg (by omega), if_neg (by omega)]
    exact h.hi t (by omega) h2
theorem zwi (q : Pg → Bool) : ∀ (l : List Pg) (i : Nat), (fI q l i = -1 ∧ keep q l = l) ∨ ∃ k y, l[k]? = some y ∧ fI q l i = ((i + k : Nat) : Int) ∧ keep q (l.take k) = l.take k ∧ q y = true
  | [], i => .inl ⟨rfl, rfl⟩
  | y :: l, i => by
    unfold fI
    cases c : q y with
    | true => exact .inr ⟨0, y, rfl, rfl, rfl, c⟩
    | false =>
      rcases zwi q l (i + 1) with ⟨h1, h2⟩ | ⟨k, z, h1, h2, h3, h4⟩
      · refine .inl ⟨h1, ?_⟩
        show (y :: l).filter _ = _
        rw [List.filter_cons, if_pos (by simp [c])]
        exact congrArg _ h2
      · refine .inr ⟨k + 1, z, by simpa using h1, ?_, ?_, h4⟩
        · show fI q l (i + 1) = _
          rw [h2]; congr 1; omega
        · show (y :: l.take k).filter _ = _
          rw [List.filter_cons, if_pos (by simp [c])]
          exact congrArg _ h3
set_option maxHeartbeats 8000000 in
set_option maxRecDepth 1000000 in
theorem zwj (base : Nat) (W : World) (hB : base ≤ W.heap.size) (k : FuncId) (lb : Array Value) (q : Pg → Bool) (hk : ∀ args w, (callFunc k args).run Tryz.prog w = .ok (.enter k args) w) (hq : z1t base W k lb q) (v : Value) (n : Nat) (l : List Pg) (hn : l.length = n)
    (hown : W.ownsRow base 60 8 v n (flP l)) :
    Calls Tryz.prog 90 #[v, .func (.func k) #[] lb] W fun e w' => ∃ v', e = .returned v' ∧ w'.ownsRow base 60 8 v' (keep q l).length (flP (keep q l)) ∧ Below base W w' := by
  have hown0 := hown
  obtain ⟨hl, hown⟩ := hown
  rcases hown with ⟨rfl, h0⟩ | ⟨g, cap, cur, rfl, hbg, hh, hnc, hmax, hsz, htk⟩
  · obtain rfl : n = 0 := h0
    obtain rfl := List.eq_nil_of_length_eq_zero hn
    go_enter Tryz.func90, Tryz.ntmps90
    go_wp2_with (go_at_call 155; refine (z1u _ _).mono ?_; rintro e w' ⟨rfl, b1⟩)
    go_ret
    exact ⟨_, rfl, ⟨rfl, .inl ⟨rfl, rfl⟩⟩, b1.mono hB⟩
  · have hgl : g < W.heap.size := Bx.lt ⟨_, hh⟩
    have hcur : ∀ t, t < n * 8 → cur[t]? = (flP l)[t]? := fun t ht => by rw [← htk, List.getElem?_take_of_lt ht, Array.getElem?_toList]
    have hidx := idx_calls base W hB k lb q hk hq g 0 n cap l hn (by unfold maxLen at hmax; omega) hgl (fun t ht => by rw [Nat.zero_add, Bx.cell ⟨_, hh⟩]; exact hcur t ht)
    rcases zwi q l 0 with ⟨e1, e2⟩ | ⟨k0, y0, e1, e2, e3, e4⟩
    · rw [e1] at hidx
      have HO := Lib.hid hown0
      have HE := Lib.hid e2
      have HN := Lib.hid hn
      clear hown0 e2 hh hsz htk hcur hl hn hq
      go_enter Tryz.func90, Tryz.ntmps90
      go_wp2_with (go_at_call 155; refine hidx.mono ?_; rintro e w' ⟨rfl, b1⟩)
      go_ret
      exact ⟨_, rfl, by rw [HE.out, HN.out]; exact PutC.zbq HO.out b1, b1.mono hB⟩
    · rw [e2, Nat.zero_add] at hidx
      have hk0 : k0 < n := by rw [← hn]; exact (List.getElem?_eq_some_iff.1 e1).1
      have hne1 : ((k0 : Int) == -1) = false := beq_eq_false_iff_ne.2 (by omega)
      have hs0 : keep q (l.take (k0 + 1)) = l.take k0 := by rw [zjn e1, e4, if_pos rfl, e3]
      unfold maxLen at hmax
      have HH := Lib.hid hh
      have HC := Lib.hid hcur
      have HZ := Lib.hid hsz
      have HN := Lib.hid hn
      have HQ := Lib.hid hq
      have HS := Lib.hid hs0
      clear hown0 hh hsz htk hcur hl hn hq e1 e2 e3 e4 hs0
      go_enter Tryz.func90, Tryz.ntmps90
      go_wp2_with (go_at_call 155; refine hidx.mono ?_; rintro e w0 ⟨rfl, b0⟩)
      go_loopw [5, 6, 7] (fun s5 s6 _ wr => ∃ (c j : Nat) (cu : Array Value), s5 = .int .i64 c ∧ s6 = .int .i64 j ∧ j ≤ n ∧ c < j ∧ Below base W wr ∧ Hid (wr.heap[g]? = some (.cells cu 60 (0, 0)) ∧ DI q l n cap c j cu)) (fun _ s6 _ _ => n - (intOf s6).toNat)
      case atStart =>
        have e5 : k0 = (keep q (l.take (k0 + 1))).length := by rw [HS.out, List.length_take, HN.out]; omega
        refine ⟨k0, k0 + 1, cur, rfl, by go_num, by omega, by omega, b0.mono hB, Lib.hid ⟨(b0.block g hgl).trans HH.out, HZ.out, e5, fun t ht => ?_, fun t _ h2 => HC.out t h2⟩⟩
        rw [HS.out, zro, List.getElem?_take_of_lt ht]
        exact HC.out t (by omega)
      case round =>
        obtain ⟨c, j, cu, rfl, rfl, hj, hcj, br, HB⟩ := hrel
        by_cases hlt : j < n
        · obtain ⟨y, hy⟩ : ∃ y, l[j]? = some y := ⟨_, List.getElem?_eq_getElem (by rw [HN.out]; exact hlt)⟩
          have cl : ∀ t, t < 8 → wr.cell? ⟨g, j * 8 + t, none⟩ = y.vs[t]? := fun t ht => by rw [Bx.cell ⟨_, HB.out.1⟩, HB.out.2.hi _ (by omega) (by omega), zl6 l j t y hy ht]
          have r0 : wr.cell? ⟨g, j * 8, none⟩ = some (.int .u64 y.va) := cl 0 (by omega)
          have r1 : wr.cell? ⟨g, j * 8 + 1, none⟩ = some (.int .u64 y.pa) := cl 1 (by omega)
          have r2 : wr.cell? ⟨g, j * 8 + 2, none⟩ = some (.int .i64 y.lev) := cl 2 (by omega)
          have r3 : wr.cell? ⟨g, j * 8 + 3, none⟩ = some (.bool y.r) := cl 3 (by omega)
          have r4 : wr.cell? ⟨g, j * 8 + 4, none⟩ = some (.bool y.w) := cl 4 (by omega)
          have r5 : wr.cell? ⟨g, j * 8 + 5, none⟩ = some (.bool y.x) := cl 5 (by omega)
          have r6 : wr.cell? ⟨g, j * 8 + 6, none⟩ = some (.bool y.u) := cl 6 (by omega)
          have r7 : wr.cell? ⟨g, j * 8 + 7, none⟩ = some (.bool y.d) := cl 7 (by omega)
          have HY := Lib.hid hy
          clear cl hy
          have hjz : (j : Int) < (n : Int) := by omega
          have bB := Nat.le_trans hB br.size
          go_wp2_with fail
          refine (HQ.out _ y (br.alloc bB _)).mono ?_
          rintro e w2 ⟨rfl, b2⟩
          have x7 : Bx w2 wr.heap.size _ := Bx.below (Bx.new (w := wr)) b2
          have hx7 := Lib.hid x7
          have xg : w2.heap[g]? = some (.cells cu 60 (0, 0)) := by
            have hlt : g < wr.heap.size := Bx.lt ⟨_, HB.out.1⟩
            refine (b2.block g (by show g < (wr.heap.push _).size; rw [Array.size_push]; omega)).trans ?_
            show (wr.heap.push _)[g]? = _
            rw [Array.getElem?_push, if_neg (by omega)]; exact HB.out.1
          have b3 : Below base W w2 := (br.alloc bB _).trans (b2.mono (by show base ≤ (wr.heap.push _).size; rw [Array.size_push]; omega))
          have s0 : w2.cell? ⟨wr.heap.size, 0, none⟩ = some (.int .u64 y.va) := x7.cell 0
          have s1 : w2.cell? ⟨wr.heap.size, 1, none⟩ = some (.int .u64 y.pa) := x7.cell 1
          have s2 : w2.cell? ⟨wr.heap.size, 2, none⟩ = some (.int .i64 y.lev) := x7.cell 2
          have s3 : w2.cell? ⟨wr.heap.size, 3, none⟩ = some (.bool y.r) := x7.cell 3
          have s4 : w2.cell? ⟨wr.heap.size, 4, none⟩ = some (.bool y.w) := x7.cell 4
          have s5 : w2.cell? ⟨wr.heap.size, 5, none⟩ = some (.bool y.x) := x7.cell 5
          have s6 : w2.cell? ⟨wr.heap.size, 6, none⟩ = some (.bool y.u) := x7.cell 6
          have s7 : w2.cell? ⟨wr.heap.size, 7, none⟩ = some (.bool y.d) := x7.cell 7
          have XG := Lib.hid xg
          clear x7 xg r0 r1 r2 r3 r4 r5 r6 r7
          cases hb : q y with
          | true =>
            have HD := Lib.hid (HB.out.2.skip HY.out hb)
            clear hb
            go_wp2
            exact ⟨⟨c, j + 1, cu, rfl, by go_num, by omega, by omega, b3, Lib.hid ⟨XG.out, HD.out⟩⟩, by simp [intOf]; omega⟩
          | false =>
            have HD := Lib.hid (HB.out.2.keep HY.out hb hcj hlt hnc)
            have hcn : (c : Int) < (n : Int) := by omega
            clear hb
            have hth : w2.there g (c * 8) 8 := fun t ht => ⟨by rw [Bx.cell ⟨_, XG.out⟩, Array.getElem?_eq_getElem (by rw [HB.out.2.sz]; omega)]; rfl, Bx.free ⟨_, XG.out⟩ _⟩
            go_wp2_with (with_reducible refine zhs w2 rfl rfl 60 (.tmp 33) (.tmp 32) rfl g (c * 8) #[.int .u64 y.va, .int .u64 y.pa, .int .i64 y.lev, .bool y.r, .bool y.w, .bool y.x, .bool y.u, .bool y.d] ?hs1 ?hs2 ?hs3 ?hs4 ?hs5 ?hs6)
            case hs1 => rfl
            case hs2 => rfl
            case hs3 => exact hth
            case hs4 => kernel_rfl
            case hs5 => kernel_rfl
            have hh2 := zbe (w := w2) y.vs (c * 8) w2 cu XG.out
            have bb := zb6 hbg y.vs (c * 8) w2 b3
            exact ⟨⟨c + 1, j + 1, MemL.zc2 cu (c * 8) y.vs, by go_num, by go_num, by omega, by omega, bb, Lib.hid ⟨hh2, HD.out⟩⟩, by simp [intOf]; omega⟩
        · have hjz : ¬ (j : Int) < (n : Int) := by omega
          obtain ⟨HG, HD⟩ := HB.out
          have HL : l.take j = l := List.take_of_length_le (by rw [HN.out]; omega)
          have hct := HD.ct
          have hlo := HD.lo
          rw [HL] at hct hlo
          have hsz := HD.sz
          have hicap : ¬ (cap = c) := by omega
          have hcn : c ≤ n := by omega
          have hcc : c ≤ cap := by omega
          have hcn2 : (c : Int) ≤ (n : Int) := by omega
          obtain ⟨zs, hzs⟩ : ∃ zs, zs = (Builtin.zeroCells (pgV ⟨0, 0, 0, false, false, false, false, false⟩).cells (n - c)).toList := ⟨_, rfl⟩
          have hzl : zs.length = (n - c) * 8 := by rw [hzs]; simp [Builtin.zeroCells, Value.cells, pgV]
          have hcl : ∀ ty, (Builtin.clear_ #[52] ty #[.slice (some ⟨g, c * 8, none⟩) (n - c) (cap - c)]).run Tryz.prog wr = .ok (.tuple #[]) (wr.setCells g (c * 8) zs) := fun ty => by
            rw [hzs]
            exact zge wr _ 60 ty (pgV ⟨0, 0, 0, false, false, false, false, false⟩) 8 Tryz.underlying52 (fun _ => by kernel_rfl) rfl (by simp [Value.cells, Value.oneCell', pgV]) (by decide) g _ (n - c) _ (by omega)
              (fun t ht => by rw [Bx.cell ⟨_, HG⟩, Array.getElem?_eq_getElem (by rw [hsz]; omega)]; rfl) (fun t ht => Bx.free ⟨_, HG⟩ _)
          have hh2 := Lib.hid (zbe (w := wr) zs (c * 8) wr cu HG)
          have hb2 := Lib.hid (zb6 hbg zs (c * 8) wr br)
          have hps : (MemL.zc2 cu (c * 8) zs).size = cap * 8 := by rw [zb0]; exact hsz
          have htk : (MemL.zc2 cu (c * 8) zs).toList.take (c * 8) = flP (keep q l) := by
            rw [zb4 zs cu (c * 8) (by rw [hzl, hsz]; omega), List.append_assoc, zfz (by rw [List.length_take, Array.length_toList, hsz]; omega)]
            refine List.ext_getElem? fun t => ?_
            by_cases ht : t < c * 8
            · rw [List.getElem?_take_of_lt ht, Array.getElem?_toList]; exact hlo t ht
            · rw [List.getElem?_eq_none (by rw [List.length_take]; omega), List.getElem?_eq_none (by rw [zp8, ← hct]; omega)]
          have HT := Lib.hid htk
          have HP := Lib.hid hps
          have HCT := Lib.hid hct
          clear HG HD HL hct hlo hsz hzs hzl hps htk
          go_wp2
          go_ret
          refine ⟨_, rfl, ⟨by rw [zp8], .inr ⟨g, cap, _, by rw [← HCT.out]; rfl, hbg, hh2.out, by rw [← HCT.out]; exact hcc, by unfold maxLen; omega, HP.out, by rw [← HCT.out]; exact HT.out⟩⟩, hb2.out⟩
end Go.Proofs.YtomeaibdedaldaaGreatDoor.DelFC
namespace Go.Proofs.YtomeaibdedaldaaGreatDoor.ClonePage
open Go.RowKit Bv Base MemL
theorem info : (Tryz.prog.info? 60).map (fun i => (i.zero, i.size, i.bytes)) = some (some (.agg #[.int .u64 0, .int .u64 0, .int .i64 0, .bool false, .bool false, .bool false, .bool false, .bool false]), 8, 32) := by kernel_rfl
set_option maxHeartbeats 2000000 in
theorem clone_calls (v : Value) (n : Nat) (xs : List Value) (W : World) (h1 : ∀ u ∈ xs, u.oneCell' = true) (hbig : n * 32 ≤ 140737488355328) (hv : Sl W v n 8 xs) :
    Calls Tryz.prog 91 #[v] W fun e w' => ∃ v', e = .returned v' ∧ w'.ownsRow W.heap.size 60 8 v' n xs ∧ Below W.heap.size W w' := by
  obtain ⟨hl, hv⟩ := hv
  have q : ∀ (w : World) (a : Option Addr) (n c n' c' : Nat), (binOp .eql 52 (.slice a n c) (.slice none n' c')).run Tryz.prog w = .ok (.bool a.isNone) w := fun w a n c n' c' => Lib.run_eql_slice_nil w _ _ a n c n' c' Tryz.underlying52
  rcases hv with ⟨rfl, rfl⟩ | ⟨b, o, cap, rfl, hb, hcap, hmax, hcell⟩
  · obtain rfl := List.eq_nil_of_length_eq_zero (by omega : xs.length = 0)
    go_enter Tryz.func91, Tryz.ntmps91
    go_wp2
    go_ret
    exact ⟨_, rfl, ⟨rfl, .inl ⟨rfl, rfl⟩⟩, Below.refl _ _⟩
  · obtain ⟨i0, hi, hz0, hz1, hz2⟩ := info_parts info
    have A := Lib.hid hcell
    have hl' := Lib.hid hl
    clear hcell hl
    go_enter Tryz.func91, Tryz.ntmps91
    go_wp2_with (at_builtin; refine wpList_append_own _ rfl _ _ 52 rfl W.heap.size 60 i0 (.agg #[.int .u64 0, .int .u64 0, .int .i64 0, .bool false, .bool false, .bool false, .bool false, .bool false]) 8 32 Tryz.underlying52 hi hz0 hz1 hz2 rfl (by decide) _ _ _ rfl (World.ownsRow_made W #[] 0 (Nat.le_refl _) (Nat.zero_le _) rfl) ⟨b, o, none⟩ n cap xs rfl ?qc1 ?qc2 ?qc3 ?qc4 ?qc5 ?qc6 ?_)
    case qc1 => exact hl'.out
    case qc2 =>
      intro j u hj
      have hjn : j < n * 8 := by
        have := (List.getElem?_eq_some_iff.1 hj).1
        have := hl'.out
        omega
      rw [Addr.add_lit]
      refine Lib.cell?_alloc_some _ ?_
      rw [A.out j hjn]; exact hj
    case qc3 => exact h1
    case qc4 => unfold maxLen at *; omega
    case qc5 => omega
    case qc6 => simp
    intro v' w1 hown hgrow hnil
    go_wp2
    go_ret
    refine ⟨v', rfl, by simpa using hown, ?_⟩
    exact ((Below.refl _ W).alloc (Nat.le_refl _) _).grown hgrow (by simp) (by intro k hk; simp [Value.ownBlock] at hk; omega)
end Go.Proofs.YtomeaibdedaldaaGreatDoor.ClonePage
namespace Go.Proofs.YtomeaibdedaldaaGreatDoor.LmF
open Go.RowKit Bv VaSpec Base MemL RegR Ax MemC PutC MemC3 TzC OkS SpA SpB SpC SpF SpH SpI SpJ LaA LaB LaC LaD LaE LaF LaG LiA LiB LiC LiD LiE LiF LmB DelFC
open BitsC PteSpec
set_option maxRecDepth 10000
set_option maxHeartbeats 1000000
theorem owns_le {w : World} {b b' e k n : Nat} {v : Value} {xs : List Value} (h : w.ownsRow b' e k v n xs) (hb : b ≤ b') : w.ownsRow b e k v n xs := by
  obtain ⟨h1, h2⟩ := h
  refine ⟨h1, ?_⟩
  rcases h2 with h2 | ⟨g, cap, cur, e1, h3, r⟩
  · exact .inl h2
  · exact .inr ⟨g, cap, cur, e1, Nat.le_trans hb h3, r⟩
theorem z4r {P : Program} {k : FuncId} (hk : zbx P k = true) (args : Array Value) (w : World) : (callFunc k args).run P w = .ok (.enter k args) w := by
  unfold zbx at hk
  split at hk
  · rename_i fn hf
    simp only [Bool.and_eq_true, Bool.not_eq_true'] at hk
    obtain ⟨h1, h2⟩ := hk
    have h2 : ¬ fn.name = "runtime.NumGoroutine" := by simpa using h2
    have h3 : ¬ fn.body = none := fun e => by rw [e] at h1; cases h1
    simp [callFunc, hf, h2, h3, mark]
  · cases hk
theorem zn1 (l : List Pg) (p : Pm) : keep (fun y => !zl5 p (zwr y)) l = zce l p := by
  unfold keep zce
  congr 1
  funext y
  simp
theorem z1v (p : Pm) (base pb : Nat) (w1 : World) (hG : ∀ w, Below base w1 w → GG w) (hp : pb < base) (hc : ∀ w, Below base w1 w → pb < w.heap.size ∧ ∀ i, i < 4 → w.cell? ⟨pb, i, none⟩ = [Value.bool p.r, .bool p.w, .bool p.x, .bool p.u][i]?) :
    z1t base w1 92 #[.pointer (some ⟨pb, 0, none⟩)] (fun y => !zl5 p (zwr y)) := fun w y hb => by
  obtain ⟨hlt, hcell⟩ := hc w hb
  have h := (zyp p y).2.2 (fun _ => True) w (#[pgV y] ++ #[.pointer (some ⟨pb, 0, none⟩)]) (hG w hb) (show All2 (Cm.R (en0 (fun _ => True) w)) [.ag [cu y.va, cu y.pa, ci y.lev, cb y.r, cb y.w, cb y.x, cb y.u, cb y.d], .c (.q [.bool p.r, .bool p.w, .bool p.x, .bool p.u])] [pgV y, .pointer (some ⟨pb, 0, none⟩)] from ⟨⟨#[_, _, _, _, _, _, _, _], rfl, rfl, rfl, rfl, rfl, rfl, rfl, rfl, rfl, trivial⟩, ⟨pb, 0, rfl, hlt, trivial, fun i hi => by rw [Nat.zero_add]; exact hcell i hi⟩, trivial⟩)
  refine h.mono ?_
  rintro e w' ⟨v, rfl, h1, h2⟩
  obtain rfl : v = .bool (!zl5 p (zwr y)) := h2
  exact ⟨rfl, h1⟩
set_option maxHeartbeats 4000000 in
theorem zn2 (W : World) (v : Value) (l : List Pg) (p : Pm) (hG : GG W) (hl : l.length ≤ 134217728) (hv : Sl W v l.length 8 (flP l)) :
    Calls Tryz.prog 42 #[v, .agg #[.bool p.r, .bool p.w, .bool p.x, .bool p.u]] W fun e w' => ∃ v', e = .returned v' ∧ w'.ownsRow W.heap.size 60 8 v' (zce l p).length (flP (zce l p)) ∧ Below W.heap.size W w' := by
  have h1 : ∀ u ∈ flP l, u.oneCell' = true := fun u hu => by
    obtain ⟨y, _, hy⟩ := List.mem_flatMap.1 hu
    simp only [Pg.vs, List.mem_cons, List.not_mem_nil, or_false] at hy
    rcases hy with rfl | rfl | rfl | rfl | rfl | rfl | rfl | rfl <;> rfl
  have bA : Below W.heap.size W (W.alloc (.cells #[.bool p.r, .bool p.w, .bool p.x, .bool p.u] 49)) := (Below.refl _ W).alloc (Nat.le_refl _) _
  have hvA := hv.below bA
  have hxA : Bx (W.alloc (.cells #[.bool p.r, .bool p.w, .bool p.x, .bool p.u] 49)) W.heap.size #[.bool p.r, .bool p.w, .bool p.x, .bool p.u] := Bx.new
  have hsA : (W.alloc (.cells #[.bool p.r, .bool p.w, .bool p.x, .bool p.u] 49)).heap.size = W.heap.size + 1 := by show (W.heap.push _).size = _; rw [Array.size_push]
  have hcl := ClonePage.clone_calls v l.length (flP l) _ h1 (by omega) hvA
  have hkl := zn1 l p
  obtain ⟨W1, hW1⟩ : ∃ W1, W1 = W.alloc (.cells #[.bool p.r, .bool p.w, .bool p.x, .bool p.u] 49) := ⟨_, rfl⟩
  have HW := Lib.hid hW1
  have key : ∀ w1 v1, w1.ownsRow W1.heap.size 60 8 v1 l.length (flP l) → Below W1.heap.size W1 w1 → Calls Tryz.prog 90 #[v1, .func (.func 92) #[] #[.pointer (some ⟨W.heap.size, 0, none⟩)]] w1 fun e w' => ∃ v', e = .returned v' ∧ w'.ownsRow W1.heap.size 60 8 v' (zce l p).length (flP (zce l p)) ∧ Below W1.heap.size w1 w' := by
    intro w1 v1 ho hb
    have hB1 : ∀ w, Below W1.heap.size w1 w → Below W.heap.size W w := fun w hw => by
      have := hb.trans hw
      rw [hW1] at this
      exact bA.trans (this.mono (by rw [hsA]; omega))
    have := zwj W1.heap.size w1 hb.size 92 #[.pointer (some ⟨W.heap.size, 0, none⟩)] (fun y => !zl5 p (zwr y)) (fun args w => z4r (by kernel_rfl) args w)
      (z1v p W1.heap.size W.heap.size w1 (fun w hw => GG.to _ _ hG (hB1 w hw)) (by rw [hW1, hsA]; omega) (fun w hw => by
        have hx : Bx w W.heap.size #[.bool p.r, .bool p.w, .bool p.x, .bool p.u] := by
          have h2 := hb.trans hw
          rw [hW1] at h2
          exact hxA.below h2
        exact ⟨hx.lt, fun i hi => by rw [hx.cell]; exact (Array.getElem?_toList ..).symm⟩)) v1 l.length l rfl ho
    rw [zn1] at this
    exact this
  rw [← hW1] at hcl hsA hvA hxA bA
  clear hW1
  go_enter Tryz.func42, Tryz.ntmps42
  go_wp2_with (first
    | (go_at_call 91; rw [← HW.out]; refine hcl.mono ?_; rintro e w1 ⟨v1, rfl, hown, b1⟩)
    | (go_at_call 90; refine (key _ _ hown b1).mono ?_; rintro e w2 ⟨v2, rfl, hown2, b2⟩))
  go_ret
  exact ⟨_, rfl, owns_le hown2 (by rw [hsA]; omega), bA.trans ((b1.trans b2).mono (by rw [hsA]; omega))⟩
theorem zjo (l : List Pg) (p : Pm) (hl : l.length ≤ 134217728) : Ok 42 [.c (.s l.length 8 (flP l)), .ag [cb p.r, cb p.w, cb p.x, cb p.u]] (.m (.c (.s (zce l p).length 8 (flP (zce l p))))) :=
  zb5 rfl fun A W vs hG hR => by
    obtain ⟨v1, v2, rfl, h1, h2⟩ := zug hR
    obtain ⟨vs2, rfl, h2⟩ := h2
    obtain ⟨l2⟩ := vs2
    match l2, h2 with
    | [a, b, c, d], ⟨e1, e2, e3, e4, _⟩ =>
      obtain rfl : a = .bool p.r := e1
      obtain rfl : b = .bool p.w := e2
      obtain rfl : c = .bool p.x := e3
      obtain rfl : d = .bool p.u := e4
      refine (zn2 W v1 l p hG hl h1.1).mono ?_
      rintro e w' ⟨v', rfl, h5, hb⟩
      exact ⟨_, rfl, hb, zt0 h5⟩
end Go.Proofs.YtomeaibdedaldaaGreatDoor.LmF
namespace Go.Proofs.YtomeaibdedaldaaGreatDoor.LmG
open Go.RowKit Bv VaSpec Base MemL RegR Ax MemC PutC MemC3 TzC OkS SpA SpB SpC SpF SpH SpI SpJ LaA LaB LaC LaD LaE LaF LaG LiA LiB LiC LiD LiE LiF SpD SpE SpG SpK SpN SpO RfD RlA RlB RlC LrA LrB LrC LjA LjB LjC LjF LkD LkE LmA LmB LmC LmD LmE LmF
open BitsC PteSpec
set_option maxRecDepth 10000
set_option maxHeartbeats 4000000
attribute [local irreducible] Ax.zbt
theorem zc8 {n : Nat} {k : Kr} (h : InvT n k) (hn : n ≤ 88000) (id a l : Int) (p : Pm) (ha : U a) : Ok 38 [.ag k.ce, ii id, iu a, ii l, .ag [cb p.r, cb p.w, cb p.x, cb p.u]] (.tu [.ag (prR k id a l p).1.ce, ii (prR k id a l p).2]) := by
  have hw := zh3 k id a l ha
  have hin := zze h (by omega) id a l ha
  have hmay : Ok 59 [.ag [cb p.r, cb p.w, cb p.x, cb p.u]] (.m (ib (zcy p))) := zu2 p
  obtain ⟨R, hR⟩ : ∃ R, R = prR k id a l p := ⟨_, rfl⟩
  rw [← hR]
  unfold prR at hR
  by_cases c0 : (zam k id a l).2.2 ≠ 0
  · rw [if_pos c0] at hR
    generalize zam k id a l = w at *
    subst hR
    refine zad 89 Tryz.func38 rfl rfl rfl rfl ?_ GG.to
    intro W A hG
    repeat (first | (refine zah rfl ?_; first | refine zai ?_ | refine gdr (zaa rfl rfl rfl (hw) (by kernel_rfl)) ?_) | (refine hK _ ?_; clear hK K) | refine zac rfl ?_ | exact zaj (show zav _ _ _ = some _ by kernel_rfl) | refine zaf rfl rfl ?_ | refine zag ?_ | refine zab (fun K hK => ?_))
  rw [if_neg c0] at hR
  replace c0 : (zam k id a l).2.2 = 0 := by omega
  obtain ⟨lv, hT, hs, hr⟩ := h.t
  obtain ⟨w1, w2, w3, w4⟩ := zbw (id := id) (a := a) (l := l) h.l c0
  obtain ⟨z1, z2⟩ := h.top (a := a) (id := id) (l := l) c0 hs hr
  have hlive : id = -1 ∨ (id ≠ -1 ∧ zbc k id = true) := by
    rcases zjj h.l c0 with ⟨_, _, e⟩ | ⟨e1, e2, _⟩
    · exact .inl e
    · exact .inr ⟨e2, e1⟩
  have hlev := zwa h c0
  have hlf := z1s h c0
  have hfb0 := znv (zfq c0)
  have hbm := zl3 w1 (zfq c0)
  rw [c0] at hw
  generalize (zam k id a l).1 = top at *
  generalize (zam k id a l).2.1 = lw at *
  have b1 := hT.bd
  have b2 := hT.bp
  have bt := w2.1
  have hml := h.l.ml
  have hfl := h.l.fl
  have hpb := h.l.pb
  have hpm := h.l.pm
  by_cases cp : zcy p = false
  · rw [if_pos cp] at hR
    rw [cp] at hmay
    subst hR
    refine zad 89 Tryz.func38 rfl rfl rfl rfl ?_ GG.to
    intro W A hG
    repeat (first | (refine zah rfl ?_; first | refine zai ?_ | refine gdr (zaa rfl rfl rfl (hw) (by kernel_rfl)) ?_ | refine gdr (zaa rfl rfl rfl (hmay) (by kernel_rfl)) ?_) | (refine hK _ ?_; clear hK K) | refine zac rfl ?_ | exact zaj (show zav _ _ _ = some _ by kernel_rfl) | refine zaf rfl rfl ?_ | refine zae rfl rfl ?_ | refine zag ?_ | refine zab (fun K hK => ?_))
  rw [if_neg cp] at hR
  replace cp : zcy p = true := by simpa using cp
  rw [cp] at hmay
  by_cases c1 : (inR k id a l).length = 0
  · rw [if_pos c1] at hR
    rw [List.length_eq_zero_iff.1 c1] at hin
    clear c1
    subst hR
    refine zad 89 Tryz.func38 rfl rfl rfl rfl ?_ GG.to
    intro W A hG
    repeat (first | (refine zah rfl ?_; first | refine zai ?_ | refine gdr (zaa rfl rfl rfl (hw) (by kernel_rfl)) ?_ | refine gdr (zaa rfl rfl rfl (hmay) (by kernel_rfl)) ?_ | refine gdr (zaa rfl rfl rfl (hin) (by kernel_rfl)) ?_) | (refine hK _ ?_; clear hK K) | refine zac rfl ?_ | exact zaj (show zav _ _ _ = some _ by kernel_rfl) | refine zaf rfl rfl ?_ | refine zae rfl rfl ?_ | refine zag ?_ | refine zab (fun K hK => ?_))
  rw [if_neg c1] at hR
  replace hlev := hlev c1
  replace hlf := hlf c1
  generalize inR k id a l = IL at *
  obtain ⟨m, rfl⟩ := Int.eq_ofNat_of_zero_le (show 0 ≤ lw by omega)
  unfold za4 at hlf
  rw [Int.toNat_natCast] at hlf
  have hto := z3n top a l m k.m k.pf lv hT w2 h.l.sh z1 ha (by omega) w1.1 w3 (by omega) _ rfl
  have htl := zyq a l top m w1.1 w3 (by omega) m k.m k.pf lv hT w2 h.l.sh z1 hlf
  obtain ⟨lv', P⟩ := zsz a l top m w1.1 w3 (by omega) m k.m k.pf lv hT w2 h.l.sh z1
  unfold unT at hR hlev
  rw [Int.toNat_natCast] at hR hlev
  generalize toN k.sz k.cd a l top m m k.m k.pf = T at *
  obtain ⟨xs, f, ⟨t, lt⟩, e⟩ := T
  obtain ⟨l', e1, e2, e3, e4, e5⟩ := P.p
  replace e1 : lt = (l' : Int) := e1
  subst e1
  have y4 : Al k.cd k.cp f t := e4
  have y5 : lv' t = (l' : Int) := e5
  by_cases c5 : e ≠ 0
  · rw [if_pos c5] at hR
    rw [if_neg (show ¬ (xs, f, (t, (l' : Int)), e).2.2.2 = 0 from c5)] at hto
    replace hto : Ok 74 [zbh k.sz k.m, .ag [cu k.cd, ci k.cp, cu k.pf], iu top, ii m, iu a, ii l] (.tu [zbh k.sz k.m, .ag [cu k.cd, ci k.cp, cu k.pf], .ag (zbg 0 0 zP), ii e]) := hto
    rw [← hpb, ← hpm] at hto
    replace hR : R = (k, e) := hR
    subst hR
    refine zad 89 Tryz.func38 rfl rfl rfl rfl ?_ GG.to
    intro W A hG
    repeat (first | (refine zah rfl ?_; first | refine zai ?_ | refine gdr (zaa rfl rfl rfl (hw) (by kernel_rfl)) ?_ | refine gdr (zaa rfl rfl rfl (hmay) (by kernel_rfl)) ?_ | refine gdr (zaa rfl rfl rfl (hin) (by kernel_rfl)) ?_ | refine gdr (zaa rfl rfl rfl (hto) (by kernel_rfl)) ?_) | (refine hK _ ?_; clear hK K) | refine zac rfl ?_ | exact zaj (show zav _ _ _ = some _ by kernel_rfl) | refine zaf rfl rfl ?_ | refine zae rfl rfl ?_ | refine zag ?_ | refine zak ?_ | refine zab (fun K hK => ?_))
  rw [if_neg c5] at hR
  obtain rfl : e = 0 := by omega
  have hll : (l' : Int) = l := hlev rfl
  replace htl : zaw (atM k.sz xs t (idx a (l' : Int))) = true ∨ lkP (atM k.sz xs t (idx a (l' : Int))) = true := htl rfl
  clear hlev hlf
  rw [if_pos (show (xs, f, (t, (l' : Int)), (0 : Int)).2.2.2 = 0 from rfl)] at hto
  replace hto : Ok 74 [zbh k.sz k.m, .ag [cu k.cd, ci k.cp, cu k.pf], iu top, ii m, iu a, ii l] (.tu [zbh k.sz xs, .ag [cu k.cd, ci k.cp, cu f], .ag (zbg t (l' : Int) (atM k.sz xs t (idx a (l' : Int)))), ii 0]) := hto
  have hPt : TI k.cd k.cp k.sz xs f k.sh lv' := P.t
  have hi := idx_bd a (l' : Int)
  have hxl : xs.length ≤ k.m.length + 513 * m := P.n
  have hqp := zc7 (xs := xs) k.sz t (idx a (l' : Int))
  have hbl : VaSpec.base a (l' : Int) = a := by rw [hll]; exact hfb0
  have hub := zl2 k.sz xs (l' : Int) (atM k.sz xs t (idx a (l' : Int))) a ha (by omega)
  replace hR : R = (zdi { k with m := prM k.sz (xs, f, (t, (l' : Int)), (0 : Int)) a p, pf := f } (zfy k id (zce (zau k.sz xs (l' : Int) (atM k.sz xs t (idx a (l' : Int))) a) p)), 0) := hR
  have hpr : prM k.sz (xs, f, (t, (l' : Int)), (0 : Int)) a p = if zaw (atM k.sz xs t (idx a (l' : Int))) then zn0 k.sz xs t (idx a (l' : Int)) p else zp6 k.sz ((l' : Int) - 1).toNat (atM k.sz xs t (idx a (l' : Int))).ppn p (zba k.sz xs ((l' : Int) - 1).toNat (atM k.sz xs t (idx a (l' : Int))).ppn a) xs := rfl
  have hls := zjo (zau k.sz xs (l' : Int) (atM k.sz xs t (idx a (l' : Int))) a) p (by omega)
  have hlen : (zce (zau k.sz xs (l' : Int) (atM k.sz xs t (idx a (l' : Int))) a) p).length ≤ 262144 := Nat.le_trans (List.length_filter_le ..) hub.1
  have hfb := zh5 k id (zce (zau k.sz xs (l' : Int) (atM k.sz xs t (idx a (l' : Int))) a) p)
  have hfU := zzf k id (zce (zau k.sz xs (l' : Int) (atM k.sz xs t (idx a (l' : Int))) a) p) (fun y hy => hub.2 y (List.mem_filter.1 hy).1)
  have hfe : ∀ m4, Ok 73 [.ag ({ k with m := m4, pf := f } : Kr).ce, ii id, .c (.s (zce (zau k.sz xs (l' : Int) (atM k.sz xs t (idx a (l' : Int))) a) p).length 8 (flP (zce (zau k.sz xs (l' : Int) (atM k.sz xs t (idx a (l' : Int))) a) p)))] (.m (.c (.s (zfy k id (zce (zau k.sz xs (l' : Int) (atM k.sz xs t (idx a (l' : Int))) a) p)).length 4 (flF (zfy k id (zce (zau k.sz xs (l' : Int) (atM k.sz xs t (idx a (l' : Int))) a) p)))))) := fun m4 => by
    rcases hlive with e | ⟨e, e'⟩
    · exact zv8 { k with m := m4, pf := f } id _ e (by omega)
    · exact zv9 { k with m := m4, pf := f } id _ e e' (by omega)
  have hsf := fun m4 => zi3 { k with m := m4, pf := f } h.l.ts h.l.cs.2 (zfy k id (zce (zau k.sz xs (l' : Int) (atM k.sz xs t (idx a (l' : Int))) a) p)) hfU (by omega) (by show k.fs.length ≤ _; omega)
  rcases htl with h1 | h1
  · rw [if_pos h1] at hpr
    have hPL : zau k.sz xs (l' : Int) (atM k.sz xs t (idx a (l' : Int))) a = [⟨VaSpec.base a (l' : Int), (atM k.sz xs t (idx a (l' : Int))).ppn * 4096, (l' : Int), (atM k.sz xs t (idx a (l' : Int))).r, (atM k.sz xs t (idx a (l' : Int))).w, (atM k.sz xs t (idx a (l' : Int))).x, (atM k.sz xs t (idx a (l' : Int))).u, (atM k.sz xs t (idx a (l' : Int))).d⟩] := by unfold zau; rw [if_pos h1, hbl]
    have hun := zwd hPt (by omega) (t := t) ha cp (l' : Int) (by omega) (by omega) h1 _ rfl _ rfl
    rw [← hpr] at hun
    replace hun : zbm Tryz.prog GG 86 [(2000, pcC k.sz xs p, pcC k.sz (prM k.sz (xs, f, (t, (l' : Int)), (0 : Int)) a p) p)] [.c (.p 2000 0), .ag (zbg t (l' : Int) (atM k.sz xs t (idx a (l' : Int)))), iu a] (.m (.c (.s (zau k.sz xs (l' : Int) (atM k.sz xs t (idx a (l' : Int))) a).length 8 (flP (zau k.sz xs (l' : Int) (atM k.sz xs t (idx a (l' : Int))) a))))) := by rw [hPL]; exact hun
    clear hPL
    clear hpr hub hfb hfU hlen
    generalize prM k.sz (xs, f, (t, (l' : Int)), (0 : Int)) a p = m4 at *
    generalize zfy k id (zce (zau k.sz xs (l' : Int) (atM k.sz xs t (idx a (l' : Int))) a) p) = FL at *
    generalize zce (zau k.sz xs (l' : Int) (atM k.sz xs t (idx a (l' : Int))) a) p = LL at *
    generalize zau k.sz xs (l' : Int) (atM k.sz xs t (idx a (l' : Int))) a = PL at *
    generalize atM k.sz xs t (idx a (l' : Int)) = q at *
    rw [← hpb, ← hpm] at hto
    replace hfe := hfe m4
    replace hsf := hsf m4
    subst hR
    refine zad 89 Tryz.func38 rfl rfl rfl rfl ?_ GG.to
    intro W A hG
    repeat (first | (refine zah rfl ?_; first | refine zai ?_ | refine gdr (zaa rfl rfl rfl (hw) (by kernel_rfl)) ?_ | refine gdr (zaa rfl rfl rfl (hmay) (by kernel_rfl)) ?_ | refine gdr (zaa rfl rfl rfl (hin) (by kernel_rfl)) ?_ | refine gdr (zaa rfl rfl rfl (hto) (by kernel_rfl)) ?_ | refine gdr (zd7 (fun _ => 69) hun rfl rfl (by kernel_rfl) rfl ⟨rfl, trivial⟩ (by kernel_rfl)) ?_ | refine gdr (zaa rfl rfl rfl (hls) (by kernel_rfl)) ?_ | refine gdr (zaa rfl rfl rfl (hfe) (by kernel_rfl)) ?_ | refine gdr (zaa rfl rfl rfl (hsf) (by kernel_rfl)) ?_) | (refine hK _ ?_; clear hK K) | refine zac rfl ?_ | refine zas (by kernel_rfl) (by kernel_rfl) rfl ?_ | exact zaj (show zav _ _ _ = some _ by kernel_rfl) | refine zae rfl rfl ?_ | refine zag ?_ | refine zak ?_ | refine zab (fun K hK => ?_))
  · obtain ⟨k1, k2, k3, k4⟩ := zhr hPt hi h1
    have hnl : zaw (atM k.sz xs t (idx a (l' : Int))) = false := (zbv h1).2.2
    have hkl : za9 (atM k.sz xs t (idx a (l' : Int))) = true := (zbv h1).1
    obtain ⟨mm, rfl⟩ : ∃ mm : Nat, l' = mm + 1 := ⟨l' - 1, by omega⟩
    have e9 : (((mm + 1 : Nat) : Int) - 1).toNat = mm := by omega
    rw [if_neg (by rw [hnl]; simp), e9] at hpr
    have hPL : zau k.sz xs ((mm + 1 : Nat) : Int) (atM k.sz xs t (idx a ((mm + 1 : Nat) : Int))) a = zba k.sz xs mm (atM k.sz xs t (idx a ((mm + 1 : Nat) : Int))).ppn a := by unfold zau; rw [if_neg (by rw [hnl]; simp), if_pos hkl, e9]
    have hbm2 : m39 a % (512 * VaSpec.sz (mm : Int)) = 0 := zrn (by omega) (by rw [hll]; exact hbm)
    have hpg : Ok 48 [zbh k.sz xs, iu (atM k.sz xs t (idx a ((mm + 1 : Nat) : Int))).ppn, ii mm, iu a] (.m (.c (.s (zau k.sz xs ((mm + 1 : Nat) : Int) (atM k.sz xs t (idx a ((mm + 1 : Nat) : Int))) a).length 8 (flP (zau k.sz xs ((mm + 1 : Nat) : Int) (atM k.sz xs t (idx a ((mm + 1 : Nat) : Int))) a))))) := by
      rw [hPL]
      rcases (by omega : mm = 0 ∨ mm = 1) with rfl | rfl
      · exact zpj k.sz xs hPt.s hPt.u _ _ hqp ha
      · exact zln k.sz xs hPt.s hPt.u _ _ hqp ha
    have k5 : lv' (atM k.sz xs t (idx a ((mm + 1 : Nat) : Int))).ppn = (mm : Int) := by rw [k3, y5]; omega
    have hun := zwe hPt (by omega) (t := t) ha cp mm (by omega) (atM k.sz xs t (idx a ((mm + 1 : Nat) : Int))) hqp hnl a hbl.symm ha hbm2 k4 k5 _ hPL (by omega) hub.2 hpg _ rfl
    replace hun : zbm Tryz.prog GG 86 [(2000, pcC k.sz xs p, pcC k.sz (prM k.sz (xs, f, (t, ((mm + 1 : Nat) : Int)), (0 : Int)) a p) p)] [.c (.p 2000 0), .ag (zbg t ((mm + 1 : Nat) : Int) (atM k.sz xs t (idx a ((mm + 1 : Nat) : Int)))), iu a] (.m (.c (.s (zau k.sz xs ((mm + 1 : Nat) : Int) (atM k.sz xs t (idx a ((mm + 1 : Nat) : Int))) a).length 8 (flP (zau k.sz xs ((mm + 1 : Nat) : Int) (atM k.sz xs t (idx a ((mm + 1 : Nat) : Int))) a))))) := by rw [hpr, ← hPL]; exact hun
    clear hPL hpg hnl hkl h1 k1 k2 k3 k4 k5
    clear hpr hub hfb hfU hlen
    generalize prM k.sz (xs, f, (t, ((mm + 1 : Nat) : Int)), (0 : Int)) a p = m4 at *
    generalize zfy k id (zce (zau k.sz xs ((mm + 1 : Nat) : Int) (atM k.sz xs t (idx a ((mm + 1 : Nat) : Int))) a) p) = FL at *
    generalize zce (zau k.sz xs ((mm + 1 : Nat) : Int) (atM k.sz xs t (idx a ((mm + 1 : Nat) : Int))) a) p = LL at *
    generalize zau k.sz xs ((mm + 1 : Nat) : Int) (atM k.sz xs t (idx a ((mm + 1 : Nat) : Int))) a = PL at *
    generalize atM k.sz xs t (idx a ((mm + 1 : Nat) : Int)) = q at *
    rw [← hpb, ← hpm] at hto
    replace hfe := hfe m4
    replace hsf := hsf m4
    subst hR
    refine zad 89 Tryz.func38 rfl rfl rfl rfl ?_ GG.to
    intro W A hG
    repeat (first | (refine zah rfl ?_; first | refine zai ?_ | refine gdr (zaa rfl rfl rfl (hw) (by kernel_rfl)) ?_ | refine gdr (zaa rfl rfl rfl (hmay) (by kernel_rfl)) ?_ | refine gdr (zaa rfl rfl rfl (hin) (by kernel_rfl)) ?_ | refine gdr (zaa rfl rfl rfl (hto) (by kernel_rfl)) ?_ | refine gdr (zd7 (fun _ => 69) hun rfl rfl (by kernel_rfl) rfl ⟨rfl, trivial⟩ (by kernel_rfl)) ?_ | refine gdr (zaa rfl rfl rfl (hls) (by kernel_rfl)) ?_ | refine gdr (zaa rfl rfl rfl (hfe) (by kernel_rfl)) ?_ | refine gdr (zaa rfl rfl rfl (hsf) (by kernel_rfl)) ?_) | (refine hK _ ?_; clear hK K) | refine zac rfl ?_ | refine zas (by kernel_rfl) (by kernel_rfl) rfl ?_ | exact zaj (show zav _ _ _ = some _ by kernel_rfl) | refine zae rfl rfl ?_ | refine zag ?_ | refine zak ?_ | refine zab (fun K hK => ?_))
end Go.Proofs.YtomeaibdedaldaaGreatDoor.LmG
namespace Go.Proofs.YtomeaibdedaldaaGreatDoor.LaI
open Go.RowKit Bv VaSpec Base MemL RegR Ax MemC PutC MemC3 TzC OkS SpA SpB SpC SpD SpE SpF SpG SpH SpI SpJ SpK SpN RfD RfE RfJ RfK LaA LaB LaC LaD LaE LaF LaG LaH RlB RlC
open BitsC PteSpec
set_option maxRecDepth 10000
set_option maxHeartbeats 1000000
attribute [local irreducible] Ax.zbt
noncomputable def bgI (a b c : Int) (n : Nat) : Nat → Kr
  | 0 => zs3 a b c n
  | i + 1 => (zbu (bgI a b c n i)).1
def bgH (k : Kr) (i : Nat) : St := St.of [(2, .m (.c (.p 2 0))), (3, .m (.c (.p 3 0))), (4, .m (.c (.p 4 0))), (6, .m (.c (.p 6 0))), (7, .m (ii i))] [(2, .live (.box zK)), (3, .live (.box zK)), (4, .live (.box k.ce)), (6, .live (.box k.ce))]
theorem zwk {a b c : Int} {n : Nat} (h : zf9 a b c n = true) : ∀ i, Inv i (bgI a b c n i)
  | 0 => zlm h
  | i + 1 => zef (zwk h i)
end Go.Proofs.YtomeaibdedaldaaGreatDoor.LaI
namespace Go.Proofs.YtomeaibdedaldaaGreatDoor.LmH
open Go.RowKit Bv VaSpec Base MemL RegR Ax MemC PutC MemC3 TzC OkS SpA SpB SpC SpF SpH SpI SpJ LaA LaB LaC LaD LaE LaF LaG LiA LiB LiC LiD LiE LiF SpE SpG SpK SpO SpL SpN RfA RfB RfC RfD RfE RfJ RfK RlA RlB RlC LaH LaI LjA LjB LjF LiF LkE LmA LmB LmE LmF LmG
open BitsC PteSpec
set_option maxRecDepth 10000
set_option maxHeartbeats 1000000
attribute [local irreducible] Ax.zbt
theorem zn3 (a b c : Int) (n : Nat) (h : zf9 a b c n = true) : Ok 36 [zlk a b c n] (.tu [.ag (bgK a b c n).ce, .ag (bgK a b c n).ce]) := by
  have hn := z0z a b c n h
  have hr := z1d a b c n h
  refine zad 33 Tryz.func36 rfl rfl rfl rfl ?_ GG.to
  intro W A hG
  repeat (first | (refine zah rfl ?_; first | refine zai ?_ | refine gdr (zaa rfl rfl rfl (hn) (by kernel_rfl)) ?_ | refine gdr (zaa rfl rfl rfl (hr) (by kernel_rfl)) ?_) | (refine hK _ ?_; clear hK K) | refine zac rfl ?_ | refine zag ?_ | refine zab (fun K hK => ?_))
  refine za1 (α := Nat) (fun i => i ≤ 2) (fun i => bgH (bgI a b c n i) i) (fun i => 2 - i) 0 (by omega) (zan _ _ ⟨by kernel_rfl, by kernel_rfl, by kernel_rfl, by kernel_rfl, by kernel_rfl, trivial⟩ ⟨by kernel_rfl, by kernel_rfl, by kernel_rfl, by kernel_rfl, trivial⟩ (by kernel_rfl)) ?_
  intro i hi
  show Aw _ _ _ _ (bgH (bgI a b c n i) i)
  unfold bgH
  by_cases hlt : i < 2
  · have hk := zwk h i
    have hc := zsq hk (by omega)
    have hd := zpu hk (by omega)
    have e : bgI a b c n (i + 1) = (zbu (bgI a b c n i)).1 := rfl
    generalize zbu (bgI a b c n i) = rr at *
    repeat (first | (refine zah rfl ?_; first | refine zai ?_ | refine gdr (zaa rfl rfl rfl (hc) (by kernel_rfl)) ?_ | refine gdr (zaa rfl rfl rfl (hd) (by kernel_rfl)) ?_) | (refine hK _ ?_; clear hK K) | refine zac rfl ?_ | refine zaf rfl rfl ?_ | refine zag ?_ | refine zak ?_ | refine zab (fun K hK => ?_))
    refine ⟨i + 1, by omega, by omega, ?_⟩
    rw [e]
    exact zan _ _ ⟨by kernel_rfl, by kernel_rfl, by kernel_rfl, by kernel_rfl, by kernel_rfl, trivial⟩ ⟨by kernel_rfl, by kernel_rfl, by kernel_rfl, by kernel_rfl, trivial⟩ (by kernel_rfl)
  · obtain rfl : i = 2 := by omega
    rw [show bgI a b c n 2 = bgK a b c n from rfl]
    repeat (first | (refine zah rfl ?_; first | refine zai ?_) | (refine hK _ ?_; clear hK K) | (rename_i K1 hK1; refine hK1 _ ?_; clear hK hK1; clear K) | refine zac rfl ?_ | refine zas (by kernel_rfl) (by kernel_rfl) rfl ?_ | exact zaj (show zav _ _ _ = some _ by kernel_rfl) | refine zae rfl rfl ?_ | refine zax ?_ | refine zab (fun K hK => ?_))
structure Dg where
  k : Int
  id : Int
  va : Int
  pa : Int
  lev : Int
  p : Pm
def Dg.ce (d : Dg) : List Ce := [i8 d.k, ci d.id, cu d.va, cu d.pa, ci d.lev] ++ d.p.ce
def Dg.vs (d : Dg) : List Value := [.int .u8 d.k, .int .i64 d.id, .int .u64 d.va, .int .u64 d.pa, .int .i64 d.lev, .bool d.p.r, .bool d.p.w, .bool d.p.x, .bool d.p.u]
def UG (d : Dg) : Prop := (0 ≤ d.k ∧ d.k < 256) ∧ U d.va ∧ U d.pa
def dgR (k : Kr) (d : Dg) : Kr × Int := if d.k % 3 = 1 then unR k d.id d.va d.lev else if d.k % 3 = 2 then prR k d.id d.va d.lev d.p else zvd k d.id d.va d.pa d.lev d.p
theorem z1w {n : Nat} {k : Kr} {d : Dg} (h : InvT n k) (hd : UG d) : InvT (n + 1100) (dgR k d).1 := by
  unfold dgR
  split
  · exact zzd h
  · split
    · exact zwg h
    · have hm := zrb (id := d.id) (a := d.va) (pa := d.pa) (l := d.lev) (p := d.p) h hd.2.2
      exact ⟨{ hm.l with ml := by have := hm.l.ml; omega, fl := by have := hm.l.fl; omega }, hm.t⟩
theorem z3t {n : Nat} {k : Kr} {d : Dg} (h : InvT n k) (hn : n ≤ 88000) (hd : UG d) : Ok 37 [.ag k.ce, .ag d.ce] (.tu [.ag (dgR k d).1.ce, ii (dgR k d).2]) := by
  obtain ⟨kd, id, va, pa, lev, p⟩ := d
  obtain ⟨⟨h0, h9⟩, h1, h2⟩ := hd
  replace h0 : 0 ≤ kd := h0
  replace h9 : kd < 256 := h9
  obtain ⟨R, hR⟩ : ∃ R, R = dgR k ⟨kd, id, va, pa, lev, p⟩ := ⟨_, rfl⟩
  rw [← hR]
  unfold Dg.ce
  unfold dgR at hR
  by_cases c1 : kd % 3 = 1
  · have hu := zjl h hn id va lev h1
    rw [if_pos c1] at hR
    replace hR : R = unR k id va lev := hR
    rw [← hR] at hu
    refine zad 50 Tryz.func37 rfl rfl rfl rfl ?_ GG.to
    intro W A hG
    repeat (first | (refine zah rfl ?_; first | refine zai ?_ | refine gdr (zaa rfl rfl rfl (hu) (by kernel_rfl)) ?_) | (refine hK _ ?_; clear hK K) | refine zac rfl ?_ | exact zaj (show zav _ _ _ = some _ by kernel_rfl) | refine zaf rfl rfl ?_ | refine zab (fun K hK => ?_))
  rw [if_neg c1] at hR
  by_cases c2 : kd % 3 = 2
  · have hu := zc8 h hn id va lev p h1
    rw [if_pos c2] at hR
    replace hR : R = prR k id va lev p := hR
    rw [← hR] at hu
    refine zad 50 Tryz.func37 rfl rfl rfl rfl ?_ GG.to
    intro W A hG
    repeat (first | (refine zah rfl ?_; first | refine zai ?_ | refine gdr (zaa rfl rfl rfl (hu) (by kernel_rfl)) ?_) | (refine hK _ ?_; clear hK K) | refine zac rfl ?_ | exact zaj (show zav _ _ _ = some _ by kernel_rfl) | refine zaf rfl rfl ?_ | refine zae rfl rfl ?_ | refine zak ?_ | refine zab (fun K hK => ?_))
  rw [if_neg c2] at hR
  have hu := zvf h.l (by omega) id va pa lev p h1 h2
  replace hR : R = zvd k id va pa lev p := hR
  rw [← hR] at hu
  refine zad 50 Tryz.func37 rfl rfl rfl rfl ?_ GG.to
  intro W A hG
  repeat (first | (refine zah rfl ?_; first | refine zai ?_ | refine gdr (zaa rfl rfl rfl (hu) (by kernel_rfl)) ?_) | (refine hK _ ?_; clear hK K) | refine zac rfl ?_ | exact zaj (show zav _ _ _ = some _ by kernel_rfl) | refine zae rfl rfl ?_ | refine zak ?_ | refine zab (fun K hK => ?_))
def gB : Kr := kf dA [⟨true, 20480, true, 1⟩]
def gC : Kr := kf cA [⟨true, 20480, true, 1⟩]
def pz : Pm := ⟨false, false, false, false⟩
theorem gP1 : prR cA 0 20480 0 rr = (gB, 0) := by kernel_rfl
theorem gP2 : prR gB 0 0 1 rw2 = (gC, 0) := by kernel_rfl
theorem gP3 : prR gB 0 24576 0 rr = (gB, 7) := by kernel_rfl
theorem gP4 : prR gB 0 24576 0 pz = (gB, 5) := by kernel_rfl
theorem gA : InvT 5 cA := by have := zrb (id := 0) (a := 20480) (pa := 4096) (l := 0) (p := rw2) t2 ⟨by omega, by omega⟩; rwa [mA] at this
theorem gBi : InvT 1105 gB := by have := zwg (id := 0) (a := 20480) (l := 0) (p := rr) gA; rwa [gP1] at this
theorem gL : zvb gB 0 = [⟨20480, 4096, 0, true, false, false, false, false⟩] := by
  unfold zvb
  rw [if_neg (by decide), if_neg (by decide)]
  kernel_rfl
set_option maxHeartbeats 8000000 in
theorem zjp : Ok 35 [] (.m (ib true)) := by
  have hN : Ok 36 [zlk 4 8 2 1] (.tu [.ag c2.ce, .ag c2.ce]) := by rw [← bg2]; exact zn3 4 8 2 1 (by decide)
  have hA := zvf t2.l (by omega) 0 20480 4096 0 rw2 ⟨by omega, by omega⟩ ⟨by omega, by omega⟩
  rw [mA] at hA
  have hB := zc8 gA (by omega) 0 20480 0 rr ⟨by omega, by omega⟩
  rw [gP1] at hB
  have hC := zc8 gBi (by omega) 0 0 1 rw2 ⟨by omega, by omega⟩
  rw [gP2] at hC
  have hF := zc8 gBi (by omega) 0 24576 0 rr ⟨by omega, by omega⟩
  rw [gP3] at hF
  have hD := zc8 gBi (by omega) 0 24576 0 pz ⟨by omega, by omega⟩
  rw [gP4] at hD
  have hL := zxz gBi.l (by omega) 0
  rw [gL] at hL
  replace hL : Ok 14 [.ag gB.ce, ii 0] (.m (.c (.s 1 8 (flP [⟨20480, 4096, 0, true, false, false, false, false⟩])))) := hL
  have hS := zqz [⟨true, 20480, true, 1⟩] (by decide)
  have hZ := zjo [⟨0, 0, 0, true, true, false, false, false⟩, ⟨0, 0, 0, true, false, false, false, false⟩] rr (by decide)
  rw [show zce [⟨0, 0, 0, true, true, false, false, false⟩, ⟨0, 0, 0, true, false, false, false, false⟩] rr = [⟨0, 0, 0, true, true, false, false, false⟩] from by kernel_rfl] at hZ
  replace hZ : Ok 42 [.c (.s 2 8 (flP [⟨0, 0, 0, true, true, false, false, false⟩, ⟨0, 0, 0, true, false, false, false, false⟩])), .ag [cb true, cb false, cb false, cb false]] (.m (.c (.s 1 8 (flP [⟨0, 0, 0, true, true, false, false, false⟩])))) := hZ
  have hx : ((flP [⟨20480, 4096, 0, true, false, false, false, false⟩]).drop ((0 : Int).toNat * 8)).take 8 = [.int .u64 20480, .int .u64 4096, .int .i64 0, .bool true, .bool false, .bool false, .bool false, .bool false] := rfl
  have he : ∀ w, (Op.equalIn 10000 49 (.agg #[.bool true, .bool false, .bool false, .bool false]) (.agg #[.bool true, .bool false, .bool false, .bool false])).run Tryz.prog w = .ok true w := fun w => by kernel_rfl
  refine zad 113 Tryz.func35 rfl rfl rfl rfl ?_ GG.to
  intro W A hG
  repeat (first | (refine zah rfl ?_; first | refine zai ?_) | refine zac rfl ?_ | refine zab (fun K hK => ?_))
  first
    | (refine hK _ ?_; clear hK K)
    | (rename_i K1 hK1; refine hK1 _ ?_; clear hK hK1; clear K)
    | (rename_i K1 hK1; refine hK1 _ ?_; clear hK1)
  repeat (first | (refine zah rfl ?_; first | refine zai ?_ | refine gdr (zaa rfl rfl rfl (hN) (by kernel_rfl)) ?_) | refine zac rfl ?_ | refine zab (fun K hK => ?_))
  first
    | (refine hK _ ?_; clear hK K)
    | (rename_i K1 hK1; refine hK1 _ ?_; clear hK hK1; clear K)
    | (rename_i K1 hK1; refine hK1 _ ?_; clear hK1)
  refine zc0 (zan [(1, .m (.c (.p 1 0)))] [(1, .live (.box c2.ce))] ⟨by kernel_rfl, trivial⟩ ⟨by kernel_rfl, trivial⟩ (by kernel_rfl)) ?_
  repeat (first | (refine zah rfl ?_; first | refine zai ?_) | refine zac rfl ?_ | refine zab (fun K hK => ?_))
  first
    | (refine hK _ ?_; clear hK K)
    | (rename_i K1 hK1; refine hK1 _ ?_; clear hK hK1; clear K)
    | (rename_i K1 hK1; refine hK1 _ ?_; clear hK1)
  refine zc0 (zan [(1, .m (.c (.p 1 0))), (3, .m (.c (.p 3 0)))] [(1, .live (.box c2.ce)), (3, .live (.box rw2.ce))] ⟨by kernel_rfl, by kernel_rfl, trivial⟩ ⟨by kernel_rfl, by kernel_rfl, trivial⟩ (by kernel_rfl)) ?_
  repeat (first | (refine zah rfl ?_; first | refine zai ?_) | refine zac rfl ?_ | refine zab (fun K hK => ?_))
  first
    | (refine hK _ ?_; clear hK K)
    | (rename_i K1 hK1; refine hK1 _ ?_; clear hK hK1; clear K)
    | (rename_i K1 hK1; refine hK1 _ ?_; clear hK1)
  refine zc0 (zan [(1, .m (.c (.p 1 0))), (3, .m (.c (.p 3 0))), (4, .m (.c (.p 4 0)))] [(1, .live (.box c2.ce)), (3, .live (.box rw2.ce)), (4, .live (.box rr.ce))] ⟨by kernel_rfl, by kernel_rfl, by kernel_rfl, trivial⟩ ⟨by kernel_rfl, by kernel_rfl, by kernel_rfl, trivial⟩ (by kernel_rfl)) ?_
  repeat (first | (refine zah rfl ?_; first | refine zai ?_ | refine gdr (zaa rfl rfl rfl (hA) (by kernel_rfl)) ?_) | refine zac rfl ?_ | refine zab (fun K hK => ?_))
  first
    | (refine hK _ ?_; clear hK K)
    | (rename_i K1 hK1; refine hK1 _ ?_; clear hK hK1; clear K)
    | (rename_i K1 hK1; refine hK1 _ ?_; clear hK1)
  refine zc0 (zan [(1, .m (.c (.p 1 0))), (3, .m (.c (.p 3 0))), (4, .m (.c (.p 4 0))), (5, .m (.c (.p 5 0)))] [(1, .live (.box c2.ce)), (3, .live (.box rw2.ce)), (4, .live (.box rr.ce)), (5, .live (.box cA.ce))] ⟨by kernel_rfl, by kernel_rfl, by kernel_rfl, by kernel_rfl, trivial⟩ ⟨by kernel_rfl, by kernel_rfl, by kernel_rfl, by kernel_rfl, trivial⟩ (by kernel_rfl)) ?_
  repeat (first | (refine zah rfl ?_; first | refine zai ?_ | refine gdr (zaa rfl rfl rfl (hB) (by kernel_rfl)) ?_) | refine zac rfl ?_ | refine zab (fun K hK => ?_))
  first
    | (refine hK _ ?_; clear hK K)
    | (rename_i K1 hK1; refine hK1 _ ?_; clear hK hK1; clear K)
    | (rename_i K1 hK1; refine hK1 _ ?_; clear hK1)
  refine zc0 (zan [(1, .m (.c (.p 1 0))), (3, .m (.c (.p 3 0))), (4, .m (.c (.p 4 0))), (5, .m (.c (.p 5 0))), (7, .m (.c (.p 7 0))), (8, .m (ii 0))] [(1, .live (.box c2.ce)), (3, .live (.box rw2.ce)), (4, .live (.box rr.ce)), (5, .live (.box cA.ce)), (7, .live (.box gB.ce))] ⟨by kernel_rfl, by kernel_rfl, by kernel_rfl, by kernel_rfl, by kernel_rfl, by kernel_rfl, trivial⟩ ⟨by kernel_rfl, by kernel_rfl, by kernel_rfl, by kernel_rfl, by kernel_rfl, trivial⟩ (by kernel_rfl)) ?_
  repeat (first | (refine zah rfl ?_; first | refine zai ?_ | refine gdr (zaa rfl rfl rfl (hC) (by kernel_rfl)) ?_) | refine zac rfl ?_ | refine zab (fun K hK => ?_))
  first
    | (refine hK _ ?_; clear hK K)
    | (rename_i K1 hK1; refine hK1 _ ?_; clear hK hK1; clear K)
    | (rename_i K1 hK1; refine hK1 _ ?_; clear hK1)
  refine zc0 (zan [(1, .m (.c (.p 1 0))), (3, .m (.c (.p 3 0))), (4, .m (.c (.p 4 0))), (5, .m (.c (.p 5 0))), (7, .m (.c (.p 7 0))), (8, .m (ii 0)), (9, .m (.c (.p 9 0))), (10, .m (ii 0))] [(1, .live (.box c2.ce)), (3, .live (.box rw2.ce)), (4, .live (.box rr.ce)), (5, .live (.box cA.ce)), (7, .live (.box gB.ce)), (9, .live (.box gC.ce))] ⟨by kernel_rfl, by kernel_rfl, by kernel_rfl, by kernel_rfl, by kernel_rfl, by kernel_rfl, by kernel_rfl, by kernel_rfl, trivial⟩ ⟨by kernel_rfl, by kernel_rfl, by kernel_rfl, by kernel_rfl, by kernel_rfl, by kernel_rfl, trivial⟩ (by kernel_rfl)) ?_
  repeat (first | (refine zah rfl ?_; first | refine zai ?_ | refine gdr (zaa rfl rfl rfl (hF) (by kernel_rfl)) ?_) | refine zac rfl ?_ | refine zab (fun K hK => ?_))
  first
    | (refine hK _ ?_; clear hK K)
    | (rename_i K1 hK1; refine hK1 _ ?_; clear hK hK1; clear K)
    | (rename_i K1 hK1; refine hK1 _ ?_; clear hK1)
  refine zc0 (zan [(1, .m (.c (.p 1 0))), (3, .m (.c (.p 3 0))), (4, .m (.c (.p 4 0))), (5, .m (.c (.p 5 0))), (7, .m (.c (.p 7 0))), (8, .m (ii 0)), (9, .m (.c (.p 9 0))), (10, .m (ii 0)), (12, .m (ii 7))] [(1, .live (.box c2.ce)), (3, .live (.box rw2.ce)), (4, .live (.box rr.ce)), (5, .live (.box cA.ce)), (7, .live (.box gB.ce)), (9, .live (.box gC.ce))] ⟨by kernel_rfl, by kernel_rfl, by kernel_rfl, by kernel_rfl, by kernel_rfl, by kernel_rfl, by kernel_rfl, by kernel_rfl, by kernel_rfl, trivial⟩ ⟨by kernel_rfl, by kernel_rfl, by kernel_rfl, by kernel_rfl, by kernel_rfl, by kernel_rfl, trivial⟩ (by kernel_rfl)) ?_
  repeat (first | (refine zah rfl ?_; first | refine zai ?_ | refine gdr (zaa rfl rfl rfl (hD) (by kernel_rfl)) ?_) | refine zac rfl ?_ | refine zab (fun K hK => ?_))
  first
    | (refine hK _ ?_; clear hK K)
    | (rename_i K1 hK1; refine hK1 _ ?_; clear hK hK1; clear K)
    | (rename_i K1 hK1; refine hK1 _ ?_; clear hK1)
  refine zc0 (zan [(1, .m (.c (.p 1 0))), (3, .m (.c (.p 3 0))), (4, .m (.c (.p 4 0))), (5, .m (.c (.p 5 0))), (7, .m (.c (.p 7 0))), (8, .m (ii 0)), (9, .m (.c (.p 9 0))), (10, .m (ii 0)), (12, .m (ii 7)), (14, .m (ii 5))] [(1, .live (.box c2.ce)), (3, .live (.box rw2.ce)), (4, .live (.box rr.ce)), (5, .live (.box cA.ce)), (7, .live (.box gB.ce)), (9, .live (.box gC.ce))] ⟨by kernel_rfl, by kernel_rfl, by kernel_rfl, by kernel_rfl, by kernel_rfl, by kernel_rfl, by kernel_rfl, by kernel_rfl, by kernel_rfl, by kernel_rfl, trivial⟩ ⟨by kernel_rfl, by kernel_rfl, by kernel_rfl, by kernel_rfl, by kernel_rfl, by kernel_rfl, trivial⟩ (by kernel_rfl)) ?_
  repeat (first | (refine zah rfl ?_; first | refine zai ?_ | refine gdr (zaa rfl rfl rfl (hL) (by kernel_rfl)) ?_) | refine zac rfl ?_ | refine zab (fun K hK => ?_))
  first
    | (refine hK _ ?_; clear hK K)
    | (rename_i K1 hK1; refine hK1 _ ?_; clear hK hK1; clear K)
    | (rename_i K1 hK1; refine hK1 _ ?_; clear hK1)
  refine zc0 (zan [(1, .m (.c (.p 1 0))), (3, .m (.c (.p 3 0))), (4, .m (.c (.p 4 0))), (5, .m (.c (.p 5 0))), (7, .m (.c (.p 7 0))), (8, .m (ii 0)), (9, .m (.c (.p 9 0))), (10, .m (ii 0)), (12, .m (ii 7)), (14, .m (ii 5)), (15, .m (.c (.s 1 8 (flP [⟨20480, 4096, 0, true, false, false, false, false⟩]))))] [(1, .live (.box c2.ce)), (3, .live (.box rw2.ce)), (4, .live (.box rr.ce)), (5, .live (.box cA.ce)), (7, .live (.box gB.ce)), (9, .live (.box gC.ce))] ⟨by kernel_rfl, by kernel_rfl, by kernel_rfl, by kernel_rfl, by kernel_rfl, by kernel_rfl, by kernel_rfl, by kernel_rfl, by kernel_rfl, by kernel_rfl, by kernel_rfl, trivial⟩ ⟨by kernel_rfl, by kernel_rfl, by kernel_rfl, by kernel_rfl, by kernel_rfl, by kernel_rfl, trivial⟩ (by kernel_rfl)) ?_
  repeat (first | (refine zah rfl ?_; first | refine zai ?_) | refine zas (by kernel_rfl) (by kernel_rfl) rfl ?_ | refine zab (fun K hK => ?_))
  refine zah rfl ?_
  refine zit (zd6 (b := 61) (l := [.c (.s gB.fs.length 4 (flF gB.fs)), .c (.o 61)]) rfl rfl rfl (by kernel_rfl) rfl (by kernel_rfl) (zhz (by kernel_rfl) hS)) (by kernel_rfl) ?_
  repeat (first | (refine zah rfl ?_; first | refine zai ?_ | refine gdr (zdu (us := [.bool true, .bool false, .bool false, .bool false]) (vs := [.bool true, .bool false, .bool false, .bool false]) he (by kernel_rfl) rfl rfl rfl rfl) ?_))
  refine zah rfl ?_
  refine zit (zd6 (b := 107) (l := [.c (.o 107), .ag [cb true, cb false, cb false, cb false]]) rfl rfl rfl (by kernel_rfl) rfl (by kernel_rfl) (zhz (by kernel_rfl) hZ)) (by kernel_rfl) ?_
  repeat (first | (refine zah rfl ?_; first | refine zai ?_) | (refine hK _ ?_; clear hK K) | exact zaj (show zav _ _ _ = some _ by kernel_rfl))
end Go.Proofs.YtomeaibdedaldaaGreatDoor.LmH
namespace Go.Proofs.YtomeaibdedaldaaGreatDoor.LaJ
open Go.RowKit Bv VaSpec Base MemL RegR Ax MemC PutC MemC3 TzC OkS SpA SpB SpC SpD SpE SpF SpG SpH SpI SpJ SpK SpN RfD RfE LaA LaB LaC LaD LaE LaF LaG LaH LaI RlB RlC
open BitsC PteSpec
set_option maxRecDepth 10000
set_option maxHeartbeats 1000000
attribute [local irreducible] Ax.zbt
structure Rq where
  id : Int
  va : Int
  pa : Int
  lev : Int
  p : Pm
deriving DecidableEq
def Rq.ce (q : Rq) : List Ce := [ci q.id, cu q.va, cu q.pa, ci q.lev, cb q.p.r, cb q.p.w, cb q.p.x, cb q.p.u]
def Rq.vs (q : Rq) : List Value := [.int .i64 q.id, .int .u64 q.va, .int .u64 q.pa, .int .i64 q.lev, .bool q.p.r, .bool q.p.w, .bool q.p.x, .bool q.p.u]
end Go.Proofs.YtomeaibdedaldaaGreatDoor.LaJ
namespace Go.Proofs.YtomeaibdedaldaaGreatDoor.LmI
open Go.RowKit Bv VaSpec Base MemL RegR Ax MemC PutC MemC3 TzC OkS SpA SpB SpC SpF SpH SpI SpJ LaA LaB LaC LaD LaE LaF LaG LiA LiB LiC LiD LiE LiF SpE SpG SpK SpO SpL SpN RfA RfB RfC RfD RfE RfJ RfK RlA RlB RlC LaH LaI LaJ LjA LjB LjF LiF LkE LmA LmB LmE LmF LmG LmH
open BitsC PteSpec
set_option maxRecDepth 10000
set_option maxHeartbeats 1000000
attribute [local irreducible] Ax.zbt
section
attribute [local semireducible] Ax.zbt
end
def zyr (l : List Dg) : List Value := l.flatMap Dg.vs
theorem z1x {l : List Dg} {k : Nat} {d : Dg} (h : l[k]? = some d) : ((zyr l).drop (k * 9)).take 9 = [.int .u8 d.k, .int .i64 d.id, .int .u64 d.va, .int .u64 d.pa, .int .i64 d.lev, .bool d.p.r, .bool d.p.w, .bool d.p.x, .bool d.p.u] := ze9 Dg.vs 9 (fun _ => rfl) l _ d h
def zp9 (l : List Dg) (e : Dg) (i : Nat) (k : Kr) : St := St.of [(1, .m (.c (.s l.length 9 (zyr l)))), (5, .m (.c (.p 5 0))), (6, .m (ib false)), (7, .m (.c (.p 7 0))), (9, .m (ii i))] [(5, .live (.box e.ce)), (7, .live (.box k.ce))]
end Go.Proofs.YtomeaibdedaldaaGreatDoor.LmI
namespace Go.Proofs.YtomeaibdedaldaaGreatDoor.Open
open Go.RowKit Go.WideShapes Go.ChangeShapes Base
set_option maxRecDepth 10000
section
variable {H : Type} {enc : TypeId × Value → H} {P : Program}
theorem keepAll (hl : laidOutB P = true) {W W' : World} (hb : Below W.heap.size W W') : ∀ {ts : List TypeId} {vs : List Value} {ds : List (DataW H)} {ps : List MemPlace},
    (ts.all fun t => P.readableRec t && decide (t < P.types.size)) = true → DataW.TrodAll enc P W 0 (fun _ => true) true ts vs ds ps → DataW.TrodAll enc P W' 0 (fun b => decide (b < W.heap.size)) true ts vs ds ps
  | [], [], [], _, _, h => h
  | t :: ts, v :: vs, d :: ds, ps, ht, ⟨a, b, h1, h2, e⟩ => by
    simp only [List.all_cons, Bool.and_eq_true, decide_eq_true_eq] at ht
    have h1' := h1
    obtain ⟨n, hn⟩ := h1
    exact ⟨a, b, Below.trod hl ht.1.1 ht.1.2 h1' hb (fun x hx => DataW.trod_lt n t _ _ hn x hx), keepAll hl hb ht.2 h2, e⟩
end
section
variable {H : Type} {enc : TypeId × Value → H} {W : World} {base b0 : Nat} {sp : Nat → Bool} {held : Bool} {n : Nat} {r : Reach}
theorem zgy {c : Value} {x : Option (DataW H × List MemPlace)} {y : DataW H × List MemPlace} (h : DataW.trod enc Tryz.prog W base sp held n 4 [c] = x) (hx : x = some y) : ∃ b, c = .bool b := by
  rw [hx] at h
  obtain ⟨b, e, _⟩ := DataW.trod_bool Tryz.underlying4 h
  exact ⟨b, by simpa using e⟩
theorem zrp {c : Value} {x : Option (DataW H × List MemPlace)} {y : DataW H × List MemPlace} (h : DataW.trod enc Tryz.prog W base sp held n 25 [c] = x) (hx : x = some y) : ∃ a, c = .int .u64 a ∧ U a := by
  rw [hx] at h
  obtain ⟨b, e, _, wf⟩ := DataW.trod_int Tryz.underlying25 h
  exact ⟨b, by simpa using e, U.of wf⟩
theorem zfs {c : Value} {x : Option (DataW H × List MemPlace)} {y : DataW H × List MemPlace} (h : DataW.trod enc Tryz.prog W base sp held n 3 [c] = x) (hx : x = some y) : ∃ a, c = .int .i64 a ∧ (-9223372036854775808 ≤ a ∧ a ≤ 9223372036854775807) := by
  rw [hx] at h
  obtain ⟨b, e, _, wf⟩ := DataW.trod_int Tryz.underlying3 h
  refine ⟨b, by simpa using e, ?_⟩
  simp [Lit.wf, IntKind.min, IntKind.max, IntKind.bits, IntKind.signed] at wf; omega
theorem zcw {α : Type} {xs : List α} {m i : Nat} (h : xs.length = m) (hi : i < m) : ∃ y, xs[i]? = some y := ⟨xs[i]'(by omega), List.getElem?_eq_getElem _⟩
end
end Go.Proofs.YtomeaibdedaldaaGreatDoor.Open
namespace Go.Proofs.YtomeaibdedaldaaGreatDoor.Laid
open Go.ChangeShapes Go.WideShapes Go.ChangeAt Go.RowKit Ax OkS LaC LaB Bv Base SpA LmH LmI SpN MemL
set_option maxRecDepth 10000
def laidS : List (String × DataW Unit) := [("atlas/va.sizes", Rows.laid_atlas_va_sizes), ("math/bits.deBruijn64tab", Rows.laid_math_bits_deBruijn64tab), ("atlas/fence.asks", Rows.laid_atlas_fence_asks)]
theorem g_sizes : Tryz.prog.globalNamed "atlas/va.sizes" = some 0 := by kernel_rfl
theorem g_tab : Tryz.prog.globalNamed "math/bits.deBruijn64tab" = some 1 := by kernel_rfl
theorem g_asks : Tryz.prog.globalNamed "atlas/fence.asks" = some 2 := by kernel_rfl
theorem t_sizes : (Tryz.prog.globals[0]?).map (·.type) = some 201 := by kernel_rfl
theorem t_tab : (Tryz.prog.globals[1]?).map (·.type) = some 242 := by kernel_rfl
theorem t_asks : (Tryz.prog.globals[2]?).map (·.type) = some 261 := by kernel_rfl
theorem gg_of_laid {W : World} (h : laidMetH Tryz.prog laidS W) : GG W := by
  have hp := (show laidMet Tryz.prog _ W ∧ handlesMet Tryz.prog _ W from h).1
  obtain ⟨ps, ⟨g1, t1, cs1, f1, p1, q1, hg1, ht1, hv1, hd1, hr, _⟩, _, _⟩ := hp
  obtain ⟨g2, t2, cs2, f2, p2, q2, hg2, ht2, hv2, hd2, _, _⟩ := hr
  obtain rfl := Option.some.inj (g_sizes.symm.trans hg1)
  obtain rfl := Option.some.inj (t_sizes.symm.trans ht1)
  obtain rfl := Option.some.inj (g_tab.symm.trans hg2)
  obtain rfl := Option.some.inj (t_tab.symm.trans ht2)
  have e1 := Lib.cells_of_tab (k := .u64) (zs := [4096, 2097152, 1073741824]) Tryz.underlying201 Tryz.underlying25 (by kernel_rfl) (by kernel_rfl) hd1
  have e2 := Lib.cells_of_tab (k := .u8) (zs := List.map (fun n : Nat => (n : Int)) Lib.deBruijn64tab) Tryz.underlying242 Tryz.underlying5 (by kernel_rfl) (by kernel_rfl) hd2
  obtain ⟨g, t, cs, fuel, p, hg, ht, hv, hd⟩ := h.funcs (n := "atlas/fence.asks") (List.mem_cons_of_mem _ (List.mem_cons_of_mem _ (List.mem_cons_self ..)))
  obtain rfl := Option.some.inj (g_asks.symm.trans hg)
  obtain rfl := Option.some.inj (t_asks.symm.trans ht)
  have hd' : DataW.trod (funcToken Tryz.prog) Tryz.prog W 0 (fun _ => true) true fuel 261 cs.toList = some (.slice [.held [40, 97, 116, 108, 97, 115, 47, 102, 101, 110, 99, 101, 46, 102, 111, 114, 109, 41, 46, 97, 100, 100, 114], .held [40, 97, 116, 108, 97, 115, 47, 102, 101, 110, 99, 101, 46, 102, 111, 114, 109, 41, 46, 97, 115, 105, 100]] [], p) := hd
  obtain ⟨a, cap, hcs, _, hel⟩ := open_row Tryz.underlying261 (by kernel_rfl) hd'
  obtain ⟨v0, n0, q0, hc0, hr0⟩ := hel 0 _ rfl
  obtain ⟨v1, n1, q1', hc1, hr1⟩ := hel 1 _ rfl
  obtain rfl := func_of_trod (f0 := 223) Tryz.underlying262 (by kernel_rfl) hr0
  obtain rfl := func_of_trod (f0 := 225) Tryz.underlying262 (by kernel_rfl) hr1
  obtain ⟨b, off, spot⟩ := a
  have hspot : spot = none := by simpa [Addr.add] using World.cell?_spot hc0
  subst hspot
  have c1 : ∀ i, W.cell? ⟨0, i, none⟩ = cs1[i]? := fun i => by simpa using World.var?_cell hg1 hv1 i
  have c2 : ∀ i, W.cell? ⟨1, i, none⟩ = cs2[i]? := fun i => by simpa using World.var?_cell hg2 hv2 i
  have c3 : ∀ i, W.cell? ⟨2, i, none⟩ = cs[i]? := fun i => by simpa using World.var?_cell hg hv i
  refine ⟨⟨?_, ?_, ?_⟩, fun j hj => ?_, b, off, cap, ?_, by simpa [Addr.add, z12] using hc0, by simpa [Addr.add, z12] using hc1⟩
  · rw [c1, ← Array.getElem?_toList, e1]; rfl
  · rw [c1, ← Array.getElem?_toList, e1]; rfl
  · rw [c1, ← Array.getElem?_toList, e1]; rfl
  · rw [c2, ← Array.getElem?_toList, e2]
    simp [List.getD, hj]
  · rw [c3, ← Array.getElem?_toList, hcs]; rfl
section
variable {H : Type} {enc : TypeId × Value → H} {W : World} {base b0 : Nat} {sp : Nat → Bool} {held : Bool} {n : Nat} {r : Reach}
theorem z1y {c : Value} {x : Option (DataW H × List MemPlace)} {y : DataW H × List MemPlace} (h : DataW.trod enc Tryz.prog W base sp held n 5 [c] = x) (hx : x = some y) : ∃ a, c = .int .u8 a ∧ (0 ≤ a ∧ a < 256) := by
  rw [hx] at h
  obtain ⟨b, e, _, wf⟩ := DataW.trod_int Tryz.underlying5 h
  refine ⟨b, by simpa using e, ?_⟩
  simp [Lit.wf, IntKind.min, IntKind.max, IntKind.bits, IntKind.signed] at wf; omega
theorem open_conf {v : Value} {d : DataW H} {p : List MemPlace} (hv : Value.okWide Tryz.prog W r b0 23 v) (h : DataW.Trod enc Tryz.prog W base sp held 23 v d p) :
    ∃ x0 x1 x2 x3, v = .agg #[.int .i64 x0, .int .i64 x1, .int .i64 x2, .int .i64 x3] := by
  obtain ⟨⟨l⟩, rfl, hsz⟩ := okWide_struct Tryz.underlying23 hv
  rw [show Tryz.prog.cellsOf 23 = 4 by kernel_rfl] at hsz
  obtain ⟨fuel, hf⟩ := h
  obtain ⟨xs, n, _, _, _, hlen, hfd⟩ := DataW.trod_struct Tryz.underlying23 hf
  match l, hsz with
  | [c0, c1, c2, c3], _ =>
    have g := fun i f (e : _ = some f) => hfd i f e
    have k4 : Tryz.prog.cellsOf 3 = 1 := by kernel_rfl
    have hl : xs.length = 4 := hlen
    have h0 : DataW.trod enc Tryz.prog W base sp held n 3 [c0] = xs[0]? := by have := g 0 _ rfl; simpa [Value.cells, k4] using this
    obtain ⟨y0, q0⟩ := Open.zcw hl (show 0 < 4 by decide)
    obtain ⟨x0, rfl, _⟩ := Open.zfs (c := c0) h0 q0
    have h1 : DataW.trod enc Tryz.prog W base sp held n 3 [c1] = xs[1]? := by have := g 1 _ rfl; simpa [Value.cells, k4] using this
    obtain ⟨y1, q1⟩ := Open.zcw hl (show 1 < 4 by decide)
    obtain ⟨x1, rfl, _⟩ := Open.zfs (c := c1) h1 q1
    have h2 : DataW.trod enc Tryz.prog W base sp held n 3 [c2] = xs[2]? := by have := g 2 _ rfl; simpa [Value.cells, k4] using this
    obtain ⟨y2, q2⟩ := Open.zcw hl (show 2 < 4 by decide)
    obtain ⟨x2, rfl, _⟩ := Open.zfs (c := c2) h2 q2
    have h3 : DataW.trod enc Tryz.prog W base sp held n 3 [c3] = xs[3]? := by have := g 3 _ rfl; simpa [Value.cells, k4] using this
    obtain ⟨y3, q3⟩ := Open.zcw hl (show 3 < 4 by decide)
    obtain ⟨x3, rfl, _⟩ := Open.zfs (c := c3) h3 q3
    exact ⟨x0, x1, x2, x3, rfl⟩
theorem addk (b off k : Nat) : (⟨b, off, none⟩ : Addr).add k = ⟨b, off + k, none⟩ := by
  unfold Addr.add; split
  · rename_i h; subst h; rfl
  · rfl
theorem zrq {cs : List Value} {y : DataW H × List MemPlace} (hsz : cs.length = 9) (hf : DataW.trod enc Tryz.prog W base sp held n 97 cs = some y) : ∃ q : Dg, cs = q.vs ∧ UG q := by
  obtain ⟨xs, n, _, _, _, hlen, hfd⟩ := DataW.trod_struct Tryz.underlying97 hf
  match cs, hsz with
  | [c0, c1, c2, c3, c4, c5, c6, c7, c8], _ =>
    have g := fun i f (e : _ = some f) => hfd i f e
    have k_int : Tryz.prog.cellsOf 3 = 1 := by kernel_rfl
    have k_u64 : Tryz.prog.cellsOf 25 = 1 := by kernel_rfl
    have k_u8 : Tryz.prog.cellsOf 5 = 1 := by kernel_rfl
    have k_bool : Tryz.prog.cellsOf 4 = 1 := by kernel_rfl
    have k_perm : Tryz.prog.cellsOf 49 = 4 := by kernel_rfl
    have hl : xs.length = 6 := hlen
    have h0 : DataW.trod enc Tryz.prog W base sp held n 5 [c0] = xs[0]? := by have := g 0 _ rfl; simpa [Value.cells, k_int, k_u64, k_u8, k_bool, k_perm] using this
    obtain ⟨y0, q0⟩ := Open.zcw hl (show 0 < 6 by decide)
    obtain ⟨x0, rfl, u0⟩ := z1y (c := c0) h0 q0
    have h1 : DataW.trod enc Tryz.prog W base sp held n 3 [c1] = xs[1]? := by have := g 1 _ rfl; simpa [Value.cells, k_int, k_u64, k_u8, k_bool, k_perm] using this
    obtain ⟨y1, q1⟩ := Open.zcw hl (show 1 < 6 by decide)
    obtain ⟨x1, rfl, _⟩ := Open.zfs (c := c1) h1 q1
    have h2 : DataW.trod enc Tryz.prog W base sp held n 25 [c2] = xs[2]? := by have := g 2 _ rfl; simpa [Value.cells, k_int, k_u64, k_u8, k_bool, k_perm] using this
    obtain ⟨y2, q2⟩ := Open.zcw hl (show 2 < 6 by decide)
    obtain ⟨x2, rfl, u2⟩ := Open.zrp (c := c2) h2 q2
    have h3 : DataW.trod enc Tryz.prog W base sp held n 25 [c3] = xs[3]? := by have := g 3 _ rfl; simpa [Value.cells, k_int, k_u64, k_u8, k_bool, k_perm] using this
    obtain ⟨y3, q3⟩ := Open.zcw hl (show 3 < 6 by decide)
    obtain ⟨x3, rfl, u3⟩ := Open.zrp (c := c3) h3 q3
    have h4 : DataW.trod enc Tryz.prog W base sp held n 3 [c4] = xs[4]? := by have := g 4 _ rfl; simpa [Value.cells, k_int, k_u64, k_u8, k_bool, k_perm] using this
    obtain ⟨y4, q4⟩ := Open.zcw hl (show 4 < 6 by decide)
    obtain ⟨x4, rfl, _⟩ := Open.zfs (c := c4) h4 q4
    have h5 : DataW.trod enc Tryz.prog W base sp held n 49 [c5, c6, c7, c8] = xs[5]? := by have := g 5 _ rfl; simpa [Value.cells, k_int, k_u64, k_u8, k_bool, k_perm] using this
    obtain ⟨y5, q5⟩ := Open.zcw hl (show 5 < 6 by decide)
    rw [q5] at h5
    obtain ⟨zs, m, _, _, _, hlen2, hfd2⟩ := DataW.trod_struct Tryz.underlying49 h5
    have g2 := fun i f (e : _ = some f) => hfd2 i f e
    have hl2 : zs.length = 4 := hlen2
    have p0 : DataW.trod enc Tryz.prog W base sp held m 4 [c5] = zs[0]? := by have := g2 0 _ rfl; simpa [Value.cells, k_bool] using this
    obtain ⟨z0, w0⟩ := Open.zcw hl2 (show 0 < 4 by decide)
    obtain ⟨b0, rfl⟩ := Open.zgy (c := c5) p0 w0
    have p1 : DataW.trod enc Tryz.prog W base sp held m 4 [c6] = zs[1]? := by have := g2 1 _ rfl; simpa [Value.cells, k_bool] using this
    obtain ⟨z1, w1⟩ := Open.zcw hl2 (show 1 < 4 by decide)
    obtain ⟨b1, rfl⟩ := Open.zgy (c := c6) p1 w1
    have p2 : DataW.trod enc Tryz.prog W base sp held m 4 [c7] = zs[2]? := by have := g2 2 _ rfl; simpa [Value.cells, k_bool] using this
    obtain ⟨z2, w2⟩ := Open.zcw hl2 (show 2 < 4 by decide)
    obtain ⟨b2, rfl⟩ := Open.zgy (c := c7) p2 w2
    have p3 : DataW.trod enc Tryz.prog W base sp held m 4 [c8] = zs[3]? := by have := g2 3 _ rfl; simpa [Value.cells, k_bool] using this
    obtain ⟨z3, w3⟩ := Open.zcw hl2 (show 3 < 4 by decide)
    obtain ⟨b3, rfl⟩ := Open.zgy (c := c8) p3 w3
    exact ⟨⟨x0, x1, x2, x3, x4, ⟨b0, b1, b2, b3⟩⟩, rfl, u0, u2, u3⟩
theorem open_dg {v : Value} {d : DataW H} {p : List MemPlace} (hv : Value.okWide Tryz.prog W r b0 97 v) (h : DataW.Trod enc Tryz.prog W base sp held 97 v d p) :
    ∃ q : Dg, v = .agg #[.int .u8 q.k, .int .i64 q.id, .int .u64 q.va, .int .u64 q.pa, .int .i64 q.lev, .bool q.p.r, .bool q.p.w, .bool q.p.x, .bool q.p.u] ∧ UG q := by
  obtain ⟨⟨l⟩, rfl, hsz⟩ := okWide_struct Tryz.underlying97 hv
  rw [show Tryz.prog.cellsOf 97 = 9 by kernel_rfl] at hsz
  obtain ⟨fuel, hf⟩ := h
  obtain ⟨q, e, hq⟩ := zrq (cs := l) hsz hf
  exact ⟨q, by rw [e]; rfl, hq⟩
theorem zys (l : List Dg) : (zyr l).length = l.length * 9 := by
  induction l with
  | nil => rfl
  | cons c l ih => show ((_ :: _ :: _ :: _ :: _ :: _ :: _ :: _ :: _ :: zyr l).length) = _; simp only [List.length_cons, ih]; omega
theorem zrr : ∀ (l : List Dg) (i j : Nat) (q : Dg), l[i]? = some q → j < 9 → (zyr l)[i * 9 + j]? = q.vs[j]?
  | [], i, j, q, h, _ => by simp at h
  | x :: l, 0, j, q, h, hj => by
    simp at h; subst h
    show (x.vs ++ zyr l)[0 * 9 + j]? = _
    rw [Nat.zero_mul, Nat.zero_add, List.getElem?_append_left (by show j < 9; exact hj)]
  | x :: l, i + 1, j, q, h, hj => by
    have := zrr l i j q (by simpa using h) hj
    show (x.vs ++ zyr l)[(i + 1) * 9 + j]? = _
    rw [List.getElem?_append_right (by show 9 ≤ _; omega), show (i + 1) * 9 + j - x.vs.length = i * 9 + j by show (i + 1) * 9 + j - 9 = _; omega]
    exact this
theorem open_dgs {v : Value} {d : DataW H} {p : List MemPlace} (hv : Value.okWide Tryz.prog W r b0 95 v) (h : DataW.Trod enc Tryz.prog W base (fun _ => true) held 95 v d p) :
    ∃ l : List Dg, (∀ x ∈ l, UG x) ∧ Ce.R (en0 (fun _ => True) W) (.s l.length 9 (zyr l)) v := by
  obtain ⟨a, len, cap, rfl⟩ := okWide_slice Tryz.underlying95 hv
  obtain ⟨fuel, hf⟩ := h
  have hf : DataW.trod enc Tryz.prog W base (fun _ => true) held fuel 95 [.slice a len cap] = some (d, p) := hf
  have ke : Tryz.prog.cellsOf 97 = 9 := by kernel_rfl
  rcases Deep.open_slice Tryz.underlying95 hf with ⟨e, _⟩ | ⟨a', len', cap', m, k, D, Pl, e, _, hl, hm, hmm, _, hx⟩
  · simp only [List.cons.injEq, and_true] at e
    refine ⟨[], fun x hx => (by cases hx), ?_⟩
    rw [e]
    exact ⟨⟨rfl, .inl ⟨rfl, rfl⟩⟩, fun a l c e => by cases e⟩
  · simp only [List.cons.injEq, and_true, Value.slice.injEq] at e
    obtain ⟨rfl, rfl, rfl⟩ := e
    have hok : Cell.ok Tryz.prog W r b0 95 (.slice (some a') len cap) := by
      have hv := hv
      unfold Value.okWide at hv
      rw [Tryz.underlying95] at hv
      unfold Cell.okWide at hv
      rw [Tryz.underlying95] at hv
      exact hv
    unfold Cell.ok at hok
    rw [Tryz.underlying95] at hok
    obtain ⟨_, _, _, hsp, row, cells, hsh, _⟩ := hok
    obtain ⟨b, off, spot⟩ := a'
    have hsp : spot = none := hsp
    subst hsp
    have hb : b < W.heap.size := by
      rcases Nat.lt_or_ge b W.heap.size with h | h
      · exact h
      · have hsh : W.shape? b = some (row, cells) := hsh
        unfold World.shape? at hsh
        rw [Array.getElem?_eq_none h] at hsh
        cases hsh
    have ku : ∀ i, i < len → ∃ q : Dg, (∀ j, j < 9 → W.cell? ⟨b, off + (i * 9 + j), none⟩ = q.vs[j]?) ∧ UG q := fun i hi => by
      obtain ⟨cs, g1, g2⟩ := hx i (by rw [hmm]; simp; omega)
      rw [ke] at g1
      obtain ⟨_, hlen, hcell⟩ := World.cells?_some g1
      obtain ⟨q, rfl, hq⟩ := zrq hlen g2
      refine ⟨q, fun j hj => ?_, hq⟩
      have e0 := hcell j (by omega)
      rw [addk, addk] at e0
      rw [← e0, Nat.add_assoc]
    haveI : Inhabited Dg := ⟨⟨0, 0, 0, 0, 0, ⟨false, false, false, false⟩⟩⟩
    obtain ⟨f, hf⟩ := Deep.choose_lt (α := Dg) (p := fun i q => (∀ j, j < 9 → W.cell? ⟨b, off + (i * 9 + j), none⟩ = q.vs[j]?) ∧ UG q) ku
    have hlen : ((List.range len).map f).length = len := by simp
    refine ⟨(List.range len).map f, fun x hx => ?_, ⟨by rw [zys], .inr ⟨b, off, cap, by rw [hlen], hb, by rw [hlen]; exact hl, hm, fun i hi => ?_⟩⟩, fun _ _ _ _ => trivial⟩
    · obtain ⟨i, hi, rfl⟩ := List.mem_map.1 hx
      exact (hf i (List.mem_range.1 hi)).2
    · rw [hlen] at hi
      have hi2 : i / 9 < len := by omega
      obtain ⟨e0, _⟩ := hf (i / 9) hi2
      have hg := zrr ((List.range len).map f) (i / 9) (i % 9) (f (i / 9)) (by simp [hi2]) (by omega)
      have e1 := e0 (i % 9) (by omega)
      rw [show i / 9 * 9 + i % 9 = i by omega] at hg e1
      rw [hg]; exact e1
end
end Go.Proofs.YtomeaibdedaldaaGreatDoor.Laid
namespace Go.Proofs.YtomeaibdedaldaaGreatDoor.LnA
open Go.RowKit Bv VaSpec Base MemL RegR Ax MemC PutC MemC3 TzC OkS SpA SpB SpC SpD SpE SpF SpN SpO SpG SpH SpI SpJ LaA LaB LaC LaD LaE LaF LaG LiA LiB LiC LiD LiE LiF LrA LrB LrC LjA LjF LkE LmA LmB LmE
open BitsC PteSpec
set_option maxRecDepth 10000
set_option maxHeartbeats 1000000
theorem zrs : ∀ (xs ys : List (Int × Int)), Srt xs → Srt ys → (∀ c ∈ xs, c.2 ≠ 0) → (∀ c ∈ ys, c.2 ≠ 0) → (∀ a, MemC.look xs a = MemC.look ys a) → xs = ys
  | [], [], _, _, _, _, _ => rfl
  | [], d :: ys, _, hs, _, h0, he => absurd ((look_mem hs (List.mem_cons_self ..)).symm.trans (he d.1).symm) (h0 d (List.mem_cons_self ..))
  | c :: xs, [], hs, _, h0, _, he => absurd ((look_mem hs (List.mem_cons_self ..)).symm.trans (he c.1)) (h0 c (List.mem_cons_self ..))
  | c :: xs, d :: ys, hs, gs, h0, g0, he => by
    have hs' := List.pairwise_cons.1 hs
    have gs' := List.pairwise_cons.1 gs
    have e1 := he c.1
    have e2 := he d.1
    rw [look_mem hs (List.mem_cons_self ..)] at e1
    rw [look_mem gs (List.mem_cons_self ..)] at e2
    have n1 := h0 c (List.mem_cons_self ..)
    have n2 := g0 d (List.mem_cons_self ..)
    by_cases h1 : c.1 < d.1
    · rw [zcq fun z hz => by
        rcases List.mem_cons.1 hz with rfl | hz
        · omega
        · have := gs'.1 z hz; omega] at e1
      exact absurd e1 n1
    by_cases h2 : d.1 < c.1
    · rw [zcq fun z hz => by
        rcases List.mem_cons.1 hz with rfl | hz
        · omega
        · have := hs'.1 z hz; omega] at e2
      exact absurd e2.symm n2
    have h3 : c.1 = d.1 := by omega
    rw [← h3, look_mem hs (List.mem_cons_self ..)] at e2
    have hcd : c = d := Prod.ext h3 e2
    subst hcd
    congr 1
    refine zrs xs ys hs'.2 gs'.2 (fun z hz => h0 z (List.mem_cons_of_mem _ hz)) (fun z hz => g0 z (List.mem_cons_of_mem _ hz)) fun a => ?_
    by_cases h4 : c.1 < a
    · have := he a
      rw [zct, zct, if_pos h4, if_pos h4] at this
      exact this
    · rw [zcq fun z hz => by have := hs'.1 z hz; omega, zcq fun z hz => by have := gs'.1 z hz; omega]
theorem z1z {u v : Int} (hu : U u) (hv : U v) (h : zat u = zat v) : u = v := by
  rw [← zg6 u hu.1 hu.2, h, zg6 v hv.1 hv.2]
theorem z3u {cd cp sz f sh f' sh' : Int} {xs ys : List (Int × Int)} {lv lv' : Int → Int} (h : TI cd cp sz xs f sh lv) (g : TI cd cp sz ys f' sh' lv') (he : ∀ s j, (0 ≤ j ∧ j < 512) → atM sz xs s j = atM sz ys s j) : xs = ys := by
  refine zrs _ _ h.s g.s (fun c hc => (h.r c hc).2.2) (fun c hc => (g.r c hc).2.2) fun a => ?_
  by_cases ha : cd * 512 ≤ a ∧ a < (cd + cp) * 512
  · have e := he (a / 512) (a % 512) (by omega)
    have bz := h.bz
    unfold atM zbp at e
    rw [if_pos (by omega), if_pos (by omega), show (a / 512 * 4096 + a % 512 * 8) / 8 = a by omega] at e
    exact z1z (zut h.u a) (zut g.u a) e
  · rw [zcq fun c hc e => ha (by rw [← e]; exact (h.r c hc).1), zcq fun c hc e => ha (by rw [← e]; exact (g.r c hc).1)]
theorem zwl {sz : Int} {p : Pm} {a b : List (Int × Int)} (h : Shp sz p a b) : ∀ (l : Nat) (t : Int), frN sz b l t = frN sz a l t
  | 0, t => rfl
  | l + 1, t => by
    simp only [frN]
    congr 1
    rw [List.flatMap_def, List.flatMap_def]
    congr 1
    refine List.map_congr_left fun i hi => ?_
    have hi := List.mem_range.1 hi
    rcases h t i (by omega) with e | ⟨e1, e2, _⟩
    · rw [e]
      split
      · exact zwl h l _
      · rfl
    · rw [zfr _ e1, zfr _ e2]
      rfl
theorem zqa (sz : Int) (xs : List (Int × Int)) (l : Nat) (t : Int) : t ∈ frN sz xs l t := by
  cases l <;> simp [frN]
theorem zrt (sz : Int) (xs : List (Int × Int)) (addr zap : Int) (hw : 0 ≤ zap) : ∀ (l : Nat) (t : Int), (zar sz xs addr zap l t).1 ∈ frN sz xs l t
  | 0, t => zqa _ _ _ _
  | l + 1, t => by
    have hi := idx_bd addr ((l + 1 : Nat) : Int)
    by_cases c1 : zap < ((l + 1 : Nat) : Int)
    · cases c : zbb (atM sz xs t (idx addr ((l + 1 : Nat) : Int))) ((l + 1 : Nat) : Int) with
      | true =>
        rw [zch c1 c]
        have IH := zrt sz xs addr zap hw l (atM sz xs t (idx addr ((l + 1 : Nat) : Int))).ppn
        simp only [frN, List.mem_cons]
        refine .inr (List.mem_flatMap.2 ⟨(idx addr ((l + 1 : Nat) : Int)).toNat, List.mem_range.2 (by omega), ?_⟩)
        rw [show (((idx addr ((l + 1 : Nat) : Int)).toNat : Nat) : Int) = idx addr ((l + 1 : Nat) : Int) by omega, if_pos c]
        exact IH
      | false =>
        rw [zb3 (fun _ => c) hw]; exact zqa _ _ _ _
    · rw [zb3 (fun hh => absurd hh c1) hw]; exact zqa _ _ _ _
section
variable {cd cp sz f sh : Int} {xs : List (Int × Int)} {lv : Int → Int}
theorem zru (h : TI cd cp sz xs f sh lv) {p : Pm} (hp : zcy p = true) (l : Nat) (t b : Int) (hl2 : l ≤ 2) (ht : Al cd cp f t) (hl : lv t = l) (hb : m39 b % (512 * VaSpec.sz l) = 0) : ∀ (ys : List Pg), (∀ y ∈ ys, y ∈ zba sz xs l t b) → ∀ xs', Pnt cd cp sz f sh lv p xs xs' → ∀ s j, (0 ≤ j ∧ j < 512) → s ∉ frN sz xs l t → atM sz (zp6 sz l t p ys xs') s j = atM sz xs' s j
  | [], _, xs', g, s, j, hj, hs => rfl
  | y :: ys, hy, xs', g, s, j, hj, hs => by
    obtain ⟨t', r1, r2, r3⟩ := zjm h l t b y hl2 ht hl hb (hy y (by simp))
    have hm := zrt sz xs y.va y.lev r2.1 l t
    rw [r1] at hm
    have hi := idx_bd y.va y.lev
    unfold zp6
    rw [g.s.reach, r1]
    rw [zru h hp l t b hl2 ht hl hb ys (fun z hz => hy z (by simp [hz])) _ (g.go h hp hi r3) s j hj hs]
    obtain ⟨_, q, _⟩ := zl4 g.t hi (g.s.leaf hi r3) hp
    show atM sz (zn0 sz xs' t' (idx y.va y.lev) p) s j = _
    rw [q s j hj, if_neg]
    rintro ⟨e, _⟩
    exact hs (e ▸ hm)
theorem zzh (h : TI cd cp sz xs f sh lv) {t a : Int} {l' : Nat} {e : Int} {p : Pm} (hp : zcy p = true) (l2 : l' ≤ 2) (hlv : lv t = (l' : Int)) (hm : m39 a % VaSpec.sz (l' : Int) = 0)
    (hor : zaw (atM sz xs t (idx a (l' : Int))) = true ∨ lkP (atM sz xs t (idx a (l' : Int))) = true) :
    Shp sz p xs (prM sz (xs, f, (t, (l' : Int)), e) a p) ∧
    ∀ s j, (0 ≤ j ∧ j < 512) → ¬ (s = t ∧ j = idx a (l' : Int)) → (lkP (atM sz xs t (idx a (l' : Int))) = true → s ∉ frN sz xs ((l' : Int) - 1).toNat (atM sz xs t (idx a (l' : Int))).ppn) → atM sz (prM sz (xs, f, (t, (l' : Int)), e) a p) s j = atM sz xs s j := by
  have hi := idx_bd a (l' : Int)
  rcases hor with h1 | h1
  · have e0 : prM sz (xs, f, (t, (l' : Int)), e) a p = zn0 sz xs t (idx a (l' : Int)) p := if_pos h1
    rw [e0]
    have g := Pnt.go h hp ⟨h, Shp.refl _ _ _, Nat.le_refl _⟩ hi h1
    refine ⟨g.s, fun s j hj hn _ => ?_⟩
    rw [(zl4 h hi h1 hp).2.1 s j hj, if_neg hn]
  · have e0 : prM sz (xs, f, (t, (l' : Int)), e) a p = zp6 sz ((l' : Int) - 1).toNat (atM sz xs t (idx a (l' : Int))).ppn p (zba sz xs ((l' : Int) - 1).toNat (atM sz xs t (idx a (l' : Int))).ppn a) xs := if_neg (by show ¬ zaw (atM sz xs t (idx a (l' : Int))) = true; rw [(zbv h1).2.2]; simp)
    rw [e0]
    obtain ⟨_, k2, k3, k4⟩ := zhr h hi h1
    obtain ⟨m, rfl⟩ : ∃ m : Nat, l' = m + 1 := ⟨l' - 1, by omega⟩
    rw [show (((m + 1 : Nat) : Int) - 1).toNat = m by omega]
    have g0 : Pnt cd cp sz f sh lv p xs xs := ⟨h, Shp.refl _ _ _, Nat.le_refl _⟩
    have g := zp7 h hp m (atM sz xs t (idx a ((m + 1 : Nat) : Int))).ppn a (by omega) k4 (by rw [k3, hlv]; omega) (zrn (by omega) hm) (zba sz xs m (atM sz xs t (idx a ((m + 1 : Nat) : Int))).ppn a) (fun y hy => hy) xs g0
    exact ⟨g.s, fun s j hj _ hs => zru h hp m (atM sz xs t (idx a ((m + 1 : Nat) : Int))).ppn a (by omega) k4 (by rw [k3, hlv]; omega) (zrn (by omega) hm) _ (fun y hy => hy) xs g0 s j hj (hs h1)⟩
theorem zzi (cd cp : Int) : ∀ (l : List Int) (p q : List (Int × Int) × Int), p.2 = q.2 → (bkN cd cp l p).2 = (bkN cd cp l q).2
  | [], p, q, h => h
  | g :: l, p, q, h => zzi cd cp l _ _ (by show TableC2.zdg cd cp p.2 g = TableC2.zdg cd cp q.2 g; rw [h])
theorem zzj (h : TI cd cp sz xs f sh lv) {t a e : Int} {l' : Nat} (ht : Al cd cp f t) (s j : Int) (hj : 0 ≤ j ∧ j < 512) :
    atM sz (zbi sz (zes sz cd cp (xs, f, (t, (l' : Int)), e) a).1 t (idx a (l' : Int)) zP) s j = if s = t ∧ j = idx a (l' : Int) then zP else if za9 (atM sz xs t (idx a (l' : Int))) = true ∧ s ∈ frN sz xs ((l' : Int) - 1).toNat (atM sz xs t (idx a (l' : Int))).ppn then zP else atM sz xs s j := by
  have hi := idx_bd a (l' : Int)
  have b1 := h.bd
  have bt := ht.1
  have hz : ∀ ys : List (Int × Int), zbi sz ys t (idx a (l' : Int)) zP = zb2 ys (t * 512 + idx a (l' : Int)) 0 := fun ys => by
    rw [zd9 z0d (by omega) hi (by rw [h.bz]; omega), zqy]
  rw [hz]
  by_cases c : za9 (atM sz xs t (idx a (l' : Int))) = true
  · have e1 : zes sz cd cp (xs, f, (t, (l' : Int)), e) a = bkN cd cp (frN sz xs ((l' : Int) - 1).toNat (atM sz xs t (idx a (l' : Int))).ppn) (xs, f) := if_pos c
    rw [e1]
    have hb := zgu cd cp sz h.bp (frN sz xs ((l' : Int) - 1).toNat (atM sz xs t (idx a (l' : Int))).ppn) (xs, f) h.s h.bf
    rw [zlx (cd := cd) (cp := cp) hb.s h.bz (by omega) hi s j hj, hb.e s j hj]
    split
    · rfl
    · by_cases d : s ∈ frN sz xs ((l' : Int) - 1).toNat (atM sz xs t (idx a (l' : Int))).ppn
      · rw [if_pos d, if_pos ⟨c, d⟩]
      · rw [if_neg d, if_neg fun hh => d hh.2]
  · have e1 : zes sz cd cp (xs, f, (t, (l' : Int)), e) a = (xs, f) := if_neg c
    rw [e1, zlx (cd := cd) (cp := cp) h.s h.bz (by omega) hi s j hj, if_neg (fun hh : _ ∧ _ => c hh.1)]
theorem z3v (h : TI cd cp sz xs f sh lv) (hsh : Al cd cp f sh) {t a e : Int} {l' : Nat} {p : Pm} (ht : Al cd cp f t) (hlv : lv t = (l' : Int)) (l2 : l' ≤ 2) (hH : l' = 2 → idx a 2 ≠ 511) (hp : zcy p = true) (hm : m39 a % VaSpec.sz (l' : Int) = 0)
    (hor : zaw (atM sz xs t (idx a (l' : Int))) = true ∨ lkP (atM sz xs t (idx a (l' : Int))) = true) :
    zbi sz (zes sz cd cp (prM sz (xs, f, (t, (l' : Int)), e) a p, f, (t, (l' : Int)), e) a).1 t (idx a (l' : Int)) zP = zbi sz (zes sz cd cp (xs, f, (t, (l' : Int)), e) a).1 t (idx a (l' : Int)) zP ∧
    (zes sz cd cp (prM sz (xs, f, (t, (l' : Int)), e) a p, f, (t, (l' : Int)), e) a).2 = (zes sz cd cp (xs, f, (t, (l' : Int)), e) a).2 := by
  have hi := idx_bd a (l' : Int)
  obtain ⟨s1, s2⟩ := zzh (e := e) h hp l2 hlv hm hor
  obtain ⟨q1, _⟩ := zwf (e := e) h hp l2 hlv hm hor
  obtain ⟨c1, _⟩ := zrc (e := e) h hsh ht hlv l2 hH
  obtain ⟨c2, _⟩ := zrc (e := e) q1 hsh ht hlv l2 hH
  have hat := fun s j hj => zzj (e := e) (a := a) (l' := l') h ht s j hj
  have hat2 := fun s j hj => zzj (e := e) (a := a) (l' := l') q1 ht s j hj
  -- the spot leads to the same
  have hsp : za9 (atM sz (prM sz (xs, f, (t, (l' : Int)), e) a p) t (idx a (l' : Int))) = za9 (atM sz xs t (idx a (l' : Int))) ∧ (za9 (atM sz xs t (idx a (l' : Int))) = true → atM sz (prM sz (xs, f, (t, (l' : Int)), e) a p) t (idx a (l' : Int)) = atM sz xs t (idx a (l' : Int))) := by
    rcases s1 t _ hi with e0 | ⟨e1, e2, _⟩
    · exact ⟨by rw [e0], fun _ => e0⟩
    · rw [(zbz e1).1, (zbz e2).1]
      exact ⟨rfl, fun hh => by cases hh⟩
  constructor
  · refine z3u c2 c1 fun s j hj => ?_
    rw [hat s j hj, hat2 s j hj, zwl s1, hsp.1]
    by_cases c0 : s = t ∧ j = idx a (l' : Int)
    · rw [if_pos c0, if_pos c0]
    · rw [if_neg c0, if_neg c0]
      cases cl : za9 (atM sz xs t (idx a (l' : Int))) with
      | true =>
        rw [hsp.2 cl]
        by_cases d : s ∈ frN sz xs ((l' : Int) - 1).toNat (atM sz xs t (idx a (l' : Int))).ppn
        · rw [if_pos ⟨rfl, d⟩, if_pos ⟨rfl, d⟩]
        · rw [if_neg (fun hh : _ ∧ _ => d hh.2), if_neg (fun hh : _ ∧ _ => d hh.2)]
          exact s2 s j hj c0 fun _ => d
      | false =>
        rw [if_neg (fun hh : _ ∧ _ => by cases hh.1), if_neg (fun hh : _ ∧ _ => by cases hh.1)]
        exact s2 s j hj c0 fun hh => by rw [(zbv hh).1] at cl; cases cl
  · unfold zes
    show (if za9 (atM sz (prM sz (xs, f, (t, (l' : Int)), e) a p) t (idx a (l' : Int))) = true then bkN cd cp (frN sz (prM sz (xs, f, (t, (l' : Int)), e) a p) ((l' : Int) - 1).toNat (atM sz (prM sz (xs, f, (t, (l' : Int)), e) a p) t (idx a (l' : Int))).ppn) (prM sz (xs, f, (t, (l' : Int)), e) a p, f) else (prM sz (xs, f, (t, (l' : Int)), e) a p, f)).2 = (if za9 (atM sz xs t (idx a (l' : Int))) = true then bkN cd cp (frN sz xs ((l' : Int) - 1).toNat (atM sz xs t (idx a (l' : Int))).ppn) (xs, f) else (xs, f)).2
    rw [hsp.1, zwl s1]
    split
    · rename_i cl
      rw [hsp.2 cl]
      exact zzi cd cp _ _ _ rfl
    · rfl
end
theorem zwm {sz cd addr zap top f : Int} {xs : List (Int × Int)} {l : Nat} (h : (zar sz xs addr zap l top).2 = zap ∨ zaw (atM sz xs (zar sz xs addr zap l top).1 (idx addr (zar sz xs addr zap l top).2)) = false) : ∀ n : Nat, toN sz cd addr zap top l n xs f = (xs, f, zar sz xs addr zap l top, 0)
  | 0 => rfl
  | n + 1 => by unfold toN; rw [if_pos h]
def pmE (q : Pte) : Pm := ⟨q.r, q.w, q.x, q.u⟩
section
variable {cd cp sz sh : Int}
theorem zwn (addr zap top : Int) (l : Nat) (hw : 0 ≤ zap) (hwl : zap ≤ (l : Int)) (hl2 : l ≤ 2) (pm : Pm) : ∀ (n : Nat) (xs : List (Int × Int)) (f : Int) (lv : Int → Int), TI cd cp sz xs f sh lv → Al cd cp f top → Al cd cp f sh → lv top = l →
    (zaw (atM sz xs (zar sz xs addr zap l top).1 (idx addr (zar sz xs addr zap l top).2)) = true ∧ pmE (atM sz xs (zar sz xs addr zap l top).1 (idx addr (zar sz xs addr zap l top).2)) = pm) →
    (toN sz cd addr zap top l n xs f).2.2.2 = 0 → zaw (atM sz (toN sz cd addr zap top l n xs f).1 (toN sz cd addr zap top l n xs f).2.2.1.1 (idx addr (toN sz cd addr zap top l n xs f).2.2.1.2)) = true ∧ pmE (atM sz (toN sz cd addr zap top l n xs f).1 (toN sz cd addr zap top l n xs f).2.2.1.1 (idx addr (toN sz cd addr zap top l n xs f).2.2.1.2)) = pm
  | 0, xs, f, lv, h, ht, _, hl, hor, _ => hor
  | n + 1, xs, f, lv, h, ht, hsh, hl, hor, he => by
    obtain ⟨l', t', i1, i2, i3, i4, i5, i6, i7⟩ := zcu h addr zap hw l top ht hl hwl
    rw [i1] at hor
    unfold toN at he ⊢
    rw [i1] at he ⊢
    by_cases c1 : (l' : Int) = zap ∨ zaw (atM sz xs t' (idx addr (l' : Int))) = false
    · rw [if_pos c1]; exact hor
    · rw [if_neg c1] at he ⊢
      have c2 : ¬ (l' : Int) = zap := fun e => c1 (.inl e)
      have hlf : zaw (atM sz xs t' (idx addr (l' : Int))) = true := hor.1
      by_cases c4 : f = 0
      · rw [if_pos c4] at he; cases he
      · rw [if_neg c4] at he ⊢
        obtain ⟨m, rfl⟩ : ∃ m : Nat, l' = m + 1 := ⟨l' - 1, by omega⟩
        have hi := idx_bd addr ((m + 1 : Nat) : Int)
        have hbad : zcx (atM sz xs t' (idx addr ((m + 1 : Nat) : Int))) ((m + 1 : Nat) : Int) = false := by
          rcases h.e.k t' _ hi with e | ⟨_, _, ⟨_, e⟩ | ⟨e, _⟩⟩
          · rw [e] at hlf; cases hlf
          · rw [i5] at e; exact e
          · rw [(zbv e).2.2] at hlf; cases hlf
        obtain ⟨a0, a1, a2, a3⟩ := zdp h c4
        have hT := znp h c4 i4 hsh hi i5 (by omega) rfl hlf hbad
        obtain ⟨s1, s2⟩ := zgt h c4 addr zap hw i4 i5 (by omega) (by omega) hlf hbad
        have hre := (i7 _ s1).trans s2
        have hat := zno h c4 i4 hi (l := ((m + 1 : Nat) : Int)) (by omega) rfl hlf hbad (cd + tzI f) (idx addr (m : Int)) (idx_bd addr _)
        rw [if_neg (by rintro ⟨e, _⟩; exact (a0 _ i4).2 e.symm), if_pos rfl] at hat
        refine zwn addr zap top l hw hwl hl2 pm n _ _ _ hT (a0 _ ht).1 (a0 _ hsh).1 ((if_neg (a0 _ ht).2).trans hl) ?_ he
        show zaw (atM sz (zfe sz xs t' (idx addr ((m + 1 : Nat) : Int)) ((m + 1 : Nat) : Int) (atM sz xs t' (idx addr ((m + 1 : Nat) : Int))) (cd + tzI f)) (zar sz (zfe sz xs t' (idx addr ((m + 1 : Nat) : Int)) ((m + 1 : Nat) : Int) (atM sz xs t' (idx addr ((m + 1 : Nat) : Int))) (cd + tzI f)) addr zap l top).1 (idx addr (zar sz (zfe sz xs t' (idx addr ((m + 1 : Nat) : Int)) ((m + 1 : Nat) : Int) (atM sz xs t' (idx addr ((m + 1 : Nat) : Int))) (cd + tzI f)) addr zap l top).2)) = true ∧ pmE (atM sz (zfe sz xs t' (idx addr ((m + 1 : Nat) : Int)) ((m + 1 : Nat) : Int) (atM sz xs t' (idx addr ((m + 1 : Nat) : Int))) (cd + tzI f)) (zar sz (zfe sz xs t' (idx addr ((m + 1 : Nat) : Int)) ((m + 1 : Nat) : Int) (atM sz xs t' (idx addr ((m + 1 : Nat) : Int))) (cd + tzI f)) addr zap l top).1 (idx addr (zar sz (zfe sz xs t' (idx addr ((m + 1 : Nat) : Int)) ((m + 1 : Nat) : Int) (atM sz xs t' (idx addr ((m + 1 : Nat) : Int))) (cd + tzI f)) addr zap l top).2)) = pm
        rw [hre]
        show zaw (atM sz (zfe sz xs t' (idx addr ((m + 1 : Nat) : Int)) ((m + 1 : Nat) : Int) (atM sz xs t' (idx addr ((m + 1 : Nat) : Int))) (cd + tzI f)) (cd + tzI f) (idx addr (m : Int))) = true ∧ pmE (atM sz (zfe sz xs t' (idx addr ((m + 1 : Nat) : Int)) ((m + 1 : Nat) : Int) (atM sz xs t' (idx addr ((m + 1 : Nat) : Int))) (cd + tzI f)) (cd + tzI f) (idx addr (m : Int))) = pm
        rw [hat]; exact hor
end
section
variable {cd cp sz f sh : Int} {xs xs' : List (Int × Int)} {lv : Int → Int}
theorem zs1 (h : TI cd cp sz xs f sh lv) (h' : TI cd cp sz xs' f sh lv) {p : Pm} (hs : Shp sz p xs xs') : ∀ (l : Nat) (t b : Int), lv t = l → (∃ y, y ∈ zba sz xs l t b) → ∃ y, y ∈ zba sz xs' l t b := by
  intro l
  induction l with
  | zero =>
    intro t b hl ⟨y, hy⟩
    obtain ⟨i, hi, c0, ⟨c1, _⟩ | ⟨_, m, e, _⟩⟩ := (zcv _ _ _ _ _ _).1 hy
    · have hi' : (0 : Int) ≤ (i : Int) ∧ (i : Int) < 512 := by omega
      have g := hs.leaf hi' c1
      obtain ⟨_, _, g2⟩ := zgx h' hi' g
      rw [hl] at g2
      exact ⟨_, (zcv _ _ _ _ _ _).2 ⟨i, hi, g2, .inl ⟨g, rfl⟩⟩⟩
    · omega
  | succ m ih =>
    intro t b hl ⟨y, hy⟩
    obtain ⟨i, hi, c0, ⟨c1, _⟩ | ⟨c1, m', e, hy'⟩⟩ := (zcv _ _ _ _ _ _).1 hy
    · have hi' : (0 : Int) ≤ (i : Int) ∧ (i : Int) < 512 := by omega
      have g := hs.leaf hi' c1
      obtain ⟨_, _, g2⟩ := zgx h' hi' g
      rw [hl] at g2
      exact ⟨_, (zcv _ _ _ _ _ _).2 ⟨i, hi, g2, .inl ⟨g, rfl⟩⟩⟩
    · obtain rfl : m' = m := by omega
      have hi' : (0 : Int) ≤ (i : Int) ∧ (i : Int) < 512 := by omega
      rcases hs t i hi' with e0 | ⟨e1, _⟩
      · rcases h.e.k t i hi' with e2 | ⟨_, _, ⟨e2, _⟩ | ⟨e2, _⟩⟩
        · rw [e2] at c0; cases c0
        · rw [e2] at c1; cases c1
        · obtain ⟨_, k2, k3, k4⟩ := zhr h hi' e2
          obtain ⟨z, hz⟩ := ih (atM sz xs t i).ppn (adr b i ((m' + 1 : Nat) : Int)) (by rw [k3, hl]; omega) ⟨y, hy'⟩
          refine ⟨z, (zcv _ _ _ _ _ _).2 ⟨i, hi, by rw [e0]; exact c0, .inr ⟨by rw [e0]; exact c1, m', rfl, ?_⟩⟩⟩
          rw [e0]; exact hz
      · rw [e1] at c1; cases c1
end
theorem z10 (p : Pm) (y z : Pg) (h : zwr y = zwr z) : zce [y] p = [] → zce [z] p = [] := by
  unfold zce
  intro e
  simp only [List.filter_cons, List.filter_nil] at e ⊢
  rw [← h]
  split at e
  · cases e
  · rename_i c; rw [if_neg c]
theorem z4s {n : Nat} {k : Kr} {id a l : Int} {p : Pm} (h : InvT n k) (he : (prR k id a l p).2 = 0) :
    (unR k id a l).2 = 0 ∧ (unR (prR k id a l p).1 id a l).2 = 0 ∧ { (unR (prR k id a l p).1 id a l).1 with fs := (unR k id a l).1.fs } = (unR k id a l).1 ∧ (zce (inR k id a l) p = [] → (prR k id a l p).1.fs = k.fs) := by
  unfold prR at he
  by_cases c0 : (zam k id a l).2.2 ≠ 0
  · rw [if_pos c0] at he; exact absurd he c0
  rw [if_neg c0] at he
  by_cases c1 : zcy p = false
  · rw [if_pos c1] at he; cases he
  rw [if_neg c1] at he
  by_cases c2 : (inR k id a l).length = 0
  · rw [if_pos c2] at he; cases he
  rw [if_neg c2] at he
  by_cases c3 : (unT k (zam k id a l).1 (zam k id a l).2.1 a l).2.2.2 ≠ 0
  · rw [if_pos c3] at he; exact absurd he c3
  have hA : prR k id a l p = (prK k id a p (unT k (zam k id a l).1 (zam k id a l).2.1 a l), 0) := by
    unfold prR; rw [if_neg c0, if_neg c1, if_neg c2, if_neg c3]
  have hB : unR k id a l = (unK k id (zam k id a l).1 (zam k id a l).2.1 a l (unT k (zam k id a l).1 (zam k id a l).2.1 a l), 0) := by
    unfold unR; rw [if_neg c0, if_neg c2, if_neg c3]
  rw [hA, hB]
  clear he hA hB
  have c0' : (zam k id a l).2.2 = 0 := by omega
  have c3' : (unT k (zam k id a l).1 (zam k id a l).2.1 a l).2.2.2 = 0 := by omega
  have hp : zcy p = true := by simpa using c1
  have hlev := zwa h c0' c2 c3'
  have hlf := z1s h c0' c2
  have hfm := zfq c0'
  have hfb := znv hfm
  obtain ⟨lv, hT, hs, hr⟩ := h.t
  obtain ⟨w1, w2, w3, w4⟩ := zbw (id := id) (a := a) (l := l) h.l c0'
  obtain ⟨z1, z2⟩ := h.top (a := a) (id := id) (l := l) c0' hs hr
  have hbm := zl3 w1 hfm
  have hin : inR k id a l = zau k.sz k.m (za4 k.sz k.m a l (zam k id a l).2.1 (zam k id a l).1).2 (atM k.sz k.m (za4 k.sz k.m a l (zam k id a l).2.1 (zam k id a l).1).1 (idx a (za4 k.sz k.m a l (zam k id a l).2.1 (zam k id a l).1).2)) (VaSpec.base a (za4 k.sz k.m a l (zam k id a l).2.1 (zam k id a l).1).2) := by
    unfold inR; rw [if_neg c0]
  have hw' : ∀ T : List (Int × Int) × Int × (Int × Int) × Int, zam (prK k id a p T) id a l = zam k id a l := fun T => rfl
  have hin' : ∀ T : List (Int × Int) × Int × (Int × Int) × Int, inR (prK k id a p T) id a l = zau k.sz (prM k.sz T a p) (za4 k.sz (prM k.sz T a p) a l (zam k id a l).2.1 (zam k id a l).1).2 (atM k.sz (prM k.sz T a p) (za4 k.sz (prM k.sz T a p) a l (zam k id a l).2.1 (zam k id a l).1).1 (idx a (za4 k.sz (prM k.sz T a p) a l (zam k id a l).2.1 (zam k id a l).1).2)) (VaSpec.base a (za4 k.sz (prM k.sz T a p) a l (zam k id a l).2.1 (zam k id a l).1).2) := fun T => by
    unfold inR; rw [hw', if_neg c0]; rfl
  have hD : ∀ T, unR (prK k id a p T) id a l = if (inR (prK k id a p T) id a l).length = 0 then (prK k id a p T, 7) else if (unT (prK k id a p T) (zam k id a l).1 (zam k id a l).2.1 a l).2.2.2 ≠ 0 then (prK k id a p T, (unT (prK k id a p T) (zam k id a l).1 (zam k id a l).2.1 a l).2.2.2) else (unK (prK k id a p T) id (zam k id a l).1 (zam k id a l).2.1 a l (unT (prK k id a p T) (zam k id a l).1 (zam k id a l).2.1 a l), 0) := fun T => by
    unfold unR; rw [hw', if_neg c0]
  have hstop : zaw (atM k.sz k.m (za4 k.sz k.m a l (zam k id a l).2.1 (zam k id a l).1).1 (idx a (za4 k.sz k.m a l (zam k id a l).2.1 (zam k id a l).1).2)) = false → unT k (zam k id a l).1 (zam k id a l).2.1 a l = (k.m, k.pf, za4 k.sz k.m a l (zam k id a l).2.1 (zam k id a l).1, 0) := fun hh => zwm (.inr hh) _
  clear hw'
  generalize zam k id a l = w at *
  obtain ⟨lv', P⟩ := zsz a l w.1 w.2.1.toNat w1.1 (by omega) (by omega) w.2.1.toNat k.m k.pf lv hT w2 h.l.sh (by omega)
  have hto := zyq a l w.1 w.2.1.toNat w1.1 (by omega) (by omega) w.2.1.toNat k.m k.pf lv hT w2 h.l.sh (by omega) hlf c3'
  have htl := fun pm hh => zwn a l w.1 w.2.1.toNat w1.1 (by omega) (by omega) pm w.2.1.toNat k.m k.pf lv hT w2 h.l.sh (by omega) hh c3'
  have P : ToP k.cd k.cp k.sz k.pf k.sh a l w.1 w.2.1.toNat k.m lv w.2.1.toNat (unT k w.1 w.2.1 a l) lv' := P
  have hto : zaw (atM k.sz (unT k w.1 w.2.1 a l).1 (unT k w.1 w.2.1 a l).2.2.1.1 (idx a (unT k w.1 w.2.1 a l).2.2.1.2)) = true ∨ lkP (atM k.sz (unT k w.1 w.2.1 a l).1 (unT k w.1 w.2.1 a l).2.2.1.1 (idx a (unT k w.1 w.2.1 a l).2.2.1.2)) = true := hto
  have htl : ∀ pm, (zaw (atM k.sz k.m (za4 k.sz k.m a l w.2.1 w.1).1 (idx a (za4 k.sz k.m a l w.2.1 w.1).2)) = true ∧ pmE (atM k.sz k.m (za4 k.sz k.m a l w.2.1 w.1).1 (idx a (za4 k.sz k.m a l w.2.1 w.1).2)) = pm) → zaw (atM k.sz (unT k w.1 w.2.1 a l).1 (unT k w.1 w.2.1 a l).2.2.1.1 (idx a (unT k w.1 w.2.1 a l).2.2.1.2)) = true ∧ pmE (atM k.sz (unT k w.1 w.2.1 a l).1 (unT k w.1 w.2.1 a l).2.2.1.1 (idx a (unT k w.1 w.2.1 a l).2.2.1.2)) = pm := htl
  have hDT := hD (unT k w.1 w.2.1 a l)
  have hIT := hin' (unT k w.1 w.2.1 a l)
  clear hD hin'
  have hut : ∀ T : List (Int × Int) × Int × (Int × Int) × Int, unT (prK k id a p T) w.1 w.2.1 a l = toN k.sz k.cd a l w.1 w.2.1.toNat w.2.1.toNat (prM k.sz T a p) T.2.1 := fun T => rfl
  generalize hTT : unT k w.1 w.2.1 a l = T at *
  obtain ⟨xs, f, ⟨t, lt⟩, e⟩ := T
  obtain ⟨l', e1, e2, e3, e4, e5⟩ := P.p
  have e1 : lt = (l' : Int) := e1
  subst e1
  obtain rfl : e = 0 := c3'
  have hll : (l' : Int) = l := hlev
  have e4 : Al k.cd k.cp f t := e4
  have e5 : lv' t = (l' : Int) := e5
  have hPt : TI k.cd k.cp k.sz xs f k.sh lv' := P.t
  have hPr : zar k.sz xs a l w.2.1.toNat w.1 = (t, (l' : Int)) := P.r
  have ash := P.a _ h.l.sh
  have hto : zaw (atM k.sz xs t (idx a (l' : Int))) = true ∨ lkP (atM k.sz xs t (idx a (l' : Int))) = true := hto
  have hbm' : m39 a % VaSpec.sz (l' : Int) = 0 := by rw [hll]; exact hbm
  obtain ⟨q1, _⟩ := zwf (e := 0) hPt hp (by omega) e5 hbm' hto
  obtain ⟨s1, _⟩ := zzh (e := 0) hPt hp (by omega) e5 hbm' hto
  obtain ⟨u1, u2⟩ := z3v (e := 0) hPt ash.1 e4 e5 (by omega) (fun hh => z2 (by omega)) hp hbm' hto
  have hre : zar k.sz (prM k.sz (xs, f, (t, (l' : Int)), 0) a p) a l w.2.1.toNat w.1 = (t, (l' : Int)) := (s1.reach a l _ _).trans hPr
  have hT' : unT (prK k id a p (xs, f, (t, (l' : Int)), 0)) w.1 w.2.1 a l = (prM k.sz (xs, f, (t, (l' : Int)), 0) a p, f, (t, (l' : Int)), 0) := by
    rw [hut]
    show toN k.sz k.cd a l w.1 w.2.1.toNat w.2.1.toNat (prM k.sz (xs, f, (t, (l' : Int)), 0) a p) f = _
    rw [zwm (.inl (by rw [hre]; exact hll)) _, hre]
  have hI : (inR (prK k id a p (xs, f, (t, (l' : Int)), 0)) id a l).length ≠ 0 := by
    rw [hIT]
    unfold za4
    rw [hre]
    show (zau k.sz (prM k.sz (xs, f, (t, (l' : Int)), 0) a p) (l' : Int) (atM k.sz (prM k.sz (xs, f, (t, (l' : Int)), 0) a p) t (idx a (l' : Int))) (VaSpec.base a (l' : Int))).length ≠ 0
    have hi := idx_bd a (l' : Int)
    unfold zau
    rcases hto with h1 | h1
    · rw [if_pos (s1.leaf hi h1)]
      show 1 ≠ 0
      omega
    · have h2 : atM k.sz (prM k.sz (xs, f, (t, (l' : Int)), 0) a p) t (idx a (l' : Int)) = atM k.sz xs t (idx a (l' : Int)) := by
        rcases s1 t _ hi with e0 | ⟨e1, _⟩
        · exact e0
        · rw [(zbv h1).2.2] at e1; cases e1
      rw [h2, if_neg (by rw [(zbv h1).2.2]; simp), if_pos (zbv h1).1]
      cases hl0 : zaw (atM k.sz k.m (za4 k.sz k.m a l w.2.1 w.1).1 (idx a (za4 k.sz k.m a l w.2.1 w.1).2)) with
      | true =>
        have := (htl _ ⟨hl0, rfl⟩).1
        have this : zaw (atM k.sz xs t (idx a (l' : Int))) = true := this
        rw [(zbv h1).2.2] at this; cases this
      | false =>
        have hst := hstop hl0
        simp only [Prod.mk.injEq] at hst
        obtain ⟨rfl, rfl, hsp, _⟩ := hst
        rw [← hsp] at hin
        rw [hin] at c2
        have c2 : (zau k.sz k.m (l' : Int) (atM k.sz k.m t (idx a (l' : Int))) (VaSpec.base a (l' : Int))).length ≠ 0 := c2
        unfold zau at c2
        rw [if_neg (by rw [(zbv h1).2.2]; simp), if_pos (zbv h1).1] at c2
        obtain ⟨_, k2, k3, k4⟩ := zhr hPt hi h1
        obtain ⟨y, hy⟩ := List.exists_mem_of_ne_nil (zba k.sz k.m ((l' : Int) - 1).toNat (atM k.sz k.m t (idx a (l' : Int))).ppn (VaSpec.base a (l' : Int))) (fun hh => c2 (by rw [hh]; rfl))
        obtain ⟨z, hz⟩ := zs1 hPt q1 s1 ((l' : Int) - 1).toNat (atM k.sz k.m t (idx a (l' : Int))).ppn _ (by rw [k3, e5]; omega) ⟨y, hy⟩
        exact fun hh => by rw [List.length_eq_zero_iff.1 hh] at hz; cases hz
  rw [if_neg hI, hT', if_neg (by show ¬ (0 : Int) ≠ 0; omega)] at hDT
  rw [hDT]
  have hum : unM (prK k id a p (xs, f, (t, (l' : Int)), 0)) (prM k.sz (xs, f, (t, (l' : Int)), 0) a p, f, (t, (l' : Int)), 0) w.1 w.2.1 a = unM k (xs, f, (t, (l' : Int)), 0) w.1 w.2.1 a := by
    show prN k.sz k.cd k.cp a w.2.1.toNat w.1 (zbi k.sz (zes k.sz k.cd k.cp (prM k.sz (xs, f, (t, (l' : Int)), 0) a p, f, (t, (l' : Int)), 0) a).1 t (idx a (l' : Int)) zP, (zes k.sz k.cd k.cp (prM k.sz (xs, f, (t, (l' : Int)), 0) a p, f, (t, (l' : Int)), 0) a).2) = prN k.sz k.cd k.cp a w.2.1.toNat w.1 (zbi k.sz (zes k.sz k.cd k.cp (xs, f, (t, (l' : Int)), 0) a).1 t (idx a (l' : Int)) zP, (zes k.sz k.cd k.cp (xs, f, (t, (l' : Int)), 0) a).2)
    rw [u1, u2]
  refine ⟨rfl, rfl, ?_, fun hle => ?_⟩
  · show ({ (unK (prK k id a p (xs, f, (t, (l' : Int)), 0)) id w.1 w.2.1 a l (prM k.sz (xs, f, (t, (l' : Int)), 0) a p, f, (t, (l' : Int)), 0)) with fs := (unK k id w.1 w.2.1 a l (xs, f, (t, (l' : Int)), 0)).fs } : Kr) = unK k id w.1 w.2.1 a l (xs, f, (t, (l' : Int)), 0)
    show ({ k with m := (unM (prK k id a p (xs, f, (t, (l' : Int)), 0)) (prM k.sz (xs, f, (t, (l' : Int)), 0) a p, f, (t, (l' : Int)), 0) w.1 w.2.1 a).1, pf := (unM (prK k id a p (xs, f, (t, (l' : Int)), 0)) (prM k.sz (xs, f, (t, (l' : Int)), 0) a p, f, (t, (l' : Int)), 0) w.1 w.2.1 a).2, fs := (unK k id w.1 w.2.1 a l (xs, f, (t, (l' : Int)), 0)).fs } : Kr) = unK k id w.1 w.2.1 a l (xs, f, (t, (l' : Int)), 0)
    rw [hum]
    rfl
  · show k.fs ++ zfy k id (zce (zau k.sz xs (l' : Int) (atM k.sz xs t (idx a (l' : Int))) a) p) = k.fs
    have key : zce (zau k.sz xs (l' : Int) (atM k.sz xs t (idx a (l' : Int))) a) p = [] := by
      cases hl0 : zaw (atM k.sz k.m (za4 k.sz k.m a l w.2.1 w.1).1 (idx a (za4 k.sz k.m a l w.2.1 w.1).2)) with
      | true =>
        obtain ⟨g1, g2⟩ := htl _ ⟨hl0, rfl⟩
        have g1 : zaw (atM k.sz xs t (idx a (l' : Int))) = true := g1
        have g2 : pmE (atM k.sz xs t (idx a (l' : Int))) = pmE (atM k.sz k.m (za4 k.sz k.m a l w.2.1 w.1).1 (idx a (za4 k.sz k.m a l w.2.1 w.1).2)) := g2
        rw [hin] at hle
        unfold zau at hle ⊢
        rw [if_pos hl0] at hle
        rw [if_pos g1]
        refine z10 p _ _ ?_ hle
        exact g2.symm
      | false =>
        have hst := hstop hl0
        simp only [Prod.mk.injEq] at hst
        obtain ⟨rfl, rfl, hsp, _⟩ := hst
        rw [hin, ← hsp] at hle
        have hle : zce (zau k.sz k.m (l' : Int) (atM k.sz k.m t (idx a (l' : Int))) (VaSpec.base a (l' : Int))) p = [] := hle
        rw [hll, hfb] at hle
        rw [hll]; exact hle
    rw [key]
    show k.fs ++ (if 16 < ([] : List Pg).length then _ else _) = k.fs
    rw [if_neg (by simp)]
    simp
end Go.Proofs.YtomeaibdedaldaaGreatDoor.LnA
namespace Go.Proofs.YtomeaibdedaldaaGreatDoor.LnC
open Go.RowKit Bv VaSpec Base MemL RegR Ax MemC PutC MemC3 TzC OkS SpA SpB SpC SpF SpH SpI SpJ LaA LaB LaC LaD LaE LaF LaG LiA LiB LiC LiD LiE LiF SpE SpG SpK SpO SpL SpN RfA RfB RfC RfD RfE RfJ RfK RlA RlB RlC LaH LaI LaJ LjA LjB LjF LiF LkE LmA LmB LmE LmF LmG LmH LmI LnA
open BitsC PteSpec
set_option maxRecDepth 10000
set_option maxHeartbeats 1000000
attribute [local irreducible] Ax.zbt
theorem z4t {n : Nat} {k : Kr} (h : InvL n k) (hn : n ≤ 100000) : Ok 16 [.ag k.ce, .ag k.ce] (.m (ib true)) := by
  have b1 := h.ml
  have b2 := h.fl
  have b3 := h.sl
  exact SpM.z0s k h.ts h.cs.2 (by omega) (by omega) (by omega)
theorem inRl {n : Nat} {k : Kr} (h : InvT n k) (id a l : Int) (ha : U a) : (inR k id a l).length ≤ 134217728 := by
  unfold inR
  by_cases c : (zam k id a l).2.2 = 0
  · rw [if_neg (by omega)]
    obtain ⟨l', t', e, h2, _⟩ := zp3 (id := id) (a := a) (l := l) h c
    rw [e]
    exact Nat.le_trans (zl2 k.sz k.m _ _ _ (zrj ha (by omega) (by omega)) (by show (l' : Int) ≤ 2; omega)).1 (by omega)
  · rw [if_pos c]; simp
theorem lifted4_ok (a b c d : Int) (l : List Dg) (e : Dg) (hl : ∀ x ∈ l, UG x) (he : UG e) : Ok 10 [zlk a b c d, .c (.s l.length 9 (zyr l)), .ag e.ce] (.m (ib true)) := by
  have hm := z0t a b c d
  cases hc : zf9 a b c d with
  | false =>
    rw [hc] at hm
    refine zad 127 Tryz.func10 rfl rfl rfl rfl ?_ GG.to
    intro W A hG
    repeat (first | (refine zah rfl ?_; first | refine zai ?_ | refine gdr (zaa rfl rfl rfl (zjp) (by kernel_rfl)) ?_ | refine gdr (zaa rfl rfl rfl (hm) (by kernel_rfl)) ?_) | (refine hK _ ?_; clear hK K) | (rename_i K1 hK1; refine hK1 _ ?_; clear hK hK1; clear K) | (rename_i K1 hK1; refine hK1 _ ?_; clear hK1) | refine zac rfl ?_ | refine zas (by kernel_rfl) (by kernel_rfl) rfl ?_ | exact zaj (show zav _ _ _ = some _ by kernel_rfl) | refine zaf rfl rfl ?_ | refine zae rfl rfl ?_ | refine zag ?_ | refine zax ?_ | refine zak ?_ | refine zab (fun K hK => ?_) | refine zby ?_ | refine zca ?_ | refine zaj (show zav _ _ _ = some _ ∧ EndB _ _ from ⟨by kernel_rfl, ?_⟩))
  | true =>
    rw [hc] at hm
    by_cases hlen : 15 < l.length
    · refine zad 127 Tryz.func10 rfl rfl rfl rfl ?_ GG.to
      intro W A hG
      repeat (first | (refine zah rfl ?_; first | refine zai ?_ | refine gdr (zaa rfl rfl rfl (zjp) (by kernel_rfl)) ?_ | refine gdr (zaa rfl rfl rfl (hm) (by kernel_rfl)) ?_) | (refine hK _ ?_; clear hK K) | (rename_i K1 hK1; refine hK1 _ ?_; clear hK hK1; clear K) | (rename_i K1 hK1; refine hK1 _ ?_; clear hK1) | refine zac rfl ?_ | refine zas (by kernel_rfl) (by kernel_rfl) rfl ?_ | exact zaj (show zav _ _ _ = some _ by kernel_rfl) | refine zaf rfl rfl ?_ | refine zae rfl rfl ?_ | refine zag ?_ | refine zax ?_ | refine zak ?_ | refine zab (fun K hK => ?_) | refine zby ?_ | refine zca ?_ | refine zaj (show zav _ _ _ = some _ ∧ EndB _ _ from ⟨by kernel_rfl, ?_⟩))
    obtain ⟨n, rfl⟩ := Int.eq_ofNat_of_zero_le (zdk.1 hc).2.2.2.1
    have hb := zn3 a b c n hc
    have hbi := zvy hc
    generalize bgK a b c n = bk at *
    refine zad 127 Tryz.func10 rfl rfl rfl rfl ?_ GG.to
    intro W A hG
    repeat (first | (refine zah rfl ?_; first | refine zai ?_ | refine gdr (zaa rfl rfl rfl (zjp) (by kernel_rfl)) ?_ | refine gdr (zaa rfl rfl rfl (hm) (by kernel_rfl)) ?_ | refine gdr (zaa rfl rfl rfl (hb) (by kernel_rfl)) ?_) | (refine hK _ ?_; clear hK K) | (rename_i K1 hK1; refine hK1 _ ?_; clear hK hK1; clear K) | (rename_i K1 hK1; refine hK1 _ ?_; clear hK1) | refine zac rfl ?_ | refine zas (by kernel_rfl) (by kernel_rfl) rfl ?_ | exact zaj (show zav _ _ _ = some _ by kernel_rfl) | refine zaf rfl rfl ?_ | refine zae rfl rfl ?_ | refine zag ?_ | refine zax ?_ | refine zak ?_ | refine zab (fun K hK => ?_) | refine zby ?_ | refine zca ?_ | refine zaj (show zav _ _ _ = some _ ∧ EndB _ _ from ⟨by kernel_rfl, ?_⟩))
    refine za1 (α := Nat × Kr) (fun w => w.1 ≤ l.length ∧ InvT (2 + 1100 * w.1) w.2) (fun w => zp9 l e w.1 w.2) (fun w => l.length - w.1) (0, bk) ⟨Nat.zero_le _, hbi⟩ (zan _ _ ⟨by kernel_rfl, by kernel_rfl, by kernel_rfl, by kernel_rfl, by kernel_rfl, trivial⟩ ⟨by kernel_rfl, by kernel_rfl, trivial⟩ (by kernel_rfl)) ?_
    rintro ⟨i, k⟩ ⟨hi0, hk0⟩
    have hi : i ≤ l.length := hi0
    have hk : InvT (2 + 1100 * i) k := hk0
    show Aw _ _ _ _ (zp9 l e i k)
    unfold zp9
    by_cases hlt : i < l.length
    · obtain ⟨x, hx0⟩ : ∃ x, l[i]? = some x := ⟨_, List.getElem?_eq_getElem hlt⟩
      have hx := z1x hx0
      have h8 := hl x (List.mem_of_getElem? hx0)
      have hd := z3t hk (by omega) h8
      have hdi := z1w hk h8
      generalize dgR k x = rr at *
      repeat (first | (refine zah rfl ?_; first | refine zai ?_ | refine gdr (zaa rfl rfl rfl (hd) (by kernel_rfl)) ?_) | (refine hK _ ?_; clear hK K) | (rename_i K1 hK1; refine hK1 _ ?_; clear hK hK1; clear K) | (rename_i K1 hK1; refine hK1 _ ?_; clear hK1) | refine zac rfl ?_ | refine zas (by kernel_rfl) (by kernel_rfl) rfl ?_ | exact zaj (show zav _ _ _ = some _ by kernel_rfl) | refine zaf rfl rfl ?_ | refine zae rfl rfl ?_ | refine zag ?_ | refine zax ?_ | refine zak ?_ | refine zab (fun K hK => ?_) | refine zby ?_ | refine zca ?_ | refine zaj (show zav _ _ _ = some _ ∧ EndB _ _ from ⟨by kernel_rfl, ?_⟩))
      exact ⟨(i + 1, rr.1), ⟨by show i + 1 ≤ l.length; omega, hdi⟩, by show l.length - (i + 1) < l.length - i; omega, zan _ _ ⟨by kernel_rfl, by kernel_rfl, by kernel_rfl, by kernel_rfl, by kernel_rfl, trivial⟩ ⟨by kernel_rfl, by kernel_rfl, trivial⟩ (by kernel_rfl)⟩
    · have hd := zc8 hk (by omega) e.id e.va e.lev e.p he.2.1
      have hu := zjl hk (by omega) e.id e.va e.lev he.2.1
      have hpi := zwg (id := e.id) (a := e.va) (l := e.lev) (p := e.p) hk
      have hu2 := zjl hpi (by omega) e.id e.va e.lev he.2.1
      have hin := z1l hk (by omega) e.id e.va e.lev he.2.1
      have hil := inRl hk e.id e.va e.lev he.2.1
      have hle := zjo (inR k e.id e.va e.lev) e.p (by omega)
      have hui := (zzd (id := e.id) (a := e.va) (l := e.lev) hk).l
      have hsm := z4t hui (by omega)
      have hpu := z4s (id := e.id) (a := e.va) (l := e.lev) (p := e.p) hk
      clear hui hpi
      generalize hQ : unR (prR k e.id e.va e.lev e.p).1 e.id e.va e.lev = rq at *
      clear hQ
      generalize zce (inR k e.id e.va e.lev) e.p = LL at *
      generalize inR k e.id e.va e.lev = IL at *
      generalize prR k e.id e.va e.lev e.p = rp at *
      generalize unR k e.id e.va e.lev = ru at *
      obtain ⟨kp, ep⟩ := rp
      obtain ⟨ku, eu⟩ := ru
      obtain ⟨kq, eq⟩ := rq
      repeat (first | (refine zah rfl ?_; first | refine zai ?_) | refine zac rfl ?_ | refine zas (by kernel_rfl) (by kernel_rfl) rfl ?_ | exact zaj (show zav _ _ _ = some _ by kernel_rfl) | refine zaf rfl rfl ?_ | refine zae rfl rfl ?_ | refine zag ?_ | refine zax ?_ | refine zak ?_ | refine zab (fun K hK => ?_) | refine zby ?_ | refine zca ?_ | refine zaj (show zav _ _ _ = some _ ∧ EndB _ _ from ⟨by kernel_rfl, ?_⟩))
      first
        | (refine hK _ ?_; clear hK K)
        | (rename_i K1 hK1; refine hK1 _ ?_; clear hK hK1; clear K)
        | (rename_i K1 hK1; refine hK1 _ ?_; clear hK1)
      repeat (first | (refine zah rfl ?_; first | refine zai ?_) | refine zac rfl ?_ | refine zas (by kernel_rfl) (by kernel_rfl) rfl ?_ | exact zaj (show zav _ _ _ = some _ by kernel_rfl) | refine zaf rfl rfl ?_ | refine zae rfl rfl ?_ | refine zag ?_ | refine zax ?_ | refine zak ?_ | refine zab (fun K hK => ?_) | refine zby ?_ | refine zca ?_ | refine zaj (show zav _ _ _ = some _ ∧ EndB _ _ from ⟨by kernel_rfl, ?_⟩))
      first
        | (refine hK _ ?_; clear hK K)
        | (rename_i K1 hK1; refine hK1 _ ?_; clear hK hK1; clear K)
        | (rename_i K1 hK1; refine hK1 _ ?_; clear hK1)
      repeat (first | (refine zah rfl ?_; first | refine zai ?_ | refine gdr (zaa rfl rfl rfl (hd) (by kernel_rfl)) ?_) | refine zac rfl ?_ | refine zas (by kernel_rfl) (by kernel_rfl) rfl ?_ | exact zaj (show zav _ _ _ = some _ by kernel_rfl) | refine zaf rfl rfl ?_ | refine zae rfl rfl ?_ | refine zag ?_ | refine zax ?_ | refine zak ?_ | refine zab (fun K hK => ?_) | refine zby ?_ | refine zca ?_ | refine zaj (show zav _ _ _ = some _ ∧ EndB _ _ from ⟨by kernel_rfl, ?_⟩))
      first
        | (refine hK _ ?_; clear hK K)
        | (rename_i K1 hK1; refine hK1 _ ?_; clear hK hK1; clear K)
        | (rename_i K1 hK1; refine hK1 _ ?_; clear hK1)
      refine zc0 (zan [(5, .m (.c (.p 5 0))), (6, .m (ib false)), (7, .m (.c (.p 7 0))), (10, .m (.c (.p 10 0))), (11, .m (ii ep))] [(5, .live (.box e.ce)), (7, .live (.box k.ce)), (10, .live (.box kp.ce))] ⟨by kernel_rfl, by kernel_rfl, by kernel_rfl, by kernel_rfl, by kernel_rfl, trivial⟩ ⟨by kernel_rfl, by kernel_rfl, by kernel_rfl, trivial⟩ (by kernel_rfl)) ?_
      repeat (first | (refine zah rfl ?_; first | refine zai ?_ | refine gdr (zaa rfl rfl rfl (hu) (by kernel_rfl)) ?_) | refine zac rfl ?_ | refine zas (by kernel_rfl) (by kernel_rfl) rfl ?_ | exact zaj (show zav _ _ _ = some _ by kernel_rfl) | refine zaf rfl rfl ?_ | refine zae rfl rfl ?_ | refine zag ?_ | refine zax ?_ | refine zak ?_ | refine zab (fun K hK => ?_) | refine zby ?_ | refine zca ?_ | refine zaj (show zav _ _ _ = some _ ∧ EndB _ _ from ⟨by kernel_rfl, ?_⟩))
      first
        | (refine hK _ ?_; clear hK K)
        | (rename_i K1 hK1; refine hK1 _ ?_; clear hK hK1; clear K)
        | (rename_i K1 hK1; refine hK1 _ ?_; clear hK1)
      refine zc0 (zan [(5, .m (.c (.p 5 0))), (6, .m (ib false)), (7, .m (.c (.p 7 0))), (10, .m (.c (.p 10 0))), (11, .m (ii ep)), (12, .m (.c (.p 12 0))), (13, .m (ii eu))] [(5, .live (.box e.ce)), (7, .live (.box k.ce)), (10, .live (.box kp.ce)), (12, .live (.box ku.ce))] ⟨by kernel_rfl, by kernel_rfl, by kernel_rfl, by kernel_rfl, by kernel_rfl, by kernel_rfl, by kernel_rfl, trivial⟩ ⟨by kernel_rfl, by kernel_rfl, by kernel_rfl, by kernel_rfl, trivial⟩ (by kernel_rfl)) ?_
      repeat (first | (refine zah rfl ?_; first | refine zai ?_ | refine gdr (zaa rfl rfl rfl (hu2) (by kernel_rfl)) ?_) | refine zac rfl ?_ | refine zas (by kernel_rfl) (by kernel_rfl) rfl ?_ | exact zaj (show zav _ _ _ = some _ by kernel_rfl) | refine zaf rfl rfl ?_ | refine zae rfl rfl ?_ | refine zag ?_ | refine zax ?_ | refine zak ?_ | refine zab (fun K hK => ?_) | refine zby ?_ | refine zca ?_ | refine zaj (show zav _ _ _ = some _ ∧ EndB _ _ from ⟨by kernel_rfl, ?_⟩))
      first
        | (refine hK _ ?_; clear hK K)
        | (rename_i K1 hK1; refine hK1 _ ?_; clear hK hK1; clear K)
        | (rename_i K1 hK1; refine hK1 _ ?_; clear hK1)
      refine zc0 (zan [(5, .m (.c (.p 5 0))), (6, .m (ib false)), (7, .m (.c (.p 7 0))), (10, .m (.c (.p 10 0))), (11, .m (ii ep)), (12, .m (.c (.p 12 0))), (13, .m (ii eu)), (14, .m (.c (.p 14 0))), (15, .m (ii eq))] [(5, .live (.box e.ce)), (7, .live (.box k.ce)), (10, .live (.box kp.ce)), (12, .live (.box ku.ce)), (14, .live (.box kq.ce))] ⟨by kernel_rfl, by kernel_rfl, by kernel_rfl, by kernel_rfl, by kernel_rfl, by kernel_rfl, by kernel_rfl, by kernel_rfl, by kernel_rfl, trivial⟩ ⟨by kernel_rfl, by kernel_rfl, by kernel_rfl, by kernel_rfl, by kernel_rfl, trivial⟩ (by kernel_rfl)) ?_
      by_cases c0 : ep = 0
      · subst c0
        obtain ⟨r1, r2, r3, r4⟩ := hpu rfl
        replace r1 : eu = 0 := r1
        replace r2 : eq = 0 := r2
        replace r3 : { kq with fs := ku.fs } = ku := r3
        replace r4 : LL = [] → kp.fs = k.fs := r4
        subst r1 r2
        obtain ⟨X, hX⟩ : ∃ X, X = kq.fs := ⟨_, rfl⟩
        replace r3 : kq = { ku with fs := X } := by rw [← r3, hX]
        clear hpu hX
        subst r3
        by_cases c1 : LL = []
        · replace r4 := r4 c1
          have r5 : kp.fs.length = k.fs.length := by rw [r4]
          subst c1
          repeat (first | (refine zah rfl ?_; first | refine zai ?_ | refine gdr (zaa rfl rfl rfl (hin) (by kernel_rfl)) ?_ | refine gdr (zaa rfl rfl rfl (hle) (by kernel_rfl)) ?_ | refine gdr (zaa rfl rfl rfl (hsm) (by kernel_rfl)) ?_) | (refine hK _ ?_; clear hK K) | (rename_i K1 hK1; refine hK1 _ ?_; clear hK hK1; clear K) | (rename_i K1 hK1; refine hK1 _ ?_; clear hK1) | refine zac rfl ?_ | refine zas (by kernel_rfl) (by kernel_rfl) rfl ?_ | exact zaj (show zav _ _ _ = some _ by kernel_rfl) | refine zaf rfl rfl ?_ | refine zae rfl rfl ?_ | refine zag ?_ | refine zax ?_ | refine zak ?_ | refine zab (fun K hK => ?_) | refine zby ?_ | refine zca ?_ | refine zaj (show zav _ _ _ = some _ ∧ EndB _ _ from ⟨by kernel_rfl, ?_⟩))
        · have c2 : LL.length ≠ 0 := fun hh => c1 (List.length_eq_zero_iff.1 hh)
          repeat (first | (refine zah rfl ?_; first | refine zai ?_ | refine gdr (zaa rfl rfl rfl (hin) (by kernel_rfl)) ?_ | refine gdr (zaa rfl rfl rfl (hle) (by kernel_rfl)) ?_ | refine gdr (zaa rfl rfl rfl (hsm) (by kernel_rfl)) ?_) | (refine hK _ ?_; clear hK K) | (rename_i K1 hK1; refine hK1 _ ?_; clear hK hK1; clear K) | (rename_i K1 hK1; refine hK1 _ ?_; clear hK1) | refine zac rfl ?_ | refine zas (by kernel_rfl) (by kernel_rfl) rfl ?_ | exact zaj (show zav _ _ _ = some _ by kernel_rfl) | refine zaf rfl rfl ?_ | refine zae rfl rfl ?_ | refine zag ?_ | refine zax ?_ | refine zak ?_ | refine zab (fun K hK => ?_) | refine zby ?_ | refine zca ?_ | refine zaj (show zav _ _ _ = some _ ∧ EndB _ _ from ⟨by kernel_rfl, ?_⟩))
      · clear hpu
        repeat (first | (refine zah rfl ?_; first | refine zai ?_ | refine gdr (zaa rfl rfl rfl (hin) (by kernel_rfl)) ?_ | refine gdr (zaa rfl rfl rfl (hle) (by kernel_rfl)) ?_ | refine gdr (zaa rfl rfl rfl (hsm) (by kernel_rfl)) ?_) | (refine hK _ ?_; clear hK K) | (rename_i K1 hK1; refine hK1 _ ?_; clear hK hK1; clear K) | (rename_i K1 hK1; refine hK1 _ ?_; clear hK1) | refine zac rfl ?_ | refine zas (by kernel_rfl) (by kernel_rfl) rfl ?_ | exact zaj (show zav _ _ _ = some _ by kernel_rfl) | refine zaf rfl rfl ?_ | refine zae rfl rfl ?_ | refine zag ?_ | refine zax ?_ | refine zak ?_ | refine zab (fun K hK => ?_) | refine zby ?_ | refine zca ?_ | refine zaj (show zav _ _ _ = some _ ∧ EndB _ _ from ⟨by kernel_rfl, ?_⟩))
end Go.Proofs.YtomeaibdedaldaaGreatDoor.LnC
