/- Texts of this claim, one behind the other: AxL, AxM, AxN, AxO, Bv, VaSpec, Base, MemC. -/
import Derived.Test.YtkffmaeiplgjeaaGreatDoorM4
import Derived.RowKit
import Derived.Laws.Entries
import Derived.Laws.BitsLemmas
import Derived.Test.YtkffmaeiplgjeaaGreatDoorProg
import Derived.Below
import Derived.WalkKit
import Derived.OwnWalk
import Derived.KernelRfl
import Derived.Laws.Rows
import Derived.Lib.Hide
import Derived.Deep.RegionWith
import Derived.Deep.QuietTactic
import Derived.BigQuiet
import Derived.Deep.LoopGhost
import Derived.StillTailTactics
import Derived.Test.YtkffmaeiplgjeaaGreatDoorM1
import Derived.Outline
/- The abstract walk: calls that hand back a row of their own, tables of the program's text, indexes of arrays, '==' of structs. -/
namespace Go.Proofs.YtkffmaeiplgjeaaGreatDoor.Ax
open Go.RowKit Go.Proofs.YtkffmaeiplgjeaaGreatDoor.MemL Go.Proofs.YtkffmaeiplgjeaaGreatDoor.RegR
set_option linter.unusedVariables false
set_option linter.unusedSimpArgs false
variable {P : Program} {ops : Array Oper} {X : Cx} {o : Oper} {S : St}
/-- a new row, nil perhaps -/
theorem SimT.newr {τ : Nat → Value} {a : Act} {w w' : World} (h : SimT X S τ a w) {b e k n : Nat} {xs : List Value} (hf : S.hp b = .fresh) (hb : Below w.heap.size w w') {v : Value} (hr : w'.ownsRow w.heap.size e k v n xs) {d : Option Tmp} {rd : List Rd} :
    SimT X (S.app d ⟨.m (.c (.o b)), [(b, .live (.row e k n xs))], rd⟩) (setτ τ b v) (a.put d v) w' := by
  have r2 : w'.ownsRow X.base e k v n xs := by
    refine ⟨hr.1, ?_⟩
    rcases hr.2 with x | ⟨g, cap, cur, e1, e2, e3⟩
    · exact .inl x
    · exact .inr ⟨g, cap, cur, e1, Nat.le_trans h.bel.size e2, e3⟩
  by_cases hnil : v.ownBlock = none
  · have hn : occ v = none := by rw [own_occ r2]; exact hnil
    have hvn : v = .slice none 0 0 ∧ n = 0 := by rcases r2.2 with e | ⟨g, cap, cur, e, _⟩; exact e; rw [e] at hnil; cases hnil
    have hne : ∀ i, S.hp i ≠ .fresh → i ≠ b := fun i hi e => hi (e ▸ hf)
    have hal : ∀ i, alive (upd [(b, Hs.live (.row e k n xs))] S.hp) i → i = b ∨ (i ≠ b ∧ alive S.hp i) := fun i ⟨k', hi⟩ => by
      rw [upd_one] at hi
      by_cases e : i = b
      · exact .inl e
      · rw [if_neg e] at hi; exact .inr ⟨e, k', hi⟩
    have hle : (env X S.hp τ w).le (env X (upd [(b, Hs.live (.row e k n xs))] S.hp) (setτ τ b v) w') := by
      refine ⟨fun i hi => ⟨?_, ?_⟩, fun g' hg' ha => ⟨ha.1, fun i hi => ?_⟩, hb.size, fun g' o' hg' _ => hb.cell (p := ⟨g', o', none⟩) hg'⟩
      · show upd _ _ i ≠ _; rw [upd_one, if_neg (hne i hi)]; exact hi
      · show setτ τ b v i = τ i; unfold setτ; rw [if_neg (hne i hi)]
      · show occ (setτ τ b v i) ≠ some g'
        unfold setτ
        rcases hal i hi with e | ⟨e, hi⟩
        · rw [if_pos e, hn]; intro e'; cases e'
        · rw [if_neg e]; exact ha.2 i hi
    refine h.turn (u := [(b, Hs.live (.row e k n xs))]) hle (h.bel.trans (hb.mono h.bel.size)) (fun i k' hi => ?_) (fun i g' hi ho => ?_) (fun i j g' hij hi hj ho => ?_) (fun i => ?_) ?_
    · rw [upd_one] at hi
      unfold setτ
      by_cases e : i = b
      · rw [if_pos e] at hi ⊢; cases hi; exact r2
      · rw [if_neg e] at hi ⊢
        have := h.hp i k' hi
        cases k' with
        | box cs =>
          obtain ⟨g', vs, e1, e2, e3⟩ := this
          exact ⟨g', vs, e1, Bx.below e2 hb, All2.mono (ceR_le hle) _ _ e3⟩
        | row e k n xs => exact bkR_below (X := X) (h := S.hp) (τ := τ) hb _ _ _ this
    · unfold setτ at ho
      rcases hal i hi with e | ⟨e, hi⟩
      · rw [if_pos e, hn] at ho; cases ho
      · rw [if_neg e] at ho; exact ⟨(h.own i g' hi ho).1, Nat.lt_of_lt_of_le (h.own i g' hi ho).2 hb.size⟩
    · unfold setτ at ho ⊢
      rcases hal i hi with e | ⟨e, hi⟩
      · rw [if_pos e, hn] at ho; cases ho
      · rw [if_neg e] at ho
        rcases hal j hj with e' | ⟨e', hj⟩
        · rw [if_pos e', hn]; intro hj'; cases hj'
        · rw [if_neg e']; exact h.sep i j g' hij hi hj ho
    · unfold setτ; split
      · rw [hvn.1]; rfl
      · exact h.one i
    · refine ⟨?_, ?_⟩
      · show upd _ _ b ≠ _; rw [upd_one, if_pos rfl]; intro e; cases e
      · show _ = setτ τ b v b; unfold setτ; rw [if_pos rfl]
  · obtain ⟨g, hg⟩ := Option.ne_none_iff_exists'.1 hnil
    have hg2 := World.ownsRow.lt hr _ hg
    refine h.newb (k := .row e k n xs) hf hb (v := v) (g := g) (occ_own hg) hg2 (by rcases r2.2 with ⟨rfl, _⟩ | ⟨_, _, _, rfl, _⟩ <;> rfl) (fun E hE hw' => by
      show E.w.ownsRow X.base e k v n xs
      rw [hw']; exact r2) ⟨?_, ?_⟩
    · show upd _ _ b ≠ _; rw [upd_one, if_pos rfl]; intro e; cases e
    · show _ = setτ τ b v b; unfold setτ; rw [if_pos rfl]
/-- a function that answers a row of its own -/
def CallOwn (P : Program) (G : World → Prop) (k : FuncId) (args : List Cm) (e sz n : Nat) (xs : List Value) : Prop := args.all closedM = true ∧ ∀ (A : Nat → Prop) (W : World) (vs : Array Value), G W → All2 (Cm.R (en0 A W)) args vs.toList →
  Calls P k vs W (fun en w' => ∃ v, en = .returned v ∧ Below W.heap.size W w' ∧ w'.ownsRow W.heap.size e sz v n xs)
theorem valid_call_own {k b e sz n : Nat} {ys : List Value} {xs : Array Operand} {ts : Array TypeId} {l : List Cm} (ho : o.op = .call { callee := .value (.func k), args := xs, argTypes := ts }) (hd : o.dst = some b) (hw : want ops S o = true) (hf : S.hp b = .fresh) (hk : callable P k = true) (hc : CallOwn P X.G k l e sz n ys) (hl : argsA S xs.toList = some l) : Valid P ops X o S ⟨.m (.c (.o b)), [(b, .live (.row e sz n ys))], []⟩ := fun S2 a w h1 h2 h3 ⟨τ, hS⟩ => by
  refine .inl ⟨want_spec hw h1 h3 hS, ?_⟩
  rw [run_call ho hk]
  obtain ⟨c2, hc⟩ := hc
  have hR := argsA_R (S := S) (E := env X S2.hp τ w) (a := a) xs.toList l hl (fun x hx => by
    have hm : x ∈ o.op.operands := by rw [ho]; simp [Op.operands, Call.operands]; exact .inr (by simpa using hx)
    rw [← ev_same h1 hm]; exact hS.ev x (fun t e => h3 t (.inl (looks_op (e ▸ hm)))))
  have hR' := all2m_map (F := en0 (alw X S2.hp τ) w) (E := env X S2.hp τ w) rfl (fun _ _ h => h) _ _ c2 hR
  refine (hc (alw X S2.hp τ) w (xs.map a.eval) (X.hG w hS.bel) (by simpa using hR')).mono ?_
  rintro en w' ⟨v, rfl, hb, hr⟩
  exact ⟨v, rfl, _, hS.newr (Eq.trans (h2 (.all b) (by simp [Ef.foot, upRd])) hf) hb hr⟩
/-- a load of a cell that the program's text lays -/
theorem valid_load_v {t g off : Nat} {x : Operand} {d : TypeDesc} {v : Value} (ho : o.op = .load t x) (hw : want ops S o = true) (hx : S.ev x = .m (.c (.v (.pointer (some ⟨g, off, none⟩))))) (hu : P.underlying t = some d) (hd : d.isRow = false) (hc : ∀ w, Below X.base X.W0 w → w.cell? ⟨g, off, none⟩ = some v) : Valid P ops X o S ⟨.m (.c (.v v)), [], []⟩ :=
  valid_val [] hw fun S2 τ a w h hrd hS => by
    have h1 := h x (by rw [ho]; simp [Op.operands])
    rw [hx] at h1
    have e : a.eval x = .pointer (some ⟨g, off, none⟩) := h1
    refine ⟨v, ?_, rfl⟩
    have hl : (loadVar t ⟨g, off, none⟩).run P w = .ok v w := by
      unfold loadVar
      rw [Sem.run_bind, run_isAgg hu w]
      simp [hd, hc w hS.bel]
    simp [execOp, ho, e, Instr.loadAt, Instr.sureAddr, hl]
theorem valid_idx_v {t el k n c g off : Nat} {x y : Operand} {kk : IntKind} {i : Int} (ho : o.op = .indexAddr t x y) (hw : want ops S o = true) (hx : S.ev x = .m (.c (.v (.slice (some ⟨g, off, none⟩) n c)))) (hy : S.ev y = .m (.c (.v (.int kk i))))
    (hu : P.underlying t = some (.slice el)) (hk : sizeA P el = some k) (h0 : 0 ≤ i) (h1 : i < n) : Valid P ops X o S ⟨.m (.c (.v (.pointer (some ⟨g, off + i.toNat * k, none⟩)))), [], []⟩ :=
  valid_val [] hw fun S2 τ a w h _ _ => by
    have q1 := h x (by rw [ho]; simp [Op.operands])
    have q2 := h y (by rw [ho]; simp [Op.operands])
    rw [hx] at q1; rw [hy] at q2
    have q1 : a.eval x = .slice (some ⟨g, off, none⟩) n c := q1
    have q2 : a.eval y = .int kk i := q2
    exact ⟨_, by simp [execOp, ho, q1, q2, run_indexAt_sl hu hk h0 h1], rfl⟩
theorem valid_index' {t len el k : Nat} {x y : Operand} {cs : List Ce} {m : Cm} {kk : IntKind} {i : Int} (ho : o.op = .index t x y) (hw : want ops S o = true) (hx : S.ev x = .m (.ag cs)) (hy : S.ev y = .m (.c (.v (.int kk i))))
    (hu : P.underlying t = some (.array len el)) (hk : sizeA P el = some k) (h0 : 0 ≤ i) (h1 : i < len) (hm : partA P el cs (i.toNat * k) = some m) : Valid P ops X o S ⟨.m m, [], []⟩ :=
  valid_val [] hw fun S2 τ a w h _ _ => by
    have q1 := h x (by rw [ho]; simp [Op.operands])
    have q2 := h y (by rw [ho]; simp [Op.operands])
    rw [hx] at q1; rw [hy] at q2
    obtain ⟨vs, e, hR⟩ := q1
    have q2 : a.eval y = .int kk i := q2
    obtain ⟨v, hv, hr⟩ := run_partA hm hR w
    refine ⟨v, ?_, hr⟩
    simp [execOp, ho, e, q2, Instr.index, asIntOf, run_underlying hu, h0, h1, sizeA_run hk, hv]
theorem valid_index (tb : Tb) {t len el : Nat} {x y : Operand} {cs : List Ce} {kk : IntKind} {i : Int} (ho : o.op = .index t x y) (hw : want ops S o = true) (hx : S.ev x = .m (.ag cs)) (hy : S.ev y = .m (.c (.v (.int kk i))))
    (hu : P.underlying t = some (.array len el)) (ht : tyOk P tb el = true) (h0 : 0 ≤ i) (h1 : i < len) (hin : inT tb el (i.toNat * tb.sz el) cs.length = true) : Valid P ops X o S ⟨.m (partT tb el cs (i.toNat * tb.sz el)), [], []⟩ :=
  valid_index' ho hw hx hy hu (by
    unfold tyOk at ht
    split at ht
    · rename_i d i hd hi
      simp only [Bool.and_eq_true] at ht
      unfold sizeA; rw [hi, Option.map_some, Nat.eq_of_beq_eq_true ht.2]
    · cases ht) h0 h1 (partT_A ht (inT_1 hin))
/-- a call of a function value -/
theorem valid_call_f {k : FuncId} {t : Tmp} {xs : Array Operand} {ts : Array TypeId} {l : List Cm} {r : AV} (ho : o.op = .call { callee := .value (.tmp t), args := xs, argTypes := ts }) (hw : want ops S o = true) (hf : S.tm t = .m (.c (.v (.func (.func k) #[] #[])))) (hk : callable P k = true) (hc : CallOk P X.G k l r) (hl : argsA S xs.toList = some l) : Valid P ops X o S ⟨r, [], []⟩ := fun S2 a w h1 h2 h3 ⟨τ, hS⟩ => by
  refine .inl ⟨want_spec hw h1 h3 hS, ?_⟩
  have hmt : Operand.tmp t ∈ o.op.operands := by rw [ho]; simp [Op.operands, Call.operands]
  have hfv : a.eval (.tmp t) = .func (.func k) #[] #[] := by
    have := hS.ev (.tmp t) (fun t' e => h3 t' (.inl (looks_op (e ▸ hmt))))
    rw [ev_same h1 hmt] at this
    rw [show S.ev (.tmp t) = S.tm t from rfl, hf] at this
    exact this
  have hrun : (execOp a.eval o).run P w = .ok (.enter k (xs.map a.eval)) w := by
    unfold callable at hk
    split at hk
    · rename_i fn hfn
      simp only [Bool.and_eq_true, Bool.not_eq_true'] at hk
      obtain ⟨k1, k2⟩ := hk
      have k2 : ¬ fn.name = "runtime.NumGoroutine" := by simpa using k2
      have k3 : ¬ fn.body = none := by intro e; rw [e] at k1; cases k1
      simp [execOp, ho, resolve, hfv, Deferred.ofValue, invoke, callFunc, hfn, k2, k3]
    · cases hk
  rw [hrun]
  obtain ⟨c1, c2, hc⟩ := hc
  have hR := argsA_R (S := S) (E := env X S2.hp τ w) (a := a) xs.toList l hl (fun x hx => by
    have hm : x ∈ o.op.operands := by rw [ho]; simp [Op.operands, Call.operands]; exact .inr (by simpa using hx)
    rw [← ev_same h1 hm]; exact hS.ev x (fun t e => h3 t (.inl (looks_op (e ▸ hm)))))
  have hR' := all2m_map (F := en0 (alw X S2.hp τ) w) (E := env X S2.hp τ w) rfl (fun _ _ h => h) _ _ c2 hR
  refine (hc (alw X S2.hp τ) w (xs.map a.eval) (X.hG w hS.bel) (by simpa using hR')).mono ?_
  rintro e w' ⟨v, rfl, hb, hr⟩
  refine ⟨v, rfl, τ, hS.below hb ?_⟩
  refine avR_map (E := en0 _ w') (F := env X S2.hp τ w') rfl (fun g _ hg => ?_) _ _ c1 hr
  rcases hg with hg | hg
  · exact hg
  · exact ⟨.inr (Nat.le_trans hS.bel.size hg), fun b hb' he => by have := (hS.own b g hb' he).2; omega⟩
theorem valid_eql {t t' : TypeId} {x y : Operand} {us vs : List Value} {r : Bool} (hE : ∀ w, (Op.equalIn 10000 t (.agg us.toArray) (.agg vs.toArray)).run P w = .ok r w) (hm : P.eqGuardType P.depth t = false) (ho : o.op = .binOp .eql t x y t') (hw : want ops S o = true) (hx : S.ev x = .m (.ag (us.map .v))) (hy : S.ev y = .m (.ag (vs.map .v))) : Valid P ops X o S ⟨.m (.c (.v (.bool r))), [], []⟩ :=
  valid_eqs ho hw hx hy (fun w => run_eqGuard_agg w _ _ _ _ _ _ hm) fun w => by rw [run_eql_struct, hE]; rfl
theorem valid_neq {t t' : TypeId} {x y : Operand} {us vs : List Value} {r : Bool} (hE : ∀ w, (Op.equalIn 10000 t (.agg us.toArray) (.agg vs.toArray)).run P w = .ok r w) (hm : P.eqGuardType P.depth t = false) (ho : o.op = .binOp .neq t x y t') (hw : want ops S o = true) (hx : S.ev x = .m (.ag (us.map .v))) (hy : S.ev y = .m (.ag (vs.map .v))) : Valid P ops X o S ⟨.m (.c (.v (.bool (!r)))), [], []⟩ :=
  valid_eqs ho hw hx hy (fun w => run_eqGuard_agg w _ _ _ _ _ _ hm) fun w => by rw [run_neq_struct, hE]; rfl
/-- append onto an own row that is empty -/
theorem valid_app_e {t el k b b' m : Nat} {x y : Operand} {ys : List Value} {c : Ce} {i : TypeInfo} {z : Value} (ho : o.op = .call { callee := .builtin .append, args := #[x, y], argTypes := #[t, t] }) (hd : o.dst = some b') (hw : want ops S o = true) (hf : S.hp b' = .fresh)
    (hx : S.ev x = .m (.c (.o b))) (hb : S.hp b = .live (.row el k 0 [])) (hy : S.ev y = .m (.c c)) (hc : shut S.hp c = .s m k ys) (ht : P.underlying t = some (.slice el)) (hi : P.info? el = some i) (hz : i.zero = some z) (hk : (Nat.beq i.size k && Nat.beq z.cells.size k && Nat.blt 0 k && Nat.ble i.bytes 4096) = true)
    (h1 : ys.all (·.oneCell') = true) (hle0 : m ≤ 30000000000) : Valid P ops X o S ⟨.m (.c (.o b')), [(b', .live (.row el k m ys)), (b, .dead)], (idC c).map .all⟩ := by
  have := valid_app (X := X) ho hd hw hf hx hb hy hc ht hi hz hk h1 (by omega)
  simpa only [Nat.zero_add, List.nil_append] using this
/-- a write into an own row -/
def putV : List Value → Nat → List Value → List Value
  | xs, _, [] => xs
  | xs, o, v :: r => putV (xs.set o v) (o + 1) r
theorem putV_length : ∀ (vs : List Value) (o : Nat) (xs : List Value), (putV xs o vs).length = xs.length
  | [], _, _ => rfl
  | v :: r, o, xs => by simp only [putV]; rw [putV_length]; simp
theorem putAt_take : ∀ (vs : List Value) (o N : Nat) (cur : Array Value), (putAt cur o vs).toList.take N = putV (cur.toList.take N) o vs
  | [], _, _, _ => rfl
  | v :: r, o, N, cur => by
    simp only [putAt, putV]
    rw [putAt_take r (o + 1) N, Array.toList_setIfInBounds, List.take_set]
theorem valid_store_rp {t : TypeId} {x y : Operand} {b off e k n sz : Nat} {xs ys : List Value} {m : Cm} (ho : o.op = .store t x y) (hw : want ops S o = true) (hx : S.ev x = .m (.c (.rp b off))) (hb : S.hp b = .live (.row e k n xs)) (hy : S.ev y = .m m) (hv : vals m.cells = some ys) (hk : sizeA P t = some sz) (hsz : Nat.beq ys.length sz = true)
    (h1 : ys.all (·.oneCell') = true) (hle : off + ys.length ≤ n * k) (hd : o.dst = none) : Valid P ops X o S ⟨.m (.c (.v undef)), [(b, .live (.row e k n (putV xs off ys)))], []⟩ := fun S2 a w h1' h2 h3 ⟨τ, hS⟩ => by
  refine .inl ⟨want_spec hw h1' h3 hS, ?_⟩
  have hsz := Nat.eq_of_beq_eq_true hsz
  have get : ∀ z ∈ o.op.operands, (S.ev z).R (env X S2.hp τ w) (a.eval z) := fun z hz => by rw [← ev_same h1' hz]; exact hS.ev z (fun t e => h3 t (.inl (looks_op (e ▸ hz))))
  have q1 := get x (by rw [ho]; simp [Op.operands])
  have q2 := get y (by rw [ho]; simp [Op.operands])
  rw [hx] at q1; rw [hy] at q2
  obtain ⟨u0, g, l, cap, e1, e2⟩ := q1
  have e1 : τ b = .slice (some ⟨g, 0, none⟩) l cap := e1
  have hb2 : S2.hp b = .live (.row e k n xs) := Eq.trans (h2 (.all b) (by simp [Ef.foot, upRd])) hb
  have hr : w.ownsRow X.base e k (τ b) n xs := hS.hp b _ hb2
  have hcs : (a.eval y).cells.toList = ys := by
    have hone : ∀ v ∈ ys, v.oneCell' = true := by simpa using h1
    cases m with
    | c c =>
      cases c with
      | v z =>
        simp [Cm.cells, vals] at hv
        subst hv
        have q2 : a.eval y = z := q2
        rw [q2]
        have := hone z (by simp)
        cases z <;> first | rfl | (simp [Value.oneCell'] at this)
      | s _ _ _ => simp [Cm.cells, vals] at hv
      | q _ => simp [Cm.cells, vals] at hv
      | p _ _ => simp [Cm.cells, vals] at hv
      | o _ => simp [Cm.cells, vals] at hv
      | rp _ _ => simp [Cm.cells, vals] at hv
      | any => simp [Cm.cells, vals] at hv
      | f _ _ _ => simp [Cm.cells, vals] at hv
      | bs _ _ _ => simp [Cm.cells, vals] at hv
    | ag cs =>
      obtain ⟨vs, e, q⟩ := q2
      rw [e]
      exact vals_R cs ys vs.toList hv q
  rcases hr with ⟨hl0, hr2⟩
  rcases hr2 with ⟨e0, _⟩ | ⟨g', cap', cur, y1, y2, y3, y4, y5, y6, y7⟩
  · rw [e1] at e0; cases e0
  rw [e1] at y1
  simp only [Value.slice.injEq, Option.some.injEq, Addr.mk.injEq, and_true, true_and] at y1
  obtain ⟨rfl, rfl, rfl⟩ := y1
  have hfit : off + ys.length ≤ cur.size := by rw [y6]; exact Nat.le_trans hle (Nat.mul_le_mul_right _ y4)
  have hcell : ∀ j, j < ys.length → (w.cell? ⟨g, off + 0 + j, none⟩).isSome = true := fun j hj => by
    have : w.cell? ⟨g, off + 0 + j, none⟩ = cur[off + 0 + j]? := Bx.cell ⟨e, y3⟩ _
    rw [this, Array.getElem?_eq_getElem (by omega)]; rfl
  have hst := run_storeCells_cells (P := P) g off ys 0 w hcell (fun j _ => Bx.free ⟨e, y3⟩ _) (by simpa using h1)
  simp only [Nat.add_zero] at hst
  have hrun : (execOp a.eval o).run P w = .ok .skip (w.setCells g off ys) := by
    have hs := sizeA_run hk w
    have hz : (a.eval y).cells.size = sz := by rw [← Array.length_toList, hcs]; exact hsz
    simp [execOp, ho, e2, Instr.storeAt, Instr.sureAddr, storeVar, hs, hz, hcs, hst]
  rw [hrun]
  have hheap := heap_setCells (w := w) (g := g) (T := e) ys off w cur y3
  have hfar : ∀ i, i ≠ g → (w.setCells g off ys).heap[i]? = w.heap[i]? := fun i hi => heap_cells_far hi _ _ _
  have hown := hS.own b g ⟨_, hb2⟩ (by rw [e1]; rfl)
  have hbel : Below X.base X.W0 (w.setCells g off ys) := below_cells hown.1 _ _ _ hS.bel
  have hszw : (w.setCells g off ys).heap.size = w.heap.size := by
    have : ∀ (l : List Value) (o : Nat) (w : World), (w.setCells g o l).heap.size = w.heap.size := by
      intro l; induction l with
      | nil => intro o w; rfl
      | cons v l ih => intro o w; simp only [World.setCells]; rw [ih]; simp [World.setCell]
    exact this _ _ _
  generalize w.setCells g off ys = w' at *
  have hal : ∀ i, alive (upd [(b, Hs.live (.row e k l (putV xs off ys)))] S2.hp) i → alive S2.hp i := fun i ⟨k', hi⟩ => by
    rw [upd_one] at hi
    by_cases e : i = b
    · subst e; exact ⟨_, hb2⟩
    · rw [if_neg e] at hi; exact ⟨k', hi⟩
  have hle' : (env X S2.hp τ w).le (env X (upd [(b, Hs.live (.row e k l (putV xs off ys)))] S2.hp) τ w') := by
    refine ⟨fun i hi => ⟨?_, rfl⟩, fun g' hg' ha => ⟨ha.1, fun i hi => ha.2 i (hal i hi)⟩, by show w.heap.size ≤ w'.heap.size; omega, fun g' o' hg' ha => ?_⟩
    · show upd _ _ i ≠ _; rw [upd_one]; split
      · intro e; cases e
      · exact hi
    · have hne : g' ≠ g := fun e => ha.2 b ⟨_, hb2⟩ (by rw [e1, e]; rfl)
      exact World.cell?_of_block (hfar g' hne)
  refine ⟨τ, hS.turn (u := [(b, Hs.live (.row e k l (putV xs off ys)))]) hle' hbel (fun i k' hi => ?_) (fun i g' hi ho' => ?_) (fun i j g' hij hi hj ho' => hS.sep i j g' hij (hal i hi) (hal j hj) ho') hS.one rfl⟩
  · rw [upd_one] at hi
    by_cases ei : i = b
    · subst ei
      rw [if_pos rfl] at hi; cases hi
      refine ⟨by rw [putV_length]; exact hl0, .inr ⟨g, cap, _, e1, hown.1, hheap, y4, y5, by rw [putAt_size]; exact y6, ?_⟩⟩
      rw [putAt_take, y7]
    · rw [if_neg ei] at hi
      have hk' := hS.hp i k' hi
      have hocc : ∀ g', occ (τ i) = some g' → g' ≠ g := fun g' hg' e' => hS.sep b i g (Ne.symm ei) ⟨_, hb2⟩ ⟨_, hi⟩ (by rw [e1]; rfl) (by rw [hg', e'])
      cases k' with
      | box cs' =>
        obtain ⟨g', vs', x1, ⟨T', x2⟩, x3⟩ := hk'
        exact ⟨g', vs', x1, ⟨T', (hfar g' (hocc g' (by rw [x1]; rfl))).trans x2⟩, All2.mono (ceR_le hle') _ _ x3⟩
      | row e' k' n' xs' =>
        obtain ⟨x0, x1⟩ := hk'
        refine ⟨x0, ?_⟩
        rcases x1 with x1 | ⟨g', cap, cur, y1, y2, y3, y4⟩
        · exact .inl x1
        · exact .inr ⟨g', cap, cur, y1, y2, (hfar g' (hocc g' (by rw [y1]; rfl))).trans y3, y4⟩
  · have := hS.own i g' (hal i hi) ho'; omega
end Go.Proofs.YtkffmaeiplgjeaaGreatDoor.Ax
/- The abstract walk: an own row is read alone from now on. -/
namespace Go.Proofs.YtkffmaeiplgjeaaGreatDoor.Ax
open Go.RowKit Go.Proofs.YtkffmaeiplgjeaaGreatDoor.MemL Go.Proofs.YtkffmaeiplgjeaaGreatDoor.RegR
set_option linter.unusedVariables false
set_option linter.unusedSimpArgs false
variable {P : Program} {X : Cx} {S : St} {Q : Exit → St → Prop}
def frC (b : Nat) (s : Ce) : Ce → Ce
  | .o i => cond (Nat.beq i b) s (.o i)
  | c => c
def frM (b : Nat) (s : Ce) : Cm → Cm
  | .c x => .c (frC b s x)
  | .ag cs => .ag (cs.map (frC b s))
def frV (b : Nat) (s : Ce) : AV → AV
  | .m m => .m (frM b s m)
  | .tu l => .tu (l.map (frM b s))
def frH (b : Nat) (s : Ce) : Hs → Hs
  | .live (.box cs) => .live (.box (cs.map (frC b s)))
  | h => h
def St.fr (S : St) (b n k : Nat) (xs : List Value) : St := ⟨fun t => frV b (.s n k xs) (S.tm t), fun i => cond (Nat.beq i b) .dead (frH b (.s n k xs) (S.hp i))⟩
theorem all2_fr {α : Type} {R R' : α → Value → Prop} (f : α → α) (h : ∀ c v, R c v → R' (f c) v) : ∀ (cs : List α) (vs : List Value), All2 R cs vs → All2 R' (cs.map f) vs
  | [], [], _ => trivial
  | c :: cs, v :: vs, k => ⟨h c v k.1, all2_fr f h cs vs k.2⟩
  | [], _ :: _, k => k.elim
  | _ :: _, [], k => k.elim
theorem sub_fr {b e n k : Nat} {xs : List Value} (hb : S.hp b = .live (.row e k n xs)) : Sub X S (S.fr b n k xs) := fun a w ⟨τ, h⟩ => by
  have hal : ∀ i, alive (S.fr b n k xs).hp i → i ≠ b ∧ alive S.hp i := fun i ⟨q, hq⟩ => by
    have hq : cond (Nat.beq i b) Hs.dead (frH b (.s n k xs) (S.hp i)) = .live q := hq
    by_cases e : i = b
    · subst e; rw [Nat.beq_refl] at hq; cases hq
    · rw [beq_false e] at hq
      refine ⟨e, ?_⟩
      simp only [cond] at hq
      cases hh : S.hp i with
      | live q' => exact ⟨q', hh⟩
      | fresh => rw [hh] at hq; cases hq
      | dead => rw [hh] at hq; cases hq
      | patch _ _ => rw [hh] at hq; cases hq
  have hle : (env X S.hp τ w).le (env X (S.fr b n k xs).hp τ w) := by
    refine ⟨fun i hi => ⟨?_, rfl⟩, fun g _ ha => ⟨ha.1, fun i hi => ha.2 i (hal i hi).2⟩, Nat.le_refl _, fun _ _ _ _ => rfl⟩
    show cond (Nat.beq i b) Hs.dead (frH b (.s n k xs) (S.hp i)) ≠ .fresh
    have hi : S.hp i ≠ .fresh := hi
    cases Nat.beq i b with
    | true => intro e; cases e
    | false =>
      simp only [cond]
      cases hh : S.hp i with
      | live q => cases q <;> (intro e; cases e)
      | fresh => exact absurd hh hi
      | dead => intro e; cases e
      | patch _ _ => intro e; cases e
  have hrow : w.ownsRow X.base e k (τ b) n xs := h.hp b _ hb
  have hs : Ce.R (env X (S.fr b n k xs).hp τ w) (.s n k xs) (τ b) := by
    refine ⟨Sl.of_owns hrow, fun ad l c e' => ⟨.inr ?_, fun i hi ho => ?_⟩⟩
    · exact (h.own b ad.block ⟨_, hb⟩ (by rw [e']; rfl)).1
    · obtain ⟨hne, hi⟩ := hal i hi
      exact h.sep i b ad.block hne hi ⟨_, hb⟩ ho (by rw [e']; rfl)
  have hC : ∀ (c : Ce) (v : Value), c.R (env X S.hp τ w) v → (frC b (.s n k xs) c).R (env X (S.fr b n k xs).hp τ w) v := fun c v hR => by
    cases c with
    | o i =>
      simp only [frC]
      by_cases ei : i = b
      · subst ei; rw [Nat.beq_refl]
        have : v = τ i := hR.2
        rw [this]; exact hs
      · rw [beq_false ei]; exact ceR_le hle _ _ hR
    | _ => exact ceR_le hle _ _ hR
  have hM : ∀ (c : Cm) (v : Value), c.R (env X S.hp τ w) v → (frM b (.s n k xs) c).R (env X (S.fr b n k xs).hp τ w) v := fun c v hR => by
    cases c with
    | c x => exact hC x v hR
    | ag cs => obtain ⟨vs, e', q⟩ := hR; exact ⟨vs, e', all2_fr _ hC _ _ q⟩
  refine ⟨τ, h.size, h.nodef, h.bel, fun t ht => ?_, fun i q hq => ?_, fun i g hi => h.own i g (hal i hi).2, fun i j g hne hi hj => h.sep i j g hne (hal i hi).2 (hal j hj).2, h.one⟩
  · have := h.tm t ht
    show (frV b (.s n k xs) (S.tm t)).R _ _
    cases hv : S.tm t with
    | m m => rw [hv] at this; exact hM m _ this
    | tu l => rw [hv] at this; obtain ⟨vs, e', q⟩ := this; exact ⟨vs, e', all2_fr _ hM _ _ q⟩
  · obtain ⟨hne, q', hq'⟩ := hal i ⟨q, hq⟩
    have hq : cond (Nat.beq i b) Hs.dead (frH b (.s n k xs) (S.hp i)) = .live q := hq
    rw [beq_false hne, hq'] at hq
    have hk := h.hp i q' hq'
    cases q' with
    | box cs =>
      simp only [cond, frH] at hq; cases hq
      obtain ⟨g, vs, x1, x2, x3⟩ := hk
      exact ⟨g, vs, x1, x2, all2_fr _ hC _ _ x3⟩
    | row _ _ _ _ => simp only [cond, frH] at hq; cases hq; exact hk
theorem Sub.trans {S S' S'' : St} (h : Sub X S S') (k : Sub X S' S'') : Sub X S S'' := fun a w hs => k a w (h a w hs)
theorem aw_fr {c : Code} {b e n k : Nat} {xs : List Value} (hb : S.hp b = .live (.row e k n xs)) (h : Aw P X c Q (S.fr b n k xs)) : Aw P X c Q S := aw_sub (sub_fr hb) h
variable {ops : Array Oper} {o : Oper}
/-- a slice whose capacity is its length: 's[:len(s):len(s)]' -/
theorem valid_slice3 {t el k n : Nat} {x hi mx : Operand} {xs : List Value} {kk kk' : IntKind} (ho : o.op = .slice t x none (some hi) (some mx)) (hw : want ops S o = true) (hx : S.ev x = .m (.c (.s n k xs))) (hh : S.ev hi = .m (.c (.v (.int kk n)))) (hm : S.ev mx = .m (.c (.v (.int kk' n))))
    (hu : P.underlying t = some (.slice el)) (hk : sizeA P el = some k) : Valid P ops X o S ⟨.m (.c (.f n k xs)), [], []⟩ :=
  valid_val [] hw fun S2 τ a w h _ _ => by
    have q1 := h x (by rw [ho]; simp [Op.operands])
    have q2 := h hi (by rw [ho]; simp [Op.operands])
    have q3 := h mx (by rw [ho]; simp [Op.operands])
    rw [hx] at q1; rw [hh] at q2; rw [hm] at q3
    have q2 : a.eval hi = .int kk n := q2
    have q3 : a.eval mx = .int kk' n := q3
    obtain ⟨⟨hl, hs⟩, hA⟩ := q1
    have run : ∀ (ad : Option Addr) (cap : Nat), n ≤ cap → (ad = none → n = 0) → (Instr.sliceAt t (.slice ad n cap) none (some (a.eval hi)) (some (a.eval mx))).run P w = .ok (.slice ad n n) w := fun ad cap hc hz => by
      have r1 := run_bnd (P := P) (kk := kk') (i := n) (y := cap) (c := .slice3Acap) (by omega) (by omega) w
      have r2 := run_bnd (P := P) (kk := kk) (i := n) (y := n) (c := .slice3B) (by omega) (by omega) w
      simp only [Int.toNat_natCast] at r1 r2
      have hadd : (if n = 0 then ad else ad.map (·.add (0 * k))) = ad := by
        cases ad with
        | none => simp
        | some ad => simp [Addr.add]
      simp [Instr.sliceAt, Instr.slice, Instr.sliceBounds, run_underlying hu, sizeA_run hk, q2, q3, r1, r2]
      cases ad with
      | none => simp
      | some ad => simp [Addr.add]
    rcases hs with ⟨e, e0⟩ | ⟨b, off, cap, e, hb, hc1, hc2, hc⟩
    · subst e0
      exact ⟨_, by simp only [execOp, ho, e, Option.map_some, Option.map_none, run none 0 (Nat.le_refl _) (fun _ => rfl), Sem.run_bind, Result.andThen_ok, Sem.run_pure], ⟨hl, .inl ⟨rfl, rfl⟩⟩, (fun _ _ _ e => by cases e), (fun _ _ _ e => by cases e; rfl)⟩
    · refine ⟨_, by simp only [execOp, ho, e, Option.map_some, Option.map_none, run (some ⟨b, off, none⟩) cap hc1 (fun e => by cases e), Sem.run_bind, Result.andThen_ok, Sem.run_pure], ⟨hl, .inr ⟨b, off, n, rfl, hb, Nat.le_refl _, by omega, hc⟩⟩, (fun ad l c e' => ?_), (fun _ _ _ e => by cases e; rfl)⟩
      cases e'; exact hA _ _ _ e
/-- append onto such a slice: a new one, or the very same where nothing is appended -/
theorem valid_app_f {t el k n m : Nat} {x y : Operand} {xs ys : List Value} {c : Ce} {i : TypeInfo} {z : Value} (ho : o.op = .call { callee := .builtin .append, args := #[x, y], argTypes := #[t, t] }) (hw : want ops S o = true)
    (hx : S.ev x = .m (.c (.f n k xs))) (hy : S.ev y = .m (.c c)) (hc : shut S.hp c = .s m k ys) (ht : P.underlying t = some (.slice el)) (hi : P.info? el = some i) (hz : i.zero = some z) (hk : (Nat.beq i.size k && Nat.beq z.cells.size k && Nat.blt 0 k && Nat.ble i.bytes 4096) = true)
    (h1 : ys.all (·.oneCell') = true) (hle0 : n + m ≤ 30000000000) : Valid P ops X o S ⟨.m (.c (.s (n + m) k (xs ++ ys))), [], (idC c).map .all⟩ := fun S2 a w h1' h2 h3 ⟨τ, hS⟩ => by
  refine .inl ⟨want_spec hw h1' h3 hS, ?_⟩
  simp only [Bool.and_eq_true] at hk
  obtain ⟨⟨⟨k1, k2⟩, k3⟩, k4⟩ := hk
  have k4 := Nat.le_of_ble_eq_true k4
  have k1 := Nat.eq_of_beq_eq_true k1
  have k2 := Nat.eq_of_beq_eq_true k2
  have k3 : 0 < k := Nat.le_of_ble_eq_true k3
  have get : ∀ z ∈ o.op.operands, (S.ev z).R (env X S2.hp τ w) (a.eval z) := fun z hz => by rw [← ev_same h1' hz]; exact hS.ev z (fun t e => h3 t (.inl (looks_op (e ▸ hz))))
  have q1 := get x (by rw [ho]; simp [Op.operands, Call.operands])
  have q2 := get y (by rw [ho]; simp [Op.operands, Call.operands])
  rw [hx] at q1; rw [hy] at q2
  have q2 := shut_R hS c (a.eval y) q2
  rw [show shut S2.hp c = shut S.hp c from shut_same (fun b hb => h2 (.all b) (by simp [Ef.foot, hb])), hc] at q2
  have q2 : Sl w (a.eval y) m k ys := q2.1
  obtain ⟨q1, qA, qc⟩ := q1
  have q1 : Sl w (a.eval x) n k xs := q1
  have hle : (n + m) * (i.bytes + 1) ≤ 140737488355328 := Nat.le_trans (Nat.mul_le_mul hle0 (show i.bytes + 1 ≤ 4097 by omega)) (by decide)
  have e1 : (n + m) * i.bytes ≤ (n + m) * (i.bytes + 1) := Nat.mul_le_mul_left _ (by omega)
  have e2 : n + m ≤ (n + m) * (i.bytes + 1) := Nat.le_mul_of_pos_right _ (by omega)
  have done : ∀ v' w', (Builtin.append_ #[t, t] o.type #[a.eval x, a.eval y]).run P w = .ok v' w' → Below w.heap.size w w' → Sl w' v' (n + m) k (xs ++ ys) → (∀ ad l cc, v' = .slice (some ad) l cc → (env X S2.hp τ w').A ad.block) →
      Out P (fun v w'_1 => Sim X (S2.app o.dst ⟨.m (.c (.s (n + m) k (xs ++ ys))), [], (idC c).map .all⟩) (a.put o.dst v) w'_1) ((execOp a.eval o).run P w) := fun v' w' hr hb hs hA => by
    have hrun : (execOp a.eval o).run P w = .ok (.value v') w' := by simp [execOp, ho, resolve, invoke, builtin, hr]
    rw [hrun]
    exact ⟨τ, hS.below hb ⟨hs, hA⟩⟩
  have fresh : ∀ v' w', w'.ownsRow w.heap.size el k v' (n + m) (xs ++ ys) → ∀ ad l cc, v' = .slice (some ad) l cc → (env X S2.hp τ w').A ad.block := fun v' w' hr ad l cc e => by
    subst e
    have := (World.ownsRow.lt hr ad.block rfl).1
    exact ⟨.inr (Nat.le_trans hS.bel.size this), fun b hb he => by have := (hS.own b _ hb he).2; omega⟩
  rcases q1 with ⟨l1, s1⟩
  rcases s1 with ⟨ex, en⟩ | ⟨b, off, cap, ex, hb, c1, c2, c3⟩
  · subst en
    have hxs : xs = [] := List.eq_nil_of_length_eq_zero (by simpa using l1)
    subst hxs
    obtain ⟨v', w', r1, r2, r3, r4⟩ := run_append_any (P := P) (ty := o.type) ht hi hz k1 k2 k3 (World.ownsRow_nil w w.heap.size el k) q2 (by simpa using h1) (by unfold maxLen; omega) (by omega) (Nat.le_refl _)
    rw [← ex] at r1
    exact done v' w' r1 ((Below.refl _ _).grown r3 (Nat.le_refl _) (fun k hk => by simp [Value.ownBlock] at hk)) (Sl.of_owns r2) (fresh v' w' r2)
  · have hcap : cap = n := qc _ _ _ ex
    subst hcap
    rcases q2 with ⟨l2, s2⟩
    have same : m = 0 → ys = [] → (Builtin.append_ #[t, t] o.type #[a.eval x, a.eval y]).run P w = .ok (a.eval x) w → Out P (fun v w'_1 => Sim X (S2.app o.dst ⟨.m (.c (.s (cap + m) k (xs ++ ys))), [], (idC c).map .all⟩) (a.put o.dst v) w'_1) ((execOp a.eval o).run P w) := fun hm hys hr => by
      subst hm; subst hys
      refine done _ w hr (Below.refl _ _) ?_ (fun ad l cc e => qA ad l cc e)
      rw [List.append_nil, Nat.add_zero]
      exact ⟨l1, .inr ⟨b, off, cap, ex, hb, c1, c2, c3⟩⟩
    rcases s2 with ⟨ey, em⟩ | ⟨b', off', cap', ey, hb', d1, d2, d3⟩
    · refine same em (List.eq_nil_of_length_eq_zero (by rw [l2, em]; simp)) ?_
      rw [ex, ey]
      simp [Builtin.append_, run_underlying ht, sizeOf, typeInfo, hi, Builtin.lenOf, Builtin.firstCells, storeCells]
    · rcases Nat.eq_zero_or_pos m with hm | hm
      · refine same hm (List.eq_nil_of_length_eq_zero (by rw [l2, hm]; simp)) ?_
        rw [ex, ey, hm]
        have := run_append_room_cells (P := P) w t o.type el i ht hi b off cap cap ⟨b', off', none⟩ 0 cap' [] (by simp) (by simp) (by simp) (by omega) (by simp) (by simp)
        simpa [World.setCells] using this
      · obtain ⟨v', w', r1, r2, r3⟩ := run_append_arg_grows (P := P) w t o.type el i z k i.bytes ht hi hz k1 rfl k2 k3 ⟨b, off, none⟩ cap cap xs l1 (fun j u hj => by
            have hj' : j < cap * k := by rw [← l1]; exact (List.getElem?_eq_some_iff.1 hj).1
            rw [Addr.add_mid, c3 j hj']; exact hj) ⟨b', off', none⟩ m cap' ys l2 (fun j u hj => by
            have hj' : j < m * k := by rw [← l2]; exact (List.getElem?_eq_some_iff.1 hj).1
            rw [Addr.add_mid, d3 j hj']; exact hj) (by omega) (by unfold maxLen; omega) (by omega)
        rw [← ex, ← ey] at r1
        exact done v' w' r1 ((Below.refl _ _).grown r3 (Nat.le_refl _) (fun k hk => by cases hk)) (Sl.of_owns r2) (fresh v' w' r2)
end Go.Proofs.YtkffmaeiplgjeaaGreatDoor.Ax
/- The abstract walk: slices of slices, handed to slices.Concat. -/
namespace Go.Proofs.YtkffmaeiplgjeaaGreatDoor.Ax
open Go.RowKit Go.Proofs.YtkffmaeiplgjeaaGreatDoor.MemL Go.Proofs.YtkffmaeiplgjeaaGreatDoor.RegR
set_option linter.unusedVariables false
set_option linter.unusedSimpArgs false
variable {P : Program} {ops : Array Oper} {X : Cx} {o : Oper} {S : St}
theorem valid_bslice_ss {t el b : Nat} {x y : Operand} {c d : Ce} (ho : o.op = .buildSlice t 2 #[(0, x), (1, y)]) (hd : o.dst = some b) (hw : want ops S o = true) (hf : S.hp b = .fresh) (hx : S.ev x = .m (.c c)) (hy : S.ev y = .m (.c d)) (hcd : (okC c && okC d) = true)
    (hu : P.underlying t = some (.slice el)) (hk : sizeA P el = some 1) (hz : (P.info? el).bind (·.zero) = some (.slice none 0 0)) : Valid P ops X o S ⟨.m (.c (.bs b 0 2)), [(b, .live (.box [c, d]))], []⟩ := fun S2 a w h1 h2 h3 ⟨τ, hS⟩ => by
  refine .inl ⟨want_spec hw h1 h3 hS, ?_⟩
  have get : ∀ z ∈ o.op.operands, (S.ev z).R (env X S2.hp τ w) (a.eval z) := fun z hz => by rw [← ev_same h1 hz]; exact hS.ev z (fun t e => h3 t (.inl (looks_op (e ▸ hz))))
  have q1 := get x (by rw [ho]; simp [Op.operands])
  have q2 := get y (by rw [ho]; simp [Op.operands])
  rw [hx] at q1; rw [hy] at q2
  simp only [Bool.and_eq_true] at hcd
  have o1 := okC_one c (a.eval x) hcd.1 q1 (fun b v' _ hv => by have := hS.one b; rw [← hv]; exact this)
  have o2 := okC_one d (a.eval y) hcd.2 q2 (fun b v' _ hv => by have := hS.one b; rw [← hv]; exact this)
  have cell : ∀ v : Value, v.oneCell' = true → v.cells = #[v] := fun v hv => by cases v <;> first | rfl | (simp [Value.oneCell'] at hv)
  obtain ⟨ie, hie, hz0⟩ := Option.bind_eq_some_iff.1 hz
  have hk' : ie.size = 1 := by unfold sizeA at hk; rw [hie] at hk; simpa using hk
  have hrun : (execOp a.eval o).run P w = .ok (.value (.slice (some ⟨w.heap.size, 0, none⟩) 2 2)) (w.alloc (.cells #[a.eval x, a.eval y] el)) := by
    have := run_buildSlice w t el 2 #[(0, a.eval x), (1, a.eval y)] #[a.eval x, a.eval y] ie (.slice none 0 0) hu hie hz0 (by omega) (by omega) (by
      have hr : (Array.range (2 * ie.size)).map ((Value.slice none 0 0).cells[· % (Value.slice none 0 0).cells.size]!) = #[.slice none 0 0, .slice none 0 0] := by rw [hk']; apply Array.ext'; simp [List.range_succ]; exact ⟨rfl, rfl⟩
      rw [hr]
      simp [Instr.fill, hk', cell _ o1, cell _ o2])
    simp only [execOp, ho, List.map_toArray, List.map_cons, List.map_nil, this, Sem.run_bind, Result.andThen_ok, Sem.run_pure]
  rw [hrun]
  have hf2 : S2.hp b = .fresh := Eq.trans (h2 (.all b) (by simp [Ef.foot, upRd])) hf
  refine ⟨_, hS.newb (k := .box [c, d]) hf2 ((Below.refl _ _).alloc (Nat.le_refl _) _) (v := .pointer (some ⟨w.heap.size, 0, none⟩)) (g := w.heap.size) rfl ⟨Nat.le_refl _, by rw [World.size_alloc]; omega⟩ rfl (fun E hE hw' => ⟨w.heap.size, #[a.eval x, a.eval y], rfl, by rw [hw']; exact Bx.new, ceR_le hE _ _ q1, ceR_le hE _ _ q2, trivial⟩) ?_⟩
  refine ⟨?_, w.heap.size, ?_, rfl⟩
  · show upd _ _ b ≠ _; rw [upd_one, if_pos rfl]; intro e; cases e
  · show setτ τ b _ b = _; unfold setτ; rw [if_pos rfl]
/-- slices.Concat of two slices -/
theorem valid_concat {f b n1 n2 k el : Nat} {x : Operand} {ts : Array TypeId} {c d : Ce} {x1 x2 : List Value} (ho : o.op = .call { callee := .value (.func f), args := #[x], argTypes := ts }) (hw : want ops S o = true) (hk : callable P f = true) (hx : S.ev x = .m (.c (.bs b 0 2))) (hb : S.hp b = .live (.box [c, d])) (hc : shut S.hp c = .s n1 k x1) (hd : shut S.hp d = .s n2 k x2)
    (hcall : ∀ (W : World) (vb : Nat) (v1 v2 : Value), X.G W → Bx W vb #[v1, v2] → Sl W v1 n1 k x1 → Sl W v2 n2 k x2 → Calls P f #[.slice (some ⟨vb, 0, none⟩) 2 2] W fun e w' => ∃ v', e = .returned v' ∧ w'.ownsRow W.heap.size el k v' (n1 + n2) (x1 ++ x2) ∧ Below W.heap.size W w') :
    Valid P ops X o S ⟨.m (.c (.s (n1 + n2) k (x1 ++ x2))), [], (b :: (idC c ++ idC d)).map .all⟩ := fun S2 a w h1 h2 h3 ⟨τ, hS⟩ => by
  refine .inl ⟨want_spec hw h1 h3 hS, ?_⟩
  rw [run_call ho hk]
  have get : ∀ z ∈ o.op.operands, (S.ev z).R (env X S2.hp τ w) (a.eval z) := fun z hz => by rw [← ev_same h1 hz]; exact hS.ev z (fun t e => h3 t (.inl (looks_op (e ▸ hz))))
  have q1 := get x (by rw [ho]; simp [Op.operands, Call.operands])
  rw [hx] at q1
  obtain ⟨_, g, e1, e2⟩ := q1
  have e1 : τ b = .pointer (some ⟨g, 0, none⟩) := e1
  have hb2 : S2.hp b = .live (.box [c, d]) := Eq.trans (h2 (.all b) (by simp [Ef.foot])) hb
  obtain ⟨g', vs, e3, hbx, hR⟩ := hS.hp b _ hb2
  rw [e1] at e3
  obtain rfl : g = g' := by simpa using e3
  obtain ⟨l⟩ := vs
  match l, hR with
  | [v1, v2], hR =>
    have s1 := shut_R hS c v1 hR.1
    have s2 := shut_R hS d v2 hR.2.1
    rw [show shut S2.hp c = shut S.hp c from shut_same (fun i hi => h2 (.all i) (by simp [Ef.foot, hi])), hc] at s1
    rw [show shut S2.hp d = shut S.hp d from shut_same (fun i hi => h2 (.all i) (by simp [Ef.foot, hi])), hd] at s2
    have := hcall w g v1 v2 (X.hG w hS.bel) hbx s1.1 s2.1
    simp only [List.map_toArray, List.map_cons, List.map_nil, e2]
    refine this.mono ?_
    rintro e w' ⟨v', rfl, hr, hbel⟩
    refine ⟨v', rfl, τ, hS.below hbel ⟨Sl.of_owns hr, fun ad l cc e => ?_⟩⟩
    subst e
    have := (World.ownsRow.lt hr ad.block rfl).1
    exact ⟨.inr (Nat.le_trans hS.bel.size this), fun b hb he => by have := (hS.own b _ hb he).2; omega⟩
  | [], hR => exact hR.elim
  | [_], hR => exact hR.2.elim
  | _ :: _ :: _ :: _, hR => exact hR.2.2.elim
end Go.Proofs.YtkffmaeiplgjeaaGreatDoor.Ax
/- The abstract walk: a look at an address ahead of a rule's trial. -/
namespace Go.Proofs.YtkffmaeiplgjeaaGreatDoor.Ax
open Go.RowKit Go.Proofs.YtkffmaeiplgjeaaGreatDoor.MemL Go.Proofs.YtkffmaeiplgjeaaGreatDoor.RegR
def addrO : Op → Operand
  | .load _ x => x
  | .store _ x _ => x
  | .fieldAddr _ x _ => x
  | .indexAddr _ x _ => x
  | _ => .const undef
/-- what an address is: 1 own box, 2 own row, 3 cells read alone, 4 a slice, 5 a row's place, 0 else -/
def sortV : AV → Nat
  | .m (.c (.p _ _)) => 1
  | .m (.c (.o _)) => 2
  | .m (.c (.q _)) => 3
  | .m (.c (.s _ _ _)) => 4
  | .m (.c (.rp _ _)) => 5
  | _ => 0
variable {P : Program} {X : Cx} {S : St} {ops : Array Oper} {R : St → Prop} {anc : Nat → Nat → Bool} {i : Nat} {r : List Nat} {T : List (Nat × List Rd × List Rd)} {o : Oper}
theorem nxt_s (n : Nat) (_ : sortV (S.ev (addrO o.op)) = n) (h : Nxt P ops X anc R T S i r o) : Nxt P ops X anc R T S i r o := h
end Go.Proofs.YtkffmaeiplgjeaaGreatDoor.Ax
/- Plain facts on words of 64 bits (BitVec 64) and the integers that stand for them. No program here. -/
namespace Go.Proofs.YtkffmaeiplgjeaaGreatDoor.Bv
open Go.RowKit
set_option linter.unusedVariables false

/-- the integer of a word -/
def B (x : BitVec 64) : Int := (x.toNat : Int)
theorem B_lt (x : BitVec 64) : B x < 18446744073709551616 := by have := x.isLt; unfold B; omega
theorem B_nonneg (x : BitVec 64) : 0 ≤ B x := by unfold B; omega
theorem B_inj {x y : BitVec 64} : B x = B y ↔ x = y := by
  constructor
  · intro h; apply BitVec.eq_of_toNat_eq; unfold B at h; omega
  · rintro rfl; rfl
theorem exists_B {a : Int} (h : (Lit.int .u64 a).wf = true) : ∃ x, a = B x := by
  simp [Lit.wf, IntKind.min, IntKind.max, IntKind.bits, IntKind.signed] at h
  exact ⟨BitVec.ofNat 64 a.toNat, by unfold B; rw [BitVec.toNat_ofNat]; omega⟩
theorem exists_u8 {a : Int} (h : (Lit.int .u8 a).wf = true) : ∃ n : Nat, a = (n : Int) ∧ n < 256 := by
  simp [Lit.wf, IntKind.min, IntKind.max, IntKind.bits, IntKind.signed] at h
  exact ⟨a.toNat, by omega, by omega⟩
set_option linter.unusedSimpArgs false
theorem bd_u64 {a : Int} (h : (Lit.int .u64 a).wf = true) : 0 ≤ a ∧ a < 18446744073709551616 := by
  simp [Lit.wf, IntKind.min, IntKind.max, IntKind.bits, IntKind.signed] at h; omega
theorem wrap_u64 (n : Int) : IntKind.u64.wrap n = n % 18446744073709551616 := by simp [IntKind.wrap, IntKind.bits, IntKind.signed]
theorem wrap_B (x : BitVec 64) : IntKind.u64.wrap (B x) = B x := by rw [wrap_u64]; have := B_lt x; have := B_nonneg x; omega
theorem wrap_nat (n : Nat) (h : n < 18446744073709551616) : IntKind.u64.wrap (n : Int) = n := by rw [wrap_u64]; omega
theorem ofInt_B (x : BitVec 64) : BitVec.ofInt 64 (B x) = x := by
  apply BitVec.eq_of_toNat_eq; unfold B; rw [BitVec.ofInt_natCast, BitVec.toNat_ofNat]; exact Nat.mod_eq_of_lt x.isLt

theorem ofInt_B' (x : BitVec 64) : BitVec.ofInt (IntKind.bits .u64) (B x) = x := ofInt_B x
theorem and_B (x y : BitVec 64) : Go.bits .and .u64 (B x) (B y) = B (x &&& y) := by
  show IntKind.u64.wrap _ = _
  rw [ofInt_B', ofInt_B']; exact wrap_B _
theorem or_B (x y : BitVec 64) : Go.bits .or .u64 (B x) (B y) = B (x ||| y) := by
  show IntKind.u64.wrap _ = _
  rw [ofInt_B', ofInt_B']; exact wrap_B _
theorem andNot_B (x y : BitVec 64) : Go.bits .andNot .u64 (B x) (B y) = B (x &&& ~~~y) := by
  show IntKind.u64.wrap _ = _
  rw [ofInt_B', ofInt_B']; exact wrap_B _

theorem shl_B (x : BitVec 64) (n : Nat) : IntKind.u64.wrap (B x * 2 ^ min n 64) = B (x <<< n) := by
  rw [wrap_u64]; unfold B
  rw [BitVec.toNat_shiftLeft, Nat.shiftLeft_eq]
  by_cases h : n ≤ 64
  · rw [Nat.min_eq_left h, show ((2 : Int) ^ n) = ((2 ^ n : Nat) : Int) by norm_cast]; omega
  · rw [Nat.min_eq_right (by omega)]
    have e : x.toNat * 2 ^ n = (x.toNat * 2 ^ (n - 64)) * 2 ^ 64 := by rw [Nat.mul_assoc, ← Nat.pow_add]; congr 2; omega
    rw [e, Nat.mul_mod_left]; omega
theorem shr_B (x : BitVec 64) (n : Nat) : B x / 2 ^ min n 64 = B (x >>> n) := by
  unfold B
  rw [BitVec.toNat_ushiftRight, Nat.shiftRight_eq_div_pow]
  by_cases h : n ≤ 64
  · rw [Nat.min_eq_left h]; norm_cast
  · rw [Nat.min_eq_right (by omega)]
    have hx := x.isLt
    have h1 : 2 ^ 64 ≤ 2 ^ n := Nat.pow_le_pow_right (by decide) (by omega)
    rw [Nat.div_eq_of_lt (Nat.lt_of_lt_of_le hx h1)]; omega

theorem wrap64_B (x : BitVec 64) : wrap64 (B x) = x.toInt := by
  unfold B wrap64; rw [BitVec.toInt_eq_toNat_bmod, Int.bmod_def]; have := x.isLt; split <;> omega
theorem wrap_toInt (x : BitVec 64) : IntKind.u64.wrap x.toInt = B x := by
  rw [wrap_u64, BitVec.toInt_eq_toNat_bmod, Int.bmod_def]; have := x.isLt; unfold B; split <;> omega
theorem sshr_B (x : BitVec 64) (n : Nat) : IntKind.u64.wrap (x.toInt / 2 ^ min n (IntKind.bits .i64)) = B (x.sshiftRight n) := by
  rw [← wrap_toInt, BitVec.toInt_sshiftRight, Int.shiftRight_eq_div_pow, show IntKind.bits .i64 = 64 from rfl]
  by_cases h : n ≤ 64
  · rw [Nat.min_eq_left h]; norm_cast
  · rw [Nat.min_eq_right (by omega)]
    have h1 := BitVec.toInt_lt (x := x)
    have h2 := BitVec.le_toInt x
    have h3 : 2 ^ 64 ≤ 2 ^ n := Nat.pow_le_pow_right (by decide) (by omega)
    by_cases h0 : 0 ≤ x.toInt
    · rw [Int.ediv_eq_zero_of_lt h0 (by omega), Int.ediv_eq_zero_of_lt h0 (by omega)]
    · have e : ∀ m : Int, 2 ^ 63 ≤ m → x.toInt / m = -1 := by
        intro m hm
        have := Int.ediv_mul_le x.toInt (b := m) (by omega)
        rw [Int.ediv_eq_iff_of_pos (by omega)]; omega
      rw [e _ (by omega), e _ (by omega)]

/-- n ones -/
def mB (n : Nat) : BitVec 64 := BitVec.ofNat 64 (2 ^ n - 1)
theorem mB_bit (n i : Nat) : (mB n).getLsbD i = (decide (i < 64) && decide (i < n)) := by
  unfold mB; rw [BitVec.getLsbD_ofNat, Nat.testBit_two_pow_sub_one]
theorem mB_val (n : Nat) (h : n < 64) : B (mB n) = 2 ^ n - 1 := by
  unfold mB B; rw [BitVec.toNat_ofNat]
  have h1 : 2 ^ n < 2 ^ 64 := Nat.pow_lt_pow_right (by decide) h
  have h2 := Nat.two_pow_pos n
  rw [Nat.mod_eq_of_lt (by omega)]
  rw [Int.natCast_sub (by omega)]; norm_cast
theorem mB_all (n : Nat) (h : 64 ≤ n) : mB n = BitVec.allOnes 64 := by
  apply BitVec.eq_of_getLsbD_eq; intro i hi; rw [mB_bit, BitVec.getLsbD_allOnes]; simp; omega
theorem mB_64 : B (mB 64) = 18446744073709551615 := by decide +kernel

def getB (w : BitVec 64) (lo n : Nat) : BitVec 64 := (w >>> lo) &&& mB n
def setB (w : BitVec 64) (lo n : Nat) (v : BitVec 64) : BitVec 64 := (w &&& ~~~(mB n <<< lo)) ||| ((v <<< lo) &&& (mB n <<< lo))
def signB (w : BitVec 64) (n : Nat) : BitVec 64 := (w <<< (64 - n)).sshiftRight (64 - n)

theorem getB_bit (w : BitVec 64) (lo n i : Nat) : (getB w lo n).getLsbD i = (decide (i < n) && w.getLsbD (lo + i)) := by
  unfold getB; rw [BitVec.getLsbD_and, BitVec.getLsbD_ushiftRight, mB_bit]
  by_cases h : i < 64
  · simp [h, Bool.and_comm]
  · rw [BitVec.getLsbD_of_ge w (lo + i) (by omega)]; simp
theorem setB_bit (w v : BitVec 64) (lo n i : Nat) : (setB w lo n v).getLsbD i = (decide (i < 64) && (if lo ≤ i ∧ i < lo + n then v.getLsbD (i - lo) else w.getLsbD i)) := by
  unfold setB
  rw [BitVec.getLsbD_or, BitVec.getLsbD_and, BitVec.getLsbD_and, BitVec.getLsbD_not, BitVec.getLsbD_shiftLeft, BitVec.getLsbD_shiftLeft, mB_bit]
  by_cases h : i < 64
  · by_cases h1 : lo ≤ i
    · by_cases h2 : i < lo + n
      · simp [h, h1, h2, show ¬ i < lo by omega, show i - lo < 64 by omega, show i - lo < n by omega]
      · simp [h, h1, h2, show ¬ i < lo by omega, show ¬ i - lo < n by omega]
    · simp [h, h1, show i < lo by omega]
  · simp [h]
theorem signB_bit (w : BitVec 64) (n i : Nat) (h1 : 1 ≤ n) (h : n ≤ 64) : (signB w n).getLsbD i = (decide (i < 64) && w.getLsbD (min i (n - 1))) := by
  unfold signB
  rw [BitVec.getLsbD_sshiftRight]
  by_cases hi : i < 64
  · by_cases hj : 64 - n + i < 64
    · simp [hi, hj, show ¬ 64 ≤ i by omega, BitVec.getLsbD_shiftLeft, show ¬ 64 - n + i < 64 - n by omega, show 64 - n + i - (64 - n) = i by omega, Nat.min_eq_left (show i ≤ n - 1 by omega)]
    · simp [hi, hj, show ¬ 64 ≤ i by omega, BitVec.msb_eq_getLsbD_last, BitVec.getLsbD_shiftLeft, show ¬ 63 < 64 - n by omega, show 63 - (64 - n) = n - 1 by omega, Nat.min_eq_right (show n - 1 ≤ i by omega), BitVec.getLsbD_eq_getElem (show n - 1 < 64 by omega)]
  · simp [hi, show 64 ≤ i by omega]
theorem tm (n k : Nat) : Int.tmod (n : Int) (k : Int) = ((n % k : Nat) : Int) := rfl
theorem wn (n : Nat) (h : n < 9223372036854775808) : wrap64 (n : Int) = n := by unfold wrap64; omega
theorem ws (a b : Nat) (h : b ≤ a) (h2 : a < 9223372036854775808) : wrap64 ((a : Int) - (b : Int)) = ((a - b : Nat) : Int) := by unfold wrap64; omega
theorem wa (a b : Nat) (h : a + b < 9223372036854775808) : wrap64 ((a : Int) + (b : Int)) = ((a + b : Nat) : Int) := by unfold wrap64; omega
theorem bb1 (w v : BitVec 64) (l m : Nat) (h : l + m ≤ 64) : getB (setB w l m v) l m = getB v 0 m := by
  apply BitVec.eq_of_getLsbD_eq; intro i hi; simp only [getB_bit, setB_bit]; grind
theorem bb2 (w v : BitVec 64) (l m : Nat) (h : l + m ≤ 64) : setB (setB w l m v) l m (getB w l m) = w := by
  apply BitVec.eq_of_getLsbD_eq; intro i hi; simp only [getB_bit, setB_bit]; grind
theorem bb3 (w v : BitVec 64) (l m : Nat) (h : l + m ≤ 64) : getB (setB w l m v) 0 l = getB w 0 l := by
  apply BitVec.eq_of_getLsbD_eq; intro i hi; simp only [getB_bit, setB_bit]; grind
theorem bb4 (w v : BitVec 64) (l m : Nat) (h : l + m ≤ 64) : getB (setB w l m v) (l + m) (64 - l - m) = getB w (l + m) (64 - l - m) := by
  apply BitVec.eq_of_getLsbD_eq; intro i hi; simp only [getB_bit, setB_bit]; grind
theorem bb5 (w v u : BitVec 64) (l m : Nat) (h : l + m ≤ 64) : setB (setB w l m v) (l + m) (64 - l - m) u = setB (setB w (l + m) (64 - l - m) u) l m v := by
  apply BitVec.eq_of_getLsbD_eq; intro i hi; simp only [setB_bit]; grind
theorem bw1 (w : BitVec 64) (c : Nat) (h : c ≤ 64) : setB (setB 0#64 0 c (getB w 0 c)) c (64 - c) (getB w c (64 - c)) = w := by
  apply BitVec.eq_of_getLsbD_eq; intro i hi; simp only [getB_bit, setB_bit]; grind
theorem bw2 (w : BitVec 64) (m : Nat) (h1 : 1 ≤ m) (h : m ≤ 64) : getB (signB w m) 0 m = getB w 0 m := by
  apply BitVec.eq_of_getLsbD_eq; intro i hi; simp only [getB_bit, signB_bit _ _ _ h1 h]; grind
theorem bw3 (w : BitVec 64) (m : Nat) (h1 : 1 ≤ m) (h : m ≤ 64) : signB (signB w m) m = signB w m := by
  apply BitVec.eq_of_getLsbD_eq; intro i hi; simp only [signB_bit _ _ _ h1 h]; grind
theorem bs1 (w : BitVec 64) (l a : Nat) (h : l + a ≤ 64) : getB (getB w l 64) 0 a = getB w l a := by
  apply BitVec.eq_of_getLsbD_eq; intro i hi; simp only [getB_bit]; grind
theorem bs2 (w : BitVec 64) (a : Nat) : getB w 64 a = 0#64 := by
  apply BitVec.eq_of_getLsbD_eq; intro i hi; simp only [getB_bit]; simp
theorem bs3 (w : BitVec 64) (l a b : Nat) (h : l + a + b ≤ 64) : setB (getB w l a) a b (getB w (l + a) b) = getB w l (a + b) := by
  apply BitVec.eq_of_getLsbD_eq; intro i hi; simp only [getB_bit, setB_bit]; grind
end Go.Proofs.YtkffmaeiplgjeaaGreatDoor.Bv
/- What the functions of the layer va answer, in plain numbers, and that words of 64 bits come to these numbers. No program here. -/
namespace Go.Proofs.YtkffmaeiplgjeaaGreatDoor.VaSpec
open Go.RowKit Go.Proofs.YtkffmaeiplgjeaaGreatDoor.Bv
set_option linter.unusedVariables false
set_option linter.unusedSimpArgs false
def bI (b : Bool) : Int := if b then 1 else 0
theorem bI_bd (b : Bool) : 0 ≤ bI b ∧ bI b ≤ 1 := by cases b <;> decide
def sz (l : Int) : Int := if l = 0 then 4096 else if l = 1 then 2097152 else 1073741824
def isv (a : Int) : Bool := decide (a < 274877906944) || decide (18446743798831644672 ≤ a)
def idx (a l : Int) : Int := a / sz l % 512
def num (a : Int) : Int := a / 4096 % 134217728
def ext39 (m : Int) : Int := if m < 274877906944 then m else m + 18446743523953737728
def ofv (n : Int) : Int := ext39 (n % 134217728 * 4096)
def off (a l : Int) : Int := a % sz l
def base (a l : Int) : Int := a - a % sz l
def fits (a l : Int) : Bool := isv a && (off a l == 0)
theorem lev {l : Int} (h0 : 0 ≤ l) (h2 : l ≤ 2) : l = 0 ∨ l = 1 ∨ l = 2 := by omega
theorem sz_pos (l : Int) : 0 < sz l := by unfold sz; split; decide; split <;> decide
theorem sz_ne (l : Int) : sz l ≠ 0 := by have := sz_pos l; omega
theorem sz_le (l : Int) : sz l ≤ 1073741824 := by unfold sz; split; decide; split <;> decide
theorem u64_B {a : Int} (h0 : 0 ≤ a) (h : a < 18446744073709551616) : ∃ x, a = B x := ⟨BitVec.ofNat 64 a.toNat, by unfold B; rw [BitVec.toNat_ofNat]; omega⟩

theorem getB_val (x : BitVec 64) (lo n : Nat) (hn : n ≤ 64) : B (getB x lo n) = B x / 2 ^ lo % 2 ^ n := by
  unfold getB B mB
  rw [BitVec.toNat_and, BitVec.toNat_ushiftRight, BitVec.toNat_ofNat, Nat.shiftRight_eq_div_pow]
  have h1 : 2 ^ n ≤ 2 ^ 64 := Nat.pow_le_pow_right (by decide) hn
  have h2 := Nat.two_pow_pos n
  rw [Nat.mod_eq_of_lt (show 2 ^ n - 1 < 2 ^ 64 by omega), Nat.and_two_pow_sub_one_eq_mod]
  norm_cast
theorem signB_39 (x : BitVec 64) : B (signB x 39) = ext39 (B x % 549755813888) := by
  have e : signB x 39 = (x.setWidth 39).signExtend 64 := by
    apply BitVec.eq_of_getLsbD_eq; intro i hi
    rw [signB_bit x 39 i (by omega) (by omega), BitVec.getLsbD_signExtend, BitVec.msb_eq_getLsbD_last]
    simp only [BitVec.getLsbD_setWidth]
    by_cases h : i < 39
    · simp [h, hi, Nat.min_eq_left (show i ≤ 38 by omega)]
    · simp [h, hi, Nat.min_eq_right (show 38 ≤ i by omega)]
  rw [e]; unfold B
  rw [BitVec.toNat_signExtend, BitVec.msb_eq_decide]
  simp only [BitVec.toNat_setWidth]
  have := x.isLt
  unfold ext39
  simp only [decide_eq_true_eq]
  split <;> split <;> simp at * <;> omega
theorem setB_zero_val (v : BitVec 64) (lo n : Nat) (h : lo + n ≤ 64) : B (setB 0#64 lo n v) = B v % 2 ^ n * 2 ^ lo := by
  have e : setB 0#64 lo n v = getB v 0 n <<< lo := by
    apply BitVec.eq_of_getLsbD_eq; intro i hi
    rw [setB_bit, BitVec.getLsbD_shiftLeft, getB_bit]; simp; grind
  rw [e]
  have h1 : B (getB v 0 n) = B v % 2 ^ n := by rw [getB_val v 0 n (by omega)]; simp
  rw [← h1]; unfold B at *
  rw [BitVec.toNat_shiftLeft, Nat.shiftLeft_eq]
  have h2 : (getB v 0 n).toNat < 2 ^ n := by
    have : ((getB v 0 n).toNat : Int) < 2 ^ n := by rw [h1]; exact Int.emod_lt_of_pos _ (by exact_mod_cast Nat.two_pow_pos n)
    exact_mod_cast this
  have h3 : (getB v 0 n).toNat * 2 ^ lo < 2 ^ n * 2 ^ lo := Nat.mul_lt_mul_of_pos_right h2 (Nat.two_pow_pos lo)
  have h4 : 2 ^ n * 2 ^ lo ≤ 2 ^ 64 := by rw [← Nat.pow_add]; exact Nat.pow_le_pow_right (by decide) (by omega)
  rw [Nat.mod_eq_of_lt (by omega)]; norm_cast
theorem andMask (a : Int) (i : Nat) (hi : i ≤ 64) (h0 : 0 ≤ a) (h : a < 18446744073709551616) : Go.bits .and .u64 a (2 ^ i - 1) = a % 2 ^ i :=
  bits_mask .u64 64 (by decide) (fun n h0 h1 => by rw [wrap_u64]; omega) i hi a h0 (by omega)
theorem isv_ext (a : Int) (h0 : 0 ≤ a) (h1 : a < 18446744073709551616) : (ext39 (a % 549755813888) == a) = isv a := by
  unfold isv ext39
  by_cases h : a % 549755813888 < 274877906944
  · rw [if_pos h]
    by_cases k : a < 274877906944
    · rw [decide_eq_true k, Bool.true_or, beq_iff_eq]; omega
    · rw [decide_eq_false k, Bool.false_or, decide_eq_false (by omega), beq_eq_false_iff_ne]; omega
  · rw [if_neg h]
    rw [decide_eq_false (by omega), Bool.false_or]
    by_cases k : 18446743798831644672 ≤ a
    · rw [decide_eq_true k, beq_iff_eq]; omega
    · rw [decide_eq_false k, beq_eq_false_iff_ne]; omega
end Go.Proofs.YtkffmaeiplgjeaaGreatDoor.VaSpec
/- Words of this session's own proofs: quiet calls, what stays below, the table of sizes. -/
namespace Go.Proofs.YtkffmaeiplgjeaaGreatDoor.Base
open Go.RowKit Go.Proofs.YtkffmaeiplgjeaaGreatDoor.Bv Go.Proofs.YtkffmaeiplgjeaaGreatDoor.VaSpec
set_option linter.unusedVariables false
/-- the world is as it was, but for draws -/
structure Q (w w' : World) : Prop where mk :: (out : ∃ n, w' = w.drewN n)
theorem Q.refl (w : World) : Q w w := ⟨⟨0, rfl⟩⟩
theorem Q.step {w w' : World} (h : Q w w') (n : Nat) : Q w (w'.drewN n) := by
  obtain ⟨m, rfl⟩ := h; exact ⟨⟨m + n, by rw [World.drewN_drewN]⟩⟩
theorem Q.trans {a b c : World} (h : Q a b) (k : Q b c) : Q a c := by
  obtain ⟨n, rfl⟩ := h; obtain ⟨m, rfl⟩ := k; exact Q.step ⟨n, rfl⟩ m
theorem heap_drewN (w : World) (n : Nat) : (w.drewN n).heap = w.heap := rfl
theorem below_drewN' {B : Nat} {a w : World} (h : Below B a w) (n : Nat) : Below B a (w.drewN n) := ⟨h.os, h.tape, h.output, h.size, h.block⟩
theorem Q.below {w w' : World} (h : Q w w') : Below w.heap.size w w' := by
  obtain ⟨n, rfl⟩ := h; exact below_drewN' (Below.refl _ _) n
theorem bcell {W w1 : World} {n : Nat} (hb : Below n W w1) : (∀ b o, b < n → w1.cell? ⟨b, o, none⟩ = W.cell? ⟨b, o, none⟩) ∧ (∀ b o, b < n → w1.frozen? ⟨b, o, none⟩ = W.frozen? ⟨b, o, none⟩) :=
  ⟨fun b o h => hb.cell (p := ⟨b, o, none⟩) h, fun b o h => hb.frozen (p := ⟨b, o, none⟩) h⟩
theorem bel_drewN {W w : World} (h : Below W.heap.size W w) (n : Nat) : Below W.heap.size W (w.drewN n) := below_drewN' h n
theorem bel_alloc {W w : World} (h : Below W.heap.size W w) (o : Obj) : Below W.heap.size W (w.alloc o) := h.alloc h.size o
theorem bel_trans {W w w' : World} (h : Below W.heap.size W w) (k : Below w.heap.size w w') : Below W.heap.size W w' := h.trans (k.mono h.size)
theorem bel_setCell {W w : World} (b o : Nat) (v : Value) (hb : W.heap.size ≤ b) (h : Below W.heap.size W w) : Below W.heap.size W (w.setCell ⟨b, o, none⟩ v) := h.setCell hb v
theorem Q.bel {W w w' : World} (h : Below W.heap.size W w) (k : Q w w') : Below W.heap.size W w' := bel_trans h k.below
/-- a region that draws its order: quiet operations that leave the world alone, then a tail in one order; the world between under one name -/
theorem still_tail {P : Program} {id : Nat} {Q : Exit → Act → World → Prop} {a : Act} {w : World} {l : List Oper} (n : Nat) (hm : P.follows .mixedOrders = true) (hB : Region.lexTailB .any l.toArray n = true)
    (h : ∀ w2, w2 = w.drewN 1 → wpStill P l.toArray w2 (fun a' => wpList P l.toArray Q (l.drop n) a' w2) (l.take n) a) : (Code.region id l.toArray true).wp P Q a w :=
  wp_region_still_tail n hm hB (h (w.drewN 1) rfl)
/-- a region that draws its order, whose operations read what lies below and whose callees make memory alone: one walk in the order of the text -/
theorem region_below {P : Program} {id : Nat} {Q : Exit → Act → World → Prop} {a : Act} {w : World} {l : List Oper} (hm : P.follows .mixedOrders = true) (hB : Region.lexB .any l.toArray = true)
    (h : wpQuiet P l.toArray (fun w' => Below w.heap.size w w') (fun a' => ∀ w', Below w.heap.size w w' → Q .normal a' w') l a) : (Code.region id l.toArray true).wp P Q a w :=
  wp_region_quiet (C := fun w' => Below w.heap.size w w') hm hB ((Below.refl _ _).drew) (by simpa using h)
/-- an unsigned word -/
abbrev U (a : Int) : Prop := 0 ≤ a ∧ a < 18446744073709551616
theorem U.b0 {a : Int} (h : U a) : 0 ≤ a := h.1
theorem U.b1 {a : Int} (h : U a) : a < 18446744073709551616 := h.2
theorem U.of {a : Int} (h : (Lit.int .u64 a).wf = true) : U a := bd_u64 h
theorem U.B (x : BitVec 64) : U (B x) := ⟨B_nonneg x, B_lt x⟩
def X (a : Int) : BitVec 64 := BitVec.ofInt 64 a
theorem B_X {a : Int} (h : U a) : B (X a) = a := by
  obtain ⟨x, rfl⟩ := u64_B h.1 h.2; unfold X; rw [ofInt_B]
theorem X_B (x : BitVec 64) : X (B x) = x := ofInt_B x
/-- The table of sizes lies in memory as the program's text lays it. -/
def TabS (w : World) : Prop := w.cell? ⟨0, 0, none⟩ = some (.int .u64 4096) ∧ w.cell? ⟨0, 1, none⟩ = some (.int .u64 2097152) ∧ w.cell? ⟨0, 2, none⟩ = some (.int .u64 1073741824)
theorem TabS.below {w w' : World} {n : Nat} (h : TabS w) (b : Below n w w') (hn : w.heap.size ≤ n) : TabS w' := by
  obtain ⟨h0, h1, h2⟩ := h
  have k : 0 < w.heap.size := block_lt_of_cell h0
  exact ⟨(b.cell (p := ⟨0, 0, none⟩) (Nat.lt_of_lt_of_le k hn)).trans h0, (b.cell (p := ⟨0, 1, none⟩) (Nat.lt_of_lt_of_le k hn)).trans h1, (b.cell (p := ⟨0, 2, none⟩) (Nat.lt_of_lt_of_le k hn)).trans h2⟩
/-- all that the program's text lays in the package-level variables that this seat's rows list -/
def G (w : World) : Prop := TabS w
theorem G.tabS {w : World} (h : G w) : TabS w := h
theorem G.below {w w' : World} {n : Nat} (h : G w) (b : Below n w w') (hn : w.heap.size ≤ n) : G w' := TabS.below h b hn
theorem G.drewN {w : World} (h : G w) (n : Nat) : G (w.drewN n) := h
theorem G.alloc {w : World} (h : G w) (o : Obj) : G (w.alloc o) := h.below ((Below.refl w.heap.size w).alloc (Nat.le_refl _) o) (Nat.le_refl _)
theorem G.to {w w' : World} (h : G w) (b : Below w.heap.size w w') : G w' := h.below b (Nat.le_refl _)
end Go.Proofs.YtkffmaeiplgjeaaGreatDoor.Base
/- The contracts of the functions that look for a word of memory. -/
namespace Go.Proofs.YtkffmaeiplgjeaaGreatDoor.MemC
open Go.RowKit Go.Proofs.YtkffmaeiplgjeaaGreatDoor.Bv Go.Proofs.YtkffmaeiplgjeaaGreatDoor.Base Go.Proofs.YtkffmaeiplgjeaaGreatDoor.MemL
set_option linter.unusedVariables false
set_option linter.unusedSimpArgs false
def cmpI (a b : Int) : Int := if a < b then -1 else if b < a then 1 else 0
theorem isnan_calls (a : Int) (W : World) : Calls Tryz.prog 145 #[.int .u64 a] W fun e w' => e = .returned (.bool false) ∧ Q W w' := by
  go_enter Tryz.func145, Tryz.ntmps145
  go_wp2
  go_ret
  exact ⟨rfl, Q.refl _⟩
theorem cmp_calls (a b : Int) (W : World) : Calls Tryz.prog 137 #[.int .u64 a, .int .u64 b] W fun e w' => e = .returned (.int .i64 (cmpI a b)) ∧ Q W w' := by
  have H := Lib.hid (show cmpI a b = if a < b then -1 else if b < a then 1 else 0 from rfl)
  by_cases h1 : a < b
  · go_enter Tryz.func137, Tryz.ntmps137
    go_wp2_with (go_at_call 145; (with_reducible refine (isnan_calls _ _).mono ?_); rintro e w' ⟨rfl, ⟨nd, rfl⟩⟩)
    go_ret
    exact ⟨congrArg (fun z => Ending.returned (.int .i64 z)) (by rw [H.out, if_pos h1]), by repeat (first | exact Q.refl _ | apply Q.step)⟩
  · by_cases h2 : b < a
    · go_enter Tryz.func137, Tryz.ntmps137
      go_wp2_with (go_at_call 145; (with_reducible refine (isnan_calls _ _).mono ?_); rintro e w' ⟨rfl, ⟨nd, rfl⟩⟩)
      go_ret
      exact ⟨congrArg (fun z => Ending.returned (.int .i64 z)) (by rw [H.out, if_neg (by omega), if_pos (by omega)]), by repeat (first | exact Q.refl _ | apply Q.step)⟩
    · go_enter Tryz.func137, Tryz.ntmps137
      go_wp2_with (go_at_call 145; (with_reducible refine (isnan_calls _ _).mono ?_); rintro e w' ⟨rfl, ⟨nd, rfl⟩⟩)
      go_ret
      exact ⟨congrArg (fun z => Ending.returned (.int .i64 z)) (by rw [H.out, if_neg (by omega), if_neg (by omega)]), by repeat (first | exact Q.refl _ | apply Q.step)⟩
theorem key_calls (a v b : Int) (W : World) : Calls Tryz.prog 136 #[.agg #[.int .u64 a, .int .u64 v], .int .u64 b] W fun e w' => e = .returned (.int .i64 (cmpI a b)) ∧ Below W.heap.size W w' := by
  go_enter Tryz.func136, Tryz.ntmps136
  go_wp2_with (go_at_call 137; (with_reducible refine (cmp_calls _ _ _).mono ?_); rintro e w' ⟨rfl, hq⟩)
  go_ret
  exact ⟨rfl, Q.bel (bel_alloc (Below.refl _ _) _) hq⟩
/-- the least place at which no lesser number stands -/
def lb : List (Int × Int) → Int → Nat
  | [], _ => 0
  | c :: cs, t => if c.1 < t then lb cs t + 1 else 0
def has (xs : List (Int × Int)) (t : Int) : Bool := match xs[lb xs t]? with | some c => c.1 == t | none => false
def Srt (xs : List (Int × Int)) : Prop := xs.Pairwise (fun a b => a.1 < b.1)
theorem lb_le (xs : List (Int × Int)) (t : Int) : lb xs t ≤ xs.length := by
  induction xs with
  | nil => simp [lb]
  | cons c cs ih => simp only [lb]; split <;> simp <;> omega
theorem lt_lb (xs : List (Int × Int)) (t : Int) (hs : Srt xs) (h : Nat) (hh : h < xs.length) : xs[h].1 < t ↔ h < lb xs t := by
  induction xs generalizing h with
  | nil => simp at hh
  | cons c cs ih =>
    simp only [lb]
    have hs' := List.pairwise_cons.1 hs
    cases h with
    | zero => simp; split <;> simp_all
    | succ h =>
      simp only [List.length_cons] at hh
      simp only [List.getElem_cons_succ]
      split
      · rw [ih hs'.2 h (by omega)]; omega
      · have := hs'.1 cs[h] (List.getElem_mem _)
        constructor
        · intro k; omega
        · intro k; omega
/-- a memory's cells, one behind the other -/
def fl (xs : List (Int × Int)) : List Value := xs.flatMap fun c => [.int .u64 c.1, .int .u64 c.2]
theorem fl_cons (c : Int × Int) (cs : List (Int × Int)) : fl (c :: cs) = .int .u64 c.1 :: .int .u64 c.2 :: fl cs := rfl
theorem fl_length (xs : List (Int × Int)) : (fl xs).length = xs.length * 2 := by
  induction xs with
  | nil => rfl
  | cons c cs ih => rw [fl_cons]; simp only [List.length_cons, ih]; omega
theorem mid64 (p q : Nat) (hp : (p : Int) ≤ 9223372036854775807) (hq : (q : Int) ≤ 9223372036854775807) : wrap64 (IntKind.u64.wrap (wrap64 ((p : Int) + (q : Int))) / 2) = (((p + q) / 2 : Nat) : Int) := by
  rw [wrap_u64]; unfold wrap64; omega
theorem fl_at (xs : List (Int × Int)) (h : Nat) (hh : h < xs.length) : (fl xs)[h * 2]? = some (.int .u64 xs[h].1) ∧ (fl xs)[h * 2 + 1]? = some (.int .u64 xs[h].2) := by
  induction xs generalizing h with
  | nil => simp at hh
  | cons c cs ih =>
    cases h with
    | zero => simp [fl]
    | succ h =>
      simp only [List.length_cons] at hh
      obtain ⟨h1, h2⟩ := ih h (by omega)
      have e1 : (h + 1) * 2 = h * 2 + 1 + 1 := by omega
      have e2 : (h + 1) * 2 + 1 = (h * 2 + 1) + 1 + 1 := by omega
      simp only [fl, List.flatMap_cons] at *
      exact ⟨by rw [e1]; simpa using h1, by rw [e2]; simpa using h2⟩
set_option maxHeartbeats 2000000 in
theorem search_calls (v : Value) (xs : List (Int × Int)) (t : Int) (W : World) (hs : Srt xs) (hv : Sl W v xs.length 2 (fl xs)) :
    Calls Tryz.prog 135 #[v, .int .u64 t, .func (.func 136) #[] #[]] W fun e w' => e = .returned (.tuple #[.int .i64 (lb xs t), .bool (has xs t)]) ∧ Below W.heap.size W w' := by
  obtain ⟨_, hv⟩ := hv
  rcases hv with ⟨rfl, hn⟩ | ⟨b, o, cap, rfl, hb, hcap, hmax, hcell⟩
  · obtain rfl := List.eq_nil_of_length_eq_zero hn
    go_enter Tryz.func135, Tryz.ntmps135
    go_wp2
    go_loopw [9, 10] (fun i j wr => i = .int .i64 0 ∧ j = .int .i64 0 ∧ Below W.heap.size W wr) (fun i j _ => (intOf j - intOf i).toNat)
    case atStart => exact ⟨rfl, rfl, Below.refl _ _⟩
    case round =>
      obtain ⟨rfl, rfl, br⟩ := hrel
      go_wp2
      go_ret2
      exact ⟨rfl, br⟩
  · unfold maxLen at hmax
    go_enter Tryz.func135, Tryz.ntmps135
    go_wp2
    go_loopw [9, 10] (fun i j wr => ∃ p q : Nat, p ≤ lb xs t ∧ lb xs t ≤ q ∧ q ≤ xs.length ∧ i = .int .i64 p ∧ j = .int .i64 q ∧ Below W.heap.size W wr) (fun i j _ => (intOf j - intOf i).toNat)
    case atStart => exact ⟨0, xs.length, by omega, lb_le _ _, by omega, rfl, rfl, Below.refl _ _⟩
    case round =>
      obtain ⟨p, q, hp, hq, hqn, rfl, rfl, br⟩ := hrel
      obtain ⟨cr, _⟩ := bcell br
      by_cases hlt : p < q
      · have hm := mid64 p q (by omega) (by omega)
        have hh1 : p ≤ (p + q) / 2 := by omega
        have hh2 : (p + q) / 2 < q := by omega
        generalize (p + q) / 2 = h at hm hh1 hh2
        obtain ⟨c1, c2⟩ := fl_at xs h (by omega)
        have hl := lt_lb xs t hs h (by omega)
        generalize xs[h] = c at c1 c2 hl
        obtain ⟨ca, cv⟩ := c
        simp only at c1 c2 hl
        have k1 := hcell (h * 2) (by omega)
        have k2 := hcell (h * 2 + 1) (by omega)
        rw [c1] at k1
        rw [c2] at k2
        clear c1 c2
        have r1 : wr.cell? ⟨b, o + h * 2, none⟩ = some (.int .u64 ca) := (cr _ _ hb).trans k1
        have r2 : wr.cell? ⟨b, o + h * 2 + 1, none⟩ = some (.int .u64 cv) := (cr _ _ hb).trans k2
        have HL := Lib.hid hl
        clear cr k1 k2 hl
        by_cases hc : ca < t
        · have e1 : cmpI ca t = -1 := by unfold cmpI; rw [if_pos hc]
          have hlb := HL.out.1 hc
          clear hc HL
          go_wp2_with fail
          refine (key_calls _ _ _ _).mono ?_
          rintro e w2 ⟨rfl, b2⟩
          rw [e1]
          go_wp2
          exact ⟨⟨h + 1, q, by omega, hq, hqn, by go_num, rfl, bel_trans br b2⟩, by simp [intOf]; omega⟩
        · have hlb : lb xs t ≤ h := by
            rcases Nat.lt_or_ge h (lb xs t) with k | k
            · exact absurd (HL.out.2 k) hc
            · exact k
          have e1 : cmpI ca t = 0 ∨ cmpI ca t = 1 := by unfold cmpI; rw [if_neg hc]; split <;> simp
          clear hc HL
          go_wp2_with fail
          refine (key_calls _ _ _ _).mono ?_
          rintro e w2 ⟨rfl, b2⟩
          rcases e1 with e1 | e1 <;>
          · rw [e1]
            go_wp2
            exact ⟨⟨p, h, hp, hlb, by omega, rfl, rfl, bel_trans br b2⟩, by simp [intOf]; omega⟩
      · obtain rfl : p = q := by omega
        have hp' : lb xs t = p := by omega
        have H1 := Lib.hid (show has xs t = (match xs[p]? with | some c => c.1 == t | none => false) by unfold has; rw [hp'])
        have HP := Lib.hid hp'
        clear hp' hp hq
        by_cases hpl : p < xs.length
        · obtain ⟨c1, c2⟩ := fl_at xs p hpl
          have H2 := Lib.hid (show xs[p]? = some xs[p] from List.getElem?_eq_getElem hpl)
          generalize xs[p] = c at c1 c2 H2
          obtain ⟨ca, cv⟩ := c
          simp only at c1 c2
          have k1 := hcell (p * 2) (by omega)
          have k2 := hcell (p * 2 + 1) (by omega)
          rw [c1] at k1
          rw [c2] at k2
          have r1 : wr.cell? ⟨b, o + p * 2, none⟩ = some (.int .u64 ca) := (cr _ _ hb).trans k1
          have r2 : wr.cell? ⟨b, o + p * 2 + 1, none⟩ = some (.int .u64 cv) := (cr _ _ hb).trans k2
          have H3 : has xs t = (ca == t) := by rw [H1.out, H2.out]
          have HH := Lib.hid H3
          clear c1 c2 cr k1 k2 H3 H1 H2
          have hz : ((cmpI ca t) == 0) = (ca == t) := by
            unfold cmpI; rw [Bool.eq_iff_iff]; simp only [beq_iff_eq]
            split
            · omega
            · split <;> omega
          go_wp2_with fail
          refine (key_calls _ _ _ _).mono ?_
          rintro e w2 ⟨rfl, b2⟩
          go_wp2
          go_ret2
          exact ⟨by rw [HP.out, HH.out]; first | rfl | rw [hz] | simp [hz], bel_trans br b2⟩
        · have H2 : has xs t = false := by rw [H1.out, List.getElem?_eq_none (by omega)]
          have HH := Lib.hid H2
          clear H1 H2
          go_wp2
          go_ret2
          exact ⟨by rw [HP.out, HH.out]; rfl, br⟩
end Go.Proofs.YtkffmaeiplgjeaaGreatDoor.MemC
