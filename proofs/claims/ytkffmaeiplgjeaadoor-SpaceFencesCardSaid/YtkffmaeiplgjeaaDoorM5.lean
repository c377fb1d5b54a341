/- Texts of this claim, one behind the other: AxG2, AxG3, AxK, AxL. -/
import Derived.Test.YtkffmaeiplgjeaaDoorM4
/- The abstract walk: append, writes into rows, calls over rows, states told anew, loops. -/
namespace Go.Proofs.YtkffmaeiplgjeaaDoor.Ax
open Go.RowKit Go.Proofs.YtkffmaeiplgjeaaDoor.MemL Go.Proofs.YtkffmaeiplgjeaaDoor.RegR
set_option linter.unusedVariables false
set_option linter.unusedSimpArgs false
variable {P : Program} {ops : Array Oper} {X : Cx} {o : Oper} {S : St}
/-- a slice that reads as cells: given as such, or an own row -/
def readA (h : Nat → Hs) (c : Ce) : Option (Nat × Nat × List Value) :=
  match shut h c with
  | .s n k xs => some (n, k, xs)
  | .v (.slice none 0 0) => some (0, 0, [])
  | _ => none
def idC : Ce → List Nat
  | .p b _ | .o b | .rp b _ | .bs b _ _ => [b]
  | _ => []
def idM : Cm → List Nat
  | .c x => idC x
  | .ag cs => cs.flatMap idC
theorem shut_same {h h' : Nat → Hs} {c : Ce} (e : ∀ b ∈ idC c, h b = h' b) : shut h c = shut h' c := by
  cases c <;> simp only [shut]
  case o b => rw [e b (by simp [idC])]
theorem shutM_same {h h' : Nat → Hs} {m : Cm} (e : ∀ b ∈ idM m, h b = h' b) : shutM h m = shutM h' m := by
  cases m with
  | c x => exact congrArg Cm.c (shut_same e)
  | ag cs =>
    refine congrArg Cm.ag (List.map_congr_left fun c hc => shut_same fun b hb => e b ?_)
    exact List.mem_flatMap.2 ⟨c, hc, hb⟩
theorem run_append_any {w : World} {base t ty el : Nat} {i : TypeInfo} {z : Value} {k : Nat} (ht : P.underlying t = some (.slice el)) (hi : P.info? el = some i) (hz : i.zero = some z) (hk : i.size = k) (hzs : z.cells.size = k) (hk0 : 0 < k)
    {v : Value} {n : Nat} {xs : List Value} (hown : w.ownsRow base el k v n xs) {u : Value} {m : Nat} {ys : List Value} (hu : Sl w u m k ys) (h1 : ∀ y ∈ ys, y.oneCell' = true) (h63 : n + m ≤ maxLen) (hbytes : (n + m) * i.bytes ≤ 140737488355328) (hbase : base ≤ w.heap.size) :
    ∃ v' w', (Builtin.append_ #[t, t] ty #[v, u]).run P w = .ok v' w' ∧ w'.ownsRow base el k v' (n + m) (xs ++ ys) ∧ w.grownBy w' v.ownBlock ∧ (v'.ownBlock = v.ownBlock ∨ v'.ownBlock = some w.heap.size) := by
  obtain ⟨hl, hs⟩ := hu
  rcases hs with ⟨rfl, rfl⟩ | ⟨b, off, cap, rfl, hb, h2, h3, h4⟩
  · have : ys = [] := List.eq_nil_of_length_eq_zero (by simpa using hl)
    subst this
    refine ⟨v, w, run_append_owned_none w base t ty el i k ht hi v n xs hown, by simpa using hown, ⟨rfl, rfl, rfl, Nat.le_refl _, fun _ _ _ => rfl⟩, .inl rfl⟩
  · obtain ⟨v', w', r1, r2, r3, _, r5⟩ := run_append_own_at (P := P) w base t ty el i z k i.bytes ht hi hz hk rfl hzs hk0 v n xs hown ⟨b, off, none⟩ m cap ys hl (fun j y hy => by
      have hj : j < m * k := by rw [← hl]; exact (List.getElem?_eq_some_iff.1 hy).1
      rw [Addr.add_mid, h4 j hj]; exact hy) h1 h63 hbytes hbase
    exact ⟨v', w', r1, r2, r3, r5⟩
/-- append onto an own row -/
theorem valid_app {t el k b b' n m : Nat} {x y : Operand} {xs ys : List Value} {c : Ce} {i : TypeInfo} {z : Value} (ho : o.op = .call { callee := .builtin .append, args := #[x, y], argTypes := #[t, t] }) (hd : o.dst = some b') (hw : want ops S o = true) (hf : S.hp b' = .fresh)
    (hx : S.ev x = .m (.c (.o b))) (hb : S.hp b = .live (.row el k n xs)) (hy : S.ev y = .m (.c c)) (hc : shut S.hp c = .s m k ys) (ht : P.underlying t = some (.slice el)) (hi : P.info? el = some i) (hz : i.zero = some z) (hk : (Nat.beq i.size k && Nat.beq z.cells.size k && Nat.blt 0 k && Nat.ble i.bytes 4096) = true)
    (h1 : ys.all (·.oneCell') = true) (hle0 : n + m ≤ 30000000000) : Valid P ops X o S ⟨.m (.c (.o b')), [(b', .live (.row el k (n + m) (xs ++ ys))), (b, .dead)], (idC c).map .all⟩ := fun S2 a w h1' h2 h3 ⟨τ, hS⟩ => by
  refine .inl ⟨want_spec hw h1' h3 hS, ?_⟩
  simp only [Bool.and_eq_true] at hk
  obtain ⟨⟨⟨k1, k2⟩, k3⟩, k4⟩ := hk
  have k4 := Nat.le_of_ble_eq_true k4
  have k1 := Nat.eq_of_beq_eq_true k1
  have k2 := Nat.eq_of_beq_eq_true k2
  have k3 : 0 < k := Nat.le_of_ble_eq_true k3
  have get : ∀ z ∈ o.op.operands, (S.ev z).R (env X S2.hp τ w) (a.eval z) := fun z hz => by rw [← ev_same h1' hz]; exact hS.ev z (fun t e => h3 t (.inl (looks_op (e ▸ hz))))
  have q1 := get x (by rw [ho]; simp [Op.operands, Call.operands])
  have q2 := get y (by rw [ho]; simp [Op.operands, Call.operands])
  rw [hx] at q1; rw [hy] at q2
  obtain ⟨_, q1⟩ := q1
  have q1 : a.eval x = τ b := q1
  have q2 := shut_R hS c (a.eval y) q2
  rw [show shut S2.hp c = shut S.hp c from shut_same (fun b hb => h2 (.all b) (by simp [Ef.foot, hb])), hc] at q2
  have q2 : Sl w (a.eval y) m k ys := q2.1
  have hb2 : S2.hp b = .live (.row el k n xs) := Eq.trans (h2 (.all b) (by simp [Ef.foot, upRd])) hb
  have hf2 : S2.hp b' = .fresh := Eq.trans (h2 (.all b') (by simp [Ef.foot, upRd])) hf
  have hr : w.ownsRow X.base el k (τ b) n xs := hS.hp b _ hb2
  have hle : (n + m) * (i.bytes + 1) ≤ 140737488355328 := Nat.le_trans (Nat.mul_le_mul hle0 (show i.bytes + 1 ≤ 4097 by omega)) (by decide)
  have e1 : (n + m) * i.bytes ≤ (n + m) * (i.bytes + 1) := Nat.mul_le_mul_left _ (by omega)
  have e2 : n + m ≤ (n + m) * (i.bytes + 1) := Nat.le_mul_of_pos_right _ (by omega)
  obtain ⟨v', w', r1, r2, r3, r4⟩ := run_append_any (P := P) (ty := o.type) ht hi hz k1 k2 k3 hr q2 (by simpa using h1) (by unfold maxLen; omega) (by omega) hS.bel.size
  have hrun : (execOp a.eval o).run P w = .ok (.value v') w' := by simp [execOp, ho, resolve, invoke, builtin, q1, r1]
  rw [hrun]
  exact ⟨_, hS.app hb2 hf2 r3 r2 r4⟩
/-- append onto nil -/
theorem valid_app0 {t el k b' m : Nat} {x y : Operand} {ys : List Value} {c : Ce} {i : TypeInfo} {z : Value} (ho : o.op = .call { callee := .builtin .append, args := #[x, y], argTypes := #[t, t] }) (hd : o.dst = some b') (hw : want ops S o = true) (hf : S.hp b' = .fresh)
    (hx : S.ev x = .m (.c (.v (.slice none 0 0)))) (hy : S.ev y = .m (.c c)) (hc : shut S.hp c = .s m k ys) (ht : P.underlying t = some (.slice el)) (hi : P.info? el = some i) (hz : i.zero = some z) (hk : (Nat.beq i.size k && Nat.beq z.cells.size k && Nat.blt 0 k && Nat.ble i.bytes 4096) = true)
    (h1 : ys.all (·.oneCell') = true) (hle0 : m ≤ 30000000000) : Valid P ops X o S ⟨.m (.c (.o b')), [(b', .live (.row el k m ys))], (idC c).map .all⟩ := fun S2 a w h1' h2 h3 ⟨τ, hS⟩ => by
  refine .inl ⟨want_spec hw h1' h3 hS, ?_⟩
  simp only [Bool.and_eq_true] at hk
  obtain ⟨⟨⟨k1, k2⟩, k3⟩, k4⟩ := hk
  have k4 := Nat.le_of_ble_eq_true k4
  have k1 := Nat.eq_of_beq_eq_true k1
  have k2 := Nat.eq_of_beq_eq_true k2
  have k3 : 0 < k := Nat.le_of_ble_eq_true k3
  have get : ∀ z ∈ o.op.operands, (S.ev z).R (env X S2.hp τ w) (a.eval z) := fun z hz => by rw [← ev_same h1' hz]; exact hS.ev z (fun t e => h3 t (.inl (looks_op (e ▸ hz))))
  have q1 := get x (by rw [ho]; simp [Op.operands, Call.operands])
  have q2 := get y (by rw [ho]; simp [Op.operands, Call.operands])
  rw [hx] at q1; rw [hy] at q2
  have q1 : a.eval x = .slice none 0 0 := q1
  have q2 := shut_R hS c (a.eval y) q2
  rw [show shut S2.hp c = shut S.hp c from shut_same (fun b hb => h2 (.all b) (by simp [Ef.foot, hb])), hc] at q2
  have q2 : Sl w (a.eval y) m k ys := q2.1
  have hf2 : S2.hp b' = .fresh := Eq.trans (h2 (.all b') (by simp [Ef.foot, upRd])) hf
  have hle : m * (i.bytes + 1) ≤ 140737488355328 := Nat.le_trans (Nat.mul_le_mul hle0 (show i.bytes + 1 ≤ 4097 by omega)) (by decide)
  have e1 : m * i.bytes ≤ m * (i.bytes + 1) := Nat.mul_le_mul_left _ (by omega)
  have e2 : m ≤ m * (i.bytes + 1) := Nat.le_mul_of_pos_right _ (by omega)
  obtain ⟨v', w', r1, r2, r3, r4⟩ := run_append_any (P := P) (ty := o.type) ht hi hz k1 k2 k3 (World.ownsRow_nil w X.base el k) q2 (by simpa using h1) (by unfold maxLen; omega) (by rw [Nat.zero_add]; omega) hS.bel.size
  have hrun : (execOp a.eval o).run P w = .ok (.value v') w' := by simp [execOp, ho, resolve, invoke, builtin, q1, r1]
  rw [hrun]
  simp only [Nat.zero_add, List.nil_append] at r2
  have hb : Below w.heap.size w w' := (Below.refl _ _).grown r3 (Nat.le_refl _) (fun k hk => by simp [Value.ownBlock] at hk)
  by_cases hnil : v'.ownBlock = none
  · have hn : occ v' = none := by rw [own_occ r2]; exact hnil
    -- nothing was there: nil again
    have hvn : v' = .slice none 0 0 ∧ m = 0 := by rcases r2.2 with e | ⟨g, cap, cur, e, _⟩; exact e; rw [e] at hnil; cases hnil
    refine ⟨setτ τ b' v', ?_⟩
    have hne : ∀ i, S2.hp i ≠ .fresh → i ≠ b' := fun i hi e => hi (e ▸ hf2)
    have hal : ∀ i, alive (upd [(b', Hs.live (.row el k m ys))] S2.hp) i → i = b' ∨ (i ≠ b' ∧ alive S2.hp i) := fun i ⟨k', hi⟩ => by
      rw [upd_one] at hi
      by_cases e : i = b'
      · exact .inl e
      · rw [if_neg e] at hi; exact .inr ⟨e, k', hi⟩
    have hle : (env X S2.hp τ w).le (env X (upd [(b', Hs.live (.row el k m ys))] S2.hp) (setτ τ b' v') w') := by
      refine ⟨fun i hi => ⟨?_, ?_⟩, fun g' hg' ha => ⟨ha.1, fun i hi => ?_⟩, hb.size, fun g' o' hg' _ => hb.cell (p := ⟨g', o', none⟩) hg'⟩
      · show upd _ _ i ≠ _; rw [upd_one, if_neg (hne i hi)]; exact hi
      · show setτ τ b' v' i = τ i; unfold setτ; rw [if_neg (hne i hi)]
      · show occ (setτ τ b' v' i) ≠ some g'
        unfold setτ
        rcases hal i hi with e | ⟨e, hi⟩
        · rw [if_pos e, hn]; intro e'; cases e'
        · rw [if_neg e]; exact ha.2 i hi
    refine hS.turn (u := [(b', Hs.live (.row el k m ys))]) hle (hS.bel.trans (hb.mono hS.bel.size)) (fun i k' hi => ?_) (fun i g' hi ho => ?_) (fun i j g' hij hi hj ho => ?_) (fun i => ?_) ?_
    · rw [upd_one] at hi
      unfold setτ
      by_cases e : i = b'
      · rw [if_pos e] at hi ⊢; cases hi; exact r2
      · rw [if_neg e] at hi ⊢
        have := hS.hp i k' hi
        cases k' with
        | box cs =>
          obtain ⟨g', vs, e1, e2, e3⟩ := this
          exact ⟨g', vs, e1, Bx.below e2 hb, All2.mono (ceR_le hle) _ _ e3⟩
        | row e k n xs => exact bkR_below (X := X) (h := S2.hp) (τ := τ) hb _ _ _ this
    · unfold setτ at ho
      rcases hal i hi with e | ⟨e, hi⟩
      · rw [if_pos e, hn] at ho; cases ho
      · rw [if_neg e] at ho; exact ⟨(hS.own i g' hi ho).1, Nat.lt_of_lt_of_le (hS.own i g' hi ho).2 hb.size⟩
    · unfold setτ at ho ⊢
      rcases hal i hi with e | ⟨e, hi⟩
      · rw [if_pos e, hn] at ho; cases ho
      · rw [if_neg e] at ho
        rcases hal j hj with e' | ⟨e', hj⟩
        · rw [if_pos e', hn]; intro hj'; cases hj'
        · rw [if_neg e']; exact hS.sep i j g' hij hi hj ho
    · unfold setτ; split
      · rw [hvn.1]; rfl
      · exact hS.one i
    · refine ⟨?_, ?_⟩
      · show upd _ _ b' ≠ _; rw [upd_one, if_pos rfl]; intro e; cases e
      · show _ = setτ τ b' v' b'; unfold setτ; rw [if_pos rfl]
  · obtain ⟨g, hg⟩ := Option.ne_none_iff_exists'.1 hnil
    have hg' : v'.ownBlock = some w.heap.size := by
      rcases r4 with e | e
      · rw [e] at hnil; exact absurd rfl hnil
      · exact e
    refine ⟨_, hS.newb (k := .row el k m ys) hf2 hb (v := v') (g := w.heap.size) (occ_own hg') ⟨Nat.le_refl _, (World.ownsRow.lt r2 _ hg').2⟩ (by rcases r2.2 with ⟨rfl, _⟩ | ⟨_, _, _, rfl, _⟩ <;> rfl) (fun E hE hw' => by
      show E.w.ownsRow X.base el k v' m ys
      rw [hw']; exact r2) ?_⟩
    refine ⟨?_, ?_⟩
    · show upd _ _ b' ≠ _; rw [upd_one, if_pos rfl]; intro e; cases e
    · show _ = setτ τ b' v' b'; unfold setτ; rw [if_pos rfl]
end Go.Proofs.YtkffmaeiplgjeaaDoor.Ax
/- The abstract walk: writes into rows, calls over rows, states told anew, loops. -/
namespace Go.Proofs.YtkffmaeiplgjeaaDoor.Ax
open Go.RowKit Go.Proofs.YtkffmaeiplgjeaaDoor.MemL Go.Proofs.YtkffmaeiplgjeaaDoor.RegR
set_option linter.unusedVariables false
set_option linter.unusedSimpArgs false
variable {P : Program} {ops : Array Oper} {X : Cx} {o : Oper} {S : St} {Q : Exit → St → Prop}
/-! ### calls over rows -/
theorem args_shut {τ : Nat → Value} {a : Act} {w : World} {S2 : St} (hS : SimT X S2 τ a w) : ∀ (l : List Cm) (vs : List Value), All2 (Cm.R (env X S2.hp τ w)) l vs → All2 (Cm.R ⟨fun g => X.A0 g ∨ X.base ≤ g, fun b => S2.hp b ≠ .fresh, τ, w⟩) (l.map (shutM S2.hp)) vs
  | [], [], _ => trivial
  | m :: l, v :: vs, h => ⟨shutM_R hS m v h.1, args_shut hS l vs h.2⟩
  | [], _ :: _, h => h.elim
  | _ :: _, [], h => h.elim
def plainC : Ce → Bool
  | .v _ => true
  | _ => false
def plainM : Cm → Bool
  | .c x => plainC x
  | .ag cs => cs.all plainC
def plainV : AV → Bool
  | .m m => plainM m
  | .tu l => l.all plainM
theorem plain_ce {E F : En} : ∀ (c : Ce) (v : Value), plainC c = true → c.R E v → c.R F v
  | .v x, v, _, h => h
  | .s _ _ _, _, h, _ | .q _, _, h, _ | .p _ _, _, h, _ | .o _, _, h, _ | .rp _ _, _, h, _ | .f _ _ _, _, h, _ | .bs _ _ _, _, h, _ | .any, _, h, _ => by cases h
theorem plain_cs {E F : En} : ∀ (cs : List Ce) (vs : List Value), cs.all plainC = true → All2 (Ce.R E) cs vs → All2 (Ce.R F) cs vs
  | [], [], _, _ => trivial
  | c :: cs, v :: vs, h, k => by
    simp only [List.all_cons, Bool.and_eq_true] at h
    exact ⟨plain_ce c v h.1 k.1, plain_cs cs vs h.2 k.2⟩
  | [], _ :: _, _, k => k.elim
  | _ :: _, [], _, k => k.elim
theorem plain_cm {E F : En} : ∀ (c : Cm) (v : Value), plainM c = true → c.R E v → c.R F v
  | .c x, v, h, k => plain_ce x v h k
  | .ag cs, v, h, ⟨vs, e, k⟩ => ⟨vs, e, plain_cs cs _ h k⟩
theorem plain_cms {E F : En} : ∀ (cs : List Cm) (vs : List Value), cs.all plainM = true → All2 (Cm.R E) cs vs → All2 (Cm.R F) cs vs
  | [], [], _, _ => trivial
  | c :: cs, v :: vs, h, k => by
    simp only [List.all_cons, Bool.and_eq_true] at h
    exact ⟨plain_cm c v h.1 k.1, plain_cms cs vs h.2 k.2⟩
  | [], _ :: _, _, k => k.elim
  | _ :: _, [], _, k => k.elim
theorem plain_av {E F : En} : ∀ (c : AV) (v : Value), plainV c = true → c.R E v → c.R F v
  | .m m, v, h, k => plain_cm m v h k
  | .tu l, v, h, ⟨vs, e, k⟩ => ⟨vs, e, plain_cms l _ h k⟩
/-- own rows are read by the function called, whose answer holds no slice -/
theorem valid_call_o {k : FuncId} {xs : Array Operand} {ts : Array TypeId} {l : List Cm} {r : AV} (ho : o.op = .call { callee := .value (.func k), args := xs, argTypes := ts }) (hw : want ops S o = true) (hk : callable P k = true) (hl : argsA S xs.toList = some l) (hc : CallOk P X.G k (l.map (shutM S.hp)) r) (hp : plainV r = true) : Valid P ops X o S ⟨r, [], (l.flatMap idM).map .all⟩ := fun S2 a w h1 h2 h3 ⟨τ, hS⟩ => by
  refine .inl ⟨want_spec hw h1 h3 hS, ?_⟩
  rw [run_call ho hk]
  obtain ⟨c1, c2, hc⟩ := hc
  have hR := argsA_R (S := S) (E := env X S2.hp τ w) (a := a) xs.toList l hl (fun x hx => by
    have hm : x ∈ o.op.operands := by rw [ho]; simp [Op.operands, Call.operands]; exact .inr (by simpa using hx)
    rw [← ev_same h1 hm]; exact hS.ev x (fun t e => h3 t (.inl (looks_op (e ▸ hm)))))
  have hsh : l.map (shutM S2.hp) = l.map (shutM S.hp) := List.map_congr_left fun m hm => shutM_same fun b hb => h2 (.all b) (by simp [Ef.foot]; exact ⟨m, hm, hb⟩)
  have hR1 := args_shut hS _ _ hR
  rw [hsh] at hR1
  have hR' := all2m_map (F := en0 (fun g => X.A0 g ∨ X.base ≤ g) w) (E := ⟨fun g => X.A0 g ∨ X.base ≤ g, fun b => S2.hp b ≠ .fresh, τ, w⟩) rfl (fun _ _ h => h) _ _ c2 hR1
  refine (hc (fun g => X.A0 g ∨ X.base ≤ g) w (xs.map a.eval) (X.hG w hS.bel) (by simpa using hR')).mono ?_
  rintro e w' ⟨v, rfl, hb, hr⟩
  exact ⟨v, rfl, τ, hS.below hb (plain_av (E := en0 _ w') _ _ hp hr)⟩
/-! ### states told anew -/
/-- less is known -/
def Sub (X : Cx) (S S' : St) : Prop := ∀ a w, Sim X S a w → Sim X S' a w
theorem aw_sub {c : Code} {S' : St} (h : Sub X S S') (k : Aw P X c Q S') : Aw P X c Q S := fun a w hs => k a w (h a w hs)
def look {α : Type} (d : α) : List (Nat × α) → Nat → α
  | [], _ => d
  | p :: r, t => cond (Nat.beq t p.1) p.2 (look d r t)
/-- a state told by lists -/
def St.of (ts : List (Nat × AV)) (bs : List (Nat × Hs)) : St := ⟨look (.m (.c .any)) ts, look .fresh bs⟩
def EqT (S : St) : List (Nat × AV) → Prop
  | [] => True
  | p :: r => S.tm p.1 = p.2 ∧ EqT S r
def EqB (S : St) : List (Nat × Hs) → Prop
  | [] => True
  | p :: r => S.hp p.1 = p.2 ∧ EqB S r
def idV : AV → List Nat
  | .m m => idM m
  | .tu l => l.flatMap idM
def idK : Hs → List Nat
  | .live (.box cs) => cs.flatMap idC
  | _ => []
def memN (b : Nat) : List (Nat × Hs) → Bool
  | [] => false
  | p :: r => cond (Nat.beq b p.1) (match p.2 with | .fresh => false | _ => true) (memN b r)
theorem memN_spec : ∀ (bs : List (Nat × Hs)) (b : Nat), memN b bs = true → look .fresh bs b ≠ .fresh
  | [], b, h => by cases h
  | p :: r, b, h => by
    simp only [memN] at h
    simp only [look]
    cases e : Nat.beq b p.1 with
    | true => rw [e] at h; simp only [cond] at h ⊢; intro e'; rw [e'] at h; cases h
    | false => rw [e] at h; simp only [cond] at h ⊢; exact memN_spec r b h
theorem look_eq {bs : List (Nat × Hs)} (h : EqB S bs) : ∀ b, look .fresh bs b = .fresh ∨ look .fresh bs b = S.hp b := by
  induction bs with
  | nil => exact fun b => .inl rfl
  | cons p r ih =>
    intro b
    simp only [look]
    cases e : Nat.beq b p.1 with
    | true => exact .inr (by rw [Nat.eq_of_beq_eq_true e]; exact h.1.symm)
    | false => exact ih h.2 b
theorem look_tm {ts : List (Nat × AV)} (h : EqT S ts) : ∀ t, look (.m (.c .any)) ts t = .m (.c .any) ∨ ∃ x, (t, x) ∈ ts ∧ look (.m (.c .any)) ts t = x ∧ S.tm t = x := by
  induction ts with
  | nil => exact fun t => .inl rfl
  | cons p r ih =>
    intro t
    simp only [look]
    cases e : Nat.beq t p.1 with
    | true =>
      have e' := Nat.eq_of_beq_eq_true e
      exact .inr ⟨p.2, by rw [e']; simp, rfl, by rw [e']; exact h.1⟩
    | false =>
      rcases ih h.2 t with k | ⟨x, k1, k2, k3⟩
      · exact .inl k
      · exact .inr ⟨x, List.mem_cons_of_mem _ k1, k2, k3⟩
theorem ceR_cut {E F : En} (hU : ∀ b, F.U b → True) (hτ : F.τ = E.τ) (hw : F.w = E.w) (hA : ∀ g, E.A g → F.A g) : ∀ (c : Ce) (v : Value), (∀ b ∈ idC c, F.U b) → c.R E v → c.R F v
  | .v x, v, _, h => h
  | .s n k xs, v, _, ⟨h1, h2⟩ => ⟨by rw [hw]; exact h1, fun a l c e => hA _ (h2 a l c e)⟩
  | .q xs, v, _, ⟨g, o', h1, h2, h3, h4⟩ => ⟨g, o', h1, by rw [hw]; exact h2, hA g h3, by rw [hw]; exact h4⟩
  | .any, _, _, _ => trivial
  | .f n k xs, v, _, ⟨h1, h2, h3⟩ => ⟨by rw [hw]; exact h1, fun a l c e => hA _ (h2 a l c e), h3⟩
  | .bs b _ _, v, hb, ⟨_, g, h1, h2⟩ => ⟨hb b (by simp [idC]), g, by rw [hτ]; exact h1, h2⟩
  | .p b _, v, hb, ⟨_, g, h1, h2⟩ => ⟨hb b (by simp [idC]), g, by rw [hτ]; exact h1, h2⟩
  | .o b, v, hb, ⟨_, h1⟩ => ⟨hb b (by simp [idC]), by rw [hτ]; exact h1⟩
  | .rp b _, v, hb, ⟨_, g, l, c, h1, h2⟩ => ⟨hb b (by simp [idC]), g, l, c, by rw [hτ]; exact h1, h2⟩
theorem csR_cut {E F : En} (hτ : F.τ = E.τ) (hw : F.w = E.w) (hA : ∀ g, E.A g → F.A g) : ∀ (cs : List Ce) (vs : List Value), (∀ b ∈ cs.flatMap idC, F.U b) → All2 (Ce.R E) cs vs → All2 (Ce.R F) cs vs
  | [], [], _, _ => trivial
  | c :: cs, v :: vs, h, k => ⟨ceR_cut (fun _ _ => trivial) hτ hw hA c v (fun b hb => h b (by simp [hb])) k.1, csR_cut hτ hw hA cs vs (fun b hb => h b (by rw [List.flatMap_cons]; exact List.mem_append_right _ hb)) k.2⟩
  | [], _ :: _, _, k => k.elim
  | _ :: _, [], _, k => k.elim
theorem cmR_cut {E F : En} (hτ : F.τ = E.τ) (hw : F.w = E.w) (hA : ∀ g, E.A g → F.A g) : ∀ (c : Cm) (v : Value), (∀ b ∈ idM c, F.U b) → c.R E v → c.R F v
  | .c x, v, h, k => ceR_cut (fun _ _ => trivial) hτ hw hA x v h k
  | .ag cs, v, h, ⟨vs, e, k⟩ => ⟨vs, e, csR_cut hτ hw hA cs _ h k⟩
theorem cmsR_cut {E F : En} (hτ : F.τ = E.τ) (hw : F.w = E.w) (hA : ∀ g, E.A g → F.A g) : ∀ (cs : List Cm) (vs : List Value), (∀ b ∈ cs.flatMap idM, F.U b) → All2 (Cm.R E) cs vs → All2 (Cm.R F) cs vs
  | [], [], _, _ => trivial
  | c :: cs, v :: vs, h, k => ⟨cmR_cut hτ hw hA c v (fun b hb => h b (by rw [List.flatMap_cons]; exact List.mem_append_left _ hb)) k.1, cmsR_cut hτ hw hA cs vs (fun b hb => h b (by rw [List.flatMap_cons]; exact List.mem_append_right _ hb)) k.2⟩
  | [], _ :: _, _, k => k.elim
  | _ :: _, [], _, k => k.elim
theorem avR_cut {E F : En} (hτ : F.τ = E.τ) (hw : F.w = E.w) (hA : ∀ g, E.A g → F.A g) : ∀ (c : AV) (v : Value), (∀ b ∈ idV c, F.U b) → c.R E v → c.R F v
  | .m m, v, h, k => cmR_cut hτ hw hA m v h k
  | .tu l, v, h, ⟨vs, e, k⟩ => ⟨vs, e, cmsR_cut hτ hw hA l _ h k⟩
theorem sub_of (ts : List (Nat × AV)) (bs : List (Nat × Hs)) (h1 : EqT S ts) (h2 : EqB S bs) (h3 : (ts.all (fun p => (idV p.2).all (memN · bs)) && bs.all (fun p => (idK p.2).all (memN · bs))) = true) : Sub X S (St.of ts bs) := fun a w ⟨τ, h⟩ => by
  simp only [Bool.and_eq_true, List.all_eq_true] at h3
  obtain ⟨c1, c2⟩ := h3
  have hal : ∀ b, alive (look .fresh bs) b → alive S.hp b := fun b ⟨k, hk⟩ => by
    rcases look_eq h2 b with e | e
    · rw [e] at hk; cases hk
    · exact ⟨k, by rw [← e]; exact hk⟩
  have hA : ∀ g, alw X S.hp τ g → alw X (look .fresh bs) τ g := fun g hg => ⟨hg.1, fun b hb => hg.2 b (hal b hb)⟩
  refine ⟨τ, h.size, h.nodef, h.bel, fun t ht => ?_, fun b k hk => ?_, fun b g hb => h.own b g (hal b hb), fun b b' g hne hb hb' => h.sep b b' g hne (hal b hb) (hal b' hb'), h.one⟩
  · show AV.R _ (look (.m (.c .any)) ts t) _
    rcases look_tm h1 t with e | ⟨x, m1, m2, m3⟩
    · rw [e]; trivial
    · rw [m2]
      have := h.tm t ht
      rw [m3] at this
      exact avR_cut (E := env X S.hp τ w) (F := env X (look .fresh bs) τ w) rfl rfl hA x _ (fun b hb => memN_spec bs b (c1 (t, x) m1 b hb)) this
  · have hk : look .fresh bs b = .live k := hk
    have hin : ∃ p ∈ bs, p.2 = .live k := by
      have : ∀ (l : List (Nat × Hs)), look .fresh l b = .live k → ∃ p ∈ l, p.2 = .live k := by
        intro l
        induction l with
        | nil => intro e; cases e
        | cons p r ih =>
          intro e
          simp only [look] at e
          cases q : Nat.beq b p.1 with
          | true => rw [q] at e; exact ⟨p, by simp, e⟩
          | false => rw [q] at e; obtain ⟨p', h', e'⟩ := ih e; exact ⟨p', List.mem_cons_of_mem _ h', e'⟩
      exact this bs hk
    obtain ⟨p, hp, hpk⟩ := hin
    have hk0 : S.hp b = .live k := by
      rcases look_eq h2 b with e | e
      · rw [e] at hk; cases hk
      · rw [← e]; exact hk
    have := h.hp b k hk0
    cases k with
    | box cs =>
      obtain ⟨g, vs, e1, e2, e3⟩ := this
      refine ⟨g, vs, e1, e2, csR_cut (E := env X S.hp τ w) (F := env X (look .fresh bs) τ w) rfl rfl hA cs _ (fun i hi => ?_) e3⟩
      have := c2 p hp
      rw [hpk] at this
      exact memN_spec bs i (this i hi)
    | row e k n xs => exact this
/-- a loop whose head is told by parameters -/
theorem aw_loopH {α : Type} {c : Code} (F : α → Prop) (H : α → St) (μ : α → Nat) (p : α) (hp : F p) (h0 : Sub X S (H p)) (round : ∀ p, F p → Aw P X c (thenA (fun S' => ∃ p', F p' ∧ μ p' < μ p ∧ Sub X S' (H p')) Q) (H p)) : Aw P X (.loop c) Q S :=
  aw_sub h0 (aw_loop (fun n S => ∃ p, F p ∧ μ p = n ∧ Sub X S (H p)) (μ p) ⟨p, hp, rfl, fun _ _ h => h⟩ fun n S ⟨p, hp, hn, hs⟩ => aw_sub hs (aw_mono (round p hp) fun e S' q => by
    cases e with
    | normal => obtain ⟨p', h1, h2, h3⟩ := q; exact ⟨μ p', by omega, p', h1, rfl, h3⟩
    | _ => exact q))
/-! ### what is proved of calls otherwise -/
theorem callOk_calls {G : World → Prop} {k : FuncId} {args : List Cm} {r : AV} (hcl : (closedV r && args.all closedM) = true) (h : ∀ (A : Nat → Prop) (W : World) (vs : Array Value), G W → All2 (Cm.R (en0 A W)) args vs.toList →
    Calls P k vs W (fun e w' => ∃ v, e = .returned v ∧ Below W.heap.size W w' ∧ r.R (en0 (fun g => A g ∨ W.heap.size ≤ g) w') v)) : CallOk P G k args r := by
  simp only [Bool.and_eq_true] at hcl
  exact ⟨hcl.1, hcl.2, h⟩
end Go.Proofs.YtkffmaeiplgjeaaDoor.Ax
/- The abstract walk: contracts that were proved otherwise, taken over. -/
namespace Go.Proofs.YtkffmaeiplgjeaaDoor.Ax
open Go.RowKit Go.Proofs.YtkffmaeiplgjeaaDoor.MemL Go.Proofs.YtkffmaeiplgjeaaDoor.RegR
set_option linter.unusedVariables false
set_option linter.unusedSimpArgs false
variable {P : Program} {G : World → Prop}
def cmV : Value → Cm
  | .agg cs => .ag (cs.toList.map .v)
  | v => .c (.v v)
def avV : Value → AV
  | .tuple vs => .tu (vs.toList.map cmV)
  | v => .m (cmV v)
theorem cmV_R (E : En) : ∀ v : Value, (cmV v).R E v
  | .agg cs => ⟨cs, rfl, All2.of_map (R := Ce.R E) Ce.v (fun _ => rfl) _⟩
  | .bool _ | .int _ _ | .float _ _ | .complex _ _ _ | .string _ | .pointer _ | .slice _ _ _ | .map _ | .chan _ | .func _ _ _ | .nilFunc | .iface _ _ | .nilIface | .tuple _ => rfl
theorem avV_R (E : En) : ∀ v : Value, (avV v).R E v
  | .tuple vs => ⟨vs, rfl, All2.of_map (R := Cm.R E) cmV (cmV_R E) _⟩
  | .agg cs => cmV_R E (.agg cs)
  | .bool _ | .int _ _ | .float _ _ | .complex _ _ _ | .string _ | .pointer _ | .slice _ _ _ | .map _ | .chan _ | .func _ _ _ | .nilFunc | .iface _ _ | .nilIface => rfl
theorem vs_eq {E : En} : ∀ (cs vs : List Value), All2 (Ce.R E) (cs.map .v) vs → vs = cs
  | [], [], _ => rfl
  | c :: cs, v :: vs, h => by rw [vs_eq cs vs h.2, show v = c from h.1]
  | [], _ :: _, h => h.elim
  | _ :: _, [], h => h.elim
theorem cmV_eq {E : En} : ∀ (v u : Value), (cmV v).R E u → u = v
  | .agg cs, u, ⟨vs, e, h⟩ => by rw [e]; have := vs_eq cs.toList vs.toList h; rw [show vs = cs from by rw [← Array.toList_inj]; exact this]
  | .bool _, u, h | .int _ _, u, h | .float _ _, u, h | .complex _ _ _, u, h | .string _, u, h | .pointer _, u, h | .slice _ _ _, u, h | .map _, u, h | .chan _, u, h | .func _ _ _, u, h | .nilFunc, u, h | .iface _ _, u, h | .nilIface, u, h | .tuple _, u, h => h
theorem args_eq {E : En} : ∀ (cs vs : List Value), All2 (Cm.R E) (cs.map cmV) vs → vs = cs
  | [], [], _ => rfl
  | c :: cs, v :: vs, h => by rw [args_eq cs vs h.2, cmV_eq c v h.1]
  | [], _ :: _, h => h.elim
  | _ :: _, [], h => h.elim
theorem closed_v (cs : List Value) : (cs.map Ce.v).all closedC = true := by rw [List.all_map]; exact List.all_eq_true.2 fun _ _ => rfl
theorem closed_cmV : ∀ v : Value, closedM (cmV v) = true
  | .agg cs => closed_v _
  | .bool _ | .int _ _ | .float _ _ | .complex _ _ _ | .string _ | .pointer _ | .slice _ _ _ | .map _ | .chan _ | .func _ _ _ | .nilFunc | .iface _ _ | .nilIface | .tuple _ => rfl
theorem closed_avV : ∀ v : Value, closedV (avV v) = true
  | .tuple vs => by show (vs.toList.map cmV).all closedM = true; rw [List.all_map]; exact List.all_eq_true.2 fun _ _ => closed_cmV _
  | .agg cs => closed_cmV (.agg cs)
  | .bool _ | .int _ _ | .float _ _ | .complex _ _ _ | .string _ | .pointer _ | .slice _ _ _ | .map _ | .chan _ | .func _ _ _ | .nilFunc | .iface _ _ | .nilIface => rfl
/-- numbers in, numbers out -/
theorem ok_plain {k : FuncId} (args : Array Value) (r : Value) (h : ∀ W, G W → Calls P k args W (fun e w' => e = .returned r ∧ Below W.heap.size W w')) : CallOk P G k (args.toList.map cmV) (avV r) :=
  ⟨closed_avV r, by rw [List.all_map]; exact List.all_eq_true.2 fun _ _ => closed_cmV _, fun A W vs hG hR => by
    have : vs = args := by rw [← Array.toList_inj]; exact args_eq _ _ hR
    subst this
    exact (h W hG).mono fun e w' ⟨he, hb⟩ => ⟨r, he, hb, avV_R _ r⟩⟩
theorem plain_ag {E : En} {xs : List Value} {v : Value} (h : Cm.R E (.ag (xs.map .v)) v) : v = .agg xs.toArray := by
  obtain ⟨vs, e, h⟩ := h
  rw [e, ← vs_eq xs vs.toList h]
/-- a slice of the call's own, as a caller may read it -/
theorem own_s {W w' : World} {A : Nat → Prop} {e k n : Nat} {xs : List Value} {v : Value} (h : w'.ownsRow W.heap.size e k v n xs) : Ce.R (en0 (fun g => A g ∨ W.heap.size ≤ g) w') (.s n k xs) v :=
  ⟨Sl.of_owns h, fun a l c e => .inr (by subst e; exact (World.ownsRow.lt h a.block rfl).1)⟩
/-- a slice that was handed in, handed on -/
theorem old_s {W w' : World} {A : Nat → Prop} {k n : Nat} {xs : List Value} {v : Value} (h : Ce.R (en0 A W) (.s n k xs) v) (hb : Below W.heap.size W w') : Ce.R (en0 (fun g => A g ∨ W.heap.size ≤ g) w') (.s n k xs) v :=
  ceR_le (E := en0 A W) (F := en0 (fun g => A g ∨ W.heap.size ≤ g) w') ⟨fun _ h => h.elim, fun g _ hg => .inl hg, hb.size, fun g o hg _ => hb.cell (p := ⟨g, o, none⟩) hg⟩ _ _ h
end Go.Proofs.YtkffmaeiplgjeaaDoor.Ax
/- The abstract walk: calls that hand back a row of their own, tables of the program's text, indexes of arrays, '==' of structs. -/
namespace Go.Proofs.YtkffmaeiplgjeaaDoor.Ax
open Go.RowKit Go.Proofs.YtkffmaeiplgjeaaDoor.MemL Go.Proofs.YtkffmaeiplgjeaaDoor.RegR
set_option linter.unusedVariables false
set_option linter.unusedSimpArgs false
variable {P : Program} {ops : Array Oper} {X : Cx} {o : Oper} {S : St}
/-- a new row, nil perhaps -/
theorem SimT.newr {τ : Nat → Value} {a : Act} {w w' : World} (h : SimT X S τ a w) {b e k n : Nat} {xs : List Value} (hf : S.hp b = .fresh) (hb : Below w.heap.size w w') {v : Value} (hr : w'.ownsRow w.heap.size e k v n xs) {d : Option Tmp} {rd : List Rd} :
    SimT X (S.app d ⟨.m (.c (.o b)), [(b, .live (.row e k n xs))], rd⟩) (setτ τ b v) (a.put d v) w' := by
  have r2 : w'.ownsRow X.base e k v n xs := by
    refine ⟨hr.1, ?_⟩
    rcases hr.2 with x | ⟨g, cap, cur, e1, e2, e3⟩
    · exact .inl x
    · exact .inr ⟨g, cap, cur, e1, Nat.le_trans h.bel.size e2, e3⟩
  by_cases hnil : v.ownBlock = none
  · have hn : occ v = none := by rw [own_occ r2]; exact hnil
    have hvn : v = .slice none 0 0 ∧ n = 0 := by rcases r2.2 with e | ⟨g, cap, cur, e, _⟩; exact e; rw [e] at hnil; cases hnil
    have hne : ∀ i, S.hp i ≠ .fresh → i ≠ b := fun i hi e => hi (e ▸ hf)
    have hal : ∀ i, alive (upd [(b, Hs.live (.row e k n xs))] S.hp) i → i = b ∨ (i ≠ b ∧ alive S.hp i) := fun i ⟨k', hi⟩ => by
      rw [upd_one] at hi
      by_cases e : i = b
      · exact .inl e
      · rw [if_neg e] at hi; exact .inr ⟨e, k', hi⟩
    have hle : (env X S.hp τ w).le (env X (upd [(b, Hs.live (.row e k n xs))] S.hp) (setτ τ b v) w') := by
      refine ⟨fun i hi => ⟨?_, ?_⟩, fun g' hg' ha => ⟨ha.1, fun i hi => ?_⟩, hb.size, fun g' o' hg' _ => hb.cell (p := ⟨g', o', none⟩) hg'⟩
      · show upd _ _ i ≠ _; rw [upd_one, if_neg (hne i hi)]; exact hi
      · show setτ τ b v i = τ i; unfold setτ; rw [if_neg (hne i hi)]
      · show occ (setτ τ b v i) ≠ some g'
        unfold setτ
        rcases hal i hi with e | ⟨e, hi⟩
        · rw [if_pos e, hn]; intro e'; cases e'
        · rw [if_neg e]; exact ha.2 i hi
    refine h.turn (u := [(b, Hs.live (.row e k n xs))]) hle (h.bel.trans (hb.mono h.bel.size)) (fun i k' hi => ?_) (fun i g' hi ho => ?_) (fun i j g' hij hi hj ho => ?_) (fun i => ?_) ?_
    · rw [upd_one] at hi
      unfold setτ
      by_cases e : i = b
      · rw [if_pos e] at hi ⊢; cases hi; exact r2
      · rw [if_neg e] at hi ⊢
        have := h.hp i k' hi
        cases k' with
        | box cs =>
          obtain ⟨g', vs, e1, e2, e3⟩ := this
          exact ⟨g', vs, e1, Bx.below e2 hb, All2.mono (ceR_le hle) _ _ e3⟩
        | row e k n xs => exact bkR_below (X := X) (h := S.hp) (τ := τ) hb _ _ _ this
    · unfold setτ at ho
      rcases hal i hi with e | ⟨e, hi⟩
      · rw [if_pos e, hn] at ho; cases ho
      · rw [if_neg e] at ho; exact ⟨(h.own i g' hi ho).1, Nat.lt_of_lt_of_le (h.own i g' hi ho).2 hb.size⟩
    · unfold setτ at ho ⊢
      rcases hal i hi with e | ⟨e, hi⟩
      · rw [if_pos e, hn] at ho; cases ho
      · rw [if_neg e] at ho
        rcases hal j hj with e' | ⟨e', hj⟩
        · rw [if_pos e', hn]; intro hj'; cases hj'
        · rw [if_neg e']; exact h.sep i j g' hij hi hj ho
    · unfold setτ; split
      · rw [hvn.1]; rfl
      · exact h.one i
    · refine ⟨?_, ?_⟩
      · show upd _ _ b ≠ _; rw [upd_one, if_pos rfl]; intro e; cases e
      · show _ = setτ τ b v b; unfold setτ; rw [if_pos rfl]
  · obtain ⟨g, hg⟩ := Option.ne_none_iff_exists'.1 hnil
    have hg2 := World.ownsRow.lt hr _ hg
    refine h.newb (k := .row e k n xs) hf hb (v := v) (g := g) (occ_own hg) hg2 (by rcases r2.2 with ⟨rfl, _⟩ | ⟨_, _, _, rfl, _⟩ <;> rfl) (fun E hE hw' => by
      show E.w.ownsRow X.base e k v n xs
      rw [hw']; exact r2) ⟨?_, ?_⟩
    · show upd _ _ b ≠ _; rw [upd_one, if_pos rfl]; intro e; cases e
    · show _ = setτ τ b v b; unfold setτ; rw [if_pos rfl]
/-- a function that answers a row of its own -/
def CallOwn (P : Program) (G : World → Prop) (k : FuncId) (args : List Cm) (e sz n : Nat) (xs : List Value) : Prop := args.all closedM = true ∧ ∀ (A : Nat → Prop) (W : World) (vs : Array Value), G W → All2 (Cm.R (en0 A W)) args vs.toList →
  Calls P k vs W (fun en w' => ∃ v, en = .returned v ∧ Below W.heap.size W w' ∧ w'.ownsRow W.heap.size e sz v n xs)
theorem valid_call_own {k b e sz n : Nat} {ys : List Value} {xs : Array Operand} {ts : Array TypeId} {l : List Cm} (ho : o.op = .call { callee := .value (.func k), args := xs, argTypes := ts }) (hd : o.dst = some b) (hw : want ops S o = true) (hf : S.hp b = .fresh) (hk : callable P k = true) (hc : CallOwn P X.G k l e sz n ys) (hl : argsA S xs.toList = some l) : Valid P ops X o S ⟨.m (.c (.o b)), [(b, .live (.row e sz n ys))], []⟩ := fun S2 a w h1 h2 h3 ⟨τ, hS⟩ => by
  refine .inl ⟨want_spec hw h1 h3 hS, ?_⟩
  rw [run_call ho hk]
  obtain ⟨c2, hc⟩ := hc
  have hR := argsA_R (S := S) (E := env X S2.hp τ w) (a := a) xs.toList l hl (fun x hx => by
    have hm : x ∈ o.op.operands := by rw [ho]; simp [Op.operands, Call.operands]; exact .inr (by simpa using hx)
    rw [← ev_same h1 hm]; exact hS.ev x (fun t e => h3 t (.inl (looks_op (e ▸ hm)))))
  have hR' := all2m_map (F := en0 (alw X S2.hp τ) w) (E := env X S2.hp τ w) rfl (fun _ _ h => h) _ _ c2 hR
  refine (hc (alw X S2.hp τ) w (xs.map a.eval) (X.hG w hS.bel) (by simpa using hR')).mono ?_
  rintro en w' ⟨v, rfl, hb, hr⟩
  exact ⟨v, rfl, _, hS.newr (Eq.trans (h2 (.all b) (by simp [Ef.foot, upRd])) hf) hb hr⟩
/-- a load of a cell that the program's text lays -/
theorem valid_load_v {t g off : Nat} {x : Operand} {d : TypeDesc} {v : Value} (ho : o.op = .load t x) (hw : want ops S o = true) (hx : S.ev x = .m (.c (.v (.pointer (some ⟨g, off, none⟩))))) (hu : P.underlying t = some d) (hd : d.isRow = false) (hc : ∀ w, Below X.base X.W0 w → w.cell? ⟨g, off, none⟩ = some v) : Valid P ops X o S ⟨.m (.c (.v v)), [], []⟩ :=
  valid_val [] hw fun S2 τ a w h hrd hS => by
    have h1 := h x (by rw [ho]; simp [Op.operands])
    rw [hx] at h1
    have e : a.eval x = .pointer (some ⟨g, off, none⟩) := h1
    refine ⟨v, ?_, rfl⟩
    have hl : (loadVar t ⟨g, off, none⟩).run P w = .ok v w := by
      unfold loadVar
      rw [Sem.run_bind, run_isAgg hu w]
      simp [hd, hc w hS.bel]
    simp [execOp, ho, e, Instr.loadAt, Instr.sureAddr, hl]
theorem valid_idx_v {t el k n c g off : Nat} {x y : Operand} {kk : IntKind} {i : Int} (ho : o.op = .indexAddr t x y) (hw : want ops S o = true) (hx : S.ev x = .m (.c (.v (.slice (some ⟨g, off, none⟩) n c)))) (hy : S.ev y = .m (.c (.v (.int kk i))))
    (hu : P.underlying t = some (.slice el)) (hk : sizeA P el = some k) (h0 : 0 ≤ i) (h1 : i < n) : Valid P ops X o S ⟨.m (.c (.v (.pointer (some ⟨g, off + i.toNat * k, none⟩)))), [], []⟩ :=
  valid_val [] hw fun S2 τ a w h _ _ => by
    have q1 := h x (by rw [ho]; simp [Op.operands])
    have q2 := h y (by rw [ho]; simp [Op.operands])
    rw [hx] at q1; rw [hy] at q2
    have q1 : a.eval x = .slice (some ⟨g, off, none⟩) n c := q1
    have q2 : a.eval y = .int kk i := q2
    exact ⟨_, by simp [execOp, ho, q1, q2, run_indexAt_sl hu hk h0 h1], rfl⟩
theorem valid_index' {t len el k : Nat} {x y : Operand} {cs : List Ce} {m : Cm} {kk : IntKind} {i : Int} (ho : o.op = .index t x y) (hw : want ops S o = true) (hx : S.ev x = .m (.ag cs)) (hy : S.ev y = .m (.c (.v (.int kk i))))
    (hu : P.underlying t = some (.array len el)) (hk : sizeA P el = some k) (h0 : 0 ≤ i) (h1 : i < len) (hm : partA P el cs (i.toNat * k) = some m) : Valid P ops X o S ⟨.m m, [], []⟩ :=
  valid_val [] hw fun S2 τ a w h _ _ => by
    have q1 := h x (by rw [ho]; simp [Op.operands])
    have q2 := h y (by rw [ho]; simp [Op.operands])
    rw [hx] at q1; rw [hy] at q2
    obtain ⟨vs, e, hR⟩ := q1
    have q2 : a.eval y = .int kk i := q2
    obtain ⟨v, hv, hr⟩ := run_partA hm hR w
    refine ⟨v, ?_, hr⟩
    simp [execOp, ho, e, q2, Instr.index, asIntOf, run_underlying hu, h0, h1, sizeA_run hk, hv]
theorem valid_index (tb : Tb) {t len el : Nat} {x y : Operand} {cs : List Ce} {kk : IntKind} {i : Int} (ho : o.op = .index t x y) (hw : want ops S o = true) (hx : S.ev x = .m (.ag cs)) (hy : S.ev y = .m (.c (.v (.int kk i))))
    (hu : P.underlying t = some (.array len el)) (ht : tyOk P tb el = true) (h0 : 0 ≤ i) (h1 : i < len) (hin : inT tb el (i.toNat * tb.sz el) cs.length = true) : Valid P ops X o S ⟨.m (partT tb el cs (i.toNat * tb.sz el)), [], []⟩ :=
  valid_index' ho hw hx hy hu (by
    unfold tyOk at ht
    split at ht
    · rename_i d i hd hi
      simp only [Bool.and_eq_true] at ht
      unfold sizeA; rw [hi, Option.map_some, Nat.eq_of_beq_eq_true ht.2]
    · cases ht) h0 h1 (partT_A ht (inT_1 hin))
/-- a call of a function value -/
theorem valid_call_f {k : FuncId} {t : Tmp} {xs : Array Operand} {ts : Array TypeId} {l : List Cm} {r : AV} (ho : o.op = .call { callee := .value (.tmp t), args := xs, argTypes := ts }) (hw : want ops S o = true) (hf : S.tm t = .m (.c (.v (.func (.func k) #[] #[])))) (hk : callable P k = true) (hc : CallOk P X.G k l r) (hl : argsA S xs.toList = some l) : Valid P ops X o S ⟨r, [], []⟩ := fun S2 a w h1 h2 h3 ⟨τ, hS⟩ => by
  refine .inl ⟨want_spec hw h1 h3 hS, ?_⟩
  have hmt : Operand.tmp t ∈ o.op.operands := by rw [ho]; simp [Op.operands, Call.operands]
  have hfv : a.eval (.tmp t) = .func (.func k) #[] #[] := by
    have := hS.ev (.tmp t) (fun t' e => h3 t' (.inl (looks_op (e ▸ hmt))))
    rw [ev_same h1 hmt] at this
    rw [show S.ev (.tmp t) = S.tm t from rfl, hf] at this
    exact this
  have hrun : (execOp a.eval o).run P w = .ok (.enter k (xs.map a.eval)) w := by
    unfold callable at hk
    split at hk
    · rename_i fn hfn
      simp only [Bool.and_eq_true, Bool.not_eq_true'] at hk
      obtain ⟨k1, k2⟩ := hk
      have k2 : ¬ fn.name = "runtime.NumGoroutine" := by simpa using k2
      have k3 : ¬ fn.body = none := by intro e; rw [e] at k1; cases k1
      simp [execOp, ho, resolve, hfv, Deferred.ofValue, invoke, callFunc, hfn, k2, k3]
    · cases hk
  rw [hrun]
  obtain ⟨c1, c2, hc⟩ := hc
  have hR := argsA_R (S := S) (E := env X S2.hp τ w) (a := a) xs.toList l hl (fun x hx => by
    have hm : x ∈ o.op.operands := by rw [ho]; simp [Op.operands, Call.operands]; exact .inr (by simpa using hx)
    rw [← ev_same h1 hm]; exact hS.ev x (fun t e => h3 t (.inl (looks_op (e ▸ hm)))))
  have hR' := all2m_map (F := en0 (alw X S2.hp τ) w) (E := env X S2.hp τ w) rfl (fun _ _ h => h) _ _ c2 hR
  refine (hc (alw X S2.hp τ) w (xs.map a.eval) (X.hG w hS.bel) (by simpa using hR')).mono ?_
  rintro e w' ⟨v, rfl, hb, hr⟩
  refine ⟨v, rfl, τ, hS.below hb ?_⟩
  refine avR_map (E := en0 _ w') (F := env X S2.hp τ w') rfl (fun g _ hg => ?_) _ _ c1 hr
  rcases hg with hg | hg
  · exact hg
  · exact ⟨.inr (Nat.le_trans hS.bel.size hg), fun b hb' he => by have := (hS.own b g hb' he).2; omega⟩
theorem valid_eql {t t' : TypeId} {x y : Operand} {us vs : List Value} {r : Bool} (hE : ∀ w, (Op.equalIn 10000 t (.agg us.toArray) (.agg vs.toArray)).run P w = .ok r w) (hm : P.eqGuardType P.depth t = false) (ho : o.op = .binOp .eql t x y t') (hw : want ops S o = true) (hx : S.ev x = .m (.ag (us.map .v))) (hy : S.ev y = .m (.ag (vs.map .v))) : Valid P ops X o S ⟨.m (.c (.v (.bool r))), [], []⟩ :=
  valid_eqs ho hw hx hy (fun w => run_eqGuard_agg w _ _ _ _ _ _ hm) fun w => by rw [run_eql_struct, hE]; rfl
theorem valid_neq {t t' : TypeId} {x y : Operand} {us vs : List Value} {r : Bool} (hE : ∀ w, (Op.equalIn 10000 t (.agg us.toArray) (.agg vs.toArray)).run P w = .ok r w) (hm : P.eqGuardType P.depth t = false) (ho : o.op = .binOp .neq t x y t') (hw : want ops S o = true) (hx : S.ev x = .m (.ag (us.map .v))) (hy : S.ev y = .m (.ag (vs.map .v))) : Valid P ops X o S ⟨.m (.c (.v (.bool (!r)))), [], []⟩ :=
  valid_eqs ho hw hx hy (fun w => run_eqGuard_agg w _ _ _ _ _ _ hm) fun w => by rw [run_neq_struct, hE]; rfl
/-- append onto an own row that is empty -/
theorem valid_app_e {t el k b b' m : Nat} {x y : Operand} {ys : List Value} {c : Ce} {i : TypeInfo} {z : Value} (ho : o.op = .call { callee := .builtin .append, args := #[x, y], argTypes := #[t, t] }) (hd : o.dst = some b') (hw : want ops S o = true) (hf : S.hp b' = .fresh)
    (hx : S.ev x = .m (.c (.o b))) (hb : S.hp b = .live (.row el k 0 [])) (hy : S.ev y = .m (.c c)) (hc : shut S.hp c = .s m k ys) (ht : P.underlying t = some (.slice el)) (hi : P.info? el = some i) (hz : i.zero = some z) (hk : (Nat.beq i.size k && Nat.beq z.cells.size k && Nat.blt 0 k && Nat.ble i.bytes 4096) = true)
    (h1 : ys.all (·.oneCell') = true) (hle0 : m ≤ 30000000000) : Valid P ops X o S ⟨.m (.c (.o b')), [(b', .live (.row el k m ys)), (b, .dead)], (idC c).map .all⟩ := by
  have := valid_app (X := X) ho hd hw hf hx hb hy hc ht hi hz hk h1 (by omega)
  simpa only [Nat.zero_add, List.nil_append] using this
/-- a write into an own row -/
def putV : List Value → Nat → List Value → List Value
  | xs, _, [] => xs
  | xs, o, v :: r => putV (xs.set o v) (o + 1) r
theorem putV_length : ∀ (vs : List Value) (o : Nat) (xs : List Value), (putV xs o vs).length = xs.length
  | [], _, _ => rfl
  | v :: r, o, xs => by simp only [putV]; rw [putV_length]; simp
theorem putAt_take : ∀ (vs : List Value) (o N : Nat) (cur : Array Value), (putAt cur o vs).toList.take N = putV (cur.toList.take N) o vs
  | [], _, _, _ => rfl
  | v :: r, o, N, cur => by
    simp only [putAt, putV]
    rw [putAt_take r (o + 1) N, Array.toList_setIfInBounds, List.take_set]
theorem valid_store_rp {t : TypeId} {x y : Operand} {b off e k n sz : Nat} {xs ys : List Value} {m : Cm} (ho : o.op = .store t x y) (hw : want ops S o = true) (hx : S.ev x = .m (.c (.rp b off))) (hb : S.hp b = .live (.row e k n xs)) (hy : S.ev y = .m m) (hv : vals m.cells = some ys) (hk : sizeA P t = some sz) (hsz : Nat.beq ys.length sz = true)
    (h1 : ys.all (·.oneCell') = true) (hle : off + ys.length ≤ n * k) (hd : o.dst = none) : Valid P ops X o S ⟨.m (.c (.v undef)), [(b, .live (.row e k n (putV xs off ys)))], []⟩ := fun S2 a w h1' h2 h3 ⟨τ, hS⟩ => by
  refine .inl ⟨want_spec hw h1' h3 hS, ?_⟩
  have hsz := Nat.eq_of_beq_eq_true hsz
  have get : ∀ z ∈ o.op.operands, (S.ev z).R (env X S2.hp τ w) (a.eval z) := fun z hz => by rw [← ev_same h1' hz]; exact hS.ev z (fun t e => h3 t (.inl (looks_op (e ▸ hz))))
  have q1 := get x (by rw [ho]; simp [Op.operands])
  have q2 := get y (by rw [ho]; simp [Op.operands])
  rw [hx] at q1; rw [hy] at q2
  obtain ⟨u0, g, l, cap, e1, e2⟩ := q1
  have e1 : τ b = .slice (some ⟨g, 0, none⟩) l cap := e1
  have hb2 : S2.hp b = .live (.row e k n xs) := Eq.trans (h2 (.all b) (by simp [Ef.foot, upRd])) hb
  have hr : w.ownsRow X.base e k (τ b) n xs := hS.hp b _ hb2
  have hcs : (a.eval y).cells.toList = ys := by
    have hone : ∀ v ∈ ys, v.oneCell' = true := by simpa using h1
    cases m with
    | c c =>
      cases c with
      | v z =>
        simp [Cm.cells, vals] at hv
        subst hv
        have q2 : a.eval y = z := q2
        rw [q2]
        have := hone z (by simp)
        cases z <;> first | rfl | (simp [Value.oneCell'] at this)
      | s _ _ _ => simp [Cm.cells, vals] at hv
      | q _ => simp [Cm.cells, vals] at hv
      | p _ _ => simp [Cm.cells, vals] at hv
      | o _ => simp [Cm.cells, vals] at hv
      | rp _ _ => simp [Cm.cells, vals] at hv
      | any => simp [Cm.cells, vals] at hv
      | f _ _ _ => simp [Cm.cells, vals] at hv
      | bs _ _ _ => simp [Cm.cells, vals] at hv
    | ag cs =>
      obtain ⟨vs, e, q⟩ := q2
      rw [e]
      exact vals_R cs ys vs.toList hv q
  rcases hr with ⟨hl0, hr2⟩
  rcases hr2 with ⟨e0, _⟩ | ⟨g', cap', cur, y1, y2, y3, y4, y5, y6, y7⟩
  · rw [e1] at e0; cases e0
  rw [e1] at y1
  simp only [Value.slice.injEq, Option.some.injEq, Addr.mk.injEq, and_true, true_and] at y1
  obtain ⟨rfl, rfl, rfl⟩ := y1
  have hfit : off + ys.length ≤ cur.size := by rw [y6]; exact Nat.le_trans hle (Nat.mul_le_mul_right _ y4)
  have hcell : ∀ j, j < ys.length → (w.cell? ⟨g, off + 0 + j, none⟩).isSome = true := fun j hj => by
    have : w.cell? ⟨g, off + 0 + j, none⟩ = cur[off + 0 + j]? := Bx.cell ⟨e, y3⟩ _
    rw [this, Array.getElem?_eq_getElem (by omega)]; rfl
  have hst := run_storeCells_cells (P := P) g off ys 0 w hcell (fun j _ => Bx.free ⟨e, y3⟩ _) (by simpa using h1)
  simp only [Nat.add_zero] at hst
  have hrun : (execOp a.eval o).run P w = .ok .skip (w.setCells g off ys) := by
    have hs := sizeA_run hk w
    have hz : (a.eval y).cells.size = sz := by rw [← Array.length_toList, hcs]; exact hsz
    simp [execOp, ho, e2, Instr.storeAt, Instr.sureAddr, storeVar, hs, hz, hcs, hst]
  rw [hrun]
  have hheap := heap_setCells (w := w) (g := g) (T := e) ys off w cur y3
  have hfar : ∀ i, i ≠ g → (w.setCells g off ys).heap[i]? = w.heap[i]? := fun i hi => heap_cells_far hi _ _ _
  have hown := hS.own b g ⟨_, hb2⟩ (by rw [e1]; rfl)
  have hbel : Below X.base X.W0 (w.setCells g off ys) := below_cells hown.1 _ _ _ hS.bel
  have hszw : (w.setCells g off ys).heap.size = w.heap.size := by
    have : ∀ (l : List Value) (o : Nat) (w : World), (w.setCells g o l).heap.size = w.heap.size := by
      intro l; induction l with
      | nil => intro o w; rfl
      | cons v l ih => intro o w; simp only [World.setCells]; rw [ih]; simp [World.setCell]
    exact this _ _ _
  generalize w.setCells g off ys = w' at *
  have hal : ∀ i, alive (upd [(b, Hs.live (.row e k l (putV xs off ys)))] S2.hp) i → alive S2.hp i := fun i ⟨k', hi⟩ => by
    rw [upd_one] at hi
    by_cases e : i = b
    · subst e; exact ⟨_, hb2⟩
    · rw [if_neg e] at hi; exact ⟨k', hi⟩
  have hle' : (env X S2.hp τ w).le (env X (upd [(b, Hs.live (.row e k l (putV xs off ys)))] S2.hp) τ w') := by
    refine ⟨fun i hi => ⟨?_, rfl⟩, fun g' hg' ha => ⟨ha.1, fun i hi => ha.2 i (hal i hi)⟩, by show w.heap.size ≤ w'.heap.size; omega, fun g' o' hg' ha => ?_⟩
    · show upd _ _ i ≠ _; rw [upd_one]; split
      · intro e; cases e
      · exact hi
    · have hne : g' ≠ g := fun e => ha.2 b ⟨_, hb2⟩ (by rw [e1, e]; rfl)
      exact World.cell?_of_block (hfar g' hne)
  refine ⟨τ, hS.turn (u := [(b, Hs.live (.row e k l (putV xs off ys)))]) hle' hbel (fun i k' hi => ?_) (fun i g' hi ho' => ?_) (fun i j g' hij hi hj ho' => hS.sep i j g' hij (hal i hi) (hal j hj) ho') hS.one rfl⟩
  · rw [upd_one] at hi
    by_cases ei : i = b
    · subst ei
      rw [if_pos rfl] at hi; cases hi
      refine ⟨by rw [putV_length]; exact hl0, .inr ⟨g, cap, _, e1, hown.1, hheap, y4, y5, by rw [putAt_size]; exact y6, ?_⟩⟩
      rw [putAt_take, y7]
    · rw [if_neg ei] at hi
      have hk' := hS.hp i k' hi
      have hocc : ∀ g', occ (τ i) = some g' → g' ≠ g := fun g' hg' e' => hS.sep b i g (Ne.symm ei) ⟨_, hb2⟩ ⟨_, hi⟩ (by rw [e1]; rfl) (by rw [hg', e'])
      cases k' with
      | box cs' =>
        obtain ⟨g', vs', x1, ⟨T', x2⟩, x3⟩ := hk'
        exact ⟨g', vs', x1, ⟨T', (hfar g' (hocc g' (by rw [x1]; rfl))).trans x2⟩, All2.mono (ceR_le hle') _ _ x3⟩
      | row e' k' n' xs' =>
        obtain ⟨x0, x1⟩ := hk'
        refine ⟨x0, ?_⟩
        rcases x1 with x1 | ⟨g', cap, cur, y1, y2, y3, y4⟩
        · exact .inl x1
        · exact .inr ⟨g', cap, cur, y1, y2, (hfar g' (hocc g' (by rw [y1]; rfl))).trans y3, y4⟩
  · have := hS.own i g' (hal i hi) ho'; omega
end Go.Proofs.YtkffmaeiplgjeaaDoor.Ax
