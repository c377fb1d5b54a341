/- Texts of this claim, one behind the other: AxH, AxI, AxG, AxG2, AxG3, AxK. -/
import Derived.Test.YtkffmaeiplgjeaaGreatDoorM3
import Derived.Deep.LoopGhost
import Derived.Laws.StructEq
import Derived.Great.BuildSlice
/- The abstract walk: code, functions. -/
namespace Go.Proofs.YtkffmaeiplgjeaaGreatDoor.Ax
open Go.RowKit Go.Proofs.YtkffmaeiplgjeaaGreatDoor.MemL Go.Proofs.YtkffmaeiplgjeaaGreatDoor.RegR
set_option linter.unusedVariables false
set_option linter.unusedSimpArgs false
variable {P : Program} {X : Cx} {S : St} {Q : Exit → St → Prop}
def Aw (P : Program) (X : Cx) (c : Code) (Q : Exit → St → Prop) (S : St) : Prop := ∀ a w, Sim X S a w → c.wp P (fun e a' w' => ∃ S', Q e S' ∧ Sim X S' a' w') a w
def thenA (next : St → Prop) (Q : Exit → St → Prop) : Exit → St → Prop
  | .normal, S => next S
  | e, S => Q e S
def inBlockA (id : Nat) (Q : Exit → St → Prop) : Exit → St → Prop
  | .exit id', S => if id' = id then Q .normal S else Q (.exit id') S
  | e, S => Q e S
theorem aw_mono {c : Code} {Q' : Exit → St → Prop} (h : Aw P X c Q S) (hq : ∀ e S, Q e S → Q' e S) : Aw P X c Q' S := fun a w hs => wp_mono (h a w hs) fun e a w ⟨S', q, s⟩ => ⟨S', hq e S' q, s⟩
theorem aw_skip (h : Q .normal S) : Aw P X .skip Q S := fun a w hs => wp_skip ⟨S, h, hs⟩
theorem aw_ret (h : Q .ret S) : Aw P X .ret Q S := fun a w hs => wp_ret ⟨S, h, hs⟩
theorem aw_exit {id : Nat} (h : Q (.exit id) S) : Aw P X (.exit id) Q S := fun a w hs => wp_exit ⟨S, h, hs⟩
theorem aw_seq {x y : Code} (h : Aw P X x (thenA (Aw P X y Q) Q) S) : Aw P X (.seq x y) Q S := fun a w hs => wp_seq (wp_mono (h a w hs) fun e a' w' ⟨S', q, s⟩ => by
  cases e with
  | normal => exact q a' w' s
  | _ => exact ⟨S', q, s⟩)
theorem aw_block {id : Nat} {c : Code} (h : Aw P X c (inBlockA id Q) S) : Aw P X (.block id c) Q S := fun a w hs => wp_block (wp_mono (h a w hs) fun e a' w' ⟨S', q, s⟩ => by
  cases e with
  | exit id' =>
    unfold inBlockA at q
    unfold Exit.inBlock
    by_cases e : id' = id
    · simp only [e, if_true] at q ⊢; exact ⟨S', q, s⟩
    · simp only [e, if_false] at q ⊢; exact ⟨S', q, s⟩
  | _ => exact ⟨S', q, s⟩)
def tmpOk (N : Nat) (c : Operand) : Bool := match c with | .tmp t => decide (t < N) | _ => true
theorem tmpOk_spec {N : Nat} {c : Operand} (h : tmpOk N c = true) : ∀ t, c = .tmp t → t < N := fun t e => by subst e; simpa [tmpOk] using h
theorem aw_cond {c : Operand} {x y : Code} {b : Bool} (hN : tmpOk X.N c = true) (hc : S.ev c = .m (.c (.v (.bool b)))) (ht : b = true → Aw P X x Q S) (hf : b = false → Aw P X y Q S) : Aw P X (.cond c x y) Q S := fun a w hs => by
  have : a.eval c = .bool b := by
    obtain ⟨τ, hs⟩ := hs
    have := hs.ev c (tmpOk_spec hN)
    rw [hc] at this; exact this
  exact wp_cond_split this (fun e => ht e a w hs) (fun e => hf e a w hs)
theorem aw_cond1 {c : Operand} {x y : Code} (hN : tmpOk X.N c = true) (hc : S.ev c = .m (.c (.v (.bool true)))) (h : Aw P X x Q S) : Aw P X (.cond c x y) Q S := aw_cond hN hc (fun _ => h) (fun e => by cases e)
theorem aw_cond0 {c : Operand} {x y : Code} (hN : tmpOk X.N c = true) (hc : S.ev c = .m (.c (.v (.bool false)))) (h : Aw P X y Q S) : Aw P X (.cond c x y) Q S := aw_cond hN hc (fun e => by cases e) (fun _ => h)
theorem aw_any {id : Nat} {l : List Oper} (hm : P.follows .mixedOrders = true) (hB : chkB .any l.toArray (tabOf .any l.toArray) [] (List.range l.length) = true) (hN : tmpsOk X.N l = true)
    (hg : Go P l.toArray X (Q .normal) (ancOf (tabOf .any l.toArray)) (List.range l.length) [] S) : Aw P X (.region id l.toArray true) Q S := fun a w hs =>
  region_any hm hB hN hg (fun S' a' w' q s => ⟨S', q, s⟩) hs
theorem aw_text {id : Nat} {l : List Oper} (hN : tmpsOk X.N l = true) (hg : Go P l.toArray X (Q .normal) (fun _ _ => true) (List.range l.length) [] S) : Aw P X (.region id l.toArray false) Q S := fun a w hs =>
  region_text hN hg (fun S' a' w' q s => ⟨S', q, s⟩) hs
/-- a loop: what is true at its head bears a number, which every round lowers -/
theorem aw_loop {c : Code} (I : Nat → St → Prop) (n : Nat) (h0 : I n S) (round : ∀ n S, I n S → Aw P X c (thenA (fun S' => ∃ n', n' < n ∧ I n' S') Q) S) : Aw P X (.loop c) Q S := fun a w hs =>
  wp_loop_ghost (fun n a w => ∃ S, I n S ∧ Sim X S a w) n ⟨S, h0, hs⟩ fun n a w ⟨S, hI, hs⟩ => wp_mono (round n S hI a w hs) fun e a' w' ⟨S', q, s⟩ => by
    cases e with
    | normal => obtain ⟨n', hn, hI'⟩ := q; exact ⟨n', hn, S', hI', s⟩
    | _ => exact ⟨S', q, s⟩
/-! ### less is known -/
def AV.lt : AV → AV → Prop := fun x y => ∀ E v, x.R E v → y.R E v
theorem AV.lt_refl (x : AV) : x.lt x := fun _ _ h => h
theorem AV.lt_any (x : AV) : x.lt (.m (.c .any)) := fun _ _ _ => trivial
theorem sim_weak {S S' : St} {a : Act} {w : World} (ht : ∀ t, t < X.N → (S.tm t).lt (S'.tm t)) (hh : S'.hp = S.hp) (h : Sim X S a w) : Sim X S' a w := by
  obtain ⟨τ, h⟩ := h
  obtain ⟨tm', hp'⟩ := S'
  simp only at hh; subst hh
  exact ⟨τ, h.size, h.nodef, h.bel, fun t htN => ht t htN _ _ (h.tm t htN), h.hp, h.own, h.sep, h.one⟩
theorem aw_weak {c : Code} {S' : St} (ht : ∀ t, t < X.N → (S.tm t).lt (S'.tm t)) (hh : S'.hp = S.hp) (h : Aw P X c Q S') : Aw P X c Q S := fun a w hs => h a w (sim_weak ht hh hs)
/-! ### functions -/
def start (args : List Cm) : St := ⟨fun t => match args[t]? with | some m => .m m | none => .m (.c (.v undef)), fun _ => .fresh⟩
def resOne (P : Program) (S : St) : ResultVar → Option Cm
  | .tmp t => match S.tm t with | .m m => some m | _ => none
  | .cell p ty => match S.tm p with
    | .m (.c (.p b off)) => match S.hp b with
      | .live (.box cs) => match partA P ty cs off with
        | some (.ag l) => cond ((P.info? ty).map (·.size) == some l.length) (some (.ag l)) none
        | r => r
      | _ => none
    | _ => none
/-- an own row, read from now on -/
def shut (h : Nat → Hs) : Ce → Ce
  | .o b => match h b with
    | .live (.row e k n xs) => .s n k xs
    | _ => .o b
  | c => c
def shutM (h : Nat → Hs) : Cm → Cm
  | .c x => .c (shut h x)
  | .ag cs => .ag (cs.map (shut h))
def resL (P : Program) (S : St) : List ResultVar → Option (List Cm)
  | [] => some []
  | r :: l => match resOne P S r, resL P S l with
    | some m, some ms => some (shutM S.hp m :: ms)
    | _, _ => none
def resA (P : Program) (fn : Func) (S : St) : Option AV :=
  match resL P S fn.results.toList with
  | some [m] => some (.m m)
  | some ms => some (.tu ms)
  | none => none
def tmpsRes (N : Nat) (l : List ResultVar) : Bool := l.all fun | .tmp t => decide (t < N) | .cell p _ => decide (p < N)
theorem shut_R {τ : Nat → Value} {a : Act} {w : World} (h : SimT X S τ a w) : ∀ (c : Ce) (v : Value), c.R (env X S.hp τ w) v → (shut S.hp c).R ⟨fun g => X.A0 g ∨ X.base ≤ g, fun b => S.hp b ≠ .fresh, τ, w⟩ v := fun c v hR => by
  have wk : ∀ (c : Ce), c.R (env X S.hp τ w) v → c.R ⟨fun g => X.A0 g ∨ X.base ≤ g, fun b => S.hp b ≠ .fresh, τ, w⟩ v := fun c hR =>
    ceR_le (E := env X S.hp τ w) (F := ⟨fun g => X.A0 g ∨ X.base ≤ g, fun b => S.hp b ≠ .fresh, τ, w⟩) ⟨fun b hb => ⟨hb, rfl⟩, fun g _ hg => hg.1, Nat.le_refl _, fun _ _ _ _ => rfl⟩ _ _ hR
  unfold shut
  split
  · rename_i b
    split
    · rename_i e k n xs hb
      obtain ⟨_, hv⟩ := hR
      have hv : v = τ b := hv
      subst hv
      have hr : w.ownsRow X.base e k (τ b) n xs := h.hp b _ hb
      refine ⟨Sl.of_owns hr, fun ad l c e => ?_⟩
      have := h.own b ad.block ⟨_, hb⟩ (by rw [e]; rfl)
      exact .inr this.1
    · exact wk _ hR
  · exact wk _ hR
theorem shutM_R {τ : Nat → Value} {a : Act} {w : World} (h : SimT X S τ a w) : ∀ (c : Cm) (v : Value), c.R (env X S.hp τ w) v → (shutM S.hp c).R ⟨fun g => X.A0 g ∨ X.base ≤ g, fun b => S.hp b ≠ .fresh, τ, w⟩ v
  | .c x, v, hR => shut_R h x v hR
  | .ag cs, v, ⟨vs, e, hR⟩ => by
    refine ⟨vs, e, ?_⟩
    have : ∀ (cs : List Ce) (vs : List Value), All2 (Ce.R (env X S.hp τ w)) cs vs → All2 (Ce.R ⟨fun g => X.A0 g ∨ X.base ≤ g, fun b => S.hp b ≠ .fresh, τ, w⟩) (cs.map (shut S.hp)) vs := by
      intro cs
      induction cs with
      | nil => intro vs h; cases vs with | nil => trivial | cons _ _ => exact h.elim
      | cons c cs ih => intro vs k; cases vs with | nil => exact k.elim | cons v vs => exact ⟨shut_R h c v k.1, ih vs k.2⟩
    exact this cs _ hR
/-- a result variable, read -/
def resRun (tmps : Array Value) : ResultVar → Sem Value
  | .tmp t => pure (tmps.getD t undef)
  | .cell a t => do loadVar t (← asAddr (tmps.getD a undef))
theorem results_eq (fn : Func) (tmps : Array Value) : results fn tmps = (do let vs ← fn.results.mapM (resRun tmps); pure (if h : vs.size = 1 then vs[0] else .tuple vs)) := rfl
theorem resOne_run {τ : Nat → Value} {a : Act} {w : World} (h : SimT X S τ a w) {r : ResultVar} {m : Cm} (hN : (match r with | .tmp t => decide (t < X.N) | .cell p _ => decide (p < X.N)) = true) (hr : resOne P S r = some m) :
    ∃ v, (resRun a.tmps r).run P w = .ok v w ∧ m.R (env X S.hp τ w) v := by
  cases r with
  | tmp t =>
    have := h.tm t (by simpa using hN)
    simp only [resOne] at hr
    split at hr
    · rename_i m' hm
      cases hr
      rw [hm] at this
      exact ⟨_, rfl, this⟩
    · cases hr
  | cell p ty =>
    have := h.tm p (by simpa using hN)
    simp only [resOne] at hr
    split at hr
    · rename_i b off hp
      rw [hp] at this
      obtain ⟨_, g, e1, e2⟩ := this
      split at hr
      · rename_i cs hb
        obtain ⟨g', vs, e3, hbx, hR⟩ := h.hp b _ hb
        have e1 : τ b = .pointer (some ⟨g, 0, none⟩) := e1
        rw [e1] at e3
        obtain rfl : g = g' := by simpa using e3
        have hm : partA P ty cs off = some m ∧ ∀ l, m = .ag l → (P.info? ty).map (·.size) = some l.length := by
          split at hr
          · rename_i l hl
            cases hc : ((P.info? ty).map (·.size) == some l.length) with
            | false => simp only [hc] at hr; cases hr
            | true => simp only [hc] at hr; cases hr; exact ⟨hl, fun l' e => by cases e; simpa using hc⟩
          · rename_i r hne
            refine ⟨hr, fun l e => ?_⟩
            subst e
            exact absurd hr (hne l)
        obtain ⟨v, hv, hr'⟩ := run_loadA (E := env X S.hp τ w) w hm.1 hm.2 (fun j c _ => box_cells hbx hR j c)
        refine ⟨v, ?_, hr'⟩
        have e2' : a.tmps.getD p undef = .pointer (some ⟨g, off, none⟩) := e2
        simp only [resRun, e2', asAddr, Sem.run_bind, Sem.run_pure, Result.andThen_ok, hv]
      · cases hr
    · cases hr
theorem resL_run {τ : Nat → Value} {a : Act} {w : World} (h : SimT X S τ a w) : ∀ (l : List ResultVar) (ms : List Cm), tmpsRes X.N l = true → resL P S l = some ms →
    ∃ vs, (l.mapM (resRun a.tmps)).run P w = .ok vs w ∧ All2 (Cm.R ⟨fun g => X.A0 g ∨ X.base ≤ g, fun b => S.hp b ≠ .fresh, τ, w⟩) ms vs
  | [], ms, _, hr => by simp only [resL, Option.some.injEq] at hr; subst hr; exact ⟨[], by simp, trivial⟩
  | r :: l, ms, hN, hr => by
    simp only [tmpsRes, List.all_cons, Bool.and_eq_true] at hN
    simp only [resL] at hr
    split at hr
    · rename_i m ms' hm hms
      cases hr
      obtain ⟨v, hv, hvR⟩ := resOne_run h hN.1 hm
      obtain ⟨vs, hvs, hR⟩ := resL_run h l ms' hN.2 hms
      refine ⟨v :: vs, ?_, shutM_R h _ _ hvR, hR⟩
      rw [List.mapM_cons]
      simp only [Sem.run_bind, hv, Result.andThen_ok, hvs, Sem.run_pure]
    · cases hr
/-- a function's answer -/
def Ret (P : Program) (fn : Func) (r : AV) (e : Exit) (S : St) : Prop := match e with
  | .normal | .ret => resA P fn S = some r
  | _ => False
theorem callOk_of {G : World → Prop} {k : FuncId} {fn : Func} {c : Code} {args : List Cm} {r : AV} (N : Nat) (hf : P.funcs[k]? = some fn) (hb : fn.body = some c) (hcl : (closedV r && args.all closedM) = true) (hN : args.length + (fn.ntmps - args.length) = N) (hres : tmpsRes N fn.results.toList = true)
    (h : ∀ (W : World) (A : Nat → Prop) (hG : ∀ w, Below W.heap.size W w → G w), Aw P ⟨N, W, A, G, hG⟩ c (Ret P fn r) (start args)) (hGb : ∀ w w', G w → Below w.heap.size w w' → G w') : CallOk P G k args r := by
  simp only [Bool.and_eq_true] at hcl
  refine ⟨hcl.1, hcl.2, fun A W vs hG hR => ?_⟩
  refine calls_of_wp hf hb ?_
  have hlen := All2.length _ _ hR
  simp only [Array.length_toList] at hlen
  have hS : Sim ⟨N, W, A, G, fun w hb => hGb W w hG hb⟩ (start args) { tmps := vs ++ Array.replicate (fn.ntmps - vs.size) undef, defers := [] } W := by
    refine ⟨fun _ => .bool false, by simp [← hN, hlen], rfl, Below.refl _ _, fun t ht => ?_, (fun b k hk => by cases hk), (fun b g hk => by obtain ⟨k, hk⟩ := hk; cases hk), (fun b b' g _ hk => by obtain ⟨k, hk⟩ := hk; cases hk), fun _ => rfl⟩
    show AV.R _ (match args[t]? with | some m => .m m | none => .m (.c (.v undef))) _
    have ht : t < N := ht
    by_cases hlt : t < args.length
    · obtain ⟨v, hv, hr⟩ := All2.get _ _ t _ hR (List.getElem?_eq_getElem hlt)
      rw [List.getElem?_eq_getElem hlt]
      have e : (vs ++ Array.replicate (fn.ntmps - vs.size) undef).getD t undef = v := by
        rw [Array.getD_eq_getD_getElem?, Array.getElem?_append_left (by omega)]
        simp only [Array.getElem?_toList] at hv
        rw [hv]; rfl
      rw [e]
      exact cmR_map (E := en0 A W) (F := env ⟨N, W, A, G, fun w hb => hGb W w hG hb⟩ (start args).hp (fun _ => .bool false) W) rfl (fun g _ hg => ⟨.inl hg, (fun b hk => by obtain ⟨k, hk⟩ := hk; cases hk)⟩) _ _ (List.all_eq_true.1 hcl.2 _ (List.getElem_mem hlt)) hr
    · rw [List.getElem?_eq_none (by omega)]
      show _ = undef
      rw [Array.getD_eq_getD_getElem?, Array.getElem?_append_right (by omega)]
      rw [Array.getElem?_replicate]; split <;> rfl
  refine wp_mono (h W A (fun w hb => hGb W w hG hb) _ W hS) ?_
  intro e a' w' ⟨S', q, τ, s⟩
  have fin : resA P fn S' = some r → a'.defers = [] ∧ ∃ v, (results fn a'.tmps).run P w' = .ok v w' ∧ (∃ u, Ending.returned v = .returned u ∧ Below W.heap.size W w' ∧ r.R (en0 (fun g => A g ∨ W.heap.size ≤ g) w') u) := fun hr => by
    refine ⟨s.nodef, ?_⟩
    unfold resA at hr
    split at hr
    · rename_i m hm
      cases hr
      obtain ⟨vs', h1, h2⟩ := resL_run s _ _ hres hm
      obtain ⟨v, rfl⟩ : ∃ v, vs' = [v] := by
        cases vs' with
        | nil => exact h2.elim
        | cons v l => cases l with | nil => exact ⟨v, rfl⟩ | cons _ _ => exact h2.2.elim
      refine ⟨v, ?_, v, rfl, s.bel, (cmR_map (E := ⟨_, _, τ, w'⟩) (F := en0 (fun g => A g ∨ W.heap.size ≤ g) w') rfl (fun g _ hg => hg) _ _ hcl.1 h2.1 : Cm.R _ _ _)⟩
      rw [results_eq]
      rw [Array.mapM_eq_mapM_toList]
      simp only [Sem.run_bind, Sem.run_map, h1, Result.andThen_ok, Sem.run_pure]
      rfl
    · rename_i ms hne hm
      cases hr
      obtain ⟨vs', h1, h2⟩ := resL_run s _ _ hres hm
      have hl := All2.length _ _ h2
      have hsz : vs'.length ≠ 1 := fun e => by
        cases ms with
        | nil => simp at hl; omega
        | cons m l => cases l with
          | nil => exact hne m rfl
          | cons _ _ => simp at hl; omega
      refine ⟨.tuple vs'.toArray, ?_, _, rfl, s.bel, ⟨_, rfl, all2m_map (E := ⟨_, _, τ, w'⟩) (F := en0 (fun g => A g ∨ W.heap.size ≤ g) w') rfl (fun g _ hg => hg) _ _ hcl.1 h2⟩⟩
      rw [results_eq]
      rw [Array.mapM_eq_mapM_toList]
      simp only [Sem.run_bind, Sem.run_map, h1, Result.andThen_ok, Sem.run_pure]
      simp [hsz]
    · cases hr
  cases e with
  | normal => exact fin q
  | ret => exact fin q
  | _ => exact q.elim
theorem aw_seq_k {x y : Code} (h : ∀ K : St → Prop, (∀ S, Aw P X y Q S → K S) → Aw P X x (thenA K Q) S) : Aw P X (.seq x y) Q S := aw_seq (h _ fun _ h => h)
/-- the next operation of a region -/
def Nxt (P : Program) (ops : Array Oper) (X : Cx) (anc : Nat → Nat → Bool) (Q : St → Prop) (T : List (Nat × List Rd × List Rd)) (S : St) (i : Nat) (r : List Nat) (o : Oper) : Prop := ∃ e, Valid P ops X o S e ∧ (T.all fun p => calm p.2.1 p.2.2 (e.up.map upRd) e.rd || anc p.1 i) = true ∧ Go P ops X Q anc r ((i, e.up.map upRd, e.rd) :: T) (S.app o.dst e)
variable {ops : Array Oper} {R : St → Prop} {anc : Nat → Nat → Bool} {i : Nat} {r : List Nat} {T : List (Nat × List Rd × List Rd)} {o : Oper}
theorem go_at (ho : ops[i]? = some o) (h : Nxt P ops X anc R T S i r o) : Go P ops X R anc (i :: r) T S := ⟨o, h.choose, ho, h.choose_spec.1, h.choose_spec.2.1, h.choose_spec.2.2⟩
theorem go_do {e : Ef} (hv : Valid P ops X o S e) (hc : (T.all fun p => calm p.2.1 p.2.2 (e.up.map upRd) e.rd || anc p.1 i) = true) (h : Go P ops X R anc r ((i, e.up.map upRd, e.rd) :: T) (S.app o.dst e)) : Nxt P ops X anc R T S i r o := ⟨e, hv, hc, h⟩
theorem go_done (h : R S) : Go P ops X R anc [] T S := h
end Go.Proofs.YtkffmaeiplgjeaaGreatDoor.Ax
/- The abstract walk: numbers. -/
namespace Go.Proofs.YtkffmaeiplgjeaaGreatDoor.Ax
open Go.RowKit Go.Proofs.YtkffmaeiplgjeaaGreatDoor.MemL Go.Proofs.YtkffmaeiplgjeaaGreatDoor.RegR
set_option linter.unusedVariables false
set_option linter.unusedSimpArgs false
variable {P : Program} {ops : Array Oper} {X : Cx} {o : Oper} {S : St}
/-- a comparison, told -/
inductive CmpI : BinOp → Int → Int → Bool → Prop
  | eql (a b : Int) : CmpI .eql a b (a == b)
  | neq (a b : Int) : CmpI .neq a b (a != b)
  | lss (a b : Int) : CmpI .lss a b (decide (a < b))
  | leq (a b : Int) : CmpI .leq a b (decide (a ≤ b))
  | gtr (a b : Int) : CmpI .gtr a b (decide (a > b))
  | geq (a b : Int) : CmpI .geq a b (decide (a ≥ b))
  | eql1 {a b : Int} (h : a = b) : CmpI .eql a b true
  | eql0 {a b : Int} (h : a ≠ b) : CmpI .eql a b false
  | neq1 {a b : Int} (h : a ≠ b) : CmpI .neq a b true
  | neq0 {a b : Int} (h : a = b) : CmpI .neq a b false
  | lss1 {a b : Int} (h : a < b) : CmpI .lss a b true
  | lss0 {a b : Int} (h : b ≤ a) : CmpI .lss a b false
  | leq1 {a b : Int} (h : a ≤ b) : CmpI .leq a b true
  | leq0 {a b : Int} (h : b < a) : CmpI .leq a b false
  | gtr1 {a b : Int} (h : b < a) : CmpI .gtr a b true
  | gtr0 {a b : Int} (h : a ≤ b) : CmpI .gtr a b false
  | geq1 {a b : Int} (h : b ≤ a) : CmpI .geq a b true
  | geq0 {a b : Int} (h : a < b) : CmpI .geq a b false
theorem guard_int {op : BinOp} {t : TypeId} {x y : Operand} {k : IntKind} {a b : Int} (w : World) : (eqGuard op t x y (.int k a) (.int k b)).run P w = .ok () w := by
  unfold eqGuard; cases op <;> simp
theorem valid_cmp {op : BinOp} {t t' : TypeId} {x y : Operand} {k : IntKind} {a b : Int} {r : Bool} (ho : o.op = .binOp op t x y t') (hw : want ops S o = true) (hx : S.ev x = .m (.c (.v (.int k a)))) (hy : S.ev y = .m (.c (.v (.int k b)))) (hr : CmpI op a b r) : Valid P ops X o S ⟨.m (.c (.v (.bool r))), [], []⟩ :=
  valid_bin ho hw hx hy guard_int fun w => by
    cases hr <;> simp [binOp, Op.intCmp] <;> omega
inductive ArI : BinOp → Int → Int → Int → Prop
  | add (a b : Int) : ArI .add a b (a + b)
  | sub (a b : Int) : ArI .sub a b (a - b)
  | mul (a b : Int) : ArI .mul a b (a * b)
theorem valid_ar {op : BinOp} {t t' : TypeId} {x y : Operand} {k : IntKind} {a b n r : Int} (ho : o.op = .binOp op t x y t') (hw : want ops S o = true) (hx : S.ev x = .m (.c (.v (.int k a)))) (hy : S.ev y = .m (.c (.v (.int k b)))) (hn : ArI op a b n) (hr : k.wrap n = r) : Valid P ops X o S ⟨.m (.c (.v (.int k r))), [], []⟩ :=
  valid_bin ho hw hx hy guard_int fun w => by
    subst hr
    cases hn <;> simp [binOp, Op.intArith]
theorem wr_u64 {n : Int} (h : 0 ≤ n) (h' : n < 18446744073709551616) : IntKind.u64.wrap n = n := by rw [IntKind.wrap_u64]; omega
theorem wr_i64 {n : Int} (h : -9223372036854775808 ≤ n) (h' : n < 9223372036854775808) : IntKind.i64.wrap n = n := by rw [IntKind.wrap_i64]; omega
theorem valid_quo {t t' : TypeId} {x y : Operand} {k : IntKind} {a b : Int} (ho : o.op = .binOp .quo t x y t') (hw : want ops S o = true) (hx : S.ev x = .m (.c (.v (.int k a)))) (hy : S.ev y = .m (.c (.v (.int k b)))) (h0 : 0 ≤ a) (hb : 0 < b) (hr : k.wrap (a / b) = a / b) : Valid P ops X o S ⟨.m (.c (.v (.int k (a / b)))), [], []⟩ :=
  valid_bin ho hw hx hy guard_int fun w => by
    have : ¬ b = 0 := by omega
    simp [binOp, Op.intDiv, this, Int.tdiv_eq_ediv_of_nonneg h0, hr]
theorem valid_rem {t t' : TypeId} {x y : Operand} {k : IntKind} {a b : Int} (ho : o.op = .binOp .rem t x y t') (hw : want ops S o = true) (hx : S.ev x = .m (.c (.v (.int k a)))) (hy : S.ev y = .m (.c (.v (.int k b)))) (h0 : 0 ≤ a) (hb : 0 < b) : Valid P ops X o S ⟨.m (.c (.v (.int k (a % b)))), [], []⟩ :=
  valid_bin ho hw hx hy guard_int fun w => by
    have : ¬ b = 0 := by omega
    simp [binOp, Op.intDiv, this, Int.tmod_eq_emod_of_nonneg h0]
theorem valid_cv {s t : TypeId} {x : Operand} {k k' : IntKind} {n r : Int} (ho : o.op = .convert s t x) (hw : want ops S o = true) (hx : S.ev x = .m (.c (.v (.int k n)))) (hs : P.underlying s = some (.int k)) (ht : P.underlying t = some (.int k')) (hr : k'.wrap n = r) : Valid P ops X o S ⟨.m (.c (.v (.int k' r))), [], []⟩ :=
  valid_conv ho hw hx fun w => by
    subst hr
    simp [convert, run_underlying hs, run_underlying ht, Conv.intToInt]
theorem valid_not {t : TypeId} {x : Operand} {b : Bool} (ho : o.op = .unOp .not t x) (hw : want ops S o = true) (hx : S.ev x = .m (.c (.v (.bool b)))) : Valid P ops X o S ⟨.m (.c (.v (.bool (!b)))), [], []⟩ :=
  valid_un ho hw hx fun w => by simp [Op.unary]
theorem valid_eqb {t t' : TypeId} {x y : Operand} {a b : Bool} (ho : o.op = .binOp .eql t x y t') (hw : want ops S o = true) (hx : S.ev x = .m (.c (.v (.bool a)))) (hy : S.ev y = .m (.c (.v (.bool b)))) (hu : P.underlying t = some .bool) : Valid P ops X o S ⟨.m (.c (.v (.bool (a == b)))), [], []⟩ :=
  valid_bin ho hw hx hy (fun w => by simp [eqGuard]) fun w => by
    have := run_equalIn_bool' (P := P) w 9999 t a b hu
    simp [binOp, Op.equal, Op.maxDepth, this]
theorem valid_neb {t t' : TypeId} {x y : Operand} {a b : Bool} (ho : o.op = .binOp .neq t x y t') (hw : want ops S o = true) (hx : S.ev x = .m (.c (.v (.bool a)))) (hy : S.ev y = .m (.c (.v (.bool b)))) (hu : P.underlying t = some .bool) : Valid P ops X o S ⟨.m (.c (.v (.bool (a != b)))), [], []⟩ :=
  valid_bin ho hw hx hy (fun w => by simp [eqGuard]) fun w => by
    have := run_equalIn_bool' (P := P) w 9999 t a b hu
    simp [binOp, Op.equal, Op.maxDepth, this]; cases a <;> cases b <;> rfl
end Go.Proofs.YtkffmaeiplgjeaaGreatDoor.Ax
/- The abstract walk: own rows; states told anew; loops. -/
namespace Go.Proofs.YtkffmaeiplgjeaaGreatDoor.Ax
open Go.RowKit Go.Proofs.YtkffmaeiplgjeaaGreatDoor.MemL Go.Proofs.YtkffmaeiplgjeaaGreatDoor.RegR
set_option linter.unusedVariables false
set_option linter.unusedSimpArgs false
variable {P : Program} {ops : Array Oper} {X : Cx} {o : Oper} {S : St}
def vals : List Ce → Option (List Value)
  | [] => some []
  | .v x :: r => (vals r).map (x :: ·)
  | _ => none
theorem vals_R {E : En} : ∀ (cs : List Ce) (xs vs : List Value), vals cs = some xs → All2 (Ce.R E) cs vs → vs = xs
  | [], xs, vs, h, k => by simp only [vals, Option.some.injEq] at h; subst h; cases vs with | nil => rfl | cons _ _ => exact k.elim
  | .v x :: r, xs, vs, h, k => by
    simp only [vals] at h
    obtain ⟨l, hl, rfl⟩ := Option.map_eq_some_iff.1 h
    cases vs with
    | nil => exact k.elim
    | cons u vs => rw [vals_R r l vs hl k.2, show u = x from k.1]
  | .s _ _ _ :: _, _, _, h, _ => by cases h
  | .q _ :: _, _, _, h, _ => by cases h
  | .p _ _ :: _, _, _, h, _ => by cases h
  | .o _ :: _, _, _, h, _ => by cases h
  | .rp _ _ :: _, _, _, h, _ => by cases h
  | .any :: _, _, _, h, _ => by cases h
  | .f _ _ _ :: _, _, _, h, _ => by cases h
  | .bs _ _ _ :: _, _, _, h, _ => by cases h
/-- a new row -/
theorem valid_newrow {b e k n : Nat} {xs : List Value} (hw : want ops S o = true) (hf : S.hp b = .fresh)
    (hrun : ∀ (S2 : St) (τ : Nat → Value) (a : Act) (w : World), (∀ x ∈ o.op.operands, (S.ev x).R (env X S2.hp τ w) (a.eval x)) → (∀ i, (τ i).oneCell' = true) → ∃ (vs : Array Value) (cap : Nat), (execOp a.eval o).run P w = .ok (.value (.slice (some ⟨w.heap.size, 0, none⟩) n cap)) (w.alloc (.cells vs e)) ∧
      ∀ base, base ≤ w.heap.size → (w.alloc (.cells vs e)).ownsRow base e k (.slice (some ⟨w.heap.size, 0, none⟩) n cap) n xs) :
    Valid P ops X o S ⟨.m (.c (.o b)), [(b, .live (.row e k n xs))], []⟩ := fun S2 a w h1 h2 h3 ⟨τ, hS⟩ => by
  refine .inl ⟨want_spec hw h1 h3 hS, ?_⟩
  obtain ⟨vs, cap, hr, hR⟩ := hrun S2 τ a w (fun x hx => by rw [← ev_same h1 hx]; exact hS.ev x (fun t e => h3 t (.inl (looks_op (e ▸ hx))))) hS.one
  rw [hr]
  have hf2 : S2.hp b = .fresh := Eq.trans (h2 (.all b) (by simp [Ef.foot, upRd])) hf
  refine ⟨_, hS.newb (k := .row e k n xs) hf2 ((Below.refl _ _).alloc (Nat.le_refl _) _) (v := .slice (some ⟨w.heap.size, 0, none⟩) n cap) (g := w.heap.size) rfl ⟨Nat.le_refl _, by rw [World.size_alloc]; omega⟩ rfl (fun E hE hw' => by
    have := hR X.base hS.bel.size
    show E.w.ownsRow X.base e k _ n xs
    rw [hw']; exact this) ?_⟩
  refine ⟨?_, ?_⟩
  · show upd _ _ b ≠ _; rw [upd_one, if_pos rfl]; intro e; cases e
  · show _ = setτ τ b _ b; unfold setτ; rw [if_pos rfl]
def zerosA (P : Program) (el len k : Nat) : Option (List Ce) := ((P.info? el).bind (·.zero)).map fun z => ((List.range (len * k)).map (fun i => z.cells[i % z.cells.size]!)).map .v
theorem valid_bslice {t el len k b : Nat} {parts : Array (Nat × Operand)} {l : List (Nat × Cm)} {z cs : List Ce} {xs : List Value} (ho : o.op = .buildSlice t len parts) (hd : o.dst = some b) (hw : want ops S o = true) (hf : S.hp b = .fresh) (hl : partsA S parts.toList = some l)
    (hu : P.underlying t = some (.slice el)) (hk : sizeA P el = some k) (hz : zerosA P el len k = some z) (hc : fillA (fun i => some (i * k, k)) z l = some cs) (hx : vals cs = some xs) (hsm : (Nat.ble (len * k) 16777216 && Nat.ble 1 (len * k)) = true) :
    Valid P ops X o S ⟨.m (.c (.o b)), [(b, .live (.row el k len xs))], []⟩ :=
  valid_newrow hw hf fun S2 τ a w h hone => by
    have hR := partsA_R (S := S) (E := env X S2.hp τ w) (a := a) parts.toList l hl (fun p hp => h p.2 (by rw [ho]; simp [Op.operands]; exact ⟨p.1, by simpa using hp⟩))
    unfold zerosA at hz
    obtain ⟨zv, hzv, rfl⟩ := Option.map_eq_some_iff.1 hz
    obtain ⟨ie, hie, hz0⟩ := Option.bind_eq_some_iff.1 hzv
    have hk' : ie.size = k := by unfold sizeA at hk; rw [hie] at hk; simpa using hk
    subst hk'
    simp only [Bool.and_eq_true] at hsm
    have s1 := Nat.le_of_ble_eq_true hsm.1
    have s2 := Nat.le_of_ble_eq_true hsm.2
    have hzR : All2 (Ce.R (env X S2.hp τ w)) (((List.range (len * ie.size)).map (fun i => zv.cells[i % zv.cells.size]!)).map .v) ((Array.range (len * ie.size)).map (zv.cells[· % zv.cells.size]!)).toList := by
      have : ((Array.range (len * ie.size)).map (zv.cells[· % zv.cells.size]!)).toList = (List.range (len * ie.size)).map (fun i => zv.cells[i % zv.cells.size]!) := by simp
      rw [this]
      exact All2.of_map (R := Ce.R _) Ce.v (fun _ => rfl) _
    obtain ⟨cur, hf', hcR⟩ := fill_of (E := env X S2.hp τ w) hone _ l _ _ cs _ hR hzR hc
    have hxs := vals_R cs xs _ hx hcR
    have hlen : cur.size = len * ie.size := by
      have h1 := All2.length _ _ hcR
      have : ∀ (ps : List (Nat × Cm)) (pl : Nat → Option (Nat × Nat)) (cs cs' : List Ce), fillA pl cs ps = some cs' → cs'.length = cs.length := by
        intro ps pl
        induction ps with
        | nil => intro cs cs' h; simp only [fillA, Option.some.injEq] at h; rw [h]
        | cons p ps ih =>
          intro cs cs' h
          obtain ⟨i, m⟩ := p
          simp only [fillA] at h
          split at h
          · cases h
          · rename_i off size _
            cases hq : (Nat.beq m.cells.length size && Nat.ble (off + m.cells.length) cs.length && m.cells.all okC) with
            | false => rw [hq] at h; cases h
            | true => rw [hq] at h; rw [ih _ _ h, putA_length]
      have h2 := this _ _ _ _ hc
      simp at h1 h2; omega
    have hrun := run_buildSlice w t el len (parts.map fun p => (p.1, a.eval p.2)) cur ie zv hu hie hz0 (by omega) (by omega) (by simpa using hf')
    refine ⟨cur, len, by simp only [execOp, ho, hrun, Sem.run_bind, Result.andThen_ok, Sem.run_pure], fun base hb => ?_⟩
    rw [← hxs]
    have hi : 1 ≤ ie.size := by
      rcases Nat.eq_zero_or_pos ie.size with h | h
      · rw [h, Nat.mul_zero] at s2; omega
      · exact h
    have : len ≤ len * ie.size := Nat.le_mul_of_pos_right _ hi
    exact World.ownsRow_lit w cur len hb (by unfold maxLen; omega) hlen
theorem valid_bslice0 {t el k b : Nat} {parts : Array (Nat × Operand)} (ho : o.op = .buildSlice t 0 parts) (hp : parts = #[]) (hd : o.dst = some b) (hw : want ops S o = true) (hf : S.hp b = .fresh) (hu : P.underlying t = some (.slice el)) (hk : sizeA P el = some k) :
    Valid P ops X o S ⟨.m (.c (.o b)), [(b, .live (.row el k 0 []))], []⟩ :=
  valid_newrow hw hf fun S2 τ a w h hone => by
    subst hp
    refine ⟨#[], 0, ?_, fun base hb => World.ownsRow_lit w #[] 0 hb (by unfold maxLen; omega) (by simp)⟩
    simp [execOp, ho, Instr.buildSlice, run_underlying hu, sizeA_run hk, Instr.fill, newRow, Array.range_zero']
theorem valid_make {t el k b n : Nat} {x y : Operand} {kl kc : IntKind} {i : TypeInfo} {z : Value} {xs : List Value} (ho : o.op = .makeSlice t x y) (hd : o.dst = some b) (hw : want ops S o = true) (hf : S.hp b = .fresh) (hx : S.ev x = .m (.c (.v (.int kl n)))) (hy : S.ev y = .m (.c (.v (.int kc n))))
    (hu : P.underlying t = some (.slice el)) (hi : P.info? el = some i) (hz : i.zero = some z) (hk : i.size = k) (hbytes : (i.bytes : Int) * n ≤ 281474976710656) (h63 : n ≤ maxLen) (hxs : (madeCells z.cells (n * k)).toList = xs) :
    Valid P ops X o S ⟨.m (.c (.o b)), [(b, .live (.row el k n xs))], []⟩ :=
  valid_newrow hw hf fun S2 τ a w h hone => by
    have q1 := h x (by rw [ho]; simp [Op.operands])
    have q2 := h y (by rw [ho]; simp [Op.operands])
    rw [hx] at q1; rw [hy] at q2
    have q1 : a.eval x = .int kl n := q1
    have q2 : a.eval y = .int kc n := q2
    have h63' : (n : Int) ≤ 9223372036854775807 := by unfold maxLen at h63; omega
    have hr := run_make (P := P) w t el i z hu hi hz kl kc n n (by omega) (Int.le_refl _) hbytes h63'
    subst hk; subst hxs
    simp only [Int.toNat_natCast] at hr
    refine ⟨madeCells z.cells (n * i.size), n, by simp only [execOp, ho, q1, q2, hr, Sem.run_bind, Result.andThen_ok, Sem.run_pure], fun base hb => World.ownsRow_lit w _ n hb h63 (by rw [size_madeCells])⟩
/-! ### append -/
theorem occ_own {v : Value} {g : Nat} (h : v.ownBlock = some g) : occ v = some g := by cases v <;> simp [Value.ownBlock] at h; rename_i ad l c; cases ad <;> simp at h; simp [occ, h]
theorem own_occ {w : World} {base e k n : Nat} {xs : List Value} {v : Value} (h : w.ownsRow base e k v n xs) : occ v = v.ownBlock := by
  rcases h.2 with ⟨rfl, _⟩ | ⟨g, cap, cur, rfl, _⟩ <;> rfl
theorem SimT.app {τ : Nat → Value} {a : Act} {w w' : World} (h : SimT X S τ a w) {b b' e k n n' : Nat} {xs xs' : List Value} (hb : S.hp b = .live (.row e k n xs)) (hf : S.hp b' = .fresh) {v : Value} (hg : w.grownBy w' (τ b).ownBlock)
    (hv : w'.ownsRow X.base e k v n' xs') (hat : v.ownBlock = (τ b).ownBlock ∨ v.ownBlock = some w.heap.size) {d : Option Tmp} {rd : List Rd} :
    SimT X (S.app d ⟨.m (.c (.o b')), [(b', .live (.row e k n' xs')), (b, .dead)], rd⟩) (setτ τ b' v) (a.put d v) w' := by
  have hne : ∀ i, S.hp i ≠ .fresh → i ≠ b' := fun i hi e => hi (e ▸ hf)
  have hbb : b ≠ b' := hne b (by rw [hb]; intro e; cases e)
  have hup : ∀ i, upd [(b', Hs.live (.row e k n' xs')), (b, .dead)] S.hp i = if i = b' then .live (.row e k n' xs') else if i = b then .dead else S.hp i := fun i => by
    simp only [upd]
    by_cases e1 : i = b'
    · subst e1; simp [Nat.beq_refl, put1]
    · simp only [beq_false e1, cond, if_neg e1]
      by_cases e2 : i = b
      · subst e2; simp [Nat.beq_refl, put1]
      · simp [beq_false e2, e2]
  have hal : ∀ i, alive (upd [(b', Hs.live (.row e k n' xs')), (b, .dead)] S.hp) i → i = b' ∨ (i ≠ b' ∧ i ≠ b ∧ alive S.hp i) := fun i ⟨k', hi⟩ => by
    rw [hup] at hi
    by_cases e1 : i = b'
    · exact .inl e1
    · rw [if_neg e1] at hi
      by_cases e2 : i = b
      · rw [if_pos e2] at hi; cases hi
      · rw [if_neg e2] at hi; exact .inr ⟨e1, e2, k', hi⟩
  have hrow : w.ownsRow X.base e k (τ b) n xs := h.hp b _ hb
  have hov := own_occ hv
  have hob := own_occ hrow
  have hsome : ∀ g, occ v = some g → occ (τ b) = some g ∨ g = w.heap.size := fun g hg' => by
    rw [hov] at hg'
    rcases hat with e | e
    · rw [e] at hg'; exact .inl (by rw [hob]; exact hg')
    · rw [e] at hg'; exact .inr (Option.some.inj hg').symm
  have hle : (env X S.hp τ w).le (env X (upd [(b', Hs.live (.row e k n' xs')), (b, .dead)] S.hp) (setτ τ b' v) w') := by
    refine ⟨fun i hi => ⟨?_, ?_⟩, fun g' hg' ha => ⟨ha.1, fun i hi => ?_⟩, hg.size, fun g' o' hg' ha => ?_⟩
    · show upd _ _ i ≠ _
      rw [hup, if_neg (hne i hi)]
      split
      · intro e; cases e
      · exact hi
    · show setτ τ b' v i = τ i; unfold setτ; rw [if_neg (hne i hi)]
    · show occ (setτ τ b' v i) ≠ some g'
      have hg'' : g' < w.heap.size := hg'
      unfold setτ
      rcases hal i hi with e | ⟨e, _, hi⟩
      · rw [if_pos e]; intro e'
        rcases hsome g' e' with e2 | e2
        · exact ha.2 b ⟨_, hb⟩ e2
        · omega
      · rw [if_neg e]; exact ha.2 i hi
    · refine World.cell?_of_block (hg.block g' hg' fun e => ha.2 b ⟨_, hb⟩ ?_)
      show occ (τ b) = some g'
      rw [hob]; exact e.symm
  have hlt := World.ownsRow.lt hv
  have hbel : Below X.base X.W0 w' := h.bel.grown hg h.bel.size (fun g hg' => (World.ownsRow.lt hrow g hg').1)
  refine h.turn (u := [(b', Hs.live (.row e k n' xs')), (b, .dead)]) hle hbel (fun i k' hi => ?_) (fun i g' hi ho => ?_) (fun i j g' hij hi hj ho => ?_) (fun i => ?_) ?_
  · rw [hup] at hi
    unfold setτ
    by_cases e1 : i = b'
    · rw [if_pos e1] at hi ⊢; cases hi; exact hv
    · rw [if_neg e1] at hi ⊢
      by_cases e2 : i = b
      · rw [if_pos e2] at hi; cases hi
      · rw [if_neg e2] at hi
        have hk' := h.hp i k' hi
        have hfar : ∀ g', occ (τ i) = some g' → w'.heap[g']? = w.heap[g']? := fun g' hg' =>
          hg.block g' (h.own i g' ⟨_, hi⟩ hg').2 fun e => h.sep i b g' e2 ⟨_, hi⟩ ⟨_, hb⟩ hg' (by rw [hob]; exact e.symm)
        cases k' with
        | box cs' =>
          obtain ⟨g', vs', x1, ⟨T', x2⟩, x3⟩ := hk'
          exact ⟨g', vs', x1, ⟨T', (hfar g' (by rw [x1]; rfl)).trans x2⟩, All2.mono (ceR_le hle) _ _ x3⟩
        | row e' k' n' xs' =>
          obtain ⟨x0, x1⟩ := hk'
          refine ⟨x0, ?_⟩
          rcases x1 with x1 | ⟨g', cap, cur, y1, y2, y3, y4⟩
          · exact .inl x1
          · exact .inr ⟨g', cap, cur, y1, y2, (hfar g' (by rw [y1]; rfl)).trans y3, y4⟩
  · unfold setτ at ho
    rcases hal i hi with e | ⟨e, _, hi⟩
    · rw [if_pos e, hov] at ho; exact hlt g' ho
    · rw [if_neg e] at ho; exact ⟨(h.own i g' hi ho).1, Nat.lt_of_lt_of_le (h.own i g' hi ho).2 hg.size⟩
  · unfold setτ at ho ⊢
    rcases hal i hi with e | ⟨e, e2, hi⟩
    · rw [if_pos e] at ho
      rcases hal j hj with e' | ⟨e', e3, hj⟩
      · exact absurd (e.trans e'.symm) hij
      · rw [if_neg e']; intro hj'
        rcases hsome g' ho with x | x
        · exact h.sep j b g' e3 hj ⟨_, hb⟩ hj' x
        · have := (h.own j g' hj hj').2; omega
    · rw [if_neg e] at ho
      rcases hal j hj with e' | ⟨e', e3, hj⟩
      · rw [if_pos e']; intro hj'
        rcases hsome g' hj' with x | x
        · exact h.sep i b g' e2 hi ⟨_, hb⟩ ho x
        · have := (h.own i g' hi ho).2; omega
      · rw [if_neg e']; exact h.sep i j g' hij hi hj ho
  · unfold setτ; split
    · rcases hv.2 with ⟨rfl, _⟩ | ⟨g, cap, cur, rfl, _⟩ <;> rfl
    · exact h.one i
  · refine ⟨?_, ?_⟩
    · show upd _ _ b' ≠ _; rw [hup, if_pos rfl]; intro e; cases e
    · show _ = setτ τ b' v b'; unfold setτ; rw [if_pos rfl]
end Go.Proofs.YtkffmaeiplgjeaaGreatDoor.Ax
/- The abstract walk: append, writes into rows, calls over rows, states told anew, loops. -/
namespace Go.Proofs.YtkffmaeiplgjeaaGreatDoor.Ax
open Go.RowKit Go.Proofs.YtkffmaeiplgjeaaGreatDoor.MemL Go.Proofs.YtkffmaeiplgjeaaGreatDoor.RegR
set_option linter.unusedVariables false
set_option linter.unusedSimpArgs false
variable {P : Program} {ops : Array Oper} {X : Cx} {o : Oper} {S : St}
/-- a slice that reads as cells: given as such, or an own row -/
def readA (h : Nat → Hs) (c : Ce) : Option (Nat × Nat × List Value) :=
  match shut h c with
  | .s n k xs => some (n, k, xs)
  | .v (.slice none 0 0) => some (0, 0, [])
  | _ => none
def idC : Ce → List Nat
  | .p b _ | .o b | .rp b _ | .bs b _ _ => [b]
  | _ => []
def idM : Cm → List Nat
  | .c x => idC x
  | .ag cs => cs.flatMap idC
theorem shut_same {h h' : Nat → Hs} {c : Ce} (e : ∀ b ∈ idC c, h b = h' b) : shut h c = shut h' c := by
  cases c <;> simp only [shut]
  case o b => rw [e b (by simp [idC])]
theorem shutM_same {h h' : Nat → Hs} {m : Cm} (e : ∀ b ∈ idM m, h b = h' b) : shutM h m = shutM h' m := by
  cases m with
  | c x => exact congrArg Cm.c (shut_same e)
  | ag cs =>
    refine congrArg Cm.ag (List.map_congr_left fun c hc => shut_same fun b hb => e b ?_)
    exact List.mem_flatMap.2 ⟨c, hc, hb⟩
theorem run_append_any {w : World} {base t ty el : Nat} {i : TypeInfo} {z : Value} {k : Nat} (ht : P.underlying t = some (.slice el)) (hi : P.info? el = some i) (hz : i.zero = some z) (hk : i.size = k) (hzs : z.cells.size = k) (hk0 : 0 < k)
    {v : Value} {n : Nat} {xs : List Value} (hown : w.ownsRow base el k v n xs) {u : Value} {m : Nat} {ys : List Value} (hu : Sl w u m k ys) (h1 : ∀ y ∈ ys, y.oneCell' = true) (h63 : n + m ≤ maxLen) (hbytes : (n + m) * i.bytes ≤ 140737488355328) (hbase : base ≤ w.heap.size) :
    ∃ v' w', (Builtin.append_ #[t, t] ty #[v, u]).run P w = .ok v' w' ∧ w'.ownsRow base el k v' (n + m) (xs ++ ys) ∧ w.grownBy w' v.ownBlock ∧ (v'.ownBlock = v.ownBlock ∨ v'.ownBlock = some w.heap.size) := by
  obtain ⟨hl, hs⟩ := hu
  rcases hs with ⟨rfl, rfl⟩ | ⟨b, off, cap, rfl, hb, h2, h3, h4⟩
  · have : ys = [] := List.eq_nil_of_length_eq_zero (by simpa using hl)
    subst this
    refine ⟨v, w, run_append_owned_none w base t ty el i k ht hi v n xs hown, by simpa using hown, ⟨rfl, rfl, rfl, Nat.le_refl _, fun _ _ _ => rfl⟩, .inl rfl⟩
  · obtain ⟨v', w', r1, r2, r3, _, r5⟩ := run_append_own_at (P := P) w base t ty el i z k i.bytes ht hi hz hk rfl hzs hk0 v n xs hown ⟨b, off, none⟩ m cap ys hl (fun j y hy => by
      have hj : j < m * k := by rw [← hl]; exact (List.getElem?_eq_some_iff.1 hy).1
      rw [Addr.add_mid, h4 j hj]; exact hy) h1 h63 hbytes hbase
    exact ⟨v', w', r1, r2, r3, r5⟩
/-- append onto an own row -/
theorem valid_app {t el k b b' n m : Nat} {x y : Operand} {xs ys : List Value} {c : Ce} {i : TypeInfo} {z : Value} (ho : o.op = .call { callee := .builtin .append, args := #[x, y], argTypes := #[t, t] }) (hd : o.dst = some b') (hw : want ops S o = true) (hf : S.hp b' = .fresh)
    (hx : S.ev x = .m (.c (.o b))) (hb : S.hp b = .live (.row el k n xs)) (hy : S.ev y = .m (.c c)) (hc : shut S.hp c = .s m k ys) (ht : P.underlying t = some (.slice el)) (hi : P.info? el = some i) (hz : i.zero = some z) (hk : (Nat.beq i.size k && Nat.beq z.cells.size k && Nat.blt 0 k && Nat.ble i.bytes 4096) = true)
    (h1 : ys.all (·.oneCell') = true) (hle0 : n + m ≤ 30000000000) : Valid P ops X o S ⟨.m (.c (.o b')), [(b', .live (.row el k (n + m) (xs ++ ys))), (b, .dead)], (idC c).map .all⟩ := fun S2 a w h1' h2 h3 ⟨τ, hS⟩ => by
  refine .inl ⟨want_spec hw h1' h3 hS, ?_⟩
  simp only [Bool.and_eq_true] at hk
  obtain ⟨⟨⟨k1, k2⟩, k3⟩, k4⟩ := hk
  have k4 := Nat.le_of_ble_eq_true k4
  have k1 := Nat.eq_of_beq_eq_true k1
  have k2 := Nat.eq_of_beq_eq_true k2
  have k3 : 0 < k := Nat.le_of_ble_eq_true k3
  have get : ∀ z ∈ o.op.operands, (S.ev z).R (env X S2.hp τ w) (a.eval z) := fun z hz => by rw [← ev_same h1' hz]; exact hS.ev z (fun t e => h3 t (.inl (looks_op (e ▸ hz))))
  have q1 := get x (by rw [ho]; simp [Op.operands, Call.operands])
  have q2 := get y (by rw [ho]; simp [Op.operands, Call.operands])
  rw [hx] at q1; rw [hy] at q2
  obtain ⟨_, q1⟩ := q1
  have q1 : a.eval x = τ b := q1
  have q2 := shut_R hS c (a.eval y) q2
  rw [show shut S2.hp c = shut S.hp c from shut_same (fun b hb => h2 (.all b) (by simp [Ef.foot, hb])), hc] at q2
  have q2 : Sl w (a.eval y) m k ys := q2.1
  have hb2 : S2.hp b = .live (.row el k n xs) := Eq.trans (h2 (.all b) (by simp [Ef.foot, upRd])) hb
  have hf2 : S2.hp b' = .fresh := Eq.trans (h2 (.all b') (by simp [Ef.foot, upRd])) hf
  have hr : w.ownsRow X.base el k (τ b) n xs := hS.hp b _ hb2
  have hle : (n + m) * (i.bytes + 1) ≤ 140737488355328 := Nat.le_trans (Nat.mul_le_mul hle0 (show i.bytes + 1 ≤ 4097 by omega)) (by decide)
  have e1 : (n + m) * i.bytes ≤ (n + m) * (i.bytes + 1) := Nat.mul_le_mul_left _ (by omega)
  have e2 : n + m ≤ (n + m) * (i.bytes + 1) := Nat.le_mul_of_pos_right _ (by omega)
  obtain ⟨v', w', r1, r2, r3, r4⟩ := run_append_any (P := P) (ty := o.type) ht hi hz k1 k2 k3 hr q2 (by simpa using h1) (by unfold maxLen; omega) (by omega) hS.bel.size
  have hrun : (execOp a.eval o).run P w = .ok (.value v') w' := by simp [execOp, ho, resolve, invoke, builtin, q1, r1]
  rw [hrun]
  exact ⟨_, hS.app hb2 hf2 r3 r2 r4⟩
/-- append onto nil -/
theorem valid_app0 {t el k b' m : Nat} {x y : Operand} {ys : List Value} {c : Ce} {i : TypeInfo} {z : Value} (ho : o.op = .call { callee := .builtin .append, args := #[x, y], argTypes := #[t, t] }) (hd : o.dst = some b') (hw : want ops S o = true) (hf : S.hp b' = .fresh)
    (hx : S.ev x = .m (.c (.v (.slice none 0 0)))) (hy : S.ev y = .m (.c c)) (hc : shut S.hp c = .s m k ys) (ht : P.underlying t = some (.slice el)) (hi : P.info? el = some i) (hz : i.zero = some z) (hk : (Nat.beq i.size k && Nat.beq z.cells.size k && Nat.blt 0 k && Nat.ble i.bytes 4096) = true)
    (h1 : ys.all (·.oneCell') = true) (hle0 : m ≤ 30000000000) : Valid P ops X o S ⟨.m (.c (.o b')), [(b', .live (.row el k m ys))], (idC c).map .all⟩ := fun S2 a w h1' h2 h3 ⟨τ, hS⟩ => by
  refine .inl ⟨want_spec hw h1' h3 hS, ?_⟩
  simp only [Bool.and_eq_true] at hk
  obtain ⟨⟨⟨k1, k2⟩, k3⟩, k4⟩ := hk
  have k4 := Nat.le_of_ble_eq_true k4
  have k1 := Nat.eq_of_beq_eq_true k1
  have k2 := Nat.eq_of_beq_eq_true k2
  have k3 : 0 < k := Nat.le_of_ble_eq_true k3
  have get : ∀ z ∈ o.op.operands, (S.ev z).R (env X S2.hp τ w) (a.eval z) := fun z hz => by rw [← ev_same h1' hz]; exact hS.ev z (fun t e => h3 t (.inl (looks_op (e ▸ hz))))
  have q1 := get x (by rw [ho]; simp [Op.operands, Call.operands])
  have q2 := get y (by rw [ho]; simp [Op.operands, Call.operands])
  rw [hx] at q1; rw [hy] at q2
  have q1 : a.eval x = .slice none 0 0 := q1
  have q2 := shut_R hS c (a.eval y) q2
  rw [show shut S2.hp c = shut S.hp c from shut_same (fun b hb => h2 (.all b) (by simp [Ef.foot, hb])), hc] at q2
  have q2 : Sl w (a.eval y) m k ys := q2.1
  have hf2 : S2.hp b' = .fresh := Eq.trans (h2 (.all b') (by simp [Ef.foot, upRd])) hf
  have hle : m * (i.bytes + 1) ≤ 140737488355328 := Nat.le_trans (Nat.mul_le_mul hle0 (show i.bytes + 1 ≤ 4097 by omega)) (by decide)
  have e1 : m * i.bytes ≤ m * (i.bytes + 1) := Nat.mul_le_mul_left _ (by omega)
  have e2 : m ≤ m * (i.bytes + 1) := Nat.le_mul_of_pos_right _ (by omega)
  obtain ⟨v', w', r1, r2, r3, r4⟩ := run_append_any (P := P) (ty := o.type) ht hi hz k1 k2 k3 (World.ownsRow_nil w X.base el k) q2 (by simpa using h1) (by unfold maxLen; omega) (by rw [Nat.zero_add]; omega) hS.bel.size
  have hrun : (execOp a.eval o).run P w = .ok (.value v') w' := by simp [execOp, ho, resolve, invoke, builtin, q1, r1]
  rw [hrun]
  simp only [Nat.zero_add, List.nil_append] at r2
  have hb : Below w.heap.size w w' := (Below.refl _ _).grown r3 (Nat.le_refl _) (fun k hk => by simp [Value.ownBlock] at hk)
  by_cases hnil : v'.ownBlock = none
  · have hn : occ v' = none := by rw [own_occ r2]; exact hnil
    -- nothing was there: nil again
    have hvn : v' = .slice none 0 0 ∧ m = 0 := by rcases r2.2 with e | ⟨g, cap, cur, e, _⟩; exact e; rw [e] at hnil; cases hnil
    refine ⟨setτ τ b' v', ?_⟩
    have hne : ∀ i, S2.hp i ≠ .fresh → i ≠ b' := fun i hi e => hi (e ▸ hf2)
    have hal : ∀ i, alive (upd [(b', Hs.live (.row el k m ys))] S2.hp) i → i = b' ∨ (i ≠ b' ∧ alive S2.hp i) := fun i ⟨k', hi⟩ => by
      rw [upd_one] at hi
      by_cases e : i = b'
      · exact .inl e
      · rw [if_neg e] at hi; exact .inr ⟨e, k', hi⟩
    have hle : (env X S2.hp τ w).le (env X (upd [(b', Hs.live (.row el k m ys))] S2.hp) (setτ τ b' v') w') := by
      refine ⟨fun i hi => ⟨?_, ?_⟩, fun g' hg' ha => ⟨ha.1, fun i hi => ?_⟩, hb.size, fun g' o' hg' _ => hb.cell (p := ⟨g', o', none⟩) hg'⟩
      · show upd _ _ i ≠ _; rw [upd_one, if_neg (hne i hi)]; exact hi
      · show setτ τ b' v' i = τ i; unfold setτ; rw [if_neg (hne i hi)]
      · show occ (setτ τ b' v' i) ≠ some g'
        unfold setτ
        rcases hal i hi with e | ⟨e, hi⟩
        · rw [if_pos e, hn]; intro e'; cases e'
        · rw [if_neg e]; exact ha.2 i hi
    refine hS.turn (u := [(b', Hs.live (.row el k m ys))]) hle (hS.bel.trans (hb.mono hS.bel.size)) (fun i k' hi => ?_) (fun i g' hi ho => ?_) (fun i j g' hij hi hj ho => ?_) (fun i => ?_) ?_
    · rw [upd_one] at hi
      unfold setτ
      by_cases e : i = b'
      · rw [if_pos e] at hi ⊢; cases hi; exact r2
      · rw [if_neg e] at hi ⊢
        have := hS.hp i k' hi
        cases k' with
        | box cs =>
          obtain ⟨g', vs, e1, e2, e3⟩ := this
          exact ⟨g', vs, e1, Bx.below e2 hb, All2.mono (ceR_le hle) _ _ e3⟩
        | row e k n xs => exact bkR_below (X := X) (h := S2.hp) (τ := τ) hb _ _ _ this
    · unfold setτ at ho
      rcases hal i hi with e | ⟨e, hi⟩
      · rw [if_pos e, hn] at ho; cases ho
      · rw [if_neg e] at ho; exact ⟨(hS.own i g' hi ho).1, Nat.lt_of_lt_of_le (hS.own i g' hi ho).2 hb.size⟩
    · unfold setτ at ho ⊢
      rcases hal i hi with e | ⟨e, hi⟩
      · rw [if_pos e, hn] at ho; cases ho
      · rw [if_neg e] at ho
        rcases hal j hj with e' | ⟨e', hj⟩
        · rw [if_pos e', hn]; intro hj'; cases hj'
        · rw [if_neg e']; exact hS.sep i j g' hij hi hj ho
    · unfold setτ; split
      · rw [hvn.1]; rfl
      · exact hS.one i
    · refine ⟨?_, ?_⟩
      · show upd _ _ b' ≠ _; rw [upd_one, if_pos rfl]; intro e; cases e
      · show _ = setτ τ b' v' b'; unfold setτ; rw [if_pos rfl]
  · obtain ⟨g, hg⟩ := Option.ne_none_iff_exists'.1 hnil
    have hg' : v'.ownBlock = some w.heap.size := by
      rcases r4 with e | e
      · rw [e] at hnil; exact absurd rfl hnil
      · exact e
    refine ⟨_, hS.newb (k := .row el k m ys) hf2 hb (v := v') (g := w.heap.size) (occ_own hg') ⟨Nat.le_refl _, (World.ownsRow.lt r2 _ hg').2⟩ (by rcases r2.2 with ⟨rfl, _⟩ | ⟨_, _, _, rfl, _⟩ <;> rfl) (fun E hE hw' => by
      show E.w.ownsRow X.base el k v' m ys
      rw [hw']; exact r2) ?_⟩
    refine ⟨?_, ?_⟩
    · show upd _ _ b' ≠ _; rw [upd_one, if_pos rfl]; intro e; cases e
    · show _ = setτ τ b' v' b'; unfold setτ; rw [if_pos rfl]
end Go.Proofs.YtkffmaeiplgjeaaGreatDoor.Ax
/- The abstract walk: writes into rows, calls over rows, states told anew, loops. -/
namespace Go.Proofs.YtkffmaeiplgjeaaGreatDoor.Ax
open Go.RowKit Go.Proofs.YtkffmaeiplgjeaaGreatDoor.MemL Go.Proofs.YtkffmaeiplgjeaaGreatDoor.RegR
set_option linter.unusedVariables false
set_option linter.unusedSimpArgs false
variable {P : Program} {ops : Array Oper} {X : Cx} {o : Oper} {S : St} {Q : Exit → St → Prop}
/-! ### calls over rows -/
theorem args_shut {τ : Nat → Value} {a : Act} {w : World} {S2 : St} (hS : SimT X S2 τ a w) : ∀ (l : List Cm) (vs : List Value), All2 (Cm.R (env X S2.hp τ w)) l vs → All2 (Cm.R ⟨fun g => X.A0 g ∨ X.base ≤ g, fun b => S2.hp b ≠ .fresh, τ, w⟩) (l.map (shutM S2.hp)) vs
  | [], [], _ => trivial
  | m :: l, v :: vs, h => ⟨shutM_R hS m v h.1, args_shut hS l vs h.2⟩
  | [], _ :: _, h => h.elim
  | _ :: _, [], h => h.elim
def plainC : Ce → Bool
  | .v _ => true
  | _ => false
def plainM : Cm → Bool
  | .c x => plainC x
  | .ag cs => cs.all plainC
def plainV : AV → Bool
  | .m m => plainM m
  | .tu l => l.all plainM
theorem plain_ce {E F : En} : ∀ (c : Ce) (v : Value), plainC c = true → c.R E v → c.R F v
  | .v x, v, _, h => h
  | .s _ _ _, _, h, _ | .q _, _, h, _ | .p _ _, _, h, _ | .o _, _, h, _ | .rp _ _, _, h, _ | .f _ _ _, _, h, _ | .bs _ _ _, _, h, _ | .any, _, h, _ => by cases h
theorem plain_cs {E F : En} : ∀ (cs : List Ce) (vs : List Value), cs.all plainC = true → All2 (Ce.R E) cs vs → All2 (Ce.R F) cs vs
  | [], [], _, _ => trivial
  | c :: cs, v :: vs, h, k => by
    simp only [List.all_cons, Bool.and_eq_true] at h
    exact ⟨plain_ce c v h.1 k.1, plain_cs cs vs h.2 k.2⟩
  | [], _ :: _, _, k => k.elim
  | _ :: _, [], _, k => k.elim
theorem plain_cm {E F : En} : ∀ (c : Cm) (v : Value), plainM c = true → c.R E v → c.R F v
  | .c x, v, h, k => plain_ce x v h k
  | .ag cs, v, h, ⟨vs, e, k⟩ => ⟨vs, e, plain_cs cs _ h k⟩
theorem plain_cms {E F : En} : ∀ (cs : List Cm) (vs : List Value), cs.all plainM = true → All2 (Cm.R E) cs vs → All2 (Cm.R F) cs vs
  | [], [], _, _ => trivial
  | c :: cs, v :: vs, h, k => by
    simp only [List.all_cons, Bool.and_eq_true] at h
    exact ⟨plain_cm c v h.1 k.1, plain_cms cs vs h.2 k.2⟩
  | [], _ :: _, _, k => k.elim
  | _ :: _, [], _, k => k.elim
theorem plain_av {E F : En} : ∀ (c : AV) (v : Value), plainV c = true → c.R E v → c.R F v
  | .m m, v, h, k => plain_cm m v h k
  | .tu l, v, h, ⟨vs, e, k⟩ => ⟨vs, e, plain_cms l _ h k⟩
/-- own rows are read by the function called, whose answer holds no slice -/
theorem valid_call_o {k : FuncId} {xs : Array Operand} {ts : Array TypeId} {l : List Cm} {r : AV} (ho : o.op = .call { callee := .value (.func k), args := xs, argTypes := ts }) (hw : want ops S o = true) (hk : callable P k = true) (hl : argsA S xs.toList = some l) (hc : CallOk P X.G k (l.map (shutM S.hp)) r) (hp : plainV r = true) : Valid P ops X o S ⟨r, [], (l.flatMap idM).map .all⟩ := fun S2 a w h1 h2 h3 ⟨τ, hS⟩ => by
  refine .inl ⟨want_spec hw h1 h3 hS, ?_⟩
  rw [run_call ho hk]
  obtain ⟨c1, c2, hc⟩ := hc
  have hR := argsA_R (S := S) (E := env X S2.hp τ w) (a := a) xs.toList l hl (fun x hx => by
    have hm : x ∈ o.op.operands := by rw [ho]; simp [Op.operands, Call.operands]; exact .inr (by simpa using hx)
    rw [← ev_same h1 hm]; exact hS.ev x (fun t e => h3 t (.inl (looks_op (e ▸ hm)))))
  have hsh : l.map (shutM S2.hp) = l.map (shutM S.hp) := List.map_congr_left fun m hm => shutM_same fun b hb => h2 (.all b) (by simp [Ef.foot]; exact ⟨m, hm, hb⟩)
  have hR1 := args_shut hS _ _ hR
  rw [hsh] at hR1
  have hR' := all2m_map (F := en0 (fun g => X.A0 g ∨ X.base ≤ g) w) (E := ⟨fun g => X.A0 g ∨ X.base ≤ g, fun b => S2.hp b ≠ .fresh, τ, w⟩) rfl (fun _ _ h => h) _ _ c2 hR1
  refine (hc (fun g => X.A0 g ∨ X.base ≤ g) w (xs.map a.eval) (X.hG w hS.bel) (by simpa using hR')).mono ?_
  rintro e w' ⟨v, rfl, hb, hr⟩
  exact ⟨v, rfl, τ, hS.below hb (plain_av (E := en0 _ w') _ _ hp hr)⟩
/-! ### states told anew -/
/-- less is known -/
def Sub (X : Cx) (S S' : St) : Prop := ∀ a w, Sim X S a w → Sim X S' a w
theorem aw_sub {c : Code} {S' : St} (h : Sub X S S') (k : Aw P X c Q S') : Aw P X c Q S := fun a w hs => k a w (h a w hs)
def look {α : Type} (d : α) : List (Nat × α) → Nat → α
  | [], _ => d
  | p :: r, t => cond (Nat.beq t p.1) p.2 (look d r t)
/-- a state told by lists -/
def St.of (ts : List (Nat × AV)) (bs : List (Nat × Hs)) : St := ⟨look (.m (.c .any)) ts, look .fresh bs⟩
def EqT (S : St) : List (Nat × AV) → Prop
  | [] => True
  | p :: r => S.tm p.1 = p.2 ∧ EqT S r
def EqB (S : St) : List (Nat × Hs) → Prop
  | [] => True
  | p :: r => S.hp p.1 = p.2 ∧ EqB S r
def idV : AV → List Nat
  | .m m => idM m
  | .tu l => l.flatMap idM
def idK : Hs → List Nat
  | .live (.box cs) => cs.flatMap idC
  | _ => []
def memN (b : Nat) : List (Nat × Hs) → Bool
  | [] => false
  | p :: r => cond (Nat.beq b p.1) (match p.2 with | .fresh => false | _ => true) (memN b r)
theorem memN_spec : ∀ (bs : List (Nat × Hs)) (b : Nat), memN b bs = true → look .fresh bs b ≠ .fresh
  | [], b, h => by cases h
  | p :: r, b, h => by
    simp only [memN] at h
    simp only [look]
    cases e : Nat.beq b p.1 with
    | true => rw [e] at h; simp only [cond] at h ⊢; intro e'; rw [e'] at h; cases h
    | false => rw [e] at h; simp only [cond] at h ⊢; exact memN_spec r b h
theorem look_eq {bs : List (Nat × Hs)} (h : EqB S bs) : ∀ b, look .fresh bs b = .fresh ∨ look .fresh bs b = S.hp b := by
  induction bs with
  | nil => exact fun b => .inl rfl
  | cons p r ih =>
    intro b
    simp only [look]
    cases e : Nat.beq b p.1 with
    | true => exact .inr (by rw [Nat.eq_of_beq_eq_true e]; exact h.1.symm)
    | false => exact ih h.2 b
theorem look_tm {ts : List (Nat × AV)} (h : EqT S ts) : ∀ t, look (.m (.c .any)) ts t = .m (.c .any) ∨ ∃ x, (t, x) ∈ ts ∧ look (.m (.c .any)) ts t = x ∧ S.tm t = x := by
  induction ts with
  | nil => exact fun t => .inl rfl
  | cons p r ih =>
    intro t
    simp only [look]
    cases e : Nat.beq t p.1 with
    | true =>
      have e' := Nat.eq_of_beq_eq_true e
      exact .inr ⟨p.2, by rw [e']; simp, rfl, by rw [e']; exact h.1⟩
    | false =>
      rcases ih h.2 t with k | ⟨x, k1, k2, k3⟩
      · exact .inl k
      · exact .inr ⟨x, List.mem_cons_of_mem _ k1, k2, k3⟩
theorem ceR_cut {E F : En} (hU : ∀ b, F.U b → True) (hτ : F.τ = E.τ) (hw : F.w = E.w) (hA : ∀ g, E.A g → F.A g) : ∀ (c : Ce) (v : Value), (∀ b ∈ idC c, F.U b) → c.R E v → c.R F v
  | .v x, v, _, h => h
  | .s n k xs, v, _, ⟨h1, h2⟩ => ⟨by rw [hw]; exact h1, fun a l c e => hA _ (h2 a l c e)⟩
  | .q xs, v, _, ⟨g, o', h1, h2, h3, h4⟩ => ⟨g, o', h1, by rw [hw]; exact h2, hA g h3, by rw [hw]; exact h4⟩
  | .any, _, _, _ => trivial
  | .f n k xs, v, _, ⟨h1, h2, h3⟩ => ⟨by rw [hw]; exact h1, fun a l c e => hA _ (h2 a l c e), h3⟩
  | .bs b _ _, v, hb, ⟨_, g, h1, h2⟩ => ⟨hb b (by simp [idC]), g, by rw [hτ]; exact h1, h2⟩
  | .p b _, v, hb, ⟨_, g, h1, h2⟩ => ⟨hb b (by simp [idC]), g, by rw [hτ]; exact h1, h2⟩
  | .o b, v, hb, ⟨_, h1⟩ => ⟨hb b (by simp [idC]), by rw [hτ]; exact h1⟩
  | .rp b _, v, hb, ⟨_, g, l, c, h1, h2⟩ => ⟨hb b (by simp [idC]), g, l, c, by rw [hτ]; exact h1, h2⟩
theorem csR_cut {E F : En} (hτ : F.τ = E.τ) (hw : F.w = E.w) (hA : ∀ g, E.A g → F.A g) : ∀ (cs : List Ce) (vs : List Value), (∀ b ∈ cs.flatMap idC, F.U b) → All2 (Ce.R E) cs vs → All2 (Ce.R F) cs vs
  | [], [], _, _ => trivial
  | c :: cs, v :: vs, h, k => ⟨ceR_cut (fun _ _ => trivial) hτ hw hA c v (fun b hb => h b (by simp [hb])) k.1, csR_cut hτ hw hA cs vs (fun b hb => h b (by rw [List.flatMap_cons]; exact List.mem_append_right _ hb)) k.2⟩
  | [], _ :: _, _, k => k.elim
  | _ :: _, [], _, k => k.elim
theorem cmR_cut {E F : En} (hτ : F.τ = E.τ) (hw : F.w = E.w) (hA : ∀ g, E.A g → F.A g) : ∀ (c : Cm) (v : Value), (∀ b ∈ idM c, F.U b) → c.R E v → c.R F v
  | .c x, v, h, k => ceR_cut (fun _ _ => trivial) hτ hw hA x v h k
  | .ag cs, v, h, ⟨vs, e, k⟩ => ⟨vs, e, csR_cut hτ hw hA cs _ h k⟩
theorem cmsR_cut {E F : En} (hτ : F.τ = E.τ) (hw : F.w = E.w) (hA : ∀ g, E.A g → F.A g) : ∀ (cs : List Cm) (vs : List Value), (∀ b ∈ cs.flatMap idM, F.U b) → All2 (Cm.R E) cs vs → All2 (Cm.R F) cs vs
  | [], [], _, _ => trivial
  | c :: cs, v :: vs, h, k => ⟨cmR_cut hτ hw hA c v (fun b hb => h b (by rw [List.flatMap_cons]; exact List.mem_append_left _ hb)) k.1, cmsR_cut hτ hw hA cs vs (fun b hb => h b (by rw [List.flatMap_cons]; exact List.mem_append_right _ hb)) k.2⟩
  | [], _ :: _, _, k => k.elim
  | _ :: _, [], _, k => k.elim
theorem avR_cut {E F : En} (hτ : F.τ = E.τ) (hw : F.w = E.w) (hA : ∀ g, E.A g → F.A g) : ∀ (c : AV) (v : Value), (∀ b ∈ idV c, F.U b) → c.R E v → c.R F v
  | .m m, v, h, k => cmR_cut hτ hw hA m v h k
  | .tu l, v, h, ⟨vs, e, k⟩ => ⟨vs, e, cmsR_cut hτ hw hA l _ h k⟩
theorem sub_of (ts : List (Nat × AV)) (bs : List (Nat × Hs)) (h1 : EqT S ts) (h2 : EqB S bs) (h3 : (ts.all (fun p => (idV p.2).all (memN · bs)) && bs.all (fun p => (idK p.2).all (memN · bs))) = true) : Sub X S (St.of ts bs) := fun a w ⟨τ, h⟩ => by
  simp only [Bool.and_eq_true, List.all_eq_true] at h3
  obtain ⟨c1, c2⟩ := h3
  have hal : ∀ b, alive (look .fresh bs) b → alive S.hp b := fun b ⟨k, hk⟩ => by
    rcases look_eq h2 b with e | e
    · rw [e] at hk; cases hk
    · exact ⟨k, by rw [← e]; exact hk⟩
  have hA : ∀ g, alw X S.hp τ g → alw X (look .fresh bs) τ g := fun g hg => ⟨hg.1, fun b hb => hg.2 b (hal b hb)⟩
  refine ⟨τ, h.size, h.nodef, h.bel, fun t ht => ?_, fun b k hk => ?_, fun b g hb => h.own b g (hal b hb), fun b b' g hne hb hb' => h.sep b b' g hne (hal b hb) (hal b' hb'), h.one⟩
  · show AV.R _ (look (.m (.c .any)) ts t) _
    rcases look_tm h1 t with e | ⟨x, m1, m2, m3⟩
    · rw [e]; trivial
    · rw [m2]
      have := h.tm t ht
      rw [m3] at this
      exact avR_cut (E := env X S.hp τ w) (F := env X (look .fresh bs) τ w) rfl rfl hA x _ (fun b hb => memN_spec bs b (c1 (t, x) m1 b hb)) this
  · have hk : look .fresh bs b = .live k := hk
    have hin : ∃ p ∈ bs, p.2 = .live k := by
      have : ∀ (l : List (Nat × Hs)), look .fresh l b = .live k → ∃ p ∈ l, p.2 = .live k := by
        intro l
        induction l with
        | nil => intro e; cases e
        | cons p r ih =>
          intro e
          simp only [look] at e
          cases q : Nat.beq b p.1 with
          | true => rw [q] at e; exact ⟨p, by simp, e⟩
          | false => rw [q] at e; obtain ⟨p', h', e'⟩ := ih e; exact ⟨p', List.mem_cons_of_mem _ h', e'⟩
      exact this bs hk
    obtain ⟨p, hp, hpk⟩ := hin
    have hk0 : S.hp b = .live k := by
      rcases look_eq h2 b with e | e
      · rw [e] at hk; cases hk
      · rw [← e]; exact hk
    have := h.hp b k hk0
    cases k with
    | box cs =>
      obtain ⟨g, vs, e1, e2, e3⟩ := this
      refine ⟨g, vs, e1, e2, csR_cut (E := env X S.hp τ w) (F := env X (look .fresh bs) τ w) rfl rfl hA cs _ (fun i hi => ?_) e3⟩
      have := c2 p hp
      rw [hpk] at this
      exact memN_spec bs i (this i hi)
    | row e k n xs => exact this
/-- a loop whose head is told by parameters -/
theorem aw_loopH {α : Type} {c : Code} (F : α → Prop) (H : α → St) (μ : α → Nat) (p : α) (hp : F p) (h0 : Sub X S (H p)) (round : ∀ p, F p → Aw P X c (thenA (fun S' => ∃ p', F p' ∧ μ p' < μ p ∧ Sub X S' (H p')) Q) (H p)) : Aw P X (.loop c) Q S :=
  aw_sub h0 (aw_loop (fun n S => ∃ p, F p ∧ μ p = n ∧ Sub X S (H p)) (μ p) ⟨p, hp, rfl, fun _ _ h => h⟩ fun n S ⟨p, hp, hn, hs⟩ => aw_sub hs (aw_mono (round p hp) fun e S' q => by
    cases e with
    | normal => obtain ⟨p', h1, h2, h3⟩ := q; exact ⟨μ p', by omega, p', h1, rfl, h3⟩
    | _ => exact q))
/-! ### what is proved of calls otherwise -/
theorem callOk_calls {G : World → Prop} {k : FuncId} {args : List Cm} {r : AV} (hcl : (closedV r && args.all closedM) = true) (h : ∀ (A : Nat → Prop) (W : World) (vs : Array Value), G W → All2 (Cm.R (en0 A W)) args vs.toList →
    Calls P k vs W (fun e w' => ∃ v, e = .returned v ∧ Below W.heap.size W w' ∧ r.R (en0 (fun g => A g ∨ W.heap.size ≤ g) w') v)) : CallOk P G k args r := by
  simp only [Bool.and_eq_true] at hcl
  exact ⟨hcl.1, hcl.2, h⟩
end Go.Proofs.YtkffmaeiplgjeaaGreatDoor.Ax
/- The abstract walk: contracts that were proved otherwise, taken over. -/
namespace Go.Proofs.YtkffmaeiplgjeaaGreatDoor.Ax
open Go.RowKit Go.Proofs.YtkffmaeiplgjeaaGreatDoor.MemL Go.Proofs.YtkffmaeiplgjeaaGreatDoor.RegR
set_option linter.unusedVariables false
set_option linter.unusedSimpArgs false
variable {P : Program} {G : World → Prop}
def cmV : Value → Cm
  | .agg cs => .ag (cs.toList.map .v)
  | v => .c (.v v)
def avV : Value → AV
  | .tuple vs => .tu (vs.toList.map cmV)
  | v => .m (cmV v)
theorem cmV_R (E : En) : ∀ v : Value, (cmV v).R E v
  | .agg cs => ⟨cs, rfl, All2.of_map (R := Ce.R E) Ce.v (fun _ => rfl) _⟩
  | .bool _ | .int _ _ | .float _ _ | .complex _ _ _ | .string _ | .pointer _ | .slice _ _ _ | .map _ | .chan _ | .func _ _ _ | .nilFunc | .iface _ _ | .nilIface | .tuple _ => rfl
theorem avV_R (E : En) : ∀ v : Value, (avV v).R E v
  | .tuple vs => ⟨vs, rfl, All2.of_map (R := Cm.R E) cmV (cmV_R E) _⟩
  | .agg cs => cmV_R E (.agg cs)
  | .bool _ | .int _ _ | .float _ _ | .complex _ _ _ | .string _ | .pointer _ | .slice _ _ _ | .map _ | .chan _ | .func _ _ _ | .nilFunc | .iface _ _ | .nilIface => rfl
theorem vs_eq {E : En} : ∀ (cs vs : List Value), All2 (Ce.R E) (cs.map .v) vs → vs = cs
  | [], [], _ => rfl
  | c :: cs, v :: vs, h => by rw [vs_eq cs vs h.2, show v = c from h.1]
  | [], _ :: _, h => h.elim
  | _ :: _, [], h => h.elim
theorem cmV_eq {E : En} : ∀ (v u : Value), (cmV v).R E u → u = v
  | .agg cs, u, ⟨vs, e, h⟩ => by rw [e]; have := vs_eq cs.toList vs.toList h; rw [show vs = cs from by rw [← Array.toList_inj]; exact this]
  | .bool _, u, h | .int _ _, u, h | .float _ _, u, h | .complex _ _ _, u, h | .string _, u, h | .pointer _, u, h | .slice _ _ _, u, h | .map _, u, h | .chan _, u, h | .func _ _ _, u, h | .nilFunc, u, h | .iface _ _, u, h | .nilIface, u, h | .tuple _, u, h => h
theorem args_eq {E : En} : ∀ (cs vs : List Value), All2 (Cm.R E) (cs.map cmV) vs → vs = cs
  | [], [], _ => rfl
  | c :: cs, v :: vs, h => by rw [args_eq cs vs h.2, cmV_eq c v h.1]
  | [], _ :: _, h => h.elim
  | _ :: _, [], h => h.elim
theorem closed_v (cs : List Value) : (cs.map Ce.v).all closedC = true := by rw [List.all_map]; exact List.all_eq_true.2 fun _ _ => rfl
theorem closed_cmV : ∀ v : Value, closedM (cmV v) = true
  | .agg cs => closed_v _
  | .bool _ | .int _ _ | .float _ _ | .complex _ _ _ | .string _ | .pointer _ | .slice _ _ _ | .map _ | .chan _ | .func _ _ _ | .nilFunc | .iface _ _ | .nilIface | .tuple _ => rfl
theorem closed_avV : ∀ v : Value, closedV (avV v) = true
  | .tuple vs => by show (vs.toList.map cmV).all closedM = true; rw [List.all_map]; exact List.all_eq_true.2 fun _ _ => closed_cmV _
  | .agg cs => closed_cmV (.agg cs)
  | .bool _ | .int _ _ | .float _ _ | .complex _ _ _ | .string _ | .pointer _ | .slice _ _ _ | .map _ | .chan _ | .func _ _ _ | .nilFunc | .iface _ _ | .nilIface => rfl
/-- numbers in, numbers out -/
theorem ok_plain {k : FuncId} (args : Array Value) (r : Value) (h : ∀ W, G W → Calls P k args W (fun e w' => e = .returned r ∧ Below W.heap.size W w')) : CallOk P G k (args.toList.map cmV) (avV r) :=
  ⟨closed_avV r, by rw [List.all_map]; exact List.all_eq_true.2 fun _ _ => closed_cmV _, fun A W vs hG hR => by
    have : vs = args := by rw [← Array.toList_inj]; exact args_eq _ _ hR
    subst this
    exact (h W hG).mono fun e w' ⟨he, hb⟩ => ⟨r, he, hb, avV_R _ r⟩⟩
theorem plain_ag {E : En} {xs : List Value} {v : Value} (h : Cm.R E (.ag (xs.map .v)) v) : v = .agg xs.toArray := by
  obtain ⟨vs, e, h⟩ := h
  rw [e, ← vs_eq xs vs.toList h]
/-- a slice of the call's own, as a caller may read it -/
theorem own_s {W w' : World} {A : Nat → Prop} {e k n : Nat} {xs : List Value} {v : Value} (h : w'.ownsRow W.heap.size e k v n xs) : Ce.R (en0 (fun g => A g ∨ W.heap.size ≤ g) w') (.s n k xs) v :=
  ⟨Sl.of_owns h, fun a l c e => .inr (by subst e; exact (World.ownsRow.lt h a.block rfl).1)⟩
/-- a slice that was handed in, handed on -/
theorem old_s {W w' : World} {A : Nat → Prop} {k n : Nat} {xs : List Value} {v : Value} (h : Ce.R (en0 A W) (.s n k xs) v) (hb : Below W.heap.size W w') : Ce.R (en0 (fun g => A g ∨ W.heap.size ≤ g) w') (.s n k xs) v :=
  ceR_le (E := en0 A W) (F := en0 (fun g => A g ∨ W.heap.size ≤ g) w') ⟨fun _ h => h.elim, fun g _ hg => .inl hg, hb.size, fun g o hg _ => hb.cell (p := ⟨g, o, none⟩) hg⟩ _ _ h
end Go.Proofs.YtkffmaeiplgjeaaGreatDoor.Ax
