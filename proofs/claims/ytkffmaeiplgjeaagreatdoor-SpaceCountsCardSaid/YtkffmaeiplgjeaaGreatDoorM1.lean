/- Texts of this claim, one behind the other: RegR, MemL, RegR2. -/
import Derived.Below
import Derived.Orders
import Derived.Deep.Quiet
import Derived.WalkKit
import Derived.OwnWalk
import Derived.Laws.AppendOwn
import Derived.Deep.QuietTactic
import Derived.Laws.Tables
import Derived.ArgAppend
/- A rule for regions that draw their order, of this session's own: operations of one value, operations whose outcome is told by a relation (an alloc, a call that hands back new memory), and stores; one walk of an order that the prover picks serves every order. -/
namespace Go.Proofs.YtkffmaeiplgjeaaGreatDoor.RegR
open Go.RowKit
set_option linter.unusedVariables false
set_option linter.unusedSimpArgs false
section
variable {P : Program} {ops : Array Oper}
/-- what comes of an operation: a value and a world -/
def Out (P : Program) (R : Value → World → Prop) : Result Next → Prop
  | .ok (.value u) w' => R u w'
  | .ok .skip w' => R undef w'
  | .ok (.enter f args) w' => Calls P f args w' (fun e w'' => ∃ v, e = .returned v ∧ R v w'')
  | _ => False
theorem Out.mono {R R' : Value → World → Prop} (h : ∀ v w, R v w → R' v w) {r : Result Next} (k : Out P R r) : Out P R' r := by
  cases r with
  | ok n w' =>
    cases n <;> simp only [Out] at k ⊢
    case value u => exact h _ _ k
    case skip => exact h _ _ k
    case enter f args => exact k.mono fun e w'' ⟨v, he, hv⟩ => ⟨v, he, h _ _ hv⟩
  | halt x w' => simp only [Out] at k
theorem Out.ex {R : Value → World → Prop} {r : Result Next} (k : Out P R r) : ∃ v w', R v w' := by
  cases r with
  | ok n w' =>
    cases n <;> simp only [Out] at k
    case value u => exact ⟨_, _, k⟩
    case skip => exact ⟨_, _, k⟩
    case enter f args => obtain ⟨e, w'', fr, ⟨v, _, hv⟩, _⟩ := k []; exact ⟨v, w'', hv⟩
  | halt x w' => simp only [Out] at k
/-- an operation, asked for or not -/
def Step (P : Program) (ops : Array Oper) (o : Oper) (a : Act) (w : World) (R : Value → World → Prop) : Prop :=
  (Region.wanted o (yielded ops a.tmps) = true ∧ Out P R ((execOp a.eval o).run P w)) ∨ (Region.wanted o (yielded ops a.tmps) = false ∧ R undef w)
theorem Step.mono {o : Oper} {a : Act} {w : World} {R R' : Value → World → Prop} (h : ∀ v w, R v w → R' v w) (k : Step P ops o a w R) : Step P ops o a w R' := by
  rcases k with ⟨k1, k2⟩ | ⟨k1, k2⟩
  · exact .inl ⟨k1, k2.mono h⟩
  · exact .inr ⟨k1, h _ _ k2⟩
theorem Step.ex {o : Oper} {a : Act} {w : World} {R : Value → World → Prop} (k : Step P ops o a w R) : ∃ v w', R v w' := by
  rcases k with ⟨k1, k2⟩ | ⟨k1, k2⟩
  · exact k2.ex
  · exact ⟨_, _, k2⟩
theorem Step.wp {o : Oper} {a : Act} {w : World} {i : Nat} {R : Value → World → Prop} {K : Act → World → Prop} {Q : Exit → Act → World → Prop} (ho : ops[i]? = some o) (k : Step P ops o a w R)
    (h : ∀ v w', R v w' → K (a.put o.dst v) w') : wpOp P ops Q i K a w := by
  unfold wpOp
  simp only [ho]
  rcases k with ⟨k1, k2⟩ | ⟨k1, k2⟩
  · simp only [k1, if_true]
    refine .inl ?_
    unfold Oper.wp
    generalize (execOp a.eval o).run P w = r at *
    cases r with
    | ok n w' =>
      cases n <;> simp only [Out] at k2 <;> simp only [Oper.upon]
      case value u => exact h _ _ k2
      case skip => exact h _ _ k2
      case enter f args => exact k2.mono fun e w'' ⟨v, he, hv⟩ => by subst he; exact h _ _ hv
    | halt x w' => simp only [Out] at k2
  · simp only [k1, Bool.false_eq_true, if_false]; exact h _ _ k2
theorem Step.put {o : Oper} (hs : ∀ cs b, o.op ≠ .select cs b) {a : Act} {w : World} {R : Value → World → Prop} {d : Option Tmp} {v : Value} (h : ∀ x, d = some x → x ∉ o.looksAt ops) :
    Step P ops o (a.put d v) w R ↔ Step P ops o a w R := by
  unfold Step
  rw [execOp_put o hs a d v h, wanted_put o a d v h]
/-- it holds on, where memory alone is made -/
def Stab (D : World → Prop) : Prop := ∀ w w', D w → Below w.heap.size w w' → D w'
variable {Θ : Type} (C : World → Prop) (kind : Nat → Nat) (va : Nat → Θ → Value) (RA : Nat → Θ → World → Prop)
/-- the next operation of the picked order: of one value (0), with a relation of its own (1), one that waits for all such that stand ahead (2; 4: with a relation that may lean on theirs), or one that waits for all that stands ahead (3) -/
def Nx (P : Program) (ops : Array Oper) (i : Nat) (o : Oper) (D : World → Prop) (a : Act) (K : (World → Prop) → Act → Prop) : Prop :=
  match kind i with
  | 0 => ∃ v, (∀ w, C w → D w → Step P ops o a w (fun u w' => u = v ∧ Below w.heap.size w w')) ∧ K D (a.put o.dst v)
  | 1 => (∀ w, C w → Step P ops o a w (fun u w' => ∃ t, u = va i t ∧ Below w.heap.size w w' ∧ RA i t w')) ∧ ∀ t, (∃ w, C w ∧ D w ∧ RA i t w) → K (fun w => D w ∧ RA i t w) (a.put o.dst (va i t))
  | 4 => (∀ w, C w → D w → Step P ops o a w (fun u w' => ∃ t, u = va i t ∧ Below w.heap.size w w' ∧ RA i t w')) ∧ ∀ t, (∃ w, C w ∧ D w ∧ RA i t w) → K (fun w => D w ∧ RA i t w) (a.put o.dst (va i t))
  | 3 => ∃ D' : World → Prop, Stab D' ∧ ∃ v, (∀ w, C w → D w → Step P ops o a w (fun u w' => u = v ∧ C w' ∧ D' w')) ∧ K D' (a.put o.dst v)
  | _ => ∃ D' : World → Prop, Stab D' ∧ (∀ w, D' w → D w) ∧ ∃ v, (∀ w, C w → D w → Step P ops o a w (fun u w' => u = v ∧ C w' ∧ D' w')) ∧ K D' (a.put o.dst v)
def Can (P : Program) (ops : Array Oper) (Q : Act → World → Prop) : List Nat → (World → Prop) → Act → Prop
  | [], D, a => ∀ w, C w → D w → Q a w
  | i :: s, D, a => ∃ o, ops[i]? = some o ∧ Nx C kind va RA P ops i o D a (Can P ops Q s)
theorem Nx.mono {i : Nat} {o : Oper} {D : World → Prop} {a : Act} {K K' : (World → Prop) → Act → Prop} (h : ∀ D a, K D a → K' D a) (k : Nx C kind va RA P ops i o D a K) : Nx C kind va RA P ops i o D a K' := by
  unfold Nx at *
  split at k
  · obtain ⟨v, k1, k2⟩ := k; exact ⟨v, k1, h _ _ k2⟩
  · exact ⟨k.1, fun t ht => h _ _ (k.2 t ht)⟩
  · exact ⟨k.1, fun t ht => h _ _ (k.2 t ht)⟩
  · obtain ⟨D', k0, v, k1, k2⟩ := k; exact ⟨D', k0, v, k1, h _ _ k2⟩
  · obtain ⟨D', k0, k3, v, k1, k2⟩ := k; exact ⟨D', k0, k3, v, k1, h _ _ k2⟩
variable (md : Region.Mode) (anc : Nat → Nat → Bool)
/-- what is asked of two operations, the one ahead of the other in the picked order: the other waits for the one; or they are apart, and the one has one value, or both have relations -/
def Rel (ops : Array Oper) (i j : Nat) : Prop := anc i j = true ∨ ((∀ o p, ops[i]? = some o → ops[j]? = some p → o.apart ops p = true) ∧ kind j ≠ 3 ∧ (kind i = 0 ∨ (kind i = 1 ∧ kind j = 1)))
theorem ext {Q : Act → World → Prop} (hsel : ∀ (j : Nat) (o : Oper) cs b, ops[j]? = some o → o.op ≠ .select cs b) (hC : Stab C) (hRA : ∀ i t, Stab (RA i t)) (j : Nat) :
    ∀ (s : List Nat) (D : World → Prop) (a : Act), s.Pairwise (Rel kind anc ops) → s.Nodup → j ∈ s → (∀ i ∈ s, anc i j = false) → Stab D → (∃ w, C w ∧ D w) → Can C kind va RA P ops Q s D a →
      ∃ o, ops[j]? = some o ∧ Nx C kind va RA P ops j o D a (fun D' a' => Can C kind va RA P ops Q (s.erase j) D' a')
  | [], _, _, _, _, hj, _, _, _, _ => by cases hj
  | i :: s, D, a, hp, hn, hj, hf, hD, hw, hc => by
    by_cases hij : i = j
    · subst hij
      simp only [Can] at hc
      obtain ⟨o, ho, hN⟩ := hc
      exact ⟨o, ho, Nx.mono C kind va RA (fun D a h => by rw [List.erase_cons_head]; exact h) hN⟩
    · have hjs : j ∈ s := (List.mem_cons.1 hj).resolve_left (fun e => hij e.symm)
      obtain ⟨hp1, hp2⟩ := List.pairwise_cons.1 hp
      obtain ⟨hn1, hn2⟩ := List.nodup_cons.1 hn
      simp only [Can] at hc
      obtain ⟨oi, hoi, hN⟩ := hc
      have hr := (hp1 j hjs).resolve_left (by rw [hf i (by simp)]; simp)
      obtain ⟨hap, hj3, hk⟩ := hr
      have hfs : ∀ k ∈ s, anc k j = false := fun k hk => hf k (List.mem_cons_of_mem _ hk)
      have er : (i :: s).erase j = i :: s.erase j := List.erase_cons_tail (by simpa using hij)
      rw [er]
      have ih := fun D a hD hw (hc : Can C kind va RA P ops Q s D a) => ext hsel hC hRA j s D a hp2 hn2 hjs hfs hD hw hc
      -- the one that stands ahead has one value
      by_cases hk0 : kind i = 0
      · unfold Nx at hN
        rw [hk0] at hN
        obtain ⟨vi, hi, hK⟩ := hN
        obtain ⟨oj, hoj, hM⟩ := ih D _ hD hw hK
        obtain ⟨h1, h2, h3⟩ := Oper.apart_spec (hap oi oj hoi hoj)
        refine ⟨oj, hoj, ?_⟩
        have back : ∀ (D' : World → Prop) (u : Value), (∀ w, D' w → D w) → Can C kind va RA P ops Q (s.erase j) D' ((a.put oi.dst vi).put oj.dst u) → Can C kind va RA P ops Q (i :: s.erase j) D' (a.put oj.dst u) := fun D' u hDD hcan => by
          simp only [Can]
          refine ⟨oi, hoi, ?_⟩
          unfold Nx
          rw [hk0]
          exact ⟨vi, fun w hw1 hw2 => (Step.put (hsel i oi · · hoi) h3).2 (hi w hw1 (hDD w hw2)), by rw [← Act.put_comm a vi u h2]; exact hcan⟩
        unfold Nx at hM ⊢
        split at hM
        · obtain ⟨v, m1, m2⟩ := hM
          exact ⟨v, fun w hw1 hw2 => (Step.put (hsel j oj · · hoj) h1).1 (m1 w hw1 hw2), back D v (fun _ h => h) m2⟩
        · exact ⟨fun w hw1 => (Step.put (hsel j oj · · hoj) h1).1 (hM.1 w hw1), fun t ht => back _ _ (fun _ h => h.1) (hM.2 t ht)⟩
        · exact ⟨fun w hw1 hw2 => (Step.put (hsel j oj · · hoj) h1).1 (hM.1 w hw1 hw2), fun t ht => back _ _ (fun _ h => h.1) (hM.2 t ht)⟩
        · rename_i hk3; exact absurd hk3 hj3
        · obtain ⟨D', m0, m3, v, m1, m2⟩ := hM
          exact ⟨D', m0, m3, v, fun w hw1 hw2 => (Step.put (hsel j oj · · hoj) h1).1 (m1 w hw1 hw2), back D' v m3 m2⟩
      · obtain ⟨hi1, hj1⟩ := hk.resolve_left hk0
        unfold Nx at hN
        rw [hi1] at hN
        obtain ⟨hi, hK⟩ := hN
        obtain ⟨w0, hw1, hw2⟩ := hw
        obtain ⟨u0, w1, t0, _, hb0, hr0⟩ := (hi w0 hw1).ex
        have hS : ∀ t, Stab (fun w => D w ∧ RA i t w) := fun t w w' h b => ⟨hD w w' h.1 b, hRA i t w w' h.2 b⟩
        have get := fun t (ht : ∃ w, C w ∧ D w ∧ RA i t w) => ih (fun w => D w ∧ RA i t w) _ (hS t) (by obtain ⟨w, x1, x2, x3⟩ := ht; exact ⟨w, x1, x2, x3⟩) (hK t ht)
        obtain ⟨oj, hoj, hM0⟩ := get t0 ⟨w1, hC w0 w1 hw1 hb0, hD w0 w1 hw2 hb0, hr0⟩
        obtain ⟨h1, h2, h3⟩ := Oper.apart_spec (hap oi oj hoi hoj)
        refine ⟨oj, hoj, ?_⟩
        unfold Nx at hM0 ⊢
        rw [hj1] at hM0 ⊢
        refine ⟨fun w hw => (Step.put (hsel j oj · · hoj) h1).1 (hM0.1 w hw), fun tj htj => ?_⟩
        simp only [Can]
        refine ⟨oi, hoi, ?_⟩
        unfold Nx
        rw [hi1]
        refine ⟨fun w hw => (Step.put (hsel i oi · · hoi) h3).2 (hi w hw), fun ti hti => ?_⟩
        obtain ⟨w2, x1, ⟨x2, x3⟩, x4⟩ := hti
        obtain ⟨oj', hoj', hM⟩ := get ti ⟨w2, x1, x2, x4⟩
        rw [hoj] at hoj'
        obtain rfl := Option.some.inj hoj'
        unfold Nx at hM
        rw [hj1] at hM
        have hK2 := hM.2 tj ⟨w2, x1, ⟨x2, x4⟩, x3⟩
        rw [← Act.put_comm a _ _ h2]
        have e : (fun w => (D w ∧ RA j tj w) ∧ RA i ti w) = (fun w => (D w ∧ RA i ti w) ∧ RA j tj w) := by
          funext w; exact propext ⟨fun h => ⟨⟨h.1.1, h.2⟩, h.1.2⟩, fun h => ⟨⟨h.1.1, h.2⟩, h.1.2⟩⟩
        rw [e]; exact hK2
theorem least : ∀ (s : List Nat), s ≠ [] → ∃ m ∈ s, ∀ k ∈ s, m ≤ k
  | [], h => absurd rfl h
  | [x], _ => ⟨x, by simp, by simp⟩
  | x :: y :: s, _ => by
    obtain ⟨m, hm, hl⟩ := least (y :: s) (by simp)
    by_cases h : x ≤ m
    · exact ⟨x, by simp, fun k hk => by
        rcases List.mem_cons.1 hk with rfl | hk
        · exact Nat.le_refl _
        · exact Nat.le_trans h (hl k hk)⟩
    · exact ⟨m, List.mem_cons_of_mem _ hm, fun k hk => by
        rcases List.mem_cons.1 hk with rfl | hk
        · omega
        · exact hl k hk⟩
theorem getD_in {listed : Array Bool} {k : Nat} (h : k < listed.size) (d d' : Bool) : listed.getD k d = listed.getD k d' := by simp [h]
theorem any_of_can {Q : Act → World → Prop} {Q' : Exit → Act → World → Prop} (hQ : ∀ a w, Q a w → Q' .normal a w) (hsel : ∀ (j : Nat) (o : Oper) cs b, ops[j]? = some o → o.op ≠ .select cs b) (hC : Stab C) (hRA : ∀ i t, Stab (RA i t))
    (hord : ∀ j o, ops[j]? = some o → ∀ e ∈ o.after, Region.binds md e = true → e.on < j)
    (hanc : ∀ i j, anc i j = true → ∃ o, ops[j]? = some o ∧ ∃ e ∈ o.after, Region.binds md e = true ∧ (e.on = i ∨ anc i e.on = true)) :
    ∀ (n : Nat) (s : List Nat) (listed : Array Bool) (D : World → Prop) (a : Act) (w : World), s.length = n → s.Pairwise (Rel kind anc ops) → s.Nodup →
      (∀ k, k ∈ s ↔ k < ops.size ∧ listed.getD k true = false) → listed.size = ops.size →
      (∀ j o, ops[j]? = some o → listed.getD j false = true → ∀ e ∈ o.after, Region.binds md e = true → listed.getD e.on false = true) →
      Stab D → C w → D w → Can C kind va RA P ops Q s D a → wpAny P md ops Q' n listed a w := by
  intro n
  induction n with
  | zero =>
    intro s listed D a w hl hp hn hm hz hdc hD hcw hdw hc
    obtain rfl := List.eq_nil_of_length_eq_zero hl
    refine ⟨List.eq_nil_iff_forall_not_mem.2 fun j hj => ?_, hQ _ _ (by simp only [Can] at hc; exact hc w hcw hdw)⟩
    obtain ⟨h0, o, ho, _⟩ := mem_ready.1 hj
    have := (hm j).2 ⟨(Array.getElem?_eq_some_iff.1 ho).1, h0⟩
    cases this
  | succ n ih =>
    intro s listed D a w hl hp hn hm hz hdc hD hcw hdw hc
    have hne : s ≠ [] := by intro e; rw [e] at hl; cases hl
    refine ⟨fun hr => ?_, fun j hj => ?_⟩
    · exfalso
      obtain ⟨m, hms, hmin⟩ := least s hne
      obtain ⟨hlt, h0⟩ := (hm m).1 hms
      have : m ∈ Region.ready md ops listed := by
        refine mem_ready.2 ⟨h0, ops[m], Array.getElem?_eq_getElem hlt, fun e he hb => ?_⟩
        have hlt' := hord m _ (Array.getElem?_eq_getElem hlt) e he hb
        cases hq : listed.getD e.on false with
        | true => rfl
        | false =>
          rw [getD_in (by omega) false true] at hq
          have := hmin _ ((hm e.on).2 ⟨by omega, hq⟩)
          omega
      rw [hr] at this; cases this
    · obtain ⟨h0, oj, hoj, hall⟩ := mem_ready.1 hj
      have hjl : j < ops.size := (Array.getElem?_eq_some_iff.1 hoj).1
      have hjs : j ∈ s := (hm j).2 ⟨hjl, h0⟩
      have lst : ∀ (k : Nat) (i : Nat), listed.getD k false = true → anc i k = true → listed.getD i false = true := by
        intro k
        induction k using Nat.strongRecOn with
        | _ k ihk =>
          intro i hk ha
          obtain ⟨o, ho, e, he, hb, h⟩ := hanc i k ha
          have hel := hdc k o ho hk e he hb
          rcases h with rfl | h
          · exact hel
          · exact ihk _ (hord k o ho e he hb) i hel h
      have hfree : ∀ i ∈ s, anc i j = false := fun i hi => by
        cases ha : anc i j with
        | false => rfl
        | true =>
          exfalso
          obtain ⟨hil, hi0⟩ := (hm i).1 hi
          obtain ⟨o, ho, e, he, hb, h⟩ := hanc i j ha
          rw [hoj] at ho
          obtain rfl := Option.some.inj ho
          have hel := hall e he hb
          have : listed.getD i false = true := by
            rcases h with rfl | h
            · exact hel
            · exact lst _ i hel h
          rw [getD_in (by omega) false true, hi0] at this
          cases this
      have hm' : ∀ k, k ∈ s.erase j ↔ k < ops.size ∧ (listed.setIfInBounds j true).getD k true = false := fun k => by
        rw [hn.mem_erase_iff]
        by_cases hkj : k = j
        · subst hkj
          refine ⟨fun h => absurd rfl h.1, fun h => ?_⟩
          have h2 := h.2
          simp [hz, hjl] at h2
        · rw [getD_set_ne true (Ne.symm hkj), hm k]
          exact ⟨fun h => h.2, fun h => ⟨hkj, h⟩⟩
      have hdc' : ∀ k o, ops[k]? = some o → (listed.setIfInBounds j true).getD k false = true → ∀ e ∈ o.after, Region.binds md e = true → (listed.setIfInBounds j true).getD e.on false = true := fun k o ho hk e he hb => by
        by_cases hkj : k = j
        · subst hkj
          rw [hoj] at ho
          obtain rfl := Option.some.inj ho
          exact getD_set_true (hall e he hb)
        · rw [getD_set_ne false (Ne.symm hkj)] at hk
          exact getD_set_true (hdc k o ho hk e he hb)
      have go : ∀ (D' : World → Prop) (a' : Act) (w' : World), Stab D' → C w' → D' w' → Can C kind va RA P ops Q (s.erase j) D' a' → wpAny P md ops Q' n (listed.setIfInBounds j true) a' w' := fun D' a' w' h1 h2 h3 h4 =>
        ih (s.erase j) _ D' a' w' (by rw [List.length_erase_of_mem hjs]; omega) (hp.sublist (List.erase_sublist)) (hn.erase j) hm' (by simpa using hz) hdc' h1 h2 h3 h4
      obtain ⟨o, ho, hN⟩ := ext C kind va RA anc hsel hC hRA j s D a hp hn hjs hfree hD ⟨w, hcw, hdw⟩ hc
      unfold Nx at hN
      split at hN
      · obtain ⟨v, h1, h2⟩ := hN
        exact (h1 w hcw hdw).wp ho fun u w' ⟨e, hb⟩ => by subst e; exact go D _ w' hD (hC w w' hcw hb) (hD w w' hdw hb) h2
      · exact (hN.1 w hcw).wp ho fun u w' ⟨t, e, hb, hr⟩ => by
          subst e
          have x1 := hC w w' hcw hb
          have x2 := hD w w' hdw hb
          exact go _ _ w' (fun w w' h b => ⟨hD w w' h.1 b, hRA j t w w' h.2 b⟩) x1 ⟨x2, hr⟩ (hN.2 t ⟨w', x1, x2, hr⟩)
      · exact (hN.1 w hcw hdw).wp ho fun u w' ⟨t, e, hb, hr⟩ => by
          subst e
          have x1 := hC w w' hcw hb
          have x2 := hD w w' hdw hb
          exact go _ _ w' (fun w w' h b => ⟨hD w w' h.1 b, hRA j t w w' h.2 b⟩) x1 ⟨x2, hr⟩ (hN.2 t ⟨w', x1, x2, hr⟩)
      · obtain ⟨D', k0, v, h1, h2⟩ := hN
        exact (h1 w hcw hdw).wp ho fun u w' ⟨e, x1, x2⟩ => by subst e; exact go D' _ w' k0 x1 x2 h2
      · obtain ⟨D', k0, k1, v, h1, h2⟩ := hN
        exact (h1 w hcw hdw).wp ho fun u w' ⟨e, x1, x2⟩ => by subst e; exact go D' _ w' k0 x1 x2 h2
end
end Go.Proofs.YtkffmaeiplgjeaaGreatDoor.RegR
/- Words of this session's own proofs: blocks of the call's own, told whole; slices that read as lists. -/
namespace Go.Proofs.YtkffmaeiplgjeaaGreatDoor.MemL
open Go.RowKit
set_option linter.unusedVariables false
/-- block b holds these cells, and may be written -/
def Bx (w : World) (b : Nat) (c : Array Value) : Prop := ∃ T, w.heap[b]? = some (.cells c T (0, 0))
theorem Bx.lt {w : World} {b : Nat} {c : Array Value} (h : Bx w b c) : b < w.heap.size := by
  obtain ⟨T, h⟩ := h
  rcases Nat.lt_or_ge b w.heap.size with k | k
  · exact k
  · rw [Array.getElem?_eq_none k] at h; cases h
theorem Bx.cell {w : World} {b : Nat} {c : Array Value} (h : Bx w b c) : ∀ i, w.cell? ⟨b, i, none⟩ = c[i]? := fun i => by
  obtain ⟨T, h⟩ := h; unfold World.cell?; simp [h]
theorem Bx.free {w : World} {b : Nat} {c : Array Value} (h : Bx w b c) : ∀ i, w.frozen? ⟨b, i, none⟩ = false := fun i => by
  obtain ⟨T, h⟩ := h; unfold World.frozen?; simp [h]
theorem Bx.of_below {w w' : World} {b n : Nat} {c : Array Value} (h : Bx w b c) (hb : Below n w w') (hn : b < n) : Bx w' b c := by
  obtain ⟨T, h⟩ := h; exact ⟨T, (hb.block b hn).trans h⟩
theorem Bx.below {w w' : World} {b : Nat} {c : Array Value} (h : Bx w b c) (hb : Below w.heap.size w w') : Bx w' b c := h.of_below hb h.lt
theorem Bx.drewN {w : World} {b n : Nat} {c : Array Value} (h : Bx w b c) : Bx (w.drewN n) b c := h
theorem Bx.drew {w : World} {b : Nat} {c : Array Value} (h : Bx w b c) : Bx w.drew b c := h
theorem Bx.alloc {w : World} {b : Nat} {c : Array Value} {o : Obj} (h : Bx w b c) : Bx (w.alloc o) b c := by
  have k := h.lt
  obtain ⟨T, h⟩ := h
  exact ⟨T, by show (w.heap.push o)[b]? = _; rw [Array.getElem?_push, if_neg (by omega)]; exact h⟩
theorem Bx.new {w : World} {c : Array Value} {T : TypeId} : Bx (w.alloc (.cells c T)) w.heap.size c :=
  ⟨T, by show (w.heap.push _)[w.heap.size]? = _; rw [Array.getElem?_push, if_pos rfl]⟩
theorem Bx.set_far {w : World} {b d i : Nat} {c : Array Value} {v : Value} (h : Bx w b c) (hne : d ≠ b) : Bx (w.setCell ⟨d, i, none⟩ v) b c := by
  obtain ⟨T, h⟩ := h
  exact ⟨T, by simp only [World.setCell, Array.getElem?_modify]; rw [if_neg hne]; exact h⟩
theorem Bx.set_same {w : World} {b i : Nat} {c : Array Value} {v : Value} (h : Bx w b c) : Bx (w.setCell ⟨b, i, none⟩ v) b (c.setIfInBounds i v) := by
  obtain ⟨T, h⟩ := h
  exact ⟨T, by simp [World.setCell, Array.getElem?_modify, h]⟩
theorem Bx.cast {w : World} {b : Nat} {c d : Array Value} (h : Bx w b c) (e : c = d) : Bx w b d := e ▸ h
theorem Bx.row_same {w : World} {b : Nat} {c d : Array Value} (h : Bx w b c) : Bx (w.setRow b d) b d := by
  obtain ⟨T, h⟩ := h; exact ⟨T, setRow_heap w b c d T (0, 0) h⟩
theorem Bx.row_far {w : World} {b g : Nat} {c d : Array Value} (h : Bx w b c) (hne : g ≠ b) : Bx (w.setRow g d) b c := by
  obtain ⟨T, h⟩ := h
  exact ⟨T, by unfold World.setRow; simp only [Array.getElem?_modify]; rw [if_neg hne]; exact h⟩
theorem below_row {n g : Nat} {w0 w : World} (h : Below n w0 w) (hg : n ≤ g) (d : Array Value) : Below n w0 (w.setRow g d) :=
  h.trans ⟨rfl, rfl, rfl, by simp [World.setRow], fun k hk => by unfold World.setRow; simp only [Array.getElem?_modify]; rw [if_neg (by omega)]⟩
/-- a slice value of n elements, each of so many cells, that reads as these cells -/
def Sl (w : World) (v : Value) (n size : Nat) (xs : List Value) : Prop :=
  xs.length = n * size ∧ ((v = .slice none 0 0 ∧ n = 0) ∨ ∃ b o cap, v = .slice (some ⟨b, o, none⟩) n cap ∧ b < w.heap.size ∧ n ≤ cap ∧ cap ≤ maxLen ∧ ∀ i, i < n * size → w.cell? ⟨b, o + i, none⟩ = xs[i]?)
theorem Sl.below {w w' : World} {v : Value} {n size : Nat} {xs : List Value} (h : Sl w v n size xs) (hb : Below w.heap.size w w') : Sl w' v n size xs := by
  obtain ⟨h1, h2⟩ := h
  refine ⟨h1, ?_⟩
  rcases h2 with h2 | ⟨b, o, cap, e, l, h3, h4, h5⟩
  · exact .inl h2
  · exact .inr ⟨b, o, cap, e, Nat.lt_of_lt_of_le l hb.size, h3, h4, fun i hi => (hb.cell (p := ⟨b, o + i, none⟩) l).trans (h5 i hi)⟩
theorem Sl.of_owns {w : World} {base e size n : Nat} {v : Value} {xs : List Value} (h : w.ownsRow base e size v n xs) : Sl w v n size xs := by
  obtain ⟨h1, h2⟩ := h
  refine ⟨h1, ?_⟩
  rcases h2 with h2 | ⟨g, cap, cur, rfl, hb, hh, h3, h4, h5, h6⟩
  · exact .inl h2
  · refine .inr ⟨g, 0, cap, rfl, (Bx.lt ⟨e, hh⟩), h3, h4, fun i hi => ?_⟩
    rw [Nat.zero_add, (Bx.cell ⟨e, hh⟩ : _) i, ← h6, List.getElem?_take_of_lt hi, Array.getElem?_toList]
/-- a world is given a name -/
theorem gen {P : Program} {Q : Exit → Act → World → Prop} {a : Act} {w : World} {c : Code} {F : World → Prop} (hF : F w) (h : ∀ w', F w' → c.wp P Q a w') : c.wp P Q a w := h w hF
end Go.Proofs.YtkffmaeiplgjeaaGreatDoor.MemL
/- The rule for regions that draw their order, with its closed look; how it is walked. -/
namespace Go.Proofs.YtkffmaeiplgjeaaGreatDoor.RegR
open Go.RowKit Go.Proofs.YtkffmaeiplgjeaaGreatDoor.MemL
set_option linter.unusedVariables false
set_option linter.unusedSimpArgs false
/-- whom an operation waits for, as bits -/
def tabOf (md : Region.Mode) (ops : Array Oper) : Array Nat :=
  ops.foldl (init := #[]) fun acc o => acc.push (o.after.foldl (fun s e => if Region.binds md e then s ||| 2 ^ e.on ||| acc.getD e.on 0 else s) 0)
def ancOf (tab : Array Nat) (i j : Nat) : Bool := (tab.getD j 0).testBit i
def kindOf (ks : List Nat) (i : Nat) : Nat := ks.getD i 0
def relB (ops : Array Oper) (tab : Array Nat) (ks : List Nat) (i j : Nat) : Bool :=
  ancOf tab i j || ((match ops[i]?, ops[j]? with | some o, some p => o.apart ops p | _, _ => true) && kindOf ks j != 3 && (kindOf ks i == 0 || (kindOf ks i == 1 && kindOf ks j == 1)))
def pwB (r : Nat → Nat → Bool) : List Nat → Bool
  | [] => true
  | i :: s => s.all (fun j => r i j) && pwB r s
def distinct : List Nat → Bool
  | [] => true
  | i :: s => s.all (fun j => i != j) && distinct s
def chkB (md : Region.Mode) (ops : Array Oper) (tab : Array Nat) (ks s : List Nat) : Bool :=
  Region.noSelect ops &&
  ((List.range ops.size).all fun j => match ops[j]? with | some o => o.after.all (fun e => !Region.binds md e || decide (e.on < j)) | none => true) &&
  (decide (tab.size = ops.size) && (List.range ops.size).all fun j => match ops[j]? with | some o => tab.getD j 0 == o.after.foldl (fun s e => if Region.binds md e then s ||| 2 ^ e.on ||| tab.getD e.on 0 else s) 0 | none => true) &&
  (decide (s.length = ops.size) && s.all (fun k => decide (k < ops.size)) && (List.range ops.size).all (fun k => s.contains k) && distinct s) &&
  pwB (relB ops tab ks) s
theorem fold_bit (md : Region.Mode) (tab : Array Nat) (i : Nat) : ∀ (l : List Edge) (s : Nat), (l.foldl (fun s e => if Region.binds md e then s ||| 2 ^ e.on ||| tab.getD e.on 0 else s) s).testBit i = true →
    s.testBit i = true ∨ ∃ e ∈ l, Region.binds md e = true ∧ (e.on = i ∨ (tab.getD e.on 0).testBit i = true)
  | [], s, h => .inl h
  | e :: l, s, h => by
    simp only [List.foldl_cons] at h
    rcases fold_bit md tab i l _ h with h | ⟨e', he, hb, h⟩
    · split at h
      · rename_i hb
        simp only [Nat.testBit_or, Bool.or_eq_true] at h
        rcases h with (h | h) | h
        · exact .inl h
        · refine .inr ⟨e, by simp, hb, .inl ?_⟩
          rw [Nat.testBit_two_pow] at h; simpa using h
        · exact .inr ⟨e, by simp, hb, .inr h⟩
      · exact .inl h
    · exact .inr ⟨e', List.mem_cons_of_mem _ he, hb, h⟩
theorem pw_spec {r : Nat → Nat → Bool} {R : Nat → Nat → Prop} (h : ∀ i j, r i j = true → R i j) : ∀ (s : List Nat), pwB r s = true → s.Pairwise R
  | [], _ => .nil
  | i :: s, hp => by
    simp only [pwB, Bool.and_eq_true, List.all_eq_true] at hp
    exact .cons (fun j hj => h i j (hp.1 j hj)) (pw_spec h s hp.2)
theorem distinct_spec : ∀ (s : List Nat), distinct s = true → s.Nodup
  | [], _ => .nil
  | i :: s, h => by
    simp only [distinct, Bool.and_eq_true, List.all_eq_true] at h
    exact List.nodup_cons.2 ⟨fun hi => by have := h.1 i hi; simp at this, distinct_spec s h.2⟩
theorem rep_true {n k : Nat} (h : k < n) : (Array.replicate n false).getD k true = false := by
  simp [Array.getD_eq_getD_getElem?, Array.getElem?_replicate, h]
theorem rep_false (n k : Nat) : (Array.replicate n false).getD k false = false := by
  simp only [Array.getD_eq_getD_getElem?, Array.getElem?_replicate]; split <;> rfl
variable {P : Program}
/-- **THE RULE**: a region that draws its order, walked in an order that the prover picks -/
theorem region_from {Θ : Type} {id : Nat} {Q : Exit → Act → World → Prop} {a : Act} {w : World} {l : List Oper} (ks s : List Nat) (C : World → Prop) (va : Nat → Θ → Value) (RA : Nat → Θ → World → Prop)
    (hm : P.follows .mixedOrders = true) (hB : chkB .any l.toArray (tabOf .any l.toArray) ks s = true) (hC : Stab C) (hRA : ∀ i t, Stab (RA i t)) (hw : C w.drew) (D0 : World → Prop) (hD0 : Stab D0) (hd : D0 w.drew)
    (h : Can C (kindOf ks) va RA P l.toArray (fun a w => Q .normal a w) s D0 a) : (Code.region id l.toArray true).wp P Q a w := by
  simp only [chkB, Bool.and_eq_true] at hB
  obtain ⟨⟨⟨⟨b1, b2⟩, b3, b4⟩, ⟨⟨b5, b6⟩, b7⟩, b8⟩, b9⟩ := hB
  refine wp_region_any hm ?_
  have b5' : s.length = l.toArray.size := of_decide_eq_true b5
  have key := any_of_can (P := P) (ops := l.toArray) C (kindOf ks) va RA .any (ancOf (tabOf .any l.toArray)) (Q := fun a w => Q .normal a w) (Q' := Q) (fun _ _ h => h) (Region.noSelect_spec b1) hC hRA
    (fun j o ho e he hb => by
      have := List.all_eq_true.1 b2 j (by simpa using (Array.getElem?_eq_some_iff.1 ho).1)
      simp only [ho] at this
      have := Array.all_eq_true_iff_forall_mem.1 this e he
      simpa [hb] using this)
    (fun i j ha => by
      unfold ancOf at ha
      have hj : j < l.toArray.size := by
        rcases Nat.lt_or_ge j (tabOf .any l.toArray).size with h | h
        · rw [← of_decide_eq_true b3]; exact h
        · simp [Array.getElem?_eq_none h] at ha
      have ho := Array.getElem?_eq_getElem hj
      have := List.all_eq_true.1 b4 j (by simpa using hj)
      simp only [ho] at this
      rw [beq_iff_eq.1 this, ← Array.foldl_toList] at ha
      rcases fold_bit _ _ _ _ _ ha with h | ⟨e, he, hb, h⟩
      · simp at h
      · exact ⟨_, ho, e, by simpa using he, hb, h⟩)
    l.toArray.size s (Array.replicate l.toArray.size false) D0 a w.drew b5'
    (pw_spec (fun i j hr => by
      unfold relB at hr
      simp only [Bool.or_eq_true, Bool.and_eq_true] at hr
      rcases hr with h | ⟨⟨h1, h3⟩, h2⟩
      · exact .inl h
      · refine .inr ⟨fun o p ho hp => by simpa only [ho, hp] using h1, by simpa using h3, ?_⟩
        rcases h2 with h | ⟨h, h'⟩
        · exact .inl (beq_iff_eq.1 h)
        · exact .inr ⟨beq_iff_eq.1 h, beq_iff_eq.1 h'⟩) s b9)
    (distinct_spec s b8)
    (fun k => ⟨fun hk => by
        have := of_decide_eq_true (List.all_eq_true.1 b6 k hk)
        exact ⟨this, rep_true this⟩,
      fun hk => by
        have := List.all_eq_true.1 b7 k (by simpa using hk.1)
        simpa using this⟩)
    (by simp) (fun j o ho h => by rw [rep_false] at h; cases h)
    hD0 hw hd h
  exact key
theorem region {Θ : Type} {id : Nat} {Q : Exit → Act → World → Prop} {a : Act} {w : World} {l : List Oper} (ks s : List Nat) (C : World → Prop) (va : Nat → Θ → Value) (RA : Nat → Θ → World → Prop)
    (hm : P.follows .mixedOrders = true) (hB : chkB .any l.toArray (tabOf .any l.toArray) ks s = true) (hC : Stab C) (hRA : ∀ i t, Stab (RA i t)) (hw : C w.drew)
    (h : Can C (kindOf ks) va RA P l.toArray (fun a w => Q .normal a w) s (fun _ => True) a) : (Code.region id l.toArray true).wp P Q a w :=
  region_from ks s C va RA hm hB hC hRA hw (fun _ => True) (fun _ _ _ _ => trivial) trivial h
section
variable {ops : Array Oper} {Θ : Type} {C : World → Prop} {kind : Nat → Nat} {va : Nat → Θ → Value} {RA : Nat → Θ → World → Prop} {Q : Act → World → Prop} {i : Nat} {s : List Nat} {D : World → Prop} {a : Act}
/-- an operation of one value -/
theorem can0 (o : Oper) (ho : ops[i]? = some o) (hk : kind i = 0)
    (h : ∀ K : Act → Prop, (∀ a, Can C kind va RA P ops Q s D a → K a) → if Region.wanted o (yielded ops a.tmps) then ∃ v, (∀ w, C w → D w → o.quietAt P a (fun w'' => Below w.heap.size w w'') w v) ∧ K (a.put o.dst v) else K (a.put o.dst undef)) :
    Can C kind va RA P ops Q (i :: s) D a := by
  have := h _ (fun _ h => h)
  simp only [Can]
  refine ⟨o, ho, ?_⟩
  unfold Nx
  rw [hk]
  split at this
  · rename_i hw
    obtain ⟨v, h1, h2⟩ := this
    refine ⟨v, fun w hc hd => .inl ⟨hw, ?_⟩, h2⟩
    have h3 := h1 w hc hd
    unfold Oper.quietAt at h3
    generalize (execOp a.eval o).run P w = r at *
    cases r with
    | ok n w' =>
      cases n <;> simp only [Oper.quietUpon] at h3 <;> simp only [Out]
      case value u => obtain ⟨e1, e2⟩ := h3; subst e1; subst e2; exact ⟨rfl, Below.refl _ _⟩
      case skip => obtain ⟨e1, e2⟩ := h3; first | (subst e2; exact ⟨e1, Below.refl _ _⟩) | (subst e1; exact ⟨e2, Below.refl _ _⟩) | (subst e1; exact ⟨e2.symm, Below.refl _ _⟩) | (subst e2; exact ⟨e1.symm, Below.refl _ _⟩)
      case enter f args => obtain ⟨e1, e2⟩ := h3; subst e1; exact e2.mono fun e w'' ⟨x1, x2⟩ => ⟨_, x1, rfl, x2⟩
    | halt x w' => simp only [Oper.quietUpon] at h3
  · rename_i hw
    exact ⟨undef, fun w hc hd => .inr ⟨by simpa using hw, rfl, Below.refl _ _⟩, this⟩
/-- an alloc -/
theorem can1_alloc (o : Oper) (ho : ops[i]? = some o) (hk : kind i = 1) (hg : o.guard = none) (z : Array Value) (T : TypeId) (n0 : Nat) (hC : ∀ w, C w → n0 ≤ w.heap.size)
    (hrun : ∀ w, (execOp a.eval o).run P w = .ok (.value (.pointer (some ⟨w.heap.size, 0, none⟩))) (w.alloc (.cells z T)))
    (va : Nat → Nat → Value) (RA : Nat → Nat → World → Prop) (hva : ∀ n, va i n = .pointer (some ⟨n, 0, none⟩)) (hRA : ∀ n w, RA i n w ↔ n0 ≤ n ∧ ∃ c : Array Value, c.size = z.size ∧ Bx w n c)
    (h : ∀ n, n0 ≤ n → Can C kind va RA P ops Q s (fun w => D w ∧ RA i n w) (a.put o.dst (.pointer (some ⟨n, 0, none⟩)))) :
    Can C kind va RA P ops Q (i :: s) D a := by
  simp only [Can]
  refine ⟨o, ho, ?_⟩
  unfold Nx
  rw [hk]
  refine ⟨fun w hc => .inl ⟨by simp [Region.wanted, hg], ?_⟩, fun n hn => ?_⟩
  · rw [hrun w]
    exact ⟨w.heap.size, (hva _).symm, (Below.refl _ _).alloc (Nat.le_refl _) _, (hRA _ _).2 ⟨hC w hc, z, rfl, Bx.new⟩⟩
  · obtain ⟨w, _, _, hr⟩ := hn
    rw [hva]
    exact h n ((hRA n w).1 hr).1
/-- a call that hands back what a relation tells -/
theorem can1_call (o : Oper) (ho : ops[i]? = some o) (hk : kind i = 1) (hg : o.guard = none) (f : FuncId) (args : Array Value) (hrun : ∀ w, (execOp a.eval o).run P w = .ok (.enter f args) w)
    (hcall : ∀ w, C w → Calls P f args w (fun e w' => ∃ t, e = .returned (va i t) ∧ Below w.heap.size w w' ∧ RA i t w'))
    (h : ∀ t, Can C kind va RA P ops Q s (fun w => D w ∧ RA i t w) (a.put o.dst (va i t))) :
    Can C kind va RA P ops Q (i :: s) D a := by
  simp only [Can]
  refine ⟨o, ho, ?_⟩
  unfold Nx
  rw [hk]
  refine ⟨fun w hc => .inl ⟨by simp [Region.wanted, hg], ?_⟩, fun t _ => h t⟩
  rw [hrun w]
  exact (hcall w hc).mono fun e w' ⟨t, e1, e2, e3⟩ => ⟨_, e1, t, rfl, e2, e3⟩
/-- a call that hands back what a relation tells, which leans on what stands ahead -/
theorem can4_call (o : Oper) (ho : ops[i]? = some o) (hk : kind i = 4) (hg : o.guard = none) (f : FuncId) (args : Array Value) (hrun : ∀ w, (execOp a.eval o).run P w = .ok (.enter f args) w)
    (hcall : ∀ w, C w → D w → Calls P f args w (fun e w' => ∃ t, e = .returned (va i t) ∧ Below w.heap.size w w' ∧ RA i t w'))
    (h : ∀ t, Can C kind va RA P ops Q s (fun w => D w ∧ RA i t w) (a.put o.dst (va i t))) :
    Can C kind va RA P ops Q (i :: s) D a := by
  simp only [Can]
  refine ⟨o, ho, ?_⟩
  unfold Nx
  rw [hk]
  refine ⟨fun w hc hd => .inl ⟨by simp [Region.wanted, hg], ?_⟩, fun t _ => h t⟩
  rw [hrun w]
  exact (hcall w hc hd).mono fun e w' ⟨t, e1, e2, e3⟩ => ⟨_, e1, t, rfl, e2, e3⟩
/-- an operation that makes memory: what comes of it is told by a relation -/
theorem can1_run (o : Oper) (ho : ops[i]? = some o) (hk : kind i = 1) (hg : o.guard = none)
    (hrun : ∀ w, C w → ∃ t w', (execOp a.eval o).run P w = .ok (.value (va i t)) w' ∧ Below w.heap.size w w' ∧ RA i t w')
    (h : ∀ t, (∃ w, C w ∧ D w ∧ RA i t w) → Can C kind va RA P ops Q s (fun w => D w ∧ RA i t w) (a.put o.dst (va i t))) :
    Can C kind va RA P ops Q (i :: s) D a := by
  simp only [Can]
  refine ⟨o, ho, ?_⟩
  unfold Nx
  rw [hk]
  refine ⟨fun w hc => .inl ⟨by simp [Region.wanted, hg], ?_⟩, h⟩
  obtain ⟨t, w', e, e2, e3⟩ := hrun w hc
  rw [e]
  exact ⟨t, rfl, e2, e3⟩
/-- a store, or whatever waits for all that have relations of their own -/
theorem can2 (o : Oper) (ho : ops[i]? = some o) (hk : kind i = 2) (hg : o.guard = none) (D' : World → Prop) (hD' : Stab D') (hsub : ∀ w, D' w → D w)
    (hrun : ∀ w, C w → D w → ∃ w', (execOp a.eval o).run P w = .ok .skip w' ∧ C w' ∧ D' w')
    (h : Can C kind va RA P ops Q s D' (a.put o.dst undef)) : Can C kind va RA P ops Q (i :: s) D a := by
  simp only [Can]
  refine ⟨o, ho, ?_⟩
  unfold Nx
  rw [hk]
  refine ⟨D', hD', hsub, undef, fun w hc hd => .inl ⟨by simp [Region.wanted, hg], ?_⟩, h⟩
  obtain ⟨w', e, h1, h2⟩ := hrun w hc hd
  rw [e]
  exact ⟨rfl, h1, h2⟩
/-- whatever waits for all that stands ahead -/
theorem can3 (o : Oper) (ho : ops[i]? = some o) (hk : kind i = 3) (hg : o.guard = none) (v : Value) (D' : World → Prop) (hD' : Stab D')
    (hrun : ∀ w, C w → D w → ∃ w', (execOp a.eval o).run P w = .ok (.value v) w' ∧ C w' ∧ D' w')
    (h : Can C kind va RA P ops Q s D' (a.put o.dst v)) : Can C kind va RA P ops Q (i :: s) D a := by
  simp only [Can]
  refine ⟨o, ho, ?_⟩
  unfold Nx
  rw [hk]
  refine ⟨D', hD', v, fun w hc hd => .inl ⟨by simp [Region.wanted, hg], ?_⟩, h⟩
  obtain ⟨w', e, h1, h2⟩ := hrun w hc hd
  rw [e]
  exact ⟨rfl, h1, h2⟩
/-- a store that waits for all that stands ahead -/
theorem can3s (o : Oper) (ho : ops[i]? = some o) (hk : kind i = 3) (hg : o.guard = none) (hdst : o.dst = none) (D' : World → Prop) (hD' : Stab D')
    (hrun : ∀ w, C w → D w → ∃ w', (execOp a.eval o).run P w = .ok .skip w' ∧ C w' ∧ D' w')
    (h : Can C kind va RA P ops Q s D' a) : Can C kind va RA P ops Q (i :: s) D a := by
  simp only [Can]
  refine ⟨o, ho, ?_⟩
  unfold Nx
  rw [hk]
  refine ⟨D', hD', undef, fun w hc hd => .inl ⟨by simp [Region.wanted, hg], ?_⟩, by rw [hdst]; exact h⟩
  obtain ⟨w', e, h1, h2⟩ := hrun w hc hd
  rw [e]
  exact ⟨rfl, h1, h2⟩
/-- an append with room, behind all that stands ahead -/
theorem can3_append (o : Oper) (ho : ops[i]? = some o) (hk : kind i = 3) (hg : o.guard = none) (x y : Operand) (t : TypeId) (hop : o.op = .call { callee := .builtin .append, args := #[x, y], argTypes := #[t, t] })
    (e : TypeId) (inf : TypeInfo) (size : Nat) (h1 : P.underlying t = some (.slice e)) (h2 : P.info? e = some inf) (h4 : inf.size = size) (b off n cap : Nat) (hx : a.eval x = .slice (some ⟨b, off, none⟩) n cap)
    (ad : Addr) (m c : Nat) (news : List Value) (hy : a.eval y = .slice (some ad) m c) (hn : news.length = m * size) (h1c : ∀ u ∈ news, u.oneCell' = true) (hroom : n + m ≤ cap) (D' : World → Prop) (hD' : Stab D')
    (hmem : ∀ w, C w → D w → (∀ j u, news[j]? = some u → w.cell? (ad.add j) = some u) ∧ ∀ j, j < news.length → (w.cell? ⟨b, off + n * size + j, none⟩).isSome = true ∧ w.frozen? ⟨b, off + n * size + j, none⟩ = false)
    (hpost : ∀ w, C w → D w → C (w.setCells b (off + n * size) news) ∧ D' (w.setCells b (off + n * size) news))
    (h : Can C kind va RA P ops Q s D' (a.put o.dst (.slice (some ⟨b, off, none⟩) (n + m) cap))) : Can C kind va RA P ops Q (i :: s) D a := by
  refine can3 o ho hk hg _ D' hD' (fun w hc hd => ?_) h
  obtain ⟨m1, m2⟩ := hmem w hc hd
  obtain ⟨p1, p2⟩ := hpost w hc hd
  refine ⟨_, ?_, p1, p2⟩
  subst h4
  have hrun := run_append_room_cells (P := P) w t o.type e inf h1 h2 b off n cap ad m c news hn m1 h1c hroom (fun j hj => (m2 j hj).1) (fun j hj => (m2 j hj).2)
  simp [execOp, hop, resolve, invoke, builtin, hx, hy, hrun, Result.andThen]
/-- a copy, behind all that stands ahead -/
theorem can3_copy (o : Oper) (ho : ops[i]? = some o) (hk : kind i = 3) (hg : o.guard = none) (x y : Operand) (t t' : TypeId) (hop : o.op = .call { callee := .builtin .copy, args := #[x, y], argTypes := #[t, t'] })
    (u v r : Value) (hx : a.eval x = u) (hy : a.eval y = v) (D' : World → Prop) (hD' : Stab D')
    (hrun : ∀ w, C w → D w → ∃ w', (Builtin.copy_ #[t, t'] o.type #[u, v]).run P w = .ok r w' ∧ C w' ∧ D' w')
    (h : Can C kind va RA P ops Q s D' (a.put o.dst r)) : Can C kind va RA P ops Q (i :: s) D a := by
  refine can3 o ho hk hg _ D' hD' (fun w hc hd => ?_) h
  obtain ⟨w', e, p1, p2⟩ := hrun w hc hd
  refine ⟨w', ?_, p1, p2⟩
  simp [execOp, hop, resolve, invoke, builtin, hx, hy, e, Result.andThen]
/-- a store of a whole struct into a block of the call's own -/
theorem can2_store (o : Oper) (ho : ops[i]? = some o) (hk : kind i = 2) (hg : o.guard = none) (ty : TypeId) (x y : Operand) (hop : o.op = .store ty x y) (n : Nat) (cells : Array Value)
    (hx : a.eval x = .pointer (some ⟨n, 0, none⟩)) (hy : a.eval y = .agg cells) (hi : (P.info? ty).map (·.size) = some cells.size) (h1 : cells.all (·.oneCell') = true) (hdst : o.dst = none)
    (hD : Stab D) (hb : ∀ w, D w → ∃ c : Array Value, c.size = cells.size ∧ Bx w n c) (hDs : ∀ w, D w → D (w.setRow n cells)) (hCs : ∀ w, C w → C (w.setRow n cells))
    (h : Can C kind va RA P ops Q s (fun w => D w ∧ Bx w n cells) a) : Can C kind va RA P ops Q (i :: s) D a := by
  refine can2 o ho hk hg (fun w => D w ∧ Bx w n cells) (fun w w' h b => ⟨hD w w' h.1 b, h.2.below b⟩) (fun w h => h.1) (fun w hc hd => ?_) (by rw [hdst]; exact h)
  obtain ⟨c, hs, hb'⟩ := hb w hd
  have hb2 := hb'
  obtain ⟨T, hb'⟩ := hb'
  refine ⟨w.setRow n cells, ?_, hCs w hc, hDs w hd, hb2.row_same⟩
  unfold execOp
  simp only [hop, hx, hy, Instr.storeAt, Instr.sureAddr, Sem.run_bind, Sem.run_pure, Result.andThen_ok, run_storeVar_row w n T ty c cells hb' hi hs h1]
theorem stab_below (n : Nat) (w0 : World) (hn : n = w0.heap.size) : Stab (fun w => Below n w0 w) := fun w w' h b => by subst hn; exact h.trans (b.mono h.size)
theorem stab_shape (n0 : Nat) (k : Nat) (n : Nat) : Stab (fun w => n0 ≤ n ∧ ∃ c : Array Value, c.size = k ∧ Bx w n c) := fun w w' h b => by
  obtain ⟨h0, c, h1, h2⟩ := h; exact ⟨h0, c, h1, h2.below b⟩
end
end Go.Proofs.YtkffmaeiplgjeaaGreatDoor.RegR
