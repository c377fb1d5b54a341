/- A rule for regions that draw their order, of this session's own: operations of one value, operations whose outcome is told by a relation (an alloc, a call that hands back new memory), and stores; one walk of an order that the prover picks serves every order. -/
import Derived.Below
import Derived.Orders
import Derived.Deep.Quiet
namespace Go.Proofs.YtjgnckhbafgalaaDoor.RegR
open Go.RowKit
set_option linter.unusedVariables false
set_option linter.unusedSimpArgs false
section
variable {P : Program} {ops : Array Oper}
/-- what comes of an operation: a value and a world -/
def Out (P : Program) (R : Value → World → Prop) : Result Next → Prop
  | .ok (.value u) w' => R u w'
  | .ok .skip w' => R undef w'
  | .ok (.enter f args) w' => Calls P f args w' (fun e w'' => ∃ v, e = .returned v ∧ R v w'')
  | _ => False
theorem Out.mono {R R' : Value → World → Prop} (h : ∀ v w, R v w → R' v w) {r : Result Next} (k : Out P R r) : Out P R' r := by
  cases r with
  | ok n w' =>
    cases n <;> simp only [Out] at k ⊢
    case value u => exact h _ _ k
    case skip => exact h _ _ k
    case enter f args => exact k.mono fun e w'' ⟨v, he, hv⟩ => ⟨v, he, h _ _ hv⟩
  | halt x w' => simp only [Out] at k
theorem Out.ex {R : Value → World → Prop} {r : Result Next} (k : Out P R r) : ∃ v w', R v w' := by
  cases r with
  | ok n w' =>
    cases n <;> simp only [Out] at k
    case value u => exact ⟨_, _, k⟩
    case skip => exact ⟨_, _, k⟩
    case enter f args => obtain ⟨e, w'', fr, ⟨v, _, hv⟩, _⟩ := k []; exact ⟨v, w'', hv⟩
  | halt x w' => simp only [Out] at k
/-- an operation, asked for or not -/
def Step (P : Program) (ops : Array Oper) (o : Oper) (a : Act) (w : World) (R : Value → World → Prop) : Prop :=
  (Region.wanted o (yielded ops a.tmps) = true ∧ Out P R ((execOp a.eval o).run P w)) ∨ (Region.wanted o (yielded ops a.tmps) = false ∧ R undef w)
theorem Step.mono {o : Oper} {a : Act} {w : World} {R R' : Value → World → Prop} (h : ∀ v w, R v w → R' v w) (k : Step P ops o a w R) : Step P ops o a w R' := by
  rcases k with ⟨k1, k2⟩ | ⟨k1, k2⟩
  · exact .inl ⟨k1, k2.mono h⟩
  · exact .inr ⟨k1, h _ _ k2⟩
theorem Step.ex {o : Oper} {a : Act} {w : World} {R : Value → World → Prop} (k : Step P ops o a w R) : ∃ v w', R v w' := by
  rcases k with ⟨k1, k2⟩ | ⟨k1, k2⟩
  · exact k2.ex
  · exact ⟨_, _, k2⟩
theorem Step.wp {o : Oper} {a : Act} {w : World} {i : Nat} {R : Value → World → Prop} {K : Act → World → Prop} {Q : Exit → Act → World → Prop} (ho : ops[i]? = some o) (k : Step P ops o a w R)
    (h : ∀ v w', R v w' → K (a.put o.dst v) w') : wpOp P ops Q i K a w := by
  unfold wpOp
  simp only [ho]
  rcases k with ⟨k1, k2⟩ | ⟨k1, k2⟩
  · simp only [k1, if_true]
    refine .inl ?_
    unfold Oper.wp
    generalize (execOp a.eval o).run P w = r at *
    cases r with
    | ok n w' =>
      cases n <;> simp only [Out] at k2 <;> simp only [Oper.upon]
      case value u => exact h _ _ k2
      case skip => exact h _ _ k2
      case enter f args => exact k2.mono fun e w'' ⟨v, he, hv⟩ => by subst he; exact h _ _ hv
    | halt x w' => simp only [Out] at k2
  · simp only [k1, Bool.false_eq_true, if_false]; exact h _ _ k2
theorem Step.put {o : Oper} (hs : ∀ cs b, o.op ≠ .select cs b) {a : Act} {w : World} {R : Value → World → Prop} {d : Option Tmp} {v : Value} (h : ∀ x, d = some x → x ∉ o.looksAt ops) :
    Step P ops o (a.put d v) w R ↔ Step P ops o a w R := by
  unfold Step
  rw [execOp_put o hs a d v h, wanted_put o a d v h]
/-- it holds on, where memory alone is made -/
def Stab (D : World → Prop) : Prop := ∀ w w', D w → Below w.heap.size w w' → D w'
variable {Θ : Type} (C : World → Prop) (kind : Nat → Nat) (va : Nat → Θ → Value) (RA : Nat → Θ → World → Prop)
/-- the next operation of the picked order: of one value (0), with a relation of its own (1), or one that waits for all such that stand ahead (2) -/
def Nx (P : Program) (ops : Array Oper) (i : Nat) (o : Oper) (D : World → Prop) (a : Act) (K : (World → Prop) → Act → Prop) : Prop :=
  match kind i with
  | 0 => ∃ v, (∀ w, C w → D w → Step P ops o a w (fun u w' => u = v ∧ Below w.heap.size w w')) ∧ K D (a.put o.dst v)
  | 1 => (∀ w, C w → Step P ops o a w (fun u w' => ∃ t, u = va i t ∧ Below w.heap.size w w' ∧ RA i t w')) ∧ ∀ t, (∃ w, C w ∧ D w ∧ RA i t w) → K (fun w => D w ∧ RA i t w) (a.put o.dst (va i t))
  | _ => ∃ D' : World → Prop, Stab D' ∧ (∀ w, D' w → D w) ∧ ∃ v, (∀ w, C w → D w → Step P ops o a w (fun u w' => u = v ∧ C w' ∧ D' w')) ∧ K D' (a.put o.dst v)
def Can (P : Program) (ops : Array Oper) (Q : Act → World → Prop) : List Nat → (World → Prop) → Act → Prop
  | [], D, a => ∀ w, C w → D w → Q a w
  | i :: s, D, a => ∃ o, ops[i]? = some o ∧ Nx C kind va RA P ops i o D a (Can P ops Q s)
theorem Nx.mono {i : Nat} {o : Oper} {D : World → Prop} {a : Act} {K K' : (World → Prop) → Act → Prop} (h : ∀ D a, K D a → K' D a) (k : Nx C kind va RA P ops i o D a K) : Nx C kind va RA P ops i o D a K' := by
  unfold Nx at *
  split at k
  · obtain ⟨v, k1, k2⟩ := k; exact ⟨v, k1, h _ _ k2⟩
  · exact ⟨k.1, fun t ht => h _ _ (k.2 t ht)⟩
  · obtain ⟨D', k0, k3, v, k1, k2⟩ := k; exact ⟨D', k0, k3, v, k1, h _ _ k2⟩
variable (md : Region.Mode) (anc : Nat → Nat → Bool)
/-- what is asked of two operations, the one ahead of the other in the picked order: the other waits for the one; or they are apart, and the one has one value, or both have relations -/
def Rel (ops : Array Oper) (i j : Nat) : Prop := anc i j = true ∨ ((∀ o p, ops[i]? = some o → ops[j]? = some p → o.apart ops p = true) ∧ (kind i = 0 ∨ (kind i = 1 ∧ kind j = 1)))
theorem ext {Q : Act → World → Prop} (hsel : ∀ (j : Nat) (o : Oper) cs b, ops[j]? = some o → o.op ≠ .select cs b) (hC : Stab C) (hRA : ∀ i t, Stab (RA i t)) (j : Nat) :
    ∀ (s : List Nat) (D : World → Prop) (a : Act), s.Pairwise (Rel kind anc ops) → s.Nodup → j ∈ s → (∀ i ∈ s, anc i j = false) → Stab D → (∃ w, C w ∧ D w) → Can C kind va RA P ops Q s D a →
      ∃ o, ops[j]? = some o ∧ Nx C kind va RA P ops j o D a (fun D' a' => Can C kind va RA P ops Q (s.erase j) D' a')
  | [], _, _, _, _, hj, _, _, _, _ => by cases hj
  | i :: s, D, a, hp, hn, hj, hf, hD, hw, hc => by
    by_cases hij : i = j
    · subst hij
      simp only [Can] at hc
      obtain ⟨o, ho, hN⟩ := hc
      exact ⟨o, ho, Nx.mono C kind va RA (fun D a h => by rw [List.erase_cons_head]; exact h) hN⟩
    · have hjs : j ∈ s := (List.mem_cons.1 hj).resolve_left (fun e => hij e.symm)
      obtain ⟨hp1, hp2⟩ := List.pairwise_cons.1 hp
      obtain ⟨hn1, hn2⟩ := List.nodup_cons.1 hn
      simp only [Can] at hc
      obtain ⟨oi, hoi, hN⟩ := hc
      have hr := (hp1 j hjs).resolve_left (by rw [hf i (by simp)]; simp)
      obtain ⟨hap, hk⟩ := hr
      have hfs : ∀ k ∈ s, anc k j = false := fun k hk => hf k (List.mem_cons_of_mem _ hk)
      have er : (i :: s).erase j = i :: s.erase j := List.erase_cons_tail (by simpa using hij)
      rw [er]
      have ih := fun D a hD hw (hc : Can C kind va RA P ops Q s D a) => ext hsel hC hRA j s D a hp2 hn2 hjs hfs hD hw hc
      -- the one that stands ahead has one value
      by_cases hk0 : kind i = 0
      · unfold Nx at hN
        rw [hk0] at hN
        obtain ⟨vi, hi, hK⟩ := hN
        obtain ⟨oj, hoj, hM⟩ := ih D _ hD hw hK
        obtain ⟨h1, h2, h3⟩ := Oper.apart_spec (hap oi oj hoi hoj)
        refine ⟨oj, hoj, ?_⟩
        have back : ∀ (D' : World → Prop) (u : Value), (∀ w, D' w → D w) → Can C kind va RA P ops Q (s.erase j) D' ((a.put oi.dst vi).put oj.dst u) → Can C kind va RA P ops Q (i :: s.erase j) D' (a.put oj.dst u) := fun D' u hDD hcan => by
          simp only [Can]
          refine ⟨oi, hoi, ?_⟩
          unfold Nx
          rw [hk0]
          exact ⟨vi, fun w hw1 hw2 => (Step.put (hsel i oi · · hoi) h3).2 (hi w hw1 (hDD w hw2)), by rw [← Act.put_comm a vi u h2]; exact hcan⟩
        unfold Nx at hM ⊢
        split at hM
        · obtain ⟨v, m1, m2⟩ := hM
          exact ⟨v, fun w hw1 hw2 => (Step.put (hsel j oj · · hoj) h1).1 (m1 w hw1 hw2), back D v (fun _ h => h) m2⟩
        · exact ⟨fun w hw1 => (Step.put (hsel j oj · · hoj) h1).1 (hM.1 w hw1), fun t ht => back _ _ (fun _ h => h.1) (hM.2 t ht)⟩
        · obtain ⟨D', m0, m3, v, m1, m2⟩ := hM
          exact ⟨D', m0, m3, v, fun w hw1 hw2 => (Step.put (hsel j oj · · hoj) h1).1 (m1 w hw1 hw2), back D' v m3 m2⟩
      · obtain ⟨hi1, hj1⟩ := hk.resolve_left hk0
        unfold Nx at hN
        rw [hi1] at hN
        obtain ⟨hi, hK⟩ := hN
        obtain ⟨w0, hw1, hw2⟩ := hw
        obtain ⟨u0, w1, t0, _, hb0, hr0⟩ := (hi w0 hw1).ex
        have hS : ∀ t, Stab (fun w => D w ∧ RA i t w) := fun t w w' h b => ⟨hD w w' h.1 b, hRA i t w w' h.2 b⟩
        have get := fun t (ht : ∃ w, C w ∧ D w ∧ RA i t w) => ih (fun w => D w ∧ RA i t w) _ (hS t) (by obtain ⟨w, x1, x2, x3⟩ := ht; exact ⟨w, x1, x2, x3⟩) (hK t ht)
        obtain ⟨oj, hoj, hM0⟩ := get t0 ⟨w1, hC w0 w1 hw1 hb0, hD w0 w1 hw2 hb0, hr0⟩
        obtain ⟨h1, h2, h3⟩ := Oper.apart_spec (hap oi oj hoi hoj)
        refine ⟨oj, hoj, ?_⟩
        unfold Nx at hM0 ⊢
        rw [hj1] at hM0 ⊢
        refine ⟨fun w hw => (Step.put (hsel j oj · · hoj) h1).1 (hM0.1 w hw), fun tj htj => ?_⟩
        simp only [Can]
        refine ⟨oi, hoi, ?_⟩
        unfold Nx
        rw [hi1]
        refine ⟨fun w hw => (Step.put (hsel i oi · · hoi) h3).2 (hi w hw), fun ti hti => ?_⟩
        obtain ⟨w2, x1, ⟨x2, x3⟩, x4⟩ := hti
        obtain ⟨oj', hoj', hM⟩ := get ti ⟨w2, x1, x2, x4⟩
        rw [hoj] at hoj'
        obtain rfl := Option.some.inj hoj'
        unfold Nx at hM
        rw [hj1] at hM
        have hK2 := hM.2 tj ⟨w2, x1, ⟨x2, x4⟩, x3⟩
        rw [← Act.put_comm a _ _ h2]
        have e : (fun w => (D w ∧ RA j tj w) ∧ RA i ti w) = (fun w => (D w ∧ RA i ti w) ∧ RA j tj w) := by
          funext w; exact propext ⟨fun h => ⟨⟨h.1.1, h.2⟩, h.1.2⟩, fun h => ⟨⟨h.1.1, h.2⟩, h.1.2⟩⟩
        rw [e]; exact hK2
theorem least : ∀ (s : List Nat), s ≠ [] → ∃ m ∈ s, ∀ k ∈ s, m ≤ k
  | [], h => absurd rfl h
  | [x], _ => ⟨x, by simp, by simp⟩
  | x :: y :: s, _ => by
    obtain ⟨m, hm, hl⟩ := least (y :: s) (by simp)
    by_cases h : x ≤ m
    · exact ⟨x, by simp, fun k hk => by
        rcases List.mem_cons.1 hk with rfl | hk
        · exact Nat.le_refl _
        · exact Nat.le_trans h (hl k hk)⟩
    · exact ⟨m, List.mem_cons_of_mem _ hm, fun k hk => by
        rcases List.mem_cons.1 hk with rfl | hk
        · omega
        · exact hl k hk⟩
theorem getD_in {listed : Array Bool} {k : Nat} (h : k < listed.size) (d d' : Bool) : listed.getD k d = listed.getD k d' := by simp [h]
theorem any_of_can {Q : Act → World → Prop} {Q' : Exit → Act → World → Prop} (hQ : ∀ a w, Q a w → Q' .normal a w) (hsel : ∀ (j : Nat) (o : Oper) cs b, ops[j]? = some o → o.op ≠ .select cs b) (hC : Stab C) (hRA : ∀ i t, Stab (RA i t))
    (hord : ∀ j o, ops[j]? = some o → ∀ e ∈ o.after, Region.binds md e = true → e.on < j)
    (hanc : ∀ i j, anc i j = true → ∃ o, ops[j]? = some o ∧ ∃ e ∈ o.after, Region.binds md e = true ∧ (e.on = i ∨ anc i e.on = true)) :
    ∀ (n : Nat) (s : List Nat) (listed : Array Bool) (D : World → Prop) (a : Act) (w : World), s.length = n → s.Pairwise (Rel kind anc ops) → s.Nodup →
      (∀ k, k ∈ s ↔ k < ops.size ∧ listed.getD k true = false) → listed.size = ops.size →
      (∀ j o, ops[j]? = some o → listed.getD j false = true → ∀ e ∈ o.after, Region.binds md e = true → listed.getD e.on false = true) →
      Stab D → C w → D w → Can C kind va RA P ops Q s D a → wpAny P md ops Q' n listed a w := by
  intro n
  induction n with
  | zero =>
    intro s listed D a w hl hp hn hm hz hdc hD hcw hdw hc
    obtain rfl := List.eq_nil_of_length_eq_zero hl
    refine ⟨List.eq_nil_iff_forall_not_mem.2 fun j hj => ?_, hQ _ _ (by simp only [Can] at hc; exact hc w hcw hdw)⟩
    obtain ⟨h0, o, ho, _⟩ := mem_ready.1 hj
    have := (hm j).2 ⟨(Array.getElem?_eq_some_iff.1 ho).1, h0⟩
    cases this
  | succ n ih =>
    intro s listed D a w hl hp hn hm hz hdc hD hcw hdw hc
    have hne : s ≠ [] := by intro e; rw [e] at hl; cases hl
    refine ⟨fun hr => ?_, fun j hj => ?_⟩
    · exfalso
      obtain ⟨m, hms, hmin⟩ := least s hne
      obtain ⟨hlt, h0⟩ := (hm m).1 hms
      have : m ∈ Region.ready md ops listed := by
        refine mem_ready.2 ⟨h0, ops[m], Array.getElem?_eq_getElem hlt, fun e he hb => ?_⟩
        have hlt' := hord m _ (Array.getElem?_eq_getElem hlt) e he hb
        cases hq : listed.getD e.on false with
        | true => rfl
        | false =>
          rw [getD_in (by omega) false true] at hq
          have := hmin _ ((hm e.on).2 ⟨by omega, hq⟩)
          omega
      rw [hr] at this; cases this
    · obtain ⟨h0, oj, hoj, hall⟩ := mem_ready.1 hj
      have hjl : j < ops.size := (Array.getElem?_eq_some_iff.1 hoj).1
      have hjs : j ∈ s := (hm j).2 ⟨hjl, h0⟩
      have lst : ∀ (k : Nat) (i : Nat), listed.getD k false = true → anc i k = true → listed.getD i false = true := by
        intro k
        induction k using Nat.strongRecOn with
        | _ k ihk =>
          intro i hk ha
          obtain ⟨o, ho, e, he, hb, h⟩ := hanc i k ha
          have hel := hdc k o ho hk e he hb
          rcases h with rfl | h
          · exact hel
          · exact ihk _ (hord k o ho e he hb) i hel h
      have hfree : ∀ i ∈ s, anc i j = false := fun i hi => by
        cases ha : anc i j with
        | false => rfl
        | true =>
          exfalso
          obtain ⟨hil, hi0⟩ := (hm i).1 hi
          obtain ⟨o, ho, e, he, hb, h⟩ := hanc i j ha
          rw [hoj] at ho
          obtain rfl := Option.some.inj ho
          have hel := hall e he hb
          have : listed.getD i false = true := by
            rcases h with rfl | h
            · exact hel
            · exact lst _ i hel h
          rw [getD_in (by omega) false true, hi0] at this
          cases this
      have hm' : ∀ k, k ∈ s.erase j ↔ k < ops.size ∧ (listed.setIfInBounds j true).getD k true = false := fun k => by
        rw [hn.mem_erase_iff]
        by_cases hkj : k = j
        · subst hkj
          refine ⟨fun h => absurd rfl h.1, fun h => ?_⟩
          have h2 := h.2
          simp [hz, hjl] at h2
        · rw [getD_set_ne true (Ne.symm hkj), hm k]
          exact ⟨fun h => h.2, fun h => ⟨hkj, h⟩⟩
      have hdc' : ∀ k o, ops[k]? = some o → (listed.setIfInBounds j true).getD k false = true → ∀ e ∈ o.after, Region.binds md e = true → (listed.setIfInBounds j true).getD e.on false = true := fun k o ho hk e he hb => by
        by_cases hkj : k = j
        · subst hkj
          rw [hoj] at ho
          obtain rfl := Option.some.inj ho
          exact getD_set_true (hall e he hb)
        · rw [getD_set_ne false (Ne.symm hkj)] at hk
          exact getD_set_true (hdc k o ho hk e he hb)
      have go : ∀ (D' : World → Prop) (a' : Act) (w' : World), Stab D' → C w' → D' w' → Can C kind va RA P ops Q (s.erase j) D' a' → wpAny P md ops Q' n (listed.setIfInBounds j true) a' w' := fun D' a' w' h1 h2 h3 h4 =>
        ih (s.erase j) _ D' a' w' (by rw [List.length_erase_of_mem hjs]; omega) (hp.sublist (List.erase_sublist)) (hn.erase j) hm' (by simpa using hz) hdc' h1 h2 h3 h4
      obtain ⟨o, ho, hN⟩ := ext C kind va RA anc hsel hC hRA j s D a hp hn hjs hfree hD ⟨w, hcw, hdw⟩ hc
      unfold Nx at hN
      split at hN
      · obtain ⟨v, h1, h2⟩ := hN
        exact (h1 w hcw hdw).wp ho fun u w' ⟨e, hb⟩ => by subst e; exact go D _ w' hD (hC w w' hcw hb) (hD w w' hdw hb) h2
      · exact (hN.1 w hcw).wp ho fun u w' ⟨t, e, hb, hr⟩ => by
          subst e
          have x1 := hC w w' hcw hb
          have x2 := hD w w' hdw hb
          exact go _ _ w' (fun w w' h b => ⟨hD w w' h.1 b, hRA j t w w' h.2 b⟩) x1 ⟨x2, hr⟩ (hN.2 t ⟨w', x1, x2, hr⟩)
      · obtain ⟨D', k0, k1, v, h1, h2⟩ := hN
        exact (h1 w hcw hdw).wp ho fun u w' ⟨e, x1, x2⟩ => by subst e; exact go D' _ w' k0 x1 x2 h2
end
end Go.Proofs.YtjgnckhbafgalaaDoor.RegR
