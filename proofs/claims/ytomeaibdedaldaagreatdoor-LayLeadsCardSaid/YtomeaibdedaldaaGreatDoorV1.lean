/- Texts of this claim, one behind the other: RegR, MemL, RegR2, AxA, MemL2, AxB, AxC, AxD, AxE, AxF, AxH, AxI, AxG, AxG2, AxG3, AxK, AxL, AxM, AxN. -/
import Derived.Below
import Derived.Orders
import Derived.Deep.Quiet
import Derived.WalkKit
import Derived.OwnWalk
import Derived.Laws.AppendOwn
import Derived.Deep.QuietTactic
import Derived.Laws.Tables
import Derived.ArgAppend
import Derived.OrdersIn
import Derived.Laws.IdiomCopy
import Derived.Deep.MidRow
import Derived.Laws.MakeOwn
import Derived.Laws.OwnMore
import Derived.Maps.AppendAt
import Derived.Deep.LoopGhost
import Derived.Laws.StructEq
import Derived.Great.BuildSlice
set_option linter.unusedVariables false
set_option linter.unusedSimpArgs false
namespace Go.Proofs.YtomeaibdedaldaaGreatDoor.RegR
open Go.RowKit
section
variable {P : Program} {ops : Array Oper}
def Out (P : Program) (R : Value → World → Prop) : Result Next → Prop
  | .ok (.value u) w' => R u w'
  | .ok .skip w' => R undef w'
  | .ok (.enter f args) w' => Calls P f args w' (fun e w'' => ∃ v, e = .returned v ∧ R v w'')
  | _ => False
theorem Out.mono {R R' : Value → World → Prop} (h : ∀ v w, R v w → R' v w) {r : Result Next} (k : Out P R r) : Out P R' r := by
  cases r with
  | ok n w' =>
    cases n <;> simp only [Out] at k ⊢
    case value u => exact h _ _ k
    case skip => exact h _ _ k
    case enter f args => exact k.mono fun e w'' ⟨v, he, hv⟩ => ⟨v, he, h _ _ hv⟩
  | halt x w' => simp only [Out] at k
theorem Out.ex {R : Value → World → Prop} {r : Result Next} (k : Out P R r) : ∃ v w', R v w' := by
  cases r with
  | ok n w' =>
    cases n <;> simp only [Out] at k
    case value u => exact ⟨_, _, k⟩
    case skip => exact ⟨_, _, k⟩
    case enter f args => obtain ⟨e, w'', fr, ⟨v, _, hv⟩, _⟩ := k []; exact ⟨v, w'', hv⟩
  | halt x w' => simp only [Out] at k
def Step (P : Program) (ops : Array Oper) (o : Oper) (a : Act) (w : World) (R : Value → World → Prop) : Prop :=
  (Region.wanted o (yielded ops a.tmps) = true ∧ Out P R ((execOp a.eval o).run P w)) ∨ (Region.wanted o (yielded ops a.tmps) = false ∧ R undef w)
theorem Step.mono {o : Oper} {a : Act} {w : World} {R R' : Value → World → Prop} (h : ∀ v w, R v w → R' v w) (k : Step P ops o a w R) : Step P ops o a w R' := by
  rcases k with ⟨k1, k2⟩ | ⟨k1, k2⟩
  · exact .inl ⟨k1, k2.mono h⟩
  · exact .inr ⟨k1, h _ _ k2⟩
theorem Step.ex {o : Oper} {a : Act} {w : World} {R : Value → World → Prop} (k : Step P ops o a w R) : ∃ v w', R v w' := by
  rcases k with ⟨k1, k2⟩ | ⟨k1, k2⟩
  · exact k2.ex
  · exact ⟨_, _, k2⟩
theorem Step.wp {o : Oper} {a : Act} {w : World} {i : Nat} {R : Value → World → Prop} {K : Act → World → Prop} {Q : Exit → Act → World → Prop} (ho : ops[i]? = some o) (k : Step P ops o a w R)
    (h : ∀ v w', R v w' → K (a.put o.dst v) w') : wpOp P ops Q i K a w := by
  unfold wpOp
  simp only [ho]
  rcases k with ⟨k1, k2⟩ | ⟨k1, k2⟩
  · simp only [k1, if_true]
    refine .inl ?_
    unfold Oper.wp
    generalize (execOp a.eval o).run P w = r at *
    cases r with
    | ok n w' =>
      cases n <;> simp only [Out] at k2 <;> simp only [Oper.upon]
      case value u => exact h _ _ k2
      case skip => exact h _ _ k2
      case enter f args => exact k2.mono fun e w'' ⟨v, he, hv⟩ => by subst he; exact h _ _ hv
    | halt x w' => simp only [Out] at k2
  · simp only [k1, Bool.false_eq_true, if_false]; exact h _ _ k2
theorem Step.put {o : Oper} (hs : ∀ cs b, o.op ≠ .select cs b) {a : Act} {w : World} {R : Value → World → Prop} {d : Option Tmp} {v : Value} (h : ∀ x, d = some x → x ∉ o.looksAt ops) :
    Step P ops o (a.put d v) w R ↔ Step P ops o a w R := by
  unfold Step
  rw [execOp_put o hs a d v h, wanted_put o a d v h]
def zjy (D : World → Prop) : Prop := ∀ w w', D w → Below w.heap.size w w' → D w'
variable {Θ : Type} (C : World → Prop) (kind : Nat → Nat) (va : Nat → Θ → Value) (RA : Nat → Θ → World → Prop)
def Nx (P : Program) (ops : Array Oper) (i : Nat) (o : Oper) (D : World → Prop) (a : Act) (K : (World → Prop) → Act → Prop) : Prop :=
  match kind i with
  | 0 => ∃ v, (∀ w, C w → D w → Step P ops o a w (fun u w' => u = v ∧ Below w.heap.size w w')) ∧ K D (a.put o.dst v)
  | 1 => (∀ w, C w → Step P ops o a w (fun u w' => ∃ t, u = va i t ∧ Below w.heap.size w w' ∧ RA i t w')) ∧ ∀ t, (∃ w, C w ∧ D w ∧ RA i t w) → K (fun w => D w ∧ RA i t w) (a.put o.dst (va i t))
  | 4 => (∀ w, C w → D w → Step P ops o a w (fun u w' => ∃ t, u = va i t ∧ Below w.heap.size w w' ∧ RA i t w')) ∧ ∀ t, (∃ w, C w ∧ D w ∧ RA i t w) → K (fun w => D w ∧ RA i t w) (a.put o.dst (va i t))
  | 3 => ∃ D' : World → Prop, zjy D' ∧ ∃ v, (∀ w, C w → D w → Step P ops o a w (fun u w' => u = v ∧ C w' ∧ D' w')) ∧ K D' (a.put o.dst v)
  | _ => ∃ D' : World → Prop, zjy D' ∧ (∀ w, D' w → D w) ∧ ∃ v, (∀ w, C w → D w → Step P ops o a w (fun u w' => u = v ∧ C w' ∧ D' w')) ∧ K D' (a.put o.dst v)
def Can (P : Program) (ops : Array Oper) (Q : Act → World → Prop) : List Nat → (World → Prop) → Act → Prop
  | [], D, a => ∀ w, C w → D w → Q a w
  | i :: s, D, a => ∃ o, ops[i]? = some o ∧ Nx C kind va RA P ops i o D a (Can P ops Q s)
theorem Nx.mono {i : Nat} {o : Oper} {D : World → Prop} {a : Act} {K K' : (World → Prop) → Act → Prop} (h : ∀ D a, K D a → K' D a) (k : Nx C kind va RA P ops i o D a K) : Nx C kind va RA P ops i o D a K' := by
  unfold Nx at *
  split at k
  · obtain ⟨v, k1, k2⟩ := k; exact ⟨v, k1, h _ _ k2⟩
  · exact ⟨k.1, fun t ht => h _ _ (k.2 t ht)⟩
  · exact ⟨k.1, fun t ht => h _ _ (k.2 t ht)⟩
  · obtain ⟨D', k0, v, k1, k2⟩ := k; exact ⟨D', k0, v, k1, h _ _ k2⟩
  · obtain ⟨D', k0, k3, v, k1, k2⟩ := k; exact ⟨D', k0, k3, v, k1, h _ _ k2⟩
variable (md : Region.Mode) (anc : Nat → Nat → Bool)
def Rel (ops : Array Oper) (i j : Nat) : Prop := anc i j = true ∨ ((∀ o p, ops[i]? = some o → ops[j]? = some p → o.apart ops p = true) ∧ kind j ≠ 3 ∧ (kind i = 0 ∨ (kind i = 1 ∧ kind j = 1)))
theorem ext {Q : Act → World → Prop} (hsel : ∀ (j : Nat) (o : Oper) cs b, ops[j]? = some o → o.op ≠ .select cs b) (hC : zjy C) (hRA : ∀ i t, zjy (RA i t)) (j : Nat) :
    ∀ (s : List Nat) (D : World → Prop) (a : Act), s.Pairwise (Rel kind anc ops) → s.Nodup → j ∈ s → (∀ i ∈ s, anc i j = false) → zjy D → (∃ w, C w ∧ D w) → Can C kind va RA P ops Q s D a →
      ∃ o, ops[j]? = some o ∧ Nx C kind va RA P ops j o D a (fun D' a' => Can C kind va RA P ops Q (s.erase j) D' a')
  | [], _, _, _, _, hj, _, _, _, _ => by cases hj
  | i :: s, D, a, hp, hn, hj, hf, hD, hw, hc => by
    by_cases hij : i = j
    · subst hij
      simp only [Can] at hc
      obtain ⟨o, ho, hN⟩ := hc
      exact ⟨o, ho, Nx.mono C kind va RA (fun D a h => by rw [List.erase_cons_head]; exact h) hN⟩
    · have hjs : j ∈ s := (List.mem_cons.1 hj).resolve_left (fun e => hij e.symm)
      obtain ⟨hp1, hp2⟩ := List.pairwise_cons.1 hp
      obtain ⟨hn1, hn2⟩ := List.nodup_cons.1 hn
      simp only [Can] at hc
      obtain ⟨oi, hoi, hN⟩ := hc
      have hr := (hp1 j hjs).resolve_left (by rw [hf i (by simp)]; simp)
      obtain ⟨hap, hj3, hk⟩ := hr
      have hfs : ∀ k ∈ s, anc k j = false := fun k hk => hf k (List.mem_cons_of_mem _ hk)
      have er : (i :: s).erase j = i :: s.erase j := List.erase_cons_tail (by simpa using hij)
      rw [er]
      have ih := fun D a hD hw (hc : Can C kind va RA P ops Q s D a) => ext hsel hC hRA j s D a hp2 hn2 hjs hfs hD hw hc
      -- the one that stands ahead has one value
      by_cases hk0 : kind i = 0
      · unfold Nx at hN
        rw [hk0] at hN
        obtain ⟨vi, hi, hK⟩ := hN
        obtain ⟨oj, hoj, hM⟩ := ih D _ hD hw hK
        obtain ⟨h1, h2, h3⟩ := Oper.apart_spec (hap oi oj hoi hoj)
        refine ⟨oj, hoj, ?_⟩
        have back : ∀ (D' : World → Prop) (u : Value), (∀ w, D' w → D w) → Can C kind va RA P ops Q (s.erase j) D' ((a.put oi.dst vi).put oj.dst u) → Can C kind va RA P ops Q (i :: s.erase j) D' (a.put oj.dst u) := fun D' u hDD hcan => by
          simp only [Can]
          refine ⟨oi, hoi, ?_⟩
          unfold Nx
          rw [hk0]
          exact ⟨vi, fun w hw1 hw2 => (Step.put (hsel i oi · · hoi) h3).2 (hi w hw1 (hDD w hw2)), by rw [← Act.put_comm a vi u h2]; exact hcan⟩
        unfold Nx at hM ⊢
        split at hM
        · obtain ⟨v, m1, m2⟩ := hM
          exact ⟨v, fun w hw1 hw2 => (Step.put (hsel j oj · · hoj) h1).1 (m1 w hw1 hw2), back D v (fun _ h => h) m2⟩
        · exact ⟨fun w hw1 => (Step.put (hsel j oj · · hoj) h1).1 (hM.1 w hw1), fun t ht => back _ _ (fun _ h => h.1) (hM.2 t ht)⟩
        · exact ⟨fun w hw1 hw2 => (Step.put (hsel j oj · · hoj) h1).1 (hM.1 w hw1 hw2), fun t ht => back _ _ (fun _ h => h.1) (hM.2 t ht)⟩
        · rename_i hk3; exact absurd hk3 hj3
        · obtain ⟨D', m0, m3, v, m1, m2⟩ := hM
          exact ⟨D', m0, m3, v, fun w hw1 hw2 => (Step.put (hsel j oj · · hoj) h1).1 (m1 w hw1 hw2), back D' v m3 m2⟩
      · obtain ⟨hi1, hj1⟩ := hk.resolve_left hk0
        unfold Nx at hN
        rw [hi1] at hN
        obtain ⟨hi, hK⟩ := hN
        obtain ⟨w0, hw1, hw2⟩ := hw
        obtain ⟨u0, w1, t0, _, hb0, hr0⟩ := (hi w0 hw1).ex
        have hS : ∀ t, zjy (fun w => D w ∧ RA i t w) := fun t w w' h b => ⟨hD w w' h.1 b, hRA i t w w' h.2 b⟩
        have get := fun t (ht : ∃ w, C w ∧ D w ∧ RA i t w) => ih (fun w => D w ∧ RA i t w) _ (hS t) (by obtain ⟨w, x1, x2, x3⟩ := ht; exact ⟨w, x1, x2, x3⟩) (hK t ht)
        obtain ⟨oj, hoj, hM0⟩ := get t0 ⟨w1, hC w0 w1 hw1 hb0, hD w0 w1 hw2 hb0, hr0⟩
        obtain ⟨h1, h2, h3⟩ := Oper.apart_spec (hap oi oj hoi hoj)
        refine ⟨oj, hoj, ?_⟩
        unfold Nx at hM0 ⊢
        rw [hj1] at hM0 ⊢
        refine ⟨fun w hw => (Step.put (hsel j oj · · hoj) h1).1 (hM0.1 w hw), fun tj htj => ?_⟩
        simp only [Can]
        refine ⟨oi, hoi, ?_⟩
        unfold Nx
        rw [hi1]
        refine ⟨fun w hw => (Step.put (hsel i oi · · hoi) h3).2 (hi w hw), fun ti hti => ?_⟩
        obtain ⟨w2, x1, ⟨x2, x3⟩, x4⟩ := hti
        obtain ⟨oj', hoj', hM⟩ := get ti ⟨w2, x1, x2, x4⟩
        rw [hoj] at hoj'
        obtain rfl := Option.some.inj hoj'
        unfold Nx at hM
        rw [hj1] at hM
        have hK2 := hM.2 tj ⟨w2, x1, ⟨x2, x4⟩, x3⟩
        rw [← Act.put_comm a _ _ h2]
        have e : (fun w => (D w ∧ RA j tj w) ∧ RA i ti w) = (fun w => (D w ∧ RA i ti w) ∧ RA j tj w) := by
          funext w; exact propext ⟨fun h => ⟨⟨h.1.1, h.2⟩, h.1.2⟩, fun h => ⟨⟨h.1.1, h.2⟩, h.1.2⟩⟩
        rw [e]; exact hK2
theorem zzq : ∀ (s : List Nat), s ≠ [] → ∃ m ∈ s, ∀ k ∈ s, m ≤ k
  | [], h => absurd rfl h
  | [x], _ => ⟨x, by simp, by simp⟩
  | x :: y :: s, _ => by
    obtain ⟨m, hm, hl⟩ := zzq (y :: s) (by simp)
    by_cases h : x ≤ m
    · exact ⟨x, by simp, fun k hk => by
        rcases List.mem_cons.1 hk with rfl | hk
        · exact Nat.le_refl _
        · exact Nat.le_trans h (hl k hk)⟩
    · exact ⟨m, List.mem_cons_of_mem _ hm, fun k hk => by
        rcases List.mem_cons.1 hk with rfl | hk
        · omega
        · exact hl k hk⟩
theorem zku {listed : Array Bool} {k : Nat} (h : k < listed.size) (d d' : Bool) : listed.getD k d = listed.getD k d' := by simp [h]
theorem zrm {Q : Act → World → Prop} {Q' : Exit → Act → World → Prop} (hQ : ∀ a w, Q a w → Q' .normal a w) (hsel : ∀ (j : Nat) (o : Oper) cs b, ops[j]? = some o → o.op ≠ .select cs b) (hC : zjy C) (hRA : ∀ i t, zjy (RA i t))
    (hord : ∀ j o, ops[j]? = some o → ∀ e ∈ o.after, Region.binds md e = true → e.on < j)
    (hanc : ∀ i j, anc i j = true → ∃ o, ops[j]? = some o ∧ ∃ e ∈ o.after, Region.binds md e = true ∧ (e.on = i ∨ anc i e.on = true)) :
    ∀ (n : Nat) (s : List Nat) (listed : Array Bool) (D : World → Prop) (a : Act) (w : World), s.length = n → s.Pairwise (Rel kind anc ops) → s.Nodup →
      (∀ k, k ∈ s ↔ k < ops.size ∧ listed.getD k true = false) → listed.size = ops.size →
      (∀ j o, ops[j]? = some o → listed.getD j false = true → ∀ e ∈ o.after, Region.binds md e = true → listed.getD e.on false = true) →
      zjy D → C w → D w → Can C kind va RA P ops Q s D a → wpAny P md ops Q' n listed a w := by
  intro n
  induction n with
  | zero =>
    intro s listed D a w hl hp hn hm hz hdc hD hcw hdw hc
    obtain rfl := List.eq_nil_of_length_eq_zero hl
    refine ⟨List.eq_nil_iff_forall_not_mem.2 fun j hj => ?_, hQ _ _ (by simp only [Can] at hc; exact hc w hcw hdw)⟩
    obtain ⟨h0, o, ho, _⟩ := mem_ready.1 hj
    have := (hm j).2 ⟨(Array.getElem?_eq_some_iff.1 ho).1, h0⟩
    cases this
  | succ n ih =>
    intro s listed D a w hl hp hn hm hz hdc hD hcw hdw hc
    have hne : s ≠ [] := by intro e; rw [e] at hl; cases hl
    refine ⟨fun hr => ?_, fun j hj => ?_⟩
    · exfalso
      obtain ⟨m, hms, hmin⟩ := zzq s hne
      obtain ⟨hlt, h0⟩ := (hm m).1 hms
      have : m ∈ Region.ready md ops listed := by
        refine mem_ready.2 ⟨h0, ops[m], Array.getElem?_eq_getElem hlt, fun e he hb => ?_⟩
        have hlt' := hord m _ (Array.getElem?_eq_getElem hlt) e he hb
        cases hq : listed.getD e.on false with
        | true => rfl
        | false =>
          rw [zku (by omega) false true] at hq
          have := hmin _ ((hm e.on).2 ⟨by omega, hq⟩)
          omega
      rw [hr] at this; cases this
    · obtain ⟨h0, oj, hoj, hall⟩ := mem_ready.1 hj
      have hjl : j < ops.size := (Array.getElem?_eq_some_iff.1 hoj).1
      have hjs : j ∈ s := (hm j).2 ⟨hjl, h0⟩
      have lst : ∀ (k : Nat) (i : Nat), listed.getD k false = true → anc i k = true → listed.getD i false = true := by
        intro k
        induction k using Nat.strongRecOn with
        | _ k ihk =>
          intro i hk ha
          obtain ⟨o, ho, e, he, hb, h⟩ := hanc i k ha
          have hel := hdc k o ho hk e he hb
          rcases h with rfl | h
          · exact hel
          · exact ihk _ (hord k o ho e he hb) i hel h
      have hfree : ∀ i ∈ s, anc i j = false := fun i hi => by
        cases ha : anc i j with
        | false => rfl
        | true =>
          exfalso
          obtain ⟨hil, hi0⟩ := (hm i).1 hi
          obtain ⟨o, ho, e, he, hb, h⟩ := hanc i j ha
          rw [hoj] at ho
          obtain rfl := Option.some.inj ho
          have hel := hall e he hb
          have : listed.getD i false = true := by
            rcases h with rfl | h
            · exact hel
            · exact lst _ i hel h
          rw [zku (by omega) false true, hi0] at this
          cases this
      have hm' : ∀ k, k ∈ s.erase j ↔ k < ops.size ∧ (listed.setIfInBounds j true).getD k true = false := fun k => by
        rw [hn.mem_erase_iff]
        by_cases hkj : k = j
        · subst hkj
          refine ⟨fun h => absurd rfl h.1, fun h => ?_⟩
          have h2 := h.2
          simp [hz, hjl] at h2
        · rw [getD_set_ne true (Ne.symm hkj), hm k]
          exact ⟨fun h => h.2, fun h => ⟨hkj, h⟩⟩
      have hdc' : ∀ k o, ops[k]? = some o → (listed.setIfInBounds j true).getD k false = true → ∀ e ∈ o.after, Region.binds md e = true → (listed.setIfInBounds j true).getD e.on false = true := fun k o ho hk e he hb => by
        by_cases hkj : k = j
        · subst hkj
          rw [hoj] at ho
          obtain rfl := Option.some.inj ho
          exact getD_set_true (hall e he hb)
        · rw [getD_set_ne false (Ne.symm hkj)] at hk
          exact getD_set_true (hdc k o ho hk e he hb)
      have go : ∀ (D' : World → Prop) (a' : Act) (w' : World), zjy D' → C w' → D' w' → Can C kind va RA P ops Q (s.erase j) D' a' → wpAny P md ops Q' n (listed.setIfInBounds j true) a' w' := fun D' a' w' h1 h2 h3 h4 =>
        ih (s.erase j) _ D' a' w' (by rw [List.length_erase_of_mem hjs]; omega) (hp.sublist (List.erase_sublist)) (hn.erase j) hm' (by simpa using hz) hdc' h1 h2 h3 h4
      obtain ⟨o, ho, hN⟩ := ext C kind va RA anc hsel hC hRA j s D a hp hn hjs hfree hD ⟨w, hcw, hdw⟩ hc
      unfold Nx at hN
      split at hN
      · obtain ⟨v, h1, h2⟩ := hN
        exact (h1 w hcw hdw).wp ho fun u w' ⟨e, hb⟩ => by subst e; exact go D _ w' hD (hC w w' hcw hb) (hD w w' hdw hb) h2
      · exact (hN.1 w hcw).wp ho fun u w' ⟨t, e, hb, hr⟩ => by
          subst e
          have x1 := hC w w' hcw hb
          have x2 := hD w w' hdw hb
          exact go _ _ w' (fun w w' h b => ⟨hD w w' h.1 b, hRA j t w w' h.2 b⟩) x1 ⟨x2, hr⟩ (hN.2 t ⟨w', x1, x2, hr⟩)
      · exact (hN.1 w hcw hdw).wp ho fun u w' ⟨t, e, hb, hr⟩ => by
          subst e
          have x1 := hC w w' hcw hb
          have x2 := hD w w' hdw hb
          exact go _ _ w' (fun w w' h b => ⟨hD w w' h.1 b, hRA j t w w' h.2 b⟩) x1 ⟨x2, hr⟩ (hN.2 t ⟨w', x1, x2, hr⟩)
      · obtain ⟨D', k0, v, h1, h2⟩ := hN
        exact (h1 w hcw hdw).wp ho fun u w' ⟨e, x1, x2⟩ => by subst e; exact go D' _ w' k0 x1 x2 h2
      · obtain ⟨D', k0, k1, v, h1, h2⟩ := hN
        exact (h1 w hcw hdw).wp ho fun u w' ⟨e, x1, x2⟩ => by subst e; exact go D' _ w' k0 x1 x2 h2
end
end Go.Proofs.YtomeaibdedaldaaGreatDoor.RegR
namespace Go.Proofs.YtomeaibdedaldaaGreatDoor.MemL
open Go.RowKit
def Bx (w : World) (b : Nat) (c : Array Value) : Prop := ∃ T, w.heap[b]? = some (.cells c T (0, 0))
theorem Bx.lt {w : World} {b : Nat} {c : Array Value} (h : Bx w b c) : b < w.heap.size := by
  obtain ⟨T, h⟩ := h
  rcases Nat.lt_or_ge b w.heap.size with k | k
  · exact k
  · rw [Array.getElem?_eq_none k] at h; cases h
theorem Bx.cell {w : World} {b : Nat} {c : Array Value} (h : Bx w b c) : ∀ i, w.cell? ⟨b, i, none⟩ = c[i]? := fun i => by
  obtain ⟨T, h⟩ := h; unfold World.cell?; simp [h]
theorem Bx.free {w : World} {b : Nat} {c : Array Value} (h : Bx w b c) : ∀ i, w.frozen? ⟨b, i, none⟩ = false := fun i => by
  obtain ⟨T, h⟩ := h; unfold World.frozen?; simp [h]
theorem Bx.of_below {w w' : World} {b n : Nat} {c : Array Value} (h : Bx w b c) (hb : Below n w w') (hn : b < n) : Bx w' b c := by
  obtain ⟨T, h⟩ := h; exact ⟨T, (hb.block b hn).trans h⟩
theorem Bx.below {w w' : World} {b : Nat} {c : Array Value} (h : Bx w b c) (hb : Below w.heap.size w w') : Bx w' b c := h.of_below hb h.lt
theorem Bx.drewN {w : World} {b n : Nat} {c : Array Value} (h : Bx w b c) : Bx (w.drewN n) b c := h
theorem Bx.drew {w : World} {b : Nat} {c : Array Value} (h : Bx w b c) : Bx w.drew b c := h
theorem Bx.alloc {w : World} {b : Nat} {c : Array Value} {o : Obj} (h : Bx w b c) : Bx (w.alloc o) b c := by
  have k := h.lt
  obtain ⟨T, h⟩ := h
  exact ⟨T, by show (w.heap.push o)[b]? = _; rw [Array.getElem?_push, if_neg (by omega)]; exact h⟩
theorem Bx.new {w : World} {c : Array Value} {T : TypeId} : Bx (w.alloc (.cells c T)) w.heap.size c :=
  ⟨T, by show (w.heap.push _)[w.heap.size]? = _; rw [Array.getElem?_push, if_pos rfl]⟩
theorem Bx.set_far {w : World} {b d i : Nat} {c : Array Value} {v : Value} (h : Bx w b c) (hne : d ≠ b) : Bx (w.setCell ⟨d, i, none⟩ v) b c := by
  obtain ⟨T, h⟩ := h
  exact ⟨T, by simp only [World.setCell, Array.getElem?_modify]; rw [if_neg hne]; exact h⟩
theorem Bx.set_same {w : World} {b i : Nat} {c : Array Value} {v : Value} (h : Bx w b c) : Bx (w.setCell ⟨b, i, none⟩ v) b (c.setIfInBounds i v) := by
  obtain ⟨T, h⟩ := h
  exact ⟨T, by simp [World.setCell, Array.getElem?_modify, h]⟩
theorem Bx.row_same {w : World} {b : Nat} {c d : Array Value} (h : Bx w b c) : Bx (w.setRow b d) b d := by
  obtain ⟨T, h⟩ := h; exact ⟨T, setRow_heap w b c d T (0, 0) h⟩
theorem Bx.row_far {w : World} {b g : Nat} {c d : Array Value} (h : Bx w b c) (hne : g ≠ b) : Bx (w.setRow g d) b c := by
  obtain ⟨T, h⟩ := h
  exact ⟨T, by unfold World.setRow; simp only [Array.getElem?_modify]; rw [if_neg hne]; exact h⟩
theorem zik {n g : Nat} {w0 w : World} (h : Below n w0 w) (hg : n ≤ g) (d : Array Value) : Below n w0 (w.setRow g d) :=
  h.trans ⟨rfl, rfl, rfl, by simp [World.setRow], fun k hk => by unfold World.setRow; simp only [Array.getElem?_modify]; rw [if_neg (by omega)]⟩
def Sl (w : World) (v : Value) (n size : Nat) (xs : List Value) : Prop :=
  xs.length = n * size ∧ ((v = .slice none 0 0 ∧ n = 0) ∨ ∃ b o cap, v = .slice (some ⟨b, o, none⟩) n cap ∧ b < w.heap.size ∧ n ≤ cap ∧ cap ≤ maxLen ∧ ∀ i, i < n * size → w.cell? ⟨b, o + i, none⟩ = xs[i]?)
theorem Sl.below {w w' : World} {v : Value} {n size : Nat} {xs : List Value} (h : Sl w v n size xs) (hb : Below w.heap.size w w') : Sl w' v n size xs := by
  obtain ⟨h1, h2⟩ := h
  refine ⟨h1, ?_⟩
  rcases h2 with h2 | ⟨b, o, cap, e, l, h3, h4, h5⟩
  · exact .inl h2
  · exact .inr ⟨b, o, cap, e, Nat.lt_of_lt_of_le l hb.size, h3, h4, fun i hi => (hb.cell (p := ⟨b, o + i, none⟩) l).trans (h5 i hi)⟩
theorem Sl.of_owns {w : World} {base e size n : Nat} {v : Value} {xs : List Value} (h : w.ownsRow base e size v n xs) : Sl w v n size xs := by
  obtain ⟨h1, h2⟩ := h
  refine ⟨h1, ?_⟩
  rcases h2 with h2 | ⟨g, cap, cur, rfl, hb, hh, h3, h4, h5, h6⟩
  · exact .inl h2
  · refine .inr ⟨g, 0, cap, rfl, (Bx.lt ⟨e, hh⟩), h3, h4, fun i hi => ?_⟩
    rw [Nat.zero_add, (Bx.cell ⟨e, hh⟩ : _) i, ← h6, List.getElem?_take_of_lt hi, Array.getElem?_toList]
end Go.Proofs.YtomeaibdedaldaaGreatDoor.MemL
namespace Go.Proofs.YtomeaibdedaldaaGreatDoor.RegR
open Go.RowKit MemL
def zil (md : Region.Mode) (ops : Array Oper) : Array Nat :=
  ops.foldl (init := #[]) fun acc o => acc.push (o.after.foldl (fun s e => if Region.binds md e then s ||| 2 ^ e.on ||| acc.getD e.on 0 else s) 0)
def zmg (tab : Array Nat) (i j : Nat) : Bool := (tab.getD j 0).testBit i
def zim (ks : List Nat) (i : Nat) : Nat := ks.getD i 0
def z40 (ops : Array Oper) (tab : Array Nat) (ks : List Nat) (i j : Nat) : Bool :=
  zmg tab i j || ((match ops[i]?, ops[j]? with | some o, some p => o.apart ops p | _, _ => true) && zim ks j != 3 && (zim ks i == 0 || (zim ks i == 1 && zim ks j == 1)))
def pwB (r : Nat → Nat → Bool) : List Nat → Bool
  | [] => true
  | i :: s => s.all (fun j => r i j) && pwB r s
def zh5 : List Nat → Bool
  | [] => true
  | i :: s => s.all (fun j => i != j) && zh5 s
def z2m (md : Region.Mode) (ops : Array Oper) (tab : Array Nat) (ks s : List Nat) : Bool :=
  Region.noSelect ops &&
  ((List.range ops.size).all fun j => match ops[j]? with | some o => o.after.all (fun e => !Region.binds md e || decide (e.on < j)) | none => true) &&
  (decide (tab.size = ops.size) && (List.range ops.size).all fun j => match ops[j]? with | some o => tab.getD j 0 == o.after.foldl (fun s e => if Region.binds md e then s ||| 2 ^ e.on ||| tab.getD e.on 0 else s) 0 | none => true) &&
  (decide (s.length = ops.size) && s.all (fun k => decide (k < ops.size)) && (List.range ops.size).all (fun k => s.contains k) && zh5 s) &&
  pwB (z40 ops tab ks) s
theorem zkv (md : Region.Mode) (tab : Array Nat) (i : Nat) : ∀ (l : List Edge) (s : Nat), (l.foldl (fun s e => if Region.binds md e then s ||| 2 ^ e.on ||| tab.getD e.on 0 else s) s).testBit i = true →
    s.testBit i = true ∨ ∃ e ∈ l, Region.binds md e = true ∧ (e.on = i ∨ (tab.getD e.on 0).testBit i = true)
  | [], s, h => .inl h
  | e :: l, s, h => by
    simp only [List.foldl_cons] at h
    rcases zkv md tab i l _ h with h | ⟨e', he, hb, h⟩
    · split at h
      · rename_i hb
        simp only [Nat.testBit_or, Bool.or_eq_true] at h
        rcases h with (h | h) | h
        · exact .inl h
        · refine .inr ⟨e, by simp, hb, .inl ?_⟩
          rw [Nat.testBit_two_pow] at h; simpa using h
        · exact .inr ⟨e, by simp, hb, .inr h⟩
      · exact .inl h
    · exact .inr ⟨e', List.mem_cons_of_mem _ he, hb, h⟩
theorem zod {r : Nat → Nat → Bool} {R : Nat → Nat → Prop} (h : ∀ i j, r i j = true → R i j) : ∀ (s : List Nat), pwB r s = true → s.Pairwise R
  | [], _ => .nil
  | i :: s, hp => by
    simp only [pwB, Bool.and_eq_true, List.all_eq_true] at hp
    exact .cons (fun j hj => h i j (hp.1 j hj)) (zod h s hp.2)
theorem zei : ∀ (s : List Nat), zh5 s = true → s.Nodup
  | [], _ => .nil
  | i :: s, h => by
    simp only [zh5, Bool.and_eq_true, List.all_eq_true] at h
    exact List.nodup_cons.2 ⟨fun hi => by have := h.1 i hi; simp at this, zei s h.2⟩
theorem zp5 {n k : Nat} (h : k < n) : (Array.replicate n false).getD k true = false := by
  simp [Array.getD_eq_getD_getElem?, Array.getElem?_replicate, h]
theorem zmh (n k : Nat) : (Array.replicate n false).getD k false = false := by
  simp only [Array.getD_eq_getD_getElem?, Array.getElem?_replicate]; split <;> rfl
variable {P : Program}
theorem zby {Θ : Type} {id : Nat} {Q : Exit → Act → World → Prop} {a : Act} {w : World} {l : List Oper} (ks s : List Nat) (C : World → Prop) (va : Nat → Θ → Value) (RA : Nat → Θ → World → Prop)
    (hm : P.follows .mixedOrders = true) (hB : z2m .any l.toArray (zil .any l.toArray) ks s = true) (hC : zjy C) (hRA : ∀ i t, zjy (RA i t)) (hw : C w.drew) (D0 : World → Prop) (hD0 : zjy D0) (hd : D0 w.drew)
    (h : Can C (zim ks) va RA P l.toArray (fun a w => Q .normal a w) s D0 a) : (Code.region id l.toArray true).wp P Q a w := by
  simp only [z2m, Bool.and_eq_true] at hB
  obtain ⟨⟨⟨⟨b1, b2⟩, b3, b4⟩, ⟨⟨b5, b6⟩, b7⟩, b8⟩, b9⟩ := hB
  refine wp_region_any hm ?_
  have b5' : s.length = l.toArray.size := of_decide_eq_true b5
  have key := zrm (P := P) (ops := l.toArray) C (zim ks) va RA .any (zmg (zil .any l.toArray)) (Q := fun a w => Q .normal a w) (Q' := Q) (fun _ _ h => h) (Region.noSelect_spec b1) hC hRA
    (fun j o ho e he hb => by
      have := List.all_eq_true.1 b2 j (by simpa using (Array.getElem?_eq_some_iff.1 ho).1)
      simp only [ho] at this
      have := Array.all_eq_true_iff_forall_mem.1 this e he
      simpa [hb] using this)
    (fun i j ha => by
      unfold zmg at ha
      have hj : j < l.toArray.size := by
        rcases Nat.lt_or_ge j (zil .any l.toArray).size with h | h
        · rw [← of_decide_eq_true b3]; exact h
        · simp [Array.getElem?_eq_none h] at ha
      have ho := Array.getElem?_eq_getElem hj
      have := List.all_eq_true.1 b4 j (by simpa using hj)
      simp only [ho] at this
      rw [beq_iff_eq.1 this, ← Array.foldl_toList] at ha
      rcases zkv _ _ _ _ _ ha with h | ⟨e, he, hb, h⟩
      · simp at h
      · exact ⟨_, ho, e, by simpa using he, hb, h⟩)
    l.toArray.size s (Array.replicate l.toArray.size false) D0 a w.drew b5'
    (zod (fun i j hr => by
      unfold z40 at hr
      simp only [Bool.or_eq_true, Bool.and_eq_true] at hr
      rcases hr with h | ⟨⟨h1, h3⟩, h2⟩
      · exact .inl h
      · refine .inr ⟨fun o p ho hp => by simpa only [ho, hp] using h1, by simpa using h3, ?_⟩
        rcases h2 with h | ⟨h, h'⟩
        · exact .inl (beq_iff_eq.1 h)
        · exact .inr ⟨beq_iff_eq.1 h, beq_iff_eq.1 h'⟩) s b9)
    (zei s b8)
    (fun k => ⟨fun hk => by
        have := of_decide_eq_true (List.all_eq_true.1 b6 k hk)
        exact ⟨this, zp5 this⟩,
      fun hk => by
        have := List.all_eq_true.1 b7 k (by simpa using hk.1)
        simpa using this⟩)
    (by simp) (fun j o ho h => by rw [zmh] at h; cases h)
    hD0 hw hd h
  exact key
theorem region {Θ : Type} {id : Nat} {Q : Exit → Act → World → Prop} {a : Act} {w : World} {l : List Oper} (ks s : List Nat) (C : World → Prop) (va : Nat → Θ → Value) (RA : Nat → Θ → World → Prop)
    (hm : P.follows .mixedOrders = true) (hB : z2m .any l.toArray (zil .any l.toArray) ks s = true) (hC : zjy C) (hRA : ∀ i t, zjy (RA i t)) (hw : C w.drew)
    (h : Can C (zim ks) va RA P l.toArray (fun a w => Q .normal a w) s (fun _ => True) a) : (Code.region id l.toArray true).wp P Q a w :=
  zby ks s C va RA hm hB hC hRA hw (fun _ => True) (fun _ _ _ _ => trivial) trivial h
section
variable {ops : Array Oper} {Θ : Type} {C : World → Prop} {kind : Nat → Nat} {va : Nat → Θ → Value} {RA : Nat → Θ → World → Prop} {Q : Act → World → Prop} {i : Nat} {s : List Nat} {D : World → Prop} {a : Act}
theorem zmi (o : Oper) (ho : ops[i]? = some o) (hk : kind i = 0)
    (h : ∀ K : Act → Prop, (∀ a, Can C kind va RA P ops Q s D a → K a) → if Region.wanted o (yielded ops a.tmps) then ∃ v, (∀ w, C w → D w → o.quietAt P a (fun w'' => Below w.heap.size w w'') w v) ∧ K (a.put o.dst v) else K (a.put o.dst undef)) :
    Can C kind va RA P ops Q (i :: s) D a := by
  have := h _ (fun _ h => h)
  simp only [Can]
  refine ⟨o, ho, ?_⟩
  unfold Nx
  rw [hk]
  split at this
  · rename_i hw
    obtain ⟨v, h1, h2⟩ := this
    refine ⟨v, fun w hc hd => .inl ⟨hw, ?_⟩, h2⟩
    have h3 := h1 w hc hd
    unfold Oper.quietAt at h3
    generalize (execOp a.eval o).run P w = r at *
    cases r with
    | ok n w' =>
      cases n <;> simp only [Oper.quietUpon] at h3 <;> simp only [Out]
      case value u => obtain ⟨e1, e2⟩ := h3; subst e1; subst e2; exact ⟨rfl, Below.refl _ _⟩
      case skip => obtain ⟨e1, e2⟩ := h3; first | (subst e2; exact ⟨e1, Below.refl _ _⟩) | (subst e1; exact ⟨e2, Below.refl _ _⟩) | (subst e1; exact ⟨e2.symm, Below.refl _ _⟩) | (subst e2; exact ⟨e1.symm, Below.refl _ _⟩)
      case enter f args => obtain ⟨e1, e2⟩ := h3; subst e1; exact e2.mono fun e w'' ⟨x1, x2⟩ => ⟨_, x1, rfl, x2⟩
    | halt x w' => simp only [Oper.quietUpon] at h3
  · rename_i hw
    exact ⟨undef, fun w hc hd => .inr ⟨by simpa using hw, rfl, Below.refl _ _⟩, this⟩
theorem zmj (o : Oper) (ho : ops[i]? = some o) (hk : kind i = 1) (hg : o.guard = none) (f : FuncId) (args : Array Value) (hrun : ∀ w, (execOp a.eval o).run P w = .ok (.enter f args) w)
    (hcall : ∀ w, C w → Calls P f args w (fun e w' => ∃ t, e = .returned (va i t) ∧ Below w.heap.size w w' ∧ RA i t w'))
    (h : ∀ t, Can C kind va RA P ops Q s (fun w => D w ∧ RA i t w) (a.put o.dst (va i t))) :
    Can C kind va RA P ops Q (i :: s) D a := by
  simp only [Can]
  refine ⟨o, ho, ?_⟩
  unfold Nx
  rw [hk]
  refine ⟨fun w hc => .inl ⟨by simp [Region.wanted, hg], ?_⟩, fun t _ => h t⟩
  rw [hrun w]
  exact (hcall w hc).mono fun e w' ⟨t, e1, e2, e3⟩ => ⟨_, e1, t, rfl, e2, e3⟩
theorem zmk (o : Oper) (ho : ops[i]? = some o) (hk : kind i = 4) (hg : o.guard = none) (f : FuncId) (args : Array Value) (hrun : ∀ w, (execOp a.eval o).run P w = .ok (.enter f args) w)
    (hcall : ∀ w, C w → D w → Calls P f args w (fun e w' => ∃ t, e = .returned (va i t) ∧ Below w.heap.size w w' ∧ RA i t w'))
    (h : ∀ t, Can C kind va RA P ops Q s (fun w => D w ∧ RA i t w) (a.put o.dst (va i t))) :
    Can C kind va RA P ops Q (i :: s) D a := by
  simp only [Can]
  refine ⟨o, ho, ?_⟩
  unfold Nx
  rw [hk]
  refine ⟨fun w hc hd => .inl ⟨by simp [Region.wanted, hg], ?_⟩, fun t _ => h t⟩
  rw [hrun w]
  exact (hcall w hc hd).mono fun e w' ⟨t, e1, e2, e3⟩ => ⟨_, e1, t, rfl, e2, e3⟩
theorem zp6 (o : Oper) (ho : ops[i]? = some o) (hk : kind i = 1) (hg : o.guard = none)
    (hrun : ∀ w, C w → ∃ t w', (execOp a.eval o).run P w = .ok (.value (va i t)) w' ∧ Below w.heap.size w w' ∧ RA i t w')
    (h : ∀ t, (∃ w, C w ∧ D w ∧ RA i t w) → Can C kind va RA P ops Q s (fun w => D w ∧ RA i t w) (a.put o.dst (va i t))) :
    Can C kind va RA P ops Q (i :: s) D a := by
  simp only [Can]
  refine ⟨o, ho, ?_⟩
  unfold Nx
  rw [hk]
  refine ⟨fun w hc => .inl ⟨by simp [Region.wanted, hg], ?_⟩, h⟩
  obtain ⟨t, w', e, e2, e3⟩ := hrun w hc
  rw [e]
  exact ⟨t, rfl, e2, e3⟩
theorem can2 (o : Oper) (ho : ops[i]? = some o) (hk : kind i = 2) (hg : o.guard = none) (D' : World → Prop) (hD' : zjy D') (hsub : ∀ w, D' w → D w)
    (hrun : ∀ w, C w → D w → ∃ w', (execOp a.eval o).run P w = .ok .skip w' ∧ C w' ∧ D' w')
    (h : Can C kind va RA P ops Q s D' (a.put o.dst undef)) : Can C kind va RA P ops Q (i :: s) D a := by
  simp only [Can]
  refine ⟨o, ho, ?_⟩
  unfold Nx
  rw [hk]
  refine ⟨D', hD', hsub, undef, fun w hc hd => .inl ⟨by simp [Region.wanted, hg], ?_⟩, h⟩
  obtain ⟨w', e, h1, h2⟩ := hrun w hc hd
  rw [e]
  exact ⟨rfl, h1, h2⟩
theorem can3 (o : Oper) (ho : ops[i]? = some o) (hk : kind i = 3) (hg : o.guard = none) (v : Value) (D' : World → Prop) (hD' : zjy D')
    (hrun : ∀ w, C w → D w → ∃ w', (execOp a.eval o).run P w = .ok (.value v) w' ∧ C w' ∧ D' w')
    (h : Can C kind va RA P ops Q s D' (a.put o.dst v)) : Can C kind va RA P ops Q (i :: s) D a := by
  simp only [Can]
  refine ⟨o, ho, ?_⟩
  unfold Nx
  rw [hk]
  refine ⟨D', hD', v, fun w hc hd => .inl ⟨by simp [Region.wanted, hg], ?_⟩, h⟩
  obtain ⟨w', e, h1, h2⟩ := hrun w hc hd
  rw [e]
  exact ⟨rfl, h1, h2⟩
theorem z2r (o : Oper) (ho : ops[i]? = some o) (hk : kind i = 3) (hg : o.guard = none) (hdst : o.dst = none) (D' : World → Prop) (hD' : zjy D')
    (hrun : ∀ w, C w → D w → ∃ w', (execOp a.eval o).run P w = .ok .skip w' ∧ C w' ∧ D' w')
    (h : Can C kind va RA P ops Q s D' a) : Can C kind va RA P ops Q (i :: s) D a := by
  simp only [Can]
  refine ⟨o, ho, ?_⟩
  unfold Nx
  rw [hk]
  refine ⟨D', hD', undef, fun w hc hd => .inl ⟨by simp [Region.wanted, hg], ?_⟩, by rw [hdst]; exact h⟩
  obtain ⟨w', e, h1, h2⟩ := hrun w hc hd
  rw [e]
  exact ⟨rfl, h1, h2⟩
theorem zoe (o : Oper) (ho : ops[i]? = some o) (hk : kind i = 3) (hg : o.guard = none) (x y : Operand) (t : TypeId) (hop : o.op = .call { callee := .builtin .append, args := #[x, y], argTypes := #[t, t] })
    (e : TypeId) (inf : TypeInfo) (size : Nat) (h1 : P.underlying t = some (.slice e)) (h2 : P.info? e = some inf) (h4 : inf.size = size) (b off n cap : Nat) (hx : a.eval x = .slice (some ⟨b, off, none⟩) n cap)
    (ad : Addr) (m c : Nat) (news : List Value) (hy : a.eval y = .slice (some ad) m c) (hn : news.length = m * size) (h1c : ∀ u ∈ news, u.oneCell' = true) (hroom : n + m ≤ cap) (D' : World → Prop) (hD' : zjy D')
    (hmem : ∀ w, C w → D w → (∀ j u, news[j]? = some u → w.cell? (ad.add j) = some u) ∧ ∀ j, j < news.length → (w.cell? ⟨b, off + n * size + j, none⟩).isSome = true ∧ w.frozen? ⟨b, off + n * size + j, none⟩ = false)
    (hpost : ∀ w, C w → D w → C (w.setCells b (off + n * size) news) ∧ D' (w.setCells b (off + n * size) news))
    (h : Can C kind va RA P ops Q s D' (a.put o.dst (.slice (some ⟨b, off, none⟩) (n + m) cap))) : Can C kind va RA P ops Q (i :: s) D a := by
  refine can3 o ho hk hg _ D' hD' (fun w hc hd => ?_) h
  obtain ⟨m1, m2⟩ := hmem w hc hd
  obtain ⟨p1, p2⟩ := hpost w hc hd
  refine ⟨_, ?_, p1, p2⟩
  subst h4
  have hrun := run_append_room_cells (P := P) w t o.type e inf h1 h2 b off n cap ad m c news hn m1 h1c hroom (fun j hj => (m2 j hj).1) (fun j hj => (m2 j hj).2)
  simp [execOp, hop, resolve, invoke, builtin, hx, hy, hrun, Result.andThen]
theorem zml (o : Oper) (ho : ops[i]? = some o) (hk : kind i = 3) (hg : o.guard = none) (x y : Operand) (t t' : TypeId) (hop : o.op = .call { callee := .builtin .copy, args := #[x, y], argTypes := #[t, t'] })
    (u v r : Value) (hx : a.eval x = u) (hy : a.eval y = v) (D' : World → Prop) (hD' : zjy D')
    (hrun : ∀ w, C w → D w → ∃ w', (Builtin.copy_ #[t, t'] o.type #[u, v]).run P w = .ok r w' ∧ C w' ∧ D' w')
    (h : Can C kind va RA P ops Q s D' (a.put o.dst r)) : Can C kind va RA P ops Q (i :: s) D a := by
  refine can3 o ho hk hg _ D' hD' (fun w hc hd => ?_) h
  obtain ⟨w', e, p1, p2⟩ := hrun w hc hd
  refine ⟨w', ?_, p1, p2⟩
  simp [execOp, hop, resolve, invoke, builtin, hx, hy, e, Result.andThen]
theorem zds (o : Oper) (ho : ops[i]? = some o) (hk : kind i = 2) (hg : o.guard = none) (ty : TypeId) (x y : Operand) (hop : o.op = .store ty x y) (n : Nat) (cells : Array Value)
    (hx : a.eval x = .pointer (some ⟨n, 0, none⟩)) (hy : a.eval y = .agg cells) (hi : (P.info? ty).map (·.size) = some cells.size) (h1 : cells.all (·.oneCell') = true) (hdst : o.dst = none)
    (hD : zjy D) (hb : ∀ w, D w → ∃ c : Array Value, c.size = cells.size ∧ Bx w n c) (hDs : ∀ w, D w → D (w.setRow n cells)) (hCs : ∀ w, C w → C (w.setRow n cells))
    (h : Can C kind va RA P ops Q s (fun w => D w ∧ Bx w n cells) a) : Can C kind va RA P ops Q (i :: s) D a := by
  refine can2 o ho hk hg (fun w => D w ∧ Bx w n cells) (fun w w' h b => ⟨hD w w' h.1 b, h.2.below b⟩) (fun w h => h.1) (fun w hc hd => ?_) (by rw [hdst]; exact h)
  obtain ⟨c, hs, hb'⟩ := hb w hd
  have hb2 := hb'
  obtain ⟨T, hb'⟩ := hb'
  refine ⟨w.setRow n cells, ?_, hCs w hc, hDs w hd, hb2.row_same⟩
  unfold execOp
  simp only [hop, hx, hy, Instr.storeAt, Instr.sureAddr, Sem.run_bind, Sem.run_pure, Result.andThen_ok, run_storeVar_row w n T ty c cells hb' hi hs h1]
end
end Go.Proofs.YtomeaibdedaldaaGreatDoor.RegR
namespace Go.Proofs.YtomeaibdedaldaaGreatDoor.Ax
open Go.RowKit MemL RegR
inductive Ce where
  | v (x : Value)
  | s (n k : Nat) (xs : List Value)
  | q (xs : List Value)
  | p (b off : Nat)
  | o (b : Nat)
  | rp (b off : Nat)
  | f (n k : Nat) (xs : List Value)
  | bs (b off n : Nat)
  | cl (fi : FuncId) (bs : List Nat)
  | any
inductive Cm where
  | c (x : Ce)
  | ag (cs : List Ce)
inductive AV where
  | m (x : Cm)
  | tu (l : List Cm)
inductive Bk where
  | box (cs : List Ce)
  | row (e k n : Nat) (xs : List Value)
inductive Hs where
  | fresh
  | dead
  | live (k : Bk)
  | patch (off : Nat) (l : List Ce)
def zme : List Ce → Nat → List Ce → List Ce
  | cs, _, [] => cs
  | cs, o, x :: r => zme (cs.set o x) (o + 1) r
def zwe : Hs → Hs → Hs
  | .patch off l, .live (.box cs) => .live (.box (zme cs off l))
  | .patch _ _, x => x
  | x, _ => x
structure St where
  tm : Nat → AV
  hp : Nat → Hs
def All2 {α β : Type} (R : α → β → Prop) : List α → List β → Prop
  | [], [] => True
  | a :: as, b :: bs => R a b ∧ All2 R as bs
  | _, _ => False
theorem All2.mono {α β : Type} {R R' : α → β → Prop} (h : ∀ a b, R a b → R' a b) : ∀ (as : List α) (bs : List β), All2 R as bs → All2 R' as bs
  | [], [], _ => trivial
  | _ :: as, _ :: bs, k => ⟨h _ _ k.1, All2.mono h as bs k.2⟩
  | [], _ :: _, k => k.elim
  | _ :: _, [], k => k.elim
theorem All2.length {α β : Type} {R : α → β → Prop} : ∀ (as : List α) (bs : List β), All2 R as bs → as.length = bs.length
  | [], [], _ => rfl
  | _ :: as, _ :: bs, k => by simp [All2.length as bs k.2]
  | [], _ :: _, k => k.elim
  | _ :: _, [], k => k.elim
theorem All2.get {α β : Type} {R : α → β → Prop} : ∀ (as : List α) (bs : List β) (i : Nat) (a : α), All2 R as bs → as[i]? = some a → ∃ b, bs[i]? = some b ∧ R a b
  | [], [], _, _, _, h => by simp at h
  | x :: as, y :: bs, 0, a, k, h => ⟨y, rfl, by simp at h; subst h; exact k.1⟩
  | x :: as, y :: bs, i + 1, a, k, h => by
    obtain ⟨b, hb, hr⟩ := All2.get as bs i a k.2 (by simpa using h); exact ⟨b, by simpa using hb, hr⟩
  | [], _ :: _, _, _, k, _ => k.elim
  | _ :: _, [], _, _, k, _ => k.elim
theorem All2.take {α β : Type} {R : α → β → Prop} : ∀ (as : List α) (bs : List β) (i : Nat), All2 R as bs → All2 R (as.take i) (bs.take i)
  | [], [], i, k => by simp; trivial
  | x :: as, y :: bs, 0, k => trivial
  | x :: as, y :: bs, i + 1, k => ⟨k.1, All2.take as bs i k.2⟩
  | [], _ :: _, _, k => k.elim
  | _ :: _, [], _, k => k.elim
theorem All2.drop {α β : Type} {R : α → β → Prop} : ∀ (as : List α) (bs : List β) (i : Nat), All2 R as bs → All2 R (as.drop i) (bs.drop i)
  | [], [], i, k => by simp; trivial
  | x :: as, y :: bs, 0, k => k
  | x :: as, y :: bs, i + 1, k => All2.drop as bs i k.2
  | [], _ :: _, _, k => k.elim
  | _ :: _, [], _, k => k.elim
theorem All2.append {α β : Type} {R : α → β → Prop} : ∀ (as : List α) (bs : List β) (as' : List α) (bs' : List β), All2 R as bs → All2 R as' bs' → All2 R (as ++ as') (bs ++ bs')
  | [], [], _, _, _, k => k
  | x :: as, y :: bs, as', bs', k, k' => ⟨k.1, All2.append as bs as' bs' k.2 k'⟩
  | [], _ :: _, _, _, k, _ => k.elim
  | _ :: _, [], _, _, k, _ => k.elim
theorem All2.of_map {α β : Type} {R : α → β → Prop} (f : β → α) (h : ∀ b, R (f b) b) : ∀ (bs : List β), All2 R (bs.map f) bs
  | [] => trivial
  | b :: bs => ⟨h b, All2.of_map f h bs⟩
theorem All2.set {α β : Type} {R : α → β → Prop} : ∀ (as : List α) (bs : List β) (i : Nat) (a : α) (b : β), All2 R as bs → R a b → All2 R (as.set i a) (bs.set i b)
  | [], [], _, _, _, _, _ => by simp; trivial
  | x :: as, y :: bs, 0, a, b, k, h => ⟨h, k.2⟩
  | x :: as, y :: bs, i + 1, a, b, k, h => ⟨k.1, All2.set as bs i a b k.2 h⟩
  | [], _ :: _, _, _, _, k, _ => k.elim
  | _ :: _, [], _, _, _, k, _ => k.elim
structure En where
  A : Nat → Prop
  U : Nat → Prop
  τ : Nat → Value
  w : World
def clV (fi : FuncId) (l : List Value) : Value := cond (Nat.ble fi 999999) (.func (.func fi) #[] l.toArray) (.func (.func (fi - 1000000)) l.toArray #[])
def Ce.R (E : En) : Ce → Value → Prop
  | .v x, u => u = x
  | .s n k xs, u => Sl E.w u n k xs ∧ ∀ a l c, u = .slice (some a) l c → E.A a.block
  | .q xs, u => ∃ g o, u = .pointer (some ⟨g, o, none⟩) ∧ g < E.w.heap.size ∧ E.A g ∧ ∀ i, i < xs.length → E.w.cell? ⟨g, o + i, none⟩ = xs[i]?
  | .p b off, u => E.U b ∧ ∃ g, E.τ b = .pointer (some ⟨g, 0, none⟩) ∧ u = .pointer (some ⟨g, off, none⟩)
  | .o b, u => E.U b ∧ u = E.τ b
  | .rp b off, u => E.U b ∧ ∃ g n cap, E.τ b = .slice (some ⟨g, 0, none⟩) n cap ∧ u = .pointer (some ⟨g, off, none⟩)
  | .f n k xs, u => Sl E.w u n k xs ∧ (∀ a l c, u = .slice (some a) l c → E.A a.block) ∧ ∀ a l c, u = .slice a l c → c = l
  | .bs b off n, u => E.U b ∧ ∃ g, E.τ b = .pointer (some ⟨g, 0, none⟩) ∧ u = .slice (some ⟨g, off, none⟩) n n
  | .cl fi ls, u => u = clV fi (ls.map E.τ) ∧ ∀ b ∈ ls, E.U b
  | .any, _ => True
def Cm.R (E : En) : Cm → Value → Prop
  | .c x, u => x.R E u
  | .ag cs, u => ∃ vs, u = .agg vs ∧ All2 (Ce.R E) cs vs.toList
def AV.R (E : En) : AV → Value → Prop
  | .m x, u => x.R E u
  | .tu l, u => ∃ vs, u = .tuple vs ∧ All2 (Cm.R E) l vs.toList
def Bk.R (E : En) (base : Nat) : Bk → Value → Prop
  | .box cs, u => ∃ g vs, u = .pointer (some ⟨g, 0, none⟩) ∧ Bx E.w g vs ∧ All2 (Ce.R E) cs vs.toList
  | .row e k n xs, u => E.w.ownsRow base e k u n xs
structure En.le (E F : En) : Prop where
  U : ∀ b, E.U b → F.U b ∧ F.τ b = E.τ b
  A : ∀ g, g < E.w.heap.size → E.A g → F.A g
  size : E.w.heap.size ≤ F.w.heap.size
  cell : ∀ g o, g < E.w.heap.size → E.A g → F.w.cell? ⟨g, o, none⟩ = E.w.cell? ⟨g, o, none⟩
theorem z2s {E F : En} (h : E.le F) {n k : Nat} {xs : List Value} {u : Value} (k1 : Sl E.w u n k xs) (k3 : ∀ a l c, u = .slice (some a) l c → E.A a.block) : Sl F.w u n k xs ∧ ∀ a l c, u = .slice (some a) l c → F.A a.block := by
  obtain ⟨k1, k2⟩ := k1
  rcases k2 with k2 | ⟨b, o, cap, rfl, l, h3, h4, h5⟩
  · refine ⟨⟨k1, .inl k2⟩, fun a l c e => ?_⟩
    rw [k2.1] at e; cases e
  · have ha := k3 ⟨b, o, none⟩ _ _ rfl
    refine ⟨⟨k1, .inr ⟨b, o, cap, rfl, Nat.lt_of_lt_of_le l h.size, h3, h4, fun i hi => (h.cell b (o + i) l ha).trans (h5 i hi)⟩⟩, fun a l' c e => ?_⟩
    cases e; exact h.A b l ha
theorem zb5 {E F : En} (h : E.le F) : ∀ (x : Ce) (u : Value), x.R E u → x.R F u
  | .v x, u, k => k
  | .s n k xs, u, ⟨⟨k1, k2⟩, k3⟩ => by
    rcases k2 with k2 | ⟨b, o, cap, rfl, l, h3, h4, h5⟩
    · refine ⟨⟨k1, .inl k2⟩, fun a l c e => ?_⟩
      rw [k2.1] at e; cases e
    · have ha := k3 ⟨b, o, none⟩ _ _ rfl
      refine ⟨⟨k1, .inr ⟨b, o, cap, rfl, Nat.lt_of_lt_of_le l h.size, h3, h4, fun i hi => (h.cell b (o + i) l ha).trans (h5 i hi)⟩⟩, fun a l' c e => ?_⟩
      cases e; exact h.A b l ha
  | .q xs, u, ⟨g, o, k1, k2, k3, k4⟩ => ⟨g, o, k1, Nat.lt_of_lt_of_le k2 h.size, h.A g k2 k3, fun i hi => (h.cell g (o + i) k2 k3).trans (k4 i hi)⟩
  | .p b off, u, ⟨k0, g, k1, k2⟩ => ⟨(h.U b k0).1, g, (h.U b k0).2.trans k1, k2⟩
  | .o b, u, ⟨k0, k1⟩ => ⟨(h.U b k0).1, k1.trans (h.U b k0).2.symm⟩
  | .rp b off, u, ⟨k0, g, n, cap, k1, k2⟩ => ⟨(h.U b k0).1, g, n, cap, (h.U b k0).2.trans k1, k2⟩
  | .f n k xs, u, ⟨k1, k2, k3⟩ => ⟨(z2s h k1 k2).1, (z2s h k1 k2).2, k3⟩
  | .bs b off n, u, ⟨k0, g, k1, k2⟩ => ⟨(h.U b k0).1, g, (h.U b k0).2.trans k1, k2⟩
  | .cl fi bs, u, ⟨k1, k2⟩ => ⟨by rw [k1, List.map_congr_left (fun b hb => ((h.U b (k2 b hb)).2).symm)], fun b hb => (h.U b (k2 b hb)).1⟩
  | .any, _, _ => trivial
theorem zs0 {E F : En} (h : E.le F) : ∀ (x : Cm) (u : Value), x.R E u → x.R F u
  | .c x, u, k => zb5 h x u k
  | .ag cs, u, ⟨vs, k1, k2⟩ => ⟨vs, k1, All2.mono (zb5 h) _ _ k2⟩
theorem zs1 {E F : En} (h : E.le F) : ∀ (x : AV) (u : Value), x.R E u → x.R F u
  | .m x, u, k => zs0 h x u k
  | .tu l, u, ⟨vs, k1, k2⟩ => ⟨vs, k1, All2.mono (zs0 h) _ _ k2⟩
def occ : Value → Option Nat
  | .pointer (some a) => some a.block
  | .slice (some a) _ _ => some a.block
  | _ => none
structure Kept (K : Nat → Prop) (w w' : World) : Prop where
  os : w'.os = w.os
  tape : w'.tape = w.tape
  output : w'.output = w.output
  size : w.heap.size ≤ w'.heap.size
  block : ∀ k, K k → w'.heap[k]? = w.heap[k]?
theorem Kept.refl (K : Nat → Prop) (w : World) : Kept K w w := ⟨rfl, rfl, rfl, Nat.le_refl _, fun _ _ => rfl⟩
theorem Kept.trans {K : Nat → Prop} {a b c : World} (h : Kept K a b) (k : Kept K b c) : Kept K a c :=
  ⟨k.os.trans h.os, k.tape.trans h.tape, k.output.trans h.output, Nat.le_trans h.size k.size, fun i hi => (k.block i hi).trans (h.block i hi)⟩
theorem Kept.mono {K K' : Nat → Prop} {a b : World} (h : Kept K a b) (hk : ∀ g, K' g → K g) : Kept K' a b := ⟨h.os, h.tape, h.output, h.size, fun i hi => h.block i (hk i hi)⟩
theorem Kept.drew {K : Nat → Prop} {a w : World} (h : Kept K a w) : Kept K a w.drew := ⟨h.os, h.tape, h.output, h.size, h.block⟩
theorem Kept.of {K : Nat → Prop} {B : Nat} {a b : World} (h : Below B a b) (hk : ∀ g, K g → g < B) : Kept K a b := ⟨h.os, h.tape, h.output, h.size, fun i hi => h.block i (hk i hi)⟩
theorem Kept.below {K : Nat → Prop} {B : Nat} {a b : World} (h : Kept K a b) (hk : ∀ g, g < B → K g) : Below B a b := ⟨h.os, h.tape, h.output, h.size, fun i hi => h.block i (hk i hi)⟩
theorem Kept.cell {K : Nat → Prop} {w w' : World} (h : Kept K w w') {p : Addr} (hp : K p.block) : w'.cell? p = w.cell? p := World.cell?_of_block (w := w) (h.block p.block hp)
theorem Kept.setCell {K : Nat → Prop} {a w : World} (h : Kept K a w) {p : Addr} (hp : ¬ K p.block) (u : Value) : Kept K a (w.setCell p u) :=
  h.trans ⟨rfl, rfl, rfl, by simp [World.setCell], fun k hk => Below.heap_setCell _ _ _ _ (fun e => hp (e ▸ hk))⟩
theorem zg8 {K : Nat → Prop} {g : Nat} {a : World} (hg : ¬ K g) : ∀ (vs : List Value) (o : Nat) (w : World), Kept K a w → Kept K a (w.setCells g o vs)
  | [], _, _, h => h
  | v :: r, o, w, h => zg8 hg r (o + 1) _ (h.setCell hg v)
theorem Kept.grown {K : Nat → Prop} {a w w' : World} {row : Option Nat} (h : Kept K a w) (hg : w.grownBy w' row) (hB : ∀ g, K g → g < w.heap.size) (hr : ∀ k, row = some k → ¬ K k) : Kept K a w' :=
  h.trans ⟨hg.os, hg.tape, hg.output, hg.size, fun k hk => hg.block k (hB k hk) (fun e => hr k e.symm hk)⟩
structure Cx where
  N : Nat
  W0 : World
  A0 : Nat → Prop
  G : World → Prop
  base : Nat
  hB : base ≤ W0.heap.size
  K : Nat → Prop
  hK : ∀ g, K g → g < W0.heap.size
  hG : ∀ w, Kept K W0 w → G w
  pn : List (Nat × Value)
  rd : Option Nat
  df : List Deferred
def Cx.of (N : Nat) (W0 : World) (A0 : Nat → Prop) (G : World → Prop) (hG : ∀ w, Below W0.heap.size W0 w → G w) : Cx := ⟨N, W0, A0, G, W0.heap.size, Nat.le_refl _, fun g => g < W0.heap.size, fun _ h => h, fun w h => hG w (h.below fun _ h => h), [], none, []⟩
def FX (X : Cx) : Fence := { Fence.wide with round := X.rd }
theorem zmm {P : Program} {R : Value → World → Prop} {o : Oper} {ρ : Operand → Value} {w : World} (h : Out P R ((execOp ρ o).run P w)) : ∀ c, o.op ≠ .defer c := fun c hc => by
  have e : (execOp ρ o).run P w = ((resolve ρ c o.type).run P w).andThen fun d w' => .ok (.defer d) w' := by
    simp only [execOp, hc, Sem.run_bind]; rfl
  rw [e] at h
  cases hr : (resolve ρ c o.type).run P w with
  | ok d w' => rw [hr] at h; simp only [Result.andThen, Out] at h
  | halt x w' => rw [hr] at h; simp only [Result.andThen, Out] at h
theorem Step.wpIn {P : Program} {ops : Array Oper} {X : Cx} {n : Nat} {o : Oper} {a : Act} {w : World} {i : Nat} {R : Value → World → Prop} {K : Act → World → Prop} {Q : Exit → Act → World → Prop} (ho : ops[i]? = some o) (k : Step P ops o a w R)
    (h : ∀ v w', R v w' → K (a.put o.dst v) w') : wpOpIn (FX X) n P ops Q i K a w := by
  unfold wpOpIn
  simp only [ho]
  rcases k with ⟨k1, k2⟩ | ⟨k1, k2⟩
  · simp only [k1, if_true]
    refine ⟨fun f _ => trivial, ?_⟩
    rw [Oper.semAt_eq _ _ _ (zmm k2)]
    generalize (execOp a.eval o).run P w = r at *
    cases r with
    | ok m w' =>
      cases m <;> simp only [Out] at k2 <;> simp only [Oper.uponIn]
      case value u => exact h _ _ k2
      case skip => exact h _ _ k2
      case enter f args =>
        refine ⟨fun e => (by cases e), ?_⟩
        have : CallsIn Fence.wide (n - 1) P f args w' (fun e w'' => ∃ v, e = .returned v ∧ R v w'') := callsIn_wide.2 k2
        have : CallsIn (FX X) (n - 1) P f args w' (fun e w'' => ∃ v, e = .returned v ∧ R v w'') := this
        exact this.mono fun e w'' ⟨v, he, hv⟩ => by subst he; exact h _ _ hv
    | halt x w' => simp only [Out] at k2
  · simp only [k1, Bool.false_eq_true, if_false]; exact ⟨fun f _ => trivial, h _ _ k2⟩
def zcd (h : Nat → Hs) (b : Nat) : Prop := ∃ k, h b = .live k
def alw (X : Cx) (h : Nat → Hs) (τ : Nat → Value) (g : Nat) : Prop := (X.A0 g ∨ X.base ≤ g) ∧ ∀ b, zcd h b → occ (τ b) ≠ some g
def env (X : Cx) (h : Nat → Hs) (τ : Nat → Value) (w : World) : En := ⟨alw X h τ, fun b => h b ≠ .fresh, τ, w⟩
structure SimT (X : Cx) (S : St) (τ : Nat → Value) (a : Act) (w : World) : Prop where
  size : a.tmps.size = X.N
  nodef : a.defers = X.df
  bel : Kept X.K X.W0 w
  tm : ∀ t, t < X.N → (S.tm t).R (env X S.hp τ w) (a.tmps.getD t undef)
  hp : ∀ b k, S.hp b = .live k → k.R (env X S.hp τ w) X.base (τ b)
  own : ∀ b g, zcd S.hp b → occ (τ b) = some g → ¬ X.K g ∧ g < w.heap.size
  sep : ∀ b b' g, b ≠ b' → zcd S.hp b → zcd S.hp b' → occ (τ b) = some g → occ (τ b') ≠ some g
  one : ∀ b, (τ b).oneCell' = true
  pin : ∀ p ∈ X.pn, S.hp p.1 ≠ .fresh ∧ τ p.1 = p.2
theorem SimT.bsz {X : Cx} {S : St} {τ : Nat → Value} {a : Act} {w : World} (h : SimT X S τ a w) : X.base ≤ w.heap.size := Nat.le_trans X.hB h.bel.size
theorem SimT.notK {X : Cx} {S : St} {τ : Nat → Value} {a : Act} {w : World} (h : SimT X S τ a w) {g : Nat} (hg : w.heap.size ≤ g) : ¬ X.K g := fun k => by
  have := X.hK g k; have := h.bel.size; omega
theorem SimT.belT {X : Cx} {S : St} {τ : Nat → Value} {a : Act} {w w' : World} (h : SimT X S τ a w) (hb : Below w.heap.size w w') : Kept X.K X.W0 w' :=
  h.bel.trans (Kept.of hb fun g hg => Nat.lt_of_lt_of_le (X.hK g hg) h.bel.size)
def Sim (X : Cx) (S : St) (a : Act) (w : World) : Prop := ∃ τ, SimT X S τ a w
def upd : List (Nat × Hs) → (Nat → Hs) → Nat → Hs
  | [], h, b => h b
  | p :: r, h, b => cond (Nat.beq b p.1) (zwe p.2 (upd r h b)) (upd r h b)
def zgk (d : Option Tmp) (v : AV) (tm : Nat → AV) : Nat → AV :=
  match d with
  | none => tm
  | some d => fun t => cond (Nat.beq t d) v (tm t)
inductive Rd where
  | all (b : Nat)
  | part (b lo n : Nat)
instance : Coe Nat Rd := ⟨Rd.all⟩
def Rd.blk : Rd → Nat
  | .all b => b
  | .part b _ _ => b
structure Ef where
  val : AV
  up : List (Nat × Hs)
  rd : List Rd
def St.app (S : St) (d : Option Tmp) (e : Ef) : St := { tm := zgk d e.val S.tm, hp := upd e.up S.hp }
def ze0 (p : Nat × Hs) : Rd := match p.2 with
  | .patch off l => .part p.1 off l.length
  | _ => .all p.1
def Ef.foot (e : Ef) : List Rd := e.rd ++ e.up.map ze0
def AgR (h h' : Nat → Hs) : Rd → Prop
  | .all b => h b = h' b
  | .part b lo n => h b = h' b ∨ ∃ cs cs', h b = .live (.box cs) ∧ h' b = .live (.box cs') ∧ cs.length = cs'.length ∧ (cs.drop lo).take n = (cs'.drop lo).take n
theorem AgR.refl (h : Nat → Hs) : ∀ r, AgR h h r
  | .all _ => rfl
  | .part _ _ _ => .inl rfl
theorem AgR.symm {h h' : Nat → Hs} : ∀ {r}, AgR h h' r → AgR h' h r
  | .all _, k => Eq.symm k
  | .part _ _ _, .inl k => .inl k.symm
  | .part _ _ _, .inr ⟨cs, cs', k1, k2, k3, k4⟩ => .inr ⟨cs', cs, k2, k1, k3.symm, k4.symm⟩
theorem AgR.trans {h h' h'' : Nat → Hs} : ∀ {r}, AgR h h' r → AgR h' h'' r → AgR h h'' r
  | .all _, k, k' => Eq.trans k k'
  | .part _ _ _, .inl k, .inl k' => .inl (k.trans k')
  | .part _ _ _, .inl k, .inr ⟨cs, cs', k1, k2⟩ => .inr ⟨cs, cs', k.trans k1, k2⟩
  | .part _ _ _, .inr ⟨cs, cs', k1, k2, k3⟩, .inl k' => .inr ⟨cs, cs', k1, k'.symm.trans k2, k3⟩
  | .part _ _ _, .inr ⟨cs, cs', k1, k2, k3, k4⟩, .inr ⟨ds, ds', l1, l2, l3, l4⟩ => by
    rw [k2] at l1; cases l1; exact .inr ⟨cs, ds', k1, l2, k3.trans l3, k4.trans l4⟩
def dis (p : Nat × Hs) (r : Rd) : Bool := !(Nat.beq p.1 r.blk) || (match p.2, r with
  | .patch off l, .part _ lo n => Nat.ble (off + l.length) lo || Nat.ble (lo + n) off
  | _, _ => false)
theorem zkw : ∀ (l : List Ce) (o : Nat) (cs : List Ce), (zme cs o l).length = cs.length
  | [], _, _ => rfl
  | x :: l, o, cs => by simp only [zme]; rw [zkw l]; simp
theorem zkx : ∀ (l : List Ce) (o : Nat) (cs : List Ce) (i : Nat), (zme cs o l)[i]? = if o ≤ i ∧ i < o + l.length ∧ i < cs.length then l[i - o]? else cs[i]?
  | [], o, cs, i => by simp only [zme]; rw [if_neg (by simp; omega)]
  | x :: l, o, cs, i => by
    simp only [zme]
    rw [zkx l (o + 1) _ i]
    simp only [List.length_set, List.length_cons, List.getElem?_set]
    by_cases h1 : i = o
    · subst h1
      by_cases h2 : i < cs.length
      · rw [if_neg (by omega), if_pos rfl, if_pos h2, if_pos ⟨by omega, by omega, h2⟩]; simp
      · rw [if_neg (by omega), if_pos rfl, if_neg h2, if_neg (by omega), List.getElem?_eq_none (by omega)]
    · by_cases h2 : o + 1 ≤ i ∧ i < o + 1 + l.length ∧ i < cs.length
      · rw [if_pos h2, if_pos (by omega)]
        rw [show i - o = (i - (o + 1)) + 1 by omega]; simp
      · rw [if_neg h2, if_neg (fun e => h1 e.symm), if_neg (by omega)]
theorem zwh (l : List Ce) (o lo n : Nat) (cs : List Ce) (h : o + l.length ≤ lo ∨ lo + n ≤ o) : ((zme cs o l).drop lo).take n = (cs.drop lo).take n := by
  apply List.ext_getElem?
  intro i
  simp only [List.getElem?_take, List.getElem?_drop]
  split
  · rw [zkx, if_neg (by omega)]
  · rfl
theorem zs2 (l l' : List Ce) (o o' : Nat) (cs : List Ce) (h : o + l.length ≤ o' ∨ o' + l'.length ≤ o) : zme (zme cs o l) o' l' = zme (zme cs o' l') o l := by
  apply List.ext_getElem?
  intro i
  simp only [zkx, zkw]
  by_cases h1 : o ≤ i ∧ i < o + l.length ∧ i < cs.length
  · by_cases h2 : o' ≤ i ∧ i < o' + l'.length ∧ i < cs.length
    · omega
    · simp only [if_neg h2, if_pos h1]
  · by_cases h2 : o' ≤ i ∧ i < o' + l'.length ∧ i < cs.length
    · simp only [if_pos h2, if_neg h1]
    · simp only [if_neg h2, if_neg h1]
theorem za8 {a b : Nat} (h : a ≠ b) : Nat.beq a b = false := by
  cases e : Nat.beq a b with
  | false => rfl
  | true => exact absurd (Nat.eq_of_beq_eq_true e) h
theorem zp7 {p : Nat × Hs} {r : Rd} (h : dis p r = true) : p.1 ≠ r.blk ∨ ∃ off l lo n, p.2 = .patch off l ∧ r = .part p.1 lo n ∧ (off + l.length ≤ lo ∨ lo + n ≤ off) := by
  unfold dis at h
  by_cases e : p.1 = r.blk
  · rw [e, Nat.beq_refl] at h
    simp only [Bool.not_true, Bool.false_or] at h
    split at h
    · rename_i off l b lo n hp
      refine .inr ⟨off, l, lo, n, hp, ?_, ?_⟩
      · rw [e]; rfl
      · simp only [Bool.or_eq_true] at h
        exact h.imp Nat.le_of_ble_eq_true Nat.le_of_ble_eq_true
    · cases h
  · exact .inl e
theorem zyk (r : Rd) : ∀ (u : List (Nat × Hs)) (h : Nat → Hs), (∀ p ∈ u, dis p r = true) → AgR (upd u h) h r
  | [], h, _ => AgR.refl h r
  | p :: u, h, hd => by
    have ih := zyk r u h (fun q hq => hd q (List.mem_cons_of_mem _ hq))
    refine AgR.trans (h' := upd u h) ?_ ih
    rcases zp7 (hd p (by simp)) with e | ⟨off, l, lo, n, hp, rfl, hr⟩
    · have hk : upd (p :: u) h r.blk = upd u h r.blk := by simp only [upd, za8 (Ne.symm e), cond]
      cases r with
      | all b => exact hk
      | part b lo n => exact .inl hk
    · have hk : upd (p :: u) h p.1 = zwe p.2 (upd u h p.1) := by simp only [upd, Nat.beq_refl, cond]
      show upd (p :: u) h p.1 = _ ∨ _
      rw [hk, hp]
      cases hx : upd u h p.1 with
      | fresh => exact .inl rfl
      | dead => exact .inl rfl
      | patch _ _ => exact .inl rfl
      | live k =>
        cases k with
        | row _ _ _ _ => exact .inl rfl
        | box cs => exact .inr ⟨_, cs, rfl, rfl, zkw _ _ _, zwh _ _ _ _ _ hr⟩
def act (p : Nat × Hs) (b : Nat) (x : Hs) : Hs := cond (Nat.beq b p.1) (zwe p.2 x) x
theorem zky (p : Nat × Hs) (u : List (Nat × Hs)) (h : Nat → Hs) (b : Nat) : upd (p :: u) h b = act p b (upd u h b) := by
  simp only [upd, act]
theorem zwi {p q : Nat × Hs} (h : dis p (ze0 q) = true) (b : Nat) (x : Hs) : act p b (act q b x) = act q b (act p b x) := by
  have hb : (ze0 q).blk = q.1 := by unfold ze0; cases q.2 <;> rfl
  rcases zp7 h with e | ⟨off, l, lo, n, hp, hq, hr⟩
  · rw [hb] at e
    unfold act
    by_cases e1 : b = p.1
    · have : b ≠ q.1 := fun e2 => e (e1.symm.trans e2)
      rw [za8 this]; rfl
    · rw [za8 e1]; rfl
  · have hq1 : q.1 = p.1 := by rw [← hb, hq]; rfl
    have hq2 : ∃ l', q.2 = .patch lo l' ∧ l'.length = n := by
      unfold ze0 at hq
      cases hx : q.2 with
      | patch off' l' => rw [hx] at hq; simp only [Rd.part.injEq] at hq; exact ⟨l', by rw [hq.2.1], hq.2.2⟩
      | _ => rw [hx] at hq; cases hq
    obtain ⟨l', hl', hn⟩ := hq2
    unfold act
    rw [hq1, hp, hl']
    cases Nat.beq b p.1 with
    | false => rfl
    | true =>
      simp only [cond]
      cases x with
      | live k =>
        cases k with
        | box cs => simp only [zwe]; rw [zs2 _ _ _ _ _ (by omega)]
        | row _ _ _ _ => rfl
      | _ => rfl
theorem zzr (u : List (Nat × Hs)) (p : Nat × Hs) (b : Nat) (h : Nat → Hs) (hd : ∀ q ∈ u, dis p (ze0 q) = true) : act p b (upd u h b) = upd u (fun i => act p i (h i)) b := by
  induction u with
  | nil => rfl
  | cons q u ih =>
    rw [zky, zky, zwi (hd q (by simp)), ih (fun r hr => hd r (List.mem_cons_of_mem _ hr))]
theorem upd_comm : ∀ (u u' : List (Nat × Hs)) (h : Nat → Hs), (∀ p ∈ u, ∀ q ∈ u', dis p (ze0 q) = true) → upd u (upd u' h) = upd u' (upd u h)
  | [], u', h, _ => rfl
  | p :: u, u', h, hd => by
    funext b
    rw [zky, upd_comm u u' h (fun q hq => hd q (List.mem_cons_of_mem _ hq)), zzr u' p b _ (hd p (by simp))]
    congr 1
theorem zs3 {d : Option Tmp} {v : AV} {tm : Nat → AV} {t : Nat} (h : ∀ x, d = some x → x ≠ t) : zgk d v tm t = tm t := by
  cases d with
  | none => rfl
  | some d => simp only [zgk, za8 (Ne.symm (h d rfl)), cond]
theorem zrn {d d' : Option Tmp} (v v' : AV) (tm : Nat → AV) (h : ∀ x, d = some x → d' ≠ some x) : zgk d v (zgk d' v' tm) = zgk d' v' (zgk d v tm) := by
  cases d with
  | none => rfl
  | some d =>
    cases d' with
    | none => rfl
    | some d' =>
      funext t
      have hne : d' ≠ d := fun e => h d rfl (by rw [e])
      simp only [zgk]
      by_cases h1 : t = d
      · subst h1; rw [Nat.beq_refl, za8 (Ne.symm hne)]; rfl
      · rw [za8 h1]; rfl
section
variable (P : Program) (ops : Array Oper) (X : Cx)
def za4 (o : Oper) (S : St) (e : Ef) : Prop := ∀ (S2 : St) (a : Act) (w : World), (∀ t ∈ o.looksAt ops, S2.tm t = S.tm t) → (∀ r ∈ e.foot, AgR S2.hp S.hp r) → (∀ t, t ∈ o.looksAt ops ∨ o.dst = some t → t < X.N) → Sim X S2 a w →
  Step P ops o a w (fun v w' => Sim X (S2.app o.dst e) (a.put o.dst v) w')
def zin (f e : Ef) : Bool := f.up.all (fun p => e.foot.all (dis p)) && e.up.all (fun p => f.foot.all (dis p))
theorem zio {f e : Ef} (h : zin f e = true) : (∀ p ∈ f.up, ∀ r ∈ e.foot, dis p r = true) ∧ (∀ p ∈ e.up, ∀ r ∈ f.foot, dis p r = true) := by
  simp only [zin, Bool.and_eq_true, List.all_eq_true] at h
  exact h
variable (Q : St → Prop)
def ovr (p r : Rd) : Bool := Nat.beq p.blk r.blk && !(match p, r with
  | .part _ o l, .part _ lo n => Nat.ble (o + l) lo || Nat.ble (lo + n) o
  | _, _ => false)
def zyl (fu fr eu er : List Rd) : Bool := fu.all (fun p => er.all (fun r => !ovr p r) && eu.all (fun r => !ovr p r)) && eu.all (fun p => fr.all (fun r => !ovr p r) && fu.all (fun r => !ovr p r))
theorem zs4 {p : Nat × Hs} {r : Rd} (h : ovr (ze0 p) r = false) : dis p r = true := by
  obtain ⟨b, x⟩ := p
  unfold ovr at h
  unfold dis
  have hb : (ze0 (b, x)).blk = b := by unfold ze0; cases x <;> rfl
  rw [hb] at h
  cases e : Nat.beq b r.blk with
  | false => simp [e]
  | true =>
    rw [e] at h
    simp only [Bool.true_and, Bool.not_eq_false'] at h
    cases x <;> cases r <;> simp_all [ze0]
theorem zs5 {f e : Ef} (h : zyl (f.up.map ze0) f.rd (e.up.map ze0) e.rd = true) : zin f e = true := by
  simp only [zyl, Bool.and_eq_true, List.all_eq_true, List.mem_map, Bool.not_eq_true', forall_exists_index, and_imp, forall_apply_eq_imp_iff₂] at h
  simp only [zin, Bool.and_eq_true, List.all_eq_true, Ef.foot, List.mem_append, List.mem_map]
  refine ⟨fun p hp r hr => zs4 ?_, fun p hp r hr => zs4 ?_⟩
  · rcases hr with hr | ⟨q, hq, rfl⟩
    · exact (h.1 p hp).1 r hr
    · exact (h.1 p hp).2 q hq
  · rcases hr with hr | ⟨q, hq, rfl⟩
    · exact (h.2 p hp).1 r hr
    · exact (h.2 p hp).2 q hq
def Go (anc : Nat → Nat → Bool) : List Nat → List (Nat × List Rd × List Rd) → St → Prop
  | [], _, S => Q S
  | i :: r, T, S => ∃ o e, ops[i]? = some o ∧ za4 P ops X o S e ∧ (T.all fun p => zyl p.2.1 p.2.2 (e.up.map ze0) e.rd || anc p.1 i) = true ∧ Go anc r ((i, e.up.map ze0, e.rd) :: T) (S.app o.dst e)
def Run : List (Nat × Ef) → St → Prop
  | [], S => Q S
  | p :: r, S => ∃ o, ops[p.1]? = some o ∧ za4 P ops X o S p.2 ∧ Run r (S.app o.dst p.2)
theorem zmn {anc : Nat → Nat → Bool} : ∀ (l : List Nat) (T : List (Nat × List Rd × List Rd)) (S : St), Go P ops X Q anc l T S →
    ∃ L : List (Nat × Ef), L.map (·.1) = l ∧ Run P ops X Q L S ∧ L.Pairwise (fun p q => anc p.1 q.1 = true ∨ zin p.2 q.2 = true) ∧ ∀ p ∈ T, ∀ q ∈ L, anc p.1 q.1 = true ∨ zyl p.2.1 p.2.2 (q.2.up.map ze0) q.2.rd = true
  | [], T, S, h => ⟨[], rfl, h, .nil, fun _ _ _ hq => by cases hq⟩
  | i :: r, T, S, h => by
    obtain ⟨o, e, ho, hv, hc, hg⟩ := h
    obtain ⟨L, h1, h2, h3, h4⟩ := zmn r _ _ hg
    refine ⟨(i, e) :: L, by simp [h1], ⟨o, ho, hv, h2⟩, .cons (fun q hq => (h4 (i, e.up.map ze0, e.rd) (by simp) q hq).imp id zs5) h3, fun p hp q hq => ?_⟩
    rcases List.mem_cons.1 hq with rfl | hq
    · have := List.all_eq_true.1 hc p hp
      rw [Bool.or_eq_true] at this
      exact this.symm
    · exact h4 p (List.mem_cons_of_mem _ hp) q hq
def z2t (p q : Nat × Ef) : Prop := (∀ o o', ops[p.1]? = some o → ops[q.1]? = some o' → o.apart ops o' = true) ∧ zin p.2 q.2 = true
theorem zwj {S : St} {o o' : Oper} {e e' : Ef} (ha : o.apart ops o' = true) (hn : zin e e' = true) : (S.app o.dst e).app o'.dst e' = (S.app o'.dst e').app o.dst e := by
  obtain ⟨h1, h2, h3⟩ := Oper.apart_spec ha
  obtain ⟨n1, n2⟩ := zio hn
  simp only [St.app]
  rw [zrn _ _ _ (fun x hx hx' => h2 x hx' hx), upd_comm e'.up e.up _ (fun p hp q hq => n2 p hp _ (List.mem_append_right _ (List.mem_map.2 ⟨q, hq, rfl⟩)))]
theorem ziq {S S1 : St} {o : Oper} {e : Ef} (ht : ∀ t ∈ o.looksAt ops, S1.tm t = S.tm t) (hb : ∀ r ∈ e.foot, AgR S.hp S1.hp r) (h : za4 P ops X o S1 e) : za4 P ops X o S e :=
  fun S2 a w h1 h2 h3 h4 => h S2 a w (fun t k => (h1 t k).trans (ht t k).symm) (fun r k => (h2 r k).trans (hb r k)) h3 h4
theorem zym {S : St} {o o' : Oper} {e : Ef} (h : ∀ d, o.dst = some d → d ∉ o'.looksAt ops) : ∀ t ∈ o'.looksAt ops, (S.app o.dst e).tm t = S.tm t := fun t ht =>
  zs3 (fun x hx e => h x hx (e ▸ ht))
theorem zyn {S : St} {d : Option Tmp} {e e' : Ef} (h : ∀ p ∈ e.up, ∀ r ∈ e'.foot, dis p r = true) : ∀ r ∈ e'.foot, AgR (S.app d e).hp S.hp r := fun r hr =>
  zyk r _ _ (fun p hp => h p hp r hr)
theorem pull (q : Nat × Ef) : ∀ (L1 L2 : List (Nat × Ef)) (S : St), (∀ p ∈ L1, z2t ops p q) → Run P ops X Q (L1 ++ q :: L2) S →
    ∃ o, ops[q.1]? = some o ∧ za4 P ops X o S q.2 ∧ Run P ops X Q (L1 ++ L2) (S.app o.dst q.2)
  | [], L2, S, _, h => h
  | p :: L1, L2, S, hi, h => by
    obtain ⟨o, ho, hv, hr⟩ := h
    obtain ⟨o', ho', hv', hr'⟩ := pull q L1 L2 _ (fun x hx => hi x (List.mem_cons_of_mem _ hx)) hr
    obtain ⟨ha, hn⟩ := hi p (by simp)
    have ha := ha o o' ho ho'
    obtain ⟨h1, h2, h3⟩ := Oper.apart_spec ha
    obtain ⟨n1, n2⟩ := zio hn
    refine ⟨o', ho', ziq P ops X (zym ops h1) (fun r hr => (zyn n1 r hr).symm) hv', ?_⟩
    refine ⟨o, ho, ziq P ops X (S1 := S) (fun t k => (zym ops h3 t k).symm) (fun r k => zyn n2 r k) hv, ?_⟩
    rw [← zwj ops ha hn]
    exact hr'
end
section
variable {P : Program} {ops : Array Oper} {X : Cx} {Q : St → Prop} (md : Region.Mode) (anc : Nat → Nat → Bool)
theorem zro {Q' : Exit → Act → World → Prop} (hQ : ∀ S a w, Q S → Sim X S a w → Q' .normal a w) (hN : ∀ o ∈ ops, ∀ t, t ∈ o.looksAt ops ∨ o.dst = some t → t < X.N)
    (hord : ∀ j o, ops[j]? = some o → ∀ e ∈ o.after, Region.binds md e = true → e.on < j)
    (hanc : ∀ i j, anc i j = true → ∃ o, ops[j]? = some o ∧ ∃ e ∈ o.after, Region.binds md e = true ∧ (e.on = i ∨ anc i e.on = true)) :
    ∀ (n : Nat) (L : List (Nat × Ef)) (listed : Array Bool) (S : St) (a : Act) (w : World), L.length = n → L.Pairwise (fun p q => anc p.1 q.1 = true ∨ z2t ops p q) → (L.map (·.1)).Nodup →
      (∀ k, k ∈ L.map (·.1) ↔ k < ops.size ∧ listed.getD k true = false) → listed.size = ops.size →
      (∀ j o, ops[j]? = some o → listed.getD j false = true → ∀ e ∈ o.after, Region.binds md e = true → listed.getD e.on false = true) →
      Sim X S a w → Run P ops X Q L S → ∀ m, wpAnyIn (FX X) m P md ops Q' n listed a w := by
  intro n
  induction n with
  | zero =>
    intro L listed S a w hl hp hn hm hz hdc hS hr m0
    obtain rfl := List.eq_nil_of_length_eq_zero hl
    refine ⟨List.eq_nil_iff_forall_not_mem.2 fun j hj => ?_, hQ _ _ _ hr hS⟩
    obtain ⟨h0, o, ho, _⟩ := mem_ready.1 hj
    have := (hm j).2 ⟨(Array.getElem?_eq_some_iff.1 ho).1, h0⟩
    cases this
  | succ n ih =>
    intro L listed S a w hl hp hn hm hz hdc hS hr m0
    have hne : L.map (·.1) ≠ [] := by intro e; have := congrArg List.length e; simp [hl] at this
    refine ⟨fun hrd => ?_, fun j hj => ?_⟩
    · exfalso
      obtain ⟨m, hms, hmin⟩ := zzq _ hne
      obtain ⟨hlt, h0⟩ := (hm m).1 hms
      have : m ∈ Region.ready md ops listed := by
        refine mem_ready.2 ⟨h0, ops[m], Array.getElem?_eq_getElem hlt, fun e he hb => ?_⟩
        have hlt' := hord m _ (Array.getElem?_eq_getElem hlt) e he hb
        cases hq : listed.getD e.on false with
        | true => rfl
        | false =>
          rw [zku (by omega) false true] at hq
          have := hmin _ ((hm e.on).2 ⟨by omega, hq⟩)
          omega
      rw [hrd] at this; cases this
    · obtain ⟨h0, oj, hoj, hall⟩ := mem_ready.1 hj
      have hjl : j < ops.size := (Array.getElem?_eq_some_iff.1 hoj).1
      have hjs : j ∈ L.map (·.1) := (hm j).2 ⟨hjl, h0⟩
      have lst : ∀ (k : Nat) (i : Nat), listed.getD k false = true → anc i k = true → listed.getD i false = true := by
        intro k
        induction k using Nat.strongRecOn with
        | _ k ihk =>
          intro i hk ha
          obtain ⟨o, ho, e, he, hb, h⟩ := hanc i k ha
          have hel := hdc k o ho hk e he hb
          rcases h with rfl | h
          · exact hel
          · exact ihk _ (hord k o ho e he hb) i hel h
      have hfree : ∀ i ∈ L.map (·.1), anc i j = false := fun i hi => by
        cases ha : anc i j with
        | false => rfl
        | true =>
          exfalso
          obtain ⟨hil, hi0⟩ := (hm i).1 hi
          obtain ⟨o, ho, e, he, hb, h⟩ := hanc i j ha
          rw [hoj] at ho
          obtain rfl := Option.some.inj ho
          have hel := hall e he hb
          have : listed.getD i false = true := by
            rcases h with rfl | h
            · exact hel
            · exact lst _ i hel h
          rw [zku (by omega) false true, hi0] at this
          cases this
      obtain ⟨q, hq, hqj⟩ := List.mem_map.1 hjs
      obtain ⟨L1, L2, rfl⟩ := List.append_of_mem hq
      subst hqj
      obtain ⟨o', ho', hv, hr'⟩ := pull P ops X Q q L1 L2 S (fun p hp' => by
        have := (List.pairwise_append.1 hp).2.2 p hp' q (by simp)
        exact this.resolve_left (by rw [hfree p.1 (by simp; exact .inl ⟨p.2, hp'⟩)]; simp)) hr
      rw [hoj] at ho'
      obtain rfl := Option.some.inj ho'
      have hs := hv S a w (fun _ _ => rfl) (fun r _ => AgR.refl _ r) (hN oj (Array.mem_of_getElem? hoj)) hS
      refine Step.wpIn hoj hs fun v w' hS' => ?_
      have hn1 : (L1.map (·.1) ++ q.1 :: L2.map (·.1)).Nodup := by simpa using hn
      have hm' : ∀ k, k ∈ (L1 ++ L2).map (·.1) ↔ k < ops.size ∧ (listed.setIfInBounds q.1 true).getD k true = false := fun k => by
        by_cases hkj : k = q.1
        · subst hkj
          refine ⟨fun h => ?_, fun h => ?_⟩
          · exfalso
            rw [List.map_append] at h
            have e := (List.nodup_append.1 hn1)
            rcases List.mem_append.1 h with h | h
            · exact e.2.2 _ h _ (by simp) rfl
            · exact (List.nodup_cons.1 e.2.1).1 h
          · have h2 := h.2
            simp [hz, hjl] at h2
        · rw [getD_set_ne true (Ne.symm hkj), ← hm k]
          simp only [List.map_append, List.map_cons, List.mem_append, List.mem_cons]
          exact ⟨fun h => h.elim .inl (fun h => .inr (.inr h)), fun h => h.elim .inl (fun h => .inr (h.resolve_left hkj))⟩
      refine ih (L1 ++ L2) _ _ _ _ ?_ ?_ ?_ hm' (by simp [hz]) ?_ hS' hr' m0
      · simp at hl ⊢; omega
      · obtain ⟨p1, p2, p3⟩ := List.pairwise_append.1 hp
        exact List.pairwise_append.2 ⟨p1, (List.pairwise_cons.1 p2).2, fun x hx y hy => p3 x hx y (List.mem_cons_of_mem _ hy)⟩
      · rw [List.map_append]
        have e := (List.nodup_append.1 hn1)
        exact List.nodup_append.2 ⟨e.1, (List.nodup_cons.1 e.2.1).2, fun x hx y hy => e.2.2 x hx y (List.mem_cons_of_mem _ hy)⟩
      · intro k o ho hk e he hb
        by_cases hkj : k = q.1
        · subst hkj
          rw [hoj] at ho
          obtain rfl := Option.some.inj ho
          have := hall e he hb
          by_cases hej : e.on = q.1
          · rw [hej]; simp [hz, hjl]
          · rw [getD_set_ne false (Ne.symm hej)]; exact this
        · rw [getD_set_ne false (Ne.symm hkj)] at hk
          have := hdc k o ho hk e he hb
          by_cases hej : e.on = q.1
          · rw [hej]; simp [hz, hjl]
          · rw [getD_set_ne false (Ne.symm hej)]; exact this
theorem Sim.drew {S : St} {a : Act} {w : World} (h : Sim X S a w) : Sim X S a w.drew := by
  obtain ⟨τ, h⟩ := h
  exact ⟨τ, h.size, h.nodef, h.bel.drew, h.tm, h.hp, h.own, h.sep, h.one, h.pin⟩
def zmo (N : Nat) (l : List Oper) : Bool := l.all (fun o => (match o.dst with | some d => decide (d < N) | none => true) && (o.looksAt l.toArray).all (fun t => decide (t < N)))
theorem zs6 {l : List Oper} {N : Nat} (h : zmo N l = true) : ∀ o ∈ l.toArray, ∀ t, t ∈ o.looksAt l.toArray ∨ o.dst = some t → t < N := fun o ho t ht => by
  have := List.all_eq_true.1 h o (by simpa using ho)
  simp only [Bool.and_eq_true, List.all_eq_true, decide_eq_true_eq] at this
  rcases ht with ht | ht
  · exact this.2 t ht
  · simpa [ht] using this.1
theorem zrp {id : Nat} {Q' : Exit → Act → World → Prop} {a : Act} {w : World} {l : List Oper} {S : St}
    (hm : P.follows .mixedOrders = true) (hB : z2m .any l.toArray (zil .any l.toArray) [] (List.range l.length) = true) (hN : zmo X.N l = true)
    (hg : Go P l.toArray X Q (zmg (zil .any l.toArray)) (List.range l.length) [] S) (hQ : ∀ S a w, Q S → Sim X S a w → Q' .normal a w) (hS : Sim X S a w) : ∀ n, (Code.region id l.toArray true).wpIn (FX X) n P Q' a w := fun n => by
  simp only [z2m, Bool.and_eq_true] at hB
  obtain ⟨⟨⟨⟨b1, b2⟩, b3, b4⟩, ⟨⟨b5, b6⟩, b7⟩, b8⟩, b9⟩ := hB
  refine wpIn_region_any hm ?_
  have b5' : (List.range l.length).length = l.toArray.size := of_decide_eq_true b5
  obtain ⟨L, h1, h2, h3, _⟩ := zmn P l.toArray X Q _ _ _ hg
  have hpw : (L.map (·.1)).Pairwise (fun i j => zmg (zil .any l.toArray) i j = true ∨ ∀ o o', l.toArray[i]? = some o → l.toArray[j]? = some o' → o.apart l.toArray o' = true) := by
    rw [h1]
    exact zod (fun i j hr => by
      unfold z40 at hr
      simp only [Bool.or_eq_true, Bool.and_eq_true] at hr
      rcases hr with h | ⟨⟨h1, h3⟩, h2⟩
      · exact .inl h
      · exact .inr fun o p ho hp => by simpa only [ho, hp] using h1) _ b9
  have hpw' := List.pairwise_map.1 hpw
  exact zro (P := P) (ops := l.toArray) (X := X) (Q := Q) .any (zmg (zil .any l.toArray)) hQ (zs6 hN)
    (fun j o ho e he hb => by
      have := List.all_eq_true.1 b2 j (by simpa using (Array.getElem?_eq_some_iff.1 ho).1)
      simp only [ho] at this
      have := Array.all_eq_true_iff_forall_mem.1 this e he
      simpa [hb] using this)
    (fun i j ha => by
      unfold zmg at ha
      have hj : j < l.toArray.size := by
        rcases Nat.lt_or_ge j (zil .any l.toArray).size with h | h
        · rw [← of_decide_eq_true b3]; exact h
        · simp [Array.getElem?_eq_none h] at ha
      have ho := Array.getElem?_eq_getElem hj
      have := List.all_eq_true.1 b4 j (by simpa using hj)
      simp only [ho] at this
      rw [beq_iff_eq.1 this, ← Array.foldl_toList] at ha
      rcases zkv _ _ _ _ _ ha with h | ⟨e, he, hb, h⟩
      · simp at h
      · exact ⟨_, ho, e, by simpa using he, hb, h⟩)
    l.toArray.size L (Array.replicate l.toArray.size false) S a w.drew (by rw [← b5', ← h1]; simp)
    ((hpw'.and h3).imp fun ⟨x, y⟩ => x.elim .inl (fun x => y.elim .inl (fun y => .inr ⟨x, y⟩)))
    (by rw [h1]; exact zei _ b8)
    (fun k => by
      rw [h1]
      exact ⟨fun hk => by
        have := of_decide_eq_true (List.all_eq_true.1 b6 k hk)
        exact ⟨this, zp5 this⟩,
      fun hk => by
        have := List.all_eq_true.1 b7 k (by simpa using hk.1)
        simpa using this⟩)
    (by simp) (fun j o ho h => by rw [zmh] at h; cases h)
    hS.drew h2 n
theorem zmp {Q' : Exit → Act → World → Prop} (hQ : ∀ S a w, Q S → Sim X S a w → Q' .normal a w) (hN : ∀ o ∈ ops, ∀ t, t ∈ o.looksAt ops ∨ o.dst = some t → t < X.N) {anc : Nat → Nat → Bool} : ∀ (l : List Nat) (T : List (Nat × List Rd × List Rd)) (S : St) (a : Act) (w : World), Go P ops X Q anc l T S → Sim X S a w → ∀ n, wpOpsIn (FX X) n P ops Q' l a w
  | [], T, S, a, w, hg, hS, n => hQ _ _ _ hg hS
  | i :: r, T, S, a, w, hg, hS, n => by
    obtain ⟨o, e, ho, hv, _, hg⟩ := hg
    rw [wpOpsIn_cons]
    exact Step.wpIn ho (hv S a w (fun _ _ => rfl) (fun r _ => AgR.refl _ r) (hN o (Array.mem_of_getElem? ho)) hS) fun v w' hS' => zmp hQ hN r _ _ _ _ hg hS' n
theorem zof {id : Nat} {Q' : Exit → Act → World → Prop} {a : Act} {w : World} {l : List Oper} {S : St} (hN : zmo X.N l = true)
    (hg : Go P l.toArray X Q (fun _ _ => true) (List.range l.length) [] S) (hQ : ∀ S a w, Q S → Sim X S a w → Q' .normal a w) (hS : Sim X S a w) : ∀ n, (Code.region id l.toArray false).wpIn (FX X) n P Q' a w := fun n =>
  wpIn_region (zmp hQ (zs6 hN) (List.range l.toArray.size) [] S a w (by simpa using hg) hS n)
end
end Go.Proofs.YtomeaibdedaldaaGreatDoor.Ax
namespace Go.Proofs.YtomeaibdedaldaaGreatDoor.MemL
open Go.RowKit
def zd0 (cur : Array Value) : Nat → List Value → Array Value
  | _, [] => cur
  | o, v :: r => zd0 (cur.setIfInBounds o v) (o + 1) r
theorem zcb (vs : List Value) : ∀ (cur : Array Value) (o : Nat), (zd0 cur o vs).size = cur.size := by
  induction vs with
  | nil => intro cur o; rfl
  | cons v r ih => intro cur o; simp only [zd0]; rw [ih]; simp
theorem zcr (vs : List Value) : ∀ (cur : Array Value) (o : Nat), o + vs.length ≤ cur.size → (zd0 cur o vs).toList = cur.toList.take o ++ vs ++ cur.toList.drop (o + vs.length) := by
  induction vs with
  | nil => intro cur o h; simp [zd0]
  | cons v r ih =>
    intro cur o h
    simp only [List.length_cons] at h
    simp only [zd0]
    rw [ih _ _ (by simp; omega)]
    apply List.ext_getElem?
    intro k
    simp only [Array.toList_setIfInBounds, List.getElem?_append, List.length_append, List.length_take, List.length_set, Array.length_toList, List.length_cons, List.getElem?_take, List.getElem?_drop, List.getElem?_set, List.getElem?_cons]
    have e1 : min (o + 1) cur.size = o + 1 := by omega
    have e2 : min o cur.size = o := by omega
    rw [e1, e2]
    by_cases k1 : k < o
    · simp [k1, show k < o + 1 by omega, show k < o + 1 + r.length by omega, show k < o + (r.length + 1) by omega, show ¬ o = k by omega]
    · by_cases k2 : k = o
      · subst k2
        simp [show k < k + 1 + r.length by omega, show k < cur.size by omega]
      · by_cases k3 : k < o + 1 + r.length
        · simp [k1, show ¬ k < o + 1 by omega, k3, show k < o + (r.length + 1) by omega, show ¬ (k - o = 0) by omega, show k - (o + 1) = k - o - 1 by omega]
        · simp [k1, show ¬ k < o + (r.length + 1) by omega, k3, show ¬ (o = o + 1 + r.length + (k - (o + 1 + r.length))) by omega, show o + 1 + r.length + (k - (o + 1 + r.length)) = o + (r.length + 1) + (k - (o + (r.length + 1))) by omega]
          intro h; omega
theorem zbr {w : World} {g : Nat} {T : TypeId} : ∀ (vs : List Value) (o : Nat) (w : World) (cur : Array Value), w.heap[g]? = some (.cells cur T (0, 0)) → (w.setCells g o vs).heap[g]? = some (.cells (zd0 cur o vs) T (0, 0))
  | [], o, w, cur, h => h
  | v :: r, o, w, cur, h => by
    simp only [World.setCells, zd0]
    exact zbr (w := w) r (o + 1) _ _ (by simp [World.setCell, Array.getElem?_modify, h])
theorem zcg {g b : Nat} (hne : b ≠ g) : ∀ (vs : List Value) (o : Nat) (w : World), (w.setCells g o vs).heap[b]? = w.heap[b]?
  | [], o, w => rfl
  | v :: r, o, w => by
    simp only [World.setCells]
    rw [zcg hne r (o + 1)]
    simp only [World.setCell, Array.getElem?_modify]
    rw [if_neg (Ne.symm hne)]
theorem zcp {B g : Nat} {a : World} (hg : B ≤ g) : ∀ (vs : List Value) (o : Nat) (w : World), Below B a w → Below B a (w.setCells g o vs)
  | [], _, _, h => h
  | v :: r, o, w, h => zcp hg r (o + 1) _ (h.setCell hg v)
theorem zkz {P : Program} (w : World) (t e ty : TypeId) (z : Value) (k : Nat) (ht : P.underlying t = some (.slice e)) (hv : ∀ w, (zeroValue e).run P w = .ok z w) (hz : z.cells.size = k) (h1 : ∀ v ∈ z.cells, v.oneCell' = true) (hk : 0 < k) (b o n c : Nat) (hn : 0 < n)
    (hc : ∀ j, j < n * k → (w.cell? ⟨b, o + j, none⟩).isSome = true) (hf : ∀ j, j < n * k → w.frozen? ⟨b, o + j, none⟩ = false) :
    (Builtin.clear_ #[t] ty #[.slice (some ⟨b, o, none⟩) n c]).run P w = .ok (.tuple #[]) (w.setCells b o (Builtin.zeroCells z.cells n).toList) := by
  have hl : (Builtin.zeroCells z.cells n).toList.length = n * k := by simp [Builtin.zeroCells, hz]
  have hst := run_storeCells_cells (P := P) b o (Builtin.zeroCells z.cells n).toList 0 w (by rw [hl]; simpa using hc) (by rw [hl]; simpa using hf) (by
    intro v hv'
    simp only [Builtin.zeroCells, Array.toList_map, List.mem_map] at hv'
    obtain ⟨i, _, rfl⟩ := hv'
    have : i % z.cells.size < z.cells.size := Nat.mod_lt _ (by omega)
    rw [getElem!_pos z.cells _ this]
    exact h1 _ (Array.getElem_mem _))
  obtain ⟨m, rfl⟩ : ∃ m, n = m + 1 := ⟨n - 1, by omega⟩
  simp only [Nat.add_zero] at hst
  simp [Builtin.clear_, run_underlying ht, hv, hst]
theorem zd2 {P : Program} (w : World) (dT sT ty elem : TypeId) (k b o dLen dCap : Nat) (a : Addr) (sLen sCap : Nat) (cs : List Value)
    (hu : P.underlying dT = some (.slice elem)) (hs : (P.info? elem).map (·.size) = some k) (hn : cs.length = Nat.min sLen dLen * k)
    (hsrc : ∀ j v, cs[j]? = some v → w.cell? (a.add j) = some v) (hc : ∀ j, j < cs.length → (w.cell? ⟨b, o + j, none⟩).isSome = true) (hf : ∀ j, j < cs.length → w.frozen? ⟨b, o + j, none⟩ = false) (h1 : ∀ v ∈ cs, v.oneCell' = true) :
    (Builtin.copy_ #[dT, sT] ty #[.slice (some ⟨b, o, none⟩) dLen dCap, .slice (some a) sLen sCap]).run P w = .ok (goInt (Nat.min sLen dLen)) (w.setCells b o cs) := by
  have hl := run_loadCells_list (P := P) w a cs hsrc
  have hst := run_storeCells_cells (P := P) b o cs 0 w (by simpa using hc) (by simpa using hf) h1
  simp only [Nat.add_zero] at hst
  cases hq : P.info? elem with
  | none => simp [hq] at hs
  | some i =>
    have hi : i.size = k := by simpa [hq] using hs
    rw [hn] at hl
    simp [Builtin.copy_, run_underlying hu, Builtin.lenOf, Builtin.firstCells, sizeOf, typeInfo, hq, hi, hl, hst]
theorem zf2 {P : Program} {w : World} {ops : Array Oper} {rest : List Oper} {o : Oper} {a : Act} {Q : Exit → Act → World → Prop} (hgd : o.guard = none) (d s : Operand) (t t' : TypeId)
    (ho : o.op = .call { callee := .builtin .copy, args := #[d, s], argTypes := #[t, t'] }) (v u : Value) (hd : a.eval d = v) (hs : a.eval s = u) {v' : Value} {w' : World}
    (hr : (Builtin.copy_ #[t, t'] o.type #[v, u]).run P w = .ok v' w') (h : wpList P ops Q rest (a.put o.dst v') w') : wpList P ops Q (o :: rest) a w := by
  refine wpList_plain hgd fun K hK => ?_
  unfold Oper.wp
  simp [execOp, ho, resolve, invoke, builtin, hd, hs, hr, Result.andThen]
  exact hK _ _ h
theorem zg9 {L X : List Value} {k : Nat} (h : L.length = k) : (L ++ X).take k = L := by subst h; simp
end Go.Proofs.YtomeaibdedaldaaGreatDoor.MemL
namespace Go.Proofs.YtomeaibdedaldaaGreatDoor.Ax
open Go.RowKit MemL RegR
def avOf : Value → AV
  | .agg cs => .m (.ag (cs.toList.map .v))
  | v => .m (.c (.v v))
def St.ev (S : St) : Operand → AV
  | .tmp t => S.tm t
  | .const v => avOf v
  | .global g => .m (.c (.v (.pointer (some ⟨g, 0, none⟩))))
  | .func f => .m (.c (.v (.func (.func f) #[] #[])))
theorem z2u (E : En) : ∀ v : Value, (avOf v).R E v
  | .agg cs => ⟨cs, rfl, All2.of_map (R := Ce.R E) Ce.v (fun _ => rfl) _⟩
  | .bool _ | .int _ _ | .float _ _ | .complex _ _ _ | .string _ | .pointer _ | .slice _ _ _ | .map _ | .chan _ | .func _ _ _ | .nilFunc | .iface _ _ | .nilIface | .tuple _ => rfl
variable {P : Program} {ops : Array Oper} {X : Cx}
theorem SimT.ev {S : St} {τ : Nat → Value} {a : Act} {w : World} (h : SimT X S τ a w) : ∀ x, (∀ t, x = .tmp t → t < X.N) → (S.ev x).R (env X S.hp τ w) (a.eval x)
  | .tmp t, hx => h.tm t (hx t rfl)
  | .const v, _ => z2u _ v
  | .global g, _ => rfl
  | .func f, _ => rfl
def zam (ops : Array Oper) (S : St) (o : Oper) : Bool :=
  match o.guard with
  | none => true
  | some (g, b) => match (ops[g]?).bind (·.dst) with
    | none => false
    | some d => match S.tm d with
      | .m (.c (.v (.bool x))) => x == b
      | _ => false
def zs7 (ops : Array Oper) (S : St) (o : Oper) : Bool :=
  match o.guard with
  | none => false
  | some (g, b) => match (ops[g]?).bind (·.dst) with
    | none => false
    | some d => match S.tm d with
      | .m (.c (.v x)) => (match x with | .bool y => y != b | _ => true)
      | _ => false
theorem zir {o : Oper} {g : Nat} {b : Bool} {d : Tmp} (hg : o.guard = some (g, b)) (hd : (ops[g]?).bind (·.dst) = some d) : d ∈ o.looksAt ops := by
  unfold Oper.looksAt; rw [hg]; simp [hd]
theorem zbv {o : Oper} {t : Tmp} (h : Operand.tmp t ∈ o.op.operands) : t ∈ o.looksAt ops := by
  unfold Oper.looksAt
  exact List.mem_append_left _ (List.mem_filterMap.2 ⟨.tmp t, by simpa using h, rfl⟩)
theorem zb7 {S S2 : St} {o : Oper} (h : ∀ t ∈ o.looksAt ops, S2.tm t = S.tm t) {x : Operand} (hx : x ∈ o.op.operands) : S2.ev x = S.ev x := by
  cases x with
  | tmp t => exact h t (zbv hx)
  | const v => rfl
  | global g => rfl
  | func f => rfl
theorem zbu {S S2 : St} {o : Oper} {τ : Nat → Value} {a : Act} {w : World} (hw : zam ops S o = true) (h : ∀ t ∈ o.looksAt ops, S2.tm t = S.tm t) (hN : ∀ t, t ∈ o.looksAt ops ∨ o.dst = some t → t < X.N) (hS : SimT X S2 τ a w) :
    Region.wanted o (yielded ops a.tmps) = true := by
  unfold zam at hw
  unfold Region.wanted
  cases hg : o.guard with
  | none => rfl
  | some gb =>
    obtain ⟨g, b⟩ := gb
    simp only [hg] at hw ⊢
    cases hd : (ops[g]?).bind (·.dst) with
    | none => simp [hd] at hw
    | some d =>
      simp only [hd] at hw
      have hl := zir hg hd
      have hR := hS.tm d (hN d (.inl hl))
      rw [h d hl] at hR
      unfold yielded
      rw [hd]
      split at hw
      · rename_i x hx
        rw [hx] at hR
        have hR : a.tmps.getD d undef = .bool x := hR
        have hlt : d < a.tmps.size := by rw [hS.size]; exact hN d (.inl hl)
        have : a.tmps[d]? = some (.bool x) := by
          rw [Array.getElem?_eq_getElem hlt]; simpa [Array.getD, hlt] using hR
        simp [this, hw]
      · cases hw
theorem zog {S S2 : St} {o : Oper} {τ : Nat → Value} {a : Act} {w : World} (hw : zs7 ops S o = true) (h : ∀ t ∈ o.looksAt ops, S2.tm t = S.tm t) (hN : ∀ t, t ∈ o.looksAt ops ∨ o.dst = some t → t < X.N) (hS : SimT X S2 τ a w) :
    Region.wanted o (yielded ops a.tmps) = false := by
  unfold zs7 at hw
  unfold Region.wanted
  cases hg : o.guard with
  | none => simp [hg] at hw
  | some gb =>
    obtain ⟨g, b⟩ := gb
    simp only [hg] at hw ⊢
    cases hd : (ops[g]?).bind (·.dst) with
    | none => simp [hd] at hw
    | some d =>
      simp only [hd] at hw
      have hl := zir hg hd
      have hR := hS.tm d (hN d (.inl hl))
      rw [h d hl] at hR
      unfold yielded
      rw [hd]
      have hlt : d < a.tmps.size := by rw [hS.size]; exact hN d (.inl hl)
      have he : a.tmps[d]? = some (a.tmps.getD d undef) := by
        rw [Array.getElem?_eq_getElem hlt]; simp [Array.getD, hlt]
      simp only [Option.bind_some, he]
      split at hw
      · rename_i x hx
        rw [hx] at hR
        rw [show a.tmps.getD d undef = x from hR]
        cases x <;> simp at hw ⊢
        case bool y => cases y <;> cases b <;> simp_all
      · cases hw
theorem zs8 {S : St} {E : En} {a : Act} {d : Option Tmp} {r : AV} {v : Value} (hs : a.tmps.size = X.N) (ht : ∀ t, t < X.N → (S.tm t).R E (a.tmps.getD t undef)) (hr : r.R E v) :
    ∀ t, t < X.N → (zgk d r S.tm t).R E ((a.put d v).tmps.getD t undef) := fun t htN => by
  cases d with
  | none => exact ht t htN
  | some d =>
    by_cases h : t = d
    · subst h
      have : (a.put (some t) v).tmps.getD t undef = v := by simp [Act.put, Array.getD_eq_getD_getElem?, Array.getElem?_setIfInBounds, hs, htN]
      rw [this]
      simpa [zgk, Nat.beq_refl] using hr
    · have : (a.put (some d) v).tmps.getD t undef = a.tmps.getD t undef := by simp [Act.put, Array.getD_eq_getD_getElem?, Array.getElem?_setIfInBounds, Ne.symm h]
      rw [this]
      simpa [zgk, za8 h] using ht t htN
theorem SimT.turn {S : St} {a : Act} {w w' : World} {τ τ' : Nat → Value} (h : SimT X S τ a w) {u : List (Nat × Hs)} (hle : (env X S.hp τ w).le (env X (upd u S.hp) τ' w')) (hb : Kept X.K X.W0 w')
    (hhp : ∀ b k, upd u S.hp b = .live k → k.R (env X (upd u S.hp) τ' w') X.base (τ' b)) (hown : ∀ b g, zcd (upd u S.hp) b → occ (τ' b) = some g → ¬ X.K g ∧ g < w'.heap.size)
    (hsep : ∀ b b' g, b ≠ b' → zcd (upd u S.hp) b → zcd (upd u S.hp) b' → occ (τ' b) = some g → occ (τ' b') ≠ some g) (hone : ∀ b, (τ' b).oneCell' = true) {d : Option Tmp} {r : AV} {v : Value} {rd : List Rd} (hr : r.R (env X (upd u S.hp) τ' w') v) :
    SimT X (S.app d ⟨r, u, rd⟩) τ' (a.put d v) w' where
  size := by cases d <;> simp [Act.put, h.size]
  nodef := by cases d <;> simp [Act.put, h.nodef]
  bel := hb
  tm := zs8 h.size (fun t ht => zs1 hle _ _ (h.tm t ht)) hr
  hp := hhp
  own := hown
  sep := hsep
  one := hone
  pin := fun p hp => ⟨(hle.U _ (h.pin p hp).1).1, (hle.U _ (h.pin p hp).1).2.trans (h.pin p hp).2⟩
theorem zp8 {X : Cx} {h : Nat → Hs} {τ : Nat → Value} {w w' : World} (b : Below w.heap.size w w') : (env X h τ w).le (env X h τ w') where
  U := fun _ k => ⟨k, rfl⟩
  A := fun _ _ k => k
  size := b.size
  cell := fun g o hg _ => b.cell (p := ⟨g, o, none⟩) hg
theorem zis {X : Cx} {h : Nat → Hs} {τ : Nat → Value} {w w' : World} (b : Below w.heap.size w w') : ∀ (k : Bk) (v : Value) (base : Nat), k.R (env X h τ w) base v → k.R (env X h τ w') base v
  | .box cs, v, base, ⟨g, vs, h1, h2, h3⟩ => ⟨g, vs, h1, Bx.below h2 b, All2.mono (zb5 (zp8 b)) _ _ h3⟩
  | .row e k n xs, v, base, hk => by
    obtain ⟨h1, h2⟩ := hk
    refine ⟨h1, ?_⟩
    rcases h2 with h2 | ⟨g, cap, cur, e1, e2, e3, e4⟩
    · exact .inl h2
    · exact .inr ⟨g, cap, cur, e1, e2, (b.block g (Bx.lt ⟨_, e3⟩)).trans e3, e4⟩
theorem SimT.below {S : St} {a : Act} {w w' : World} {τ : Nat → Value} (h : SimT X S τ a w) (b : Below w.heap.size w w') {d : Option Tmp} {r : AV} {v : Value} {rd : List Rd} (hr : r.R (env X S.hp τ w') v) :
    SimT X (S.app d ⟨r, [], rd⟩) τ (a.put d v) w' :=
  h.turn (u := []) (zp8 b) (h.belT b) (fun n k hk => zis b _ _ _ (h.hp n k hk)) (fun n g hn hg => ⟨(h.own n g hn hg).1, Nat.lt_of_lt_of_le (h.own n g hn hg).2 b.size⟩) h.sep h.one hr
theorem za2 {o : Oper} {S : St} {r : AV} (rd : List Rd) (hw : zam ops S o = true)
    (h : ∀ S2 τ a w, (∀ x ∈ o.op.operands, (S.ev x).R (env X S2.hp τ w) (a.eval x)) → (∀ r ∈ rd, AgR S2.hp S.hp r) → SimT X S2 τ a w → ∃ v, (execOp a.eval o).run P w = .ok (.value v) w ∧ r.R (env X S2.hp τ w) v) :
    za4 P ops X o S ⟨r, [], rd⟩ := fun S2 a w h1 h2 h3 ⟨τ, hS⟩ => by
  obtain ⟨v, hr, hv⟩ := h S2 τ a w (fun x hx => by rw [← zb7 h1 hx]; exact hS.ev x (fun t e => h3 t (.inl (zbv (e ▸ hx))))) (fun b hb => h2 b (by simpa [Ef.foot] using hb)) hS
  refine .inl ⟨zbu hw h1 h3 hS, ?_⟩
  rw [hr]
  exact ⟨τ, hS.below (Below.refl _ _) hv⟩
theorem zrq {o : Oper} {S : St} (hw : zs7 ops S o = true) : za4 P ops X o S ⟨.m (.c (.v undef)), [], []⟩ := fun S2 a w h1 h2 h3 ⟨τ, hS⟩ =>
  .inr ⟨zog hw h1 h3 hS, τ, hS.below (Below.refl _ _) rfl⟩
end Go.Proofs.YtomeaibdedaldaaGreatDoor.Ax
namespace Go.Proofs.YtomeaibdedaldaaGreatDoor.Ax
open Go.RowKit MemL RegR
variable {P : Program} {ops : Array Oper} {X : Cx} {o : Oper} {S : St}
structure Tb where
  ag : Nat → Bool
  sz : Nat → Nat
  off : Nat → Nat → Nat
variable {tb : Tb}
def zit (tb : Tb) (t : TypeId) (cs : List Ce) (off : Nat) : Cm := cond (tb.ag t) (.ag ((cs.drop off).take (tb.sz t))) (match cs[off]? with | some c => .c c | none => .c .any)
def zjz (P : Program) (t : TypeId) : Cm → Bool
  | .ag l => (P.info? t).map (·.size) == some l.length
  | .c _ => true
def zs9 : Cm → Nat
  | .ag l => l.length
  | .c _ => 1
def zwf (P : Program) (tb : Tb) (t : TypeId) : Bool := match P.underlying t, P.info? t with
  | some d, some i => (match d with | .struct _ | .array _ _ => tb.ag t | _ => !tb.ag t) && Nat.beq i.size (tb.sz t)
  | _, _ => false
def ze1 (P : Program) (t : TypeId) (cs : List Ce) (off : Nat) : Option Cm :=
  match P.underlying t with
  | none => none
  | some d => match d with
    | .struct _ | .array _ _ => (P.info? t).map (fun i => .ag ((cs.drop off).take i.size))
    | _ => (cs[off]?).map .c
theorem ziu {t off : Nat} {cs : List Ce} (h : zwf P tb t = true) (hin : cond (tb.ag t) true (Nat.blt off cs.length) = true) : ze1 P t cs off = some (zit tb t cs off) := by
  unfold zwf at h
  unfold ze1 zit
  split at h
  · rename_i d i hd hi
    simp only [hd, hi]
    simp only [Bool.and_eq_true] at h
    have hsz := Nat.eq_of_beq_eq_true h.2
    have one : tb.ag t = false → (cs[off]?).map Cm.c = some (cond (tb.ag t) (.ag ((cs.drop off).take (tb.sz t))) (match cs[off]? with | some c => .c c | none => .c .any)) := fun e => by
      rw [e] at hin ⊢
      have hlt : off < cs.length := Nat.le_of_ble_eq_true hin
      rw [List.getElem?_eq_getElem hlt]; rfl
    have agg : tb.ag t = true → (some i).map (fun i : TypeInfo => Cm.ag ((cs.drop off).take i.size)) = some (cond (tb.ag t) (.ag ((cs.drop off).take (tb.sz t))) (match cs[off]? with | some c => .c c | none => .c .any)) := fun e => by
      rw [e, ← hsz]; rfl
    cases d <;> first
      | exact agg h.1
      | exact one (by simpa using h.1)
  · cases h
theorem ziv {t : TypeId} {d : TypeDesc} (h : P.underlying t = some d) (w : World) : (isAgg t).run P w = .ok d.isRow w := by
  unfold isAgg
  rw [Sem.run_bind, run_underlying h w]
  cases d <;> simp
theorem zmq {E : En} {t off : Nat} {cs : List Ce} {vs : Array Value} {m : Cm} (hp : ze1 P t cs off = some m) (hR : All2 (Ce.R E) cs vs.toList) (w : World) : ∃ v, (part t vs off).run P w = .ok v w ∧ m.R E v := by
  unfold ze1 at hp
  cases hu : P.underlying t with
  | none => simp [hu] at hp
  | some d =>
    simp only [hu] at hp
    have ha := ziv hu w
    have agg : ∀ i, P.info? t = some i → d.isRow = true → m = .ag ((cs.drop off).take i.size) → ∃ v, (part t vs off).run P w = .ok v w ∧ m.R E v := fun i hi hd hm => by
      refine ⟨.agg (vs.extract off (off + i.size)), ?_, ?_⟩
      · unfold part
        rw [Sem.run_bind, ha]
        simp [hd, sizeOf, typeInfo, hi]
      · subst hm
        refine ⟨_, rfl, ?_⟩
        rw [Array.toList_extract]
        have e : off + i.size - off = i.size := by omega
        simp only [List.extract_eq_take_drop, e]
        exact All2.take _ _ _ (All2.drop _ _ _ hR)
    have one : d.isRow = false → (cs[off]?).map Cm.c = some m → ∃ v, (part t vs off).run P w = .ok v w ∧ m.R E v := fun hd hm => by
      obtain ⟨c, hc, rfl⟩ := Option.map_eq_some_iff.1 hm
      obtain ⟨v, hv, hr⟩ := All2.get _ _ _ _ hR hc
      refine ⟨v, ?_, hr⟩
      unfold part
      rw [Sem.run_bind, ha]
      simp only [Array.getElem?_toList] at hv
      simp [hd, hv]
    cases d <;> simp only [] at hp <;> first
      | (obtain ⟨i, hi, rfl⟩ := Option.map_eq_some_iff.1 hp; exact agg i hi rfl rfl)
      | exact one rfl hp
theorem zgl {E : En} {t off g : Nat} {cs : List Ce} {m : Cm} (w : World) (hp : ze1 P t cs off = some m) (hl : ∀ l, m = .ag l → (P.info? t).map (·.size) = some l.length)
    (hR : ∀ j c, off ≤ j → cs[j]? = some c → ∃ v, w.cell? ⟨g, j, none⟩ = some v ∧ c.R E v) : ∃ v, (loadVar t ⟨g, off, none⟩).run P w = .ok v w ∧ m.R E v := by
  unfold ze1 at hp
  cases hu : P.underlying t with
  | none => simp [hu] at hp
  | some d =>
    simp only [hu] at hp
    have agg : ∀ i, P.info? t = some i → d.isRow = true → m = .ag ((cs.drop off).take i.size) → ∃ v, (loadVar t ⟨g, off, none⟩).run P w = .ok v w ∧ m.R E v := fun i hi hd hm => by
      have hlen := hl _ hm
      rw [hi] at hlen
      simp only [Option.map_some, Option.some.injEq] at hlen
      have gets : ∀ (n o : Nat), off ≤ o → (∀ j, j < n → o + j < cs.length) → ∃ vs : List Value, vs.length = n ∧ All2 (Ce.R E) ((cs.drop o).take n) vs ∧ ∀ j v, vs[j]? = some v → w.cell? ⟨g, o + j, none⟩ = some v := by
        intro n
        induction n with
        | zero => intro o _ _; exact ⟨[], rfl, by simp [All2], by simp⟩
        | succ n ih =>
          intro o hoo ho
          have h0 : o < cs.length := by have := ho 0 (by omega); omega
          obtain ⟨v, hv, hr⟩ := hR o cs[o] hoo (List.getElem?_eq_getElem h0)
          obtain ⟨vs, h1, h2, h3⟩ := ih (o + 1) (by omega) (fun j hj => by have := ho (j + 1) (by omega); omega)
          refine ⟨v :: vs, by simp [h1], ?_, fun j u hu => ?_⟩
          · rw [List.drop_eq_getElem_cons h0, List.take_succ_cons]
            exact ⟨hr, h2⟩
          · cases j with
            | zero => simp at hu; subst hu; simpa using hv
            | succ j => have := h3 j u (by simpa using hu); rw [← this]; congr 2; omega
      have hlen' : ∀ j, j < i.size → off + j < cs.length := fun j hj => by
        simp only [List.length_take, List.length_drop] at hlen; omega
      obtain ⟨vs, h1, h2, h3⟩ := gets i.size off (Nat.le_refl _) hlen'
      refine ⟨.agg vs.toArray, run_loadVar_mid w g off t vs d h3 hu hd (by rw [hi]; simp [h1]), ?_⟩
      subst hm
      exact ⟨_, rfl, by simpa using h2⟩
    have one : d.isRow = false → (cs[off]?).map Cm.c = some m → ∃ v, (loadVar t ⟨g, off, none⟩).run P w = .ok v w ∧ m.R E v := fun hd hm => by
      obtain ⟨c, hc, rfl⟩ := Option.map_eq_some_iff.1 hm
      obtain ⟨v, hv, hr⟩ := hR off c (Nat.le_refl _) hc
      refine ⟨v, ?_, hr⟩
      unfold loadVar
      rw [Sem.run_bind, ziv hu w]
      simp [hd, hv]
    cases d <;> simp only [] at hp <;> first
      | (obtain ⟨i, hi, rfl⟩ := Option.map_eq_some_iff.1 hp; exact agg i hi rfl rfl)
      | exact one rfl hp
theorem zmr {E : En} {g : Nat} {cs : List Ce} {vs : Array Value} (hb : Bx E.w g vs) (hR : All2 (Ce.R E) cs vs.toList) : ∀ j c, cs[j]? = some c → ∃ v, E.w.cell? ⟨g, j, none⟩ = some v ∧ c.R E v := fun j c hc => by
  obtain ⟨v, hv, hr⟩ := All2.get _ _ _ _ hR hc
  exact ⟨v, by rw [hb.cell j]; simpa using hv, hr⟩
theorem zp9 {x : Operand} (ho : o.op = .move x ∨ o.op = .assign x) (hw : zam ops S o = true) : za4 P ops X o S ⟨S.ev x, [], []⟩ :=
  za2 [] hw fun S2 τ a w h _ _ => by
    refine ⟨a.eval x, ?_, h x (by rcases ho with ho | ho <;> rw [ho] <;> simp [Op.operands])⟩
    rcases ho with ho | ho <;> simp [execOp, ho]
theorem zrr {c x y : Operand} {b : Bool} (ho : o.op = .pick c x y) (hw : zam ops S o = true) (hc : S.ev c = .m (.c (.v (.bool b)))) : za4 P ops X o S ⟨cond b (S.ev x) (S.ev y), [], []⟩ :=
  za2 [] hw fun S2 τ a w h _ _ => by
    have h1 := h c (by rw [ho]; simp [Op.operands])
    rw [hc] at h1
    have h1 : a.eval c = .bool b := h1
    refine ⟨if b then a.eval x else a.eval y, ?_, ?_⟩
    · simp [execOp, ho, h1, asBool]
    · cases b
      · exact h y (by rw [ho]; simp [Op.operands])
      · exact h x (by rw [ho]; simp [Op.operands])
theorem zk0 {x : Operand} {i : Nat} {l : List Cm} {m : Cm} (ho : o.op = .extract x i) (hw : zam ops S o = true) (hx : S.ev x = .tu l) (hm : l[i]? = some m) : za4 P ops X o S ⟨.m m, [], []⟩ :=
  za2 [] hw fun S2 τ a w h _ _ => by
    have h1 := h x (by rw [ho]; simp [Op.operands])
    rw [hx] at h1
    obtain ⟨vs, e, hR⟩ := h1
    obtain ⟨v, hv, hr⟩ := All2.get _ _ _ _ hR hm
    refine ⟨v, ?_, hr⟩
    simp only [Array.getElem?_toList] at hv
    simp [execOp, ho, e, Instr.extract, hv]
def zta (P : Program) (t : TypeId) (cs : List Ce) (f : Nat) : Option Cm :=
  match P.underlying t with
  | some (.struct fields) => match fields[f]? with
    | some f => ze1 P f.type cs f.offset
    | none => none
  | _ => none
def fldT (P : Program) (tb : Tb) (t f : Nat) : Option TypeId :=
  match P.underlying t with
  | some (.struct fields) => match fields[f]? with
    | some f' => cond (Nat.beq f'.offset (tb.off t f)) (some f'.type) none
    | none => none
  | _ => none
theorem zms {t f : Nat} {x : Operand} {cs : List Ce} {m : Cm} (ho : o.op = .field t x f) (hw : zam ops S o = true) (hx : S.ev x = .m (.ag cs)) (hm : zta P t cs f = some m) : za4 P ops X o S ⟨.m m, [], []⟩ :=
  za2 [] hw fun S2 τ a w h _ _ => by
    have h1 := h x (by rw [ho]; simp [Op.operands])
    rw [hx] at h1
    obtain ⟨vs, e, hR⟩ := h1
    unfold zta at hm
    split at hm
    · rename_i fields hu
      split at hm
      · rename_i fd hf
        obtain ⟨v, hv, hr⟩ := zmq hm hR w
        refine ⟨v, ?_, hr⟩
        simp [execOp, ho, e, Instr.field, run_underlying hu, hf, asAgg, hv]
      · cases hm
    · cases hm
theorem zoh (tb : Tb) {t f u : Nat} {x : Operand} {cs : List Ce} (ho : o.op = .field t x f) (hw : zam ops S o = true) (hx : S.ev x = .m (.ag cs)) (hf : fldT P tb t f = some u) (hu : zwf P tb u = true) (hin : cond (tb.ag u) true (Nat.blt (tb.off t f) cs.length) = true) : za4 P ops X o S ⟨.m (zit tb u cs (tb.off t f)), [], []⟩ :=
  zms ho hw hx (by
    unfold fldT at hf
    unfold zta
    split at hf
    · rename_i fields hfs
      split at hf
      · rename_i f' hf'
        cases hb : Nat.beq f'.offset (tb.off t f) with
        | false => rw [hb] at hf; cases hf
        | true =>
          rw [hb] at hf; cases hf
          rw [Nat.eq_of_beq_eq_true hb]; exact ziu hu hin
      · cases hf
    · cases hf)
theorem ztb {x : Operand} {c : Ce} (ho : o.op = .nilCheck x) (hw : zam ops S o = true) (hx : S.ev x = .m (.c c)) (hc : (match c with | .p _ _ | .q _ | .rp _ _ => true | _ => false) = true) : za4 P ops X o S ⟨.m (.c c), [], []⟩ :=
  za2 [] hw fun S2 τ a w h _ _ => by
    have h1 := h x (by rw [ho]; simp [Op.operands])
    rw [hx] at h1
    have : ∃ ad, a.eval x = .pointer (some ad) := by
      cases c <;> simp at hc
      · obtain ⟨g, o, e, _⟩ := h1; exact ⟨_, e⟩
      · obtain ⟨_, g, _, e⟩ := h1; exact ⟨_, e⟩
      · obtain ⟨_, g, _, _, _, e⟩ := h1; exact ⟨_, e⟩
    obtain ⟨ad, e⟩ := this
    exact ⟨.pointer (some ad), by simp [execOp, ho, e], by rw [← e]; exact h1⟩
theorem zea {op : BinOp} {t t' : TypeId} {x y : Operand} {u v r : Value} (ho : o.op = .binOp op t x y t') (hw : zam ops S o = true) (hx : S.ev x = .m (.c (.v u))) (hy : S.ev y = .m (.c (.v v)))
    (hg : ∀ w, (eqGuard op t x y u v).run P w = .ok () w) (hr : ∀ w, (binOp op t u v).run P w = .ok r w) : za4 P ops X o S ⟨.m (.c (.v r)), [], []⟩ :=
  za2 [] hw fun S2 τ a w h _ _ => by
    have h1 := h x (by rw [ho]; simp [Op.operands])
    have h2 := h y (by rw [ho]; simp [Op.operands])
    rw [hx] at h1; rw [hy] at h2
    have h1 : a.eval x = u := h1
    have h2 : a.eval y = v := h2
    refine ⟨r, ?_, rfl⟩
    simp [execOp, ho, h1, h2, hg, hr]
theorem zmt {op : BinOp} {t t' : TypeId} {x y : Operand} {us vs : List Value} {r : Bool} (ho : o.op = .binOp op t x y t') (hw : zam ops S o = true) (hx : S.ev x = .m (.ag (us.map .v))) (hy : S.ev y = .m (.ag (vs.map .v)))
    (hg : ∀ w, (eqGuard op t x y (.agg us.toArray) (.agg vs.toArray)).run P w = .ok () w) (hr : ∀ w, (binOp op t (.agg us.toArray) (.agg vs.toArray)).run P w = .ok (.bool r) w) : za4 P ops X o S ⟨.m (.c (.v (.bool r))), [], []⟩ :=
  za2 [] hw fun S2 τ a w h _ _ => by
    have get : ∀ (E : En) (l : List Value) (bs : List Value), All2 (Ce.R E) (l.map .v) bs → bs = l := fun E l => by
      induction l with
      | nil => intro bs h; cases bs with | nil => rfl | cons _ _ => exact h.elim
      | cons x l ih => intro bs h; cases bs with | nil => exact h.elim | cons y bs => rw [ih bs h.2]; exact congrArg (· :: l) h.1
    have h1 := h x (by rw [ho]; simp [Op.operands])
    have h2 := h y (by rw [ho]; simp [Op.operands])
    rw [hx] at h1; rw [hy] at h2
    obtain ⟨c1, e1, k1⟩ := h1
    obtain ⟨c2, e2, k2⟩ := h2
    have q1 : c1 = us.toArray := by rw [← get _ _ _ k1]
    have q2 : c2 = vs.toArray := by rw [← get _ _ _ k2]
    subst q1; subst q2
    refine ⟨_, ?_, rfl⟩
    simp [execOp, ho, e1, e2, hg, hr]
theorem zwk {op : UnOp} {t : TypeId} {x : Operand} {u r : Value} (ho : o.op = .unOp op t x) (hw : zam ops S o = true) (hx : S.ev x = .m (.c (.v u))) (hr : ∀ w, (Op.unary op u).run P w = .ok r w) : za4 P ops X o S ⟨.m (.c (.v r)), [], []⟩ :=
  za2 [] hw fun S2 τ a w h _ _ => by
    have h1 := h x (by rw [ho]; simp [Op.operands])
    rw [hx] at h1
    have h1 : a.eval x = u := h1
    exact ⟨r, by simp [execOp, ho, h1, hr], rfl⟩
theorem zrs {s t : TypeId} {x : Operand} {u r : Value} (ho : o.op = .convert s t x) (hw : zam ops S o = true) (hx : S.ev x = .m (.c (.v u))) (hr : ∀ w, (convert s t u).run P w = .ok r w) : za4 P ops X o S ⟨.m (.c (.v r)), [], []⟩ :=
  za2 [] hw fun S2 τ a w h _ _ => by
    have h1 := h x (by rw [ho]; simp [Op.operands])
    rw [hx] at h1
    have h1 : a.eval x = u := h1
    exact ⟨r, by simp [execOp, ho, h1, hr], rfl⟩
theorem zoi {x : Operand} {t el : TypeId} {n k : Nat} {xs : List Value} (ho : o.op = .call { callee := .builtin .len, args := #[x], argTypes := #[t] }) (hu : P.underlying t = some (.slice el)) (hw : zam ops S o = true) (hx : S.ev x = .m (.c (.s n k xs))) : za4 P ops X o S ⟨.m (.c (.v (.int .i64 n))), [], []⟩ :=
  za2 [] hw fun S2 τ a w h _ _ => by
    have h1 := h x (by rw [ho]; simp [Op.operands, Call.operands])
    rw [hx] at h1
    obtain ⟨⟨_, h2⟩, _⟩ := h1
    refine ⟨_, ?_, rfl⟩
    rcases h2 with ⟨e, e2⟩ | ⟨b, off, cap, e, _⟩
    · subst e2; simp [execOp, ho, resolve, invoke, builtin, e, Builtin.len_, goInt, run_underlying hu]
    · simp [execOp, ho, resolve, invoke, builtin, e, Builtin.len_, goInt, run_underlying hu]
theorem zoj {x : Operand} {t el : TypeId} {a : Option Addr} {n c : Nat} (ho : o.op = .call { callee := .builtin .len, args := #[x], argTypes := #[t] }) (hu : P.underlying t = some (.slice el)) (hw : zam ops S o = true) (hx : S.ev x = .m (.c (.v (.slice a n c)))) : za4 P ops X o S ⟨.m (.c (.v (.int .i64 n))), [], []⟩ :=
  za2 [] hw fun S2 τ ac w h _ _ => by
    have h1 := h x (by rw [ho]; simp [Op.operands, Call.operands])
    rw [hx] at h1
    have e : ac.eval x = .slice a n c := h1
    exact ⟨_, by simp [execOp, ho, resolve, invoke, builtin, e, Builtin.len_, goInt, run_underlying hu], rfl⟩
theorem zok {x : Operand} {t el : TypeId} {b e n k : Nat} {xs : List Value} (ho : o.op = .call { callee := .builtin .len, args := #[x], argTypes := #[t] }) (hu : P.underlying t = some (.slice el)) (hw : zam ops S o = true) (hx : S.ev x = .m (.c (.o b))) (hb : S.hp b = .live (.row e k n xs)) : za4 P ops X o S ⟨.m (.c (.v (.int .i64 n))), [], [b]⟩ :=
  za2 [b] hw fun S2 τ a w h hrd hS => by
    have h1 := h x (by rw [ho]; simp [Op.operands, Call.operands])
    rw [hx] at h1
    obtain ⟨_, h1⟩ := h1
    have hk := hS.hp b _ (Eq.trans (hrd (.all b) (by simp)) hb)
    refine ⟨_, ?_, rfl⟩
    rcases hk.2 with ⟨e, e2⟩ | ⟨g, cap, cur, e, _⟩
    · subst e2
      have : a.eval x = .slice none 0 0 := h1.trans e
      simp [execOp, ho, resolve, invoke, builtin, this, Builtin.len_, goInt, run_underlying hu]
    · have : a.eval x = .slice (some ⟨g, 0, none⟩) n cap := h1.trans e
      simp [execOp, ho, resolve, invoke, builtin, this, Builtin.len_, goInt, run_underlying hu]
theorem zk1 {t : TypeId} {x : Operand} {b off : Nat} {cs : List Ce} {m : Cm} (ho : o.op = .load t x) (hw : zam ops S o = true) (hx : S.ev x = .m (.c (.p b off))) (hb : S.hp b = .live (.box cs)) (hm : ze1 P t cs off = some m)
    (hl : zjz P t m = true) : za4 P ops X o S ⟨.m m, [], [.part b off (zs9 m)]⟩ :=
  za2 [.part b off (zs9 m)] hw fun S2 τ a w h hrd hS => by
    have h1 := h x (by rw [ho]; simp [Op.operands])
    rw [hx] at h1
    obtain ⟨_, g, e1, e2⟩ := h1
    obtain ⟨cs2, hb2, hm⟩ : ∃ cs2, S2.hp b = .live (.box cs2) ∧ ze1 P t cs2 off = some m := by
      rcases hrd _ (List.mem_singleton.2 rfl) with k | ⟨c1, c2, k1, k2, k3, k4⟩
      · exact ⟨cs, k.trans hb, hm⟩
      · rw [hb] at k2; cases k2
        refine ⟨c1, k1, ?_⟩
        unfold ze1 at hm ⊢
        cases hu : P.underlying t with
        | none => simp [hu] at hm
        | some d =>
          simp only [hu] at hm ⊢
          have one : ∀ c, (cs[off]?).map Cm.c = some c → c = m → (c1[off]?).map Cm.c = some m := fun c hc hcm => by
            subst hcm
            obtain ⟨x, hx, rfl⟩ := Option.map_eq_some_iff.1 hc
            have := congrArg (·[0]?) k4
            simp only [zs9, List.getElem?_take, List.getElem?_drop, Nat.zero_lt_one, if_true, Nat.add_zero] at this
            rw [this, hx]; rfl
          have agg : ∀ i, P.info? t = some i → m = .ag ((cs.drop off).take i.size) → (P.info? t).map (fun i => Cm.ag ((c1.drop off).take i.size)) = some m := fun i hi hm => by
            subst hm
            unfold zjz at hl
            rw [hi] at hl ⊢
            have hl : i.size = ((cs.drop off).take i.size).length := by simpa [zjz] using hl
            simp only [Option.map_some, Option.some.injEq, Cm.ag.injEq]
            have k4 : (c1.drop off).take ((cs.drop off).take i.size).length = (cs.drop off).take ((cs.drop off).take i.size).length := k4
            rw [← hl] at k4; exact k4
          cases d <;> simp only [] at hm ⊢ <;> first
            | (obtain ⟨i, hi, hm'⟩ := Option.map_eq_some_iff.1 hm; exact agg i hi hm'.symm)
            | exact one m hm rfl
    obtain ⟨g', vs, e3, hbx, hR⟩ := hS.hp b _ hb2
    have e1 : τ b = .pointer (some ⟨g, 0, none⟩) := e1
    rw [e1] at e3
    obtain rfl : g = g' := by simpa using e3
    obtain ⟨v, hv, hr⟩ := zgl (E := env X S2.hp τ w) w hm (fun l hml => by subst hml; simpa [zjz] using hl) (fun j c _ => zmr hbx hR j c)
    exact ⟨v, by simp [execOp, ho, e2, Instr.loadAt, Instr.sureAddr, hv], hr⟩
theorem ziw {t off : Nat} {cs : List Ce} (h : zwf P tb t = true) (hin : cond (tb.ag t) (Nat.ble (off + tb.sz t) cs.length) true = true) : zjz P t (zit tb t cs off) = true := by
  unfold zwf at h
  split at h
  · rename_i d i hd hi
    simp only [Bool.and_eq_true] at h
    have hsz := Nat.eq_of_beq_eq_true h.2
    unfold zit zjz
    cases e : tb.ag t with
    | true =>
      rw [e] at hin
      have hle : off + tb.sz t ≤ cs.length := Nat.le_of_ble_eq_true hin
      simp only [cond, hi, Option.map_some, List.length_take, List.length_drop, hsz]
      simp; omega
    | false =>
      simp only [cond]
      cases cs[off]? <;> rfl
  · cases h
def inT (tb : Tb) (t off len : Nat) : Bool := cond (tb.ag t) (Nat.ble (off + tb.sz t) len) (Nat.blt off len)
theorem zwl {t off len : Nat} (h : inT tb t off len = true) : cond (tb.ag t) true (Nat.blt off len) = true := by
  unfold inT at h; cases e : tb.ag t <;> simp_all
theorem zzs {t off len : Nat} (h : inT tb t off len = true) : cond (tb.ag t) (Nat.ble (off + tb.sz t) len) true = true := by
  unfold inT at h; cases e : tb.ag t <;> simp_all
def z41 (tb : Tb) (t : TypeId) : Nat := cond (tb.ag t) (tb.sz t) 1
theorem zzt {t off : Nat} {cs : List Ce} (h : inT tb t off cs.length = true) : zs9 (zit tb t cs off) = z41 tb t := by
  unfold inT at h
  unfold zit z41
  cases e : tb.ag t with
  | true =>
    rw [e] at h
    have hle : off + tb.sz t ≤ cs.length := Nat.le_of_ble_eq_true h
    simp only [cond, zs9, List.length_take, List.length_drop]; omega
  | false => simp only [cond]; cases cs[off]? <;> rfl
theorem zmu (tb : Tb) {t : TypeId} {x : Operand} {b off : Nat} {cs : List Ce} (ho : o.op = .load t x) (hw : zam ops S o = true) (hx : S.ev x = .m (.c (.p b off))) (hb : S.hp b = .live (.box cs)) (ht : zwf P tb t = true) (hin : inT tb t off cs.length = true) : za4 P ops X o S ⟨.m (zit tb t cs off), [], [.part b off (z41 tb t)]⟩ := by
  have := zk1 (X := X) ho hw hx hb (ziu ht (zwl hin)) (ziw ht (zzs hin))
  rwa [zzt hin] at this
theorem zk2 {t : TypeId} {x : Operand} {xs : List Value} {m : Cm} (ho : o.op = .load t x) (hw : zam ops S o = true) (hx : S.ev x = .m (.c (.q xs))) (hm : ze1 P t (xs.map .v) 0 = some m)
    (hl : zjz P t m = true) : za4 P ops X o S ⟨.m m, [], []⟩ :=
  za2 [] hw fun S2 τ a w h hrd hS => by
    have h1 := h x (by rw [ho]; simp [Op.operands])
    rw [hx] at h1
    obtain ⟨g, off, e2, _, _, hc⟩ := h1
    have hle : ∀ l, m = .ag l → (P.info? t).map (·.size) = some l.length := fun l hml => by subst hml; simpa [zjz] using hl
    -- as if the cells began at off
    have key : ∃ v, (loadVar t ⟨g, off, none⟩).run P w = .ok v w ∧ m.R (env X S2.hp τ w) v := by
      have hm' : ze1 P t ((List.replicate off Ce.any) ++ xs.map .v) off = some m := by
        unfold ze1 at hm ⊢
        cases hu : P.underlying t with
        | none => simp [hu] at hm
        | some d =>
          have e0 : (List.replicate off Ce.any ++ xs.map Ce.v)[off]? = (xs.map Ce.v)[0]? := by rw [List.getElem?_append_right (by simp)]; simp
          have e1 : (List.replicate off Ce.any ++ xs.map Ce.v).drop off = xs.map Ce.v := by rw [List.drop_append_of_le_length (by simp)]; simp
          simp only [hu, e0, e1] at hm ⊢
          cases d <;> exact hm
      refine zgl (E := env X S2.hp τ w) w hm' hle (fun j c hge hj => ?_)
      · rw [List.getElem?_append_right (by simp; omega)] at hj
        simp only [List.length_replicate, List.getElem?_map] at hj
        obtain ⟨v, hv, rfl⟩ := Option.map_eq_some_iff.1 hj
        have hlt : j - off < xs.length := (List.getElem?_eq_some_iff.1 hv).1
        refine ⟨v, ?_, rfl⟩
        have := hc (j - off) hlt
        rw [hv] at this
        rw [← this]
        show w.cell? _ = w.cell? _
        congr 2; omega
    obtain ⟨v, hv, hr⟩ := key
    exact ⟨v, by simp [execOp, ho, e2, Instr.loadAt, Instr.sureAddr, hv], hr⟩
theorem zmv (tb : Tb) {t : TypeId} {x : Operand} {xs : List Value} (ho : o.op = .load t x) (hw : zam ops S o = true) (hx : S.ev x = .m (.c (.q xs))) (ht : zwf P tb t = true) (hin : inT tb t 0 xs.length = true) : za4 P ops X o S ⟨.m (zit tb t (xs.map .v) 0), [], []⟩ :=
  zk2 ho hw hx (ziu ht (by rw [List.length_map]; exact zwl hin)) (ziw ht (by rw [List.length_map]; exact zzs hin))
end Go.Proofs.YtomeaibdedaldaaGreatDoor.Ax
namespace Go.Proofs.YtomeaibdedaldaaGreatDoor.Ax
open Go.RowKit MemL RegR
variable {P : Program} {ops : Array Oper} {X : Cx} {o : Oper} {S : St}
def zd1 (P : Program) (t : TypeId) : Option Nat := (P.info? t).map (·.size)
theorem zde {t k : Nat} (h : zd1 P t = some k) (w : World) : (sizeOf t).run P w = .ok k w := by
  unfold zd1 at h
  obtain ⟨i, hi, rfl⟩ := Option.map_eq_some_iff.1 h
  simp [sizeOf, typeInfo, hi]
def zej (P : Program) (t f : Nat) : Option Nat :=
  match P.underlying t with
  | some (.struct fields) => match fields[f]? with
    | some fd => match zd1 P fd.type with
      | some (_ + 1) => some fd.offset
      | _ => none
    | none => none
  | _ => none
theorem zf9 {t f n g off : Nat} (h : zej P t f = some n) (w : World) : (Instr.fieldAt t (.pointer (some ⟨g, off, none⟩)) f).run P w = .ok (.pointer (some ⟨g, off + n, none⟩)) w := by
  unfold zej at h
  split at h
  · rename_i fields hu
    split at h
    · rename_i fd hf
      split at h
      · rename_i k hs
        cases h
        simp [Instr.fieldAt, run_underlying hu, hf, Instr.sureAddr, fieldPlace, zde hs, Addr.add_mid]
      · cases h
    · cases h
  · cases h
def z2v (P : Program) (tb : Tb) (t f : Nat) : Bool := match zej P t f with | some n => Nat.beq n (tb.off t f) | none => false
theorem zix {tb : Tb} {t f : Nat} (h : z2v P tb t f = true) : zej P t f = some (tb.off t f) := by
  unfold z2v at h
  split at h
  · rename_i n hn; rw [hn, Nat.eq_of_beq_eq_true h]
  · cases h
theorem zmw {t f : Nat} {x : Operand} {b off n : Nat} (ho : o.op = .fieldAddr t x f) (hw : zam ops S o = true) (hx : S.ev x = .m (.c (.p b off))) (hn : zej P t f = some n) : za4 P ops X o S ⟨.m (.c (.p b (off + n))), [], []⟩ :=
  za2 [] hw fun S2 τ a w h _ _ => by
    have h1 := h x (by rw [ho]; simp [Op.operands])
    rw [hx] at h1
    obtain ⟨h0, g, e1, e2⟩ := h1
    exact ⟨_, by simp [execOp, ho, e2, zf9 hn], h0, g, e1, rfl⟩
theorem zk3 {t f : Nat} {x : Operand} {b off n : Nat} (ho : o.op = .fieldAddr t x f) (hw : zam ops S o = true) (hx : S.ev x = .m (.c (.rp b off))) (hn : zej P t f = some n) : za4 P ops X o S ⟨.m (.c (.rp b (off + n))), [], []⟩ :=
  za2 [] hw fun S2 τ a w h _ _ => by
    have h1 := h x (by rw [ho]; simp [Op.operands])
    rw [hx] at h1
    obtain ⟨h0, g, l, c, e1, e2⟩ := h1
    exact ⟨_, by simp [execOp, ho, e2, zf9 hn], h0, g, l, c, e1, rfl⟩
theorem zmx {t f : Nat} {x : Operand} {xs : List Value} {n : Nat} (ho : o.op = .fieldAddr t x f) (hw : zam ops S o = true) (hx : S.ev x = .m (.c (.q xs))) (hn : zej P t f = some n) : za4 P ops X o S ⟨.m (.c (.q (xs.drop n))), [], []⟩ :=
  za2 [] hw fun S2 τ a w h _ _ => by
    have h1 := h x (by rw [ho]; simp [Op.operands])
    rw [hx] at h1
    obtain ⟨g, off, e2, e3, e4, e5⟩ := h1
    refine ⟨_, by simp [execOp, ho, e2, zf9 hn], g, off + n, rfl, e3, e4, fun i hi => ?_⟩
    simp only [List.length_drop] at hi
    rw [List.getElem?_drop, ← e5 (n + i) (by omega), Nat.add_assoc]
theorem ziy {t len el k : Nat} {g off : Nat} {kk : IntKind} {i : Int} (hu : P.underlying t = some (.array len el)) (hk : zd1 P el = some k) (h0 : 0 ≤ i) (h1 : i < len) (w : World) :
    (Instr.indexAt t (.pointer (some ⟨g, off, none⟩)) (.int kk i)).run P w = .ok (.pointer (some ⟨g, off + i.toNat * k, none⟩)) w := by
  simp [Instr.indexAt, asIntOf, run_underlying hu, Instr.sureAddr, h0, h1, zde hk, Addr.add_mid]
theorem zdb {t el k n c : Nat} {g off : Nat} {kk : IntKind} {i : Int} (hu : P.underlying t = some (.slice el)) (hk : zd1 P el = some k) (h0 : 0 ≤ i) (h1 : i < n) (w : World) :
    (Instr.indexAt t (.slice (some ⟨g, off, none⟩) n c) (.int kk i)).run P w = .ok (.pointer (some ⟨g, off + i.toNat * k, none⟩)) w := by
  simp [Instr.indexAt, asIntOf, run_underlying hu, h0, h1, zde hk, Addr.add_mid]
theorem zol {t len el k : Nat} {x y : Operand} {b off : Nat} {kk : IntKind} {i : Int} (ho : o.op = .indexAddr t x y) (hw : zam ops S o = true) (hx : S.ev x = .m (.c (.p b off))) (hy : S.ev y = .m (.c (.v (.int kk i))))
    (hu : P.underlying t = some (.array len el)) (hk : zd1 P el = some k) (h0 : 0 ≤ i) (h1 : i < len) : za4 P ops X o S ⟨.m (.c (.p b (off + i.toNat * k))), [], []⟩ :=
  za2 [] hw fun S2 τ a w h _ _ => by
    have q1 := h x (by rw [ho]; simp [Op.operands])
    have q2 := h y (by rw [ho]; simp [Op.operands])
    rw [hx] at q1; rw [hy] at q2
    obtain ⟨u0, g, e1, e2⟩ := q1
    have q2 : a.eval y = .int kk i := q2
    exact ⟨_, by simp [execOp, ho, e2, q2, ziy hu hk h0 h1], u0, g, e1, rfl⟩
theorem zom {t el k n : Nat} {x y : Operand} {xs : List Value} {kk : IntKind} {i : Int} (ho : o.op = .indexAddr t x y) (hw : zam ops S o = true) (hx : S.ev x = .m (.c (.s n k xs))) (hy : S.ev y = .m (.c (.v (.int kk i))))
    (hu : P.underlying t = some (.slice el)) (hk : zd1 P el = some k) (h0 : 0 ≤ i) (h1 : i < n) (es : List Value) (hes : (xs.drop (i.toNat * k)).take k = es) : za4 P ops X o S ⟨.m (.c (.q es)), [], []⟩ :=
  za2 [] hw fun S2 τ a w h _ _ => by
    have q1 := h x (by rw [ho]; simp [Op.operands])
    have q2 := h y (by rw [ho]; simp [Op.operands])
    rw [hx] at q1; rw [hy] at q2
    have q2 : a.eval y = .int kk i := q2
    obtain ⟨⟨hl, hs⟩, hA⟩ := q1
    rcases hs with ⟨_, e0⟩ | ⟨b, off, cap, e, hb, _, _, hc⟩
    · omega
    · refine ⟨_, by simp [execOp, ho, e, q2, zdb hu hk h0 h1], b, off + i.toNat * k, rfl, hb, hA _ _ _ e, fun j hj => ?_⟩
      subst hes
      have hin : i.toNat < n := by omega
      have hle : (i.toNat + 1) * k ≤ n * k := Nat.mul_le_mul_right _ hin
      rw [Nat.succ_mul] at hle
      simp only [List.length_take, List.length_drop] at hj
      rw [List.getElem?_take, if_pos (by omega), List.getElem?_drop, ← hc (i.toNat * k + j) (by omega), Nat.add_assoc]
theorem zon {t el e k n : Nat} {x y : Operand} {b : Nat} {xs : List Value} {kk : IntKind} {i : Int} (ho : o.op = .indexAddr t x y) (hw : zam ops S o = true) (hx : S.ev x = .m (.c (.o b))) (hb : S.hp b = .live (.row e k n xs)) (hy : S.ev y = .m (.c (.v (.int kk i))))
    (hu : P.underlying t = some (.slice el)) (hk : zd1 P el = some k) (h0 : 0 ≤ i) (h1 : i < n) : za4 P ops X o S ⟨.m (.c (.rp b (i.toNat * k))), [], [b]⟩ :=
  za2 [b] hw fun S2 τ a w h hrd hS => by
    have q1 := h x (by rw [ho]; simp [Op.operands])
    have q2 := h y (by rw [ho]; simp [Op.operands])
    rw [hx] at q1; rw [hy] at q2
    have q2 : a.eval y = .int kk i := q2
    obtain ⟨u0, q1⟩ := q1
    have hr := hS.hp b _ (Eq.trans (hrd (.all b) (by simp)) hb)
    rcases hr.2 with ⟨_, e0⟩ | ⟨g, cap, cur, e, _⟩
    · omega
    · have q1 : a.eval x = .slice (some ⟨g, 0, none⟩) n cap := q1.trans e
      have run := zdb (c := cap) (g := g) (off := 0) (kk := kk) hu hk h0 h1 w
      rw [Nat.zero_add] at run
      exact ⟨.pointer (some ⟨g, i.toNat * k, none⟩), by simp [execOp, ho, q1, q2, run], u0, g, n, cap, e, rfl⟩
theorem ztc {w : World} {base e k n g cap : Nat} {xs : List Value} (h : w.ownsRow base e k (.slice (some ⟨g, 0, none⟩) n cap) n xs) (j : Nat) (c : Value) (hj : xs[j]? = some c) : w.cell? ⟨g, j, none⟩ = some c := by
  have hl : j < xs.length := (List.getElem?_eq_some_iff.1 hj).1
  rw [World.ownsRow.cellAt h j (by rw [← h.1]; exact hl)]; exact hj
theorem zj0 {t : TypeId} {x : Operand} {b off e k n : Nat} {xs : List Value} {m : Cm} (ho : o.op = .load t x) (hw : zam ops S o = true) (hx : S.ev x = .m (.c (.rp b off))) (hb : S.hp b = .live (.row e k n xs)) (hm : ze1 P t (xs.map .v) off = some m)
    (hl : zjz P t m = true) : za4 P ops X o S ⟨.m m, [], [b]⟩ :=
  za2 [b] hw fun S2 τ a w h hrd hS => by
    have h1 := h x (by rw [ho]; simp [Op.operands])
    rw [hx] at h1
    obtain ⟨_, g, l, cap, e1, e2⟩ := h1
    have e1 : τ b = .slice (some ⟨g, 0, none⟩) l cap := e1
    have hr := hS.hp b _ (Eq.trans (hrd (.all b) (by simp)) hb)
    have hr : w.ownsRow X.base e k (τ b) n xs := hr
    rw [e1] at hr
    have hln : l = n := by rcases hr.2 with ⟨e, _⟩ | ⟨g', c', cur, e, _⟩ <;> cases e; rfl
    subst hln
    obtain ⟨v, hv, hr⟩ := zgl (E := env X S2.hp τ w) w hm (fun l hml => by subst hml; simpa [zjz] using hl) (fun j c _ hj => by
      simp only [List.getElem?_map] at hj
      obtain ⟨u, hu, rfl⟩ := Option.map_eq_some_iff.1 hj
      exact ⟨u, ztc hr j u hu, rfl⟩)
    exact ⟨v, by simp [execOp, ho, e2, Instr.loadAt, Instr.sureAddr, hv], hr⟩
theorem ztd {kk : IntKind} {i : Int} {y : Nat} {c : BoundsCode} (h0 : 0 ≤ i) (h1 : i ≤ y) (w : World) : (Instr.sliceBound (.int kk i) y c).run P w = .ok i.toNat w := by
  simp [Instr.sliceBound, asIntOf, h0, h1]
theorem zoo (tb : Tb) {t f : Nat} {x : Operand} {b off : Nat} (ho : o.op = .fieldAddr t x f) (hw : zam ops S o = true) (hx : S.ev x = .m (.c (.p b off))) (hn : z2v P tb t f = true) : za4 P ops X o S ⟨.m (.c (.p b (off + tb.off t f))), [], []⟩ := zmw ho hw hx (zix hn)
theorem zmy (tb : Tb) {t f : Nat} {x : Operand} {b off : Nat} (ho : o.op = .fieldAddr t x f) (hw : zam ops S o = true) (hx : S.ev x = .m (.c (.rp b off))) (hn : z2v P tb t f = true) : za4 P ops X o S ⟨.m (.c (.rp b (off + tb.off t f))), [], []⟩ := zk3 ho hw hx (zix hn)
theorem zop (tb : Tb) {t f : Nat} {x : Operand} {xs : List Value} (ho : o.op = .fieldAddr t x f) (hw : zam ops S o = true) (hx : S.ev x = .m (.c (.q xs))) (hn : z2v P tb t f = true) : za4 P ops X o S ⟨.m (.c (.q (xs.drop (tb.off t f)))), [], []⟩ := zmx ho hw hx (zix hn)
theorem zk4 (tb : Tb) {t : TypeId} {x : Operand} {b off e k n : Nat} {xs : List Value} (ho : o.op = .load t x) (hw : zam ops S o = true) (hx : S.ev x = .m (.c (.rp b off))) (hb : S.hp b = .live (.row e k n xs)) (ht : zwf P tb t = true) (hin : inT tb t off xs.length = true) : za4 P ops X o S ⟨.m (zit tb t (xs.map .v) off), [], [b]⟩ :=
  zj0 ho hw hx hb (ziu ht (by rw [List.length_map]; exact zwl hin)) (ziw ht (by rw [List.length_map]; exact zzs hin))
end Go.Proofs.YtomeaibdedaldaaGreatDoor.Ax
namespace Go.Proofs.YtomeaibdedaldaaGreatDoor.Ax
open Go.RowKit MemL RegR
variable {P : Program} {ops : Array Oper} {X : Cx} {o : Oper} {S : St}
def Cm.cells : Cm → List Ce
  | .c x => [x]
  | .ag cs => cs
theorem zte {E : En} : ∀ (l : List Ce) (vs : List Value) (o : Nat) (cs : List Ce) (cur : Array Value), All2 (Ce.R E) cs cur.toList → All2 (Ce.R E) l vs → All2 (Ce.R E) (zme cs o l) (zd0 cur o vs).toList
  | [], [], o, cs, cur, h, _ => h
  | x :: l, v :: vs, o, cs, cur, h, h' => by
    simp only [zme, zd0]
    refine zte l vs (o + 1) _ _ ?_ h'.2
    rw [Array.toList_setIfInBounds]
    exact All2.set _ _ _ _ _ h h'.1
  | [], _ :: _, _, _, _, _, h => h.elim
  | _ :: _, [], _, _, _, _, h => h.elim
theorem ziz : ∀ (l : List Ce) (o : Nat) (cs : List Ce), (zme cs o l).length = cs.length
  | [], _, _ => rfl
  | x :: l, o, cs => by simp only [zme]; rw [ziz l]; simp
def okC : Ce → Bool
  | .v x => x.oneCell'
  | .any => false
  | _ => true
theorem zi0 {E : En} : ∀ (c : Ce) (v : Value), okC c = true → c.R E v → (∀ b v', c = .o b → E.τ b = v' → v'.oneCell' = true) → v.oneCell' = true
  | .v x, v, h, hr, _ => by have hr : v = x := hr; subst hr; exact h
  | .s n k xs, v, _, hr, _ => by
    obtain ⟨⟨_, h⟩, _⟩ := hr
    rcases h with ⟨rfl, _⟩ | ⟨_, _, _, rfl, _⟩ <;> rfl
  | .q xs, v, _, hr, _ => by obtain ⟨_, _, rfl, _⟩ := hr; rfl
  | .p b off, v, _, hr, _ => by obtain ⟨_, _, _, rfl⟩ := hr; rfl
  | .o b, v, _, hr, h => by obtain ⟨_, rfl⟩ := hr; exact h b _ rfl rfl
  | .rp b off, v, _, hr, _ => by obtain ⟨_, _, _, _, _, rfl⟩ := hr; rfl
  | .f n k xs, v, _, hr, _ => by
    obtain ⟨⟨_, h⟩, _⟩ := hr
    rcases h with ⟨rfl, _⟩ | ⟨_, _, _, rfl, _⟩ <;> rfl
  | .bs b off n, v, _, hr, _ => by obtain ⟨_, _, _, rfl⟩ := hr; rfl
  | .cl fi bs, v, _, hr, _ => by obtain ⟨rfl, _⟩ := hr; unfold clV; cases Nat.ble fi 999999 <;> rfl
  | .any, _, h, _, _ => by cases h
theorem zk5 {E : En} : ∀ (m : Cm) (v : Value), (∀ c, m = .c c → okC c = true) → (∀ b v', m = .c (.o b) → E.τ b = v' → v'.oneCell' = true) → m.R E v → All2 (Ce.R E) m.cells v.cells.toList
  | .c x, v, hok, ho, hr => by
    have h1 := zi0 x v (hok x rfl) hr (fun b v' e => ho b v' (by rw [e]))
    have : v.cells = #[v] := by cases v <;> first | rfl | (simp [Value.oneCell'] at h1)
    rw [this]
    exact ⟨hr, trivial⟩
  | .ag cs, v, _, _, ⟨vs, e, hr⟩ => by subst e; exact hr
def zj1 (place : Nat → Option (Nat × Nat)) : List Ce → List (Nat × Cm) → Option (List Ce)
  | cs, [] => some cs
  | cs, (i, m) :: r => match place i with
    | none => none
    | some (off, size) => cond (Nat.beq m.cells.length size && Nat.ble (off + m.cells.length) cs.length && m.cells.all okC) (zj1 place (zme cs off m.cells) r) none
theorem zmz : ∀ (vs : List Value) (off k : Nat) (cur : Array Value), (vs.zipIdx k).foldl (fun cs (p : Value × Nat) => cs.setIfInBounds (off + p.2) p.1) cur = zd0 cur (off + k) vs
  | [], _, _, _ => rfl
  | v :: vs, off, k, cur => by
    simp only [List.zipIdx_cons, List.foldl_cons, zd0]
    rw [zmz vs off (k + 1)]
    rfl
theorem zk6 {E : En} (hE : ∀ b, (E.τ b).oneCell' = true) (place : Nat → Option (Nat × Nat)) : ∀ (ps : List (Nat × Cm)) (qs : List (Nat × Value)) (cs cs' : List Ce) (cur : Array Value), All2 (fun p q => p.1 = q.1 ∧ p.2.R E q.2) ps qs → All2 (Ce.R E) cs cur.toList → zj1 place cs ps = some cs' →
    ∃ cur', Instr.fill place cur qs = some cur' ∧ All2 (Ce.R E) cs' cur'.toList
  | [], [], cs, cs', cur, _, h, e => by simp only [zj1, Option.some.injEq] at e; subst e; exact ⟨cur, rfl, h⟩
  | (i, m) :: ps, (j, v) :: qs, cs, cs', cur, hp, h, e => by
    obtain ⟨⟨rfl, hm⟩, hp⟩ := hp
    simp only [zj1] at e
    simp only [Instr.fill]
    cases hpl : place i with
    | none => simp [hpl] at e
    | some os =>
      obtain ⟨off, size⟩ := os
      simp only [hpl] at e ⊢
      cases hc : (Nat.beq m.cells.length size && Nat.ble (off + m.cells.length) cs.length && m.cells.all okC) with
      | false => rw [hc] at e; cases e
      | true =>
        rw [hc] at e
        simp only [Bool.and_eq_true] at hc
        obtain ⟨⟨c1, c2⟩, c3⟩ := hc
        have hcs := zk5 m v (fun c hc => by subst hc; simpa [Cm.cells] using c3) (fun b v' _ hv => hv ▸ hE b) hm
        have hlen := All2.length _ _ hcs
        have hlen2 := All2.length _ _ h
        have c1 := Nat.eq_of_beq_eq_true c1
        have c2 := Nat.le_of_ble_eq_true c2
        simp only [Array.length_toList] at hlen hlen2
        have n1 : ¬ (v.cells.size ≠ size || decide (off + v.cells.size > cur.size)) = true := by simp; omega
        rw [if_neg n1]
        have := zmz v.cells.toList off 0 cur
        have hz : Array.foldl (fun cs (x : Value × Nat) => cs.setIfInBounds (off + x.2) x.1) cur v.cells.zipIdx = zd0 cur off v.cells.toList := by
          rw [← Array.foldl_toList, Array.toList_zipIdx]; exact this
        have := zk6 hE place ps qs _ cs' (zd0 cur off v.cells.toList) hp (zte _ _ _ _ _ h hcs) e
        rw [← hz] at this
        exact this
  | [], _ :: _, _, _, _, h, _, _ => h.elim
  | _ :: _, [], _, _, _, h, _, _ => h.elim
def zi1 (S : St) : List (Nat × Operand) → Option (List (Nat × Cm))
  | [] => some []
  | (i, x) :: r => match S.ev x, zi1 S r with
    | .m m, some l => some ((i, m) :: l)
    | _, _ => none
theorem zh6 {E : En} {a : Act} : ∀ (ps : List (Nat × Operand)) (l : List (Nat × Cm)), zi1 S ps = some l → (∀ p ∈ ps, (S.ev p.2).R E (a.eval p.2)) → All2 (fun p q => p.1 = q.1 ∧ p.2.R E q.2) l (ps.map fun p => (p.1, a.eval p.2))
  | [], l, h, _ => by simp only [zi1, Option.some.injEq] at h; subst h; trivial
  | (i, x) :: r, l, h, hR => by
    simp only [zi1] at h
    split at h
    · rename_i m l' hm hl
      cases h
      refine ⟨⟨rfl, ?_⟩, zh6 r l' hl (fun p hp => hR p (List.mem_cons_of_mem _ hp))⟩
      have := hR (i, x) (by simp)
      simp only [hm] at this
      exact this
    · cases h
def ztf (P : Program) (t : TypeId) : Option (Nat → Option (Nat × Nat)) :=
  match P.underlying t with
  | some (.array _ e) => (P.info? e).map fun ie => fun i => some (i * ie.size, ie.size)
  | some (.struct fields) => (fields.toList.mapM (fun f => (P.info? f.type).map fun i => (f.offset, i.size))).map fun places => fun i => places[i]?
  | _ => none
def zwm (P : Program) (t : TypeId) : Option (List Ce) := ((P.info? t).bind (·.zero)).map (fun z => z.cells.toList.map .v)
def ztg (P : Program) (t : TypeId) (l : List (Nat × Cm)) : Option (List Ce) :=
  match ztf P t, zwm P t with
  | some pl, some z => zj1 pl z l
  | _, _ => none
theorem zwn {t : TypeId} {l : List (Nat × Cm)} {cs : List Ce} {E : En} (hE : ∀ b, (E.τ b).oneCell' = true) (h : ztg P t l = some cs) (qs : List (Nat × Value)) (hR : All2 (fun p q => p.1 = q.1 ∧ p.2.R E q.2) l qs) : ∃ vs, P.built t qs = some vs ∧ All2 (Ce.R E) cs vs.toList := by
  unfold ztg at h
  split at h
  · rename_i pl z hpl hz
    unfold zwm at hz
    obtain ⟨zv, hzv, rfl⟩ := Option.map_eq_some_iff.1 hz
    obtain ⟨it, hit, hz0⟩ := Option.bind_eq_some_iff.1 hzv
    have hzR : All2 (Ce.R E) (zv.cells.toList.map .v) zv.cells.toList := All2.of_map (R := Ce.R E) Ce.v (fun _ => rfl) _
    obtain ⟨cur, hc, hcR⟩ := zk6 hE pl l qs _ cs zv.cells hR hzR h
    refine ⟨cur, ?_, hcR⟩
    unfold ztf at hpl
    unfold Program.built
    split at hpl
    · rename_i n e hu
      obtain ⟨ie, hie, rfl⟩ := Option.map_eq_some_iff.1 hpl
      simp only [hit, hu, hz0, hie]; exact hc
    · rename_i fields hu
      obtain ⟨places, hp, rfl⟩ := Option.map_eq_some_iff.1 hpl
      simp only [hit, hu, hz0, hp]
      have : (fun x => places.toArray[x]?) = fun i : Nat => places[i]? := by funext i; simp
      rw [this]; exact hc
    · cases hpl
  · cases h
theorem zoq {t : TypeId} {parts : Array (Nat × Operand)} {l : List (Nat × Cm)} {cs : List Ce} (ho : o.op = .build t parts) (hw : zam ops S o = true) (hl : zi1 S parts.toList = some l) (hc : ztg P t l = some cs) : za4 P ops X o S ⟨.m (.ag cs), [], []⟩ :=
  za2 [] hw fun S2 τ a w h _ hS => by
    have hR := zh6 (S := S) (E := env X S2.hp τ w) (a := a) parts.toList l hl (fun p hp => h p.2 (by rw [ho]; simp [Op.operands]; exact ⟨p.1, by simpa using hp⟩))
    obtain ⟨vs, hb, hv⟩ := zwn (E := env X S2.hp τ w) hS.one hc _ hR
    refine ⟨.agg vs, ?_, vs, rfl, hv⟩
    have := run_build w t (parts.map fun p => (p.1, a.eval p.2)) vs (by simpa using hb)
    simp only [execOp, ho, this, Sem.run_bind, Result.andThen_ok, Sem.run_pure]
def zdj : Ce → Bool
  | .p _ _ | .o _ | .rp _ _ | .f _ _ _ | .bs _ _ _ | .cl _ _ => false
  | _ => true
def zcq : Cm → Bool
  | .c x => zdj x
  | .ag cs => cs.all zdj
def zek : AV → Bool
  | .m m => zcq m
  | .tu l => l.all zcq
def en0 (A : Nat → Prop) (w : World) : En := ⟨A, fun _ => False, fun _ => .bool false, w⟩
theorem zth {E F : En} (hw : F.w = E.w) (hA : ∀ g, g < E.w.heap.size → E.A g → F.A g) : ∀ (c : Ce) (v : Value), zdj c = true → c.R E v → c.R F v
  | .v x, v, _, h => h
  | .s n k xs, v, _, ⟨h1, h2⟩ => ⟨by rw [hw]; exact h1, fun a l c e => by
      rcases h1.2 with ⟨e', _⟩ | ⟨b, o', cap, e', hb, _⟩
      · rw [e'] at e; cases e
      · rw [e'] at e; cases e; exact hA _ hb (h2 _ _ _ e')⟩
  | .q xs, v, _, ⟨g, o', h1, h2, h3, h4⟩ => ⟨g, o', h1, by rw [hw]; exact h2, hA g h2 h3, by rw [hw]; exact h4⟩
  | .any, _, _, _ => trivial
  | .p _ _, _, h, _ => by cases h
  | .o _, _, h, _ => by cases h
  | .rp _ _, _, h, _ => by cases h
  | .f _ _ _, _, h, _ => by cases h
  | .bs _ _ _, _, h, _ => by cases h
  | .cl _ _, _, h, _ => by cases h
theorem zfm {E F : En} (hw : F.w = E.w) (hA : ∀ g, g < E.w.heap.size → E.A g → F.A g) : ∀ (cs : List Ce) (vs : List Value), cs.all zdj = true → All2 (Ce.R E) cs vs → All2 (Ce.R F) cs vs
  | [], [], _, _ => trivial
  | c :: cs, v :: vs, h, k => by
    simp only [List.all_cons, Bool.and_eq_true] at h
    exact ⟨zth hw hA c v h.1 k.1, zfm hw hA cs vs h.2 k.2⟩
  | [], _ :: _, _, k => k.elim
  | _ :: _, [], _, k => k.elim
theorem zha {E F : En} (hw : F.w = E.w) (hA : ∀ g, g < E.w.heap.size → E.A g → F.A g) : ∀ (c : Cm) (v : Value), zcq c = true → c.R E v → c.R F v
  | .c x, v, h, k => zth hw hA x v h k
  | .ag cs, v, h, ⟨vs, e, k⟩ => ⟨vs, e, zfm hw hA cs _ h k⟩
theorem zdv {E F : En} (hw : F.w = E.w) (hA : ∀ g, g < E.w.heap.size → E.A g → F.A g) : ∀ (cs : List Cm) (vs : List Value), cs.all zcq = true → All2 (Cm.R E) cs vs → All2 (Cm.R F) cs vs
  | [], [], _, _ => trivial
  | c :: cs, v :: vs, h, k => by
    simp only [List.all_cons, Bool.and_eq_true] at h
    exact ⟨zha hw hA c v h.1 k.1, zdv hw hA cs vs h.2 k.2⟩
  | [], _ :: _, _, k => k.elim
  | _ :: _, [], _, k => k.elim
theorem zk7 {E F : En} (hw : F.w = E.w) (hA : ∀ g, g < E.w.heap.size → E.A g → F.A g) : ∀ (c : AV) (v : Value), zek c = true → c.R E v → c.R F v
  | .m x, v, h, k => zha hw hA x v h k
  | .tu l, v, h, ⟨vs, e, k⟩ => ⟨vs, e, zdv hw hA l _ h k⟩
def zbn (P : Program) (G : World → Prop) (k : FuncId) (args : List Cm) (r : AV) : Prop := zek r = true ∧ args.all zcq = true ∧ ∀ (A : Nat → Prop) (W : World) (vs : Array Value), G W → All2 (Cm.R (en0 A W)) args vs.toList →
  Calls P k vs W (fun e w' => ∃ v, e = .returned v ∧ Below W.heap.size W w' ∧ r.R (en0 (fun g => A g ∨ W.heap.size ≤ g) w') v)
def zk8 (S : St) : List Operand → Option (List Cm)
  | [] => some []
  | x :: r => match S.ev x, zk8 S r with
    | .m m, some l => some (m :: l)
    | _, _ => none
theorem zhb {E : En} {a : Act} : ∀ (ps : List Operand) (l : List Cm), zk8 S ps = some l → (∀ p ∈ ps, (S.ev p).R E (a.eval p)) → All2 (Cm.R E) l (ps.map a.eval)
  | [], l, h, _ => by simp only [zk8, Option.some.injEq] at h; subst h; trivial
  | x :: r, l, h, hR => by
    simp only [zk8] at h
    split at h
    · rename_i m l' hm hl
      cases h
      refine ⟨?_, zhb r l' hl (fun p hp => hR p (List.mem_cons_of_mem _ hp))⟩
      have := hR x (by simp)
      rw [hm] at this
      exact this
    · cases h
def zdq (P : Program) (k : FuncId) : Bool := match P.funcs[k]? with | some fn => fn.body.isSome && !(fn.name == "runtime.NumGoroutine") | none => false
theorem zh7 {k : FuncId} {xs : Array Operand} {ts : Array TypeId} (ho : o.op = .call { callee := .value (.func k), args := xs, argTypes := ts }) (hk : zdq P k = true) (a : Act) (w : World) : (execOp a.eval o).run P w = .ok (.enter k (xs.map a.eval)) w := by
  unfold zdq at hk
  split at hk
  · rename_i fn hf
    simp only [Bool.and_eq_true, Bool.not_eq_true'] at hk
    obtain ⟨h1, h2⟩ := hk
    have h2 : ¬ fn.name = "runtime.NumGoroutine" := by simpa using h2
    have h3 : ¬ fn.body = none := by intro e; rw [e] at h1; cases h1
    simp [execOp, ho, resolve, Act.eval, Deferred.ofValue, invoke, callFunc, hf, h2, h3]
  · cases hk
theorem zaa {k : FuncId} {xs : Array Operand} {ts : Array TypeId} {l : List Cm} {r : AV} (ho : o.op = .call { callee := .value (.func k), args := xs, argTypes := ts }) (hw : zam ops S o = true) (hk : zdq P k = true) (hc : zbn P X.G k l r) (hl : zk8 S xs.toList = some l) : za4 P ops X o S ⟨r, [], []⟩ := fun S2 a w h1 h2 h3 ⟨τ, hS⟩ => by
  refine .inl ⟨zbu hw h1 h3 hS, ?_⟩
  rw [zh7 ho hk]
  obtain ⟨c1, c2, hc⟩ := hc
  have hR := zhb (S := S) (E := env X S2.hp τ w) (a := a) xs.toList l hl (fun x hx => by
    have hm : x ∈ o.op.operands := by rw [ho]; simp [Op.operands, Call.operands]; exact .inr (by simpa using hx)
    rw [← zb7 h1 hm]; exact hS.ev x (fun t e => h3 t (.inl (zbv (e ▸ hm)))))
  have hR' := zdv (F := en0 (alw X S2.hp τ) w) (E := env X S2.hp τ w) rfl (fun _ _ h => h) _ _ c2 hR
  refine (hc (alw X S2.hp τ) w (xs.map a.eval) (X.hG w hS.bel) (by simpa using hR')).mono ?_
  rintro e w' ⟨v, rfl, hb, hr⟩
  refine ⟨v, rfl, τ, hS.below hb ?_⟩
  refine zk7 (E := en0 _ w') (F := env X S2.hp τ w') rfl (fun g _ hg => ?_) _ _ c1 hr
  rcases hg with hg | hg
  · exact hg
  · exact ⟨.inr (Nat.le_trans hS.bsz hg), fun b hb' he => by have := (hS.own b g hb' he).2; omega⟩
end Go.Proofs.YtomeaibdedaldaaGreatDoor.Ax
namespace Go.Proofs.YtomeaibdedaldaaGreatDoor.Ax
open Go.RowKit MemL RegR
variable {P : Program} {ops : Array Oper} {X : Cx} {o : Oper} {S : St}
def zch (τ : Nat → Value) (b : Nat) (v : Value) : Nat → Value := fun i => if i = b then v else τ i
theorem zc4 {h : Nat → Hs} {b i : Nat} {k : Bk} : upd [(b, .live k)] h i = if i = b then .live k else h i := by
  simp only [upd]
  by_cases e : i = b
  · subst e; simp [Nat.beq_refl, zwe]
  · simp [za8 e, e]
theorem zor {h : Nat → Hs} {b i off : Nat} {l cs : List Ce} (hb : h b = .live (.box cs)) : upd [(b, .patch off l)] h i = if i = b then .live (.box (zme cs off l)) else h i := by
  simp only [upd]
  by_cases e : i = b
  · subst e; simp [Nat.beq_refl, zwe, hb]
  · simp [za8 e, e]
theorem SimT.newb {τ : Nat → Value} {a : Act} {w w' : World} (h : SimT X S τ a w) {b : Nat} (hf : S.hp b = .fresh) (hb : Below w.heap.size w w') {v : Value} {g : Nat} (hv : occ v = some g) (hg : w.heap.size ≤ g ∧ g < w'.heap.size) (h1 : v.oneCell' = true)
    {k : Bk} (hk : ∀ E : En, (env X S.hp τ w).le E → E.w = w' → k.R E X.base v) {d : Option Tmp} {r : AV} {u : Value} {rd : List Rd} (hr : r.R (env X (upd [(b, .live k)] S.hp) (zch τ b v) w') u) :
    SimT X (S.app d ⟨r, [(b, .live k)], rd⟩) (zch τ b v) (a.put d u) w' := by
  have hne : ∀ i, S.hp i ≠ .fresh → i ≠ b := fun i hi e => hi (e ▸ hf)
  have hal : ∀ i, zcd (upd [(b, .live k)] S.hp) i → i = b ∨ (i ≠ b ∧ zcd S.hp i) := fun i ⟨k', hi⟩ => by
    rw [zc4] at hi
    by_cases e : i = b
    · exact .inl e
    · rw [if_neg e] at hi; exact .inr ⟨e, k', hi⟩
  have hle : (env X S.hp τ w).le (env X (upd [(b, .live k)] S.hp) (zch τ b v) w') := by
    refine ⟨fun i hi => ⟨?_, ?_⟩, fun g' hg' ha => ⟨ha.1, fun i hi => ?_⟩, hb.size, fun g' o' hg' _ => hb.cell (p := ⟨g', o', none⟩) hg'⟩
    · show upd _ _ i ≠ _; rw [zc4, if_neg (hne i hi)]; exact hi
    · show zch τ b v i = τ i; unfold zch; rw [if_neg (hne i hi)]
    · show occ (zch τ b v i) ≠ some g'
      have hg'' : g' < w.heap.size := hg'
      unfold zch
      rcases hal i hi with e | ⟨e, hi⟩
      · rw [if_pos e, hv]; intro e'; cases e'; omega
      · rw [if_neg e]; exact ha.2 i hi
  refine h.turn (u := [(b, .live k)]) hle (h.belT hb) (fun i k' hi => ?_) (fun i g' hi ho => ?_) (fun i j g' hij hi hj ho => ?_) (fun i => ?_) hr
  · rw [zc4] at hi
    unfold zch
    by_cases e : i = b
    · rw [if_pos e] at hi ⊢; cases hi; exact hk _ hle rfl
    · rw [if_neg e] at hi ⊢
      have := h.hp i k' hi
      cases k' with
      | box cs =>
        obtain ⟨g', vs, e1, e2, e3⟩ := this
        exact ⟨g', vs, e1, Bx.below e2 hb, All2.mono (zb5 hle) _ _ e3⟩
      | row e k n xs => exact zis (X := X) (h := S.hp) (τ := τ) hb _ _ _ this
  · unfold zch at ho
    rcases hal i hi with e | ⟨e, hi⟩
    · rw [if_pos e, hv] at ho; cases ho; exact ⟨h.notK hg.1, hg.2⟩
    · rw [if_neg e] at ho; exact ⟨(h.own i g' hi ho).1, Nat.lt_of_lt_of_le (h.own i g' hi ho).2 hb.size⟩
  · unfold zch at ho ⊢
    rcases hal i hi with e | ⟨e, hi⟩
    · rw [if_pos e, hv] at ho; cases ho
      rcases hal j hj with e' | ⟨e', hj⟩
      · exact absurd (e.trans e'.symm) hij
      · rw [if_neg e']; intro hj'; have := (h.own j g hj hj').2; omega
    · rw [if_neg e] at ho
      rcases hal j hj with e' | ⟨e', hj⟩
      · rw [if_pos e', hv]; intro hj'; cases hj'; have := (h.own i _ hi ho).2; omega
      · rw [if_neg e']; exact h.sep i j g' hij hi hj ho
  · unfold zch; split
    · exact h1
    · exact h.one i
theorem zht {b : Nat} {cs : List Ce} (hw : zam ops S o = true) (hf : S.hp b = .fresh)
    (hrun : ∀ (S2 : St) (τ : Nat → Value) (a : Act) (w : World), (∀ x ∈ o.op.operands, (S.ev x).R (env X S2.hp τ w) (a.eval x)) → (∀ i, (τ i).oneCell' = true) → ∃ vs T, (execOp a.eval o).run P w = .ok (.value (.pointer (some ⟨w.heap.size, 0, none⟩))) (w.alloc (.cells vs T)) ∧ All2 (Ce.R (env X S2.hp τ w)) cs vs.toList) :
    za4 P ops X o S ⟨.m (.c (.p b 0)), [(b, .live (.box cs))], []⟩ := fun S2 a w h1 h2 h3 ⟨τ, hS⟩ => by
  refine .inl ⟨zbu hw h1 h3 hS, ?_⟩
  obtain ⟨vs, T, hr, hR⟩ := hrun S2 τ a w (fun x hx => by rw [← zb7 h1 hx]; exact hS.ev x (fun t e => h3 t (.inl (zbv (e ▸ hx))))) hS.one
  rw [hr]
  have hf2 : S2.hp b = .fresh := Eq.trans (h2 (.all b) (by simp [Ef.foot, ze0])) hf
  refine ⟨_, hS.newb (k := .box cs) hf2 ((Below.refl _ _).alloc (Nat.le_refl _) _) (v := .pointer (some ⟨w.heap.size, 0, none⟩)) (g := w.heap.size) rfl ⟨Nat.le_refl _, by rw [World.size_alloc]; omega⟩ rfl (fun E hE hw' => ⟨w.heap.size, vs, rfl, by rw [hw']; exact Bx.new, All2.mono (zb5 hE) _ _ hR⟩) ?_⟩
  refine ⟨?_, w.heap.size, ?_, rfl⟩
  · show upd _ _ b ≠ _; rw [zc4, if_pos rfl]; intro e; cases e
  · show zch τ b _ b = _; unfold zch; rw [if_pos rfl]
theorem zos {t : TypeId} {b : Nat} {cs : List Ce} (ho : o.op = .alloc t) (hd : o.dst = some b) (hw : zam ops S o = true) (hf : S.hp b = .fresh) (hz : zwm P t = some cs) : za4 P ops X o S ⟨.m (.c (.p b 0)), [(b, .live (.box cs))], []⟩ :=
  zht hw hf fun S2 τ a w _ _ => by
    unfold zwm at hz
    obtain ⟨zv, hzv, rfl⟩ := Option.map_eq_some_iff.1 hz
    obtain ⟨it, hit, hz0⟩ := Option.bind_eq_some_iff.1 hzv
    refine ⟨zv.cells, t, ?_, All2.of_map (R := Ce.R _) Ce.v (fun _ => rfl) _⟩
    simp [execOp, ho, Instr.alloc, zeroValue, typeInfo, hit, hz0, newVar, newRow]
theorem zti {t : TypeId} {x : Operand} {b : Nat} {m : Cm} (ho : o.op = .box t x) (hd : o.dst = some b) (hw : zam ops S o = true) (hf : S.hp b = .fresh) (hx : S.ev x = .m m) (hok : m.cells.all okC = true) : za4 P ops X o S ⟨.m (.c (.p b 0)), [(b, .live (.box m.cells))], []⟩ :=
  zht hw hf fun S2 τ a w h hone => by
    have h1 := h x (by rw [ho]; simp [Op.operands])
    rw [hx] at h1
    have hcs := zk5 (E := env X S2.hp τ w) m (a.eval x) (fun c hc => by subst hc; simpa [Cm.cells] using hok) (fun b v' _ hv => by have := hone b; rw [← hv]; exact this) h1
    exact ⟨(a.eval x).cells, t, by simp [execOp, ho, Instr.box, newVar, newRow], hcs⟩
theorem zgm {t : TypeId} {x y : Operand} {b off k : Nat} {cs0 : List Ce} {m : Cm} (ho : o.op = .store t x y) (hw : zam ops S o = true) (hx : S.ev x = .m (.c (.p b off))) (hb : S.hp b = .live (.box cs0)) (hy : S.ev y = .m m) (hk : zd1 P t = some k)
    (hok : (Nat.beq m.cells.length k && Nat.ble (off + m.cells.length) cs0.length && m.cells.all okC) = true) (hd : o.dst = none) : za4 P ops X o S ⟨.m (.c (.v undef)), [(b, .patch off m.cells)], []⟩ := fun S2 a w h1 h2 h3 ⟨τ, hS⟩ => by
  refine .inl ⟨zbu hw h1 h3 hS, ?_⟩
  simp only [Bool.and_eq_true] at hok
  obtain ⟨⟨c1, c2⟩, c3⟩ := hok
  have c1 := Nat.eq_of_beq_eq_true c1
  have c2 := Nat.le_of_ble_eq_true c2
  have get : ∀ z ∈ o.op.operands, (S.ev z).R (env X S2.hp τ w) (a.eval z) := fun z hz => by rw [← zb7 h1 hz]; exact hS.ev z (fun t e => h3 t (.inl (zbv (e ▸ hz))))
  have q1 := get x (by rw [ho]; simp [Op.operands])
  have q2 := get y (by rw [ho]; simp [Op.operands])
  rw [hx] at q1; rw [hy] at q2
  obtain ⟨u0, g, e1, e2⟩ := q1
  have e1 : τ b = .pointer (some ⟨g, 0, none⟩) := e1
  obtain ⟨cs, hb2, hlen2⟩ : ∃ cs2, S2.hp b = .live (.box cs2) ∧ cs2.length = cs0.length := by
    rcases h2 (.part b off m.cells.length) (by simp [Ef.foot, ze0]) with k | ⟨c1, c2, k1, k2, k3, _⟩
    · exact ⟨cs0, k.trans hb, rfl⟩
    · rw [hb] at k2; cases k2; exact ⟨c1, k1, k3⟩
  rw [← hlen2] at c2
  clear hb hlen2
  obtain ⟨g', vs, e3, hbx, hR⟩ := hS.hp b _ hb2
  rw [e1] at e3
  obtain rfl : g = g' := by simpa using e3
  have hcs := zk5 (E := env X S2.hp τ w) m (a.eval y) (fun c hc => by subst hc; simpa [Cm.cells] using c3) (fun b v' _ hv => by have := hS.one b; rw [← hv]; exact this) q2
  have hl1 := All2.length _ _ hcs
  have hl2 := All2.length _ _ hR
  simp only [Array.length_toList] at hl1 hl2
  have hone : ∀ v ∈ (a.eval y).cells.toList, v.oneCell' = true := by
    cases m with
    | c x => 
      have h1 := zi0 x (a.eval y) (by simpa [Cm.cells] using c3) q2 (fun b v' _ hv => by have := hS.one b; rw [← hv]; exact this)
      have : (a.eval y).cells = #[a.eval y] := by cases hz : a.eval y <;> first | rfl | (rw [hz] at h1; simp [Value.oneCell'] at h1)
      rw [this]; intro v hv; simp at hv; subst hv; exact h1
    | ag l =>
      have : ∀ (l : List Ce) (vs : List Value), l.all okC = true → All2 (Ce.R (env X S2.hp τ w)) l vs → ∀ v ∈ vs, v.oneCell' = true := by
        intro l
        induction l with
        | nil => intro vs _ h v hv; cases vs with | nil => cases hv | cons _ _ => exact h.elim
        | cons x l ih =>
          intro vs hk h v hv
          cases vs with
          | nil => exact h.elim
          | cons u vs =>
            simp only [List.all_cons, Bool.and_eq_true] at hk
            rcases List.mem_cons.1 hv with rfl | hv
            · exact zi0 x v hk.1 h.1 (fun b v' _ hv => by have := hS.one b; rw [← hv]; exact this)
            · exact ih vs hk.2 h.2 v hv
      exact this l _ c3 hcs
  have hcell : ∀ j, j < (a.eval y).cells.toList.length → (w.cell? ⟨g, off + 0 + j, none⟩).isSome = true := fun j hj => by
    have hbx' := Bx.cell hbx (off + 0 + j)
    have : w.cell? ⟨g, off + 0 + j, none⟩ = vs[off + 0 + j]? := hbx'
    rw [this, Array.getElem?_eq_getElem (by simp only [Array.length_toList] at hj; omega)]; rfl
  have hst := run_storeCells_cells (P := P) g off (a.eval y).cells.toList 0 w hcell (fun j _ => Bx.free hbx _) hone
  simp only [Nat.add_zero] at hst
  have hrun : (execOp a.eval o).run P w = .ok .skip (w.setCells g off (a.eval y).cells.toList) := by
    have hs := zde hk w
    simp [execOp, ho, e2, Instr.storeAt, Instr.sureAddr, storeVar, hs, show (a.eval y).cells.size = k by omega, hst]
  rw [hrun]
  obtain ⟨T, hbx0⟩ := hbx
  have hheap := zbr (w := w) (g := g) (T := T) (a.eval y).cells.toList off w vs hbx0
  have hfar : ∀ i, i ≠ g → (w.setCells g off (a.eval y).cells.toList).heap[i]? = w.heap[i]? := fun i hi => zcg hi _ _ _
  have hown := hS.own b g ⟨_, hb2⟩ (by rw [e1]; rfl)
  have hbel : Kept X.K X.W0 (w.setCells g off (a.eval y).cells.toList) := zg8 hown.1 _ _ _ hS.bel
  have hsz : (w.setCells g off (a.eval y).cells.toList).heap.size = w.heap.size := by
    have : ∀ (l : List Value) (o : Nat) (w : World), (w.setCells g o l).heap.size = w.heap.size := by
      intro l; induction l with
      | nil => intro o w; rfl
      | cons v l ih => intro o w; simp only [World.setCells]; rw [ih]; simp [World.setCell]
    exact this _ _ _
  generalize w.setCells g off (a.eval y).cells.toList = w' at *
  have hal : ∀ i, zcd (upd [(b, .patch off m.cells)] S2.hp) i → zcd S2.hp i := fun i ⟨k', hi⟩ => by
    rw [zor hb2] at hi
    by_cases e : i = b
    · subst e; exact ⟨_, hb2⟩
    · rw [if_neg e] at hi; exact ⟨k', hi⟩
  have hle : (env X S2.hp τ w).le (env X (upd [(b, .patch off m.cells)] S2.hp) τ w') := by
    refine ⟨fun i hi => ⟨?_, rfl⟩, fun g' hg' ha => ⟨ha.1, fun i hi => ha.2 i (hal i hi)⟩, by show w.heap.size ≤ w'.heap.size; omega, fun g' o' hg' ha => ?_⟩
    · show upd _ _ i ≠ _; rw [zor hb2]; split
      · intro e; cases e
      · exact hi
    · have hne : g' ≠ g := fun e => ha.2 b ⟨_, hb2⟩ (by rw [e1, e]; rfl)
      exact World.cell?_of_block (hfar g' hne)
  refine ⟨τ, hS.turn (u := [(b, .patch off m.cells)]) hle hbel (fun i k' hi => ?_) (fun i g' hi ho' => ?_) (fun i j g' hij hi hj ho' => hS.sep i j g' hij (hal i hi) (hal j hj) ho') hS.one rfl⟩
  · rw [zor hb2] at hi
    by_cases e : i = b
    · subst e
      rw [if_pos rfl] at hi; cases hi
      exact ⟨g, _, e1, ⟨T, hheap⟩, All2.mono (zb5 hle) _ _ (zte _ _ _ _ _ hR hcs)⟩
    · rw [if_neg e] at hi
      have hk' := hS.hp i k' hi
      have hocc : ∀ g', occ (τ i) = some g' → g' ≠ g := fun g' hg' e' => hS.sep b i g (Ne.symm e) ⟨_, hb2⟩ ⟨_, hi⟩ (by rw [e1]; rfl) (by rw [hg', e'])
      cases k' with
      | box cs' =>
        obtain ⟨g', vs', x1, ⟨T', x2⟩, x3⟩ := hk'
        exact ⟨g', vs', x1, ⟨T', (hfar g' (hocc g' (by rw [x1]; rfl))).trans x2⟩, All2.mono (zb5 hle) _ _ x3⟩
      | row e' k' n' xs' =>
        obtain ⟨x0, x1⟩ := hk'
        refine ⟨x0, ?_⟩
        rcases x1 with x1 | ⟨g', cap, cur, y1, y2, y3, y4⟩
        · exact .inl x1
        · exact .inr ⟨g', cap, cur, y1, y2, (hfar g' (hocc g' (by rw [y1]; rfl))).trans y3, y4⟩
  · have := hS.own i g' (hal i hi) ho'; exact ⟨this.1, by omega⟩
end Go.Proofs.YtomeaibdedaldaaGreatDoor.Ax
namespace Go.Proofs.YtomeaibdedaldaaGreatDoor.Ax
open Go.RowKit MemL RegR
variable {P : Program} {X : Cx} {S : St} {Q : Exit → St → Prop}
def Aw (P : Program) (X : Cx) (c : Code) (Q : Exit → St → Prop) (S : St) : Prop := ∀ a w, Sim X S a w → ∀ n, c.wpIn (FX X) n P (fun e a' w' => ∃ S', Q e S' ∧ Sim X S' a' w') a w
def zk9 (next : St → Prop) (Q : Exit → St → Prop) : Exit → St → Prop
  | .normal, S => next S
  | e, S => Q e S
def zqa (id : Nat) (Q : Exit → St → Prop) : Exit → St → Prop
  | .exit id', S => if id' = id then Q .normal S else Q (.exit id') S
  | e, S => Q e S
theorem zot {c : Code} {Q' : Exit → St → Prop} (h : Aw P X c Q S) (hq : ∀ e S, Q e S → Q' e S) : Aw P X c Q' S := fun a w hs n => wpIn_mono (h a w hs n) fun e a w ⟨S', q, s⟩ => ⟨S', hq e S' q, s⟩
theorem zai (h : Q .normal S) : Aw P X .skip Q S := fun a w hs n => wpIn_skip ⟨S, h, hs⟩
theorem zaf (h : Q .ret S) : Aw P X .ret Q S := fun a w hs n => wpIn_ret ⟨S, h, hs⟩
theorem zan {id : Nat} (h : Q (.exit id) S) : Aw P X (.exit id) Q S := fun a w hs n => wpIn_exit ⟨S, h, hs⟩
theorem zqb {x y : Code} (h : Aw P X x (zk9 (Aw P X y Q) Q) S) : Aw P X (.seq x y) Q S := fun a w hs n => wpIn_seq (wpIn_mono (h a w hs n) fun e a' w' ⟨S', q, s⟩ => by
  cases e with
  | normal => exact q a' w' s n
  | _ => exact ⟨S', q, s⟩)
theorem zad {id : Nat} {c : Code} (h : Aw P X c (zqa id Q) S) : Aw P X (.block id c) Q S := fun a w hs n => wpIn_block (wpIn_mono (h a w hs n) fun e a' w' ⟨S', q, s⟩ => by
  cases e with
  | exit id' =>
    unfold zqa at q
    unfold Exit.inBlock
    by_cases e : id' = id
    · simp only [e, if_true] at q ⊢; exact ⟨S', q, s⟩
    · simp only [e, if_false] at q ⊢; exact ⟨S', q, s⟩
  | _ => exact ⟨S', q, s⟩)
def ztj (N : Nat) (c : Operand) : Bool := match c with | .tmp t => decide (t < N) | _ => true
theorem zrt {N : Nat} {c : Operand} (h : ztj N c = true) : ∀ t, c = .tmp t → t < N := fun t e => by subst e; simpa [ztj] using h
theorem zla {c : Operand} {x y : Code} {b : Bool} (hN : ztj X.N c = true) (hc : S.ev c = .m (.c (.v (.bool b)))) (ht : b = true → Aw P X x Q S) (hf : b = false → Aw P X y Q S) : Aw P X (.cond c x y) Q S := fun a w hs n => by
  have : a.eval c = .bool b := by
    obtain ⟨τ, hs⟩ := hs
    have := hs.ev c (zrt hN)
    rw [hc] at this; exact this
  exact wpIn_cond_split this (fun e => ht e a w hs n) (fun e => hf e a w hs n)
theorem zag {c : Operand} {x y : Code} (hN : ztj X.N c = true) (hc : S.ev c = .m (.c (.v (.bool true)))) (h : Aw P X x Q S) : Aw P X (.cond c x y) Q S := zla hN hc (fun _ => h) (fun e => by cases e)
theorem zae {c : Operand} {x y : Code} (hN : ztj X.N c = true) (hc : S.ev c = .m (.c (.v (.bool false)))) (h : Aw P X y Q S) : Aw P X (.cond c x y) Q S := zla hN hc (fun e => by cases e) (fun _ => h)
theorem zas {id : Nat} {l : List Oper} (hm : P.follows .mixedOrders = true) (hB : z2m .any l.toArray (zil .any l.toArray) [] (List.range l.length) = true) (hN : zmo X.N l = true)
    (hg : Go P l.toArray X (Q .normal) (zmg (zil .any l.toArray)) (List.range l.length) [] S) : Aw P X (.region id l.toArray true) Q S := fun a w hs =>
  zrp hm hB hN hg (fun S' a' w' q s => ⟨S', q, s⟩) hs
theorem zac {id : Nat} {l : List Oper} (hN : zmo X.N l = true) (hg : Go P l.toArray X (Q .normal) (fun _ _ => true) (List.range l.length) [] S) : Aw P X (.region id l.toArray false) Q S := fun a w hs =>
  zof hN hg (fun S' a' w' q s => ⟨S', q, s⟩) hs
theorem zlb {X : Cx} (h : X.rd = none) : FX X = Fence.wide := by unfold FX; rw [h]; rfl
theorem zzu {c : Code} (I : Nat → St → Prop) (n : Nat) (h0 : I n S) (round : ∀ n S, I n S → Aw P X c (zk9 (fun S' => ∃ n', n' < n ∧ I n' S') Q) S) (hr : X.rd = none := by rfl) : Aw P X (.loop c) Q S := fun a w hs m => by
  have R : ∀ n S, I n S → ∀ a w, Sim X S a w → c.wp P (fun e a' w' => ∃ S', zk9 (fun S' => ∃ n', n' < n ∧ I n' S') Q e S' ∧ Sim X S' a' w') a w := fun n S hI a w hs => by
    have := round n S hI a w hs m
    rw [zlb hr] at this
    exact wpIn_wide.1 this
  rw [zlb hr]
  exact wpIn_wide.2 (wp_loop_ghost (fun n a w => ∃ S, I n S ∧ Sim X S a w) n ⟨S, h0, hs⟩ fun n a w ⟨S, hI, hs⟩ => wp_mono (R n S hI a w hs) fun e a' w' ⟨S', q, s⟩ => by
    cases e with
    | normal => obtain ⟨n', hn, hI'⟩ := q; exact ⟨n', hn, S', hI', s⟩
    | _ => exact ⟨S', q, s⟩)
def AV.lt : AV → AV → Prop := fun x y => ∀ E v, x.R E v → y.R E v
def zm0 (args : List Cm) : St := ⟨fun t => match args[t]? with | some m => .m m | none => .m (.c (.v undef)), fun _ => .fresh⟩
def zqc (P : Program) (S : St) : ResultVar → Option Cm
  | .tmp t => match S.tm t with | .m m => some m | _ => none
  | .cell p ty => match S.tm p with
    | .m (.c (.p b off)) => match S.hp b with
      | .live (.box cs) => match ze1 P ty cs off with
        | some (.ag l) => cond ((P.info? ty).map (·.size) == some l.length) (some (.ag l)) none
        | r => r
      | _ => none
    | _ => none
def zhc (h : Nat → Hs) : Ce → Ce
  | .o b => match h b with
    | .live (.row e k n xs) => .s n k xs
    | _ => .o b
  | c => c
def zj2 (h : Nat → Hs) : Cm → Cm
  | .c x => .c (zhc h x)
  | .ag cs => .ag (cs.map (zhc h))
def z2w (P : Program) (S : St) : List ResultVar → Option (List Cm)
  | [] => some []
  | r :: l => match zqc P S r, z2w P S l with
    | some m, some ms => some (zj2 S.hp m :: ms)
    | _, _ => none
def zav (P : Program) (fn : Func) (S : St) : Option AV :=
  match z2w P S fn.results.toList with
  | some [m] => some (.m m)
  | some ms => some (.tu ms)
  | none => none
def zlc (N : Nat) (l : List ResultVar) : Bool := l.all fun | .tmp t => decide (t < N) | .cell p _ => decide (p < N)
theorem zi2 {τ : Nat → Value} {a : Act} {w : World} (h : SimT X S τ a w) : ∀ (c : Ce) (v : Value), c.R (env X S.hp τ w) v → (zhc S.hp c).R ⟨fun g => X.A0 g ∨ X.base ≤ g, fun b => S.hp b ≠ .fresh, τ, w⟩ v := fun c v hR => by
  have wk : ∀ (c : Ce), c.R (env X S.hp τ w) v → c.R ⟨fun g => X.A0 g ∨ X.base ≤ g, fun b => S.hp b ≠ .fresh, τ, w⟩ v := fun c hR =>
    zb5 (E := env X S.hp τ w) (F := ⟨fun g => X.A0 g ∨ X.base ≤ g, fun b => S.hp b ≠ .fresh, τ, w⟩) ⟨fun b hb => ⟨hb, rfl⟩, fun g _ hg => hg.1, Nat.le_refl _, fun _ _ _ _ => rfl⟩ _ _ hR
  unfold zhc
  split
  · rename_i b
    split
    · rename_i e k n xs hb
      obtain ⟨_, hv⟩ := hR
      have hv : v = τ b := hv
      subst hv
      have hr : w.ownsRow X.base e k (τ b) n xs := h.hp b _ hb
      refine ⟨Sl.of_owns hr, fun ad l c e => ?_⟩
      exact .inr (World.ownsRow.lt hr ad.block (by rw [e]; rfl)).1
    · exact wk _ hR
  · exact wk _ hR
theorem ztk {τ : Nat → Value} {a : Act} {w : World} (h : SimT X S τ a w) : ∀ (c : Cm) (v : Value), c.R (env X S.hp τ w) v → (zj2 S.hp c).R ⟨fun g => X.A0 g ∨ X.base ≤ g, fun b => S.hp b ≠ .fresh, τ, w⟩ v
  | .c x, v, hR => zi2 h x v hR
  | .ag cs, v, ⟨vs, e, hR⟩ => by
    refine ⟨vs, e, ?_⟩
    have : ∀ (cs : List Ce) (vs : List Value), All2 (Ce.R (env X S.hp τ w)) cs vs → All2 (Ce.R ⟨fun g => X.A0 g ∨ X.base ≤ g, fun b => S.hp b ≠ .fresh, τ, w⟩) (cs.map (zhc S.hp)) vs := by
      intro cs
      induction cs with
      | nil => intro vs h; cases vs with | nil => trivial | cons _ _ => exact h.elim
      | cons c cs ih => intro vs k; cases vs with | nil => exact k.elim | cons v vs => exact ⟨zi2 h c v k.1, ih vs k.2⟩
    exact this cs _ hR
def zqd (tmps : Array Value) : ResultVar → Sem Value
  | .tmp t => pure (tmps.getD t undef)
  | .cell a t => do loadVar t (← asAddr (tmps.getD a undef))
theorem zfn (fn : Func) (tmps : Array Value) : results fn tmps = (do let vs ← fn.results.mapM (zqd tmps); pure (if h : vs.size = 1 then vs[0] else .tuple vs)) := rfl
theorem zru {τ : Nat → Value} {a : Act} {w : World} (h : SimT X S τ a w) {r : ResultVar} {m : Cm} (hN : (match r with | .tmp t => decide (t < X.N) | .cell p _ => decide (p < X.N)) = true) (hr : zqc P S r = some m) :
    ∃ v, (zqd a.tmps r).run P w = .ok v w ∧ m.R (env X S.hp τ w) v := by
  cases r with
  | tmp t =>
    have := h.tm t (by simpa using hN)
    simp only [zqc] at hr
    split at hr
    · rename_i m' hm
      cases hr
      rw [hm] at this
      exact ⟨_, rfl, this⟩
    · cases hr
  | cell p ty =>
    have := h.tm p (by simpa using hN)
    simp only [zqc] at hr
    split at hr
    · rename_i b off hp
      rw [hp] at this
      obtain ⟨_, g, e1, e2⟩ := this
      split at hr
      · rename_i cs hb
        obtain ⟨g', vs, e3, hbx, hR⟩ := h.hp b _ hb
        have e1 : τ b = .pointer (some ⟨g, 0, none⟩) := e1
        rw [e1] at e3
        obtain rfl : g = g' := by simpa using e3
        have hm : ze1 P ty cs off = some m ∧ ∀ l, m = .ag l → (P.info? ty).map (·.size) = some l.length := by
          split at hr
          · rename_i l hl
            cases hc : ((P.info? ty).map (·.size) == some l.length) with
            | false => simp only [hc] at hr; cases hr
            | true => simp only [hc] at hr; cases hr; exact ⟨hl, fun l' e => by cases e; simpa using hc⟩
          · rename_i r hne
            refine ⟨hr, fun l e => ?_⟩
            subst e
            exact absurd hr (hne l)
        obtain ⟨v, hv, hr'⟩ := zgl (E := env X S.hp τ w) w hm.1 hm.2 (fun j c _ => zmr hbx hR j c)
        refine ⟨v, ?_, hr'⟩
        have e2' : a.tmps.getD p undef = .pointer (some ⟨g, off, none⟩) := e2
        simp only [zqd, e2', asAddr, Sem.run_bind, Sem.run_pure, Result.andThen_ok, hv]
      · cases hr
    · cases hr
theorem zgn {τ : Nat → Value} {a : Act} {w : World} (h : SimT X S τ a w) : ∀ (l : List ResultVar) (ms : List Cm), zlc X.N l = true → z2w P S l = some ms →
    ∃ vs, (l.mapM (zqd a.tmps)).run P w = .ok vs w ∧ All2 (Cm.R ⟨fun g => X.A0 g ∨ X.base ≤ g, fun b => S.hp b ≠ .fresh, τ, w⟩) ms vs
  | [], ms, _, hr => by simp only [z2w, Option.some.injEq] at hr; subst hr; exact ⟨[], by simp, trivial⟩
  | r :: l, ms, hN, hr => by
    simp only [zlc, List.all_cons, Bool.and_eq_true] at hN
    simp only [z2w] at hr
    split at hr
    · rename_i m ms' hm hms
      cases hr
      obtain ⟨v, hv, hvR⟩ := zru h hN.1 hm
      obtain ⟨vs, hvs, hR⟩ := zgn h l ms' hN.2 hms
      refine ⟨v :: vs, ?_, ztk h _ _ hvR, hR⟩
      rw [List.mapM_cons]
      simp only [Sem.run_bind, hv, Result.andThen_ok, hvs, Sem.run_pure]
    · cases hr
def Ret (P : Program) (fn : Func) (r : AV) (e : Exit) (S : St) : Prop := match e with
  | .normal | .ret => zav P fn S = some r
  | _ => False
theorem zm1 {G : World → Prop} {N : Nat} {W : World} {A : Nat → Prop} {hG0 : ∀ w, Below W.heap.size W w → G w} {fn : Func} {args : List Cm} {vs : Array Value} (hN : args.length + (fn.ntmps - args.length) = N) (hcl2 : args.all zcq = true) (hlen : args.length = vs.size) (hR : All2 (Cm.R (en0 A W)) args vs.toList) :
    Sim (Cx.of N W A G hG0) (zm0 args) { tmps := vs ++ Array.replicate (fn.ntmps - vs.size) undef, defers := [] } W := by
  refine ⟨fun _ => .bool false, by simp [← hN, hlen, Cx.of], rfl, Kept.refl _ _, fun t ht => ?_, (fun b k hk => by cases hk), (fun b g hk => by obtain ⟨k, hk⟩ := hk; cases hk), (fun b b' g _ hk => by obtain ⟨k, hk⟩ := hk; cases hk), fun _ => rfl, fun p hp => by cases hp⟩
  show AV.R _ (match args[t]? with | some m => .m m | none => .m (.c (.v undef))) _
  have ht : t < N := ht
  by_cases hlt : t < args.length
  · obtain ⟨v, hv, hr⟩ := All2.get _ _ t _ hR (List.getElem?_eq_getElem hlt)
    rw [List.getElem?_eq_getElem hlt]
    have e : (vs ++ Array.replicate (fn.ntmps - vs.size) undef).getD t undef = v := by
      rw [Array.getD_eq_getD_getElem?, Array.getElem?_append_left (by omega)]
      simp only [Array.getElem?_toList] at hv
      rw [hv]; rfl
    rw [e]
    exact zha (E := en0 A W) (F := env (Cx.of N W A G hG0) (zm0 args).hp (fun _ => .bool false) W) rfl (fun g _ hg => ⟨.inl hg, (fun b hk => by obtain ⟨k, hk⟩ := hk; cases hk)⟩) _ _ (List.all_eq_true.1 hcl2 _ (List.getElem_mem hlt)) hr
  · rw [List.getElem?_eq_none (by omega)]
    show _ = undef
    rw [Array.getD_eq_getD_getElem?, Array.getElem?_append_right (by omega)]
    rw [Array.getElem?_replicate]; split <;> rfl
theorem zah {G : World → Prop} {k : FuncId} {fn : Func} {c : Code} {args : List Cm} {r : AV} (N : Nat) (hf : P.funcs[k]? = some fn) (hb : fn.body = some c) (hcl : (zek r && args.all zcq) = true) (hN : args.length + (fn.ntmps - args.length) = N) (hres : zlc N fn.results.toList = true)
    (h : ∀ (W : World) (A : Nat → Prop) (hG : ∀ w, Below W.heap.size W w → G w), Aw P (Cx.of N W A G hG) c (Ret P fn r) (zm0 args)) (hGb : ∀ w w', G w → Below w.heap.size w w' → G w') : zbn P G k args r := by
  simp only [Bool.and_eq_true] at hcl
  refine ⟨hcl.1, hcl.2, fun A W vs hG hR => ?_⟩
  refine calls_of_wp hf hb ?_
  have hlen := All2.length _ _ hR
  simp only [Array.length_toList] at hlen
  have hS : Sim (Cx.of N W A G fun w hb => hGb W w hG hb) (zm0 args) { tmps := vs ++ Array.replicate (fn.ntmps - vs.size) undef, defers := [] } W := zm1 hN hcl.2 hlen hR
  refine wp_mono (wpIn_wide.1 (h W A (fun w hb => hGb W w hG hb) _ W hS 0)) ?_
  intro e a' w' ⟨S', q, τ, s⟩
  have fin : zav P fn S' = some r → a'.defers = [] ∧ ∃ v, (results fn a'.tmps).run P w' = .ok v w' ∧ (∃ u, Ending.returned v = .returned u ∧ Below W.heap.size W w' ∧ r.R (en0 (fun g => A g ∨ W.heap.size ≤ g) w') u) := fun hr => by
    refine ⟨s.nodef, ?_⟩
    unfold zav at hr
    split at hr
    · rename_i m hm
      cases hr
      obtain ⟨vs', h1, h2⟩ := zgn s _ _ hres hm
      obtain ⟨v, rfl⟩ : ∃ v, vs' = [v] := by
        cases vs' with
        | nil => exact h2.elim
        | cons v l => cases l with | nil => exact ⟨v, rfl⟩ | cons _ _ => exact h2.2.elim
      refine ⟨v, ?_, v, rfl, s.bel.below (fun _ h => h), (zha (E := ⟨_, _, τ, w'⟩) (F := en0 (fun g => A g ∨ W.heap.size ≤ g) w') rfl (fun g _ hg => hg) _ _ hcl.1 h2.1 : Cm.R _ _ _)⟩
      rw [zfn]
      rw [Array.mapM_eq_mapM_toList]
      simp only [Sem.run_bind, Sem.run_map, h1, Result.andThen_ok, Sem.run_pure]
      rfl
    · rename_i ms hne hm
      cases hr
      obtain ⟨vs', h1, h2⟩ := zgn s _ _ hres hm
      have hl := All2.length _ _ h2
      have hsz : vs'.length ≠ 1 := fun e => by
        cases ms with
        | nil => simp at hl; omega
        | cons m l => cases l with
          | nil => exact hne m rfl
          | cons _ _ => simp at hl; omega
      refine ⟨.tuple vs'.toArray, ?_, _, rfl, s.bel.below (fun _ h => h), ⟨_, rfl, zdv (E := ⟨_, _, τ, w'⟩) (F := en0 (fun g => A g ∨ W.heap.size ≤ g) w') rfl (fun g _ hg => hg) _ _ hcl.1 h2⟩⟩
      rw [zfn]
      rw [Array.mapM_eq_mapM_toList]
      simp only [Sem.run_bind, Sem.run_map, h1, Result.andThen_ok, Sem.run_pure]
      simp [hsz]
    · cases hr
  cases e with
  | normal => exact fin q
  | ret => exact fin q
  | _ => exact q.elim
theorem zab {x y : Code} (h : ∀ K : St → Prop, (∀ S, Aw P X y Q S → K S) → Aw P X x (zk9 K Q) S) : Aw P X (.seq x y) Q S := zqb (h _ fun _ h => h)
def Nxt (P : Program) (ops : Array Oper) (X : Cx) (anc : Nat → Nat → Bool) (Q : St → Prop) (T : List (Nat × List Rd × List Rd)) (S : St) (i : Nat) (r : List Nat) (o : Oper) : Prop := ∃ e, za4 P ops X o S e ∧ (T.all fun p => zyl p.2.1 p.2.2 (e.up.map ze0) e.rd || anc p.1 i) = true ∧ Go P ops X Q anc r ((i, e.up.map ze0, e.rd) :: T) (S.app o.dst e)
variable {ops : Array Oper} {R : St → Prop} {anc : Nat → Nat → Bool} {i : Nat} {r : List Nat} {T : List (Nat × List Rd × List Rd)} {o : Oper}
theorem zaj (ho : ops[i]? = some o) (h : Nxt P ops X anc R T S i r o) : Go P ops X R anc (i :: r) T S := ⟨o, h.choose, ho, h.choose_spec.1, h.choose_spec.2.1, h.choose_spec.2.2⟩
theorem zrv {e : Ef} (hv : za4 P ops X o S e) (hc : (T.all fun p => zyl p.2.1 p.2.2 (e.up.map ze0) e.rd || anc p.1 i) = true) (h : Go P ops X R anc r ((i, e.up.map ze0, e.rd) :: T) (S.app o.dst e)) : Nxt P ops X anc R T S i r o := ⟨e, hv, hc, h⟩
theorem gdr {P : Program} {ops : Array Oper} {X : Cx} {o : Oper} {S : St} {R : St → Prop} {anc : Nat → Nat → Bool} {r : List Nat} {T : List (Nat × List Rd × List Rd)} {i : Nat} {e : Ef} (hv : za4 P ops X o S e) (h : Go P ops X R anc r ((i, e.up.map ze0, e.rd) :: T) (S.app o.dst e)) (hc : (T.all fun p => zyl p.2.1 p.2.2 (e.up.map ze0) e.rd || anc p.1 i) = true := by exact rfl) : Nxt P ops X anc R T S i r o := zrv hv hc h
end Go.Proofs.YtomeaibdedaldaaGreatDoor.Ax
namespace Go.Proofs.YtomeaibdedaldaaGreatDoor.Ax
open Go.RowKit MemL RegR
variable {P : Program} {ops : Array Oper} {X : Cx} {o : Oper} {S : St}
inductive CmpI : BinOp → Int → Int → Bool → Prop
  | eql (a b : Int) : CmpI .eql a b (a == b)
  | neq (a b : Int) : CmpI .neq a b (a != b)
  | lss (a b : Int) : CmpI .lss a b (decide (a < b))
  | leq (a b : Int) : CmpI .leq a b (decide (a ≤ b))
  | gtr (a b : Int) : CmpI .gtr a b (decide (a > b))
  | geq (a b : Int) : CmpI .geq a b (decide (a ≥ b))
  | eql1 {a b : Int} (h : a = b) : CmpI .eql a b true
  | eql0 {a b : Int} (h : a ≠ b) : CmpI .eql a b false
  | neq1 {a b : Int} (h : a ≠ b) : CmpI .neq a b true
  | neq0 {a b : Int} (h : a = b) : CmpI .neq a b false
  | lss1 {a b : Int} (h : a < b) : CmpI .lss a b true
  | lss0 {a b : Int} (h : b ≤ a) : CmpI .lss a b false
  | leq1 {a b : Int} (h : a ≤ b) : CmpI .leq a b true
  | leq0 {a b : Int} (h : b < a) : CmpI .leq a b false
  | gtr1 {a b : Int} (h : b < a) : CmpI .gtr a b true
  | gtr0 {a b : Int} (h : a ≤ b) : CmpI .gtr a b false
  | geq1 {a b : Int} (h : b ≤ a) : CmpI .geq a b true
  | geq0 {a b : Int} (h : a < b) : CmpI .geq a b false
theorem zgo {op : BinOp} {t : TypeId} {x y : Operand} {k : IntKind} {a b : Int} (w : World) : (eqGuard op t x y (.int k a) (.int k b)).run P w = .ok () w := by
  unfold eqGuard; cases op <;> simp
theorem ztl {op : BinOp} {t t' : TypeId} {x y : Operand} {k : IntKind} {a b : Int} {r : Bool} (ho : o.op = .binOp op t x y t') (hw : zam ops S o = true) (hx : S.ev x = .m (.c (.v (.int k a)))) (hy : S.ev y = .m (.c (.v (.int k b)))) (hr : CmpI op a b r) : za4 P ops X o S ⟨.m (.c (.v (.bool r))), [], []⟩ :=
  zea ho hw hx hy zgo fun w => by
    cases hr <;> simp [binOp, Op.intCmp] <;> omega
inductive ArI : BinOp → Int → Int → Int → Prop
  | add (a b : Int) : ArI .add a b (a + b)
  | sub (a b : Int) : ArI .sub a b (a - b)
  | mul (a b : Int) : ArI .mul a b (a * b)
theorem zwo {op : BinOp} {t t' : TypeId} {x y : Operand} {k : IntKind} {a b n r : Int} (ho : o.op = .binOp op t x y t') (hw : zam ops S o = true) (hx : S.ev x = .m (.c (.v (.int k a)))) (hy : S.ev y = .m (.c (.v (.int k b)))) (hn : ArI op a b n) (hr : k.wrap n = r) : za4 P ops X o S ⟨.m (.c (.v (.int k r))), [], []⟩ :=
  zea ho hw hx hy zgo fun w => by
    subst hr
    cases hn <;> simp [binOp, Op.intArith]
theorem ztm {n : Int} (h : 0 ≤ n) (h' : n < 18446744073709551616) : IntKind.u64.wrap n = n := by rw [IntKind.wrap_u64]; omega
theorem ztn {n : Int} (h : -9223372036854775808 ≤ n) (h' : n < 9223372036854775808) : IntKind.i64.wrap n = n := by rw [IntKind.wrap_i64]; omega
theorem zto {t t' : TypeId} {x y : Operand} {k : IntKind} {a b : Int} (ho : o.op = .binOp .quo t x y t') (hw : zam ops S o = true) (hx : S.ev x = .m (.c (.v (.int k a)))) (hy : S.ev y = .m (.c (.v (.int k b)))) (h0 : 0 ≤ a) (hb : 0 < b) (hr : k.wrap (a / b) = a / b) : za4 P ops X o S ⟨.m (.c (.v (.int k (a / b)))), [], []⟩ :=
  zea ho hw hx hy zgo fun w => by
    have : ¬ b = 0 := by omega
    simp [binOp, Op.intDiv, this, Int.tdiv_eq_ediv_of_nonneg h0, hr]
theorem ztp {t t' : TypeId} {x y : Operand} {k : IntKind} {a b : Int} (ho : o.op = .binOp .rem t x y t') (hw : zam ops S o = true) (hx : S.ev x = .m (.c (.v (.int k a)))) (hy : S.ev y = .m (.c (.v (.int k b)))) (h0 : 0 ≤ a) (hb : 0 < b) : za4 P ops X o S ⟨.m (.c (.v (.int k (a % b)))), [], []⟩ :=
  zea ho hw hx hy zgo fun w => by
    have : ¬ b = 0 := by omega
    simp [binOp, Op.intDiv, this, Int.tmod_eq_emod_of_nonneg h0]
theorem zwp {s t : TypeId} {x : Operand} {k k' : IntKind} {n r : Int} (ho : o.op = .convert s t x) (hw : zam ops S o = true) (hx : S.ev x = .m (.c (.v (.int k n)))) (hs : P.underlying s = some (.int k)) (ht : P.underlying t = some (.int k')) (hr : k'.wrap n = r) : za4 P ops X o S ⟨.m (.c (.v (.int k' r))), [], []⟩ :=
  zrs ho hw hx fun w => by
    subst hr
    simp [convert, run_underlying hs, run_underlying ht, Conv.intToInt]
theorem ztq {t : TypeId} {x : Operand} {b : Bool} (ho : o.op = .unOp .not t x) (hw : zam ops S o = true) (hx : S.ev x = .m (.c (.v (.bool b)))) : za4 P ops X o S ⟨.m (.c (.v (.bool (!b)))), [], []⟩ :=
  zwk ho hw hx fun w => by simp [Op.unary]
theorem ztr {t t' : TypeId} {x y : Operand} {a b : Bool} (ho : o.op = .binOp .eql t x y t') (hw : zam ops S o = true) (hx : S.ev x = .m (.c (.v (.bool a)))) (hy : S.ev y = .m (.c (.v (.bool b)))) (hu : P.underlying t = some .bool) : za4 P ops X o S ⟨.m (.c (.v (.bool (a == b)))), [], []⟩ :=
  zea ho hw hx hy (fun w => by simp [eqGuard]) fun w => by
    have := run_equalIn_bool' (P := P) w 9999 t a b hu
    simp [binOp, Op.equal, Op.maxDepth, this]
theorem zts {t t' : TypeId} {x y : Operand} {a b : Bool} (ho : o.op = .binOp .neq t x y t') (hw : zam ops S o = true) (hx : S.ev x = .m (.c (.v (.bool a)))) (hy : S.ev y = .m (.c (.v (.bool b)))) (hu : P.underlying t = some .bool) : za4 P ops X o S ⟨.m (.c (.v (.bool (a != b)))), [], []⟩ :=
  zea ho hw hx hy (fun w => by simp [eqGuard]) fun w => by
    have := run_equalIn_bool' (P := P) w 9999 t a b hu
    simp [binOp, Op.equal, Op.maxDepth, this]; cases a <;> cases b <;> rfl
end Go.Proofs.YtomeaibdedaldaaGreatDoor.Ax
namespace Go.Proofs.YtomeaibdedaldaaGreatDoor.Ax
open Go.RowKit MemL RegR
variable {P : Program} {ops : Array Oper} {X : Cx} {o : Oper} {S : St}
def vals : List Ce → Option (List Value)
  | [] => some []
  | .v x :: r => (vals r).map (x :: ·)
  | _ => none
theorem ztt {E : En} : ∀ (cs : List Ce) (xs vs : List Value), vals cs = some xs → All2 (Ce.R E) cs vs → vs = xs
  | [], xs, vs, h, k => by simp only [vals, Option.some.injEq] at h; subst h; cases vs with | nil => rfl | cons _ _ => exact k.elim
  | .v x :: r, xs, vs, h, k => by
    simp only [vals] at h
    obtain ⟨l, hl, rfl⟩ := Option.map_eq_some_iff.1 h
    cases vs with
    | nil => exact k.elim
    | cons u vs => rw [ztt r l vs hl k.2, show u = x from k.1]
  | .s _ _ _ :: _, _, _, h, _ => by cases h
  | .q _ :: _, _, _, h, _ => by cases h
  | .p _ _ :: _, _, _, h, _ => by cases h
  | .o _ :: _, _, _, h, _ => by cases h
  | .rp _ _ :: _, _, _, h, _ => by cases h
  | .any :: _, _, _, h, _ => by cases h
  | .f _ _ _ :: _, _, _, h, _ => by cases h
  | .bs _ _ _ :: _, _, _, h, _ => by cases h
  | .cl _ _ :: _, _, _, h, _ => by cases h
theorem ze2 {b e k n : Nat} {xs : List Value} (hw : zam ops S o = true) (hf : S.hp b = .fresh)
    (hrun : ∀ (S2 : St) (τ : Nat → Value) (a : Act) (w : World), (∀ x ∈ o.op.operands, (S.ev x).R (env X S2.hp τ w) (a.eval x)) → (∀ i, (τ i).oneCell' = true) → ∃ (vs : Array Value) (cap : Nat), (execOp a.eval o).run P w = .ok (.value (.slice (some ⟨w.heap.size, 0, none⟩) n cap)) (w.alloc (.cells vs e)) ∧
      ∀ base, base ≤ w.heap.size → (w.alloc (.cells vs e)).ownsRow base e k (.slice (some ⟨w.heap.size, 0, none⟩) n cap) n xs) :
    za4 P ops X o S ⟨.m (.c (.o b)), [(b, .live (.row e k n xs))], []⟩ := fun S2 a w h1 h2 h3 ⟨τ, hS⟩ => by
  refine .inl ⟨zbu hw h1 h3 hS, ?_⟩
  obtain ⟨vs, cap, hr, hR⟩ := hrun S2 τ a w (fun x hx => by rw [← zb7 h1 hx]; exact hS.ev x (fun t e => h3 t (.inl (zbv (e ▸ hx))))) hS.one
  rw [hr]
  have hf2 : S2.hp b = .fresh := Eq.trans (h2 (.all b) (by simp [Ef.foot, ze0])) hf
  refine ⟨_, hS.newb (k := .row e k n xs) hf2 ((Below.refl _ _).alloc (Nat.le_refl _) _) (v := .slice (some ⟨w.heap.size, 0, none⟩) n cap) (g := w.heap.size) rfl ⟨Nat.le_refl _, by rw [World.size_alloc]; omega⟩ rfl (fun E hE hw' => by
    have := hR X.base hS.bsz
    show E.w.ownsRow X.base e k _ n xs
    rw [hw']; exact this) ?_⟩
  refine ⟨?_, ?_⟩
  · show upd _ _ b ≠ _; rw [zc4, if_pos rfl]; intro e; cases e
  · show _ = zch τ b _ b; unfold zch; rw [if_pos rfl]
def zqe (P : Program) (el len k : Nat) : Option (List Ce) := ((P.info? el).bind (·.zero)).map fun z => ((List.range (len * k)).map (fun i => z.cells[i % z.cells.size]!)).map .v
theorem zm2 {t el len k b : Nat} {parts : Array (Nat × Operand)} {l : List (Nat × Cm)} {z cs : List Ce} {xs : List Value} (ho : o.op = .buildSlice t len parts) (hd : o.dst = some b) (hw : zam ops S o = true) (hf : S.hp b = .fresh) (hl : zi1 S parts.toList = some l)
    (hu : P.underlying t = some (.slice el)) (hk : zd1 P el = some k) (hz : zqe P el len k = some z) (hc : zj1 (fun i => some (i * k, k)) z l = some cs) (hx : vals cs = some xs) (hsm : (Nat.ble (len * k) 16777216 && Nat.ble 1 (len * k)) = true) :
    za4 P ops X o S ⟨.m (.c (.o b)), [(b, .live (.row el k len xs))], []⟩ :=
  ze2 hw hf fun S2 τ a w h hone => by
    have hR := zh6 (S := S) (E := env X S2.hp τ w) (a := a) parts.toList l hl (fun p hp => h p.2 (by rw [ho]; simp [Op.operands]; exact ⟨p.1, by simpa using hp⟩))
    unfold zqe at hz
    obtain ⟨zv, hzv, rfl⟩ := Option.map_eq_some_iff.1 hz
    obtain ⟨ie, hie, hz0⟩ := Option.bind_eq_some_iff.1 hzv
    have hk' : ie.size = k := by unfold zd1 at hk; rw [hie] at hk; simpa using hk
    subst hk'
    simp only [Bool.and_eq_true] at hsm
    have s1 := Nat.le_of_ble_eq_true hsm.1
    have s2 := Nat.le_of_ble_eq_true hsm.2
    have hzR : All2 (Ce.R (env X S2.hp τ w)) (((List.range (len * ie.size)).map (fun i => zv.cells[i % zv.cells.size]!)).map .v) ((Array.range (len * ie.size)).map (zv.cells[· % zv.cells.size]!)).toList := by
      have : ((Array.range (len * ie.size)).map (zv.cells[· % zv.cells.size]!)).toList = (List.range (len * ie.size)).map (fun i => zv.cells[i % zv.cells.size]!) := by simp
      rw [this]
      exact All2.of_map (R := Ce.R _) Ce.v (fun _ => rfl) _
    obtain ⟨cur, hf', hcR⟩ := zk6 (E := env X S2.hp τ w) hone _ l _ _ cs _ hR hzR hc
    have hxs := ztt cs xs _ hx hcR
    have hlen : cur.size = len * ie.size := by
      have h1 := All2.length _ _ hcR
      have : ∀ (ps : List (Nat × Cm)) (pl : Nat → Option (Nat × Nat)) (cs cs' : List Ce), zj1 pl cs ps = some cs' → cs'.length = cs.length := by
        intro ps pl
        induction ps with
        | nil => intro cs cs' h; simp only [zj1, Option.some.injEq] at h; rw [h]
        | cons p ps ih =>
          intro cs cs' h
          obtain ⟨i, m⟩ := p
          simp only [zj1] at h
          split at h
          · cases h
          · rename_i off size _
            cases hq : (Nat.beq m.cells.length size && Nat.ble (off + m.cells.length) cs.length && m.cells.all okC) with
            | false => rw [hq] at h; cases h
            | true => rw [hq] at h; rw [ih _ _ h, ziz]
      have h2 := this _ _ _ _ hc
      simp at h1 h2; omega
    have hrun := run_buildSlice w t el len (parts.map fun p => (p.1, a.eval p.2)) cur ie zv hu hie hz0 (by omega) (by omega) (by simpa using hf')
    refine ⟨cur, len, by simp only [execOp, ho, hrun, Sem.run_bind, Result.andThen_ok, Sem.run_pure], fun base hb => ?_⟩
    rw [← hxs]
    have hi : 1 ≤ ie.size := by
      rcases Nat.eq_zero_or_pos ie.size with h | h
      · rw [h, Nat.mul_zero] at s2; omega
      · exact h
    have : len ≤ len * ie.size := Nat.le_mul_of_pos_right _ hi
    exact World.ownsRow_lit w cur len hb (by unfold maxLen; omega) hlen
theorem zld {t el k b : Nat} {parts : Array (Nat × Operand)} (ho : o.op = .buildSlice t 0 parts) (hp : parts = #[]) (hd : o.dst = some b) (hw : zam ops S o = true) (hf : S.hp b = .fresh) (hu : P.underlying t = some (.slice el)) (hk : zd1 P el = some k) :
    za4 P ops X o S ⟨.m (.c (.o b)), [(b, .live (.row el k 0 []))], []⟩ :=
  ze2 hw hf fun S2 τ a w h hone => by
    subst hp
    refine ⟨#[], 0, ?_, fun base hb => World.ownsRow_lit w #[] 0 hb (by unfold maxLen; omega) (by simp)⟩
    simp [execOp, ho, Instr.buildSlice, run_underlying hu, zde hk, Instr.fill, newRow, Array.range_zero']
theorem zrw {t el k b n : Nat} {x y : Operand} {kl kc : IntKind} {i : TypeInfo} {z : Value} {xs : List Value} (ho : o.op = .makeSlice t x y) (hd : o.dst = some b) (hw : zam ops S o = true) (hf : S.hp b = .fresh) (hx : S.ev x = .m (.c (.v (.int kl n)))) (hy : S.ev y = .m (.c (.v (.int kc n))))
    (hu : P.underlying t = some (.slice el)) (hi : P.info? el = some i) (hz : i.zero = some z) (hk : i.size = k) (hbytes : (i.bytes : Int) * n ≤ 281474976710656) (h63 : n ≤ maxLen) (hxs : (madeCells z.cells (n * k)).toList = xs) :
    za4 P ops X o S ⟨.m (.c (.o b)), [(b, .live (.row el k n xs))], []⟩ :=
  ze2 hw hf fun S2 τ a w h hone => by
    have q1 := h x (by rw [ho]; simp [Op.operands])
    have q2 := h y (by rw [ho]; simp [Op.operands])
    rw [hx] at q1; rw [hy] at q2
    have q1 : a.eval x = .int kl n := q1
    have q2 : a.eval y = .int kc n := q2
    have h63' : (n : Int) ≤ 9223372036854775807 := by unfold maxLen at h63; omega
    have hr := run_make (P := P) w t el i z hu hi hz kl kc n n (by omega) (Int.le_refl _) hbytes h63'
    subst hk; subst hxs
    simp only [Int.toNat_natCast] at hr
    refine ⟨madeCells z.cells (n * i.size), n, by simp only [execOp, ho, q1, q2, hr, Sem.run_bind, Result.andThen_ok, Sem.run_pure], fun base hb => World.ownsRow_lit w _ n hb h63 (by rw [size_madeCells])⟩
theorem ztu {w : World} {base e k n : Nat} {xs : List Value} {v : Value} (h : w.ownsRow base e k v n xs) : occ v = v.ownBlock := by
  rcases h.2 with ⟨rfl, _⟩ | ⟨g, cap, cur, rfl, _⟩ <;> rfl
theorem SimT.app {τ : Nat → Value} {a : Act} {w w' : World} (h : SimT X S τ a w) {b b' e k n n' : Nat} {xs xs' : List Value} (hb : S.hp b = .live (.row e k n xs)) (hf : S.hp b' = .fresh) {v : Value} (hg : w.grownBy w' (τ b).ownBlock)
    (hv : w'.ownsRow X.base e k v n' xs') (hat : v.ownBlock = (τ b).ownBlock ∨ v.ownBlock = some w.heap.size) {d : Option Tmp} {rd : List Rd} :
    SimT X (S.app d ⟨.m (.c (.o b')), [(b', .live (.row e k n' xs')), (b, .dead)], rd⟩) (zch τ b' v) (a.put d v) w' := by
  have hne : ∀ i, S.hp i ≠ .fresh → i ≠ b' := fun i hi e => hi (e ▸ hf)
  have hbb : b ≠ b' := hne b (by rw [hb]; intro e; cases e)
  have hup : ∀ i, upd [(b', Hs.live (.row e k n' xs')), (b, .dead)] S.hp i = if i = b' then .live (.row e k n' xs') else if i = b then .dead else S.hp i := fun i => by
    simp only [upd]
    by_cases e1 : i = b'
    · subst e1; simp [Nat.beq_refl, zwe]
    · simp only [za8 e1, cond, if_neg e1]
      by_cases e2 : i = b
      · subst e2; simp [Nat.beq_refl, zwe]
      · simp [za8 e2, e2]
  have hal : ∀ i, zcd (upd [(b', Hs.live (.row e k n' xs')), (b, .dead)] S.hp) i → i = b' ∨ (i ≠ b' ∧ i ≠ b ∧ zcd S.hp i) := fun i ⟨k', hi⟩ => by
    rw [hup] at hi
    by_cases e1 : i = b'
    · exact .inl e1
    · rw [if_neg e1] at hi
      by_cases e2 : i = b
      · rw [if_pos e2] at hi; cases hi
      · rw [if_neg e2] at hi; exact .inr ⟨e1, e2, k', hi⟩
  have hrow : w.ownsRow X.base e k (τ b) n xs := h.hp b _ hb
  have hov := ztu hv
  have hob := ztu hrow
  have hsome : ∀ g, occ v = some g → occ (τ b) = some g ∨ g = w.heap.size := fun g hg' => by
    rw [hov] at hg'
    rcases hat with e | e
    · rw [e] at hg'; exact .inl (by rw [hob]; exact hg')
    · rw [e] at hg'; exact .inr (Option.some.inj hg').symm
  have hle : (env X S.hp τ w).le (env X (upd [(b', Hs.live (.row e k n' xs')), (b, .dead)] S.hp) (zch τ b' v) w') := by
    refine ⟨fun i hi => ⟨?_, ?_⟩, fun g' hg' ha => ⟨ha.1, fun i hi => ?_⟩, hg.size, fun g' o' hg' ha => ?_⟩
    · show upd _ _ i ≠ _
      rw [hup, if_neg (hne i hi)]
      split
      · intro e; cases e
      · exact hi
    · show zch τ b' v i = τ i; unfold zch; rw [if_neg (hne i hi)]
    · show occ (zch τ b' v i) ≠ some g'
      have hg'' : g' < w.heap.size := hg'
      unfold zch
      rcases hal i hi with e | ⟨e, _, hi⟩
      · rw [if_pos e]; intro e'
        rcases hsome g' e' with e2 | e2
        · exact ha.2 b ⟨_, hb⟩ e2
        · omega
      · rw [if_neg e]; exact ha.2 i hi
    · refine World.cell?_of_block (hg.block g' hg' fun e => ha.2 b ⟨_, hb⟩ ?_)
      show occ (τ b) = some g'
      rw [hob]; exact e.symm
  have hlt := World.ownsRow.lt hv
  have hbel : Kept X.K X.W0 w' := h.bel.grown hg (fun g hk => Nat.lt_of_lt_of_le (X.hK g hk) h.bel.size) (fun g hg' => (h.own b g ⟨_, hb⟩ (by rw [hob]; exact hg')).1)
  refine h.turn (u := [(b', Hs.live (.row e k n' xs')), (b, .dead)]) hle hbel (fun i k' hi => ?_) (fun i g' hi ho => ?_) (fun i j g' hij hi hj ho => ?_) (fun i => ?_) ?_
  · rw [hup] at hi
    unfold zch
    by_cases e1 : i = b'
    · rw [if_pos e1] at hi ⊢; cases hi; exact hv
    · rw [if_neg e1] at hi ⊢
      by_cases e2 : i = b
      · rw [if_pos e2] at hi; cases hi
      · rw [if_neg e2] at hi
        have hk' := h.hp i k' hi
        have hfar : ∀ g', occ (τ i) = some g' → w'.heap[g']? = w.heap[g']? := fun g' hg' =>
          hg.block g' (h.own i g' ⟨_, hi⟩ hg').2 fun e => h.sep i b g' e2 ⟨_, hi⟩ ⟨_, hb⟩ hg' (by rw [hob]; exact e.symm)
        cases k' with
        | box cs' =>
          obtain ⟨g', vs', x1, ⟨T', x2⟩, x3⟩ := hk'
          exact ⟨g', vs', x1, ⟨T', (hfar g' (by rw [x1]; rfl)).trans x2⟩, All2.mono (zb5 hle) _ _ x3⟩
        | row e' k' n' xs' =>
          obtain ⟨x0, x1⟩ := hk'
          refine ⟨x0, ?_⟩
          rcases x1 with x1 | ⟨g', cap, cur, y1, y2, y3, y4⟩
          · exact .inl x1
          · exact .inr ⟨g', cap, cur, y1, y2, (hfar g' (by rw [y1]; rfl)).trans y3, y4⟩
  · unfold zch at ho
    rcases hal i hi with e | ⟨e, _, hi⟩
    · rw [if_pos e] at ho; exact ⟨(hsome g' ho).elim (fun x => (h.own b g' ⟨_, hb⟩ x).1) (fun x => h.notK (by omega)), (hlt g' (by rw [← hov]; exact ho)).2⟩
    · rw [if_neg e] at ho; exact ⟨(h.own i g' hi ho).1, Nat.lt_of_lt_of_le (h.own i g' hi ho).2 hg.size⟩
  · unfold zch at ho ⊢
    rcases hal i hi with e | ⟨e, e2, hi⟩
    · rw [if_pos e] at ho
      rcases hal j hj with e' | ⟨e', e3, hj⟩
      · exact absurd (e.trans e'.symm) hij
      · rw [if_neg e']; intro hj'
        rcases hsome g' ho with x | x
        · exact h.sep j b g' e3 hj ⟨_, hb⟩ hj' x
        · have := (h.own j g' hj hj').2; omega
    · rw [if_neg e] at ho
      rcases hal j hj with e' | ⟨e', e3, hj⟩
      · rw [if_pos e']; intro hj'
        rcases hsome g' hj' with x | x
        · exact h.sep i b g' e2 hi ⟨_, hb⟩ ho x
        · have := (h.own i g' hi ho).2; omega
      · rw [if_neg e']; exact h.sep i j g' hij hi hj ho
  · unfold zch; split
    · rcases hv.2 with ⟨rfl, _⟩ | ⟨g, cap, cur, rfl, _⟩ <;> rfl
    · exact h.one i
  · refine ⟨?_, ?_⟩
    · show upd _ _ b' ≠ _; rw [hup, if_pos rfl]; intro e; cases e
    · show _ = zch τ b' v b'; unfold zch; rw [if_pos rfl]
end Go.Proofs.YtomeaibdedaldaaGreatDoor.Ax
namespace Go.Proofs.YtomeaibdedaldaaGreatDoor.Ax
open Go.RowKit MemL RegR
variable {P : Program} {ops : Array Oper} {X : Cx} {o : Oper} {S : St}
def idC : Ce → List Nat
  | .p b _ | .o b | .rp b _ | .bs b _ _ => [b]
  | .cl _ bs => bs
  | _ => []
def idM : Cm → List Nat
  | .c x => idC x
  | .ag cs => cs.flatMap idC
theorem zeb {h h' : Nat → Hs} {c : Ce} (e : ∀ b ∈ idC c, h b = h' b) : zhc h c = zhc h' c := by
  cases c <;> simp only [zhc]
  case o b => rw [e b (by simp [idC])]
theorem zrx {h h' : Nat → Hs} {m : Cm} (e : ∀ b ∈ idM m, h b = h' b) : zj2 h m = zj2 h' m := by
  cases m with
  | c x => exact congrArg Cm.c (zeb e)
  | ag cs =>
    refine congrArg Cm.ag (List.map_congr_left fun c hc => zeb fun b hb => e b ?_)
    exact List.mem_flatMap.2 ⟨c, hc, hb⟩
theorem zf3 {w : World} {base t ty el : Nat} {i : TypeInfo} {z : Value} {k : Nat} (ht : P.underlying t = some (.slice el)) (hi : P.info? el = some i) (hz : i.zero = some z) (hk : i.size = k) (hzs : z.cells.size = k) (hk0 : 0 < k)
    {v : Value} {n : Nat} {xs : List Value} (hown : w.ownsRow base el k v n xs) {u : Value} {m : Nat} {ys : List Value} (hu : Sl w u m k ys) (h1 : ∀ y ∈ ys, y.oneCell' = true) (h63 : n + m ≤ maxLen) (hbytes : (n + m) * i.bytes ≤ 140737488355328) (hbase : base ≤ w.heap.size) :
    ∃ v' w', (Builtin.append_ #[t, t] ty #[v, u]).run P w = .ok v' w' ∧ w'.ownsRow base el k v' (n + m) (xs ++ ys) ∧ w.grownBy w' v.ownBlock ∧ (v'.ownBlock = v.ownBlock ∨ v'.ownBlock = some w.heap.size) := by
  obtain ⟨hl, hs⟩ := hu
  rcases hs with ⟨rfl, rfl⟩ | ⟨b, off, cap, rfl, hb, h2, h3, h4⟩
  · have : ys = [] := List.eq_nil_of_length_eq_zero (by simpa using hl)
    subst this
    refine ⟨v, w, run_append_owned_none w base t ty el i k ht hi v n xs hown, by simpa using hown, ⟨rfl, rfl, rfl, Nat.le_refl _, fun _ _ _ => rfl⟩, .inl rfl⟩
  · obtain ⟨v', w', r1, r2, r3, _, r5⟩ := run_append_own_at (P := P) w base t ty el i z k i.bytes ht hi hz hk rfl hzs hk0 v n xs hown ⟨b, off, none⟩ m cap ys hl (fun j y hy => by
      have hj : j < m * k := by rw [← hl]; exact (List.getElem?_eq_some_iff.1 hy).1
      rw [Addr.add_mid, h4 j hj]; exact hy) h1 h63 hbytes hbase
    exact ⟨v', w', r1, r2, r3, r5⟩
theorem zbl {t el k b b' n m : Nat} {x y : Operand} {xs ys : List Value} {c : Ce} {i : TypeInfo} {z : Value} (ho : o.op = .call { callee := .builtin .append, args := #[x, y], argTypes := #[t, t] }) (hd : o.dst = some b') (hw : zam ops S o = true) (hf : S.hp b' = .fresh)
    (hx : S.ev x = .m (.c (.o b))) (hb : S.hp b = .live (.row el k n xs)) (hy : S.ev y = .m (.c c)) (hc : zhc S.hp c = .s m k ys) (ht : P.underlying t = some (.slice el)) (hi : P.info? el = some i) (hz : i.zero = some z) (hk : (Nat.beq i.size k && Nat.beq z.cells.size k && Nat.blt 0 k && Nat.ble i.bytes 4096) = true)
    (h1 : ys.all (·.oneCell') = true) (hle0 : n + m ≤ 30000000000) : za4 P ops X o S ⟨.m (.c (.o b')), [(b', .live (.row el k (n + m) (xs ++ ys))), (b, .dead)], (idC c).map .all⟩ := fun S2 a w h1' h2 h3 ⟨τ, hS⟩ => by
  refine .inl ⟨zbu hw h1' h3 hS, ?_⟩
  simp only [Bool.and_eq_true] at hk
  obtain ⟨⟨⟨k1, k2⟩, k3⟩, k4⟩ := hk
  have k4 := Nat.le_of_ble_eq_true k4
  have k1 := Nat.eq_of_beq_eq_true k1
  have k2 := Nat.eq_of_beq_eq_true k2
  have k3 : 0 < k := Nat.le_of_ble_eq_true k3
  have get : ∀ z ∈ o.op.operands, (S.ev z).R (env X S2.hp τ w) (a.eval z) := fun z hz => by rw [← zb7 h1' hz]; exact hS.ev z (fun t e => h3 t (.inl (zbv (e ▸ hz))))
  have q1 := get x (by rw [ho]; simp [Op.operands, Call.operands])
  have q2 := get y (by rw [ho]; simp [Op.operands, Call.operands])
  rw [hx] at q1; rw [hy] at q2
  obtain ⟨_, q1⟩ := q1
  have q1 : a.eval x = τ b := q1
  have q2 := zi2 hS c (a.eval y) q2
  rw [show zhc S2.hp c = zhc S.hp c from zeb (fun b hb => h2 (.all b) (by simp [Ef.foot, hb])), hc] at q2
  have q2 : Sl w (a.eval y) m k ys := q2.1
  have hb2 : S2.hp b = .live (.row el k n xs) := Eq.trans (h2 (.all b) (by simp [Ef.foot, ze0])) hb
  have hf2 : S2.hp b' = .fresh := Eq.trans (h2 (.all b') (by simp [Ef.foot, ze0])) hf
  have hr : w.ownsRow X.base el k (τ b) n xs := hS.hp b _ hb2
  have hle : (n + m) * (i.bytes + 1) ≤ 140737488355328 := Nat.le_trans (Nat.mul_le_mul hle0 (show i.bytes + 1 ≤ 4097 by omega)) (by decide)
  have e1 : (n + m) * i.bytes ≤ (n + m) * (i.bytes + 1) := Nat.mul_le_mul_left _ (by omega)
  have e2 : n + m ≤ (n + m) * (i.bytes + 1) := Nat.le_mul_of_pos_right _ (by omega)
  obtain ⟨v', w', r1, r2, r3, r4⟩ := zf3 (P := P) (ty := o.type) ht hi hz k1 k2 k3 hr q2 (by simpa using h1) (by unfold maxLen; omega) (by omega) hS.bsz
  have hrun : (execOp a.eval o).run P w = .ok (.value v') w' := by simp [execOp, ho, resolve, invoke, builtin, q1, r1]
  rw [hrun]
  exact ⟨_, hS.app hb2 hf2 r3 r2 r4⟩
end Go.Proofs.YtomeaibdedaldaaGreatDoor.Ax
namespace Go.Proofs.YtomeaibdedaldaaGreatDoor.Ax
open Go.RowKit MemL RegR
variable {P : Program} {ops : Array Oper} {X : Cx} {o : Oper} {S : St} {Q : Exit → St → Prop}
def Sub (X : Cx) (S S' : St) : Prop := ∀ a w, Sim X S a w → Sim X S' a w
theorem zci {c : Code} {S' : St} (h : Sub X S S') (k : Aw P X c Q S') : Aw P X c Q S := fun a w hs => k a w (h a w hs)
def look {α : Type} (d : α) : List (Nat × α) → Nat → α
  | [], _ => d
  | p :: r, t => cond (Nat.beq t p.1) p.2 (look d r t)
def St.of (ts : List (Nat × AV)) (bs : List (Nat × Hs)) : St := ⟨look (.m (.c .any)) ts, look .fresh bs⟩
def EqT (S : St) : List (Nat × AV) → Prop
  | [] => True
  | p :: r => S.tm p.1 = p.2 ∧ EqT S r
def EqB (S : St) : List (Nat × Hs) → Prop
  | [] => True
  | p :: r => S.hp p.1 = p.2 ∧ EqB S r
def idV : AV → List Nat
  | .m m => idM m
  | .tu l => l.flatMap idM
def idK : Hs → List Nat
  | .live (.box cs) => cs.flatMap idC
  | _ => []
def zn9 (b : Nat) : List (Nat × Hs) → Bool
  | [] => false
  | p :: r => cond (Nat.beq b p.1) (match p.2 with | .fresh => false | _ => true) (zn9 b r)
theorem zgp : ∀ (bs : List (Nat × Hs)) (b : Nat), zn9 b bs = true → look .fresh bs b ≠ .fresh
  | [], b, h => by cases h
  | p :: r, b, h => by
    simp only [zn9] at h
    simp only [look]
    cases e : Nat.beq b p.1 with
    | true => rw [e] at h; simp only [cond] at h ⊢; intro e'; rw [e'] at h; cases h
    | false => rw [e] at h; simp only [cond] at h ⊢; exact zgp r b h
theorem zou {bs : List (Nat × Hs)} (h : EqB S bs) : ∀ b, look .fresh bs b = .fresh ∨ look .fresh bs b = S.hp b := by
  induction bs with
  | nil => exact fun b => .inl rfl
  | cons p r ih =>
    intro b
    simp only [look]
    cases e : Nat.beq b p.1 with
    | true => exact .inr (by rw [Nat.eq_of_beq_eq_true e]; exact h.1.symm)
    | false => exact ih h.2 b
theorem zzv {ts : List (Nat × AV)} (h : EqT S ts) : ∀ t, look (.m (.c .any)) ts t = .m (.c .any) ∨ ∃ x, (t, x) ∈ ts ∧ look (.m (.c .any)) ts t = x ∧ S.tm t = x := by
  induction ts with
  | nil => exact fun t => .inl rfl
  | cons p r ih =>
    intro t
    simp only [look]
    cases e : Nat.beq t p.1 with
    | true =>
      have e' := Nat.eq_of_beq_eq_true e
      exact .inr ⟨p.2, by rw [e']; simp, rfl, by rw [e']; exact h.1⟩
    | false =>
      rcases ih h.2 t with k | ⟨x, k1, k2, k3⟩
      · exact .inl k
      · exact .inr ⟨x, List.mem_cons_of_mem _ k1, k2, k3⟩
theorem ztv {E F : En} (hU : ∀ b, F.U b → True) (hτ : F.τ = E.τ) (hw : F.w = E.w) (hA : ∀ g, E.A g → F.A g) : ∀ (c : Ce) (v : Value), (∀ b ∈ idC c, F.U b) → c.R E v → c.R F v
  | .v x, v, _, h => h
  | .s n k xs, v, _, ⟨h1, h2⟩ => ⟨by rw [hw]; exact h1, fun a l c e => hA _ (h2 a l c e)⟩
  | .q xs, v, _, ⟨g, o', h1, h2, h3, h4⟩ => ⟨g, o', h1, by rw [hw]; exact h2, hA g h3, by rw [hw]; exact h4⟩
  | .any, _, _, _ => trivial
  | .f n k xs, v, _, ⟨h1, h2, h3⟩ => ⟨by rw [hw]; exact h1, fun a l c e => hA _ (h2 a l c e), h3⟩
  | .bs b _ _, v, hb, ⟨_, g, h1, h2⟩ => ⟨hb b (by simp [idC]), g, by rw [hτ]; exact h1, h2⟩
  | .cl fi bs, v, hb, ⟨h1, h2⟩ => ⟨by rw [hτ]; exact h1, fun b hb' => hb b hb'⟩
  | .p b _, v, hb, ⟨_, g, h1, h2⟩ => ⟨hb b (by simp [idC]), g, by rw [hτ]; exact h1, h2⟩
  | .o b, v, hb, ⟨_, h1⟩ => ⟨hb b (by simp [idC]), by rw [hτ]; exact h1⟩
  | .rp b _, v, hb, ⟨_, g, l, c, h1, h2⟩ => ⟨hb b (by simp [idC]), g, l, c, by rw [hτ]; exact h1, h2⟩
theorem zov {E F : En} (hτ : F.τ = E.τ) (hw : F.w = E.w) (hA : ∀ g, E.A g → F.A g) : ∀ (cs : List Ce) (vs : List Value), (∀ b ∈ cs.flatMap idC, F.U b) → All2 (Ce.R E) cs vs → All2 (Ce.R F) cs vs
  | [], [], _, _ => trivial
  | c :: cs, v :: vs, h, k => ⟨ztv (fun _ _ => trivial) hτ hw hA c v (fun b hb => h b (by simp [hb])) k.1, zov hτ hw hA cs vs (fun b hb => h b (by rw [List.flatMap_cons]; exact List.mem_append_right _ hb)) k.2⟩
  | [], _ :: _, _, k => k.elim
  | _ :: _, [], _, k => k.elim
theorem ztw {E F : En} (hτ : F.τ = E.τ) (hw : F.w = E.w) (hA : ∀ g, E.A g → F.A g) : ∀ (c : Cm) (v : Value), (∀ b ∈ idM c, F.U b) → c.R E v → c.R F v
  | .c x, v, h, k => ztv (fun _ _ => trivial) hτ hw hA x v h k
  | .ag cs, v, h, ⟨vs, e, k⟩ => ⟨vs, e, zov hτ hw hA cs _ h k⟩
theorem zqf {E F : En} (hτ : F.τ = E.τ) (hw : F.w = E.w) (hA : ∀ g, E.A g → F.A g) : ∀ (cs : List Cm) (vs : List Value), (∀ b ∈ cs.flatMap idM, F.U b) → All2 (Cm.R E) cs vs → All2 (Cm.R F) cs vs
  | [], [], _, _ => trivial
  | c :: cs, v :: vs, h, k => ⟨ztw hτ hw hA c v (fun b hb => h b (by rw [List.flatMap_cons]; exact List.mem_append_left _ hb)) k.1, zqf hτ hw hA cs vs (fun b hb => h b (by rw [List.flatMap_cons]; exact List.mem_append_right _ hb)) k.2⟩
  | [], _ :: _, _, k => k.elim
  | _ :: _, [], _, k => k.elim
theorem zzw {E F : En} (hτ : F.τ = E.τ) (hw : F.w = E.w) (hA : ∀ g, E.A g → F.A g) : ∀ (c : AV) (v : Value), (∀ b ∈ idV c, F.U b) → c.R E v → c.R F v
  | .m m, v, h, k => ztw hτ hw hA m v h k
  | .tu l, v, h, ⟨vs, e, k⟩ => ⟨vs, e, zqf hτ hw hA l _ h k⟩
theorem zax (ts : List (Nat × AV)) (bs : List (Nat × Hs)) (h1 : EqT S ts) (h2 : EqB S bs) (h3 : (ts.all (fun p => (idV p.2).all (zn9 · bs)) && bs.all (fun p => (idK p.2).all (zn9 · bs))) = true) (h4 : (X.pn.all fun p => zn9 p.1 bs) = true := by rfl) : Sub X S (St.of ts bs) := fun a w ⟨τ, h⟩ => by
  simp only [Bool.and_eq_true, List.all_eq_true] at h3
  obtain ⟨c1, c2⟩ := h3
  have hal : ∀ b, zcd (look .fresh bs) b → zcd S.hp b := fun b ⟨k, hk⟩ => by
    rcases zou h2 b with e | e
    · rw [e] at hk; cases hk
    · exact ⟨k, by rw [← e]; exact hk⟩
  have hA : ∀ g, alw X S.hp τ g → alw X (look .fresh bs) τ g := fun g hg => ⟨hg.1, fun b hb => hg.2 b (hal b hb)⟩
  refine ⟨τ, h.size, h.nodef, h.bel, fun t ht => ?_, fun b k hk => ?_, fun b g hb => h.own b g (hal b hb), fun b b' g hne hb hb' => h.sep b b' g hne (hal b hb) (hal b' hb'), h.one, fun p hp => ⟨zgp bs p.1 (List.all_eq_true.1 h4 p hp), (h.pin p hp).2⟩⟩
  · show AV.R _ (look (.m (.c .any)) ts t) _
    rcases zzv h1 t with e | ⟨x, m1, m2, m3⟩
    · rw [e]; trivial
    · rw [m2]
      have := h.tm t ht
      rw [m3] at this
      exact zzw (E := env X S.hp τ w) (F := env X (look .fresh bs) τ w) rfl rfl hA x _ (fun b hb => zgp bs b (c1 (t, x) m1 b hb)) this
  · have hk : look .fresh bs b = .live k := hk
    have hin : ∃ p ∈ bs, p.2 = .live k := by
      have : ∀ (l : List (Nat × Hs)), look .fresh l b = .live k → ∃ p ∈ l, p.2 = .live k := by
        intro l
        induction l with
        | nil => intro e; cases e
        | cons p r ih =>
          intro e
          simp only [look] at e
          cases q : Nat.beq b p.1 with
          | true => rw [q] at e; exact ⟨p, by simp, e⟩
          | false => rw [q] at e; obtain ⟨p', h', e'⟩ := ih e; exact ⟨p', List.mem_cons_of_mem _ h', e'⟩
      exact this bs hk
    obtain ⟨p, hp, hpk⟩ := hin
    have hk0 : S.hp b = .live k := by
      rcases zou h2 b with e | e
      · rw [e] at hk; cases hk
      · rw [← e]; exact hk
    have := h.hp b k hk0
    cases k with
    | box cs =>
      obtain ⟨g, vs, e1, e2, e3⟩ := this
      refine ⟨g, vs, e1, e2, zov (E := env X S.hp τ w) (F := env X (look .fresh bs) τ w) rfl rfl hA cs _ (fun i hi => ?_) e3⟩
      have := c2 p hp
      rw [hpk] at this
      exact zgp bs i (this i hi)
    | row e k n xs => exact this
theorem za3 {α : Type} {c : Code} (F : α → Prop) (H : α → St) (μ : α → Nat) (p : α) (hp : F p) (h0 : Sub X S (H p)) (round : ∀ p, F p → Aw P X c (zk9 (fun S' => ∃ p', F p' ∧ μ p' < μ p ∧ Sub X S' (H p')) Q) (H p)) (hr : X.rd = none := by rfl) : Aw P X (.loop c) Q S :=
  zci h0 (zzu (fun n S => ∃ p, F p ∧ μ p = n ∧ Sub X S (H p)) (μ p) ⟨p, hp, rfl, fun _ _ h => h⟩ (fun n S ⟨p, hp, hn, hs⟩ => zci hs (zot (round p hp) fun e S' q => by
    cases e with
    | normal => obtain ⟨p', h1, h2, h3⟩ := q; exact ⟨μ p', by omega, p', h1, rfl, h3⟩
    | _ => exact q)) hr)
theorem zcs {G : World → Prop} {k : FuncId} {args : List Cm} {r : AV} (hcl : (zek r && args.all zcq) = true) (h : ∀ (A : Nat → Prop) (W : World) (vs : Array Value), G W → All2 (Cm.R (en0 A W)) args vs.toList →
    Calls P k vs W (fun e w' => ∃ v, e = .returned v ∧ Below W.heap.size W w' ∧ r.R (en0 (fun g => A g ∨ W.heap.size ≤ g) w') v)) : zbn P G k args r := by
  simp only [Bool.and_eq_true] at hcl
  exact ⟨hcl.1, hcl.2, h⟩
theorem sbq {X : Cx} {S : St} (ts : List (Nat × AV)) (bs : List (Nat × Hs)) (h1 : EqT S ts := by repeat (first | exact trivial | refine ⟨by kernel_rfl, ?_⟩)) (h2 : EqB S bs := by repeat (first | exact trivial | refine ⟨by kernel_rfl, ?_⟩)) (h3 : (ts.all (fun p => (idV p.2).all (zn9 · bs)) && bs.all (fun p => (idK p.2).all (zn9 · bs))) = true := by kernel_rfl) (h4 : (X.pn.all fun p => zn9 p.1 bs) = true := by rfl) : Sub X S (St.of ts bs) := zax ts bs h1 h2 h3 h4
end Go.Proofs.YtomeaibdedaldaaGreatDoor.Ax
namespace Go.Proofs.YtomeaibdedaldaaGreatDoor.Ax
open Go.RowKit MemL RegR
variable {P : Program} {G : World → Prop}
def cmV : Value → Cm
  | .agg cs => .ag (cs.toList.map .v)
  | v => .c (.v v)
def avV : Value → AV
  | .tuple vs => .tu (vs.toList.map cmV)
  | v => .m (cmV v)
theorem z2x (E : En) : ∀ v : Value, (cmV v).R E v
  | .agg cs => ⟨cs, rfl, All2.of_map (R := Ce.R E) Ce.v (fun _ => rfl) _⟩
  | .bool _ | .int _ _ | .float _ _ | .complex _ _ _ | .string _ | .pointer _ | .slice _ _ _ | .map _ | .chan _ | .func _ _ _ | .nilFunc | .iface _ _ | .nilIface | .tuple _ => rfl
theorem z42 (E : En) : ∀ v : Value, (avV v).R E v
  | .tuple vs => ⟨vs, rfl, All2.of_map (R := Cm.R E) cmV (z2x E) _⟩
  | .agg cs => z2x E (.agg cs)
  | .bool _ | .int _ _ | .float _ _ | .complex _ _ _ | .string _ | .pointer _ | .slice _ _ _ | .map _ | .chan _ | .func _ _ _ | .nilFunc | .iface _ _ | .nilIface => rfl
theorem zzx {E : En} : ∀ (cs vs : List Value), All2 (Ce.R E) (cs.map .v) vs → vs = cs
  | [], [], _ => rfl
  | c :: cs, v :: vs, h => by rw [zzx cs vs h.2, show v = c from h.1]
  | [], _ :: _, h => h.elim
  | _ :: _, [], h => h.elim
theorem z2y {E : En} : ∀ (v u : Value), (cmV v).R E u → u = v
  | .agg cs, u, ⟨vs, e, h⟩ => by rw [e]; have := zzx cs.toList vs.toList h; rw [show vs = cs from by rw [← Array.toList_inj]; exact this]
  | .bool _, u, h | .int _ _, u, h | .float _ _, u, h | .complex _ _ _, u, h | .string _, u, h | .pointer _, u, h | .slice _ _ _, u, h | .map _, u, h | .chan _, u, h | .func _ _ _, u, h | .nilFunc, u, h | .iface _ _, u, h | .nilIface, u, h | .tuple _, u, h => h
theorem ztx {E : En} : ∀ (cs vs : List Value), All2 (Cm.R E) (cs.map cmV) vs → vs = cs
  | [], [], _ => rfl
  | c :: cs, v :: vs, h => by rw [ztx cs vs h.2, z2y c v h.1]
  | [], _ :: _, h => h.elim
  | _ :: _, [], h => h.elim
theorem zwq (cs : List Value) : (cs.map Ce.v).all zdj = true := by rw [List.all_map]; exact List.all_eq_true.2 fun _ _ => rfl
theorem zhd : ∀ v : Value, zcq (cmV v) = true
  | .agg cs => zwq _
  | .bool _ | .int _ _ | .float _ _ | .complex _ _ _ | .string _ | .pointer _ | .slice _ _ _ | .map _ | .chan _ | .func _ _ _ | .nilFunc | .iface _ _ | .nilIface | .tuple _ => rfl
theorem zry : ∀ v : Value, zek (avV v) = true
  | .tuple vs => by show (vs.toList.map cmV).all zcq = true; rw [List.all_map]; exact List.all_eq_true.2 fun _ _ => zhd _
  | .agg cs => zhd (.agg cs)
  | .bool _ | .int _ _ | .float _ _ | .complex _ _ _ | .string _ | .pointer _ | .slice _ _ _ | .map _ | .chan _ | .func _ _ _ | .nilFunc | .iface _ _ | .nilIface => rfl
theorem za9 {k : FuncId} (args : Array Value) (r : Value) (h : ∀ W, G W → Calls P k args W (fun e w' => e = .returned r ∧ Below W.heap.size W w')) : zbn P G k (args.toList.map cmV) (avV r) :=
  ⟨zry r, by rw [List.all_map]; exact List.all_eq_true.2 fun _ _ => zhd _, fun A W vs hG hR => by
    have : vs = args := by rw [← Array.toList_inj]; exact ztx _ _ hR
    subst this
    exact (h W hG).mono fun e w' ⟨he, hb⟩ => ⟨r, he, hb, z42 _ r⟩⟩
theorem zqg {E : En} {xs : List Value} {v : Value} (h : Cm.R E (.ag (xs.map .v)) v) : v = .agg xs.toArray := by
  obtain ⟨vs, e, h⟩ := h
  rw [e, ← zzx xs vs.toList h]
theorem zzy {W w' : World} {A : Nat → Prop} {e k n : Nat} {xs : List Value} {v : Value} (h : w'.ownsRow W.heap.size e k v n xs) : Ce.R (en0 (fun g => A g ∨ W.heap.size ≤ g) w') (.s n k xs) v :=
  ⟨Sl.of_owns h, fun a l c e => .inr (by subst e; exact (World.ownsRow.lt h a.block rfl).1)⟩
theorem z2z {W w' : World} {A : Nat → Prop} {k n : Nat} {xs : List Value} {v : Value} (h : Ce.R (en0 A W) (.s n k xs) v) (hb : Below W.heap.size W w') : Ce.R (en0 (fun g => A g ∨ W.heap.size ≤ g) w') (.s n k xs) v :=
  zb5 (E := en0 A W) (F := en0 (fun g => A g ∨ W.heap.size ≤ g) w') ⟨fun _ h => h.elim, fun g _ hg => .inl hg, hb.size, fun g o hg _ => hb.cell (p := ⟨g, o, none⟩) hg⟩ _ _ h
end Go.Proofs.YtomeaibdedaldaaGreatDoor.Ax
namespace Go.Proofs.YtomeaibdedaldaaGreatDoor.Ax
open Go.RowKit MemL RegR
variable {P : Program} {ops : Array Oper} {X : Cx} {o : Oper} {S : St}
theorem ze3 {t g off : Nat} {x : Operand} {d : TypeDesc} {v : Value} (ho : o.op = .load t x) (hw : zam ops S o = true) (hx : S.ev x = .m (.c (.v (.pointer (some ⟨g, off, none⟩))))) (hu : P.underlying t = some d) (hd : d.isRow = false) (hc : ∀ w, Kept X.K X.W0 w → w.cell? ⟨g, off, none⟩ = some v) : za4 P ops X o S ⟨.m (.c (.v v)), [], []⟩ :=
  za2 [] hw fun S2 τ a w h hrd hS => by
    have h1 := h x (by rw [ho]; simp [Op.operands])
    rw [hx] at h1
    have e : a.eval x = .pointer (some ⟨g, off, none⟩) := h1
    refine ⟨v, ?_, rfl⟩
    have hl : (loadVar t ⟨g, off, none⟩).run P w = .ok v w := by
      unfold loadVar
      rw [Sem.run_bind, ziv hu w]
      simp [hd, hc w hS.bel]
    simp [execOp, ho, e, Instr.loadAt, Instr.sureAddr, hl]
theorem zi3 {t el k n c g off : Nat} {x y : Operand} {kk : IntKind} {i : Int} (ho : o.op = .indexAddr t x y) (hw : zam ops S o = true) (hx : S.ev x = .m (.c (.v (.slice (some ⟨g, off, none⟩) n c)))) (hy : S.ev y = .m (.c (.v (.int kk i))))
    (hu : P.underlying t = some (.slice el)) (hk : zd1 P el = some k) (h0 : 0 ≤ i) (h1 : i < n) : za4 P ops X o S ⟨.m (.c (.v (.pointer (some ⟨g, off + i.toNat * k, none⟩)))), [], []⟩ :=
  za2 [] hw fun S2 τ a w h _ _ => by
    have q1 := h x (by rw [ho]; simp [Op.operands])
    have q2 := h y (by rw [ho]; simp [Op.operands])
    rw [hx] at q1; rw [hy] at q2
    have q1 : a.eval x = .slice (some ⟨g, off, none⟩) n c := q1
    have q2 : a.eval y = .int kk i := q2
    exact ⟨_, by simp [execOp, ho, q1, q2, zdb hu hk h0 h1], rfl⟩
theorem zm3 {t len el k : Nat} {x y : Operand} {cs : List Ce} {m : Cm} {kk : IntKind} {i : Int} (ho : o.op = .index t x y) (hw : zam ops S o = true) (hx : S.ev x = .m (.ag cs)) (hy : S.ev y = .m (.c (.v (.int kk i))))
    (hu : P.underlying t = some (.array len el)) (hk : zd1 P el = some k) (h0 : 0 ≤ i) (h1 : i < len) (hm : ze1 P el cs (i.toNat * k) = some m) : za4 P ops X o S ⟨.m m, [], []⟩ :=
  za2 [] hw fun S2 τ a w h _ _ => by
    have q1 := h x (by rw [ho]; simp [Op.operands])
    have q2 := h y (by rw [ho]; simp [Op.operands])
    rw [hx] at q1; rw [hy] at q2
    obtain ⟨vs, e, hR⟩ := q1
    have q2 : a.eval y = .int kk i := q2
    obtain ⟨v, hv, hr⟩ := zmq hm hR w
    refine ⟨v, ?_, hr⟩
    simp [execOp, ho, e, q2, Instr.index, asIntOf, run_underlying hu, h0, h1, zde hk, hv]
theorem zow (tb : Tb) {t len el : Nat} {x y : Operand} {cs : List Ce} {kk : IntKind} {i : Int} (ho : o.op = .index t x y) (hw : zam ops S o = true) (hx : S.ev x = .m (.ag cs)) (hy : S.ev y = .m (.c (.v (.int kk i))))
    (hu : P.underlying t = some (.array len el)) (ht : zwf P tb el = true) (h0 : 0 ≤ i) (h1 : i < len) (hin : inT tb el (i.toNat * tb.sz el) cs.length = true) : za4 P ops X o S ⟨.m (zit tb el cs (i.toNat * tb.sz el)), [], []⟩ :=
  zm3 ho hw hx hy hu (by
    unfold zwf at ht
    split at ht
    · rename_i d i hd hi
      simp only [Bool.and_eq_true] at ht
      unfold zd1; rw [hi, Option.map_some, Nat.eq_of_beq_eq_true ht.2]
    · cases ht) h0 h1 (ziu ht (zwl hin))
theorem zhu {k : FuncId} {t : Tmp} {xs : Array Operand} {ts : Array TypeId} {l : List Cm} {r : AV} (ho : o.op = .call { callee := .value (.tmp t), args := xs, argTypes := ts }) (hw : zam ops S o = true) (hf : S.tm t = .m (.c (.v (.func (.func k) #[] #[])))) (hk : zdq P k = true) (hc : zbn P X.G k l r) (hl : zk8 S xs.toList = some l) : za4 P ops X o S ⟨r, [], []⟩ := fun S2 a w h1 h2 h3 ⟨τ, hS⟩ => by
  refine .inl ⟨zbu hw h1 h3 hS, ?_⟩
  have hmt : Operand.tmp t ∈ o.op.operands := by rw [ho]; simp [Op.operands, Call.operands]
  have hfv : a.eval (.tmp t) = .func (.func k) #[] #[] := by
    have := hS.ev (.tmp t) (fun t' e => h3 t' (.inl (zbv (e ▸ hmt))))
    rw [zb7 h1 hmt] at this
    rw [show S.ev (.tmp t) = S.tm t from rfl, hf] at this
    exact this
  have hrun : (execOp a.eval o).run P w = .ok (.enter k (xs.map a.eval)) w := by
    unfold zdq at hk
    split at hk
    · rename_i fn hfn
      simp only [Bool.and_eq_true, Bool.not_eq_true'] at hk
      obtain ⟨k1, k2⟩ := hk
      have k2 : ¬ fn.name = "runtime.NumGoroutine" := by simpa using k2
      have k3 : ¬ fn.body = none := by intro e; rw [e] at k1; cases k1
      simp [execOp, ho, resolve, hfv, Deferred.ofValue, invoke, callFunc, hfn, k2, k3]
    · cases hk
  rw [hrun]
  obtain ⟨c1, c2, hc⟩ := hc
  have hR := zhb (S := S) (E := env X S2.hp τ w) (a := a) xs.toList l hl (fun x hx => by
    have hm : x ∈ o.op.operands := by rw [ho]; simp [Op.operands, Call.operands]; exact .inr (by simpa using hx)
    rw [← zb7 h1 hm]; exact hS.ev x (fun t e => h3 t (.inl (zbv (e ▸ hm)))))
  have hR' := zdv (F := en0 (alw X S2.hp τ) w) (E := env X S2.hp τ w) rfl (fun _ _ h => h) _ _ c2 hR
  refine (hc (alw X S2.hp τ) w (xs.map a.eval) (X.hG w hS.bel) (by simpa using hR')).mono ?_
  rintro e w' ⟨v, rfl, hb, hr⟩
  refine ⟨v, rfl, τ, hS.below hb ?_⟩
  refine zk7 (E := en0 _ w') (F := env X S2.hp τ w') rfl (fun g _ hg => ?_) _ _ c1 hr
  rcases hg with hg | hg
  · exact hg
  · exact ⟨.inr (Nat.le_trans hS.bsz hg), fun b hb' he => by have := (hS.own b g hb' he).2; omega⟩
theorem zcj {t t' : TypeId} {x y : Operand} {us vs : List Value} {r : Bool} (hE : ∀ w, (Op.equalIn 10000 t (.agg us.toArray) (.agg vs.toArray)).run P w = .ok r w) (hm : P.eqGuardType P.depth t = false) (ho : o.op = .binOp .eql t x y t') (hw : zam ops S o = true) (hx : S.ev x = .m (.ag (us.map .v))) (hy : S.ev y = .m (.ag (vs.map .v))) : za4 P ops X o S ⟨.m (.c (.v (.bool r))), [], []⟩ :=
  zmt ho hw hx hy (fun w => run_eqGuard_agg w _ _ _ _ _ _ hm) fun w => by rw [run_eql_struct, hE]; rfl
theorem zdf {t t' : TypeId} {x y : Operand} {us vs : List Value} {r : Bool} (hE : ∀ w, (Op.equalIn 10000 t (.agg us.toArray) (.agg vs.toArray)).run P w = .ok r w) (hm : P.eqGuardType P.depth t = false) (ho : o.op = .binOp .neq t x y t') (hw : zam ops S o = true) (hx : S.ev x = .m (.ag (us.map .v))) (hy : S.ev y = .m (.ag (vs.map .v))) : za4 P ops X o S ⟨.m (.c (.v (.bool (!r)))), [], []⟩ :=
  zmt ho hw hx hy (fun w => run_eqGuard_agg w _ _ _ _ _ _ hm) fun w => by rw [run_neq_struct, hE]; rfl
theorem zc5 {t el k b b' m : Nat} {x y : Operand} {ys : List Value} {c : Ce} {i : TypeInfo} {z : Value} (ho : o.op = .call { callee := .builtin .append, args := #[x, y], argTypes := #[t, t] }) (hd : o.dst = some b') (hw : zam ops S o = true) (hf : S.hp b' = .fresh)
    (hx : S.ev x = .m (.c (.o b))) (hb : S.hp b = .live (.row el k 0 [])) (hy : S.ev y = .m (.c c)) (hc : zhc S.hp c = .s m k ys) (ht : P.underlying t = some (.slice el)) (hi : P.info? el = some i) (hz : i.zero = some z) (hk : (Nat.beq i.size k && Nat.beq z.cells.size k && Nat.blt 0 k && Nat.ble i.bytes 4096) = true)
    (h1 : ys.all (·.oneCell') = true) (hle0 : m ≤ 30000000000) : za4 P ops X o S ⟨.m (.c (.o b')), [(b', .live (.row el k m ys)), (b, .dead)], (idC c).map .all⟩ := by
  have := zbl (X := X) ho hd hw hf hx hb hy hc ht hi hz hk h1 (by omega)
  simpa only [Nat.zero_add, List.nil_append] using this
def zwr : List Value → Nat → List Value → List Value
  | xs, _, [] => xs
  | xs, o, v :: r => zwr (xs.set o v) (o + 1) r
theorem zi4 : ∀ (vs : List Value) (o : Nat) (xs : List Value), (zwr xs o vs).length = xs.length
  | [], _, _ => rfl
  | v :: r, o, xs => by simp only [zwr]; rw [zi4]; simp
theorem zj9 : ∀ (vs : List Value) (o N : Nat) (cur : Array Value), (zd0 cur o vs).toList.take N = zwr (cur.toList.take N) o vs
  | [], _, _, _ => rfl
  | v :: r, o, N, cur => by
    simp only [zd0, zwr]
    rw [zj9 r (o + 1) N, Array.toList_setIfInBounds, List.take_set]
theorem zj3 {t : TypeId} {x y : Operand} {b off e k n sz : Nat} {xs ys : List Value} {m : Cm} (ho : o.op = .store t x y) (hw : zam ops S o = true) (hx : S.ev x = .m (.c (.rp b off))) (hb : S.hp b = .live (.row e k n xs)) (hy : S.ev y = .m m) (hv : vals m.cells = some ys) (hk : zd1 P t = some sz) (hsz : Nat.beq ys.length sz = true)
    (h1 : ys.all (·.oneCell') = true) (hle : off + ys.length ≤ n * k) (hd : o.dst = none) : za4 P ops X o S ⟨.m (.c (.v undef)), [(b, .live (.row e k n (zwr xs off ys)))], []⟩ := fun S2 a w h1' h2 h3 ⟨τ, hS⟩ => by
  refine .inl ⟨zbu hw h1' h3 hS, ?_⟩
  have hsz := Nat.eq_of_beq_eq_true hsz
  have get : ∀ z ∈ o.op.operands, (S.ev z).R (env X S2.hp τ w) (a.eval z) := fun z hz => by rw [← zb7 h1' hz]; exact hS.ev z (fun t e => h3 t (.inl (zbv (e ▸ hz))))
  have q1 := get x (by rw [ho]; simp [Op.operands])
  have q2 := get y (by rw [ho]; simp [Op.operands])
  rw [hx] at q1; rw [hy] at q2
  obtain ⟨u0, g, l, cap, e1, e2⟩ := q1
  have e1 : τ b = .slice (some ⟨g, 0, none⟩) l cap := e1
  have hb2 : S2.hp b = .live (.row e k n xs) := Eq.trans (h2 (.all b) (by simp [Ef.foot, ze0])) hb
  have hr : w.ownsRow X.base e k (τ b) n xs := hS.hp b _ hb2
  have hcs : (a.eval y).cells.toList = ys := by
    have hone : ∀ v ∈ ys, v.oneCell' = true := by simpa using h1
    cases m with
    | c c =>
      cases c with
      | v z =>
        simp [Cm.cells, vals] at hv
        subst hv
        have q2 : a.eval y = z := q2
        rw [q2]
        have := hone z (by simp)
        cases z <;> first | rfl | (simp [Value.oneCell'] at this)
      | s _ _ _ => simp [Cm.cells, vals] at hv
      | q _ => simp [Cm.cells, vals] at hv
      | p _ _ => simp [Cm.cells, vals] at hv
      | o _ => simp [Cm.cells, vals] at hv
      | rp _ _ => simp [Cm.cells, vals] at hv
      | any => simp [Cm.cells, vals] at hv
      | f _ _ _ => simp [Cm.cells, vals] at hv
      | bs _ _ _ => simp [Cm.cells, vals] at hv
      | cl _ _ => simp [Cm.cells, vals] at hv
    | ag cs =>
      obtain ⟨vs, e, q⟩ := q2
      rw [e]
      exact ztt cs ys vs.toList hv q
  rcases hr with ⟨hl0, hr2⟩
  rcases hr2 with ⟨e0, _⟩ | ⟨g', cap', cur, y1, y2, y3, y4, y5, y6, y7⟩
  · rw [e1] at e0; cases e0
  rw [e1] at y1
  simp only [Value.slice.injEq, Option.some.injEq, Addr.mk.injEq, and_true, true_and] at y1
  obtain ⟨rfl, rfl, rfl⟩ := y1
  have hfit : off + ys.length ≤ cur.size := by rw [y6]; exact Nat.le_trans hle (Nat.mul_le_mul_right _ y4)
  have hcell : ∀ j, j < ys.length → (w.cell? ⟨g, off + 0 + j, none⟩).isSome = true := fun j hj => by
    have : w.cell? ⟨g, off + 0 + j, none⟩ = cur[off + 0 + j]? := Bx.cell ⟨e, y3⟩ _
    rw [this, Array.getElem?_eq_getElem (by omega)]; rfl
  have hst := run_storeCells_cells (P := P) g off ys 0 w hcell (fun j _ => Bx.free ⟨e, y3⟩ _) (by simpa using h1)
  simp only [Nat.add_zero] at hst
  have hrun : (execOp a.eval o).run P w = .ok .skip (w.setCells g off ys) := by
    have hs := zde hk w
    have hz : (a.eval y).cells.size = sz := by rw [← Array.length_toList, hcs]; exact hsz
    simp [execOp, ho, e2, Instr.storeAt, Instr.sureAddr, storeVar, hs, hz, hcs, hst]
  rw [hrun]
  have hheap := zbr (w := w) (g := g) (T := e) ys off w cur y3
  have hfar : ∀ i, i ≠ g → (w.setCells g off ys).heap[i]? = w.heap[i]? := fun i hi => zcg hi _ _ _
  have hown := hS.own b g ⟨_, hb2⟩ (by rw [e1]; rfl)
  have hbel : Kept X.K X.W0 (w.setCells g off ys) := zg8 hown.1 _ _ _ hS.bel
  have hszw : (w.setCells g off ys).heap.size = w.heap.size := by
    have : ∀ (l : List Value) (o : Nat) (w : World), (w.setCells g o l).heap.size = w.heap.size := by
      intro l; induction l with
      | nil => intro o w; rfl
      | cons v l ih => intro o w; simp only [World.setCells]; rw [ih]; simp [World.setCell]
    exact this _ _ _
  generalize w.setCells g off ys = w' at *
  have hal : ∀ i, zcd (upd [(b, Hs.live (.row e k l (zwr xs off ys)))] S2.hp) i → zcd S2.hp i := fun i ⟨k', hi⟩ => by
    rw [zc4] at hi
    by_cases e : i = b
    · subst e; exact ⟨_, hb2⟩
    · rw [if_neg e] at hi; exact ⟨k', hi⟩
  have hle' : (env X S2.hp τ w).le (env X (upd [(b, Hs.live (.row e k l (zwr xs off ys)))] S2.hp) τ w') := by
    refine ⟨fun i hi => ⟨?_, rfl⟩, fun g' hg' ha => ⟨ha.1, fun i hi => ha.2 i (hal i hi)⟩, by show w.heap.size ≤ w'.heap.size; omega, fun g' o' hg' ha => ?_⟩
    · show upd _ _ i ≠ _; rw [zc4]; split
      · intro e; cases e
      · exact hi
    · have hne : g' ≠ g := fun e => ha.2 b ⟨_, hb2⟩ (by rw [e1, e]; rfl)
      exact World.cell?_of_block (hfar g' hne)
  refine ⟨τ, hS.turn (u := [(b, Hs.live (.row e k l (zwr xs off ys)))]) hle' hbel (fun i k' hi => ?_) (fun i g' hi ho' => ?_) (fun i j g' hij hi hj ho' => hS.sep i j g' hij (hal i hi) (hal j hj) ho') hS.one rfl⟩
  · rw [zc4] at hi
    by_cases ei : i = b
    · subst ei
      rw [if_pos rfl] at hi; cases hi
      refine ⟨by rw [zi4]; exact hl0, .inr ⟨g, cap, _, e1, y2, hheap, y4, y5, by rw [zcb]; exact y6, ?_⟩⟩
      rw [zj9, y7]
    · rw [if_neg ei] at hi
      have hk' := hS.hp i k' hi
      have hocc : ∀ g', occ (τ i) = some g' → g' ≠ g := fun g' hg' e' => hS.sep b i g (Ne.symm ei) ⟨_, hb2⟩ ⟨_, hi⟩ (by rw [e1]; rfl) (by rw [hg', e'])
      cases k' with
      | box cs' =>
        obtain ⟨g', vs', x1, ⟨T', x2⟩, x3⟩ := hk'
        exact ⟨g', vs', x1, ⟨T', (hfar g' (hocc g' (by rw [x1]; rfl))).trans x2⟩, All2.mono (zb5 hle') _ _ x3⟩
      | row e' k' n' xs' =>
        obtain ⟨x0, x1⟩ := hk'
        refine ⟨x0, ?_⟩
        rcases x1 with x1 | ⟨g', cap, cur, y1, y2, y3, y4⟩
        · exact .inl x1
        · exact .inr ⟨g', cap, cur, y1, y2, (hfar g' (hocc g' (by rw [y1]; rfl))).trans y3, y4⟩
  · have := hS.own i g' (hal i hi) ho'; exact ⟨this.1, by omega⟩
end Go.Proofs.YtomeaibdedaldaaGreatDoor.Ax
namespace Go.Proofs.YtomeaibdedaldaaGreatDoor.Ax
open Go.RowKit MemL RegR
variable {P : Program} {X : Cx} {S : St} {Q : Exit → St → Prop}
def frC (b : Nat) (s : Ce) : Ce → Ce
  | .o i => cond (Nat.beq i b) s (.o i)
  | c => c
def frM (b : Nat) (s : Ce) : Cm → Cm
  | .c x => .c (frC b s x)
  | .ag cs => .ag (cs.map (frC b s))
def frV (b : Nat) (s : Ce) : AV → AV
  | .m m => .m (frM b s m)
  | .tu l => .tu (l.map (frM b s))
def frH (b : Nat) (s : Ce) : Hs → Hs
  | .live (.box cs) => .live (.box (cs.map (frC b s)))
  | h => h
def St.fr (S : St) (b n k : Nat) (xs : List Value) : St := ⟨fun t => frV b (.s n k xs) (S.tm t), fun i => cond (Nat.beq i b) .dead (frH b (.s n k xs) (S.hp i))⟩
theorem zga {α : Type} {R R' : α → Value → Prop} (f : α → α) (h : ∀ c v, R c v → R' (f c) v) : ∀ (cs : List α) (vs : List Value), All2 R cs vs → All2 R' (cs.map f) vs
  | [], [], _ => trivial
  | c :: cs, v :: vs, k => ⟨h c v k.1, zga f h cs vs k.2⟩
  | [], _ :: _, k => k.elim
  | _ :: _, [], k => k.elim
theorem zyo {b e n k : Nat} {xs : List Value} (hb : S.hp b = .live (.row e k n xs)) : Sub X S (S.fr b n k xs) := fun a w ⟨τ, h⟩ => by
  have hal : ∀ i, zcd (S.fr b n k xs).hp i → i ≠ b ∧ zcd S.hp i := fun i ⟨q, hq⟩ => by
    have hq : cond (Nat.beq i b) Hs.dead (frH b (.s n k xs) (S.hp i)) = .live q := hq
    by_cases e : i = b
    · subst e; rw [Nat.beq_refl] at hq; cases hq
    · rw [za8 e] at hq
      refine ⟨e, ?_⟩
      simp only [cond] at hq
      cases hh : S.hp i with
      | live q' => exact ⟨q', hh⟩
      | fresh => rw [hh] at hq; cases hq
      | dead => rw [hh] at hq; cases hq
      | patch _ _ => rw [hh] at hq; cases hq
  have hle : (env X S.hp τ w).le (env X (S.fr b n k xs).hp τ w) := by
    refine ⟨fun i hi => ⟨?_, rfl⟩, fun g _ ha => ⟨ha.1, fun i hi => ha.2 i (hal i hi).2⟩, Nat.le_refl _, fun _ _ _ _ => rfl⟩
    show cond (Nat.beq i b) Hs.dead (frH b (.s n k xs) (S.hp i)) ≠ .fresh
    have hi : S.hp i ≠ .fresh := hi
    cases Nat.beq i b with
    | true => intro e; cases e
    | false =>
      simp only [cond]
      cases hh : S.hp i with
      | live q => cases q <;> (intro e; cases e)
      | fresh => exact absurd hh hi
      | dead => intro e; cases e
      | patch _ _ => intro e; cases e
  have hrow : w.ownsRow X.base e k (τ b) n xs := h.hp b _ hb
  have hs : Ce.R (env X (S.fr b n k xs).hp τ w) (.s n k xs) (τ b) := by
    refine ⟨Sl.of_owns hrow, fun ad l c e' => ⟨.inr ?_, fun i hi ho => ?_⟩⟩
    · exact (World.ownsRow.lt hrow ad.block (by rw [e']; rfl)).1
    · obtain ⟨hne, hi⟩ := hal i hi
      exact h.sep i b ad.block hne hi ⟨_, hb⟩ ho (by rw [e']; rfl)
  have hC : ∀ (c : Ce) (v : Value), c.R (env X S.hp τ w) v → (frC b (.s n k xs) c).R (env X (S.fr b n k xs).hp τ w) v := fun c v hR => by
    cases c with
    | o i =>
      simp only [frC]
      by_cases ei : i = b
      · subst ei; rw [Nat.beq_refl]
        have : v = τ i := hR.2
        rw [this]; exact hs
      · rw [za8 ei]; exact zb5 hle _ _ hR
    | _ => exact zb5 hle _ _ hR
  have hM : ∀ (c : Cm) (v : Value), c.R (env X S.hp τ w) v → (frM b (.s n k xs) c).R (env X (S.fr b n k xs).hp τ w) v := fun c v hR => by
    cases c with
    | c x => exact hC x v hR
    | ag cs => obtain ⟨vs, e', q⟩ := hR; exact ⟨vs, e', zga _ hC _ _ q⟩
  refine ⟨τ, h.size, h.nodef, h.bel, fun t ht => ?_, fun i q hq => ?_, fun i g hi => h.own i g (hal i hi).2, fun i j g hne hi hj => h.sep i j g hne (hal i hi).2 (hal j hj).2, h.one, fun p hp => ⟨(hle.U _ (h.pin p hp).1).1, (h.pin p hp).2⟩⟩
  · have := h.tm t ht
    show (frV b (.s n k xs) (S.tm t)).R _ _
    cases hv : S.tm t with
    | m m => rw [hv] at this; exact hM m _ this
    | tu l => rw [hv] at this; obtain ⟨vs, e', q⟩ := this; exact ⟨vs, e', zga _ hM _ _ q⟩
  · obtain ⟨hne, q', hq'⟩ := hal i ⟨q, hq⟩
    have hq : cond (Nat.beq i b) Hs.dead (frH b (.s n k xs) (S.hp i)) = .live q := hq
    rw [za8 hne, hq'] at hq
    have hk := h.hp i q' hq'
    cases q' with
    | box cs =>
      simp only [cond, frH] at hq; cases hq
      obtain ⟨g, vs, x1, x2, x3⟩ := hk
      exact ⟨g, vs, x1, x2, zga _ hC _ _ x3⟩
    | row _ _ _ _ => simp only [cond, frH] at hq; cases hq; exact hk
theorem Sub.trans {S S' S'' : St} (h : Sub X S S') (k : Sub X S' S'') : Sub X S S'' := fun a w hs => k a w (h a w hs)
variable {ops : Array Oper} {o : Oper}
theorem zm4 {t el k n : Nat} {x hi mx : Operand} {xs : List Value} {kk kk' : IntKind} (ho : o.op = .slice t x none (some hi) (some mx)) (hw : zam ops S o = true) (hx : S.ev x = .m (.c (.s n k xs))) (hh : S.ev hi = .m (.c (.v (.int kk n)))) (hm : S.ev mx = .m (.c (.v (.int kk' n))))
    (hu : P.underlying t = some (.slice el)) (hk : zd1 P el = some k) : za4 P ops X o S ⟨.m (.c (.f n k xs)), [], []⟩ :=
  za2 [] hw fun S2 τ a w h _ _ => by
    have q1 := h x (by rw [ho]; simp [Op.operands])
    have q2 := h hi (by rw [ho]; simp [Op.operands])
    have q3 := h mx (by rw [ho]; simp [Op.operands])
    rw [hx] at q1; rw [hh] at q2; rw [hm] at q3
    have q2 : a.eval hi = .int kk n := q2
    have q3 : a.eval mx = .int kk' n := q3
    obtain ⟨⟨hl, hs⟩, hA⟩ := q1
    have run : ∀ (ad : Option Addr) (cap : Nat), n ≤ cap → (ad = none → n = 0) → (Instr.sliceAt t (.slice ad n cap) none (some (a.eval hi)) (some (a.eval mx))).run P w = .ok (.slice ad n n) w := fun ad cap hc hz => by
      have r1 := ztd (P := P) (kk := kk') (i := n) (y := cap) (c := .slice3Acap) (by omega) (by omega) w
      have r2 := ztd (P := P) (kk := kk) (i := n) (y := n) (c := .slice3B) (by omega) (by omega) w
      simp only [Int.toNat_natCast] at r1 r2
      have hadd : (if n = 0 then ad else ad.map (·.add (0 * k))) = ad := by
        cases ad with
        | none => simp
        | some ad => simp [Addr.add]
      simp [Instr.sliceAt, Instr.slice, Instr.sliceBounds, run_underlying hu, zde hk, q2, q3, r1, r2]
      cases ad with
      | none => simp
      | some ad => simp [Addr.add]
    rcases hs with ⟨e, e0⟩ | ⟨b, off, cap, e, hb, hc1, hc2, hc⟩
    · subst e0
      exact ⟨_, by simp only [execOp, ho, e, Option.map_some, Option.map_none, run none 0 (Nat.le_refl _) (fun _ => rfl), Sem.run_bind, Result.andThen_ok, Sem.run_pure], ⟨hl, .inl ⟨rfl, rfl⟩⟩, (fun _ _ _ e => by cases e), (fun _ _ _ e => by cases e; rfl)⟩
    · refine ⟨_, by simp only [execOp, ho, e, Option.map_some, Option.map_none, run (some ⟨b, off, none⟩) cap hc1 (fun e => by cases e), Sem.run_bind, Result.andThen_ok, Sem.run_pure], ⟨hl, .inr ⟨b, off, n, rfl, hb, Nat.le_refl _, by omega, hc⟩⟩, (fun ad l c e' => ?_), (fun _ _ _ e => by cases e; rfl)⟩
      cases e'; exact hA _ _ _ e
theorem zox {t el k n m : Nat} {x y : Operand} {xs ys : List Value} {c : Ce} {i : TypeInfo} {z : Value} (ho : o.op = .call { callee := .builtin .append, args := #[x, y], argTypes := #[t, t] }) (hw : zam ops S o = true)
    (hx : S.ev x = .m (.c (.f n k xs))) (hy : S.ev y = .m (.c c)) (hc : zhc S.hp c = .s m k ys) (ht : P.underlying t = some (.slice el)) (hi : P.info? el = some i) (hz : i.zero = some z) (hk : (Nat.beq i.size k && Nat.beq z.cells.size k && Nat.blt 0 k && Nat.ble i.bytes 4096) = true)
    (h1 : ys.all (·.oneCell') = true) (hle0 : n + m ≤ 30000000000) : za4 P ops X o S ⟨.m (.c (.s (n + m) k (xs ++ ys))), [], (idC c).map .all⟩ := fun S2 a w h1' h2 h3 ⟨τ, hS⟩ => by
  refine .inl ⟨zbu hw h1' h3 hS, ?_⟩
  simp only [Bool.and_eq_true] at hk
  obtain ⟨⟨⟨k1, k2⟩, k3⟩, k4⟩ := hk
  have k4 := Nat.le_of_ble_eq_true k4
  have k1 := Nat.eq_of_beq_eq_true k1
  have k2 := Nat.eq_of_beq_eq_true k2
  have k3 : 0 < k := Nat.le_of_ble_eq_true k3
  have get : ∀ z ∈ o.op.operands, (S.ev z).R (env X S2.hp τ w) (a.eval z) := fun z hz => by rw [← zb7 h1' hz]; exact hS.ev z (fun t e => h3 t (.inl (zbv (e ▸ hz))))
  have q1 := get x (by rw [ho]; simp [Op.operands, Call.operands])
  have q2 := get y (by rw [ho]; simp [Op.operands, Call.operands])
  rw [hx] at q1; rw [hy] at q2
  have q2 := zi2 hS c (a.eval y) q2
  rw [show zhc S2.hp c = zhc S.hp c from zeb (fun b hb => h2 (.all b) (by simp [Ef.foot, hb])), hc] at q2
  have q2 : Sl w (a.eval y) m k ys := q2.1
  obtain ⟨q1, qA, qc⟩ := q1
  have q1 : Sl w (a.eval x) n k xs := q1
  have hle : (n + m) * (i.bytes + 1) ≤ 140737488355328 := Nat.le_trans (Nat.mul_le_mul hle0 (show i.bytes + 1 ≤ 4097 by omega)) (by decide)
  have e1 : (n + m) * i.bytes ≤ (n + m) * (i.bytes + 1) := Nat.mul_le_mul_left _ (by omega)
  have e2 : n + m ≤ (n + m) * (i.bytes + 1) := Nat.le_mul_of_pos_right _ (by omega)
  have done : ∀ v' w', (Builtin.append_ #[t, t] o.type #[a.eval x, a.eval y]).run P w = .ok v' w' → Below w.heap.size w w' → Sl w' v' (n + m) k (xs ++ ys) → (∀ ad l cc, v' = .slice (some ad) l cc → (env X S2.hp τ w').A ad.block) →
      Out P (fun v w'_1 => Sim X (S2.app o.dst ⟨.m (.c (.s (n + m) k (xs ++ ys))), [], (idC c).map .all⟩) (a.put o.dst v) w'_1) ((execOp a.eval o).run P w) := fun v' w' hr hb hs hA => by
    have hrun : (execOp a.eval o).run P w = .ok (.value v') w' := by simp [execOp, ho, resolve, invoke, builtin, hr]
    rw [hrun]
    exact ⟨τ, hS.below hb ⟨hs, hA⟩⟩
  have fresh : ∀ v' w', w'.ownsRow w.heap.size el k v' (n + m) (xs ++ ys) → ∀ ad l cc, v' = .slice (some ad) l cc → (env X S2.hp τ w').A ad.block := fun v' w' hr ad l cc e => by
    subst e
    have := (World.ownsRow.lt hr ad.block rfl).1
    exact ⟨.inr (Nat.le_trans hS.bsz this), fun b hb he => by have := (hS.own b _ hb he).2; omega⟩
  rcases q1 with ⟨l1, s1⟩
  rcases s1 with ⟨ex, en⟩ | ⟨b, off, cap, ex, hb, c1, c2, c3⟩
  · subst en
    have hxs : xs = [] := List.eq_nil_of_length_eq_zero (by simpa using l1)
    subst hxs
    obtain ⟨v', w', r1, r2, r3, r4⟩ := zf3 (P := P) (ty := o.type) ht hi hz k1 k2 k3 (World.ownsRow_nil w w.heap.size el k) q2 (by simpa using h1) (by unfold maxLen; omega) (by omega) (Nat.le_refl _)
    rw [← ex] at r1
    exact done v' w' r1 ((Below.refl _ _).grown r3 (Nat.le_refl _) (fun k hk => by simp [Value.ownBlock] at hk)) (Sl.of_owns r2) (fresh v' w' r2)
  · have hcap : cap = n := qc _ _ _ ex
    subst hcap
    rcases q2 with ⟨l2, s2⟩
    have same : m = 0 → ys = [] → (Builtin.append_ #[t, t] o.type #[a.eval x, a.eval y]).run P w = .ok (a.eval x) w → Out P (fun v w'_1 => Sim X (S2.app o.dst ⟨.m (.c (.s (cap + m) k (xs ++ ys))), [], (idC c).map .all⟩) (a.put o.dst v) w'_1) ((execOp a.eval o).run P w) := fun hm hys hr => by
      subst hm; subst hys
      refine done _ w hr (Below.refl _ _) ?_ (fun ad l cc e => qA ad l cc e)
      rw [List.append_nil, Nat.add_zero]
      exact ⟨l1, .inr ⟨b, off, cap, ex, hb, c1, c2, c3⟩⟩
    rcases s2 with ⟨ey, em⟩ | ⟨b', off', cap', ey, hb', d1, d2, d3⟩
    · refine same em (List.eq_nil_of_length_eq_zero (by rw [l2, em]; simp)) ?_
      rw [ex, ey]
      simp [Builtin.append_, run_underlying ht, sizeOf, typeInfo, hi, Builtin.lenOf, Builtin.firstCells, storeCells]
    · rcases Nat.eq_zero_or_pos m with hm | hm
      · refine same hm (List.eq_nil_of_length_eq_zero (by rw [l2, hm]; simp)) ?_
        rw [ex, ey, hm]
        have := run_append_room_cells (P := P) w t o.type el i ht hi b off cap cap ⟨b', off', none⟩ 0 cap' [] (by simp) (by simp) (by simp) (by omega) (by simp) (by simp)
        simpa [World.setCells] using this
      · obtain ⟨v', w', r1, r2, r3⟩ := run_append_arg_grows (P := P) w t o.type el i z k i.bytes ht hi hz k1 rfl k2 k3 ⟨b, off, none⟩ cap cap xs l1 (fun j u hj => by
            have hj' : j < cap * k := by rw [← l1]; exact (List.getElem?_eq_some_iff.1 hj).1
            rw [Addr.add_mid, c3 j hj']; exact hj) ⟨b', off', none⟩ m cap' ys l2 (fun j u hj => by
            have hj' : j < m * k := by rw [← l2]; exact (List.getElem?_eq_some_iff.1 hj).1
            rw [Addr.add_mid, d3 j hj']; exact hj) (by omega) (by unfold maxLen; omega) (by omega)
        rw [← ex, ← ey] at r1
        exact done v' w' r1 ((Below.refl _ _).grown r3 (Nat.le_refl _) (fun k hk => by cases hk)) (Sl.of_owns r2) (fresh v' w' r2)
end Go.Proofs.YtomeaibdedaldaaGreatDoor.Ax
namespace Go.Proofs.YtomeaibdedaldaaGreatDoor.Ax
open Go.RowKit MemL RegR
variable {P : Program} {ops : Array Oper} {X : Cx} {o : Oper} {S : St}
theorem ze4 {t el b : Nat} {x y : Operand} {c d : Ce} (ho : o.op = .buildSlice t 2 #[(0, x), (1, y)]) (hd : o.dst = some b) (hw : zam ops S o = true) (hf : S.hp b = .fresh) (hx : S.ev x = .m (.c c)) (hy : S.ev y = .m (.c d)) (hcd : (okC c && okC d) = true)
    (hu : P.underlying t = some (.slice el)) (hk : zd1 P el = some 1) (hz : (P.info? el).bind (·.zero) = some (.slice none 0 0)) : za4 P ops X o S ⟨.m (.c (.bs b 0 2)), [(b, .live (.box [c, d]))], []⟩ := fun S2 a w h1 h2 h3 ⟨τ, hS⟩ => by
  refine .inl ⟨zbu hw h1 h3 hS, ?_⟩
  have get : ∀ z ∈ o.op.operands, (S.ev z).R (env X S2.hp τ w) (a.eval z) := fun z hz => by rw [← zb7 h1 hz]; exact hS.ev z (fun t e => h3 t (.inl (zbv (e ▸ hz))))
  have q1 := get x (by rw [ho]; simp [Op.operands])
  have q2 := get y (by rw [ho]; simp [Op.operands])
  rw [hx] at q1; rw [hy] at q2
  simp only [Bool.and_eq_true] at hcd
  have o1 := zi0 c (a.eval x) hcd.1 q1 (fun b v' _ hv => by have := hS.one b; rw [← hv]; exact this)
  have o2 := zi0 d (a.eval y) hcd.2 q2 (fun b v' _ hv => by have := hS.one b; rw [← hv]; exact this)
  have cell : ∀ v : Value, v.oneCell' = true → v.cells = #[v] := fun v hv => by cases v <;> first | rfl | (simp [Value.oneCell'] at hv)
  obtain ⟨ie, hie, hz0⟩ := Option.bind_eq_some_iff.1 hz
  have hk' : ie.size = 1 := by unfold zd1 at hk; rw [hie] at hk; simpa using hk
  have hrun : (execOp a.eval o).run P w = .ok (.value (.slice (some ⟨w.heap.size, 0, none⟩) 2 2)) (w.alloc (.cells #[a.eval x, a.eval y] el)) := by
    have := run_buildSlice w t el 2 #[(0, a.eval x), (1, a.eval y)] #[a.eval x, a.eval y] ie (.slice none 0 0) hu hie hz0 (by omega) (by omega) (by
      have hr : (Array.range (2 * ie.size)).map ((Value.slice none 0 0).cells[· % (Value.slice none 0 0).cells.size]!) = #[.slice none 0 0, .slice none 0 0] := by rw [hk']; apply Array.ext'; simp [List.range_succ]; exact ⟨rfl, rfl⟩
      rw [hr]
      simp [Instr.fill, hk', cell _ o1, cell _ o2])
    simp only [execOp, ho, List.map_toArray, List.map_cons, List.map_nil, this, Sem.run_bind, Result.andThen_ok, Sem.run_pure]
  rw [hrun]
  have hf2 : S2.hp b = .fresh := Eq.trans (h2 (.all b) (by simp [Ef.foot, ze0])) hf
  refine ⟨_, hS.newb (k := .box [c, d]) hf2 ((Below.refl _ _).alloc (Nat.le_refl _) _) (v := .pointer (some ⟨w.heap.size, 0, none⟩)) (g := w.heap.size) rfl ⟨Nat.le_refl _, by rw [World.size_alloc]; omega⟩ rfl (fun E hE hw' => ⟨w.heap.size, #[a.eval x, a.eval y], rfl, by rw [hw']; exact Bx.new, zb5 hE _ _ q1, zb5 hE _ _ q2, trivial⟩) ?_⟩
  refine ⟨?_, w.heap.size, ?_, rfl⟩
  · show upd _ _ b ≠ _; rw [zc4, if_pos rfl]; intro e; cases e
  · show zch τ b _ b = _; unfold zch; rw [if_pos rfl]
theorem zhv {f b n1 n2 k el : Nat} {x : Operand} {ts : Array TypeId} {c d : Ce} {x1 x2 : List Value} (ho : o.op = .call { callee := .value (.func f), args := #[x], argTypes := ts }) (hw : zam ops S o = true) (hk : zdq P f = true) (hx : S.ev x = .m (.c (.bs b 0 2))) (hb : S.hp b = .live (.box [c, d])) (hc : zhc S.hp c = .s n1 k x1) (hd : zhc S.hp d = .s n2 k x2)
    (hcall : ∀ (W : World) (vb : Nat) (v1 v2 : Value), X.G W → Bx W vb #[v1, v2] → Sl W v1 n1 k x1 → Sl W v2 n2 k x2 → Calls P f #[.slice (some ⟨vb, 0, none⟩) 2 2] W fun e w' => ∃ v', e = .returned v' ∧ w'.ownsRow W.heap.size el k v' (n1 + n2) (x1 ++ x2) ∧ Below W.heap.size W w') :
    za4 P ops X o S ⟨.m (.c (.s (n1 + n2) k (x1 ++ x2))), [], (b :: (idC c ++ idC d)).map .all⟩ := fun S2 a w h1 h2 h3 ⟨τ, hS⟩ => by
  refine .inl ⟨zbu hw h1 h3 hS, ?_⟩
  rw [zh7 ho hk]
  have get : ∀ z ∈ o.op.operands, (S.ev z).R (env X S2.hp τ w) (a.eval z) := fun z hz => by rw [← zb7 h1 hz]; exact hS.ev z (fun t e => h3 t (.inl (zbv (e ▸ hz))))
  have q1 := get x (by rw [ho]; simp [Op.operands, Call.operands])
  rw [hx] at q1
  obtain ⟨_, g, e1, e2⟩ := q1
  have e1 : τ b = .pointer (some ⟨g, 0, none⟩) := e1
  have hb2 : S2.hp b = .live (.box [c, d]) := Eq.trans (h2 (.all b) (by simp [Ef.foot])) hb
  obtain ⟨g', vs, e3, hbx, hR⟩ := hS.hp b _ hb2
  rw [e1] at e3
  obtain rfl : g = g' := by simpa using e3
  obtain ⟨l⟩ := vs
  match l, hR with
  | [v1, v2], hR =>
    have s1 := zi2 hS c v1 hR.1
    have s2 := zi2 hS d v2 hR.2.1
    rw [show zhc S2.hp c = zhc S.hp c from zeb (fun i hi => h2 (.all i) (by simp [Ef.foot, hi])), hc] at s1
    rw [show zhc S2.hp d = zhc S.hp d from zeb (fun i hi => h2 (.all i) (by simp [Ef.foot, hi])), hd] at s2
    have := hcall w g v1 v2 (X.hG w hS.bel) hbx s1.1 s2.1
    simp only [List.map_toArray, List.map_cons, List.map_nil, e2]
    refine this.mono ?_
    rintro e w' ⟨v', rfl, hr, hbel⟩
    refine ⟨v', rfl, τ, hS.below hbel ⟨Sl.of_owns hr, fun ad l cc e => ?_⟩⟩
    subst e
    have := (World.ownsRow.lt hr ad.block rfl).1
    exact ⟨.inr (Nat.le_trans hS.bsz this), fun b hb he => by have := (hS.own b _ hb he).2; omega⟩
  | [], hR => exact hR.elim
  | [_], hR => exact hR.2.elim
  | _ :: _ :: _ :: _, hR => exact hR.2.2.elim
end Go.Proofs.YtomeaibdedaldaaGreatDoor.Ax
