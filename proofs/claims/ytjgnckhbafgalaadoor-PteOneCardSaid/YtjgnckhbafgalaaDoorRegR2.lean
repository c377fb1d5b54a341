/- The rule for regions that draw their order, with its closed look; how it is walked. -/
import Derived.Test.YtjgnckhbafgalaaDoorRegR
import Derived.Test.YtjgnckhbafgalaaDoorMemL
import Derived.Laws.Tables
namespace Go.Proofs.YtjgnckhbafgalaaDoor.RegR
open Go.RowKit Go.Proofs.YtjgnckhbafgalaaDoor.MemL
set_option linter.unusedVariables false
set_option linter.unusedSimpArgs false
/-- whom an operation waits for, as bits -/
def tabOf (md : Region.Mode) (ops : Array Oper) : Array Nat :=
  ops.foldl (init := #[]) fun acc o => acc.push (o.after.foldl (fun s e => if Region.binds md e then s ||| 2 ^ e.on ||| acc.getD e.on 0 else s) 0)
def ancOf (tab : Array Nat) (i j : Nat) : Bool := (tab.getD j 0).testBit i
def kindOf (ks : List Nat) (i : Nat) : Nat := ks.getD i 0
def relB (ops : Array Oper) (tab : Array Nat) (ks : List Nat) (i j : Nat) : Bool :=
  ancOf tab i j || ((match ops[i]?, ops[j]? with | some o, some p => o.apart ops p | _, _ => true) && (kindOf ks i == 0 || (kindOf ks i == 1 && kindOf ks j == 1)))
def pwB (r : Nat → Nat → Bool) : List Nat → Bool
  | [] => true
  | i :: s => s.all (fun j => r i j) && pwB r s
def distinct : List Nat → Bool
  | [] => true
  | i :: s => s.all (fun j => i != j) && distinct s
def chkB (md : Region.Mode) (ops : Array Oper) (tab : Array Nat) (ks s : List Nat) : Bool :=
  Region.noSelect ops &&
  ((List.range ops.size).all fun j => match ops[j]? with | some o => o.after.all (fun e => !Region.binds md e || decide (e.on < j)) | none => true) &&
  (decide (tab.size = ops.size) && (List.range ops.size).all fun j => match ops[j]? with | some o => tab.getD j 0 == o.after.foldl (fun s e => if Region.binds md e then s ||| 2 ^ e.on ||| tab.getD e.on 0 else s) 0 | none => true) &&
  (decide (s.length = ops.size) && s.all (fun k => decide (k < ops.size)) && (List.range ops.size).all (fun k => s.contains k) && distinct s) &&
  pwB (relB ops tab ks) s
theorem fold_bit (md : Region.Mode) (tab : Array Nat) (i : Nat) : ∀ (l : List Edge) (s : Nat), (l.foldl (fun s e => if Region.binds md e then s ||| 2 ^ e.on ||| tab.getD e.on 0 else s) s).testBit i = true →
    s.testBit i = true ∨ ∃ e ∈ l, Region.binds md e = true ∧ (e.on = i ∨ (tab.getD e.on 0).testBit i = true)
  | [], s, h => .inl h
  | e :: l, s, h => by
    simp only [List.foldl_cons] at h
    rcases fold_bit md tab i l _ h with h | ⟨e', he, hb, h⟩
    · split at h
      · rename_i hb
        simp only [Nat.testBit_or, Bool.or_eq_true] at h
        rcases h with (h | h) | h
        · exact .inl h
        · refine .inr ⟨e, by simp, hb, .inl ?_⟩
          rw [Nat.testBit_two_pow] at h; simpa using h
        · exact .inr ⟨e, by simp, hb, .inr h⟩
      · exact .inl h
    · exact .inr ⟨e', List.mem_cons_of_mem _ he, hb, h⟩
theorem pw_spec {r : Nat → Nat → Bool} {R : Nat → Nat → Prop} (h : ∀ i j, r i j = true → R i j) : ∀ (s : List Nat), pwB r s = true → s.Pairwise R
  | [], _ => .nil
  | i :: s, hp => by
    simp only [pwB, Bool.and_eq_true, List.all_eq_true] at hp
    exact .cons (fun j hj => h i j (hp.1 j hj)) (pw_spec h s hp.2)
theorem distinct_spec : ∀ (s : List Nat), distinct s = true → s.Nodup
  | [], _ => .nil
  | i :: s, h => by
    simp only [distinct, Bool.and_eq_true, List.all_eq_true] at h
    exact List.nodup_cons.2 ⟨fun hi => by have := h.1 i hi; simp at this, distinct_spec s h.2⟩
theorem rep_true {n k : Nat} (h : k < n) : (Array.replicate n false).getD k true = false := by
  simp [Array.getD_eq_getD_getElem?, Array.getElem?_replicate, h]
theorem rep_false (n k : Nat) : (Array.replicate n false).getD k false = false := by
  simp only [Array.getD_eq_getD_getElem?, Array.getElem?_replicate]; split <;> rfl
variable {P : Program}
/-- **THE RULE**: a region that draws its order, walked in an order that the prover picks -/
theorem region {Θ : Type} {id : Nat} {Q : Exit → Act → World → Prop} {a : Act} {w : World} {l : List Oper} (ks s : List Nat) (C : World → Prop) (va : Nat → Θ → Value) (RA : Nat → Θ → World → Prop)
    (hm : P.follows .mixedOrders = true) (hB : chkB .any l.toArray (tabOf .any l.toArray) ks s = true) (hC : Stab C) (hRA : ∀ i t, Stab (RA i t)) (hw : C w.drew)
    (h : Can C (kindOf ks) va RA P l.toArray (fun a w => Q .normal a w) s (fun _ => True) a) : (Code.region id l.toArray true).wp P Q a w := by
  simp only [chkB, Bool.and_eq_true] at hB
  obtain ⟨⟨⟨⟨b1, b2⟩, b3, b4⟩, ⟨⟨b5, b6⟩, b7⟩, b8⟩, b9⟩ := hB
  refine wp_region_any hm ?_
  have b5' : s.length = l.toArray.size := of_decide_eq_true b5
  have key := any_of_can (P := P) (ops := l.toArray) C (kindOf ks) va RA .any (ancOf (tabOf .any l.toArray)) (Q := fun a w => Q .normal a w) (Q' := Q) (fun _ _ h => h) (Region.noSelect_spec b1) hC hRA
    (fun j o ho e he hb => by
      have := List.all_eq_true.1 b2 j (by simpa using (Array.getElem?_eq_some_iff.1 ho).1)
      simp only [ho] at this
      have := Array.all_eq_true_iff_forall_mem.1 this e he
      simpa [hb] using this)
    (fun i j ha => by
      unfold ancOf at ha
      have hj : j < l.toArray.size := by
        rcases Nat.lt_or_ge j (tabOf .any l.toArray).size with h | h
        · rw [← of_decide_eq_true b3]; exact h
        · simp [Array.getElem?_eq_none h] at ha
      have ho := Array.getElem?_eq_getElem hj
      have := List.all_eq_true.1 b4 j (by simpa using hj)
      simp only [ho] at this
      rw [beq_iff_eq.1 this, ← Array.foldl_toList] at ha
      rcases fold_bit _ _ _ _ _ ha with h | ⟨e, he, hb, h⟩
      · simp at h
      · exact ⟨_, ho, e, by simpa using he, hb, h⟩)
    l.toArray.size s (Array.replicate l.toArray.size false) (fun _ => True) a w.drew b5'
    (pw_spec (fun i j hr => by
      unfold relB at hr
      simp only [Bool.or_eq_true, Bool.and_eq_true] at hr
      rcases hr with h | ⟨h1, h2⟩
      · exact .inl h
      · refine .inr ⟨fun o p ho hp => by simpa only [ho, hp] using h1, ?_⟩
        rcases h2 with h | ⟨h, h'⟩
        · exact .inl (beq_iff_eq.1 h)
        · exact .inr ⟨beq_iff_eq.1 h, beq_iff_eq.1 h'⟩) s b9)
    (distinct_spec s b8)
    (fun k => ⟨fun hk => by
        have := of_decide_eq_true (List.all_eq_true.1 b6 k hk)
        exact ⟨this, rep_true this⟩,
      fun hk => by
        have := List.all_eq_true.1 b7 k (by simpa using hk.1)
        simpa using this⟩)
    (by simp) (fun j o ho h => by rw [rep_false] at h; cases h)
    (fun _ _ _ _ => trivial) hw trivial h
  exact key
section
variable {ops : Array Oper} {Θ : Type} {C : World → Prop} {kind : Nat → Nat} {va : Nat → Θ → Value} {RA : Nat → Θ → World → Prop} {Q : Act → World → Prop} {i : Nat} {s : List Nat} {D : World → Prop} {a : Act}
/-- an operation of one value -/
theorem can0 (o : Oper) (ho : ops[i]? = some o) (hk : kind i = 0)
    (h : ∀ K : Act → Prop, (∀ a, Can C kind va RA P ops Q s D a → K a) → if Region.wanted o (yielded ops a.tmps) then ∃ v, (∀ w, C w → D w → o.quietAt P a (fun w'' => Below w.heap.size w w'') w v) ∧ K (a.put o.dst v) else K (a.put o.dst undef)) :
    Can C kind va RA P ops Q (i :: s) D a := by
  have := h _ (fun _ h => h)
  simp only [Can]
  refine ⟨o, ho, ?_⟩
  unfold Nx
  rw [hk]
  split at this
  · rename_i hw
    obtain ⟨v, h1, h2⟩ := this
    refine ⟨v, fun w hc hd => .inl ⟨hw, ?_⟩, h2⟩
    have h3 := h1 w hc hd
    unfold Oper.quietAt at h3
    generalize (execOp a.eval o).run P w = r at *
    cases r with
    | ok n w' =>
      cases n <;> simp only [Oper.quietUpon] at h3 <;> simp only [Out]
      case value u => obtain ⟨e1, e2⟩ := h3; subst e1; subst e2; exact ⟨rfl, Below.refl _ _⟩
      case skip => obtain ⟨e1, e2⟩ := h3; first | (subst e2; exact ⟨e1, Below.refl _ _⟩) | (subst e1; exact ⟨e2, Below.refl _ _⟩) | (subst e1; exact ⟨e2.symm, Below.refl _ _⟩) | (subst e2; exact ⟨e1.symm, Below.refl _ _⟩)
      case enter f args => obtain ⟨e1, e2⟩ := h3; subst e1; exact e2.mono fun e w'' ⟨x1, x2⟩ => ⟨_, x1, rfl, x2⟩
    | halt x w' => simp only [Oper.quietUpon] at h3
  · rename_i hw
    exact ⟨undef, fun w hc hd => .inr ⟨by simpa using hw, rfl, Below.refl _ _⟩, this⟩
/-- an alloc -/
theorem can1_alloc (o : Oper) (ho : ops[i]? = some o) (hk : kind i = 1) (hg : o.guard = none) (z : Array Value) (T : TypeId) (n0 : Nat) (hC : ∀ w, C w → n0 ≤ w.heap.size)
    (hrun : ∀ w, (execOp a.eval o).run P w = .ok (.value (.pointer (some ⟨w.heap.size, 0, none⟩))) (w.alloc (.cells z T)))
    (va : Nat → Nat → Value) (RA : Nat → Nat → World → Prop) (hva : ∀ n, va i n = .pointer (some ⟨n, 0, none⟩)) (hRA : ∀ n w, RA i n w ↔ n0 ≤ n ∧ ∃ c : Array Value, c.size = z.size ∧ Bx w n c)
    (h : ∀ n, n0 ≤ n → Can C kind va RA P ops Q s (fun w => D w ∧ RA i n w) (a.put o.dst (.pointer (some ⟨n, 0, none⟩)))) :
    Can C kind va RA P ops Q (i :: s) D a := by
  simp only [Can]
  refine ⟨o, ho, ?_⟩
  unfold Nx
  rw [hk]
  refine ⟨fun w hc => .inl ⟨by simp [Region.wanted, hg], ?_⟩, fun n hn => ?_⟩
  · rw [hrun w]
    exact ⟨w.heap.size, (hva _).symm, (Below.refl _ _).alloc (Nat.le_refl _) _, (hRA _ _).2 ⟨hC w hc, z, rfl, Bx.new⟩⟩
  · obtain ⟨w, _, _, hr⟩ := hn
    rw [hva]
    exact h n ((hRA n w).1 hr).1
/-- a store, or whatever waits for all that have relations of their own -/
theorem can2 (o : Oper) (ho : ops[i]? = some o) (hk : kind i = 2) (hg : o.guard = none) (D' : World → Prop) (hD' : Stab D') (hsub : ∀ w, D' w → D w)
    (hrun : ∀ w, C w → D w → ∃ w', (execOp a.eval o).run P w = .ok .skip w' ∧ C w' ∧ D' w')
    (h : Can C kind va RA P ops Q s D' (a.put o.dst undef)) : Can C kind va RA P ops Q (i :: s) D a := by
  simp only [Can]
  refine ⟨o, ho, ?_⟩
  unfold Nx
  rw [hk]
  refine ⟨D', hD', hsub, undef, fun w hc hd => .inl ⟨by simp [Region.wanted, hg], ?_⟩, h⟩
  obtain ⟨w', e, h1, h2⟩ := hrun w hc hd
  rw [e]
  exact ⟨rfl, h1, h2⟩
/-- a store of a whole struct into a block of the call's own -/
theorem can2_store (o : Oper) (ho : ops[i]? = some o) (hk : kind i = 2) (hg : o.guard = none) (ty : TypeId) (x y : Operand) (hop : o.op = .store ty x y) (n : Nat) (cells : Array Value)
    (hx : a.eval x = .pointer (some ⟨n, 0, none⟩)) (hy : a.eval y = .agg cells) (hi : (P.info? ty).map (·.size) = some cells.size) (h1 : cells.all (·.oneCell') = true) (hdst : o.dst = none)
    (hD : Stab D) (hb : ∀ w, D w → ∃ c : Array Value, c.size = cells.size ∧ Bx w n c) (hDs : ∀ w, D w → D (w.setRow n cells)) (hCs : ∀ w, C w → C (w.setRow n cells))
    (h : Can C kind va RA P ops Q s (fun w => D w ∧ Bx w n cells) a) : Can C kind va RA P ops Q (i :: s) D a := by
  refine can2 o ho hk hg (fun w => D w ∧ Bx w n cells) (fun w w' h b => ⟨hD w w' h.1 b, h.2.below b⟩) (fun w h => h.1) (fun w hc hd => ?_) (by rw [hdst]; exact h)
  obtain ⟨c, hs, hb'⟩ := hb w hd
  have hb2 := hb'
  obtain ⟨T, hb'⟩ := hb'
  refine ⟨w.setRow n cells, ?_, hCs w hc, hDs w hd, hb2.row_same⟩
  unfold execOp
  simp only [hop, hx, hy, Instr.storeAt, Instr.sureAddr, Sem.run_bind, Sem.run_pure, Result.andThen_ok, run_storeVar_row w n T ty c cells hb' hi hs h1]
theorem stab_below (n : Nat) (w0 : World) (hn : n = w0.heap.size) : Stab (fun w => Below n w0 w) := fun w w' h b => by subst hn; exact h.trans (b.mono h.size)
theorem stab_shape (n0 : Nat) (k : Nat) (n : Nat) : Stab (fun w => n0 ≤ n ∧ ∃ c : Array Value, c.size = k ∧ Bx w n c) := fun w w' h b => by
  obtain ⟨h0, c, h1, h2⟩ := h; exact ⟨h0, c, h1, h2.below b⟩
end
end Go.Proofs.YtjgnckhbafgalaaDoor.RegR
