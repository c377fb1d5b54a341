/- Texts of this claim, one behind the other: AxC, AxD, AxE, AxF. -/
import Derived.Test.YtkffmaeiplgjeaaGreatDoorM2
import Derived.Maps.AppendAt
/- The abstract walk: rules of single operations that make no memory. -/
namespace Go.Proofs.YtkffmaeiplgjeaaGreatDoor.Ax
open Go.RowKit Go.Proofs.YtkffmaeiplgjeaaGreatDoor.MemL Go.Proofs.YtkffmaeiplgjeaaGreatDoor.RegR
set_option linter.unusedVariables false
set_option linter.unusedSimpArgs false
variable {P : Program} {ops : Array Oper} {X : Cx} {o : Oper} {S : St}
/-- what types are, told by tables: is it a row or a struct; how many cells; where a field lies -/
structure Tb where
  ag : Nat → Bool
  sz : Nat → Nat
  off : Nat → Nat → Nat
variable {tb : Tb}
/-- a variable of a type among cells -/
def partT (tb : Tb) (t : TypeId) (cs : List Ce) (off : Nat) : Cm := cond (tb.ag t) (.ag ((cs.drop off).take (tb.sz t))) (match cs[off]? with | some c => .c c | none => .c .any)
def lenOk (P : Program) (t : TypeId) : Cm → Bool
  | .ag l => (P.info? t).map (·.size) == some l.length
  | .c _ => true
def cmLen : Cm → Nat
  | .ag l => l.length
  | .c _ => 1
/-- the tables are right at a type -/
def tyOk (P : Program) (tb : Tb) (t : TypeId) : Bool := match P.underlying t, P.info? t with
  | some d, some i => (match d with | .struct _ | .array _ _ => tb.ag t | _ => !tb.ag t) && Nat.beq i.size (tb.sz t)
  | _, _ => false
def partA (P : Program) (t : TypeId) (cs : List Ce) (off : Nat) : Option Cm :=
  match P.underlying t with
  | none => none
  | some d => match d with
    | .struct _ | .array _ _ => (P.info? t).map (fun i => .ag ((cs.drop off).take i.size))
    | _ => (cs[off]?).map .c
theorem partT_A {t off : Nat} {cs : List Ce} (h : tyOk P tb t = true) (hin : cond (tb.ag t) true (Nat.blt off cs.length) = true) : partA P t cs off = some (partT tb t cs off) := by
  unfold tyOk at h
  unfold partA partT
  split at h
  · rename_i d i hd hi
    simp only [hd, hi]
    simp only [Bool.and_eq_true] at h
    have hsz := Nat.eq_of_beq_eq_true h.2
    have one : tb.ag t = false → (cs[off]?).map Cm.c = some (cond (tb.ag t) (.ag ((cs.drop off).take (tb.sz t))) (match cs[off]? with | some c => .c c | none => .c .any)) := fun e => by
      rw [e] at hin ⊢
      have hlt : off < cs.length := Nat.le_of_ble_eq_true hin
      rw [List.getElem?_eq_getElem hlt]; rfl
    have agg : tb.ag t = true → (some i).map (fun i : TypeInfo => Cm.ag ((cs.drop off).take i.size)) = some (cond (tb.ag t) (.ag ((cs.drop off).take (tb.sz t))) (match cs[off]? with | some c => .c c | none => .c .any)) := fun e => by
      rw [e, ← hsz]; rfl
    cases d <;> first
      | exact agg h.1
      | exact one (by simpa using h.1)
  · cases h
theorem run_isAgg {t : TypeId} {d : TypeDesc} (h : P.underlying t = some d) (w : World) : (isAgg t).run P w = .ok d.isRow w := by
  unfold isAgg
  rw [Sem.run_bind, run_underlying h w]
  cases d <;> simp
theorem run_partA {E : En} {t off : Nat} {cs : List Ce} {vs : Array Value} {m : Cm} (hp : partA P t cs off = some m) (hR : All2 (Ce.R E) cs vs.toList) (w : World) : ∃ v, (part t vs off).run P w = .ok v w ∧ m.R E v := by
  unfold partA at hp
  cases hu : P.underlying t with
  | none => simp [hu] at hp
  | some d =>
    simp only [hu] at hp
    have ha := run_isAgg hu w
    have agg : ∀ i, P.info? t = some i → d.isRow = true → m = .ag ((cs.drop off).take i.size) → ∃ v, (part t vs off).run P w = .ok v w ∧ m.R E v := fun i hi hd hm => by
      refine ⟨.agg (vs.extract off (off + i.size)), ?_, ?_⟩
      · unfold part
        rw [Sem.run_bind, ha]
        simp [hd, sizeOf, typeInfo, hi]
      · subst hm
        refine ⟨_, rfl, ?_⟩
        rw [Array.toList_extract]
        have e : off + i.size - off = i.size := by omega
        simp only [List.extract_eq_take_drop, e]
        exact All2.take _ _ _ (All2.drop _ _ _ hR)
    have one : d.isRow = false → (cs[off]?).map Cm.c = some m → ∃ v, (part t vs off).run P w = .ok v w ∧ m.R E v := fun hd hm => by
      obtain ⟨c, hc, rfl⟩ := Option.map_eq_some_iff.1 hm
      obtain ⟨v, hv, hr⟩ := All2.get _ _ _ _ hR hc
      refine ⟨v, ?_, hr⟩
      unfold part
      rw [Sem.run_bind, ha]
      simp only [Array.getElem?_toList] at hv
      simp [hd, hv]
    cases d <;> simp only [] at hp <;> first
      | (obtain ⟨i, hi, rfl⟩ := Option.map_eq_some_iff.1 hp; exact agg i hi rfl rfl)
      | exact one rfl hp
theorem run_loadA {E : En} {t off g : Nat} {cs : List Ce} {m : Cm} (w : World) (hp : partA P t cs off = some m) (hl : ∀ l, m = .ag l → (P.info? t).map (·.size) = some l.length)
    (hR : ∀ j c, off ≤ j → cs[j]? = some c → ∃ v, w.cell? ⟨g, j, none⟩ = some v ∧ c.R E v) : ∃ v, (loadVar t ⟨g, off, none⟩).run P w = .ok v w ∧ m.R E v := by
  unfold partA at hp
  cases hu : P.underlying t with
  | none => simp [hu] at hp
  | some d =>
    simp only [hu] at hp
    have agg : ∀ i, P.info? t = some i → d.isRow = true → m = .ag ((cs.drop off).take i.size) → ∃ v, (loadVar t ⟨g, off, none⟩).run P w = .ok v w ∧ m.R E v := fun i hi hd hm => by
      have hlen := hl _ hm
      rw [hi] at hlen
      simp only [Option.map_some, Option.some.injEq] at hlen
      have gets : ∀ (n o : Nat), off ≤ o → (∀ j, j < n → o + j < cs.length) → ∃ vs : List Value, vs.length = n ∧ All2 (Ce.R E) ((cs.drop o).take n) vs ∧ ∀ j v, vs[j]? = some v → w.cell? ⟨g, o + j, none⟩ = some v := by
        intro n
        induction n with
        | zero => intro o _ _; exact ⟨[], rfl, by simp [All2], by simp⟩
        | succ n ih =>
          intro o hoo ho
          have h0 : o < cs.length := by have := ho 0 (by omega); omega
          obtain ⟨v, hv, hr⟩ := hR o cs[o] hoo (List.getElem?_eq_getElem h0)
          obtain ⟨vs, h1, h2, h3⟩ := ih (o + 1) (by omega) (fun j hj => by have := ho (j + 1) (by omega); omega)
          refine ⟨v :: vs, by simp [h1], ?_, fun j u hu => ?_⟩
          · rw [List.drop_eq_getElem_cons h0, List.take_succ_cons]
            exact ⟨hr, h2⟩
          · cases j with
            | zero => simp at hu; subst hu; simpa using hv
            | succ j => have := h3 j u (by simpa using hu); rw [← this]; congr 2; omega
      have hlen' : ∀ j, j < i.size → off + j < cs.length := fun j hj => by
        simp only [List.length_take, List.length_drop] at hlen; omega
      obtain ⟨vs, h1, h2, h3⟩ := gets i.size off (Nat.le_refl _) hlen'
      refine ⟨.agg vs.toArray, run_loadVar_mid w g off t vs d h3 hu hd (by rw [hi]; simp [h1]), ?_⟩
      subst hm
      exact ⟨_, rfl, by simpa using h2⟩
    have one : d.isRow = false → (cs[off]?).map Cm.c = some m → ∃ v, (loadVar t ⟨g, off, none⟩).run P w = .ok v w ∧ m.R E v := fun hd hm => by
      obtain ⟨c, hc, rfl⟩ := Option.map_eq_some_iff.1 hm
      obtain ⟨v, hv, hr⟩ := hR off c (Nat.le_refl _) hc
      refine ⟨v, ?_, hr⟩
      unfold loadVar
      rw [Sem.run_bind, run_isAgg hu w]
      simp [hd, hv]
    cases d <;> simp only [] at hp <;> first
      | (obtain ⟨i, hi, rfl⟩ := Option.map_eq_some_iff.1 hp; exact agg i hi rfl rfl)
      | exact one rfl hp
theorem box_cells {E : En} {g : Nat} {cs : List Ce} {vs : Array Value} (hb : Bx E.w g vs) (hR : All2 (Ce.R E) cs vs.toList) : ∀ j c, cs[j]? = some c → ∃ v, E.w.cell? ⟨g, j, none⟩ = some v ∧ c.R E v := fun j c hc => by
  obtain ⟨v, hv, hr⟩ := All2.get _ _ _ _ hR hc
  exact ⟨v, by rw [hb.cell j]; simpa using hv, hr⟩
theorem valid_mv {x : Operand} (ho : o.op = .move x ∨ o.op = .assign x) (hw : want ops S o = true) : Valid P ops X o S ⟨S.ev x, [], []⟩ :=
  valid_val [] hw fun S2 τ a w h _ _ => by
    refine ⟨a.eval x, ?_, h x (by rcases ho with ho | ho <;> rw [ho] <;> simp [Op.operands])⟩
    rcases ho with ho | ho <;> simp [execOp, ho]
theorem valid_pick {c x y : Operand} {b : Bool} (ho : o.op = .pick c x y) (hw : want ops S o = true) (hc : S.ev c = .m (.c (.v (.bool b)))) : Valid P ops X o S ⟨cond b (S.ev x) (S.ev y), [], []⟩ :=
  valid_val [] hw fun S2 τ a w h _ _ => by
    have h1 := h c (by rw [ho]; simp [Op.operands])
    rw [hc] at h1
    have h1 : a.eval c = .bool b := h1
    refine ⟨if b then a.eval x else a.eval y, ?_, ?_⟩
    · simp [execOp, ho, h1, asBool]
    · cases b
      · exact h y (by rw [ho]; simp [Op.operands])
      · exact h x (by rw [ho]; simp [Op.operands])
theorem valid_extract {x : Operand} {i : Nat} {l : List Cm} {m : Cm} (ho : o.op = .extract x i) (hw : want ops S o = true) (hx : S.ev x = .tu l) (hm : l[i]? = some m) : Valid P ops X o S ⟨.m m, [], []⟩ :=
  valid_val [] hw fun S2 τ a w h _ _ => by
    have h1 := h x (by rw [ho]; simp [Op.operands])
    rw [hx] at h1
    obtain ⟨vs, e, hR⟩ := h1
    obtain ⟨v, hv, hr⟩ := All2.get _ _ _ _ hR hm
    refine ⟨v, ?_, hr⟩
    simp only [Array.getElem?_toList] at hv
    simp [execOp, ho, e, Instr.extract, hv]
def fieldA (P : Program) (t : TypeId) (cs : List Ce) (f : Nat) : Option Cm :=
  match P.underlying t with
  | some (.struct fields) => match fields[f]? with
    | some f => partA P f.type cs f.offset
    | none => none
  | _ => none
/-- a field's type, its place told by the tables -/
def fldT (P : Program) (tb : Tb) (t f : Nat) : Option TypeId :=
  match P.underlying t with
  | some (.struct fields) => match fields[f]? with
    | some f' => cond (Nat.beq f'.offset (tb.off t f)) (some f'.type) none
    | none => none
  | _ => none
theorem valid_field' {t f : Nat} {x : Operand} {cs : List Ce} {m : Cm} (ho : o.op = .field t x f) (hw : want ops S o = true) (hx : S.ev x = .m (.ag cs)) (hm : fieldA P t cs f = some m) : Valid P ops X o S ⟨.m m, [], []⟩ :=
  valid_val [] hw fun S2 τ a w h _ _ => by
    have h1 := h x (by rw [ho]; simp [Op.operands])
    rw [hx] at h1
    obtain ⟨vs, e, hR⟩ := h1
    unfold fieldA at hm
    split at hm
    · rename_i fields hu
      split at hm
      · rename_i fd hf
        obtain ⟨v, hv, hr⟩ := run_partA hm hR w
        refine ⟨v, ?_, hr⟩
        simp [execOp, ho, e, Instr.field, run_underlying hu, hf, asAgg, hv]
      · cases hm
    · cases hm
theorem valid_field (tb : Tb) {t f u : Nat} {x : Operand} {cs : List Ce} (ho : o.op = .field t x f) (hw : want ops S o = true) (hx : S.ev x = .m (.ag cs)) (hf : fldT P tb t f = some u) (hu : tyOk P tb u = true) (hin : cond (tb.ag u) true (Nat.blt (tb.off t f) cs.length) = true) : Valid P ops X o S ⟨.m (partT tb u cs (tb.off t f)), [], []⟩ :=
  valid_field' ho hw hx (by
    unfold fldT at hf
    unfold fieldA
    split at hf
    · rename_i fields hfs
      split at hf
      · rename_i f' hf'
        cases hb : Nat.beq f'.offset (tb.off t f) with
        | false => rw [hb] at hf; cases hf
        | true =>
          rw [hb] at hf; cases hf
          rw [Nat.eq_of_beq_eq_true hb]; exact partT_A hu hin
      · cases hf
    · cases hf)
/-- not nil -/
theorem valid_nil {x : Operand} {c : Ce} (ho : o.op = .nilCheck x) (hw : want ops S o = true) (hx : S.ev x = .m (.c c)) (hc : (match c with | .p _ _ | .q _ | .rp _ _ => true | _ => false) = true) : Valid P ops X o S ⟨.m (.c c), [], []⟩ :=
  valid_val [] hw fun S2 τ a w h _ _ => by
    have h1 := h x (by rw [ho]; simp [Op.operands])
    rw [hx] at h1
    have : ∃ ad, a.eval x = .pointer (some ad) := by
      cases c <;> simp at hc
      · obtain ⟨g, o, e, _⟩ := h1; exact ⟨_, e⟩
      · obtain ⟨_, g, _, e⟩ := h1; exact ⟨_, e⟩
      · obtain ⟨_, g, _, _, _, e⟩ := h1; exact ⟨_, e⟩
    obtain ⟨ad, e⟩ := this
    exact ⟨.pointer (some ad), by simp [execOp, ho, e], by rw [← e]; exact h1⟩
theorem valid_bin {op : BinOp} {t t' : TypeId} {x y : Operand} {u v r : Value} (ho : o.op = .binOp op t x y t') (hw : want ops S o = true) (hx : S.ev x = .m (.c (.v u))) (hy : S.ev y = .m (.c (.v v)))
    (hg : ∀ w, (eqGuard op t x y u v).run P w = .ok () w) (hr : ∀ w, (binOp op t u v).run P w = .ok r w) : Valid P ops X o S ⟨.m (.c (.v r)), [], []⟩ :=
  valid_val [] hw fun S2 τ a w h _ _ => by
    have h1 := h x (by rw [ho]; simp [Op.operands])
    have h2 := h y (by rw [ho]; simp [Op.operands])
    rw [hx] at h1; rw [hy] at h2
    have h1 : a.eval x = u := h1
    have h2 : a.eval y = v := h2
    refine ⟨r, ?_, rfl⟩
    simp [execOp, ho, h1, h2, hg, hr]
/-- '==' and '!=' of structs of plain cells -/
theorem valid_eqs {op : BinOp} {t t' : TypeId} {x y : Operand} {us vs : List Value} {r : Bool} (ho : o.op = .binOp op t x y t') (hw : want ops S o = true) (hx : S.ev x = .m (.ag (us.map .v))) (hy : S.ev y = .m (.ag (vs.map .v)))
    (hg : ∀ w, (eqGuard op t x y (.agg us.toArray) (.agg vs.toArray)).run P w = .ok () w) (hr : ∀ w, (binOp op t (.agg us.toArray) (.agg vs.toArray)).run P w = .ok (.bool r) w) : Valid P ops X o S ⟨.m (.c (.v (.bool r))), [], []⟩ :=
  valid_val [] hw fun S2 τ a w h _ _ => by
    have get : ∀ (E : En) (l : List Value) (bs : List Value), All2 (Ce.R E) (l.map .v) bs → bs = l := fun E l => by
      induction l with
      | nil => intro bs h; cases bs with | nil => rfl | cons _ _ => exact h.elim
      | cons x l ih => intro bs h; cases bs with | nil => exact h.elim | cons y bs => rw [ih bs h.2]; exact congrArg (· :: l) h.1
    have h1 := h x (by rw [ho]; simp [Op.operands])
    have h2 := h y (by rw [ho]; simp [Op.operands])
    rw [hx] at h1; rw [hy] at h2
    obtain ⟨c1, e1, k1⟩ := h1
    obtain ⟨c2, e2, k2⟩ := h2
    have q1 : c1 = us.toArray := by rw [← get _ _ _ k1]
    have q2 : c2 = vs.toArray := by rw [← get _ _ _ k2]
    subst q1; subst q2
    refine ⟨_, ?_, rfl⟩
    simp [execOp, ho, e1, e2, hg, hr]
theorem valid_un {op : UnOp} {t : TypeId} {x : Operand} {u r : Value} (ho : o.op = .unOp op t x) (hw : want ops S o = true) (hx : S.ev x = .m (.c (.v u))) (hr : ∀ w, (Op.unary op u).run P w = .ok r w) : Valid P ops X o S ⟨.m (.c (.v r)), [], []⟩ :=
  valid_val [] hw fun S2 τ a w h _ _ => by
    have h1 := h x (by rw [ho]; simp [Op.operands])
    rw [hx] at h1
    have h1 : a.eval x = u := h1
    exact ⟨r, by simp [execOp, ho, h1, hr], rfl⟩
theorem valid_conv {s t : TypeId} {x : Operand} {u r : Value} (ho : o.op = .convert s t x) (hw : want ops S o = true) (hx : S.ev x = .m (.c (.v u))) (hr : ∀ w, (convert s t u).run P w = .ok r w) : Valid P ops X o S ⟨.m (.c (.v r)), [], []⟩ :=
  valid_val [] hw fun S2 τ a w h _ _ => by
    have h1 := h x (by rw [ho]; simp [Op.operands])
    rw [hx] at h1
    have h1 : a.eval x = u := h1
    exact ⟨r, by simp [execOp, ho, h1, hr], rfl⟩
theorem valid_len_s {x : Operand} {t el : TypeId} {n k : Nat} {xs : List Value} (ho : o.op = .call { callee := .builtin .len, args := #[x], argTypes := #[t] }) (hu : P.underlying t = some (.slice el)) (hw : want ops S o = true) (hx : S.ev x = .m (.c (.s n k xs))) : Valid P ops X o S ⟨.m (.c (.v (.int .i64 n))), [], []⟩ :=
  valid_val [] hw fun S2 τ a w h _ _ => by
    have h1 := h x (by rw [ho]; simp [Op.operands, Call.operands])
    rw [hx] at h1
    obtain ⟨⟨_, h2⟩, _⟩ := h1
    refine ⟨_, ?_, rfl⟩
    rcases h2 with ⟨e, e2⟩ | ⟨b, off, cap, e, _⟩
    · subst e2; simp [execOp, ho, resolve, invoke, builtin, e, Builtin.len_, goInt, run_underlying hu]
    · simp [execOp, ho, resolve, invoke, builtin, e, Builtin.len_, goInt, run_underlying hu]
theorem valid_len_v {x : Operand} {t el : TypeId} {a : Option Addr} {n c : Nat} (ho : o.op = .call { callee := .builtin .len, args := #[x], argTypes := #[t] }) (hu : P.underlying t = some (.slice el)) (hw : want ops S o = true) (hx : S.ev x = .m (.c (.v (.slice a n c)))) : Valid P ops X o S ⟨.m (.c (.v (.int .i64 n))), [], []⟩ :=
  valid_val [] hw fun S2 τ ac w h _ _ => by
    have h1 := h x (by rw [ho]; simp [Op.operands, Call.operands])
    rw [hx] at h1
    have e : ac.eval x = .slice a n c := h1
    exact ⟨_, by simp [execOp, ho, resolve, invoke, builtin, e, Builtin.len_, goInt, run_underlying hu], rfl⟩
theorem valid_len_o {x : Operand} {t el : TypeId} {b e n k : Nat} {xs : List Value} (ho : o.op = .call { callee := .builtin .len, args := #[x], argTypes := #[t] }) (hu : P.underlying t = some (.slice el)) (hw : want ops S o = true) (hx : S.ev x = .m (.c (.o b))) (hb : S.hp b = .live (.row e k n xs)) : Valid P ops X o S ⟨.m (.c (.v (.int .i64 n))), [], [b]⟩ :=
  valid_val [b] hw fun S2 τ a w h hrd hS => by
    have h1 := h x (by rw [ho]; simp [Op.operands, Call.operands])
    rw [hx] at h1
    obtain ⟨_, h1⟩ := h1
    have hk := hS.hp b _ (Eq.trans (hrd (.all b) (by simp)) hb)
    refine ⟨_, ?_, rfl⟩
    rcases hk.2 with ⟨e, e2⟩ | ⟨g, cap, cur, e, _⟩
    · subst e2
      have : a.eval x = .slice none 0 0 := h1.trans e
      simp [execOp, ho, resolve, invoke, builtin, this, Builtin.len_, goInt, run_underlying hu]
    · have : a.eval x = .slice (some ⟨g, 0, none⟩) n cap := h1.trans e
      simp [execOp, ho, resolve, invoke, builtin, this, Builtin.len_, goInt, run_underlying hu]
/-- a load out of an own block -/
theorem valid_load_p' {t : TypeId} {x : Operand} {b off : Nat} {cs : List Ce} {m : Cm} (ho : o.op = .load t x) (hw : want ops S o = true) (hx : S.ev x = .m (.c (.p b off))) (hb : S.hp b = .live (.box cs)) (hm : partA P t cs off = some m)
    (hl : lenOk P t m = true) : Valid P ops X o S ⟨.m m, [], [.part b off (cmLen m)]⟩ :=
  valid_val [.part b off (cmLen m)] hw fun S2 τ a w h hrd hS => by
    have h1 := h x (by rw [ho]; simp [Op.operands])
    rw [hx] at h1
    obtain ⟨_, g, e1, e2⟩ := h1
    obtain ⟨cs2, hb2, hm⟩ : ∃ cs2, S2.hp b = .live (.box cs2) ∧ partA P t cs2 off = some m := by
      rcases hrd _ (List.mem_singleton.2 rfl) with k | ⟨c1, c2, k1, k2, k3, k4⟩
      · exact ⟨cs, k.trans hb, hm⟩
      · rw [hb] at k2; cases k2
        refine ⟨c1, k1, ?_⟩
        unfold partA at hm ⊢
        cases hu : P.underlying t with
        | none => simp [hu] at hm
        | some d =>
          simp only [hu] at hm ⊢
          have one : ∀ c, (cs[off]?).map Cm.c = some c → c = m → (c1[off]?).map Cm.c = some m := fun c hc hcm => by
            subst hcm
            obtain ⟨x, hx, rfl⟩ := Option.map_eq_some_iff.1 hc
            have := congrArg (·[0]?) k4
            simp only [cmLen, List.getElem?_take, List.getElem?_drop, Nat.zero_lt_one, if_true, Nat.add_zero] at this
            rw [this, hx]; rfl
          have agg : ∀ i, P.info? t = some i → m = .ag ((cs.drop off).take i.size) → (P.info? t).map (fun i => Cm.ag ((c1.drop off).take i.size)) = some m := fun i hi hm => by
            subst hm
            unfold lenOk at hl
            rw [hi] at hl ⊢
            have hl : i.size = ((cs.drop off).take i.size).length := by simpa [lenOk] using hl
            simp only [Option.map_some, Option.some.injEq, Cm.ag.injEq]
            have k4 : (c1.drop off).take ((cs.drop off).take i.size).length = (cs.drop off).take ((cs.drop off).take i.size).length := k4
            rw [← hl] at k4; exact k4
          cases d <;> simp only [] at hm ⊢ <;> first
            | (obtain ⟨i, hi, hm'⟩ := Option.map_eq_some_iff.1 hm; exact agg i hi hm'.symm)
            | exact one m hm rfl
    obtain ⟨g', vs, e3, hbx, hR⟩ := hS.hp b _ hb2
    have e1 : τ b = .pointer (some ⟨g, 0, none⟩) := e1
    rw [e1] at e3
    obtain rfl : g = g' := by simpa using e3
    obtain ⟨v, hv, hr⟩ := run_loadA (E := env X S2.hp τ w) w hm (fun l hml => by subst hml; simpa [lenOk] using hl) (fun j c _ => box_cells hbx hR j c)
    exact ⟨v, by simp [execOp, ho, e2, Instr.loadAt, Instr.sureAddr, hv], hr⟩
theorem partT_len {t off : Nat} {cs : List Ce} (h : tyOk P tb t = true) (hin : cond (tb.ag t) (Nat.ble (off + tb.sz t) cs.length) true = true) : lenOk P t (partT tb t cs off) = true := by
  unfold tyOk at h
  split at h
  · rename_i d i hd hi
    simp only [Bool.and_eq_true] at h
    have hsz := Nat.eq_of_beq_eq_true h.2
    unfold partT lenOk
    cases e : tb.ag t with
    | true =>
      rw [e] at hin
      have hle : off + tb.sz t ≤ cs.length := Nat.le_of_ble_eq_true hin
      simp only [cond, hi, Option.map_some, List.length_take, List.length_drop, hsz]
      simp; omega
    | false =>
      simp only [cond]
      cases cs[off]? <;> rfl
  · cases h
/-- what is to be read is there -/
def inT (tb : Tb) (t off len : Nat) : Bool := cond (tb.ag t) (Nat.ble (off + tb.sz t) len) (Nat.blt off len)
theorem inT_1 {t off len : Nat} (h : inT tb t off len = true) : cond (tb.ag t) true (Nat.blt off len) = true := by
  unfold inT at h; cases e : tb.ag t <;> simp_all
theorem inT_2 {t off len : Nat} (h : inT tb t off len = true) : cond (tb.ag t) (Nat.ble (off + tb.sz t) len) true = true := by
  unfold inT at h; cases e : tb.ag t <;> simp_all
/-- how much is read -/
def lenT (tb : Tb) (t : TypeId) : Nat := cond (tb.ag t) (tb.sz t) 1
theorem cmLen_T {t off : Nat} {cs : List Ce} (h : inT tb t off cs.length = true) : cmLen (partT tb t cs off) = lenT tb t := by
  unfold inT at h
  unfold partT lenT
  cases e : tb.ag t with
  | true =>
    rw [e] at h
    have hle : off + tb.sz t ≤ cs.length := Nat.le_of_ble_eq_true h
    simp only [cond, cmLen, List.length_take, List.length_drop]; omega
  | false => simp only [cond]; cases cs[off]? <;> rfl
theorem valid_load_p (tb : Tb) {t : TypeId} {x : Operand} {b off : Nat} {cs : List Ce} (ho : o.op = .load t x) (hw : want ops S o = true) (hx : S.ev x = .m (.c (.p b off))) (hb : S.hp b = .live (.box cs)) (ht : tyOk P tb t = true) (hin : inT tb t off cs.length = true) : Valid P ops X o S ⟨.m (partT tb t cs off), [], [.part b off (lenT tb t)]⟩ := by
  have := valid_load_p' (X := X) ho hw hx hb (partT_A ht (inT_1 hin)) (partT_len ht (inT_2 hin))
  rwa [cmLen_T hin] at this
/-- a load out of cells that are read alone -/
theorem valid_load_q' {t : TypeId} {x : Operand} {xs : List Value} {m : Cm} (ho : o.op = .load t x) (hw : want ops S o = true) (hx : S.ev x = .m (.c (.q xs))) (hm : partA P t (xs.map .v) 0 = some m)
    (hl : lenOk P t m = true) : Valid P ops X o S ⟨.m m, [], []⟩ :=
  valid_val [] hw fun S2 τ a w h hrd hS => by
    have h1 := h x (by rw [ho]; simp [Op.operands])
    rw [hx] at h1
    obtain ⟨g, off, e2, _, _, hc⟩ := h1
    have hle : ∀ l, m = .ag l → (P.info? t).map (·.size) = some l.length := fun l hml => by subst hml; simpa [lenOk] using hl
    -- as if the cells began at off
    have key : ∃ v, (loadVar t ⟨g, off, none⟩).run P w = .ok v w ∧ m.R (env X S2.hp τ w) v := by
      have hm' : partA P t ((List.replicate off Ce.any) ++ xs.map .v) off = some m := by
        unfold partA at hm ⊢
        cases hu : P.underlying t with
        | none => simp [hu] at hm
        | some d =>
          have e0 : (List.replicate off Ce.any ++ xs.map Ce.v)[off]? = (xs.map Ce.v)[0]? := by rw [List.getElem?_append_right (by simp)]; simp
          have e1 : (List.replicate off Ce.any ++ xs.map Ce.v).drop off = xs.map Ce.v := by rw [List.drop_append_of_le_length (by simp)]; simp
          simp only [hu, e0, e1] at hm ⊢
          cases d <;> exact hm
      refine run_loadA (E := env X S2.hp τ w) w hm' hle (fun j c hge hj => ?_)
      · rw [List.getElem?_append_right (by simp; omega)] at hj
        simp only [List.length_replicate, List.getElem?_map] at hj
        obtain ⟨v, hv, rfl⟩ := Option.map_eq_some_iff.1 hj
        have hlt : j - off < xs.length := (List.getElem?_eq_some_iff.1 hv).1
        refine ⟨v, ?_, rfl⟩
        have := hc (j - off) hlt
        rw [hv] at this
        rw [← this]
        show w.cell? _ = w.cell? _
        congr 2; omega
    obtain ⟨v, hv, hr⟩ := key
    exact ⟨v, by simp [execOp, ho, e2, Instr.loadAt, Instr.sureAddr, hv], hr⟩
theorem valid_load_q (tb : Tb) {t : TypeId} {x : Operand} {xs : List Value} (ho : o.op = .load t x) (hw : want ops S o = true) (hx : S.ev x = .m (.c (.q xs))) (ht : tyOk P tb t = true) (hin : inT tb t 0 xs.length = true) : Valid P ops X o S ⟨.m (partT tb t (xs.map .v) 0), [], []⟩ :=
  valid_load_q' ho hw hx (partT_A ht (by rw [List.length_map]; exact inT_1 hin)) (partT_len ht (by rw [List.length_map]; exact inT_2 hin))
end Go.Proofs.YtkffmaeiplgjeaaGreatDoor.Ax
/- The abstract walk: addresses, slices, literals, calls. -/
namespace Go.Proofs.YtkffmaeiplgjeaaGreatDoor.Ax
open Go.RowKit Go.Proofs.YtkffmaeiplgjeaaGreatDoor.MemL Go.Proofs.YtkffmaeiplgjeaaGreatDoor.RegR
set_option linter.unusedVariables false
set_option linter.unusedSimpArgs false
variable {P : Program} {ops : Array Oper} {X : Cx} {o : Oper} {S : St}
def sizeA (P : Program) (t : TypeId) : Option Nat := (P.info? t).map (·.size)
theorem sizeA_run {t k : Nat} (h : sizeA P t = some k) (w : World) : (sizeOf t).run P w = .ok k w := by
  unfold sizeA at h
  obtain ⟨i, hi, rfl⟩ := Option.map_eq_some_iff.1 h
  simp [sizeOf, typeInfo, hi]
/-- where a field lies -/
def fieldOff (P : Program) (t f : Nat) : Option Nat :=
  match P.underlying t with
  | some (.struct fields) => match fields[f]? with
    | some fd => match sizeA P fd.type with
      | some (_ + 1) => some fd.offset
      | _ => none
    | none => none
  | _ => none
theorem run_fieldAt {t f n g off : Nat} (h : fieldOff P t f = some n) (w : World) : (Instr.fieldAt t (.pointer (some ⟨g, off, none⟩)) f).run P w = .ok (.pointer (some ⟨g, off + n, none⟩)) w := by
  unfold fieldOff at h
  split at h
  · rename_i fields hu
    split at h
    · rename_i fd hf
      split at h
      · rename_i k hs
        cases h
        simp [Instr.fieldAt, run_underlying hu, hf, Instr.sureAddr, fieldPlace, sizeA_run hs, Addr.add_mid]
      · cases h
    · cases h
  · cases h
/-- the tables are right at a field -/
def flOk (P : Program) (tb : Tb) (t f : Nat) : Bool := match fieldOff P t f with | some n => Nat.beq n (tb.off t f) | none => false
theorem flOk_spec {tb : Tb} {t f : Nat} (h : flOk P tb t f = true) : fieldOff P t f = some (tb.off t f) := by
  unfold flOk at h
  split at h
  · rename_i n hn; rw [hn, Nat.eq_of_beq_eq_true h]
  · cases h
theorem valid_fld_p' {t f : Nat} {x : Operand} {b off n : Nat} (ho : o.op = .fieldAddr t x f) (hw : want ops S o = true) (hx : S.ev x = .m (.c (.p b off))) (hn : fieldOff P t f = some n) : Valid P ops X o S ⟨.m (.c (.p b (off + n))), [], []⟩ :=
  valid_val [] hw fun S2 τ a w h _ _ => by
    have h1 := h x (by rw [ho]; simp [Op.operands])
    rw [hx] at h1
    obtain ⟨h0, g, e1, e2⟩ := h1
    exact ⟨_, by simp [execOp, ho, e2, run_fieldAt hn], h0, g, e1, rfl⟩
theorem valid_fld_rp' {t f : Nat} {x : Operand} {b off n : Nat} (ho : o.op = .fieldAddr t x f) (hw : want ops S o = true) (hx : S.ev x = .m (.c (.rp b off))) (hn : fieldOff P t f = some n) : Valid P ops X o S ⟨.m (.c (.rp b (off + n))), [], []⟩ :=
  valid_val [] hw fun S2 τ a w h _ _ => by
    have h1 := h x (by rw [ho]; simp [Op.operands])
    rw [hx] at h1
    obtain ⟨h0, g, l, c, e1, e2⟩ := h1
    exact ⟨_, by simp [execOp, ho, e2, run_fieldAt hn], h0, g, l, c, e1, rfl⟩
theorem valid_fld_q' {t f : Nat} {x : Operand} {xs : List Value} {n : Nat} (ho : o.op = .fieldAddr t x f) (hw : want ops S o = true) (hx : S.ev x = .m (.c (.q xs))) (hn : fieldOff P t f = some n) : Valid P ops X o S ⟨.m (.c (.q (xs.drop n))), [], []⟩ :=
  valid_val [] hw fun S2 τ a w h _ _ => by
    have h1 := h x (by rw [ho]; simp [Op.operands])
    rw [hx] at h1
    obtain ⟨g, off, e2, e3, e4, e5⟩ := h1
    refine ⟨_, by simp [execOp, ho, e2, run_fieldAt hn], g, off + n, rfl, e3, e4, fun i hi => ?_⟩
    simp only [List.length_drop] at hi
    rw [List.getElem?_drop, ← e5 (n + i) (by omega), Nat.add_assoc]
theorem run_indexAt_arr {t len el k : Nat} {g off : Nat} {kk : IntKind} {i : Int} (hu : P.underlying t = some (.array len el)) (hk : sizeA P el = some k) (h0 : 0 ≤ i) (h1 : i < len) (w : World) :
    (Instr.indexAt t (.pointer (some ⟨g, off, none⟩)) (.int kk i)).run P w = .ok (.pointer (some ⟨g, off + i.toNat * k, none⟩)) w := by
  simp [Instr.indexAt, asIntOf, run_underlying hu, Instr.sureAddr, h0, h1, sizeA_run hk, Addr.add_mid]
theorem run_indexAt_sl {t el k n c : Nat} {g off : Nat} {kk : IntKind} {i : Int} (hu : P.underlying t = some (.slice el)) (hk : sizeA P el = some k) (h0 : 0 ≤ i) (h1 : i < n) (w : World) :
    (Instr.indexAt t (.slice (some ⟨g, off, none⟩) n c) (.int kk i)).run P w = .ok (.pointer (some ⟨g, off + i.toNat * k, none⟩)) w := by
  simp [Instr.indexAt, asIntOf, run_underlying hu, h0, h1, sizeA_run hk, Addr.add_mid]
theorem valid_idx_p {t len el k : Nat} {x y : Operand} {b off : Nat} {kk : IntKind} {i : Int} (ho : o.op = .indexAddr t x y) (hw : want ops S o = true) (hx : S.ev x = .m (.c (.p b off))) (hy : S.ev y = .m (.c (.v (.int kk i))))
    (hu : P.underlying t = some (.array len el)) (hk : sizeA P el = some k) (h0 : 0 ≤ i) (h1 : i < len) : Valid P ops X o S ⟨.m (.c (.p b (off + i.toNat * k))), [], []⟩ :=
  valid_val [] hw fun S2 τ a w h _ _ => by
    have q1 := h x (by rw [ho]; simp [Op.operands])
    have q2 := h y (by rw [ho]; simp [Op.operands])
    rw [hx] at q1; rw [hy] at q2
    obtain ⟨u0, g, e1, e2⟩ := q1
    have q2 : a.eval y = .int kk i := q2
    exact ⟨_, by simp [execOp, ho, e2, q2, run_indexAt_arr hu hk h0 h1], u0, g, e1, rfl⟩
theorem valid_idx_s {t el k n : Nat} {x y : Operand} {xs : List Value} {kk : IntKind} {i : Int} (ho : o.op = .indexAddr t x y) (hw : want ops S o = true) (hx : S.ev x = .m (.c (.s n k xs))) (hy : S.ev y = .m (.c (.v (.int kk i))))
    (hu : P.underlying t = some (.slice el)) (hk : sizeA P el = some k) (h0 : 0 ≤ i) (h1 : i < n) (es : List Value) (hes : (xs.drop (i.toNat * k)).take k = es) : Valid P ops X o S ⟨.m (.c (.q es)), [], []⟩ :=
  valid_val [] hw fun S2 τ a w h _ _ => by
    have q1 := h x (by rw [ho]; simp [Op.operands])
    have q2 := h y (by rw [ho]; simp [Op.operands])
    rw [hx] at q1; rw [hy] at q2
    have q2 : a.eval y = .int kk i := q2
    obtain ⟨⟨hl, hs⟩, hA⟩ := q1
    rcases hs with ⟨_, e0⟩ | ⟨b, off, cap, e, hb, _, _, hc⟩
    · omega
    · refine ⟨_, by simp [execOp, ho, e, q2, run_indexAt_sl hu hk h0 h1], b, off + i.toNat * k, rfl, hb, hA _ _ _ e, fun j hj => ?_⟩
      subst hes
      have hin : i.toNat < n := by omega
      have hle : (i.toNat + 1) * k ≤ n * k := Nat.mul_le_mul_right _ hin
      rw [Nat.succ_mul] at hle
      simp only [List.length_take, List.length_drop] at hj
      rw [List.getElem?_take, if_pos (by omega), List.getElem?_drop, ← hc (i.toNat * k + j) (by omega), Nat.add_assoc]
theorem valid_idx_o {t el e k n : Nat} {x y : Operand} {b : Nat} {xs : List Value} {kk : IntKind} {i : Int} (ho : o.op = .indexAddr t x y) (hw : want ops S o = true) (hx : S.ev x = .m (.c (.o b))) (hb : S.hp b = .live (.row e k n xs)) (hy : S.ev y = .m (.c (.v (.int kk i))))
    (hu : P.underlying t = some (.slice el)) (hk : sizeA P el = some k) (h0 : 0 ≤ i) (h1 : i < n) : Valid P ops X o S ⟨.m (.c (.rp b (i.toNat * k))), [], [b]⟩ :=
  valid_val [b] hw fun S2 τ a w h hrd hS => by
    have q1 := h x (by rw [ho]; simp [Op.operands])
    have q2 := h y (by rw [ho]; simp [Op.operands])
    rw [hx] at q1; rw [hy] at q2
    have q2 : a.eval y = .int kk i := q2
    obtain ⟨u0, q1⟩ := q1
    have hr := hS.hp b _ (Eq.trans (hrd (.all b) (by simp)) hb)
    rcases hr.2 with ⟨_, e0⟩ | ⟨g, cap, cur, e, _⟩
    · omega
    · have q1 : a.eval x = .slice (some ⟨g, 0, none⟩) n cap := q1.trans e
      have run := run_indexAt_sl (c := cap) (g := g) (off := 0) (kk := kk) hu hk h0 h1 w
      rw [Nat.zero_add] at run
      exact ⟨.pointer (some ⟨g, i.toNat * k, none⟩), by simp [execOp, ho, q1, q2, run], u0, g, n, cap, e, rfl⟩
theorem owns_cell {w : World} {base e k n g cap : Nat} {xs : List Value} (h : w.ownsRow base e k (.slice (some ⟨g, 0, none⟩) n cap) n xs) (j : Nat) (c : Value) (hj : xs[j]? = some c) : w.cell? ⟨g, j, none⟩ = some c := by
  have hl : j < xs.length := (List.getElem?_eq_some_iff.1 hj).1
  rw [World.ownsRow.cellAt h j (by rw [← h.1]; exact hl)]; exact hj
theorem valid_load_rp' {t : TypeId} {x : Operand} {b off e k n : Nat} {xs : List Value} {m : Cm} (ho : o.op = .load t x) (hw : want ops S o = true) (hx : S.ev x = .m (.c (.rp b off))) (hb : S.hp b = .live (.row e k n xs)) (hm : partA P t (xs.map .v) off = some m)
    (hl : lenOk P t m = true) : Valid P ops X o S ⟨.m m, [], [b]⟩ :=
  valid_val [b] hw fun S2 τ a w h hrd hS => by
    have h1 := h x (by rw [ho]; simp [Op.operands])
    rw [hx] at h1
    obtain ⟨_, g, l, cap, e1, e2⟩ := h1
    have e1 : τ b = .slice (some ⟨g, 0, none⟩) l cap := e1
    have hr := hS.hp b _ (Eq.trans (hrd (.all b) (by simp)) hb)
    have hr : w.ownsRow X.base e k (τ b) n xs := hr
    rw [e1] at hr
    have hln : l = n := by rcases hr.2 with ⟨e, _⟩ | ⟨g', c', cur, e, _⟩ <;> cases e; rfl
    subst hln
    obtain ⟨v, hv, hr⟩ := run_loadA (E := env X S2.hp τ w) w hm (fun l hml => by subst hml; simpa [lenOk] using hl) (fun j c _ hj => by
      simp only [List.getElem?_map] at hj
      obtain ⟨u, hu, rfl⟩ := Option.map_eq_some_iff.1 hj
      exact ⟨u, owns_cell hr j u hu, rfl⟩)
    exact ⟨v, by simp [execOp, ho, e2, Instr.loadAt, Instr.sureAddr, hv], hr⟩
/-- a bound of a slice expression -/
def bnd (S : St) (x : Option Operand) (d : Nat) : Option Int :=
  match x with
  | none => some d
  | some x => match S.ev x with
    | .m (.c (.v (.int _ i))) => some i
    | _ => none
theorem run_bnd {kk : IntKind} {i : Int} {y : Nat} {c : BoundsCode} (h0 : 0 ≤ i) (h1 : i ≤ y) (w : World) : (Instr.sliceBound (.int kk i) y c).run P w = .ok i.toNat w := by
  simp [Instr.sliceBound, asIntOf, h0, h1]
theorem valid_slice_s {t el k n : Nat} {x : Operand} {lo hi : Option Operand} {xs : List Value} {l h : Int} (ho : o.op = .slice t x lo hi none) (hw : want ops S o = true) (hx : S.ev x = .m (.c (.s n k xs))) (hlo : bnd S lo 0 = some l) (hhi : bnd S hi n = some h)
    (hu : P.underlying t = some (.slice el)) (hk : sizeA P el = some k) (h0 : 0 ≤ l) (h1 : l ≤ h) (h2 : h ≤ n) : Valid P ops X o S ⟨.m (.c (.s (h.toNat - l.toNat) k ((xs.drop (l.toNat * k)).take ((h.toNat - l.toNat) * k)))), [], []⟩ :=
  valid_val [] hw fun S2 τ a w hv _ _ => by
    have q1 := hv x (by rw [ho]; simp [Op.operands])
    rw [hx] at q1
    obtain ⟨⟨hl, hs⟩, hA⟩ := q1
    have run : ∀ (ad : Option Addr) (cap : Nat), n ≤ cap → (Instr.sliceAt t (.slice ad n cap) (lo.map a.eval) (hi.map a.eval) none).run P w = .ok (.slice (if cap = l.toNat then ad else ad.map (·.add (l.toNat * k))) (h.toNat - l.toNat) (cap - l.toNat)) w := fun ad cap hc => by
      have rlo : ∀ (y : Nat) (c : BoundsCode), l ≤ y → ∀ v, lo.map a.eval = some v → (Instr.sliceBound v y c).run P w = .ok l.toNat w := fun y c hy v hv' => by
        cases lo with
        | none => cases hv'
        | some z =>
          simp only [Option.map_some, Option.some.injEq] at hv'
          subst hv'
          have q := hv z (by rw [ho]; simp [Op.operands])
          unfold bnd at hlo
          split at hlo
          · rename_i hz; cases hz
          · rename_i z' hz
            cases hz
            split at hlo
            · rename_i kk i hz2
              cases hlo
              rw [hz2] at q
              have q : a.eval z = .int kk l := q
              rw [q]; exact run_bnd h0 hy w
            · cases hlo
      have rhi : ∀ (y : Nat) (c : BoundsCode), h ≤ y → ∀ v, hi.map a.eval = some v → (Instr.sliceBound v y c).run P w = .ok h.toNat w := fun y c hy v hv' => by
        cases hi with
        | none => cases hv'
        | some z =>
          simp only [Option.map_some, Option.some.injEq] at hv'
          subst hv'
          have q := hv z (by rw [ho]; simp [Op.operands])
          unfold bnd at hhi
          split at hhi
          · rename_i hz; cases hz
          · rename_i z' hz
            cases hz
            split at hhi
            · rename_i kk i hz2
              cases hhi
              rw [hz2] at q
              have q : a.eval z = .int kk h := q
              rw [q]; exact run_bnd (by omega) hy w
            · cases hhi
      have lo0 : lo = none → l = 0 := fun e => by subst e; simp [bnd] at hlo; omega
      have hi0 : hi = none → h = n := fun e => by subst e; simp [bnd] at hhi; omega
      cases hlo' : lo.map a.eval with
      | none =>
        have e1 := lo0 (by cases lo <;> simp at hlo'; rfl)
        subst e1
        cases hhi' : hi.map a.eval with
        | none =>
          have e2 := hi0 (by cases hi <;> simp at hhi'; rfl)
          subst e2
          simp [Instr.sliceAt, Instr.slice, Instr.sliceBounds, run_underlying hu, sizeA_run hk]
        | some v => simp [Instr.sliceAt, Instr.slice, Instr.sliceBounds, run_underlying hu, sizeA_run hk, rhi cap .sliceAcap (by omega) v hhi']
      | some u =>
        cases hhi' : hi.map a.eval with
        | none =>
          have e2 := hi0 (by cases hi <;> simp at hhi'; rfl)
          subst e2
          simp [Instr.sliceAt, Instr.slice, Instr.sliceBounds, run_underlying hu, sizeA_run hk, rlo n .sliceB (by omega) u hlo']
        | some v => simp [Instr.sliceAt, Instr.slice, Instr.sliceBounds, run_underlying hu, sizeA_run hk, rhi cap .sliceAcap (by omega) v hhi', rlo h.toNat .sliceB (by omega) u hlo']
    have hlen : ((xs.drop (l.toNat * k)).take ((h.toNat - l.toNat) * k)).length = (h.toNat - l.toNat) * k := by
      have : h.toNat * k ≤ n * k := Nat.mul_le_mul_right _ (by omega)
      have e : (h.toNat - l.toNat) * k = h.toNat * k - l.toNat * k := Nat.sub_mul ..
      simp only [List.length_take, List.length_drop]; omega
    rcases hs with ⟨e, e0⟩ | ⟨b, off, cap, e, hb, hc1, hc2, hc⟩
    · subst e0
      have h' : h.toNat - l.toNat = 0 := by omega
      refine ⟨.slice none 0 0, ?_, ⟨hlen, .inl ⟨rfl, h'⟩⟩, fun _ _ _ e => by cases e⟩
      have := run none 0 (Nat.le_refl _)
      simp only [h', Option.map_none] at this
      simp [execOp, ho, e, this]
    · refine ⟨.slice (if cap = l.toNat then some ⟨b, off, none⟩ else (some (⟨b, off, none⟩ : Addr)).map (·.add (l.toNat * k))) (h.toNat - l.toNat) (cap - l.toNat), by simp only [execOp, ho, e, run (some ⟨b, off, none⟩) cap hc1, Sem.run_bind, Result.andThen_ok, Sem.run_pure, Option.map_none], ⟨hlen, .inr ?_⟩, ?_⟩
      · by_cases hcl : cap = l.toNat
        · refine ⟨b, off, cap - l.toNat, by simp [hcl], hb, by omega, by omega, fun i hi => ?_⟩
          have : h.toNat - l.toNat = 0 := by omega
          rw [this] at hi; omega
        · refine ⟨b, off + l.toNat * k, cap - l.toNat, by simp [hcl, Addr.add_mid], hb, by omega, by omega, fun i hi => ?_⟩
          have e : (h.toNat - l.toNat) * k = h.toNat * k - l.toNat * k := Nat.sub_mul ..
          have : h.toNat * k ≤ n * k := Nat.mul_le_mul_right _ (by omega)
          rw [List.getElem?_take, if_pos hi, List.getElem?_drop, ← hc (l.toNat * k + i) (by omega), Nat.add_assoc]
      · intro ad l' c' e'
        have : ad.block = b := by
          by_cases hcl : cap = l.toNat
          · simp [hcl] at e'; rw [← e'.1]
          · simp [hcl, Addr.add_mid] at e'; rw [← e'.1]
        rw [this]; exact hA _ _ _ e
theorem valid_fld_p (tb : Tb) {t f : Nat} {x : Operand} {b off : Nat} (ho : o.op = .fieldAddr t x f) (hw : want ops S o = true) (hx : S.ev x = .m (.c (.p b off))) (hn : flOk P tb t f = true) : Valid P ops X o S ⟨.m (.c (.p b (off + tb.off t f))), [], []⟩ := valid_fld_p' ho hw hx (flOk_spec hn)
theorem valid_fld_rp (tb : Tb) {t f : Nat} {x : Operand} {b off : Nat} (ho : o.op = .fieldAddr t x f) (hw : want ops S o = true) (hx : S.ev x = .m (.c (.rp b off))) (hn : flOk P tb t f = true) : Valid P ops X o S ⟨.m (.c (.rp b (off + tb.off t f))), [], []⟩ := valid_fld_rp' ho hw hx (flOk_spec hn)
theorem valid_fld_q (tb : Tb) {t f : Nat} {x : Operand} {xs : List Value} (ho : o.op = .fieldAddr t x f) (hw : want ops S o = true) (hx : S.ev x = .m (.c (.q xs))) (hn : flOk P tb t f = true) : Valid P ops X o S ⟨.m (.c (.q (xs.drop (tb.off t f)))), [], []⟩ := valid_fld_q' ho hw hx (flOk_spec hn)
theorem valid_load_rp (tb : Tb) {t : TypeId} {x : Operand} {b off e k n : Nat} {xs : List Value} (ho : o.op = .load t x) (hw : want ops S o = true) (hx : S.ev x = .m (.c (.rp b off))) (hb : S.hp b = .live (.row e k n xs)) (ht : tyOk P tb t = true) (hin : inT tb t off xs.length = true) : Valid P ops X o S ⟨.m (partT tb t (xs.map .v) off), [], [b]⟩ :=
  valid_load_rp' ho hw hx hb (partT_A ht (by rw [List.length_map]; exact inT_1 hin)) (partT_len ht (by rw [List.length_map]; exact inT_2 hin))
end Go.Proofs.YtkffmaeiplgjeaaGreatDoor.Ax
/- The abstract walk: literals, calls, new blocks, stores, append. -/
namespace Go.Proofs.YtkffmaeiplgjeaaGreatDoor.Ax
open Go.RowKit Go.Proofs.YtkffmaeiplgjeaaGreatDoor.MemL Go.Proofs.YtkffmaeiplgjeaaGreatDoor.RegR
set_option linter.unusedVariables false
set_option linter.unusedSimpArgs false
variable {P : Program} {ops : Array Oper} {X : Cx} {o : Oper} {S : St}
def Cm.cells : Cm → List Ce
  | .c x => [x]
  | .ag cs => cs
theorem putA_R {E : En} : ∀ (l : List Ce) (vs : List Value) (o : Nat) (cs : List Ce) (cur : Array Value), All2 (Ce.R E) cs cur.toList → All2 (Ce.R E) l vs → All2 (Ce.R E) (putA cs o l) (putAt cur o vs).toList
  | [], [], o, cs, cur, h, _ => h
  | x :: l, v :: vs, o, cs, cur, h, h' => by
    simp only [putA, putAt]
    refine putA_R l vs (o + 1) _ _ ?_ h'.2
    rw [Array.toList_setIfInBounds]
    exact All2.set _ _ _ _ _ h h'.1
  | [], _ :: _, _, _, _, _, h => h.elim
  | _ :: _, [], _, _, _, _, h => h.elim
theorem putA_length : ∀ (l : List Ce) (o : Nat) (cs : List Ce), (putA cs o l).length = cs.length
  | [], _, _ => rfl
  | x :: l, o, cs => by simp only [putA]; rw [putA_length l]; simp
def okC : Ce → Bool
  | .v x => x.oneCell'
  | .any => false
  | _ => true
theorem okC_one {E : En} : ∀ (c : Ce) (v : Value), okC c = true → c.R E v → (∀ b v', c = .o b → E.τ b = v' → v'.oneCell' = true) → v.oneCell' = true
  | .v x, v, h, hr, _ => by have hr : v = x := hr; subst hr; exact h
  | .s n k xs, v, _, hr, _ => by
    obtain ⟨⟨_, h⟩, _⟩ := hr
    rcases h with ⟨rfl, _⟩ | ⟨_, _, _, rfl, _⟩ <;> rfl
  | .q xs, v, _, hr, _ => by obtain ⟨_, _, rfl, _⟩ := hr; rfl
  | .p b off, v, _, hr, _ => by obtain ⟨_, _, _, rfl⟩ := hr; rfl
  | .o b, v, _, hr, h => by obtain ⟨_, rfl⟩ := hr; exact h b _ rfl rfl
  | .rp b off, v, _, hr, _ => by obtain ⟨_, _, _, _, _, rfl⟩ := hr; rfl
  | .f n k xs, v, _, hr, _ => by
    obtain ⟨⟨_, h⟩, _⟩ := hr
    rcases h with ⟨rfl, _⟩ | ⟨_, _, _, rfl, _⟩ <;> rfl
  | .bs b off n, v, _, hr, _ => by obtain ⟨_, _, _, rfl⟩ := hr; rfl
  | .any, _, h, _, _ => by cases h
theorem cm_cells {E : En} : ∀ (m : Cm) (v : Value), (∀ c, m = .c c → okC c = true) → (∀ b v', m = .c (.o b) → E.τ b = v' → v'.oneCell' = true) → m.R E v → All2 (Ce.R E) m.cells v.cells.toList
  | .c x, v, hok, ho, hr => by
    have h1 := okC_one x v (hok x rfl) hr (fun b v' e => ho b v' (by rw [e]))
    have : v.cells = #[v] := by cases v <;> first | rfl | (simp [Value.oneCell'] at h1)
    rw [this]
    exact ⟨hr, trivial⟩
  | .ag cs, v, _, _, ⟨vs, e, hr⟩ => by subst e; exact hr
/-! ### literals -/
def fillA (place : Nat → Option (Nat × Nat)) : List Ce → List (Nat × Cm) → Option (List Ce)
  | cs, [] => some cs
  | cs, (i, m) :: r => match place i with
    | none => none
    | some (off, size) => cond (Nat.beq m.cells.length size && Nat.ble (off + m.cells.length) cs.length && m.cells.all okC) (fillA place (putA cs off m.cells) r) none
theorem foldl_put : ∀ (vs : List Value) (off k : Nat) (cur : Array Value), (vs.zipIdx k).foldl (fun cs (p : Value × Nat) => cs.setIfInBounds (off + p.2) p.1) cur = putAt cur (off + k) vs
  | [], _, _, _ => rfl
  | v :: vs, off, k, cur => by
    simp only [List.zipIdx_cons, List.foldl_cons, putAt]
    rw [foldl_put vs off (k + 1)]
    rfl
theorem fill_of {E : En} (hE : ∀ b, (E.τ b).oneCell' = true) (place : Nat → Option (Nat × Nat)) : ∀ (ps : List (Nat × Cm)) (qs : List (Nat × Value)) (cs cs' : List Ce) (cur : Array Value), All2 (fun p q => p.1 = q.1 ∧ p.2.R E q.2) ps qs → All2 (Ce.R E) cs cur.toList → fillA place cs ps = some cs' →
    ∃ cur', Instr.fill place cur qs = some cur' ∧ All2 (Ce.R E) cs' cur'.toList
  | [], [], cs, cs', cur, _, h, e => by simp only [fillA, Option.some.injEq] at e; subst e; exact ⟨cur, rfl, h⟩
  | (i, m) :: ps, (j, v) :: qs, cs, cs', cur, hp, h, e => by
    obtain ⟨⟨rfl, hm⟩, hp⟩ := hp
    simp only [fillA] at e
    simp only [Instr.fill]
    cases hpl : place i with
    | none => simp [hpl] at e
    | some os =>
      obtain ⟨off, size⟩ := os
      simp only [hpl] at e ⊢
      cases hc : (Nat.beq m.cells.length size && Nat.ble (off + m.cells.length) cs.length && m.cells.all okC) with
      | false => rw [hc] at e; cases e
      | true =>
        rw [hc] at e
        simp only [Bool.and_eq_true] at hc
        obtain ⟨⟨c1, c2⟩, c3⟩ := hc
        have hcs := cm_cells m v (fun c hc => by subst hc; simpa [Cm.cells] using c3) (fun b v' _ hv => hv ▸ hE b) hm
        have hlen := All2.length _ _ hcs
        have hlen2 := All2.length _ _ h
        have c1 := Nat.eq_of_beq_eq_true c1
        have c2 := Nat.le_of_ble_eq_true c2
        simp only [Array.length_toList] at hlen hlen2
        have n1 : ¬ (v.cells.size ≠ size || decide (off + v.cells.size > cur.size)) = true := by simp; omega
        rw [if_neg n1]
        have := foldl_put v.cells.toList off 0 cur
        have hz : Array.foldl (fun cs (x : Value × Nat) => cs.setIfInBounds (off + x.2) x.1) cur v.cells.zipIdx = putAt cur off v.cells.toList := by
          rw [← Array.foldl_toList, Array.toList_zipIdx]; exact this
        have := fill_of hE place ps qs _ cs' (putAt cur off v.cells.toList) hp (putA_R _ _ _ _ _ h hcs) e
        rw [← hz] at this
        exact this
  | [], _ :: _, _, _, _, h, _, _ => h.elim
  | _ :: _, [], _, _, _, h, _, _ => h.elim
def partsA (S : St) : List (Nat × Operand) → Option (List (Nat × Cm))
  | [] => some []
  | (i, x) :: r => match S.ev x, partsA S r with
    | .m m, some l => some ((i, m) :: l)
    | _, _ => none
theorem partsA_R {E : En} {a : Act} : ∀ (ps : List (Nat × Operand)) (l : List (Nat × Cm)), partsA S ps = some l → (∀ p ∈ ps, (S.ev p.2).R E (a.eval p.2)) → All2 (fun p q => p.1 = q.1 ∧ p.2.R E q.2) l (ps.map fun p => (p.1, a.eval p.2))
  | [], l, h, _ => by simp only [partsA, Option.some.injEq] at h; subst h; trivial
  | (i, x) :: r, l, h, hR => by
    simp only [partsA] at h
    split at h
    · rename_i m l' hm hl
      cases h
      refine ⟨⟨rfl, ?_⟩, partsA_R r l' hl (fun p hp => hR p (List.mem_cons_of_mem _ hp))⟩
      have := hR (i, x) (by simp)
      simp only [hm] at this
      exact this
    · cases h
def placesA (P : Program) (t : TypeId) : Option (Nat → Option (Nat × Nat)) :=
  match P.underlying t with
  | some (.array _ e) => (P.info? e).map fun ie => fun i => some (i * ie.size, ie.size)
  | some (.struct fields) => (fields.toList.mapM (fun f => (P.info? f.type).map fun i => (f.offset, i.size))).map fun places => fun i => places[i]?
  | _ => none
def zeroA (P : Program) (t : TypeId) : Option (List Ce) := ((P.info? t).bind (·.zero)).map (fun z => z.cells.toList.map .v)
def buildA (P : Program) (t : TypeId) (l : List (Nat × Cm)) : Option (List Ce) :=
  match placesA P t, zeroA P t with
  | some pl, some z => fillA pl z l
  | _, _ => none
theorem built_of {t : TypeId} {l : List (Nat × Cm)} {cs : List Ce} {E : En} (hE : ∀ b, (E.τ b).oneCell' = true) (h : buildA P t l = some cs) (qs : List (Nat × Value)) (hR : All2 (fun p q => p.1 = q.1 ∧ p.2.R E q.2) l qs) : ∃ vs, P.built t qs = some vs ∧ All2 (Ce.R E) cs vs.toList := by
  unfold buildA at h
  split at h
  · rename_i pl z hpl hz
    unfold zeroA at hz
    obtain ⟨zv, hzv, rfl⟩ := Option.map_eq_some_iff.1 hz
    obtain ⟨it, hit, hz0⟩ := Option.bind_eq_some_iff.1 hzv
    have hzR : All2 (Ce.R E) (zv.cells.toList.map .v) zv.cells.toList := All2.of_map (R := Ce.R E) Ce.v (fun _ => rfl) _
    obtain ⟨cur, hc, hcR⟩ := fill_of hE pl l qs _ cs zv.cells hR hzR h
    refine ⟨cur, ?_, hcR⟩
    unfold placesA at hpl
    unfold Program.built
    split at hpl
    · rename_i n e hu
      obtain ⟨ie, hie, rfl⟩ := Option.map_eq_some_iff.1 hpl
      simp only [hit, hu, hz0, hie]; exact hc
    · rename_i fields hu
      obtain ⟨places, hp, rfl⟩ := Option.map_eq_some_iff.1 hpl
      simp only [hit, hu, hz0, hp]
      have : (fun x => places.toArray[x]?) = fun i : Nat => places[i]? := by funext i; simp
      rw [this]; exact hc
    · cases hpl
  · cases h
theorem valid_build {t : TypeId} {parts : Array (Nat × Operand)} {l : List (Nat × Cm)} {cs : List Ce} (ho : o.op = .build t parts) (hw : want ops S o = true) (hl : partsA S parts.toList = some l) (hc : buildA P t l = some cs) : Valid P ops X o S ⟨.m (.ag cs), [], []⟩ :=
  valid_val [] hw fun S2 τ a w h _ hS => by
    have hR := partsA_R (S := S) (E := env X S2.hp τ w) (a := a) parts.toList l hl (fun p hp => h p.2 (by rw [ho]; simp [Op.operands]; exact ⟨p.1, by simpa using hp⟩))
    obtain ⟨vs, hb, hv⟩ := built_of (E := env X S2.hp τ w) hS.one hc _ hR
    refine ⟨.agg vs, ?_, vs, rfl, hv⟩
    have := run_build w t (parts.map fun p => (p.1, a.eval p.2)) vs (by simpa using hb)
    simp only [execOp, ho, this, Sem.run_bind, Result.andThen_ok, Sem.run_pure]
/-! ### calls -/
def closedC : Ce → Bool
  | .p _ _ | .o _ | .rp _ _ | .f _ _ _ | .bs _ _ _ => false
  | _ => true
def closedM : Cm → Bool
  | .c x => closedC x
  | .ag cs => cs.all closedC
def closedV : AV → Bool
  | .m m => closedM m
  | .tu l => l.all closedM
/-- values of a caller -/
def en0 (A : Nat → Prop) (w : World) : En := ⟨A, fun _ => False, fun _ => .bool false, w⟩
theorem ceR_map {E F : En} (hw : F.w = E.w) (hA : ∀ g, g < E.w.heap.size → E.A g → F.A g) : ∀ (c : Ce) (v : Value), closedC c = true → c.R E v → c.R F v
  | .v x, v, _, h => h
  | .s n k xs, v, _, ⟨h1, h2⟩ => ⟨by rw [hw]; exact h1, fun a l c e => by
      rcases h1.2 with ⟨e', _⟩ | ⟨b, o', cap, e', hb, _⟩
      · rw [e'] at e; cases e
      · rw [e'] at e; cases e; exact hA _ hb (h2 _ _ _ e')⟩
  | .q xs, v, _, ⟨g, o', h1, h2, h3, h4⟩ => ⟨g, o', h1, by rw [hw]; exact h2, hA g h2 h3, by rw [hw]; exact h4⟩
  | .any, _, _, _ => trivial
  | .p _ _, _, h, _ => by cases h
  | .o _, _, h, _ => by cases h
  | .rp _ _, _, h, _ => by cases h
  | .f _ _ _, _, h, _ => by cases h
  | .bs _ _ _, _, h, _ => by cases h
theorem all2_map {E F : En} (hw : F.w = E.w) (hA : ∀ g, g < E.w.heap.size → E.A g → F.A g) : ∀ (cs : List Ce) (vs : List Value), cs.all closedC = true → All2 (Ce.R E) cs vs → All2 (Ce.R F) cs vs
  | [], [], _, _ => trivial
  | c :: cs, v :: vs, h, k => by
    simp only [List.all_cons, Bool.and_eq_true] at h
    exact ⟨ceR_map hw hA c v h.1 k.1, all2_map hw hA cs vs h.2 k.2⟩
  | [], _ :: _, _, k => k.elim
  | _ :: _, [], _, k => k.elim
theorem cmR_map {E F : En} (hw : F.w = E.w) (hA : ∀ g, g < E.w.heap.size → E.A g → F.A g) : ∀ (c : Cm) (v : Value), closedM c = true → c.R E v → c.R F v
  | .c x, v, h, k => ceR_map hw hA x v h k
  | .ag cs, v, h, ⟨vs, e, k⟩ => ⟨vs, e, all2_map hw hA cs _ h k⟩
theorem all2m_map {E F : En} (hw : F.w = E.w) (hA : ∀ g, g < E.w.heap.size → E.A g → F.A g) : ∀ (cs : List Cm) (vs : List Value), cs.all closedM = true → All2 (Cm.R E) cs vs → All2 (Cm.R F) cs vs
  | [], [], _, _ => trivial
  | c :: cs, v :: vs, h, k => by
    simp only [List.all_cons, Bool.and_eq_true] at h
    exact ⟨cmR_map hw hA c v h.1 k.1, all2m_map hw hA cs vs h.2 k.2⟩
  | [], _ :: _, _, k => k.elim
  | _ :: _, [], _, k => k.elim
theorem avR_map {E F : En} (hw : F.w = E.w) (hA : ∀ g, g < E.w.heap.size → E.A g → F.A g) : ∀ (c : AV) (v : Value), closedV c = true → c.R E v → c.R F v
  | .m x, v, h, k => cmR_map hw hA x v h k
  | .tu l, v, h, ⟨vs, e, k⟩ => ⟨vs, e, all2m_map hw hA l _ h k⟩
/-- what a function answers, wherever it is called, told as plain data -/
def CallOk (P : Program) (G : World → Prop) (k : FuncId) (args : List Cm) (r : AV) : Prop := closedV r = true ∧ args.all closedM = true ∧ ∀ (A : Nat → Prop) (W : World) (vs : Array Value), G W → All2 (Cm.R (en0 A W)) args vs.toList →
  Calls P k vs W (fun e w' => ∃ v, e = .returned v ∧ Below W.heap.size W w' ∧ r.R (en0 (fun g => A g ∨ W.heap.size ≤ g) w') v)
def argsA (S : St) : List Operand → Option (List Cm)
  | [] => some []
  | x :: r => match S.ev x, argsA S r with
    | .m m, some l => some (m :: l)
    | _, _ => none
theorem argsA_R {E : En} {a : Act} : ∀ (ps : List Operand) (l : List Cm), argsA S ps = some l → (∀ p ∈ ps, (S.ev p).R E (a.eval p)) → All2 (Cm.R E) l (ps.map a.eval)
  | [], l, h, _ => by simp only [argsA, Option.some.injEq] at h; subst h; trivial
  | x :: r, l, h, hR => by
    simp only [argsA] at h
    split at h
    · rename_i m l' hm hl
      cases h
      refine ⟨?_, argsA_R r l' hl (fun p hp => hR p (List.mem_cons_of_mem _ hp))⟩
      have := hR x (by simp)
      rw [hm] at this
      exact this
    · cases h
def callable (P : Program) (k : FuncId) : Bool := match P.funcs[k]? with | some fn => fn.body.isSome && !(fn.name == "runtime.NumGoroutine") | none => false
theorem run_call {k : FuncId} {xs : Array Operand} {ts : Array TypeId} (ho : o.op = .call { callee := .value (.func k), args := xs, argTypes := ts }) (hk : callable P k = true) (a : Act) (w : World) : (execOp a.eval o).run P w = .ok (.enter k (xs.map a.eval)) w := by
  unfold callable at hk
  split at hk
  · rename_i fn hf
    simp only [Bool.and_eq_true, Bool.not_eq_true'] at hk
    obtain ⟨h1, h2⟩ := hk
    have h2 : ¬ fn.name = "runtime.NumGoroutine" := by simpa using h2
    have h3 : ¬ fn.body = none := by intro e; rw [e] at h1; cases h1
    simp [execOp, ho, resolve, Act.eval, Deferred.ofValue, invoke, callFunc, hf, h2, h3]
  · cases hk
theorem valid_call {k : FuncId} {xs : Array Operand} {ts : Array TypeId} {l : List Cm} {r : AV} (ho : o.op = .call { callee := .value (.func k), args := xs, argTypes := ts }) (hw : want ops S o = true) (hk : callable P k = true) (hc : CallOk P X.G k l r) (hl : argsA S xs.toList = some l) : Valid P ops X o S ⟨r, [], []⟩ := fun S2 a w h1 h2 h3 ⟨τ, hS⟩ => by
  refine .inl ⟨want_spec hw h1 h3 hS, ?_⟩
  rw [run_call ho hk]
  obtain ⟨c1, c2, hc⟩ := hc
  have hR := argsA_R (S := S) (E := env X S2.hp τ w) (a := a) xs.toList l hl (fun x hx => by
    have hm : x ∈ o.op.operands := by rw [ho]; simp [Op.operands, Call.operands]; exact .inr (by simpa using hx)
    rw [← ev_same h1 hm]; exact hS.ev x (fun t e => h3 t (.inl (looks_op (e ▸ hm)))))
  have hR' := all2m_map (F := en0 (alw X S2.hp τ) w) (E := env X S2.hp τ w) rfl (fun _ _ h => h) _ _ c2 hR
  refine (hc (alw X S2.hp τ) w (xs.map a.eval) (X.hG w hS.bel) (by simpa using hR')).mono ?_
  rintro e w' ⟨v, rfl, hb, hr⟩
  refine ⟨v, rfl, τ, hS.below hb ?_⟩
  refine avR_map (E := en0 _ w') (F := env X S2.hp τ w') rfl (fun g _ hg => ?_) _ _ c1 hr
  rcases hg with hg | hg
  · exact hg
  · exact ⟨.inr (Nat.le_trans hS.bel.size hg), fun b hb' he => by have := (hS.own b g hb' he).2; omega⟩
end Go.Proofs.YtkffmaeiplgjeaaGreatDoor.Ax
/- The abstract walk: blocks that are made, written, appended to. -/
namespace Go.Proofs.YtkffmaeiplgjeaaGreatDoor.Ax
open Go.RowKit Go.Proofs.YtkffmaeiplgjeaaGreatDoor.MemL Go.Proofs.YtkffmaeiplgjeaaGreatDoor.RegR
set_option linter.unusedVariables false
set_option linter.unusedSimpArgs false
variable {P : Program} {ops : Array Oper} {X : Cx} {o : Oper} {S : St}
def setτ (τ : Nat → Value) (b : Nat) (v : Value) : Nat → Value := fun i => if i = b then v else τ i
theorem upd_one {h : Nat → Hs} {b i : Nat} {k : Bk} : upd [(b, .live k)] h i = if i = b then .live k else h i := by
  simp only [upd]
  by_cases e : i = b
  · subst e; simp [Nat.beq_refl, put1]
  · simp [beq_false e, e]
theorem upd_pat {h : Nat → Hs} {b i off : Nat} {l cs : List Ce} (hb : h b = .live (.box cs)) : upd [(b, .patch off l)] h i = if i = b then .live (.box (putA cs off l)) else h i := by
  simp only [upd]
  by_cases e : i = b
  · subst e; simp [Nat.beq_refl, put1, hb]
  · simp [beq_false e, e]
/-- a new block -/
theorem SimT.newb {τ : Nat → Value} {a : Act} {w w' : World} (h : SimT X S τ a w) {b : Nat} (hf : S.hp b = .fresh) (hb : Below w.heap.size w w') {v : Value} {g : Nat} (hv : occ v = some g) (hg : w.heap.size ≤ g ∧ g < w'.heap.size) (h1 : v.oneCell' = true)
    {k : Bk} (hk : ∀ E : En, (env X S.hp τ w).le E → E.w = w' → k.R E X.base v) {d : Option Tmp} {r : AV} {u : Value} {rd : List Rd} (hr : r.R (env X (upd [(b, .live k)] S.hp) (setτ τ b v) w') u) :
    SimT X (S.app d ⟨r, [(b, .live k)], rd⟩) (setτ τ b v) (a.put d u) w' := by
  have hne : ∀ i, S.hp i ≠ .fresh → i ≠ b := fun i hi e => hi (e ▸ hf)
  have hal : ∀ i, alive (upd [(b, .live k)] S.hp) i → i = b ∨ (i ≠ b ∧ alive S.hp i) := fun i ⟨k', hi⟩ => by
    rw [upd_one] at hi
    by_cases e : i = b
    · exact .inl e
    · rw [if_neg e] at hi; exact .inr ⟨e, k', hi⟩
  have hle : (env X S.hp τ w).le (env X (upd [(b, .live k)] S.hp) (setτ τ b v) w') := by
    refine ⟨fun i hi => ⟨?_, ?_⟩, fun g' hg' ha => ⟨ha.1, fun i hi => ?_⟩, hb.size, fun g' o' hg' _ => hb.cell (p := ⟨g', o', none⟩) hg'⟩
    · show upd _ _ i ≠ _; rw [upd_one, if_neg (hne i hi)]; exact hi
    · show setτ τ b v i = τ i; unfold setτ; rw [if_neg (hne i hi)]
    · show occ (setτ τ b v i) ≠ some g'
      have hg'' : g' < w.heap.size := hg'
      unfold setτ
      rcases hal i hi with e | ⟨e, hi⟩
      · rw [if_pos e, hv]; intro e'; cases e'; omega
      · rw [if_neg e]; exact ha.2 i hi
  refine h.turn (u := [(b, .live k)]) hle (h.bel.trans (hb.mono h.bel.size)) (fun i k' hi => ?_) (fun i g' hi ho => ?_) (fun i j g' hij hi hj ho => ?_) (fun i => ?_) hr
  · rw [upd_one] at hi
    unfold setτ
    by_cases e : i = b
    · rw [if_pos e] at hi ⊢; cases hi; exact hk _ hle rfl
    · rw [if_neg e] at hi ⊢
      have := h.hp i k' hi
      cases k' with
      | box cs =>
        obtain ⟨g', vs, e1, e2, e3⟩ := this
        exact ⟨g', vs, e1, Bx.below e2 hb, All2.mono (ceR_le hle) _ _ e3⟩
      | row e k n xs => exact bkR_below (X := X) (h := S.hp) (τ := τ) hb _ _ _ this
  · unfold setτ at ho
    rcases hal i hi with e | ⟨e, hi⟩
    · rw [if_pos e, hv] at ho; cases ho; exact ⟨Nat.le_trans h.bel.size hg.1, hg.2⟩
    · rw [if_neg e] at ho; exact ⟨(h.own i g' hi ho).1, Nat.lt_of_lt_of_le (h.own i g' hi ho).2 hb.size⟩
  · unfold setτ at ho ⊢
    rcases hal i hi with e | ⟨e, hi⟩
    · rw [if_pos e, hv] at ho; cases ho
      rcases hal j hj with e' | ⟨e', hj⟩
      · exact absurd (e.trans e'.symm) hij
      · rw [if_neg e']; intro hj'; have := (h.own j g hj hj').2; omega
    · rw [if_neg e] at ho
      rcases hal j hj with e' | ⟨e', hj⟩
      · rw [if_pos e', hv]; intro hj'; cases hj'; have := (h.own i _ hi ho).2; omega
      · rw [if_neg e']; exact h.sep i j g' hij hi hj ho
  · unfold setτ; split
    · exact h1
    · exact h.one i
theorem valid_newbox {b : Nat} {cs : List Ce} (hw : want ops S o = true) (hf : S.hp b = .fresh)
    (hrun : ∀ (S2 : St) (τ : Nat → Value) (a : Act) (w : World), (∀ x ∈ o.op.operands, (S.ev x).R (env X S2.hp τ w) (a.eval x)) → (∀ i, (τ i).oneCell' = true) → ∃ vs T, (execOp a.eval o).run P w = .ok (.value (.pointer (some ⟨w.heap.size, 0, none⟩))) (w.alloc (.cells vs T)) ∧ All2 (Ce.R (env X S2.hp τ w)) cs vs.toList) :
    Valid P ops X o S ⟨.m (.c (.p b 0)), [(b, .live (.box cs))], []⟩ := fun S2 a w h1 h2 h3 ⟨τ, hS⟩ => by
  refine .inl ⟨want_spec hw h1 h3 hS, ?_⟩
  obtain ⟨vs, T, hr, hR⟩ := hrun S2 τ a w (fun x hx => by rw [← ev_same h1 hx]; exact hS.ev x (fun t e => h3 t (.inl (looks_op (e ▸ hx))))) hS.one
  rw [hr]
  have hf2 : S2.hp b = .fresh := Eq.trans (h2 (.all b) (by simp [Ef.foot, upRd])) hf
  refine ⟨_, hS.newb (k := .box cs) hf2 ((Below.refl _ _).alloc (Nat.le_refl _) _) (v := .pointer (some ⟨w.heap.size, 0, none⟩)) (g := w.heap.size) rfl ⟨Nat.le_refl _, by rw [World.size_alloc]; omega⟩ rfl (fun E hE hw' => ⟨w.heap.size, vs, rfl, by rw [hw']; exact Bx.new, All2.mono (ceR_le hE) _ _ hR⟩) ?_⟩
  refine ⟨?_, w.heap.size, ?_, rfl⟩
  · show upd _ _ b ≠ _; rw [upd_one, if_pos rfl]; intro e; cases e
  · show setτ τ b _ b = _; unfold setτ; rw [if_pos rfl]
theorem valid_alloc {t : TypeId} {b : Nat} {cs : List Ce} (ho : o.op = .alloc t) (hd : o.dst = some b) (hw : want ops S o = true) (hf : S.hp b = .fresh) (hz : zeroA P t = some cs) : Valid P ops X o S ⟨.m (.c (.p b 0)), [(b, .live (.box cs))], []⟩ :=
  valid_newbox hw hf fun S2 τ a w _ _ => by
    unfold zeroA at hz
    obtain ⟨zv, hzv, rfl⟩ := Option.map_eq_some_iff.1 hz
    obtain ⟨it, hit, hz0⟩ := Option.bind_eq_some_iff.1 hzv
    refine ⟨zv.cells, t, ?_, All2.of_map (R := Ce.R _) Ce.v (fun _ => rfl) _⟩
    simp [execOp, ho, Instr.alloc, zeroValue, typeInfo, hit, hz0, newVar, newRow]
theorem valid_box {t : TypeId} {x : Operand} {b : Nat} {m : Cm} (ho : o.op = .box t x) (hd : o.dst = some b) (hw : want ops S o = true) (hf : S.hp b = .fresh) (hx : S.ev x = .m m) (hok : m.cells.all okC = true) : Valid P ops X o S ⟨.m (.c (.p b 0)), [(b, .live (.box m.cells))], []⟩ :=
  valid_newbox hw hf fun S2 τ a w h hone => by
    have h1 := h x (by rw [ho]; simp [Op.operands])
    rw [hx] at h1
    have hcs := cm_cells (E := env X S2.hp τ w) m (a.eval x) (fun c hc => by subst hc; simpa [Cm.cells] using hok) (fun b v' _ hv => by have := hone b; rw [← hv]; exact this) h1
    exact ⟨(a.eval x).cells, t, by simp [execOp, ho, Instr.box, newVar, newRow], hcs⟩
/-- an own block is written -/
theorem valid_store_p {t : TypeId} {x y : Operand} {b off k : Nat} {cs0 : List Ce} {m : Cm} (ho : o.op = .store t x y) (hw : want ops S o = true) (hx : S.ev x = .m (.c (.p b off))) (hb : S.hp b = .live (.box cs0)) (hy : S.ev y = .m m) (hk : sizeA P t = some k)
    (hok : (Nat.beq m.cells.length k && Nat.ble (off + m.cells.length) cs0.length && m.cells.all okC) = true) (hd : o.dst = none) : Valid P ops X o S ⟨.m (.c (.v undef)), [(b, .patch off m.cells)], []⟩ := fun S2 a w h1 h2 h3 ⟨τ, hS⟩ => by
  refine .inl ⟨want_spec hw h1 h3 hS, ?_⟩
  simp only [Bool.and_eq_true] at hok
  obtain ⟨⟨c1, c2⟩, c3⟩ := hok
  have c1 := Nat.eq_of_beq_eq_true c1
  have c2 := Nat.le_of_ble_eq_true c2
  have get : ∀ z ∈ o.op.operands, (S.ev z).R (env X S2.hp τ w) (a.eval z) := fun z hz => by rw [← ev_same h1 hz]; exact hS.ev z (fun t e => h3 t (.inl (looks_op (e ▸ hz))))
  have q1 := get x (by rw [ho]; simp [Op.operands])
  have q2 := get y (by rw [ho]; simp [Op.operands])
  rw [hx] at q1; rw [hy] at q2
  obtain ⟨u0, g, e1, e2⟩ := q1
  have e1 : τ b = .pointer (some ⟨g, 0, none⟩) := e1
  obtain ⟨cs, hb2, hlen2⟩ : ∃ cs2, S2.hp b = .live (.box cs2) ∧ cs2.length = cs0.length := by
    rcases h2 (.part b off m.cells.length) (by simp [Ef.foot, upRd]) with k | ⟨c1, c2, k1, k2, k3, _⟩
    · exact ⟨cs0, k.trans hb, rfl⟩
    · rw [hb] at k2; cases k2; exact ⟨c1, k1, k3⟩
  rw [← hlen2] at c2
  clear hb hlen2
  obtain ⟨g', vs, e3, hbx, hR⟩ := hS.hp b _ hb2
  rw [e1] at e3
  obtain rfl : g = g' := by simpa using e3
  have hcs := cm_cells (E := env X S2.hp τ w) m (a.eval y) (fun c hc => by subst hc; simpa [Cm.cells] using c3) (fun b v' _ hv => by have := hS.one b; rw [← hv]; exact this) q2
  have hl1 := All2.length _ _ hcs
  have hl2 := All2.length _ _ hR
  simp only [Array.length_toList] at hl1 hl2
  have hone : ∀ v ∈ (a.eval y).cells.toList, v.oneCell' = true := by
    cases m with
    | c x => 
      have h1 := okC_one x (a.eval y) (by simpa [Cm.cells] using c3) q2 (fun b v' _ hv => by have := hS.one b; rw [← hv]; exact this)
      have : (a.eval y).cells = #[a.eval y] := by cases hz : a.eval y <;> first | rfl | (rw [hz] at h1; simp [Value.oneCell'] at h1)
      rw [this]; intro v hv; simp at hv; subst hv; exact h1
    | ag l =>
      have : ∀ (l : List Ce) (vs : List Value), l.all okC = true → All2 (Ce.R (env X S2.hp τ w)) l vs → ∀ v ∈ vs, v.oneCell' = true := by
        intro l
        induction l with
        | nil => intro vs _ h v hv; cases vs with | nil => cases hv | cons _ _ => exact h.elim
        | cons x l ih =>
          intro vs hk h v hv
          cases vs with
          | nil => exact h.elim
          | cons u vs =>
            simp only [List.all_cons, Bool.and_eq_true] at hk
            rcases List.mem_cons.1 hv with rfl | hv
            · exact okC_one x v hk.1 h.1 (fun b v' _ hv => by have := hS.one b; rw [← hv]; exact this)
            · exact ih vs hk.2 h.2 v hv
      exact this l _ c3 hcs
  have hcell : ∀ j, j < (a.eval y).cells.toList.length → (w.cell? ⟨g, off + 0 + j, none⟩).isSome = true := fun j hj => by
    have hbx' := Bx.cell hbx (off + 0 + j)
    have : w.cell? ⟨g, off + 0 + j, none⟩ = vs[off + 0 + j]? := hbx'
    rw [this, Array.getElem?_eq_getElem (by simp only [Array.length_toList] at hj; omega)]; rfl
  have hst := run_storeCells_cells (P := P) g off (a.eval y).cells.toList 0 w hcell (fun j _ => Bx.free hbx _) hone
  simp only [Nat.add_zero] at hst
  have hrun : (execOp a.eval o).run P w = .ok .skip (w.setCells g off (a.eval y).cells.toList) := by
    have hs := sizeA_run hk w
    simp [execOp, ho, e2, Instr.storeAt, Instr.sureAddr, storeVar, hs, show (a.eval y).cells.size = k by omega, hst]
  rw [hrun]
  obtain ⟨T, hbx0⟩ := hbx
  have hheap := heap_setCells (w := w) (g := g) (T := T) (a.eval y).cells.toList off w vs hbx0
  have hfar : ∀ i, i ≠ g → (w.setCells g off (a.eval y).cells.toList).heap[i]? = w.heap[i]? := fun i hi => heap_cells_far hi _ _ _
  have hown := hS.own b g ⟨_, hb2⟩ (by rw [e1]; rfl)
  have hbel : Below X.base X.W0 (w.setCells g off (a.eval y).cells.toList) := below_cells hown.1 _ _ _ hS.bel
  have hsz : (w.setCells g off (a.eval y).cells.toList).heap.size = w.heap.size := by
    have : ∀ (l : List Value) (o : Nat) (w : World), (w.setCells g o l).heap.size = w.heap.size := by
      intro l; induction l with
      | nil => intro o w; rfl
      | cons v l ih => intro o w; simp only [World.setCells]; rw [ih]; simp [World.setCell]
    exact this _ _ _
  generalize w.setCells g off (a.eval y).cells.toList = w' at *
  have hal : ∀ i, alive (upd [(b, .patch off m.cells)] S2.hp) i → alive S2.hp i := fun i ⟨k', hi⟩ => by
    rw [upd_pat hb2] at hi
    by_cases e : i = b
    · subst e; exact ⟨_, hb2⟩
    · rw [if_neg e] at hi; exact ⟨k', hi⟩
  have hle : (env X S2.hp τ w).le (env X (upd [(b, .patch off m.cells)] S2.hp) τ w') := by
    refine ⟨fun i hi => ⟨?_, rfl⟩, fun g' hg' ha => ⟨ha.1, fun i hi => ha.2 i (hal i hi)⟩, by show w.heap.size ≤ w'.heap.size; omega, fun g' o' hg' ha => ?_⟩
    · show upd _ _ i ≠ _; rw [upd_pat hb2]; split
      · intro e; cases e
      · exact hi
    · have hne : g' ≠ g := fun e => ha.2 b ⟨_, hb2⟩ (by rw [e1, e]; rfl)
      exact World.cell?_of_block (hfar g' hne)
  refine ⟨τ, hS.turn (u := [(b, .patch off m.cells)]) hle hbel (fun i k' hi => ?_) (fun i g' hi ho' => ?_) (fun i j g' hij hi hj ho' => hS.sep i j g' hij (hal i hi) (hal j hj) ho') hS.one rfl⟩
  · rw [upd_pat hb2] at hi
    by_cases e : i = b
    · subst e
      rw [if_pos rfl] at hi; cases hi
      exact ⟨g, _, e1, ⟨T, hheap⟩, All2.mono (ceR_le hle) _ _ (putA_R _ _ _ _ _ hR hcs)⟩
    · rw [if_neg e] at hi
      have hk' := hS.hp i k' hi
      have hocc : ∀ g', occ (τ i) = some g' → g' ≠ g := fun g' hg' e' => hS.sep b i g (Ne.symm e) ⟨_, hb2⟩ ⟨_, hi⟩ (by rw [e1]; rfl) (by rw [hg', e'])
      cases k' with
      | box cs' =>
        obtain ⟨g', vs', x1, ⟨T', x2⟩, x3⟩ := hk'
        exact ⟨g', vs', x1, ⟨T', (hfar g' (hocc g' (by rw [x1]; rfl))).trans x2⟩, All2.mono (ceR_le hle) _ _ x3⟩
      | row e' k' n' xs' =>
        obtain ⟨x0, x1⟩ := hk'
        refine ⟨x0, ?_⟩
        rcases x1 with x1 | ⟨g', cap, cur, y1, y2, y3, y4⟩
        · exact .inl x1
        · exact .inr ⟨g', cap, cur, y1, y2, (hfar g' (hocc g' (by rw [y1]; rfl))).trans y3, y4⟩
  · have := hS.own i g' (hal i hi) ho'; omega
end Go.Proofs.YtkffmaeiplgjeaaGreatDoor.Ax
