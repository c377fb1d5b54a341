/- Texts of this claim, one behind the other: AxR, RfB. -/
import Derived.Test.YtkffmaeiplgjeaaGreatDoorM14
import Derived.Test.YtkffmaeiplgjeaaGreatDoorM15
/- The abstract walk: an own row gets another name; nothing is told as an own row; what is told of arguments. -/
namespace Go.Proofs.YtkffmaeiplgjeaaGreatDoor.Ax
open Go.RowKit Go.Proofs.YtkffmaeiplgjeaaGreatDoor.MemL Go.Proofs.YtkffmaeiplgjeaaGreatDoor.RegR
set_option linter.unusedVariables false
set_option linter.unusedSimpArgs false
variable {P : Program} {X : Cx} {S : St}
def St.mv (S : St) (b b' : Nat) (r : Bk) : St := ⟨fun t => frV b (.o b') (S.tm t), fun i => cond (Nat.beq i b') (.live r) (cond (Nat.beq i b) .dead (frH b (.o b') (S.hp i)))⟩
theorem sub_mv {b b' e n k : Nat} {xs : List Value} (hb : S.hp b = .live (.row e k n xs)) (hf : S.hp b' = .fresh) : Sub X S (S.mv b b' (.row e k n xs)) := fun a w ⟨τ, h⟩ => by
  have hne : b ≠ b' := fun e => by rw [e, hf] at hb; cases hb
  have hb1 : (S.mv b b' (.row e k n xs)).hp b' = .live (.row e k n xs) := by
    show cond (Nat.beq b' b') _ _ = _; rw [Nat.beq_refl]; rfl
  have hb2 : ∀ i, i ≠ b' → i ≠ b → (S.mv b b' (.row e k n xs)).hp i = frH b (.o b') (S.hp i) := fun i h1 h2 => by
    show cond (Nat.beq i b') _ _ = _; rw [beq_false h1]
    show cond (Nat.beq i b) _ _ = _; rw [beq_false h2]; rfl
  have hb3 : (S.mv b b' (.row e k n xs)).hp b = .dead := by
    show cond (Nat.beq b b') _ _ = _; rw [beq_false hne]
    show cond (Nat.beq b b) _ _ = _; rw [Nat.beq_refl]; rfl
  have fr : ∀ q, frH b (.o b') q ≠ .fresh ↔ q ≠ .fresh := fun q => by
    cases q with
    | live q => cases q <;> simp [frH]
    | fresh => simp [frH]
    | dead => simp [frH]
    | patch _ _ => simp [frH]
  have hal : ∀ i, alive (S.mv b b' (.row e k n xs)).hp i → i = b' ∨ (i ≠ b' ∧ i ≠ b ∧ alive S.hp i) := fun i ⟨q, hq⟩ => by
    by_cases e1 : i = b'
    · exact .inl e1
    · by_cases e2 : i = b
      · subst e2; rw [hb3] at hq; cases hq
      · rw [hb2 i e1 e2] at hq
        refine .inr ⟨e1, e2, ?_⟩
        cases hh : S.hp i with
        | live q' => exact ⟨q', hh⟩
        | fresh => rw [hh] at hq; cases hq
        | dead => rw [hh] at hq; cases hq
        | patch _ _ => rw [hh] at hq; cases hq
  have t1 : setτ τ b' (τ b) b' = τ b := by unfold setτ; rw [if_pos rfl]
  have t2 : ∀ i, i ≠ b' → setτ τ b' (τ b) i = τ i := fun i hi => by unfold setτ; rw [if_neg hi]
  have hle : (env X S.hp τ w).le (env X (S.mv b b' (.row e k n xs)).hp (setτ τ b' (τ b)) w) := by
    refine ⟨fun i hi => ?_, fun g _ ha => ⟨ha.1, fun i hi => ?_⟩, Nat.le_refl _, fun _ _ _ _ => rfl⟩
    · have hi : S.hp i ≠ .fresh := hi
      have e1 : i ≠ b' := fun e => hi (e ▸ hf)
      refine ⟨?_, t2 i e1⟩
      show (S.mv b b' (.row e k n xs)).hp i ≠ .fresh
      by_cases e2 : i = b
      · subst e2; rw [hb3]; intro e; cases e
      · rw [hb2 i e1 e2]; exact (fr _).2 hi
    · show occ (setτ τ b' (τ b) i) ≠ some g
      rcases hal i hi with rfl | ⟨e1, e2, hi⟩
      · rw [t1]; exact ha.2 b ⟨_, hb⟩
      · rw [t2 i e1]; exact ha.2 i hi
  have hC : ∀ (c : Ce) (v : Value), c.R (env X S.hp τ w) v → (frC b (.o b') c).R (env X (S.mv b b' (.row e k n xs)).hp (setτ τ b' (τ b)) w) v := fun c v hR => by
    cases c with
    | o i =>
      simp only [frC]
      by_cases ei : i = b
      · subst ei; rw [Nat.beq_refl]
        have : v = τ i := hR.2
        refine ⟨?_, ?_⟩
        · show (S.mv i b' (.row e k n xs)).hp b' ≠ .fresh
          rw [hb1]; intro e; cases e
        · show v = setτ τ b' (τ i) b'
          rw [t1]; exact this
      · rw [beq_false ei]; exact ceR_le hle _ _ hR
    | _ => exact ceR_le hle _ _ hR
  have hM : ∀ (c : Cm) (v : Value), c.R (env X S.hp τ w) v → (frM b (.o b') c).R (env X (S.mv b b' (.row e k n xs)).hp (setτ τ b' (τ b)) w) v := fun c v hR => by
    cases c with
    | c x => exact hC x v hR
    | ag cs => obtain ⟨vs, e', q⟩ := hR; exact ⟨vs, e', all2_fr _ hC _ _ q⟩
  refine ⟨setτ τ b' (τ b), h.size, h.nodef, h.bel, fun t ht => ?_, fun i q hq => ?_, fun i g hi ho => ?_, fun i j g hij hi hj ho => ?_, fun i => ?_⟩
  · have := h.tm t ht
    show (frV b (.o b') (S.tm t)).R _ _
    cases hv : S.tm t with
    | m m => rw [hv] at this; exact hM m _ this
    | tu l => rw [hv] at this; obtain ⟨vs, e', q⟩ := this; exact ⟨vs, e', all2_fr _ hM _ _ q⟩
  · rcases hal i ⟨q, hq⟩ with rfl | ⟨e1, e2, q', hq'⟩
    · rw [hb1] at hq; cases hq
      rw [t1]; exact h.hp b _ hb
    · rw [hb2 i e1 e2, hq'] at hq
      rw [t2 i e1]
      have hk := h.hp i q' hq'
      cases q' with
      | box cs =>
        simp only [frH] at hq; cases hq
        obtain ⟨g, vs, x1, x2, x3⟩ := hk
        exact ⟨g, vs, x1, x2, all2_fr _ hC _ _ x3⟩
      | row _ _ _ _ => simp only [frH] at hq; cases hq; exact hk
  · rcases hal i hi with rfl | ⟨e1, e2, hi⟩
    · rw [t1] at ho; exact h.own b g ⟨_, hb⟩ ho
    · rw [t2 i e1] at ho; exact h.own i g hi ho
  · rcases hal i hi with e0 | ⟨e1, e2, hi'⟩
    · rw [e0, t1] at ho
      rcases hal j hj with f0 | ⟨f1, f2, hj'⟩
      · exact absurd (e0.trans f0.symm) hij
      · rw [t2 j f1]; exact h.sep b j g (Ne.symm f2) ⟨_, hb⟩ hj' ho
    · rw [t2 i e1] at ho
      rcases hal j hj with f0 | ⟨f1, f2, hj'⟩
      · rw [f0, t1]; exact h.sep i b g e2 hi' ⟨_, hb⟩ ho
      · rw [t2 j f1]; exact h.sep i j g hij hi' hj' ho
  · by_cases e1 : i = b'
    · subst e1; rw [t1]; exact h.one b
    · rw [t2 i e1]; exact h.one i
def St.nl (S : St) (t b : Nat) (r : Bk) : St := ⟨fun t' => cond (Nat.beq t' t) (.m (.c (.o b))) (S.tm t'), fun i => cond (Nat.beq i b) (.live r) (S.hp i)⟩
/-- nothing, told as an own row -/
theorem sub_nil (t b e k : Nat) (ht : S.tm t = .m (.c (.v (.slice none 0 0)))) (hf : S.hp b = .fresh) : Sub X S (S.nl t b (.row e k 0 [])) := fun a w ⟨τ, h⟩ => by
  have hb1 : (S.nl t b (.row e k 0 [])).hp b = .live (.row e k 0 []) := by
    show cond (Nat.beq b b) _ _ = _; rw [Nat.beq_refl]; rfl
  have hb2 : ∀ i, i ≠ b → (S.nl t b (.row e k 0 [])).hp i = S.hp i := fun i h1 => by
    show cond (Nat.beq i b) _ _ = _; rw [beq_false h1]; rfl
  have hal : ∀ i, alive (S.nl t b (.row e k 0 [])).hp i → i = b ∨ (i ≠ b ∧ alive S.hp i) := fun i ⟨q, hq⟩ => by
    by_cases e1 : i = b
    · exact .inl e1
    · rw [hb2 i e1] at hq; exact .inr ⟨e1, q, hq⟩
  have t1 : setτ τ b (.slice none 0 0) b = .slice none 0 0 := by unfold setτ; rw [if_pos rfl]
  have t2 : ∀ i, i ≠ b → setτ τ b (.slice none 0 0) i = τ i := fun i hi => by unfold setτ; rw [if_neg hi]
  have hle : (env X S.hp τ w).le (env X (S.nl t b (.row e k 0 [])).hp (setτ τ b (.slice none 0 0)) w) := by
    refine ⟨fun i hi => ?_, fun g _ ha => ⟨ha.1, fun i hi => ?_⟩, Nat.le_refl _, fun _ _ _ _ => rfl⟩
    · have hi : S.hp i ≠ .fresh := hi
      have e1 : i ≠ b := fun e => hi (e ▸ hf)
      exact ⟨by show (S.nl t b (.row e k 0 [])).hp i ≠ .fresh; rw [hb2 i e1]; exact hi, t2 i e1⟩
    · show occ (setτ τ b (.slice none 0 0) i) ≠ some g
      rcases hal i hi with rfl | ⟨e1, hi⟩
      · rw [t1]; intro e; cases e
      · rw [t2 i e1]; exact ha.2 i hi
  refine ⟨setτ τ b (.slice none 0 0), h.size, h.nodef, h.bel, fun t' ht' => ?_, fun i q hq => ?_, fun i g hi ho => ?_, fun i j g hij hi hj ho => ?_, fun i => ?_⟩
  · show (cond (Nat.beq t' t) (.m (.c (.o b))) (S.tm t')).R _ _
    by_cases et : t' = t
    · subst et; rw [Nat.beq_refl]
      have := h.tm t' ht'
      rw [ht] at this
      have this : a.tmps.getD t' undef = .slice none 0 0 := this
      refine ⟨?_, ?_⟩
      · show (S.nl t' b (.row e k 0 [])).hp b ≠ .fresh
        rw [hb1]; intro e; cases e
      · show _ = setτ τ b (.slice none 0 0) b
        rw [t1]; exact this
    · rw [beq_false et]; exact avR_le hle _ _ (h.tm t' ht')
  · rcases hal i ⟨q, hq⟩ with rfl | ⟨e1, q', hq'⟩
    · rw [hb1] at hq; cases hq
      rw [t1]; exact World.ownsRow_nil w X.base e k
    · rw [hb2 i e1] at hq
      rw [t2 i e1]
      have hk := h.hp i q hq
      cases q with
      | box cs =>
        obtain ⟨g, vs, x1, x2, x3⟩ := hk
        exact ⟨g, vs, x1, x2, All2.mono (ceR_le hle) _ _ x3⟩
      | row _ _ _ _ => exact hk
  · rcases hal i hi with rfl | ⟨e1, hi⟩
    · rw [t1] at ho; cases ho
    · rw [t2 i e1] at ho; exact h.own i g hi ho
  · rcases hal i hi with e0 | ⟨e1, hi'⟩
    · rw [e0, t1] at ho; cases ho
    · rw [t2 i e1] at ho
      rcases hal j hj with f0 | ⟨f1, hj'⟩
      · rw [f0, t1]; intro e; cases e
      · rw [t2 j f1]; exact h.sep i j g hij hi' hj' ho
  · by_cases e1 : i = b
    · subst e1; rw [t1]; rfl
    · rw [t2 i e1]; exact h.one i
/-! ### less is asked of arguments -/
def ltM (c c' : Cm) : Prop := ∀ E v, c.R E v → c'.R E v
theorem all2m_lt {E : En} : ∀ (cs cs' : List Cm) (vs : List Value), All2 ltM cs cs' → All2 (Cm.R E) cs vs → All2 (Cm.R E) cs' vs
  | [], [], _, _, h => h
  | c :: cs, c' :: cs', [], _, h => h.elim
  | c :: cs, c' :: cs', v :: vs, k, h => ⟨k.1 _ _ h.1, all2m_lt cs cs' vs k.2 h.2⟩
  | [], _ :: _, _, k, _ => k.elim
  | _ :: _, [], _, k, _ => k.elim
theorem callOk_args {G : World → Prop} {k : FuncId} {args args' : List Cm} {r : AV} (h : CallOk P G k args' r) (hc : args.all closedM = true) (hlt : All2 ltM args args') : CallOk P G k args r :=
  ⟨h.1, hc, fun A W vs hG hR => h.2.2 A W vs hG (all2m_lt _ _ _ hlt hR)⟩
end Go.Proofs.YtkffmaeiplgjeaaGreatDoor.Ax
/- The abstract walk: the document's Set and Clear. -/
namespace Go.Proofs.YtkffmaeiplgjeaaGreatDoor.RfB
open Go.RowKit Go.Proofs.YtkffmaeiplgjeaaGreatDoor.Bv Go.Proofs.YtkffmaeiplgjeaaGreatDoor.VaSpec Go.Proofs.YtkffmaeiplgjeaaGreatDoor.Base Go.Proofs.YtkffmaeiplgjeaaGreatDoor.MemL Go.Proofs.YtkffmaeiplgjeaaGreatDoor.RegR Go.Proofs.YtkffmaeiplgjeaaGreatDoor.Ax Go.Proofs.YtkffmaeiplgjeaaGreatDoor.MemC Go.Proofs.YtkffmaeiplgjeaaGreatDoor.PutC Go.Proofs.YtkffmaeiplgjeaaGreatDoor.MemC3 Go.Proofs.YtkffmaeiplgjeaaGreatDoor.TzC Go.Proofs.YtkffmaeiplgjeaaGreatDoor.OkS Go.Proofs.YtkffmaeiplgjeaaGreatDoor.SpA Go.Proofs.YtkffmaeiplgjeaaGreatDoor.SpB Go.Proofs.YtkffmaeiplgjeaaGreatDoor.SpC Go.Proofs.YtkffmaeiplgjeaaGreatDoor.SpD Go.Proofs.YtkffmaeiplgjeaaGreatDoor.IterC Go.Proofs.YtkffmaeiplgjeaaGreatDoor.SpE Go.Proofs.YtkffmaeiplgjeaaGreatDoor.SpF Go.Proofs.YtkffmaeiplgjeaaGreatDoor.SpG Go.Proofs.YtkffmaeiplgjeaaGreatDoor.SpH Go.Proofs.YtkffmaeiplgjeaaGreatDoor.SpI Go.Proofs.YtkffmaeiplgjeaaGreatDoor.SpJ Go.Proofs.YtkffmaeiplgjeaaGreatDoor.SpK Go.Proofs.YtkffmaeiplgjeaaGreatDoor.SpN Go.Proofs.YtkffmaeiplgjeaaGreatDoor.RfP Go.Proofs.YtkffmaeiplgjeaaGreatDoor.RfQ Go.Proofs.YtkffmaeiplgjeaaGreatDoor.RfA
open Go.Proofs.YtkffmaeiplgjeaaGreatDoor.BitsC Go.Proofs.YtkffmaeiplgjeaaGreatDoor.PteSpec
set_option linter.unusedVariables false
set_option linter.unusedSimpArgs false
set_option maxRecDepth 10000
set_option maxHeartbeats 800000
attribute [local irreducible] Go.Proofs.YtkffmaeiplgjeaaGreatDoor.Ax.CallOk
theorem fl_snoc (l : List (Int × Int)) (c : Int × Int) : fl (l ++ [c]) = fl l ++ [.int .u64 c.1, .int .u64 c.2] := fl_append l [c]
theorem memA_eq {sz : Int} {l : List (Int × Int)} {n : Nat} {xs : List Value} (h1 : n = l.length) (h2 : xs = fl l) : memA sz l = .ag [cu sz, .s n 2 xs] := by rw [h1, h2]
theorem take_fold {α β : Type} (f : β → α → β) (b : β) (l : List α) (i : Nat) (a : α) (h : l[i]? = some a) : (l.take (i + 1)).foldl f b = f ((l.take i).foldl f b) a := by
  rw [List.take_add_one, h]; simp
theorem take_filt {α : Type} (f : α → Bool) (l : List α) (i : Nat) (a : α) (h : l[i]? = some a) : (l.take (i + 1)).filter f = (l.take i).filter f ++ [a].filter f := by
  rw [List.take_add_one, h]; simp
def setH (sz p v : Int) (m : List (Int × Int)) (i : Nat) (d : Bool) (n : Nat) (xs : List Value) : St := St.of [(1, .m (iu p)), (2, .m (iu v)), (3, .m (.c (.p 3 0))), (6, .m (.c (.p 6 0))), (7, .m (.c (.o 1000))), (8, .m (ib d)), (9, .m (ii i))] [(3, .live (.box [cu sz, .s m.length 2 (fl m)])), (6, .live (.box [cu 0, .v (.slice none 0 0)])), (1000, .live (.row 116 2 n xs))]
theorem rset03_ok (sz : Int) (m : List (Int × Int)) (p v : Int) (hs : Srt m) (hl : m.length ≤ 1000000) : Ok 49 [memA sz m, iu p, iu v] (.m (memA sz (putM m p v))) := by
  have hput := set_put p v m hs
  obtain ⟨b0, hb0⟩ : ∃ b0, b0 = decide (v = 0) := ⟨_, rfl⟩
  rw [← hb0] at hput
  obtain ⟨N, hN⟩ : ∃ N, N = (putM m p v).length := ⟨_, rfl⟩
  obtain ⟨XS, hXS⟩ : ∃ XS, XS = fl (putM m p v) := ⟨_, rfl⟩
  rw [memA_eq (sz := sz) hN hXS]
  have hvb : v = 0 ∧ b0 = true ∨ v ≠ 0 ∧ b0 = false := by by_cases h : v = 0 <;> simp [hb0, h]
  clear hb0
  rcases hvb with ⟨hv, rfl⟩ | ⟨hv, rfl⟩
  · refine callOk_of 64 Tryz.func49 rfl rfl rfl rfl ?_ GG.to
    intro W A hG
    repeat (first
      | (refine go_at rfl ?_; first
          | refine go_do (valid_mv (.inl rfl) rfl) rfl ?_
          | refine go_do (valid_mv (.inr rfl) rfl) rfl ?_
          | refine go_do (valid_cmp rfl rfl rfl rfl (by first | exact .eql1 (by omega) | exact .eql0 (by omega) | exact .neq1 (by omega) | exact .neq0 (by omega) | exact .lss1 (by omega) | exact .lss0 (by omega) | exact .leq1 (by omega) | exact .leq0 (by omega) | exact .gtr1 (by omega) | exact .gtr0 (by omega) | exact .geq1 (by omega) | exact .geq0 (by omega) | constructor)) rfl ?_
          | refine go_do (valid_box rfl rfl rfl rfl rfl rfl) rfl ?_
          | refine go_do (valid_alloc rfl rfl rfl rfl rfl) rfl ?_)
      | (refine hK _ ?_; clear hK K)
      | refine aw_text rfl ?_
      | refine aw_block ?_
      | refine aw_seq_k (fun K hK => ?_))
    refine aw_loopH (α := Nat × List (Int × Int) × Bool × Nat × List Value) (fun q => q.1 ≤ m.length ∧ (q.2.1, q.2.2.1) = (m.take q.1).foldl (stepS p v) ([], true) ∧ q.2.2.2.1 = q.2.1.length ∧ q.2.2.2.2 = fl q.2.1 ∧ q.2.1.length ≤ 2 * q.1) (fun q => setH sz p v m q.1 q.2.2.1 q.2.2.2.1 q.2.2.2.2) (fun q => m.length - q.1) (0, [], true, 0, []) ⟨Nat.zero_le _, rfl, rfl, rfl, Nat.le_refl _⟩ (Sub.trans (sub_nil 7 1000 116 2 rfl rfl) (sub_of _ _ ⟨rfl, rfl, rfl, rfl, rfl, rfl, rfl, trivial⟩ ⟨rfl, rfl, rfl, trivial⟩ (by kernel_rfl))) ?_
    rintro ⟨i, l, d, n, xs⟩ ⟨h1, h2, h3, h4, h5⟩
    have g1 : i ≤ m.length := h1
    have g2 : (l, d) = (m.take i).foldl (stepS p v) ([], true) := h2
    have g3 : n = l.length := h3
    have g4 : xs = fl l := h4
    have g5 : l.length ≤ 2 * i := h5
    show Aw _ _ _ _ (setH sz p v m i d n xs)
    unfold setH
    by_cases hlt : i < m.length
    · obtain ⟨c, hc⟩ : ∃ c, m[i]? = some c := ⟨_, List.getElem?_eq_getElem hlt⟩
      have hx := SpL.fl_at2 hc
      have hf := take_fold (stepS p v) ([], true) m i c hc
      rw [← g2] at hf
      by_cases a1 : d = false ∧ p < c.1
      · obtain ⟨rfl, a1⟩ := a1
        rw [show stepS p v (l, false) c = (l ++ [(p, v), c], true) by unfold stepS; rw [if_pos ⟨rfl, a1⟩]] at hf
        repeat (first
          | (refine go_at rfl ?_; first
              | refine go_do (valid_mv (.inl rfl) rfl) rfl ?_
              | (refine nxt_s 1 rfl ?_; refine go_do (valid_load_p tb rfl rfl rfl rfl rfl (by first | kernel_rfl | rfl)) (by first | kernel_rfl | rfl) ?_)
              | (refine nxt_s 1 rfl ?_; refine go_do (valid_fld_p tb rfl rfl rfl (by kernel_rfl)) rfl ?_)
              | refine go_do (valid_mv (.inr rfl) rfl) rfl ?_
              | refine go_do (valid_pick rfl rfl rfl) rfl ?_
              | refine go_do (valid_cmp rfl rfl rfl rfl (by first | exact .eql1 (by omega) | exact .eql0 (by omega) | exact .neq1 (by omega) | exact .neq0 (by omega) | exact .lss1 (by omega) | exact .lss0 (by omega) | exact .leq1 (by omega) | exact .leq0 (by omega) | exact .gtr1 (by omega) | exact .gtr0 (by omega) | exact .geq1 (by omega) | exact .geq0 (by omega) | constructor)) rfl ?_
              | refine go_do (valid_ar rfl rfl rfl rfl (by constructor) (by first | exact wr_u64 (by omega) (by omega) | exact wr_i64 (by omega) (by omega) | rfl)) rfl ?_
              | refine go_do (valid_len_s rfl rfl rfl rfl) rfl ?_
              | (refine nxt_s 3 rfl ?_; refine go_do (valid_load_q tb rfl rfl rfl rfl (by first | kernel_rfl | rfl)) rfl ?_)
              | (refine nxt_s 3 rfl ?_; refine go_do (valid_fld_q tb rfl rfl rfl rfl) rfl ?_)
              | refine go_do (valid_not rfl rfl rfl) rfl ?_
              | refine go_do (valid_build rfl rfl rfl rfl) rfl ?_
              | (refine nxt_s 4 rfl ?_; refine go_do (valid_idx_s rfl rfl rfl rfl rfl rfl (by omega) (by omega) _ (by assumption)) rfl ?_)
              | refine go_do (valid_bslice rfl rfl rfl rfl rfl rfl rfl rfl rfl rfl rfl) rfl ?_
              | refine go_do (valid_app rfl rfl rfl rfl rfl rfl rfl rfl rfl rfl rfl rfl rfl (by omega)) rfl ?_)
          | (refine hK _ ?_; clear hK K)
          | refine aw_text rfl ?_
          | refine aw_cond1 rfl rfl ?_
          | refine aw_block ?_
          | refine aw_skip ?_
          | refine aw_seq_k (fun K hK => ?_))
        exact ⟨(i + 1, l ++ [(p, v), c], true, n + 1 + 1, xs ++ [.int .u64 p, .int .u64 v] ++ [.int .u64 c.1, .int .u64 c.2]), ⟨by show i + 1 ≤ m.length; omega, hf.symm, by show n + 1 + 1 = (l ++ [(p, v), c]).length; simp [g3], by show _ = fl (l ++ [(p, v), c]); rw [g4, fl_append, List.append_assoc]; rfl, by show (l ++ [(p, v), c]).length ≤ 2 * (i + 1); simp; omega⟩, by show m.length - (i + 1) < m.length - i; omega, Sub.trans (sub_of [(1, .m (iu p)), (2, .m (iu v)), (3, .m (.c (.p 3 0))), (6, .m (.c (.p 6 0))), (7, .m (.c (.o 52))), (8, .m (ib true)), (9, .m (ii ((i + 1 : Nat) : Int)))] [(3, .live (.box [cu sz, .s m.length 2 (fl m)])), (6, .live (.box [cu 0, .v (.slice none 0 0)])), (52, .live (.row 116 2 (n + 1 + 1) (xs ++ [.int .u64 p, .int .u64 v] ++ [.int .u64 c.1, .int .u64 c.2])))] ⟨rfl, rfl, rfl, rfl, rfl, rfl, rfl, trivial⟩ ⟨rfl, rfl, rfl, trivial⟩ rfl) (Sub.trans (sub_mv (b := 52) (b' := 1000) rfl rfl) (sub_of _ _ ⟨rfl, rfl, rfl, rfl, rfl, rfl, rfl, trivial⟩ ⟨rfl, rfl, rfl, trivial⟩ rfl))⟩
      · by_cases a2 : c.1 = p
        · rw [show stepS p v (l, d) c = (l, d) by unfold stepS; rw [if_neg a1, if_pos a2]] at hf
          have hd : d = true ∨ ¬ p < c.1 := by cases d <;> simp_all
          cases d
          · skip
            repeat (first
              | (refine go_at rfl ?_; first
                  | refine go_do (valid_mv (.inl rfl) rfl) rfl ?_
                  | (refine nxt_s 1 rfl ?_; refine go_do (valid_load_p tb rfl rfl rfl rfl rfl (by first | kernel_rfl | rfl)) (by first | kernel_rfl | rfl) ?_)
                  | (refine nxt_s 1 rfl ?_; refine go_do (valid_fld_p tb rfl rfl rfl (by kernel_rfl)) rfl ?_)
                  | refine go_do (valid_mv (.inr rfl) rfl) rfl ?_
                  | refine go_do (valid_pick rfl rfl rfl) rfl ?_
                  | refine go_do (valid_cmp rfl rfl rfl rfl (by first | exact .eql1 (by omega) | exact .eql0 (by omega) | exact .neq1 (by omega) | exact .neq0 (by omega) | exact .lss1 (by omega) | exact .lss0 (by omega) | exact .leq1 (by omega) | exact .leq0 (by omega) | exact .gtr1 (by omega) | exact .gtr0 (by omega) | exact .geq1 (by omega) | exact .geq0 (by omega) | constructor)) rfl ?_
                  | refine go_do (valid_ar rfl rfl rfl rfl (by constructor) (by first | exact wr_u64 (by omega) (by omega) | exact wr_i64 (by omega) (by omega) | rfl)) rfl ?_
                  | refine go_do (valid_len_s rfl rfl rfl rfl) rfl ?_
                  | (refine nxt_s 3 rfl ?_; refine go_do (valid_load_q tb rfl rfl rfl rfl (by first | kernel_rfl | rfl)) rfl ?_)
                  | (refine nxt_s 3 rfl ?_; refine go_do (valid_fld_q tb rfl rfl rfl rfl) rfl ?_)
                  | refine go_do (valid_not rfl rfl rfl) rfl ?_
                  | (refine nxt_s 4 rfl ?_; refine go_do (valid_idx_s rfl rfl rfl rfl rfl rfl (by omega) (by omega) _ (by assumption)) rfl ?_))
              | (refine hK _ ?_; clear hK K)
              | refine aw_text rfl ?_
              | refine aw_cond1 rfl rfl ?_
              | refine aw_cond0 rfl rfl ?_
              | refine aw_block ?_
              | refine aw_skip ?_
              | refine aw_seq_k (fun K hK => ?_))
            exact ⟨(i + 1, l, false, n, xs), ⟨by show i + 1 ≤ m.length; omega, hf.symm, g3, g4, by show l.length ≤ 2 * (i + 1); omega⟩, by show m.length - (i + 1) < m.length - i; omega, sub_of _ _ ⟨rfl, rfl, rfl, rfl, rfl, rfl, rfl, trivial⟩ ⟨rfl, rfl, rfl, trivial⟩ (by kernel_rfl)⟩
          · skip
            repeat (first
              | (refine go_at rfl ?_; first
                  | refine go_do (valid_skip rfl) rfl ?_
                  | refine go_do (valid_mv (.inl rfl) rfl) rfl ?_
                  | (refine nxt_s 1 rfl ?_; refine go_do (valid_load_p tb rfl rfl rfl rfl rfl (by first | kernel_rfl | rfl)) (by first | kernel_rfl | rfl) ?_)
                  | (refine nxt_s 1 rfl ?_; refine go_do (valid_fld_p tb rfl rfl rfl (by kernel_rfl)) rfl ?_)
                  | refine go_do (valid_mv (.inr rfl) rfl) rfl ?_
                  | refine go_do (valid_pick rfl rfl rfl) rfl ?_
                  | refine go_do (valid_cmp rfl rfl rfl rfl (by first | exact .eql1 (by omega) | exact .eql0 (by omega) | exact .neq1 (by omega) | exact .neq0 (by omega) | exact .lss1 (by omega) | exact .lss0 (by omega) | exact .leq1 (by omega) | exact .leq0 (by omega) | exact .gtr1 (by omega) | exact .gtr0 (by omega) | exact .geq1 (by omega) | exact .geq0 (by omega) | constructor)) rfl ?_
                  | refine go_do (valid_ar rfl rfl rfl rfl (by constructor) (by first | exact wr_u64 (by omega) (by omega) | exact wr_i64 (by omega) (by omega) | rfl)) rfl ?_
                  | refine go_do (valid_len_s rfl rfl rfl rfl) rfl ?_
                  | (refine nxt_s 3 rfl ?_; refine go_do (valid_load_q tb rfl rfl rfl rfl (by first | kernel_rfl | rfl)) rfl ?_)
                  | (refine nxt_s 3 rfl ?_; refine go_do (valid_fld_q tb rfl rfl rfl rfl) rfl ?_)
                  | refine go_do (valid_not rfl rfl rfl) rfl ?_
                  | (refine nxt_s 4 rfl ?_; refine go_do (valid_idx_s rfl rfl rfl rfl rfl rfl (by omega) (by omega) _ (by assumption)) rfl ?_))
              | (refine hK _ ?_; clear hK K)
              | refine aw_text rfl ?_
              | refine aw_cond1 rfl rfl ?_
              | refine aw_cond0 rfl rfl ?_
              | refine aw_block ?_
              | refine aw_skip ?_
              | refine aw_seq_k (fun K hK => ?_))
            exact ⟨(i + 1, l, true, n, xs), ⟨by show i + 1 ≤ m.length; omega, hf.symm, g3, g4, by show l.length ≤ 2 * (i + 1); omega⟩, by show m.length - (i + 1) < m.length - i; omega, sub_of _ _ ⟨rfl, rfl, rfl, rfl, rfl, rfl, rfl, trivial⟩ ⟨rfl, rfl, rfl, trivial⟩ (by kernel_rfl)⟩
        · rw [show stepS p v (l, d) c = (l ++ [c], d) by unfold stepS; rw [if_neg a1, if_neg a2]] at hf
          cases d
          · have hd : ¬ p < c.1 := fun h => a1 ⟨rfl, h⟩
            repeat (first
              | (refine go_at rfl ?_; first
                  | refine go_do (valid_mv (.inl rfl) rfl) rfl ?_
                  | (refine nxt_s 1 rfl ?_; refine go_do (valid_load_p tb rfl rfl rfl rfl rfl (by first | kernel_rfl | rfl)) (by first | kernel_rfl | rfl) ?_)
                  | (refine nxt_s 1 rfl ?_; refine go_do (valid_fld_p tb rfl rfl rfl (by kernel_rfl)) rfl ?_)
                  | refine go_do (valid_mv (.inr rfl) rfl) rfl ?_
                  | refine go_do (valid_pick rfl rfl rfl) rfl ?_
                  | refine go_do (valid_cmp rfl rfl rfl rfl (by first | exact .eql1 (by omega) | exact .eql0 (by omega) | exact .neq1 (by omega) | exact .neq0 (by omega) | exact .lss1 (by omega) | exact .lss0 (by omega) | exact .leq1 (by omega) | exact .leq0 (by omega) | exact .gtr1 (by omega) | exact .gtr0 (by omega) | exact .geq1 (by omega) | exact .geq0 (by omega) | constructor)) rfl ?_
                  | refine go_do (valid_ar rfl rfl rfl rfl (by constructor) (by first | exact wr_u64 (by omega) (by omega) | exact wr_i64 (by omega) (by omega) | rfl)) rfl ?_
                  | refine go_do (valid_len_s rfl rfl rfl rfl) rfl ?_
                  | (refine nxt_s 3 rfl ?_; refine go_do (valid_load_q tb rfl rfl rfl rfl (by first | kernel_rfl | rfl)) rfl ?_)
                  | (refine nxt_s 3 rfl ?_; refine go_do (valid_fld_q tb rfl rfl rfl rfl) rfl ?_)
                  | refine go_do (valid_not rfl rfl rfl) rfl ?_
                  | (refine nxt_s 4 rfl ?_; refine go_do (valid_idx_s rfl rfl rfl rfl rfl rfl (by omega) (by omega) _ (by assumption)) rfl ?_)
                  | refine go_do (valid_bslice rfl rfl rfl rfl rfl rfl rfl rfl rfl rfl rfl) rfl ?_
                  | refine go_do (valid_app rfl rfl rfl rfl rfl rfl rfl rfl rfl rfl rfl rfl rfl (by omega)) rfl ?_)
              | (refine hK _ ?_; clear hK K)
              | refine aw_text rfl ?_
              | refine aw_cond1 rfl rfl ?_
              | refine aw_cond0 rfl rfl ?_
              | refine aw_block ?_
              | refine aw_skip ?_
              | refine aw_seq_k (fun K hK => ?_))
            exact ⟨(i + 1, l ++ [c], false, n + 1, xs ++ [.int .u64 c.1, .int .u64 c.2]), ⟨by show i + 1 ≤ m.length; omega, hf.symm, by show n + 1 = (l ++ [c]).length; simp [g3], by show _ = fl (l ++ [c]); rw [g4, fl_snoc], by show (l ++ [c]).length ≤ 2 * (i + 1); simp; omega⟩, by show m.length - (i + 1) < m.length - i; omega, Sub.trans (sub_of [(1, .m (iu p)), (2, .m (iu v)), (3, .m (.c (.p 3 0))), (6, .m (.c (.p 6 0))), (7, .m (.c (.o 52))), (8, .m (ib false)), (9, .m (ii ((i + 1 : Nat) : Int)))] [(3, .live (.box [cu sz, .s m.length 2 (fl m)])), (6, .live (.box [cu 0, .v (.slice none 0 0)])), (52, .live (.row 116 2 (n + 1) (xs ++ [.int .u64 c.1, .int .u64 c.2])))] ⟨rfl, rfl, rfl, rfl, rfl, rfl, rfl, trivial⟩ ⟨rfl, rfl, rfl, trivial⟩ rfl) (Sub.trans (sub_mv (b := 52) (b' := 1000) rfl rfl) (sub_of _ _ ⟨rfl, rfl, rfl, rfl, rfl, rfl, rfl, trivial⟩ ⟨rfl, rfl, rfl, trivial⟩ rfl))⟩
          · skip
            repeat (first
              | (refine go_at rfl ?_; first
                  | refine go_do (valid_skip rfl) rfl ?_
                  | refine go_do (valid_mv (.inl rfl) rfl) rfl ?_
                  | (refine nxt_s 1 rfl ?_; refine go_do (valid_load_p tb rfl rfl rfl rfl rfl (by first | kernel_rfl | rfl)) (by first | kernel_rfl | rfl) ?_)
                  | (refine nxt_s 1 rfl ?_; refine go_do (valid_fld_p tb rfl rfl rfl (by kernel_rfl)) rfl ?_)
                  | refine go_do (valid_mv (.inr rfl) rfl) rfl ?_
                  | refine go_do (valid_pick rfl rfl rfl) rfl ?_
                  | refine go_do (valid_cmp rfl rfl rfl rfl (by first | exact .eql1 (by omega) | exact .eql0 (by omega) | exact .neq1 (by omega) | exact .neq0 (by omega) | exact .lss1 (by omega) | exact .lss0 (by omega) | exact .leq1 (by omega) | exact .leq0 (by omega) | exact .gtr1 (by omega) | exact .gtr0 (by omega) | exact .geq1 (by omega) | exact .geq0 (by omega) | constructor)) rfl ?_
                  | refine go_do (valid_ar rfl rfl rfl rfl (by constructor) (by first | exact wr_u64 (by omega) (by omega) | exact wr_i64 (by omega) (by omega) | rfl)) rfl ?_
                  | refine go_do (valid_len_s rfl rfl rfl rfl) rfl ?_
                  | (refine nxt_s 3 rfl ?_; refine go_do (valid_load_q tb rfl rfl rfl rfl (by first | kernel_rfl | rfl)) rfl ?_)
                  | (refine nxt_s 3 rfl ?_; refine go_do (valid_fld_q tb rfl rfl rfl rfl) rfl ?_)
                  | refine go_do (valid_not rfl rfl rfl) rfl ?_
                  | (refine nxt_s 4 rfl ?_; refine go_do (valid_idx_s rfl rfl rfl rfl rfl rfl (by omega) (by omega) _ (by assumption)) rfl ?_)
                  | refine go_do (valid_bslice rfl rfl rfl rfl rfl rfl rfl rfl rfl rfl rfl) rfl ?_
                  | refine go_do (valid_app rfl rfl rfl rfl rfl rfl rfl rfl rfl rfl rfl rfl rfl (by omega)) rfl ?_)
              | (refine hK _ ?_; clear hK K)
              | refine aw_text rfl ?_
              | refine aw_cond1 rfl rfl ?_
              | refine aw_cond0 rfl rfl ?_
              | refine aw_block ?_
              | refine aw_skip ?_
              | refine aw_seq_k (fun K hK => ?_))
            exact ⟨(i + 1, l ++ [c], true, n + 1, xs ++ [.int .u64 c.1, .int .u64 c.2]), ⟨by show i + 1 ≤ m.length; omega, hf.symm, by show n + 1 = (l ++ [c]).length; simp [g3], by show _ = fl (l ++ [c]); rw [g4, fl_snoc], by show (l ++ [c]).length ≤ 2 * (i + 1); simp; omega⟩, by show m.length - (i + 1) < m.length - i; omega, Sub.trans (sub_of [(1, .m (iu p)), (2, .m (iu v)), (3, .m (.c (.p 3 0))), (6, .m (.c (.p 6 0))), (7, .m (.c (.o 52))), (8, .m (ib true)), (9, .m (ii ((i + 1 : Nat) : Int)))] [(3, .live (.box [cu sz, .s m.length 2 (fl m)])), (6, .live (.box [cu 0, .v (.slice none 0 0)])), (52, .live (.row 116 2 (n + 1) (xs ++ [.int .u64 c.1, .int .u64 c.2])))] ⟨rfl, rfl, rfl, rfl, rfl, rfl, rfl, trivial⟩ ⟨rfl, rfl, rfl, trivial⟩ rfl) (Sub.trans (sub_mv (b := 52) (b' := 1000) rfl rfl) (sub_of _ _ ⟨rfl, rfl, rfl, rfl, rfl, rfl, rfl, trivial⟩ ⟨rfl, rfl, rfl, trivial⟩ rfl))⟩
    · have hi : i = m.length := by omega
      rw [hi, List.take_length] at g2
      rw [← g2] at hput
      cases d
      · have e : putM m p v = l ++ [(p, v)] := hput.symm
        obtain rfl : N = n + 1 := by rw [hN, e, g3]; simp
        obtain rfl : XS = xs ++ [.int .u64 p, .int .u64 v] := by rw [hXS, e, g4, fl_snoc]
        repeat (first
          | (refine go_at rfl ?_; first
              | refine go_do (valid_mv (.inl rfl) rfl) rfl ?_
              | (refine nxt_s 1 rfl ?_; refine go_do (valid_load_p tb rfl rfl rfl rfl rfl (by first | kernel_rfl | rfl)) (by first | kernel_rfl | rfl) ?_)
              | (refine nxt_s 1 rfl ?_; refine go_do (valid_fld_p tb rfl rfl rfl (by kernel_rfl)) rfl ?_)
              | refine go_do (valid_mv (.inr rfl) rfl) rfl ?_
              | refine go_do (valid_cmp rfl rfl rfl rfl (by first | exact .eql1 (by omega) | exact .eql0 (by omega) | exact .neq1 (by omega) | exact .neq0 (by omega) | exact .lss1 (by omega) | exact .lss0 (by omega) | exact .leq1 (by omega) | exact .leq0 (by omega) | exact .gtr1 (by omega) | exact .gtr0 (by omega) | exact .geq1 (by omega) | exact .geq0 (by omega) | constructor)) rfl ?_
              | (refine nxt_s 1 rfl ?_; refine go_do (valid_store_p rfl rfl rfl rfl rfl rfl (by first | kernel_rfl | rfl) rfl) (by first | kernel_rfl | rfl) ?_)
              | refine go_do (valid_len_s rfl rfl rfl rfl) rfl ?_
              | refine go_do (valid_not rfl rfl rfl) rfl ?_
              | refine go_do (valid_build rfl rfl rfl rfl) rfl ?_
              | refine go_do (valid_bslice rfl rfl rfl rfl rfl rfl rfl rfl rfl rfl rfl) rfl ?_
              | refine go_do (valid_app rfl rfl rfl rfl rfl rfl rfl rfl rfl rfl rfl rfl rfl (by omega)) rfl ?_)
          | (refine hK _ ?_; clear hK K)
          | (rename_i K1 hK1; refine hK1 _ ?_; clear hK hK1; clear K)
          | refine aw_text rfl ?_
          | exact aw_ret (show resA _ _ _ = some _ by kernel_rfl)
          | refine aw_cond1 rfl rfl ?_
          | refine aw_cond0 rfl rfl ?_
          | refine aw_exit ?_
          | refine aw_seq_k (fun K hK => ?_))
      · have e : putM m p v = l := hput.symm
        obtain rfl : N = n := by rw [hN, e, g3]
        obtain rfl : XS = xs := by rw [hXS, e, g4]
        repeat (first
          | (refine go_at rfl ?_; first
              | refine go_do (valid_mv (.inl rfl) rfl) rfl ?_
              | (refine nxt_s 1 rfl ?_; refine go_do (valid_load_p tb rfl rfl rfl rfl rfl (by first | kernel_rfl | rfl)) (by first | kernel_rfl | rfl) ?_)
              | (refine nxt_s 1 rfl ?_; refine go_do (valid_fld_p tb rfl rfl rfl (by kernel_rfl)) rfl ?_)
              | refine go_do (valid_cmp rfl rfl rfl rfl (by first | exact .eql1 (by omega) | exact .eql0 (by omega) | exact .neq1 (by omega) | exact .neq0 (by omega) | exact .lss1 (by omega) | exact .lss0 (by omega) | exact .leq1 (by omega) | exact .leq0 (by omega) | exact .gtr1 (by omega) | exact .gtr0 (by omega) | exact .geq1 (by omega) | exact .geq0 (by omega) | constructor)) rfl ?_
              | (refine nxt_s 1 rfl ?_; refine go_do (valid_store_p rfl rfl rfl rfl rfl rfl (by first | kernel_rfl | rfl) rfl) (by first | kernel_rfl | rfl) ?_)
              | refine go_do (valid_len_s rfl rfl rfl rfl) rfl ?_
              | refine go_do (valid_not rfl rfl rfl) rfl ?_)
          | (refine hK _ ?_; clear hK K)
          | (rename_i K1 hK1; refine hK1 _ ?_; clear hK hK1; clear K)
          | refine aw_text rfl ?_
          | exact aw_ret (show resA _ _ _ = some _ by kernel_rfl)
          | refine aw_cond0 rfl rfl ?_
          | refine aw_exit ?_
          | refine aw_skip ?_
          | refine aw_seq_k (fun K hK => ?_))
  · refine callOk_of 64 Tryz.func49 rfl rfl rfl rfl ?_ GG.to
    intro W A hG
    repeat (first
      | (refine go_at rfl ?_; first
          | refine go_do (valid_mv (.inl rfl) rfl) rfl ?_
          | refine go_do (valid_mv (.inr rfl) rfl) rfl ?_
          | refine go_do (valid_cmp rfl rfl rfl rfl (by first | exact .eql1 (by omega) | exact .eql0 (by omega) | exact .neq1 (by omega) | exact .neq0 (by omega) | exact .lss1 (by omega) | exact .lss0 (by omega) | exact .leq1 (by omega) | exact .leq0 (by omega) | exact .gtr1 (by omega) | exact .gtr0 (by omega) | exact .geq1 (by omega) | exact .geq0 (by omega) | constructor)) rfl ?_
          | refine go_do (valid_box rfl rfl rfl rfl rfl rfl) rfl ?_
          | refine go_do (valid_alloc rfl rfl rfl rfl rfl) rfl ?_)
      | (refine hK _ ?_; clear hK K)
      | refine aw_text rfl ?_
      | refine aw_block ?_
      | refine aw_seq_k (fun K hK => ?_))
    refine aw_loopH (α := Nat × List (Int × Int) × Bool × Nat × List Value) (fun q => q.1 ≤ m.length ∧ (q.2.1, q.2.2.1) = (m.take q.1).foldl (stepS p v) ([], false) ∧ q.2.2.2.1 = q.2.1.length ∧ q.2.2.2.2 = fl q.2.1 ∧ q.2.1.length ≤ 2 * q.1) (fun q => setH sz p v m q.1 q.2.2.1 q.2.2.2.1 q.2.2.2.2) (fun q => m.length - q.1) (0, [], false, 0, []) ⟨Nat.zero_le _, rfl, rfl, rfl, Nat.le_refl _⟩ (Sub.trans (sub_nil 7 1000 116 2 rfl rfl) (sub_of _ _ ⟨rfl, rfl, rfl, rfl, rfl, rfl, rfl, trivial⟩ ⟨rfl, rfl, rfl, trivial⟩ (by kernel_rfl))) ?_
    rintro ⟨i, l, d, n, xs⟩ ⟨h1, h2, h3, h4, h5⟩
    have g1 : i ≤ m.length := h1
    have g2 : (l, d) = (m.take i).foldl (stepS p v) ([], false) := h2
    have g3 : n = l.length := h3
    have g4 : xs = fl l := h4
    have g5 : l.length ≤ 2 * i := h5
    show Aw _ _ _ _ (setH sz p v m i d n xs)
    unfold setH
    by_cases hlt : i < m.length
    · obtain ⟨c, hc⟩ : ∃ c, m[i]? = some c := ⟨_, List.getElem?_eq_getElem hlt⟩
      have hx := SpL.fl_at2 hc
      have hf := take_fold (stepS p v) ([], false) m i c hc
      rw [← g2] at hf
      by_cases a1 : d = false ∧ p < c.1
      · obtain ⟨rfl, a1⟩ := a1
        rw [show stepS p v (l, false) c = (l ++ [(p, v), c], true) by unfold stepS; rw [if_pos ⟨rfl, a1⟩]] at hf
        repeat (first
          | (refine go_at rfl ?_; first
              | refine go_do (valid_mv (.inl rfl) rfl) rfl ?_
              | (refine nxt_s 1 rfl ?_; refine go_do (valid_load_p tb rfl rfl rfl rfl rfl (by first | kernel_rfl | rfl)) (by first | kernel_rfl | rfl) ?_)
              | (refine nxt_s 1 rfl ?_; refine go_do (valid_fld_p tb rfl rfl rfl (by kernel_rfl)) rfl ?_)
              | refine go_do (valid_mv (.inr rfl) rfl) rfl ?_
              | refine go_do (valid_pick rfl rfl rfl) rfl ?_
              | refine go_do (valid_cmp rfl rfl rfl rfl (by first | exact .eql1 (by omega) | exact .eql0 (by omega) | exact .neq1 (by omega) | exact .neq0 (by omega) | exact .lss1 (by omega) | exact .lss0 (by omega) | exact .leq1 (by omega) | exact .leq0 (by omega) | exact .gtr1 (by omega) | exact .gtr0 (by omega) | exact .geq1 (by omega) | exact .geq0 (by omega) | constructor)) rfl ?_
              | refine go_do (valid_ar rfl rfl rfl rfl (by constructor) (by first | exact wr_u64 (by omega) (by omega) | exact wr_i64 (by omega) (by omega) | rfl)) rfl ?_
              | refine go_do (valid_len_s rfl rfl rfl rfl) rfl ?_
              | (refine nxt_s 3 rfl ?_; refine go_do (valid_load_q tb rfl rfl rfl rfl (by first | kernel_rfl | rfl)) rfl ?_)
              | (refine nxt_s 3 rfl ?_; refine go_do (valid_fld_q tb rfl rfl rfl rfl) rfl ?_)
              | refine go_do (valid_not rfl rfl rfl) rfl ?_
              | refine go_do (valid_build rfl rfl rfl rfl) rfl ?_
              | (refine nxt_s 4 rfl ?_; refine go_do (valid_idx_s rfl rfl rfl rfl rfl rfl (by omega) (by omega) _ (by assumption)) rfl ?_)
              | refine go_do (valid_bslice rfl rfl rfl rfl rfl rfl rfl rfl rfl rfl rfl) rfl ?_
              | refine go_do (valid_app rfl rfl rfl rfl rfl rfl rfl rfl rfl rfl rfl rfl rfl (by omega)) rfl ?_)
          | (refine hK _ ?_; clear hK K)
          | refine aw_text rfl ?_
          | refine aw_cond1 rfl rfl ?_
          | refine aw_block ?_
          | refine aw_skip ?_
          | refine aw_seq_k (fun K hK => ?_))
        exact ⟨(i + 1, l ++ [(p, v), c], true, n + 1 + 1, xs ++ [.int .u64 p, .int .u64 v] ++ [.int .u64 c.1, .int .u64 c.2]), ⟨by show i + 1 ≤ m.length; omega, hf.symm, by show n + 1 + 1 = (l ++ [(p, v), c]).length; simp [g3], by show _ = fl (l ++ [(p, v), c]); rw [g4, fl_append, List.append_assoc]; rfl, by show (l ++ [(p, v), c]).length ≤ 2 * (i + 1); simp; omega⟩, by show m.length - (i + 1) < m.length - i; omega, Sub.trans (sub_of [(1, .m (iu p)), (2, .m (iu v)), (3, .m (.c (.p 3 0))), (6, .m (.c (.p 6 0))), (7, .m (.c (.o 52))), (8, .m (ib true)), (9, .m (ii ((i + 1 : Nat) : Int)))] [(3, .live (.box [cu sz, .s m.length 2 (fl m)])), (6, .live (.box [cu 0, .v (.slice none 0 0)])), (52, .live (.row 116 2 (n + 1 + 1) (xs ++ [.int .u64 p, .int .u64 v] ++ [.int .u64 c.1, .int .u64 c.2])))] ⟨rfl, rfl, rfl, rfl, rfl, rfl, rfl, trivial⟩ ⟨rfl, rfl, rfl, trivial⟩ rfl) (Sub.trans (sub_mv (b := 52) (b' := 1000) rfl rfl) (sub_of _ _ ⟨rfl, rfl, rfl, rfl, rfl, rfl, rfl, trivial⟩ ⟨rfl, rfl, rfl, trivial⟩ rfl))⟩
      · by_cases a2 : c.1 = p
        · rw [show stepS p v (l, d) c = (l, d) by unfold stepS; rw [if_neg a1, if_pos a2]] at hf
          have hd : d = true ∨ ¬ p < c.1 := by cases d <;> simp_all
          cases d
          · skip
            repeat (first
              | (refine go_at rfl ?_; first
                  | refine go_do (valid_mv (.inl rfl) rfl) rfl ?_
                  | (refine nxt_s 1 rfl ?_; refine go_do (valid_load_p tb rfl rfl rfl rfl rfl (by first | kernel_rfl | rfl)) (by first | kernel_rfl | rfl) ?_)
                  | (refine nxt_s 1 rfl ?_; refine go_do (valid_fld_p tb rfl rfl rfl (by kernel_rfl)) rfl ?_)
                  | refine go_do (valid_mv (.inr rfl) rfl) rfl ?_
                  | refine go_do (valid_pick rfl rfl rfl) rfl ?_
                  | refine go_do (valid_cmp rfl rfl rfl rfl (by first | exact .eql1 (by omega) | exact .eql0 (by omega) | exact .neq1 (by omega) | exact .neq0 (by omega) | exact .lss1 (by omega) | exact .lss0 (by omega) | exact .leq1 (by omega) | exact .leq0 (by omega) | exact .gtr1 (by omega) | exact .gtr0 (by omega) | exact .geq1 (by omega) | exact .geq0 (by omega) | constructor)) rfl ?_
                  | refine go_do (valid_ar rfl rfl rfl rfl (by constructor) (by first | exact wr_u64 (by omega) (by omega) | exact wr_i64 (by omega) (by omega) | rfl)) rfl ?_
                  | refine go_do (valid_len_s rfl rfl rfl rfl) rfl ?_
                  | (refine nxt_s 3 rfl ?_; refine go_do (valid_load_q tb rfl rfl rfl rfl (by first | kernel_rfl | rfl)) rfl ?_)
                  | (refine nxt_s 3 rfl ?_; refine go_do (valid_fld_q tb rfl rfl rfl rfl) rfl ?_)
                  | refine go_do (valid_not rfl rfl rfl) rfl ?_
                  | (refine nxt_s 4 rfl ?_; refine go_do (valid_idx_s rfl rfl rfl rfl rfl rfl (by omega) (by omega) _ (by assumption)) rfl ?_))
              | (refine hK _ ?_; clear hK K)
              | refine aw_text rfl ?_
              | refine aw_cond1 rfl rfl ?_
              | refine aw_cond0 rfl rfl ?_
              | refine aw_block ?_
              | refine aw_skip ?_
              | refine aw_seq_k (fun K hK => ?_))
            exact ⟨(i + 1, l, false, n, xs), ⟨by show i + 1 ≤ m.length; omega, hf.symm, g3, g4, by show l.length ≤ 2 * (i + 1); omega⟩, by show m.length - (i + 1) < m.length - i; omega, sub_of _ _ ⟨rfl, rfl, rfl, rfl, rfl, rfl, rfl, trivial⟩ ⟨rfl, rfl, rfl, trivial⟩ (by kernel_rfl)⟩
          · skip
            repeat (first
              | (refine go_at rfl ?_; first
                  | refine go_do (valid_skip rfl) rfl ?_
                  | refine go_do (valid_mv (.inl rfl) rfl) rfl ?_
                  | (refine nxt_s 1 rfl ?_; refine go_do (valid_load_p tb rfl rfl rfl rfl rfl (by first | kernel_rfl | rfl)) (by first | kernel_rfl | rfl) ?_)
                  | (refine nxt_s 1 rfl ?_; refine go_do (valid_fld_p tb rfl rfl rfl (by kernel_rfl)) rfl ?_)
                  | refine go_do (valid_mv (.inr rfl) rfl) rfl ?_
                  | refine go_do (valid_pick rfl rfl rfl) rfl ?_
                  | refine go_do (valid_cmp rfl rfl rfl rfl (by first | exact .eql1 (by omega) | exact .eql0 (by omega) | exact .neq1 (by omega) | exact .neq0 (by omega) | exact .lss1 (by omega) | exact .lss0 (by omega) | exact .leq1 (by omega) | exact .leq0 (by omega) | exact .gtr1 (by omega) | exact .gtr0 (by omega) | exact .geq1 (by omega) | exact .geq0 (by omega) | constructor)) rfl ?_
                  | refine go_do (valid_ar rfl rfl rfl rfl (by constructor) (by first | exact wr_u64 (by omega) (by omega) | exact wr_i64 (by omega) (by omega) | rfl)) rfl ?_
                  | refine go_do (valid_len_s rfl rfl rfl rfl) rfl ?_
                  | (refine nxt_s 3 rfl ?_; refine go_do (valid_load_q tb rfl rfl rfl rfl (by first | kernel_rfl | rfl)) rfl ?_)
                  | (refine nxt_s 3 rfl ?_; refine go_do (valid_fld_q tb rfl rfl rfl rfl) rfl ?_)
                  | refine go_do (valid_not rfl rfl rfl) rfl ?_
                  | (refine nxt_s 4 rfl ?_; refine go_do (valid_idx_s rfl rfl rfl rfl rfl rfl (by omega) (by omega) _ (by assumption)) rfl ?_))
              | (refine hK _ ?_; clear hK K)
              | refine aw_text rfl ?_
              | refine aw_cond1 rfl rfl ?_
              | refine aw_cond0 rfl rfl ?_
              | refine aw_block ?_
              | refine aw_skip ?_
              | refine aw_seq_k (fun K hK => ?_))
            exact ⟨(i + 1, l, true, n, xs), ⟨by show i + 1 ≤ m.length; omega, hf.symm, g3, g4, by show l.length ≤ 2 * (i + 1); omega⟩, by show m.length - (i + 1) < m.length - i; omega, sub_of _ _ ⟨rfl, rfl, rfl, rfl, rfl, rfl, rfl, trivial⟩ ⟨rfl, rfl, rfl, trivial⟩ (by kernel_rfl)⟩
        · rw [show stepS p v (l, d) c = (l ++ [c], d) by unfold stepS; rw [if_neg a1, if_neg a2]] at hf
          cases d
          · have hd : ¬ p < c.1 := fun h => a1 ⟨rfl, h⟩
            repeat (first
              | (refine go_at rfl ?_; first
                  | refine go_do (valid_mv (.inl rfl) rfl) rfl ?_
                  | (refine nxt_s 1 rfl ?_; refine go_do (valid_load_p tb rfl rfl rfl rfl rfl (by first | kernel_rfl | rfl)) (by first | kernel_rfl | rfl) ?_)
                  | (refine nxt_s 1 rfl ?_; refine go_do (valid_fld_p tb rfl rfl rfl (by kernel_rfl)) rfl ?_)
                  | refine go_do (valid_mv (.inr rfl) rfl) rfl ?_
                  | refine go_do (valid_pick rfl rfl rfl) rfl ?_
                  | refine go_do (valid_cmp rfl rfl rfl rfl (by first | exact .eql1 (by omega) | exact .eql0 (by omega) | exact .neq1 (by omega) | exact .neq0 (by omega) | exact .lss1 (by omega) | exact .lss0 (by omega) | exact .leq1 (by omega) | exact .leq0 (by omega) | exact .gtr1 (by omega) | exact .gtr0 (by omega) | exact .geq1 (by omega) | exact .geq0 (by omega) | constructor)) rfl ?_
                  | refine go_do (valid_ar rfl rfl rfl rfl (by constructor) (by first | exact wr_u64 (by omega) (by omega) | exact wr_i64 (by omega) (by omega) | rfl)) rfl ?_
                  | refine go_do (valid_len_s rfl rfl rfl rfl) rfl ?_
                  | (refine nxt_s 3 rfl ?_; refine go_do (valid_load_q tb rfl rfl rfl rfl (by first | kernel_rfl | rfl)) rfl ?_)
                  | (refine nxt_s 3 rfl ?_; refine go_do (valid_fld_q tb rfl rfl rfl rfl) rfl ?_)
                  | refine go_do (valid_not rfl rfl rfl) rfl ?_
                  | (refine nxt_s 4 rfl ?_; refine go_do (valid_idx_s rfl rfl rfl rfl rfl rfl (by omega) (by omega) _ (by assumption)) rfl ?_)
                  | refine go_do (valid_bslice rfl rfl rfl rfl rfl rfl rfl rfl rfl rfl rfl) rfl ?_
                  | refine go_do (valid_app rfl rfl rfl rfl rfl rfl rfl rfl rfl rfl rfl rfl rfl (by omega)) rfl ?_)
              | (refine hK _ ?_; clear hK K)
              | refine aw_text rfl ?_
              | refine aw_cond1 rfl rfl ?_
              | refine aw_cond0 rfl rfl ?_
              | refine aw_block ?_
              | refine aw_skip ?_
              | refine aw_seq_k (fun K hK => ?_))
            exact ⟨(i + 1, l ++ [c], false, n + 1, xs ++ [.int .u64 c.1, .int .u64 c.2]), ⟨by show i + 1 ≤ m.length; omega, hf.symm, by show n + 1 = (l ++ [c]).length; simp [g3], by show _ = fl (l ++ [c]); rw [g4, fl_snoc], by show (l ++ [c]).length ≤ 2 * (i + 1); simp; omega⟩, by show m.length - (i + 1) < m.length - i; omega, Sub.trans (sub_of [(1, .m (iu p)), (2, .m (iu v)), (3, .m (.c (.p 3 0))), (6, .m (.c (.p 6 0))), (7, .m (.c (.o 52))), (8, .m (ib false)), (9, .m (ii ((i + 1 : Nat) : Int)))] [(3, .live (.box [cu sz, .s m.length 2 (fl m)])), (6, .live (.box [cu 0, .v (.slice none 0 0)])), (52, .live (.row 116 2 (n + 1) (xs ++ [.int .u64 c.1, .int .u64 c.2])))] ⟨rfl, rfl, rfl, rfl, rfl, rfl, rfl, trivial⟩ ⟨rfl, rfl, rfl, trivial⟩ rfl) (Sub.trans (sub_mv (b := 52) (b' := 1000) rfl rfl) (sub_of _ _ ⟨rfl, rfl, rfl, rfl, rfl, rfl, rfl, trivial⟩ ⟨rfl, rfl, rfl, trivial⟩ rfl))⟩
          · skip
            repeat (first
              | (refine go_at rfl ?_; first
                  | refine go_do (valid_skip rfl) rfl ?_
                  | refine go_do (valid_mv (.inl rfl) rfl) rfl ?_
                  | (refine nxt_s 1 rfl ?_; refine go_do (valid_load_p tb rfl rfl rfl rfl rfl (by first | kernel_rfl | rfl)) (by first | kernel_rfl | rfl) ?_)
                  | (refine nxt_s 1 rfl ?_; refine go_do (valid_fld_p tb rfl rfl rfl (by kernel_rfl)) rfl ?_)
                  | refine go_do (valid_mv (.inr rfl) rfl) rfl ?_
                  | refine go_do (valid_pick rfl rfl rfl) rfl ?_
                  | refine go_do (valid_cmp rfl rfl rfl rfl (by first | exact .eql1 (by omega) | exact .eql0 (by omega) | exact .neq1 (by omega) | exact .neq0 (by omega) | exact .lss1 (by omega) | exact .lss0 (by omega) | exact .leq1 (by omega) | exact .leq0 (by omega) | exact .gtr1 (by omega) | exact .gtr0 (by omega) | exact .geq1 (by omega) | exact .geq0 (by omega) | constructor)) rfl ?_
                  | refine go_do (valid_ar rfl rfl rfl rfl (by constructor) (by first | exact wr_u64 (by omega) (by omega) | exact wr_i64 (by omega) (by omega) | rfl)) rfl ?_
                  | refine go_do (valid_len_s rfl rfl rfl rfl) rfl ?_
                  | (refine nxt_s 3 rfl ?_; refine go_do (valid_load_q tb rfl rfl rfl rfl (by first | kernel_rfl | rfl)) rfl ?_)
                  | (refine nxt_s 3 rfl ?_; refine go_do (valid_fld_q tb rfl rfl rfl rfl) rfl ?_)
                  | refine go_do (valid_not rfl rfl rfl) rfl ?_
                  | (refine nxt_s 4 rfl ?_; refine go_do (valid_idx_s rfl rfl rfl rfl rfl rfl (by omega) (by omega) _ (by assumption)) rfl ?_)
                  | refine go_do (valid_bslice rfl rfl rfl rfl rfl rfl rfl rfl rfl rfl rfl) rfl ?_
                  | refine go_do (valid_app rfl rfl rfl rfl rfl rfl rfl rfl rfl rfl rfl rfl rfl (by omega)) rfl ?_)
              | (refine hK _ ?_; clear hK K)
              | refine aw_text rfl ?_
              | refine aw_cond1 rfl rfl ?_
              | refine aw_cond0 rfl rfl ?_
              | refine aw_block ?_
              | refine aw_skip ?_
              | refine aw_seq_k (fun K hK => ?_))
            exact ⟨(i + 1, l ++ [c], true, n + 1, xs ++ [.int .u64 c.1, .int .u64 c.2]), ⟨by show i + 1 ≤ m.length; omega, hf.symm, by show n + 1 = (l ++ [c]).length; simp [g3], by show _ = fl (l ++ [c]); rw [g4, fl_snoc], by show (l ++ [c]).length ≤ 2 * (i + 1); simp; omega⟩, by show m.length - (i + 1) < m.length - i; omega, Sub.trans (sub_of [(1, .m (iu p)), (2, .m (iu v)), (3, .m (.c (.p 3 0))), (6, .m (.c (.p 6 0))), (7, .m (.c (.o 52))), (8, .m (ib true)), (9, .m (ii ((i + 1 : Nat) : Int)))] [(3, .live (.box [cu sz, .s m.length 2 (fl m)])), (6, .live (.box [cu 0, .v (.slice none 0 0)])), (52, .live (.row 116 2 (n + 1) (xs ++ [.int .u64 c.1, .int .u64 c.2])))] ⟨rfl, rfl, rfl, rfl, rfl, rfl, rfl, trivial⟩ ⟨rfl, rfl, rfl, trivial⟩ rfl) (Sub.trans (sub_mv (b := 52) (b' := 1000) rfl rfl) (sub_of _ _ ⟨rfl, rfl, rfl, rfl, rfl, rfl, rfl, trivial⟩ ⟨rfl, rfl, rfl, trivial⟩ rfl))⟩
    · have hi : i = m.length := by omega
      rw [hi, List.take_length] at g2
      rw [← g2] at hput
      cases d
      · have e : putM m p v = l ++ [(p, v)] := hput.symm
        obtain rfl : N = n + 1 := by rw [hN, e, g3]; simp
        obtain rfl : XS = xs ++ [.int .u64 p, .int .u64 v] := by rw [hXS, e, g4, fl_snoc]
        repeat (first
          | (refine go_at rfl ?_; first
              | refine go_do (valid_mv (.inl rfl) rfl) rfl ?_
              | (refine nxt_s 1 rfl ?_; refine go_do (valid_load_p tb rfl rfl rfl rfl rfl (by first | kernel_rfl | rfl)) (by first | kernel_rfl | rfl) ?_)
              | (refine nxt_s 1 rfl ?_; refine go_do (valid_fld_p tb rfl rfl rfl (by kernel_rfl)) rfl ?_)
              | refine go_do (valid_mv (.inr rfl) rfl) rfl ?_
              | refine go_do (valid_cmp rfl rfl rfl rfl (by first | exact .eql1 (by omega) | exact .eql0 (by omega) | exact .neq1 (by omega) | exact .neq0 (by omega) | exact .lss1 (by omega) | exact .lss0 (by omega) | exact .leq1 (by omega) | exact .leq0 (by omega) | exact .gtr1 (by omega) | exact .gtr0 (by omega) | exact .geq1 (by omega) | exact .geq0 (by omega) | constructor)) rfl ?_
              | (refine nxt_s 1 rfl ?_; refine go_do (valid_store_p rfl rfl rfl rfl rfl rfl (by first | kernel_rfl | rfl) rfl) (by first | kernel_rfl | rfl) ?_)
              | refine go_do (valid_len_s rfl rfl rfl rfl) rfl ?_
              | refine go_do (valid_not rfl rfl rfl) rfl ?_
              | refine go_do (valid_build rfl rfl rfl rfl) rfl ?_
              | refine go_do (valid_bslice rfl rfl rfl rfl rfl rfl rfl rfl rfl rfl rfl) rfl ?_
              | refine go_do (valid_app rfl rfl rfl rfl rfl rfl rfl rfl rfl rfl rfl rfl rfl (by omega)) rfl ?_)
          | (refine hK _ ?_; clear hK K)
          | (rename_i K1 hK1; refine hK1 _ ?_; clear hK hK1; clear K)
          | refine aw_text rfl ?_
          | exact aw_ret (show resA _ _ _ = some _ by kernel_rfl)
          | refine aw_cond1 rfl rfl ?_
          | refine aw_cond0 rfl rfl ?_
          | refine aw_exit ?_
          | refine aw_seq_k (fun K hK => ?_))
      · have e : putM m p v = l := hput.symm
        obtain rfl : N = n := by rw [hN, e, g3]
        obtain rfl : XS = xs := by rw [hXS, e, g4]
        repeat (first
          | (refine go_at rfl ?_; first
              | refine go_do (valid_mv (.inl rfl) rfl) rfl ?_
              | (refine nxt_s 1 rfl ?_; refine go_do (valid_load_p tb rfl rfl rfl rfl rfl (by first | kernel_rfl | rfl)) (by first | kernel_rfl | rfl) ?_)
              | (refine nxt_s 1 rfl ?_; refine go_do (valid_fld_p tb rfl rfl rfl (by kernel_rfl)) rfl ?_)
              | refine go_do (valid_cmp rfl rfl rfl rfl (by first | exact .eql1 (by omega) | exact .eql0 (by omega) | exact .neq1 (by omega) | exact .neq0 (by omega) | exact .lss1 (by omega) | exact .lss0 (by omega) | exact .leq1 (by omega) | exact .leq0 (by omega) | exact .gtr1 (by omega) | exact .gtr0 (by omega) | exact .geq1 (by omega) | exact .geq0 (by omega) | constructor)) rfl ?_
              | (refine nxt_s 1 rfl ?_; refine go_do (valid_store_p rfl rfl rfl rfl rfl rfl (by first | kernel_rfl | rfl) rfl) (by first | kernel_rfl | rfl) ?_)
              | refine go_do (valid_len_s rfl rfl rfl rfl) rfl ?_
              | refine go_do (valid_not rfl rfl rfl) rfl ?_)
          | (refine hK _ ?_; clear hK K)
          | (rename_i K1 hK1; refine hK1 _ ?_; clear hK hK1; clear K)
          | refine aw_text rfl ?_
          | exact aw_ret (show resA _ _ _ = some _ by kernel_rfl)
          | refine aw_cond0 rfl rfl ?_
          | refine aw_exit ?_
          | refine aw_skip ?_
          | refine aw_seq_k (fun K hK => ?_))
def clrH (sz p v : Int) (m : List (Int × Int)) (i : Nat) (n : Nat) (xs : List Value) : St := St.of [(1, .m (iu p)), (2, .m (iu v)), (3, .m (.c (.p 3 0))), (6, .m (.c (.p 6 0))), (7, .m (.c (.o 1000))), (8, .m (ii i))] [(3, .live (.box [cu sz, .s m.length 2 (fl m)])), (6, .live (.box [cu 0, .v (.slice none 0 0)])), (1000, .live (.row 116 2 n xs))]
theorem rclear_ok (sz : Int) (m : List (Int × Int)) (f : Int) (hs : Srt m) (hl : m.length ≤ 1000000) (hf0 : 0 ≤ f ∧ f < 268436480) (hb : ∀ c ∈ m, 0 ≤ c.1 ∧ c.1 < 1099511627776) : Ok 101 [memA sz m, iu (4096 * f), iu 4096] (.m (memA sz (TableC.wipeM m f))) := by
  have hput := wipe_filt f m hs
  obtain ⟨N, hN⟩ : ∃ N, N = (TableC.wipeM m f).length := ⟨_, rfl⟩
  obtain ⟨XS, hXS⟩ : ∃ XS, XS = fl (TableC.wipeM m f) := ⟨_, rfl⟩
  rw [memA_eq (sz := sz) hN hXS]
  obtain ⟨p, hp⟩ : ∃ p, p = 4096 * f := ⟨_, rfl⟩
  obtain ⟨v, hv⟩ : ∃ v : Int, v = 4096 := ⟨_, rfl⟩
  rw [← hp]
  rw [show iu (4096 : Int) = iu v by rw [hv]]
  refine callOk_of 49 Tryz.func101 rfl rfl rfl rfl ?_ GG.to
  intro W A hG
  repeat (first
    | (refine go_at rfl ?_; first
        | refine go_do (valid_mv (.inr rfl) rfl) rfl ?_
        | refine go_do (valid_box rfl rfl rfl rfl rfl rfl) rfl ?_
        | refine go_do (valid_alloc rfl rfl rfl rfl rfl) rfl ?_)
    | (refine hK _ ?_; clear hK K)
    | refine aw_text rfl ?_
    | refine aw_block ?_
    | refine aw_seq_k (fun K hK => ?_))
  refine aw_loopH (α := Nat × List (Int × Int) × Nat × List Value) (fun q => q.1 ≤ m.length ∧ q.2.1 = (m.take q.1).filter (outB (f * 512) (f * 512 + 512)) ∧ q.2.2.1 = q.2.1.length ∧ q.2.2.2 = fl q.2.1) (fun q => clrH sz p v m q.1 q.2.2.1 q.2.2.2) (fun q => m.length - q.1) (0, [], 0, []) ⟨Nat.zero_le _, rfl, rfl, rfl⟩ (Sub.trans (sub_nil 7 1000 116 2 rfl rfl) (sub_of _ _ ⟨rfl, rfl, rfl, rfl, rfl, rfl, trivial⟩ ⟨rfl, rfl, rfl, trivial⟩ (by kernel_rfl))) ?_
  rintro ⟨i, l, n, xs⟩ ⟨h1, h2, h3, h4⟩
  have g1 : i ≤ m.length := h1
  have g2 : l = (m.take i).filter (outB (f * 512) (f * 512 + 512)) := h2
  have g3 : n = l.length := h3
  have g4 : xs = fl l := h4
  have g5 : l.length ≤ m.length := by rw [g2]; exact Nat.le_trans (List.length_filter_le _ _) (by rw [List.length_take]; omega)
  show Aw _ _ _ _ (clrH sz p v m i n xs)
  unfold clrH
  by_cases hlt : i < m.length
  · obtain ⟨c, hc⟩ : ∃ c, m[i]? = some c := ⟨_, List.getElem?_eq_getElem hlt⟩
    have hx := SpL.fl_at2 hc
    have hcb := hb c (List.mem_of_getElem? hc)
    have hf := take_filt (outB (f * 512) (f * 512 + 512)) m i c hc
    rw [← g2] at hf
    by_cases a1 : c.1 < f * 512
    · rw [show [c].filter (outB (f * 512) (f * 512 + 512)) = [c] from List.filter_eq_self.2 (fun x hx => by simp at hx; subst hx; simp [outB, a1])] at hf
      repeat (first
        | (refine go_at rfl ?_; first
            | refine go_do (valid_skip rfl) rfl ?_
            | refine go_do (valid_mv (.inl rfl) rfl) rfl ?_
            | (refine nxt_s 1 rfl ?_; refine go_do (valid_load_p tb rfl rfl rfl rfl rfl (by first | kernel_rfl | rfl)) (by first | kernel_rfl | rfl) ?_)
            | (refine nxt_s 1 rfl ?_; refine go_do (valid_fld_p tb rfl rfl rfl (by kernel_rfl)) rfl ?_)
            | refine go_do (valid_mv (.inr rfl) rfl) rfl ?_
            | refine go_do (valid_pick rfl rfl rfl) rfl ?_
            | refine go_do (valid_cmp rfl rfl rfl rfl (by first | exact .eql1 (by omega) | exact .eql0 (by omega) | exact .neq1 (by omega) | exact .neq0 (by omega) | exact .lss1 (by omega) | exact .lss0 (by omega) | exact .leq1 (by omega) | exact .leq0 (by omega) | exact .gtr1 (by omega) | exact .gtr0 (by omega) | exact .geq1 (by omega) | exact .geq0 (by omega) | constructor)) rfl ?_
            | refine go_do (valid_ar rfl rfl rfl rfl (by constructor) (by first | exact wr_u64 (by omega) (by omega) | exact wr_i64 (by omega) (by omega) | rfl)) rfl ?_
            | refine go_do (valid_len_s rfl rfl rfl rfl) rfl ?_
            | (refine nxt_s 3 rfl ?_; refine go_do (valid_load_q tb rfl rfl rfl rfl (by first | kernel_rfl | rfl)) rfl ?_)
            | (refine nxt_s 3 rfl ?_; refine go_do (valid_fld_q tb rfl rfl rfl rfl) rfl ?_)
            | (refine nxt_s 4 rfl ?_; refine go_do (valid_idx_s rfl rfl rfl rfl rfl rfl (by omega) (by omega) _ (by assumption)) rfl ?_)
            | refine go_do (valid_bslice rfl rfl rfl rfl rfl rfl rfl rfl rfl rfl rfl) rfl ?_
            | refine go_do (valid_app rfl rfl rfl rfl rfl rfl rfl rfl rfl rfl rfl rfl rfl (by omega)) rfl ?_)
        | (refine hK _ ?_; clear hK K)
        | refine aw_text rfl ?_
        | refine aw_cond1 rfl rfl ?_
        | refine aw_block ?_
        | refine aw_skip ?_
        | refine aw_seq_k (fun K hK => ?_))
      exact ⟨(i + 1, l ++ [c], n + 1, xs ++ [.int .u64 c.1, .int .u64 c.2]), ⟨by show i + 1 ≤ m.length; omega, hf.symm, by show n + 1 = (l ++ [c]).length; simp [g3], by show _ = fl (l ++ [c]); rw [g4, fl_snoc]⟩, by show m.length - (i + 1) < m.length - i; omega, Sub.trans (sub_of [(1, .m (iu p)), (2, .m (iu v)), (3, .m (.c (.p 3 0))), (6, .m (.c (.p 6 0))), (7, .m (.c (.o 45))), (8, .m (ii ((i + 1 : Nat) : Int)))] [(3, .live (.box [cu sz, .s m.length 2 (fl m)])), (6, .live (.box [cu 0, .v (.slice none 0 0)])), (45, .live (.row 116 2 (n + 1) (xs ++ [.int .u64 c.1, .int .u64 c.2])))] ⟨rfl, rfl, rfl, rfl, rfl, rfl, trivial⟩ ⟨rfl, rfl, rfl, trivial⟩ rfl) (Sub.trans (sub_mv (b := 45) (b' := 1000) rfl rfl) (sub_of _ _ ⟨rfl, rfl, rfl, rfl, rfl, rfl, trivial⟩ ⟨rfl, rfl, rfl, trivial⟩ rfl))⟩
    · by_cases a2 : f * 512 + 512 ≤ c.1
      · rw [show [c].filter (outB (f * 512) (f * 512 + 512)) = [c] from List.filter_eq_self.2 (fun x hx => by simp at hx; subst hx; simp [outB, a2])] at hf
        repeat (first
          | (refine go_at rfl ?_; first
              | refine go_do (valid_mv (.inl rfl) rfl) rfl ?_
              | (refine nxt_s 1 rfl ?_; refine go_do (valid_load_p tb rfl rfl rfl rfl rfl (by first | kernel_rfl | rfl)) (by first | kernel_rfl | rfl) ?_)
              | (refine nxt_s 1 rfl ?_; refine go_do (valid_fld_p tb rfl rfl rfl (by kernel_rfl)) rfl ?_)
              | refine go_do (valid_mv (.inr rfl) rfl) rfl ?_
              | refine go_do (valid_pick rfl rfl rfl) rfl ?_
              | refine go_do (valid_cmp rfl rfl rfl rfl (by first | exact .eql1 (by omega) | exact .eql0 (by omega) | exact .neq1 (by omega) | exact .neq0 (by omega) | exact .lss1 (by omega) | exact .lss0 (by omega) | exact .leq1 (by omega) | exact .leq0 (by omega) | exact .gtr1 (by omega) | exact .gtr0 (by omega) | exact .geq1 (by omega) | exact .geq0 (by omega) | constructor)) rfl ?_
              | refine go_do (valid_ar rfl rfl rfl rfl (by constructor) (by first | exact wr_u64 (by omega) (by omega) | exact wr_i64 (by omega) (by omega) | rfl)) rfl ?_
              | refine go_do (valid_len_s rfl rfl rfl rfl) rfl ?_
              | (refine nxt_s 3 rfl ?_; refine go_do (valid_load_q tb rfl rfl rfl rfl (by first | kernel_rfl | rfl)) rfl ?_)
              | (refine nxt_s 3 rfl ?_; refine go_do (valid_fld_q tb rfl rfl rfl rfl) rfl ?_)
              | (refine nxt_s 4 rfl ?_; refine go_do (valid_idx_s rfl rfl rfl rfl rfl rfl (by omega) (by omega) _ (by assumption)) rfl ?_)
              | refine go_do (valid_bslice rfl rfl rfl rfl rfl rfl rfl rfl rfl rfl rfl) rfl ?_
              | refine go_do (valid_app rfl rfl rfl rfl rfl rfl rfl rfl rfl rfl rfl rfl rfl (by omega)) rfl ?_)
          | (refine hK _ ?_; clear hK K)
          | refine aw_text rfl ?_
          | refine aw_cond1 rfl rfl ?_
          | refine aw_block ?_
          | refine aw_skip ?_
          | refine aw_seq_k (fun K hK => ?_))
        exact ⟨(i + 1, l ++ [c], n + 1, xs ++ [.int .u64 c.1, .int .u64 c.2]), ⟨by show i + 1 ≤ m.length; omega, hf.symm, by show n + 1 = (l ++ [c]).length; simp [g3], by show _ = fl (l ++ [c]); rw [g4, fl_snoc]⟩, by show m.length - (i + 1) < m.length - i; omega, Sub.trans (sub_of [(1, .m (iu p)), (2, .m (iu v)), (3, .m (.c (.p 3 0))), (6, .m (.c (.p 6 0))), (7, .m (.c (.o 45))), (8, .m (ii ((i + 1 : Nat) : Int)))] [(3, .live (.box [cu sz, .s m.length 2 (fl m)])), (6, .live (.box [cu 0, .v (.slice none 0 0)])), (45, .live (.row 116 2 (n + 1) (xs ++ [.int .u64 c.1, .int .u64 c.2])))] ⟨rfl, rfl, rfl, rfl, rfl, rfl, trivial⟩ ⟨rfl, rfl, rfl, trivial⟩ rfl) (Sub.trans (sub_mv (b := 45) (b' := 1000) rfl rfl) (sub_of _ _ ⟨rfl, rfl, rfl, rfl, rfl, rfl, trivial⟩ ⟨rfl, rfl, rfl, trivial⟩ rfl))⟩
      · rw [show [c].filter (outB (f * 512) (f * 512 + 512)) = [] from List.filter_eq_nil_iff.2 (fun x hx => by simp at hx; subst hx; simp [outB]; omega), List.append_nil] at hf
        repeat (first
          | (refine go_at rfl ?_; first
              | refine go_do (valid_mv (.inl rfl) rfl) rfl ?_
              | (refine nxt_s 1 rfl ?_; refine go_do (valid_load_p tb rfl rfl rfl rfl rfl (by first | kernel_rfl | rfl)) (by first | kernel_rfl | rfl) ?_)
              | (refine nxt_s 1 rfl ?_; refine go_do (valid_fld_p tb rfl rfl rfl (by kernel_rfl)) rfl ?_)
              | refine go_do (valid_mv (.inr rfl) rfl) rfl ?_
              | refine go_do (valid_pick rfl rfl rfl) rfl ?_
              | refine go_do (valid_cmp rfl rfl rfl rfl (by first | exact .eql1 (by omega) | exact .eql0 (by omega) | exact .neq1 (by omega) | exact .neq0 (by omega) | exact .lss1 (by omega) | exact .lss0 (by omega) | exact .leq1 (by omega) | exact .leq0 (by omega) | exact .gtr1 (by omega) | exact .gtr0 (by omega) | exact .geq1 (by omega) | exact .geq0 (by omega) | constructor)) rfl ?_
              | refine go_do (valid_ar rfl rfl rfl rfl (by constructor) (by first | exact wr_u64 (by omega) (by omega) | exact wr_i64 (by omega) (by omega) | rfl)) rfl ?_
              | refine go_do (valid_len_s rfl rfl rfl rfl) rfl ?_
              | (refine nxt_s 3 rfl ?_; refine go_do (valid_load_q tb rfl rfl rfl rfl (by first | kernel_rfl | rfl)) rfl ?_)
              | (refine nxt_s 3 rfl ?_; refine go_do (valid_fld_q tb rfl rfl rfl rfl) rfl ?_)
              | (refine nxt_s 4 rfl ?_; refine go_do (valid_idx_s rfl rfl rfl rfl rfl rfl (by omega) (by omega) _ (by assumption)) rfl ?_))
          | (refine hK _ ?_; clear hK K)
          | refine aw_text rfl ?_
          | refine aw_cond1 rfl rfl ?_
          | refine aw_cond0 rfl rfl ?_
          | refine aw_block ?_
          | refine aw_skip ?_
          | refine aw_seq_k (fun K hK => ?_))
        exact ⟨(i + 1, l, n, xs), ⟨by show i + 1 ≤ m.length; omega, hf.symm, g3, g4⟩, by show m.length - (i + 1) < m.length - i; omega, sub_of _ _ ⟨rfl, rfl, rfl, rfl, rfl, rfl, trivial⟩ ⟨rfl, rfl, rfl, trivial⟩ (by kernel_rfl)⟩
  · have hi : i = m.length := by omega
    rw [hi, List.take_length] at g2
    rw [← g2] at hput
    obtain rfl : N = n := by rw [hN, hput, g3]
    obtain rfl : XS = xs := by rw [hXS, hput, g4]
    repeat (first
      | (refine go_at rfl ?_; first
          | refine go_do (valid_mv (.inl rfl) rfl) rfl ?_
          | (refine nxt_s 1 rfl ?_; refine go_do (valid_load_p tb rfl rfl rfl rfl rfl (by first | kernel_rfl | rfl)) (by first | kernel_rfl | rfl) ?_)
          | (refine nxt_s 1 rfl ?_; refine go_do (valid_fld_p tb rfl rfl rfl (by kernel_rfl)) rfl ?_)
          | refine go_do (valid_cmp rfl rfl rfl rfl (by first | exact .eql1 (by omega) | exact .eql0 (by omega) | exact .neq1 (by omega) | exact .neq0 (by omega) | exact .lss1 (by omega) | exact .lss0 (by omega) | exact .leq1 (by omega) | exact .leq0 (by omega) | exact .gtr1 (by omega) | exact .gtr0 (by omega) | exact .geq1 (by omega) | exact .geq0 (by omega) | constructor)) rfl ?_
          | (refine nxt_s 1 rfl ?_; refine go_do (valid_store_p rfl rfl rfl rfl rfl rfl (by first | kernel_rfl | rfl) rfl) (by first | kernel_rfl | rfl) ?_)
          | refine go_do (valid_len_s rfl rfl rfl rfl) rfl ?_)
      | (refine hK _ ?_; clear hK K)
      | (rename_i K1 hK1; refine hK1 _ ?_; clear hK hK1; clear K)
      | refine aw_text rfl ?_
      | exact aw_ret (show resA _ _ _ = some _ by kernel_rfl)
      | refine aw_cond0 rfl rfl ?_
      | refine aw_exit ?_
      | refine aw_seq_k (fun K hK => ?_))
end Go.Proofs.YtkffmaeiplgjeaaGreatDoor.RfB
