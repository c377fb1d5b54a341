/- Texts of this claim, one behind the other: AxA, MemL2, AxB. -/
import Derived.Test.YtkffmaeiplgjeaaGreatDoorM1
import Derived.ArgAppend
import Derived.Laws.IdiomCopy
import Derived.Deep.MidRow
import Derived.Laws.MakeOwn
import Derived.Laws.OwnMore
/- An abstract walk of this session's own: temporaries and blocks of the call's own told as plain data, no world and no address in sight; a region's order plays no part. -/
namespace Go.Proofs.YtkffmaeiplgjeaaGreatDoor.Ax
open Go.RowKit Go.Proofs.YtkffmaeiplgjeaaGreatDoor.MemL Go.Proofs.YtkffmaeiplgjeaaGreatDoor.RegR
set_option linter.unusedVariables false
set_option linter.unusedSimpArgs false
/-- one cell's content: a value as it is, a slice that reads as cells, a pointer to cells that are read alone, a pointer into an own block, an own slice, a pointer into its row, or whatever -/
inductive Ce where
  | v (x : Value)
  | s (n k : Nat) (xs : List Value)
  | q (xs : List Value)
  | p (b off : Nat)
  | o (b : Nat)
  | rp (b off : Nat)
  | f (n k : Nat) (xs : List Value)
  | bs (b off n : Nat)
  | any
inductive Cm where
  | c (x : Ce)
  | ag (cs : List Ce)
inductive AV where
  | m (x : Cm)
  | tu (l : List Cm)
inductive Bk where
  | box (cs : List Ce)
  | row (e k n : Nat) (xs : List Value)
/-- what is known of a name of a block: not used so far, no more to be used, or what lies there -/
inductive Hs where
  | fresh
  | dead
  | live (k : Bk)
  | patch (off : Nat) (l : List Ce)
/-- cells are laid one behind the other -/
def putA : List Ce → Nat → List Ce → List Ce
  | cs, _, [] => cs
  | cs, o, x :: r => putA (cs.set o x) (o + 1) r
/-- what becomes of a block: it is told anew, or a stretch of its cells is -/
def put1 : Hs → Hs → Hs
  | .patch off l, .live (.box cs) => .live (.box (putA cs off l))
  | .patch _ _, x => x
  | x, _ => x
structure St where
  tm : Nat → AV
  hp : Nat → Hs
def All2 {α β : Type} (R : α → β → Prop) : List α → List β → Prop
  | [], [] => True
  | a :: as, b :: bs => R a b ∧ All2 R as bs
  | _, _ => False
theorem All2.mono {α β : Type} {R R' : α → β → Prop} (h : ∀ a b, R a b → R' a b) : ∀ (as : List α) (bs : List β), All2 R as bs → All2 R' as bs
  | [], [], _ => trivial
  | _ :: as, _ :: bs, k => ⟨h _ _ k.1, All2.mono h as bs k.2⟩
  | [], _ :: _, k => k.elim
  | _ :: _, [], k => k.elim
theorem All2.length {α β : Type} {R : α → β → Prop} : ∀ (as : List α) (bs : List β), All2 R as bs → as.length = bs.length
  | [], [], _ => rfl
  | _ :: as, _ :: bs, k => by simp [All2.length as bs k.2]
  | [], _ :: _, k => k.elim
  | _ :: _, [], k => k.elim
theorem All2.get {α β : Type} {R : α → β → Prop} : ∀ (as : List α) (bs : List β) (i : Nat) (a : α), All2 R as bs → as[i]? = some a → ∃ b, bs[i]? = some b ∧ R a b
  | [], [], _, _, _, h => by simp at h
  | x :: as, y :: bs, 0, a, k, h => ⟨y, rfl, by simp at h; subst h; exact k.1⟩
  | x :: as, y :: bs, i + 1, a, k, h => by
    obtain ⟨b, hb, hr⟩ := All2.get as bs i a k.2 (by simpa using h); exact ⟨b, by simpa using hb, hr⟩
  | [], _ :: _, _, _, k, _ => k.elim
  | _ :: _, [], _, _, k, _ => k.elim
theorem All2.take {α β : Type} {R : α → β → Prop} : ∀ (as : List α) (bs : List β) (i : Nat), All2 R as bs → All2 R (as.take i) (bs.take i)
  | [], [], i, k => by simp; trivial
  | x :: as, y :: bs, 0, k => trivial
  | x :: as, y :: bs, i + 1, k => ⟨k.1, All2.take as bs i k.2⟩
  | [], _ :: _, _, k => k.elim
  | _ :: _, [], _, k => k.elim
theorem All2.drop {α β : Type} {R : α → β → Prop} : ∀ (as : List α) (bs : List β) (i : Nat), All2 R as bs → All2 R (as.drop i) (bs.drop i)
  | [], [], i, k => by simp; trivial
  | x :: as, y :: bs, 0, k => k
  | x :: as, y :: bs, i + 1, k => All2.drop as bs i k.2
  | [], _ :: _, _, k => k.elim
  | _ :: _, [], _, k => k.elim
theorem All2.append {α β : Type} {R : α → β → Prop} : ∀ (as : List α) (bs : List β) (as' : List α) (bs' : List β), All2 R as bs → All2 R as' bs' → All2 R (as ++ as') (bs ++ bs')
  | [], [], _, _, _, k => k
  | x :: as, y :: bs, as', bs', k, k' => ⟨k.1, All2.append as bs as' bs' k.2 k'⟩
  | [], _ :: _, _, _, k, _ => k.elim
  | _ :: _, [], _, _, k, _ => k.elim
theorem All2.of_map {α β : Type} {R : α → β → Prop} (f : β → α) (h : ∀ b, R (f b) b) : ∀ (bs : List β), All2 R (bs.map f) bs
  | [] => trivial
  | b :: bs => ⟨h b, All2.of_map f h bs⟩
theorem All2.set {α β : Type} {R : α → β → Prop} : ∀ (as : List α) (bs : List β) (i : Nat) (a : α) (b : β), All2 R as bs → R a b → All2 R (as.set i a) (bs.set i b)
  | [], [], _, _, _, _, _ => by simp; trivial
  | x :: as, y :: bs, 0, a, b, k, h => ⟨h, k.2⟩
  | x :: as, y :: bs, i + 1, a, b, k, h => ⟨k.1, All2.set as bs i a b k.2 h⟩
  | [], _ :: _, _, _, _, k, _ => k.elim
  | _ :: _, [], _, _, _, k, _ => k.elim
/-- where values are read: the blocks that may be read alone, the names in use, what they stand for, the world -/
structure En where
  A : Nat → Prop
  U : Nat → Prop
  τ : Nat → Value
  w : World
def Ce.R (E : En) : Ce → Value → Prop
  | .v x, u => u = x
  | .s n k xs, u => Sl E.w u n k xs ∧ ∀ a l c, u = .slice (some a) l c → E.A a.block
  | .q xs, u => ∃ g o, u = .pointer (some ⟨g, o, none⟩) ∧ g < E.w.heap.size ∧ E.A g ∧ ∀ i, i < xs.length → E.w.cell? ⟨g, o + i, none⟩ = xs[i]?
  | .p b off, u => E.U b ∧ ∃ g, E.τ b = .pointer (some ⟨g, 0, none⟩) ∧ u = .pointer (some ⟨g, off, none⟩)
  | .o b, u => E.U b ∧ u = E.τ b
  | .rp b off, u => E.U b ∧ ∃ g n cap, E.τ b = .slice (some ⟨g, 0, none⟩) n cap ∧ u = .pointer (some ⟨g, off, none⟩)
  | .f n k xs, u => Sl E.w u n k xs ∧ (∀ a l c, u = .slice (some a) l c → E.A a.block) ∧ ∀ a l c, u = .slice a l c → c = l
  | .bs b off n, u => E.U b ∧ ∃ g, E.τ b = .pointer (some ⟨g, 0, none⟩) ∧ u = .slice (some ⟨g, off, none⟩) n n
  | .any, _ => True
def Cm.R (E : En) : Cm → Value → Prop
  | .c x, u => x.R E u
  | .ag cs, u => ∃ vs, u = .agg vs ∧ All2 (Ce.R E) cs vs.toList
def AV.R (E : En) : AV → Value → Prop
  | .m x, u => x.R E u
  | .tu l, u => ∃ vs, u = .tuple vs ∧ All2 (Cm.R E) l vs.toList
def Bk.R (E : En) (base : Nat) : Bk → Value → Prop
  | .box cs, u => ∃ g vs, u = .pointer (some ⟨g, 0, none⟩) ∧ Bx E.w g vs ∧ All2 (Ce.R E) cs vs.toList
  | .row e k n xs, u => E.w.ownsRow base e k u n xs
/-- what is read in the one may be read in the other -/
structure En.le (E F : En) : Prop where
  U : ∀ b, E.U b → F.U b ∧ F.τ b = E.τ b
  A : ∀ g, g < E.w.heap.size → E.A g → F.A g
  size : E.w.heap.size ≤ F.w.heap.size
  cell : ∀ g o, g < E.w.heap.size → E.A g → F.w.cell? ⟨g, o, none⟩ = E.w.cell? ⟨g, o, none⟩
theorem sl_le {E F : En} (h : E.le F) {n k : Nat} {xs : List Value} {u : Value} (k1 : Sl E.w u n k xs) (k3 : ∀ a l c, u = .slice (some a) l c → E.A a.block) : Sl F.w u n k xs ∧ ∀ a l c, u = .slice (some a) l c → F.A a.block := by
  obtain ⟨k1, k2⟩ := k1
  rcases k2 with k2 | ⟨b, o, cap, rfl, l, h3, h4, h5⟩
  · refine ⟨⟨k1, .inl k2⟩, fun a l c e => ?_⟩
    rw [k2.1] at e; cases e
  · have ha := k3 ⟨b, o, none⟩ _ _ rfl
    refine ⟨⟨k1, .inr ⟨b, o, cap, rfl, Nat.lt_of_lt_of_le l h.size, h3, h4, fun i hi => (h.cell b (o + i) l ha).trans (h5 i hi)⟩⟩, fun a l' c e => ?_⟩
    cases e; exact h.A b l ha
theorem ceR_le {E F : En} (h : E.le F) : ∀ (x : Ce) (u : Value), x.R E u → x.R F u
  | .v x, u, k => k
  | .s n k xs, u, ⟨⟨k1, k2⟩, k3⟩ => by
    rcases k2 with k2 | ⟨b, o, cap, rfl, l, h3, h4, h5⟩
    · refine ⟨⟨k1, .inl k2⟩, fun a l c e => ?_⟩
      rw [k2.1] at e; cases e
    · have ha := k3 ⟨b, o, none⟩ _ _ rfl
      refine ⟨⟨k1, .inr ⟨b, o, cap, rfl, Nat.lt_of_lt_of_le l h.size, h3, h4, fun i hi => (h.cell b (o + i) l ha).trans (h5 i hi)⟩⟩, fun a l' c e => ?_⟩
      cases e; exact h.A b l ha
  | .q xs, u, ⟨g, o, k1, k2, k3, k4⟩ => ⟨g, o, k1, Nat.lt_of_lt_of_le k2 h.size, h.A g k2 k3, fun i hi => (h.cell g (o + i) k2 k3).trans (k4 i hi)⟩
  | .p b off, u, ⟨k0, g, k1, k2⟩ => ⟨(h.U b k0).1, g, (h.U b k0).2.trans k1, k2⟩
  | .o b, u, ⟨k0, k1⟩ => ⟨(h.U b k0).1, k1.trans (h.U b k0).2.symm⟩
  | .rp b off, u, ⟨k0, g, n, cap, k1, k2⟩ => ⟨(h.U b k0).1, g, n, cap, (h.U b k0).2.trans k1, k2⟩
  | .f n k xs, u, ⟨k1, k2, k3⟩ => ⟨(sl_le h k1 k2).1, (sl_le h k1 k2).2, k3⟩
  | .bs b off n, u, ⟨k0, g, k1, k2⟩ => ⟨(h.U b k0).1, g, (h.U b k0).2.trans k1, k2⟩
  | .any, _, _ => trivial
theorem cmR_le {E F : En} (h : E.le F) : ∀ (x : Cm) (u : Value), x.R E u → x.R F u
  | .c x, u, k => ceR_le h x u k
  | .ag cs, u, ⟨vs, k1, k2⟩ => ⟨vs, k1, All2.mono (ceR_le h) _ _ k2⟩
theorem avR_le {E F : En} (h : E.le F) : ∀ (x : AV) (u : Value), x.R E u → x.R F u
  | .m x, u, k => cmR_le h x u k
  | .tu l, u, ⟨vs, k1, k2⟩ => ⟨vs, k1, All2.mono (cmR_le h) _ _ k2⟩
def occ : Value → Option Nat
  | .pointer (some a) => some a.block
  | .slice (some a) _ _ => some a.block
  | _ => none
structure Cx where
  N : Nat
  W0 : World
  A0 : Nat → Prop
  G : World → Prop
  hG : ∀ w, Below W0.heap.size W0 w → G w
def Cx.base (X : Cx) : Nat := X.W0.heap.size
def alive (h : Nat → Hs) (b : Nat) : Prop := ∃ k, h b = .live k
def alw (X : Cx) (h : Nat → Hs) (τ : Nat → Value) (g : Nat) : Prop := (X.A0 g ∨ X.base ≤ g) ∧ ∀ b, alive h b → occ (τ b) ≠ some g
/-- where a state's values are read -/
def env (X : Cx) (h : Nat → Hs) (τ : Nat → Value) (w : World) : En := ⟨alw X h τ, fun b => h b ≠ .fresh, τ, w⟩
structure SimT (X : Cx) (S : St) (τ : Nat → Value) (a : Act) (w : World) : Prop where
  size : a.tmps.size = X.N
  nodef : a.defers = []
  bel : Below X.base X.W0 w
  tm : ∀ t, t < X.N → (S.tm t).R (env X S.hp τ w) (a.tmps.getD t undef)
  hp : ∀ b k, S.hp b = .live k → k.R (env X S.hp τ w) X.base (τ b)
  own : ∀ b g, alive S.hp b → occ (τ b) = some g → X.base ≤ g ∧ g < w.heap.size
  sep : ∀ b b' g, b ≠ b' → alive S.hp b → alive S.hp b' → occ (τ b) = some g → occ (τ b') ≠ some g
  one : ∀ b, (τ b).oneCell' = true
def Sim (X : Cx) (S : St) (a : Act) (w : World) : Prop := ∃ τ, SimT X S τ a w
def upd : List (Nat × Hs) → (Nat → Hs) → Nat → Hs
  | [], h, b => h b
  | p :: r, h, b => cond (Nat.beq b p.1) (put1 p.2 (upd r h b)) (upd r h b)
def setTm (d : Option Tmp) (v : AV) (tm : Nat → AV) : Nat → AV :=
  match d with
  | none => tm
  | some d => fun t => cond (Nat.beq t d) v (tm t)
/-- what is looked at of a block: all of it, or a stretch of its cells -/
inductive Rd where
  | all (b : Nat)
  | part (b lo n : Nat)
instance : Coe Nat Rd := ⟨Rd.all⟩
def Rd.blk : Rd → Nat
  | .all b => b
  | .part b _ _ => b
structure Ef where
  val : AV
  up : List (Nat × Hs)
  rd : List Rd
def St.app (S : St) (d : Option Tmp) (e : Ef) : St := { tm := setTm d e.val S.tm, hp := upd e.up S.hp }
def upRd (p : Nat × Hs) : Rd := match p.2 with
  | .patch off l => .part p.1 off l.length
  | _ => .all p.1
def Ef.foot (e : Ef) : List Rd := e.rd ++ e.up.map upRd
/-- two tellings of a block agree as far as it is looked at -/
def AgR (h h' : Nat → Hs) : Rd → Prop
  | .all b => h b = h' b
  | .part b lo n => h b = h' b ∨ ∃ cs cs', h b = .live (.box cs) ∧ h' b = .live (.box cs') ∧ cs.length = cs'.length ∧ (cs.drop lo).take n = (cs'.drop lo).take n
theorem AgR.refl (h : Nat → Hs) : ∀ r, AgR h h r
  | .all _ => rfl
  | .part _ _ _ => .inl rfl
theorem AgR.symm {h h' : Nat → Hs} : ∀ {r}, AgR h h' r → AgR h' h r
  | .all _, k => Eq.symm k
  | .part _ _ _, .inl k => .inl k.symm
  | .part _ _ _, .inr ⟨cs, cs', k1, k2, k3, k4⟩ => .inr ⟨cs', cs, k2, k1, k3.symm, k4.symm⟩
theorem AgR.trans {h h' h'' : Nat → Hs} : ∀ {r}, AgR h h' r → AgR h' h'' r → AgR h h'' r
  | .all _, k, k' => Eq.trans k k'
  | .part _ _ _, .inl k, .inl k' => .inl (k.trans k')
  | .part _ _ _, .inl k, .inr ⟨cs, cs', k1, k2⟩ => .inr ⟨cs, cs', k.trans k1, k2⟩
  | .part _ _ _, .inr ⟨cs, cs', k1, k2, k3⟩, .inl k' => .inr ⟨cs, cs', k1, k'.symm.trans k2, k3⟩
  | .part _ _ _, .inr ⟨cs, cs', k1, k2, k3, k4⟩, .inr ⟨ds, ds', l1, l2, l3, l4⟩ => by
    rw [k2] at l1; cases l1; exact .inr ⟨cs, ds', k1, l2, k3.trans l3, k4.trans l4⟩
def dis (p : Nat × Hs) (r : Rd) : Bool := !(Nat.beq p.1 r.blk) || (match p.2, r with
  | .patch off l, .part _ lo n => Nat.ble (off + l.length) lo || Nat.ble (lo + n) off
  | _, _ => false)
theorem putA_len : ∀ (l : List Ce) (o : Nat) (cs : List Ce), (putA cs o l).length = cs.length
  | [], _, _ => rfl
  | x :: l, o, cs => by simp only [putA]; rw [putA_len l]; simp
theorem putA_get : ∀ (l : List Ce) (o : Nat) (cs : List Ce) (i : Nat), (putA cs o l)[i]? = if o ≤ i ∧ i < o + l.length ∧ i < cs.length then l[i - o]? else cs[i]?
  | [], o, cs, i => by simp only [putA]; rw [if_neg (by simp; omega)]
  | x :: l, o, cs, i => by
    simp only [putA]
    rw [putA_get l (o + 1) _ i]
    simp only [List.length_set, List.length_cons, List.getElem?_set]
    by_cases h1 : i = o
    · subst h1
      by_cases h2 : i < cs.length
      · rw [if_neg (by omega), if_pos rfl, if_pos h2, if_pos ⟨by omega, by omega, h2⟩]; simp
      · rw [if_neg (by omega), if_pos rfl, if_neg h2, if_neg (by omega), List.getElem?_eq_none (by omega)]
    · by_cases h2 : o + 1 ≤ i ∧ i < o + 1 + l.length ∧ i < cs.length
      · rw [if_pos h2, if_pos (by omega)]
        rw [show i - o = (i - (o + 1)) + 1 by omega]; simp
      · rw [if_neg h2, if_neg (fun e => h1 e.symm), if_neg (by omega)]
theorem putA_far (l : List Ce) (o lo n : Nat) (cs : List Ce) (h : o + l.length ≤ lo ∨ lo + n ≤ o) : ((putA cs o l).drop lo).take n = (cs.drop lo).take n := by
  apply List.ext_getElem?
  intro i
  simp only [List.getElem?_take, List.getElem?_drop]
  split
  · rw [putA_get, if_neg (by omega)]
  · rfl
theorem putA_comm (l l' : List Ce) (o o' : Nat) (cs : List Ce) (h : o + l.length ≤ o' ∨ o' + l'.length ≤ o) : putA (putA cs o l) o' l' = putA (putA cs o' l') o l := by
  apply List.ext_getElem?
  intro i
  simp only [putA_get, putA_len]
  by_cases h1 : o ≤ i ∧ i < o + l.length ∧ i < cs.length
  · by_cases h2 : o' ≤ i ∧ i < o' + l'.length ∧ i < cs.length
    · omega
    · simp only [if_neg h2, if_pos h1]
  · by_cases h2 : o' ≤ i ∧ i < o' + l'.length ∧ i < cs.length
    · simp only [if_pos h2, if_neg h1]
    · simp only [if_neg h2, if_neg h1]
theorem beq_false {a b : Nat} (h : a ≠ b) : Nat.beq a b = false := by
  cases e : Nat.beq a b with
  | false => rfl
  | true => exact absurd (Nat.eq_of_beq_eq_true e) h
theorem dis_spec {p : Nat × Hs} {r : Rd} (h : dis p r = true) : p.1 ≠ r.blk ∨ ∃ off l lo n, p.2 = .patch off l ∧ r = .part p.1 lo n ∧ (off + l.length ≤ lo ∨ lo + n ≤ off) := by
  unfold dis at h
  by_cases e : p.1 = r.blk
  · rw [e, Nat.beq_refl] at h
    simp only [Bool.not_true, Bool.false_or] at h
    split at h
    · rename_i off l b lo n hp
      refine .inr ⟨off, l, lo, n, hp, ?_, ?_⟩
      · rw [e]; rfl
      · simp only [Bool.or_eq_true] at h
        exact h.imp Nat.le_of_ble_eq_true Nat.le_of_ble_eq_true
    · cases h
  · exact .inl e
theorem upd_ag (r : Rd) : ∀ (u : List (Nat × Hs)) (h : Nat → Hs), (∀ p ∈ u, dis p r = true) → AgR (upd u h) h r
  | [], h, _ => AgR.refl h r
  | p :: u, h, hd => by
    have ih := upd_ag r u h (fun q hq => hd q (List.mem_cons_of_mem _ hq))
    refine AgR.trans (h' := upd u h) ?_ ih
    rcases dis_spec (hd p (by simp)) with e | ⟨off, l, lo, n, hp, rfl, hr⟩
    · have hk : upd (p :: u) h r.blk = upd u h r.blk := by simp only [upd, beq_false (Ne.symm e), cond]
      cases r with
      | all b => exact hk
      | part b lo n => exact .inl hk
    · have hk : upd (p :: u) h p.1 = put1 p.2 (upd u h p.1) := by simp only [upd, Nat.beq_refl, cond]
      show upd (p :: u) h p.1 = _ ∨ _
      rw [hk, hp]
      cases hx : upd u h p.1 with
      | fresh => exact .inl rfl
      | dead => exact .inl rfl
      | patch _ _ => exact .inl rfl
      | live k =>
        cases k with
        | row _ _ _ _ => exact .inl rfl
        | box cs => exact .inr ⟨_, cs, rfl, rfl, putA_len _ _ _, putA_far _ _ _ _ _ hr⟩
def act (p : Nat × Hs) (b : Nat) (x : Hs) : Hs := cond (Nat.beq b p.1) (put1 p.2 x) x
theorem upd_cons (p : Nat × Hs) (u : List (Nat × Hs)) (h : Nat → Hs) (b : Nat) : upd (p :: u) h b = act p b (upd u h b) := by
  simp only [upd, act]
theorem act_comm {p q : Nat × Hs} (h : dis p (upRd q) = true) (b : Nat) (x : Hs) : act p b (act q b x) = act q b (act p b x) := by
  have hb : (upRd q).blk = q.1 := by unfold upRd; cases q.2 <;> rfl
  rcases dis_spec h with e | ⟨off, l, lo, n, hp, hq, hr⟩
  · rw [hb] at e
    unfold act
    by_cases e1 : b = p.1
    · have : b ≠ q.1 := fun e2 => e (e1.symm.trans e2)
      rw [beq_false this]; rfl
    · rw [beq_false e1]; rfl
  · have hq1 : q.1 = p.1 := by rw [← hb, hq]; rfl
    have hq2 : ∃ l', q.2 = .patch lo l' ∧ l'.length = n := by
      unfold upRd at hq
      cases hx : q.2 with
      | patch off' l' => rw [hx] at hq; simp only [Rd.part.injEq] at hq; exact ⟨l', by rw [hq.2.1], hq.2.2⟩
      | _ => rw [hx] at hq; cases hq
    obtain ⟨l', hl', hn⟩ := hq2
    unfold act
    rw [hq1, hp, hl']
    cases Nat.beq b p.1 with
    | false => rfl
    | true =>
      simp only [cond]
      cases x with
      | live k =>
        cases k with
        | box cs => simp only [put1]; rw [putA_comm _ _ _ _ _ (by omega)]
        | row _ _ _ _ => rfl
      | _ => rfl
theorem upd_act (u : List (Nat × Hs)) (p : Nat × Hs) (b : Nat) (h : Nat → Hs) (hd : ∀ q ∈ u, dis p (upRd q) = true) : act p b (upd u h b) = upd u (fun i => act p i (h i)) b := by
  induction u with
  | nil => rfl
  | cons q u ih =>
    rw [upd_cons, upd_cons, act_comm (hd q (by simp)), ih (fun r hr => hd r (List.mem_cons_of_mem _ hr))]
theorem upd_comm : ∀ (u u' : List (Nat × Hs)) (h : Nat → Hs), (∀ p ∈ u, ∀ q ∈ u', dis p (upRd q) = true) → upd u (upd u' h) = upd u' (upd u h)
  | [], u', h, _ => rfl
  | p :: u, u', h, hd => by
    funext b
    rw [upd_cons, upd_comm u u' h (fun q hq => hd q (List.mem_cons_of_mem _ hq)), upd_act u' p b _ (hd p (by simp))]
    congr 1
theorem setTm_far {d : Option Tmp} {v : AV} {tm : Nat → AV} {t : Nat} (h : ∀ x, d = some x → x ≠ t) : setTm d v tm t = tm t := by
  cases d with
  | none => rfl
  | some d => simp only [setTm, beq_false (Ne.symm (h d rfl)), cond]
theorem setTm_comm {d d' : Option Tmp} (v v' : AV) (tm : Nat → AV) (h : ∀ x, d = some x → d' ≠ some x) : setTm d v (setTm d' v' tm) = setTm d' v' (setTm d v tm) := by
  cases d with
  | none => rfl
  | some d =>
    cases d' with
    | none => rfl
    | some d' =>
      funext t
      have hne : d' ≠ d := fun e => h d rfl (by rw [e])
      simp only [setTm]
      by_cases h1 : t = d
      · subst h1; rw [Nat.beq_refl, beq_false (Ne.symm hne)]; rfl
      · rw [beq_false h1]; rfl
section
variable (P : Program) (ops : Array Oper) (X : Cx)
/-- what an operation does, wherever what it looks at is as here -/
def Valid (o : Oper) (S : St) (e : Ef) : Prop := ∀ (S2 : St) (a : Act) (w : World), (∀ t ∈ o.looksAt ops, S2.tm t = S.tm t) → (∀ r ∈ e.foot, AgR S2.hp S.hp r) → (∀ t, t ∈ o.looksAt ops ∨ o.dst = some t → t < X.N) → Sim X S2 a w →
  Step P ops o a w (fun v w' => Sim X (S2.app o.dst e) (a.put o.dst v) w')
def noconf (f e : Ef) : Bool := f.up.all (fun p => e.foot.all (dis p)) && e.up.all (fun p => f.foot.all (dis p))
theorem noconf_spec {f e : Ef} (h : noconf f e = true) : (∀ p ∈ f.up, ∀ r ∈ e.foot, dis p r = true) ∧ (∀ p ∈ e.up, ∀ r ∈ f.foot, dis p r = true) := by
  simp only [noconf, Bool.and_eq_true, List.all_eq_true] at h
  exact h
variable (Q : St → Prop)
def ovr (p r : Rd) : Bool := Nat.beq p.blk r.blk && !(match p, r with
  | .part _ o l, .part _ lo n => Nat.ble (o + l) lo || Nat.ble (lo + n) o
  | _, _ => false)
/-- do two operations clash: what each updates, what each looks at besides -/
def calm (fu fr eu er : List Rd) : Bool := fu.all (fun p => er.all (fun r => !ovr p r) && eu.all (fun r => !ovr p r)) && eu.all (fun p => fr.all (fun r => !ovr p r) && fu.all (fun r => !ovr p r))
theorem ovr_dis {p : Nat × Hs} {r : Rd} (h : ovr (upRd p) r = false) : dis p r = true := by
  obtain ⟨b, x⟩ := p
  unfold ovr at h
  unfold dis
  have hb : (upRd (b, x)).blk = b := by unfold upRd; cases x <;> rfl
  rw [hb] at h
  cases e : Nat.beq b r.blk with
  | false => simp [e]
  | true =>
    rw [e] at h
    simp only [Bool.true_and, Bool.not_eq_false'] at h
    cases x <;> cases r <;> simp_all [upRd]
theorem calm_spec {f e : Ef} (h : calm (f.up.map upRd) f.rd (e.up.map upRd) e.rd = true) : noconf f e = true := by
  simp only [calm, Bool.and_eq_true, List.all_eq_true, List.mem_map, Bool.not_eq_true', forall_exists_index, and_imp, forall_apply_eq_imp_iff₂] at h
  simp only [noconf, Bool.and_eq_true, List.all_eq_true, Ef.foot, List.mem_append, List.mem_map]
  refine ⟨fun p hp r hr => ovr_dis ?_, fun p hp r hr => ovr_dis ?_⟩
  · rcases hr with hr | ⟨q, hq, rfl⟩
    · exact (h.1 p hp).1 r hr
    · exact (h.1 p hp).2 q hq
  · rcases hr with hr | ⟨q, hq, rfl⟩
    · exact (h.2 p hp).1 r hr
    · exact (h.2 p hp).2 q hq
def Go (anc : Nat → Nat → Bool) : List Nat → List (Nat × List Rd × List Rd) → St → Prop
  | [], _, S => Q S
  | i :: r, T, S => ∃ o e, ops[i]? = some o ∧ Valid P ops X o S e ∧ (T.all fun p => calm p.2.1 p.2.2 (e.up.map upRd) e.rd || anc p.1 i) = true ∧ Go anc r ((i, e.up.map upRd, e.rd) :: T) (S.app o.dst e)
def Run : List (Nat × Ef) → St → Prop
  | [], S => Q S
  | p :: r, S => ∃ o, ops[p.1]? = some o ∧ Valid P ops X o S p.2 ∧ Run r (S.app o.dst p.2)
theorem run_of_go {anc : Nat → Nat → Bool} : ∀ (l : List Nat) (T : List (Nat × List Rd × List Rd)) (S : St), Go P ops X Q anc l T S →
    ∃ L : List (Nat × Ef), L.map (·.1) = l ∧ Run P ops X Q L S ∧ L.Pairwise (fun p q => anc p.1 q.1 = true ∨ noconf p.2 q.2 = true) ∧ ∀ p ∈ T, ∀ q ∈ L, anc p.1 q.1 = true ∨ calm p.2.1 p.2.2 (q.2.up.map upRd) q.2.rd = true
  | [], T, S, h => ⟨[], rfl, h, .nil, fun _ _ _ hq => by cases hq⟩
  | i :: r, T, S, h => by
    obtain ⟨o, e, ho, hv, hc, hg⟩ := h
    obtain ⟨L, h1, h2, h3, h4⟩ := run_of_go r _ _ hg
    refine ⟨(i, e) :: L, by simp [h1], ⟨o, ho, hv, h2⟩, .cons (fun q hq => (h4 (i, e.up.map upRd, e.rd) (by simp) q hq).imp id calm_spec) h3, fun p hp q hq => ?_⟩
    rcases List.mem_cons.1 hq with rfl | hq
    · have := List.all_eq_true.1 hc p hp
      rw [Bool.or_eq_true] at this
      exact this.symm
    · exact h4 p (List.mem_cons_of_mem _ hp) q hq
/-- of two operations: neither sees what the other does -/
def Indep (p q : Nat × Ef) : Prop := (∀ o o', ops[p.1]? = some o → ops[q.1]? = some o' → o.apart ops o' = true) ∧ noconf p.2 q.2 = true
theorem app_comm {S : St} {o o' : Oper} {e e' : Ef} (ha : o.apart ops o' = true) (hn : noconf e e' = true) : (S.app o.dst e).app o'.dst e' = (S.app o'.dst e').app o.dst e := by
  obtain ⟨h1, h2, h3⟩ := Oper.apart_spec ha
  obtain ⟨n1, n2⟩ := noconf_spec hn
  simp only [St.app]
  rw [setTm_comm _ _ _ (fun x hx hx' => h2 x hx' hx), upd_comm e'.up e.up _ (fun p hp q hq => n2 p hp _ (List.mem_append_right _ (List.mem_map.2 ⟨q, hq, rfl⟩)))]
theorem valid_shift {S S1 : St} {o : Oper} {e : Ef} (ht : ∀ t ∈ o.looksAt ops, S1.tm t = S.tm t) (hb : ∀ r ∈ e.foot, AgR S.hp S1.hp r) (h : Valid P ops X o S1 e) : Valid P ops X o S e :=
  fun S2 a w h1 h2 h3 h4 => h S2 a w (fun t k => (h1 t k).trans (ht t k).symm) (fun r k => (h2 r k).trans (hb r k)) h3 h4
theorem app_tm {S : St} {o o' : Oper} {e : Ef} (h : ∀ d, o.dst = some d → d ∉ o'.looksAt ops) : ∀ t ∈ o'.looksAt ops, (S.app o.dst e).tm t = S.tm t := fun t ht =>
  setTm_far (fun x hx e => h x hx (e ▸ ht))
theorem app_hp {S : St} {d : Option Tmp} {e e' : Ef} (h : ∀ p ∈ e.up, ∀ r ∈ e'.foot, dis p r = true) : ∀ r ∈ e'.foot, AgR (S.app d e).hp S.hp r := fun r hr =>
  upd_ag r _ _ (fun p hp => h p hp r hr)
theorem pull (q : Nat × Ef) : ∀ (L1 L2 : List (Nat × Ef)) (S : St), (∀ p ∈ L1, Indep ops p q) → Run P ops X Q (L1 ++ q :: L2) S →
    ∃ o, ops[q.1]? = some o ∧ Valid P ops X o S q.2 ∧ Run P ops X Q (L1 ++ L2) (S.app o.dst q.2)
  | [], L2, S, _, h => h
  | p :: L1, L2, S, hi, h => by
    obtain ⟨o, ho, hv, hr⟩ := h
    obtain ⟨o', ho', hv', hr'⟩ := pull q L1 L2 _ (fun x hx => hi x (List.mem_cons_of_mem _ hx)) hr
    obtain ⟨ha, hn⟩ := hi p (by simp)
    have ha := ha o o' ho ho'
    obtain ⟨h1, h2, h3⟩ := Oper.apart_spec ha
    obtain ⟨n1, n2⟩ := noconf_spec hn
    refine ⟨o', ho', valid_shift P ops X (app_tm ops h1) (fun r hr => (app_hp n1 r hr).symm) hv', ?_⟩
    refine ⟨o, ho, valid_shift P ops X (S1 := S) (fun t k => (app_tm ops h3 t k).symm) (fun r k => app_hp n2 r k) hv, ?_⟩
    rw [← app_comm ops ha hn]
    exact hr'
end
section
variable {P : Program} {ops : Array Oper} {X : Cx} {Q : St → Prop} (md : Region.Mode) (anc : Nat → Nat → Bool)
theorem any_of_run {Q' : Exit → Act → World → Prop} (hQ : ∀ S a w, Q S → Sim X S a w → Q' .normal a w) (hN : ∀ o ∈ ops, ∀ t, t ∈ o.looksAt ops ∨ o.dst = some t → t < X.N)
    (hord : ∀ j o, ops[j]? = some o → ∀ e ∈ o.after, Region.binds md e = true → e.on < j)
    (hanc : ∀ i j, anc i j = true → ∃ o, ops[j]? = some o ∧ ∃ e ∈ o.after, Region.binds md e = true ∧ (e.on = i ∨ anc i e.on = true)) :
    ∀ (n : Nat) (L : List (Nat × Ef)) (listed : Array Bool) (S : St) (a : Act) (w : World), L.length = n → L.Pairwise (fun p q => anc p.1 q.1 = true ∨ Indep ops p q) → (L.map (·.1)).Nodup →
      (∀ k, k ∈ L.map (·.1) ↔ k < ops.size ∧ listed.getD k true = false) → listed.size = ops.size →
      (∀ j o, ops[j]? = some o → listed.getD j false = true → ∀ e ∈ o.after, Region.binds md e = true → listed.getD e.on false = true) →
      Sim X S a w → Run P ops X Q L S → wpAny P md ops Q' n listed a w := by
  intro n
  induction n with
  | zero =>
    intro L listed S a w hl hp hn hm hz hdc hS hr
    obtain rfl := List.eq_nil_of_length_eq_zero hl
    refine ⟨List.eq_nil_iff_forall_not_mem.2 fun j hj => ?_, hQ _ _ _ hr hS⟩
    obtain ⟨h0, o, ho, _⟩ := mem_ready.1 hj
    have := (hm j).2 ⟨(Array.getElem?_eq_some_iff.1 ho).1, h0⟩
    cases this
  | succ n ih =>
    intro L listed S a w hl hp hn hm hz hdc hS hr
    have hne : L.map (·.1) ≠ [] := by intro e; have := congrArg List.length e; simp [hl] at this
    refine ⟨fun hrd => ?_, fun j hj => ?_⟩
    · exfalso
      obtain ⟨m, hms, hmin⟩ := least _ hne
      obtain ⟨hlt, h0⟩ := (hm m).1 hms
      have : m ∈ Region.ready md ops listed := by
        refine mem_ready.2 ⟨h0, ops[m], Array.getElem?_eq_getElem hlt, fun e he hb => ?_⟩
        have hlt' := hord m _ (Array.getElem?_eq_getElem hlt) e he hb
        cases hq : listed.getD e.on false with
        | true => rfl
        | false =>
          rw [getD_in (by omega) false true] at hq
          have := hmin _ ((hm e.on).2 ⟨by omega, hq⟩)
          omega
      rw [hrd] at this; cases this
    · obtain ⟨h0, oj, hoj, hall⟩ := mem_ready.1 hj
      have hjl : j < ops.size := (Array.getElem?_eq_some_iff.1 hoj).1
      have hjs : j ∈ L.map (·.1) := (hm j).2 ⟨hjl, h0⟩
      have lst : ∀ (k : Nat) (i : Nat), listed.getD k false = true → anc i k = true → listed.getD i false = true := by
        intro k
        induction k using Nat.strongRecOn with
        | _ k ihk =>
          intro i hk ha
          obtain ⟨o, ho, e, he, hb, h⟩ := hanc i k ha
          have hel := hdc k o ho hk e he hb
          rcases h with rfl | h
          · exact hel
          · exact ihk _ (hord k o ho e he hb) i hel h
      have hfree : ∀ i ∈ L.map (·.1), anc i j = false := fun i hi => by
        cases ha : anc i j with
        | false => rfl
        | true =>
          exfalso
          obtain ⟨hil, hi0⟩ := (hm i).1 hi
          obtain ⟨o, ho, e, he, hb, h⟩ := hanc i j ha
          rw [hoj] at ho
          obtain rfl := Option.some.inj ho
          have hel := hall e he hb
          have : listed.getD i false = true := by
            rcases h with rfl | h
            · exact hel
            · exact lst _ i hel h
          rw [getD_in (by omega) false true, hi0] at this
          cases this
      obtain ⟨q, hq, hqj⟩ := List.mem_map.1 hjs
      obtain ⟨L1, L2, rfl⟩ := List.append_of_mem hq
      subst hqj
      obtain ⟨o', ho', hv, hr'⟩ := pull P ops X Q q L1 L2 S (fun p hp' => by
        have := (List.pairwise_append.1 hp).2.2 p hp' q (by simp)
        exact this.resolve_left (by rw [hfree p.1 (by simp; exact .inl ⟨p.2, hp'⟩)]; simp)) hr
      rw [hoj] at ho'
      obtain rfl := Option.some.inj ho'
      have hs := hv S a w (fun _ _ => rfl) (fun r _ => AgR.refl _ r) (hN oj (Array.mem_of_getElem? hoj)) hS
      refine Step.wp hoj hs fun v w' hS' => ?_
      have hn1 : (L1.map (·.1) ++ q.1 :: L2.map (·.1)).Nodup := by simpa using hn
      have hm' : ∀ k, k ∈ (L1 ++ L2).map (·.1) ↔ k < ops.size ∧ (listed.setIfInBounds q.1 true).getD k true = false := fun k => by
        by_cases hkj : k = q.1
        · subst hkj
          refine ⟨fun h => ?_, fun h => ?_⟩
          · exfalso
            rw [List.map_append] at h
            have e := (List.nodup_append.1 hn1)
            rcases List.mem_append.1 h with h | h
            · exact e.2.2 _ h _ (by simp) rfl
            · exact (List.nodup_cons.1 e.2.1).1 h
          · have h2 := h.2
            simp [hz, hjl] at h2
        · rw [getD_set_ne true (Ne.symm hkj), ← hm k]
          simp only [List.map_append, List.map_cons, List.mem_append, List.mem_cons]
          exact ⟨fun h => h.elim .inl (fun h => .inr (.inr h)), fun h => h.elim .inl (fun h => .inr (h.resolve_left hkj))⟩
      refine ih (L1 ++ L2) _ _ _ _ ?_ ?_ ?_ hm' (by simp [hz]) ?_ hS' hr'
      · simp at hl ⊢; omega
      · obtain ⟨p1, p2, p3⟩ := List.pairwise_append.1 hp
        exact List.pairwise_append.2 ⟨p1, (List.pairwise_cons.1 p2).2, fun x hx y hy => p3 x hx y (List.mem_cons_of_mem _ hy)⟩
      · rw [List.map_append]
        have e := (List.nodup_append.1 hn1)
        exact List.nodup_append.2 ⟨e.1, (List.nodup_cons.1 e.2.1).2, fun x hx y hy => e.2.2 x hx y (List.mem_cons_of_mem _ hy)⟩
      · intro k o ho hk e he hb
        by_cases hkj : k = q.1
        · subst hkj
          rw [hoj] at ho
          obtain rfl := Option.some.inj ho
          have := hall e he hb
          by_cases hej : e.on = q.1
          · rw [hej]; simp [hz, hjl]
          · rw [getD_set_ne false (Ne.symm hej)]; exact this
        · rw [getD_set_ne false (Ne.symm hkj)] at hk
          have := hdc k o ho hk e he hb
          by_cases hej : e.on = q.1
          · rw [hej]; simp [hz, hjl]
          · rw [getD_set_ne false (Ne.symm hej)]; exact this
theorem Sim.drew {S : St} {a : Act} {w : World} (h : Sim X S a w) : Sim X S a w.drew := by
  obtain ⟨τ, h⟩ := h
  exact ⟨τ, h.size, h.nodef, h.bel.drew, h.tm, h.hp, h.own, h.sep, h.one⟩
def tmpsOk (N : Nat) (l : List Oper) : Bool := l.all (fun o => (match o.dst with | some d => decide (d < N) | none => true) && (o.looksAt l.toArray).all (fun t => decide (t < N)))
theorem tmps_ok {l : List Oper} {N : Nat} (h : tmpsOk N l = true) : ∀ o ∈ l.toArray, ∀ t, t ∈ o.looksAt l.toArray ∨ o.dst = some t → t < N := fun o ho t ht => by
  have := List.all_eq_true.1 h o (by simpa using ho)
  simp only [Bool.and_eq_true, List.all_eq_true, decide_eq_true_eq] at this
  rcases ht with ht | ht
  · exact this.2 t ht
  · simpa [ht] using this.1
/-- a region that draws its order -/
theorem region_any {id : Nat} {Q' : Exit → Act → World → Prop} {a : Act} {w : World} {l : List Oper} {S : St}
    (hm : P.follows .mixedOrders = true) (hB : chkB .any l.toArray (tabOf .any l.toArray) [] (List.range l.length) = true) (hN : tmpsOk X.N l = true)
    (hg : Go P l.toArray X Q (ancOf (tabOf .any l.toArray)) (List.range l.length) [] S) (hQ : ∀ S a w, Q S → Sim X S a w → Q' .normal a w) (hS : Sim X S a w) : (Code.region id l.toArray true).wp P Q' a w := by
  simp only [chkB, Bool.and_eq_true] at hB
  obtain ⟨⟨⟨⟨b1, b2⟩, b3, b4⟩, ⟨⟨b5, b6⟩, b7⟩, b8⟩, b9⟩ := hB
  refine wp_region_any hm ?_
  have b5' : (List.range l.length).length = l.toArray.size := of_decide_eq_true b5
  obtain ⟨L, h1, h2, h3, _⟩ := run_of_go P l.toArray X Q _ _ _ hg
  have hpw : (L.map (·.1)).Pairwise (fun i j => ancOf (tabOf .any l.toArray) i j = true ∨ ∀ o o', l.toArray[i]? = some o → l.toArray[j]? = some o' → o.apart l.toArray o' = true) := by
    rw [h1]
    exact pw_spec (fun i j hr => by
      unfold relB at hr
      simp only [Bool.or_eq_true, Bool.and_eq_true] at hr
      rcases hr with h | ⟨⟨h1, h3⟩, h2⟩
      · exact .inl h
      · exact .inr fun o p ho hp => by simpa only [ho, hp] using h1) _ b9
  have hpw' := List.pairwise_map.1 hpw
  exact any_of_run (P := P) (ops := l.toArray) (X := X) (Q := Q) .any (ancOf (tabOf .any l.toArray)) hQ (tmps_ok hN)
    (fun j o ho e he hb => by
      have := List.all_eq_true.1 b2 j (by simpa using (Array.getElem?_eq_some_iff.1 ho).1)
      simp only [ho] at this
      have := Array.all_eq_true_iff_forall_mem.1 this e he
      simpa [hb] using this)
    (fun i j ha => by
      unfold ancOf at ha
      have hj : j < l.toArray.size := by
        rcases Nat.lt_or_ge j (tabOf .any l.toArray).size with h | h
        · rw [← of_decide_eq_true b3]; exact h
        · simp [Array.getElem?_eq_none h] at ha
      have ho := Array.getElem?_eq_getElem hj
      have := List.all_eq_true.1 b4 j (by simpa using hj)
      simp only [ho] at this
      rw [beq_iff_eq.1 this, ← Array.foldl_toList] at ha
      rcases fold_bit _ _ _ _ _ ha with h | ⟨e, he, hb, h⟩
      · simp at h
      · exact ⟨_, ho, e, by simpa using he, hb, h⟩)
    l.toArray.size L (Array.replicate l.toArray.size false) S a w.drew (by rw [← b5', ← h1]; simp)
    ((hpw'.and h3).imp fun ⟨x, y⟩ => x.elim .inl (fun x => y.elim .inl (fun y => .inr ⟨x, y⟩)))
    (by rw [h1]; exact distinct_spec _ b8)
    (fun k => by
      rw [h1]
      exact ⟨fun hk => by
        have := of_decide_eq_true (List.all_eq_true.1 b6 k hk)
        exact ⟨this, rep_true this⟩,
      fun hk => by
        have := List.all_eq_true.1 b7 k (by simpa using hk.1)
        simpa using this⟩)
    (by simp) (fun j o ho h => by rw [rep_false] at h; cases h)
    hS.drew h2
/-- a region of one order -/
theorem ops_of_go {Q' : Exit → Act → World → Prop} (hQ : ∀ S a w, Q S → Sim X S a w → Q' .normal a w) (hN : ∀ o ∈ ops, ∀ t, t ∈ o.looksAt ops ∨ o.dst = some t → t < X.N) {anc : Nat → Nat → Bool} : ∀ (l : List Nat) (T : List (Nat × List Rd × List Rd)) (S : St) (a : Act) (w : World), Go P ops X Q anc l T S → Sim X S a w → wpOps P ops Q' l a w
  | [], T, S, a, w, hg, hS => hQ _ _ _ hg hS
  | i :: r, T, S, a, w, hg, hS => by
    obtain ⟨o, e, ho, hv, _, hg⟩ := hg
    rw [wpOps_cons]
    exact Step.wp ho (hv S a w (fun _ _ => rfl) (fun r _ => AgR.refl _ r) (hN o (Array.mem_of_getElem? ho)) hS) fun v w' hS' => ops_of_go hQ hN r _ _ _ _ hg hS'
theorem region_text {id : Nat} {Q' : Exit → Act → World → Prop} {a : Act} {w : World} {l : List Oper} {S : St} (hN : tmpsOk X.N l = true)
    (hg : Go P l.toArray X Q (fun _ _ => true) (List.range l.length) [] S) (hQ : ∀ S a w, Q S → Sim X S a w → Q' .normal a w) (hS : Sim X S a w) : (Code.region id l.toArray false).wp P Q' a w :=
  wp_region (ops_of_go hQ (tmps_ok hN) (List.range l.toArray.size) [] S a w (by simpa using hg) hS)
end
end Go.Proofs.YtkffmaeiplgjeaaGreatDoor.Ax
/- Words of this session's own proofs: cells of a block laid one behind the other; clear and copy at elements of more than one cell. -/
namespace Go.Proofs.YtkffmaeiplgjeaaGreatDoor.MemL
open Go.RowKit
set_option linter.unusedVariables false
set_option linter.unusedSimpArgs false
def putAt (cur : Array Value) : Nat → List Value → Array Value
  | _, [] => cur
  | o, v :: r => putAt (cur.setIfInBounds o v) (o + 1) r
theorem putAt_size (vs : List Value) : ∀ (cur : Array Value) (o : Nat), (putAt cur o vs).size = cur.size := by
  induction vs with
  | nil => intro cur o; rfl
  | cons v r ih => intro cur o; simp only [putAt]; rw [ih]; simp
theorem putAt_toList (vs : List Value) : ∀ (cur : Array Value) (o : Nat), o + vs.length ≤ cur.size → (putAt cur o vs).toList = cur.toList.take o ++ vs ++ cur.toList.drop (o + vs.length) := by
  induction vs with
  | nil => intro cur o h; simp [putAt]
  | cons v r ih =>
    intro cur o h
    simp only [List.length_cons] at h
    simp only [putAt]
    rw [ih _ _ (by simp; omega)]
    apply List.ext_getElem?
    intro k
    simp only [Array.toList_setIfInBounds, List.getElem?_append, List.length_append, List.length_take, List.length_set, Array.length_toList, List.length_cons, List.getElem?_take, List.getElem?_drop, List.getElem?_set, List.getElem?_cons]
    have e1 : min (o + 1) cur.size = o + 1 := by omega
    have e2 : min o cur.size = o := by omega
    rw [e1, e2]
    by_cases k1 : k < o
    · simp [k1, show k < o + 1 by omega, show k < o + 1 + r.length by omega, show k < o + (r.length + 1) by omega, show ¬ o = k by omega]
    · by_cases k2 : k = o
      · subst k2
        simp [show k < k + 1 + r.length by omega, show k < cur.size by omega]
      · by_cases k3 : k < o + 1 + r.length
        · simp [k1, show ¬ k < o + 1 by omega, k3, show k < o + (r.length + 1) by omega, show ¬ (k - o = 0) by omega, show k - (o + 1) = k - o - 1 by omega]
        · simp [k1, show ¬ k < o + (r.length + 1) by omega, k3, show ¬ (o = o + 1 + r.length + (k - (o + 1 + r.length))) by omega, show o + 1 + r.length + (k - (o + 1 + r.length)) = o + (r.length + 1) + (k - (o + (r.length + 1))) by omega]
          intro h; omega
theorem heap_setCells {w : World} {g : Nat} {T : TypeId} : ∀ (vs : List Value) (o : Nat) (w : World) (cur : Array Value), w.heap[g]? = some (.cells cur T (0, 0)) → (w.setCells g o vs).heap[g]? = some (.cells (putAt cur o vs) T (0, 0))
  | [], o, w, cur, h => h
  | v :: r, o, w, cur, h => by
    simp only [World.setCells, putAt]
    exact heap_setCells (w := w) r (o + 1) _ _ (by simp [World.setCell, Array.getElem?_modify, h])
theorem heap_cells_far {g b : Nat} (hne : b ≠ g) : ∀ (vs : List Value) (o : Nat) (w : World), (w.setCells g o vs).heap[b]? = w.heap[b]?
  | [], o, w => rfl
  | v :: r, o, w => by
    simp only [World.setCells]
    rw [heap_cells_far hne r (o + 1)]
    simp only [World.setCell, Array.getElem?_modify]
    rw [if_neg (Ne.symm hne)]
theorem below_cells {B g : Nat} {a : World} (hg : B ≤ g) : ∀ (vs : List Value) (o : Nat) (w : World), Below B a w → Below B a (w.setCells g o vs)
  | [], _, _, h => h
  | v :: r, o, w, h => below_cells hg r (o + 1) _ (h.setCell hg v)
theorem run_clear_any {P : Program} (w : World) (t e ty : TypeId) (z : Value) (k : Nat) (ht : P.underlying t = some (.slice e)) (hv : ∀ w, (zeroValue e).run P w = .ok z w) (hz : z.cells.size = k) (h1 : ∀ v ∈ z.cells, v.oneCell' = true) (hk : 0 < k) (b o n c : Nat) (hn : 0 < n)
    (hc : ∀ j, j < n * k → (w.cell? ⟨b, o + j, none⟩).isSome = true) (hf : ∀ j, j < n * k → w.frozen? ⟨b, o + j, none⟩ = false) :
    (Builtin.clear_ #[t] ty #[.slice (some ⟨b, o, none⟩) n c]).run P w = .ok (.tuple #[]) (w.setCells b o (Builtin.zeroCells z.cells n).toList) := by
  have hl : (Builtin.zeroCells z.cells n).toList.length = n * k := by simp [Builtin.zeroCells, hz]
  have hst := run_storeCells_cells (P := P) b o (Builtin.zeroCells z.cells n).toList 0 w (by rw [hl]; simpa using hc) (by rw [hl]; simpa using hf) (by
    intro v hv'
    simp only [Builtin.zeroCells, Array.toList_map, List.mem_map] at hv'
    obtain ⟨i, _, rfl⟩ := hv'
    have : i % z.cells.size < z.cells.size := Nat.mod_lt _ (by omega)
    rw [getElem!_pos z.cells _ this]
    exact h1 _ (Array.getElem_mem _))
  obtain ⟨m, rfl⟩ : ∃ m, n = m + 1 := ⟨n - 1, by omega⟩
  simp only [Nat.add_zero] at hst
  simp [Builtin.clear_, run_underlying ht, hv, hst]
theorem run_copy_any {P : Program} (w : World) (dT sT ty elem : TypeId) (k b o dLen dCap : Nat) (a : Addr) (sLen sCap : Nat) (cs : List Value)
    (hu : P.underlying dT = some (.slice elem)) (hs : (P.info? elem).map (·.size) = some k) (hn : cs.length = Nat.min sLen dLen * k)
    (hsrc : ∀ j v, cs[j]? = some v → w.cell? (a.add j) = some v) (hc : ∀ j, j < cs.length → (w.cell? ⟨b, o + j, none⟩).isSome = true) (hf : ∀ j, j < cs.length → w.frozen? ⟨b, o + j, none⟩ = false) (h1 : ∀ v ∈ cs, v.oneCell' = true) :
    (Builtin.copy_ #[dT, sT] ty #[.slice (some ⟨b, o, none⟩) dLen dCap, .slice (some a) sLen sCap]).run P w = .ok (goInt (Nat.min sLen dLen)) (w.setCells b o cs) := by
  have hl := run_loadCells_list (P := P) w a cs hsrc
  have hst := run_storeCells_cells (P := P) b o cs 0 w (by simpa using hc) (by simpa using hf) h1
  simp only [Nat.add_zero] at hst
  cases hq : P.info? elem with
  | none => simp [hq] at hs
  | some i =>
    have hi : i.size = k := by simpa [hq] using hs
    rw [hn] at hl
    simp [Builtin.copy_, run_underlying hu, Builtin.lenOf, Builtin.firstCells, sizeOf, typeInfo, hq, hi, hl, hst]
/-- copy, where its run is known -/
theorem wpList_copy_is {P : Program} {w : World} {ops : Array Oper} {rest : List Oper} {o : Oper} {a : Act} {Q : Exit → Act → World → Prop} (hgd : o.guard = none) (d s : Operand) (t t' : TypeId)
    (ho : o.op = .call { callee := .builtin .copy, args := #[d, s], argTypes := #[t, t'] }) (v u : Value) (hd : a.eval d = v) (hs : a.eval s = u) {v' : Value} {w' : World}
    (hr : (Builtin.copy_ #[t, t'] o.type #[v, u]).run P w = .ok v' w') (h : wpList P ops Q rest (a.put o.dst v') w') : wpList P ops Q (o :: rest) a w := by
  refine wpList_plain hgd fun K hK => ?_
  unfold Oper.wp
  simp [execOp, ho, resolve, invoke, builtin, hd, hs, hr, Result.andThen]
  exact hK _ _ h
theorem take_eq {L X : List Value} {k : Nat} (h : L.length = k) : (L ++ X).take k = L := by subst h; simp
end Go.Proofs.YtkffmaeiplgjeaaGreatDoor.MemL
/- The abstract walk: what single operations do. -/
namespace Go.Proofs.YtkffmaeiplgjeaaGreatDoor.Ax
open Go.RowKit Go.Proofs.YtkffmaeiplgjeaaGreatDoor.MemL Go.Proofs.YtkffmaeiplgjeaaGreatDoor.RegR
set_option linter.unusedVariables false
set_option linter.unusedSimpArgs false
def avOf : Value → AV
  | .agg cs => .m (.ag (cs.toList.map .v))
  | v => .m (.c (.v v))
def St.ev (S : St) : Operand → AV
  | .tmp t => S.tm t
  | .const v => avOf v
  | .global g => .m (.c (.v (.pointer (some ⟨g, 0, none⟩))))
  | .func f => .m (.c (.v (.func (.func f) #[] #[])))
theorem avOf_R (E : En) : ∀ v : Value, (avOf v).R E v
  | .agg cs => ⟨cs, rfl, All2.of_map (R := Ce.R E) Ce.v (fun _ => rfl) _⟩
  | .bool _ | .int _ _ | .float _ _ | .complex _ _ _ | .string _ | .pointer _ | .slice _ _ _ | .map _ | .chan _ | .func _ _ _ | .nilFunc | .iface _ _ | .nilIface | .tuple _ => rfl
variable {P : Program} {ops : Array Oper} {X : Cx}
theorem SimT.ev {S : St} {τ : Nat → Value} {a : Act} {w : World} (h : SimT X S τ a w) : ∀ x, (∀ t, x = .tmp t → t < X.N) → (S.ev x).R (env X S.hp τ w) (a.eval x)
  | .tmp t, hx => h.tm t (hx t rfl)
  | .const v, _ => avOf_R _ v
  | .global g, _ => rfl
  | .func f, _ => rfl
/-- is it asked for -/
def want (ops : Array Oper) (S : St) (o : Oper) : Bool :=
  match o.guard with
  | none => true
  | some (g, b) => match (ops[g]?).bind (·.dst) with
    | none => false
    | some d => match S.tm d with
      | .m (.c (.v (.bool x))) => x == b
      | _ => false
def unwant (ops : Array Oper) (S : St) (o : Oper) : Bool :=
  match o.guard with
  | none => false
  | some (g, b) => match (ops[g]?).bind (·.dst) with
    | none => false
    | some d => match S.tm d with
      | .m (.c (.v x)) => (match x with | .bool y => y != b | _ => true)
      | _ => false
theorem looks_guard {o : Oper} {g : Nat} {b : Bool} {d : Tmp} (hg : o.guard = some (g, b)) (hd : (ops[g]?).bind (·.dst) = some d) : d ∈ o.looksAt ops := by
  unfold Oper.looksAt; rw [hg]; simp [hd]
theorem looks_op {o : Oper} {t : Tmp} (h : Operand.tmp t ∈ o.op.operands) : t ∈ o.looksAt ops := by
  unfold Oper.looksAt
  exact List.mem_append_left _ (List.mem_filterMap.2 ⟨.tmp t, by simpa using h, rfl⟩)
theorem ev_same {S S2 : St} {o : Oper} (h : ∀ t ∈ o.looksAt ops, S2.tm t = S.tm t) {x : Operand} (hx : x ∈ o.op.operands) : S2.ev x = S.ev x := by
  cases x with
  | tmp t => exact h t (looks_op hx)
  | const v => rfl
  | global g => rfl
  | func f => rfl
theorem want_spec {S S2 : St} {o : Oper} {τ : Nat → Value} {a : Act} {w : World} (hw : want ops S o = true) (h : ∀ t ∈ o.looksAt ops, S2.tm t = S.tm t) (hN : ∀ t, t ∈ o.looksAt ops ∨ o.dst = some t → t < X.N) (hS : SimT X S2 τ a w) :
    Region.wanted o (yielded ops a.tmps) = true := by
  unfold want at hw
  unfold Region.wanted
  cases hg : o.guard with
  | none => rfl
  | some gb =>
    obtain ⟨g, b⟩ := gb
    simp only [hg] at hw ⊢
    cases hd : (ops[g]?).bind (·.dst) with
    | none => simp [hd] at hw
    | some d =>
      simp only [hd] at hw
      have hl := looks_guard hg hd
      have hR := hS.tm d (hN d (.inl hl))
      rw [h d hl] at hR
      unfold yielded
      rw [hd]
      split at hw
      · rename_i x hx
        rw [hx] at hR
        have hR : a.tmps.getD d undef = .bool x := hR
        have hlt : d < a.tmps.size := by rw [hS.size]; exact hN d (.inl hl)
        have : a.tmps[d]? = some (.bool x) := by
          rw [Array.getElem?_eq_getElem hlt]; simpa [Array.getD, hlt] using hR
        simp [this, hw]
      · cases hw
theorem unwant_spec {S S2 : St} {o : Oper} {τ : Nat → Value} {a : Act} {w : World} (hw : unwant ops S o = true) (h : ∀ t ∈ o.looksAt ops, S2.tm t = S.tm t) (hN : ∀ t, t ∈ o.looksAt ops ∨ o.dst = some t → t < X.N) (hS : SimT X S2 τ a w) :
    Region.wanted o (yielded ops a.tmps) = false := by
  unfold unwant at hw
  unfold Region.wanted
  cases hg : o.guard with
  | none => simp [hg] at hw
  | some gb =>
    obtain ⟨g, b⟩ := gb
    simp only [hg] at hw ⊢
    cases hd : (ops[g]?).bind (·.dst) with
    | none => simp [hd] at hw
    | some d =>
      simp only [hd] at hw
      have hl := looks_guard hg hd
      have hR := hS.tm d (hN d (.inl hl))
      rw [h d hl] at hR
      unfold yielded
      rw [hd]
      have hlt : d < a.tmps.size := by rw [hS.size]; exact hN d (.inl hl)
      have he : a.tmps[d]? = some (a.tmps.getD d undef) := by
        rw [Array.getElem?_eq_getElem hlt]; simp [Array.getD, hlt]
      simp only [Option.bind_some, he]
      split at hw
      · rename_i x hx
        rw [hx] at hR
        rw [show a.tmps.getD d undef = x from hR]
        cases x <;> simp at hw ⊢
        case bool y => cases y <;> cases b <;> simp_all
      · cases hw
/-- the temporaries, after a value is put -/
theorem tm_put {S : St} {E : En} {a : Act} {d : Option Tmp} {r : AV} {v : Value} (hs : a.tmps.size = X.N) (ht : ∀ t, t < X.N → (S.tm t).R E (a.tmps.getD t undef)) (hr : r.R E v) :
    ∀ t, t < X.N → (setTm d r S.tm t).R E ((a.put d v).tmps.getD t undef) := fun t htN => by
  cases d with
  | none => exact ht t htN
  | some d =>
    by_cases h : t = d
    · subst h
      have : (a.put (some t) v).tmps.getD t undef = v := by simp [Act.put, Array.getD_eq_getD_getElem?, Array.getElem?_setIfInBounds, hs, htN]
      rw [this]
      simpa [setTm, Nat.beq_refl] using hr
    · have : (a.put (some d) v).tmps.getD t undef = a.tmps.getD t undef := by simp [Act.put, Array.getD_eq_getD_getElem?, Array.getElem?_setIfInBounds, Ne.symm h]
      rw [this]
      simpa [setTm, beq_false h] using ht t htN
/-- a state changes: its blocks, their names' meaning, the world -/
theorem SimT.turn {S : St} {a : Act} {w w' : World} {τ τ' : Nat → Value} (h : SimT X S τ a w) {u : List (Nat × Hs)} (hle : (env X S.hp τ w).le (env X (upd u S.hp) τ' w')) (hb : Below X.base X.W0 w')
    (hhp : ∀ b k, upd u S.hp b = .live k → k.R (env X (upd u S.hp) τ' w') X.base (τ' b)) (hown : ∀ b g, alive (upd u S.hp) b → occ (τ' b) = some g → X.base ≤ g ∧ g < w'.heap.size)
    (hsep : ∀ b b' g, b ≠ b' → alive (upd u S.hp) b → alive (upd u S.hp) b' → occ (τ' b) = some g → occ (τ' b') ≠ some g) (hone : ∀ b, (τ' b).oneCell' = true) {d : Option Tmp} {r : AV} {v : Value} {rd : List Rd} (hr : r.R (env X (upd u S.hp) τ' w') v) :
    SimT X (S.app d ⟨r, u, rd⟩) τ' (a.put d v) w' where
  size := by cases d <;> simp [Act.put, h.size]
  nodef := by cases d <;> simp [Act.put, h.nodef]
  bel := hb
  tm := tm_put h.size (fun t ht => avR_le hle _ _ (h.tm t ht)) hr
  hp := hhp
  own := hown
  sep := hsep
  one := hone
theorem env_refl {X : Cx} {h : Nat → Hs} {τ : Nat → Value} {w w' : World} (b : Below w.heap.size w w') : (env X h τ w).le (env X h τ w') where
  U := fun _ k => ⟨k, rfl⟩
  A := fun _ _ k => k
  size := b.size
  cell := fun g o hg _ => b.cell (p := ⟨g, o, none⟩) hg
theorem bkR_below {X : Cx} {h : Nat → Hs} {τ : Nat → Value} {w w' : World} (b : Below w.heap.size w w') : ∀ (k : Bk) (v : Value) (base : Nat), k.R (env X h τ w) base v → k.R (env X h τ w') base v
  | .box cs, v, base, ⟨g, vs, h1, h2, h3⟩ => ⟨g, vs, h1, Bx.below h2 b, All2.mono (ceR_le (env_refl b)) _ _ h3⟩
  | .row e k n xs, v, base, hk => by
    obtain ⟨h1, h2⟩ := hk
    refine ⟨h1, ?_⟩
    rcases h2 with h2 | ⟨g, cap, cur, e1, e2, e3, e4⟩
    · exact .inl h2
    · exact .inr ⟨g, cap, cur, e1, e2, (b.block g (Bx.lt ⟨_, e3⟩)).trans e3, e4⟩
/-- memory alone is made, by others -/
theorem SimT.below {S : St} {a : Act} {w w' : World} {τ : Nat → Value} (h : SimT X S τ a w) (b : Below w.heap.size w w') {d : Option Tmp} {r : AV} {v : Value} {rd : List Rd} (hr : r.R (env X S.hp τ w') v) :
    SimT X (S.app d ⟨r, [], rd⟩) τ (a.put d v) w' :=
  h.turn (u := []) (env_refl b) (h.bel.trans (b.mono h.bel.size)) (fun n k hk => bkR_below b _ _ _ (h.hp n k hk)) (fun n g hn hg => ⟨(h.own n g hn hg).1, Nat.lt_of_lt_of_le (h.own n g hn hg).2 b.size⟩) h.sep h.one hr
/-- an operation of one value, which leaves the world alone -/
theorem valid_val {o : Oper} {S : St} {r : AV} (rd : List Rd) (hw : want ops S o = true)
    (h : ∀ S2 τ a w, (∀ x ∈ o.op.operands, (S.ev x).R (env X S2.hp τ w) (a.eval x)) → (∀ r ∈ rd, AgR S2.hp S.hp r) → SimT X S2 τ a w → ∃ v, (execOp a.eval o).run P w = .ok (.value v) w ∧ r.R (env X S2.hp τ w) v) :
    Valid P ops X o S ⟨r, [], rd⟩ := fun S2 a w h1 h2 h3 ⟨τ, hS⟩ => by
  obtain ⟨v, hr, hv⟩ := h S2 τ a w (fun x hx => by rw [← ev_same h1 hx]; exact hS.ev x (fun t e => h3 t (.inl (looks_op (e ▸ hx))))) (fun b hb => h2 b (by simpa [Ef.foot] using hb)) hS
  refine .inl ⟨want_spec hw h1 h3 hS, ?_⟩
  rw [hr]
  exact ⟨τ, hS.below (Below.refl _ _) hv⟩
theorem valid_skip {o : Oper} {S : St} (hw : unwant ops S o = true) : Valid P ops X o S ⟨.m (.c (.v undef)), [], []⟩ := fun S2 a w h1 h2 h3 ⟨τ, hS⟩ =>
  .inr ⟨unwant_spec hw h1 h3 hS, τ, hS.below (Below.refl _ _) rfl⟩
end Go.Proofs.YtkffmaeiplgjeaaGreatDoor.Ax
