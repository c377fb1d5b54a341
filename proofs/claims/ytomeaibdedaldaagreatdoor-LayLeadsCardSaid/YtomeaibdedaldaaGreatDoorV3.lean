/- Texts of this claim, one behind the other: SpC, IterC, AxP, AxQ, AxR, AxU, AxV, SpD, SpE, SpF, LaA, IterE, AxX, AxY, LaC, LaB, SpG, SpH, SpI, SpJ, SpK, SpL, SpM, SpN, RfP, RfQ, LaD. -/
import Derived.Test.YtomeaibdedaldaaGreatDoorV2
import Derived.RangeFuncNested
import Derived.RangeFuncBound
import Derived.RangeFuncCalls
import Derived.RangeFuncLeaves
import Derived.RangeFuncFrom
import Derived.Shelf.Abstract
import Derived.ScopeJumps
import Derived.Shelf.RegionOpen
import Derived.WalkKit
import Derived.OwnWalkIn
import Derived.TacticsInMore
import Derived.LoopNIn
import Derived.LoopIn
set_option linter.unusedVariables false
set_option linter.unusedSimpArgs false
namespace Go.Proofs.YtomeaibdedaldaaGreatDoor.SpC
open Go.RowKit Bv VaSpec Base MemL RegR Ax MemC PutC MemC3 TzC OkS SpA SpB
open BitsC PteSpec
set_option maxRecDepth 10000
set_option maxHeartbeats 1000000
theorem idx_bd (a l : Int) : 0 ≤ idx a l ∧ idx a l < 512 := by unfold idx; omega
theorem zf4 (p : Pte) (h : p.U) : U (PteC.ze7 p) := by
  unfold PteC.ze7
  by_cases hm : zh4 p = true
  · rw [if_pos hm]; exact zz9 p h hm
  · rw [if_neg hm]; exact ⟨by omega, by omega⟩
def zgc (t l : Int) (q : Pte) : List Ce := [cu t, ci l, cb q.v, cb q.r, cb q.w, cb q.x, cb q.u, cb q.g, cb q.a, cb q.d, cu q.rsw, cu q.ppn, cu q.high]
theorem zja (sz : Int) (xs : List (Int × Int)) (t l : Int) (q : Pte) (addr : Int) (p : Pte) (ha : U addr) (hp : p.U) (l0 : 0 ≤ l) (l2 : l ≤ 2) (ht : 0 ≤ t ∧ t < 1099511627776) (hs : Srt xs) (hu : Uw xs) (hbig : (xs.length + 1) * 16 ≤ 140737488355328) :
    Ok 49 [zb2 sz xs, .ag (zgc t l q), iu addr, .ag p.ce] (.m (zb2 sz (za7 sz xs t (idx addr l) p))) := by
  have hi := idx_bd addr l
  have hU : U (t * 4096 + idx addr l * 8) := ⟨by omega, by omega⟩
  by_cases hw : zdh sz (t * 4096 + idx addr l * 8) 8 = 0
  · rw [show za7 sz xs t (idx addr l) p = zdp sz xs (t * 4096 + idx addr l * 8) 8 (PteC.ze7 p) by unfold za7; rw [if_pos hw]]
    refine zah 32 Tryz.func49 rfl rfl rfl rfl ?_ GG.to
    intro W A hG
    repeat (first | (refine zaj rfl ?_; first | refine zak ?_ | refine gdr (zaa rfl rfl rfl (zue p hp) rfl) ?_ | refine gdr (zaa rfl rfl rfl (zki addr l ha l0 l2) rfl) ?_ | refine gdr (zaa rfl rfl rfl (zqk t _ ht hi) rfl) ?_ | refine gdr (zaa rfl rfl rfl (zw4 sz xs _ 8 _ hU (zf4 p hp) hs hu hbig hw) rfl) ?_) | (refine hK _ ?_; clear hK K) | refine zac rfl ?_ | refine zas (by kernel_rfl) (by kernel_rfl) rfl ?_ | exact zaf (show zav _ _ _ = some _ by kernel_rfl) | refine zab (fun K hK => ?_))
  · rw [show za7 sz xs t (idx addr l) p = xs by unfold za7; rw [if_neg hw]]
    refine zah 32 Tryz.func49 rfl rfl rfl rfl ?_ GG.to
    intro W A hG
    repeat (first | (refine zaj rfl ?_; first | refine zak ?_ | refine gdr (zaa rfl rfl rfl (zue p hp) rfl) ?_ | refine gdr (zaa rfl rfl rfl (zki addr l ha l0 l2) rfl) ?_ | refine gdr (zaa rfl rfl rfl (zqk t _ ht hi) rfl) ?_ | refine gdr (zaa rfl rfl rfl (zw5 sz xs _ 8 _ hU (zf4 p hp) hs hu hbig hw) rfl) ?_) | (refine hK _ ?_; clear hK K) | refine zac rfl ?_ | refine zas (by kernel_rfl) (by kernel_rfl) rfl ?_ | exact zaf (show zav _ _ _ = some _ by kernel_rfl) | refine zab (fun K hK => ?_))
theorem zlj (w : World) (x0 y0 x1 y1 x2 y2 : Int) :
    (Op.equalIn 10000 41 (.agg #[.int .i64 x0, .int .u64 x1, .int .u64 x2]) (.agg #[.int .i64 y0, .int .u64 y1, .int .u64 y2])).run Tryz.prog w = .ok (x0 == y0 && (x1 == y1 && (x2 == y2 && true))) w := by
  refine PoolC4.zck Tryz.underlying41 (by kernel_rfl) ?_
  refine PoolC4.zar (by rfl) (by go_simp; rfl) (by go_simp; rfl) (by go_simp) ?_
  refine PoolC4.zar (by rfl) (by go_simp; rfl) (by go_simp; rfl) (by go_simp) ?_
  exact PoolC4.zar (by rfl) (by go_simp; rfl) (by go_simp; rfl) (by go_simp) PoolC4.zb1
theorem zw9 (m o : Int) : Ok 103 [.ag [ci m, cu 0, cu o]] (.tu [.ag [ci m, cu 0, cu o], iu 0, ib false, ii 9]) := by
  refine zah 39 Tryz.func103 rfl rfl rfl rfl ?_ GG.to
  intro W A hG
  have he : ∀ w, (Op.equalIn 10000 41 (.agg #[.int .i64 m, .int .u64 0, .int .u64 o]) (.agg #[.int .i64 m, .int .u64 0, .int .u64 o])).run Tryz.prog w = .ok true w := fun w => by rw [zlj]; simp
  repeat (first | (refine zaj rfl ?_; first | refine zak ?_ | refine gdr (zcj (us := [.int .i64 m, .int .u64 0, .int .u64 o]) (vs := [.int .i64 m, .int .u64 0, .int .u64 o]) he (by kernel_rfl) rfl rfl rfl rfl) ?_) | (refine hK _ ?_; clear hK K) | refine zac rfl ?_ | exact zaf (show zav _ _ _ = some _ by kernel_rfl) | refine zag rfl rfl ?_ | refine zab (fun K hK => ?_))
def zf5 (f : Int) : Int := zbw f (tzI f) 1 0
def zf6 (f o : Int) : Int := zbw o (tzI f) 1 1
theorem z5f {f : Int} (hf : U f) (h0 : f ≠ 0) : 0 ≤ tzI f ∧ tzI f < 64 := by
  have := PoolC4.zz8 hf h0; omega
theorem zib (m f o : Int) (hf : U f) (ho : U o) (h0 : f ≠ 0) : Ok 103 [.ag [ci m, cu f, cu o]] (.tu [.ag [ci m, cu (zf5 f), cu (zf6 f o)], iu (tzI f + 1), ib (zdo o (tzI f) 1 == 1), ii 0]) := by
  have t1 := z5f hf h0
  refine zah 39 Tryz.func103 rfl rfl rfl rfl ?_ GG.to
  intro W A hG
  have he : ∀ w, (Op.equalIn 10000 41 (.agg #[.int .i64 m, .int .u64 f, .int .u64 o]) (.agg #[.int .i64 m, .int .u64 0, .int .u64 o])).run Tryz.prog w = .ok false w := fun w => by rw [zlj]; simp [h0]
  repeat (first | (refine zaj rfl ?_; first | refine zak ?_ | refine gdr (zcj (us := [.int .i64 m, .int .u64 f, .int .u64 o]) (vs := [.int .i64 m, .int .u64 0, .int .u64 o]) he (by kernel_rfl) rfl rfl rfl rfl) ?_ | refine gdr (zaa rfl rfl rfl (z5d f hf) rfl) ?_ | refine gdr (zaa rfl rfl rfl (z29 o (tzI f) 1 ho t1.1 (by omega) (by omega) (by omega)) rfl) ?_ | refine gdr (zaa rfl rfl rfl (zyt f (tzI f) 1 0 hf ⟨by omega, by omega⟩ t1.1 (by omega) (by omega) (by omega)) rfl) ?_ | refine gdr (zaa rfl rfl rfl (zyt o (tzI f) 1 1 ho ⟨by omega, by omega⟩ t1.1 (by omega) (by omega) (by omega)) rfl) ?_) | (refine hK _ ?_; clear hK K) | refine zac rfl ?_ | refine zas (by kernel_rfl) (by kernel_rfl) rfl ?_ | exact zaf (show zav _ _ _ = some _ by kernel_rfl) | refine zae rfl rfl ?_ | refine zai ?_ | refine zab (fun K hK => ?_))
end Go.Proofs.YtomeaibdedaldaaGreatDoor.SpC
namespace Go.Proofs.YtomeaibdedaldaaGreatDoor.IterC
open Go.RowKit Go.Shelf Bv Base MemL MemC PutC TableC
open BitsC
set_option maxRecDepth 20000
open Ax OkS
end Go.Proofs.YtomeaibdedaldaaGreatDoor.IterC
namespace Go.Proofs.YtomeaibdedaldaaGreatDoor.Ax
open Go.RowKit MemL RegR
variable {P : Program} {ops : Array Oper} {X : Cx} {o : Oper} {S : St}
def zob (b : Nat) (h : Nat → Hs) : Nat → Hs := upd [(b, .dead)] h
theorem zyv (b : Nat) (h : Nat → Hs) : zob b h b = .dead := by
  show cond (Nat.beq b b) (zwe .dead (h b)) (h b) = .dead
  rw [Nat.beq_refl]; rfl
theorem zuh {b i : Nat} (h : Nat → Hs) (e : i ≠ b) : zob b h i = h i := by
  show cond (Nat.beq i b) (zwe .dead (h i)) (h i) = h i
  rw [za8 e]; rfl
theorem zdw {b i : Nat} {h : Nat → Hs} (k : zcd (zob b h) i) : i ≠ b ∧ zcd h i := by
  obtain ⟨q, hq⟩ := k
  by_cases e : i = b
  · subst e; rw [zyv] at hq; cases hq
  · rw [zuh h e] at hq; exact ⟨e, q, hq⟩
theorem zui {b : Nat} {h : Nat → Hs} {τ : Nat → Value} {w w' : World} (hb : Below w.heap.size w w') : (env X h τ w).le (env X (zob b h) τ w') := by
  refine ⟨fun i hi => ⟨?_, rfl⟩, fun g _ ha => ⟨ha.1, fun i hi => ha.2 i (zdw hi).2⟩, hb.size, fun g o hg _ => hb.cell (p := ⟨g, o, none⟩) hg⟩
  have hi : h i ≠ .fresh := hi
  show zob b h i ≠ .fresh
  by_cases e : i = b
  · subst e; rw [zyv]; intro e; cases e
  · rw [zuh h e]; exact hi
theorem z3b {b e k n : Nat} {xs : List Value} {τ : Nat → Value} {a : Act} {w : World} (h : SimT X S τ a w) (hb : S.hp b = .live (.row e k n xs)) : ∀ (c : Ce) (v : Value), (idC c).all (Nat.beq · b) = true → c.R (env X S.hp τ w) v → (zhc S.hp c).R (env X (zob b S.hp) τ w) v := fun c v hc hR => by
  have wk : ∀ (c : Ce), c.R (env X S.hp τ w) v → c.R (env X (zob b S.hp) τ w) v := fun c hR => zb5 (zui (Below.refl _ _)) _ _ hR
  unfold zhc
  split
  · rename_i i
    simp only [idC, List.all_cons, List.all_nil, Bool.and_true] at hc
    obtain rfl := Nat.eq_of_beq_eq_true hc
    rw [hb]
    obtain ⟨_, hv⟩ := hR
    have hv : v = τ i := hv
    subst hv
    have hr : w.ownsRow X.base e k (τ i) n xs := h.hp i _ hb
    refine ⟨Sl.of_owns hr, fun ad l c e' => ⟨.inr (World.ownsRow.lt hr ad.block (by rw [e']; rfl)).1, fun j hj ho => ?_⟩⟩
    obtain ⟨hne, hj⟩ := zdw hj
    exact h.sep j i ad.block hne hj ⟨_, hb⟩ ho (by rw [e']; rfl)
  · exact wk _ hR
theorem z3c {b e k n : Nat} {xs : List Value} {τ : Nat → Value} {a : Act} {w : World} (h : SimT X S τ a w) (hb : S.hp b = .live (.row e k n xs)) : ∀ (c : Cm) (v : Value), (idM c).all (Nat.beq · b) = true → c.R (env X S.hp τ w) v → (zj2 S.hp c).R (env X (zob b S.hp) τ w) v
  | .c x, v, hc, hR => z3b h hb x v hc hR
  | .ag cs, v, hc, ⟨vs, e, hR⟩ => by
    refine ⟨vs, e, ?_⟩
    have : ∀ (cs : List Ce) (vs : List Value), (cs.flatMap idC).all (Nat.beq · b) = true → All2 (Ce.R (env X S.hp τ w)) cs vs → All2 (Ce.R (env X (zob b S.hp) τ w)) (cs.map (zhc S.hp)) vs := by
      intro cs
      induction cs with
      | nil => intro vs _ h; cases vs with | nil => trivial | cons _ _ => exact h.elim
      | cons c cs ih =>
        intro vs hc k
        rw [List.flatMap_cons, List.all_append, Bool.and_eq_true] at hc
        cases vs with | nil => exact k.elim | cons v vs => exact ⟨z3b h hb c v hc.1 k.1, ih vs hc.2 k.2⟩
    exact this cs _ hc hR
theorem zyw {b e k n : Nat} {xs : List Value} {τ : Nat → Value} {a : Act} {w : World} (h : SimT X S τ a w) (hb : S.hp b = .live (.row e k n xs)) : ∀ (l : List Cm) (vs : List Value), (l.flatMap idM).all (Nat.beq · b) = true → All2 (Cm.R (env X S.hp τ w)) l vs → All2 (Cm.R (env X (zob b S.hp) τ w)) (l.map (zj2 S.hp)) vs
  | [], [], _, _ => trivial
  | m :: l, v :: vs, hc, k => by
    rw [List.flatMap_cons, List.all_append, Bool.and_eq_true] at hc
    exact ⟨z3c h hb m v hc.1 k.1, zyw h hb l vs hc.2 k.2⟩
  | [], _ :: _, _, h => h.elim
  | _ :: _, [], _, h => h.elim
theorem z3d {b : Nat} {h : Nat → Hs} {τ : Nat → Value} {w : World} : ∀ (k : Bk) (v : Value) (base : Nat), k.R (env X h τ w) base v → k.R (env X (zob b h) τ w) base v
  | .box cs, v, base, ⟨g, vs, h1, h2, h3⟩ => ⟨g, vs, h1, h2, All2.mono (zb5 (zui (Below.refl _ _))) _ _ h3⟩
  | .row e k n xs, v, base, hk => hk
theorem ze8 {k b e q n : Nat} {ys : List Value} {xs : Array Operand} {ts : Array TypeId} {l : List Cm} {r : AV} (ho : o.op = .call { callee := .value (.func k), args := xs, argTypes := ts }) (hw : zam ops S o = true) (hk : zdq P k = true) (hl : zk8 S xs.toList = some l) (hb : S.hp b = .live (.row e q n ys)) (hi : (l.flatMap idM).all (Nat.beq · b) = true) (hc : zbn P X.G k (l.map (zj2 S.hp)) r) : za4 P ops X o S ⟨r, [(b, .dead)], []⟩ := fun S2 a w h1 h2 h3 ⟨τ, hS⟩ => by
  refine .inl ⟨zbu hw h1 h3 hS, ?_⟩
  rw [zh7 ho hk]
  obtain ⟨c1, c2, hc⟩ := hc
  have hR := zhb (S := S) (E := env X S2.hp τ w) (a := a) xs.toList l hl (fun x hx => by
    have hm : x ∈ o.op.operands := by rw [ho]; simp [Op.operands, Call.operands]; exact .inr (by simpa using hx)
    rw [← zb7 h1 hm]; exact hS.ev x (fun t e => h3 t (.inl (zbv (e ▸ hm)))))
  have e2 : S2.hp b = S.hp b := h2 (.all b) (by simp [Ef.foot, ze0])
  have hsh : l.map (zj2 S2.hp) = l.map (zj2 S.hp) := List.map_congr_left fun m hm => zrx fun i hi' => by
    have := List.all_eq_true.1 hi i (List.mem_flatMap.2 ⟨m, hm, hi'⟩)
    rw [Nat.eq_of_beq_eq_true this]; exact e2
  have hb2 : S2.hp b = .live (.row e q n ys) := e2.trans hb
  have hR1 := zyw hS hb2 _ _ hi hR
  rw [hsh] at hR1
  have hR' := zdv (F := en0 (alw X (zob b S2.hp) τ) w) (E := env X (zob b S2.hp) τ w) rfl (fun _ _ h => h) _ _ c2 hR1
  refine (hc (alw X (zob b S2.hp) τ) w (xs.map a.eval) (X.hG w hS.bel) (by simpa using hR')).mono ?_
  rintro e' w' ⟨v, rfl, hbl, hr⟩
  refine ⟨v, rfl, τ, hS.turn (u := [(b, .dead)]) (zui hbl) (hS.belT hbl) (fun i q hq => ?_) (fun i g hi hg => ?_) (fun i j g hne hi hj => hS.sep i j g hne (zdw hi).2 (zdw hj).2) hS.one ?_⟩
  · have hq : zob b S2.hp i = .live q := hq
    obtain ⟨hne, _⟩ := zdw ⟨q, hq⟩
    rw [zuh _ hne] at hq
    exact z3d _ _ _ (zis hbl _ _ _ (hS.hp i q hq))
  · have := hS.own i g (zdw hi).2 hg
    exact ⟨this.1, Nat.lt_of_lt_of_le this.2 hbl.size⟩
  · refine zk7 (E := en0 _ w') (F := env X (zob b S2.hp) τ w') rfl (fun g _ hg => ?_) _ _ c1 hr
    rcases hg with hg | hg
    · exact hg
    · exact ⟨.inr (Nat.le_trans hS.bsz hg), fun i hi he => by have := (hS.own i g (zdw hi).2 he).2; omega⟩
end Go.Proofs.YtomeaibdedaldaaGreatDoor.Ax
namespace Go.Proofs.YtomeaibdedaldaaGreatDoor.Ax
open Go.RowKit MemL RegR
variable {P : Program} {ops : Array Oper} {X : Cx} {anc : Nat → Nat → Bool} {R : St → Prop} {T : List (Nat × List Rd × List Rd)} {S : St} {i : Nat} {r : List Nat} {o : Oper}
theorem zhi (d : Tmp) (_ : o.dst = some d) (h : Nxt P ops X anc R T S i r o) : Nxt P ops X anc R T S i r o := h
end Go.Proofs.YtomeaibdedaldaaGreatDoor.Ax
namespace Go.Proofs.YtomeaibdedaldaaGreatDoor.Ax
open Go.RowKit MemL RegR
variable {P : Program} {X : Cx} {S : St}
def St.mv (S : St) (b b' : Nat) (r : Bk) : St := ⟨fun t => frV b (.o b') (S.tm t), fun i => cond (Nat.beq i b') (.live r) (cond (Nat.beq i b) .dead (frH b (.o b') (S.hp i)))⟩
theorem ze9 {b b' e n k : Nat} {xs : List Value} (hb : S.hp b = .live (.row e k n xs)) (hf : S.hp b' = .fresh) : Sub X S (S.mv b b' (.row e k n xs)) := fun a w ⟨τ, h⟩ => by
  have hne : b ≠ b' := fun e => by rw [e, hf] at hb; cases hb
  have hb1 : (S.mv b b' (.row e k n xs)).hp b' = .live (.row e k n xs) := by
    show cond (Nat.beq b' b') _ _ = _; rw [Nat.beq_refl]; rfl
  have hb2 : ∀ i, i ≠ b' → i ≠ b → (S.mv b b' (.row e k n xs)).hp i = frH b (.o b') (S.hp i) := fun i h1 h2 => by
    show cond (Nat.beq i b') _ _ = _; rw [za8 h1]
    show cond (Nat.beq i b) _ _ = _; rw [za8 h2]; rfl
  have hb3 : (S.mv b b' (.row e k n xs)).hp b = .dead := by
    show cond (Nat.beq b b') _ _ = _; rw [za8 hne]
    show cond (Nat.beq b b) _ _ = _; rw [Nat.beq_refl]; rfl
  have fr : ∀ q, frH b (.o b') q ≠ .fresh ↔ q ≠ .fresh := fun q => by
    cases q with
    | live q => cases q <;> simp [frH]
    | fresh => simp [frH]
    | dead => simp [frH]
    | patch _ _ => simp [frH]
  have hal : ∀ i, zcd (S.mv b b' (.row e k n xs)).hp i → i = b' ∨ (i ≠ b' ∧ i ≠ b ∧ zcd S.hp i) := fun i ⟨q, hq⟩ => by
    by_cases e1 : i = b'
    · exact .inl e1
    · by_cases e2 : i = b
      · subst e2; rw [hb3] at hq; cases hq
      · rw [hb2 i e1 e2] at hq
        refine .inr ⟨e1, e2, ?_⟩
        cases hh : S.hp i with
        | live q' => exact ⟨q', hh⟩
        | fresh => rw [hh] at hq; cases hq
        | dead => rw [hh] at hq; cases hq
        | patch _ _ => rw [hh] at hq; cases hq
  have t1 : zch τ b' (τ b) b' = τ b := by unfold zch; rw [if_pos rfl]
  have t2 : ∀ i, i ≠ b' → zch τ b' (τ b) i = τ i := fun i hi => by unfold zch; rw [if_neg hi]
  have hle : (env X S.hp τ w).le (env X (S.mv b b' (.row e k n xs)).hp (zch τ b' (τ b)) w) := by
    refine ⟨fun i hi => ?_, fun g _ ha => ⟨ha.1, fun i hi => ?_⟩, Nat.le_refl _, fun _ _ _ _ => rfl⟩
    · have hi : S.hp i ≠ .fresh := hi
      have e1 : i ≠ b' := fun e => hi (e ▸ hf)
      refine ⟨?_, t2 i e1⟩
      show (S.mv b b' (.row e k n xs)).hp i ≠ .fresh
      by_cases e2 : i = b
      · subst e2; rw [hb3]; intro e; cases e
      · rw [hb2 i e1 e2]; exact (fr _).2 hi
    · show occ (zch τ b' (τ b) i) ≠ some g
      rcases hal i hi with rfl | ⟨e1, e2, hi⟩
      · rw [t1]; exact ha.2 b ⟨_, hb⟩
      · rw [t2 i e1]; exact ha.2 i hi
  have hC : ∀ (c : Ce) (v : Value), c.R (env X S.hp τ w) v → (frC b (.o b') c).R (env X (S.mv b b' (.row e k n xs)).hp (zch τ b' (τ b)) w) v := fun c v hR => by
    cases c with
    | o i =>
      simp only [frC]
      by_cases ei : i = b
      · subst ei; rw [Nat.beq_refl]
        have : v = τ i := hR.2
        refine ⟨?_, ?_⟩
        · show (S.mv i b' (.row e k n xs)).hp b' ≠ .fresh
          rw [hb1]; intro e; cases e
        · show v = zch τ b' (τ i) b'
          rw [t1]; exact this
      · rw [za8 ei]; exact zb5 hle _ _ hR
    | _ => exact zb5 hle _ _ hR
  have hM : ∀ (c : Cm) (v : Value), c.R (env X S.hp τ w) v → (frM b (.o b') c).R (env X (S.mv b b' (.row e k n xs)).hp (zch τ b' (τ b)) w) v := fun c v hR => by
    cases c with
    | c x => exact hC x v hR
    | ag cs => obtain ⟨vs, e', q⟩ := hR; exact ⟨vs, e', zga _ hC _ _ q⟩
  refine ⟨zch τ b' (τ b), h.size, h.nodef, h.bel, fun t ht => ?_, fun i q hq => ?_, fun i g hi ho => ?_, fun i j g hij hi hj ho => ?_, fun i => ?_, fun p hp => ⟨(hle.U _ (h.pin p hp).1).1, (hle.U _ (h.pin p hp).1).2.trans (h.pin p hp).2⟩⟩
  · have := h.tm t ht
    show (frV b (.o b') (S.tm t)).R _ _
    cases hv : S.tm t with
    | m m => rw [hv] at this; exact hM m _ this
    | tu l => rw [hv] at this; obtain ⟨vs, e', q⟩ := this; exact ⟨vs, e', zga _ hM _ _ q⟩
  · rcases hal i ⟨q, hq⟩ with rfl | ⟨e1, e2, q', hq'⟩
    · rw [hb1] at hq; cases hq
      rw [t1]; exact h.hp b _ hb
    · rw [hb2 i e1 e2, hq'] at hq
      rw [t2 i e1]
      have hk := h.hp i q' hq'
      cases q' with
      | box cs =>
        simp only [frH] at hq; cases hq
        obtain ⟨g, vs, x1, x2, x3⟩ := hk
        exact ⟨g, vs, x1, x2, zga _ hC _ _ x3⟩
      | row _ _ _ _ => simp only [frH] at hq; cases hq; exact hk
  · rcases hal i hi with rfl | ⟨e1, e2, hi⟩
    · rw [t1] at ho; exact h.own b g ⟨_, hb⟩ ho
    · rw [t2 i e1] at ho; exact h.own i g hi ho
  · rcases hal i hi with e0 | ⟨e1, e2, hi'⟩
    · rw [e0, t1] at ho
      rcases hal j hj with f0 | ⟨f1, f2, hj'⟩
      · exact absurd (e0.trans f0.symm) hij
      · rw [t2 j f1]; exact h.sep b j g (Ne.symm f2) ⟨_, hb⟩ hj' ho
    · rw [t2 i e1] at ho
      rcases hal j hj with f0 | ⟨f1, f2, hj'⟩
      · rw [f0, t1]; exact h.sep i b g e2 hi' ⟨_, hb⟩ ho
      · rw [t2 j f1]; exact h.sep i j g hij hi' hj' ho
  · by_cases e1 : i = b'
    · subst e1; rw [t1]; exact h.one b
    · rw [t2 i e1]; exact h.one i
def St.nl (S : St) (t b : Nat) (r : Bk) : St := ⟨fun t' => cond (Nat.beq t' t) (.m (.c (.o b))) (S.tm t'), fun i => cond (Nat.beq i b) (.live r) (S.hp i)⟩
theorem zlk (t b e k : Nat) (ht : S.tm t = .m (.c (.v (.slice none 0 0)))) (hf : S.hp b = .fresh) : Sub X S (S.nl t b (.row e k 0 [])) := fun a w ⟨τ, h⟩ => by
  have hb1 : (S.nl t b (.row e k 0 [])).hp b = .live (.row e k 0 []) := by
    show cond (Nat.beq b b) _ _ = _; rw [Nat.beq_refl]; rfl
  have hb2 : ∀ i, i ≠ b → (S.nl t b (.row e k 0 [])).hp i = S.hp i := fun i h1 => by
    show cond (Nat.beq i b) _ _ = _; rw [za8 h1]; rfl
  have hal : ∀ i, zcd (S.nl t b (.row e k 0 [])).hp i → i = b ∨ (i ≠ b ∧ zcd S.hp i) := fun i ⟨q, hq⟩ => by
    by_cases e1 : i = b
    · exact .inl e1
    · rw [hb2 i e1] at hq; exact .inr ⟨e1, q, hq⟩
  have t1 : zch τ b (.slice none 0 0) b = .slice none 0 0 := by unfold zch; rw [if_pos rfl]
  have t2 : ∀ i, i ≠ b → zch τ b (.slice none 0 0) i = τ i := fun i hi => by unfold zch; rw [if_neg hi]
  have hle : (env X S.hp τ w).le (env X (S.nl t b (.row e k 0 [])).hp (zch τ b (.slice none 0 0)) w) := by
    refine ⟨fun i hi => ?_, fun g _ ha => ⟨ha.1, fun i hi => ?_⟩, Nat.le_refl _, fun _ _ _ _ => rfl⟩
    · have hi : S.hp i ≠ .fresh := hi
      have e1 : i ≠ b := fun e => hi (e ▸ hf)
      exact ⟨by show (S.nl t b (.row e k 0 [])).hp i ≠ .fresh; rw [hb2 i e1]; exact hi, t2 i e1⟩
    · show occ (zch τ b (.slice none 0 0) i) ≠ some g
      rcases hal i hi with rfl | ⟨e1, hi⟩
      · rw [t1]; intro e; cases e
      · rw [t2 i e1]; exact ha.2 i hi
  refine ⟨zch τ b (.slice none 0 0), h.size, h.nodef, h.bel, fun t' ht' => ?_, fun i q hq => ?_, fun i g hi ho => ?_, fun i j g hij hi hj ho => ?_, fun i => ?_, fun p hp => ⟨(hle.U _ (h.pin p hp).1).1, (hle.U _ (h.pin p hp).1).2.trans (h.pin p hp).2⟩⟩
  · show (cond (Nat.beq t' t) (.m (.c (.o b))) (S.tm t')).R _ _
    by_cases et : t' = t
    · subst et; rw [Nat.beq_refl]
      have := h.tm t' ht'
      rw [ht] at this
      have this : a.tmps.getD t' undef = .slice none 0 0 := this
      refine ⟨?_, ?_⟩
      · show (S.nl t' b (.row e k 0 [])).hp b ≠ .fresh
        rw [hb1]; intro e; cases e
      · show _ = zch τ b (.slice none 0 0) b
        rw [t1]; exact this
    · rw [za8 et]; exact zs1 hle _ _ (h.tm t' ht')
  · rcases hal i ⟨q, hq⟩ with rfl | ⟨e1, q', hq'⟩
    · rw [hb1] at hq; cases hq
      rw [t1]; exact World.ownsRow_nil w X.base e k
    · rw [hb2 i e1] at hq
      rw [t2 i e1]
      have hk := h.hp i q hq
      cases q with
      | box cs =>
        obtain ⟨g, vs, x1, x2, x3⟩ := hk
        exact ⟨g, vs, x1, x2, All2.mono (zb5 hle) _ _ x3⟩
      | row _ _ _ _ => exact hk
  · rcases hal i hi with rfl | ⟨e1, hi⟩
    · rw [t1] at ho; cases ho
    · rw [t2 i e1] at ho; exact h.own i g hi ho
  · rcases hal i hi with e0 | ⟨e1, hi'⟩
    · rw [e0, t1] at ho; cases ho
    · rw [t2 i e1] at ho
      rcases hal j hj with f0 | ⟨f1, hj'⟩
      · rw [f0, t1]; intro e; cases e
      · rw [t2 j f1]; exact h.sep i j g hij hi' hj' ho
  · by_cases e1 : i = b
    · subst e1; rw [t1]; rfl
    · rw [t2 i e1]; exact h.one i
def ltM (c c' : Cm) : Prop := ∀ E v, c.R E v → c'.R E v
theorem zqo {E : En} : ∀ (cs cs' : List Cm) (vs : List Value), All2 ltM cs cs' → All2 (Cm.R E) cs vs → All2 (Cm.R E) cs' vs
  | [], [], _, _, h => h
  | c :: cs, c' :: cs', [], _, h => h.elim
  | c :: cs, c' :: cs', v :: vs, k, h => ⟨k.1 _ _ h.1, zqo cs cs' vs k.2 h.2⟩
  | [], _ :: _, _, k, _ => k.elim
  | _ :: _, [], _, k, _ => k.elim
theorem zph {G : World → Prop} {k : FuncId} {args args' : List Cm} {r : AV} (h : zbn P G k args' r) (hc : args.all zcq = true) (hlt : All2 ltM args args') : zbn P G k args r :=
  ⟨h.1, hc, fun A W vs hG hR => h.2.2 A W vs hG (zqo _ _ _ hlt hR)⟩
end Go.Proofs.YtomeaibdedaldaaGreatDoor.Ax
namespace Go.Proofs.YtomeaibdedaldaaGreatDoor.Ax
open Go.RowKit MemL RegR
variable {P : Program} {ops : Array Oper} {X : Cx} {o : Oper} {S : St}
abbrev Ln := Nat × List Ce × List Ce
def z0h (τ : Nat → Value) (bs : List Ln) (g : Nat) : Prop := ∃ p ∈ bs, occ (τ p.1) = some g
def zdx (P : Program) (G : World → Prop) (k : FuncId) (bs : List Ln) (args : List Cm) (r : AV) : Prop :=
  (zek r && bs.all (fun p => p.2.1.all zdj && p.2.2.all zdj)) = true ∧ (args.flatMap idM).all (fun b => bs.any (fun p => Nat.beq p.1 b)) = true ∧
  ∀ (A : Nat → Prop) (W : World) (τ : Nat → Value) (vs : Array Value), (∀ w, Kept (fun g => g < W.heap.size ∧ ¬ z0h τ bs g) W w → G w) →
    (∀ p ∈ bs, ∃ g us, τ p.1 = .pointer (some ⟨g, 0, none⟩) ∧ Bx W g us ∧ All2 (Ce.R (en0 A W)) p.2.1 us.toList ∧ ¬ A g) →
    (∀ p ∈ bs, ∀ q ∈ bs, p.1 ≠ q.1 → ∀ g, occ (τ p.1) = some g → occ (τ q.1) ≠ some g) →
    All2 (Cm.R ⟨A, fun b => ∃ p ∈ bs, p.1 = b, τ, W⟩) args vs.toList →
    Calls P k vs W fun e w' => ∃ v, e = .returned v ∧ Kept (fun g => g < W.heap.size ∧ ¬ z0h τ bs g) W w' ∧ r.R (en0 (fun g => A g ∨ W.heap.size ≤ g) w') v ∧
      ∀ p ∈ bs, ∃ g us, τ p.1 = .pointer (some ⟨g, 0, none⟩) ∧ Bx w' g us ∧ All2 (Ce.R (en0 (fun g => A g ∨ W.heap.size ≤ g) w')) p.2.2 us.toList
theorem look_mem {α : Type} {d : α} : ∀ (l : List (Nat × α)) (b : Nat) (x : α), look d l b = x → x ≠ d → ∃ p ∈ l, p.1 = b ∧ p.2 = x
  | [], b, x, h, k => absurd h.symm k
  | p :: r, b, x, h, k => by
    simp only [look] at h
    cases e : Nat.beq b p.1 with
    | true => rw [e] at h; exact ⟨p, by simp, (Nat.eq_of_beq_eq_true e).symm, h⟩
    | false =>
      rw [e] at h
      obtain ⟨q, h1, h2⟩ := look_mem r b x h k
      exact ⟨q, List.mem_cons_of_mem _ h1, h2⟩
theorem zpi {α : Type} {d : α} : ∀ (l : List (Nat × α)) (p : Nat × α), p ∈ l → ∃ q ∈ l, q.1 = p.1 ∧ look d l p.1 = q.2
  | q :: r, p, h => by
    simp only [look]
    cases e : Nat.beq p.1 q.1 with
    | true => exact ⟨q, by simp, (Nat.eq_of_beq_eq_true e).symm, rfl⟩
    | false =>
      rcases List.mem_cons.1 h with rfl | h
      · rw [Nat.beq_refl] at e; cases e
      · obtain ⟨q', h1, h2⟩ := zpi r p h
        exact ⟨q', List.mem_cons_of_mem _ h1, h2⟩
def znf (bs : List Ln) (args : List Cm) : St := ⟨(zm0 args).tm, look .fresh (bs.map fun p => (p.1, .live (.box p.2.1)))⟩
def EndB (S : St) : List Ln → Prop
  | [] => True
  | p :: l => (∃ cs, S.hp p.1 = .live (.box cs) ∧ cs.map (zhc S.hp) = p.2.2) ∧ EndB S l
theorem EndB.mem {S : St} : ∀ {l : List Ln}, EndB S l → ∀ p ∈ l, ∃ cs, S.hp p.1 = .live (.box cs) ∧ cs.map (zhc S.hp) = p.2.2
  | q :: l, h, p, hp => by
    rcases List.mem_cons.1 hp with rfl | hp
    · exact h.1
    · exact EndB.mem h.2 p hp
def RetW (P : Program) (fn : Func) (r : AV) (bs : List Ln) (e : Exit) (S : St) : Prop := match e with
  | .normal | .ret => zav P fn S = some r ∧ EndB S bs
  | _ => False
theorem zqp {τ : Nat → Value} {a : Act} {w : World} (h : SimT X S τ a w) : ∀ (cs : List Ce) (vs : List Value), All2 (Ce.R (env X S.hp τ w)) cs vs → All2 (Ce.R ⟨fun g => X.A0 g ∨ X.base ≤ g, fun b => S.hp b ≠ .fresh, τ, w⟩) (cs.map (zhc S.hp)) vs
  | [], [], _ => trivial
  | c :: cs, v :: vs, k => ⟨zi2 h c v k.1, zqp h cs vs k.2⟩
  | [], _ :: _, k => k.elim
  | _ :: _, [], k => k.elim
def cxW (N : Nat) (W : World) (A : Nat → Prop) (G : World → Prop) (τ : Nat → Value) (bs : List Ln) (hG : ∀ w, Kept (fun g => g < W.heap.size ∧ ¬ z0h τ bs g) W w → G w) : Cx :=
  ⟨N, W, A, G, W.heap.size, Nat.le_refl _, fun g => g < W.heap.size ∧ ¬ z0h τ bs g, fun _ h => h.1, hG, bs.map fun p => (p.1, τ p.1), none, []⟩
theorem zdu {G : World → Prop} {k : FuncId} {fn : Func} {c : Code} {bs : List Ln} {args : List Cm} {r : AV} (N : Nat) (hf : P.funcs[k]? = some fn) (hb : fn.body = some c) (hcl : (zek r && bs.all (fun p => p.2.1.all zdj && p.2.2.all zdj)) = true) (hid : (args.flatMap idM).all (fun b => bs.any (fun p => Nat.beq p.1 b)) = true)
    (hN : args.length + (fn.ntmps - args.length) = N) (hres : zlc N fn.results.toList = true)
    (h : ∀ (W : World) (A : Nat → Prop) (τ : Nat → Value) (hG : ∀ w, Kept (fun g => g < W.heap.size ∧ ¬ z0h τ bs g) W w → G w), Aw P (cxW N W A G τ bs hG) c (RetW P fn r bs) (znf bs args)) : zdx P G k bs args r := by
  refine ⟨hcl, hid, fun A W τ vs hG hB hsep hR => ?_⟩
  simp only [Bool.and_eq_true, List.all_eq_true] at hcl
  obtain ⟨hcr, hcb⟩ := hcl
  refine calls_of_wp hf hb ?_
  have hlen := All2.length _ _ hR
  simp only [Array.length_toList] at hlen
  obtain ⟨τ', hτ'⟩ : ∃ τ' : Nat → Value, τ' = fun b => cond (bs.any fun p => Nat.beq p.1 b) (τ b) (.bool false) := ⟨_, rfl⟩
  have ht : ∀ p ∈ bs, τ' p.1 = τ p.1 := fun p hp => by
    rw [hτ']
    have : (bs.any fun q => Nat.beq q.1 p.1) = true := List.any_eq_true.2 ⟨p, hp, Nat.beq_refl _⟩
    simp only [this, cond]
  have hlive : ∀ b q, look .fresh (bs.map fun p => (p.1, Hs.live (.box p.2.1))) b = .live q → ∃ p ∈ bs, p.1 = b ∧ q = .box p.2.1 := fun b q hq => by
    obtain ⟨x, h1, h2, h3⟩ := look_mem _ b _ hq (fun e => by cases e)
    obtain ⟨p, hp, rfl⟩ := List.mem_map.1 h1
    exact ⟨p, hp, h2, by cases h3; rfl⟩
  have halw : ∀ g, A g → alw (cxW N W A G τ bs hG) (znf bs args).hp τ' g := fun g hg => ⟨.inl hg, fun b ⟨q, hq⟩ ho => by
    obtain ⟨p, hp, rfl, _⟩ := hlive b q hq
    obtain ⟨g', us, e1, _, _, e4⟩ := hB p hp
    rw [ht p hp, e1] at ho
    cases ho; exact e4 hg⟩
  have hS : Sim (cxW N W A G τ bs hG) (znf bs args) { tmps := vs ++ Array.replicate (fn.ntmps - vs.size) undef, defers := [] } W := by
    refine ⟨τ', by simp [← hN, hlen, cxW], rfl, Kept.refl _ _, fun t ht' => ?_, fun b k hk => ?_, fun b g hk ho => ?_, fun b b' g hne hk hk' ho => ?_, fun b => ?_, fun q hq => ?_⟩
    · show AV.R _ (match args[t]? with | some m => .m m | none => .m (.c (.v undef))) _
      have ht' : t < N := ht'
      by_cases hlt : t < args.length
      · obtain ⟨v, hv, hr⟩ := All2.get _ _ t _ hR (List.getElem?_eq_getElem hlt)
        rw [List.getElem?_eq_getElem hlt]
        have e : (vs ++ Array.replicate (fn.ntmps - vs.size) undef).getD t undef = v := by
          rw [Array.getD_eq_getD_getElem?, Array.getElem?_append_left (by omega)]
          simp only [Array.getElem?_toList] at hv
          rw [hv]; rfl
        rw [e]
        refine zs0 (E := ⟨A, fun b => ∃ p ∈ bs, p.1 = b, τ, W⟩) (F := env (cxW N W A G τ bs hG) (znf bs args).hp τ' W) ⟨fun b hb' => ?_, fun g _ hg => halw g hg, Nat.le_refl _, fun _ _ _ _ => rfl⟩ _ _ hr
        obtain ⟨p, hp, rfl⟩ := hb'
        refine ⟨?_, ht p hp⟩
        obtain ⟨q, q1, q2, q3⟩ := zpi (d := Hs.fresh) (bs.map fun p => (p.1, Hs.live (.box p.2.1))) (p.1, .live (.box p.2.1)) (List.mem_map.2 ⟨p, hp, rfl⟩)
        show look Hs.fresh (bs.map fun p => (p.1, Hs.live (.box p.2.1))) p.1 ≠ Hs.fresh
        rw [show look Hs.fresh (bs.map fun p => (p.1, Hs.live (.box p.2.1))) p.1 = q.2 from q3]
        obtain ⟨p', _, rfl⟩ := List.mem_map.1 q1
        intro e; cases e
      · rw [List.getElem?_eq_none (by omega)]
        show _ = undef
        rw [Array.getD_eq_getD_getElem?, Array.getElem?_append_right (by omega)]
        rw [Array.getElem?_replicate]; split <;> rfl
    · obtain ⟨p, hp, rfl, rfl⟩ := hlive b k hk
      obtain ⟨g, us, e1, e2, e3, _⟩ := hB p hp
      have := hcb p hp
      exact ⟨g, us, (ht p hp).trans e1, e2, zfm (E := en0 A W) (F := env (cxW N W A G τ bs hG) (znf bs args).hp τ' W) rfl (fun g _ hg => halw g hg) _ _ (List.all_eq_true.2 this.1) e3⟩
    · obtain ⟨q, hq⟩ := hk
      obtain ⟨p, hp, rfl, rfl⟩ := hlive b q hq
      obtain ⟨g', us, e1, e2, e3, _⟩ := hB p hp
      rw [ht p hp] at ho
      refine ⟨fun hk => hk.2 ⟨p, hp, ho⟩, ?_⟩
      rw [e1] at ho; cases ho
      exact e2.lt
    · obtain ⟨q, hq⟩ := hk
      obtain ⟨q', hq'⟩ := hk'
      obtain ⟨p, hp, rfl, rfl⟩ := hlive b q hq
      obtain ⟨p', hp', rfl, rfl⟩ := hlive b' q' hq'
      rw [ht p hp] at ho
      rw [ht p' hp']
      exact hsep p hp p' hp' hne g ho
    · have e0 : τ' b = cond (bs.any fun p => Nat.beq p.1 b) (τ b) (.bool false) := by rw [hτ']
      rw [e0]
      cases e : bs.any fun p => Nat.beq p.1 b with
      | false => rfl
      | true =>
        obtain ⟨p, hp, e'⟩ := List.any_eq_true.1 e
        obtain rfl := Nat.eq_of_beq_eq_true e'
        obtain ⟨g, us, e1, _⟩ := hB p hp
        show (τ p.1).oneCell' = true
        rw [e1]; rfl
    · obtain ⟨p, hp, rfl⟩ := List.mem_map.1 hq
      refine ⟨?_, ht p hp⟩
      obtain ⟨q, q1, q2, q3⟩ := zpi (d := Hs.fresh) (bs.map fun p => (p.1, Hs.live (.box p.2.1))) (p.1, .live (.box p.2.1)) (List.mem_map.2 ⟨p, hp, rfl⟩)
      show look Hs.fresh (bs.map fun p => (p.1, Hs.live (.box p.2.1))) p.1 ≠ Hs.fresh
      rw [show look Hs.fresh (bs.map fun p => (p.1, Hs.live (.box p.2.1))) p.1 = q.2 from q3]
      obtain ⟨p', _, rfl⟩ := List.mem_map.1 q1
      intro e; cases e
  refine wp_mono (wpIn_wide.1 (h W A τ hG _ W hS 0)) ?_
  intro e a' w' ⟨S', q, τe, s⟩
  have fin : zav P fn S' = some r ∧ EndB S' bs → a'.defers = [] ∧ ∃ v, (results fn a'.tmps).run P w' = .ok v w' ∧ (∃ u, Ending.returned v = .returned u ∧ Kept (fun g => g < W.heap.size ∧ ¬ z0h τ bs g) W w' ∧ r.R (en0 (fun g => A g ∨ W.heap.size ≤ g) w') u ∧
      ∀ p ∈ bs, ∃ g us, τ p.1 = .pointer (some ⟨g, 0, none⟩) ∧ Bx w' g us ∧ All2 (Ce.R (en0 (fun g => A g ∨ W.heap.size ≤ g) w')) p.2.2 us.toList) := fun ⟨hr, hE⟩ => by
    refine ⟨s.nodef, ?_⟩
    have hbx : ∀ p ∈ bs, ∃ g us, τ p.1 = .pointer (some ⟨g, 0, none⟩) ∧ Bx w' g us ∧ All2 (Ce.R (en0 (fun g => A g ∨ W.heap.size ≤ g) w')) p.2.2 us.toList := fun p hp => by
      obtain ⟨cs, e1, e2⟩ := hE.mem p hp
      obtain ⟨g, us, e3, e4, e5⟩ := s.hp p.1 _ e1
      have hpin := (s.pin (p.1, τ p.1) (List.mem_map.2 ⟨p, hp, rfl⟩)).2
      have e6 := zqp s _ _ e5
      rw [e2] at e6
      have := hcb p hp
      exact ⟨g, us, by rw [← e3]; exact hpin.symm, e4, zfm (E := ⟨_, _, τe, w'⟩) (F := en0 (fun g => A g ∨ W.heap.size ≤ g) w') rfl (fun g _ hg => hg) _ _ (List.all_eq_true.2 this.2) e6⟩
    unfold zav at hr
    split at hr
    · rename_i m hm
      cases hr
      obtain ⟨vs', h1, h2⟩ := zgn s _ _ hres hm
      obtain ⟨v, rfl⟩ : ∃ v, vs' = [v] := by
        cases vs' with
        | nil => exact h2.elim
        | cons v l => cases l with | nil => exact ⟨v, rfl⟩ | cons _ _ => exact h2.2.elim
      refine ⟨v, ?_, v, rfl, s.bel, (zha (E := ⟨_, _, τe, w'⟩) (F := en0 (fun g => A g ∨ W.heap.size ≤ g) w') rfl (fun g _ hg => hg) _ _ hcr h2.1 : Cm.R _ _ _), hbx⟩
      rw [zfn]
      rw [Array.mapM_eq_mapM_toList]
      simp only [Sem.run_bind, Sem.run_map, h1, Result.andThen_ok, Sem.run_pure]
      rfl
    · rename_i ms hne hm
      cases hr
      obtain ⟨vs', h1, h2⟩ := zgn s _ _ hres hm
      have hl := All2.length _ _ h2
      have hsz : vs'.length ≠ 1 := fun e => by
        cases ms with
        | nil => simp at hl; omega
        | cons m l => cases l with
          | nil => exact hne m rfl
          | cons _ _ => simp at hl; omega
      refine ⟨.tuple vs'.toArray, ?_, _, rfl, s.bel, ⟨_, rfl, zdv (E := ⟨_, _, τe, w'⟩) (F := en0 (fun g => A g ∨ W.heap.size ≤ g) w') rfl (fun g _ hg => hg) _ _ hcr h2⟩, hbx⟩
      rw [zfn]
      rw [Array.mapM_eq_mapM_toList]
      simp only [Sem.run_bind, Sem.run_map, h1, Result.andThen_ok, Sem.run_pure]
      simp [hsz]
    · cases hr
  cases e with
  | normal => exact fin q
  | ret => exact fin q
  | _ => exact q.elim
def rnC (nm : Nat → Nat) : Ce → Ce
  | .p b o => .p (nm b) o
  | .cl fi bs => .cl fi (bs.map nm)
  | c => c
def rnM (nm : Nat → Nat) : Cm → Cm
  | .c x => .c (rnC nm x)
  | .ag cs => .ag (cs.map (rnC nm))
def z4u : Ce → Bool
  | .p _ _ | .cl _ _ => true
  | c => zdj c
def zxa : Cm → Bool
  | .c x => z4u x
  | .ag cs => cs.all z4u
theorem z3e {E : En} {τ : Nat → Value} {nm : Nat → Nat} {U : Nat → Prop} (hτ : ∀ b, U b → E.τ (nm b) = τ b) : ∀ (c : Ce) (v : Value), z4u c = true → (∀ b ∈ idC c, U b) → (rnC nm c).R E v → c.R ⟨E.A, U, τ, E.w⟩ v
  | .v x, v, _, _, h => h
  | .s n k xs, v, _, _, h => h
  | .q xs, v, _, _, h => h
  | .any, _, _, _, _ => trivial
  | .p b off, v, _, hu, ⟨_, g, h1, h2⟩ => ⟨hu b (by simp [idC]), g, (hτ b (hu b (by simp [idC]))).symm.trans h1, h2⟩
  | .cl fi bs, v, _, hu, ⟨h1, h2⟩ => ⟨by
      have e : bs.map (E.τ ∘ nm) = bs.map τ := List.map_congr_left (fun b hb => hτ b (hu b hb))
      rw [h1, List.map_map, e], fun b hb => hu b hb⟩
  | .o _, _, h, _, _ | .rp _ _, _, h, _, _ | .f _ _ _, _, h, _, _ | .bs _ _ _, _, h, _, _ => by cases h
theorem z3f {E : En} {τ : Nat → Value} {nm : Nat → Nat} {U : Nat → Prop} (hτ : ∀ b, U b → E.τ (nm b) = τ b) : ∀ (cs : List Ce) (vs : List Value), cs.all z4u = true → (∀ b ∈ cs.flatMap idC, U b) → All2 (Ce.R E) (cs.map (rnC nm)) vs → All2 (Ce.R ⟨E.A, U, τ, E.w⟩) cs vs
  | [], [], _, _, _ => trivial
  | c :: cs, v :: vs, h, hu, k => by
    simp only [List.all_cons, Bool.and_eq_true] at h
    exact ⟨z3e hτ c v h.1 (fun b hb => hu b (by rw [List.flatMap_cons]; exact List.mem_append_left _ hb)) k.1, z3f hτ cs vs h.2 (fun b hb => hu b (by rw [List.flatMap_cons]; exact List.mem_append_right _ hb)) k.2⟩
  | [], _ :: _, _, _, k => k.elim
  | _ :: _, [], _, _, k => k.elim
theorem z5g {E : En} {τ : Nat → Value} {nm : Nat → Nat} {U : Nat → Prop} (hτ : ∀ b, U b → E.τ (nm b) = τ b) : ∀ (c : Cm) (v : Value), zxa c = true → (∀ b ∈ idM c, U b) → (rnM nm c).R E v → c.R ⟨E.A, U, τ, E.w⟩ v
  | .c x, v, h, hu, k => z3e hτ x v h hu k
  | .ag cs, v, h, hu, ⟨vs, e, k⟩ => ⟨vs, e, z3f hτ cs _ h hu k⟩
theorem zyx {E : En} {τ : Nat → Value} {nm : Nat → Nat} {U : Nat → Prop} (hτ : ∀ b, U b → E.τ (nm b) = τ b) : ∀ (cs : List Cm) (vs : List Value), cs.all zxa = true → (∀ b ∈ cs.flatMap idM, U b) → All2 (Cm.R E) (cs.map (rnM nm)) vs → All2 (Cm.R ⟨E.A, U, τ, E.w⟩) cs vs
  | [], [], _, _, _ => trivial
  | c :: cs, v :: vs, h, hu, k => by
    simp only [List.all_cons, Bool.and_eq_true] at h
    exact ⟨z5g hτ c v h.1 (fun b hb => hu b (by rw [List.flatMap_cons]; exact List.mem_append_left _ hb)) k.1, zyx hτ cs vs h.2 (fun b hb => hu b (by rw [List.flatMap_cons]; exact List.mem_append_right _ hb)) k.2⟩
  | [], _ :: _, _, _, k => k.elim
  | _ :: _, [], _, _, k => k.elim
def upB (nm : Nat → Nat) (bs : List Ln) : List (Nat × Hs) := bs.map fun p => (nm p.1, .live (.box p.2.2))
theorem zgq {nm : Nat → Nat} (h : Nat → Hs) : ∀ (bs : List Ln) (b : Nat), (∃ p ∈ bs, nm p.1 = b ∧ upd (upB nm bs) h b = .live (.box p.2.2)) ∨ ((∀ p ∈ bs, nm p.1 ≠ b) ∧ upd (upB nm bs) h b = h b)
  | [], b => .inr ⟨fun p hp => (by cases hp), rfl⟩
  | p :: bs, b => by
    show (∃ q ∈ p :: bs, nm q.1 = b ∧ cond (Nat.beq b (nm p.1)) (Hs.live (.box p.2.2)) (upd (upB nm bs) h b) = .live (.box q.2.2)) ∨ ((∀ q ∈ p :: bs, nm q.1 ≠ b) ∧ cond (Nat.beq b (nm p.1)) (Hs.live (.box p.2.2)) (upd (upB nm bs) h b) = h b)
    cases e : Nat.beq b (nm p.1) with
    | true => exact .inl ⟨p, by simp, (Nat.eq_of_beq_eq_true e).symm, rfl⟩
    | false =>
      have hne : nm p.1 ≠ b := fun e' => by rw [← e', Nat.beq_refl] at e; cases e
      rcases zgq (nm := nm) h bs b with ⟨q, h1, h2, h3⟩ | ⟨h1, h2⟩
      · exact .inl ⟨q, List.mem_cons_of_mem _ h1, h2, h3⟩
      · refine .inr ⟨fun q hq => ?_, h2⟩
        rcases List.mem_cons.1 hq with rfl | hq
        · exact hne
        · exact h1 q hq
def injB (nm : Nat → Nat) (bs : List Ln) : Bool := bs.all fun p => bs.all fun q => Nat.beq p.1 q.1 || !Nat.beq (nm p.1) (nm q.1)
theorem zsd {k : FuncId} {bs : List Ln} {nm : Nat → Nat} {args : List Cm} {r : AV} {vals : Array Value} {τ : Nat → Value} {a : Act} {w : World} (hS : SimT X S τ a w) (hc : zdx P X.G k bs args r) (hb : ∀ p ∈ bs, S.hp (nm p.1) = .live (.box p.2.1)) (hin : injB nm bs = true)
    (hok : args.all zxa = true) (hR : All2 (Cm.R (env X S.hp τ w)) (args.map (rnM nm)) vals.toList) {d : Option Tmp} {rd : List Rd} :
    Calls P k vals w fun e w' => ∃ v, e = .returned v ∧ SimT X (S.app d ⟨r, upB nm bs, rd⟩) τ (a.put d v) w' := by
  obtain ⟨c1, c2, hc⟩ := hc
  simp only [Bool.and_eq_true, List.all_eq_true] at c1
  obtain ⟨c1, c3⟩ := c1
  have c3 : ∀ p ∈ bs, p.2.1.all zdj = true ∧ p.2.2.all zdj = true := fun p hp => by
    have := c3 p hp
    exact ⟨List.all_eq_true.2 this.1, List.all_eq_true.2 this.2⟩
  have hinj : ∀ p ∈ bs, ∀ q ∈ bs, p.1 ≠ q.1 → nm p.1 ≠ nm q.1 := fun p hp q hq hne e => by
    have := List.all_eq_true.1 (List.all_eq_true.1 hin p hp) q hq
    rw [e, Nat.beq_refl] at this
    simp at this
    exact hne this
  have hal : ∀ p ∈ bs, zcd S.hp (nm p.1) := fun p hp => ⟨_, hb p hp⟩
  have hlent : ∀ g, z0h (fun b => τ (nm b)) bs g → ∃ b, zcd S.hp b ∧ occ (τ b) = some g := fun g ⟨p, hp, e⟩ => ⟨_, hal p hp, e⟩
  refine (hc (alw X S.hp τ) w (fun b => τ (nm b)) vals (fun w' hk => X.hG w' (hS.bel.trans (hk.mono fun g hg => ⟨Nat.lt_of_lt_of_le (X.hK g hg) hS.bel.size, fun hl => by
      obtain ⟨b, h1, h2⟩ := hlent g hl
      exact (hS.own b g h1 h2).1 hg⟩))) (fun p hp => ?_) (fun p hp q hq hne g ho => hS.sep _ _ g (hinj p hp q hq hne) (hal p hp) (hal q hq) ho) ?_).mono ?_
  · obtain ⟨g, us, e1, e2, e3⟩ := hS.hp _ _ (hb p hp)
    exact ⟨g, us, e1, e2, zfm (E := env X S.hp τ w) (F := en0 (alw X S.hp τ) w) rfl (fun _ _ h => h) _ _ (c3 p hp).1 e3, fun hA => hA.2 _ (hal p hp) (by rw [e1]; rfl)⟩
  · refine zyx (E := env X S.hp τ w) (nm := nm) (U := fun b => ∃ p ∈ bs, p.1 = b) (fun b _ => rfl) _ _ hok (fun b hb' => ?_) hR
    obtain ⟨p, hp, e⟩ := List.any_eq_true.1 (List.all_eq_true.1 c2 b hb')
    exact ⟨p, hp, Nat.eq_of_beq_eq_true e⟩
  rintro e w' ⟨v, rfl, hk, hr, hbx⟩
  refine ⟨v, rfl, ?_⟩
  have hal' : ∀ b, zcd (upd (upB nm bs) S.hp) b → zcd S.hp b := fun b ⟨q, hq⟩ => by
    rcases zgq (nm := nm) S.hp bs b with ⟨p, h1, rfl, _⟩ | ⟨_, h2⟩
    · exact hal p h1
    · rw [h2] at hq; exact ⟨q, hq⟩
  have hbel : Kept X.K X.W0 w' := hS.bel.trans (hk.mono fun g hg => ⟨Nat.lt_of_lt_of_le (X.hK g hg) hS.bel.size, fun hl => by
      obtain ⟨b, h1, h2⟩ := hlent g hl
      exact (hS.own b g h1 h2).1 hg⟩)
  have hle : (env X S.hp τ w).le (env X (upd (upB nm bs) S.hp) τ w') := by
    refine ⟨fun i hi => ⟨?_, rfl⟩, fun g _ ha => ⟨ha.1, fun i hi => ha.2 i (hal' i hi)⟩, hk.size, fun g o hg ha => hk.cell (p := ⟨g, o, none⟩) ⟨hg, fun hl => ?_⟩⟩
    · show upd (upB nm bs) S.hp i ≠ .fresh
      rcases zgq (nm := nm) S.hp bs i with ⟨p, h1, rfl, h3⟩ | ⟨_, h2⟩
      · rw [h3]; intro e; cases e
      · rw [h2]; exact hi
    · obtain ⟨b, h1, h2⟩ := hlent g hl
      exact ha.2 b h1 h2
  have hA' : ∀ g, g < w'.heap.size → (alw X S.hp τ g ∨ w.heap.size ≤ g) → alw X (upd (upB nm bs) S.hp) τ g := fun g _ hg => by
    rcases hg with hg | hg
    · exact ⟨hg.1, fun i hi => hg.2 i (hal' i hi)⟩
    · exact ⟨.inr (Nat.le_trans hS.bsz hg), fun i hi he => by have := (hS.own i g (hal' i hi) he).2; omega⟩
  refine hS.turn (u := upB nm bs) hle hbel (fun i q hq => ?_) (fun i g hi ho => ?_) (fun i j g hij hi hj ho => hS.sep i j g hij (hal' i hi) (hal' j hj) ho) hS.one ?_
  · rcases zgq (nm := nm) S.hp bs i with ⟨p, h1, rfl, h3⟩ | ⟨h1, h2⟩
    · rw [h3] at hq; cases hq
      obtain ⟨g, us, e1, e2, e3⟩ := hbx p h1
      exact ⟨g, us, e1, e2, zfm (E := en0 (fun g => alw X S.hp τ g ∨ w.heap.size ≤ g) w') (F := env X (upd (upB nm bs) S.hp) τ w') rfl (fun g hg h => hA' g hg h) _ _ (c3 p h1).2 e3⟩
    · rw [h2] at hq
      have hfar : ∀ g, occ (τ i) = some g → w'.heap[g]? = w.heap[g]? := fun g ho => hk.block g ⟨(hS.own i g ⟨q, hq⟩ ho).2, fun ⟨p, hp, e⟩ => hS.sep _ _ g (h1 p hp) (hal p hp) ⟨q, hq⟩ e ho⟩
      have hk' := hS.hp i q hq
      cases q with
      | box cs' =>
        obtain ⟨g', vs', x1, ⟨T', x2⟩, x3⟩ := hk'
        exact ⟨g', vs', x1, ⟨T', (hfar g' (by rw [x1]; rfl)).trans x2⟩, All2.mono (zb5 hle) _ _ x3⟩
      | row e' k' n' xs' =>
        obtain ⟨x0, x1⟩ := hk'
        refine ⟨x0, ?_⟩
        rcases x1 with x1 | ⟨g', cap, cur, y1, y2, y3, y4⟩
        · exact .inl x1
        · exact .inr ⟨g', cap, cur, y1, y2, (hfar g' (by rw [y1]; rfl)).trans y3, y4⟩
  · have := hS.own i g (hal' i hi) ho
    exact ⟨this.1, Nat.lt_of_lt_of_le this.2 hk.size⟩
  · exact zk7 (E := en0 (fun g => alw X S.hp τ g ∨ w.heap.size ≤ g) w') (F := env X (upd (upB nm bs) S.hp) τ w') rfl hA' _ _ c1 hr
def AtB (S : St) (nm : Nat → Nat) : List Ln → Prop
  | [] => True
  | p :: l => S.hp (nm p.1) = .live (.box p.2.1) ∧ AtB S nm l
theorem AtB.mem {S : St} {nm : Nat → Nat} : ∀ {l : List Ln}, AtB S nm l → ∀ p ∈ l, S.hp (nm p.1) = .live (.box p.2.1)
  | q :: l, h, p, hp => by
    rcases List.mem_cons.1 hp with rfl | hp
    · exact h.1
    · exact AtB.mem h.2 p hp
theorem zbx {k : FuncId} {t : Tmp} {cap : List Nat} {xs : Array Operand} {ts : Array TypeId} {bs : List Ln} (nm : Nat → Nat) {args : List Cm} {l : List Cm} {r : AV} (hc : zdx P X.G k bs args r) (ho : o.op = .call { callee := .value (.tmp t), args := xs, argTypes := ts }) (hw : zam ops S o = true) (hf : S.tm t = .m (.c (.cl k cap))) (hk : zdq P k = true) (hl : zk8 S xs.toList = some l)
    (hlc : l ++ cap.map (fun b => .c (.p b 0)) = args.map (rnM nm)) (hb : AtB S nm bs) (hin : (injB nm bs && args.all zxa && cap.all fun b => bs.any fun p => Nat.beq (nm p.1) b) = true) (h9 : Nat.ble k 999999 = true := by rfl) : za4 P ops X o S ⟨r, upB nm bs, []⟩ := fun S2 a w h1 h2 h3 ⟨τ, hS⟩ => by
  refine .inl ⟨zbu hw h1 h3 hS, ?_⟩
  simp only [Bool.and_eq_true] at hin
  have hb2 : ∀ p ∈ bs, S2.hp (nm p.1) = .live (.box p.2.1) := fun p hp => Eq.trans (h2 (.all (nm p.1)) (by
      simp only [Ef.foot, List.nil_append, List.mem_map]
      exact ⟨(nm p.1, .live (.box p.2.2)), List.mem_map.2 ⟨p, hp, rfl⟩, rfl⟩)) (hb.mem p hp)
  have hmt : Operand.tmp t ∈ o.op.operands := by rw [ho]; simp [Op.operands, Call.operands]
  have hfv : (Ce.cl k cap).R (env X S2.hp τ w) (a.eval (.tmp t)) := by
    have := hS.ev (.tmp t) (fun t' e => h3 t' (.inl (zbv (e ▸ hmt))))
    rw [zb7 h1 hmt] at this
    rw [show S.ev (.tmp t) = S.tm t from rfl, hf] at this
    exact this
  obtain ⟨hfv, hU⟩ := hfv
  unfold clV at hfv
  rw [h9] at hfv
  have hfv : a.eval (.tmp t) = .func (.func k) #[] (cap.map τ).toArray := hfv
  have hrun : (execOp a.eval o).run P w = .ok (.enter k (xs.map a.eval ++ (cap.map τ).toArray)) w := by
    unfold zdq at hk
    split at hk
    · rename_i fn hfn
      simp only [Bool.and_eq_true, Bool.not_eq_true'] at hk
      obtain ⟨k1, k2⟩ := hk
      have k2 : ¬ fn.name = "runtime.NumGoroutine" := by simpa using k2
      have k3 : ¬ fn.body = none := by intro e; rw [e] at k1; cases k1
      simp [execOp, ho, resolve, hfv, Deferred.ofValue, invoke, callFunc, hfn, k2, k3, env]
    · cases hk
  rw [hrun]
  have hR := zhb (S := S) (E := env X S2.hp τ w) (a := a) xs.toList _ hl (fun x hx => by
    have hm : x ∈ o.op.operands := by rw [ho]; simp [Op.operands, Call.operands]; exact .inr (by simpa using hx)
    rw [← zb7 h1 hm]; exact hS.ev x (fun t e => h3 t (.inl (zbv (e ▸ hm)))))
  have hcap : ∀ (l : List Nat), (∀ b ∈ l, b ∈ cap) → All2 (Cm.R (env X S2.hp τ w)) (l.map fun b => .c (.p b 0)) (l.map τ) := by
    intro l
    induction l with
    | nil => intro _; trivial
    | cons b l ih =>
      intro h
      refine ⟨?_, ih fun c hc => h c (List.mem_cons_of_mem _ hc)⟩
      have hbm := h b (by simp)
      obtain ⟨p, hp, e⟩ := List.any_eq_true.1 (List.all_eq_true.1 hin.2 b hbm)
      obtain rfl := Nat.eq_of_beq_eq_true e
      obtain ⟨g, us, e1, _⟩ := hS.hp _ _ (hb2 p hp)
      exact ⟨hU _ hbm, g, e1, e1⟩
  refine (zsd (d := o.dst) (rd := []) hS hc hb2 hin.1.1 hin.1.2 ?_).mono ?_
  · rw [← hlc]
    have : (xs.map a.eval ++ (cap.map τ).toArray).toList = (xs.map a.eval).toList ++ cap.map τ := by simp
    rw [this]
    exact All2.append _ _ _ _ (by simpa using hR) (hcap cap (fun _ h => h))
  · rintro e w' ⟨v, rfl, hS'⟩
    exact ⟨v, rfl, τ, hS'⟩
end Go.Proofs.YtomeaibdedaldaaGreatDoor.Ax
namespace Go.Proofs.YtomeaibdedaldaaGreatDoor.Ax
open Go.RowKit MemL RegR
section
variable {P : Program} {ops : Array Oper} {X : Cx} {o : Oper} {S : St}
def z3g (S : St) : List Operand → Option (List Nat)
  | [] => some []
  | x :: r => match S.ev x, z3g S r with
    | .m (.c (.p b 0)), some l => some (b :: l)
    | _, _ => none
theorem zyy {τ : Nat → Value} {h : Nat → Hs} {w : World} {a : Act} : ∀ (l : List Operand) (bs : List Nat), z3g S l = some bs → (∀ x ∈ l, (S.ev x).R (env X h τ w) (a.eval x)) → l.map a.eval = bs.map τ ∧ ∀ b ∈ bs, h b ≠ .fresh
  | [], bs, e, _ => by simp only [z3g, Option.some.injEq] at e; subst e; exact ⟨rfl, fun b hb => (by cases hb)⟩
  | x :: r, bs, e, hR => by
    simp only [z3g] at e
    split at e
    · rename_i b l hx hl
      cases e
      obtain ⟨i1, i2⟩ := zyy r l hl (fun y hy => hR y (List.mem_cons_of_mem _ hy))
      have := hR x (by simp)
      rw [hx] at this
      obtain ⟨h0, g, e1, e2⟩ := this
      have e1 : τ b = .pointer (some ⟨g, 0, none⟩) := e1
      refine ⟨?_, fun c hc => ?_⟩
      · rw [List.map_cons, List.map_cons, i1, e2, e1]
      · rcases List.mem_cons.1 hc with rfl | hc
        · exact h0
        · exact i2 c hc
    · cases e
theorem zse {fi : FuncId} {cs : Array Operand} {bs : List Nat} (ho : o.op = .makeFunc (.func fi) #[] cs) (hw : zam ops S o = true) (hl : z3g S cs.toList = some bs) (h9 : Nat.ble fi 999999 = true := by rfl) : za4 P ops X o S ⟨.m (.c (.cl fi bs)), [], []⟩ :=
  za2 [] hw fun S2 τ a w h _ hS => by
    obtain ⟨i1, i2⟩ := zyy (X := X) (τ := τ) (h := S2.hp) (w := w) (a := a) cs.toList bs hl (fun x hx => h x (by rw [ho]; simpa [Op.operands] using hx))
    refine ⟨.func (.func fi) #[] (bs.map τ).toArray, ?_, by unfold clV; rw [h9]; rfl, i2⟩
    have : cs.map a.eval = (bs.map τ).toArray := by rw [← i1, ← Array.toList_inj, Array.toList_map]
    simp [execOp, ho, Instr.makeFunc, this]
theorem zj5 {t el len k b : Nat} {parts : Array (Nat × Operand)} {l : List (Nat × Cm)} {z cs : List Ce} (ho : o.op = .buildSlice t len parts) (hd : o.dst = some b) (hw : zam ops S o = true) (hf : S.hp b = .fresh) (hl : zi1 S parts.toList = some l)
    (hu : P.underlying t = some (.slice el)) (hk : zd1 P el = some k) (hz : zqe P el len k = some z) (hc : zj1 (fun i => some (i * k, k)) z l = some cs) (hsm : (Nat.ble (len * k) 16777216 && Nat.ble 1 (len * k)) = true) :
    za4 P ops X o S ⟨.m (.c (.bs b 0 len)), [(b, .live (.box cs))], []⟩ := fun S2 a w h1 h2 h3 ⟨τ, hS⟩ => by
  refine .inl ⟨zbu hw h1 h3 hS, ?_⟩
  have get : ∀ z ∈ o.op.operands, (S.ev z).R (env X S2.hp τ w) (a.eval z) := fun z hz => by rw [← zb7 h1 hz]; exact hS.ev z (fun t e => h3 t (.inl (zbv (e ▸ hz))))
  have hR := zh6 (S := S) (E := env X S2.hp τ w) (a := a) parts.toList l hl (fun p hp => get p.2 (by rw [ho]; simp [Op.operands]; exact ⟨p.1, by simpa using hp⟩))
  unfold zqe at hz
  obtain ⟨zv, hzv, rfl⟩ := Option.map_eq_some_iff.1 hz
  obtain ⟨ie, hie, hz0⟩ := Option.bind_eq_some_iff.1 hzv
  have hk' : ie.size = k := by unfold zd1 at hk; rw [hie] at hk; simpa using hk
  subst hk'
  simp only [Bool.and_eq_true] at hsm
  have s1 := Nat.le_of_ble_eq_true hsm.1
  have s2 := Nat.le_of_ble_eq_true hsm.2
  have hzR : All2 (Ce.R (env X S2.hp τ w)) (((List.range (len * ie.size)).map (fun i => zv.cells[i % zv.cells.size]!)).map .v) ((Array.range (len * ie.size)).map (zv.cells[· % zv.cells.size]!)).toList := by
    have : ((Array.range (len * ie.size)).map (zv.cells[· % zv.cells.size]!)).toList = (List.range (len * ie.size)).map (fun i => zv.cells[i % zv.cells.size]!) := by simp
    rw [this]
    exact All2.of_map (R := Ce.R _) Ce.v (fun _ => rfl) _
  obtain ⟨cur, hf', hcR⟩ := zk6 (E := env X S2.hp τ w) hS.one _ l _ _ cs _ hR hzR hc
  have hrun := run_buildSlice w t el len (parts.map fun p => (p.1, a.eval p.2)) cur ie zv hu hie hz0 (by omega) (by omega) (by simpa using hf')
  have hrun' : (execOp a.eval o).run P w = .ok (.value (.slice (some ⟨w.heap.size, 0, none⟩) len len)) (w.alloc (.cells cur el)) := by
    simp only [execOp, ho, hrun, Sem.run_bind, Result.andThen_ok, Sem.run_pure]
  rw [hrun']
  have hf2 : S2.hp b = .fresh := Eq.trans (h2 (.all b) (by simp [Ef.foot, ze0])) hf
  refine ⟨_, hS.newb (k := .box cs) hf2 ((Below.refl _ _).alloc (Nat.le_refl _) _) (v := .pointer (some ⟨w.heap.size, 0, none⟩)) (g := w.heap.size) rfl ⟨Nat.le_refl _, by rw [World.size_alloc]; omega⟩ rfl (fun E hE hw' => ⟨w.heap.size, cur, rfl, by rw [hw']; exact Bx.new, All2.mono (zb5 hE) _ _ hcR⟩) ?_⟩
  refine ⟨?_, w.heap.size, ?_, rfl⟩
  · show upd _ _ b ≠ _; rw [zc4, if_pos rfl]; intro e; cases e
  · show zch τ b _ b = _; unfold zch; rw [if_pos rfl]
theorem zng {t el k n : Nat} {x y : Operand} {b off : Nat} {kk : IntKind} {i : Int} (ho : o.op = .indexAddr t x y) (hw : zam ops S o = true) (hx : S.ev x = .m (.c (.bs b off n))) (hy : S.ev y = .m (.c (.v (.int kk i))))
    (hu : P.underlying t = some (.slice el)) (hk : zd1 P el = some k) (h0 : 0 ≤ i) (h1 : i < n) : za4 P ops X o S ⟨.m (.c (.p b (off + i.toNat * k))), [], []⟩ :=
  za2 [] hw fun S2 τ a w h _ _ => by
    have q1 := h x (by rw [ho]; simp [Op.operands])
    have q2 := h y (by rw [ho]; simp [Op.operands])
    rw [hx] at q1; rw [hy] at q2
    obtain ⟨u0, g, e1, e2⟩ := q1
    have q2 : a.eval y = .int kk i := q2
    exact ⟨_, by simp [execOp, ho, e2, q2, zdb hu hk h0 h1], u0, g, e1, rfl⟩
theorem znh {x : Operand} {t el : TypeId} {b off n : Nat} (ho : o.op = .call { callee := .builtin .len, args := #[x], argTypes := #[t] }) (hu : P.underlying t = some (.slice el)) (hw : zam ops S o = true) (hx : S.ev x = .m (.c (.bs b off n))) : za4 P ops X o S ⟨.m (.c (.v (.int .i64 n))), [], []⟩ :=
  za2 [] hw fun S2 τ a w h _ _ => by
    have h1 := h x (by rw [ho]; simp [Op.operands, Call.operands])
    rw [hx] at h1
    obtain ⟨_, g, _, e⟩ := h1
    exact ⟨_, by simp [execOp, ho, resolve, invoke, builtin, e, Builtin.len_, goInt, run_underlying hu], rfl⟩
end
section
variable {P : Program} {X : Cx} {S : St} {Q : Exit → St → Prop}
theorem zau {l : Nat} (h : Q (.goto l) S) : Aw P X (.goto l) Q S := fun a w hs n => wpIn_goto ⟨S, h, hs⟩
theorem zap {l : Nat} (h : Q .normal S) : Aw P X (.label l) Q S := fun a w hs n => wpIn_label ⟨S, h, hs⟩
theorem zj6 {Q : Exit → Act → World → Prop} {a : Act} {w : World} {c rest : Code} (l : Nat) (J : Nat → Act → World → Prop) (hf : findLabel c l = some rest)
    (first : c.wp P (Exit.jump l (fun a w => ∃ n, J n a w) Q) a w)
    (pass : ∀ n a w, J n a w → rest.wp P (Exit.jump l (fun a' w' => ∃ n', n' < n ∧ J n' a' w') Q) a w) : (Code.scope c).wp P Q a w := by
  intro b k cs
  have hg : gotoIn l (.inScope c :: k) = some (.code rest :: .inScope c :: k) := by simp [gotoIn, hf]
  have key : ∀ n a w, J n a w → ∃ e a' w', Q e a' w' ∧ Arrives P (lone (b.at a (.code rest :: .inScope c :: k)) cs w) b k cs e a' w' := by
    intro n
    induction n using Nat.strongRecOn with
    | _ n ih =>
      intro a w hJ
      obtain ⟨e, a1, w1, hq, harr⟩ := pass n a w hJ b (.inScope c :: k) cs
      cases e with
      | goto l' =>
        obtain ⟨rfl, n', hlt, hJ'⟩ := hq
        obtain ⟨e2, a2, w2, hq2, harr2⟩ := ih n' hlt a1 w1 hJ'
        exact ⟨e2, a2, w2, hq2, .of_steps (harr _ hg) harr2⟩
      | normal => exact ⟨.normal, a1, w1, hq, Steps.trans harr (.one step_inScope)⟩
      | exit id => exact ⟨.exit id, a1, w1, hq, fun k' hk => harr k' (by simp [exitTo, hk])⟩
      | ret => exact ⟨_, a1, w1, hq, harr⟩
      | panic ch => exact ⟨_, a1, w1, hq, harr⟩
      | outgrown => exact ⟨_, a1, w1, hq, harr⟩
  obtain ⟨e, a1, w1, hq, harr⟩ := first b (.inScope c :: k) cs
  cases e with
  | goto l' =>
    obtain ⟨rfl, n, hJ'⟩ := hq
    obtain ⟨e2, a2, w2, hq2, harr2⟩ := key n a1 w1 hJ'
    exact ⟨e2, a2, w2, hq2, .of_steps (.head step_scope (harr _ hg)) harr2⟩
  | normal => exact ⟨.normal, a1, w1, hq, .head step_scope (Steps.trans harr (.one step_inScope))⟩
  | exit id => exact ⟨.exit id, a1, w1, hq, fun k' hk => .head step_scope (harr k' (by simp [exitTo, hk]))⟩
  | ret => exact ⟨_, a1, w1, hq, .of_steps (.one step_scope) harr⟩
  | panic ch => exact ⟨_, a1, w1, hq, .of_steps (.one step_scope) harr⟩
  | outgrown => exact ⟨_, a1, w1, hq, .of_steps (.one step_scope) harr⟩
def z0i (l : Nat) (J : St → Prop) (Q : Exit → St → Prop) : Exit → St → Prop
  | .goto l', S => l' = l ∧ J S
  | e, S => Q e S
theorem zxb {c : Code} (hr : X.rd = none) (h : Aw P X c Q S) {a : Act} {w : World} (hs : Sim X S a w) : c.wp P (fun e a' w' => ∃ S', Q e S' ∧ Sim X S' a' w') a w := by
  have := h a w hs 0
  rw [zlb hr] at this
  exact wpIn_wide.1 this
theorem zuj {α : Type} {c rest : Code} (l : Nat) (hf : findLabel c l = some rest) (F : α → Prop) (H : α → St) (μ : α → Nat) (first : Aw P X c (z0i l (fun S' => ∃ p, F p ∧ Sub X S' (H p)) Q) S)
    (pass : ∀ p, F p → Aw P X rest (z0i l (fun S' => ∃ p', F p' ∧ μ p' < μ p ∧ Sub X S' (H p')) Q) (H p)) (hr : X.rd = none := by rfl) : Aw P X (.scope c) Q S := fun a w hs m => by
  rw [zlb hr]
  refine wpIn_wide.2 (zj6 l (fun n a w => ∃ p, F p ∧ μ p = n ∧ Sim X (H p) a w) hf (wp_mono (zxb hr first hs) fun e a' w' ⟨S', q, s⟩ => ?_) fun n a w ⟨p, hp, hn, hs⟩ => wp_mono (zxb hr (pass p hp) hs) fun e a' w' ⟨S', q, s⟩ => ?_)
  · cases e with
    | goto l' => obtain ⟨rfl, p, hp, hsub⟩ := q; exact ⟨rfl, μ p, p, hp, rfl, hsub a' w' s⟩
    | _ => exact ⟨S', q, s⟩
  · cases e with
    | goto l' => obtain ⟨rfl, p', hp', hlt, hsub⟩ := q; exact ⟨rfl, μ p', by omega, p', hp', rfl, hsub a' w' s⟩
    | _ => exact ⟨S', q, s⟩
theorem zuk {α : Type} {x body : Code} (l : Nat) (hx : findLabel x l = none) (F : α → Prop) (H : α → St) (μ : α → Nat) (p0 : α) (hp0 : F p0)
    (zm0 : Aw P X x (zk9 (fun S' => Sub X S' (H p0)) (fun _ _ => False)) S)
    (pass : ∀ p, F p → Aw P X body (z0i l (fun S' => ∃ p', F p' ∧ μ p' < μ p ∧ Sub X S' (H p')) Q) (H p)) (hr : X.rd = none := by rfl) : Aw P X (.scope (.seq x (.seq (.label l) body))) Q S := by
  refine zuj l (rest := .seq .skip body) (by simp [findLabel, hx]) F H μ ?_ (fun p hp => zqb (zai (pass p hp))) hr
  refine zqb (zot zm0 fun e S'' q' => ?_)
  cases e with
  | normal =>
    refine zqb (zap ?_)
    refine zci q' (zot (pass p0 hp0) fun e S3 q3 => ?_)
    cases e with
    | goto l' => obtain ⟨h1, p', h2, _, h3⟩ := q3; exact ⟨h1, p', h2, h3⟩
    | _ => exact q3
  | _ => exact q'.elim
end
end Go.Proofs.YtomeaibdedaldaaGreatDoor.Ax
namespace Go.Proofs.YtomeaibdedaldaaGreatDoor.SpD
open Go.RowKit Bv VaSpec Base MemL RegR Ax MemC PutC MemC3 TzC OkS SpA SpB SpC
open BitsC PteSpec
set_option maxRecDepth 10000
set_option maxHeartbeats 1000000
def Fe.ce (f : Fe) : List Ce := [cb f.ha, cu f.ad, cb f.hs, cu f.sn]
def zE : List Ce := [cb false, cu 0, cb false, ci 0, cu 0, cu 0, cb false, cb false, cb false, cb false, cb false]
theorem zsf (a : Int) : Ok 226 [.ag zE, iu a] (.m (ib false)) := by
  refine zah 17 Tryz.func226 rfl rfl rfl rfl ?_ GG.to
  intro W A hG
  repeat (first | (refine zaj rfl ?_; first | refine zak ?_) | (refine hK _ ?_; clear hK K) | refine zac rfl ?_ | refine zas (by kernel_rfl) (by kernel_rfl) rfl ?_ | exact zaf (show zav _ _ _ = some _ by kernel_rfl) | refine zab (fun K hK => ?_))
theorem zxc (f : Fe) (h : U f.ad) : Ok 223 [.ag (Fe.ce f), .ag zE] (.m (ib (!f.ha))) := by
  obtain ⟨ha, ad, hs, sn⟩ := f
  cases ha with
  | false =>
    refine zah 19 Tryz.func223 rfl rfl rfl rfl ?_ GG.to
    intro W A hG
    repeat (first | (refine zaj rfl ?_; first | refine zak ?_) | (refine hK _ ?_; clear hK K) | refine zac rfl ?_ | exact zaf (show zav _ _ _ = some _ by kernel_rfl) | refine zab (fun K hK => ?_))
  | true =>
    cases hi : isv ad with
    | false =>
      refine zah 19 Tryz.func223 rfl rfl rfl rfl ?_ GG.to
      intro W A hG
      repeat (first | (refine zaj rfl ?_; first | refine zak ?_ | refine gdr (zaa rfl rfl rfl (hi ▸ zyu ad h) rfl) ?_) | (refine hK _ ?_; clear hK K) | refine zac rfl ?_ | exact zaf (show zav _ _ _ = some _ by kernel_rfl) | refine zab (fun K hK => ?_))
    | true =>
      refine zah 19 Tryz.func223 rfl rfl rfl rfl ?_ GG.to
      intro W A hG
      repeat (first | (refine zaj rfl ?_; first | refine zak ?_ | refine gdr (zaa rfl rfl rfl (hi ▸ zyu ad h) rfl) ?_ | refine gdr (zaa rfl rfl rfl (zsf ad) rfl) ?_) | (refine hK _ ?_; clear hK K) | refine zac rfl ?_ | exact zaf (show zav _ _ _ = some _ by kernel_rfl) | refine zab (fun K hK => ?_))
theorem zxd (f : Fe) : Ok 225 [.ag (Fe.ce f), .ag zE] (.m (ib (!f.hs || (0 == f.sn)))) := by
  obtain ⟨ha, ad, hs, sn⟩ := f
  cases hs with
  | false =>
    refine zah 20 Tryz.func225 rfl rfl rfl rfl ?_ GG.to
    intro W A hG
    repeat (first | (refine zaj rfl ?_; first | refine zak ?_) | (refine hK _ ?_; clear hK K) | refine zac rfl ?_ | exact zaf (show zav _ _ _ = some _ by kernel_rfl) | refine zab (fun K hK => ?_))
  | true =>
    refine zah 20 Tryz.func225 rfl rfl rfl rfl ?_ GG.to
    intro W A hG
    repeat (first | (refine zaj rfl ?_; first | refine zak ?_) | (refine hK _ ?_; clear hK K) | refine zac rfl ?_ | exact zaf (show zav _ _ _ = some _ by kernel_rfl) | refine zab (fun K hK => ?_))
theorem zgr (f : Fe) (h : U f.ad) : Ok 194 [.ag (Fe.ce f), .ag zE] (.m (ib false)) := by
  refine zah 21 Tryz.func194 rfl rfl rfl rfl ?_ GG.to
  intro W A hG
  obtain ⟨b, o, c, g1, g2, g3⟩ := (hG W (Below.refl _ _)).k
  have q1 : ∀ w, Kept (fun g => g < W.heap.size) W w → w.cell? ⟨2, 0, none⟩ = some (.slice (some ⟨b, o, none⟩) 2 c) := fun w hb => (hb.cell (p := ⟨2, 0, none⟩) (block_lt_of_cell g1)).trans g1
  have q2 : ∀ w, Kept (fun g => g < W.heap.size) W w → w.cell? ⟨b, o, none⟩ = some (z2n 0) := fun w hb => (hb.cell (p := ⟨b, o, none⟩) (block_lt_of_cell g2)).trans g2
  have q3 : ∀ w, Kept (fun g => g < W.heap.size) W w → w.cell? ⟨b, o + 1, none⟩ = some (z2n 1) := fun w hb => (hb.cell (p := ⟨b, o + 1, none⟩) (block_lt_of_cell g3)).trans g3
  repeat (first | (refine zaj rfl ?_; first | refine zak ?_ | refine gdr (ze3 rfl rfl rfl rfl rfl q1) ?_) | (refine hK _ ?_; clear hK K) | refine zac rfl ?_ | refine zad ?_ | refine zab (fun K hK => ?_))
  refine za3 (α := Nat) (fun i => i ≤ 2) (fun i => St.of [(2, .m (.c (.p 2 0))), (3, .m (.c (.p 3 0))), (7, .m (.c (.v (.slice (some ⟨b, o, none⟩) 2 c)))), (8, .m (ii 2)), (9, .m (ii i))] [(2, .live (.box (Fe.ce f))), (3, .live (.box zE))]) (fun i => 2 - i) 0 (by omega) (zax _ _ ⟨rfl, rfl, rfl, rfl, rfl, trivial⟩ ⟨rfl, rfl, trivial⟩ rfl) ?_
  intro i hi
  rcases (by omega : i = 0 ∨ i = 1 ∨ i = 2) with rfl | rfl | rfl
  · skip
    repeat (first | (refine zaj rfl ?_; first | refine zak ?_ | refine gdr (ze3 rfl rfl rfl rfl rfl q2) ?_ | refine gdr (zi3 rfl rfl rfl rfl rfl rfl (by omega) (by omega)) ?_ | refine gdr (zhu rfl rfl rfl rfl (zxc f h) rfl) ?_) | (refine hK _ ?_; clear hK K) | refine zac rfl ?_ | refine zag rfl rfl ?_ | refine zad ?_ | refine zai ?_ | refine zab (fun K hK => ?_))
    refine zla rfl rfl (fun hc => ?_) (fun hc => ?_)
    · skip
      repeat (first | (refine zaj rfl ?_; first | refine zak ?_) | (refine hK _ ?_; clear hK K) | refine zac rfl ?_ | exact zaf (show zav _ _ _ = some _ by kernel_rfl) | refine zab (fun K hK => ?_))
    · skip
      repeat (first | (refine zaj rfl ?_; first | refine zak ?_) | (refine hK _ ?_; clear hK K) | refine zac rfl ?_ | refine zai ?_)
      exact ⟨1, by omega, by omega, zax _ _ ⟨rfl, rfl, rfl, rfl, rfl, trivial⟩ ⟨rfl, rfl, trivial⟩ rfl⟩
  · skip
    repeat (first | (refine zaj rfl ?_; first | refine zak ?_ | refine gdr (ze3 rfl rfl rfl rfl rfl q3) ?_ | refine gdr (zi3 rfl rfl rfl rfl rfl rfl (by omega) (by omega)) ?_ | refine gdr (zhu rfl rfl rfl rfl (zxd f) rfl) ?_) | (refine hK _ ?_; clear hK K) | refine zac rfl ?_ | refine zag rfl rfl ?_ | refine zad ?_ | refine zai ?_ | refine zab (fun K hK => ?_))
    refine zla rfl rfl (fun hc => ?_) (fun hc => ?_)
    · skip
      repeat (first | (refine zaj rfl ?_; first | refine zak ?_) | (refine hK _ ?_; clear hK K) | refine zac rfl ?_ | exact zaf (show zav _ _ _ = some _ by kernel_rfl) | refine zab (fun K hK => ?_))
    · skip
      repeat (first | (refine zaj rfl ?_; first | refine zak ?_) | (refine hK _ ?_; clear hK K) | refine zac rfl ?_ | refine zai ?_)
      exact ⟨2, by omega, by omega, zax _ _ ⟨rfl, rfl, rfl, rfl, rfl, trivial⟩ ⟨rfl, rfl, trivial⟩ rfl⟩
  · skip
    repeat (first | (refine zaj rfl ?_; first | refine zak ?_) | (refine hK _ ?_; clear hK K) | (rename_i K1 hK1; refine hK1 _ ?_; clear hK hK1; clear K) | refine zac rfl ?_ | exact zaf (show zav _ _ _ = some _ by kernel_rfl) | refine zae rfl rfl ?_ | refine zan ?_ | refine zab (fun K hK => ?_))
def zEv : List Value := [.bool false, .int .u64 0, .bool false, .int .i64 0, .int .u64 0, .int .u64 0, .bool false, .bool false, .bool false, .bool false, .bool false]
def zS : List Value := zEv ++ zEv ++ zEv ++ zEv ++ [.int .u8 0]
def zsL (n : Nat) : List Value := (List.replicate n ()).flatMap (fun _ => zS)
theorem zul (n k : Nat) (h : k < n) : ((zsL n).drop (k * 45)).take 45 = [.bool false, .int .u64 0, .bool false, .int .i64 0, .int .u64 0, .int .u64 0, .bool false, .bool false, .bool false, .bool false, .bool false, .bool false, .int .u64 0, .bool false, .int .i64 0, .int .u64 0, .int .u64 0, .bool false, .bool false, .bool false, .bool false, .bool false, .bool false, .int .u64 0, .bool false, .int .i64 0, .int .u64 0, .int .u64 0, .bool false, .bool false, .bool false, .bool false, .bool false, .bool false, .int .u64 0, .bool false, .int .i64 0, .int .u64 0, .int .u64 0, .bool false, .bool false, .bool false, .bool false, .bool false, .int .u8 0] :=
  zd7 (fun _ => zS) 45 (fun _ => rfl) (List.replicate n ()) k () (by rw [List.getElem?_replicate, if_pos h])
theorem zum (n : Nat) : (zsL n).all (·.oneCell') = true := by
  rw [List.all_eq_true]
  intro v hv
  obtain ⟨_, _, hv⟩ := List.mem_flatMap.1 hv
  exact List.all_eq_true.1 (show zS.all (·.oneCell') = true from rfl) v hv
def zs44 : List Ce := (zEv ++ zEv ++ zEv ++ zEv).map .v
theorem z3h (f : Fe) (h : U f.ad) (n : Nat) (hn : n ≤ 16) : Ok 178 [.ag [.s n 45 (zsL n)], .ag (Fe.ce f)] (.m (.ag [.s n 45 (zsL n)])) := by
  refine zah 40 Tryz.func178 rfl rfl rfl rfl ?_ GG.to
  intro W A hG
  repeat (first | (refine zaj rfl ?_; first | refine zak ?_) | (refine hK _ ?_; clear hK K) | refine zac rfl ?_ | refine zad ?_ | refine zab (fun K hK => ?_))
  refine za3 (α := Nat) (fun k => k ≤ n) (fun k => St.of [(2, .m (.c (.p 2 0))), (3, .m (.c (.p 3 0))), (4, .m (.c (.p 4 0))), (10, .m (.c (.s n 45 (zsL n)))), (11, .m (ii n)), (12, .m (ii k))] [(2, .live (.box [.s n 45 (zsL n)])), (3, .live (.box (Fe.ce f))), (4, .live (.box [.v (.slice none 0 0)]))]) (fun k => n - k) 0 (by omega) (zax _ _ ⟨rfl, rfl, rfl, rfl, rfl, rfl, trivial⟩ ⟨rfl, rfl, rfl, trivial⟩ rfl) ?_
  intro k hk
  by_cases hlt : k < n
  · have hx := zul n k hlt
    repeat (first | (refine zaj rfl ?_; first | refine zak ?_) | (refine hK _ ?_; clear hK K) | refine zac rfl ?_ | refine zag rfl rfl ?_ | refine zad ?_ | refine zai ?_ | refine zab (fun K hK => ?_))
    refine za3 (α := Nat) (fun w => w ≤ 4) (fun w => St.of [(2, .m (.c (.p 2 0))), (3, .m (.c (.p 3 0))), (4, .m (.c (.p 4 0))), (10, .m (.c (.s n 45 (zsL n)))), (11, .m (ii n)), (12, .m (ii k)), (18, .m (.ag zs44)), (19, .m (ii w))] [(2, .live (.box [.s n 45 (zsL n)])), (3, .live (.box (Fe.ce f))), (4, .live (.box [.v (.slice none 0 0)]))]) (fun w => 4 - w) 0 (by omega) (zax _ _ ⟨rfl, rfl, rfl, rfl, rfl, rfl, rfl, rfl, trivial⟩ ⟨rfl, rfl, rfl, trivial⟩ rfl) ?_
    intro w hw
    rcases (by omega : w = 0 ∨ w = 1 ∨ w = 2 ∨ w = 3 ∨ w = 4) with rfl | rfl | rfl | rfl | rfl
    · skip
      repeat (first | (refine zaj rfl ?_; first | refine zak ?_ | refine gdr (zaa rfl rfl rfl (zgr f h) rfl) ?_) | (refine hK _ ?_; clear hK K) | refine zac rfl ?_ | refine zag rfl rfl ?_ | refine zae rfl rfl ?_ | refine zad ?_ | refine zai ?_ | refine zab (fun K hK => ?_))
      exact ⟨1, by omega, by omega, zax _ _ ⟨rfl, rfl, rfl, rfl, rfl, rfl, rfl, rfl, trivial⟩ ⟨rfl, rfl, rfl, trivial⟩ rfl⟩
    · skip
      repeat (first | (refine zaj rfl ?_; first | refine zak ?_ | refine gdr (zaa rfl rfl rfl (zgr f h) rfl) ?_) | (refine hK _ ?_; clear hK K) | refine zac rfl ?_ | refine zag rfl rfl ?_ | refine zae rfl rfl ?_ | refine zad ?_ | refine zai ?_ | refine zab (fun K hK => ?_))
      exact ⟨2, by omega, by omega, zax _ _ ⟨rfl, rfl, rfl, rfl, rfl, rfl, rfl, rfl, trivial⟩ ⟨rfl, rfl, rfl, trivial⟩ rfl⟩
    · skip
      repeat (first | (refine zaj rfl ?_; first | refine zak ?_ | refine gdr (zaa rfl rfl rfl (zgr f h) rfl) ?_) | (refine hK _ ?_; clear hK K) | refine zac rfl ?_ | refine zag rfl rfl ?_ | refine zae rfl rfl ?_ | refine zad ?_ | refine zai ?_ | refine zab (fun K hK => ?_))
      exact ⟨3, by omega, by omega, zax _ _ ⟨rfl, rfl, rfl, rfl, rfl, rfl, rfl, rfl, trivial⟩ ⟨rfl, rfl, rfl, trivial⟩ rfl⟩
    · skip
      repeat (first | (refine zaj rfl ?_; first | refine zak ?_ | refine gdr (zaa rfl rfl rfl (zgr f h) rfl) ?_) | (refine hK _ ?_; clear hK K) | refine zac rfl ?_ | refine zag rfl rfl ?_ | refine zae rfl rfl ?_ | refine zad ?_ | refine zai ?_ | refine zab (fun K hK => ?_))
      exact ⟨4, by omega, by omega, zax _ _ ⟨rfl, rfl, rfl, rfl, rfl, rfl, rfl, rfl, trivial⟩ ⟨rfl, rfl, rfl, trivial⟩ rfl⟩
    · skip
      repeat (first | (refine zaj rfl ?_; first | refine zak ?_) | (refine hK _ ?_; clear hK K) | (rename_i K1 hK1; refine hK1 _ ?_; clear hK hK1; clear K) | refine zac rfl ?_ | refine zae rfl rfl ?_ | refine zan ?_ | refine zab (fun K hK => ?_))
      exact ⟨k + 1, by omega, by omega, zax _ _ ⟨rfl, rfl, rfl, rfl, rfl, rfl, trivial⟩ ⟨rfl, rfl, rfl, trivial⟩ rfl⟩
  · skip
    repeat (first | (refine zaj rfl ?_; first | refine zak ?_ | refine gdr (zc5 rfl rfl rfl rfl rfl rfl rfl rfl rfl rfl rfl rfl (zum n) (by omega)) ?_) | (refine hK _ ?_; clear hK K) | (rename_i K1 hK1; refine hK1 _ ?_; clear hK hK1; clear K) | refine zac rfl ?_ | exact zaf (show zav _ _ _ = some _ by kernel_rfl) | refine zae rfl rfl ?_ | refine zan ?_ | refine zab (fun K hK => ?_))
theorem zpj (l : List Fe) : (flF l).all (·.oneCell') = true := by
  rw [List.all_eq_true]
  intro v hv
  obtain ⟨f, _, hv⟩ := List.mem_flatMap.1 hv
  exact List.all_eq_true.1 (show f.vs.all (·.oneCell') = true from rfl) v hv
theorem zun {l : List Fe} {k : Nat} {f : Fe} (h : l[k]? = some f) : ((flF l).drop (k * 4)).take 4 = [.bool f.ha, .int .u64 f.ad, .bool f.hs, .int .u64 f.sn] := zd7 Fe.vs 4 (fun _ => rfl) l _ f h
theorem z0j (l : List Fe) (h : ∀ f ∈ l, U f.ad) (hl : l.length ≤ 1000000) (n : Nat) (hn : n ≤ 16) : Ok 143 [.ag [.s n 45 (zsL n)], .c (.s l.length 4 (flF l))] (.m (.ag [.s n 45 (zsL n)])) := by
  refine zah 23 Tryz.func143 rfl rfl rfl rfl ?_ GG.to
  intro W A hG
  repeat (first | (refine zaj rfl ?_; first | refine zak ?_ | refine gdr (zc5 rfl rfl rfl rfl rfl rfl rfl rfl rfl rfl rfl rfl (zum n) (by omega)) ?_) | (refine hK _ ?_; clear hK K) | refine zac rfl ?_ | refine zad ?_ | refine zab (fun K hK => ?_))
  refine za3 (α := Nat) (fun k => k ≤ l.length) (fun k => St.of [(2, .m (.c (.p 2 0))), (4, .m (.c (.p 4 0))), (12, .m (.c (.s l.length 4 (flF l)))), (13, .m (ii l.length)), (14, .m (ii k))] [(2, .live (.box [.s n 45 (zsL n)])), (4, .live (.box [.v (.slice none 0 0)]))]) (fun k => l.length - k) 0 (by omega) (Sub.trans (zyo (b := 10) rfl) (zax _ _ ⟨rfl, rfl, rfl, rfl, rfl, trivial⟩ ⟨rfl, rfl, trivial⟩ rfl)) ?_
  intro k hk
  by_cases hlt : k < l.length
  · obtain ⟨f, hf⟩ : ∃ f, l[k]? = some f := ⟨_, List.getElem?_eq_getElem hlt⟩
    have hx := zun hf
    repeat (first | (refine zaj rfl ?_; first | refine zak ?_ | refine gdr (zaa rfl rfl rfl (z3h f (h f (List.mem_of_getElem? hf)) n hn) rfl) ?_) | (refine hK _ ?_; clear hK K) | refine zac rfl ?_ | refine zag rfl rfl ?_ | refine zad ?_ | refine zai ?_ | refine zab (fun K hK => ?_))
    exact ⟨k + 1, by omega, by omega, zax _ _ ⟨rfl, rfl, rfl, rfl, rfl, trivial⟩ ⟨rfl, rfl, trivial⟩ rfl⟩
  · skip
    repeat (first | (refine zaj rfl ?_; first | refine zak ?_) | (refine hK _ ?_; clear hK K) | (rename_i K1 hK1; refine hK1 _ ?_; clear hK hK1; clear K) | refine zac rfl ?_ | exact zaf (show zav _ _ _ = some _ by kernel_rfl) | refine zae rfl rfl ?_ | refine zan ?_ | refine zab (fun K hK => ?_))
end Go.Proofs.YtomeaibdedaldaaGreatDoor.SpD
namespace Go.Proofs.YtomeaibdedaldaaGreatDoor.SpE
open Go.RowKit Bv VaSpec Base MemL RegR Ax MemC PutC MemC3 TzC OkS SpA SpB SpC SpD IterC
open BitsC PteSpec
set_option maxRecDepth 10000
set_option maxHeartbeats 2000000
def _root_.Go.Proofs.YtomeaibdedaldaaGreatDoor.SpB.Kr.raw (k : Kr) (tn : Nat) (ts : List Value) (sn : Nat) (ss : List Value) (fn : Nat) (fs : List Value) : List Ce := [ci k.cd, ci k.cp, ci k.ca, ci k.cs, cu k.sz, .s k.m.length 2 (fl k.m), .s tn 45 ts, cu k.sm, cu k.sa, cu k.sp, ci k.priv, cb k.su, cb k.mx, ci k.vic, cu k.pb, ci k.pm, cu k.pf, ci k.am, cu k.af, cu k.ao, .s sn 3 ss, ci k.now, cu k.sh, .s fn 4 fs]
def zK : List Ce := [ci 0, ci 0, ci 0, ci 0, cu 0, .v (.slice none 0 0), .v (.slice none 0 0), cu 0, cu 0, cu 0, ci 0, cb false, cb false, ci 0, cu 0, ci 0, cu 0, ci 0, cu 0, cu 0, .v (.slice none 0 0), ci 0, cu 0, .v (.slice none 0 0)]
def zd3 (k : Kr) (l : List Fe) : Kr := { k with fs := k.fs ++ l }
theorem ce_z (k : Kr) (ht : k.ts = zsL k.tn) : k.ce = k.raw k.tn (zsL k.tn) k.ss.length (flS k.ss) k.fs.length (flF k.fs) := by rw [← ht]; rfl
theorem zuo (k : Kr) (ht : k.ts = zsL k.tn) (hn : k.tn ≤ 16) (l : List Fe) (h : ∀ f ∈ l, U f.ad) (hl : l.length ≤ 1000000) (hk : k.fs.length ≤ 1000000) : Ok 80 [.ag k.ce, .c (.s l.length 4 (flF l))] (.m (.ag (zd3 k l).ce)) := by
  rw [ce_z k ht, show (zd3 k l).ce = k.raw k.tn (zsL k.tn) k.ss.length (flS k.ss) (k.fs.length + l.length) (flF k.fs ++ flF l) from by rw [← ht]; simp [zd3, Kr.ce, Kr.raw, flF]]
  refine zah 25 Tryz.func80 rfl rfl rfl rfl ?_ GG.to
  intro W A hG
  repeat (first | (refine zaj rfl ?_; first | refine zak ?_ | refine gdr (zaa rfl rfl rfl (z0j l h hl k.tn hn) rfl) ?_ | refine gdr (zm4 rfl rfl rfl rfl rfl rfl rfl) ?_ | refine gdr (zox rfl rfl rfl rfl rfl rfl rfl rfl rfl (zpj l) (by omega)) ?_) | (refine hK _ ?_; clear hK K) | refine zac rfl ?_ | exact zaf (show zav _ _ _ = some _ by kernel_rfl) | refine zab (fun K hK => ?_))
end Go.Proofs.YtomeaibdedaldaaGreatDoor.SpE
namespace Go.Proofs.YtomeaibdedaldaaGreatDoor.SpF
open Go.RowKit Bv VaSpec Base MemL RegR Ax MemC PutC MemC3 TzC OkS SpA SpB SpC SpD IterC SpE
open BitsC PteSpec
set_option maxRecDepth 10000
set_option maxHeartbeats 800000
attribute [local irreducible] Ax.zbn
theorem z3i : ∃ a, a = ofv 133955584 := ⟨_, rfl⟩
noncomputable def kA : Int := Classical.choose z3i
theorem zsg : kA = ofv 133955584 := Classical.choose_spec z3i
theorem z4v : U kA := by rw [zsg]; decide
theorem zni : Ok 104 [] (.m (iu kA)) := by rw [zsg]; exact zw7
def zP : Pte := ⟨false, false, false, false, false, false, false, false, 0, 0, 0⟩
theorem z2o : zP.U := by unfold Pte.U zP; simp
def zSp : Sp := ⟨0, 0, false⟩
theorem flS_one (l : List Sp) : ∀ u ∈ flS l, u.oneCell' = true := by
  intro v hv
  obtain ⟨f, _, hv⟩ := List.mem_flatMap.1 hv
  exact List.all_eq_true.1 (show f.vs.all (·.oneCell') = true from rfl) v hv
end Go.Proofs.YtomeaibdedaldaaGreatDoor.SpF
namespace Go.Proofs.YtomeaibdedaldaaGreatDoor.LaA
open Go.RowKit Bv VaSpec Base MemL RegR Ax MemC PutC MemC3 TzC OkS SpA SpB SpC SpF
open BitsC PteSpec
set_option maxRecDepth 10000
set_option maxHeartbeats 1000000
theorem zup (f i : Int) (hf : 0 ≤ f ∧ f < 17592186044416) (hi : 0 ≤ i ∧ i < 512) : Ok 119 [iu f, ii i] (.m (iu (f * 4096 + i * 8))) := by
  refine zah 11 Tryz.func119 rfl rfl rfl rfl ?_ GG.to
  intro W A hG
  repeat (first | (refine zaj rfl ?_; first | refine zak ?_) | (refine hK _ ?_; clear hK K) | refine zac rfl ?_ | exact zaf (show zav _ _ _ = some _ by kernel_rfl) | refine zab (fun K hK => ?_))
theorem zuq {xs : List (Int × Int)} (hu : Uw xs) (a : Int) : U (MemC.look xs a) := by
  have h0 : U 0 := ⟨by omega, by omega⟩
  unfold MemC.look
  split
  · rename_i c hc
    split
    · exact (hu c (List.mem_of_getElem? hc)).2
    · exact h0
  · exact h0
theorem zfa {xs : List (Int × Int)} (hu : Uw xs) (sz a : Int) : U (zbj sz xs a) := by
  unfold zbj
  split
  · exact zuq hu _
  · exact ⟨by omega, by omega⟩
def atM (sz : Int) (xs : List (Int × Int)) (f i : Int) : Pte := zay (zbj sz xs (f * 4096 + i * 8))
theorem znj {xs : List (Int × Int)} (hu : Uw xs) (sz f i : Int) : (atM sz xs f i).U := z0a _ (zfa hu _ _).1 (zfa hu _ _).2
theorem zur {xs : List (Int × Int)} (sz f i : Int) : 0 ≤ (atM sz xs f i).ppn ∧ (atM sz xs f i).ppn < 17592186044416 := by
  unfold atM zay
  simp only
  omega
theorem z0k (sz : Int) (xs : List (Int × Int)) (f i : Int) (hf : 0 ≤ f ∧ f < 17592186044416) (hi : 0 ≤ i ∧ i < 512) (hs : Srt xs) (hu : Uw xs) : Ok 124 [zb2 sz xs, iu f, ii i] (.m (.ag (atM sz xs f i).ce)) := by
  have hU : U (f * 4096 + i * 8) := ⟨by omega, by omega⟩
  have hW := zfa hu sz (f * 4096 + i * 8)
  refine zah 13 Tryz.func124 rfl rfl rfl rfl ?_ GG.to
  intro W A hG
  repeat (first | (refine zaj rfl ?_; first | refine zak ?_ | refine gdr (zaa rfl rfl rfl (zup f i hf hi) rfl) ?_ | refine gdr (zaa rfl rfl rfl (z0g sz xs _ hU hs) rfl) ?_ | refine gdr (zaa rfl rfl rfl (z0f _ hW) rfl) ?_) | (refine hK _ ?_; clear hK K) | refine zac rfl ?_ | refine zas (by kernel_rfl) (by kernel_rfl) rfl ?_ | exact zaf (show zav _ _ _ = some _ by kernel_rfl) | refine zab (fun K hK => ?_))
def zat (sz : Int) (xs : List (Int × Int)) (addr zam : Int) : Nat → Int → Int × Int
  | 0, t => (t, 0)
  | l + 1, t => cond (decide (zam < ((l + 1 : Nat) : Int)) && za0 (atM sz xs t (idx addr ((l + 1 : Nat) : Int))) ((l + 1 : Nat) : Int)) (zat sz xs addr zam l (atM sz xs t (idx addr ((l + 1 : Nat) : Int))).ppn) (t, ((l + 1 : Nat) : Int))
def zxe (sz : Int) (xs : List (Int × Int)) (addr : Int) (p : Int × Int) : List Ce := zgc p.1 p.2 (atM sz xs p.1 (idx addr p.2))
theorem zba {sz : Int} {xs : List (Int × Int)} {addr zam : Int} {l : Nat} {t : Int} (h : zam < ((l + 1 : Nat) : Int)) (hl : za0 (atM sz xs t (idx addr ((l + 1 : Nat) : Int))) ((l + 1 : Nat) : Int) = true) : zat sz xs addr zam (l + 1) t = zat sz xs addr zam l (atM sz xs t (idx addr ((l + 1 : Nat) : Int))).ppn := by
  simp only [zat, decide_eq_true h, hl, Bool.and_self, cond]
theorem za1 {sz : Int} {xs : List (Int × Int)} {addr zam : Int} {l : Nat} {t : Int} (hl : zam < (l : Int) → za0 (atM sz xs t (idx addr (l : Int))) (l : Int) = false) (hw : 0 ≤ zam) : zat sz xs addr zam l t = (t, (l : Int)) := by
  cases l with
  | zero => rfl
  | succ l =>
    simp only [zat]
    by_cases h : zam < ((l + 1 : Nat) : Int)
    · rw [hl h, Bool.and_false]; rfl
    · rw [decide_eq_false h, Bool.false_and]; rfl
def za6 (sz : Int) (xs : List (Int × Int)) (addr zam l t : Int) : Int × Int := zat sz xs addr zam l.toNat t
theorem zus {sz : Int} {xs : List (Int × Int)} {addr zam l t : Int} (h : zam < l) (h0 : 0 < l) (hl : za0 (atM sz xs t (idx addr l)) l = true) : za6 sz xs addr zam l t = za6 sz xs addr zam (l - 1) (atM sz xs t (idx addr l)).ppn := by
  obtain ⟨m, rfl⟩ : ∃ m : Nat, l = ((m + 1 : Nat) : Int) := ⟨(l - 1).toNat, by omega⟩
  unfold za6
  rw [show (((m + 1 : Nat) : Int) - 1).toNat = m by omega, Int.toNat_natCast]
  exact zba h hl
theorem znk {sz : Int} {xs : List (Int × Int)} {addr zam l t : Int} (h0 : 0 ≤ l) (hl : zam < l → za0 (atM sz xs t (idx addr l)) l = false) (hw : 0 ≤ zam) : za6 sz xs addr zam l t = (t, l) := by
  obtain ⟨m, rfl⟩ := Int.eq_ofNat_of_zero_le h0
  unfold za6
  rw [Int.toNat_natCast]
  exact za1 hl hw
theorem zqq (sz : Int) (xs : List (Int × Int)) (top lv addr zam : Int) (ht : 0 ≤ top ∧ top < 17592186044416) (ha : U addr) (h0 : 0 ≤ lv) (h2 : lv ≤ 2) (hw : 0 ≤ zam) (hs : Srt xs) (hu : Uw xs) :
    Ok 53 [zb2 sz xs, iu top, ii lv, iu addr, ii zam] (.m (.ag (zxe sz xs addr (za6 sz xs addr zam lv top)))) := by
  refine zah 44 Tryz.func53 rfl rfl rfl rfl ?_ GG.to
  intro W A hG
  obtain ⟨res, hres⟩ : ∃ res, res = za6 sz xs addr zam lv top := ⟨_, rfl⟩
  rw [← hres]
  repeat (first | (refine zaj rfl ?_; first | refine zak ?_) | (refine hK _ ?_; clear hK K) | refine zac rfl ?_ | refine zab (fun K hK => ?_))
  refine zuk (α := Int × Int × Pte) 0 (by rfl) (fun p => (0 ≤ p.1 ∧ p.1 ≤ 2) ∧ (0 ≤ p.2.1 ∧ p.2.1 < 17592186044416) ∧ za6 sz xs addr zam p.1 p.2.1 = res)
    (fun p => St.of [(3, .m (iu addr)), (4, .m (ii zam)), (5, .m (.c (.p 5 0))), (10, .m (.c (.p 10 0))), (11, .m (.c (.p 11 0)))] [(5, .live (.box [cu sz, .s xs.length 2 (fl xs)])), (10, .live (.box (zgc 0 0 zP))), (11, .live (.box (zgc p.2.1 p.1 p.2.2)))])
    (fun p => p.1.toNat) (lv, top, zP) ⟨⟨h0, h2⟩, ht, hres.symm⟩ ?_ ?_
  · skip
    repeat (first | (refine zaj rfl ?_; first | refine zak ?_) | refine zac rfl ?_)
    exact zax _ _ ⟨rfl, rfl, rfl, rfl, rfl, trivial⟩ ⟨rfl, rfl, rfl, trivial⟩ rfl
  · rintro ⟨l, t, q⟩ ⟨⟨l0, l2⟩, t2, hr⟩
    have l0 : 0 ≤ l := l0
    have l2 : l ≤ 2 := l2
    have t2 : 0 ≤ t ∧ t < 17592186044416 := t2
    have hr : za6 sz xs addr zam l t = res := hr
    have hA := znj hu sz t (idx addr l)
    have hi := idx_bd addr l
    have hp := zur (xs := xs) sz t (idx addr l)
    by_cases hlt : zam < l
    · cases hl : za0 (atM sz xs t (idx addr l)) l with
      | true =>
        have hr' := (zus hlt (by omega) hl).symm.trans hr
        repeat (first | (refine zaj rfl ?_; first | refine zak ?_ | refine gdr (zaa rfl rfl rfl (zki addr _ ha (by omega) (by omega)) rfl) ?_ | refine gdr (zaa rfl rfl rfl (z0k sz xs t _ t2 hi hs hu) rfl) ?_ | refine gdr (zaa rfl rfl rfl (hl ▸ zqm _ hA _ (by omega) (by omega)) rfl) ?_) | (refine hK _ ?_; clear hK K) | refine zac rfl ?_ | refine zas (by kernel_rfl) (by kernel_rfl) rfl ?_ | refine zag rfl rfl ?_ | refine zab (fun K hK => ?_) | refine zau ?_)
        exact ⟨rfl, (l - 1, _, _), ⟨⟨by show 0 ≤ l - 1; omega, by show l - 1 ≤ 2; omega⟩, hp, hr'⟩, by show (l - 1).toNat < l.toNat; omega, zax _ _ ⟨rfl, rfl, rfl, rfl, rfl, trivial⟩ ⟨rfl, rfl, rfl, trivial⟩ rfl⟩
      | false =>
        have hr' := (znk l0 (fun _ => hl) hw).symm.trans hr
        subst hr'
        repeat (first | (refine zaj rfl ?_; first | refine zak ?_ | refine gdr (zaa rfl rfl rfl (zki addr _ ha (by omega) (by omega)) rfl) ?_ | refine gdr (zaa rfl rfl rfl (z0k sz xs t _ t2 hi hs hu) rfl) ?_ | refine gdr (zaa rfl rfl rfl (hl ▸ zqm _ hA _ (by omega) (by omega)) rfl) ?_) | (refine hK _ ?_; clear hK K) | refine zac rfl ?_ | refine zas (by kernel_rfl) (by kernel_rfl) rfl ?_ | exact zaf (show zav _ _ _ = some _ by kernel_rfl) | refine zae rfl rfl ?_ | refine zai ?_ | refine zab (fun K hK => ?_))
    · have hr' := (znk l0 (fun h => absurd h hlt) hw).symm.trans hr
      subst hr'
      repeat (first | (refine zaj rfl ?_; first | refine zak ?_ | refine gdr (zaa rfl rfl rfl (zki addr _ ha (by omega) (by omega)) rfl) ?_ | refine gdr (zaa rfl rfl rfl (z0k sz xs t _ t2 hi hs hu) rfl) ?_) | (refine hK _ ?_; clear hK K) | refine zac rfl ?_ | refine zas (by kernel_rfl) (by kernel_rfl) rfl ?_ | exact zaf (show zav _ _ _ = some _ by kernel_rfl) | refine zae rfl rfl ?_ | refine zai ?_ | refine zab (fun K hK => ?_))
end Go.Proofs.YtomeaibdedaldaaGreatDoor.LaA
namespace Go.Proofs.YtomeaibdedaldaaGreatDoor.IterE
open Go.RowKit Go.Shelf Bv Base MemL MemC MemC3 PutC TableC IterC LaA PteSpec
open BitsC
attribute [local go_sem] Oper.semAt_some
set_option maxRecDepth 20000
def z4w (p : Pte) : Value := .agg #[.bool p.v, .bool p.r, .bool p.w, .bool p.x, .bool p.u, .bool p.g, .bool p.a, .bool p.d, .int .u64 p.rsw, .int .u64 p.ppn, .int .u64 p.high]
abbrev Ie (sz : Int) (xs : List (Int × Int)) (f : Int) := { i : Nat // i < 512 ∧ zbj sz xs (f * 4096 + (i : Int) * 8) ≠ 0 }
def z4x (sz : Int) (xs : List (Int × Int)) (f : Int) (x : Ie sz xs f) : Array Value := #[.int .i64 (x.1 : Int), z4w (atM sz xs f x.1)]
def nzB (sz : Int) (xs : List (Int × Int)) (f : Int) (i : Nat) : Bool := zbj sz xs (f * 4096 + (i : Int) * 8) != 0
def Ent (sz : Int) (xs : List (Int × Int)) (f : Int) (b1 b2 : Nat) (W : World) : Prop := ∃ u, Bx W b1 #[.int .u64 sz, u] ∧ Bx W b2 #[.int .u64 f] ∧ Sl W u xs.length 2 (fl xs)
theorem Ent.below {sz : Int} {xs : List (Int × Int)} {f : Int} {b1 b2 : Nat} {W W' : World} (h : Ent sz xs f b1 b2 W) (b : Below W.heap.size W W') : Ent sz xs f b1 b2 W' := by
  obtain ⟨u, h1, h2, h3⟩ := h
  exact ⟨u, h1.below b, h2.below b, h3.below b⟩
def KpE (sz : Int) (xs : List (Int × Int)) (f : Int) (b1 b2 : Nat) (A B : World) : Prop := A.heap.size ≤ B.heap.size ∧ (Ent sz xs f b1 b2 A → Ent sz xs f b1 b2 B)
theorem KpE.trans {sz : Int} {xs : List (Int × Int)} {f : Int} {b1 b2 : Nat} {A B C : World} (h : KpE sz xs f b1 b2 A B) (k : KpE sz xs f b1 b2 B C) : KpE sz xs f b1 b2 A C := ⟨Nat.le_trans h.1 k.1, fun e => k.2 (h.2 e)⟩
theorem zyz {W : World} {l b : Nat} {o o' : Obj} {vs : Array Value} (h : Bx W b vs) (hl : W.heap[l]? = some o) (ho : o.isCells = false) : Bx (W.putObj l o') b vs := by
  obtain ⟨T, h⟩ := h
  refine ⟨T, ?_⟩
  have hne : b ≠ l := fun e => by subst e; rw [h] at hl; cases hl; cases ho
  exact ((grownBy_putObj' W l o').block b (Array.getElem?_eq_some_iff.1 h).1 (fun e => hne (by cases e; rfl))).trans h
theorem zqr {W : World} {l b o : Nat} {x x' : Obj} {v : Value} (h : W.cell? ⟨b, o, none⟩ = some v) (hl : W.heap[l]? = some x) (hx : x.isCells = false) : (W.putObj l x').cell? ⟨b, o, none⟩ = some v :=
  cell_kept h (grownBy_putObj' W l x') (fun r e => by cases e; exact ⟨x, hl, hx⟩)
theorem KpE.put {sz : Int} {xs : List (Int × Int)} {f : Int} {b1 b2 : Nat} (W : World) (l : Nat) (o o' : Obj) (hl : W.heap[l]? = some o) (ho : o.isCells = false) : KpE sz xs f b1 b2 W (W.putObj l o') := by
  refine ⟨(grownBy_putObj' W l o').size, fun ⟨u, h1, h2, h3, h4⟩ => ⟨u, zyz h1 hl ho, zyz h2 hl ho, h3, ?_⟩⟩
  rcases h4 with h4 | ⟨b, off, cap, e, q1, q2, q3, q4⟩
  · exact .inl h4
  · refine .inr ⟨b, off, cap, e, Nat.lt_of_lt_of_le q1 (grownBy_putObj' W l o').size, q2, q3, fun i hi => ?_⟩
    have := q4 i hi
    obtain ⟨v, hv⟩ : ∃ v, (fl xs)[i]? = some v := ⟨_, List.getElem?_eq_getElem (by rw [h3]; exact hi)⟩
    rw [hv] at this ⊢
    exact zqr this hl ho
theorem z0l {sz : Int} {xs : List (Int × Int)} {f : Int} {k : Nat} (h : nzB sz xs f k = true) : (List.range (k + 1)).filter (nzB sz xs f) = (List.range k).filter (nzB sz xs f) ++ [k] := by
  rw [List.range_succ, List.filter_append]; simp [h]
theorem z3j {sz : Int} {xs : List (Int × Int)} {f : Int} {k : Nat} (h : nzB sz xs f k = false) : (List.range (k + 1)).filter (nzB sz xs f) = (List.range k).filter (nzB sz xs f) := by
  rw [List.range_succ, List.filter_append]; simp [h]
set_option maxHeartbeats 1000000 in
theorem znl (f i : Int) (W : World) (hf : 0 ≤ f ∧ f < 17592186044416) (hi : 0 ≤ i ∧ i < 512) : Calls Tryz.prog 119 #[.int .u64 f, .int .i64 i] W fun e w' => e = .returned (.int .u64 (f * 4096 + i * 8)) ∧ Below W.heap.size W w' := by
  have h1 : IntKind.u64.wrap (f * 4096) = f * 4096 := by rw [IntKind.wrap_u64]; omega
  have h2 : IntKind.u64.wrap i = i := by rw [IntKind.wrap_u64]; omega
  have h3 : IntKind.u64.wrap (i * 8) = i * 8 := by rw [IntKind.wrap_u64]; omega
  have h4 : IntKind.u64.wrap (f * 4096 + i * 8) = f * 4096 + i * 8 := by rw [IntKind.wrap_u64]; omega
  go_enter Tryz.func119, Tryz.ntmps119
  go_wp2
  go_ret
  exact ⟨rfl, Below.refl _ _⟩
set_option maxHeartbeats 4000000 in
theorem zut (n : Nat) (hn : 2 ≤ n) (sz : Int) (xs : List (Int × Int)) (f : Int) (b1 b2 : Nat) (W0 : World) (hE : Ent sz xs f b1 b2 W0) (hf : 0 ≤ f ∧ f < 17592186044416) (hs : Srt xs) (hu : Uw xs) :
    SeqStopsK Fence.wide n Tryz.prog 166 #[.pointer (some ⟨b1, 0, none⟩), .pointer (some ⟨b2, 0, none⟩)] (z4x sz xs f) (KpE sz xs f b1 b2) (fun ys => ys.map (·.1) = (List.range 512).filter (nzB sz xs f)) (fun _ => True) 512 W0 := by
  intro l J Jx W hW hJ hJx hY h0
  have hEW : Ent sz xs f b1 b2 W := hE.below hW
  have grow : ∀ {pre : List (Ie sz xs f)} {A B : World}, W.heap.size ≤ A.heap.size → J pre A → Below A.heap.size A B → J pre B := fun hsz hj hb => hJ _ _ _ none hj ⟨hb.os, hb.tape, hb.output, hb.size, fun k hk _ => hb.block k hk⟩ (fun r e => by cases e)
  refine callsIn_of_wp Tryz.func166 rfl trivial ?_ rfl
  simp only [Tryz.ntmps166, List.size_toArray, List.length_cons, List.length_nil, Nat.reduceAdd, Nat.reduceSub, Array.replicate_succ, Array.replicate_zero, List.push_toArray, List.append_toArray, List.nil_append, List.cons_append]
  gi_wp2
  gi_loopw [6] (fun i wr => ∃ k : Nat, k ≤ 512 ∧ i = .int .i64 k ∧ W.heap.size ≤ wr.heap.size ∧ Ent sz xs f b1 b2 wr ∧ ∃ pre : List (Ie sz xs f), pre.map (·.1) = (List.range k).filter (nzB sz xs f) ∧ J pre wr) (fun i _ => 512 - (intOf i).toNat)
  case atStart => exact ⟨0, by omega, rfl, Nat.le_refl _, hEW, [], rfl, h0⟩
  case round =>
    obtain ⟨k, hk, rfl, hsz, ⟨u, X1, X2, V⟩, pre, hpre, hj⟩ := hrel
    have y0 := X1.cell 0
    have y1 := X1.cell 1
    have p0 := X2.cell 0
    simp at y0 y1 p0
    have l1 := X1.lt
    have l2 := X2.lt
    by_cases hlt : k < 512
    · have hU : U (f * 4096 + (k : Int) * 8) := ⟨by omega, by omega⟩
      have HW := Lib.hid (show zbj sz xs (f * 4096 + (k : Int) * 8) = zbj sz xs (f * 4096 + (k : Int) * 8) from rfl)
      have hWU := zfa hu sz (f * 4096 + (k : Int) * 8)
      generalize hwd : zbj sz xs (f * 4096 + (k : Int) * 8) = wd at HW hWU
      clear HW
      have Hwd := Lib.hid hwd
      clear hwd
      gi_wp2
      refine wpIn_wide.2 ?_
      refine zm6 (by kernel_rfl) (by kernel_rfl) ?_
      repeat (with_reducible refine wpQuiet_step (fun K hK => ?_)
              go_simp
              first
                | (refine hK _ ?_; clear hK K)
                | (refine ⟨_, fun _ _ => rfl, hK _ ?_⟩; clear hK K)
                | (apply Exists.intro
                   refine ⟨fun w' hw' => ?_, hK _ ?_⟩
                   · first
                     | (go_at_call 119; (with_reducible refine (znl _ _ _ hf ⟨by omega, by omega⟩).mono ?_); rintro e w2 ⟨rfl, hq⟩; exact ⟨rfl, hw'.trans (hq.mono hw'.size)⟩)
                     | (go_at_call 167; (with_reducible refine (zhf _ _ xs _ _ hU hs (V.below hw')).mono ?_); rintro e w2 ⟨rfl, hb⟩; exact ⟨rfl, hw'.trans (hb.mono hw'.size)⟩)
                     | (obtain ⟨hcc, _⟩ := zo1 hw'; go_simp; done)
                     | (obtain ⟨hcc, _⟩ := zo1 hw'; go_simp; rfl)
                   clear hK K))
      refine wpQuiet_nil ?_
      intro w2 hb2
      have E2 : Ent sz xs f b1 b2 w2 := Ent.below ⟨u, X1, X2, V⟩ hb2
      have j2 : J pre w2 := grow hsz hj hb2
      have s2 : W.heap.size ≤ w2.heap.size := Nat.le_trans hsz hb2.size
      rw [show zbj sz xs (f * 4096 + (k : Int) * 8) = wd from Hwd.out]
      clear X1 X2 V y0 y1 p0 hb2 hj
      by_cases hz : wd = 0
      · subst hz
        have hn0 : nzB sz xs f k = false := by unfold nzB; rw [Hwd.out]; rfl
        gi_wp2
        refine ⟨trivial, ?_⟩
        gi_wp2
        refine ⟨fun _ h => (by cases h), ?_⟩
        gi_wp2
        go_roundw
        case rel => exact ⟨k + 1, by omega, by go_num, s2, E2, pre, by rw [z3j hn0]; exact hpre, j2⟩
        case measure => simp [intOf]; omega
      · have hn1 : nzB sz xs f k = true := by unfold nzB; rw [Hwd.out]; simp [hz]
        obtain ⟨x, hx⟩ : ∃ x : Ie sz xs f, x = ⟨k, hlt, by rw [Hwd.out]; exact hz⟩ := ⟨_, rfl⟩
        have he : z4x sz xs f x = #[.int .i64 (k : Int), .agg #[.bool (zay wd).v, .bool (zay wd).r, .bool (zay wd).w, .bool (zay wd).x, .bool (zay wd).u, .bool (zay wd).g, .bool (zay wd).a, .bool (zay wd).d, .int .u64 (zay wd).rsw, .int .u64 (zay wd).ppn, .int .u64 (zay wd).high]] := by
          rw [hx]
          show #[Value.int .i64 (k : Int), z4w (zay (zbj sz xs (f * 4096 + (k : Int) * 8)))] = _
          rw [Hwd.out]; rfl
        have hpl : pre.length < 512 := by
          have e1 : pre.length = ((List.range k).filter (nzB sz xs f)).length := by rw [← hpre, List.length_map]
          have e2 := List.length_filter_le (nzB sz xs f) (List.range k)
          rw [List.length_range] at e2
          omega
        gi_wp2
        refine ⟨trivial, fun h => (by cases h), ?_⟩
        refine (callsIn_wide.2 (PteC.zkh _ _ hWU)).mono ?_
        rintro e w3 ⟨rfl, hb3⟩
        obtain ⟨fn, tmps, assign, body, hy, hR⟩ := hY pre x w3 (grow s2 j2 hb3) hpl
        rw [he] at hy
        gi_wp2
        refine ⟨fun h => (by cases h), ?_⟩
        refine hR.mono ?_
        have hb : (wd != 0) = true := by simp [hz]
        rintro e w4 (⟨rfl, hj4, hk4⟩ | ⟨rfl, hjx4⟩)
        · have E4 := hk4.2 (E2.below hb3)
          have s4 : W.heap.size ≤ w4.heap.size := Nat.le_trans s2 (Nat.le_trans hb3.size hk4.1)
          gi_wp2
          go_roundw
          case rel => exact ⟨k + 1, by omega, by go_num, s4, E4, pre ++ [x], by rw [z0l hn1, List.map_append, hpre, hx]; rfl, hj4⟩
          case measure => simp [intOf]; omega
        · gi_wp2
          refine bodyPost_ret (results_none rfl _ _ _) rfl ?_
          exact ⟨⟨_, rfl⟩, .inr ⟨pre ++ [x], trivial, hjx4⟩⟩
    · obtain rfl : k = 512 := by omega
      gi_wp2
      go_end0
      exact ⟨⟨_, rfl⟩, .inl ⟨pre, hpre, hj⟩⟩
end Go.Proofs.YtomeaibdedaldaaGreatDoor.IterE
namespace Go.Proofs.YtomeaibdedaldaaGreatDoor.Ax
open Go.RowKit MemL RegR MemC MemC3 PutC LaA IterE PteSpec BitsC OkS Go
structure En.lw (E F : En) : Prop where
  U : ∀ b, E.U b → F.U b ∧ F.τ b = E.τ b
  A : ∀ g, g < E.w.heap.size → E.A g → F.A g
  size : E.w.heap.size ≤ F.w.heap.size
  cell : ∀ g o v, g < E.w.heap.size → E.A g → E.w.cell? ⟨g, o, none⟩ = some v → F.w.cell? ⟨g, o, none⟩ = some v
theorem z0m {E F : En} (h : E.lw F) {n k : Nat} {xs : List Value} {u : Value} (k1 : Sl E.w u n k xs) (k3 : ∀ a l c, u = .slice (some a) l c → E.A a.block) : Sl F.w u n k xs ∧ ∀ a l c, u = .slice (some a) l c → F.A a.block := by
  obtain ⟨k1, k2⟩ := k1
  rcases k2 with k2 | ⟨b, o, cap, rfl, l, h3, h4, h5⟩
  · refine ⟨⟨k1, .inl k2⟩, fun a l c e => ?_⟩
    rw [k2.1] at e; cases e
  · have ha := k3 ⟨b, o, none⟩ _ _ rfl
    refine ⟨⟨k1, .inr ⟨b, o, cap, rfl, Nat.lt_of_lt_of_le l h.size, h3, h4, fun i hi => ?_⟩⟩, fun a l' c e => ?_⟩
    · have e := h5 i hi
      rw [List.getElem?_eq_getElem (by rw [k1]; exact hi)] at e ⊢
      exact h.cell b (o + i) _ l ha e
    · cases e; exact h.A b l ha
theorem zuu {E F : En} (h : E.lw F) : ∀ (x : Ce) (u : Value), x.R E u → x.R F u
  | .v x, u, k => k
  | .s n k xs, u, ⟨k1, k2⟩ => z0m h k1 k2
  | .q xs, u, ⟨g, o, k1, k2, k3, k4⟩ => ⟨g, o, k1, Nat.lt_of_lt_of_le k2 h.size, h.A g k2 k3, fun i hi => by
      have e := k4 i hi
      rw [List.getElem?_eq_getElem hi] at e ⊢
      exact h.cell g (o + i) _ k2 k3 e⟩
  | .p b off, u, ⟨k0, g, k1, k2⟩ => ⟨(h.U b k0).1, g, (h.U b k0).2.trans k1, k2⟩
  | .o b, u, ⟨k0, k1⟩ => ⟨(h.U b k0).1, k1.trans (h.U b k0).2.symm⟩
  | .rp b off, u, ⟨k0, g, n, cap, k1, k2⟩ => ⟨(h.U b k0).1, g, n, cap, (h.U b k0).2.trans k1, k2⟩
  | .f n k xs, u, ⟨k1, k2, k3⟩ => ⟨(z0m h k1 k2).1, (z0m h k1 k2).2, k3⟩
  | .bs b off n, u, ⟨k0, g, k1, k2⟩ => ⟨(h.U b k0).1, g, (h.U b k0).2.trans k1, k2⟩
  | .cl fi bs, u, ⟨k1, k2⟩ => ⟨by rw [k1, List.map_congr_left (fun b hb => ((h.U b (k2 b hb)).2).symm)], fun b hb => (h.U b (k2 b hb)).1⟩
  | .any, _, _ => trivial
theorem zuv {E F : En} (h : E.lw F) : ∀ (x : Cm) (u : Value), x.R E u → x.R F u
  | .c x, u, k => zuu h x u k
  | .ag cs, u, ⟨vs, k1, k2⟩ => ⟨vs, k1, All2.mono (zuu h) _ _ k2⟩
theorem z3k {E F : En} (h : E.lw F) : ∀ (x : AV) (u : Value), x.R E u → x.R F u
  | .m x, u, k => zuv h x u k
  | .tu l, u, ⟨vs, k1, k2⟩ => ⟨vs, k1, All2.mono (zuv h) _ _ k2⟩
section
variable {P : Program} {X : Cx} {S : St} {Q : Exit → St → Prop} {τ : Nat → Value} {a : Act} {w : World}
def z4y (W : World) (g : Nat) : Prop := ∃ o, W.heap[g]? = some o ∧ o.isCells = false
theorem zgd (h : SimT X S τ a w) {b g : Nat} (hb : zcd S.hp b) (ho : occ (τ b) = some g) : ¬ z4y w g := by
  obtain ⟨k, hk⟩ := hb
  have hR := h.hp b k hk
  rintro ⟨o, h1, h2⟩
  cases k with
  | box cs =>
    obtain ⟨g', vs, e1, ⟨T, e2⟩, _⟩ := hR
    rw [e1] at ho; cases ho
    have e2 : w.heap[g']? = some (Obj.cells vs T (0, 0)) := e2
    rw [e2] at h1; cases h1; cases h2
  | row e k n xs =>
    rcases hR.2 with ⟨e1, _⟩ | ⟨g', cap, cur, e1, _, e3, _⟩
    · rw [e1] at ho; cases ho
    · rw [e1] at ho; cases ho
      have e3 : w.heap[g']? = some (Obj.cells cur e (0, 0)) := e3
      rw [e3] at h1; cases h1; cases h2
theorem zuw {w' : World} (h : SimT X S τ a w) {row : Option Nat} (hg : w.grownBy w' row) (hr : ∀ r, row = some r → z4y w r ∧ ¬ X.K r) : SimT X S τ a w' := by
  have hlw : (env X S.hp τ w).lw (env X S.hp τ w') := ⟨fun b hb => ⟨hb, rfl⟩, fun g _ hg => hg, hg.size, fun g o v _ _ hv => cell_kept hv hg (fun r e => (hr r e).1)⟩
  have hbk : ∀ b g, zcd S.hp b → occ (τ b) = some g → w'.heap[g]? = w.heap[g]? := fun b g hb ho => hg.block g (h.own b g hb ho).2 (fun e => zgd h hb ho (hr g e.symm).1)
  refine ⟨h.size, h.nodef, h.bel.grown hg (fun g hk => Nat.lt_of_lt_of_le (X.hK g hk) h.bel.size) (fun k e => (hr k e).2), fun t ht => z3k hlw _ _ (h.tm t ht), fun b k hk => ?_, fun b g hb ho => ⟨(h.own b g hb ho).1, Nat.lt_of_lt_of_le (h.own b g hb ho).2 hg.size⟩, h.sep, h.one, h.pin⟩
  have hR := h.hp b k hk
  cases k with
  | box cs =>
    obtain ⟨g, vs, e1, ⟨T, e2⟩, e3⟩ := hR
    exact ⟨g, vs, e1, ⟨T, (hbk b g ⟨_, hk⟩ (by rw [e1]; rfl)).trans e2⟩, All2.mono (zuu hlw) _ _ e3⟩
  | row e k n xs =>
    refine ⟨hR.1, ?_⟩
    rcases hR.2 with e1 | ⟨g, cap, cur, e1, e2, e3, e4⟩
    · exact .inl e1
    · exact .inr ⟨g, cap, cur, e1, e2, (hbk b g ⟨_, hk⟩ (by rw [e1]; rfl)).trans e3, e4⟩
def cxR (X : Cx) (W : World) (l : Nat) (τ : Nat → Value) (ns : List Nat) (hk : Kept X.K X.W0 W) : Cx :=
  { X with
    W0 := W
    hB := Nat.le_trans X.hB hk.size
    K := fun g => X.K g ∨ z4y W g
    hK := fun g h => h.elim (fun h => Nat.lt_of_lt_of_le (X.hK g h) hk.size) (fun ⟨o, h, _⟩ => (Array.getElem?_eq_some_iff.1 h).1)
    hG := fun w h => X.hG w (hk.trans (h.mono fun _ => .inl))
    pn := ns.map fun b => (b, τ b)
    rd := some l }
def cxP (X : Cx) (τ : Nat → Value) (ns : List Nat) : Cx := { X with pn := ns.map fun b => (b, τ b), rd := none }
theorem znm {τ0 : Nat → Value} {ns : List Nat} {l : Nat} (h : SimT (cxP X τ0 ns) S τ a w) (hk : Kept X.K X.W0 w) : SimT (cxR X w l τ0 ns hk) S τ a w :=
  ⟨h.size, h.nodef, Kept.refl _ _, h.tm, h.hp, fun b g hb ho => ⟨fun k => k.elim (h.own b g hb ho).1 (zgd h hb ho), (h.own b g hb ho).2⟩, h.sep, h.one, h.pin⟩
theorem znn {τ0 : Nat → Value} {ns : List Nat} {l : Nat} {W : World} {hk : Kept X.K X.W0 W} (h : SimT (cxR X W l τ0 ns hk) S τ a w) : SimT (cxP X τ0 ns) S τ a w :=
  ⟨h.size, h.nodef, hk.trans (h.bel.mono fun _ => .inl), h.tm, h.hp, fun b g hb ho => ⟨fun k => (h.own b g hb ho).1 (.inl k), (h.own b g hb ho).2⟩, h.sep, h.one, h.pin⟩
theorem zjb {τ0 : Nat → Value} {ns : List Nat} {l : Nat} {W : World} {hk : Kept X.K X.W0 W} (h : SimT (cxR X W l τ0 ns hk) S τ a w) (B : Nat) : KeepsFrom B W w :=
  ⟨h.bel.size, fun k o _ ho hc => (h.bel.block k (.inr ⟨o, ho, hc⟩)).trans ho⟩
def ptT (ts : List (Nat × Nat)) : List (Nat × AV) := ts.map fun p => (p.1, .m (.c (.p p.2 0)))
theorem zll {τ0 : Nat → Value} {ns : List Nat} {a0 : Act} (h : Sim (cxP X τ0 ns) S a w) (ts : List (Nat × Nat)) (bs : List (Nat × Hs)) (hb : EqB S bs) (hc : (bs.all fun p => (idK p.2).all (zn9 · bs)) = true) (hns : (ns.all fun b => zn9 b bs) = true)
    (hts : ∀ p ∈ ts, p.2 ∈ ns ∧ a0.tmps.getD p.1 undef = τ0 p.2 ∧ ∃ g, τ0 p.2 = .pointer (some ⟨g, 0, none⟩)) (hsz : a0.tmps.size = X.N) (hd : a0.defers = X.df) : Sim (cxP X τ0 ns) (St.of (ptT ts) bs) a0 w := by
  obtain ⟨τ', s⟩ := zax (X := cxP X τ0 ns) [] bs trivial hb (by simp only [List.all_nil, Bool.true_and]; exact hc) (by
    show ((ns.map fun b => (b, τ0 b)).all fun p => zn9 p.1 bs) = true
    rw [List.all_map]; exact hns) a w h
  refine ⟨τ', hsz, hd, s.bel, fun t ht => ?_, s.hp, s.own, s.sep, s.one, s.pin⟩
  have key : look (.m (.c .any)) (ptT ts) t = .m (.c .any) ∨ ∃ p ∈ ts, p.1 = t ∧ look (.m (.c .any)) (ptT ts) t = .m (.c (.p p.2 0)) := by
    by_cases e : look (.m (.c .any)) (ptT ts) t = .m (.c .any)
    · exact .inl e
    · obtain ⟨q, h1, h2, h3⟩ := look_mem _ _ _ rfl e
      obtain ⟨p, hp, rfl⟩ := List.mem_map.1 h1
      exact .inr ⟨p, hp, h2, h3.symm⟩
  show AV.R _ (look (.m (.c .any)) (ptT ts) t) _
  rcases key with e | ⟨p, hp, rfl, e⟩
  · rw [e]; trivial
  · rw [e]
    obtain ⟨h1, h2, g, h3⟩ := hts p hp
    have hpin := s.pin (p.2, τ0 p.2) (List.mem_map.2 ⟨p.2, h1, rfl⟩)
    exact ⟨hpin.1, g, hpin.2.trans h3, h2.trans h3⟩
def St.two (S : St) (p1 p2 : Nat) (v1 v2 : AV) : St := ⟨zgk (some p2) v2 (zgk (some p1) v1 S.tm), S.hp⟩
theorem z0n {p1 p2 : Nat} {v1 v2 : AV} {u1 u2 : Value} (hdf : X.df = []) (h : SimT X S τ a w) (h1 : v1.R (env X S.hp τ w) u1) (h2 : v2.R (env X S.hp τ w) u2) : SimT X (S.two p1 p2 v1 v2) τ { tmps := (a.tmps.setIfInBounds p1 u1).setIfInBounds p2 u2, defers := [] } w := by
  refine ⟨by simp [h.size], hdf.symm, h.bel, ?_, h.hp, h.own, h.sep, h.one, h.pin⟩
  have t1 := zs8 (X := X) (S := S) (d := some p1) h.size h.tm h1
  exact zs8 (X := X) (S := ⟨zgk (some p1) v1 S.tm, S.hp⟩) (a := a.put (some p1) u1) (d := some p2) (by simp [Act.put, h.size]) t1 h2
theorem z3l {τ0 : Nat → Value} {ns : List Nat} {sz f : Int} {xs : List (Int × Int)} {n1 n2 b1 b2 : Nat} (h : SimT (cxP X τ0 ns) S τ a w) (h1 : S.hp n1 = .live (.box [.v (.int .u64 sz), .s xs.length 2 (fl xs)])) (h2 : S.hp n2 = .live (.box [.v (.int .u64 f)])) (m1 : n1 ∈ ns) (m2 : n2 ∈ ns)
    (e1 : τ0 n1 = .pointer (some ⟨b1, 0, none⟩)) (e2 : τ0 n2 = .pointer (some ⟨b2, 0, none⟩)) : Ent sz xs f b1 b2 w := by
  have p1 := (h.pin (n1, τ0 n1) (List.mem_map.2 ⟨n1, m1, rfl⟩)).2
  have p2 := (h.pin (n2, τ0 n2) (List.mem_map.2 ⟨n2, m2, rfl⟩)).2
  have p1 : τ n1 = .pointer (some ⟨b1, 0, none⟩) := p1.trans e1
  have p2 : τ n2 = .pointer (some ⟨b2, 0, none⟩) := p2.trans e2
  obtain ⟨g, vs, q1, q2, q3⟩ := h.hp n1 _ h1
  rw [p1] at q1; cases q1
  obtain ⟨g, us, r1, r2, r3⟩ := h.hp n2 _ h2
  rw [p2] at r1; cases r1
  obtain ⟨vs⟩ := vs
  obtain ⟨us⟩ := us
  match vs, q3, us, r3 with
  | [v1, v2], q3, [v3], r3 =>
    rw [show v1 = .int .u64 sz from q3.1] at q2
    rw [show v3 = .int .u64 f from r3.1] at r2
    exact ⟨v2, q2, r2, q3.2.1.1⟩
  | [], q3, _, _ => exact q3.elim
  | [_], q3, _, _ => exact q3.2.elim
  | _ :: _ :: _ :: _, q3, _, _ => exact q3.2.2.elim
  | [_, _], _, [], r3 => exact r3.elim
  | [_, _], _, _ :: _ :: _, r3 => exact r3.2.elim
theorem zno {S S' : St} (h : S.hp = S'.hp) : ∀ (l : List (Nat × Hs)), EqB S l → EqB S' l
  | [], _ => trivial
  | p :: l, k => ⟨by rw [← h]; exact k.1, zno h l k.2⟩
def z5h : Exit → St → Prop := fun _ _ => False
set_option maxHeartbeats 1000000 in
theorem z3m {β : Type} {X : Cx} {S : St} {τ0 : Nat → Value} {a : Act} {w : World} {t p1 p2 : Tmp} {assign body : Code} {Q : Exit → Act → World → Prop} {sz f : Int} {xs : List (Int × Int)} (hf : 0 ≤ f ∧ f < 17592186044416) (hs : Srt xs) (hu : Uw xs)
    (hdf : X.df = []) (ts : List (Nat × Nat)) (ns : List Nat) (n1 n2 : Nat) (bs : β → List (Nat × Hs)) (mid : β → Ie sz xs f → St) (next : β → Ie sz xs f → β) (b0 : β)
    (hS : SimT (cxP X τ0 ns) S τ0 a w) (htN : t < X.N) (hcl : S.tm t = .m (.c (.cl 166 [n1, n2])))
    (hts : ∀ p ∈ ts, S.tm p.1 = .m (.c (.p p.2 0)) ∧ p.2 ∈ ns ∧ p.1 < X.N) (hns : ∀ b ∈ ns, ∃ cs, S.hp b = .live (.box cs)) (hb0 : EqB S (bs b0)) (m1 : n1 ∈ ns) (m2 : n2 ∈ ns)
    (hbs : ∀ o, ((bs o).all (fun p => (idK p.2).all (zn9 · (bs o))) && ns.all (fun b => zn9 b (bs o))) = true)
    (hn1 : ∀ o, look Hs.fresh (bs o) n1 = .live (.box [.v (.int .u64 sz), .s xs.length 2 (fl xs)])) (hn2 : ∀ o, look Hs.fresh (bs o) n2 = .live (.box [.v (.int .u64 f)]))
    (hmid : ∀ o x, EqB (mid o x) (bs o)) (hself : ∀ o, EqB (St.of [] (bs o)) (bs o))
    (hinj : ∀ (τ τ' : Nat → Value) (a a' : Act) (W : World) (o o' : β) (x : Ie sz xs f), SimT (cxP X τ0 ns) (St.of (ptT ts) (bs o)) τ a W → SimT (cxP X τ0 ns) (mid o' x) τ' a' W → o = o')
    (hA : ∀ (W : World) (l : Nat) (hk : Kept X.K X.W0 W) (o : β) (x : Ie sz xs f), Aw Tryz.prog (cxR X W l τ0 ns hk) assign (zk9 (fun S' => Sub (cxR X W l τ0 ns hk) S' (mid o x)) z5h) ((St.of (ptT ts) (bs o)).two p1 p2 (.m (.c (.v (.int .i64 (x.1 : Int))))) (.m (.ag (atM sz xs f x.1).ce))))
    (F : β → Prop) (hF : ∀ pre : List (Ie sz xs f), pre.length < 512 → F (pre.foldl next b0))
    (hB : ∀ (W : World) (l : Nat) (hk : Kept X.K X.W0 W) (o : β) (x : Ie sz xs f), F o → Aw Tryz.prog (cxR X W l τ0 ns hk) body (zk9 (fun S' => Sub (cxR X W l τ0 ns hk) S' (St.of (ptT []) (bs (next o x)))) z5h) (mid o x))
    (hdone : ∀ (D : Nat) (ys : List (Ie sz xs f)) (W : World), w.heap.size ≤ D → ys.map (·.1) = (List.range 512).filter (nzB sz xs f) → Sim (cxP X τ0 ns) (St.of (ptT ts) (bs (ys.foldl next b0))) a W → W.heap[D]? = some (.deferred (some [])) → Q .normal { a with defers := { target := .collected D, args := #[] } :: a.defers } W) :
    (Code.rangeFunc (.tmp t) #[p1, p2] assign body).wp Tryz.prog Q a w := by
  have hptr : ∀ b ∈ ns, ∃ g, τ0 b = .pointer (some ⟨g, 0, none⟩) := fun b hb => by
    obtain ⟨cs, e⟩ := hns b hb
    obtain ⟨g, vs, e1, _⟩ := hS.hp b _ e
    exact ⟨g, e1⟩
  obtain ⟨b1, e1⟩ := hptr n1 m1
  obtain ⟨b2, e2⟩ := hptr n2 m2
  have hval : a.eval (.tmp t) = .func (.func 166) #[] #[.pointer (some ⟨b1, 0, none⟩), .pointer (some ⟨b2, 0, none⟩)] := by
    have := hS.tm t htN
    rw [hcl] at this
    have this : a.tmps.getD t undef = .func (.func 166) #[] ([n1, n2].map τ0).toArray := this.1
    show a.tmps.getD t undef = _
    rw [this]; simp [e1, e2]
  have hts' : ∀ p ∈ ts, p.2 ∈ ns ∧ a.tmps.getD p.1 undef = τ0 p.2 ∧ ∃ g, τ0 p.2 = .pointer (some ⟨g, 0, none⟩) := fun p hp => by
    obtain ⟨q1, q2, q3⟩ := hts p hp
    have := hS.tm p.1 q3
    rw [q1] at this
    obtain ⟨_, g, r1, r2⟩ := this
    have r1 : τ0 p.2 = .pointer (some ⟨g, 0, none⟩) := r1
    exact ⟨q2, r2.trans r1.symm, g, r1⟩
  have hbs1 : ∀ o, ((bs o).all fun p => (idK p.2).all (zn9 · (bs o))) = true := fun o => by have := hbs o; rw [Bool.and_eq_true] at this; exact this.1
  have hbs2 : ∀ o, (ns.all fun b => zn9 b (bs o)) = true := fun o => by have := hbs o; rw [Bool.and_eq_true] at this; exact this.2
  have hent : ∀ {S' : St} {τ' : Nat → Value} {a' : Act} {W' : World} {o : β}, SimT (cxP X τ0 ns) S' τ' a' W' → EqB S' (bs o) → Ent sz xs f b1 b2 W' := fun {S' τ' a' W' o} s h => by
    have hl : ∀ n v, look Hs.fresh (bs o) n = .live v → S'.hp n = .live v := fun n v hv => by
      rcases zou h n with e | e
      · rw [e] at hv; cases hv
      · rw [← e]; exact hv
    exact z3l s (hl _ _ (hn1 o)) (hl _ _ (hn2 o)) m1 m2 e1 e2
  have hE0 : Ent sz xs f b1 b2 w := hent hS hb0
  have hszW : X.W0.heap.size ≤ w.heap.size := hS.bel.size
  have hgr : ∀ (S' : St) (a' : Act), OwnFrom w.heap.size (fun (_ : Unit) W => Sim (cxP X τ0 ns) S' a' W) := fun S' a' _ W W' row ⟨τ', s⟩ hg hr => ⟨τ', zuw s hg fun r e => ⟨(hr r e).2, fun k => by
    have := X.hK r k; have := (hr r e).1; omega⟩⟩
  have hI0 : Sim (cxP X τ0 ns) (St.of (ptT ts) (bs b0)) a w := zll ⟨τ0, hS⟩ ts (bs b0) hb0 (hbs1 b0) (hbs2 b0) hts' hS.size hS.nodef
  refine (wpIn_wide (n := 5)).1 (wpIn_rangeFunc_ownH (w0 := w) rfl (by omega) (gf := 166) hval trivial (enters_of Tryz.func166 (by kernel_rfl) rfl)
    (zut 4 (by omega) sz xs f b1 b2 w hE0 hf hs hu) KpE.trans (fun W l o o' _ hl ho _ => KpE.put W l o o' hl ho) (Below.refl _ _) (fun _ => rfl)
    (fun pre W => Sim (cxP X τ0 ns) (St.of (ptT ts) (bs (pre.foldl next b0))) a W) (fun _ _ _ => False) (fun s W W' row hi hg hr => hgr _ _ () W W' row hi hg hr) (fun _ _ _ _ _ h _ _ => h) hI0
    (fun x a' W => ∃ o, Sim (cxP X τ0 ns) (mid o x) a' W) (fun x a' _ W W' row ⟨o, hi⟩ hg hr => ⟨o, hgr _ _ () W W' row hi hg hr⟩) ?_ ?_ ?_ (fun _ _ _ _ _ _ h => h.elim))
  · intro l pre x W K hI hK
    obtain ⟨τ1, s1⟩ := hI
    have hk : Kept X.K X.W0 W := s1.bel
    have s2 := z0n (p1 := p1) (p2 := p2) (v1 := .m (.c (.v (.int .i64 (x.1 : Int))))) (v2 := .m (.ag (atM sz xs f x.1).ce)) (u1 := .int .i64 (x.1 : Int)) (u2 := z4w (atM sz xs f x.1)) (show (cxP X τ0 ns).df = [] from hdf) s1 rfl ⟨_, rfl, rfl, rfl, rfl, rfl, rfl, rfl, rfl, rfl, rfl, rfl, rfl, trivial⟩
    have s3 := znm (l := l) s2 hk
    have ez : (#[p1, p2].zip (z4x sz xs f x)).foldl (fun t (p, v) => t.setIfInBounds p v) a.tmps = (a.tmps.setIfInBounds p1 (.int .i64 (x.1 : Int))).setIfInBounds p2 (z4w (atM sz xs f x.1)) := by simp [z4x]
    rw [ez]
    refine wpIn_mono (hA W l hk _ x _ W ⟨_, s3⟩ _) ?_
    intro e a' W' ⟨S', q, s4⟩
    cases e with
    | normal =>
      obtain ⟨τ5, s5⟩ := q _ _ s4
      have s6 := znn s5
      exact hK a' W' (zjb s5 _) ⟨s5.bel.size, fun _ => hent s6 (hmid _ _)⟩ (zll ⟨_, s6⟩ ts _ (hmid _ x) (hbs1 _) (hbs2 _) hts' hS.size hS.nodef) ⟨_, _, s6⟩
    | _ => exact q.elim
  · intro l pre x a' W hl hr hI ⟨o, τ2, s2⟩ hlen
    obtain ⟨τ1, s1⟩ := hI
    obtain rfl := hinj _ _ _ _ _ _ _ x s1 s2
    have hk : Kept X.K X.W0 W := s2.bel
    have s3 := znm (l := l) s2 hk
    refine wpIn_mono (hB W l hk _ x (hF pre hlen) _ W ⟨_, s3⟩ _) ?_
    intro e a2 W' ⟨S', q, s4⟩
    cases e with
    | normal =>
      obtain ⟨τ5, s5⟩ := q _ _ s4
      have s6 := znn s5
      have hq := zno (S := St.of [] (bs (next (pre.foldl next b0) x))) (S' := St.of (ptT []) (bs (next (pre.foldl next b0) x))) rfl _ (hself _)
      refine ⟨zjb s5 _, ⟨s5.bel.size, fun _ => hent s6 hq⟩, ?_⟩
      show Sim (cxP X τ0 ns) (St.of (ptT ts) (bs ((pre ++ [x]).foldl next b0))) a W'
      rw [List.foldl_append]
      exact zll ⟨_, s6⟩ ts _ hq (hbs1 _) (hbs2 _) hts' hS.size hS.nodef
    | _ => exact q.elim
  · intro D ys W hD hys hI hK
    exact hdone D ys W hD hys hI hK
def Aw2 (P : Program) (X : Cx) (c : Code) (Q : Exit → Act → World → Prop) (S : St) : Prop := ∀ a w, Sim X S a w → c.wp P Q a w
theorem zjc {x y : Code} {Q : Exit → Act → World → Prop} (h : ∀ K : St → Prop, (∀ S, Aw2 P X y Q S → K S) → Aw P X x (zk9 K z5h) S) (hr : X.rd = none := by rfl) : Aw2 P X (.seq x y) Q S := fun a w hs =>
  wp_seq (wp_mono (zxb hr (h _ fun _ h => h) hs) fun e a' w' ⟨S', q, s⟩ => by
    cases e with
    | normal => exact q a' w' s
    | _ => exact q.elim)
theorem z3n {x y : Code} {Q : Exit → Act → World → Prop} (h : Aw2 P X x (Exit.then (y.wp P Q) Q) S) : Aw2 P X (.seq x y) Q S := fun a w hs => wp_seq (h a w hs)
theorem zux {id : Nat} {c : Code} {Q : Exit → Act → World → Prop} (h : Aw2 P X c (Exit.inBlock id Q) S) : Aw2 P X (.block id c) Q S := fun a w hs => wp_block (h a w hs)
theorem zuy {c : Code} {Q : Exit → Act → World → Prop} {S' : St} (h : Sub X S S') (k : Aw2 P X c Q S') : Aw2 P X c Q S := fun a w hs => k a w (h a w hs)
theorem z0o {ns : List Nat} (h : SimT X S τ a w) (hns : ∀ b ∈ ns, ∃ cs, S.hp b = .live (.box cs)) : SimT (cxP X τ ns) S τ a w :=
  ⟨h.size, h.nodef, h.bel, h.tm, h.hp, h.own, h.sep, h.one, fun p hp => by
    obtain ⟨b, hb, rfl⟩ := List.mem_map.1 hp
    obtain ⟨cs, e⟩ := hns b hb
    exact ⟨(by rw [e]; intro e'; cases e'), rfl⟩⟩
def cxD (X : Cx) (W : World) (D : Nat) (hk : Kept X.K X.W0 W) (hD : D < W.heap.size) : Cx :=
  { X with
    W0 := W
    hB := Nat.le_trans X.hB hk.size
    K := fun g => X.K g ∨ g = D
    hK := fun g h => h.elim (fun h => Nat.lt_of_lt_of_le (X.hK g h) hk.size) (fun h => h ▸ hD)
    hG := fun w h => X.hG w (hk.trans (h.mono fun _ => .inl))
    pn := []
    rd := none
    df := [{ target := .collected D, args := #[] }] }
theorem z0p {D : Nat} (h : SimT X S τ a w) (hdf : X.df = []) (hN : z4y w D) (hD : D < w.heap.size) : SimT (cxD X w D h.bel hD) S τ { a with defers := { target := .collected D, args := #[] } :: a.defers } w :=
  ⟨h.size, by show _ :: a.defers = _; rw [h.nodef, hdf]; rfl, Kept.refl _ _, h.tm, h.hp, fun b g hb ho => ⟨fun k => k.elim (h.own b g hb ho).1 (fun e => zgd h hb ho (e ▸ hN)), (h.own b g hb ho).2⟩, h.sep, h.one, fun p hp => by cases hp⟩
def z0q (W : World) (A : Nat → Prop) (r : AV) (e : Ending) (w' : World) : Prop := ∃ v, e = .returned v ∧ Below W.heap.size W w' ∧ r.R (en0 (fun g => A g ∨ W.heap.size ≤ g) w') v
theorem zsh {G : World → Prop} {N : Nat} {W0 : World} {A : Nat → Prop} {hG : ∀ w, Below W0.heap.size W0 w → G w} {fn : Func} {rest : Code} {t : Tmp} {m : Cm} {D : Nat} {W : World} (hres : fn.results = #[.tmp t]) (ht : t < N) (hcl : zcq m = true) (hs : SimT (Cx.of N W0 A G hG) S τ a W) (hDW : W0.heap.size ≤ D) (hK : W.heap[D]? = some (.deferred (some [])))
    (h : ∀ (hk : Kept (Cx.of N W0 A G hG).K (Cx.of N W0 A G hG).W0 W) (hD : D < W.heap.size), Aw P (cxD (Cx.of N W0 A G hG) W D hk hD) rest (fun e S' => (e = .normal ∨ e = .ret) ∧ ∃ m', S'.tm t = .m m' ∧ zj2 S'.hp m' = m) S) :
    rest.wp P (bodyPostM Fence.wide 5 P fn (z0q W0 A (.m m))) { a with defers := { target := .collected D, args := #[] } :: a.defers } W := by
  have hlt : D < W.heap.size := (Array.getElem?_eq_some_iff.1 hK).1
  have s1 := z0p hs rfl ⟨_, hK, rfl⟩ hlt
  refine wp_mono (zxb rfl (h hs.bel hlt) ⟨_, s1⟩) ?_
  intro e a' w' ⟨S', ⟨he, m', hm1, hm2⟩, τ', s⟩
  have hK' : w'.heap[D]? = some (.deferred (some [])) := (s.bel.block D (.inr rfl)).trans hK
  have key : LeavesInM Fence.wide 5 P fn a'.tmps (z0q W0 A (.m m)) a'.defers .returning w' := by
    rw [s.nodef]
    refine ⟨by simp, .inl ⟨_, _, rfl, run_takeDeferred hK', ?_⟩⟩
    refine ⟨_, results_tmp hres _ _ _, _, rfl, ?_, ?_⟩
    · have b1 : Below W0.heap.size W0 W := hs.bel.below fun _ h => h
      have b2 : Below W0.heap.size W w' := s.bel.below fun _ h => .inl h
      exact (b1.trans b2).trans ((Below.refl _ _).grown (grownBy_putObj' w' D (.deferred none)) (Nat.le_trans b1.size b2.size) (fun k e => by cases e; exact hDW))
    · have hR := s.tm t ht
      rw [hm1] at hR
      have hR2 := ztk s m' _ hR
      rw [hm2] at hR2
      have hR3 := zha (E := ⟨_, _, τ', w'⟩) (F := en0 (fun g => A g ∨ W0.heap.size ≤ g) w') rfl (fun g _ hg => hg) _ _ hcl hR2
      exact zuv (E := en0 (fun g => A g ∨ W0.heap.size ≤ g) w') (F := en0 (fun g => A g ∨ W0.heap.size ≤ g) (w'.putObj D (.deferred none))) ⟨fun _ h => h.elim, fun _ _ h => h, (grownBy_putObj' w' D _).size, fun g o v _ _ hv => zqr hv hK' rfl⟩ _ _ hR3
  rcases he with rfl | rfl
  · exact key
  · exact key
theorem znp {G : World → Prop} {k : FuncId} {fn : Func} {c : Code} {args : List Cm} {m : Cm} (N : Nat) (hf : P.funcs[k]? = some fn) (hb : fn.body = some c) (hcl : (zcq m && args.all zcq) = true) (hN : args.length + (fn.ntmps - args.length) = N)
    (h : ∀ (W : World) (A : Nat → Prop) (hG : ∀ w, Below W.heap.size W w → G w), Aw2 P (Cx.of N W A G hG) c (bodyPostM Fence.wide 5 P fn (z0q W A (.m m))) (zm0 args)) (hGb : ∀ w w', G w → Below w.heap.size w w' → G w') : zbn P G k args (.m m) := by
  simp only [Bool.and_eq_true] at hcl
  refine ⟨hcl.1, hcl.2, fun A W vs hG hR => ?_⟩
  have hlen := All2.length _ _ hR
  simp only [Array.length_toList] at hlen
  exact callsIn_wide.1 (callsIn_of_wp_marks (F := Fence.wide) (n := 5) hf hb trivial (wpIn_wide.2 (h W A (fun w hb => hGb W w hG hb) _ W (zm1 hN hcl.2 hlen hR))) rfl)
end
end Go.Proofs.YtomeaibdedaldaaGreatDoor.Ax
namespace Go.Proofs.YtomeaibdedaldaaGreatDoor.Ax
open Go.RowKit MemL RegR MemC MemC3 PutC LaA IterE PteSpec BitsC OkS Go
section
variable {X : Cx} {S : St} {ops : Array Oper} {o : Oper}
set_option maxHeartbeats 1000000 in
theorem zj7 (sz f : Int) (v : Value) (W : World) : Calls Tryz.prog 112 #[.agg #[.int .u64 sz, v], .int .u64 f] W fun e w' => e = .returned (.func (.func 166) #[] #[.pointer (some ⟨W.heap.size, 0, none⟩), .pointer (some ⟨W.heap.size + 1, 0, none⟩)]) ∧ w' = (W.alloc (.cells #[.int .u64 sz, v] 30)).alloc (.cells #[.int .u64 f] 25) := by
  go_enter Tryz.func112, Tryz.ntmps112
  go_wp2
  go_ret
  exact ⟨rfl, rfl⟩
theorem zlm {sz f : Int} {l : List (Int × Int)} {n1 n2 : Nat} {xs : Array Operand} {ts : Array TypeId} (ho : o.op = .call { callee := .value (.func 112), args := xs, argTypes := ts }) (hw : zam ops S o = true) (hl : zk8 S xs.toList = some [zb2 sz l, iu f]) (h1 : S.hp n1 = .fresh) (h2 : S.hp n2 = .fresh) (hne : Nat.beq n2 n1 = false) :
    za4 Tryz.prog ops X o S ⟨.m (.c (.cl 166 [n1, n2])), [(n2, .live (.box [cu f])), (n1, .live (.box [cu sz, .s l.length 2 (fl l)]))], []⟩ := fun S2 a w k1 k2 k3 ⟨τ, hS⟩ => by
  refine .inl ⟨zbu hw k1 k3 hS, ?_⟩
  rw [zh7 ho (by kernel_rfl)]
  have hR := zhb (S := S) (E := env X S2.hp τ w) (a := a) xs.toList _ hl (fun x hx => by
    have hm : x ∈ o.op.operands := by rw [ho]; simp [Op.operands, Call.operands]; exact .inr (by simpa using hx)
    rw [← zb7 k1 hm]; exact hS.ev x (fun t e => k3 t (.inl (zbv (e ▸ hm)))))
  obtain ⟨vm, vf, hv, r1, r2⟩ := zw3 (vs := (xs.toList.map a.eval).toArray) (by simpa using hR)
  have hv : xs.map a.eval = #[vm, vf] := by rw [← hv, ← Array.toList_inj, Array.toList_map]
  obtain ⟨u, rfl, hu⟩ := zhh r1
  obtain rfl : vf = .int .u64 f := r2
  rw [hv]
  refine (zj7 sz f u w).mono ?_
  rintro e w' ⟨rfl, rfl⟩
  have f1 : S2.hp n1 = .fresh := Eq.trans (k2 (.all n1) (by simp [Ef.foot, ze0])) h1
  have f2 : S2.hp n2 = .fresh := Eq.trans (k2 (.all n2) (by simp [Ef.foot, ze0])) h2
  have hn : n2 ≠ n1 := fun e => by rw [e, Nat.beq_refl] at hne; cases hne
  have s1 := hS.newb (k := .box [cu sz, .s l.length 2 (fl l)]) (b := n1) (d := none) (r := .m (.c .any)) (u := undef) (rd := []) f1 ((Below.refl _ _).alloc (Nat.le_refl _) (.cells #[.int .u64 sz, u] 30)) (v := .pointer (some ⟨w.heap.size, 0, none⟩)) (g := w.heap.size) rfl ⟨Nat.le_refl _, by rw [World.size_alloc]; omega⟩ rfl
    (fun E hE hw' => ⟨w.heap.size, #[.int .u64 sz, u], rfl, by rw [hw']; exact Bx.new, rfl, zb5 hE _ _ hu, trivial⟩) trivial
  have f2' : (S2.app none ⟨.m (.c .any), [(n1, .live (.box [cu sz, .s l.length 2 (fl l)]))], []⟩).hp n2 = .fresh := by
    show upd _ _ n2 = _
    rw [zc4, if_neg hn]; exact f2
  have hz : (w.alloc (.cells #[.int .u64 sz, u] 30)).heap.size = w.heap.size + 1 := World.size_alloc ..
  have s2 := s1.newb (k := .box [cu f]) (b := n2) (d := o.dst) (r := .m (.c (.cl 166 [n1, n2]))) (u := .func (.func 166) #[] #[.pointer (some ⟨w.heap.size, 0, none⟩), .pointer (some ⟨w.heap.size + 1, 0, none⟩)]) (rd := []) f2' ((Below.refl _ _).alloc (Nat.le_refl _) (.cells #[.int .u64 f] 25)) (v := .pointer (some ⟨w.heap.size + 1, 0, none⟩)) (g := w.heap.size + 1) rfl ⟨by rw [hz]; exact Nat.le_refl _, by rw [World.size_alloc, hz]; omega⟩ rfl
    (fun E hE hw' => ⟨w.heap.size + 1, #[.int .u64 f], rfl, by rw [hw', ← hz]; exact Bx.new, rfl, trivial⟩) (by
      refine ⟨?_, fun b hb => ?_⟩
      · show _ = Value.func _ #[] ([n1, n2].map (zch (zch τ n1 _) n2 _)).toArray
        have e1 : zch (zch τ n1 (.pointer (some ⟨w.heap.size, 0, none⟩))) n2 (.pointer (some ⟨w.heap.size + 1, 0, none⟩)) n1 = .pointer (some ⟨w.heap.size, 0, none⟩) := by
          unfold zch; rw [if_neg (Ne.symm hn), if_pos rfl]
        have e2 : zch (zch τ n1 (.pointer (some ⟨w.heap.size, 0, none⟩))) n2 (.pointer (some ⟨w.heap.size + 1, 0, none⟩)) n2 = .pointer (some ⟨w.heap.size + 1, 0, none⟩) := by
          unfold zch; rw [if_pos rfl]
        simp only [List.map_cons, List.map_nil, e1, e2]
      · show upd _ _ b ≠ .fresh
        rw [zc4]
        split
        · intro e; cases e
        · rename_i hb2
          have : b = n1 := by
            rcases List.mem_cons.1 hb with rfl | hb
            · rfl
            · rcases List.mem_cons.1 hb with rfl | hb
              · exact absurd rfl hb2
              · cases hb
          subst this
          show upd _ _ b ≠ .fresh
          rw [zc4, if_pos rfl]; intro e; cases e)
  exact ⟨_, rfl, _, s2⟩
end
section
variable {X : Cx} {S : St}
def St.nb (S : St) (c b : Nat) (r : Bk) : St := ⟨S.tm, fun i => cond (Nat.beq i b) (.live r) (cond (Nat.beq i c) (.live (.box [.o b])) (S.hp i))⟩
theorem zxf (c b e k : Nat) (hc : S.hp c = .live (.box [.v (.slice none 0 0)])) (hf : S.hp b = .fresh) : Sub X S (S.nb c b (.row e k 0 [])) := fun a w ⟨τ, h⟩ => by
  have hcb : c ≠ b := fun e => by rw [e, hf] at hc; cases hc
  have hb1 : (S.nb c b (.row e k 0 [])).hp b = .live (.row e k 0 []) := by
    show cond (Nat.beq b b) _ _ = _; rw [Nat.beq_refl]; rfl
  have hbc : (S.nb c b (.row e k 0 [])).hp c = .live (.box [.o b]) := by
    show cond (Nat.beq c b) _ (cond (Nat.beq c c) _ _) = _; rw [za8 hcb, Nat.beq_refl]; rfl
  have hb2 : ∀ i, i ≠ b → i ≠ c → (S.nb c b (.row e k 0 [])).hp i = S.hp i := fun i h1 h2 => by
    show cond (Nat.beq i b) _ (cond (Nat.beq i c) _ _) = _; rw [za8 h1, za8 h2]; rfl
  have hal : ∀ i, zcd (S.nb c b (.row e k 0 [])).hp i → i = b ∨ (i ≠ b ∧ zcd S.hp i) := fun i ⟨q, hq⟩ => by
    by_cases e1 : i = b
    · exact .inl e1
    · by_cases e2 : i = c
      · subst e2; exact .inr ⟨e1, _, hc⟩
      · rw [hb2 i e1 e2] at hq; exact .inr ⟨e1, q, hq⟩
  have t1 : zch τ b (.slice none 0 0) b = .slice none 0 0 := by unfold zch; rw [if_pos rfl]
  have t2 : ∀ i, i ≠ b → zch τ b (.slice none 0 0) i = τ i := fun i hi => by unfold zch; rw [if_neg hi]
  have hle : (env X S.hp τ w).le (env X (S.nb c b (.row e k 0 [])).hp (zch τ b (.slice none 0 0)) w) := by
    refine ⟨fun i hi => ?_, fun g _ ha => ⟨ha.1, fun i hi => ?_⟩, Nat.le_refl _, fun _ _ _ _ => rfl⟩
    · have hi : S.hp i ≠ .fresh := hi
      have e1 : i ≠ b := fun e => hi (e ▸ hf)
      refine ⟨?_, t2 i e1⟩
      show (S.nb c b (.row e k 0 [])).hp i ≠ .fresh
      by_cases e2 : i = c
      · subst e2; rw [hbc]; intro e; cases e
      · rw [hb2 i e1 e2]; exact hi
    · show occ (zch τ b (.slice none 0 0) i) ≠ some g
      rcases hal i hi with rfl | ⟨e1, hi⟩
      · rw [t1]; intro e; cases e
      · rw [t2 i e1]; exact ha.2 i hi
  refine ⟨zch τ b (.slice none 0 0), h.size, h.nodef, h.bel, fun t ht => zs1 hle _ _ (h.tm t ht), fun i q hq => ?_, fun i g hi ho => ?_, fun i j g hij hi hj ho => ?_, fun i => ?_, fun p hp => ⟨(hle.U _ (h.pin p hp).1).1, (hle.U _ (h.pin p hp).1).2.trans (h.pin p hp).2⟩⟩
  · by_cases e1 : i = b
    · subst e1
      rw [hb1] at hq; cases hq
      rw [t1]; exact World.ownsRow_nil w X.base e k
    · rw [t2 i e1]
      by_cases e2 : i = c
      · subst e2
        rw [hbc] at hq; cases hq
        obtain ⟨g, vs, x1, x2, x3⟩ := h.hp i _ hc
        refine ⟨g, vs, x1, x2, ?_⟩
        obtain ⟨vs⟩ := vs
        match vs, x3 with
        | [v], x3 =>
          refine ⟨⟨?_, ?_⟩, trivial⟩
          · show (S.nb i b (.row e k 0 [])).hp b ≠ .fresh
            rw [hb1]; intro e; cases e
          · show v = zch τ b (.slice none 0 0) b
            rw [t1]; exact x3.1
        | [], x3 => exact x3.elim
        | _ :: _ :: _, x3 => exact x3.2.elim
      · rw [hb2 i e1 e2] at hq
        have hk := h.hp i q hq
        cases q with
        | box cs =>
          obtain ⟨g, vs, x1, x2, x3⟩ := hk
          exact ⟨g, vs, x1, x2, All2.mono (zb5 hle) _ _ x3⟩
        | row _ _ _ _ => exact hk
  · rcases hal i hi with rfl | ⟨e1, hi⟩
    · rw [t1] at ho; cases ho
    · rw [t2 i e1] at ho; exact h.own i g hi ho
  · rcases hal i hi with e0 | ⟨e1, hi'⟩
    · rw [e0, t1] at ho; cases ho
    · rw [t2 i e1] at ho
      rcases hal j hj with f0 | ⟨f1, hj'⟩
      · rw [f0, t1]; intro e; cases e
      · rw [t2 j f1]; exact h.sep i j g hij hi' hj' ho
  · by_cases e1 : i = b
    · subst e1; rw [t1]; rfl
    · rw [t2 i e1]; exact h.one i
theorem zxg {w : World} {base base' e k n e' n' : Nat} {v : Value} {xs xs' : List Value} (h : w.ownsRow base e k v n xs) (h' : w.ownsRow base' e' k v n' xs') : n = n' ∧ xs = xs' := by
  obtain ⟨l, h⟩ := h
  obtain ⟨l', h'⟩ := h'
  rcases h with ⟨e1, e2⟩ | ⟨g, cap, cur, e1, e2, e3, e4, e5, e6, e7⟩
  · rcases h' with ⟨f1, f2⟩ | ⟨g', cap', cur', f1, _⟩
    · subst e2; subst f2
      rw [Nat.zero_mul] at l l'
      rw [List.eq_nil_of_length_eq_zero l, List.eq_nil_of_length_eq_zero l']; exact ⟨rfl, rfl⟩
    · rw [e1] at f1; cases f1
  · rcases h' with ⟨f1, f2⟩ | ⟨g', cap', cur', f1, f2, f3, f4, f5, f6, f7⟩
    · rw [e1] at f1; cases f1
    · rw [e1] at f1; cases f1
      rw [e3] at f3; cases f3
      exact ⟨rfl, by rw [← e7, ← f7]⟩
theorem z0r {X : Cx} {τ0 τ τ' : Nat → Value} {ns : List Nat} {S S' : St} {a a' : Act} {W : World} {c b e k n e' n' : Nat} {xs xs' : List Value} (h : SimT (cxP X τ0 ns) S τ a W) (h' : SimT (cxP X τ0 ns) S' τ' a' W) (hc : c ∈ ns) (h1 : S.hp c = .live (.box [.o b])) (h1' : S'.hp c = .live (.box [.o b])) (h2 : S.hp b = .live (.row e k n xs)) (h2' : S'.hp b = .live (.row e' k n' xs')) : n = n' ∧ xs = xs' := by
  have p := (h.pin (c, τ0 c) (List.mem_map.2 ⟨c, hc, rfl⟩)).2
  have p' := (h'.pin (c, τ0 c) (List.mem_map.2 ⟨c, hc, rfl⟩)).2
  have p : τ c = τ' c := p.trans p'.symm
  obtain ⟨g, vs, q1, ⟨T, q2⟩, q3⟩ := h.hp c _ h1
  obtain ⟨g', vs', r1, ⟨T', r2⟩, r3⟩ := h'.hp c _ h1'
  rw [p, r1] at q1; cases q1
  have q2 : W.heap[g]? = some (Obj.cells vs T (0, 0)) := q2
  have r2 : W.heap[g]? = some (Obj.cells vs' T' (0, 0)) := r2
  rw [q2] at r2; cases r2
  obtain ⟨vs⟩ := vs
  match vs, q3, r3 with
  | [v], q3, r3 =>
    have e1 : v = τ b := q3.1.2
    have e2 : v = τ' b := r3.1.2
    have o1 : W.ownsRow X.base e k (τ b) n xs := h.hp b _ h2
    have o2 : W.ownsRow X.base e' k (τ' b) n' xs' := h'.hp b _ h2'
    rw [← e1] at o1; rw [← e2] at o2
    exact zxg o1 o2
  | [], q3, _ => exact q3.elim
  | _ :: _ :: _, q3, _ => exact q3.2.elim
end
end Go.Proofs.YtomeaibdedaldaaGreatDoor.Ax
namespace Go.Proofs.YtomeaibdedaldaaGreatDoor.LaC
open Go.RowKit Bv VaSpec Base MemL RegR Ax MemC PutC MemC3 TzC OkS SpA SpB SpC LaA IterE
open BitsC PteSpec
set_option maxRecDepth 10000
set_option maxHeartbeats 1000000
structure Pg where
  va : Int
  pa : Int
  lev : Int
  r : Bool
  w : Bool
  x : Bool
  u : Bool
  d : Bool
deriving DecidableEq
def Pg.vs (p : Pg) : List Value := [.int .u64 p.va, .int .u64 p.pa, .int .i64 p.lev, .bool p.r, .bool p.w, .bool p.x, .bool p.u, .bool p.d]
def flP (l : List Pg) : List Value := l.flatMap Pg.vs
theorem z0s (a b : List Pg) : flP (a ++ b) = flP a ++ flP b := List.flatMap_append ..
theorem z0t (p : Pg) : flP [p] = p.vs := by simp [flP]
theorem zln (l : Int) (h0 : 0 ≤ l) (h2 : l ≤ 2) : Ok 51 [ii l] (.m (iu (VaSpec.sz l))) :=
  za9 #[.int .i64 l] (.int .u64 (VaSpec.sz l)) fun W g => (VaC.zke l W h0 h2 g.s).mono fun _ _ ⟨e, q⟩ => ⟨e, q.below⟩
theorem zqs (p : Pte) : Ok 114 [.ag p.ce] (.m (ib (zaz p))) :=
  za9 #[.agg #[.bool p.v, .bool p.r, .bool p.w, .bool p.x, .bool p.u, .bool p.g, .bool p.a, .bool p.d, .int .u64 p.rsw, .int .u64 p.ppn, .int .u64 p.high]] (.bool (zaz p))
    fun W _ => PteC.zr7 p.v p.r p.w p.x p.u p.g p.a p.d p.rsw p.ppn p.high W
theorem zxh (p : Pte) : Ok 116 [.ag p.ce] (.m (.ag [cb p.r, cb p.w, cb p.x, cb p.u])) :=
  za9 #[.agg #[.bool p.v, .bool p.r, .bool p.w, .bool p.x, .bool p.u, .bool p.g, .bool p.a, .bool p.d, .int .u64 p.rsw, .int .u64 p.ppn, .int .u64 p.high]] (.agg #[.bool p.r, .bool p.w, .bool p.x, .bool p.u])
    fun W _ => PteC.zr8 p.v p.r p.w p.x p.u p.g p.a p.d p.rsw p.ppn p.high W
theorem zy0 (l : Int) (h0 : 0 ≤ l) (h2 : l ≤ 2) : 0 ≤ VaSpec.sz l ∧ VaSpec.sz l ≤ 1073741824 := by
  rcases VaSpec.lev h0 h2 with rfl | rfl | rfl <;> decide
def adr (b i l : Int) : Int := IntKind.u64.wrap (b + IntKind.u64.wrap (i * VaSpec.sz l))
def zmf (p : Pte) (a l : Int) : Pg := ⟨ofv (num a), p.ppn * 4096, l, p.r, p.w, p.x, p.u, p.d⟩
def zfr (rec : Int → Int → List Pg) (p : Pte) (l a : Int) : List Pg := if zc3 p l then [] else if zaz p then [zmf p a l] else rec p.ppn a
def zbf (sz : Int) (xs : List (Int × Int)) : Nat → Int → Int → List Pg
  | 0, top, b => (List.range 512).flatMap fun (i : Nat) => zfr (fun _ _ => []) (atM sz xs top i) 0 (adr b i 0)
  | l + 1, top, b => (List.range 512).flatMap fun (i : Nat) => zfr (zbf sz xs l) (atM sz xs top i) (l + 1 : Nat) (adr b i (l + 1 : Nat))
theorem z3o (p : Pg) : (p.vs).all (·.oneCell') = true := rfl
theorem zuz : ∀ l : List Pg, (flP l).all (·.oneCell') = true
  | [] => rfl
  | p :: l => by rw [show flP (p :: l) = p.vs ++ flP l from rfl, List.all_append, z3o, zuz l]; rfl
theorem zu0 {p : Pte} (h : zc3 p 0 = false) : zaz p = true := by
  obtain ⟨v, r, w, x, u, g, a, d, rsw, ppn, high⟩ := p
  revert h
  unfold zc3 zaz zbk
  cases v <;> cases r <;> cases x <;> simp
theorem z5i (b i l : Int) : U (adr b i l) := by
  have := IntKind.wrap_u64 (b + IntKind.u64.wrap (i * VaSpec.sz l))
  unfold adr
  rw [this]
  exact ⟨by omega, by omega⟩
theorem zxi (l : Int) : zc3 (zay 0) l = true := by
  unfold zc3
  rw [show (zay 0).v = false by decide]
  rfl
theorem zpk {sz : Int} {xs : List (Int × Int)} {f : Int} (E : Nat → List Pg) (h : ∀ i, nzB sz xs f i = false → E i = []) : ∀ l : List Nat, (l.filter (nzB sz xs f)).flatMap E = l.flatMap E
  | [] => rfl
  | i :: l => by
    cases e : nzB sz xs f i with
    | true => rw [List.filter_cons, e]; simp only [if_true, List.flatMap_cons]; rw [zpk E h l]
    | false => rw [List.filter_cons, e]; simp only [Bool.false_eq_true, if_false]; rw [List.flatMap_cons, h i e, zpk E h l]; rfl
theorem zpl {α : Type} (E : α → List Pg) : ∀ (ys : List α) (acc : Nat × List Value), ys.foldl (fun p x => (p.1 + (E x).length, p.2 ++ flP (E x))) acc = (acc.1 + (ys.flatMap E).length, acc.2 ++ flP (ys.flatMap E))
  | [], acc => by simp [flP]
  | y :: ys, acc => by
    rw [List.foldl_cons, zpl E ys, List.flatMap_cons, List.length_append, z0s]
    simp only [Nat.add_assoc, List.append_assoc]
theorem zjd {α : Type} (E : α → List Pg) (M : Nat) (h : ∀ x, (E x).length ≤ M) : ∀ ys : List α, (ys.flatMap E).length ≤ ys.length * M
  | [] => by simp
  | y :: ys => by
    rw [List.flatMap_cons, List.length_append, List.length_cons, Nat.succ_mul]
    have := h y
    have := zjd E M h ys
    omega
theorem z0u {rec : Int → Int → List Pg} (hrec : ∀ t a, (rec t a).length ≤ 262144) (p : Pte) (l a : Int) : (zfr rec p l a).length ≤ 262144 := by
  unfold zfr
  split
  · simp
  · split
    · simp
    · exact hrec _ _
theorem z5j {a : Int} (h : U a) : U (num a) := by
  obtain ⟨h0, h1⟩ := h
  unfold num
  exact ⟨by omega, by omega⟩
def ts0 : List (Nat × Nat) := [(4, 4), (6, 6), (7, 7), (9, 9)]
def ns0 : List Nat := [4, 6, 7, 9, 1001, 1002]
def bs0 (sz : Int) (xs : List (Int × Int)) (top base lv : Int) (p : Nat × List Value) : List (Nat × Hs) := [(4, .live (.box [cu sz, .s xs.length 2 (fl xs)])), (6, .live (.box [ci lv])), (7, .live (.box [cu base])), (9, .live (.box [.o 1000])), (1000, .live (.row 60 8 p.1 p.2)), (1001, .live (.box [cu sz, .s xs.length 2 (fl xs)])), (1002, .live (.box [cu top]))]
theorem zje (sz : Int) (xs : List (Int × Int)) (top base lv : Int) (rec : Int → Int → List Pg) (ht : 0 ≤ top ∧ top < 17592186044416) (hb : U base) (h0 : 0 ≤ lv) (h2 : lv ≤ 2) (hs : Srt xs) (hu : Uw xs) (hrec : ∀ t a, (rec t a).length ≤ 262144)
    (hIH : 1 ≤ lv → ∀ t a, (0 ≤ t ∧ t < 17592186044416) → U a → Ok 48 [zb2 sz xs, iu t, ii (lv - 1), iu a] (.m (.c (.s (rec t a).length 8 (flP (rec t a))))))
    (L : List Pg) (hL : L = (List.range 512).flatMap fun (i : Nat) => zfr rec (atM sz xs top i) lv (adr base i lv)) :
    Ok 48 [zb2 sz xs, iu top, ii lv, iu base] (.m (.c (.s L.length 8 (flP L)))) := by
  have hz := zy0 lv h0 h2
  refine znp 57 Tryz.func48 rfl rfl rfl ?_ GG.to
  intro W A hG
  refine zjc (fun K hK => ?_)
  repeat (first | (refine zaj rfl ?_; first | refine zak ?_) | (refine hK _ ?_; clear hK K) | refine zac rfl ?_)
  refine zjc (fun K hK => ?_)
  repeat (first | (refine zaj rfl ?_; first | refine zak ?_) | (refine hK _ ?_; clear hK K) | refine zac rfl ?_)
  refine z3n ?_
  refine zjc (fun K hK => ?_)
  repeat (first | (refine zaj rfl ?_; first | refine zak ?_ | refine gdr (zlm (n1 := 1001) (n2 := 1002) rfl rfl rfl rfl rfl rfl) ?_) | (refine hK _ ?_; clear hK K) | refine zac rfl ?_)
  refine zux ?_
  refine zuy (zax [(4, .m (.c (.p 4 0))), (6, .m (.c (.p 6 0))), (7, .m (.c (.p 7 0))), (9, .m (.c (.p 9 0))), (15, .m (.c (.cl 166 [1001, 1002])))] [(4, .live (.box [cu sz, .s xs.length 2 (fl xs)])), (6, .live (.box [ci lv])), (7, .live (.box [cu base])), (9, .live (.box [.v (.slice none 0 0)])), (1001, .live (.box [cu sz, .s xs.length 2 (fl xs)])), (1002, .live (.box [cu top]))]
    ⟨rfl, rfl, rfl, rfl, rfl, trivial⟩ ⟨rfl, rfl, rfl, rfl, rfl, rfl, trivial⟩ rfl) ?_
  refine zuy (zxf 9 1000 60 8 rfl rfl) ?_
  intro a w ⟨τ0, s⟩
  have s' := z0o (ns := ns0) s (by
    intro b hb
    simp only [ns0, List.mem_cons, List.not_mem_nil, or_false] at hb
    rcases hb with rfl | rfl | rfl | rfl | rfl | rfl
    all_goals exact ⟨_, rfl⟩)
  refine z3m (β := Nat × List Value) ht hs hu rfl ts0 ns0 1001 1002 (bs0 sz xs top base lv)
    (fun p x => St.of [(4, .m (.c (.p 4 0))), (6, .m (.c (.p 6 0))), (7, .m (.c (.p 7 0))), (9, .m (.c (.p 9 0))), (10, .m (ii (x.1 : Int))), (11, .m (.c (.p 11 0)))] (bs0 sz xs top base lv p ++ [(11, .live (.box (atM sz xs top x.1).ce))]))
    (fun p x => (p.1 + (zfr rec (atM sz xs top x.1) lv (adr base x.1 lv)).length, p.2 ++ flP (zfr rec (atM sz xs top x.1) lv (adr base x.1 lv)))) (0, []) s' (show 15 < 57 by decide) rfl
    (by
      intro p hp
      simp only [ts0, List.mem_cons, List.not_mem_nil, or_false] at hp
      rcases hp with rfl | rfl | rfl | rfl
      all_goals exact ⟨rfl, by simp [ns0], by show _ < 57; decide⟩)
    (by
      intro b hb
      simp only [ns0, List.mem_cons, List.not_mem_nil, or_false] at hb
      rcases hb with rfl | rfl | rfl | rfl | rfl | rfl
      all_goals exact ⟨_, rfl⟩)
    ⟨rfl, rfl, rfl, rfl, rfl, rfl, rfl, trivial⟩ (by simp [ns0]) (by simp [ns0]) (fun _ => rfl) (fun _ => rfl) (fun _ => rfl) (fun _ _ => ⟨rfl, rfl, rfl, rfl, rfl, rfl, rfl, trivial⟩) (fun _ => ⟨rfl, rfl, rfl, rfl, rfl, rfl, rfl, trivial⟩)
    (by
      intro τ τ' a a' W o o' x h h'
      have := z0r (c := 9) (b := 1000) h h' (by simp [ns0]) rfl rfl rfl rfl
      exact Prod.ext this.1 this.2)
    ?_ (fun p => p.1 ≤ 512 * 262144) ?_ ?_ ?_
  · intro W l hk o x
    repeat (first | (refine zaj rfl ?_; first | refine zak ?_) | (refine hK _ ?_; clear hK K) | refine zac rfl ?_ | refine zab (fun K hK => ?_))
    exact zax _ _ ⟨rfl, rfl, rfl, rfl, rfl, rfl, trivial⟩ ⟨rfl, rfl, rfl, rfl, rfl, rfl, rfl, rfl, trivial⟩ rfl
  · intro pre hpre
    rw [zpl (fun x : Ie sz xs top => zfr rec (atM sz xs top x.1) lv (adr base x.1 lv))]
    have := zjd (fun x : Ie sz xs top => zfr rec (atM sz xs top x.1) lv (adr base x.1 lv)) 262144 (fun x => z0u hrec _ _ _) pre
    have h3 : pre.length * 262144 ≤ 512 * 262144 := Nat.mul_le_mul_right _ (by omega)
    show 0 + _ ≤ 512 * 262144
    omega
  · intro W' l hk o x ho
    have hx := x.2.1
    have hU := znj hu sz top (x.1 : Int)
    have hp := zur (xs := xs) sz top (x.1 : Int)
    have hA := z5i base x.1 lv
    have hN := z5j hA
    have ho : o.1 ≤ 512 * 262144 := ho
    generalize hq : atM sz xs top (x.1 : Int) = q at hU hp ⊢
    have hmv : ∀ (S' : St) (n : Nat) (vs : List Value), EqT S' [] → EqB S' [(4, .live (.box [cu sz, .s xs.length 2 (fl xs)])), (6, .live (.box [ci lv])), (7, .live (.box [cu base])), (9, .live (.box [.o 55])), (55, .live (.row 60 8 n vs)), (1001, .live (.box [cu sz, .s xs.length 2 (fl xs)])), (1002, .live (.box [cu top]))] → Sub (cxR (Cx.of 57 W A GG hG) W' l τ0 ns0 hk) S' (St.of (ptT []) (bs0 sz xs top base lv (n, vs))) := fun S' n vs h1 h2 =>
      Sub.trans (zax [] _ h1 h2 rfl) (Sub.trans (ze9 (b := 55) (b' := 1000) rfl rfl) (zax [] _ trivial ⟨rfl, rfl, rfl, rfl, rfl, rfl, rfl, trivial⟩ rfl))
    have hm3 : ∀ (S' : St) (n : Nat) (vs : List Value), EqT S' [] → EqB S' [(4, .live (.box [cu sz, .s xs.length 2 (fl xs)])), (6, .live (.box [ci lv])), (7, .live (.box [cu base])), (9, .live (.box [.o 33])), (33, .live (.row 60 8 n vs)), (1001, .live (.box [cu sz, .s xs.length 2 (fl xs)])), (1002, .live (.box [cu top]))] → Sub (cxR (Cx.of 57 W A GG hG) W' l τ0 ns0 hk) S' (St.of (ptT []) (bs0 sz xs top base lv (n, vs))) := fun S' n vs h1 h2 =>
      Sub.trans (zax [] _ h1 h2 rfl) (Sub.trans (ze9 (b := 33) (b' := 1000) rfl rfl) (zax [] _ trivial ⟨rfl, rfl, rfl, rfl, rfl, rfl, rfl, trivial⟩ rfl))
    cases hbad : zc3 q lv with
    | true =>
      have hE : zfr rec q lv (adr base x.1 lv) = [] := by unfold zfr; rw [hbad]; rfl
      rw [hE]
      repeat (first | (refine zaj rfl ?_; first | refine zak ?_ | refine gdr (zaa rfl rfl rfl (zln lv h0 h2) rfl) ?_ | refine gdr (zaa rfl rfl rfl (hbad ▸ zli q hU lv h0 h2) rfl) ?_) | (refine hK _ ?_; clear hK K) | refine zac rfl ?_ | refine zas (by kernel_rfl) (by kernel_rfl) rfl ?_ | refine zag rfl rfl ?_ | refine zad ?_ | refine zai ?_ | refine zab (fun K hK => ?_))
      rw [show flP [] = [] from rfl, List.append_nil]
      exact zax _ _ trivial ⟨rfl, rfl, rfl, rfl, rfl, rfl, rfl, trivial⟩ rfl
    | false =>
      cases hleaf : zaz q with
      | true =>
        have hE : zfr rec q lv (adr base x.1 lv) = [zmf q (adr base x.1 lv) lv] := by unfold zfr; rw [hbad, hleaf]; rfl
        rw [hE, z0t]
        repeat (first | (refine zaj rfl ?_; first | refine zak ?_ | refine gdr (zaa rfl rfl rfl (zln lv h0 h2) rfl) ?_ | refine gdr (zaa rfl rfl rfl (hbad ▸ zli q hU lv h0 h2) rfl) ?_ | refine gdr (zaa rfl rfl rfl (hleaf ▸ zqs q) rfl) ?_ | refine gdr (zaa rfl rfl rfl (z0e _ hA) rfl) ?_ | refine gdr (zaa rfl rfl rfl (z0d _ hN) rfl) ?_ | refine gdr (zaa rfl rfl rfl (zxh q) rfl) ?_) | (refine hK _ ?_; clear hK K) | refine zac rfl ?_ | refine zas (by kernel_rfl) (by kernel_rfl) rfl ?_ | refine zag rfl rfl ?_ | refine zae rfl rfl ?_ | refine zad ?_ | refine zab (fun K hK => ?_))
        refine zaj rfl ?_
        refine zrv (zbl rfl rfl rfl rfl rfl rfl rfl rfl rfl rfl rfl rfl rfl (by omega)) (by kernel_rfl) ?_
        repeat (first | (refine zaj rfl ?_; first | refine zak ?_))
        exact hmv _ _ _ trivial ⟨rfl, rfl, rfl, rfl, rfl, rfl, rfl, trivial⟩
      | false =>
        have hlv : 1 ≤ lv := by
          rcases (by omega : lv = 0 ∨ 1 ≤ lv) with rfl | h
          · rw [zu0 hbad] at hleaf; cases hleaf
          · exact h
        have hE : zfr rec q lv (adr base x.1 lv) = rec q.ppn (adr base x.1 lv) := by unfold zfr; rw [hbad, hleaf]; rfl
        rw [hE]
        have hi := hIH hlv q.ppn (adr base x.1 lv) hp hA
        have hl := hrec q.ppn (adr base x.1 lv)
        have ha := zuz (rec q.ppn (adr base x.1 lv))
        repeat (first | (refine zaj rfl ?_; first | refine zak ?_ | refine gdr (zaa rfl rfl rfl (zln lv h0 h2) rfl) ?_ | refine gdr (zaa rfl rfl rfl (hbad ▸ zli q hU lv h0 h2) rfl) ?_ | refine gdr (zaa rfl rfl rfl (hleaf ▸ zqs q) rfl) ?_ | refine gdr (zaa rfl rfl rfl (hi) rfl) ?_ | refine gdr (zbl rfl rfl rfl rfl rfl rfl rfl rfl rfl rfl rfl rfl ha (by omega)) ?_) | (refine hK _ ?_; clear hK K) | refine zac rfl ?_ | refine zas (by kernel_rfl) (by kernel_rfl) rfl ?_ | refine zae rfl rfl ?_ | refine zad ?_ | refine zab (fun K hK => ?_))
        exact hm3 _ _ _ trivial ⟨rfl, rfl, rfl, rfl, rfl, rfl, rfl, trivial⟩
  · intro D ys W hD hys hI hK
    have hfold : ys.foldl (fun (p : Nat × List Value) (x : Ie sz xs top) => (p.1 + (zfr rec (atM sz xs top x.1) lv (adr base x.1 lv)).length, p.2 ++ flP (zfr rec (atM sz xs top x.1) lv (adr base x.1 lv)))) (0, []) = (L.length, flP L) := by
      rw [zpl (fun x : Ie sz xs top => zfr rec (atM sz xs top x.1) lv (adr base x.1 lv))]
      have e : ys.flatMap (fun x : Ie sz xs top => zfr rec (atM sz xs top x.1) lv (adr base x.1 lv)) = L := by
        rw [hL, ← zpk (sz := sz) (xs := xs) (f := top) _ (fun i hi => ?_), ← hys, List.flatMap_map]
        have : zbj sz xs (top * 4096 + (i : Int) * 8) = 0 := by unfold nzB at hi; simpa using hi
        unfold zfr atM
        rw [this, zxi, if_pos rfl]
      rw [e, Nat.zero_add, List.nil_append]
    rw [hfold] at hI
    obtain ⟨τ1, s1⟩ := hI
    have s2 : SimT (Cx.of 57 _ A GG hG) (St.of (ptT ts0) (bs0 sz xs top base lv (L.length, flP L))) τ1 a W := ⟨s1.size, s1.nodef, s1.bel, s1.tm, s1.hp, s1.own, s1.sep, s1.one, fun p hp => by cases hp⟩
    refine zsh (t := 8) rfl (by decide) rfl s2 (Nat.le_trans s.bel.size hD) hK (fun hk hD => ?_)
    repeat (first | (refine zaj rfl ?_; first | refine zak ?_) | (refine hK _ ?_; clear hK K) | refine zac rfl ?_ | refine zab (fun K hK => ?_))
    exact zaf ⟨.inr rfl, _, rfl, rfl⟩
end Go.Proofs.YtomeaibdedaldaaGreatDoor.LaC
namespace Go.Proofs.YtomeaibdedaldaaGreatDoor.LaB
open Go.RowKit Bv VaSpec Base MemL RegR Ax MemC PutC MemC3 TzC OkS SpA SpB SpC LaA
open BitsC PteSpec
set_option maxRecDepth 10000
set_option maxHeartbeats 1000000
theorem zhj (b : Bool) (e : Int) : Ok 54 [ib b, ii e] (.m (ii (if b then 0 else e))) := by
  cases b with
  | true =>
    refine zah 7 Tryz.func54 rfl rfl rfl rfl ?_ GG.to
    intro W A hG
    repeat (first | (refine zaj rfl ?_; first | refine zak ?_) | (refine hK _ ?_; clear hK K) | refine zac rfl ?_ | exact zaf (show zav _ _ _ = some _ by kernel_rfl) | refine zag rfl rfl ?_ | refine zab (fun K hK => ?_))
  | false =>
    refine zah 7 Tryz.func54 rfl rfl rfl rfl ?_ GG.to
    intro W A hG
    repeat (first | (refine zaj rfl ?_; first | refine zak ?_) | (refine hK _ ?_; clear hK K) | refine zac rfl ?_ | exact zaf (show zav _ _ _ = some _ by kernel_rfl) | refine zae rfl rfl ?_ | refine zai ?_ | refine zab (fun K hK => ?_))
structure Pm where
  r : Bool
  w : Bool
  x : Bool
  u : Bool
deriving DecidableEq
def Pm.ce (p : Pm) : List Ce := [cb p.r, cb p.w, cb p.x, cb p.u]
def zhk (p : Pm) : Bool := (p.r || p.x) && (p.r || !p.w)
theorem z0v (p : Pm) : Ok 59 [.ag p.ce] (.m (ib (zhk p))) := by
  obtain ⟨r, w, x, u⟩ := p
  cases r <;> cases w <;> cases x
  all_goals
    refine zah 18 Tryz.func59 rfl rfl rfl rfl ?_ GG.to
    intro W A hG
    repeat (first | (refine zaj rfl ?_; first | refine zak ?_) | (refine hK _ ?_; clear hK K) | refine zac rfl ?_ | exact zaf (show zav _ _ _ = some _ by kernel_rfl) | refine zab (fun K hK => ?_))
def mkP (n : Int) (p : Pm) (g : Bool) : Pte := ⟨true, p.r, p.w, p.x, p.u, g, false, false, 0, n, 0⟩
theorem zqt (n : Int) (p : Pm) (g : Bool) : Ok 61 [iu n, .ag p.ce, ib g] (.m (.ag (mkP n p g).ce)) := by
  refine zah 18 Tryz.func61 rfl rfl rfl rfl ?_ GG.to
  intro W A hG
  repeat (first | (refine zaj rfl ?_; first | refine zak ?_) | (refine hK _ ?_; clear hK K) | refine zac rfl ?_ | exact zaf (show zav _ _ _ = some _ by kernel_rfl) | refine zab (fun K hK => ?_))
def spB (n : Nat) (cs : List Ce) : Ln := (n, cs, cs)
theorem z0w (pa sz : Int) (hp : U pa) (hz : U sz) : zdx Tryz.prog GG 55 [spB 2000 [cu pa], spB 2001 [cu sz]] [.c (.p 2000 0), .c (.p 2001 0)] (.m (ii (if zem pa sz then 0 else 2))) := by
  refine zdu 7 Tryz.func55 rfl rfl rfl rfl rfl ?_
  intro W A τ hG
  repeat (first | (refine zaj rfl ?_; first | refine zak ?_ | refine gdr (zaa rfl rfl rfl (z0c pa sz hp hz) rfl) ?_ | refine gdr (zaa rfl rfl rfl (zhj _ _) rfl) ?_) | (refine hK _ ?_; clear hK K) | refine zac rfl ?_ | refine zab (fun K hK => ?_) | refine zaf (show zav _ _ _ = some _ ∧ EndB _ _ from ⟨by kernel_rfl, ?_⟩))
  exact ⟨⟨_, rfl, rfl⟩, ⟨_, rfl, rfl⟩, trivial⟩
def inD (pa d sz : Int) : Bool := decide (pa < d) && decide (sz ≤ d - pa)
theorem z0x (pa d sz : Int) (hp : U pa) (hd : U d) (hz : U sz) : zdx Tryz.prog GG 57 [spB 2000 [cu pa], spB 2001 [cu d], spB 2002 [cu sz]] [.c (.p 2000 0), .c (.p 2001 0), .c (.p 2002 0)] (.m (ii (if inD pa d sz then 0 else 3))) := by
  obtain ⟨p0, p1⟩ := hp
  obtain ⟨d0, d1⟩ := hd
  obtain ⟨z0, z1⟩ := hz
  by_cases h : pa < d
  · by_cases h2 : sz ≤ d - pa
    · rw [show inD pa d sz = true by unfold inD; rw [decide_eq_true h, decide_eq_true h2]; rfl]
      refine zdu 15 Tryz.func57 rfl rfl rfl rfl rfl ?_
      intro W A τ hG
      repeat (first | (refine zaj rfl ?_; first | refine zak ?_ | refine gdr (zaa rfl rfl rfl (zhj _ _) rfl) ?_) | (refine hK _ ?_; clear hK K) | refine zac rfl ?_ | refine zab (fun K hK => ?_) | refine zaf (show zav _ _ _ = some _ ∧ EndB _ _ from ⟨by kernel_rfl, ?_⟩))
      exact ⟨⟨_, rfl, rfl⟩, ⟨_, rfl, rfl⟩, ⟨_, rfl, rfl⟩, trivial⟩
    · rw [show inD pa d sz = false by unfold inD; rw [decide_eq_true h, decide_eq_false h2]; rfl]
      refine zdu 15 Tryz.func57 rfl rfl rfl rfl rfl ?_
      intro W A τ hG
      repeat (first | (refine zaj rfl ?_; first | refine zak ?_ | refine gdr (zaa rfl rfl rfl (zhj _ _) rfl) ?_) | (refine hK _ ?_; clear hK K) | refine zac rfl ?_ | refine zab (fun K hK => ?_) | refine zaf (show zav _ _ _ = some _ ∧ EndB _ _ from ⟨by kernel_rfl, ?_⟩))
      exact ⟨⟨_, rfl, rfl⟩, ⟨_, rfl, rfl⟩, ⟨_, rfl, rfl⟩, trivial⟩
  · rw [show inD pa d sz = false by unfold inD; rw [decide_eq_false h]; rfl]
    refine zdu 15 Tryz.func57 rfl rfl rfl rfl rfl ?_
    intro W A τ hG
    repeat (first | (refine zaj rfl ?_; first | refine zak ?_ | refine gdr (zaa rfl rfl rfl (zhj _ _) rfl) ?_) | (refine hK _ ?_; clear hK K) | refine zac rfl ?_ | refine zab (fun K hK => ?_) | refine zaf (show zav _ _ _ = some _ ∧ EndB _ _ from ⟨by kernel_rfl, ?_⟩))
    exact ⟨⟨_, rfl, rfl⟩, ⟨_, rfl, rfl⟩, ⟨_, rfl, rfl⟩, trivial⟩
theorem z0y (p : Pm) : zdx Tryz.prog GG 58 [spB 2000 p.ce] [.c (.p 2000 0)] (.m (ii (if zhk p then 0 else 5))) := by
  refine zdu 5 Tryz.func58 rfl rfl rfl rfl rfl ?_
  intro W A τ hG
  repeat (first | (refine zaj rfl ?_; first | refine zak ?_ | refine gdr (zaa rfl rfl rfl (z0v p) rfl) ?_ | refine gdr (zaa rfl rfl rfl (zhj _ _) rfl) ?_) | (refine hK _ ?_; clear hK K) | refine zac rfl ?_ | refine zab (fun K hK => ?_) | refine zaf (show zav _ _ _ = some _ ∧ EndB _ _ from ⟨by kernel_rfl, ?_⟩))
  exact ⟨⟨_, rfl, rfl⟩, trivial⟩
structure MOk (k : Kr) : Prop where
  s : Srt k.m
  u : Uw k.m
theorem z0z (k : Kr) (top lv addr zam : Int) (hk : MOk k) (ht : 0 ≤ top ∧ top < 17592186044416) (ha : U addr) (h0 : 0 ≤ lv) (h2 : lv ≤ 2) (hw : 0 ≤ zam) :
    zdx Tryz.prog GG 52 [spB 2000 k.ce, spB 2001 [cu top], spB 2002 [ci lv], spB 2003 [cu addr], spB 2004 [ci zam]] [.c (.p 2000 0), .c (.p 2001 0), .c (.p 2002 0), .c (.p 2003 0), .c (.p 2004 0)]
      (.m (ii (if !(atM k.sz k.m (za6 k.sz k.m addr zam lv top).1 (idx addr (za6 k.sz k.m addr zam lv top).2)).v then 0 else 6))) := by
  refine zdu 19 Tryz.func52 rfl rfl rfl rfl rfl ?_
  intro W A τ hG
  repeat (first | (refine zaj rfl ?_; first | refine zak ?_ | refine gdr (zaa rfl rfl rfl (zqq k.sz k.m top lv addr zam ht ha h0 h2 hw hk.s hk.u) rfl) ?_ | refine gdr (zaa rfl rfl rfl (zhj _ _) rfl) ?_) | (refine hK _ ?_; clear hK K) | refine zac rfl ?_ | refine zab (fun K hK => ?_) | refine zaf (show zav _ _ _ = some _ ∧ EndB _ _ from ⟨by kernel_rfl, ?_⟩))
  exact ⟨⟨_, rfl, rfl⟩, ⟨_, rfl, rfl⟩, ⟨_, rfl, rfl⟩, ⟨_, rfl, rfl⟩, ⟨_, rfl, rfl⟩, trivial⟩
end Go.Proofs.YtomeaibdedaldaaGreatDoor.LaB
namespace Go.Proofs.YtomeaibdedaldaaGreatDoor.SpG
open Go.RowKit Bv VaSpec Base MemL RegR Ax MemC PutC MemC3 TzC OkS SpA SpB SpC SpD IterC SpE SpF
open BitsC PteSpec
set_option maxRecDepth 10000
set_option maxHeartbeats 800000
attribute [local irreducible] Ax.zbn
theorem zpm (k : Kr) (h : 32 ≤ k.ss.length) (hb : k.ss.length ≤ 1000) : Ok 45 [.ag k.ce] (.tu [.ag k.ce, ii 0, ii 1]) := by
  refine zah 78 Tryz.func45 rfl rfl rfl rfl ?_ GG.to
  intro W A hG
  repeat (first | (refine zaj rfl ?_; first | refine zak ?_) | (refine hK _ ?_; clear hK K) | refine zac rfl ?_ | exact zaf (show zav _ _ _ = some _ by kernel_rfl) | refine zag rfl rfl ?_ | refine zab (fun K hK => ?_))
theorem zlo (k : Kr) (h : k.ss.length < 32) (h0 : k.af = 0) : Ok 45 [.ag k.ce] (.tu [.ag k.ce, ii 0, ii 9]) := by
  refine zah 78 Tryz.func45 rfl rfl rfl rfl ?_ GG.to
  intro W A hG
  have ht : Ok 103 [.ag [ci k.am, cu k.af, cu k.ao]] (.tu [.ag [ci k.am, cu k.af, cu k.ao], iu 0, ib false, ii 9]) := by rw [h0]; exact zw9 k.am k.ao
  repeat (first | (refine zaj rfl ?_; first | refine zak ?_ | refine gdr (zaa rfl rfl rfl (ht) (by kernel_rfl)) ?_) | (refine hK _ ?_; clear hK K) | refine zac rfl ?_ | exact zaf (show zav _ _ _ = some _ by kernel_rfl) | refine zag rfl rfl ?_ | refine zae rfl rfl ?_ | refine zai ?_ | refine zab (fun K hK => ?_))
def gP (n : Int) : Pte := ⟨true, false, false, false, false, true, false, false, 0, n, 0⟩
noncomputable def znq (k : Kr) : List (Int × Int) := za7 k.sz (TableC.zbc k.m (k.pb + tzI k.pf)) (k.pb + tzI k.pf) (idx kA 2) (gP k.sh)
theorem znr (k : Kr) (h : k.ss.length < 32) (haf : U k.af) (hao : U k.ao) (h0 : k.af ≠ 0) (hpf : U k.pf) (hp0 : k.pf ≠ 0) (hb : 0 ≤ k.pb ∧ k.pb ≤ 268435456) (hpm : 0 ≤ k.pm ∧ k.pm ≤ 64) (hm : Srt k.m) (hbig : (k.m.length + 1) * 32 ≤ 140737488355328)
    (hP : (gP k.sh).U) (hm1 : Srt (TableC.zbc k.m (k.pb + tzI k.pf))) (hu1 : Uw (TableC.zbc k.m (k.pb + tzI k.pf))) (hbig1 : ((TableC.zbc k.m (k.pb + tzI k.pf)).length + 1) * 16 ≤ 140737488355328) (hown : (zdo k.ao (tzI k.af) 1 == 1) = false) (hr : 0 ≤ k.pb + tzI k.pf ∧ k.pb + tzI k.pf < 1099511627776)
    : Ok 45 [.ag k.ce] (.tu [.ag (({ k with m := znq k, pf := zbw k.pf (tzI k.pf) 1 0, af := zf5 k.af, ao := zf6 k.af k.ao } : Kr).raw k.tn k.ts (k.ss.length + 1) (flS k.ss ++ (⟨k.pb + tzI k.pf, tzI k.af + 1, true⟩ : Sp).vs) k.fs.length (flF k.fs)), ii k.ss.length, ii 0]) := by
  refine zah 78 Tryz.func45 rfl rfl rfl rfl ?_ GG.to
  intro W A hG
  have ht := zib k.am k.af k.ao haf hao h0
  rw [hown] at ht
  have hf := zia k.sz k.m k.pb k.pm k.pf hb hpm hpf hp0 hm hbig
  have hw := zja k.sz (TableC.zbc k.m (k.pb + tzI k.pf)) (k.pb + tzI k.pf) 2 zP kA (gP k.sh) z4v hP (by omega) (by omega) hr hm1 hu1 (by omega)
  have hcc : ∀ (W : World) (vb : Nat) (v1 v2 : Value), GG W → Bx W vb #[v1, v2] → Sl W v1 k.ss.length 3 (flS k.ss) → Sl W v2 1 3 (⟨k.pb + tzI k.pf, tzI k.af + 1, true⟩ : Sp).vs → Calls Tryz.prog 105 #[.slice (some ⟨vb, 0, none⟩) 2 2] W fun e w' => ∃ v', e = .returned v' ∧ w'.ownsRow W.heap.size 62 3 v' (k.ss.length + 1) (flS k.ss ++ (⟨k.pb + tzI k.pf, tzI k.af + 1, true⟩ : Sp).vs) ∧ Below W.heap.size W w' :=
    fun W vb v1 v2 _ h1 h2 h3 => ConcatSpace.concat_calls vb v1 v2 _ _ _ _ W h1 h2 h3 (flS_one _) (fun u hu => List.all_eq_true.1 (show (⟨k.pb + tzI k.pf, tzI k.af + 1, true⟩ : Sp).vs.all (·.oneCell') = true from rfl) u hu) (by omega)
  repeat (first | (refine zaj rfl ?_; first | refine zak ?_ | refine gdr (zaa rfl rfl rfl (ht) (by kernel_rfl)) ?_ | refine gdr (zaa rfl rfl rfl (hf) (by kernel_rfl)) ?_ | refine gdr (zaa rfl rfl rfl (zni) (by kernel_rfl)) ?_ | refine gdr (zaa rfl rfl rfl (hw) (by kernel_rfl)) ?_ | refine gdr (ze4 rfl rfl rfl rfl rfl rfl (by kernel_rfl) rfl rfl rfl) ?_ | refine gdr (zhv rfl rfl rfl rfl rfl (by kernel_rfl) (by kernel_rfl) hcc) ?_) | (refine hK _ ?_; clear hK K) | refine zac rfl ?_ | refine zas (by kernel_rfl) (by kernel_rfl) rfl ?_ | exact zaf (show zav _ _ _ = some _ by kernel_rfl) | refine zae rfl rfl ?_ | refine zai ?_ | refine zab (fun K hK => ?_))
theorem zlp {P : Program} {G : World → Prop} {f : FuncId} {l l2 : List Cm} {r : AV} (e : l = l2) (h : zbn P G f l2 r) : zbn P G f l r := e ▸ h
def aFe (n : Int) : Fe := ⟨false, 0, true, n⟩
noncomputable def zbg (k : Kr) : Kr := { k with m := znq k, pf := zbw k.pf (tzI k.pf) 1 0, af := zf5 k.af, ao := zf6 k.af k.ao, ss := k.ss ++ [⟨k.pb + tzI k.pf, tzI k.af + 1, true⟩] }
theorem zfs (k : Kr) : (zbg k).ce = (({ k with m := znq k, pf := zbw k.pf (tzI k.pf) 1 0, af := zf5 k.af, ao := zf6 k.af k.ao } : Kr).raw k.tn k.ts (k.ss.length + 1) (flS k.ss ++ (⟨k.pb + tzI k.pf, tzI k.af + 1, true⟩ : Sp).vs) k.fs.length (flF k.fs)) := by
  simp [zbg, Kr.ce, Kr.raw, flS]
end Go.Proofs.YtomeaibdedaldaaGreatDoor.SpG
namespace Go.Proofs.YtomeaibdedaldaaGreatDoor.SpH
open Go.RowKit Bv VaSpec Base MemL RegR Ax MemC PutC MemC3 TzC OkS SpA SpB SpC SpD IterC SpE SpF SpG
open BitsC PteSpec
set_option maxRecDepth 10000
set_option maxHeartbeats 800000
attribute [local irreducible] Ax.zbn
theorem zns (k : Kr) (h : k.ss.length < 32) (haf : U k.af) (hao : U k.ao) (h0 : k.af ≠ 0) (hpf : U k.pf) (hp0 : k.pf ≠ 0) (hb : 0 ≤ k.pb ∧ k.pb ≤ 268435456) (hpm : 0 ≤ k.pm ∧ k.pm ≤ 64) (hm : Srt k.m) (hbig : (k.m.length + 1) * 32 ≤ 140737488355328)
    (hP : (gP k.sh).U) (hm1 : Srt (TableC.zbc k.m (k.pb + tzI k.pf))) (hu1 : Uw (TableC.zbc k.m (k.pb + tzI k.pf))) (hbig1 : ((TableC.zbc k.m (k.pb + tzI k.pf)).length + 1) * 16 ≤ 140737488355328) (hown : (zdo k.ao (tzI k.af) 1 == 1) = true) (hts : k.ts = zsL k.tn) (htn : k.tn ≤ 16) (hfs : k.fs.length ≤ 1000000) (hr : 0 ≤ k.pb + tzI k.pf ∧ k.pb + tzI k.pf < 1099511627776)
    : Ok 45 [.ag k.ce] (.tu [.ag (zd3 (zbg k) [aFe (tzI k.af + 1)]).ce, ii k.ss.length, ii 0]) := by
  refine zah 78 Tryz.func45 rfl rfl rfl rfl ?_ GG.to
  intro W A hG
  have ht := zib k.am k.af k.ao haf hao h0
  rw [hown] at ht
  have hf := zia k.sz k.m k.pb k.pm k.pf hb hpm hpf hp0 hm hbig
  have hw := zja k.sz (TableC.zbc k.m (k.pb + tzI k.pf)) (k.pb + tzI k.pf) 2 zP kA (gP k.sh) z4v hP (by omega) (by omega) hr hm1 hu1 (by omega)
  have hs : Ok 80 [.ag (({ k with m := znq k, pf := zbw k.pf (tzI k.pf) 1 0, af := zf5 k.af, ao := zf6 k.af k.ao } : Kr).raw k.tn k.ts (k.ss.length + 1) (flS k.ss ++ (⟨k.pb + tzI k.pf, tzI k.af + 1, true⟩ : Sp).vs) k.fs.length (flF k.fs)), .c (.s 1 4 (flF [aFe (tzI k.af + 1)]))] (.m (.ag (zd3 (zbg k) [aFe (tzI k.af + 1)]).ce)) := by
    rw [← zfs]
    exact zuo (zbg k) hts htn [aFe (tzI k.af + 1)] (fun f hf => by simp at hf; subst hf; exact ⟨by show (0 : Int) ≤ 0; omega, by show (0 : Int) < 18446744073709551616; omega⟩) (by simp) hfs
  have hfa := zw6 (tzI k.af + 1)
  have hcc : ∀ (W : World) (vb : Nat) (v1 v2 : Value), GG W → Bx W vb #[v1, v2] → Sl W v1 k.ss.length 3 (flS k.ss) → Sl W v2 1 3 (⟨k.pb + tzI k.pf, tzI k.af + 1, true⟩ : Sp).vs → Calls Tryz.prog 105 #[.slice (some ⟨vb, 0, none⟩) 2 2] W fun e w' => ∃ v', e = .returned v' ∧ w'.ownsRow W.heap.size 62 3 v' (k.ss.length + 1) (flS k.ss ++ (⟨k.pb + tzI k.pf, tzI k.af + 1, true⟩ : Sp).vs) ∧ Below W.heap.size W w' :=
    fun W vb v1 v2 _ h1 h2 h3 => ConcatSpace.concat_calls vb v1 v2 _ _ _ _ W h1 h2 h3 (flS_one _) (fun u hu => List.all_eq_true.1 (show (⟨k.pb + tzI k.pf, tzI k.af + 1, true⟩ : Sp).vs.all (·.oneCell') = true from rfl) u hu) (by omega)
  repeat (first | (refine zaj rfl ?_; first | refine zak ?_ | refine gdr (zaa rfl rfl rfl (hfa) (by kernel_rfl)) ?_ | refine gdr (zaa rfl rfl rfl (ht) (by kernel_rfl)) ?_ | refine gdr (zaa rfl rfl rfl (hf) (by kernel_rfl)) ?_ | refine gdr (zaa rfl rfl rfl (zni) (by kernel_rfl)) ?_ | refine gdr (zaa rfl rfl rfl (hw) (by kernel_rfl)) ?_ | refine gdr (ze4 rfl rfl rfl rfl rfl rfl (by kernel_rfl) rfl rfl rfl) ?_ | refine gdr (zhv rfl rfl rfl rfl rfl (by kernel_rfl) (by kernel_rfl) hcc) ?_) | (refine hK _ ?_; clear hK K) | refine zac rfl ?_ | refine zas (by kernel_rfl) (by kernel_rfl) rfl ?_ | refine zag rfl rfl ?_ | refine zae rfl rfl ?_ | refine zai ?_ | refine zab (fun K hK => ?_))
  refine zaj rfl ?_
  refine zrv (ze8 (b := 72) (l := [.ag (({ k with m := znq k, pf := zbw k.pf (tzI k.pf) 1 0, af := zf5 k.af, ao := zf6 k.af k.ao } : Kr).raw k.tn k.ts (k.ss.length + 1) (flS k.ss ++ (⟨k.pb + tzI k.pf, tzI k.af + 1, true⟩ : Sp).vs) k.fs.length (flF k.fs)), .c (.o 72)]) rfl rfl rfl (by kernel_rfl) rfl (by kernel_rfl) (zlp (by kernel_rfl) hs)) (by kernel_rfl) ?_
  refine zaj rfl ?_
  refine zrv (zgm rfl rfl rfl rfl rfl rfl (by kernel_rfl) rfl) (by kernel_rfl) ?_
  first
    | (refine hK _ ?_; clear hK K)
    | (rename_i K1 hK1; refine hK1 _ ?_; clear hK hK1; clear K)
    | (rename_i K1 hK1; refine hK1 _ ?_; clear hK1)
  refine zci (sbq [(1, .m (.c (.p 1 0))), (2, .m (.c (.p 2 0))), (5, .m (.c (.p 5 0)))] [(1, .live (.box k.ce)), (2, .live (.box zK)), (5, .live (.box (zd3 (zbg k) [aFe (tzI k.af + 1)]).ce))]) ?_
  repeat (first | (refine zaj rfl ?_; first | refine zak ?_) | (refine hK _ ?_; clear hK K) | refine zas (by kernel_rfl) (by kernel_rfl) rfl ?_ | exact zaf (show zav _ _ _ = some _ by kernel_rfl) | refine zab (fun K hK => ?_))
theorem zkj (sz : Int) (xs : List (Int × Int)) (base many : Int) (hb : 0 ≤ base ∧ base ≤ 268435456) (hm : 0 ≤ many ∧ many ≤ 64) :
    Ok 99 [zb2 sz xs, .ag [cu base, ci many, cu 0]] (.tu [zb2 sz xs, .ag [cu base, ci many, cu 0], iu 0, ii 8]) :=
  zcs rfl fun A W vs hG hR => by
    obtain ⟨v1, v2, rfl, h1, h2⟩ := zw3 hR
    obtain ⟨u, rfl, hu'⟩ := zhh h1
    obtain rfl := zqg (xs := [.int .u64 base, .int .i64 many, .int .u64 0]) h2
    obtain ⟨a, c, rfl⟩ := zww hu'.1
    refine (TableC4.zr5 sz a _ c base many W hb hm hG.t).mono ?_
    rintro e w' ⟨rfl, hb'⟩
    exact ⟨_, rfl, hb', _, rfl, zh9 (z2z hu' hb'), ⟨_, rfl, rfl, rfl, rfl, trivial⟩, rfl, rfl, trivial⟩
theorem zj8 (k : Kr) (h : k.ss.length < 32) (haf : U k.af) (hao : U k.ao) (h0 : k.af ≠ 0) (hp0 : k.pf = 0) (hb : 0 ≤ k.pb ∧ k.pb ≤ 268435456) (hpm : 0 ≤ k.pm ∧ k.pm ≤ 64)
    : Ok 45 [.ag k.ce] (.tu [.ag k.ce, ii 0, ii 8]) := by
  have hf : Ok 99 [zb2 k.sz k.m, .ag [cu k.pb, ci k.pm, cu k.pf]] (.tu [zb2 k.sz k.m, .ag [cu k.pb, ci k.pm, cu k.pf], iu 0, ii 8]) := by rw [hp0]; exact zkj k.sz k.m k.pb k.pm hb hpm
  cases hown : (zdo k.ao (tzI k.af) 1 == 1) with
  | false =>
    refine zah 78 Tryz.func45 rfl rfl rfl rfl ?_ GG.to
    intro W A hG
    have ht := zib k.am k.af k.ao haf hao h0
    rw [hown] at ht
    repeat (first | (refine zaj rfl ?_; first | refine zak ?_ | refine gdr (zaa rfl rfl rfl (ht) (by kernel_rfl)) ?_ | refine gdr (zaa rfl rfl rfl (hf) (by kernel_rfl)) ?_) | (refine hK _ ?_; clear hK K) | refine zac rfl ?_ | exact zaf (show zav _ _ _ = some _ by kernel_rfl) | refine zag rfl rfl ?_ | refine zae rfl rfl ?_ | refine zai ?_ | refine zab (fun K hK => ?_))
  | true =>
    refine zah 78 Tryz.func45 rfl rfl rfl rfl ?_ GG.to
    intro W A hG
    have ht := zib k.am k.af k.ao haf hao h0
    rw [hown] at ht
    repeat (first | (refine zaj rfl ?_; first | refine zak ?_ | refine gdr (zaa rfl rfl rfl (ht) (by kernel_rfl)) ?_ | refine gdr (zaa rfl rfl rfl (hf) (by kernel_rfl)) ?_) | (refine hK _ ?_; clear hK K) | refine zac rfl ?_ | exact zaf (show zav _ _ _ = some _ by kernel_rfl) | refine zag rfl rfl ?_ | refine zae rfl rfl ?_ | refine zai ?_ | refine zab (fun K hK => ?_))
end Go.Proofs.YtomeaibdedaldaaGreatDoor.SpH
namespace Go.Proofs.YtomeaibdedaldaaGreatDoor.SpI
open Go.RowKit Bv VaSpec Base MemL RegR Ax MemC PutC MemC3 TzC OkS SpA SpB SpC SpD IterC SpE SpF SpG
open BitsC PteSpec
theorem zcn : ∀ (xs : List (Int × Int)) (k v : Int) (c : Int × Int), c ∈ zbq xs k v → c ∈ xs ∨ (c = (k, v) ∧ v ≠ 0)
  | [], k, v, c, h => by
    simp only [zbq] at h
    split at h
    · simp at h
    · rename_i hv; simp at h; exact .inr ⟨h, hv⟩
  | x :: xs, k, v, c, h => by
    simp only [zbq] at h
    split at h
    · rcases List.mem_cons.1 h with h | h
      · exact .inl (by simp [h])
      · exact (zcn xs k v c h).imp (List.mem_cons_of_mem _) id
    · split at h
      · split at h
        · exact .inl (List.mem_cons_of_mem _ h)
        · rename_i hv
          rcases List.mem_cons.1 h with h | h
          · exact .inr ⟨h, hv⟩
          · exact .inl (List.mem_cons_of_mem _ h)
      · split at h
        · exact .inl h
        · rename_i hv
          rcases List.mem_cons.1 h with h | h
          · exact .inr ⟨h, hv⟩
          · exact .inl h
theorem zic : ∀ (xs : List (Int × Int)) (k v : Int), (zbq xs k v).length ≤ xs.length + 1
  | [], k, v => by simp only [zbq]; split <;> simp
  | x :: xs, k, v => by
    have := zic xs k v
    simp only [zbq]
    split
    · simp; omega
    · split <;> split <;> simp <;> omega
theorem zdr : ∀ (xs : List (Int × Int)) (k v : Int), Srt xs → Srt (zbq xs k v)
  | [], k, v, _ => by simp only [zbq]; split <;> simp [Srt]
  | x :: xs, k, v, h => by
    have h' := List.pairwise_cons.1 h
    simp only [zbq]
    split
    · rename_i hx
      refine List.pairwise_cons.2 ⟨fun d hd => ?_, zdr xs k v h'.2⟩
      rcases zcn _ _ _ _ hd with hd | ⟨rfl, _⟩
      · exact h'.1 d hd
      · exact hx
    · split
      · rename_i hk
        split
        · exact h'.2
        · exact List.pairwise_cons.2 ⟨fun d hd => by have := h'.1 d hd; rw [hk] at this; exact this, h'.2⟩
      · split
        · exact h
        · exact List.pairwise_cons.2 ⟨fun d hd => by
            rcases List.mem_cons.1 hd with rfl | hd
            · show k < _; omega
            · have := h'.1 d hd; show k < _; omega, h⟩
theorem zu1 : ∀ (xs : List (Int × Int)) (a b : Int), a ≤ b → lb xs a ≤ lb xs b
  | [], a, b, _ => by simp [lb]
  | x :: xs, a, b, h => by
    have := zu1 xs a b h
    simp only [lb]
    split
    · rw [if_pos (by omega)]; omega
    · omega
theorem zlq (xs : List (Int × Int)) (f : Int) : (TableC.zbc xs f).Sublist xs := by
  unfold TableC.zbc ClearC.zbm
  have h := zu1 xs (f * 512) (f * 512 + 512) (by omega)
  have e : xs.drop (lb xs (f * 512 + 512)) = (xs.drop (lb xs (f * 512))).drop (lb xs (f * 512 + 512) - lb xs (f * 512)) := by
    rw [List.drop_drop]; congr 1; omega
  rw [e]
  have := List.Sublist.append (List.Sublist.refl (xs.take (lb xs (f * 512)))) (List.drop_sublist (lb xs (f * 512 + 512) - lb xs (f * 512)) (xs.drop (lb xs (f * 512))))
  rwa [List.take_append_drop] at this
theorem zcx {xs : List (Int × Int)} (f : Int) (h : Srt xs) : Srt (TableC.zbc xs f) := List.Pairwise.sublist (zlq xs f) h
theorem zft {xs : List (Int × Int)} {f : Int} {c : Int × Int} (h : c ∈ TableC.zbc xs f) : c ∈ xs := (zlq xs f).subset h
theorem zen (xs : List (Int × Int)) (f : Int) : (TableC.zbc xs f).length ≤ xs.length := (zlq xs f).length_le
def COk (lo hi : Int) (c : Int × Int) : Prop := lo * 512 ≤ c.1 ∧ c.1 < hi * 512 ∧ c.1 % 512 = 511 ∧ U c.2
theorem z3p {lo hi : Int} {xs : List (Int × Int)} (h : ∀ c ∈ xs, COk lo hi c) (h0 : 0 ≤ lo) (h1 : hi ≤ 1099511627776) : Uw xs := fun c hc => by
  obtain ⟨a, b, d, e⟩ := h c hc
  exact ⟨⟨by omega, by omega⟩, e⟩
theorem zcy {xs : List (Int × Int)} {k : Int} (h : ∀ c ∈ xs, c.1 ≠ k) : MemC.look xs k = 0 := by
  unfold MemC.look
  split
  · rename_i c hc
    rw [if_neg (h c (List.mem_of_getElem? hc))]
  · rfl
theorem zpn {a : Int} (h : U a) : (X a).toNat = a.toNat := by
  have e := B_X h
  unfold B at e; obtain ⟨h0, h1⟩ := h; omega
theorem zhl {w : BitVec 64} {n : Nat} (h : ∀ i, n ≤ i → w.getLsbD i = false) : w.toNat < 2 ^ n :=
  Nat.lt_pow_two_of_testBit _ fun i hi => by rw [BitVec.testBit_toNat]; exact h i hi
theorem zsi {w : BitVec 64} {n : Nat} (h : w.toNat < 2 ^ n) (i : Nat) (hi : n ≤ i) : w.getLsbD i = false := by
  rw [← BitVec.testBit_toNat]
  exact Nat.testBit_lt_two_pow (Nat.lt_of_lt_of_le h (Nat.pow_le_pow_right (by decide) hi))
theorem zu2 {x : Int} {n : Nat} (h0 : 0 ≤ x) : x < 2 ^ n ↔ x.toNat < 2 ^ n := by
  have e : ((2 : Int) ^ n) = ((2 ^ n : Nat) : Int) := by norm_cast
  rw [e]; omega
theorem zge {x i v : Int} {n : Nat} (h : U x) (hx : x < 2 ^ n) (h0 : 0 ≤ i) (hi : i < n) : zbw x i 1 v < 2 ^ n := by
  rw [zu2 (zex _ _ _ _).1]
  rw [zu2 h.1, ← zpn h] at hx
  unfold zbw
  have : (B (zsx (X x) i.toNat (1 : Int).toNat (X v))).toNat = (zsx (X x) i.toNat (1 : Int).toNat (X v)).toNat := by unfold B; omega
  rw [this]
  refine zhl fun j hj => ?_
  rw [zel, if_neg (by rw [show (1 : Int).toNat = 1 from rfl]; omega), zsi hx j hj, Bool.and_false]
theorem zcl {x : Int} {n : Nat} (h : U x) (hx : x < 2 ^ n) (h0 : x ≠ 0) : 0 ≤ tzI x ∧ tzI x < n := by
  obtain ⟨h1, h2⟩ := h
  obtain ⟨hb, _⟩ := Lib.lowest_bit 64 x.toNat (by omega) (by omega)
  have hle : 2 ^ Lib.ctz 64 x.toNat ≤ x.toNat := by rw [← hb]; exact Nat.and_le_left
  have hx := (zu2 h1).1 hx
  have := (Nat.pow_lt_pow_iff_right (show 1 < 2 by decide)).1 (Nat.lt_of_le_of_lt hle hx)
  unfold tzI
  omega
theorem zgs {x : Int} {n : Nat} (h0 : 0 ≤ x) (h : x < 2 ^ n) (hn : n ≤ 64) : U x := by
  refine ⟨h0, Int.lt_of_lt_of_le h ?_⟩
  have : (2 : Nat) ^ n ≤ 2 ^ 64 := Nat.pow_le_pow_right (by decide) hn
  have e : ((2 : Int) ^ n) = ((2 ^ n : Nat) : Int) := by norm_cast
  rw [e]; omega
def zeo (x i : Int) : Bool := zdo x i 1 == 1
theorem zdm {x i : Int} (h0 : 0 ≤ i) : zeo x i = (X x).getLsbD i.toNat := by
  unfold zeo zdo
  have hb := fun j => zfp (X x) i.toNat 1 j
  rw [show (1 : Int).toNat = 1 from rfl]
  have hlt : (zoa (X x) i.toNat 1).toNat < 2 ^ 1 := zhl fun j hj => by rw [hb j, decide_eq_false (by omega), Bool.false_and]
  have h0' := hb 0
  rw [← BitVec.testBit_toNat, Nat.testBit_zero] at h0'
  simp only [Nat.add_zero, show decide (0 < 1) = true from rfl, Bool.true_and] at h0'
  rw [← h0']
  have e : B (zoa (X x) i.toNat 1) = ((zoa (X x) i.toNat 1).toNat : Int) := rfl
  rw [e]
  rcases (by omega : (zoa (X x) i.toNat 1).toNat = 0 ∨ (zoa (X x) i.toNat 1).toNat = 1) with h | h <;> rw [h] <;> rfl
theorem zfb {x i v j : Int} (h : U x) (h0 : 0 ≤ i) (h1 : i < 64) (hj : 0 ≤ j) (hj1 : j < 64) : zeo (zbw x i 1 v) j = if j = i then (X v).getLsbD 0 else zeo x j := by
  rw [zdm hj, zdm hj]
  unfold zbw
  rw [X_B, zel, decide_eq_true (by omega), Bool.true_and, show (1 : Int).toNat = 1 from rfl]
  by_cases e : j = i
  · subst e
    rw [if_pos ⟨Nat.le_refl _, by omega⟩, if_pos rfl, Nat.sub_self]
  · rw [if_neg (by omega), if_neg e]
end Go.Proofs.YtomeaibdedaldaaGreatDoor.SpI
namespace Go.Proofs.YtomeaibdedaldaaGreatDoor.SpJ
open Go.RowKit Bv VaSpec Base MemL RegR Ax MemC PutC MemC3 TzC OkS SpA SpB SpC SpD IterC SpE SpF SpG SpI
open BitsC PteSpec
noncomputable def zbh (k : Kr) : Kr × Int × Int :=
  if 32 ≤ k.ss.length then (k, 0, 1) else if k.af = 0 then (k, 0, 9) else if k.pf = 0 then (k, 0, 8)
  else if zdo k.ao (tzI k.af) 1 == 1 then (zd3 (zbg k) [aFe (tzI k.af + 1)], (k.ss.length : Int), 0) else (zbg k, (k.ss.length : Int), 0)
def zfc (k : Kr) (id : Int) : Sp := (k.ss[id.toNat]?).getD zSp
def zpo (k : Kr) (id : Int) : Kr × Int :=
  if id = -1 then (offK k, 0) else if za5 k id = false then (k, 4) else (swK k id (zfc k id), 0)
theorem zdd {k : Kr} {id : Int} (h : za5 k id = true) : 0 ≤ id ∧ id < k.ss.length ∧ k.ss[id.toNat]? = some (zfc k id) ∧ (zfc k id).live = true := by
  unfold za5 at h
  simp only [Bool.and_eq_true, decide_eq_true_eq] at h
  obtain ⟨h0, h1⟩ := h
  split at h1
  · rename_i s hs
    have e : zfc k id = s := by unfold zfc; rw [hs]; rfl
    have := (List.getElem?_eq_some_iff.1 hs).1
    exact ⟨h0, by omega, by rw [e]; exact hs, by rw [e]; exact h1⟩
  · cases h1
structure Inv (n : Nat) (k : Kr) : Prop where
  cd : 1 ≤ k.cd ∧ k.cd ≤ 524288
  cp : 1 ≤ k.cp ∧ k.cp ≤ 64
  ca : 1 ≤ k.ca ∧ k.ca ≤ 16
  cs : k.cs = k.tn ∧ k.tn ≤ 16
  sz : k.sz = (k.cd + k.cp) * 4096
  pb : k.pb = k.cd
  pm : k.pm = k.cp
  am : k.am = k.ca
  pf : 0 ≤ k.pf ∧ k.pf < 2 ^ k.cp.toNat
  af : 0 ≤ k.af ∧ k.af < 2 ^ k.ca.toNat
  ao : 0 ≤ k.ao ∧ k.ao < 2 ^ k.ca.toNat
  sh : k.cd ≤ k.sh ∧ k.sh < k.cd + k.cp
  ts : k.ts = zsL k.tn
  m : Srt k.m
  mc : ∀ c ∈ k.m, COk k.cd (k.cd + k.cp) c
  ml : k.m.length ≤ n
  fl : k.fs.length ≤ n
  sl : k.ss.length ≤ 32
  ss : ∀ s ∈ k.ss, s.live = true → (k.cd ≤ s.root ∧ s.root < k.cd + k.cp) ∧ (1 ≤ s.asid ∧ s.asid ≤ 16)
  nw : (k.now = -1 ∧ k.sm = 0 ∧ k.sa = 0 ∧ k.sp = 0) ∨ (za5 k k.now = true ∧ k.sm = 8 ∧ k.sa = (zfc k k.now).asid ∧ k.sp = (zfc k k.now).root)
theorem Inv.upf {n : Nat} {k : Kr} (h : Inv n k) : U k.pf := zgs h.pf.1 h.pf.2 (by have := h.cp; omega)
theorem Inv.uaf {n : Nat} {k : Kr} (h : Inv n k) : U k.af := zgs h.af.1 h.af.2 (by have := h.ca; omega)
theorem Inv.uao {n : Nat} {k : Kr} (h : Inv n k) : U k.ao := zgs h.ao.1 h.ao.2 (by have := h.ca; omega)
theorem zkk : idx kA 2 = 511 := by rw [zsg]; decide
theorem zhm (sz : Int) (xs : List (Int × Int)) (t i : Int) (p : Pte) : za7 sz xs t i p = xs ∨ ∃ v, U v ∧ za7 sz xs t i p = zbq xs (t * 512 + i) v := by
  unfold za7 zdp
  by_cases hw : zdh sz (t * 4096 + i * 8) 8 = 0
  · rw [if_pos hw, if_pos hw]
    refine .inr ⟨zbw (zbj sz xs (t * 4096 + i * 8)) ((t * 4096 + i * 8) % 8 * 8) (8 * 8) (PteC.ze7 p), zex _ _ _ _, ?_⟩
    rw [show (t * 4096 + i * 8) / 8 = t * 512 + i by omega]
  · rw [if_neg hw]; exact .inl rfl
theorem zxj {sz : Int} {xs : List (Int × Int)} {t i : Int} {p : Pte} (h : Srt xs) : Srt (za7 sz xs t i p) := by
  rcases zhm sz xs t i p with e | ⟨v, _, e⟩ <;> rw [e]
  · exact h
  · exact zdr _ _ _ h
theorem zgt (sz : Int) (xs : List (Int × Int)) (t i : Int) (p : Pte) : (za7 sz xs t i p).length ≤ xs.length + 1 := by
  rcases zhm sz xs t i p with e | ⟨v, _, e⟩ <;> rw [e]
  · omega
  · exact zic _ _ _
theorem zxk {sz : Int} {xs : List (Int × Int)} {t : Int} {p : Pte} {lo hi : Int} (h : ∀ c ∈ xs, COk lo hi c) (h0 : lo ≤ t) (h1 : t < hi) : ∀ c ∈ za7 sz xs t 511 p, COk lo hi c := fun c hc => by
  rcases zhm sz xs t 511 p with e | ⟨v, hv, e⟩ <;> rw [e] at hc
  · exact h c hc
  · rcases zcn _ _ _ _ hc with hc | ⟨rfl, _⟩
    · exact h c hc
    · exact ⟨by show lo * 512 ≤ t * 512 + 511; omega, by show t * 512 + 511 < hi * 512; omega, by show (t * 512 + 511) % 512 = 511; omega, hv⟩
theorem z00 (a v : Int) (hv : U v) : zbw a 0 64 v = v := by
  unfold zbw
  rw [show (0 : Int).toNat = 0 from rfl, show (64 : Int).toNat = 64 from rfl]
  have : zsx (X a) 0 64 (X v) = X v := by
    apply BitVec.eq_of_getLsbD_eq
    intro i hi
    rw [zel, decide_eq_true hi, Bool.true_and, if_pos ⟨Nat.zero_le _, by omega⟩, Nat.sub_zero]
  rw [this, B_X hv]
theorem z3q {sz t i : Int} (h0 : 0 ≤ t) (hi : 0 ≤ i ∧ i < 512) (hs : t * 4096 + i * 8 < sz) : zdh sz (t * 4096 + i * 8) 8 = 0 := by
  unfold zdh
  rw [if_pos (by rfl), if_pos, if_pos hs]
  unfold zem
  rw [if_neg (by omega)]
  simp; omega
theorem zep {sz : Int} {xs : List (Int × Int)} {t i : Int} {p : Pte} (hp : p.U) (h0 : 0 ≤ t) (hi : 0 ≤ i ∧ i < 512) (hs : t * 4096 + i * 8 < sz) : za7 sz xs t i p = zbq xs (t * 512 + i) (PteC.ze7 p) := by
  unfold za7 zdp
  have hw := z3q h0 hi hs
  rw [if_pos hw, if_pos hw, show (t * 4096 + i * 8) / 8 = t * 512 + i by omega, show (t * 4096 + i * 8) % 8 * 8 = 0 by omega, show (8 : Int) * 8 = 64 by rfl, z00 _ _ (zf4 p hp)]
theorem znt : PteC.ze7 zP = 0 := by decide
theorem z3r {n : Nat} {k : Kr} {id : Int} (h : Inv n k) : Inv n (zpo k id).1 := by
  unfold zpo
  split
  · exact { h with nw := .inl ⟨rfl, rfl, rfl, rfl⟩ }
  · split
    · exact h
    · rename_i h1 h2
      have h3 : za5 k id = true := by simpa using h2
      exact { h with nw := .inr ⟨h3, rfl, rfl, rfl⟩ }
theorem zu3 {k k' : Kr} {s : Sp} {id : Int} (e : k'.ss = k.ss ++ [s]) (h : za5 k id = true) : za5 k' id = true ∧ zfc k' id = zfc k id := by
  obtain ⟨h0, h1, h2, h3⟩ := zdd h
  have hk : k'.ss[id.toNat]? = some (zfc k id) := by rw [e, List.getElem?_append_left (by omega)]; exact h2
  have e2 : zfc k' id = zfc k id := by show (k'.ss[id.toNat]?).getD zSp = _; rw [hk]; rfl
  refine ⟨?_, e2⟩
  unfold za5
  rw [hk, decide_eq_true h0]; exact h3
theorem zpp {n : Nat} {k : Kr} (h : Inv n k) (hl : k.ss.length < 32) (ha : k.af ≠ 0) (hp : k.pf ≠ 0) : Inv (n + 1) (zbg k) := by
  have t1 := zcl h.upf h.pf.2 hp
  have t2 := zcl h.uaf h.af.2 ha
  have c1 := h.cp
  have c2 := h.ca
  have hpb := h.pb
  refine { cd := h.cd, cp := h.cp, ca := h.ca, cs := h.cs, sz := h.sz, pb := h.pb, pm := h.pm, am := h.am, pf := ?_, af := ?_, ao := ?_, sh := h.sh, ts := h.ts, m := ?_, mc := ?_, ml := ?_, fl := ?_, sl := ?_, ss := ?_, nw := ?_ }
  · exact ⟨(zex _ _ _ _).1, zge h.upf h.pf.2 t1.1 t1.2⟩
  · exact ⟨(zex _ _ _ _).1, zge h.uaf h.af.2 t2.1 t2.2⟩
  · exact ⟨(zex _ _ _ _).1, zge h.uao h.ao.2 t2.1 t2.2⟩
  · exact zxj (zcx _ h.m)
  · show ∀ c ∈ znq k, _
    unfold znq
    rw [zkk]
    exact zxk (fun c hc => h.mc c (zft hc)) (by show k.cd ≤ _; omega) (by show _ < k.cd + k.cp; omega)
  · have e1 := zgt k.sz (TableC.zbc k.m (k.pb + tzI k.pf)) (k.pb + tzI k.pf) (idx kA 2) (gP k.sh)
    have e2 := zen k.m (k.pb + tzI k.pf)
    have e3 := h.ml
    show (znq k).length ≤ n + 1
    unfold znq; omega
  · have := h.fl; show k.fs.length ≤ n + 1; omega
  · show (k.ss ++ [_]).length ≤ 32
    simp; omega
  · intro s hs hlv
    have hs : s ∈ k.ss ++ [⟨k.pb + tzI k.pf, tzI k.af + 1, true⟩] := hs
    rcases List.mem_append.1 hs with hs | hs
    · exact h.ss s hs hlv
    · rw [List.mem_singleton.1 hs]
      exact ⟨⟨by show k.cd ≤ k.pb + tzI k.pf; omega, by show k.pb + tzI k.pf < k.cd + k.cp; omega⟩, by show 1 ≤ tzI k.af + 1; omega, by show tzI k.af + 1 ≤ 16; omega⟩
  · rcases h.nw with x | ⟨x1, x2, x3, x4⟩
    · exact .inl x
    · obtain ⟨y1, y2⟩ := zu3 (k' := zbg k) rfl x1
      exact .inr ⟨y1, x2, by rw [show (zbg k).now = k.now from rfl, y2]; exact x3, by rw [show (zbg k).now = k.now from rfl, y2]; exact x4⟩
theorem Inv.mono {n n' : Nat} {k : Kr} (h : Inv n k) (e : n ≤ n') : Inv n' k := { h with ml := Nat.le_trans h.ml e, fl := Nat.le_trans h.fl e }
theorem zu4 {n : Nat} {k : Kr} (h : Inv n k) (l : List Fe) (e : k.fs.length + l.length ≤ n) : Inv n (zd3 k l) := { h with fl := by show (k.fs ++ l).length ≤ n; simpa using e }
theorem zb3 {n : Nat} {k : Kr} (h : Inv n k) : Inv (n + 1) (zbh k).1 := by
  unfold zbh
  split
  · exact h.mono (by omega)
  · split
    · exact h.mono (by omega)
    · split
      · exact h.mono (by omega)
      · rename_i h1 h2 h3
        have hc := zpp h (by omega) h2 h3
        split
        · refine zu4 hc _ ?_
          have := h.fl
          show k.fs.length + 1 ≤ n + 1; omega
        · exact hc
end Go.Proofs.YtomeaibdedaldaaGreatDoor.SpJ
namespace Go.Proofs.YtomeaibdedaldaaGreatDoor.SpK
open Go.RowKit Bv VaSpec Base MemL RegR Ax MemC PutC MemC3 TzC OkS SpA SpB SpC SpD IterC SpE SpF SpG SpH SpI SpJ
open BitsC PteSpec
set_option maxRecDepth 10000
set_option maxHeartbeats 800000
attribute [local irreducible] Ax.zbn
theorem zsj {n : Nat} {k : Kr} (h : Inv n k) (hn : n ≤ 100000) : Ok 45 [.ag k.ce] (.tu [.ag (zbh k).1.ce, ii (zbh k).2.1, ii (zbh k).2.2]) := by
  have h1 := h.cd
  have h2 := h.cp
  have h3 := h.pb
  have h4 := h.pm
  have h5 := h.ml
  have h6 := h.sl
  have h7 := h.fl
  have h8 := h.sh
  have hpb : 0 ≤ k.pb ∧ k.pb ≤ 268435456 := by omega
  have hpm : 0 ≤ k.pm ∧ k.pm ≤ 64 := by omega
  unfold zbh
  by_cases c1 : 32 ≤ k.ss.length
  · rw [if_pos c1]; exact zpm k c1 (by omega)
  rw [if_neg c1]
  by_cases c2 : k.af = 0
  · rw [if_pos c2]; exact zlo k (by omega) c2
  rw [if_neg c2]
  by_cases c3 : k.pf = 0
  · rw [if_pos c3]; exact zj8 k (by omega) h.uaf h.uao c2 c3 hpb hpm
  rw [if_neg c3]
  have t1 := zcl h.upf h.pf.2 c3
  have w1 := zen k.m (k.pb + tzI k.pf)
  have hP : (gP k.sh).U := ⟨by show (0 : Int) ≤ 0 ∧ (0 : Int) < _; omega, by show 0 ≤ k.sh ∧ k.sh < _; omega, by show (0 : Int) ≤ 0 ∧ (0 : Int) < _; omega⟩
  have hu : Uw (TableC.zbc k.m (k.pb + tzI k.pf)) := fun c hc => z3p h.mc (by omega) (by omega) c (zft hc)
  by_cases c4 : (zdo k.ao (tzI k.af) 1 == 1) = true
  · rw [if_pos c4]
    exact zns k (by omega) h.uaf h.uao c2 h.upf c3 hpb hpm h.m (by omega) hP (zcx _ h.m) hu (by omega) c4 h.ts h.cs.2 (by omega) (by omega)
  · rw [if_neg c4]
    show Ok _ _ (.tu [.ag (zbg k).ce, _, _])
    rw [zfs]
    exact znr k (by omega) h.uaf h.uao c2 h.upf c3 hpb hpm h.m (by omega) hP (zcx _ h.m) hu (by omega) (by simpa using c4) (by omega)
end Go.Proofs.YtomeaibdedaldaaGreatDoor.SpK
namespace Go.Proofs.YtomeaibdedaldaaGreatDoor.SpL
open Go.RowKit Bv VaSpec Base MemL RegR Ax MemC PutC MemC3 TzC OkS SpA SpB SpC SpD IterC SpE
open BitsC PteSpec
set_option maxRecDepth 10000
set_option maxHeartbeats 800000
theorem z01 (w : World) (x0 x1 y0 y1 : Int) :
    (Op.equalIn 10000 204 (.agg #[.int .u64 x0, .int .u64 x1]) (.agg #[.int .u64 y0, .int .u64 y1])).run Tryz.prog w = .ok (x0 == y0 && (x1 == y1 && true)) w := by
  refine PoolC4.zck Tryz.underlying204 (by kernel_rfl) ?_
  refine PoolC4.zar (by rfl) (by go_simp; rfl) (by go_simp; rfl) (by go_simp) ?_
  exact PoolC4.zar (by rfl) (by go_simp; rfl) (by go_simp; rfl) (by go_simp) PoolC4.zb1
theorem z02 (w : World) (x0 x1 x2 x3 y0 y1 y2 y3 : Int) :
    (Op.equalIn 10000 23 (.agg #[.int .i64 x0, .int .i64 x1, .int .i64 x2, .int .i64 x3]) (.agg #[.int .i64 y0, .int .i64 y1, .int .i64 y2, .int .i64 y3])).run Tryz.prog w = .ok (x0 == y0 && (x1 == y1 && (x2 == y2 && (x3 == y3 && true)))) w := by
  refine PoolC4.zck Tryz.underlying23 (by kernel_rfl) ?_
  refine PoolC4.zar (by rfl) (by go_simp; rfl) (by go_simp; rfl) (by go_simp) ?_
  refine PoolC4.zar (by rfl) (by go_simp; rfl) (by go_simp; rfl) (by go_simp) ?_
  refine PoolC4.zar (by rfl) (by go_simp; rfl) (by go_simp; rfl) (by go_simp) ?_
  exact PoolC4.zar (by rfl) (by go_simp; rfl) (by go_simp; rfl) (by go_simp) PoolC4.zb1
theorem z03 (w : World) (x0 x1 x2 y0 y1 y2 : Int) :
    (Op.equalIn 10000 35 (.agg #[.int .u64 x0, .int .u64 x1, .int .u64 x2]) (.agg #[.int .u64 y0, .int .u64 y1, .int .u64 y2])).run Tryz.prog w = .ok (x0 == y0 && (x1 == y1 && (x2 == y2 && true))) w := by
  refine PoolC4.zck Tryz.underlying35 (by kernel_rfl) ?_
  refine PoolC4.zar (by rfl) (by go_simp; rfl) (by go_simp; rfl) (by go_simp) ?_
  refine PoolC4.zar (by rfl) (by go_simp; rfl) (by go_simp; rfl) (by go_simp) ?_
  exact PoolC4.zar (by rfl) (by go_simp; rfl) (by go_simp; rfl) (by go_simp) PoolC4.zb1
theorem zxl (w : World) (x0 x1 y0 y1 : Int) (x2 y2 : Bool) :
    (Op.equalIn 10000 62 (.agg #[.int .u64 x0, .int .u64 x1, .bool x2]) (.agg #[.int .u64 y0, .int .u64 y1, .bool y2])).run Tryz.prog w = .ok (x0 == y0 && (x1 == y1 && (x2 == y2 && true))) w := by
  refine PoolC4.zck Tryz.underlying62 (by kernel_rfl) ?_
  refine PoolC4.zar (by rfl) (by go_simp; rfl) (by go_simp; rfl) (by go_simp) ?_
  refine PoolC4.zar (by rfl) (by go_simp; rfl) (by go_simp; rfl) (by go_simp) ?_
  exact PoolC4.zar (by rfl) (by go_simp; rfl) (by go_simp; rfl) (by go_simp) PoolC4.zb1
theorem zxm (w : World) (x1 x3 y1 y3 : Int) (x0 x2 y0 y2 : Bool) :
    (Op.equalIn 10000 141 (.agg #[.bool x0, .int .u64 x1, .bool x2, .int .u64 x3]) (.agg #[.bool y0, .int .u64 y1, .bool y2, .int .u64 y3])).run Tryz.prog w = .ok (x0 == y0 && (x1 == y1 && (x2 == y2 && (x3 == y3 && true)))) w := by
  refine PoolC4.zck Tryz.underlying141 (by kernel_rfl) ?_
  refine PoolC4.zar (by rfl) (by go_simp; rfl) (by go_simp; rfl) (by go_simp) ?_
  refine PoolC4.zar (by rfl) (by go_simp; rfl) (by go_simp; rfl) (by go_simp) ?_
  refine PoolC4.zar (by rfl) (by go_simp; rfl) (by go_simp; rfl) (by go_simp) ?_
  exact PoolC4.zar (by rfl) (by go_simp; rfl) (by go_simp; rfl) (by go_simp) PoolC4.zb1
theorem z04 (w : World) : (Op.equalIn 10000 154 (.agg zS.toArray) (.agg zS.toArray)).run Tryz.prog w = .ok true w := by kernel_rfl
theorem znu {l : List (Int × Int)} {k : Nat} {c : Int × Int} (h : l[k]? = some c) : ((fl l).drop (k * 2)).take 2 = [.int .u64 c.1, .int .u64 c.2] := zd7 (fun c : Int × Int => [.int .u64 c.1, .int .u64 c.2]) 2 (fun _ => rfl) l _ c h
theorem zxn (sz : Int) (m : List (Int × Int)) (hl : m.length ≤ 1000000) : Ok 62 [zb2 sz m, zb2 sz m] (.m (ib true)) := by
  refine zah 38 Tryz.func62 rfl rfl rfl rfl ?_ GG.to
  intro W A hG
  repeat (first | (refine zaj rfl ?_; first | refine zak ?_) | (refine hK _ ?_; clear hK K) | refine zac rfl ?_ | refine zae rfl rfl ?_ | refine zad ?_ | refine zai ?_ | refine zab (fun K hK => ?_))
  refine za3 (α := Nat) (fun k => k ≤ m.length) (fun k => St.of [(2, .m (.c (.p 2 0))), (3, .m (.c (.p 3 0))), (5, .m (ii k))] [(2, .live (.box [cu sz, .s m.length 2 (fl m)])), (3, .live (.box [cu sz, .s m.length 2 (fl m)]))]) (fun k => m.length - k) 0 (by omega) (zax _ _ ⟨rfl, rfl, rfl, trivial⟩ ⟨rfl, rfl, trivial⟩ rfl) ?_
  intro k hk
  by_cases hlt : k < m.length
  · obtain ⟨c, hc⟩ : ∃ c, m[k]? = some c := ⟨_, List.getElem?_eq_getElem hlt⟩
    have hx := znu hc
    have he : ∀ w, (Op.equalIn 10000 204 (.agg #[.int .u64 c.1, .int .u64 c.2]) (.agg #[.int .u64 c.1, .int .u64 c.2])).run Tryz.prog w = .ok true w := fun w => by rw [z01]; simp
    repeat (first | (refine zaj rfl ?_; first | refine zak ?_ | refine gdr (zdf (us := [.int .u64 c.1, .int .u64 c.2]) (vs := [.int .u64 c.1, .int .u64 c.2]) he (by kernel_rfl) rfl rfl rfl rfl) ?_) | (refine hK _ ?_; clear hK K) | refine zac rfl ?_ | refine zas (by kernel_rfl) (by kernel_rfl) rfl ?_ | refine zag rfl rfl ?_ | refine zae rfl rfl ?_ | refine zad ?_ | refine zai ?_ | refine zab (fun K hK => ?_))
    exact ⟨k + 1, by omega, by omega, zax _ _ ⟨rfl, rfl, rfl, trivial⟩ ⟨rfl, rfl, trivial⟩ rfl⟩
  · skip
    repeat (first | (refine zaj rfl ?_; first | refine zak ?_) | (refine hK _ ?_; clear hK K) | (rename_i K1 hK1; refine hK1 _ ?_; clear hK hK1; clear K) | refine zac rfl ?_ | exact zaf (show zav _ _ _ = some _ by kernel_rfl) | refine zae rfl rfl ?_ | refine zan ?_ | refine zab (fun K hK => ?_))
theorem zid (n : Nat) (hn : n ≤ 16) : Ok 127 [.ag [.s n 45 (zsL n)], .ag [.s n 45 (zsL n)]] (.m (ib true)) := by
  refine zah 31 Tryz.func127 rfl rfl rfl rfl ?_ GG.to
  intro W A hG
  repeat (first | (refine zaj rfl ?_; first | refine zak ?_) | (refine hK _ ?_; clear hK K) | refine zac rfl ?_ | refine zae rfl rfl ?_ | refine zad ?_ | refine zai ?_ | refine zab (fun K hK => ?_))
  refine za3 (α := Nat) (fun k => k ≤ n) (fun k => St.of [(2, .m (.c (.p 2 0))), (3, .m (.c (.p 3 0))), (5, .m (ii k))] [(2, .live (.box [.s n 45 (zsL n)])), (3, .live (.box [.s n 45 (zsL n)]))]) (fun k => n - k) 0 (by omega) (zax _ _ ⟨rfl, rfl, rfl, trivial⟩ ⟨rfl, rfl, trivial⟩ rfl) ?_
  intro k hk
  by_cases hlt : k < n
  · have hx : ((zsL n).drop (k * 45)).take 45 = zS := zul n k hlt
    repeat (first | (refine zaj rfl ?_; first | refine zak ?_ | refine gdr (zdf (us := zS) (vs := zS) z04 (by kernel_rfl) rfl rfl rfl rfl) ?_) | (refine hK _ ?_; clear hK K) | refine zac rfl ?_ | refine zas (by kernel_rfl) (by kernel_rfl) rfl ?_ | refine zag rfl rfl ?_ | refine zae rfl rfl ?_ | refine zad ?_ | refine zai ?_ | refine zab (fun K hK => ?_))
    exact ⟨k + 1, by omega, by omega, zax _ _ ⟨rfl, rfl, rfl, trivial⟩ ⟨rfl, rfl, trivial⟩ rfl⟩
  · skip
    repeat (first | (refine zaj rfl ?_; first | refine zak ?_) | (refine hK _ ?_; clear hK K) | (rename_i K1 hK1; refine hK1 _ ?_; clear hK hK1; clear K) | refine zac rfl ?_ | exact zaf (show zav _ _ _ = some _ by kernel_rfl) | refine zae rfl rfl ?_ | refine zan ?_ | refine zab (fun K hK => ?_))
theorem zxo (l : List Fe) (hl : l.length ≤ 1000000) : Ok 64 [.c (.s l.length 4 (flF l)), .c (.s l.length 4 (flF l))] (.m (ib true)) := by
  refine zah 26 Tryz.func64 rfl rfl rfl rfl ?_ GG.to
  intro W A hG
  repeat (first | (refine zaj rfl ?_; first | refine zak ?_) | (refine hK _ ?_; clear hK K) | refine zac rfl ?_ | refine zae rfl rfl ?_ | refine zad ?_ | refine zai ?_ | refine zab (fun K hK => ?_))
  refine za3 (α := Nat) (fun k => k ≤ l.length) (fun k => St.of [(0, .m (.c (.s l.length 4 (flF l)))), (1, .m (.c (.s l.length 4 (flF l)))), (5, .m (ii k))] []) (fun k => l.length - k) 0 (by omega) (zax _ _ ⟨rfl, rfl, rfl, trivial⟩ trivial rfl) ?_
  intro k hk
  by_cases hlt : k < l.length
  · obtain ⟨f, hf⟩ : ∃ f, l[k]? = some f := ⟨_, List.getElem?_eq_getElem hlt⟩
    have hx := zun hf
    have he : ∀ w, (Op.equalIn 10000 141 (.agg #[.bool f.ha, .int .u64 f.ad, .bool f.hs, .int .u64 f.sn]) (.agg #[.bool f.ha, .int .u64 f.ad, .bool f.hs, .int .u64 f.sn])).run Tryz.prog w = .ok true w := fun w => by rw [zxm]; simp
    repeat (first | (refine zaj rfl ?_; first | refine zak ?_ | refine gdr (zdf (us := [.bool f.ha, .int .u64 f.ad, .bool f.hs, .int .u64 f.sn]) (vs := [.bool f.ha, .int .u64 f.ad, .bool f.hs, .int .u64 f.sn]) he (by kernel_rfl) rfl rfl rfl rfl) ?_) | (refine hK _ ?_; clear hK K) | refine zac rfl ?_ | refine zas (by kernel_rfl) (by kernel_rfl) rfl ?_ | refine zag rfl rfl ?_ | refine zae rfl rfl ?_ | refine zad ?_ | refine zai ?_ | refine zab (fun K hK => ?_))
    exact ⟨k + 1, by omega, by omega, zax _ _ ⟨rfl, rfl, rfl, trivial⟩ trivial rfl⟩
  · skip
    repeat (first | (refine zaj rfl ?_; first | refine zak ?_) | (refine hK _ ?_; clear hK K) | (rename_i K1 hK1; refine hK1 _ ?_; clear hK hK1; clear K) | refine zac rfl ?_ | exact zaf (show zav _ _ _ = some _ by kernel_rfl) | refine zae rfl rfl ?_ | refine zan ?_ | refine zab (fun K hK => ?_))
def z3s (n : Nat) (ts : List Value) (sm sa sp pr : Int) (su mx : Bool) (vic : Int) : List Ce := [.s n 45 ts, cu sm, cu sa, cu sp, ci pr, cb su, cb mx, ci vic]
theorem zxp (n : Nat) (hn : n ≤ 16) (sm sa sp pr : Int) (su mx : Bool) (vic : Int) : Ok 63 [.ag (z3s n (zsL n) sm sa sp pr su mx vic), .ag (z3s n (zsL n) sm sa sp pr su mx vic)] (.m (ib true)) := by
  refine zah 45 Tryz.func63 rfl rfl rfl rfl ?_ GG.to
  intro W A hG
  have he : ∀ w, (Op.equalIn 10000 35 (.agg #[.int .u64 sm, .int .u64 sa, .int .u64 sp]) (.agg #[.int .u64 sm, .int .u64 sa, .int .u64 sp])).run Tryz.prog w = .ok true w := fun w => by rw [z03]; simp
  cases su <;> cases mx
  · skip
    repeat (first | (refine zaj rfl ?_; first | refine zak ?_ | refine gdr (zaa rfl rfl rfl (zid n hn) (by kernel_rfl)) ?_ | refine gdr (zcj (us := [.int .u64 sm, .int .u64 sa, .int .u64 sp]) (vs := [.int .u64 sm, .int .u64 sa, .int .u64 sp]) he (by kernel_rfl) rfl rfl rfl rfl) ?_) | (refine hK _ ?_; clear hK K) | refine zac rfl ?_ | exact zaf (show zav _ _ _ = some _ by kernel_rfl) | refine zab (fun K hK => ?_))
  · skip
    repeat (first | (refine zaj rfl ?_; first | refine zak ?_ | refine gdr (zaa rfl rfl rfl (zid n hn) (by kernel_rfl)) ?_ | refine gdr (zcj (us := [.int .u64 sm, .int .u64 sa, .int .u64 sp]) (vs := [.int .u64 sm, .int .u64 sa, .int .u64 sp]) he (by kernel_rfl) rfl rfl rfl rfl) ?_) | (refine hK _ ?_; clear hK K) | refine zac rfl ?_ | exact zaf (show zav _ _ _ = some _ by kernel_rfl) | refine zab (fun K hK => ?_))
  · skip
    repeat (first | (refine zaj rfl ?_; first | refine zak ?_ | refine gdr (zaa rfl rfl rfl (zid n hn) (by kernel_rfl)) ?_ | refine gdr (zcj (us := [.int .u64 sm, .int .u64 sa, .int .u64 sp]) (vs := [.int .u64 sm, .int .u64 sa, .int .u64 sp]) he (by kernel_rfl) rfl rfl rfl rfl) ?_) | (refine hK _ ?_; clear hK K) | refine zac rfl ?_ | exact zaf (show zav _ _ _ = some _ by kernel_rfl) | refine zab (fun K hK => ?_))
  · skip
    repeat (first | (refine zaj rfl ?_; first | refine zak ?_ | refine gdr (zaa rfl rfl rfl (zid n hn) (by kernel_rfl)) ?_ | refine gdr (zcj (us := [.int .u64 sm, .int .u64 sa, .int .u64 sp]) (vs := [.int .u64 sm, .int .u64 sa, .int .u64 sp]) he (by kernel_rfl) rfl rfl rfl rfl) ?_) | (refine hK _ ?_; clear hK K) | refine zac rfl ?_ | exact zaf (show zav _ _ _ = some _ by kernel_rfl) | refine zab (fun K hK => ?_))
end Go.Proofs.YtomeaibdedaldaaGreatDoor.SpL
namespace Go.Proofs.YtomeaibdedaldaaGreatDoor.SpM
open Go.RowKit Bv VaSpec Base MemL RegR Ax MemC PutC MemC3 TzC OkS SpA SpB SpC SpD IterC SpE SpL
open BitsC PteSpec
set_option maxRecDepth 10000
set_option maxHeartbeats 800000
attribute [local irreducible] Ax.zbn
theorem flS_one (l : List Sp) : (flS l).all (·.oneCell') = true := by
  rw [List.all_eq_true]
  intro v hv
  obtain ⟨f, _, hv⟩ := List.mem_flatMap.1 hv
  exact List.all_eq_true.1 (show f.vs.all (·.oneCell') = true from rfl) v hv
theorem z05 (k : Kr) (ht : k.ts = zsL k.tn) (hn : k.tn ≤ 16) (hm : k.m.length ≤ 1000000) (hs : k.ss.length ≤ 1000000) (hf : k.fs.length ≤ 1000000) : Ok 16 [.ag k.ce, .ag k.ce] (.m (ib true)) := by
  have s1 := zxn k.sz k.m hm
  have s2 := zxp k.tn hn k.sm k.sa k.sp k.priv k.su k.mx k.vic
  rw [← ht] at s2
  have s3 := zxo k.fs hf
  have e1 : ∀ w, (Op.equalIn 10000 23 (.agg #[.int .i64 k.cd, .int .i64 k.cp, .int .i64 k.ca, .int .i64 k.cs]) (.agg #[.int .i64 k.cd, .int .i64 k.cp, .int .i64 k.ca, .int .i64 k.cs])).run Tryz.prog w = .ok true w := fun w => by rw [z02]; simp
  have e2 : ∀ w, (Op.equalIn 10000 39 (.agg #[.int .u64 k.pb, .int .i64 k.pm, .int .u64 k.pf]) (.agg #[.int .u64 k.pb, .int .i64 k.pm, .int .u64 k.pf])).run Tryz.prog w = .ok true w := fun w => by rw [PoolC4.zz7 9998]; simp
  have e3 : ∀ w, (Op.equalIn 10000 41 (.agg #[.int .i64 k.am, .int .u64 k.af, .int .u64 k.ao]) (.agg #[.int .i64 k.am, .int .u64 k.af, .int .u64 k.ao])).run Tryz.prog w = .ok true w := fun w => by rw [zlj]; simp
  refine zah 90 Tryz.func16 rfl rfl rfl rfl ?_ GG.to
  intro W A hG
  repeat (first | (refine zaj rfl ?_; first | refine zak ?_ | refine gdr (zaa rfl rfl rfl (s1) (by kernel_rfl)) ?_ | refine gdr (zaa rfl rfl rfl (s2) (by kernel_rfl)) ?_ | refine gdr (zaa rfl rfl rfl (s3) (by kernel_rfl)) ?_ | refine gdr (zdf (us := [.int .i64 k.cd, .int .i64 k.cp, .int .i64 k.ca, .int .i64 k.cs]) (vs := [.int .i64 k.cd, .int .i64 k.cp, .int .i64 k.ca, .int .i64 k.cs]) e1 (by kernel_rfl) rfl rfl rfl rfl) ?_ | refine gdr (zdf (us := [.int .u64 k.pb, .int .i64 k.pm, .int .u64 k.pf]) (vs := [.int .u64 k.pb, .int .i64 k.pm, .int .u64 k.pf]) e2 (by kernel_rfl) rfl rfl rfl rfl) ?_ | refine gdr (zdf (us := [.int .i64 k.am, .int .u64 k.af, .int .u64 k.ao]) (vs := [.int .i64 k.am, .int .u64 k.af, .int .u64 k.ao]) e3 (by kernel_rfl) rfl rfl rfl rfl) ?_) | (refine hK _ ?_; clear hK K) | refine zac rfl ?_ | refine zae rfl rfl ?_ | refine zad ?_ | refine zai ?_ | refine zab (fun K hK => ?_))
  refine za3 (α := Nat) (fun i => i ≤ k.ss.length) (fun i => St.of [(2, .m (.c (.p 2 0))), (3, .m (.c (.p 3 0))), (5, .m (ii i))] [(2, .live (.box k.ce)), (3, .live (.box k.ce))]) (fun i => k.ss.length - i) 0 (by omega) (sbq _ _) ?_
  intro i hi
  by_cases hlt : i < k.ss.length
  · obtain ⟨s, hs⟩ : ∃ s, k.ss[i]? = some s := ⟨_, List.getElem?_eq_getElem hlt⟩
    have hx : ((flS k.ss).drop (i * 3)).take 3 = [.int .u64 s.root, .int .u64 s.asid, .bool s.live] := zd7 Sp.vs 3 (fun _ => rfl) k.ss _ s hs
    have he : ∀ w, (Op.equalIn 10000 62 (.agg #[.int .u64 s.root, .int .u64 s.asid, .bool s.live]) (.agg #[.int .u64 s.root, .int .u64 s.asid, .bool s.live])).run Tryz.prog w = .ok true w := fun w => by rw [zxl]; simp
    repeat (first | (refine zaj rfl ?_; first | refine zak ?_ | refine gdr (zdf (us := [.int .u64 s.root, .int .u64 s.asid, .bool s.live]) (vs := [.int .u64 s.root, .int .u64 s.asid, .bool s.live]) he (by kernel_rfl) rfl rfl rfl rfl) ?_) | (refine hK _ ?_; clear hK K) | refine zac rfl ?_ | refine zas (by kernel_rfl) (by kernel_rfl) rfl ?_ | refine zag rfl rfl ?_ | refine zae rfl rfl ?_ | refine zad ?_ | refine zai ?_ | refine zab (fun K hK => ?_))
    exact ⟨i + 1, by omega, by omega, zax _ _ ⟨rfl, rfl, rfl, trivial⟩ ⟨rfl, rfl, trivial⟩ rfl⟩
  · skip
    repeat (first | (refine zaj rfl ?_; first | refine zak ?_) | (refine hK _ ?_; clear hK K) | (rename_i K1 hK1; refine hK1 _ ?_; clear hK hK1; clear K) | refine zac rfl ?_ | exact zaf (show zav _ _ _ = some _ by kernel_rfl) | refine zae rfl rfl ?_ | refine zan ?_ | refine zab (fun K hK => ?_))
end Go.Proofs.YtomeaibdedaldaaGreatDoor.SpM
namespace Go.Proofs.YtomeaibdedaldaaGreatDoor.SpN
open Go.RowKit Bv VaSpec Base MemL RegR Ax MemC PutC MemC3 TzC OkS SpA SpB SpC SpD IterC SpE SpF SpG SpH SpI SpJ SpK
open BitsC PteSpec
set_option maxRecDepth 10000
set_option maxHeartbeats 800000
attribute [local irreducible] Ax.zbn
theorem zgu {P : Program} {G : World → Prop} {k : FuncId} {args : List Cm} {r r' : AV} (h : zbn P G k args r) (hc : zek r' = true) (hlt : r.lt r') : zbn P G k args r' := by
  unfold zbn at h ⊢
  obtain ⟨h1, h2, h3⟩ := h
  exact ⟨hc, h2, fun A W vs hG hR => (h3 A W vs hG hR).mono fun e w' ⟨v, he, hb, hr⟩ => ⟨v, he, hb, hlt _ _ hr⟩⟩
def ltC (c c' : Ce) : Prop := ∀ E v, c.R E v → c'.R E v
theorem ltC.rf (c : Ce) : ltC c c := fun _ _ h => h
theorem ltC.nil (k : Nat) : ltC (.v (.slice none 0 0)) (.s 0 k []) := fun E v h => by
  have h : v = .slice none 0 0 := h
  subst h
  exact ⟨⟨by simp, .inl ⟨rfl, rfl⟩⟩, fun a l c e => by cases e⟩
theorem zpq {E : En} : ∀ (cs cs' : List Ce) (vs : List Value), All2 ltC cs cs' → All2 (Ce.R E) cs vs → All2 (Ce.R E) cs' vs
  | [], [], _, _, h => h
  | c :: cs, c' :: cs', [], _, h => h.elim
  | c :: cs, c' :: cs', v :: vs, k, h => ⟨k.1 _ _ h.1, zpq cs cs' vs k.2 h.2⟩
  | [], _ :: _, _, k, _ => k.elim
  | _ :: _, [], _, k, _ => k.elim
theorem z3t {cs cs' : List Ce} {l : List Cm} (h : All2 ltC cs cs') : AV.lt (.tu (.ag cs :: l)) (.tu (.ag cs' :: l)) := fun E v ⟨vs, e, k⟩ => by
  refine ⟨vs, e, ?_⟩
  generalize vs.toList = xs at k
  cases xs with
  | nil => exact k.elim
  | cons x xs =>
    obtain ⟨⟨us, e', k1⟩, k2⟩ := k
    exact ⟨⟨us, e', zpq _ _ _ h k1⟩, k2⟩
theorem m_lt {cs cs' : List Ce} (h : All2 ltC cs cs') : AV.lt (.m (.ag cs)) (.m (.ag cs')) := fun E v ⟨vs, e, k⟩ => ⟨vs, e, zpq _ _ _ h k⟩
def zez (a b c d : Int) : Bool := decide (1 ≤ a) && (decide (a ≤ 524288) && (decide (1 ≤ b) && (decide (b ≤ 64) && (decide (1 ≤ c) && (decide (c ≤ 16) && (decide (0 ≤ d) && decide (d ≤ 16)))))))
theorem zcz {a b c d : Int} : zez a b c d = true ↔ (1 ≤ a ∧ a ≤ 524288) ∧ (1 ≤ b ∧ b ≤ 64) ∧ (1 ≤ c ∧ c ≤ 16) ∧ (0 ≤ d ∧ d ≤ 16) := by
  unfold zez; simp only [Bool.and_eq_true, decide_eq_true_eq]; omega
theorem zco {a b c d : Int} (h : ¬ ((1 ≤ a ∧ a ≤ 524288) ∧ (1 ≤ b ∧ b ≤ 64) ∧ (1 ≤ c ∧ c ≤ 16) ∧ (0 ≤ d ∧ d ≤ 16))) : zez a b c d = false := by
  cases e : zez a b c d with
  | false => rfl
  | true => exact absurd (zcz.1 e) h
def zlr (a b c d : Int) : Cm := .ag [ci a, ci b, ci c, ci d]
theorem z06 (a b c d : Int) : Ok 12 [zlr a b c d] (.m (ib (zez a b c d))) := by
  by_cases h1 : 1 ≤ a
  · by_cases h2 : a ≤ 524288
    · by_cases h3 : 1 ≤ b
      · by_cases h4 : b ≤ 64
        · by_cases h5 : 1 ≤ c
          · by_cases h6 : c ≤ 16
            · by_cases h7 : 0 ≤ d
              · by_cases h8 : d ≤ 16
                · rw [zcz.2 (by omega)]
                  refine zah 41 Tryz.func12 rfl rfl rfl rfl ?_ GG.to
                  intro W A hG
                  repeat (first | (refine zaj rfl ?_; first | refine zak ?_) | (refine hK _ ?_; clear hK K) | refine zac rfl ?_ | exact zaf (show zav _ _ _ = some _ by kernel_rfl) | refine zab (fun K hK => ?_))
                · rw [zco (by omega)]
                  refine zah 41 Tryz.func12 rfl rfl rfl rfl ?_ GG.to
                  intro W A hG
                  repeat (first | (refine zaj rfl ?_; first | refine zak ?_) | (refine hK _ ?_; clear hK K) | refine zac rfl ?_ | exact zaf (show zav _ _ _ = some _ by kernel_rfl) | refine zab (fun K hK => ?_))
              · rw [zco (by omega)]
                refine zah 41 Tryz.func12 rfl rfl rfl rfl ?_ GG.to
                intro W A hG
                repeat (first | (refine zaj rfl ?_; first | refine zak ?_) | (refine hK _ ?_; clear hK K) | refine zac rfl ?_ | exact zaf (show zav _ _ _ = some _ by kernel_rfl) | refine zab (fun K hK => ?_))
            · rw [zco (by omega)]
              refine zah 41 Tryz.func12 rfl rfl rfl rfl ?_ GG.to
              intro W A hG
              repeat (first | (refine zaj rfl ?_; first | refine zak ?_) | (refine hK _ ?_; clear hK K) | refine zac rfl ?_ | exact zaf (show zav _ _ _ = some _ by kernel_rfl) | refine zab (fun K hK => ?_))
          · rw [zco (by omega)]
            refine zah 41 Tryz.func12 rfl rfl rfl rfl ?_ GG.to
            intro W A hG
            repeat (first | (refine zaj rfl ?_; first | refine zak ?_) | (refine hK _ ?_; clear hK K) | refine zac rfl ?_ | exact zaf (show zav _ _ _ = some _ by kernel_rfl) | refine zab (fun K hK => ?_))
        · rw [zco (by omega)]
          refine zah 41 Tryz.func12 rfl rfl rfl rfl ?_ GG.to
          intro W A hG
          repeat (first | (refine zaj rfl ?_; first | refine zak ?_) | (refine hK _ ?_; clear hK K) | refine zac rfl ?_ | exact zaf (show zav _ _ _ = some _ by kernel_rfl) | refine zab (fun K hK => ?_))
      · rw [zco (by omega)]
        refine zah 41 Tryz.func12 rfl rfl rfl rfl ?_ GG.to
        intro W A hG
        repeat (first | (refine zaj rfl ?_; first | refine zak ?_) | (refine hK _ ?_; clear hK K) | refine zac rfl ?_ | exact zaf (show zav _ _ _ = some _ by kernel_rfl) | refine zab (fun K hK => ?_))
    · rw [zco (by omega)]
      refine zah 41 Tryz.func12 rfl rfl rfl rfl ?_ GG.to
      intro W A hG
      repeat (first | (refine zaj rfl ?_; first | refine zak ?_) | (refine hK _ ?_; clear hK K) | refine zac rfl ?_ | exact zaf (show zav _ _ _ = some _ by kernel_rfl) | refine zab (fun K hK => ?_))
  · rw [zco (by omega)]
    refine zah 41 Tryz.func12 rfl rfl rfl rfl ?_ GG.to
    intro W A hG
    repeat (first | (refine zaj rfl ?_; first | refine zak ?_) | (refine hK _ ?_; clear hK K) | refine zac rfl ?_ | exact zaf (show zav _ _ _ = some _ by kernel_rfl) | refine zab (fun K hK => ?_))
theorem zdy {n a b : Int} (h : a ≤ n ∧ n ≤ b) : Ok 121 [ii n, ii a, ii b] (.m (ib true)) := by
  have := zne n a b
  rwa [show zdl n a b = true by simp [zdl, h.1, h.2]] at this
theorem zjf {n a b : Int} (h : ¬ (a ≤ n ∧ n ≤ b)) : Ok 121 [ii n, ii a, ii b] (.m (ib false)) := by
  have := zne n a b
  rwa [show zdl n a b = false by cases e : zdl n a b with | false => rfl | true => (simp [zdl] at e; exact absurd e h)] at this
theorem z07 (a b c d : Int) : Ok 94 [zlr a b c d] (.m (ib (zez a b c d))) := by
  by_cases h1 : 1 ≤ a ∧ a ≤ 524288
  · by_cases h2 : 1 ≤ b ∧ b ≤ 64
    · by_cases h3 : 1 ≤ c ∧ c ≤ 16
      · by_cases h4 : 0 ≤ d ∧ d ≤ 16
        · rw [zcz.2 (by omega)]
          refine zah 21 Tryz.func94 rfl rfl rfl rfl ?_ GG.to
          intro W A hG
          repeat (first | (refine zaj rfl ?_; first | refine zak ?_ | refine gdr (zaa rfl rfl rfl (zdy h1) rfl) ?_ | refine gdr (zaa rfl rfl rfl (zdy h2) rfl) ?_ | refine gdr (zaa rfl rfl rfl (zdy h3) rfl) ?_ | refine gdr (zaa rfl rfl rfl (zdy h4) rfl) ?_) | (refine hK _ ?_; clear hK K) | refine zac rfl ?_ | exact zaf (show zav _ _ _ = some _ by kernel_rfl) | refine zab (fun K hK => ?_))
        · rw [zco (by omega)]
          refine zah 21 Tryz.func94 rfl rfl rfl rfl ?_ GG.to
          intro W A hG
          repeat (first | (refine zaj rfl ?_; first | refine zak ?_ | refine gdr (zaa rfl rfl rfl (zdy h1) rfl) ?_ | refine gdr (zaa rfl rfl rfl (zdy h2) rfl) ?_ | refine gdr (zaa rfl rfl rfl (zdy h3) rfl) ?_ | refine gdr (zaa rfl rfl rfl (zjf h4) rfl) ?_) | (refine hK _ ?_; clear hK K) | refine zac rfl ?_ | exact zaf (show zav _ _ _ = some _ by kernel_rfl) | refine zab (fun K hK => ?_))
      · rw [zco (by omega)]
        refine zah 21 Tryz.func94 rfl rfl rfl rfl ?_ GG.to
        intro W A hG
        repeat (first | (refine zaj rfl ?_; first | refine zak ?_ | refine gdr (zaa rfl rfl rfl (zdy h1) rfl) ?_ | refine gdr (zaa rfl rfl rfl (zdy h2) rfl) ?_ | refine gdr (zaa rfl rfl rfl (zjf h3) rfl) ?_) | (refine hK _ ?_; clear hK K) | refine zac rfl ?_ | exact zaf (show zav _ _ _ = some _ by kernel_rfl) | refine zab (fun K hK => ?_))
    · rw [zco (by omega)]
      refine zah 21 Tryz.func94 rfl rfl rfl rfl ?_ GG.to
      intro W A hG
      repeat (first | (refine zaj rfl ?_; first | refine zak ?_ | refine gdr (zaa rfl rfl rfl (zdy h1) rfl) ?_ | refine gdr (zaa rfl rfl rfl (zjf h2) rfl) ?_) | (refine hK _ ?_; clear hK K) | refine zac rfl ?_ | exact zaf (show zav _ _ _ = some _ by kernel_rfl) | refine zab (fun K hK => ?_))
  · rw [zco (by omega)]
    refine zah 21 Tryz.func94 rfl rfl rfl rfl ?_ GG.to
    intro W A hG
    repeat (first | (refine zaj rfl ?_; first | refine zak ?_ | refine gdr (zaa rfl rfl rfl (zjf h1) rfl) ?_) | (refine hK _ ?_; clear hK K) | refine zac rfl ?_ | exact zaf (show zav _ _ _ = some _ by kernel_rfl) | refine zab (fun K hK => ?_))
def zcu (n : Int) : Int := zdo 18446744073709551615 0 n
theorem zjg {n : Int} (h0 : 0 ≤ n) (h : n ≤ 64) : 0 ≤ zcu n ∧ zcu n < 2 ^ n.toNat := by
  refine ⟨(zt2 _ _ _).1, ?_⟩
  unfold zcu
  rw [zcm _ _ _ ⟨by omega, by omega⟩ h]
  exact Int.emod_lt_of_pos _ (Int.pow_pos (by omega))
theorem zls {n : Int} (h0 : 1 ≤ n) (h : n ≤ 64) : zcu n ≠ 0 := by
  unfold zcu
  rw [zcm _ _ _ ⟨by omega, by omega⟩ h]
  intro e
  obtain ⟨k, hk⟩ : ∃ k, n.toNat = k + 1 := ⟨n.toNat - 1, by omega⟩
  have := Int.emod_emod_of_dvd (18446744073709551615 / 2 ^ (0 : Int).toNat) (show (2 : Int) ∣ 2 ^ n.toNat from ⟨2 ^ k, by rw [hk, Int.pow_succ, Int.mul_comm]⟩)
  rw [e] at this
  revert this; decide
def zoc (a b c : Int) (n : Nat) : Kr := { cd := a, cp := b, ca := c, cs := n, sz := (a + b) * 4096, m := [], tn := n, ts := zsL n, sm := 0, sa := 0, sp := 0, priv := 0, su := false, mx := false, vic := -1, pb := a, pm := b, pf := zbw (zcu b) (tzI (zcu b)) 1 0, am := c, af := zcu c, ao := 0, ss := [], now := -1, sh := a + tzI (zcu b), fs := [] }
theorem z08 (sz : Int) (h : 0 ≤ sz) (h1 : sz ≤ 1099511627776) (h2 : sz % 4096 = 0) : Ok 95 [iu sz] (.tu [zb2 sz [], ii 0]) := by
  have hz : U sz := ⟨h, by omega⟩
  have := zuf sz hz
  have e : MemNewC.zkb sz = true := by
    unfold MemNewC.zkb zem
    rw [if_neg (by omega), h2, decide_eq_true h1]; rfl
  unfold MemNewC.newV at this
  rw [if_pos e] at this
  exact zgu this rfl (z3t (cs := [cu sz, .v (.slice none 0 0)]) ⟨ltC.rf _, ltC.nil 2, trivial⟩)
theorem zxq (b m : Int) (hb : 0 ≤ b ∧ b ≤ 268435456) (hm : 0 ≤ m ∧ m ≤ 64) : Ok 96 [iu b, ii m] (.tu [.ag [cu b, ci m, cu (zcu m)], ii 0]) := by
  have := zsb b m ⟨hb.1, by omega⟩ hm
  have e : PoolC2.zkc b m 0 = true := by
    unfold PoolC2.zkc
    rw [decide_eq_true hm.1, decide_eq_true hm.2, decide_eq_true hb.2, zcm _ _ _ ⟨by omega, by omega⟩ hm.2]
    simp
  unfold PoolC2.newV at this
  rw [if_pos e] at this
  exact this
theorem zxr (m : Int) (hm : 1 ≤ m ∧ m ≤ 16) : Ok 97 [ii m] (.tu [.ag [ci m, cu (zcu m), cu 0], ii 0]) := by
  have := zsc m
  have e : AsidC2.newV m = .tuple #[.agg #[.int .i64 m, .int .u64 (zcu m), .int .u64 0], .int .i64 0] := by
    unfold AsidC2.newV
    rw [if_pos]; rfl
    unfold AsidC.ze6 AsidC.ze5
    rw [decide_eq_true hm.1, decide_eq_true hm.2, zcm _ _ _ ⟨by omega, by omega⟩ (by omega)]
    simp
  rw [e] at this
  exact this
theorem zset : ∃ z, (Tryz.prog.info? 154).bind (·.zero) = some z ∧ z.cells.toList = zS := by
  refine ⟨.agg zS.toArray, by kernel_rfl, ?_⟩
  show zS.toArray.toList = zS
  rfl
theorem z09 (n : Nat) : ∀ i : Nat, i < n * 45 → (zsL n)[i]? = zS[i % 45]? := by
  induction n with
  | zero => intro i h; omega
  | succ n ih =>
    intro i h
    have e : zsL (n + 1) = zS ++ zsL n := rfl
    have l : zS.length = 45 := rfl
    rw [e]
    by_cases hi : i < 45
    · rw [List.getElem?_append_left (by omega), Nat.mod_eq_of_lt hi]
    · rw [List.getElem?_append_right (by omega), l, ih (i - 45) (by omega), Nat.mod_eq_sub_mod (by omega : 45 ≤ i)]
theorem z1a (n : Nat) : (zsL n).length = n * 45 := by
  induction n with
  | zero => rfl
  | succ n ih =>
    have e : zsL (n + 1) = zS ++ zsL n := rfl
    have l : zS.length = 45 := rfl
    rw [e, List.length_append, ih, l]; omega
theorem zu5 (n : Nat) (z : Value) (h : z.cells.toList = zS) : (madeCells z.cells (n * 45)).toList = zsL n := by
  have l : z.cells.size = 45 := by rw [← Array.length_toList, h]; rfl
  apply List.ext_getElem?
  intro i
  by_cases hi : i < n * 45
  · rw [z09 n i hi, ← h]
    simp [madeCells, hi, l, List.getElem?_eq_getElem, Nat.mod_lt]
  · rw [List.getElem?_eq_none (by rw [Array.length_toList, size_madeCells]; omega), List.getElem?_eq_none (by rw [z1a]; omega)]
theorem z1b (n : Nat) (hn : n ≤ 16) : Ok 98 [ii n] (.tu [.ag [.s n 45 (zsL n)], ii 0]) := by
  obtain ⟨z, hz, hc⟩ := zset
  have := zug n hn z hz
  rwa [zu5 n z hc] at this
theorem z1c (a b c : Int) (n : Nat) (h : zez a b c n = true) : Ok 43 [zlr a b c n] (.tu [.ag (zoc a b c n).ce, ii 0]) := by
  obtain ⟨ha, hb, hc, hn⟩ := zcz.1 h
  have hm := z07 a b c n
  rw [h] at hm
  have l1 := zjg (n := b) (by omega) (by omega)
  have l2 := zls (n := b) (by omega) (by omega)
  have h1 := z08 ((a + b) * 4096) (by omega) (by omega) (by omega)
  have h2 := zxq a b (by omega) (by omega)
  have h3 := zxr c hc
  have h4 := z1b n (by omega)
  have h5 := zia ((a + b) * 4096) [] a b (zcu b) (by omega) (by omega) (zgs l1.1 l1.2 (by omega)) l2 List.Pairwise.nil (by simp)
  have key : Ok 43 [zlr a b c n] (.tu [.ag [ci a, ci b, ci c, ci n, cu ((a + b) * 4096), .s 0 2 [], .s n 45 (zsL n), cu 0, cu 0, cu 0, ci 0, cb false, cb false, ci (-1), cu a, ci b, cu (zbw (zcu b) (tzI (zcu b)) 1 0), ci c, cu (zcu c), cu 0, .v (.slice none 0 0), ci (-1), cu (a + tzI (zcu b)), .v (.slice none 0 0)], ii 0]) := by
    refine zah 63 Tryz.func43 rfl rfl rfl rfl ?_ GG.to
    intro W A hG
    repeat (first | (refine zaj rfl ?_; first | refine zak ?_ | refine gdr (zaa rfl rfl rfl (hm) (by kernel_rfl)) ?_ | refine gdr (zaa rfl rfl rfl (h1) (by kernel_rfl)) ?_ | refine gdr (zaa rfl rfl rfl (h2) (by kernel_rfl)) ?_ | refine gdr (zaa rfl rfl rfl (h3) (by kernel_rfl)) ?_ | refine gdr (zaa rfl rfl rfl (h4) (by kernel_rfl)) ?_ | refine gdr (zaa rfl rfl rfl (h5) (by kernel_rfl)) ?_) | (refine hK _ ?_; clear hK K) | refine zac rfl ?_ | exact zaf (show zav _ _ _ = some _ by kernel_rfl) | refine zae rfl rfl ?_ | refine zai ?_ | refine zab (fun K hK => ?_))
  refine zgu key rfl (z3t ?_)
  exact ⟨ltC.rf _, ltC.rf _, ltC.rf _, ltC.rf _, ltC.rf _, ltC.rf _, ltC.rf _, ltC.rf _, ltC.rf _, ltC.rf _, ltC.rf _, ltC.rf _, ltC.rf _, ltC.rf _, ltC.rf _, ltC.rf _, ltC.rf _, ltC.rf _, ltC.rf _, ltC.rf _, ltC.nil 3, ltC.rf _, ltC.rf _, ltC.nil 4, trivial⟩
theorem zhn {a b c : Int} {n : Nat} (h : zez a b c n = true) : Inv 0 (zoc a b c n) := by
  obtain ⟨ha, hb, hc, hn⟩ := zcz.1 h
  have l1 := zjg (n := b) (by omega) (by omega)
  have l2 := zls (n := b) (by omega) (by omega)
  have l3 := zjg (n := c) (by omega) (by omega)
  have u1 : U (zcu b) := zgs l1.1 l1.2 (by omega)
  have t := zcl u1 l1.2 l2
  exact { cd := ha, cp := hb, ca := hc, cs := ⟨rfl, by show n ≤ 16; omega⟩, sz := rfl, pb := rfl, pm := rfl, am := rfl, pf := ⟨(zex _ _ _ _).1, zge u1 l1.2 t.1 t.2⟩, af := l3, ao := ⟨by show (0 : Int) ≤ 0; omega, by show (0 : Int) < _; exact Int.pow_pos (by omega)⟩, sh := ⟨by show a ≤ a + _; omega, by show a + tzI (zcu b) < a + b; omega⟩, ts := rfl, m := List.Pairwise.nil, mc := fun c hc => (by cases hc), ml := Nat.le_refl _, fl := Nat.le_refl _, sl := by show 0 ≤ 32; omega, ss := fun s hs => (by cases hs), nw := .inl ⟨rfl, rfl, rfl, rfl⟩ }
end Go.Proofs.YtomeaibdedaldaaGreatDoor.SpN
namespace Go.Proofs.YtomeaibdedaldaaGreatDoor.RfP
open Go.RowKit Bv VaSpec Base MemL RegR Ax MemC PutC MemC3 TzC OkS SpA SpB SpC SpD IterC SpE SpF SpG SpH SpI SpJ SpK SpN
open BitsC PteSpec
theorem zu6 {x : Int} (h : U x) (h0 : x ≠ 0) : ∃ m, x.toNat = 2 ^ (tzI x).toNat * (2 * m + 1) := by
  obtain ⟨h1, h2⟩ := h
  obtain ⟨m, hm, _⟩ := Lib.ctzFrom_spec 64 x.toNat (by omega) (by omega)
  refine ⟨m, ?_⟩
  have : (tzI x).toNat = Lib.ctzFrom 64 x.toNat := by
    unfold tzI Lib.ctz
    rw [if_neg (by omega)]; simp
  rw [this]; exact hm
theorem zkl {x : Int} (h : U x) (h0 : x ≠ 0) : zeo x (tzI x) = true := by
  obtain ⟨m, hm⟩ := zu6 h h0
  rw [zdm (by unfold tzI; omega), ← BitVec.testBit_toNat, zpn h, hm, Nat.testBit_two_pow_mul]
  simp
theorem zjh {x i : Int} (h : U x) (h0 : x ≠ 0) (hi : 0 ≤ i) (hlt : i < tzI x) : zeo x i = false := by
  obtain ⟨m, hm⟩ := zu6 h h0
  rw [zdm hi, ← BitVec.testBit_toNat, zpn h, hm, Nat.testBit_two_pow_mul]
  simp; omega
theorem zqu (i : Int) (hi : 0 ≤ i) : zeo 0 i = false := by
  rw [zdm hi]
  rw [show X 0 = 0#64 from rfl, BitVec.getLsbD_zero]
theorem zlt (x i : Int) (hi : 0 ≤ i) : (zdo x i 1 == 0) = !zeo x i := by
  have hu := zt2 x i 1
  have hlt : zdo x i 1 < 2 := by
    unfold zdo
    have hb := fun j => zfp (X x) i.toNat 1 j
    have : (zoa (X x) i.toNat 1).toNat < 2 ^ 1 := zhl fun j hj => by rw [hb j, decide_eq_false (by omega), Bool.false_and]
    rw [show (1 : Int).toNat = 1 from rfl]; unfold B; omega
  unfold zeo
  rcases (by have := hu.1; omega : zdo x i 1 = 0 ∨ zdo x i 1 = 1) with e | e <;> rw [e] <;> rfl
theorem zqv (j : Nat) (hj : j < 64) : (X 18446744073709551615).getLsbD j = true := by
  rw [show X 18446744073709551615 = BitVec.allOnes 64 from rfl, BitVec.getLsbD_allOnes, decide_eq_true hj]
theorem znv (i : Int) (h0 : 0 ≤ i) (h : i < 64) : zbw (zcu i) i 1 1 = zcu (i + 1) := by
  unfold zbw zcu zdo
  rw [X_B]
  congr 1
  apply BitVec.eq_of_getLsbD_eq
  intro j hj
  rw [zel, zfp, zfp, decide_eq_true hj, Bool.true_and, show (1 : Int).toNat = 1 from rfl, show (0 : Int).toNat = 0 from rfl, Nat.zero_add, zqv j hj, Bool.and_true, Bool.and_true]
  by_cases e : j = i.toNat
  · rw [if_pos ⟨by omega, by omega⟩, e, Nat.sub_self, decide_eq_true (by omega)]; rfl
  · rw [if_neg (by omega)]
    by_cases e2 : j < i.toNat
    · rw [decide_eq_true e2, decide_eq_true (by omega)]
    · rw [decide_eq_false e2, decide_eq_false (by omega)]
theorem allI_zero : zcu 0 = 0 := by
  unfold zcu
  rw [zcm _ _ _ ⟨by omega, by omega⟩ (by omega)]
  decide
theorem znw (n : Int) : U (zcu n) := zt2 _ _ _
end Go.Proofs.YtomeaibdedaldaaGreatDoor.RfP
namespace Go.Proofs.YtomeaibdedaldaaGreatDoor.RfQ
open Go.RowKit Bv VaSpec Base MemL RegR Ax MemC PutC MemC3 TzC OkS SpA SpB SpC SpD IterC SpE SpF SpG SpH SpI SpJ SpK SpN RfP
open BitsC PteSpec
def zce (p v : Int) (s : List (Int × Int) × Bool) (c : Int × Int) : List (Int × Int) × Bool :=
  if s.2 = false ∧ p < c.1 then (s.1 ++ [(p, v), c], true) else if c.1 = p then s else (s.1 ++ [c], s.2)
def z1d (p v : Int) (s : List (Int × Int) × Bool) : List (Int × Int) := if s.2 = false then s.1 ++ [(p, v)] else s.1
theorem zfd (p v : Int) : ∀ (cs acc : List (Int × Int)), cs.foldl (zce p v) (acc, true) = (acc ++ cs.filter (fun c => !decide (c.1 = p)), true)
  | [], acc => by simp
  | c :: cs, acc => by
    simp only [List.foldl_cons]
    by_cases h : c.1 = p
    · rw [show zce p v (acc, true) c = (acc, true) by simp [zce, h], zfd p v cs acc]
      simp [h]
    · rw [show zce p v (acc, true) c = (acc ++ [c], true) by simp [zce, h], zfd p v cs (acc ++ [c])]
      simp [h]
theorem zie {p : Int} {cs : List (Int × Int)} (h : ∀ c ∈ cs, c.1 ≠ p) : cs.filter (fun c => !decide (c.1 = p)) = cs :=
  List.filter_eq_self.2 fun c hc => by simp [h c hc]
theorem zqw (p v : Int) (hv : v ≠ 0) : ∀ (cs acc : List (Int × Int)), Srt cs → z1d p v (cs.foldl (zce p v) (acc, false)) = acc ++ zbq cs p v
  | [], acc, _ => by simp [z1d, zbq, hv]
  | c :: cs, acc, hs => by
    have hs' := List.pairwise_cons.1 hs
    simp only [List.foldl_cons, zbq]
    by_cases h1 : c.1 < p
    · rw [show zce p v (acc, false) c = (acc ++ [c], false) by unfold zce; rw [if_neg (by simp; omega), if_neg (by omega)], zqw p v hv cs _ hs'.2, if_pos h1]
      simp
    · rw [if_neg h1]
      by_cases h2 : c.1 = p
      · rw [show zce p v (acc, false) c = (acc, false) by unfold zce; rw [if_neg (by simp; omega), if_pos h2], if_pos h2, if_neg hv]
        cases cs with
        | nil => simp [z1d]
        | cons d ds =>
          have hd := hs'.1 d (by simp)
          simp only [List.foldl_cons]
          rw [show zce p v (acc, false) d = (acc ++ [(p, v), d], true) by unfold zce; rw [if_pos ⟨rfl, by omega⟩], zfd]
          rw [zie (fun x hx => by have := hs'.1 x (List.mem_cons_of_mem _ hx); omega)]
          simp [z1d]
      · rw [show zce p v (acc, false) c = (acc ++ [(p, v), c], true) by unfold zce; rw [if_pos ⟨rfl, by omega⟩], zfd, if_neg h2, if_neg hv]
        rw [zie (fun x hx => by have := hs'.1 x hx; omega)]
        simp [z1d]
theorem zgv (p : Int) : ∀ (cs : List (Int × Int)), Srt cs → zbq cs p 0 = cs.filter (fun c => !decide (c.1 = p))
  | [], _ => by simp [zbq]
  | c :: cs, hs => by
    have hs' := List.pairwise_cons.1 hs
    simp only [zbq]
    by_cases h1 : c.1 < p
    · rw [if_pos h1, zgv p cs hs'.2, List.filter_cons_of_pos (by simp; omega)]
    · rw [if_neg h1]
      by_cases h2 : c.1 = p
      · rw [if_pos h2, if_true, List.filter_cons_of_neg (by simp [h2]), zie (fun x hx => by have := hs'.1 x hx; omega)]
      · rw [if_neg h2, if_true, List.filter_cons_of_pos (by simp [h2]), zie (fun x hx => by have := hs'.1 x hx; omega)]
theorem z1e (p v : Int) (cs : List (Int × Int)) (hs : Srt cs) : z1d p v (cs.foldl (zce p v) ([], decide (v = 0))) = zbq cs p v := by
  by_cases hv : v = 0
  · subst hv
    rw [decide_eq_true rfl, zfd, zgv p cs hs]
    simp [z1d]
  · rw [decide_eq_false hv, zqw p v hv cs [] hs]; simp
def zjx (a b : Int) (c : Int × Int) : Bool := decide (c.1 < a) || decide (b ≤ c.1)
theorem z1f (xs : List (Int × Int)) (a : Int) (h : ∀ c ∈ xs, a ≤ c.1) : lb xs a = 0 := by
  cases xs with
  | nil => rfl
  | cons c cs => simp only [lb]; rw [if_neg (by have := h c (by simp); omega)]
theorem zkm (a b : Int) (hab : a ≤ b) : ∀ (xs : List (Int × Int)), Srt xs → ClearC.zbm xs a b = xs.filter (zjx a b)
  | [], _ => rfl
  | x :: xs, hs => by
    have hs' := List.pairwise_cons.1 hs
    have ih := zkm a b hab xs hs'.2
    unfold ClearC.zbm at ih ⊢
    simp only [lb]
    by_cases h1 : x.1 < a
    · rw [if_pos h1, if_pos (by omega), List.take_succ_cons, List.drop_succ_cons, List.cons_append, ih, List.filter_cons_of_pos (by simp [zjx, h1])]
    · rw [if_neg h1, List.take_zero, List.nil_append]
      by_cases h2 : x.1 < b
      · rw [if_pos h2, List.drop_succ_cons, List.filter_cons_of_neg (by simp [zjx]; omega), ← ih, z1f xs a (fun c hc => by have := hs'.1 c hc; omega)]
        simp
      · rw [if_neg h2, List.drop_zero]
        symm
        exact List.filter_eq_self.2 fun c hc => by
          rcases List.mem_cons.1 hc with rfl | hc
          · simp [zjx]; omega
          · have := hs'.1 c hc; simp [zjx]; omega
theorem zgw (f : Int) (xs : List (Int × Int)) (hs : Srt xs) : TableC.zbc xs f = xs.filter (zjx (f * 512) (f * 512 + 512)) := zkm _ _ (by omega) xs hs
end Go.Proofs.YtomeaibdedaldaaGreatDoor.RfQ
namespace Go.Proofs.YtomeaibdedaldaaGreatDoor.LaD
open Go.RowKit Bv VaSpec Base MemL RegR Ax MemC PutC MemC3 TzC OkS SpA SpB SpC SpF SpI SpJ SpN RfP RfQ LaA LaB LaC
open BitsC PteSpec
set_option maxRecDepth 10000
set_option maxHeartbeats 1000000
theorem zlu {rec : Int → Int → List Pg} {M : Nat} (h1 : 1 ≤ M) (hrec : ∀ t a, (rec t a).length ≤ M) (p : Pte) (l a : Int) : (zfr rec p l a).length ≤ M := by
  unfold zfr
  split
  · simp
  · split
    · simpa using h1
    · exact hrec _ _
theorem zkn (sz : Int) (xs : List (Int × Int)) (t b : Int) : (zbf sz xs 0 t b).length ≤ 512 := by
  have := zjd (fun i : Nat => zfr (fun _ _ => []) (atM sz xs t i) 0 (adr b i 0)) 1 (fun i => zlu (by omega) (fun _ _ => by simp) _ _ _) (List.range 512)
  rw [List.length_range] at this
  exact this
theorem zho (sz : Int) (xs : List (Int × Int)) (t b : Int) : (zbf sz xs 1 t b).length ≤ 262144 := by
  have := zjd (fun i : Nat => zfr (zbf sz xs 0) (atM sz xs t i) (0 + 1 : Nat) (adr b i (0 + 1 : Nat))) 512 (fun i => zlu (by omega) (fun t a => zkn sz xs t a) _ _ _) (List.range 512)
  rw [List.length_range] at this
  exact this
theorem zsk (sz : Int) (xs : List (Int × Int)) (t b : Int) : (zbf sz xs 2 t b).length ≤ 134217728 := by
  have := zjd (fun i : Nat => zfr (zbf sz xs 1) (atM sz xs t i) (1 + 1 : Nat) (adr b i (1 + 1 : Nat))) 262144 (fun i => zlu (by omega) (fun t a => zho sz xs t a) _ _ _) (List.range 512)
  rw [List.length_range] at this
  exact this
section
variable (sz : Int) (xs : List (Int × Int)) (hs : Srt xs) (hu : Uw xs)
include hs hu
theorem z1g (t b : Int) (ht : 0 ≤ t ∧ t < 17592186044416) (hb : U b) : Ok 48 [zb2 sz xs, iu t, ii 0, iu b] (.m (.c (.s (zbf sz xs 0 t b).length 8 (flP (zbf sz xs 0 t b))))) :=
  zje sz xs t b 0 (fun _ _ => []) ht hb (by omega) (by omega) hs hu (fun _ _ => by simp) (fun h => by omega) _ rfl
theorem zu7 (t b : Int) (ht : 0 ≤ t ∧ t < 17592186044416) (hb : U b) : Ok 48 [zb2 sz xs, iu t, ii 1, iu b] (.m (.c (.s (zbf sz xs 1 t b).length 8 (flP (zbf sz xs 1 t b))))) :=
  zje sz xs t b 1 (zbf sz xs 0) ht hb (by omega) (by omega) hs hu (fun t a => Nat.le_trans (zkn sz xs t a) (by omega)) (fun _ t a h1 h2 => z1g sz xs hs hu t a h1 h2) _ rfl
theorem z1h (t b : Int) (ht : 0 ≤ t ∧ t < 17592186044416) (hb : U b) : Ok 48 [zb2 sz xs, iu t, ii 2, iu b] (.m (.c (.s (zbf sz xs 2 t b).length 8 (flP (zbf sz xs 2 t b))))) :=
  zje sz xs t b 2 (zbf sz xs 1) ht hb (by omega) (by omega) hs hu (fun t a => zho sz xs t a) (fun _ t a h1 h2 => zu7 sz xs hs hu t a h1 h2) _ rfl
end
theorem zc0 (c : Int × Int) (cs : List (Int × Int)) (a : Int) : MemC.look (c :: cs) a = if c.1 < a then MemC.look cs a else if c.1 = a then c.2 else 0 := by
  by_cases h : c.1 < a
  · have e : MemC.lb (c :: cs) a = MemC.lb cs a + 1 := by simp [MemC.lb, h]
    simp only [MemC.look, e, List.getElem?_cons_succ, if_pos h]
  · have e : MemC.lb (c :: cs) a = 0 := by simp [MemC.lb, h]
    simp only [MemC.look, e, List.getElem?_cons_zero, if_neg h]
theorem zlv (a : Int) : MemC.look [] a = 0 := rfl
theorem zlw (v : Int) : ∀ (xs : List (Int × Int)) (k a : Int), Srt xs → MemC.look (zbq xs k v) a = if a = k then v else MemC.look xs a
  | [], k, a, _ => by
    simp only [zbq]
    (repeat' split) <;> (try simp only [zc0, zlv]) <;> (repeat' split) <;> first | rfl | omega
  | c :: cs, k, a, hs => by
    have hs' := List.pairwise_cons.1 hs
    have hgt : ∀ b : Int, b ≤ c.1 → MemC.look cs b = 0 := fun b hb => zcy fun d hd => by have := hs'.1 d hd; omega
    have IH := zlw v cs k a hs'.2
    simp only [zbq]
    (repeat' split) <;> (try simp only [zc0, IH]) <;> (repeat' split) <;> first | rfl | omega | (rw [hgt a (by omega)]; done) | (rw [hgt a (by omega)]; omega)
theorem zgx {sz : Int} {xs : List (Int × Int)} {t i v s j : Int} (hs : Srt xs) (hi : 0 ≤ i ∧ i < 512) (hj : 0 ≤ j ∧ j < 512) (hd : s * 4096 + j * 8 < sz) : atM sz (zbq xs (t * 512 + i) v) s j = if s = t ∧ j = i then zay v else atM sz xs s j := by
  unfold atM zbj
  rw [if_pos hd, if_pos hd, zlw v xs _ _ hs, show (s * 4096 + j * 8) / 8 = s * 512 + j by omega]
  by_cases h : s = t ∧ j = i
  · obtain ⟨rfl, rfl⟩ := h
    simp
  · rw [if_neg h, if_neg (by omega)]
def Al (cd cp f s : Int) : Prop := (cd ≤ s ∧ s < cd + cp) ∧ zeo f (s - cd) = false
def lkP (p : Pte) : Bool := p.v && !p.r && !p.w && !p.x && !p.u && !p.a && !p.d && (p.high == 0)
def EOk (cd cp f : Int) (p : Pte) : Prop := zaz p = true ∨ (lkP p = true ∧ Al cd cp f p.ppn)
structure GM (cd cp : Int) (sz : Int) (xs : List (Int × Int)) (f : Int) : Prop where
  bd : 1 ≤ cd ∧ cd ≤ 524288
  bp : 1 ≤ cp ∧ cp ≤ 64
  bz : sz = (cd + cp) * 4096
  bf : 0 ≤ f ∧ f < 2 ^ cp.toNat
  s : Srt xs
  c : ∀ c ∈ xs, Al cd cp f (c.1 / 512) ∧ U c.2 ∧ EOk cd cp f (zay c.2)
theorem GM.uf {cd cp sz f : Int} {xs : List (Int × Int)} (h : GM cd cp sz xs f) : U f := zgs h.bf.1 h.bf.2 (by have := h.bp; omega)
theorem GM.u {cd cp sz f : Int} {xs : List (Int × Int)} (h : GM cd cp sz xs f) : Uw xs := fun c hc => by
  obtain ⟨⟨⟨a, b⟩, _⟩, e, _⟩ := h.c c hc
  have := h.bd; have := h.bp
  exact ⟨⟨by omega, by omega⟩, e⟩
theorem zlx {xs : List (Int × Int)} {k : Int} : MemC.look xs k = 0 ∨ ∃ c ∈ xs, c.1 = k ∧ MemC.look xs k = c.2 := by
  unfold MemC.look
  split
  · rename_i c hc
    split
    · rename_i h; exact .inr ⟨c, List.mem_of_getElem? hc, h, rfl⟩
    · exact .inl rfl
  · exact .inl rfl
theorem zly : zay 0 = zP := by decide
theorem GM.at {cd cp sz f : Int} {xs : List (Int × Int)} (h : GM cd cp sz xs f) (s i : Int) : atM sz xs s i = zP ∨ EOk cd cp f (atM sz xs s i) := by
  unfold atM zbj
  split
  · rcases zlx (xs := xs) (k := (s * 4096 + i * 8) / 8) with e | ⟨c, hc, _, e⟩
    · rw [e]; exact .inl zly
    · rw [e]; exact .inr (h.c c hc).2.2
  · exact .inl zly
theorem zbo {p : Pte} (h : lkP p = true) {l : Int} (hl : 1 ≤ l) : za0 p l = true := by
  obtain ⟨v, r, w, x, u, g, a, d, rsw, ppn, high⟩ := p
  unfold lkP at h
  unfold za0 zc3 zbk
  simp only [Bool.and_eq_true, Bool.not_eq_true', beq_iff_eq] at h
  obtain ⟨⟨⟨⟨⟨⟨⟨rfl, rfl⟩, rfl⟩, rfl⟩, rfl⟩, rfl⟩, rfl⟩, rfl⟩ := h
  have : (l == 0) = false := by simpa using (by omega : ¬ l = 0)
  simp [this]
theorem zfu {p : Pte} {l : Int} (h : zbk p = false) : za0 p l = false := by unfold za0; rw [h]; rfl
theorem zbp {p : Pte} (h : zaz p = true) : zbk p = false ∧ p.v = true := by
  obtain ⟨v, r, w, x, u, g, a, d, rsw, ppn, high⟩ := p
  revert h
  unfold zaz zbk
  cases v <;> cases r <;> cases x <;> simp
theorem zbs {p : Pte} (h : lkP p = true) : zbk p = true ∧ p.v = true ∧ zaz p = false := by
  obtain ⟨v, r, w, x, u, g, a, d, rsw, ppn, high⟩ := p
  revert h
  unfold lkP zaz zbk
  cases v <;> cases r <;> cases x <;> simp
theorem EOk.kinds {cd cp f : Int} {p : Pte} (h : p = zP ∨ EOk cd cp f p) {l : Int} (hl : 1 ≤ l) :
    (p.v = false ∧ zaz p = false ∧ za0 p l = false) ∨ (p.v = true ∧ zaz p = true ∧ za0 p l = false) ∨ (p.v = true ∧ zaz p = false ∧ za0 p l = true ∧ zbk p = true ∧ Al cd cp f p.ppn) := by
  rcases h with rfl | h | ⟨h, ha⟩
  · exact .inl ⟨rfl, rfl, rfl⟩
  · obtain ⟨a, b⟩ := zbp h
    exact .inr (.inl ⟨b, h, zfu a⟩)
  · obtain ⟨a, b, c⟩ := zbs h
    exact .inr (.inr ⟨b, c, zbo h hl, a, ha⟩)
def lnk (n : Int) : Pte := ⟨true, false, false, false, false, false, false, false, 0, n, 0⟩
theorem zeq {n : Int} (h : 0 ≤ n ∧ n < 17592186044416) : zay (PteC.ze7 (lnk n)) = lnk n := by
  have hm : zh4 (lnk n) = true := by rw [zdc]; unfold lnk; simp; omega
  have hU : (lnk n).U := by unfold Pte.U lnk; simp; omega
  unfold PteC.ze7
  rw [if_pos hm, zfq _ hU hm]
theorem zhp {n : Int} (h : 0 ≤ n ∧ n < 17592186044416) : (lnk n).U := by unfold Pte.U lnk; simp; omega
def dnN (sz cd addr zam : Int) : Nat → List (Int × Int) → Int → Int → List (Int × Int) × Int × Int × Int
  | 0, xs, f, t => (xs, f, t, 0)
  | l + 1, xs, f, t =>
    if ((l + 1 : Nat) : Int) ≤ zam then (xs, f, t, 0)
    else if zaz (atM sz xs t (idx addr ((l + 1 : Nat) : Int))) then (xs, f, t, 6)
    else if (atM sz xs t (idx addr ((l + 1 : Nat) : Int))).v then dnN sz cd addr zam l xs f (atM sz xs t (idx addr ((l + 1 : Nat) : Int))).ppn
    else if f = 0 then (xs, f, t, 8)
    else dnN sz cd addr zam l (za7 sz xs t (idx addr ((l + 1 : Nat) : Int)) (lnk (cd + tzI f))) (zbw f (tzI f) 1 0) (cd + tzI f)
theorem GM.take {cd cp sz f : Int} {xs : List (Int × Int)} (h : GM cd cp sz xs f) (h0 : f ≠ 0) {s : Int} (hs : Al cd cp f s) : s ≠ cd + tzI f ∧ Al cd cp (zbw f (tzI f) 1 0) s := by
  have t1 := zcl h.uf h.bf.2 h0
  have hb := zkl h.uf h0
  have hcp := h.bp
  refine ⟨fun e => ?_, hs.1, ?_⟩
  · have := hs.2
    rw [e, show cd + tzI f - cd = tzI f by omega, hb] at this
    cases this
  · have := hs.1
    rw [zfb h.uf t1.1 (by omega) (by omega) (by omega)]
    split
    · rfl
    · exact hs.2
theorem GM.al {cd cp sz f : Int} {xs : List (Int × Int)} (h : GM cd cp sz xs f) (h0 : f ≠ 0) : Al cd cp (zbw f (tzI f) 1 0) (cd + tzI f) ∧ (0 ≤ tzI f ∧ tzI f < cp) := by
  have t1 := zcl h.uf h.bf.2 h0
  have hcp := h.bp
  refine ⟨⟨⟨by omega, by omega⟩, ?_⟩, t1.1, by omega⟩
  rw [show cd + tzI f - cd = tzI f by omega, zfb h.uf t1.1 (by omega) t1.1 (by omega), if_pos rfl]
  rfl
theorem GM.wipe {cd cp sz f : Int} {xs : List (Int × Int)} (h : GM cd cp sz xs f) (h0 : f ≠ 0) : TableC.zbc xs (cd + tzI f) = xs := by
  rw [zgw _ _ h.s]
  refine List.filter_eq_self.2 fun c hc => ?_
  have h1 := (h.take h0 (h.c c hc).1).1
  unfold zjx
  rw [Bool.or_eq_true, decide_eq_true_eq, decide_eq_true_eq]
  omega
theorem GM.mono {cd cp sz f f' : Int} {xs : List (Int × Int)} (h : GM cd cp sz xs f) (hf : 0 ≤ f' ∧ f' < 2 ^ cp.toNat) (ha : ∀ s, Al cd cp f s → Al cd cp f' s) : GM cd cp sz xs f' :=
  ⟨h.bd, h.bp, h.bz, hf, h.s, fun c hc => by
    obtain ⟨a, b, d⟩ := h.c c hc
    refine ⟨ha _ a, b, ?_⟩
    rcases d with d | ⟨d, e⟩
    · exact .inl d
    · exact .inr ⟨d, ha _ e⟩⟩
theorem GM.put {cd cp sz f : Int} {xs : List (Int × Int)} (h : GM cd cp sz xs f) {t i v : Int} (ht : Al cd cp f t) (hi : 0 ≤ i ∧ i < 512) (hv : U v) (he : v ≠ 0 → EOk cd cp f (zay v)) : GM cd cp sz (zbq xs (t * 512 + i) v) f :=
  ⟨h.bd, h.bp, h.bz, h.bf, zdr _ _ _ h.s, fun c hc => by
    rcases zcn _ _ _ _ hc with hc | ⟨rfl, hv0⟩
    · exact h.c c hc
    · refine ⟨?_, hv, he hv0⟩
      show Al cd cp f ((t * 512 + i) / 512)
      rw [show (t * 512 + i) / 512 = t by omega]; exact ht⟩
theorem GM.with {cd cp sz f : Int} {xs : List (Int × Int)} (h : GM cd cp sz xs f) {t i : Int} {p : Pte} (ht : Al cd cp f t) (hi : 0 ≤ i ∧ i < 512) (hp : p.U) : za7 sz xs t i p = zbq xs (t * 512 + i) (PteC.ze7 p) :=
  zep hp (by have := h.bd; have := ht.1; omega) hi (by rw [h.bz]; have := ht.1; omega)
theorem GM.hang {cd cp sz f : Int} {xs : List (Int × Int)} (h : GM cd cp sz xs f) (h0 : f ≠ 0) {t i : Int} (ht : Al cd cp f t) (hi : 0 ≤ i ∧ i < 512) :
    GM cd cp sz (za7 sz xs t i (lnk (cd + tzI f))) (zbw f (tzI f) 1 0) := by
  obtain ⟨ha, t1⟩ := h.al h0
  have hcp := h.bp
  have hcd := h.bd
  have hn : 0 ≤ cd + tzI f ∧ cd + tzI f < 17592186044416 := by omega
  have h' := h.mono (f' := zbw f (tzI f) 1 0) ⟨(zex _ _ _ _).1, zge h.uf h.bf.2 t1.1 (by omega)⟩ (fun s hs => (h.take h0 hs).2)
  rw [h.with ht hi (zhp hn)]
  refine h'.put (h.take h0 ht).2 hi (zf4 _ (zhp hn)) fun _ => ?_
  rw [zeq hn]
  exact .inr ⟨rfl, ha⟩
theorem zlz (cd cp sz addr zam : Int) (hw : 0 ≤ zam) : ∀ (l : Nat) (xs : List (Int × Int)) (f t : Int), GM cd cp sz xs f → Al cd cp f t →
    (dnN sz cd addr zam l xs f t).2.2.2 = 0 → GM cd cp sz (dnN sz cd addr zam l xs f t).1 (dnN sz cd addr zam l xs f t).2.1 ∧ Al cd cp (dnN sz cd addr zam l xs f t).2.1 (dnN sz cd addr zam l xs f t).2.2.1 ∧ (dnN sz cd addr zam l xs f t).1.length ≤ xs.length + l ∧ (∀ s, Al cd cp f s → Al cd cp (dnN sz cd addr zam l xs f t).2.1 s)
  | 0, xs, f, t, h, ht, _ => ⟨h, ht, by show xs.length ≤ xs.length + 0; omega, fun s hs => hs⟩
  | l + 1, xs, f, t, h, ht, he => by
    have hi := idx_bd addr ((l + 1 : Nat) : Int)
    have hk := EOk.kinds (h.at t (idx addr ((l + 1 : Nat) : Int))) (l := ((l + 1 : Nat) : Int)) (by omega)
    unfold dnN at he ⊢
    split
    · exact ⟨h, ht, by show xs.length ≤ xs.length + (l + 1); omega, fun s hs => hs⟩
    · rename_i c1
      rw [if_neg c1] at he
      split
      · rename_i c2; rw [if_pos c2] at he; cases he
      · rename_i c2
        rw [if_neg c2] at he
        split
        · rename_i c3
          rw [if_pos c3] at he
          rcases hk with ⟨k1, _⟩ | ⟨_, k2, _⟩ | ⟨_, _, _, _, k5⟩
          · rw [k1] at c3; cases c3
          · exact absurd k2 c2
          · obtain ⟨i1, i2, i3, i4⟩ := zlz cd cp sz addr zam hw l xs f _ h k5 he
            exact ⟨i1, i2, by omega, i4⟩
        · rename_i c3
          rw [if_neg c3] at he
          split
          · rename_i c4; rw [if_pos c4] at he; cases he
          · rename_i c4
            rw [if_neg c4] at he
            obtain ⟨i1, i2, i3, i4⟩ := zlz cd cp sz addr zam hw l _ _ _ (h.hang c4 ht hi) (h.al c4).1 he
            have := zgt sz xs t (idx addr ((l + 1 : Nat) : Int)) (lnk (cd + tzI f))
            exact ⟨i1, i2, by omega, fun s hs => i4 s (h.take c4 hs).2⟩
theorem zfv (cd cp sz addr zam : Int) (hw : 0 ≤ zam) {xs : List (Int × Int)} {f : Int} (h : GM cd cp sz xs f) : ∀ (l : Nat) (t : Int), Al cd cp f t → zam ≤ (l : Int) →
    ∃ (l' : Nat) (t' : Int), zat sz xs addr zam l t = (t', (l' : Int)) ∧ l' ≤ l ∧ zam ≤ (l' : Int) ∧ Al cd cp f t' ∧ (zam < (l' : Int) → za0 (atM sz xs t' (idx addr (l' : Int))) (l' : Int) = false) ∧ dnN sz cd addr zam l xs f t = dnN sz cd addr zam l' xs f t' ∧
      (∀ xs', (∀ s i, Al cd cp f s → (0 ≤ i ∧ i < 512) → zbk (atM sz xs s i) = true → atM sz xs' s i = atM sz xs s i) → zat sz xs' addr zam l t = zat sz xs' addr zam l' t')
  | 0, t, ht, hl => ⟨0, t, rfl, Nat.le_refl _, hl, ht, fun hh => by omega, rfl, fun _ _ => rfl⟩
  | l + 1, t, ht, hl => by
    have hi := idx_bd addr ((l + 1 : Nat) : Int)
    have hk := EOk.kinds (h.at t (idx addr ((l + 1 : Nat) : Int))) (l := ((l + 1 : Nat) : Int)) (by omega)
    by_cases c1 : zam < ((l + 1 : Nat) : Int)
    · rcases hk with ⟨_, _, k3⟩ | ⟨_, _, k3⟩ | ⟨k1, k2, k3, k4, k5⟩
      · exact ⟨l + 1, t, za1 (fun _ => k3) hw, Nat.le_refl _, hl, ht, fun _ => k3, rfl, fun _ _ => rfl⟩
      · exact ⟨l + 1, t, za1 (fun _ => k3) hw, Nat.le_refl _, hl, ht, fun _ => k3, rfl, fun _ _ => rfl⟩
      · obtain ⟨l', t', i1, i2, i3, i4, i5, i6, i7⟩ := zfv cd cp sz addr zam hw h l _ k5 (by omega)
        refine ⟨l', t', (zba c1 k3).trans i1, by omega, i3, i4, i5, ?_, fun xs' hx => ?_⟩
        · rw [← i6]
          conv => lhs; unfold dnN
          rw [if_neg (by omega), if_neg (by rw [k2]; simp), if_pos k1]
        · have e := hx t _ ht hi k4
          rw [zba c1 (by rw [e]; exact k3), e]
          exact i7 xs' hx
    · exact ⟨l + 1, t, za1 (fun hh => absurd hh c1) hw, Nat.le_refl _, hl, ht, fun hh => absurd hh c1, rfl, fun _ _ => rfl⟩
theorem zsl {cd cp sz f : Int} {xs : List (Int × Int)} (h : GM cd cp sz xs f) (h0 : f ≠ 0) {t i : Int} (ht : Al cd cp f t) (hi : 0 ≤ i ∧ i < 512) (hn : (atM sz xs t i).v = false) :
    ∀ s j, Al cd cp f s → (0 ≤ j ∧ j < 512) → zbk (atM sz xs s j) = true → atM sz (za7 sz xs t i (lnk (cd + tzI f))) s j = atM sz xs s j := fun s j hs hj hlk => by
  obtain ⟨ha, t1⟩ := h.al h0
  have hcp := h.bp
  have hcd := h.bd
  have hz := h.bz
  have b := hs.1
  rw [h.with ht hi (zhp (by omega)), zgx h.s hi hj (by rw [hz]; omega), if_neg]
  rintro ⟨rfl, rfl⟩
  unfold zbk at hlk
  rw [hn] at hlk
  cases hlk
theorem z1i {cd cp sz f : Int} {xs : List (Int × Int)} (h : GM cd cp sz xs f) (h0 : f ≠ 0) {t i : Int} (ht : Al cd cp f t) (hi : 0 ≤ i ∧ i < 512) : atM sz (za7 sz xs t i (lnk (cd + tzI f))) t i = lnk (cd + tzI f) := by
  obtain ⟨ha, t1⟩ := h.al h0
  have hcp := h.bp
  have hcd := h.bd
  have hz := h.bz
  have b := ht.1
  rw [h.with ht hi (zhp (by omega)), zgx h.s hi hi (by rw [hz]; omega), if_pos ⟨rfl, rfl⟩, zeq (by omega)]
theorem zsm {cd cp sz f addr zam : Int} {xs : List (Int × Int)} (hw : 0 ≤ zam) (h : GM cd cp sz xs f) (h0 : f ≠ 0) {l' : Nat} {t' : Int} (ht : Al cd cp f t') (hlt : zam < ((l' + 1 : Nat) : Int)) :
    zat sz (za7 sz xs t' (idx addr ((l' + 1 : Nat) : Int)) (lnk (cd + tzI f))) addr zam (l' + 1) t' = zat sz (za7 sz xs t' (idx addr ((l' + 1 : Nat) : Int)) (lnk (cd + tzI f))) addr zam l' (cd + tzI f) := by
  have hi := idx_bd addr ((l' + 1 : Nat) : Int)
  have e := z1i h h0 ht hi
  rw [zba hlt (by rw [e]; exact zbo rfl (by omega)), e]
  rfl
theorem zfw {n : Int} {p : Pm} {g : Bool} (h : 0 ≤ n ∧ n < 17592186044416) (hp : zhk p = true) : zay (PteC.ze7 (mkP n p g)) = mkP n p g ∧ (mkP n p g).U ∧ zaz (mkP n p g) = true := by
  have hm : zh4 (mkP n p g) = true := by rw [zdc]; unfold mkP; simp; omega
  have hU : (mkP n p g).U := by unfold Pte.U mkP; simp; omega
  refine ⟨?_, hU, ?_⟩
  · unfold PteC.ze7
    rw [if_pos hm, zfq _ hU hm]
  · obtain ⟨r, w, x, u⟩ := p
    revert hp
    unfold zhk mkP zaz
    cases r <;> cases x <;> simp
end Go.Proofs.YtomeaibdedaldaaGreatDoor.LaD
