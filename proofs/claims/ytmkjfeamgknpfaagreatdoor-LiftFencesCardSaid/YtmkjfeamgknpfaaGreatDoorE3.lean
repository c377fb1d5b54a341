/- Texts of this claim, one behind the other: SpC, IterC, AxP, AxQ, AxR, AxU, AxV, SpD, SpE, SpF, LaA, IterE, AxX, AxY, LaC, LaB, SpG, SpH, SpI, SpJ, SpK, SpL, SpM, SpN, RfP. -/
import Derived.Test.YtmkjfeamgknpfaaGreatDoorE2
import Derived.RangeFuncNested
import Derived.RangeFuncBound
import Derived.RangeFuncCalls
import Derived.RangeFuncLeaves
import Derived.RangeFuncFrom
import Derived.Shelf.Abstract
import Derived.Test.YtmkjfeamgknpfaaGreatDoorE1
import Derived.ScopeJumps
import Derived.Shelf.RegionOpen
import Derived.WalkKit
import Derived.OwnWalkIn
import Derived.TacticsInMore
import Derived.LoopNIn
import Derived.LoopIn
set_option linter.unusedVariables false
set_option linter.unusedSimpArgs false
namespace Go.Proofs.YtmkjfeamgknpfaaGreatDoor.SpC
open Go.RowKit Bv VaSpec Base MemL RegR Ax MemC PutC MemC3 TzC OkS SpA SpB
open BitsC PteSpec
set_option maxRecDepth 10000
set_option maxHeartbeats 1000000
theorem idx_bd (a l : Int) : 0 ≤ idx a l ∧ idx a l < 512 := by unfold idx; omega
theorem zff (p : Pte) (h : p.U) : U (PteC.zc5 p) := by
  unfold PteC.zc5
  by_cases hm : zhp p = true
  · rw [if_pos hm]; exact zw0 p h hm
  · rw [if_neg hm]; exact ⟨by omega, by omega⟩
def zb9 (t l : Int) (q : Pte) : List Ce := [cu t, ci l, cb q.v, cb q.r, cb q.w, cb q.x, cb q.u, cb q.g, cb q.a, cb q.d, cu q.rsw, cu q.ppn, cu q.high]
theorem zeb (sz : Int) (xs : List (Int × Int)) (t l : Int) (q : Pte) (addr : Int) (p : Pte) (ha : U addr) (hp : p.U) (l0 : 0 ≤ l) (l2 : l ≤ 2) (ht : 0 ≤ t ∧ t < 1099511627776) (hs : Srt xs) (hu : Uw xs) (hbig : (xs.length + 1) * 16 ≤ 140737488355328) :
    Ok 54 [zbz sz xs, .ag (zb9 t l q), iu addr, .ag p.ce] (.m (zbz sz (zbw sz xs t (idx addr l) p))) := by
  have hi := idx_bd addr l
  have hU : U (t * 4096 + idx addr l * 8) := ⟨by omega, by omega⟩
  by_cases hw : zdi sz (t * 4096 + idx addr l * 8) 8 = 0
  · rw [show zbw sz xs t (idx addr l) p = zdm sz xs (t * 4096 + idx addr l * 8) 8 (PteC.zc5 p) by unfold zbw; rw [if_pos hw]]
    refine zaf 32 Tryz.func54 rfl rfl rfl rfl ?_ GG.to
    intro W A hG
    repeat (first | (refine zai rfl ?_; first | refine gdr (zaa (.inl rfl) rfl) ?_ | refine gnk 1 rfl (za2 tb rfl rfl rfl rfl rfl) ?_ | refine gnx 1 rfl (zba tb rfl rfl rfl) rfl ?_ | refine gdr (zaa (.inr rfl) rfl) ?_ | refine gdr (zan rfl rfl rfl rfl) ?_ | refine gdr (zag rfl rfl rfl rfl rfl rfl) ?_ | refine gdr (zae rfl rfl rfl rfl rfl) ?_ | refine gnk 1 rfl (zbg rfl rfl rfl rfl rfl rfl rfl) ?_ | refine gdr (zab rfl rfl rfl (zr4 p hp) rfl) ?_ | refine gdr (zab rfl rfl rfl (zj0 addr l ha l0 l2) rfl) ?_ | refine gdr (zab rfl rfl rfl (zpb t _ ht hi) rfl) ?_ | refine gdr (zab rfl rfl rfl (zuk sz xs _ 8 _ hU (zff p hp) hs hu hbig hw) rfl) ?_) | (refine hK _ ?_; clear hK K) | refine zad rfl ?_ | refine za3 (by kernel_rfl) (by kernel_rfl) rfl ?_ | exact zao (show za6 _ _ _ = some _ by kernel_rfl) | refine zac (fun K hK => ?_))
  · rw [show zbw sz xs t (idx addr l) p = xs by unfold zbw; rw [if_neg hw]]
    refine zaf 32 Tryz.func54 rfl rfl rfl rfl ?_ GG.to
    intro W A hG
    repeat (first | (refine zai rfl ?_; first | refine gdr (zaa (.inl rfl) rfl) ?_ | refine gnk 1 rfl (za2 tb rfl rfl rfl rfl rfl) ?_ | refine gnx 1 rfl (zba tb rfl rfl rfl) rfl ?_ | refine gdr (zaa (.inr rfl) rfl) ?_ | refine gdr (zan rfl rfl rfl rfl) ?_ | refine gdr (zag rfl rfl rfl rfl rfl rfl) ?_ | refine gdr (zae rfl rfl rfl rfl rfl) ?_ | refine gnk 1 rfl (zbg rfl rfl rfl rfl rfl rfl rfl) ?_ | refine gdr (zab rfl rfl rfl (zr4 p hp) rfl) ?_ | refine gdr (zab rfl rfl rfl (zj0 addr l ha l0 l2) rfl) ?_ | refine gdr (zab rfl rfl rfl (zpb t _ ht hi) rfl) ?_ | refine gdr (zab rfl rfl rfl (zul sz xs _ 8 _ hU (zff p hp) hs hu hbig hw) rfl) ?_) | (refine hK _ ?_; clear hK K) | refine zad rfl ?_ | refine za3 (by kernel_rfl) (by kernel_rfl) rfl ?_ | exact zao (show za6 _ _ _ = some _ by kernel_rfl) | refine zac (fun K hK => ?_))
theorem zkp (w : World) (x0 y0 x1 y1 x2 y2 : Int) :
    (Op.equalIn 10000 41 (.agg #[.int .i64 x0, .int .u64 x1, .int .u64 x2]) (.agg #[.int .i64 y0, .int .u64 y1, .int .u64 y2])).run Tryz.prog w = .ok (x0 == y0 && (x1 == y1 && (x2 == y2 && true))) w := by
  refine PoolC4.zdv Tryz.underlying41 (by kernel_rfl) ?_
  refine PoolC4.za4 (by rfl) (by go_simp; rfl) (by go_simp; rfl) (by go_simp) ?_
  refine PoolC4.za4 (by rfl) (by go_simp; rfl) (by go_simp; rfl) (by go_simp) ?_
  exact PoolC4.za4 (by rfl) (by go_simp; rfl) (by go_simp; rfl) (by go_simp) PoolC4.zda
theorem zuo (m o : Int) : Ok 84 [.ag [ci m, cu 0, cu o]] (.tu [.ag [ci m, cu 0, cu o], iu 0, ib false, ii 9]) := by
  refine zaf 39 Tryz.func84 rfl rfl rfl rfl ?_ GG.to
  intro W A hG
  have he : ∀ w, (Op.equalIn 10000 41 (.agg #[.int .i64 m, .int .u64 0, .int .u64 o]) (.agg #[.int .i64 m, .int .u64 0, .int .u64 o])).run Tryz.prog w = .ok true w := fun w => by rw [zkp]; simp
  repeat (first | (refine zai rfl ?_; first | refine gnk 1 rfl (za2 tb rfl rfl rfl rfl rfl) ?_ | refine gnx 1 rfl (zba tb rfl rfl rfl) rfl ?_ | refine gdr (zaa (.inr rfl) rfl) ?_ | refine gdr (zag rfl rfl rfl rfl rfl rfl) ?_ | refine gdr (zae rfl rfl rfl rfl rfl) ?_ | refine gnk 1 rfl (zbg rfl rfl rfl rfl rfl rfl rfl) ?_ | refine gdr (zar rfl rfl rfl rfl) ?_ | refine gdr (zdg (us := [.int .i64 m, .int .u64 0, .int .u64 o]) (vs := [.int .i64 m, .int .u64 0, .int .u64 o]) he (by kernel_rfl) rfl rfl rfl rfl) ?_) | (refine hK _ ?_; clear hK K) | refine zad rfl ?_ | exact zao (show za6 _ _ _ = some _ by kernel_rfl) | refine zal rfl rfl ?_ | refine zac (fun K hK => ?_))
def zf3 (f : Int) : Int := zbq f (tzI f) 1 0
def zf4 (f o : Int) : Int := zbq o (tzI f) 1 1
theorem z06 {f : Int} (hf : U f) (h0 : f ≠ 0) : 0 ≤ tzI f ∧ tzI f < 64 := by
  have := PoolC4.zwz hf h0; omega
theorem zhw (m f o : Int) (hf : U f) (ho : U o) (h0 : f ≠ 0) : Ok 84 [.ag [ci m, cu f, cu o]] (.tu [.ag [ci m, cu (zf3 f), cu (zf4 f o)], iu (tzI f + 1), ib (zdt o (tzI f) 1 == 1), ii 0]) := by
  have t1 := z06 hf h0
  refine zaf 39 Tryz.func84 rfl rfl rfl rfl ?_ GG.to
  intro W A hG
  have he : ∀ w, (Op.equalIn 10000 41 (.agg #[.int .i64 m, .int .u64 f, .int .u64 o]) (.agg #[.int .i64 m, .int .u64 0, .int .u64 o])).run Tryz.prog w = .ok false w := fun w => by rw [zkp]; simp [h0]
  repeat (first | (refine zai rfl ?_; first | refine gdr (zaa (.inl rfl) rfl) ?_ | refine gnk 1 rfl (za2 tb rfl rfl rfl rfl rfl) ?_ | refine gnx 1 rfl (zba tb rfl rfl rfl) rfl ?_ | refine gdr (zaa (.inr rfl) rfl) ?_ | refine gdr (za5 rfl rfl rfl rfl) ?_ | refine gdr (gar rfl rfl rfl rfl) ?_ | refine gdr (gcv rfl rfl rfl rfl rfl) ?_ | refine gdr (zag rfl rfl rfl rfl rfl rfl) ?_ | refine gdr (zae rfl rfl rfl rfl rfl) ?_ | refine gnk 1 rfl (zbg rfl rfl rfl rfl rfl rfl rfl) ?_ | refine gdr (zar rfl rfl rfl rfl) ?_ | refine gdr (zdg (us := [.int .i64 m, .int .u64 f, .int .u64 o]) (vs := [.int .i64 m, .int .u64 0, .int .u64 o]) he (by kernel_rfl) rfl rfl rfl rfl) ?_ | refine gdr (zab rfl rfl rfl (z03 f hf) rfl) ?_ | refine gdr (zab rfl rfl rfl (zzm o (tzI f) 1 ho t1.1 (by omega) (by omega) (by omega)) rfl) ?_ | refine gdr (zab rfl rfl rfl (zv2 f (tzI f) 1 0 hf ⟨by omega, by omega⟩ t1.1 (by omega) (by omega) (by omega)) rfl) ?_ | refine gdr (zab rfl rfl rfl (zv2 o (tzI f) 1 1 ho ⟨by omega, by omega⟩ t1.1 (by omega) (by omega) (by omega)) rfl) ?_) | (refine hK _ ?_; clear hK K) | refine zad rfl ?_ | refine za3 (by kernel_rfl) (by kernel_rfl) rfl ?_ | exact zao (show za6 _ _ _ = some _ by kernel_rfl) | refine zaj rfl rfl ?_ | refine zaq ?_ | refine zac (fun K hK => ?_))
end Go.Proofs.YtmkjfeamgknpfaaGreatDoor.SpC
namespace Go.Proofs.YtmkjfeamgknpfaaGreatDoor.IterC
open Go.RowKit Go.Shelf Bv Base MemL MemC PutC TableC
open BitsC
set_option maxRecDepth 20000
open Ax OkS
end Go.Proofs.YtmkjfeamgknpfaaGreatDoor.IterC
namespace Go.Proofs.YtmkjfeamgknpfaaGreatDoor.Ax
open Go.RowKit MemL RegR
variable {P : Program} {ops : Array Oper} {X : Cx} {o : Oper} {S : St}
def zm2 (b : Nat) (h : Nat → Hs) : Nat → Hs := upd [(b, .dead)] h
theorem zv4 (b : Nat) (h : Nat → Hs) : zm2 b h b = .dead := by
  show cond (Nat.beq b b) (ztq .dead (h b)) (h b) = .dead
  rw [Nat.beq_refl]; rfl
theorem zr8 {b i : Nat} (h : Nat → Hs) (e : i ≠ b) : zm2 b h i = h i := by
  show cond (Nat.beq i b) (ztq .dead (h i)) (h i) = h i
  rw [zbe e]; rfl
theorem zdw {b i : Nat} {h : Nat → Hs} (k : zch (zm2 b h) i) : i ≠ b ∧ zch h i := by
  obtain ⟨q, hq⟩ := k
  by_cases e : i = b
  · subst e; rw [zv4] at hq; cases hq
  · rw [zr8 h e] at hq; exact ⟨e, q, hq⟩
theorem zr9 {b : Nat} {h : Nat → Hs} {τ : Nat → Value} {w w' : World} (hb : Below w.heap.size w w') : (env X h τ w).le (env X (zm2 b h) τ w') := by
  refine ⟨fun i hi => ⟨?_, rfl⟩, fun g _ ha => ⟨ha.1, fun i hi => ha.2 i (zdw hi).2⟩, hb.size, fun g o hg _ => hb.cell (p := ⟨g, o, none⟩) hg⟩
  have hi : h i ≠ .fresh := hi
  show zm2 b h i ≠ .fresh
  by_cases e : i = b
  · subst e; rw [zv4]; intro e; cases e
  · rw [zr8 h e]; exact hi
theorem zzp {b e k n : Nat} {xs : List Value} {τ : Nat → Value} {a : Act} {w : World} (h : SimT X S τ a w) (hb : S.hp b = .live (.row e k n xs)) : ∀ (c : Ce) (v : Value), (idC c).all (Nat.beq · b) = true → c.R (env X S.hp τ w) v → (zgy S.hp c).R (env X (zm2 b S.hp) τ w) v := fun c v hc hR => by
  have wk : ∀ (c : Ce), c.R (env X S.hp τ w) v → c.R (env X (zm2 b S.hp) τ w) v := fun c hR => zcf (zr9 (Below.refl _ _)) _ _ hR
  unfold zgy
  split
  · rename_i i
    simp only [idC, List.all_cons, List.all_nil, Bool.and_true] at hc
    obtain rfl := Nat.eq_of_beq_eq_true hc
    rw [hb]
    obtain ⟨_, hv⟩ := hR
    have hv : v = τ i := hv
    subst hv
    have hr : w.ownsRow X.base e k (τ i) n xs := h.hp i _ hb
    refine ⟨Sl.of_owns hr, fun ad l c e' => ⟨.inr (World.ownsRow.lt hr ad.block (by rw [e']; rfl)).1, fun j hj ho => ?_⟩⟩
    obtain ⟨hne, hj⟩ := zdw hj
    exact h.sep j i ad.block hne hj ⟨_, hb⟩ ho (by rw [e']; rfl)
  · exact wk _ hR
theorem zzq {b e k n : Nat} {xs : List Value} {τ : Nat → Value} {a : Act} {w : World} (h : SimT X S τ a w) (hb : S.hp b = .live (.row e k n xs)) : ∀ (c : Cm) (v : Value), (idM c).all (Nat.beq · b) = true → c.R (env X S.hp τ w) v → (zje S.hp c).R (env X (zm2 b S.hp) τ w) v
  | .c x, v, hc, hR => zzp h hb x v hc hR
  | .ag cs, v, hc, ⟨vs, e, hR⟩ => by
    refine ⟨vs, e, ?_⟩
    have : ∀ (cs : List Ce) (vs : List Value), (cs.flatMap idC).all (Nat.beq · b) = true → All2 (Ce.R (env X S.hp τ w)) cs vs → All2 (Ce.R (env X (zm2 b S.hp) τ w)) (cs.map (zgy S.hp)) vs := by
      intro cs
      induction cs with
      | nil => intro vs _ h; cases vs with | nil => trivial | cons _ _ => exact h.elim
      | cons c cs ih =>
        intro vs hc k
        rw [List.flatMap_cons, List.all_append, Bool.and_eq_true] at hc
        cases vs with | nil => exact k.elim | cons v vs => exact ⟨zzp h hb c v hc.1 k.1, ih vs hc.2 k.2⟩
    exact this cs _ hc hR
theorem zv5 {b e k n : Nat} {xs : List Value} {τ : Nat → Value} {a : Act} {w : World} (h : SimT X S τ a w) (hb : S.hp b = .live (.row e k n xs)) : ∀ (l : List Cm) (vs : List Value), (l.flatMap idM).all (Nat.beq · b) = true → All2 (Cm.R (env X S.hp τ w)) l vs → All2 (Cm.R (env X (zm2 b S.hp) τ w)) (l.map (zje S.hp)) vs
  | [], [], _, _ => trivial
  | m :: l, v :: vs, hc, k => by
    rw [List.flatMap_cons, List.all_append, Bool.and_eq_true] at hc
    exact ⟨zzq h hb m v hc.1 k.1, zv5 h hb l vs hc.2 k.2⟩
  | [], _ :: _, _, h => h.elim
  | _ :: _, [], _, h => h.elim
theorem zzr {b : Nat} {h : Nat → Hs} {τ : Nat → Value} {w : World} : ∀ (k : Bk) (v : Value) (base : Nat), k.R (env X h τ w) base v → k.R (env X (zm2 b h) τ w) base v
  | .box cs, v, base, ⟨g, vs, h1, h2, h3⟩ => ⟨g, vs, h1, h2, All2.mono (zcf (zr9 (Below.refl _ _))) _ _ h3⟩
  | .row e k n xs, v, base, hk => hk
theorem zd5 {k b e q n : Nat} {ys : List Value} {xs : Array Operand} {ts : Array TypeId} {l : List Cm} {r : AV} (ho : o.op = .call { callee := .value (.func k), args := xs, argTypes := ts }) (hw : zax ops S o = true) (hk : zcl P k = true) (hl : zjc S xs.toList = some l) (hb : S.hp b = .live (.row e q n ys)) (hi : (l.flatMap idM).all (Nat.beq · b) = true) (hc : zb4 P X.G k (l.map (zje S.hp)) r) : zbd P ops X o S ⟨r, [(b, .dead)], []⟩ := fun S2 a w h1 h2 h3 ⟨τ, hS⟩ => by
  refine .inl ⟨zbv hw h1 h3 hS, ?_⟩
  rw [zgg ho hk]
  obtain ⟨c1, c2, hc⟩ := hc
  have hR := zf6 (S := S) (E := env X S2.hp τ w) (a := a) xs.toList l hl (fun x hx => by
    have hm : x ∈ o.op.operands := by rw [ho]; simp [Op.operands, Call.operands]; exact .inr (by simpa using hx)
    rw [← zci h1 hm]; exact hS.ev x (fun t e => h3 t (.inl (zby (e ▸ hm)))))
  have e2 : S2.hp b = S.hp b := h2 (.all b) (by simp [Ef.foot, zem])
  have hsh : l.map (zje S2.hp) = l.map (zje S.hp) := List.map_congr_left fun m hm => zp7 fun i hi' => by
    have := List.all_eq_true.1 hi i (List.mem_flatMap.2 ⟨m, hm, hi'⟩)
    rw [Nat.eq_of_beq_eq_true this]; exact e2
  have hb2 : S2.hp b = .live (.row e q n ys) := e2.trans hb
  have hR1 := zv5 hS hb2 _ _ hi hR
  rw [hsh] at hR1
  have hR' := zdf (F := en0 (alw X (zm2 b S2.hp) τ) w) (E := env X (zm2 b S2.hp) τ w) rfl (fun _ _ h => h) _ _ c2 hR1
  refine (hc (alw X (zm2 b S2.hp) τ) w (xs.map a.eval) (X.hG w hS.bel) (by simpa using hR')).mono ?_
  rintro e' w' ⟨v, rfl, hbl, hr⟩
  refine ⟨v, rfl, τ, hS.turn (u := [(b, .dead)]) (zr9 hbl) (hS.belT hbl) (fun i q hq => ?_) (fun i g hi hg => ?_) (fun i j g hne hi hj => hS.sep i j g hne (zdw hi).2 (zdw hj).2) hS.one ?_⟩
  · have hq : zm2 b S2.hp i = .live q := hq
    obtain ⟨hne, _⟩ := zdw ⟨q, hq⟩
    rw [zr8 _ hne] at hq
    exact zzr _ _ _ (zie hbl _ _ _ (hS.hp i q hq))
  · have := hS.own i g (zdw hi).2 hg
    exact ⟨this.1, Nat.lt_of_lt_of_le this.2 hbl.size⟩
  · refine zim (E := en0 _ w') (F := env X (zm2 b S2.hp) τ w') rfl (fun g _ hg => ?_) _ _ c1 hr
    rcases hg with hg | hg
    · exact hg
    · exact ⟨.inr (Nat.le_trans hS.bsz hg), fun i hi he => by have := (hS.own i g (zdw hi).2 he).2; omega⟩
end Go.Proofs.YtmkjfeamgknpfaaGreatDoor.Ax
namespace Go.Proofs.YtmkjfeamgknpfaaGreatDoor.Ax
open Go.RowKit MemL RegR
variable {P : Program} {ops : Array Oper} {X : Cx} {anc : Nat → Nat → Bool} {R : St → Prop} {T : List (Nat × List Rd × List Rd)} {S : St} {i : Nat} {r : List Nat} {o : Oper}
theorem zg4 (d : Tmp) (_ : o.dst = some d) (h : Nxt P ops X anc R T S i r o) : Nxt P ops X anc R T S i r o := h
end Go.Proofs.YtmkjfeamgknpfaaGreatDoor.Ax
namespace Go.Proofs.YtmkjfeamgknpfaaGreatDoor.Ax
open Go.RowKit MemL RegR
variable {P : Program} {X : Cx} {S : St}
def St.mv (S : St) (b b' : Nat) (r : Bk) : St := ⟨fun t => frV b (.o b') (S.tm t), fun i => cond (Nat.beq i b') (.live r) (cond (Nat.beq i b) .dead (frH b (.o b') (S.hp i)))⟩
theorem zdj {b b' e n k : Nat} {xs : List Value} (hb : S.hp b = .live (.row e k n xs)) (hf : S.hp b' = .fresh) : Sub X S (S.mv b b' (.row e k n xs)) := fun a w ⟨τ, h⟩ => by
  have hne : b ≠ b' := fun e => by rw [e, hf] at hb; cases hb
  have hb1 : (S.mv b b' (.row e k n xs)).hp b' = .live (.row e k n xs) := by
    show cond (Nat.beq b' b') _ _ = _; rw [Nat.beq_refl]; rfl
  have hb2 : ∀ i, i ≠ b' → i ≠ b → (S.mv b b' (.row e k n xs)).hp i = frH b (.o b') (S.hp i) := fun i h1 h2 => by
    show cond (Nat.beq i b') _ _ = _; rw [zbe h1]
    show cond (Nat.beq i b) _ _ = _; rw [zbe h2]; rfl
  have hb3 : (S.mv b b' (.row e k n xs)).hp b = .dead := by
    show cond (Nat.beq b b') _ _ = _; rw [zbe hne]
    show cond (Nat.beq b b) _ _ = _; rw [Nat.beq_refl]; rfl
  have fr : ∀ q, frH b (.o b') q ≠ .fresh ↔ q ≠ .fresh := fun q => by
    cases q with
    | live q => cases q <;> simp [frH]
    | fresh => simp [frH]
    | dead => simp [frH]
    | patch _ _ => simp [frH]
  have hal : ∀ i, zch (S.mv b b' (.row e k n xs)).hp i → i = b' ∨ (i ≠ b' ∧ i ≠ b ∧ zch S.hp i) := fun i ⟨q, hq⟩ => by
    by_cases e1 : i = b'
    · exact .inl e1
    · by_cases e2 : i = b
      · subst e2; rw [hb3] at hq; cases hq
      · rw [hb2 i e1 e2] at hq
        refine .inr ⟨e1, e2, ?_⟩
        cases hh : S.hp i with
        | live q' => exact ⟨q', hh⟩
        | fresh => rw [hh] at hq; cases hq
        | dead => rw [hh] at hq; cases hq
        | patch _ _ => rw [hh] at hq; cases hq
  have t1 : zcs τ b' (τ b) b' = τ b := by unfold zcs; rw [if_pos rfl]
  have t2 : ∀ i, i ≠ b' → zcs τ b' (τ b) i = τ i := fun i hi => by unfold zcs; rw [if_neg hi]
  have hle : (env X S.hp τ w).le (env X (S.mv b b' (.row e k n xs)).hp (zcs τ b' (τ b)) w) := by
    refine ⟨fun i hi => ?_, fun g _ ha => ⟨ha.1, fun i hi => ?_⟩, Nat.le_refl _, fun _ _ _ _ => rfl⟩
    · have hi : S.hp i ≠ .fresh := hi
      have e1 : i ≠ b' := fun e => hi (e ▸ hf)
      refine ⟨?_, t2 i e1⟩
      show (S.mv b b' (.row e k n xs)).hp i ≠ .fresh
      by_cases e2 : i = b
      · subst e2; rw [hb3]; intro e; cases e
      · rw [hb2 i e1 e2]; exact (fr _).2 hi
    · show occ (zcs τ b' (τ b) i) ≠ some g
      rcases hal i hi with rfl | ⟨e1, e2, hi⟩
      · rw [t1]; exact ha.2 b ⟨_, hb⟩
      · rw [t2 i e1]; exact ha.2 i hi
  have hC : ∀ (c : Ce) (v : Value), c.R (env X S.hp τ w) v → (frC b (.o b') c).R (env X (S.mv b b' (.row e k n xs)).hp (zcs τ b' (τ b)) w) v := fun c v hR => by
    cases c with
    | o i =>
      simp only [frC]
      by_cases ei : i = b
      · subst ei; rw [Nat.beq_refl]
        have : v = τ i := hR.2
        refine ⟨?_, ?_⟩
        · show (S.mv i b' (.row e k n xs)).hp b' ≠ .fresh
          rw [hb1]; intro e; cases e
        · show v = zcs τ b' (τ i) b'
          rw [t1]; exact this
      · rw [zbe ei]; exact zcf hle _ _ hR
    | _ => exact zcf hle _ _ hR
  have hM : ∀ (c : Cm) (v : Value), c.R (env X S.hp τ w) v → (frM b (.o b') c).R (env X (S.mv b b' (.row e k n xs)).hp (zcs τ b' (τ b)) w) v := fun c v hR => by
    cases c with
    | c x => exact hC x v hR
    | ag cs => obtain ⟨vs, e', q⟩ := hR; exact ⟨vs, e', zf7 _ hC _ _ q⟩
  refine ⟨zcs τ b' (τ b), h.size, h.nodef, h.bel, fun t ht => ?_, fun i q hq => ?_, fun i g hi ho => ?_, fun i j g hij hi hj ho => ?_, fun i => ?_, fun p hp => ⟨(hle.U _ (h.pin p hp).1).1, (hle.U _ (h.pin p hp).1).2.trans (h.pin p hp).2⟩⟩
  · have := h.tm t ht
    show (frV b (.o b') (S.tm t)).R _ _
    cases hv : S.tm t with
    | m m => rw [hv] at this; exact hM m _ this
    | tu l => rw [hv] at this; obtain ⟨vs, e', q⟩ := this; exact ⟨vs, e', zf7 _ hM _ _ q⟩
  · rcases hal i ⟨q, hq⟩ with rfl | ⟨e1, e2, q', hq'⟩
    · rw [hb1] at hq; cases hq
      rw [t1]; exact h.hp b _ hb
    · rw [hb2 i e1 e2, hq'] at hq
      rw [t2 i e1]
      have hk := h.hp i q' hq'
      cases q' with
      | box cs =>
        simp only [frH] at hq; cases hq
        obtain ⟨g, vs, x1, x2, x3⟩ := hk
        exact ⟨g, vs, x1, x2, zf7 _ hC _ _ x3⟩
      | row _ _ _ _ => simp only [frH] at hq; cases hq; exact hk
  · rcases hal i hi with rfl | ⟨e1, e2, hi⟩
    · rw [t1] at ho; exact h.own b g ⟨_, hb⟩ ho
    · rw [t2 i e1] at ho; exact h.own i g hi ho
  · rcases hal i hi with e0 | ⟨e1, e2, hi'⟩
    · rw [e0, t1] at ho
      rcases hal j hj with f0 | ⟨f1, f2, hj'⟩
      · exact absurd (e0.trans f0.symm) hij
      · rw [t2 j f1]; exact h.sep b j g (Ne.symm f2) ⟨_, hb⟩ hj' ho
    · rw [t2 i e1] at ho
      rcases hal j hj with f0 | ⟨f1, f2, hj'⟩
      · rw [f0, t1]; exact h.sep i b g e2 hi' ⟨_, hb⟩ ho
      · rw [t2 j f1]; exact h.sep i j g hij hi' hj' ho
  · by_cases e1 : i = b'
    · subst e1; rw [t1]; exact h.one b
    · rw [t2 i e1]; exact h.one i
def St.nl (S : St) (t b : Nat) (r : Bk) : St := ⟨fun t' => cond (Nat.beq t' t) (.m (.c (.o b))) (S.tm t'), fun i => cond (Nat.beq i b) (.live r) (S.hp i)⟩
theorem zfg (t b e k : Nat) (ht : S.tm t = .m (.c (.v (.slice none 0 0)))) (hf : S.hp b = .fresh) : Sub X S (S.nl t b (.row e k 0 [])) := fun a w ⟨τ, h⟩ => by
  have hb1 : (S.nl t b (.row e k 0 [])).hp b = .live (.row e k 0 []) := by
    show cond (Nat.beq b b) _ _ = _; rw [Nat.beq_refl]; rfl
  have hb2 : ∀ i, i ≠ b → (S.nl t b (.row e k 0 [])).hp i = S.hp i := fun i h1 => by
    show cond (Nat.beq i b) _ _ = _; rw [zbe h1]; rfl
  have hal : ∀ i, zch (S.nl t b (.row e k 0 [])).hp i → i = b ∨ (i ≠ b ∧ zch S.hp i) := fun i ⟨q, hq⟩ => by
    by_cases e1 : i = b
    · exact .inl e1
    · rw [hb2 i e1] at hq; exact .inr ⟨e1, q, hq⟩
  have t1 : zcs τ b (.slice none 0 0) b = .slice none 0 0 := by unfold zcs; rw [if_pos rfl]
  have t2 : ∀ i, i ≠ b → zcs τ b (.slice none 0 0) i = τ i := fun i hi => by unfold zcs; rw [if_neg hi]
  have hle : (env X S.hp τ w).le (env X (S.nl t b (.row e k 0 [])).hp (zcs τ b (.slice none 0 0)) w) := by
    refine ⟨fun i hi => ?_, fun g _ ha => ⟨ha.1, fun i hi => ?_⟩, Nat.le_refl _, fun _ _ _ _ => rfl⟩
    · have hi : S.hp i ≠ .fresh := hi
      have e1 : i ≠ b := fun e => hi (e ▸ hf)
      exact ⟨by show (S.nl t b (.row e k 0 [])).hp i ≠ .fresh; rw [hb2 i e1]; exact hi, t2 i e1⟩
    · show occ (zcs τ b (.slice none 0 0) i) ≠ some g
      rcases hal i hi with rfl | ⟨e1, hi⟩
      · rw [t1]; intro e; cases e
      · rw [t2 i e1]; exact ha.2 i hi
  refine ⟨zcs τ b (.slice none 0 0), h.size, h.nodef, h.bel, fun t' ht' => ?_, fun i q hq => ?_, fun i g hi ho => ?_, fun i j g hij hi hj ho => ?_, fun i => ?_, fun p hp => ⟨(hle.U _ (h.pin p hp).1).1, (hle.U _ (h.pin p hp).1).2.trans (h.pin p hp).2⟩⟩
  · show (cond (Nat.beq t' t) (.m (.c (.o b))) (S.tm t')).R _ _
    by_cases et : t' = t
    · subst et; rw [Nat.beq_refl]
      have := h.tm t' ht'
      rw [ht] at this
      have this : a.tmps.getD t' undef = .slice none 0 0 := this
      refine ⟨?_, ?_⟩
      · show (S.nl t' b (.row e k 0 [])).hp b ≠ .fresh
        rw [hb1]; intro e; cases e
      · show _ = zcs τ b (.slice none 0 0) b
        rw [t1]; exact this
    · rw [zbe et]; exact zq3 hle _ _ (h.tm t' ht')
  · rcases hal i ⟨q, hq⟩ with rfl | ⟨e1, q', hq'⟩
    · rw [hb1] at hq; cases hq
      rw [t1]; exact World.ownsRow_nil w X.base e k
    · rw [hb2 i e1] at hq
      rw [t2 i e1]
      have hk := h.hp i q hq
      cases q with
      | box cs =>
        obtain ⟨g, vs, x1, x2, x3⟩ := hk
        exact ⟨g, vs, x1, x2, All2.mono (zcf hle) _ _ x3⟩
      | row _ _ _ _ => exact hk
  · rcases hal i hi with rfl | ⟨e1, hi⟩
    · rw [t1] at ho; cases ho
    · rw [t2 i e1] at ho; exact h.own i g hi ho
  · rcases hal i hi with e0 | ⟨e1, hi'⟩
    · rw [e0, t1] at ho; cases ho
    · rw [t2 i e1] at ho
      rcases hal j hj with f0 | ⟨f1, hj'⟩
      · rw [f0, t1]; intro e; cases e
      · rw [t2 j f1]; exact h.sep i j g hij hi' hj' ho
  · by_cases e1 : i = b
    · subst e1; rw [t1]; rfl
    · rw [t2 i e1]; exact h.one i
end Go.Proofs.YtmkjfeamgknpfaaGreatDoor.Ax
namespace Go.Proofs.YtmkjfeamgknpfaaGreatDoor.Ax
open Go.RowKit MemL RegR
variable {P : Program} {ops : Array Oper} {X : Cx} {o : Oper} {S : St}
abbrev Ln := Nat × List Ce × List Ce
def zm3 (τ : Nat → Value) (bs : List Ln) (g : Nat) : Prop := ∃ p ∈ bs, occ (τ p.1) = some g
def zck (P : Program) (G : World → Prop) (k : FuncId) (bs : List Ln) (args : List Cm) (r : AV) : Prop :=
  (zco r && bs.all (fun p => p.2.1.all zbl && p.2.2.all zbl)) = true ∧ (args.flatMap idM).all (fun b => bs.any (fun p => Nat.beq p.1 b)) = true ∧
  ∀ (A : Nat → Prop) (W : World) (τ : Nat → Value) (vs : Array Value), (∀ w, Kept (fun g => g < W.heap.size ∧ ¬ zm3 τ bs g) W w → G w) →
    (∀ p ∈ bs, ∃ g us, τ p.1 = .pointer (some ⟨g, 0, none⟩) ∧ Bx W g us ∧ All2 (Ce.R (en0 A W)) p.2.1 us.toList ∧ ¬ A g) →
    (∀ p ∈ bs, ∀ q ∈ bs, p.1 ≠ q.1 → ∀ g, occ (τ p.1) = some g → occ (τ q.1) ≠ some g) →
    All2 (Cm.R ⟨A, fun b => ∃ p ∈ bs, p.1 = b, τ, W⟩) args vs.toList →
    Calls P k vs W fun e w' => ∃ v, e = .returned v ∧ Kept (fun g => g < W.heap.size ∧ ¬ zm3 τ bs g) W w' ∧ r.R (en0 (fun g => A g ∨ W.heap.size ≤ g) w') v ∧
      ∀ p ∈ bs, ∃ g us, τ p.1 = .pointer (some ⟨g, 0, none⟩) ∧ Bx w' g us ∧ All2 (Ce.R (en0 (fun g => A g ∨ W.heap.size ≤ g) w')) p.2.2 us.toList
theorem look_mem {α : Type} {d : α} : ∀ (l : List (Nat × α)) (b : Nat) (x : α), look d l b = x → x ≠ d → ∃ p ∈ l, p.1 = b ∧ p.2 = x
  | [], b, x, h, k => absurd h.symm k
  | p :: r, b, x, h, k => by
    simp only [look] at h
    cases e : Nat.beq b p.1 with
    | true => rw [e] at h; exact ⟨p, by simp, (Nat.eq_of_beq_eq_true e).symm, h⟩
    | false =>
      rw [e] at h
      obtain ⟨q, h1, h2⟩ := look_mem r b x h k
      exact ⟨q, List.mem_cons_of_mem _ h1, h2⟩
theorem ziu {α : Type} {d : α} : ∀ (l : List (Nat × α)) (p : Nat × α), p ∈ l → ∃ q ∈ l, q.1 = p.1 ∧ look d l p.1 = q.2
  | q :: r, p, h => by
    simp only [look]
    cases e : Nat.beq p.1 q.1 with
    | true => exact ⟨q, by simp, (Nat.eq_of_beq_eq_true e).symm, rfl⟩
    | false =>
      rcases List.mem_cons.1 h with rfl | h
      · rw [Nat.beq_refl] at e; cases e
      · obtain ⟨q', h1, h2⟩ := ziu r p h
        exact ⟨q', List.mem_cons_of_mem _ h1, h2⟩
def ze0 (bs : List Ln) (args : List Cm) : St := ⟨(zl0 args).tm, look .fresh (bs.map fun p => (p.1, .live (.box p.2.1)))⟩
def EndB (S : St) : List Ln → Prop
  | [] => True
  | p :: l => (∃ cs, S.hp p.1 = .live (.box cs) ∧ cs.map (zgy S.hp) = p.2.2) ∧ EndB S l
theorem EndB.mem {S : St} : ∀ {l : List Ln}, EndB S l → ∀ p ∈ l, ∃ cs, S.hp p.1 = .live (.box cs) ∧ cs.map (zgy S.hp) = p.2.2
  | q :: l, h, p, hp => by
    rcases List.mem_cons.1 hp with rfl | hp
    · exact h.1
    · exact EndB.mem h.2 p hp
def RetW (P : Program) (fn : Func) (r : AV) (bs : List Ln) (e : Exit) (S : St) : Prop := match e with
  | .normal | .ret => za6 P fn S = some r ∧ EndB S bs
  | _ => False
theorem zkq {τ : Nat → Value} {a : Act} {w : World} (h : SimT X S τ a w) : ∀ (cs : List Ce) (vs : List Value), All2 (Ce.R (env X S.hp τ w)) cs vs → All2 (Ce.R ⟨fun g => X.A0 g ∨ X.base ≤ g, fun b => S.hp b ≠ .fresh, τ, w⟩) (cs.map (zgy S.hp)) vs
  | [], [], _ => trivial
  | c :: cs, v :: vs, k => ⟨zin h c v k.1, zkq h cs vs k.2⟩
  | [], _ :: _, k => k.elim
  | _ :: _, [], k => k.elim
def cxW (N : Nat) (W : World) (A : Nat → Prop) (G : World → Prop) (τ : Nat → Value) (bs : List Ln) (hG : ∀ w, Kept (fun g => g < W.heap.size ∧ ¬ zm3 τ bs g) W w → G w) : Cx :=
  ⟨N, W, A, G, W.heap.size, Nat.le_refl _, fun g => g < W.heap.size ∧ ¬ zm3 τ bs g, fun _ h => h.1, hG, bs.map fun p => (p.1, τ p.1), none, []⟩
theorem zcd {G : World → Prop} {k : FuncId} {fn : Func} {c : Code} {bs : List Ln} {args : List Cm} {r : AV} (N : Nat) (hf : P.funcs[k]? = some fn) (hb : fn.body = some c) (hcl : (zco r && bs.all (fun p => p.2.1.all zbl && p.2.2.all zbl)) = true) (hid : (args.flatMap idM).all (fun b => bs.any (fun p => Nat.beq p.1 b)) = true)
    (hN : args.length + (fn.ntmps - args.length) = N) (hres : zea N fn.results.toList = true)
    (h : ∀ (W : World) (A : Nat → Prop) (τ : Nat → Value) (hG : ∀ w, Kept (fun g => g < W.heap.size ∧ ¬ zm3 τ bs g) W w → G w), Aw P (cxW N W A G τ bs hG) c (RetW P fn r bs) (ze0 bs args)) : zck P G k bs args r := by
  refine ⟨hcl, hid, fun A W τ vs hG hB hsep hR => ?_⟩
  simp only [Bool.and_eq_true, List.all_eq_true] at hcl
  obtain ⟨hcr, hcb⟩ := hcl
  refine calls_of_wp hf hb ?_
  have hlen := All2.length _ _ hR
  simp only [Array.length_toList] at hlen
  obtain ⟨τ', hτ'⟩ : ∃ τ' : Nat → Value, τ' = fun b => cond (bs.any fun p => Nat.beq p.1 b) (τ b) (.bool false) := ⟨_, rfl⟩
  have ht : ∀ p ∈ bs, τ' p.1 = τ p.1 := fun p hp => by
    rw [hτ']
    have : (bs.any fun q => Nat.beq q.1 p.1) = true := List.any_eq_true.2 ⟨p, hp, Nat.beq_refl _⟩
    simp only [this, cond]
  have hlive : ∀ b q, look .fresh (bs.map fun p => (p.1, Hs.live (.box p.2.1))) b = .live q → ∃ p ∈ bs, p.1 = b ∧ q = .box p.2.1 := fun b q hq => by
    obtain ⟨x, h1, h2, h3⟩ := look_mem _ b _ hq (fun e => by cases e)
    obtain ⟨p, hp, rfl⟩ := List.mem_map.1 h1
    exact ⟨p, hp, h2, by cases h3; rfl⟩
  have halw : ∀ g, A g → alw (cxW N W A G τ bs hG) (ze0 bs args).hp τ' g := fun g hg => ⟨.inl hg, fun b ⟨q, hq⟩ ho => by
    obtain ⟨p, hp, rfl, _⟩ := hlive b q hq
    obtain ⟨g', us, e1, _, _, e4⟩ := hB p hp
    rw [ht p hp, e1] at ho
    cases ho; exact e4 hg⟩
  have hS : Sim (cxW N W A G τ bs hG) (ze0 bs args) { tmps := vs ++ Array.replicate (fn.ntmps - vs.size) undef, defers := [] } W := by
    refine ⟨τ', by simp [← hN, hlen, cxW], rfl, Kept.refl _ _, fun t ht' => ?_, fun b k hk => ?_, fun b g hk ho => ?_, fun b b' g hne hk hk' ho => ?_, fun b => ?_, fun q hq => ?_⟩
    · show AV.R _ (match args[t]? with | some m => .m m | none => .m (.c (.v undef))) _
      have ht' : t < N := ht'
      by_cases hlt : t < args.length
      · obtain ⟨v, hv, hr⟩ := All2.get _ _ t _ hR (List.getElem?_eq_getElem hlt)
        rw [List.getElem?_eq_getElem hlt]
        have e : (vs ++ Array.replicate (fn.ntmps - vs.size) undef).getD t undef = v := by
          rw [Array.getD_eq_getD_getElem?, Array.getElem?_append_left (by omega)]
          simp only [Array.getElem?_toList] at hv
          rw [hv]; rfl
        rw [e]
        refine zov (E := ⟨A, fun b => ∃ p ∈ bs, p.1 = b, τ, W⟩) (F := env (cxW N W A G τ bs hG) (ze0 bs args).hp τ' W) ⟨fun b hb' => ?_, fun g _ hg => halw g hg, Nat.le_refl _, fun _ _ _ _ => rfl⟩ _ _ hr
        obtain ⟨p, hp, rfl⟩ := hb'
        refine ⟨?_, ht p hp⟩
        obtain ⟨q, q1, q2, q3⟩ := ziu (d := Hs.fresh) (bs.map fun p => (p.1, Hs.live (.box p.2.1))) (p.1, .live (.box p.2.1)) (List.mem_map.2 ⟨p, hp, rfl⟩)
        show look Hs.fresh (bs.map fun p => (p.1, Hs.live (.box p.2.1))) p.1 ≠ Hs.fresh
        rw [show look Hs.fresh (bs.map fun p => (p.1, Hs.live (.box p.2.1))) p.1 = q.2 from q3]
        obtain ⟨p', _, rfl⟩ := List.mem_map.1 q1
        intro e; cases e
      · rw [List.getElem?_eq_none (by omega)]
        show _ = undef
        rw [Array.getD_eq_getD_getElem?, Array.getElem?_append_right (by omega)]
        rw [Array.getElem?_replicate]; split <;> rfl
    · obtain ⟨p, hp, rfl, rfl⟩ := hlive b k hk
      obtain ⟨g, us, e1, e2, e3, _⟩ := hB p hp
      have := hcb p hp
      exact ⟨g, us, (ht p hp).trans e1, e2, zdd (E := en0 A W) (F := env (cxW N W A G τ bs hG) (ze0 bs args).hp τ' W) rfl (fun g _ hg => halw g hg) _ _ (List.all_eq_true.2 this.1) e3⟩
    · obtain ⟨q, hq⟩ := hk
      obtain ⟨p, hp, rfl, rfl⟩ := hlive b q hq
      obtain ⟨g', us, e1, e2, e3, _⟩ := hB p hp
      rw [ht p hp] at ho
      refine ⟨fun hk => hk.2 ⟨p, hp, ho⟩, ?_⟩
      rw [e1] at ho; cases ho
      exact e2.lt
    · obtain ⟨q, hq⟩ := hk
      obtain ⟨q', hq'⟩ := hk'
      obtain ⟨p, hp, rfl, rfl⟩ := hlive b q hq
      obtain ⟨p', hp', rfl, rfl⟩ := hlive b' q' hq'
      rw [ht p hp] at ho
      rw [ht p' hp']
      exact hsep p hp p' hp' hne g ho
    · have e0 : τ' b = cond (bs.any fun p => Nat.beq p.1 b) (τ b) (.bool false) := by rw [hτ']
      rw [e0]
      cases e : bs.any fun p => Nat.beq p.1 b with
      | false => rfl
      | true =>
        obtain ⟨p, hp, e'⟩ := List.any_eq_true.1 e
        obtain rfl := Nat.eq_of_beq_eq_true e'
        obtain ⟨g, us, e1, _⟩ := hB p hp
        show (τ p.1).oneCell' = true
        rw [e1]; rfl
    · obtain ⟨p, hp, rfl⟩ := List.mem_map.1 hq
      refine ⟨?_, ht p hp⟩
      obtain ⟨q, q1, q2, q3⟩ := ziu (d := Hs.fresh) (bs.map fun p => (p.1, Hs.live (.box p.2.1))) (p.1, .live (.box p.2.1)) (List.mem_map.2 ⟨p, hp, rfl⟩)
      show look Hs.fresh (bs.map fun p => (p.1, Hs.live (.box p.2.1))) p.1 ≠ Hs.fresh
      rw [show look Hs.fresh (bs.map fun p => (p.1, Hs.live (.box p.2.1))) p.1 = q.2 from q3]
      obtain ⟨p', _, rfl⟩ := List.mem_map.1 q1
      intro e; cases e
  refine wp_mono (wpIn_wide.1 (h W A τ hG _ W hS 0)) ?_
  intro e a' w' ⟨S', q, τe, s⟩
  have fin : za6 P fn S' = some r ∧ EndB S' bs → a'.defers = [] ∧ ∃ v, (results fn a'.tmps).run P w' = .ok v w' ∧ (∃ u, Ending.returned v = .returned u ∧ Kept (fun g => g < W.heap.size ∧ ¬ zm3 τ bs g) W w' ∧ r.R (en0 (fun g => A g ∨ W.heap.size ≤ g) w') u ∧
      ∀ p ∈ bs, ∃ g us, τ p.1 = .pointer (some ⟨g, 0, none⟩) ∧ Bx w' g us ∧ All2 (Ce.R (en0 (fun g => A g ∨ W.heap.size ≤ g) w')) p.2.2 us.toList) := fun ⟨hr, hE⟩ => by
    refine ⟨s.nodef, ?_⟩
    have hbx : ∀ p ∈ bs, ∃ g us, τ p.1 = .pointer (some ⟨g, 0, none⟩) ∧ Bx w' g us ∧ All2 (Ce.R (en0 (fun g => A g ∨ W.heap.size ≤ g) w')) p.2.2 us.toList := fun p hp => by
      obtain ⟨cs, e1, e2⟩ := hE.mem p hp
      obtain ⟨g, us, e3, e4, e5⟩ := s.hp p.1 _ e1
      have hpin := (s.pin (p.1, τ p.1) (List.mem_map.2 ⟨p, hp, rfl⟩)).2
      have e6 := zkq s _ _ e5
      rw [e2] at e6
      have := hcb p hp
      exact ⟨g, us, by rw [← e3]; exact hpin.symm, e4, zdd (E := ⟨_, _, τe, w'⟩) (F := en0 (fun g => A g ∨ W.heap.size ≤ g) w') rfl (fun g _ hg => hg) _ _ (List.all_eq_true.2 this.2) e6⟩
    unfold za6 at hr
    split at hr
    · rename_i m hm
      cases hr
      obtain ⟨vs', h1, h2⟩ := zd3 s _ _ hres hm
      obtain ⟨v, rfl⟩ : ∃ v, vs' = [v] := by
        cases vs' with
        | nil => exact h2.elim
        | cons v l => cases l with | nil => exact ⟨v, rfl⟩ | cons _ _ => exact h2.2.elim
      refine ⟨v, ?_, v, rfl, s.bel, (ze6 (E := ⟨_, _, τe, w'⟩) (F := en0 (fun g => A g ∨ W.heap.size ≤ g) w') rfl (fun g _ hg => hg) _ _ hcr h2.1 : Cm.R _ _ _), hbx⟩
      rw [zc9]
      rw [Array.mapM_eq_mapM_toList]
      simp only [Sem.run_bind, Sem.run_map, h1, Result.andThen_ok, Sem.run_pure]
      rfl
    · rename_i ms hne hm
      cases hr
      obtain ⟨vs', h1, h2⟩ := zd3 s _ _ hres hm
      have hl := All2.length _ _ h2
      have hsz : vs'.length ≠ 1 := fun e => by
        cases ms with
        | nil => simp at hl; omega
        | cons m l => cases l with
          | nil => exact hne m rfl
          | cons _ _ => simp at hl; omega
      refine ⟨.tuple vs'.toArray, ?_, _, rfl, s.bel, ⟨_, rfl, zdf (E := ⟨_, _, τe, w'⟩) (F := en0 (fun g => A g ∨ W.heap.size ≤ g) w') rfl (fun g _ hg => hg) _ _ hcr h2⟩, hbx⟩
      rw [zc9]
      rw [Array.mapM_eq_mapM_toList]
      simp only [Sem.run_bind, Sem.run_map, h1, Result.andThen_ok, Sem.run_pure]
      simp [hsz]
    · cases hr
  cases e with
  | normal => exact fin q
  | ret => exact fin q
  | _ => exact q.elim
def rnC (nm : Nat → Nat) : Ce → Ce
  | .p b o => .p (nm b) o
  | .cl fi bs => .cl fi (bs.map nm)
  | c => c
def rnM (nm : Nat → Nat) : Cm → Cm
  | .c x => .c (rnC nm x)
  | .ag cs => .ag (cs.map (rnC nm))
def z0p : Ce → Bool
  | .p _ _ | .cl _ _ => true
  | c => zbl c
def zn1 : Cm → Bool
  | .c x => z0p x
  | .ag cs => cs.all z0p
theorem zzs {E : En} {τ : Nat → Value} {nm : Nat → Nat} {U : Nat → Prop} (hτ : ∀ b, U b → E.τ (nm b) = τ b) : ∀ (c : Ce) (v : Value), z0p c = true → (∀ b ∈ idC c, U b) → (rnC nm c).R E v → c.R ⟨E.A, U, τ, E.w⟩ v
  | .v x, v, _, _, h => h
  | .s n k xs, v, _, _, h => h
  | .q xs, v, _, _, h => h
  | .any, _, _, _, _ => trivial
  | .p b off, v, _, hu, ⟨_, g, h1, h2⟩ => ⟨hu b (by simp [idC]), g, (hτ b (hu b (by simp [idC]))).symm.trans h1, h2⟩
  | .cl fi bs, v, _, hu, ⟨h1, h2⟩ => ⟨by
      have e : bs.map (E.τ ∘ nm) = bs.map τ := List.map_congr_left (fun b hb => hτ b (hu b hb))
      rw [h1, List.map_map, e], fun b hb => hu b hb⟩
  | .o _, _, h, _, _ | .rp _ _, _, h, _, _ | .f _ _ _, _, h, _, _ | .bs _ _ _, _, h, _, _ => by cases h
theorem zzt {E : En} {τ : Nat → Value} {nm : Nat → Nat} {U : Nat → Prop} (hτ : ∀ b, U b → E.τ (nm b) = τ b) : ∀ (cs : List Ce) (vs : List Value), cs.all z0p = true → (∀ b ∈ cs.flatMap idC, U b) → All2 (Ce.R E) (cs.map (rnC nm)) vs → All2 (Ce.R ⟨E.A, U, τ, E.w⟩) cs vs
  | [], [], _, _, _ => trivial
  | c :: cs, v :: vs, h, hu, k => by
    simp only [List.all_cons, Bool.and_eq_true] at h
    exact ⟨zzs hτ c v h.1 (fun b hb => hu b (by rw [List.flatMap_cons]; exact List.mem_append_left _ hb)) k.1, zzt hτ cs vs h.2 (fun b hb => hu b (by rw [List.flatMap_cons]; exact List.mem_append_right _ hb)) k.2⟩
  | [], _ :: _, _, _, k => k.elim
  | _ :: _, [], _, _, k => k.elim
theorem z07 {E : En} {τ : Nat → Value} {nm : Nat → Nat} {U : Nat → Prop} (hτ : ∀ b, U b → E.τ (nm b) = τ b) : ∀ (c : Cm) (v : Value), zn1 c = true → (∀ b ∈ idM c, U b) → (rnM nm c).R E v → c.R ⟨E.A, U, τ, E.w⟩ v
  | .c x, v, h, hu, k => zzs hτ x v h hu k
  | .ag cs, v, h, hu, ⟨vs, e, k⟩ => ⟨vs, e, zzt hτ cs _ h hu k⟩
theorem zsa {E : En} {τ : Nat → Value} {nm : Nat → Nat} {U : Nat → Prop} (hτ : ∀ b, U b → E.τ (nm b) = τ b) : ∀ (cs : List Cm) (vs : List Value), cs.all zn1 = true → (∀ b ∈ cs.flatMap idM, U b) → All2 (Cm.R E) (cs.map (rnM nm)) vs → All2 (Cm.R ⟨E.A, U, τ, E.w⟩) cs vs
  | [], [], _, _, _ => trivial
  | c :: cs, v :: vs, h, hu, k => by
    simp only [List.all_cons, Bool.and_eq_true] at h
    exact ⟨z07 hτ c v h.1 (fun b hb => hu b (by rw [List.flatMap_cons]; exact List.mem_append_left _ hb)) k.1, zsa hτ cs vs h.2 (fun b hb => hu b (by rw [List.flatMap_cons]; exact List.mem_append_right _ hb)) k.2⟩
  | [], _ :: _, _, _, k => k.elim
  | _ :: _, [], _, _, k => k.elim
def upB (nm : Nat → Nat) (bs : List Ln) : List (Nat × Hs) := bs.map fun p => (nm p.1, .live (.box p.2.2))
theorem zdx {nm : Nat → Nat} (h : Nat → Hs) : ∀ (bs : List Ln) (b : Nat), (∃ p ∈ bs, nm p.1 = b ∧ upd (upB nm bs) h b = .live (.box p.2.2)) ∨ ((∀ p ∈ bs, nm p.1 ≠ b) ∧ upd (upB nm bs) h b = h b)
  | [], b => .inr ⟨fun p hp => (by cases hp), rfl⟩
  | p :: bs, b => by
    show (∃ q ∈ p :: bs, nm q.1 = b ∧ cond (Nat.beq b (nm p.1)) (Hs.live (.box p.2.2)) (upd (upB nm bs) h b) = .live (.box q.2.2)) ∨ ((∀ q ∈ p :: bs, nm q.1 ≠ b) ∧ cond (Nat.beq b (nm p.1)) (Hs.live (.box p.2.2)) (upd (upB nm bs) h b) = h b)
    cases e : Nat.beq b (nm p.1) with
    | true => exact .inl ⟨p, by simp, (Nat.eq_of_beq_eq_true e).symm, rfl⟩
    | false =>
      have hne : nm p.1 ≠ b := fun e' => by rw [← e', Nat.beq_refl] at e; cases e
      rcases zdx (nm := nm) h bs b with ⟨q, h1, h2, h3⟩ | ⟨h1, h2⟩
      · exact .inl ⟨q, List.mem_cons_of_mem _ h1, h2, h3⟩
      · refine .inr ⟨fun q hq => ?_, h2⟩
        rcases List.mem_cons.1 hq with rfl | hq
        · exact hne
        · exact h1 q hq
def zzu (nm : Nat → Nat) (bs : List Ln) : Bool := bs.all fun p => bs.all fun q => Nat.beq p.1 q.1 || !Nat.beq (nm p.1) (nm q.1)
theorem zj1 {k : FuncId} {bs : List Ln} {nm : Nat → Nat} {args : List Cm} {r : AV} {vals : Array Value} {τ : Nat → Value} {a : Act} {w : World} (hS : SimT X S τ a w) (hc : zck P X.G k bs args r) (hb : ∀ p ∈ bs, S.hp (nm p.1) = .live (.box p.2.1)) (hin : zzu nm bs = true)
    (hok : args.all zn1 = true) (hR : All2 (Cm.R (env X S.hp τ w)) (args.map (rnM nm)) vals.toList) {d : Option Tmp} {rd : List Rd} :
    Calls P k vals w fun e w' => ∃ v, e = .returned v ∧ SimT X (S.app d ⟨r, upB nm bs, rd⟩) τ (a.put d v) w' := by
  obtain ⟨c1, c2, hc⟩ := hc
  simp only [Bool.and_eq_true, List.all_eq_true] at c1
  obtain ⟨c1, c3⟩ := c1
  have c3 : ∀ p ∈ bs, p.2.1.all zbl = true ∧ p.2.2.all zbl = true := fun p hp => by
    have := c3 p hp
    exact ⟨List.all_eq_true.2 this.1, List.all_eq_true.2 this.2⟩
  have hinj : ∀ p ∈ bs, ∀ q ∈ bs, p.1 ≠ q.1 → nm p.1 ≠ nm q.1 := fun p hp q hq hne e => by
    have := List.all_eq_true.1 (List.all_eq_true.1 hin p hp) q hq
    rw [e, Nat.beq_refl] at this
    simp at this
    exact hne this
  have hal : ∀ p ∈ bs, zch S.hp (nm p.1) := fun p hp => ⟨_, hb p hp⟩
  have hlent : ∀ g, zm3 (fun b => τ (nm b)) bs g → ∃ b, zch S.hp b ∧ occ (τ b) = some g := fun g ⟨p, hp, e⟩ => ⟨_, hal p hp, e⟩
  refine (hc (alw X S.hp τ) w (fun b => τ (nm b)) vals (fun w' hk => X.hG w' (hS.bel.trans (hk.mono fun g hg => ⟨Nat.lt_of_lt_of_le (X.hK g hg) hS.bel.size, fun hl => by
      obtain ⟨b, h1, h2⟩ := hlent g hl
      exact (hS.own b g h1 h2).1 hg⟩))) (fun p hp => ?_) (fun p hp q hq hne g ho => hS.sep _ _ g (hinj p hp q hq hne) (hal p hp) (hal q hq) ho) ?_).mono ?_
  · obtain ⟨g, us, e1, e2, e3⟩ := hS.hp _ _ (hb p hp)
    exact ⟨g, us, e1, e2, zdd (E := env X S.hp τ w) (F := en0 (alw X S.hp τ) w) rfl (fun _ _ h => h) _ _ (c3 p hp).1 e3, fun hA => hA.2 _ (hal p hp) (by rw [e1]; rfl)⟩
  · refine zsa (E := env X S.hp τ w) (nm := nm) (U := fun b => ∃ p ∈ bs, p.1 = b) (fun b _ => rfl) _ _ hok (fun b hb' => ?_) hR
    obtain ⟨p, hp, e⟩ := List.any_eq_true.1 (List.all_eq_true.1 c2 b hb')
    exact ⟨p, hp, Nat.eq_of_beq_eq_true e⟩
  rintro e w' ⟨v, rfl, hk, hr, hbx⟩
  refine ⟨v, rfl, ?_⟩
  have hal' : ∀ b, zch (upd (upB nm bs) S.hp) b → zch S.hp b := fun b ⟨q, hq⟩ => by
    rcases zdx (nm := nm) S.hp bs b with ⟨p, h1, rfl, _⟩ | ⟨_, h2⟩
    · exact hal p h1
    · rw [h2] at hq; exact ⟨q, hq⟩
  have hbel : Kept X.K X.W0 w' := hS.bel.trans (hk.mono fun g hg => ⟨Nat.lt_of_lt_of_le (X.hK g hg) hS.bel.size, fun hl => by
      obtain ⟨b, h1, h2⟩ := hlent g hl
      exact (hS.own b g h1 h2).1 hg⟩)
  have hle : (env X S.hp τ w).le (env X (upd (upB nm bs) S.hp) τ w') := by
    refine ⟨fun i hi => ⟨?_, rfl⟩, fun g _ ha => ⟨ha.1, fun i hi => ha.2 i (hal' i hi)⟩, hk.size, fun g o hg ha => hk.cell (p := ⟨g, o, none⟩) ⟨hg, fun hl => ?_⟩⟩
    · show upd (upB nm bs) S.hp i ≠ .fresh
      rcases zdx (nm := nm) S.hp bs i with ⟨p, h1, rfl, h3⟩ | ⟨_, h2⟩
      · rw [h3]; intro e; cases e
      · rw [h2]; exact hi
    · obtain ⟨b, h1, h2⟩ := hlent g hl
      exact ha.2 b h1 h2
  have hA' : ∀ g, g < w'.heap.size → (alw X S.hp τ g ∨ w.heap.size ≤ g) → alw X (upd (upB nm bs) S.hp) τ g := fun g _ hg => by
    rcases hg with hg | hg
    · exact ⟨hg.1, fun i hi => hg.2 i (hal' i hi)⟩
    · exact ⟨.inr (Nat.le_trans hS.bsz hg), fun i hi he => by have := (hS.own i g (hal' i hi) he).2; omega⟩
  refine hS.turn (u := upB nm bs) hle hbel (fun i q hq => ?_) (fun i g hi ho => ?_) (fun i j g hij hi hj ho => hS.sep i j g hij (hal' i hi) (hal' j hj) ho) hS.one ?_
  · rcases zdx (nm := nm) S.hp bs i with ⟨p, h1, rfl, h3⟩ | ⟨h1, h2⟩
    · rw [h3] at hq; cases hq
      obtain ⟨g, us, e1, e2, e3⟩ := hbx p h1
      exact ⟨g, us, e1, e2, zdd (E := en0 (fun g => alw X S.hp τ g ∨ w.heap.size ≤ g) w') (F := env X (upd (upB nm bs) S.hp) τ w') rfl (fun g hg h => hA' g hg h) _ _ (c3 p h1).2 e3⟩
    · rw [h2] at hq
      have hfar : ∀ g, occ (τ i) = some g → w'.heap[g]? = w.heap[g]? := fun g ho => hk.block g ⟨(hS.own i g ⟨q, hq⟩ ho).2, fun ⟨p, hp, e⟩ => hS.sep _ _ g (h1 p hp) (hal p hp) ⟨q, hq⟩ e ho⟩
      have hk' := hS.hp i q hq
      cases q with
      | box cs' =>
        obtain ⟨g', vs', x1, ⟨T', x2⟩, x3⟩ := hk'
        exact ⟨g', vs', x1, ⟨T', (hfar g' (by rw [x1]; rfl)).trans x2⟩, All2.mono (zcf hle) _ _ x3⟩
      | row e' k' n' xs' =>
        obtain ⟨x0, x1⟩ := hk'
        refine ⟨x0, ?_⟩
        rcases x1 with x1 | ⟨g', cap, cur, y1, y2, y3, y4⟩
        · exact .inl x1
        · exact .inr ⟨g', cap, cur, y1, y2, (hfar g' (by rw [y1]; rfl)).trans y3, y4⟩
  · have := hS.own i g (hal' i hi) ho
    exact ⟨this.1, Nat.lt_of_lt_of_le this.2 hk.size⟩
  · exact zim (E := en0 (fun g => alw X S.hp τ g ∨ w.heap.size ≤ g) w') (F := env X (upd (upB nm bs) S.hp) τ w') rfl hA' _ _ c1 hr
def AtB (S : St) (nm : Nat → Nat) : List Ln → Prop
  | [] => True
  | p :: l => S.hp (nm p.1) = .live (.box p.2.1) ∧ AtB S nm l
theorem AtB.mem {S : St} {nm : Nat → Nat} : ∀ {l : List Ln}, AtB S nm l → ∀ p ∈ l, S.hp (nm p.1) = .live (.box p.2.1)
  | q :: l, h, p, hp => by
    rcases List.mem_cons.1 hp with rfl | hp
    · exact h.1
    · exact AtB.mem h.2 p hp
theorem zhm {k : FuncId} {xs : Array Operand} {ts : Array TypeId} {bs : List Ln} (nm : Nat → Nat) {args : List Cm} {r : AV} (hc : zck P X.G k bs args r) (ho : o.op = .call { callee := .value (.func k), args := xs, argTypes := ts }) (hw : zax ops S o = true) (hk : zcl P k = true) (hl : zjc S xs.toList = some (args.map (rnM nm)))
    (hb : AtB S nm bs) (hin : (zzu nm bs && args.all zn1) = true) : zbd P ops X o S ⟨r, upB nm bs, []⟩ := fun S2 a w h1 h2 h3 ⟨τ, hS⟩ => by
  refine .inl ⟨zbv hw h1 h3 hS, ?_⟩
  rw [zgg ho hk]
  simp only [Bool.and_eq_true] at hin
  have hR := zf6 (S := S) (E := env X S2.hp τ w) (a := a) xs.toList _ hl (fun x hx => by
    have hm : x ∈ o.op.operands := by rw [ho]; simp [Op.operands, Call.operands]; exact .inr (by simpa using hx)
    rw [← zci h1 hm]; exact hS.ev x (fun t e => h3 t (.inl (zby (e ▸ hm)))))
  refine (zj1 (d := o.dst) (rd := []) hS hc (fun p hp => ?_) hin.1 hin.2 (by simpa using hR)).mono ?_
  · exact Eq.trans (h2 (.all (nm p.1)) (by
      simp only [Ef.foot, List.nil_append, List.mem_map]
      exact ⟨(nm p.1, .live (.box p.2.2)), List.mem_map.2 ⟨p, hp, rfl⟩, rfl⟩)) (hb.mem p hp)
  · rintro e w' ⟨v, rfl, hS'⟩
    exact ⟨v, rfl, τ, hS'⟩
theorem zbs {k : FuncId} {t : Tmp} {cap : List Nat} {xs : Array Operand} {ts : Array TypeId} {bs : List Ln} (nm : Nat → Nat) {args : List Cm} {l : List Cm} {r : AV} (hc : zck P X.G k bs args r) (ho : o.op = .call { callee := .value (.tmp t), args := xs, argTypes := ts }) (hw : zax ops S o = true) (hf : S.tm t = .m (.c (.cl k cap))) (hk : zcl P k = true) (hl : zjc S xs.toList = some l)
    (hlc : l ++ cap.map (fun b => .c (.p b 0)) = args.map (rnM nm)) (hb : AtB S nm bs) (hin : (zzu nm bs && args.all zn1 && cap.all fun b => bs.any fun p => Nat.beq (nm p.1) b) = true) : zbd P ops X o S ⟨r, upB nm bs, []⟩ := fun S2 a w h1 h2 h3 ⟨τ, hS⟩ => by
  refine .inl ⟨zbv hw h1 h3 hS, ?_⟩
  simp only [Bool.and_eq_true] at hin
  have hb2 : ∀ p ∈ bs, S2.hp (nm p.1) = .live (.box p.2.1) := fun p hp => Eq.trans (h2 (.all (nm p.1)) (by
      simp only [Ef.foot, List.nil_append, List.mem_map]
      exact ⟨(nm p.1, .live (.box p.2.2)), List.mem_map.2 ⟨p, hp, rfl⟩, rfl⟩)) (hb.mem p hp)
  have hmt : Operand.tmp t ∈ o.op.operands := by rw [ho]; simp [Op.operands, Call.operands]
  have hfv : (Ce.cl k cap).R (env X S2.hp τ w) (a.eval (.tmp t)) := by
    have := hS.ev (.tmp t) (fun t' e => h3 t' (.inl (zby (e ▸ hmt))))
    rw [zci h1 hmt] at this
    rw [show S.ev (.tmp t) = S.tm t from rfl, hf] at this
    exact this
  obtain ⟨hfv, hU⟩ := hfv
  have hrun : (execOp a.eval o).run P w = .ok (.enter k (xs.map a.eval ++ (cap.map τ).toArray)) w := by
    unfold zcl at hk
    split at hk
    · rename_i fn hfn
      simp only [Bool.and_eq_true, Bool.not_eq_true'] at hk
      obtain ⟨k1, k2⟩ := hk
      have k2 : ¬ fn.name = "runtime.NumGoroutine" := by simpa using k2
      have k3 : ¬ fn.body = none := by intro e; rw [e] at k1; cases k1
      simp [execOp, ho, resolve, hfv, Deferred.ofValue, invoke, callFunc, hfn, k2, k3, env]
    · cases hk
  rw [hrun]
  have hR := zf6 (S := S) (E := env X S2.hp τ w) (a := a) xs.toList _ hl (fun x hx => by
    have hm : x ∈ o.op.operands := by rw [ho]; simp [Op.operands, Call.operands]; exact .inr (by simpa using hx)
    rw [← zci h1 hm]; exact hS.ev x (fun t e => h3 t (.inl (zby (e ▸ hm)))))
  have hcap : ∀ (l : List Nat), (∀ b ∈ l, b ∈ cap) → All2 (Cm.R (env X S2.hp τ w)) (l.map fun b => .c (.p b 0)) (l.map τ) := by
    intro l
    induction l with
    | nil => intro _; trivial
    | cons b l ih =>
      intro h
      refine ⟨?_, ih fun c hc => h c (List.mem_cons_of_mem _ hc)⟩
      have hbm := h b (by simp)
      obtain ⟨p, hp, e⟩ := List.any_eq_true.1 (List.all_eq_true.1 hin.2 b hbm)
      obtain rfl := Nat.eq_of_beq_eq_true e
      obtain ⟨g, us, e1, _⟩ := hS.hp _ _ (hb2 p hp)
      exact ⟨hU _ hbm, g, e1, e1⟩
  refine (zj1 (d := o.dst) (rd := []) hS hc hb2 hin.1.1 hin.1.2 ?_).mono ?_
  · rw [← hlc]
    have : (xs.map a.eval ++ (cap.map τ).toArray).toList = (xs.map a.eval).toList ++ cap.map τ := by simp
    rw [this]
    exact All2.append _ _ _ _ (by simpa using hR) (hcap cap (fun _ h => h))
  · rintro e w' ⟨v, rfl, hS'⟩
    exact ⟨v, rfl, τ, hS'⟩
end Go.Proofs.YtmkjfeamgknpfaaGreatDoor.Ax
namespace Go.Proofs.YtmkjfeamgknpfaaGreatDoor.Ax
open Go.RowKit MemL RegR
section
variable {P : Program} {ops : Array Oper} {X : Cx} {o : Oper} {S : St}
def zzv (S : St) : List Operand → Option (List Nat)
  | [] => some []
  | x :: r => match S.ev x, zzv S r with
    | .m (.c (.p b 0)), some l => some (b :: l)
    | _, _ => none
theorem zv6 {τ : Nat → Value} {h : Nat → Hs} {w : World} {a : Act} : ∀ (l : List Operand) (bs : List Nat), zzv S l = some bs → (∀ x ∈ l, (S.ev x).R (env X h τ w) (a.eval x)) → l.map a.eval = bs.map τ ∧ ∀ b ∈ bs, h b ≠ .fresh
  | [], bs, e, _ => by simp only [zzv, Option.some.injEq] at e; subst e; exact ⟨rfl, fun b hb => (by cases hb)⟩
  | x :: r, bs, e, hR => by
    simp only [zzv] at e
    split at e
    · rename_i b l hx hl
      cases e
      obtain ⟨i1, i2⟩ := zv6 r l hl (fun y hy => hR y (List.mem_cons_of_mem _ hy))
      have := hR x (by simp)
      rw [hx] at this
      obtain ⟨h0, g, e1, e2⟩ := this
      have e1 : τ b = .pointer (some ⟨g, 0, none⟩) := e1
      refine ⟨?_, fun c hc => ?_⟩
      · rw [List.map_cons, List.map_cons, i1, e2, e1]
      · rcases List.mem_cons.1 hc with rfl | hc
        · exact h0
        · exact i2 c hc
    · cases e
theorem zg5 {fi : FuncId} {cs : Array Operand} {bs : List Nat} (ho : o.op = .makeFunc (.func fi) #[] cs) (hw : zax ops S o = true) (hl : zzv S cs.toList = some bs) : zbd P ops X o S ⟨.m (.c (.cl fi bs)), [], []⟩ :=
  zbf [] hw fun S2 τ a w h _ hS => by
    obtain ⟨i1, i2⟩ := zv6 (X := X) (τ := τ) (h := S2.hp) (w := w) (a := a) cs.toList bs hl (fun x hx => h x (by rw [ho]; simpa [Op.operands] using hx))
    refine ⟨.func (.func fi) #[] (bs.map τ).toArray, ?_, rfl, i2⟩
    have : cs.map a.eval = (bs.map τ).toArray := by rw [← i1, ← Array.toList_inj, Array.toList_map]
    simp [execOp, ho, Instr.makeFunc, this]
theorem zjg {t el len k b : Nat} {parts : Array (Nat × Operand)} {l : List (Nat × Cm)} {z cs : List Ce} (ho : o.op = .buildSlice t len parts) (hd : o.dst = some b) (hw : zax ops S o = true) (hf : S.hp b = .fresh) (hl : zil S parts.toList = some l)
    (hu : P.underlying t = some (.slice el)) (hk : zd7 P el = some k) (hz : zo3 P el len k = some z) (hc : zjb (fun i => some (i * k, k)) z l = some cs) (hsm : (Nat.ble (len * k) 16777216 && Nat.ble 1 (len * k)) = true) :
    zbd P ops X o S ⟨.m (.c (.bs b 0 len)), [(b, .live (.box cs))], []⟩ := fun S2 a w h1 h2 h3 ⟨τ, hS⟩ => by
  refine .inl ⟨zbv hw h1 h3 hS, ?_⟩
  have get : ∀ z ∈ o.op.operands, (S.ev z).R (env X S2.hp τ w) (a.eval z) := fun z hz => by rw [← zci h1 hz]; exact hS.ev z (fun t e => h3 t (.inl (zby (e ▸ hz))))
  have hR := zht (S := S) (E := env X S2.hp τ w) (a := a) parts.toList l hl (fun p hp => get p.2 (by rw [ho]; simp [Op.operands]; exact ⟨p.1, by simpa using hp⟩))
  unfold zo3 at hz
  obtain ⟨zv, hzv, rfl⟩ := Option.map_eq_some_iff.1 hz
  obtain ⟨ie, hie, hz0⟩ := Option.bind_eq_some_iff.1 hzv
  have hk' : ie.size = k := by unfold zd7 at hk; rw [hie] at hk; simpa using hk
  subst hk'
  simp only [Bool.and_eq_true] at hsm
  have s1 := Nat.le_of_ble_eq_true hsm.1
  have s2 := Nat.le_of_ble_eq_true hsm.2
  have hzR : All2 (Ce.R (env X S2.hp τ w)) (((List.range (len * ie.size)).map (fun i => zv.cells[i % zv.cells.size]!)).map .v) ((Array.range (len * ie.size)).map (zv.cells[· % zv.cells.size]!)).toList := by
    have : ((Array.range (len * ie.size)).map (zv.cells[· % zv.cells.size]!)).toList = (List.range (len * ie.size)).map (fun i => zv.cells[i % zv.cells.size]!) := by simp
    rw [this]
    exact All2.of_map (R := Ce.R _) Ce.v (fun _ => rfl) _
  obtain ⟨cur, hf', hcR⟩ := zkf (E := env X S2.hp τ w) hS.one _ l _ _ cs _ hR hzR hc
  have hrun := run_buildSlice w t el len (parts.map fun p => (p.1, a.eval p.2)) cur ie zv hu hie hz0 (by omega) (by omega) (by simpa using hf')
  have hrun' : (execOp a.eval o).run P w = .ok (.value (.slice (some ⟨w.heap.size, 0, none⟩) len len)) (w.alloc (.cells cur el)) := by
    simp only [execOp, ho, hrun, Sem.run_bind, Result.andThen_ok, Sem.run_pure]
  rw [hrun']
  have hf2 : S2.hp b = .fresh := Eq.trans (h2 (.all b) (by simp [Ef.foot, zem])) hf
  refine ⟨_, hS.newb (k := .box cs) hf2 ((Below.refl _ _).alloc (Nat.le_refl _) _) (v := .pointer (some ⟨w.heap.size, 0, none⟩)) (g := w.heap.size) rfl ⟨Nat.le_refl _, by rw [World.size_alloc]; omega⟩ rfl (fun E hE hw' => ⟨w.heap.size, cur, rfl, by rw [hw']; exact Bx.new, All2.mono (zcf hE) _ _ hcR⟩) ?_⟩
  refine ⟨?_, w.heap.size, ?_, rfl⟩
  · show upd _ _ b ≠ _; rw [zd9, if_pos rfl]; intro e; cases e
  · show zcs τ b _ b = _; unfold zcs; rw [if_pos rfl]
theorem zca {t el k n : Nat} {x y : Operand} {b off : Nat} {kk : IntKind} {i : Int} (ho : o.op = .indexAddr t x y) (hw : zax ops S o = true) (hx : S.ev x = .m (.c (.bs b off n))) (hy : S.ev y = .m (.c (.v (.int kk i))))
    (hu : P.underlying t = some (.slice el)) (hk : zd7 P el = some k) (h0 : 0 ≤ i) (h1 : i < n) : zbd P ops X o S ⟨.m (.c (.p b (off + i.toNat * k))), [], []⟩ :=
  zbf [] hw fun S2 τ a w h _ _ => by
    have q1 := h x (by rw [ho]; simp [Op.operands])
    have q2 := h y (by rw [ho]; simp [Op.operands])
    rw [hx] at q1; rw [hy] at q2
    obtain ⟨u0, g, e1, e2⟩ := q1
    have q2 : a.eval y = .int kk i := q2
    exact ⟨_, by simp [execOp, ho, e2, q2, zd8 hu hk h0 h1], u0, g, e1, rfl⟩
theorem zmg {x : Operand} {t el : TypeId} {b off n : Nat} (ho : o.op = .call { callee := .builtin .len, args := #[x], argTypes := #[t] }) (hu : P.underlying t = some (.slice el)) (hw : zax ops S o = true) (hx : S.ev x = .m (.c (.bs b off n))) : zbd P ops X o S ⟨.m (.c (.v (.int .i64 n))), [], []⟩ :=
  zbf [] hw fun S2 τ a w h _ _ => by
    have h1 := h x (by rw [ho]; simp [Op.operands, Call.operands])
    rw [hx] at h1
    obtain ⟨_, g, _, e⟩ := h1
    exact ⟨_, by simp [execOp, ho, resolve, invoke, builtin, e, Builtin.len_, goInt, run_underlying hu], rfl⟩
end
section
variable {P : Program} {X : Cx} {S : St} {Q : Exit → St → Prop}
theorem zw7 {l : Nat} (h : Q (.goto l) S) : Aw P X (.goto l) Q S := fun a w hs n => wpIn_goto ⟨S, h, hs⟩
theorem zup {l : Nat} (h : Q .normal S) : Aw P X (.label l) Q S := fun a w hs n => wpIn_label ⟨S, h, hs⟩
theorem zjh {Q : Exit → Act → World → Prop} {a : Act} {w : World} {c rest : Code} (l : Nat) (J : Nat → Act → World → Prop) (hf : findLabel c l = some rest)
    (first : c.wp P (Exit.jump l (fun a w => ∃ n, J n a w) Q) a w)
    (pass : ∀ n a w, J n a w → rest.wp P (Exit.jump l (fun a' w' => ∃ n', n' < n ∧ J n' a' w') Q) a w) : (Code.scope c).wp P Q a w := by
  intro b k cs
  have hg : gotoIn l (.inScope c :: k) = some (.code rest :: .inScope c :: k) := by simp [gotoIn, hf]
  have key : ∀ n a w, J n a w → ∃ e a' w', Q e a' w' ∧ Arrives P (lone (b.at a (.code rest :: .inScope c :: k)) cs w) b k cs e a' w' := by
    intro n
    induction n using Nat.strongRecOn with
    | _ n ih =>
      intro a w hJ
      obtain ⟨e, a1, w1, hq, harr⟩ := pass n a w hJ b (.inScope c :: k) cs
      cases e with
      | goto l' =>
        obtain ⟨rfl, n', hlt, hJ'⟩ := hq
        obtain ⟨e2, a2, w2, hq2, harr2⟩ := ih n' hlt a1 w1 hJ'
        exact ⟨e2, a2, w2, hq2, .of_steps (harr _ hg) harr2⟩
      | normal => exact ⟨.normal, a1, w1, hq, Steps.trans harr (.one step_inScope)⟩
      | exit id => exact ⟨.exit id, a1, w1, hq, fun k' hk => harr k' (by simp [exitTo, hk])⟩
      | ret => exact ⟨_, a1, w1, hq, harr⟩
      | panic ch => exact ⟨_, a1, w1, hq, harr⟩
      | outgrown => exact ⟨_, a1, w1, hq, harr⟩
  obtain ⟨e, a1, w1, hq, harr⟩ := first b (.inScope c :: k) cs
  cases e with
  | goto l' =>
    obtain ⟨rfl, n, hJ'⟩ := hq
    obtain ⟨e2, a2, w2, hq2, harr2⟩ := key n a1 w1 hJ'
    exact ⟨e2, a2, w2, hq2, .of_steps (.head step_scope (harr _ hg)) harr2⟩
  | normal => exact ⟨.normal, a1, w1, hq, .head step_scope (Steps.trans harr (.one step_inScope))⟩
  | exit id => exact ⟨.exit id, a1, w1, hq, fun k' hk => .head step_scope (harr k' (by simp [exitTo, hk]))⟩
  | ret => exact ⟨_, a1, w1, hq, .of_steps (.one step_scope) harr⟩
  | panic ch => exact ⟨_, a1, w1, hq, .of_steps (.one step_scope) harr⟩
  | outgrown => exact ⟨_, a1, w1, hq, .of_steps (.one step_scope) harr⟩
def zw8 (l : Nat) (J : St → Prop) (Q : Exit → St → Prop) : Exit → St → Prop
  | .goto l', S => l' = l ∧ J S
  | e, S => Q e S
theorem zqq {c : Code} (hr : X.rd = none) (h : Aw P X c Q S) {a : Act} {w : World} (hs : Sim X S a w) : c.wp P (fun e a' w' => ∃ S', Q e S' ∧ Sim X S' a' w') a w := by
  have := h a w hs 0
  rw [zgx hr] at this
  exact wpIn_wide.1 this
theorem zsb {α : Type} {c rest : Code} (l : Nat) (hf : findLabel c l = some rest) (F : α → Prop) (H : α → St) (μ : α → Nat) (first : Aw P X c (zw8 l (fun S' => ∃ p, F p ∧ Sub X S' (H p)) Q) S)
    (pass : ∀ p, F p → Aw P X rest (zw8 l (fun S' => ∃ p', F p' ∧ μ p' < μ p ∧ Sub X S' (H p')) Q) (H p)) (hr : X.rd = none := by rfl) : Aw P X (.scope c) Q S := fun a w hs m => by
  rw [zgx hr]
  refine wpIn_wide.2 (zjh l (fun n a w => ∃ p, F p ∧ μ p = n ∧ Sim X (H p) a w) hf (wp_mono (zqq hr first hs) fun e a' w' ⟨S', q, s⟩ => ?_) fun n a w ⟨p, hp, hn, hs⟩ => wp_mono (zqq hr (pass p hp) hs) fun e a' w' ⟨S', q, s⟩ => ?_)
  · cases e with
    | goto l' => obtain ⟨rfl, p, hp, hsub⟩ := q; exact ⟨rfl, μ p, p, hp, rfl, hsub a' w' s⟩
    | _ => exact ⟨S', q, s⟩
  · cases e with
    | goto l' => obtain ⟨rfl, p', hp', hlt, hsub⟩ := q; exact ⟨rfl, μ p', by omega, p', hp', rfl, hsub a' w' s⟩
    | _ => exact ⟨S', q, s⟩
theorem zsc {α : Type} {x body : Code} (l : Nat) (hx : findLabel x l = none) (F : α → Prop) (H : α → St) (μ : α → Nat) (p0 : α) (hp0 : F p0)
    (zl0 : Aw P X x (zjd (fun S' => Sub X S' (H p0)) (fun _ _ => False)) S)
    (pass : ∀ p, F p → Aw P X body (zw8 l (fun S' => ∃ p', F p' ∧ μ p' < μ p ∧ Sub X S' (H p')) Q) (H p)) (hr : X.rd = none := by rfl) : Aw P X (.scope (.seq x (.seq (.label l) body))) Q S := by
  refine zsb l (rest := .seq .skip body) (by simp [findLabel, hx]) F H μ ?_ (fun p hp => zo0 (zaq (pass p hp))) hr
  refine zo0 (zne zl0 fun e S'' q' => ?_)
  cases e with
  | normal =>
    refine zo0 (zup ?_)
    refine zd4 q' (zne (pass p0 hp0) fun e S3 q3 => ?_)
    cases e with
    | goto l' => obtain ⟨h1, p', h2, _, h3⟩ := q3; exact ⟨h1, p', h2, h3⟩
    | _ => exact q3
  | _ => exact q'.elim
end
end Go.Proofs.YtmkjfeamgknpfaaGreatDoor.Ax
namespace Go.Proofs.YtmkjfeamgknpfaaGreatDoor.SpD
open Go.RowKit Bv VaSpec Base MemL RegR Ax MemC PutC MemC3 TzC OkS SpA SpB SpC
open BitsC PteSpec
set_option maxRecDepth 10000
set_option maxHeartbeats 1000000
def Fe.ce (f : Fe) : List Ce := [cb f.ha, cu f.ad, cb f.hs, cu f.sn]
def zE : List Ce := [cb false, cu 0, cb false, ci 0, cu 0, cu 0, cb false, cb false, cb false, cb false, cb false]
theorem zqr (a : Int) : Ok 223 [.ag zE, iu a] (.m (ib false)) := by
  refine zaf 17 Tryz.func223 rfl rfl rfl rfl ?_ GG.to
  intro W A hG
  repeat (first | (refine zai rfl ?_; first | refine gdr (zaw rfl) ?_ | refine gdr (zaa (.inl rfl) rfl) ?_ | refine gnk 1 rfl (za2 tb rfl rfl rfl rfl rfl) ?_ | refine gnx 1 rfl (zba tb rfl rfl rfl) rfl ?_ | refine gdr (zaa (.inr rfl) rfl) ?_ | refine gdr (zak rfl rfl rfl) ?_ | refine gdr (zag rfl rfl rfl rfl rfl rfl) ?_) | (refine hK _ ?_; clear hK K) | refine zad rfl ?_ | refine za3 (by kernel_rfl) (by kernel_rfl) rfl ?_ | exact zao (show za6 _ _ _ = some _ by kernel_rfl) | refine zac (fun K hK => ?_))
theorem zuq (f : Fe) (h : U f.ad) : Ok 220 [.ag (Fe.ce f), .ag zE] (.m (ib (!f.ha))) := by
  obtain ⟨ha, ad, hs, sn⟩ := f
  cases ha with
  | false =>
    refine zaf 19 Tryz.func220 rfl rfl rfl rfl ?_ GG.to
    intro W A hG
    repeat (first | (refine zai rfl ?_; first | refine gdr (zaw rfl) ?_ | refine gdr (zaa (.inl rfl) rfl) ?_ | refine gnk 1 rfl (za2 tb rfl rfl rfl rfl rfl) ?_ | refine gnx 1 rfl (zba tb rfl rfl rfl) rfl ?_ | refine gdr (zaa (.inr rfl) rfl) ?_ | refine gdr (zak rfl rfl rfl) ?_ | refine gdr (zag rfl rfl rfl rfl rfl rfl) ?_ | refine gdr (zau rfl rfl rfl) ?_) | (refine hK _ ?_; clear hK K) | refine zad rfl ?_ | exact zao (show za6 _ _ _ = some _ by kernel_rfl) | refine zac (fun K hK => ?_))
  | true =>
    cases hi : isv ad with
    | false =>
      refine zaf 19 Tryz.func220 rfl rfl rfl rfl ?_ GG.to
      intro W A hG
      repeat (first | (refine zai rfl ?_; first | refine gdr (zaw rfl) ?_ | refine gdr (zaa (.inl rfl) rfl) ?_ | refine gnk 1 rfl (za2 tb rfl rfl rfl rfl rfl) ?_ | refine gnx 1 rfl (zba tb rfl rfl rfl) rfl ?_ | refine gdr (zaa (.inr rfl) rfl) ?_ | refine gdr (zak rfl rfl rfl) ?_ | refine gdr (zag rfl rfl rfl rfl rfl rfl) ?_ | refine gdr (zau rfl rfl rfl) ?_ | refine gdr (zab rfl rfl rfl (hi ▸ zv3 ad h) rfl) ?_) | (refine hK _ ?_; clear hK K) | refine zad rfl ?_ | exact zao (show za6 _ _ _ = some _ by kernel_rfl) | refine zac (fun K hK => ?_))
    | true =>
      refine zaf 19 Tryz.func220 rfl rfl rfl rfl ?_ GG.to
      intro W A hG
      repeat (first | (refine zai rfl ?_; first | refine gdr (zaa (.inl rfl) rfl) ?_ | refine gnk 1 rfl (za2 tb rfl rfl rfl rfl rfl) ?_ | refine gnx 1 rfl (zba tb rfl rfl rfl) rfl ?_ | refine gdr (zaa (.inr rfl) rfl) ?_ | refine gdr (zak rfl rfl rfl) ?_ | refine gdr (zag rfl rfl rfl rfl rfl rfl) ?_ | refine gdr (zau rfl rfl rfl) ?_ | refine gdr (zab rfl rfl rfl (hi ▸ zv3 ad h) rfl) ?_ | refine gdr (zab rfl rfl rfl (zqr ad) rfl) ?_) | (refine hK _ ?_; clear hK K) | refine zad rfl ?_ | exact zao (show za6 _ _ _ = some _ by kernel_rfl) | refine zac (fun K hK => ?_))
theorem zur (f : Fe) : Ok 222 [.ag (Fe.ce f), .ag zE] (.m (ib (!f.hs || (0 == f.sn)))) := by
  obtain ⟨ha, ad, hs, sn⟩ := f
  cases hs with
  | false =>
    refine zaf 20 Tryz.func222 rfl rfl rfl rfl ?_ GG.to
    intro W A hG
    repeat (first | (refine zai rfl ?_; first | refine gdr (zaw rfl) ?_ | refine gdr (zaa (.inl rfl) rfl) ?_ | refine gnk 1 rfl (za2 tb rfl rfl rfl rfl rfl) ?_ | refine gnx 1 rfl (zba tb rfl rfl rfl) rfl ?_ | refine gdr (zaa (.inr rfl) rfl) ?_ | refine gdr (zak rfl rfl rfl) ?_ | refine gdr (zag rfl rfl rfl rfl rfl rfl) ?_ | refine gdr (zau rfl rfl rfl) ?_) | (refine hK _ ?_; clear hK K) | refine zad rfl ?_ | exact zao (show za6 _ _ _ = some _ by kernel_rfl) | refine zac (fun K hK => ?_))
  | true =>
    refine zaf 20 Tryz.func222 rfl rfl rfl rfl ?_ GG.to
    intro W A hG
    repeat (first | (refine zai rfl ?_; first | refine gdr (zaa (.inl rfl) rfl) ?_ | refine gnk 1 rfl (za2 tb rfl rfl rfl rfl rfl) ?_ | refine gnx 1 rfl (zba tb rfl rfl rfl) rfl ?_ | refine gdr (zaa (.inr rfl) rfl) ?_ | refine gdr (zak rfl rfl rfl) ?_ | refine gdr (za5 rfl rfl rfl rfl) ?_ | refine gdr (zag rfl rfl rfl rfl rfl rfl) ?_ | refine gdr (zau rfl rfl rfl) ?_) | (refine hK _ ?_; clear hK K) | refine zad rfl ?_ | exact zao (show za6 _ _ _ = some _ by kernel_rfl) | refine zac (fun K hK => ?_))
theorem zgn (f : Fe) (h : U f.ad) : Ok 189 [.ag (Fe.ce f), .ag zE] (.m (ib false)) := by
  refine zaf 21 Tryz.func189 rfl rfl rfl rfl ?_ GG.to
  intro W A hG
  obtain ⟨b, o, c, g1, g2, g3⟩ := (hG W (Below.refl _ _)).k
  have q1 : ∀ w, Kept (fun g => g < W.heap.size) W w → w.cell? ⟨2, 0, none⟩ = some (.slice (some ⟨b, o, none⟩) 2 c) := fun w hb => (hb.cell (p := ⟨2, 0, none⟩) (block_lt_of_cell g1)).trans g1
  have q2 : ∀ w, Kept (fun g => g < W.heap.size) W w → w.cell? ⟨b, o, none⟩ = some (zyw 0) := fun w hb => (hb.cell (p := ⟨b, o, none⟩) (block_lt_of_cell g2)).trans g2
  have q3 : ∀ w, Kept (fun g => g < W.heap.size) W w → w.cell? ⟨b, o + 1, none⟩ = some (zyw 1) := fun w hb => (hb.cell (p := ⟨b, o + 1, none⟩) (block_lt_of_cell g3)).trans g3
  repeat (first | (refine zai rfl ?_; first | refine gdr (zaa (.inl rfl) rfl) ?_ | refine gdr (zaa (.inr rfl) rfl) ?_ | refine gdr (zag rfl rfl rfl rfl rfl rfl) ?_ | refine gdr (znb rfl rfl rfl rfl) ?_ | refine gdr (ze9 rfl rfl rfl rfl rfl q1) ?_) | (refine hK _ ?_; clear hK K) | refine zad rfl ?_ | refine zam ?_ | refine zac (fun K hK => ?_))
  refine zbb (α := Nat) (fun i => i ≤ 2) (fun i => St.of [(2, .m (.c (.p 2 0))), (3, .m (.c (.p 3 0))), (7, .m (.c (.v (.slice (some ⟨b, o, none⟩) 2 c)))), (8, .m (ii 2)), (9, .m (ii i))] [(2, .live (.box (Fe.ce f))), (3, .live (.box zE))]) (fun i => 2 - i) 0 (by omega) (zas _ _ ⟨rfl, rfl, rfl, rfl, rfl, trivial⟩ ⟨rfl, rfl, trivial⟩ rfl) ?_
  intro i hi
  rcases (by omega : i = 0 ∨ i = 1 ∨ i = 2) with rfl | rfl | rfl
  · skip
    repeat (first | (refine zai rfl ?_; first | refine gdr (zaa (.inl rfl) rfl) ?_ | refine gnk 1 rfl (za2 tb rfl rfl rfl rfl rfl) ?_ | refine gdr (zaa (.inr rfl) rfl) ?_ | refine gdr (za5 rfl rfl rfl rfl) ?_ | refine gdr (zau rfl rfl rfl) ?_ | refine gdr (ze9 rfl rfl rfl rfl rfl q2) ?_ | refine gdr (zio rfl rfl rfl rfl rfl rfl (by omega) (by omega)) ?_ | refine gdr (zfa rfl rfl rfl rfl (zuq f h) rfl) ?_) | (refine hK _ ?_; clear hK K) | refine zad rfl ?_ | refine zal rfl rfl ?_ | refine zam ?_ | refine zaq ?_ | refine zac (fun K hK => ?_))
    refine zkg rfl rfl (fun hc => ?_) (fun hc => ?_)
    · skip
      repeat (first | (refine zai rfl ?_; first | refine gdr (zaa (.inr rfl) rfl) ?_) | (refine hK _ ?_; clear hK K) | refine zad rfl ?_ | exact zao (show za6 _ _ _ = some _ by kernel_rfl) | refine zac (fun K hK => ?_))
    · skip
      repeat (first | (refine zai rfl ?_; first | refine gdr (zaa (.inl rfl) rfl) ?_ | refine gdr (gar rfl rfl rfl rfl) ?_) | (refine hK _ ?_; clear hK K) | refine zad rfl ?_ | refine zaq ?_)
      exact ⟨1, by omega, by omega, zas _ _ ⟨rfl, rfl, rfl, rfl, rfl, trivial⟩ ⟨rfl, rfl, trivial⟩ rfl⟩
  · skip
    repeat (first | (refine zai rfl ?_; first | refine gdr (zaa (.inl rfl) rfl) ?_ | refine gnk 1 rfl (za2 tb rfl rfl rfl rfl rfl) ?_ | refine gdr (zaa (.inr rfl) rfl) ?_ | refine gdr (za5 rfl rfl rfl rfl) ?_ | refine gdr (zau rfl rfl rfl) ?_ | refine gdr (ze9 rfl rfl rfl rfl rfl q3) ?_ | refine gdr (zio rfl rfl rfl rfl rfl rfl (by omega) (by omega)) ?_ | refine gdr (zfa rfl rfl rfl rfl (zur f) rfl) ?_) | (refine hK _ ?_; clear hK K) | refine zad rfl ?_ | refine zal rfl rfl ?_ | refine zam ?_ | refine zaq ?_ | refine zac (fun K hK => ?_))
    refine zkg rfl rfl (fun hc => ?_) (fun hc => ?_)
    · skip
      repeat (first | (refine zai rfl ?_; first | refine gdr (zaa (.inr rfl) rfl) ?_) | (refine hK _ ?_; clear hK K) | refine zad rfl ?_ | exact zao (show za6 _ _ _ = some _ by kernel_rfl) | refine zac (fun K hK => ?_))
    · skip
      repeat (first | (refine zai rfl ?_; first | refine gdr (zaa (.inl rfl) rfl) ?_ | refine gdr (gar rfl rfl rfl rfl) ?_) | (refine hK _ ?_; clear hK K) | refine zad rfl ?_ | refine zaq ?_)
      exact ⟨2, by omega, by omega, zas _ _ ⟨rfl, rfl, rfl, rfl, rfl, trivial⟩ ⟨rfl, rfl, trivial⟩ rfl⟩
  · skip
    repeat (first | (refine zai rfl ?_; first | refine gnk 1 rfl (za2 tb rfl rfl rfl rfl rfl) ?_ | refine gnx 1 rfl (zba tb rfl rfl rfl) rfl ?_ | refine gdr (zaa (.inr rfl) rfl) ?_ | refine gdr (za5 rfl rfl rfl rfl) ?_) | (refine hK _ ?_; clear hK K) | (rename_i K1 hK1; refine hK1 _ ?_; clear hK hK1; clear K) | refine zad rfl ?_ | exact zao (show za6 _ _ _ = some _ by kernel_rfl) | refine zaj rfl rfl ?_ | refine zbi ?_ | refine zac (fun K hK => ?_))
def zEv : List Value := [.bool false, .int .u64 0, .bool false, .int .i64 0, .int .u64 0, .int .u64 0, .bool false, .bool false, .bool false, .bool false, .bool false]
def zS : List Value := zEv ++ zEv ++ zEv ++ zEv ++ [.int .u8 0]
def zsL (n : Nat) : List Value := (List.replicate n ()).flatMap (fun _ => zS)
theorem zsd (n k : Nat) (h : k < n) : ((zsL n).drop (k * 45)).take 45 = [.bool false, .int .u64 0, .bool false, .int .i64 0, .int .u64 0, .int .u64 0, .bool false, .bool false, .bool false, .bool false, .bool false, .bool false, .int .u64 0, .bool false, .int .i64 0, .int .u64 0, .int .u64 0, .bool false, .bool false, .bool false, .bool false, .bool false, .bool false, .int .u64 0, .bool false, .int .i64 0, .int .u64 0, .int .u64 0, .bool false, .bool false, .bool false, .bool false, .bool false, .bool false, .int .u64 0, .bool false, .int .i64 0, .int .u64 0, .int .u64 0, .bool false, .bool false, .bool false, .bool false, .bool false, .int .u8 0] :=
  zfe (fun _ => zS) 45 (fun _ => rfl) (List.replicate n ()) k () (by rw [List.getElem?_replicate, if_pos h])
theorem zn2 (n : Nat) : (zsL n).all (·.oneCell') = true := by
  rw [List.all_eq_true]
  intro v hv
  obtain ⟨_, _, hv⟩ := List.mem_flatMap.1 hv
  exact List.all_eq_true.1 (show zS.all (·.oneCell') = true from rfl) v hv
def zs44 : List Ce := (zEv ++ zEv ++ zEv ++ zEv).map .v
theorem zzw (f : Fe) (h : U f.ad) (n : Nat) (hn : n ≤ 16) : Ok 170 [.ag [.s n 45 (zsL n)], .ag (Fe.ce f)] (.m (.ag [.s n 45 (zsL n)])) := by
  refine zaf 40 Tryz.func170 rfl rfl rfl rfl ?_ GG.to
  intro W A hG
  repeat (first | (refine zai rfl ?_; first | refine gdr (zaa (.inl rfl) rfl) ?_ | refine gnk 1 rfl (za2 tb rfl rfl rfl rfl rfl) ?_ | refine gnx 1 rfl (zba tb rfl rfl rfl) rfl ?_ | refine gdr (zag rfl rfl rfl rfl rfl rfl) ?_ | refine gdr (zae rfl rfl rfl rfl rfl) ?_ | refine gdr (zah rfl rfl rfl rfl) ?_) | (refine hK _ ?_; clear hK K) | refine zad rfl ?_ | refine zam ?_ | refine zac (fun K hK => ?_))
  refine zbb (α := Nat) (fun k => k ≤ n) (fun k => St.of [(2, .m (.c (.p 2 0))), (3, .m (.c (.p 3 0))), (4, .m (.c (.p 4 0))), (10, .m (.c (.s n 45 (zsL n)))), (11, .m (ii n)), (12, .m (ii k))] [(2, .live (.box [.s n 45 (zsL n)])), (3, .live (.box (Fe.ce f))), (4, .live (.box [.v (.slice none 0 0)]))]) (fun k => n - k) 0 (by omega) (zas _ _ ⟨rfl, rfl, rfl, rfl, rfl, rfl, trivial⟩ ⟨rfl, rfl, rfl, trivial⟩ rfl) ?_
  intro k hk
  by_cases hlt : k < n
  · have hx := zsd n k hlt
    repeat (first | (refine zai rfl ?_; first | refine gdr (zaa (.inl rfl) rfl) ?_ | refine gnk 1 rfl (za2 tb rfl rfl rfl rfl rfl) ?_ | refine gnx 1 rfl (zba tb rfl rfl rfl) rfl ?_ | refine gdr (zaa (.inr rfl) rfl) ?_ | refine gdr (za5 rfl rfl rfl rfl) ?_ | refine gdr (zae rfl rfl rfl rfl rfl) ?_ | refine gnk 1 rfl (zbg rfl rfl rfl rfl rfl rfl rfl) ?_ | refine gnx 3 rfl (zav tb rfl rfl rfl rfl (by first | kernel_rfl | rfl)) rfl ?_ | refine gnx 4 rfl (zay rfl rfl rfl rfl rfl rfl (by omega) (by omega) _ (by assumption)) rfl ?_) | (refine hK _ ?_; clear hK K) | refine zad rfl ?_ | refine zal rfl rfl ?_ | refine zam ?_ | refine zaq ?_ | refine zac (fun K hK => ?_))
    refine zbb (α := Nat) (fun w => w ≤ 4) (fun w => St.of [(2, .m (.c (.p 2 0))), (3, .m (.c (.p 3 0))), (4, .m (.c (.p 4 0))), (10, .m (.c (.s n 45 (zsL n)))), (11, .m (ii n)), (12, .m (ii k)), (18, .m (.ag zs44)), (19, .m (ii w))] [(2, .live (.box [.s n 45 (zsL n)])), (3, .live (.box (Fe.ce f))), (4, .live (.box [.v (.slice none 0 0)]))]) (fun w => 4 - w) 0 (by omega) (zas _ _ ⟨rfl, rfl, rfl, rfl, rfl, rfl, rfl, rfl, trivial⟩ ⟨rfl, rfl, rfl, trivial⟩ rfl) ?_
    intro w hw
    rcases (by omega : w = 0 ∨ w = 1 ∨ w = 2 ∨ w = 3 ∨ w = 4) with rfl | rfl | rfl | rfl | rfl
    · skip
      repeat (first | (refine zai rfl ?_; first | refine gdr (zaa (.inl rfl) rfl) ?_ | refine gnk 1 rfl (za2 tb rfl rfl rfl rfl rfl) ?_ | refine gdr (zaa (.inr rfl) rfl) ?_ | refine gdr (za5 rfl rfl rfl rfl) ?_ | refine gdr (gar rfl rfl rfl rfl) ?_ | refine gdr (zae rfl rfl rfl rfl rfl) ?_ | refine gnk 1 rfl (zbg rfl rfl rfl rfl rfl rfl rfl) ?_ | refine gdr (zeo tb rfl rfl rfl rfl rfl rfl (by omega) (by omega) rfl) ?_ | refine gdr (zab rfl rfl rfl (zgn f h) rfl) ?_) | (refine hK _ ?_; clear hK K) | refine zad rfl ?_ | refine zal rfl rfl ?_ | refine zaj rfl rfl ?_ | refine zam ?_ | refine zaq ?_ | refine zac (fun K hK => ?_))
      exact ⟨1, by omega, by omega, zas _ _ ⟨rfl, rfl, rfl, rfl, rfl, rfl, rfl, rfl, trivial⟩ ⟨rfl, rfl, rfl, trivial⟩ rfl⟩
    · skip
      repeat (first | (refine zai rfl ?_; first | refine gdr (zaa (.inl rfl) rfl) ?_ | refine gnk 1 rfl (za2 tb rfl rfl rfl rfl rfl) ?_ | refine gdr (zaa (.inr rfl) rfl) ?_ | refine gdr (za5 rfl rfl rfl rfl) ?_ | refine gdr (gar rfl rfl rfl rfl) ?_ | refine gdr (zae rfl rfl rfl rfl rfl) ?_ | refine gnk 1 rfl (zbg rfl rfl rfl rfl rfl rfl rfl) ?_ | refine gdr (zeo tb rfl rfl rfl rfl rfl rfl (by omega) (by omega) rfl) ?_ | refine gdr (zab rfl rfl rfl (zgn f h) rfl) ?_) | (refine hK _ ?_; clear hK K) | refine zad rfl ?_ | refine zal rfl rfl ?_ | refine zaj rfl rfl ?_ | refine zam ?_ | refine zaq ?_ | refine zac (fun K hK => ?_))
      exact ⟨2, by omega, by omega, zas _ _ ⟨rfl, rfl, rfl, rfl, rfl, rfl, rfl, rfl, trivial⟩ ⟨rfl, rfl, rfl, trivial⟩ rfl⟩
    · skip
      repeat (first | (refine zai rfl ?_; first | refine gdr (zaa (.inl rfl) rfl) ?_ | refine gnk 1 rfl (za2 tb rfl rfl rfl rfl rfl) ?_ | refine gdr (zaa (.inr rfl) rfl) ?_ | refine gdr (za5 rfl rfl rfl rfl) ?_ | refine gdr (gar rfl rfl rfl rfl) ?_ | refine gdr (zae rfl rfl rfl rfl rfl) ?_ | refine gnk 1 rfl (zbg rfl rfl rfl rfl rfl rfl rfl) ?_ | refine gdr (zeo tb rfl rfl rfl rfl rfl rfl (by omega) (by omega) rfl) ?_ | refine gdr (zab rfl rfl rfl (zgn f h) rfl) ?_) | (refine hK _ ?_; clear hK K) | refine zad rfl ?_ | refine zal rfl rfl ?_ | refine zaj rfl rfl ?_ | refine zam ?_ | refine zaq ?_ | refine zac (fun K hK => ?_))
      exact ⟨3, by omega, by omega, zas _ _ ⟨rfl, rfl, rfl, rfl, rfl, rfl, rfl, rfl, trivial⟩ ⟨rfl, rfl, rfl, trivial⟩ rfl⟩
    · skip
      repeat (first | (refine zai rfl ?_; first | refine gdr (zaa (.inl rfl) rfl) ?_ | refine gnk 1 rfl (za2 tb rfl rfl rfl rfl rfl) ?_ | refine gdr (zaa (.inr rfl) rfl) ?_ | refine gdr (za5 rfl rfl rfl rfl) ?_ | refine gdr (gar rfl rfl rfl rfl) ?_ | refine gdr (zae rfl rfl rfl rfl rfl) ?_ | refine gnk 1 rfl (zbg rfl rfl rfl rfl rfl rfl rfl) ?_ | refine gdr (zeo tb rfl rfl rfl rfl rfl rfl (by omega) (by omega) rfl) ?_ | refine gdr (zab rfl rfl rfl (zgn f h) rfl) ?_) | (refine hK _ ?_; clear hK K) | refine zad rfl ?_ | refine zal rfl rfl ?_ | refine zaj rfl rfl ?_ | refine zam ?_ | refine zaq ?_ | refine zac (fun K hK => ?_))
      exact ⟨4, by omega, by omega, zas _ _ ⟨rfl, rfl, rfl, rfl, rfl, rfl, rfl, rfl, trivial⟩ ⟨rfl, rfl, rfl, trivial⟩ rfl⟩
    · skip
      repeat (first | (refine zai rfl ?_; first | refine gdr (zaa (.inl rfl) rfl) ?_ | refine gdr (za5 rfl rfl rfl rfl) ?_ | refine gdr (gar rfl rfl rfl rfl) ?_) | (refine hK _ ?_; clear hK K) | (rename_i K1 hK1; refine hK1 _ ?_; clear hK hK1; clear K) | refine zad rfl ?_ | refine zaj rfl rfl ?_ | refine zbi ?_ | refine zac (fun K hK => ?_))
      exact ⟨k + 1, by omega, by omega, zas _ _ ⟨rfl, rfl, rfl, rfl, rfl, rfl, trivial⟩ ⟨rfl, rfl, rfl, trivial⟩ rfl⟩
  · skip
    repeat (first | (refine zai rfl ?_; first | refine gnk 1 rfl (za2 tb rfl rfl rfl rfl rfl) ?_ | refine gnx 1 rfl (zba tb rfl rfl rfl) rfl ?_ | refine gdr (za5 rfl rfl rfl rfl) ?_ | refine gnk 1 rfl (zbg rfl rfl rfl rfl rfl rfl rfl) ?_ | refine gdr (zar rfl rfl rfl rfl) ?_ | refine gdr (zcm rfl rfl rfl rfl rfl rfl rfl) ?_ | refine gdr (zcb rfl rfl rfl rfl rfl rfl rfl rfl rfl rfl rfl rfl (zn2 n) (by omega)) ?_) | (refine hK _ ?_; clear hK K) | (rename_i K1 hK1; refine hK1 _ ?_; clear hK hK1; clear K) | refine zad rfl ?_ | exact zao (show za6 _ _ _ = some _ by kernel_rfl) | refine zaj rfl rfl ?_ | refine zbi ?_ | refine zac (fun K hK => ?_))
theorem zkr (l : List Fe) : (flF l).all (·.oneCell') = true := by
  rw [List.all_eq_true]
  intro v hv
  obtain ⟨f, _, hv⟩ := List.mem_flatMap.1 hv
  exact List.all_eq_true.1 (show f.vs.all (·.oneCell') = true from rfl) v hv
theorem zse {l : List Fe} {k : Nat} {f : Fe} (h : l[k]? = some f) : ((flF l).drop (k * 4)).take 4 = [.bool f.ha, .int .u64 f.ad, .bool f.hs, .int .u64 f.sn] := zfe Fe.vs 4 (fun _ => rfl) l _ f h
theorem zw9 (l : List Fe) (h : ∀ f ∈ l, U f.ad) (hl : l.length ≤ 1000000) (n : Nat) (hn : n ≤ 16) : Ok 127 [.ag [.s n 45 (zsL n)], .c (.s l.length 4 (flF l))] (.m (.ag [.s n 45 (zsL n)])) := by
  refine zaf 23 Tryz.func127 rfl rfl rfl rfl ?_ GG.to
  intro W A hG
  repeat (first | (refine zai rfl ?_; first | refine gdr (zaa (.inl rfl) rfl) ?_ | refine gnk 1 rfl (za2 tb rfl rfl rfl rfl rfl) ?_ | refine gnx 1 rfl (zba tb rfl rfl rfl) rfl ?_ | refine gdr (zag rfl rfl rfl rfl rfl rfl) ?_ | refine gdr (zae rfl rfl rfl rfl rfl) ?_ | refine gnk 1 rfl (zbg rfl rfl rfl rfl rfl rfl rfl) ?_ | refine gdr (zah rfl rfl rfl rfl) ?_ | refine gdr (zar rfl rfl rfl rfl) ?_ | refine gdr (zcm rfl rfl rfl rfl rfl rfl rfl) ?_ | refine gdr (zcb rfl rfl rfl rfl rfl rfl rfl rfl rfl rfl rfl rfl (zn2 n) (by omega)) ?_) | (refine hK _ ?_; clear hK K) | refine zad rfl ?_ | refine zam ?_ | refine zac (fun K hK => ?_))
  refine zbb (α := Nat) (fun k => k ≤ l.length) (fun k => St.of [(2, .m (.c (.p 2 0))), (4, .m (.c (.p 4 0))), (12, .m (.c (.s l.length 4 (flF l)))), (13, .m (ii l.length)), (14, .m (ii k))] [(2, .live (.box [.s n 45 (zsL n)])), (4, .live (.box [.v (.slice none 0 0)]))]) (fun k => l.length - k) 0 (by omega) (Sub.trans (zvw (b := 10) rfl) (zas _ _ ⟨rfl, rfl, rfl, rfl, rfl, trivial⟩ ⟨rfl, rfl, trivial⟩ rfl)) ?_
  intro k hk
  by_cases hlt : k < l.length
  · obtain ⟨f, hf⟩ : ∃ f, l[k]? = some f := ⟨_, List.getElem?_eq_getElem hlt⟩
    have hx := zse hf
    repeat (first | (refine zai rfl ?_; first | refine gdr (zaa (.inl rfl) rfl) ?_ | refine gnk 1 rfl (za2 tb rfl rfl rfl rfl rfl) ?_ | refine gdr (za5 rfl rfl rfl rfl) ?_ | refine gdr (gar rfl rfl rfl rfl) ?_ | refine gdr (zae rfl rfl rfl rfl rfl) ?_ | refine gnk 1 rfl (zbg rfl rfl rfl rfl rfl rfl rfl) ?_ | refine gnx 3 rfl (zav tb rfl rfl rfl rfl (by first | kernel_rfl | rfl)) rfl ?_ | refine gnx 4 rfl (zay rfl rfl rfl rfl rfl rfl (by omega) (by omega) _ (by assumption)) rfl ?_ | refine gdr (zab rfl rfl rfl (zzw f (h f (List.mem_of_getElem? hf)) n hn) rfl) ?_) | (refine hK _ ?_; clear hK K) | refine zad rfl ?_ | refine zal rfl rfl ?_ | refine zam ?_ | refine zaq ?_ | refine zac (fun K hK => ?_))
    exact ⟨k + 1, by omega, by omega, zas _ _ ⟨rfl, rfl, rfl, rfl, rfl, trivial⟩ ⟨rfl, rfl, trivial⟩ rfl⟩
  · skip
    repeat (first | (refine zai rfl ?_; first | refine gnk 1 rfl (za2 tb rfl rfl rfl rfl rfl) ?_ | refine gdr (za5 rfl rfl rfl rfl) ?_ | refine gnk 1 rfl (zbg rfl rfl rfl rfl rfl rfl rfl) ?_) | (refine hK _ ?_; clear hK K) | (rename_i K1 hK1; refine hK1 _ ?_; clear hK hK1; clear K) | refine zad rfl ?_ | exact zao (show za6 _ _ _ = some _ by kernel_rfl) | refine zaj rfl rfl ?_ | refine zbi ?_ | refine zac (fun K hK => ?_))
end Go.Proofs.YtmkjfeamgknpfaaGreatDoor.SpD
namespace Go.Proofs.YtmkjfeamgknpfaaGreatDoor.SpE
open Go.RowKit Bv VaSpec Base MemL RegR Ax MemC PutC MemC3 TzC OkS SpA SpB SpC SpD IterC
open BitsC PteSpec
set_option maxRecDepth 10000
set_option maxHeartbeats 2000000
def _root_.Go.Proofs.YtmkjfeamgknpfaaGreatDoor.SpB.Kr.raw (k : Kr) (tn : Nat) (ts : List Value) (sn : Nat) (ss : List Value) (fn : Nat) (fs : List Value) : List Ce := [ci k.cd, ci k.cp, ci k.ca, ci k.cs, cu k.sz, .s k.m.length 2 (fl k.m), .s tn 45 ts, cu k.sm, cu k.sa, cu k.sp, ci k.priv, cb k.su, cb k.mx, ci k.vic, cu k.pb, ci k.pm, cu k.pf, ci k.am, cu k.af, cu k.ao, .s sn 3 ss, ci k.now, cu k.sh, .s fn 4 fs]
def zK : List Ce := [ci 0, ci 0, ci 0, ci 0, cu 0, .v (.slice none 0 0), .v (.slice none 0 0), cu 0, cu 0, cu 0, ci 0, cb false, cb false, ci 0, cu 0, ci 0, cu 0, ci 0, cu 0, cu 0, .v (.slice none 0 0), ci 0, cu 0, .v (.slice none 0 0)]
def zdy (k : Kr) (l : List Fe) : Kr := { k with fs := k.fs ++ l }
theorem ce_z (k : Kr) (ht : k.ts = zsL k.tn) : k.ce = k.raw k.tn (zsL k.tn) k.ss.length (flS k.ss) k.fs.length (flF k.fs) := by rw [← ht]; rfl
theorem zmh (k : Kr) (ht : k.ts = zsL k.tn) (hn : k.tn ≤ 16) (l : List Fe) (h : ∀ f ∈ l, U f.ad) (hl : l.length ≤ 1000000) (hk : k.fs.length ≤ 1000000) : Ok 55 [.ag k.ce, .c (.s l.length 4 (flF l))] (.m (.ag (zdy k l).ce)) := by
  rw [ce_z k ht, show (zdy k l).ce = k.raw k.tn (zsL k.tn) k.ss.length (flS k.ss) (k.fs.length + l.length) (flF k.fs ++ flF l) from by rw [← ht]; simp [zdy, Kr.ce, Kr.raw, flF]]
  refine zaf 25 Tryz.func55 rfl rfl rfl rfl ?_ GG.to
  intro W A hG
  repeat (first | (refine zai rfl ?_; first | refine gdr (zaa (.inl rfl) rfl) ?_ | refine gnk 1 rfl (za2 tb rfl rfl rfl rfl rfl) ?_ | refine gnx 1 rfl (zba tb rfl rfl rfl) rfl ?_ | refine gdr (zag rfl rfl rfl rfl rfl rfl) ?_ | refine gdr (zae rfl rfl rfl rfl rfl) ?_ | refine gnk 1 rfl (zbg rfl rfl rfl rfl rfl rfl rfl) ?_ | refine gdr (zah rfl rfl rfl rfl) ?_ | refine gdr (zab rfl rfl rfl (zw9 l h hl k.tn hn) rfl) ?_ | refine gdr (zl5 rfl rfl rfl rfl rfl rfl rfl) ?_ | refine gdr (zng rfl rfl rfl rfl rfl rfl rfl rfl rfl (zkr l) (by omega)) ?_) | (refine hK _ ?_; clear hK K) | refine zad rfl ?_ | exact zao (show za6 _ _ _ = some _ by kernel_rfl) | refine zac (fun K hK => ?_))
end Go.Proofs.YtmkjfeamgknpfaaGreatDoor.SpE
namespace Go.Proofs.YtmkjfeamgknpfaaGreatDoor.SpF
open Go.RowKit Bv VaSpec Base MemL RegR Ax MemC PutC MemC3 TzC OkS SpA SpB SpC SpD IterC SpE
open BitsC PteSpec
set_option maxRecDepth 10000
set_option maxHeartbeats 800000
attribute [local irreducible] Ax.zb4
theorem zzx : ∃ a, a = ofv 133955584 := ⟨_, rfl⟩
noncomputable def kA : Int := Classical.choose zzx
theorem zxa : kA = ofv 133955584 := Classical.choose_spec zzx
theorem kA_U : U kA := by rw [zxa]; decide
theorem zmi : Ok 85 [] (.m (iu kA)) := by rw [zxa]; exact zum
def zP : Pte := ⟨false, false, false, false, false, false, false, false, 0, 0, 0⟩
theorem z0q : zP.U := by unfold Pte.U zP; simp
def zSp : Sp := ⟨0, 0, false⟩
theorem flS_one (l : List Sp) : ∀ u ∈ flS l, u.oneCell' = true := by
  intro v hv
  obtain ⟨f, _, hv⟩ := List.mem_flatMap.1 hv
  exact List.all_eq_true.1 (show f.vs.all (·.oneCell') = true from rfl) v hv
end Go.Proofs.YtmkjfeamgknpfaaGreatDoor.SpF
namespace Go.Proofs.YtmkjfeamgknpfaaGreatDoor.LaA
open Go.RowKit Bv VaSpec Base MemL RegR Ax MemC PutC MemC3 TzC OkS SpA SpB SpC SpF
open BitsC PteSpec
set_option maxRecDepth 10000
set_option maxHeartbeats 1000000
theorem zsf (f i : Int) (hf : 0 ≤ f ∧ f < 17592186044416) (hi : 0 ≤ i ∧ i < 512) : Ok 126 [iu f, ii i] (.m (iu (f * 4096 + i * 8))) := by
  refine zaf 11 Tryz.func126 rfl rfl rfl rfl ?_ GG.to
  intro W A hG
  repeat (first | (refine zai rfl ?_; first | refine gdr (zaa (.inl rfl) rfl) ?_ | refine gdr (zaa (.inr rfl) rfl) ?_ | refine gdr (gar rfl rfl rfl rfl) ?_ | refine gdr (gcv rfl rfl rfl rfl rfl) ?_) | (refine hK _ ?_; clear hK K) | refine zad rfl ?_ | exact zao (show za6 _ _ _ = some _ by kernel_rfl) | refine zac (fun K hK => ?_))
theorem zzy {xs : List (Int × Int)} (hu : Uw xs) (a : Int) : U (MemC.look xs a) := by
  have h0 : U 0 := ⟨by omega, by omega⟩
  unfold MemC.look
  split
  · rename_i c hc
    split
    · exact (hu c (List.mem_of_getElem? hc)).2
    · exact h0
  · exact h0
theorem zg6 {xs : List (Int × Int)} (hu : Uw xs) (sz a : Int) : U (zb6 sz xs a) := by
  unfold zb6
  split
  · exact zzy hu _
  · exact ⟨by omega, by omega⟩
def atM (sz : Int) (xs : List (Int × Int)) (f i : Int) : Pte := za8 (zb6 sz xs (f * 4096 + i * 8))
theorem zji {xs : List (Int × Int)} (hu : Uw xs) (sz f i : Int) : (atM sz xs f i).U := zw1 _ (zg6 hu _ _).1 (zg6 hu _ _).2
theorem zfh {xs : List (Int × Int)} (sz f i : Int) : 0 ≤ (atM sz xs f i).ppn ∧ (atM sz xs f i).ppn < 17592186044416 := by
  unfold atM za8
  simp only
  omega
theorem zxb (sz : Int) (xs : List (Int × Int)) (f i : Int) (hf : 0 ≤ f ∧ f < 17592186044416) (hi : 0 ≤ i ∧ i < 512) (hs : Srt xs) (hu : Uw xs) : Ok 109 [zbz sz xs, iu f, ii i] (.m (.ag (atM sz xs f i).ce)) := by
  have hU : U (f * 4096 + i * 8) := ⟨by omega, by omega⟩
  have hW := zg6 hu sz (f * 4096 + i * 8)
  refine zaf 13 Tryz.func109 rfl rfl rfl rfl ?_ GG.to
  intro W A hG
  repeat (first | (refine zai rfl ?_; first | refine gdr (zaa (.inl rfl) rfl) ?_ | refine gnk 1 rfl (za2 tb rfl rfl rfl rfl rfl) ?_ | refine gdr (zag rfl rfl rfl rfl rfl rfl) ?_ | refine gdr (zae rfl rfl rfl rfl rfl) ?_ | refine gnk 1 rfl (zbg rfl rfl rfl rfl rfl rfl rfl) ?_ | refine gdr (zab rfl rfl rfl (zsf f i hf hi) rfl) ?_ | refine gdr (zab rfl rfl rfl (zw6 sz xs _ hU hs) rfl) ?_ | refine gdr (zab rfl rfl rfl (zw5 _ hW) rfl) ?_) | (refine hK _ ?_; clear hK K) | refine zad rfl ?_ | refine za3 (by kernel_rfl) (by kernel_rfl) rfl ?_ | exact zao (show za6 _ _ _ = some _ by kernel_rfl) | refine zac (fun K hK => ?_))
def zbc (sz : Int) (xs : List (Int × Int)) (addr zax : Int) : Nat → Int → Int × Int
  | 0, t => (t, 0)
  | l + 1, t => cond (decide (zax < ((l + 1 : Nat) : Int)) && zbt (atM sz xs t (idx addr ((l + 1 : Nat) : Int))) ((l + 1 : Nat) : Int)) (zbc sz xs addr zax l (atM sz xs t (idx addr ((l + 1 : Nat) : Int))).ppn) (t, ((l + 1 : Nat) : Int))
def zn3 (sz : Int) (xs : List (Int × Int)) (addr : Int) (p : Int × Int) : List Ce := zb9 p.1 p.2 (atM sz xs p.1 (idx addr p.2))
theorem zdz {sz : Int} {xs : List (Int × Int)} {addr zax : Int} {l : Nat} {t : Int} (h : zax < ((l + 1 : Nat) : Int)) (hl : zbt (atM sz xs t (idx addr ((l + 1 : Nat) : Int))) ((l + 1 : Nat) : Int) = true) : zbc sz xs addr zax (l + 1) t = zbc sz xs addr zax l (atM sz xs t (idx addr ((l + 1 : Nat) : Int))).ppn := by
  simp only [zbc, decide_eq_true h, hl, Bool.and_self, cond]
theorem zdk {sz : Int} {xs : List (Int × Int)} {addr zax : Int} {l : Nat} {t : Int} (hl : zax < (l : Int) → zbt (atM sz xs t (idx addr (l : Int))) (l : Int) = false) (hw : 0 ≤ zax) : zbc sz xs addr zax l t = (t, (l : Int)) := by
  cases l with
  | zero => rfl
  | succ l =>
    simp only [zbc]
    by_cases h : zax < ((l + 1 : Nat) : Int)
    · rw [hl h, Bool.and_false]; rfl
    · rw [decide_eq_false h, Bool.false_and]; rfl
def zcg (sz : Int) (xs : List (Int × Int)) (addr zax l t : Int) : Int × Int := zbc sz xs addr zax l.toNat t
theorem zsg {sz : Int} {xs : List (Int × Int)} {addr zax l t : Int} (h : zax < l) (h0 : 0 < l) (hl : zbt (atM sz xs t (idx addr l)) l = true) : zcg sz xs addr zax l t = zcg sz xs addr zax (l - 1) (atM sz xs t (idx addr l)).ppn := by
  obtain ⟨m, rfl⟩ : ∃ m : Nat, l = ((m + 1 : Nat) : Int) := ⟨(l - 1).toNat, by omega⟩
  unfold zcg
  rw [show (((m + 1 : Nat) : Int) - 1).toNat = m by omega, Int.toNat_natCast]
  exact zdz h hl
theorem ziv {sz : Int} {xs : List (Int × Int)} {addr zax l t : Int} (h0 : 0 ≤ l) (hl : zax < l → zbt (atM sz xs t (idx addr l)) l = false) (hw : 0 ≤ zax) : zcg sz xs addr zax l t = (t, l) := by
  obtain ⟨m, rfl⟩ := Int.eq_ofNat_of_zero_le h0
  unfold zcg
  rw [Int.toNat_natCast]
  exact zdk hl hw
theorem zfv (sz : Int) (xs : List (Int × Int)) (top lv addr zax : Int) (ht : 0 ≤ top ∧ top < 17592186044416) (ha : U addr) (h0 : 0 ≤ lv) (h2 : lv ≤ 2) (hw : 0 ≤ zax) (hs : Srt xs) (hu : Uw xs) :
    Ok 41 [zbz sz xs, iu top, ii lv, iu addr, ii zax] (.m (.ag (zn3 sz xs addr (zcg sz xs addr zax lv top)))) := by
  refine zaf 44 Tryz.func41 rfl rfl rfl rfl ?_ GG.to
  intro W A hG
  obtain ⟨res, hres⟩ : ∃ res, res = zcg sz xs addr zax lv top := ⟨_, rfl⟩
  rw [← hres]
  repeat (first | (refine zai rfl ?_; first | refine gdr (zag rfl rfl rfl rfl rfl rfl) ?_ | refine gdr (zae rfl rfl rfl rfl rfl) ?_) | (refine hK _ ?_; clear hK K) | refine zad rfl ?_ | refine zac (fun K hK => ?_))
  refine zsc (α := Int × Int × Pte) 0 (by rfl) (fun p => (0 ≤ p.1 ∧ p.1 ≤ 2) ∧ (0 ≤ p.2.1 ∧ p.2.1 < 17592186044416) ∧ zcg sz xs addr zax p.1 p.2.1 = res)
    (fun p => St.of [(3, .m (iu addr)), (4, .m (ii zax)), (5, .m (.c (.p 5 0))), (10, .m (.c (.p 10 0))), (11, .m (.c (.p 11 0)))] [(5, .live (.box [cu sz, .s xs.length 2 (fl xs)])), (10, .live (.box (zb9 0 0 zP))), (11, .live (.box (zb9 p.2.1 p.1 p.2.2)))])
    (fun p => p.1.toNat) (lv, top, zP) ⟨⟨h0, h2⟩, ht, hres.symm⟩ ?_ ?_
  · skip
    repeat (first | (refine zai rfl ?_; first | refine gdr (zaa (.inl rfl) rfl) ?_ | refine gdr (zae rfl rfl rfl rfl rfl) ?_ | refine gnk 1 rfl (zbg rfl rfl rfl rfl rfl rfl rfl) ?_ | refine gdr (zar rfl rfl rfl rfl) ?_) | refine zad rfl ?_)
    exact zas _ _ ⟨rfl, rfl, rfl, rfl, rfl, trivial⟩ ⟨rfl, rfl, rfl, trivial⟩ rfl
  · rintro ⟨l, t, q⟩ ⟨⟨l0, l2⟩, t2, hr⟩
    have l0 : 0 ≤ l := l0
    have l2 : l ≤ 2 := l2
    have t2 : 0 ≤ t ∧ t < 17592186044416 := t2
    have hr : zcg sz xs addr zax l t = res := hr
    have hA := zji hu sz t (idx addr l)
    have hi := idx_bd addr l
    have hp := zfh (xs := xs) sz t (idx addr l)
    by_cases hlt : zax < l
    · cases hl : zbt (atM sz xs t (idx addr l)) l with
      | true =>
        have hr' := (zsg hlt (by omega) hl).symm.trans hr
        repeat (first | (refine zai rfl ?_; first | refine gdr (zaa (.inl rfl) rfl) ?_ | refine gnk 1 rfl (za2 tb rfl rfl rfl rfl rfl) ?_ | refine gnx 1 rfl (zba tb rfl rfl rfl) rfl ?_ | refine gdr (zak rfl rfl rfl) ?_ | refine gdr (za5 rfl rfl rfl rfl) ?_ | refine gdr (gar rfl rfl rfl rfl) ?_ | refine gnk 1 rfl (zbg rfl rfl rfl rfl rfl rfl rfl) ?_ | refine gdr (zab rfl rfl rfl (zj0 addr _ ha (by omega) (by omega)) rfl) ?_ | refine gdr (zab rfl rfl rfl (zxb sz xs t _ t2 hi hs hu) rfl) ?_ | refine gdr (zab rfl rfl rfl (hl ▸ zhv _ hA _ (by omega) (by omega)) rfl) ?_) | (refine hK _ ?_; clear hK K) | refine zad rfl ?_ | refine za3 (by kernel_rfl) (by kernel_rfl) rfl ?_ | refine zal rfl rfl ?_ | refine zac (fun K hK => ?_) | refine zw7 ?_)
        exact ⟨rfl, (l - 1, _, _), ⟨⟨by show 0 ≤ l - 1; omega, by show l - 1 ≤ 2; omega⟩, hp, hr'⟩, by show (l - 1).toNat < l.toNat; omega, zas _ _ ⟨rfl, rfl, rfl, rfl, rfl, trivial⟩ ⟨rfl, rfl, rfl, trivial⟩ rfl⟩
      | false =>
        have hr' := (ziv l0 (fun _ => hl) hw).symm.trans hr
        subst hr'
        repeat (first | (refine zai rfl ?_; first | refine gdr (zaa (.inl rfl) rfl) ?_ | refine gnk 1 rfl (za2 tb rfl rfl rfl rfl rfl) ?_ | refine gnx 1 rfl (zba tb rfl rfl rfl) rfl ?_ | refine gdr (zak rfl rfl rfl) ?_ | refine gdr (za5 rfl rfl rfl rfl) ?_ | refine gnk 1 rfl (zbg rfl rfl rfl rfl rfl rfl rfl) ?_ | refine gdr (zab rfl rfl rfl (zj0 addr _ ha (by omega) (by omega)) rfl) ?_ | refine gdr (zab rfl rfl rfl (zxb sz xs t _ t2 hi hs hu) rfl) ?_ | refine gdr (zab rfl rfl rfl (hl ▸ zhv _ hA _ (by omega) (by omega)) rfl) ?_) | (refine hK _ ?_; clear hK K) | refine zad rfl ?_ | refine za3 (by kernel_rfl) (by kernel_rfl) rfl ?_ | exact zao (show za6 _ _ _ = some _ by kernel_rfl) | refine zaj rfl rfl ?_ | refine zaq ?_ | refine zac (fun K hK => ?_))
    · have hr' := (ziv l0 (fun h => absurd h hlt) hw).symm.trans hr
      subst hr'
      repeat (first | (refine zai rfl ?_; first | refine gdr (zaw rfl) ?_ | refine gdr (zaa (.inl rfl) rfl) ?_ | refine gnk 1 rfl (za2 tb rfl rfl rfl rfl rfl) ?_ | refine gnx 1 rfl (zba tb rfl rfl rfl) rfl ?_ | refine gdr (zak rfl rfl rfl) ?_ | refine gdr (za5 rfl rfl rfl rfl) ?_ | refine gnk 1 rfl (zbg rfl rfl rfl rfl rfl rfl rfl) ?_ | refine gdr (zab rfl rfl rfl (zj0 addr _ ha (by omega) (by omega)) rfl) ?_ | refine gdr (zab rfl rfl rfl (zxb sz xs t _ t2 hi hs hu) rfl) ?_) | (refine hK _ ?_; clear hK K) | refine zad rfl ?_ | refine za3 (by kernel_rfl) (by kernel_rfl) rfl ?_ | exact zao (show za6 _ _ _ = some _ by kernel_rfl) | refine zaj rfl rfl ?_ | refine zaq ?_ | refine zac (fun K hK => ?_))
end Go.Proofs.YtmkjfeamgknpfaaGreatDoor.LaA
namespace Go.Proofs.YtmkjfeamgknpfaaGreatDoor.IterE
open Go.RowKit Go.Shelf Bv Base MemL MemC MemC3 PutC TableC IterC LaA PteSpec
open BitsC
attribute [local go_sem] Oper.semAt_some
set_option maxRecDepth 20000
def zyx (p : Pte) : Value := .agg #[.bool p.v, .bool p.r, .bool p.w, .bool p.x, .bool p.u, .bool p.g, .bool p.a, .bool p.d, .int .u64 p.rsw, .int .u64 p.ppn, .int .u64 p.high]
abbrev Ie (sz : Int) (xs : List (Int × Int)) (f : Int) := { i : Nat // i < 512 ∧ zb6 sz xs (f * 4096 + (i : Int) * 8) ≠ 0 }
def zyy (sz : Int) (xs : List (Int × Int)) (f : Int) (x : Ie sz xs f) : Array Value := #[.int .i64 (x.1 : Int), zyx (atM sz xs f x.1)]
def nzB (sz : Int) (xs : List (Int × Int)) (f : Int) (i : Nat) : Bool := zb6 sz xs (f * 4096 + (i : Int) * 8) != 0
def Ent (sz : Int) (xs : List (Int × Int)) (f : Int) (b1 b2 : Nat) (W : World) : Prop := ∃ u, Bx W b1 #[.int .u64 sz, u] ∧ Bx W b2 #[.int .u64 f] ∧ Sl W u xs.length 2 (fl xs)
theorem Ent.below {sz : Int} {xs : List (Int × Int)} {f : Int} {b1 b2 : Nat} {W W' : World} (h : Ent sz xs f b1 b2 W) (b : Below W.heap.size W W') : Ent sz xs f b1 b2 W' := by
  obtain ⟨u, h1, h2, h3⟩ := h
  exact ⟨u, h1.below b, h2.below b, h3.below b⟩
def KpE (sz : Int) (xs : List (Int × Int)) (f : Int) (b1 b2 : Nat) (A B : World) : Prop := A.heap.size ≤ B.heap.size ∧ (Ent sz xs f b1 b2 A → Ent sz xs f b1 b2 B)
theorem KpE.trans {sz : Int} {xs : List (Int × Int)} {f : Int} {b1 b2 : Nat} {A B C : World} (h : KpE sz xs f b1 b2 A B) (k : KpE sz xs f b1 b2 B C) : KpE sz xs f b1 b2 A C := ⟨Nat.le_trans h.1 k.1, fun e => k.2 (h.2 e)⟩
theorem zv7 {W : World} {l b : Nat} {o o' : Obj} {vs : Array Value} (h : Bx W b vs) (hl : W.heap[l]? = some o) (ho : o.isCells = false) : Bx (W.putObj l o') b vs := by
  obtain ⟨T, h⟩ := h
  refine ⟨T, ?_⟩
  have hne : b ≠ l := fun e => by subst e; rw [h] at hl; cases hl; cases ho
  exact ((grownBy_putObj' W l o').block b (Array.getElem?_eq_some_iff.1 h).1 (fun e => hne (by cases e; rfl))).trans h
theorem zpd {W : World} {l b o : Nat} {x x' : Obj} {v : Value} (h : W.cell? ⟨b, o, none⟩ = some v) (hl : W.heap[l]? = some x) (hx : x.isCells = false) : (W.putObj l x').cell? ⟨b, o, none⟩ = some v :=
  cell_kept h (grownBy_putObj' W l x') (fun r e => by cases e; exact ⟨x, hl, hx⟩)
theorem KpE.put {sz : Int} {xs : List (Int × Int)} {f : Int} {b1 b2 : Nat} (W : World) (l : Nat) (o o' : Obj) (hl : W.heap[l]? = some o) (ho : o.isCells = false) : KpE sz xs f b1 b2 W (W.putObj l o') := by
  refine ⟨(grownBy_putObj' W l o').size, fun ⟨u, h1, h2, h3, h4⟩ => ⟨u, zv7 h1 hl ho, zv7 h2 hl ho, h3, ?_⟩⟩
  rcases h4 with h4 | ⟨b, off, cap, e, q1, q2, q3, q4⟩
  · exact .inl h4
  · refine .inr ⟨b, off, cap, e, Nat.lt_of_lt_of_le q1 (grownBy_putObj' W l o').size, q2, q3, fun i hi => ?_⟩
    have := q4 i hi
    obtain ⟨v, hv⟩ : ∃ v, (fl xs)[i]? = some v := ⟨_, List.getElem?_eq_getElem (by rw [h3]; exact hi)⟩
    rw [hv] at this ⊢
    exact zpd this hl ho
theorem zxc {sz : Int} {xs : List (Int × Int)} {f : Int} {k : Nat} (h : nzB sz xs f k = true) : (List.range (k + 1)).filter (nzB sz xs f) = (List.range k).filter (nzB sz xs f) ++ [k] := by
  rw [List.range_succ, List.filter_append]; simp [h]
theorem zzz {sz : Int} {xs : List (Int × Int)} {f : Int} {k : Nat} (h : nzB sz xs f k = false) : (List.range (k + 1)).filter (nzB sz xs f) = (List.range k).filter (nzB sz xs f) := by
  rw [List.range_succ, List.filter_append]; simp [h]
set_option maxHeartbeats 1000000 in
theorem zmj (f i : Int) (W : World) (hf : 0 ≤ f ∧ f < 17592186044416) (hi : 0 ≤ i ∧ i < 512) : Calls Tryz.prog 126 #[.int .u64 f, .int .i64 i] W fun e w' => e = .returned (.int .u64 (f * 4096 + i * 8)) ∧ Below W.heap.size W w' := by
  have h1 : IntKind.u64.wrap (f * 4096) = f * 4096 := by rw [IntKind.wrap_u64]; omega
  have h2 : IntKind.u64.wrap i = i := by rw [IntKind.wrap_u64]; omega
  have h3 : IntKind.u64.wrap (i * 8) = i * 8 := by rw [IntKind.wrap_u64]; omega
  have h4 : IntKind.u64.wrap (f * 4096 + i * 8) = f * 4096 + i * 8 := by rw [IntKind.wrap_u64]; omega
  go_enter Tryz.func126, Tryz.ntmps126
  go_wp2
  go_ret
  exact ⟨rfl, Below.refl _ _⟩
set_option maxHeartbeats 4000000 in
theorem zmk (n : Nat) (hn : 2 ≤ n) (sz : Int) (xs : List (Int × Int)) (f : Int) (b1 b2 : Nat) (W0 : World) (hE : Ent sz xs f b1 b2 W0) (hf : 0 ≤ f ∧ f < 17592186044416) (hs : Srt xs) (hu : Uw xs) :
    SeqStopsK Fence.wide n Tryz.prog 162 #[.pointer (some ⟨b1, 0, none⟩), .pointer (some ⟨b2, 0, none⟩)] (zyy sz xs f) (KpE sz xs f b1 b2) (fun ys => ys.map (·.1) = (List.range 512).filter (nzB sz xs f)) (fun _ => True) 512 W0 := by
  intro l J Jx W hW hJ hJx hY h0
  have hEW : Ent sz xs f b1 b2 W := hE.below hW
  have grow : ∀ {pre : List (Ie sz xs f)} {A B : World}, W.heap.size ≤ A.heap.size → J pre A → Below A.heap.size A B → J pre B := fun hsz hj hb => hJ _ _ _ none hj ⟨hb.os, hb.tape, hb.output, hb.size, fun k hk _ => hb.block k hk⟩ (fun r e => by cases e)
  refine callsIn_of_wp Tryz.func162 rfl trivial ?_ rfl
  simp only [Tryz.ntmps162, List.size_toArray, List.length_cons, List.length_nil, Nat.reduceAdd, Nat.reduceSub, Array.replicate_succ, Array.replicate_zero, List.push_toArray, List.append_toArray, List.nil_append, List.cons_append]
  gi_wp2
  gi_loopw [6] (fun i wr => ∃ k : Nat, k ≤ 512 ∧ i = .int .i64 k ∧ W.heap.size ≤ wr.heap.size ∧ Ent sz xs f b1 b2 wr ∧ ∃ pre : List (Ie sz xs f), pre.map (·.1) = (List.range k).filter (nzB sz xs f) ∧ J pre wr) (fun i _ => 512 - (intOf i).toNat)
  case atStart => exact ⟨0, by omega, rfl, Nat.le_refl _, hEW, [], rfl, h0⟩
  case round =>
    obtain ⟨k, hk, rfl, hsz, ⟨u, X1, X2, V⟩, pre, hpre, hj⟩ := hrel
    have y0 := X1.cell 0
    have y1 := X1.cell 1
    have p0 := X2.cell 0
    simp at y0 y1 p0
    have l1 := X1.lt
    have l2 := X2.lt
    by_cases hlt : k < 512
    · have hU : U (f * 4096 + (k : Int) * 8) := ⟨by omega, by omega⟩
      have HW := Lib.hid (show zb6 sz xs (f * 4096 + (k : Int) * 8) = zb6 sz xs (f * 4096 + (k : Int) * 8) from rfl)
      have hWU := zg6 hu sz (f * 4096 + (k : Int) * 8)
      generalize hwd : zb6 sz xs (f * 4096 + (k : Int) * 8) = wd at HW hWU
      clear HW
      have Hwd := Lib.hid hwd
      clear hwd
      gi_wp2
      refine wpIn_wide.2 ?_
      refine zl6 (by kernel_rfl) (by kernel_rfl) ?_
      repeat (with_reducible refine wpQuiet_step (fun K hK => ?_)
              go_simp
              first
                | (refine hK _ ?_; clear hK K)
                | (refine ⟨_, fun _ _ => rfl, hK _ ?_⟩; clear hK K)
                | (apply Exists.intro
                   refine ⟨fun w' hw' => ?_, hK _ ?_⟩
                   · first
                     | (go_at_call 126; (with_reducible refine (zmj _ _ _ hf ⟨by omega, by omega⟩).mono ?_); rintro e w2 ⟨rfl, hq⟩; exact ⟨rfl, hw'.trans (hq.mono hw'.size)⟩)
                     | (go_at_call 154; (with_reducible refine (zg2 _ _ xs _ _ hU hs (V.below hw')).mono ?_); rintro e w2 ⟨rfl, hb⟩; exact ⟨rfl, hw'.trans (hb.mono hw'.size)⟩)
                     | (obtain ⟨hcc, _⟩ := znl hw'; go_simp; done)
                     | (obtain ⟨hcc, _⟩ := znl hw'; go_simp; rfl)
                   clear hK K))
      refine wpQuiet_nil ?_
      intro w2 hb2
      have E2 : Ent sz xs f b1 b2 w2 := Ent.below ⟨u, X1, X2, V⟩ hb2
      have j2 : J pre w2 := grow hsz hj hb2
      have s2 : W.heap.size ≤ w2.heap.size := Nat.le_trans hsz hb2.size
      rw [show zb6 sz xs (f * 4096 + (k : Int) * 8) = wd from Hwd.out]
      clear X1 X2 V y0 y1 p0 hb2 hj
      by_cases hz : wd = 0
      · subst hz
        have hn0 : nzB sz xs f k = false := by unfold nzB; rw [Hwd.out]; rfl
        gi_wp2
        refine ⟨trivial, ?_⟩
        gi_wp2
        refine ⟨fun _ h => (by cases h), ?_⟩
        gi_wp2
        go_roundw
        case rel => exact ⟨k + 1, by omega, by go_num, s2, E2, pre, by rw [zzz hn0]; exact hpre, j2⟩
        case measure => simp [intOf]; omega
      · have hn1 : nzB sz xs f k = true := by unfold nzB; rw [Hwd.out]; simp [hz]
        obtain ⟨x, hx⟩ : ∃ x : Ie sz xs f, x = ⟨k, hlt, by rw [Hwd.out]; exact hz⟩ := ⟨_, rfl⟩
        have he : zyy sz xs f x = #[.int .i64 (k : Int), .agg #[.bool (za8 wd).v, .bool (za8 wd).r, .bool (za8 wd).w, .bool (za8 wd).x, .bool (za8 wd).u, .bool (za8 wd).g, .bool (za8 wd).a, .bool (za8 wd).d, .int .u64 (za8 wd).rsw, .int .u64 (za8 wd).ppn, .int .u64 (za8 wd).high]] := by
          rw [hx]
          show #[Value.int .i64 (k : Int), zyx (za8 (zb6 sz xs (f * 4096 + (k : Int) * 8)))] = _
          rw [Hwd.out]; rfl
        have hpl : pre.length < 512 := by
          have e1 : pre.length = ((List.range k).filter (nzB sz xs f)).length := by rw [← hpre, List.length_map]
          have e2 := List.length_filter_le (nzB sz xs f) (List.range k)
          rw [List.length_range] at e2
          omega
        gi_wp2
        refine ⟨trivial, fun h => (by cases h), ?_⟩
        refine (callsIn_wide.2 (PteC.zjz _ _ hWU)).mono ?_
        rintro e w3 ⟨rfl, hb3⟩
        obtain ⟨fn, tmps, assign, body, hy, hR⟩ := hY pre x w3 (grow s2 j2 hb3) hpl
        rw [he] at hy
        gi_wp2
        refine ⟨fun h => (by cases h), ?_⟩
        refine hR.mono ?_
        have hb : (wd != 0) = true := by simp [hz]
        rintro e w4 (⟨rfl, hj4, hk4⟩ | ⟨rfl, hjx4⟩)
        · have E4 := hk4.2 (E2.below hb3)
          have s4 : W.heap.size ≤ w4.heap.size := Nat.le_trans s2 (Nat.le_trans hb3.size hk4.1)
          gi_wp2
          go_roundw
          case rel => exact ⟨k + 1, by omega, by go_num, s4, E4, pre ++ [x], by rw [zxc hn1, List.map_append, hpre, hx]; rfl, hj4⟩
          case measure => simp [intOf]; omega
        · gi_wp2
          refine bodyPost_ret (results_none rfl _ _ _) rfl ?_
          exact ⟨⟨_, rfl⟩, .inr ⟨pre ++ [x], trivial, hjx4⟩⟩
    · obtain rfl : k = 512 := by omega
      gi_wp2
      go_end0
      exact ⟨⟨_, rfl⟩, .inl ⟨pre, hpre, hj⟩⟩
end Go.Proofs.YtmkjfeamgknpfaaGreatDoor.IterE
namespace Go.Proofs.YtmkjfeamgknpfaaGreatDoor.Ax
open Go.RowKit MemL RegR MemC MemC3 PutC LaA IterE PteSpec BitsC OkS Go
structure En.lw (E F : En) : Prop where
  U : ∀ b, E.U b → F.U b ∧ F.τ b = E.τ b
  A : ∀ g, g < E.w.heap.size → E.A g → F.A g
  size : E.w.heap.size ≤ F.w.heap.size
  cell : ∀ g o v, g < E.w.heap.size → E.A g → E.w.cell? ⟨g, o, none⟩ = some v → F.w.cell? ⟨g, o, none⟩ = some v
theorem zxd {E F : En} (h : E.lw F) {n k : Nat} {xs : List Value} {u : Value} (k1 : Sl E.w u n k xs) (k3 : ∀ a l c, u = .slice (some a) l c → E.A a.block) : Sl F.w u n k xs ∧ ∀ a l c, u = .slice (some a) l c → F.A a.block := by
  obtain ⟨k1, k2⟩ := k1
  rcases k2 with k2 | ⟨b, o, cap, rfl, l, h3, h4, h5⟩
  · refine ⟨⟨k1, .inl k2⟩, fun a l c e => ?_⟩
    rw [k2.1] at e; cases e
  · have ha := k3 ⟨b, o, none⟩ _ _ rfl
    refine ⟨⟨k1, .inr ⟨b, o, cap, rfl, Nat.lt_of_lt_of_le l h.size, h3, h4, fun i hi => ?_⟩⟩, fun a l' c e => ?_⟩
    · have e := h5 i hi
      rw [List.getElem?_eq_getElem (by rw [k1]; exact hi)] at e ⊢
      exact h.cell b (o + i) _ l ha e
    · cases e; exact h.A b l ha
theorem zsh {E F : En} (h : E.lw F) : ∀ (x : Ce) (u : Value), x.R E u → x.R F u
  | .v x, u, k => k
  | .s n k xs, u, ⟨k1, k2⟩ => zxd h k1 k2
  | .q xs, u, ⟨g, o, k1, k2, k3, k4⟩ => ⟨g, o, k1, Nat.lt_of_lt_of_le k2 h.size, h.A g k2 k3, fun i hi => by
      have e := k4 i hi
      rw [List.getElem?_eq_getElem hi] at e ⊢
      exact h.cell g (o + i) _ k2 k3 e⟩
  | .p b off, u, ⟨k0, g, k1, k2⟩ => ⟨(h.U b k0).1, g, (h.U b k0).2.trans k1, k2⟩
  | .o b, u, ⟨k0, k1⟩ => ⟨(h.U b k0).1, k1.trans (h.U b k0).2.symm⟩
  | .rp b off, u, ⟨k0, g, n, cap, k1, k2⟩ => ⟨(h.U b k0).1, g, n, cap, (h.U b k0).2.trans k1, k2⟩
  | .f n k xs, u, ⟨k1, k2, k3⟩ => ⟨(zxd h k1 k2).1, (zxd h k1 k2).2, k3⟩
  | .bs b off n, u, ⟨k0, g, k1, k2⟩ => ⟨(h.U b k0).1, g, (h.U b k0).2.trans k1, k2⟩
  | .cl fi bs, u, ⟨k1, k2⟩ => ⟨by rw [k1, List.map_congr_left (fun b hb => ((h.U b (k2 b hb)).2).symm)], fun b hb => (h.U b (k2 b hb)).1⟩
  | .any, _, _ => trivial
theorem zsi {E F : En} (h : E.lw F) : ∀ (x : Cm) (u : Value), x.R E u → x.R F u
  | .c x, u, k => zsh h x u k
  | .ag cs, u, ⟨vs, k1, k2⟩ => ⟨vs, k1, All2.mono (zsh h) _ _ k2⟩
theorem zz0 {E F : En} (h : E.lw F) : ∀ (x : AV) (u : Value), x.R E u → x.R F u
  | .m x, u, k => zsi h x u k
  | .tu l, u, ⟨vs, k1, k2⟩ => ⟨vs, k1, All2.mono (zsi h) _ _ k2⟩
section
variable {P : Program} {X : Cx} {S : St} {Q : Exit → St → Prop} {τ : Nat → Value} {a : Act} {w : World}
def z0r (W : World) (g : Nat) : Prop := ∃ o, W.heap[g]? = some o ∧ o.isCells = false
theorem zga (h : SimT X S τ a w) {b g : Nat} (hb : zch S.hp b) (ho : occ (τ b) = some g) : ¬ z0r w g := by
  obtain ⟨k, hk⟩ := hb
  have hR := h.hp b k hk
  rintro ⟨o, h1, h2⟩
  cases k with
  | box cs =>
    obtain ⟨g', vs, e1, ⟨T, e2⟩, _⟩ := hR
    rw [e1] at ho; cases ho
    have e2 : w.heap[g']? = some (Obj.cells vs T (0, 0)) := e2
    rw [e2] at h1; cases h1; cases h2
  | row e k n xs =>
    rcases hR.2 with ⟨e1, _⟩ | ⟨g', cap, cur, e1, _, e3, _⟩
    · rw [e1] at ho; cases ho
    · rw [e1] at ho; cases ho
      have e3 : w.heap[g']? = some (Obj.cells cur e (0, 0)) := e3
      rw [e3] at h1; cases h1; cases h2
theorem ziw {w' : World} (h : SimT X S τ a w) {row : Option Nat} (hg : w.grownBy w' row) (hr : ∀ r, row = some r → z0r w r ∧ ¬ X.K r) : SimT X S τ a w' := by
  have hlw : (env X S.hp τ w).lw (env X S.hp τ w') := ⟨fun b hb => ⟨hb, rfl⟩, fun g _ hg => hg, hg.size, fun g o v _ _ hv => cell_kept hv hg (fun r e => (hr r e).1)⟩
  have hbk : ∀ b g, zch S.hp b → occ (τ b) = some g → w'.heap[g]? = w.heap[g]? := fun b g hb ho => hg.block g (h.own b g hb ho).2 (fun e => zga h hb ho (hr g e.symm).1)
  refine ⟨h.size, h.nodef, h.bel.grown hg (fun g hk => Nat.lt_of_lt_of_le (X.hK g hk) h.bel.size) (fun k e => (hr k e).2), fun t ht => zz0 hlw _ _ (h.tm t ht), fun b k hk => ?_, fun b g hb ho => ⟨(h.own b g hb ho).1, Nat.lt_of_lt_of_le (h.own b g hb ho).2 hg.size⟩, h.sep, h.one, h.pin⟩
  have hR := h.hp b k hk
  cases k with
  | box cs =>
    obtain ⟨g, vs, e1, ⟨T, e2⟩, e3⟩ := hR
    exact ⟨g, vs, e1, ⟨T, (hbk b g ⟨_, hk⟩ (by rw [e1]; rfl)).trans e2⟩, All2.mono (zsh hlw) _ _ e3⟩
  | row e k n xs =>
    refine ⟨hR.1, ?_⟩
    rcases hR.2 with e1 | ⟨g, cap, cur, e1, e2, e3, e4⟩
    · exact .inl e1
    · exact .inr ⟨g, cap, cur, e1, e2, (hbk b g ⟨_, hk⟩ (by rw [e1]; rfl)).trans e3, e4⟩
def cxR (X : Cx) (W : World) (l : Nat) (τ : Nat → Value) (ns : List Nat) (hk : Kept X.K X.W0 W) : Cx :=
  { X with
    W0 := W
    hB := Nat.le_trans X.hB hk.size
    K := fun g => X.K g ∨ z0r W g
    hK := fun g h => h.elim (fun h => Nat.lt_of_lt_of_le (X.hK g h) hk.size) (fun ⟨o, h, _⟩ => (Array.getElem?_eq_some_iff.1 h).1)
    hG := fun w h => X.hG w (hk.trans (h.mono fun _ => .inl))
    pn := ns.map fun b => (b, τ b)
    rd := some l }
def cxP (X : Cx) (τ : Nat → Value) (ns : List Nat) : Cx := { X with pn := ns.map fun b => (b, τ b), rd := none }
theorem zgo {τ0 : Nat → Value} {ns : List Nat} {l : Nat} (h : SimT (cxP X τ0 ns) S τ a w) (hk : Kept X.K X.W0 w) : SimT (cxR X w l τ0 ns hk) S τ a w :=
  ⟨h.size, h.nodef, Kept.refl _ _, h.tm, h.hp, fun b g hb ho => ⟨fun k => k.elim (h.own b g hb ho).1 (zga h hb ho), (h.own b g hb ho).2⟩, h.sep, h.one, h.pin⟩
theorem zgp {τ0 : Nat → Value} {ns : List Nat} {l : Nat} {W : World} {hk : Kept X.K X.W0 W} (h : SimT (cxR X W l τ0 ns hk) S τ a w) : SimT (cxP X τ0 ns) S τ a w :=
  ⟨h.size, h.nodef, hk.trans (h.bel.mono fun _ => .inl), h.tm, h.hp, fun b g hb ho => ⟨fun k => (h.own b g hb ho).1 (.inl k), (h.own b g hb ho).2⟩, h.sep, h.one, h.pin⟩
theorem zes {τ0 : Nat → Value} {ns : List Nat} {l : Nat} {W : World} {hk : Kept X.K X.W0 W} (h : SimT (cxR X W l τ0 ns hk) S τ a w) (B : Nat) : KeepsFrom B W w :=
  ⟨h.bel.size, fun k o _ ho hc => (h.bel.block k (.inr ⟨o, ho, hc⟩)).trans ho⟩
def ptT (ts : List (Nat × Nat)) : List (Nat × AV) := ts.map fun p => (p.1, .m (.c (.p p.2 0)))
theorem zfw {τ0 : Nat → Value} {ns : List Nat} {a0 : Act} (h : Sim (cxP X τ0 ns) S a w) (ts : List (Nat × Nat)) (bs : List (Nat × Hs)) (hb : EqB S bs) (hc : (bs.all fun p => (idK p.2).all (zl3 · bs)) = true) (hns : (ns.all fun b => zl3 b bs) = true)
    (hts : ∀ p ∈ ts, p.2 ∈ ns ∧ a0.tmps.getD p.1 undef = τ0 p.2 ∧ ∃ g, τ0 p.2 = .pointer (some ⟨g, 0, none⟩)) (hsz : a0.tmps.size = X.N) (hd : a0.defers = X.df) : Sim (cxP X τ0 ns) (St.of (ptT ts) bs) a0 w := by
  obtain ⟨τ', s⟩ := zas (X := cxP X τ0 ns) [] bs trivial hb (by simp only [List.all_nil, Bool.true_and]; exact hc) (by
    show ((ns.map fun b => (b, τ0 b)).all fun p => zl3 p.1 bs) = true
    rw [List.all_map]; exact hns) a w h
  refine ⟨τ', hsz, hd, s.bel, fun t ht => ?_, s.hp, s.own, s.sep, s.one, s.pin⟩
  have key : look (.m (.c .any)) (ptT ts) t = .m (.c .any) ∨ ∃ p ∈ ts, p.1 = t ∧ look (.m (.c .any)) (ptT ts) t = .m (.c (.p p.2 0)) := by
    by_cases e : look (.m (.c .any)) (ptT ts) t = .m (.c .any)
    · exact .inl e
    · obtain ⟨q, h1, h2, h3⟩ := look_mem _ _ _ rfl e
      obtain ⟨p, hp, rfl⟩ := List.mem_map.1 h1
      exact .inr ⟨p, hp, h2, h3.symm⟩
  show AV.R _ (look (.m (.c .any)) (ptT ts) t) _
  rcases key with e | ⟨p, hp, rfl, e⟩
  · rw [e]; trivial
  · rw [e]
    obtain ⟨h1, h2, g, h3⟩ := hts p hp
    have hpin := s.pin (p.2, τ0 p.2) (List.mem_map.2 ⟨p.2, h1, rfl⟩)
    exact ⟨hpin.1, g, hpin.2.trans h3, h2.trans h3⟩
def St.two (S : St) (p1 p2 : Nat) (v1 v2 : AV) : St := ⟨zgf (some p2) v2 (zgf (some p1) v1 S.tm), S.hp⟩
theorem zsj {p1 p2 : Nat} {v1 v2 : AV} {u1 u2 : Value} (hdf : X.df = []) (h : SimT X S τ a w) (h1 : v1.R (env X S.hp τ w) u1) (h2 : v2.R (env X S.hp τ w) u2) : SimT X (S.two p1 p2 v1 v2) τ { tmps := (a.tmps.setIfInBounds p1 u1).setIfInBounds p2 u2, defers := [] } w := by
  refine ⟨by simp [h.size], hdf.symm, h.bel, ?_, h.hp, h.own, h.sep, h.one, h.pin⟩
  have t1 := zq9 (X := X) (S := S) (d := some p1) h.size h.tm h1
  exact zq9 (X := X) (S := ⟨zgf (some p1) v1 S.tm, S.hp⟩) (a := a.put (some p1) u1) (d := some p2) (by simp [Act.put, h.size]) t1 h2
theorem zv8 {τ0 : Nat → Value} {ns : List Nat} {sz f : Int} {xs : List (Int × Int)} {n1 n2 b1 b2 : Nat} (h : SimT (cxP X τ0 ns) S τ a w) (h1 : S.hp n1 = .live (.box [.v (.int .u64 sz), .s xs.length 2 (fl xs)])) (h2 : S.hp n2 = .live (.box [.v (.int .u64 f)])) (m1 : n1 ∈ ns) (m2 : n2 ∈ ns)
    (e1 : τ0 n1 = .pointer (some ⟨b1, 0, none⟩)) (e2 : τ0 n2 = .pointer (some ⟨b2, 0, none⟩)) : Ent sz xs f b1 b2 w := by
  have p1 := (h.pin (n1, τ0 n1) (List.mem_map.2 ⟨n1, m1, rfl⟩)).2
  have p2 := (h.pin (n2, τ0 n2) (List.mem_map.2 ⟨n2, m2, rfl⟩)).2
  have p1 : τ n1 = .pointer (some ⟨b1, 0, none⟩) := p1.trans e1
  have p2 : τ n2 = .pointer (some ⟨b2, 0, none⟩) := p2.trans e2
  obtain ⟨g, vs, q1, q2, q3⟩ := h.hp n1 _ h1
  rw [p1] at q1; cases q1
  obtain ⟨g, us, r1, r2, r3⟩ := h.hp n2 _ h2
  rw [p2] at r1; cases r1
  obtain ⟨vs⟩ := vs
  obtain ⟨us⟩ := us
  match vs, q3, us, r3 with
  | [v1, v2], q3, [v3], r3 =>
    rw [show v1 = .int .u64 sz from q3.1] at q2
    rw [show v3 = .int .u64 f from r3.1] at r2
    exact ⟨v2, q2, r2, q3.2.1.1⟩
  | [], q3, _, _ => exact q3.elim
  | [_], q3, _, _ => exact q3.2.elim
  | _ :: _ :: _ :: _, q3, _, _ => exact q3.2.2.elim
  | [_, _], _, [], r3 => exact r3.elim
  | [_, _], _, _ :: _ :: _, r3 => exact r3.2.elim
theorem zix {S S' : St} (h : S.hp = S'.hp) : ∀ (l : List (Nat × Hs)), EqB S l → EqB S' l
  | [], _ => trivial
  | p :: l, k => ⟨by rw [← h]; exact k.1, zix h l k.2⟩
def z0s : Exit → St → Prop := fun _ _ => False
set_option maxHeartbeats 1000000 in
theorem zv9 {β : Type} {X : Cx} {S : St} {τ0 : Nat → Value} {a : Act} {w : World} {t p1 p2 : Tmp} {assign body : Code} {Q : Exit → Act → World → Prop} {sz f : Int} {xs : List (Int × Int)} (hf : 0 ≤ f ∧ f < 17592186044416) (hs : Srt xs) (hu : Uw xs)
    (hdf : X.df = []) (ts : List (Nat × Nat)) (ns : List Nat) (n1 n2 : Nat) (bs : β → List (Nat × Hs)) (mid : β → Ie sz xs f → St) (next : β → Ie sz xs f → β) (b0 : β)
    (hS : SimT (cxP X τ0 ns) S τ0 a w) (htN : t < X.N) (hcl : S.tm t = .m (.c (.cl 162 [n1, n2])))
    (hts : ∀ p ∈ ts, S.tm p.1 = .m (.c (.p p.2 0)) ∧ p.2 ∈ ns ∧ p.1 < X.N) (hns : ∀ b ∈ ns, ∃ cs, S.hp b = .live (.box cs)) (hb0 : EqB S (bs b0)) (m1 : n1 ∈ ns) (m2 : n2 ∈ ns)
    (hbs : ∀ o, ((bs o).all (fun p => (idK p.2).all (zl3 · (bs o))) && ns.all (fun b => zl3 b (bs o))) = true)
    (hn1 : ∀ o, look Hs.fresh (bs o) n1 = .live (.box [.v (.int .u64 sz), .s xs.length 2 (fl xs)])) (hn2 : ∀ o, look Hs.fresh (bs o) n2 = .live (.box [.v (.int .u64 f)]))
    (hmid : ∀ o x, EqB (mid o x) (bs o)) (hself : ∀ o, EqB (St.of [] (bs o)) (bs o))
    (hinj : ∀ (τ τ' : Nat → Value) (a a' : Act) (W : World) (o o' : β) (x : Ie sz xs f), SimT (cxP X τ0 ns) (St.of (ptT ts) (bs o)) τ a W → SimT (cxP X τ0 ns) (mid o' x) τ' a' W → o = o')
    (hA : ∀ (W : World) (l : Nat) (hk : Kept X.K X.W0 W) (o : β) (x : Ie sz xs f), Aw Tryz.prog (cxR X W l τ0 ns hk) assign (zjd (fun S' => Sub (cxR X W l τ0 ns hk) S' (mid o x)) z0s) ((St.of (ptT ts) (bs o)).two p1 p2 (.m (.c (.v (.int .i64 (x.1 : Int))))) (.m (.ag (atM sz xs f x.1).ce))))
    (F : β → Prop) (hF : ∀ pre : List (Ie sz xs f), pre.length < 512 → F (pre.foldl next b0))
    (hB : ∀ (W : World) (l : Nat) (hk : Kept X.K X.W0 W) (o : β) (x : Ie sz xs f), F o → Aw Tryz.prog (cxR X W l τ0 ns hk) body (zjd (fun S' => Sub (cxR X W l τ0 ns hk) S' (St.of (ptT []) (bs (next o x)))) z0s) (mid o x))
    (hdone : ∀ (D : Nat) (ys : List (Ie sz xs f)) (W : World), w.heap.size ≤ D → ys.map (·.1) = (List.range 512).filter (nzB sz xs f) → Sim (cxP X τ0 ns) (St.of (ptT ts) (bs (ys.foldl next b0))) a W → W.heap[D]? = some (.deferred (some [])) → Q .normal { a with defers := { target := .collected D, args := #[] } :: a.defers } W) :
    (Code.rangeFunc (.tmp t) #[p1, p2] assign body).wp Tryz.prog Q a w := by
  have hptr : ∀ b ∈ ns, ∃ g, τ0 b = .pointer (some ⟨g, 0, none⟩) := fun b hb => by
    obtain ⟨cs, e⟩ := hns b hb
    obtain ⟨g, vs, e1, _⟩ := hS.hp b _ e
    exact ⟨g, e1⟩
  obtain ⟨b1, e1⟩ := hptr n1 m1
  obtain ⟨b2, e2⟩ := hptr n2 m2
  have hval : a.eval (.tmp t) = .func (.func 162) #[] #[.pointer (some ⟨b1, 0, none⟩), .pointer (some ⟨b2, 0, none⟩)] := by
    have := hS.tm t htN
    rw [hcl] at this
    have this : a.tmps.getD t undef = .func (.func 162) #[] ([n1, n2].map τ0).toArray := this.1
    show a.tmps.getD t undef = _
    rw [this]; simp [e1, e2]
  have hts' : ∀ p ∈ ts, p.2 ∈ ns ∧ a.tmps.getD p.1 undef = τ0 p.2 ∧ ∃ g, τ0 p.2 = .pointer (some ⟨g, 0, none⟩) := fun p hp => by
    obtain ⟨q1, q2, q3⟩ := hts p hp
    have := hS.tm p.1 q3
    rw [q1] at this
    obtain ⟨_, g, r1, r2⟩ := this
    have r1 : τ0 p.2 = .pointer (some ⟨g, 0, none⟩) := r1
    exact ⟨q2, r2.trans r1.symm, g, r1⟩
  have hbs1 : ∀ o, ((bs o).all fun p => (idK p.2).all (zl3 · (bs o))) = true := fun o => by have := hbs o; rw [Bool.and_eq_true] at this; exact this.1
  have hbs2 : ∀ o, (ns.all fun b => zl3 b (bs o)) = true := fun o => by have := hbs o; rw [Bool.and_eq_true] at this; exact this.2
  have hent : ∀ {S' : St} {τ' : Nat → Value} {a' : Act} {W' : World} {o : β}, SimT (cxP X τ0 ns) S' τ' a' W' → EqB S' (bs o) → Ent sz xs f b1 b2 W' := fun {S' τ' a' W' o} s h => by
    have hl : ∀ n v, look Hs.fresh (bs o) n = .live v → S'.hp n = .live v := fun n v hv => by
      rcases zkh h n with e | e
      · rw [e] at hv; cases hv
      · rw [← e]; exact hv
    exact zv8 s (hl _ _ (hn1 o)) (hl _ _ (hn2 o)) m1 m2 e1 e2
  have hE0 : Ent sz xs f b1 b2 w := hent hS hb0
  have hszW : X.W0.heap.size ≤ w.heap.size := hS.bel.size
  have hgr : ∀ (S' : St) (a' : Act), OwnFrom w.heap.size (fun (_ : Unit) W => Sim (cxP X τ0 ns) S' a' W) := fun S' a' _ W W' row ⟨τ', s⟩ hg hr => ⟨τ', ziw s hg fun r e => ⟨(hr r e).2, fun k => by
    have := X.hK r k; have := (hr r e).1; omega⟩⟩
  have hI0 : Sim (cxP X τ0 ns) (St.of (ptT ts) (bs b0)) a w := zfw ⟨τ0, hS⟩ ts (bs b0) hb0 (hbs1 b0) (hbs2 b0) hts' hS.size hS.nodef
  refine (wpIn_wide (n := 5)).1 (wpIn_rangeFunc_ownH (w0 := w) rfl (by omega) (gf := 162) hval trivial (enters_of Tryz.func162 (by kernel_rfl) rfl)
    (zmk 4 (by omega) sz xs f b1 b2 w hE0 hf hs hu) KpE.trans (fun W l o o' _ hl ho _ => KpE.put W l o o' hl ho) (Below.refl _ _) (fun _ => rfl)
    (fun pre W => Sim (cxP X τ0 ns) (St.of (ptT ts) (bs (pre.foldl next b0))) a W) (fun _ _ _ => False) (fun s W W' row hi hg hr => hgr _ _ () W W' row hi hg hr) (fun _ _ _ _ _ h _ _ => h) hI0
    (fun x a' W => ∃ o, Sim (cxP X τ0 ns) (mid o x) a' W) (fun x a' _ W W' row ⟨o, hi⟩ hg hr => ⟨o, hgr _ _ () W W' row hi hg hr⟩) ?_ ?_ ?_ (fun _ _ _ _ _ _ h => h.elim))
  · intro l pre x W K hI hK
    obtain ⟨τ1, s1⟩ := hI
    have hk : Kept X.K X.W0 W := s1.bel
    have s2 := zsj (p1 := p1) (p2 := p2) (v1 := .m (.c (.v (.int .i64 (x.1 : Int))))) (v2 := .m (.ag (atM sz xs f x.1).ce)) (u1 := .int .i64 (x.1 : Int)) (u2 := zyx (atM sz xs f x.1)) (show (cxP X τ0 ns).df = [] from hdf) s1 rfl ⟨_, rfl, rfl, rfl, rfl, rfl, rfl, rfl, rfl, rfl, rfl, rfl, rfl, trivial⟩
    have s3 := zgo (l := l) s2 hk
    have ez : (#[p1, p2].zip (zyy sz xs f x)).foldl (fun t (p, v) => t.setIfInBounds p v) a.tmps = (a.tmps.setIfInBounds p1 (.int .i64 (x.1 : Int))).setIfInBounds p2 (zyx (atM sz xs f x.1)) := by simp [zyy]
    rw [ez]
    refine wpIn_mono (hA W l hk _ x _ W ⟨_, s3⟩ _) ?_
    intro e a' W' ⟨S', q, s4⟩
    cases e with
    | normal =>
      obtain ⟨τ5, s5⟩ := q _ _ s4
      have s6 := zgp s5
      exact hK a' W' (zes s5 _) ⟨s5.bel.size, fun _ => hent s6 (hmid _ _)⟩ (zfw ⟨_, s6⟩ ts _ (hmid _ x) (hbs1 _) (hbs2 _) hts' hS.size hS.nodef) ⟨_, _, s6⟩
    | _ => exact q.elim
  · intro l pre x a' W hl hr hI ⟨o, τ2, s2⟩ hlen
    obtain ⟨τ1, s1⟩ := hI
    obtain rfl := hinj _ _ _ _ _ _ _ x s1 s2
    have hk : Kept X.K X.W0 W := s2.bel
    have s3 := zgo (l := l) s2 hk
    refine wpIn_mono (hB W l hk _ x (hF pre hlen) _ W ⟨_, s3⟩ _) ?_
    intro e a2 W' ⟨S', q, s4⟩
    cases e with
    | normal =>
      obtain ⟨τ5, s5⟩ := q _ _ s4
      have s6 := zgp s5
      have hq := zix (S := St.of [] (bs (next (pre.foldl next b0) x))) (S' := St.of (ptT []) (bs (next (pre.foldl next b0) x))) rfl _ (hself _)
      refine ⟨zes s5 _, ⟨s5.bel.size, fun _ => hent s6 hq⟩, ?_⟩
      show Sim (cxP X τ0 ns) (St.of (ptT ts) (bs ((pre ++ [x]).foldl next b0))) a W'
      rw [List.foldl_append]
      exact zfw ⟨_, s6⟩ ts _ hq (hbs1 _) (hbs2 _) hts' hS.size hS.nodef
    | _ => exact q.elim
  · intro D ys W hD hys hI hK
    exact hdone D ys W hD hys hI hK
def Aw2 (P : Program) (X : Cx) (c : Code) (Q : Exit → Act → World → Prop) (S : St) : Prop := ∀ a w, Sim X S a w → c.wp P Q a w
theorem zct {x y : Code} {Q : Exit → Act → World → Prop} (h : ∀ K : St → Prop, (∀ S, Aw2 P X y Q S → K S) → Aw P X x (zjd K z0s) S) (hr : X.rd = none := by rfl) : Aw2 P X (.seq x y) Q S := fun a w hs =>
  wp_seq (wp_mono (zqq hr (h _ fun _ h => h) hs) fun e a' w' ⟨S', q, s⟩ => by
    cases e with
    | normal => exact q a' w' s
    | _ => exact q.elim)
theorem zsk {x y : Code} {Q : Exit → Act → World → Prop} (h : Aw2 P X x (Exit.then (y.wp P Q) Q) S) : Aw2 P X (.seq x y) Q S := fun a w hs => wp_seq (h a w hs)
theorem ziy {id : Nat} {c : Code} {Q : Exit → Act → World → Prop} (h : Aw2 P X c (Exit.inBlock id Q) S) : Aw2 P X (.block id c) Q S := fun a w hs => wp_block (h a w hs)
theorem ziz {c : Code} {Q : Exit → Act → World → Prop} {S' : St} (h : Sub X S S') (k : Aw2 P X c Q S') : Aw2 P X c Q S := fun a w hs => k a w (h a w hs)
theorem zn4 {ns : List Nat} (h : SimT X S τ a w) (hns : ∀ b ∈ ns, ∃ cs, S.hp b = .live (.box cs)) : SimT (cxP X τ ns) S τ a w :=
  ⟨h.size, h.nodef, h.bel, h.tm, h.hp, h.own, h.sep, h.one, fun p hp => by
    obtain ⟨b, hb, rfl⟩ := List.mem_map.1 hp
    obtain ⟨cs, e⟩ := hns b hb
    exact ⟨(by rw [e]; intro e'; cases e'), rfl⟩⟩
def cxD (X : Cx) (W : World) (D : Nat) (hk : Kept X.K X.W0 W) (hD : D < W.heap.size) : Cx :=
  { X with
    W0 := W
    hB := Nat.le_trans X.hB hk.size
    K := fun g => X.K g ∨ g = D
    hK := fun g h => h.elim (fun h => Nat.lt_of_lt_of_le (X.hK g h) hk.size) (fun h => h ▸ hD)
    hG := fun w h => X.hG w (hk.trans (h.mono fun _ => .inl))
    pn := []
    rd := none
    df := [{ target := .collected D, args := #[] }] }
theorem zn5 {D : Nat} (h : SimT X S τ a w) (hdf : X.df = []) (hN : z0r w D) (hD : D < w.heap.size) : SimT (cxD X w D h.bel hD) S τ { a with defers := { target := .collected D, args := #[] } :: a.defers } w :=
  ⟨h.size, by show _ :: a.defers = _; rw [h.nodef, hdf]; rfl, Kept.refl _ _, h.tm, h.hp, fun b g hb ho => ⟨fun k => k.elim (h.own b g hb ho).1 (fun e => zga h hb ho (e ▸ hN)), (h.own b g hb ho).2⟩, h.sep, h.one, fun p hp => by cases hp⟩
def zn6 (W : World) (A : Nat → Prop) (r : AV) (e : Ending) (w' : World) : Prop := ∃ v, e = .returned v ∧ Below W.heap.size W w' ∧ r.R (en0 (fun g => A g ∨ W.heap.size ≤ g) w') v
theorem zj2 {G : World → Prop} {N : Nat} {W0 : World} {A : Nat → Prop} {hG : ∀ w, Below W0.heap.size W0 w → G w} {fn : Func} {rest : Code} {t : Tmp} {m : Cm} {D : Nat} {W : World} (hres : fn.results = #[.tmp t]) (ht : t < N) (hcl : zce m = true) (hs : SimT (Cx.of N W0 A G hG) S τ a W) (hDW : W0.heap.size ≤ D) (hK : W.heap[D]? = some (.deferred (some [])))
    (h : ∀ (hk : Kept (Cx.of N W0 A G hG).K (Cx.of N W0 A G hG).W0 W) (hD : D < W.heap.size), Aw P (cxD (Cx.of N W0 A G hG) W D hk hD) rest (fun e S' => (e = .normal ∨ e = .ret) ∧ ∃ m', S'.tm t = .m m' ∧ zje S'.hp m' = m) S) :
    rest.wp P (bodyPostM Fence.wide 5 P fn (zn6 W0 A (.m m))) { a with defers := { target := .collected D, args := #[] } :: a.defers } W := by
  have hlt : D < W.heap.size := (Array.getElem?_eq_some_iff.1 hK).1
  have s1 := zn5 hs rfl ⟨_, hK, rfl⟩ hlt
  refine wp_mono (zqq rfl (h hs.bel hlt) ⟨_, s1⟩) ?_
  intro e a' w' ⟨S', ⟨he, m', hm1, hm2⟩, τ', s⟩
  have hK' : w'.heap[D]? = some (.deferred (some [])) := (s.bel.block D (.inr rfl)).trans hK
  have key : LeavesInM Fence.wide 5 P fn a'.tmps (zn6 W0 A (.m m)) a'.defers .returning w' := by
    rw [s.nodef]
    refine ⟨by simp, .inl ⟨_, _, rfl, run_takeDeferred hK', ?_⟩⟩
    refine ⟨_, results_tmp hres _ _ _, _, rfl, ?_, ?_⟩
    · have b1 : Below W0.heap.size W0 W := hs.bel.below fun _ h => h
      have b2 : Below W0.heap.size W w' := s.bel.below fun _ h => .inl h
      exact (b1.trans b2).trans ((Below.refl _ _).grown (grownBy_putObj' w' D (.deferred none)) (Nat.le_trans b1.size b2.size) (fun k e => by cases e; exact hDW))
    · have hR := s.tm t ht
      rw [hm1] at hR
      have hR2 := zri s m' _ hR
      rw [hm2] at hR2
      have hR3 := ze6 (E := ⟨_, _, τ', w'⟩) (F := en0 (fun g => A g ∨ W0.heap.size ≤ g) w') rfl (fun g _ hg => hg) _ _ hcl hR2
      exact zsi (E := en0 (fun g => A g ∨ W0.heap.size ≤ g) w') (F := en0 (fun g => A g ∨ W0.heap.size ≤ g) (w'.putObj D (.deferred none))) ⟨fun _ h => h.elim, fun _ _ h => h, (grownBy_putObj' w' D _).size, fun g o v _ _ hv => zpd hv hK' rfl⟩ _ _ hR3
  rcases he with rfl | rfl
  · exact key
  · exact key
theorem zfi {G : World → Prop} {k : FuncId} {fn : Func} {c : Code} {args : List Cm} {m : Cm} (N : Nat) (hf : P.funcs[k]? = some fn) (hb : fn.body = some c) (hcl : (zce m && args.all zce) = true) (hN : args.length + (fn.ntmps - args.length) = N)
    (h : ∀ (W : World) (A : Nat → Prop) (hG : ∀ w, Below W.heap.size W w → G w), Aw2 P (Cx.of N W A G hG) c (bodyPostM Fence.wide 5 P fn (zn6 W A (.m m))) (zl0 args)) (hGb : ∀ w w', G w → Below w.heap.size w w' → G w') : zb4 P G k args (.m m) := by
  simp only [Bool.and_eq_true] at hcl
  refine ⟨hcl.1, hcl.2, fun A W vs hG hR => ?_⟩
  have hlen := All2.length _ _ hR
  simp only [Array.length_toList] at hlen
  exact callsIn_wide.1 (callsIn_of_wp_marks (F := Fence.wide) (n := 5) hf hb trivial (wpIn_wide.2 (h W A (fun w hb => hGb W w hG hb) _ W (zl1 hN hcl.2 hlen hR))) rfl)
end
end Go.Proofs.YtmkjfeamgknpfaaGreatDoor.Ax
namespace Go.Proofs.YtmkjfeamgknpfaaGreatDoor.Ax
open Go.RowKit MemL RegR MemC MemC3 PutC LaA IterE PteSpec BitsC OkS Go
section
variable {X : Cx} {S : St} {ops : Array Oper} {o : Oper}
set_option maxHeartbeats 1000000 in
theorem zjj (sz f : Int) (v : Value) (W : World) : Calls Tryz.prog 120 #[.agg #[.int .u64 sz, v], .int .u64 f] W fun e w' => e = .returned (.func (.func 162) #[] #[.pointer (some ⟨W.heap.size, 0, none⟩), .pointer (some ⟨W.heap.size + 1, 0, none⟩)]) ∧ w' = (W.alloc (.cells #[.int .u64 sz, v] 30)).alloc (.cells #[.int .u64 f] 25) := by
  go_enter Tryz.func120, Tryz.ntmps120
  go_wp2
  go_ret
  exact ⟨rfl, rfl⟩
theorem zet {sz f : Int} {l : List (Int × Int)} {n1 n2 : Nat} {xs : Array Operand} {ts : Array TypeId} (ho : o.op = .call { callee := .value (.func 120), args := xs, argTypes := ts }) (hw : zax ops S o = true) (hl : zjc S xs.toList = some [zbz sz l, iu f]) (h1 : S.hp n1 = .fresh) (h2 : S.hp n2 = .fresh) (hne : Nat.beq n2 n1 = false) :
    zbd Tryz.prog ops X o S ⟨.m (.c (.cl 162 [n1, n2])), [(n2, .live (.box [cu f])), (n1, .live (.box [cu sz, .s l.length 2 (fl l)]))], []⟩ := fun S2 a w k1 k2 k3 ⟨τ, hS⟩ => by
  refine .inl ⟨zbv hw k1 k3 hS, ?_⟩
  rw [zgg ho (by kernel_rfl)]
  have hR := zf6 (S := S) (E := env X S2.hp τ w) (a := a) xs.toList _ hl (fun x hx => by
    have hm : x ∈ o.op.operands := by rw [ho]; simp [Op.operands, Call.operands]; exact .inr (by simpa using hx)
    rw [← zci k1 hm]; exact hS.ev x (fun t e => k3 t (.inl (zby (e ▸ hm)))))
  obtain ⟨vm, vf, hv, r1, r2⟩ := zuj (vs := (xs.toList.map a.eval).toArray) (by simpa using hR)
  have hv : xs.map a.eval = #[vm, vf] := by rw [← hv, ← Array.toList_inj, Array.toList_map]
  obtain ⟨u, rfl, hu⟩ := zf9 r1
  obtain rfl : vf = .int .u64 f := r2
  rw [hv]
  refine (zjj sz f u w).mono ?_
  rintro e w' ⟨rfl, rfl⟩
  have f1 : S2.hp n1 = .fresh := Eq.trans (k2 (.all n1) (by simp [Ef.foot, zem])) h1
  have f2 : S2.hp n2 = .fresh := Eq.trans (k2 (.all n2) (by simp [Ef.foot, zem])) h2
  have hn : n2 ≠ n1 := fun e => by rw [e, Nat.beq_refl] at hne; cases hne
  have s1 := hS.newb (k := .box [cu sz, .s l.length 2 (fl l)]) (b := n1) (d := none) (r := .m (.c .any)) (u := undef) (rd := []) f1 ((Below.refl _ _).alloc (Nat.le_refl _) (.cells #[.int .u64 sz, u] 30)) (v := .pointer (some ⟨w.heap.size, 0, none⟩)) (g := w.heap.size) rfl ⟨Nat.le_refl _, by rw [World.size_alloc]; omega⟩ rfl
    (fun E hE hw' => ⟨w.heap.size, #[.int .u64 sz, u], rfl, by rw [hw']; exact Bx.new, rfl, zcf hE _ _ hu, trivial⟩) trivial
  have f2' : (S2.app none ⟨.m (.c .any), [(n1, .live (.box [cu sz, .s l.length 2 (fl l)]))], []⟩).hp n2 = .fresh := by
    show upd _ _ n2 = _
    rw [zd9, if_neg hn]; exact f2
  have hz : (w.alloc (.cells #[.int .u64 sz, u] 30)).heap.size = w.heap.size + 1 := World.size_alloc ..
  have s2 := s1.newb (k := .box [cu f]) (b := n2) (d := o.dst) (r := .m (.c (.cl 162 [n1, n2]))) (u := .func (.func 162) #[] #[.pointer (some ⟨w.heap.size, 0, none⟩), .pointer (some ⟨w.heap.size + 1, 0, none⟩)]) (rd := []) f2' ((Below.refl _ _).alloc (Nat.le_refl _) (.cells #[.int .u64 f] 25)) (v := .pointer (some ⟨w.heap.size + 1, 0, none⟩)) (g := w.heap.size + 1) rfl ⟨by rw [hz]; exact Nat.le_refl _, by rw [World.size_alloc, hz]; omega⟩ rfl
    (fun E hE hw' => ⟨w.heap.size + 1, #[.int .u64 f], rfl, by rw [hw', ← hz]; exact Bx.new, rfl, trivial⟩) (by
      refine ⟨?_, fun b hb => ?_⟩
      · show _ = Value.func _ #[] ([n1, n2].map (zcs (zcs τ n1 _) n2 _)).toArray
        have e1 : zcs (zcs τ n1 (.pointer (some ⟨w.heap.size, 0, none⟩))) n2 (.pointer (some ⟨w.heap.size + 1, 0, none⟩)) n1 = .pointer (some ⟨w.heap.size, 0, none⟩) := by
          unfold zcs; rw [if_neg (Ne.symm hn), if_pos rfl]
        have e2 : zcs (zcs τ n1 (.pointer (some ⟨w.heap.size, 0, none⟩))) n2 (.pointer (some ⟨w.heap.size + 1, 0, none⟩)) n2 = .pointer (some ⟨w.heap.size + 1, 0, none⟩) := by
          unfold zcs; rw [if_pos rfl]
        simp only [List.map_cons, List.map_nil, e1, e2]
      · show upd _ _ b ≠ .fresh
        rw [zd9]
        split
        · intro e; cases e
        · rename_i hb2
          have : b = n1 := by
            rcases List.mem_cons.1 hb with rfl | hb
            · rfl
            · rcases List.mem_cons.1 hb with rfl | hb
              · exact absurd rfl hb2
              · cases hb
          subst this
          show upd _ _ b ≠ .fresh
          rw [zd9, if_pos rfl]; intro e; cases e)
  exact ⟨_, rfl, _, s2⟩
end
section
variable {X : Cx} {S : St}
def St.nb (S : St) (c b : Nat) (r : Bk) : St := ⟨S.tm, fun i => cond (Nat.beq i b) (.live r) (cond (Nat.beq i c) (.live (.box [.o b])) (S.hp i))⟩
theorem zus (c b e k : Nat) (hc : S.hp c = .live (.box [.v (.slice none 0 0)])) (hf : S.hp b = .fresh) : Sub X S (S.nb c b (.row e k 0 [])) := fun a w ⟨τ, h⟩ => by
  have hcb : c ≠ b := fun e => by rw [e, hf] at hc; cases hc
  have hb1 : (S.nb c b (.row e k 0 [])).hp b = .live (.row e k 0 []) := by
    show cond (Nat.beq b b) _ _ = _; rw [Nat.beq_refl]; rfl
  have hbc : (S.nb c b (.row e k 0 [])).hp c = .live (.box [.o b]) := by
    show cond (Nat.beq c b) _ (cond (Nat.beq c c) _ _) = _; rw [zbe hcb, Nat.beq_refl]; rfl
  have hb2 : ∀ i, i ≠ b → i ≠ c → (S.nb c b (.row e k 0 [])).hp i = S.hp i := fun i h1 h2 => by
    show cond (Nat.beq i b) _ (cond (Nat.beq i c) _ _) = _; rw [zbe h1, zbe h2]; rfl
  have hal : ∀ i, zch (S.nb c b (.row e k 0 [])).hp i → i = b ∨ (i ≠ b ∧ zch S.hp i) := fun i ⟨q, hq⟩ => by
    by_cases e1 : i = b
    · exact .inl e1
    · by_cases e2 : i = c
      · subst e2; exact .inr ⟨e1, _, hc⟩
      · rw [hb2 i e1 e2] at hq; exact .inr ⟨e1, q, hq⟩
  have t1 : zcs τ b (.slice none 0 0) b = .slice none 0 0 := by unfold zcs; rw [if_pos rfl]
  have t2 : ∀ i, i ≠ b → zcs τ b (.slice none 0 0) i = τ i := fun i hi => by unfold zcs; rw [if_neg hi]
  have hle : (env X S.hp τ w).le (env X (S.nb c b (.row e k 0 [])).hp (zcs τ b (.slice none 0 0)) w) := by
    refine ⟨fun i hi => ?_, fun g _ ha => ⟨ha.1, fun i hi => ?_⟩, Nat.le_refl _, fun _ _ _ _ => rfl⟩
    · have hi : S.hp i ≠ .fresh := hi
      have e1 : i ≠ b := fun e => hi (e ▸ hf)
      refine ⟨?_, t2 i e1⟩
      show (S.nb c b (.row e k 0 [])).hp i ≠ .fresh
      by_cases e2 : i = c
      · subst e2; rw [hbc]; intro e; cases e
      · rw [hb2 i e1 e2]; exact hi
    · show occ (zcs τ b (.slice none 0 0) i) ≠ some g
      rcases hal i hi with rfl | ⟨e1, hi⟩
      · rw [t1]; intro e; cases e
      · rw [t2 i e1]; exact ha.2 i hi
  refine ⟨zcs τ b (.slice none 0 0), h.size, h.nodef, h.bel, fun t ht => zq3 hle _ _ (h.tm t ht), fun i q hq => ?_, fun i g hi ho => ?_, fun i j g hij hi hj ho => ?_, fun i => ?_, fun p hp => ⟨(hle.U _ (h.pin p hp).1).1, (hle.U _ (h.pin p hp).1).2.trans (h.pin p hp).2⟩⟩
  · by_cases e1 : i = b
    · subst e1
      rw [hb1] at hq; cases hq
      rw [t1]; exact World.ownsRow_nil w X.base e k
    · rw [t2 i e1]
      by_cases e2 : i = c
      · subst e2
        rw [hbc] at hq; cases hq
        obtain ⟨g, vs, x1, x2, x3⟩ := h.hp i _ hc
        refine ⟨g, vs, x1, x2, ?_⟩
        obtain ⟨vs⟩ := vs
        match vs, x3 with
        | [v], x3 =>
          refine ⟨⟨?_, ?_⟩, trivial⟩
          · show (S.nb i b (.row e k 0 [])).hp b ≠ .fresh
            rw [hb1]; intro e; cases e
          · show v = zcs τ b (.slice none 0 0) b
            rw [t1]; exact x3.1
        | [], x3 => exact x3.elim
        | _ :: _ :: _, x3 => exact x3.2.elim
      · rw [hb2 i e1 e2] at hq
        have hk := h.hp i q hq
        cases q with
        | box cs =>
          obtain ⟨g, vs, x1, x2, x3⟩ := hk
          exact ⟨g, vs, x1, x2, All2.mono (zcf hle) _ _ x3⟩
        | row _ _ _ _ => exact hk
  · rcases hal i hi with rfl | ⟨e1, hi⟩
    · rw [t1] at ho; cases ho
    · rw [t2 i e1] at ho; exact h.own i g hi ho
  · rcases hal i hi with e0 | ⟨e1, hi'⟩
    · rw [e0, t1] at ho; cases ho
    · rw [t2 i e1] at ho
      rcases hal j hj with f0 | ⟨f1, hj'⟩
      · rw [f0, t1]; intro e; cases e
      · rw [t2 j f1]; exact h.sep i j g hij hi' hj' ho
  · by_cases e1 : i = b
    · subst e1; rw [t1]; rfl
    · rw [t2 i e1]; exact h.one i
theorem zut {w : World} {base base' e k n e' n' : Nat} {v : Value} {xs xs' : List Value} (h : w.ownsRow base e k v n xs) (h' : w.ownsRow base' e' k v n' xs') : n = n' ∧ xs = xs' := by
  obtain ⟨l, h⟩ := h
  obtain ⟨l', h'⟩ := h'
  rcases h with ⟨e1, e2⟩ | ⟨g, cap, cur, e1, e2, e3, e4, e5, e6, e7⟩
  · rcases h' with ⟨f1, f2⟩ | ⟨g', cap', cur', f1, _⟩
    · subst e2; subst f2
      rw [Nat.zero_mul] at l l'
      rw [List.eq_nil_of_length_eq_zero l, List.eq_nil_of_length_eq_zero l']; exact ⟨rfl, rfl⟩
    · rw [e1] at f1; cases f1
  · rcases h' with ⟨f1, f2⟩ | ⟨g', cap', cur', f1, f2, f3, f4, f5, f6, f7⟩
    · rw [e1] at f1; cases f1
    · rw [e1] at f1; cases f1
      rw [e3] at f3; cases f3
      exact ⟨rfl, by rw [← e7, ← f7]⟩
theorem zsl {X : Cx} {τ0 τ τ' : Nat → Value} {ns : List Nat} {S S' : St} {a a' : Act} {W : World} {c b e k n e' n' : Nat} {xs xs' : List Value} (h : SimT (cxP X τ0 ns) S τ a W) (h' : SimT (cxP X τ0 ns) S' τ' a' W) (hc : c ∈ ns) (h1 : S.hp c = .live (.box [.o b])) (h1' : S'.hp c = .live (.box [.o b])) (h2 : S.hp b = .live (.row e k n xs)) (h2' : S'.hp b = .live (.row e' k n' xs')) : n = n' ∧ xs = xs' := by
  have p := (h.pin (c, τ0 c) (List.mem_map.2 ⟨c, hc, rfl⟩)).2
  have p' := (h'.pin (c, τ0 c) (List.mem_map.2 ⟨c, hc, rfl⟩)).2
  have p : τ c = τ' c := p.trans p'.symm
  obtain ⟨g, vs, q1, ⟨T, q2⟩, q3⟩ := h.hp c _ h1
  obtain ⟨g', vs', r1, ⟨T', r2⟩, r3⟩ := h'.hp c _ h1'
  rw [p, r1] at q1; cases q1
  have q2 : W.heap[g]? = some (Obj.cells vs T (0, 0)) := q2
  have r2 : W.heap[g]? = some (Obj.cells vs' T' (0, 0)) := r2
  rw [q2] at r2; cases r2
  obtain ⟨vs⟩ := vs
  match vs, q3, r3 with
  | [v], q3, r3 =>
    have e1 : v = τ b := q3.1.2
    have e2 : v = τ' b := r3.1.2
    have o1 : W.ownsRow X.base e k (τ b) n xs := h.hp b _ h2
    have o2 : W.ownsRow X.base e' k (τ' b) n' xs' := h'.hp b _ h2'
    rw [← e1] at o1; rw [← e2] at o2
    exact zut o1 o2
  | [], q3, _ => exact q3.elim
  | _ :: _ :: _, q3, _ => exact q3.2.elim
end
end Go.Proofs.YtmkjfeamgknpfaaGreatDoor.Ax
namespace Go.Proofs.YtmkjfeamgknpfaaGreatDoor.LaC
open Go.RowKit Bv VaSpec Base MemL RegR Ax MemC PutC MemC3 TzC OkS SpA SpB SpC LaA IterE
open BitsC PteSpec
set_option maxRecDepth 10000
set_option maxHeartbeats 1000000
structure Pg where
  va : Int
  pa : Int
  lev : Int
  r : Bool
  w : Bool
  x : Bool
  u : Bool
  d : Bool
deriving DecidableEq
def Pg.vs (p : Pg) : List Value := [.int .u64 p.va, .int .u64 p.pa, .int .i64 p.lev, .bool p.r, .bool p.w, .bool p.x, .bool p.u, .bool p.d]
def flP (l : List Pg) : List Value := l.flatMap Pg.vs
theorem zxe (a b : List Pg) : flP (a ++ b) = flP a ++ flP b := List.flatMap_append ..
theorem zsm (p : Pg) : flP [p] = p.vs := by simp [flP]
theorem zfj (l : Int) (h0 : 0 ≤ l) (h2 : l ≤ 2) : Ok 66 [ii l] (.m (iu (VaSpec.sz l))) :=
  zbm #[.int .i64 l] (.int .u64 (VaSpec.sz l)) fun W g => (VaC.zjw l W h0 h2 g.s).mono fun _ _ ⟨e, q⟩ => ⟨e, q.below⟩
theorem zhx (p : Pte) : Ok 106 [.ag p.ce] (.m (ib (zb3 p))) :=
  zbm #[.agg #[.bool p.v, .bool p.r, .bool p.w, .bool p.x, .bool p.u, .bool p.g, .bool p.a, .bool p.d, .int .u64 p.rsw, .int .u64 p.ppn, .int .u64 p.high]] (.bool (zb3 p))
    fun W _ => PteC.zqk p.v p.r p.w p.x p.u p.g p.a p.d p.rsw p.ppn p.high W
theorem zpe (p : Pte) : Ok 108 [.ag p.ce] (.m (.ag [cb p.r, cb p.w, cb p.x, cb p.u])) :=
  zbm #[.agg #[.bool p.v, .bool p.r, .bool p.w, .bool p.x, .bool p.u, .bool p.g, .bool p.a, .bool p.d, .int .u64 p.rsw, .int .u64 p.ppn, .int .u64 p.high]] (.agg #[.bool p.r, .bool p.w, .bool p.x, .bool p.u])
    fun W _ => PteC.zql p.v p.r p.w p.x p.u p.g p.a p.d p.rsw p.ppn p.high W
theorem zwa (l : Int) (h0 : 0 ≤ l) (h2 : l ≤ 2) : 0 ≤ VaSpec.sz l ∧ VaSpec.sz l ≤ 1073741824 := by
  rcases VaSpec.lev h0 h2 with rfl | rfl | rfl <;> decide
def adr (b i l : Int) : Int := IntKind.u64.wrap (b + IntKind.u64.wrap (i * VaSpec.sz l))
def pgOf (p : Pte) (a l : Int) : Pg := ⟨ofv (num a), p.ppn * 4096, l, p.r, p.w, p.x, p.u, p.d⟩
def zhn (rec : Int → Int → List Pg) (p : Pte) (l a : Int) : List Pg := if ze5 p l then [] else if zb3 p then [pgOf p a l] else rec p.ppn a
def ze1 (sz : Int) (xs : List (Int × Int)) : Nat → Int → Int → List Pg
  | 0, top, b => (List.range 512).flatMap fun (i : Nat) => zhn (fun _ _ => []) (atM sz xs top i) 0 (adr b i 0)
  | l + 1, top, b => (List.range 512).flatMap fun (i : Nat) => zhn (ze1 sz xs l) (atM sz xs top i) (l + 1 : Nat) (adr b i (l + 1 : Nat))
theorem zz1 (p : Pg) : (p.vs).all (·.oneCell') = true := rfl
theorem zsn : ∀ l : List Pg, (flP l).all (·.oneCell') = true
  | [] => rfl
  | p :: l => by rw [show flP (p :: l) = p.vs ++ flP l from rfl, List.all_append, zz1, zsn l]; rfl
theorem zso {p : Pte} (h : ze5 p 0 = false) : zb3 p = true := by
  obtain ⟨v, r, w, x, u, g, a, d, rsw, ppn, high⟩ := p
  revert h
  unfold ze5 zb3 zb7
  cases v <;> cases r <;> cases x <;> simp
theorem zz2 (b i l : Int) : U (adr b i l) := by
  have := IntKind.wrap_u64 (b + IntKind.u64.wrap (i * VaSpec.sz l))
  unfold adr
  rw [this]
  exact ⟨by omega, by omega⟩
theorem zuu (l : Int) : ze5 (za8 0) l = true := by
  unfold ze5
  rw [show (za8 0).v = false by decide]
  rfl
theorem zn7 {sz : Int} {xs : List (Int × Int)} {f : Int} (E : Nat → List Pg) (h : ∀ i, nzB sz xs f i = false → E i = []) : ∀ l : List Nat, (l.filter (nzB sz xs f)).flatMap E = l.flatMap E
  | [] => rfl
  | i :: l => by
    cases e : nzB sz xs f i with
    | true => rw [List.filter_cons, e]; simp only [if_true, List.flatMap_cons]; rw [zn7 E h l]
    | false => rw [List.filter_cons, e]; simp only [Bool.false_eq_true, if_false]; rw [List.flatMap_cons, h i e, zn7 E h l]; rfl
theorem zn8 {α : Type} (E : α → List Pg) : ∀ (ys : List α) (acc : Nat × List Value), ys.foldl (fun p x => (p.1 + (E x).length, p.2 ++ flP (E x))) acc = (acc.1 + (ys.flatMap E).length, acc.2 ++ flP (ys.flatMap E))
  | [], acc => by simp [flP]
  | y :: ys, acc => by
    rw [List.foldl_cons, zn8 E ys, List.flatMap_cons, List.length_append, zxe]
    simp only [Nat.add_assoc, List.append_assoc]
theorem zks {α : Type} (E : α → List Pg) (M : Nat) (h : ∀ x, (E x).length ≤ M) : ∀ ys : List α, (ys.flatMap E).length ≤ ys.length * M
  | [] => by simp
  | y :: ys => by
    rw [List.flatMap_cons, List.length_append, List.length_cons, Nat.succ_mul]
    have := h y
    have := zks E M h ys
    omega
theorem zxf {rec : Int → Int → List Pg} (hrec : ∀ t a, (rec t a).length ≤ 262144) (p : Pte) (l a : Int) : (zhn rec p l a).length ≤ 262144 := by
  unfold zhn
  split
  · simp
  · split
    · simp
    · exact hrec _ _
theorem z08 {a : Int} (h : U a) : U (num a) := by
  obtain ⟨h0, h1⟩ := h
  unfold num
  exact ⟨by omega, by omega⟩
def ts0 : List (Nat × Nat) := [(4, 4), (6, 6), (7, 7), (9, 9)]
def ns0 : List Nat := [4, 6, 7, 9, 1001, 1002]
def bs0 (sz : Int) (xs : List (Int × Int)) (top base lv : Int) (p : Nat × List Value) : List (Nat × Hs) := [(4, .live (.box [cu sz, .s xs.length 2 (fl xs)])), (6, .live (.box [ci lv])), (7, .live (.box [cu base])), (9, .live (.box [.o 1000])), (1000, .live (.row 94 8 p.1 p.2)), (1001, .live (.box [cu sz, .s xs.length 2 (fl xs)])), (1002, .live (.box [cu top]))]
theorem zml (sz : Int) (xs : List (Int × Int)) (top base lv : Int) (rec : Int → Int → List Pg) (ht : 0 ≤ top ∧ top < 17592186044416) (hb : U base) (h0 : 0 ≤ lv) (h2 : lv ≤ 2) (hs : Srt xs) (hu : Uw xs) (hrec : ∀ t a, (rec t a).length ≤ 262144)
    (hIH : 1 ≤ lv → ∀ t a, (0 ≤ t ∧ t < 17592186044416) → U a → Ok 58 [zbz sz xs, iu t, ii (lv - 1), iu a] (.m (.c (.s (rec t a).length 8 (flP (rec t a))))))
    (L : List Pg) (hL : L = (List.range 512).flatMap fun (i : Nat) => zhn rec (atM sz xs top i) lv (adr base i lv)) :
    Ok 58 [zbz sz xs, iu top, ii lv, iu base] (.m (.c (.s L.length 8 (flP L)))) := by
  have hz := zwa lv h0 h2
  refine zfi 57 Tryz.func58 rfl rfl rfl ?_ GG.to
  intro W A hG
  refine zct (fun K hK => ?_)
  repeat (first | (refine zai rfl ?_; first | refine gdr (zaa (.inr rfl) rfl) ?_ | refine gdr (zag rfl rfl rfl rfl rfl rfl) ?_) | (refine hK _ ?_; clear hK K) | refine zad rfl ?_)
  refine zct (fun K hK => ?_)
  repeat (first | (refine zai rfl ?_; first | refine gdr (zae rfl rfl rfl rfl rfl) ?_) | (refine hK _ ?_; clear hK K) | refine zad rfl ?_)
  refine zsk ?_
  refine zct (fun K hK => ?_)
  repeat (first | (refine zai rfl ?_; first | refine gdr (zaa (.inl rfl) rfl) ?_ | refine gnk 1 rfl (za2 tb rfl rfl rfl rfl rfl) ?_ | refine gdr (zet (n1 := 1001) (n2 := 1002) rfl rfl rfl rfl rfl rfl) ?_) | (refine hK _ ?_; clear hK K) | refine zad rfl ?_)
  refine ziy ?_
  refine ziz (zas [(4, .m (.c (.p 4 0))), (6, .m (.c (.p 6 0))), (7, .m (.c (.p 7 0))), (9, .m (.c (.p 9 0))), (15, .m (.c (.cl 162 [1001, 1002])))] [(4, .live (.box [cu sz, .s xs.length 2 (fl xs)])), (6, .live (.box [ci lv])), (7, .live (.box [cu base])), (9, .live (.box [.v (.slice none 0 0)])), (1001, .live (.box [cu sz, .s xs.length 2 (fl xs)])), (1002, .live (.box [cu top]))]
    ⟨rfl, rfl, rfl, rfl, rfl, trivial⟩ ⟨rfl, rfl, rfl, rfl, rfl, rfl, trivial⟩ rfl) ?_
  refine ziz (zus 9 1000 94 8 rfl rfl) ?_
  intro a w ⟨τ0, s⟩
  have s' := zn4 (ns := ns0) s (by
    intro b hb
    simp only [ns0, List.mem_cons, List.not_mem_nil, or_false] at hb
    rcases hb with rfl | rfl | rfl | rfl | rfl | rfl
    all_goals exact ⟨_, rfl⟩)
  refine zv9 (β := Nat × List Value) ht hs hu rfl ts0 ns0 1001 1002 (bs0 sz xs top base lv)
    (fun p x => St.of [(4, .m (.c (.p 4 0))), (6, .m (.c (.p 6 0))), (7, .m (.c (.p 7 0))), (9, .m (.c (.p 9 0))), (10, .m (ii (x.1 : Int))), (11, .m (.c (.p 11 0)))] (bs0 sz xs top base lv p ++ [(11, .live (.box (atM sz xs top x.1).ce))]))
    (fun p x => (p.1 + (zhn rec (atM sz xs top x.1) lv (adr base x.1 lv)).length, p.2 ++ flP (zhn rec (atM sz xs top x.1) lv (adr base x.1 lv)))) (0, []) s' (show 15 < 57 by decide) rfl
    (by
      intro p hp
      simp only [ts0, List.mem_cons, List.not_mem_nil, or_false] at hp
      rcases hp with rfl | rfl | rfl | rfl
      all_goals exact ⟨rfl, by simp [ns0], by show _ < 57; decide⟩)
    (by
      intro b hb
      simp only [ns0, List.mem_cons, List.not_mem_nil, or_false] at hb
      rcases hb with rfl | rfl | rfl | rfl | rfl | rfl
      all_goals exact ⟨_, rfl⟩)
    ⟨rfl, rfl, rfl, rfl, rfl, rfl, rfl, trivial⟩ (by simp [ns0]) (by simp [ns0]) (fun _ => rfl) (fun _ => rfl) (fun _ => rfl) (fun _ _ => ⟨rfl, rfl, rfl, rfl, rfl, rfl, rfl, trivial⟩) (fun _ => ⟨rfl, rfl, rfl, rfl, rfl, rfl, rfl, trivial⟩)
    (by
      intro τ τ' a a' W o o' x h h'
      have := zsl (c := 9) (b := 1000) h h' (by simp [ns0]) rfl rfl rfl rfl
      exact Prod.ext this.1 this.2)
    ?_ (fun p => p.1 ≤ 512 * 262144) ?_ ?_ ?_
  · intro W l hk o x
    repeat (first | (refine zai rfl ?_; first | refine gdr (zaa (.inr rfl) rfl) ?_ | refine gdr (zae rfl rfl rfl rfl rfl) ?_ | refine gnk 1 rfl (zbg rfl rfl rfl rfl rfl rfl rfl) ?_) | (refine hK _ ?_; clear hK K) | refine zad rfl ?_ | refine zac (fun K hK => ?_))
    exact zas _ _ ⟨rfl, rfl, rfl, rfl, rfl, rfl, trivial⟩ ⟨rfl, rfl, rfl, rfl, rfl, rfl, rfl, rfl, trivial⟩ rfl
  · intro pre hpre
    rw [zn8 (fun x : Ie sz xs top => zhn rec (atM sz xs top x.1) lv (adr base x.1 lv))]
    have := zks (fun x : Ie sz xs top => zhn rec (atM sz xs top x.1) lv (adr base x.1 lv)) 262144 (fun x => zxf hrec _ _ _) pre
    have h3 : pre.length * 262144 ≤ 512 * 262144 := Nat.mul_le_mul_right _ (by omega)
    show 0 + _ ≤ 512 * 262144
    omega
  · intro W' l hk o x ho
    have hx := x.2.1
    have hU := zji hu sz top (x.1 : Int)
    have hp := zfh (xs := xs) sz top (x.1 : Int)
    have hA := zz2 base x.1 lv
    have hN := z08 hA
    have ho : o.1 ≤ 512 * 262144 := ho
    generalize hq : atM sz xs top (x.1 : Int) = q at hU hp ⊢
    have hmv : ∀ (S' : St) (n : Nat) (vs : List Value), EqT S' [] → EqB S' [(4, .live (.box [cu sz, .s xs.length 2 (fl xs)])), (6, .live (.box [ci lv])), (7, .live (.box [cu base])), (9, .live (.box [.o 55])), (55, .live (.row 94 8 n vs)), (1001, .live (.box [cu sz, .s xs.length 2 (fl xs)])), (1002, .live (.box [cu top]))] → Sub (cxR (Cx.of 57 W A GG hG) W' l τ0 ns0 hk) S' (St.of (ptT []) (bs0 sz xs top base lv (n, vs))) := fun S' n vs h1 h2 =>
      Sub.trans (zas [] _ h1 h2 rfl) (Sub.trans (zdj (b := 55) (b' := 1000) rfl rfl) (zas [] _ trivial ⟨rfl, rfl, rfl, rfl, rfl, rfl, rfl, trivial⟩ rfl))
    have hm3 : ∀ (S' : St) (n : Nat) (vs : List Value), EqT S' [] → EqB S' [(4, .live (.box [cu sz, .s xs.length 2 (fl xs)])), (6, .live (.box [ci lv])), (7, .live (.box [cu base])), (9, .live (.box [.o 33])), (33, .live (.row 94 8 n vs)), (1001, .live (.box [cu sz, .s xs.length 2 (fl xs)])), (1002, .live (.box [cu top]))] → Sub (cxR (Cx.of 57 W A GG hG) W' l τ0 ns0 hk) S' (St.of (ptT []) (bs0 sz xs top base lv (n, vs))) := fun S' n vs h1 h2 =>
      Sub.trans (zas [] _ h1 h2 rfl) (Sub.trans (zdj (b := 33) (b' := 1000) rfl rfl) (zas [] _ trivial ⟨rfl, rfl, rfl, rfl, rfl, rfl, rfl, trivial⟩ rfl))
    cases hbad : ze5 q lv with
    | true =>
      have hE : zhn rec q lv (adr base x.1 lv) = [] := by unfold zhn; rw [hbad]; rfl
      rw [hE]
      repeat (first | (refine zai rfl ?_; first | refine gdr (zaa (.inl rfl) rfl) ?_ | refine gnk 1 rfl (za2 tb rfl rfl rfl rfl rfl) ?_ | refine gdr (zaa (.inr rfl) rfl) ?_ | refine gdr (gar rfl rfl rfl rfl) ?_ | refine gdr (gcv rfl rfl rfl rfl rfl) ?_ | refine gdr (zab rfl rfl rfl (zfj lv h0 h2) rfl) ?_ | refine gdr (zab rfl rfl rfl (hbad ▸ zg3 q hU lv h0 h2) rfl) ?_) | (refine hK _ ?_; clear hK K) | refine zad rfl ?_ | refine za3 (by kernel_rfl) (by kernel_rfl) rfl ?_ | refine zal rfl rfl ?_ | refine zam ?_ | refine zaq ?_ | refine zac (fun K hK => ?_))
      rw [show flP [] = [] from rfl, List.append_nil]
      exact zas _ _ trivial ⟨rfl, rfl, rfl, rfl, rfl, rfl, rfl, trivial⟩ rfl
    | false =>
      cases hleaf : zb3 q with
      | true =>
        have hE : zhn rec q lv (adr base x.1 lv) = [pgOf q (adr base x.1 lv) lv] := by unfold zhn; rw [hbad, hleaf]; rfl
        rw [hE, zsm]
        repeat (first | (refine zai rfl ?_; first | refine gdr (zaa (.inl rfl) rfl) ?_ | refine gnk 1 rfl (za2 tb rfl rfl rfl rfl rfl) ?_ | refine gnx 1 rfl (zba tb rfl rfl rfl) rfl ?_ | refine gdr (zaa (.inr rfl) rfl) ?_ | refine gdr (gar rfl rfl rfl rfl) ?_ | refine gdr (gcv rfl rfl rfl rfl rfl) ?_ | refine gdr (zar rfl rfl rfl rfl) ?_ | refine gdr (zaz rfl rfl rfl rfl rfl rfl rfl rfl rfl rfl rfl) ?_ | refine gdr (zab rfl rfl rfl (zfj lv h0 h2) rfl) ?_ | refine gdr (zab rfl rfl rfl (hbad ▸ zg3 q hU lv h0 h2) rfl) ?_ | refine gdr (zab rfl rfl rfl (hleaf ▸ zhx q) rfl) ?_ | refine gdr (zab rfl rfl rfl (zw4 _ hA) rfl) ?_ | refine gdr (zab rfl rfl rfl (zzn _ hN) rfl) ?_ | refine gdr (zab rfl rfl rfl (zpe q) rfl) ?_) | (refine hK _ ?_; clear hK K) | refine zad rfl ?_ | refine za3 (by kernel_rfl) (by kernel_rfl) rfl ?_ | refine zal rfl rfl ?_ | refine zaj rfl rfl ?_ | refine zam ?_ | refine zac (fun K hK => ?_))
        refine zai rfl ?_
        refine zgz (zbh rfl rfl rfl rfl rfl rfl rfl rfl rfl rfl rfl rfl rfl (by omega)) (by kernel_rfl) ?_
        repeat (first | (refine zai rfl ?_; first | refine gnk 1 rfl (zbg rfl rfl rfl rfl rfl rfl rfl) ?_))
        exact hmv _ _ _ trivial ⟨rfl, rfl, rfl, rfl, rfl, rfl, rfl, trivial⟩
      | false =>
        have hlv : 1 ≤ lv := by
          rcases (by omega : lv = 0 ∨ 1 ≤ lv) with rfl | h
          · rw [zso hbad] at hleaf; cases hleaf
          · exact h
        have hE : zhn rec q lv (adr base x.1 lv) = rec q.ppn (adr base x.1 lv) := by unfold zhn; rw [hbad, hleaf]; rfl
        rw [hE]
        have hi := hIH hlv q.ppn (adr base x.1 lv) hp hA
        have hl := hrec q.ppn (adr base x.1 lv)
        have ha := zsn (rec q.ppn (adr base x.1 lv))
        repeat (first | (refine zai rfl ?_; first | refine gdr (zaa (.inl rfl) rfl) ?_ | refine gnk 1 rfl (za2 tb rfl rfl rfl rfl rfl) ?_ | refine gnx 1 rfl (zba tb rfl rfl rfl) rfl ?_ | refine gdr (zaa (.inr rfl) rfl) ?_ | refine gdr (gar rfl rfl rfl rfl) ?_ | refine gdr (gcv rfl rfl rfl rfl rfl) ?_ | refine gnk 1 rfl (zbg rfl rfl rfl rfl rfl rfl rfl) ?_ | refine gdr (zab rfl rfl rfl (zfj lv h0 h2) rfl) ?_ | refine gdr (zab rfl rfl rfl (hbad ▸ zg3 q hU lv h0 h2) rfl) ?_ | refine gdr (zab rfl rfl rfl (hleaf ▸ zhx q) rfl) ?_ | refine gdr (zab rfl rfl rfl (hi) rfl) ?_ | refine gdr (zbh rfl rfl rfl rfl rfl rfl rfl rfl rfl rfl rfl rfl ha (by omega)) ?_) | (refine hK _ ?_; clear hK K) | refine zad rfl ?_ | refine za3 (by kernel_rfl) (by kernel_rfl) rfl ?_ | refine zaj rfl rfl ?_ | refine zam ?_ | refine zac (fun K hK => ?_))
        exact hm3 _ _ _ trivial ⟨rfl, rfl, rfl, rfl, rfl, rfl, rfl, trivial⟩
  · intro D ys W hD hys hI hK
    have hfold : ys.foldl (fun (p : Nat × List Value) (x : Ie sz xs top) => (p.1 + (zhn rec (atM sz xs top x.1) lv (adr base x.1 lv)).length, p.2 ++ flP (zhn rec (atM sz xs top x.1) lv (adr base x.1 lv)))) (0, []) = (L.length, flP L) := by
      rw [zn8 (fun x : Ie sz xs top => zhn rec (atM sz xs top x.1) lv (adr base x.1 lv))]
      have e : ys.flatMap (fun x : Ie sz xs top => zhn rec (atM sz xs top x.1) lv (adr base x.1 lv)) = L := by
        rw [hL, ← zn7 (sz := sz) (xs := xs) (f := top) _ (fun i hi => ?_), ← hys, List.flatMap_map]
        have : zb6 sz xs (top * 4096 + (i : Int) * 8) = 0 := by unfold nzB at hi; simpa using hi
        unfold zhn atM
        rw [this, zuu, if_pos rfl]
      rw [e, Nat.zero_add, List.nil_append]
    rw [hfold] at hI
    obtain ⟨τ1, s1⟩ := hI
    have s2 : SimT (Cx.of 57 _ A GG hG) (St.of (ptT ts0) (bs0 sz xs top base lv (L.length, flP L))) τ1 a W := ⟨s1.size, s1.nodef, s1.bel, s1.tm, s1.hp, s1.own, s1.sep, s1.one, fun p hp => by cases hp⟩
    refine zj2 (t := 8) rfl (by decide) rfl s2 (Nat.le_trans s.bel.size hD) hK (fun hk hD => ?_)
    repeat (first | (refine zai rfl ?_; first | refine gnk 1 rfl (za2 tb rfl rfl rfl rfl rfl) ?_ | refine gdr (zaa (.inr rfl) rfl) ?_) | (refine hK _ ?_; clear hK K) | refine zad rfl ?_ | refine zac (fun K hK => ?_))
    exact zao ⟨.inr rfl, _, rfl, rfl⟩
end Go.Proofs.YtmkjfeamgknpfaaGreatDoor.LaC
namespace Go.Proofs.YtmkjfeamgknpfaaGreatDoor.LaB
open Go.RowKit Bv VaSpec Base MemL RegR Ax MemC PutC MemC3 TzC OkS SpA SpB SpC LaA
open BitsC PteSpec
set_option maxRecDepth 10000
set_option maxHeartbeats 1000000
theorem zg7 (b : Bool) (e : Int) : Ok 68 [ib b, ii e] (.m (ii (if b then 0 else e))) := by
  cases b with
  | true =>
    refine zaf 7 Tryz.func68 rfl rfl rfl rfl ?_ GG.to
    intro W A hG
    repeat (first | (refine zai rfl ?_; first | refine gdr (zaa (.inl rfl) rfl) ?_ | refine gdr (zaa (.inr rfl) rfl) ?_) | (refine hK _ ?_; clear hK K) | refine zad rfl ?_ | exact zao (show za6 _ _ _ = some _ by kernel_rfl) | refine zal rfl rfl ?_ | refine zac (fun K hK => ?_))
  | false =>
    refine zaf 7 Tryz.func68 rfl rfl rfl rfl ?_ GG.to
    intro W A hG
    repeat (first | (refine zai rfl ?_; first | refine gdr (zaa (.inl rfl) rfl) ?_ | refine gdr (zaa (.inr rfl) rfl) ?_) | (refine hK _ ?_; clear hK K) | refine zad rfl ?_ | exact zao (show za6 _ _ _ = some _ by kernel_rfl) | refine zaj rfl rfl ?_ | refine zaq ?_ | refine zac (fun K hK => ?_))
structure Pm where
  r : Bool
  w : Bool
  x : Bool
  u : Bool
deriving DecidableEq
def Pm.ce (p : Pm) : List Ce := [cb p.r, cb p.w, cb p.x, cb p.u]
def zmm (p : Pm) : Bool := (p.r || p.x) && (p.r || !p.w)
theorem zxg (p : Pm) : Ok 64 [.ag p.ce] (.m (ib (zmm p))) := by
  obtain ⟨r, w, x, u⟩ := p
  cases r <;> cases w <;> cases x
  all_goals
    refine zaf 18 Tryz.func64 rfl rfl rfl rfl ?_ GG.to
    intro W A hG
    repeat (first | (refine zai rfl ?_; first | refine gdr (zaw rfl) ?_ | refine gdr (zaa (.inl rfl) rfl) ?_ | refine gnk 1 rfl (za2 tb rfl rfl rfl rfl rfl) ?_ | refine gnx 1 rfl (zba tb rfl rfl rfl) rfl ?_ | refine gdr (zaa (.inr rfl) rfl) ?_ | refine gdr (zak rfl rfl rfl) ?_ | refine gdr (zag rfl rfl rfl rfl rfl rfl) ?_ | refine gdr (zau rfl rfl rfl) ?_) | (refine hK _ ?_; clear hK K) | refine zad rfl ?_ | exact zao (show za6 _ _ _ = some _ by kernel_rfl) | refine zac (fun K hK => ?_))
def mkP (n : Int) (p : Pm) (g : Bool) : Pte := ⟨true, p.r, p.w, p.x, p.u, g, false, false, 0, n, 0⟩
theorem zpf (n : Int) (p : Pm) (g : Bool) : Ok 74 [iu n, .ag p.ce, ib g] (.m (.ag (mkP n p g).ce)) := by
  refine zaf 18 Tryz.func74 rfl rfl rfl rfl ?_ GG.to
  intro W A hG
  repeat (first | (refine zai rfl ?_; first | refine gdr (zaa (.inl rfl) rfl) ?_ | refine gnk 1 rfl (za2 tb rfl rfl rfl rfl rfl) ?_ | refine gnx 1 rfl (zba tb rfl rfl rfl) rfl ?_ | refine gdr (zag rfl rfl rfl rfl rfl rfl) ?_ | refine gdr (zae rfl rfl rfl rfl rfl) ?_ | refine gnk 1 rfl (zbg rfl rfl rfl rfl rfl rfl rfl) ?_ | refine gdr (zar rfl rfl rfl rfl) ?_) | (refine hK _ ?_; clear hK K) | refine zad rfl ?_ | exact zao (show za6 _ _ _ = some _ by kernel_rfl) | refine zac (fun K hK => ?_))
def spB (n : Nat) (cs : List Ce) : Ln := (n, cs, cs)
theorem zxh (pa sz : Int) (hp : U pa) (hz : U sz) : zck Tryz.prog GG 69 [spB 2000 [cu pa], spB 2001 [cu sz]] [.c (.p 2000 0), .c (.p 2001 0)] (.m (ii (if ze4 pa sz then 0 else 2))) := by
  refine zcd 7 Tryz.func69 rfl rfl rfl rfl rfl ?_
  intro W A τ hG
  repeat (first | (refine zai rfl ?_; first | refine gnk 1 rfl (za2 tb rfl rfl rfl rfl rfl) ?_ | refine gdr (zaa (.inr rfl) rfl) ?_ | refine gdr (zab rfl rfl rfl (zw3 pa sz hp hz) rfl) ?_ | refine gdr (zab rfl rfl rfl (zg7 _ _) rfl) ?_) | (refine hK _ ?_; clear hK K) | refine zad rfl ?_ | refine zac (fun K hK => ?_) | refine zao (show za6 _ _ _ = some _ ∧ EndB _ _ from ⟨by kernel_rfl, ?_⟩))
  exact ⟨⟨_, rfl, rfl⟩, ⟨_, rfl, rfl⟩, trivial⟩
def inD (pa d sz : Int) : Bool := decide (pa < d) && decide (sz ≤ d - pa)
theorem zxi (pa d sz : Int) (hp : U pa) (hd : U d) (hz : U sz) : zck Tryz.prog GG 71 [spB 2000 [cu pa], spB 2001 [cu d], spB 2002 [cu sz]] [.c (.p 2000 0), .c (.p 2001 0), .c (.p 2002 0)] (.m (ii (if inD pa d sz then 0 else 3))) := by
  obtain ⟨p0, p1⟩ := hp
  obtain ⟨d0, d1⟩ := hd
  obtain ⟨z0, z1⟩ := hz
  by_cases h : pa < d
  · by_cases h2 : sz ≤ d - pa
    · rw [show inD pa d sz = true by unfold inD; rw [decide_eq_true h, decide_eq_true h2]; rfl]
      refine zcd 15 Tryz.func71 rfl rfl rfl rfl rfl ?_
      intro W A τ hG
      repeat (first | (refine zai rfl ?_; first | refine gdr (zaa (.inl rfl) rfl) ?_ | refine gnk 1 rfl (za2 tb rfl rfl rfl rfl rfl) ?_ | refine gdr (zaa (.inr rfl) rfl) ?_ | refine gdr (zak rfl rfl rfl) ?_ | refine gdr (za5 rfl rfl rfl rfl) ?_ | refine gdr (gar rfl rfl rfl rfl) ?_ | refine gdr (zab rfl rfl rfl (zg7 _ _) rfl) ?_) | (refine hK _ ?_; clear hK K) | refine zad rfl ?_ | refine zac (fun K hK => ?_) | refine zao (show za6 _ _ _ = some _ ∧ EndB _ _ from ⟨by kernel_rfl, ?_⟩))
      exact ⟨⟨_, rfl, rfl⟩, ⟨_, rfl, rfl⟩, ⟨_, rfl, rfl⟩, trivial⟩
    · rw [show inD pa d sz = false by unfold inD; rw [decide_eq_true h, decide_eq_false h2]; rfl]
      refine zcd 15 Tryz.func71 rfl rfl rfl rfl rfl ?_
      intro W A τ hG
      repeat (first | (refine zai rfl ?_; first | refine gdr (zaa (.inl rfl) rfl) ?_ | refine gnk 1 rfl (za2 tb rfl rfl rfl rfl rfl) ?_ | refine gdr (zaa (.inr rfl) rfl) ?_ | refine gdr (zak rfl rfl rfl) ?_ | refine gdr (za5 rfl rfl rfl rfl) ?_ | refine gdr (gar rfl rfl rfl rfl) ?_ | refine gdr (zab rfl rfl rfl (zg7 _ _) rfl) ?_) | (refine hK _ ?_; clear hK K) | refine zad rfl ?_ | refine zac (fun K hK => ?_) | refine zao (show za6 _ _ _ = some _ ∧ EndB _ _ from ⟨by kernel_rfl, ?_⟩))
      exact ⟨⟨_, rfl, rfl⟩, ⟨_, rfl, rfl⟩, ⟨_, rfl, rfl⟩, trivial⟩
  · rw [show inD pa d sz = false by unfold inD; rw [decide_eq_false h]; rfl]
    refine zcd 15 Tryz.func71 rfl rfl rfl rfl rfl ?_
    intro W A τ hG
    repeat (first | (refine zai rfl ?_; first | refine gdr (zaw rfl) ?_ | refine gdr (zaa (.inl rfl) rfl) ?_ | refine gnk 1 rfl (za2 tb rfl rfl rfl rfl rfl) ?_ | refine gdr (zaa (.inr rfl) rfl) ?_ | refine gdr (zak rfl rfl rfl) ?_ | refine gdr (za5 rfl rfl rfl rfl) ?_ | refine gdr (zab rfl rfl rfl (zg7 _ _) rfl) ?_) | (refine hK _ ?_; clear hK K) | refine zad rfl ?_ | refine zac (fun K hK => ?_) | refine zao (show za6 _ _ _ = some _ ∧ EndB _ _ from ⟨by kernel_rfl, ?_⟩))
    exact ⟨⟨_, rfl, rfl⟩, ⟨_, rfl, rfl⟩, ⟨_, rfl, rfl⟩, trivial⟩
theorem zxj (p : Pm) : zck Tryz.prog GG 72 [spB 2000 p.ce] [.c (.p 2000 0)] (.m (ii (if zmm p then 0 else 5))) := by
  refine zcd 5 Tryz.func72 rfl rfl rfl rfl rfl ?_
  intro W A τ hG
  repeat (first | (refine zai rfl ?_; first | refine gnk 1 rfl (za2 tb rfl rfl rfl rfl rfl) ?_ | refine gdr (zaa (.inr rfl) rfl) ?_ | refine gdr (zab rfl rfl rfl (zxg p) rfl) ?_ | refine gdr (zab rfl rfl rfl (zg7 _ _) rfl) ?_) | (refine hK _ ?_; clear hK K) | refine zad rfl ?_ | refine zac (fun K hK => ?_) | refine zao (show za6 _ _ _ = some _ ∧ EndB _ _ from ⟨by kernel_rfl, ?_⟩))
  exact ⟨⟨_, rfl, rfl⟩, trivial⟩
structure MOk (k : Kr) : Prop where
  s : Srt k.m
  u : Uw k.m
theorem zxk (k : Kr) (top lv addr zax : Int) (hk : MOk k) (ht : 0 ≤ top ∧ top < 17592186044416) (ha : U addr) (h0 : 0 ≤ lv) (h2 : lv ≤ 2) (hw : 0 ≤ zax) :
    zck Tryz.prog GG 67 [spB 2000 k.ce, spB 2001 [cu top], spB 2002 [ci lv], spB 2003 [cu addr], spB 2004 [ci zax]] [.c (.p 2000 0), .c (.p 2001 0), .c (.p 2002 0), .c (.p 2003 0), .c (.p 2004 0)]
      (.m (ii (if !(atM k.sz k.m (zcg k.sz k.m addr zax lv top).1 (idx addr (zcg k.sz k.m addr zax lv top).2)).v then 0 else 6))) := by
  refine zcd 19 Tryz.func67 rfl rfl rfl rfl rfl ?_
  intro W A τ hG
  repeat (first | (refine zai rfl ?_; first | refine gnk 1 rfl (za2 tb rfl rfl rfl rfl rfl) ?_ | refine gnx 1 rfl (zba tb rfl rfl rfl) rfl ?_ | refine gdr (zaa (.inr rfl) rfl) ?_ | refine gdr (zae rfl rfl rfl rfl rfl) ?_ | refine gnk 1 rfl (zbg rfl rfl rfl rfl rfl rfl rfl) ?_ | refine gdr (zau rfl rfl rfl) ?_ | refine gdr (zab rfl rfl rfl (zfv k.sz k.m top lv addr zax ht ha h0 h2 hw hk.s hk.u) rfl) ?_ | refine gdr (zab rfl rfl rfl (zg7 _ _) rfl) ?_) | (refine hK _ ?_; clear hK K) | refine zad rfl ?_ | refine zac (fun K hK => ?_) | refine zao (show za6 _ _ _ = some _ ∧ EndB _ _ from ⟨by kernel_rfl, ?_⟩))
  exact ⟨⟨_, rfl, rfl⟩, ⟨_, rfl, rfl⟩, ⟨_, rfl, rfl⟩, ⟨_, rfl, rfl⟩, ⟨_, rfl, rfl⟩, trivial⟩
end Go.Proofs.YtmkjfeamgknpfaaGreatDoor.LaB
namespace Go.Proofs.YtmkjfeamgknpfaaGreatDoor.SpG
open Go.RowKit Bv VaSpec Base MemL RegR Ax MemC PutC MemC3 TzC OkS SpA SpB SpC SpD IterC SpE SpF
open BitsC PteSpec
set_option maxRecDepth 10000
set_option maxHeartbeats 800000
attribute [local irreducible] Ax.zb4
theorem zn9 (k : Kr) (h : 32 ≤ k.ss.length) (hb : k.ss.length ≤ 1000) : Ok 33 [.ag k.ce] (.tu [.ag k.ce, ii 0, ii 1]) := by
  refine zaf 78 Tryz.func33 rfl rfl rfl rfl ?_ GG.to
  intro W A hG
  repeat (first | (refine zai rfl ?_; first | refine gnk 1 rfl (za2 tb rfl rfl rfl rfl rfl) ?_ | refine gnx 1 rfl (zba tb rfl rfl rfl) rfl ?_ | refine gdr (zaa (.inr rfl) rfl) ?_ | refine gdr (za5 rfl rfl rfl rfl) ?_ | refine gdr (zag rfl rfl rfl rfl rfl rfl) ?_ | refine gdr (zae rfl rfl rfl rfl rfl) ?_ | refine gnk 1 rfl (zbg rfl rfl rfl rfl rfl rfl rfl) ?_ | refine gdr (zah rfl rfl rfl rfl) ?_) | (refine hK _ ?_; clear hK K) | refine zad rfl ?_ | exact zao (show za6 _ _ _ = some _ by kernel_rfl) | refine zal rfl rfl ?_ | refine zac (fun K hK => ?_))
theorem zkt (k : Kr) (h : k.ss.length < 32) (h0 : k.af = 0) : Ok 33 [.ag k.ce] (.tu [.ag k.ce, ii 0, ii 9]) := by
  refine zaf 78 Tryz.func33 rfl rfl rfl rfl ?_ GG.to
  intro W A hG
  have ht : Ok 84 [.ag [ci k.am, cu k.af, cu k.ao]] (.tu [.ag [ci k.am, cu k.af, cu k.ao], iu 0, ib false, ii 9]) := by rw [h0]; exact zuo k.am k.ao
  repeat (first | (refine zai rfl ?_; first | refine gdr (zaa (.inl rfl) rfl) ?_ | refine gnk 1 rfl (za2 tb rfl rfl rfl rfl rfl) ?_ | refine gnx 1 rfl (zba tb rfl rfl rfl) rfl ?_ | refine gdr (zaa (.inr rfl) rfl) ?_ | refine gdr (zan rfl rfl rfl rfl) ?_ | refine gdr (za5 rfl rfl rfl rfl) ?_ | refine gdr (zag rfl rfl rfl rfl rfl rfl) ?_ | refine gdr (zae rfl rfl rfl rfl rfl) ?_ | refine gnk 1 rfl (zbg rfl rfl rfl rfl rfl rfl rfl) ?_ | refine gdr (zah rfl rfl rfl rfl) ?_ | refine gdr (zab rfl rfl rfl (ht) (by kernel_rfl)) ?_) | (refine hK _ ?_; clear hK K) | refine zad rfl ?_ | exact zao (show za6 _ _ _ = some _ by kernel_rfl) | refine zal rfl rfl ?_ | refine zaj rfl rfl ?_ | refine zaq ?_ | refine zac (fun K hK => ?_))
def gP (n : Int) : Pte := ⟨true, false, false, false, false, true, false, false, 0, n, 0⟩
noncomputable def zm4 (k : Kr) : List (Int × Int) := zbw k.sz (TableC.za7 k.m (k.pb + tzI k.pf)) (k.pb + tzI k.pf) (idx kA 2) (gP k.sh)
theorem zmn (k : Kr) (h : k.ss.length < 32) (haf : U k.af) (hao : U k.ao) (h0 : k.af ≠ 0) (hpf : U k.pf) (hp0 : k.pf ≠ 0) (hb : 0 ≤ k.pb ∧ k.pb ≤ 268435456) (hpm : 0 ≤ k.pm ∧ k.pm ≤ 64) (hm : Srt k.m) (hbig : (k.m.length + 1) * 32 ≤ 140737488355328)
    (hP : (gP k.sh).U) (hm1 : Srt (TableC.za7 k.m (k.pb + tzI k.pf))) (hu1 : Uw (TableC.za7 k.m (k.pb + tzI k.pf))) (hbig1 : ((TableC.za7 k.m (k.pb + tzI k.pf)).length + 1) * 16 ≤ 140737488355328) (hown : (zdt k.ao (tzI k.af) 1 == 1) = false) (hr : 0 ≤ k.pb + tzI k.pf ∧ k.pb + tzI k.pf < 1099511627776)
    : Ok 33 [.ag k.ce] (.tu [.ag (({ k with m := zm4 k, pf := zbq k.pf (tzI k.pf) 1 0, af := zf3 k.af, ao := zf4 k.af k.ao } : Kr).raw k.tn k.ts (k.ss.length + 1) (flS k.ss ++ (⟨k.pb + tzI k.pf, tzI k.af + 1, true⟩ : Sp).vs) k.fs.length (flF k.fs)), ii k.ss.length, ii 0]) := by
  refine zaf 78 Tryz.func33 rfl rfl rfl rfl ?_ GG.to
  intro W A hG
  have ht := zhw k.am k.af k.ao haf hao h0
  rw [hown] at ht
  have hf := zfu k.sz k.m k.pb k.pm k.pf hb hpm hpf hp0 hm hbig
  have hw := zeb k.sz (TableC.za7 k.m (k.pb + tzI k.pf)) (k.pb + tzI k.pf) 2 zP kA (gP k.sh) kA_U hP (by omega) (by omega) hr hm1 hu1 (by omega)
  have hcc : ∀ (W : World) (vb : Nat) (v1 v2 : Value), GG W → Bx W vb #[v1, v2] → Sl W v1 k.ss.length 3 (flS k.ss) → Sl W v2 1 3 (⟨k.pb + tzI k.pf, tzI k.af + 1, true⟩ : Sp).vs → Calls Tryz.prog 86 #[.slice (some ⟨vb, 0, none⟩) 2 2] W fun e w' => ∃ v', e = .returned v' ∧ w'.ownsRow W.heap.size 92 3 v' (k.ss.length + 1) (flS k.ss ++ (⟨k.pb + tzI k.pf, tzI k.af + 1, true⟩ : Sp).vs) ∧ Below W.heap.size W w' :=
    fun W vb v1 v2 _ h1 h2 h3 => ConcatSpace.concat_calls vb v1 v2 _ _ _ _ W h1 h2 h3 (flS_one _) (fun u hu => List.all_eq_true.1 (show (⟨k.pb + tzI k.pf, tzI k.af + 1, true⟩ : Sp).vs.all (·.oneCell') = true from rfl) u hu) (by omega)
  repeat (first | (refine zai rfl ?_; first | refine gdr (zaa (.inl rfl) rfl) ?_ | refine gnk 1 rfl (za2 tb rfl rfl rfl rfl rfl) ?_ | refine gnx 1 rfl (zba tb rfl rfl rfl) rfl ?_ | refine gdr (zaa (.inr rfl) rfl) ?_ | refine gdr (zan rfl rfl rfl rfl) ?_ | refine gdr (za5 rfl rfl rfl rfl) ?_ | refine gdr (zag rfl rfl rfl rfl rfl rfl) ?_ | refine gdr (zae rfl rfl rfl rfl rfl) ?_ | refine gnk 1 rfl (zbg rfl rfl rfl rfl rfl rfl rfl) ?_ | refine gdr (zah rfl rfl rfl rfl) ?_ | refine gdr (zar rfl rfl rfl rfl) ?_ | refine gdr (zaz rfl rfl rfl rfl rfl rfl rfl rfl rfl rfl rfl) ?_ | refine gdr (zab rfl rfl rfl (ht) (by kernel_rfl)) ?_ | refine gdr (zab rfl rfl rfl (hf) (by kernel_rfl)) ?_ | refine gdr (zab rfl rfl rfl (zmi) (by kernel_rfl)) ?_ | refine gdr (zab rfl rfl rfl (hw) (by kernel_rfl)) ?_ | refine gdr (zfb rfl rfl rfl rfl rfl rfl (by kernel_rfl) rfl rfl rfl) ?_ | refine gdr (zhi rfl rfl rfl rfl rfl (by kernel_rfl) (by kernel_rfl) hcc) ?_) | (refine hK _ ?_; clear hK K) | refine zad rfl ?_ | refine za3 (by kernel_rfl) (by kernel_rfl) rfl ?_ | exact zao (show za6 _ _ _ = some _ by kernel_rfl) | refine zaj rfl rfl ?_ | refine zaq ?_ | refine zac (fun K hK => ?_))
theorem zhy {P : Program} {G : World → Prop} {f : FuncId} {l l2 : List Cm} {r : AV} (e : l = l2) (h : zb4 P G f l2 r) : zb4 P G f l r := e ▸ h
def aFe (n : Int) : Fe := ⟨false, 0, true, n⟩
noncomputable def zbn (k : Kr) : Kr := { k with m := zm4 k, pf := zbq k.pf (tzI k.pf) 1 0, af := zf3 k.af, ao := zf4 k.af k.ao, ss := k.ss ++ [⟨k.pb + tzI k.pf, tzI k.af + 1, true⟩] }
theorem zfx (k : Kr) : (zbn k).ce = (({ k with m := zm4 k, pf := zbq k.pf (tzI k.pf) 1 0, af := zf3 k.af, ao := zf4 k.af k.ao } : Kr).raw k.tn k.ts (k.ss.length + 1) (flS k.ss ++ (⟨k.pb + tzI k.pf, tzI k.af + 1, true⟩ : Sp).vs) k.fs.length (flF k.fs)) := by
  simp [zbn, Kr.ce, Kr.raw, flS]
end Go.Proofs.YtmkjfeamgknpfaaGreatDoor.SpG
namespace Go.Proofs.YtmkjfeamgknpfaaGreatDoor.SpH
open Go.RowKit Bv VaSpec Base MemL RegR Ax MemC PutC MemC3 TzC OkS SpA SpB SpC SpD IterC SpE SpF SpG
open BitsC PteSpec
set_option maxRecDepth 10000
set_option maxHeartbeats 800000
attribute [local irreducible] Ax.zb4
theorem zmo (k : Kr) (h : k.ss.length < 32) (haf : U k.af) (hao : U k.ao) (h0 : k.af ≠ 0) (hpf : U k.pf) (hp0 : k.pf ≠ 0) (hb : 0 ≤ k.pb ∧ k.pb ≤ 268435456) (hpm : 0 ≤ k.pm ∧ k.pm ≤ 64) (hm : Srt k.m) (hbig : (k.m.length + 1) * 32 ≤ 140737488355328)
    (hP : (gP k.sh).U) (hm1 : Srt (TableC.za7 k.m (k.pb + tzI k.pf))) (hu1 : Uw (TableC.za7 k.m (k.pb + tzI k.pf))) (hbig1 : ((TableC.za7 k.m (k.pb + tzI k.pf)).length + 1) * 16 ≤ 140737488355328) (hown : (zdt k.ao (tzI k.af) 1 == 1) = true) (hts : k.ts = zsL k.tn) (htn : k.tn ≤ 16) (hfs : k.fs.length ≤ 1000000) (hr : 0 ≤ k.pb + tzI k.pf ∧ k.pb + tzI k.pf < 1099511627776)
    : Ok 33 [.ag k.ce] (.tu [.ag (zdy (zbn k) [aFe (tzI k.af + 1)]).ce, ii k.ss.length, ii 0]) := by
  refine zaf 78 Tryz.func33 rfl rfl rfl rfl ?_ GG.to
  intro W A hG
  have ht := zhw k.am k.af k.ao haf hao h0
  rw [hown] at ht
  have hf := zfu k.sz k.m k.pb k.pm k.pf hb hpm hpf hp0 hm hbig
  have hw := zeb k.sz (TableC.za7 k.m (k.pb + tzI k.pf)) (k.pb + tzI k.pf) 2 zP kA (gP k.sh) kA_U hP (by omega) (by omega) hr hm1 hu1 (by omega)
  have hs : Ok 55 [.ag (({ k with m := zm4 k, pf := zbq k.pf (tzI k.pf) 1 0, af := zf3 k.af, ao := zf4 k.af k.ao } : Kr).raw k.tn k.ts (k.ss.length + 1) (flS k.ss ++ (⟨k.pb + tzI k.pf, tzI k.af + 1, true⟩ : Sp).vs) k.fs.length (flF k.fs)), .c (.s 1 4 (flF [aFe (tzI k.af + 1)]))] (.m (.ag (zdy (zbn k) [aFe (tzI k.af + 1)]).ce)) := by
    rw [← zfx]
    exact zmh (zbn k) hts htn [aFe (tzI k.af + 1)] (fun f hf => by simp at hf; subst hf; exact ⟨by show (0 : Int) ≤ 0; omega, by show (0 : Int) < 18446744073709551616; omega⟩) (by simp) hfs
  have hfa := zko (tzI k.af + 1)
  have hcc : ∀ (W : World) (vb : Nat) (v1 v2 : Value), GG W → Bx W vb #[v1, v2] → Sl W v1 k.ss.length 3 (flS k.ss) → Sl W v2 1 3 (⟨k.pb + tzI k.pf, tzI k.af + 1, true⟩ : Sp).vs → Calls Tryz.prog 86 #[.slice (some ⟨vb, 0, none⟩) 2 2] W fun e w' => ∃ v', e = .returned v' ∧ w'.ownsRow W.heap.size 92 3 v' (k.ss.length + 1) (flS k.ss ++ (⟨k.pb + tzI k.pf, tzI k.af + 1, true⟩ : Sp).vs) ∧ Below W.heap.size W w' :=
    fun W vb v1 v2 _ h1 h2 h3 => ConcatSpace.concat_calls vb v1 v2 _ _ _ _ W h1 h2 h3 (flS_one _) (fun u hu => List.all_eq_true.1 (show (⟨k.pb + tzI k.pf, tzI k.af + 1, true⟩ : Sp).vs.all (·.oneCell') = true from rfl) u hu) (by omega)
  repeat (first | (refine zai rfl ?_; first | refine gdr (zaa (.inl rfl) rfl) ?_ | refine gnk 1 rfl (za2 tb rfl rfl rfl rfl rfl) ?_ | refine gnx 1 rfl (zba tb rfl rfl rfl) rfl ?_ | refine gdr (zaa (.inr rfl) rfl) ?_ | refine gdr (zan rfl rfl rfl rfl) ?_ | refine gdr (za5 rfl rfl rfl rfl) ?_ | refine gdr (zag rfl rfl rfl rfl rfl rfl) ?_ | refine gdr (zae rfl rfl rfl rfl rfl) ?_ | refine gnk 1 rfl (zbg rfl rfl rfl rfl rfl rfl rfl) ?_ | refine gdr (zah rfl rfl rfl rfl) ?_ | refine gdr (zar rfl rfl rfl rfl) ?_ | refine gdr (zaz rfl rfl rfl rfl rfl rfl rfl rfl rfl rfl rfl) ?_ | refine gdr (zab rfl rfl rfl (hfa) (by kernel_rfl)) ?_ | refine gdr (zab rfl rfl rfl (ht) (by kernel_rfl)) ?_ | refine gdr (zab rfl rfl rfl (hf) (by kernel_rfl)) ?_ | refine gdr (zab rfl rfl rfl (zmi) (by kernel_rfl)) ?_ | refine gdr (zab rfl rfl rfl (hw) (by kernel_rfl)) ?_ | refine gdr (zfb rfl rfl rfl rfl rfl rfl (by kernel_rfl) rfl rfl rfl) ?_ | refine gdr (zhi rfl rfl rfl rfl rfl (by kernel_rfl) (by kernel_rfl) hcc) ?_) | (refine hK _ ?_; clear hK K) | refine zad rfl ?_ | refine za3 (by kernel_rfl) (by kernel_rfl) rfl ?_ | refine zal rfl rfl ?_ | refine zaj rfl rfl ?_ | refine zaq ?_ | refine zac (fun K hK => ?_))
  refine zai rfl ?_
  refine zgz (zd5 (b := 72) (l := [.ag (({ k with m := zm4 k, pf := zbq k.pf (tzI k.pf) 1 0, af := zf3 k.af, ao := zf4 k.af k.ao } : Kr).raw k.tn k.ts (k.ss.length + 1) (flS k.ss ++ (⟨k.pb + tzI k.pf, tzI k.af + 1, true⟩ : Sp).vs) k.fs.length (flF k.fs)), .c (.o 72)]) rfl rfl rfl (by kernel_rfl) rfl (by kernel_rfl) (zhy (by kernel_rfl) hs)) (by kernel_rfl) ?_
  refine zai rfl ?_
  refine zgz (zgh rfl rfl rfl rfl rfl rfl (by kernel_rfl) rfl) (by kernel_rfl) ?_
  first
    | (refine hK _ ?_; clear hK K)
    | (rename_i K1 hK1; refine hK1 _ ?_; clear hK hK1; clear K)
    | (rename_i K1 hK1; refine hK1 _ ?_; clear hK1)
  refine zd4 (zas [(1, .m (.c (.p 1 0))), (2, .m (.c (.p 2 0))), (5, .m (.c (.p 5 0)))] [(1, .live (.box k.ce)), (2, .live (.box zK)), (5, .live (.box (zdy (zbn k) [aFe (tzI k.af + 1)]).ce))] ⟨by kernel_rfl, by kernel_rfl, by kernel_rfl, trivial⟩ ⟨by kernel_rfl, by kernel_rfl, by kernel_rfl, trivial⟩ (by kernel_rfl)) ?_
  repeat (first | (refine zai rfl ?_; first | refine gnk 1 rfl (za2 tb rfl rfl rfl rfl rfl) ?_ | refine gnx 1 rfl (zba tb rfl rfl rfl) rfl ?_ | refine gdr (zaa (.inr rfl) rfl) ?_ | refine gnk 1 rfl (zbg rfl rfl rfl rfl rfl rfl rfl) ?_ | refine gdr (zah rfl rfl rfl rfl) ?_) | (refine hK _ ?_; clear hK K) | refine za3 (by kernel_rfl) (by kernel_rfl) rfl ?_ | exact zao (show za6 _ _ _ = some _ by kernel_rfl) | refine zac (fun K hK => ?_))
theorem zg8 (sz : Int) (xs : List (Int × Int)) (base many : Int) (hb : 0 ≤ base ∧ base ≤ 268435456) (hm : 0 ≤ many ∧ many ≤ 64) :
    Ok 80 [zbz sz xs, .ag [cu base, ci many, cu 0]] (.tu [zbz sz xs, .ag [cu base, ci many, cu 0], iu 0, ii 8]) :=
  zcj rfl fun A W vs hG hR => by
    obtain ⟨v1, v2, rfl, h1, h2⟩ := zuj hR
    obtain ⟨u, rfl, hu'⟩ := zf9 h1
    obtain rfl := zki (xs := [.int .u64 base, .int .i64 many, .int .u64 0]) h2
    obtain ⟨a, c, rfl⟩ := zub hu'.1
    refine (TableC4.zqg sz a _ c base many W hb hm hG.t).mono ?_
    rintro e w' ⟨rfl, hb'⟩
    exact ⟨_, rfl, hb', _, rfl, zgm (zza hu' hb'), ⟨_, rfl, rfl, rfl, rfl, trivial⟩, rfl, rfl, trivial⟩
theorem zjk (k : Kr) (h : k.ss.length < 32) (haf : U k.af) (hao : U k.ao) (h0 : k.af ≠ 0) (hp0 : k.pf = 0) (hb : 0 ≤ k.pb ∧ k.pb ≤ 268435456) (hpm : 0 ≤ k.pm ∧ k.pm ≤ 64)
    : Ok 33 [.ag k.ce] (.tu [.ag k.ce, ii 0, ii 8]) := by
  have hf : Ok 80 [zbz k.sz k.m, .ag [cu k.pb, ci k.pm, cu k.pf]] (.tu [zbz k.sz k.m, .ag [cu k.pb, ci k.pm, cu k.pf], iu 0, ii 8]) := by rw [hp0]; exact zg8 k.sz k.m k.pb k.pm hb hpm
  cases hown : (zdt k.ao (tzI k.af) 1 == 1) with
  | false =>
    refine zaf 78 Tryz.func33 rfl rfl rfl rfl ?_ GG.to
    intro W A hG
    have ht := zhw k.am k.af k.ao haf hao h0
    rw [hown] at ht
    repeat (first | (refine zai rfl ?_; first | refine gdr (zaa (.inl rfl) rfl) ?_ | refine gnk 1 rfl (za2 tb rfl rfl rfl rfl rfl) ?_ | refine gnx 1 rfl (zba tb rfl rfl rfl) rfl ?_ | refine gdr (zaa (.inr rfl) rfl) ?_ | refine gdr (zan rfl rfl rfl rfl) ?_ | refine gdr (za5 rfl rfl rfl rfl) ?_ | refine gdr (zag rfl rfl rfl rfl rfl rfl) ?_ | refine gdr (zae rfl rfl rfl rfl rfl) ?_ | refine gnk 1 rfl (zbg rfl rfl rfl rfl rfl rfl rfl) ?_ | refine gdr (zah rfl rfl rfl rfl) ?_ | refine gdr (zab rfl rfl rfl (ht) (by kernel_rfl)) ?_ | refine gdr (zab rfl rfl rfl (hf) (by kernel_rfl)) ?_) | (refine hK _ ?_; clear hK K) | refine zad rfl ?_ | exact zao (show za6 _ _ _ = some _ by kernel_rfl) | refine zal rfl rfl ?_ | refine zaj rfl rfl ?_ | refine zaq ?_ | refine zac (fun K hK => ?_))
  | true =>
    refine zaf 78 Tryz.func33 rfl rfl rfl rfl ?_ GG.to
    intro W A hG
    have ht := zhw k.am k.af k.ao haf hao h0
    rw [hown] at ht
    repeat (first | (refine zai rfl ?_; first | refine gdr (zaa (.inl rfl) rfl) ?_ | refine gnk 1 rfl (za2 tb rfl rfl rfl rfl rfl) ?_ | refine gnx 1 rfl (zba tb rfl rfl rfl) rfl ?_ | refine gdr (zaa (.inr rfl) rfl) ?_ | refine gdr (zan rfl rfl rfl rfl) ?_ | refine gdr (za5 rfl rfl rfl rfl) ?_ | refine gdr (zag rfl rfl rfl rfl rfl rfl) ?_ | refine gdr (zae rfl rfl rfl rfl rfl) ?_ | refine gnk 1 rfl (zbg rfl rfl rfl rfl rfl rfl rfl) ?_ | refine gdr (zah rfl rfl rfl rfl) ?_ | refine gdr (zab rfl rfl rfl (ht) (by kernel_rfl)) ?_ | refine gdr (zab rfl rfl rfl (hf) (by kernel_rfl)) ?_) | (refine hK _ ?_; clear hK K) | refine zad rfl ?_ | exact zao (show za6 _ _ _ = some _ by kernel_rfl) | refine zal rfl rfl ?_ | refine zaj rfl rfl ?_ | refine zaq ?_ | refine zac (fun K hK => ?_))
end Go.Proofs.YtmkjfeamgknpfaaGreatDoor.SpH
namespace Go.Proofs.YtmkjfeamgknpfaaGreatDoor.SpI
open Go.RowKit Bv VaSpec Base MemL RegR Ax MemC PutC MemC3 TzC OkS SpA SpB SpC SpD IterC SpE SpF SpG
open BitsC PteSpec
theorem zc6 : ∀ (xs : List (Int × Int)) (k v : Int) (c : Int × Int), c ∈ zcc xs k v → c ∈ xs ∨ (c = (k, v) ∧ v ≠ 0)
  | [], k, v, c, h => by
    simp only [zcc] at h
    split at h
    · simp at h
    · rename_i hv; simp at h; exact .inr ⟨h, hv⟩
  | x :: xs, k, v, c, h => by
    simp only [zcc] at h
    split at h
    · rcases List.mem_cons.1 h with h | h
      · exact .inl (by simp [h])
      · exact (zc6 xs k v c h).imp (List.mem_cons_of_mem _) id
    · split at h
      · split at h
        · exact .inl (List.mem_cons_of_mem _ h)
        · rename_i hv
          rcases List.mem_cons.1 h with h | h
          · exact .inr ⟨h, hv⟩
          · exact .inl (List.mem_cons_of_mem _ h)
      · split at h
        · exact .inl h
        · rename_i hv
          rcases List.mem_cons.1 h with h | h
          · exact .inr ⟨h, hv⟩
          · exact .inl h
theorem zku : ∀ (xs : List (Int × Int)) (k v : Int), (zcc xs k v).length ≤ xs.length + 1
  | [], k, v => by simp only [zcc]; split <;> simp
  | x :: xs, k, v => by
    have := zku xs k v
    simp only [zcc]
    split
    · simp; omega
    · split <;> split <;> simp <;> omega
theorem zd6 : ∀ (xs : List (Int × Int)) (k v : Int), Srt xs → Srt (zcc xs k v)
  | [], k, v, _ => by simp only [zcc]; split <;> simp [Srt]
  | x :: xs, k, v, h => by
    have h' := List.pairwise_cons.1 h
    simp only [zcc]
    split
    · rename_i hx
      refine List.pairwise_cons.2 ⟨fun d hd => ?_, zd6 xs k v h'.2⟩
      rcases zc6 _ _ _ _ hd with hd | ⟨rfl, _⟩
      · exact h'.1 d hd
      · exact hx
    · split
      · rename_i hk
        split
        · exact h'.2
        · exact List.pairwise_cons.2 ⟨fun d hd => by have := h'.1 d hd; rw [hk] at this; exact this, h'.2⟩
      · split
        · exact h
        · exact List.pairwise_cons.2 ⟨fun d hd => by
            rcases List.mem_cons.1 hd with rfl | hd
            · show k < _; omega
            · have := h'.1 d hd; show k < _; omega, h⟩
theorem zsp : ∀ (xs : List (Int × Int)) (a b : Int), a ≤ b → lb xs a ≤ lb xs b
  | [], a, b, _ => by simp [lb]
  | x :: xs, a, b, h => by
    have := zsp xs a b h
    simp only [lb]
    split
    · rw [if_pos (by omega)]; omega
    · omega
theorem zkv (xs : List (Int × Int)) (f : Int) : (TableC.za7 xs f).Sublist xs := by
  unfold TableC.za7 ClearC.zbo
  have h := zsp xs (f * 512) (f * 512 + 512) (by omega)
  have e : xs.drop (lb xs (f * 512 + 512)) = (xs.drop (lb xs (f * 512))).drop (lb xs (f * 512 + 512) - lb xs (f * 512)) := by
    rw [List.drop_drop]; congr 1; omega
  rw [e]
  have := List.Sublist.append (List.Sublist.refl (xs.take (lb xs (f * 512)))) (List.drop_sublist (lb xs (f * 512 + 512) - lb xs (f * 512)) (xs.drop (lb xs (f * 512))))
  rwa [List.take_append_drop] at this
theorem zcy {xs : List (Int × Int)} (f : Int) (h : Srt xs) : Srt (TableC.za7 xs f) := List.Pairwise.sublist (zkv xs f) h
theorem zeu {xs : List (Int × Int)} {f : Int} {c : Int × Int} (h : c ∈ TableC.za7 xs f) : c ∈ xs := (zkv xs f).subset h
theorem zdo (xs : List (Int × Int)) (f : Int) : (TableC.za7 xs f).length ≤ xs.length := (zkv xs f).length_le
def COk (lo hi : Int) (c : Int × Int) : Prop := lo * 512 ≤ c.1 ∧ c.1 < hi * 512 ∧ c.1 % 512 = 511 ∧ U c.2
theorem zz3 {lo hi : Int} {xs : List (Int × Int)} (h : ∀ c ∈ xs, COk lo hi c) (h0 : 0 ≤ lo) (h1 : hi ≤ 1099511627776) : Uw xs := fun c hc => by
  obtain ⟨a, b, d, e⟩ := h c hc
  exact ⟨⟨by omega, by omega⟩, e⟩
theorem zi0 {xs : List (Int × Int)} {k : Int} (h : ∀ c ∈ xs, c.1 ≠ k) : MemC.look xs k = 0 := by
  unfold MemC.look
  split
  · rename_i c hc
    rw [if_neg (h c (List.mem_of_getElem? hc))]
  · rfl
theorem zxl {a : Int} (h : U a) : (X a).toNat = a.toNat := by
  have e := B_X h
  unfold B at e; obtain ⟨h0, h1⟩ := h; omega
theorem zg9 {w : BitVec 64} {n : Nat} (h : ∀ i, n ≤ i → w.getLsbD i = false) : w.toNat < 2 ^ n :=
  Nat.lt_pow_two_of_testBit _ fun i hi => by rw [BitVec.testBit_toNat]; exact h i hi
theorem zqs {w : BitVec 64} {n : Nat} (h : w.toNat < 2 ^ n) (i : Nat) (hi : n ≤ i) : w.getLsbD i = false := by
  rw [← BitVec.testBit_toNat]
  exact Nat.testBit_lt_two_pow (Nat.lt_of_lt_of_le h (Nat.pow_le_pow_right (by decide) hi))
theorem zsq {x : Int} {n : Nat} (h0 : 0 ≤ x) : x < 2 ^ n ↔ x.toNat < 2 ^ n := by
  have e : ((2 : Int) ^ n) = ((2 ^ n : Nat) : Int) := by norm_cast
  rw [e]; omega
theorem zgb {x i v : Int} {n : Nat} (h : U x) (hx : x < 2 ^ n) (h0 : 0 ≤ i) (hi : i < n) : zbq x i 1 v < 2 ^ n := by
  rw [zsq (zez _ _ _ _).1]
  rw [zsq h.1, ← zxl h] at hx
  unfold zbq
  have : (B (zq1 (X x) i.toNat (1 : Int).toNat (X v))).toNat = (zq1 (X x) i.toNat (1 : Int).toNat (X v)).toNat := by unfold B; omega
  rw [this]
  refine zg9 fun j hj => ?_
  rw [zeq, if_neg (by rw [show (1 : Int).toNat = 1 from rfl]; omega), zqs hx j hj, Bool.and_false]
theorem zc7 {x : Int} {n : Nat} (h : U x) (hx : x < 2 ^ n) (h0 : x ≠ 0) : 0 ≤ tzI x ∧ tzI x < n := by
  obtain ⟨h1, h2⟩ := h
  obtain ⟨hb, _⟩ := Lib.lowest_bit 64 x.toNat (by omega) (by omega)
  have hle : 2 ^ Lib.ctz 64 x.toNat ≤ x.toNat := by rw [← hb]; exact Nat.and_le_left
  have hx := (zsq h1).1 hx
  have := (Nat.pow_lt_pow_iff_right (show 1 < 2 by decide)).1 (Nat.lt_of_le_of_lt hle hx)
  unfold tzI
  omega
theorem zhq {x : Int} {n : Nat} (h0 : 0 ≤ x) (h : x < 2 ^ n) (hn : n ≤ 64) : U x := by
  refine ⟨h0, Int.lt_of_lt_of_le h ?_⟩
  have : (2 : Nat) ^ n ≤ 2 ^ 64 := Nat.pow_le_pow_right (by decide) hn
  have e : ((2 : Int) ^ n) = ((2 ^ n : Nat) : Int) := by norm_cast
  rw [e]; omega
def zha (x i : Int) : Bool := zdt x i 1 == 1
theorem zev {x i : Int} (h0 : 0 ≤ i) : zha x i = (X x).getLsbD i.toNat := by
  unfold zha zdt
  have hb := fun j => zep (X x) i.toNat 1 j
  rw [show (1 : Int).toNat = 1 from rfl]
  have hlt : (zkk (X x) i.toNat 1).toNat < 2 ^ 1 := zg9 fun j hj => by rw [hb j, decide_eq_false (by omega), Bool.false_and]
  have h0' := hb 0
  rw [← BitVec.testBit_toNat, Nat.testBit_zero] at h0'
  simp only [Nat.add_zero, show decide (0 < 1) = true from rfl, Bool.true_and] at h0'
  rw [← h0']
  have e : B (zkk (X x) i.toNat 1) = ((zkk (X x) i.toNat 1).toNat : Int) := rfl
  rw [e]
  rcases (by omega : (zkk (X x) i.toNat 1).toNat = 0 ∨ (zkk (X x) i.toNat 1).toNat = 1) with h | h <;> rw [h] <;> rfl
theorem zgc {x i v j : Int} (h : U x) (h0 : 0 ≤ i) (h1 : i < 64) (hj : 0 ≤ j) (hj1 : j < 64) : zha (zbq x i 1 v) j = if j = i then (X v).getLsbD 0 else zha x j := by
  rw [zev hj, zev hj]
  unfold zbq
  rw [X_B, zeq, decide_eq_true (by omega), Bool.true_and, show (1 : Int).toNat = 1 from rfl]
  by_cases e : j = i
  · subst e
    rw [if_pos ⟨Nat.le_refl _, by omega⟩, if_pos rfl, Nat.sub_self]
  · rw [if_neg (by omega), if_neg e]
end Go.Proofs.YtmkjfeamgknpfaaGreatDoor.SpI
namespace Go.Proofs.YtmkjfeamgknpfaaGreatDoor.SpJ
open Go.RowKit Bv VaSpec Base MemL RegR Ax MemC PutC MemC3 TzC OkS SpA SpB SpC SpD IterC SpE SpF SpG SpI
open BitsC PteSpec
noncomputable def zbk (k : Kr) : Kr × Int × Int :=
  if 32 ≤ k.ss.length then (k, 0, 1) else if k.af = 0 then (k, 0, 9) else if k.pf = 0 then (k, 0, 8)
  else if zdt k.ao (tzI k.af) 1 == 1 then (zdy (zbn k) [aFe (tzI k.af + 1)], (k.ss.length : Int), 0) else (zbn k, (k.ss.length : Int), 0)
def zb5 (k : Kr) (id : Int) : Sp := (k.ss[id.toNat]?).getD zSp
theorem zfy {k : Kr} {id : Int} (h : zb2 k id = true) : 0 ≤ id ∧ id < k.ss.length ∧ k.ss[id.toNat]? = some (zb5 k id) ∧ (zb5 k id).live = true := by
  unfold zb2 at h
  simp only [Bool.and_eq_true, decide_eq_true_eq] at h
  obtain ⟨h0, h1⟩ := h
  split at h1
  · rename_i s hs
    have e : zb5 k id = s := by unfold zb5; rw [hs]; rfl
    have := (List.getElem?_eq_some_iff.1 hs).1
    exact ⟨h0, by omega, by rw [e]; exact hs, by rw [e]; exact h1⟩
  · cases h1
structure Inv (n : Nat) (k : Kr) : Prop where
  cd : 1 ≤ k.cd ∧ k.cd ≤ 524288
  cp : 1 ≤ k.cp ∧ k.cp ≤ 64
  ca : 1 ≤ k.ca ∧ k.ca ≤ 16
  cs : k.cs = k.tn ∧ k.tn ≤ 16
  sz : k.sz = (k.cd + k.cp) * 4096
  pb : k.pb = k.cd
  pm : k.pm = k.cp
  am : k.am = k.ca
  pf : 0 ≤ k.pf ∧ k.pf < 2 ^ k.cp.toNat
  af : 0 ≤ k.af ∧ k.af < 2 ^ k.ca.toNat
  ao : 0 ≤ k.ao ∧ k.ao < 2 ^ k.ca.toNat
  sh : k.cd ≤ k.sh ∧ k.sh < k.cd + k.cp
  ts : k.ts = zsL k.tn
  m : Srt k.m
  mc : ∀ c ∈ k.m, COk k.cd (k.cd + k.cp) c
  ml : k.m.length ≤ n
  fl : k.fs.length ≤ n
  sl : k.ss.length ≤ 32
  ss : ∀ s ∈ k.ss, s.live = true → (k.cd ≤ s.root ∧ s.root < k.cd + k.cp) ∧ (1 ≤ s.asid ∧ s.asid ≤ 16)
  nw : (k.now = -1 ∧ k.sm = 0 ∧ k.sa = 0 ∧ k.sp = 0) ∨ (zb2 k k.now = true ∧ k.sm = 8 ∧ k.sa = (zb5 k k.now).asid ∧ k.sp = (zb5 k k.now).root)
theorem Inv.upf {n : Nat} {k : Kr} (h : Inv n k) : U k.pf := zhq h.pf.1 h.pf.2 (by have := h.cp; omega)
theorem Inv.uaf {n : Nat} {k : Kr} (h : Inv n k) : U k.af := zhq h.af.1 h.af.2 (by have := h.ca; omega)
theorem Inv.uao {n : Nat} {k : Kr} (h : Inv n k) : U k.ao := zhq h.ao.1 h.ao.2 (by have := h.ca; omega)
theorem zpg : idx kA 2 = 511 := by rw [zxa]; decide
theorem zhb (sz : Int) (xs : List (Int × Int)) (t i : Int) (p : Pte) : zbw sz xs t i p = xs ∨ ∃ v, U v ∧ zbw sz xs t i p = zcc xs (t * 512 + i) v := by
  unfold zbw zdm
  by_cases hw : zdi sz (t * 4096 + i * 8) 8 = 0
  · rw [if_pos hw, if_pos hw]
    refine .inr ⟨zbq (zb6 sz xs (t * 4096 + i * 8)) ((t * 4096 + i * 8) % 8 * 8) (8 * 8) (PteC.zc5 p), zez _ _ _ _, ?_⟩
    rw [show (t * 4096 + i * 8) / 8 = t * 512 + i by omega]
  · rw [if_neg hw]; exact .inl rfl
theorem zuv {sz : Int} {xs : List (Int × Int)} {t i : Int} {p : Pte} (h : Srt xs) : Srt (zbw sz xs t i p) := by
  rcases zhb sz xs t i p with e | ⟨v, _, e⟩ <;> rw [e]
  · exact h
  · exact zd6 _ _ _ h
theorem zgq (sz : Int) (xs : List (Int × Int)) (t i : Int) (p : Pte) : (zbw sz xs t i p).length ≤ xs.length + 1 := by
  rcases zhb sz xs t i p with e | ⟨v, _, e⟩ <;> rw [e]
  · omega
  · exact zku _ _ _
theorem zuw {sz : Int} {xs : List (Int × Int)} {t : Int} {p : Pte} {lo hi : Int} (h : ∀ c ∈ xs, COk lo hi c) (h0 : lo ≤ t) (h1 : t < hi) : ∀ c ∈ zbw sz xs t 511 p, COk lo hi c := fun c hc => by
  rcases zhb sz xs t 511 p with e | ⟨v, hv, e⟩ <;> rw [e] at hc
  · exact h c hc
  · rcases zc6 _ _ _ _ hc with hc | ⟨rfl, _⟩
    · exact h c hc
    · exact ⟨by show lo * 512 ≤ t * 512 + 511; omega, by show t * 512 + 511 < hi * 512; omega, by show (t * 512 + 511) % 512 = 511; omega, hv⟩
theorem zxm (a v : Int) (hv : U v) : zbq a 0 64 v = v := by
  unfold zbq
  rw [show (0 : Int).toNat = 0 from rfl, show (64 : Int).toNat = 64 from rfl]
  have : zq1 (X a) 0 64 (X v) = X v := by
    apply BitVec.eq_of_getLsbD_eq
    intro i hi
    rw [zeq, decide_eq_true hi, Bool.true_and, if_pos ⟨Nat.zero_le _, by omega⟩, Nat.sub_zero]
  rw [this, B_X hv]
theorem zz4 {sz t i : Int} (h0 : 0 ≤ t) (hi : 0 ≤ i ∧ i < 512) (hs : t * 4096 + i * 8 < sz) : zdi sz (t * 4096 + i * 8) 8 = 0 := by
  unfold zdi
  rw [if_pos (by rfl), if_pos, if_pos hs]
  unfold ze4
  rw [if_neg (by omega)]
  simp; omega
theorem zfk {sz : Int} {xs : List (Int × Int)} {t i : Int} {p : Pte} (hp : p.U) (h0 : 0 ≤ t) (hi : 0 ≤ i ∧ i < 512) (hs : t * 4096 + i * 8 < sz) : zbw sz xs t i p = zcc xs (t * 512 + i) (PteC.zc5 p) := by
  unfold zbw zdm
  have hw := zz4 h0 hi hs
  rw [if_pos hw, if_pos hw, show (t * 4096 + i * 8) / 8 = t * 512 + i by omega, show (t * 4096 + i * 8) % 8 * 8 = 0 by omega, show (8 : Int) * 8 = 64 by rfl, zxm _ _ (zff p hp)]
theorem zwb : PteC.zc5 zP = 0 := by decide
theorem zsr {k k' : Kr} {s : Sp} {id : Int} (e : k'.ss = k.ss ++ [s]) (h : zb2 k id = true) : zb2 k' id = true ∧ zb5 k' id = zb5 k id := by
  obtain ⟨h0, h1, h2, h3⟩ := zfy h
  have hk : k'.ss[id.toNat]? = some (zb5 k id) := by rw [e, List.getElem?_append_left (by omega)]; exact h2
  have e2 : zb5 k' id = zb5 k id := by show (k'.ss[id.toNat]?).getD zSp = _; rw [hk]; rfl
  refine ⟨?_, e2⟩
  unfold zb2
  rw [hk, decide_eq_true h0]; exact h3
theorem zoa {n : Nat} {k : Kr} (h : Inv n k) (hl : k.ss.length < 32) (ha : k.af ≠ 0) (hp : k.pf ≠ 0) : Inv (n + 1) (zbn k) := by
  have t1 := zc7 h.upf h.pf.2 hp
  have t2 := zc7 h.uaf h.af.2 ha
  have c1 := h.cp
  have c2 := h.ca
  have hpb := h.pb
  refine { cd := h.cd, cp := h.cp, ca := h.ca, cs := h.cs, sz := h.sz, pb := h.pb, pm := h.pm, am := h.am, pf := ?_, af := ?_, ao := ?_, sh := h.sh, ts := h.ts, m := ?_, mc := ?_, ml := ?_, fl := ?_, sl := ?_, ss := ?_, nw := ?_ }
  · exact ⟨(zez _ _ _ _).1, zgb h.upf h.pf.2 t1.1 t1.2⟩
  · exact ⟨(zez _ _ _ _).1, zgb h.uaf h.af.2 t2.1 t2.2⟩
  · exact ⟨(zez _ _ _ _).1, zgb h.uao h.ao.2 t2.1 t2.2⟩
  · exact zuv (zcy _ h.m)
  · show ∀ c ∈ zm4 k, _
    unfold zm4
    rw [zpg]
    exact zuw (fun c hc => h.mc c (zeu hc)) (by show k.cd ≤ _; omega) (by show _ < k.cd + k.cp; omega)
  · have e1 := zgq k.sz (TableC.za7 k.m (k.pb + tzI k.pf)) (k.pb + tzI k.pf) (idx kA 2) (gP k.sh)
    have e2 := zdo k.m (k.pb + tzI k.pf)
    have e3 := h.ml
    show (zm4 k).length ≤ n + 1
    unfold zm4; omega
  · have := h.fl; show k.fs.length ≤ n + 1; omega
  · show (k.ss ++ [_]).length ≤ 32
    simp; omega
  · intro s hs hlv
    have hs : s ∈ k.ss ++ [⟨k.pb + tzI k.pf, tzI k.af + 1, true⟩] := hs
    rcases List.mem_append.1 hs with hs | hs
    · exact h.ss s hs hlv
    · rw [List.mem_singleton.1 hs]
      exact ⟨⟨by show k.cd ≤ k.pb + tzI k.pf; omega, by show k.pb + tzI k.pf < k.cd + k.cp; omega⟩, by show 1 ≤ tzI k.af + 1; omega, by show tzI k.af + 1 ≤ 16; omega⟩
  · rcases h.nw with x | ⟨x1, x2, x3, x4⟩
    · exact .inl x
    · obtain ⟨y1, y2⟩ := zsr (k' := zbn k) rfl x1
      exact .inr ⟨y1, x2, by rw [show (zbn k).now = k.now from rfl, y2]; exact x3, by rw [show (zbn k).now = k.now from rfl, y2]; exact x4⟩
theorem Inv.mono {n n' : Nat} {k : Kr} (h : Inv n k) (e : n ≤ n') : Inv n' k := { h with ml := Nat.le_trans h.ml e, fl := Nat.le_trans h.fl e }
theorem zss {n : Nat} {k : Kr} (h : Inv n k) (l : List Fe) (e : k.fs.length + l.length ≤ n) : Inv n (zdy k l) := { h with fl := by show (k.fs ++ l).length ≤ n; simpa using e }
theorem zei {n : Nat} {k : Kr} (h : Inv n k) : Inv (n + 1) (zbk k).1 := by
  unfold zbk
  split
  · exact h.mono (by omega)
  · split
    · exact h.mono (by omega)
    · split
      · exact h.mono (by omega)
      · rename_i h1 h2 h3
        have hc := zoa h (by omega) h2 h3
        split
        · refine zss hc _ ?_
          have := h.fl
          show k.fs.length + 1 ≤ n + 1; omega
        · exact hc
end Go.Proofs.YtmkjfeamgknpfaaGreatDoor.SpJ
namespace Go.Proofs.YtmkjfeamgknpfaaGreatDoor.SpK
open Go.RowKit Bv VaSpec Base MemL RegR Ax MemC PutC MemC3 TzC OkS SpA SpB SpC SpD IterC SpE SpF SpG SpH SpI SpJ
open BitsC PteSpec
set_option maxRecDepth 10000
set_option maxHeartbeats 800000
attribute [local irreducible] Ax.zb4
theorem zqt {n : Nat} {k : Kr} (h : Inv n k) (hn : n ≤ 100000) : Ok 33 [.ag k.ce] (.tu [.ag (zbk k).1.ce, ii (zbk k).2.1, ii (zbk k).2.2]) := by
  have h1 := h.cd
  have h2 := h.cp
  have h3 := h.pb
  have h4 := h.pm
  have h5 := h.ml
  have h6 := h.sl
  have h7 := h.fl
  have h8 := h.sh
  have hpb : 0 ≤ k.pb ∧ k.pb ≤ 268435456 := by omega
  have hpm : 0 ≤ k.pm ∧ k.pm ≤ 64 := by omega
  unfold zbk
  by_cases c1 : 32 ≤ k.ss.length
  · rw [if_pos c1]; exact zn9 k c1 (by omega)
  rw [if_neg c1]
  by_cases c2 : k.af = 0
  · rw [if_pos c2]; exact zkt k (by omega) c2
  rw [if_neg c2]
  by_cases c3 : k.pf = 0
  · rw [if_pos c3]; exact zjk k (by omega) h.uaf h.uao c2 c3 hpb hpm
  rw [if_neg c3]
  have t1 := zc7 h.upf h.pf.2 c3
  have w1 := zdo k.m (k.pb + tzI k.pf)
  have hP : (gP k.sh).U := ⟨by show (0 : Int) ≤ 0 ∧ (0 : Int) < _; omega, by show 0 ≤ k.sh ∧ k.sh < _; omega, by show (0 : Int) ≤ 0 ∧ (0 : Int) < _; omega⟩
  have hu : Uw (TableC.za7 k.m (k.pb + tzI k.pf)) := fun c hc => zz3 h.mc (by omega) (by omega) c (zeu hc)
  by_cases c4 : (zdt k.ao (tzI k.af) 1 == 1) = true
  · rw [if_pos c4]
    exact zmo k (by omega) h.uaf h.uao c2 h.upf c3 hpb hpm h.m (by omega) hP (zcy _ h.m) hu (by omega) c4 h.ts h.cs.2 (by omega) (by omega)
  · rw [if_neg c4]
    show Ok _ _ (.tu [.ag (zbn k).ce, _, _])
    rw [zfx]
    exact zmn k (by omega) h.uaf h.uao c2 h.upf c3 hpb hpm h.m (by omega) hP (zcy _ h.m) hu (by omega) (by simpa using c4) (by omega)
end Go.Proofs.YtmkjfeamgknpfaaGreatDoor.SpK
namespace Go.Proofs.YtmkjfeamgknpfaaGreatDoor.SpL
open Go.RowKit Bv VaSpec Base MemL RegR Ax MemC PutC MemC3 TzC OkS SpA SpB SpC SpD IterC SpE
open BitsC PteSpec
set_option maxRecDepth 10000
set_option maxHeartbeats 800000
theorem zxn (w : World) (x0 x1 y0 y1 : Int) :
    (Op.equalIn 10000 163 (.agg #[.int .u64 x0, .int .u64 x1]) (.agg #[.int .u64 y0, .int .u64 y1])).run Tryz.prog w = .ok (x0 == y0 && (x1 == y1 && true)) w := by
  refine PoolC4.zdv Tryz.underlying163 (by kernel_rfl) ?_
  refine PoolC4.za4 (by rfl) (by go_simp; rfl) (by go_simp; rfl) (by go_simp) ?_
  exact PoolC4.za4 (by rfl) (by go_simp; rfl) (by go_simp; rfl) (by go_simp) PoolC4.zda
theorem zxo (w : World) (x0 x1 x2 x3 y0 y1 y2 y3 : Int) :
    (Op.equalIn 10000 23 (.agg #[.int .i64 x0, .int .i64 x1, .int .i64 x2, .int .i64 x3]) (.agg #[.int .i64 y0, .int .i64 y1, .int .i64 y2, .int .i64 y3])).run Tryz.prog w = .ok (x0 == y0 && (x1 == y1 && (x2 == y2 && (x3 == y3 && true)))) w := by
  refine PoolC4.zdv Tryz.underlying23 (by kernel_rfl) ?_
  refine PoolC4.za4 (by rfl) (by go_simp; rfl) (by go_simp; rfl) (by go_simp) ?_
  refine PoolC4.za4 (by rfl) (by go_simp; rfl) (by go_simp; rfl) (by go_simp) ?_
  refine PoolC4.za4 (by rfl) (by go_simp; rfl) (by go_simp; rfl) (by go_simp) ?_
  exact PoolC4.za4 (by rfl) (by go_simp; rfl) (by go_simp; rfl) (by go_simp) PoolC4.zda
theorem zxp (w : World) (x0 x1 x2 y0 y1 y2 : Int) :
    (Op.equalIn 10000 35 (.agg #[.int .u64 x0, .int .u64 x1, .int .u64 x2]) (.agg #[.int .u64 y0, .int .u64 y1, .int .u64 y2])).run Tryz.prog w = .ok (x0 == y0 && (x1 == y1 && (x2 == y2 && true))) w := by
  refine PoolC4.zdv Tryz.underlying35 (by kernel_rfl) ?_
  refine PoolC4.za4 (by rfl) (by go_simp; rfl) (by go_simp; rfl) (by go_simp) ?_
  refine PoolC4.za4 (by rfl) (by go_simp; rfl) (by go_simp; rfl) (by go_simp) ?_
  exact PoolC4.za4 (by rfl) (by go_simp; rfl) (by go_simp; rfl) (by go_simp) PoolC4.zda
theorem zux (w : World) (x0 x1 y0 y1 : Int) (x2 y2 : Bool) :
    (Op.equalIn 10000 92 (.agg #[.int .u64 x0, .int .u64 x1, .bool x2]) (.agg #[.int .u64 y0, .int .u64 y1, .bool y2])).run Tryz.prog w = .ok (x0 == y0 && (x1 == y1 && (x2 == y2 && true))) w := by
  refine PoolC4.zdv Tryz.underlying92 (by kernel_rfl) ?_
  refine PoolC4.za4 (by rfl) (by go_simp; rfl) (by go_simp; rfl) (by go_simp) ?_
  refine PoolC4.za4 (by rfl) (by go_simp; rfl) (by go_simp; rfl) (by go_simp) ?_
  exact PoolC4.za4 (by rfl) (by go_simp; rfl) (by go_simp; rfl) (by go_simp) PoolC4.zda
theorem zph (w : World) (x1 x3 y1 y3 : Int) (x0 x2 y0 y2 : Bool) :
    (Op.equalIn 10000 80 (.agg #[.bool x0, .int .u64 x1, .bool x2, .int .u64 x3]) (.agg #[.bool y0, .int .u64 y1, .bool y2, .int .u64 y3])).run Tryz.prog w = .ok (x0 == y0 && (x1 == y1 && (x2 == y2 && (x3 == y3 && true)))) w := by
  refine PoolC4.zdv Tryz.underlying80 (by kernel_rfl) ?_
  refine PoolC4.za4 (by rfl) (by go_simp; rfl) (by go_simp; rfl) (by go_simp) ?_
  refine PoolC4.za4 (by rfl) (by go_simp; rfl) (by go_simp; rfl) (by go_simp) ?_
  refine PoolC4.za4 (by rfl) (by go_simp; rfl) (by go_simp; rfl) (by go_simp) ?_
  exact PoolC4.za4 (by rfl) (by go_simp; rfl) (by go_simp; rfl) (by go_simp) PoolC4.zda
theorem zxq (w : World) : (Op.equalIn 10000 213 (.agg zS.toArray) (.agg zS.toArray)).run Tryz.prog w = .ok true w := by kernel_rfl
theorem zpi {l : List (Int × Int)} {k : Nat} {c : Int × Int} (h : l[k]? = some c) : ((fl l).drop (k * 2)).take 2 = [.int .u64 c.1, .int .u64 c.2] := zfe (fun c : Int × Int => [.int .u64 c.1, .int .u64 c.2]) 2 (fun _ => rfl) l _ c h
theorem zuy (sz : Int) (m : List (Int × Int)) (hl : m.length ≤ 1000000) : Ok 37 [zbz sz m, zbz sz m] (.m (ib true)) := by
  refine zaf 38 Tryz.func37 rfl rfl rfl rfl ?_ GG.to
  intro W A hG
  repeat (first | (refine zai rfl ?_; first | refine gdr (zaa (.inl rfl) rfl) ?_ | refine gnk 1 rfl (za2 tb rfl rfl rfl rfl rfl) ?_ | refine gnx 1 rfl (zba tb rfl rfl rfl) rfl ?_ | refine gdr (zaa (.inr rfl) rfl) ?_ | refine gdr (zak rfl rfl rfl) ?_ | refine gdr (za5 rfl rfl rfl rfl) ?_ | refine gdr (zag rfl rfl rfl rfl rfl rfl) ?_ | refine gdr (zah rfl rfl rfl rfl) ?_) | (refine hK _ ?_; clear hK K) | refine zad rfl ?_ | refine zaj rfl rfl ?_ | refine zam ?_ | refine zaq ?_ | refine zac (fun K hK => ?_))
  refine zbb (α := Nat) (fun k => k ≤ m.length) (fun k => St.of [(2, .m (.c (.p 2 0))), (3, .m (.c (.p 3 0))), (5, .m (ii k))] [(2, .live (.box [cu sz, .s m.length 2 (fl m)])), (3, .live (.box [cu sz, .s m.length 2 (fl m)]))]) (fun k => m.length - k) 0 (by omega) (zas _ _ ⟨rfl, rfl, rfl, trivial⟩ ⟨rfl, rfl, trivial⟩ rfl) ?_
  intro k hk
  by_cases hlt : k < m.length
  · obtain ⟨c, hc⟩ : ∃ c, m[k]? = some c := ⟨_, List.getElem?_eq_getElem hlt⟩
    have hx := zpi hc
    have he : ∀ w, (Op.equalIn 10000 163 (.agg #[.int .u64 c.1, .int .u64 c.2]) (.agg #[.int .u64 c.1, .int .u64 c.2])).run Tryz.prog w = .ok true w := fun w => by rw [zxn]; simp
    repeat (first | (refine zai rfl ?_; first | refine gdr (zaa (.inl rfl) rfl) ?_ | refine gnk 1 rfl (za2 tb rfl rfl rfl rfl rfl) ?_ | refine gnx 1 rfl (zba tb rfl rfl rfl) rfl ?_ | refine gdr (zaa (.inr rfl) rfl) ?_ | refine gdr (za5 rfl rfl rfl rfl) ?_ | refine gdr (gar rfl rfl rfl rfl) ?_ | refine gdr (zah rfl rfl rfl rfl) ?_ | refine gnx 3 rfl (zav tb rfl rfl rfl rfl (by first | kernel_rfl | rfl)) rfl ?_ | refine gnx 4 rfl (zay rfl rfl rfl rfl rfl rfl (by omega) (by omega) _ (by assumption)) rfl ?_ | refine gdr (zds (us := [.int .u64 c.1, .int .u64 c.2]) (vs := [.int .u64 c.1, .int .u64 c.2]) he (by kernel_rfl) rfl rfl rfl rfl) ?_) | (refine hK _ ?_; clear hK K) | refine zad rfl ?_ | refine za3 (by kernel_rfl) (by kernel_rfl) rfl ?_ | refine zal rfl rfl ?_ | refine zaj rfl rfl ?_ | refine zam ?_ | refine zaq ?_ | refine zac (fun K hK => ?_))
    exact ⟨k + 1, by omega, by omega, zas _ _ ⟨rfl, rfl, rfl, trivial⟩ ⟨rfl, rfl, trivial⟩ rfl⟩
  · skip
    repeat (first | (refine zai rfl ?_; first | refine gdr (zaa (.inl rfl) rfl) ?_ | refine gnk 1 rfl (za2 tb rfl rfl rfl rfl rfl) ?_ | refine gnx 1 rfl (zba tb rfl rfl rfl) rfl ?_ | refine gdr (zaa (.inr rfl) rfl) ?_ | refine gdr (za5 rfl rfl rfl rfl) ?_ | refine gdr (zah rfl rfl rfl rfl) ?_) | (refine hK _ ?_; clear hK K) | (rename_i K1 hK1; refine hK1 _ ?_; clear hK hK1; clear K) | refine zad rfl ?_ | exact zao (show za6 _ _ _ = some _ by kernel_rfl) | refine zaj rfl rfl ?_ | refine zbi ?_ | refine zac (fun K hK => ?_))
theorem zhz (n : Nat) (hn : n ≤ 16) : Ok 101 [.ag [.s n 45 (zsL n)], .ag [.s n 45 (zsL n)]] (.m (ib true)) := by
  refine zaf 31 Tryz.func101 rfl rfl rfl rfl ?_ GG.to
  intro W A hG
  repeat (first | (refine zai rfl ?_; first | refine gnk 1 rfl (za2 tb rfl rfl rfl rfl rfl) ?_ | refine gnx 1 rfl (zba tb rfl rfl rfl) rfl ?_ | refine gdr (zaa (.inr rfl) rfl) ?_ | refine gdr (za5 rfl rfl rfl rfl) ?_ | refine gdr (zag rfl rfl rfl rfl rfl rfl) ?_ | refine gdr (zah rfl rfl rfl rfl) ?_) | (refine hK _ ?_; clear hK K) | refine zad rfl ?_ | refine zaj rfl rfl ?_ | refine zam ?_ | refine zaq ?_ | refine zac (fun K hK => ?_))
  refine zbb (α := Nat) (fun k => k ≤ n) (fun k => St.of [(2, .m (.c (.p 2 0))), (3, .m (.c (.p 3 0))), (5, .m (ii k))] [(2, .live (.box [.s n 45 (zsL n)])), (3, .live (.box [.s n 45 (zsL n)]))]) (fun k => n - k) 0 (by omega) (zas _ _ ⟨rfl, rfl, rfl, trivial⟩ ⟨rfl, rfl, trivial⟩ rfl) ?_
  intro k hk
  by_cases hlt : k < n
  · have hx : ((zsL n).drop (k * 45)).take 45 = zS := zsd n k hlt
    repeat (first | (refine zai rfl ?_; first | refine gdr (zaa (.inl rfl) rfl) ?_ | refine gnk 1 rfl (za2 tb rfl rfl rfl rfl rfl) ?_ | refine gnx 1 rfl (zba tb rfl rfl rfl) rfl ?_ | refine gdr (zaa (.inr rfl) rfl) ?_ | refine gdr (za5 rfl rfl rfl rfl) ?_ | refine gdr (gar rfl rfl rfl rfl) ?_ | refine gdr (zah rfl rfl rfl rfl) ?_ | refine gnx 3 rfl (zav tb rfl rfl rfl rfl (by first | kernel_rfl | rfl)) rfl ?_ | refine gnx 4 rfl (zay rfl rfl rfl rfl rfl rfl (by omega) (by omega) _ (by assumption)) rfl ?_ | refine gdr (zds (us := zS) (vs := zS) zxq (by kernel_rfl) rfl rfl rfl rfl) ?_) | (refine hK _ ?_; clear hK K) | refine zad rfl ?_ | refine za3 (by kernel_rfl) (by kernel_rfl) rfl ?_ | refine zal rfl rfl ?_ | refine zaj rfl rfl ?_ | refine zam ?_ | refine zaq ?_ | refine zac (fun K hK => ?_))
    exact ⟨k + 1, by omega, by omega, zas _ _ ⟨rfl, rfl, rfl, trivial⟩ ⟨rfl, rfl, trivial⟩ rfl⟩
  · skip
    repeat (first | (refine zai rfl ?_; first | refine gdr (zaa (.inl rfl) rfl) ?_ | refine gnk 1 rfl (za2 tb rfl rfl rfl rfl rfl) ?_ | refine gnx 1 rfl (zba tb rfl rfl rfl) rfl ?_ | refine gdr (zaa (.inr rfl) rfl) ?_ | refine gdr (za5 rfl rfl rfl rfl) ?_ | refine gdr (zah rfl rfl rfl rfl) ?_) | (refine hK _ ?_; clear hK K) | (rename_i K1 hK1; refine hK1 _ ?_; clear hK hK1; clear K) | refine zad rfl ?_ | exact zao (show za6 _ _ _ = some _ by kernel_rfl) | refine zaj rfl rfl ?_ | refine zbi ?_ | refine zac (fun K hK => ?_))
theorem zkw (l : List Fe) (hl : l.length ≤ 1000000) : Ok 18 [.c (.s l.length 4 (flF l)), .c (.s l.length 4 (flF l))] (.m (ib true)) := by
  refine zaf 26 Tryz.func18 rfl rfl rfl rfl ?_ GG.to
  intro W A hG
  repeat (first | (refine zai rfl ?_; first | refine gdr (zaa (.inl rfl) rfl) ?_ | refine gdr (zaa (.inr rfl) rfl) ?_ | refine gdr (za5 rfl rfl rfl rfl) ?_ | refine gdr (zah rfl rfl rfl rfl) ?_) | (refine hK _ ?_; clear hK K) | refine zad rfl ?_ | refine zaj rfl rfl ?_ | refine zam ?_ | refine zaq ?_ | refine zac (fun K hK => ?_))
  refine zbb (α := Nat) (fun k => k ≤ l.length) (fun k => St.of [(0, .m (.c (.s l.length 4 (flF l)))), (1, .m (.c (.s l.length 4 (flF l)))), (5, .m (ii k))] []) (fun k => l.length - k) 0 (by omega) (zas _ _ ⟨rfl, rfl, rfl, trivial⟩ trivial rfl) ?_
  intro k hk
  by_cases hlt : k < l.length
  · obtain ⟨f, hf⟩ : ∃ f, l[k]? = some f := ⟨_, List.getElem?_eq_getElem hlt⟩
    have hx := zse hf
    have he : ∀ w, (Op.equalIn 10000 80 (.agg #[.bool f.ha, .int .u64 f.ad, .bool f.hs, .int .u64 f.sn]) (.agg #[.bool f.ha, .int .u64 f.ad, .bool f.hs, .int .u64 f.sn])).run Tryz.prog w = .ok true w := fun w => by rw [zph]; simp
    repeat (first | (refine zai rfl ?_; first | refine gdr (zaa (.inl rfl) rfl) ?_ | refine gdr (zaa (.inr rfl) rfl) ?_ | refine gdr (za5 rfl rfl rfl rfl) ?_ | refine gdr (gar rfl rfl rfl rfl) ?_ | refine gdr (zah rfl rfl rfl rfl) ?_ | refine gnx 3 rfl (zav tb rfl rfl rfl rfl (by first | kernel_rfl | rfl)) rfl ?_ | refine gnx 4 rfl (zay rfl rfl rfl rfl rfl rfl (by omega) (by omega) _ (by assumption)) rfl ?_ | refine gdr (zds (us := [.bool f.ha, .int .u64 f.ad, .bool f.hs, .int .u64 f.sn]) (vs := [.bool f.ha, .int .u64 f.ad, .bool f.hs, .int .u64 f.sn]) he (by kernel_rfl) rfl rfl rfl rfl) ?_) | (refine hK _ ?_; clear hK K) | refine zad rfl ?_ | refine za3 (by kernel_rfl) (by kernel_rfl) rfl ?_ | refine zal rfl rfl ?_ | refine zaj rfl rfl ?_ | refine zam ?_ | refine zaq ?_ | refine zac (fun K hK => ?_))
    exact ⟨k + 1, by omega, by omega, zas _ _ ⟨rfl, rfl, rfl, trivial⟩ trivial rfl⟩
  · skip
    repeat (first | (refine zai rfl ?_; first | refine gdr (zaa (.inl rfl) rfl) ?_ | refine gdr (zaa (.inr rfl) rfl) ?_ | refine gdr (za5 rfl rfl rfl rfl) ?_ | refine gdr (zah rfl rfl rfl rfl) ?_) | (refine hK _ ?_; clear hK K) | (rename_i K1 hK1; refine hK1 _ ?_; clear hK hK1; clear K) | refine zad rfl ?_ | exact zao (show za6 _ _ _ = some _ by kernel_rfl) | refine zaj rfl rfl ?_ | refine zbi ?_ | refine zac (fun K hK => ?_))
def zz5 (n : Nat) (ts : List Value) (sm sa sp pr : Int) (su mx : Bool) (vic : Int) : List Ce := [.s n 45 ts, cu sm, cu sa, cu sp, ci pr, cb su, cb mx, ci vic]
theorem zuz (n : Nat) (hn : n ≤ 16) (sm sa sp pr : Int) (su mx : Bool) (vic : Int) : Ok 38 [.ag (zz5 n (zsL n) sm sa sp pr su mx vic), .ag (zz5 n (zsL n) sm sa sp pr su mx vic)] (.m (ib true)) := by
  refine zaf 45 Tryz.func38 rfl rfl rfl rfl ?_ GG.to
  intro W A hG
  have he : ∀ w, (Op.equalIn 10000 35 (.agg #[.int .u64 sm, .int .u64 sa, .int .u64 sp]) (.agg #[.int .u64 sm, .int .u64 sa, .int .u64 sp])).run Tryz.prog w = .ok true w := fun w => by rw [zxp]; simp
  cases su <;> cases mx
  · skip
    repeat (first | (refine zai rfl ?_; first | refine gdr (zaa (.inl rfl) rfl) ?_ | refine gnk 1 rfl (za2 tb rfl rfl rfl rfl rfl) ?_ | refine gnx 1 rfl (zba tb rfl rfl rfl) rfl ?_ | refine gdr (zaa (.inr rfl) rfl) ?_ | refine gdr (zak rfl rfl rfl) ?_ | refine gdr (za5 rfl rfl rfl rfl) ?_ | refine gdr (zag rfl rfl rfl rfl rfl rfl) ?_ | refine gdr (zee rfl rfl rfl rfl rfl) ?_ | refine gdr (zab rfl rfl rfl (zhz n hn) (by kernel_rfl)) ?_ | refine gdr (zdg (us := [.int .u64 sm, .int .u64 sa, .int .u64 sp]) (vs := [.int .u64 sm, .int .u64 sa, .int .u64 sp]) he (by kernel_rfl) rfl rfl rfl rfl) ?_) | (refine hK _ ?_; clear hK K) | refine zad rfl ?_ | exact zao (show za6 _ _ _ = some _ by kernel_rfl) | refine zac (fun K hK => ?_))
  · skip
    repeat (first | (refine zai rfl ?_; first | refine gdr (zaa (.inl rfl) rfl) ?_ | refine gnk 1 rfl (za2 tb rfl rfl rfl rfl rfl) ?_ | refine gnx 1 rfl (zba tb rfl rfl rfl) rfl ?_ | refine gdr (zaa (.inr rfl) rfl) ?_ | refine gdr (zak rfl rfl rfl) ?_ | refine gdr (za5 rfl rfl rfl rfl) ?_ | refine gdr (zag rfl rfl rfl rfl rfl rfl) ?_ | refine gdr (zee rfl rfl rfl rfl rfl) ?_ | refine gdr (zab rfl rfl rfl (zhz n hn) (by kernel_rfl)) ?_ | refine gdr (zdg (us := [.int .u64 sm, .int .u64 sa, .int .u64 sp]) (vs := [.int .u64 sm, .int .u64 sa, .int .u64 sp]) he (by kernel_rfl) rfl rfl rfl rfl) ?_) | (refine hK _ ?_; clear hK K) | refine zad rfl ?_ | exact zao (show za6 _ _ _ = some _ by kernel_rfl) | refine zac (fun K hK => ?_))
  · skip
    repeat (first | (refine zai rfl ?_; first | refine gdr (zaa (.inl rfl) rfl) ?_ | refine gnk 1 rfl (za2 tb rfl rfl rfl rfl rfl) ?_ | refine gnx 1 rfl (zba tb rfl rfl rfl) rfl ?_ | refine gdr (zaa (.inr rfl) rfl) ?_ | refine gdr (zak rfl rfl rfl) ?_ | refine gdr (za5 rfl rfl rfl rfl) ?_ | refine gdr (zag rfl rfl rfl rfl rfl rfl) ?_ | refine gdr (zee rfl rfl rfl rfl rfl) ?_ | refine gdr (zab rfl rfl rfl (zhz n hn) (by kernel_rfl)) ?_ | refine gdr (zdg (us := [.int .u64 sm, .int .u64 sa, .int .u64 sp]) (vs := [.int .u64 sm, .int .u64 sa, .int .u64 sp]) he (by kernel_rfl) rfl rfl rfl rfl) ?_) | (refine hK _ ?_; clear hK K) | refine zad rfl ?_ | exact zao (show za6 _ _ _ = some _ by kernel_rfl) | refine zac (fun K hK => ?_))
  · skip
    repeat (first | (refine zai rfl ?_; first | refine gdr (zaa (.inl rfl) rfl) ?_ | refine gnk 1 rfl (za2 tb rfl rfl rfl rfl rfl) ?_ | refine gnx 1 rfl (zba tb rfl rfl rfl) rfl ?_ | refine gdr (zaa (.inr rfl) rfl) ?_ | refine gdr (zak rfl rfl rfl) ?_ | refine gdr (za5 rfl rfl rfl rfl) ?_ | refine gdr (zag rfl rfl rfl rfl rfl rfl) ?_ | refine gdr (zee rfl rfl rfl rfl rfl) ?_ | refine gdr (zab rfl rfl rfl (zhz n hn) (by kernel_rfl)) ?_ | refine gdr (zdg (us := [.int .u64 sm, .int .u64 sa, .int .u64 sp]) (vs := [.int .u64 sm, .int .u64 sa, .int .u64 sp]) he (by kernel_rfl) rfl rfl rfl rfl) ?_) | (refine hK _ ?_; clear hK K) | refine zad rfl ?_ | exact zao (show za6 _ _ _ = some _ by kernel_rfl) | refine zac (fun K hK => ?_))
end Go.Proofs.YtmkjfeamgknpfaaGreatDoor.SpL
namespace Go.Proofs.YtmkjfeamgknpfaaGreatDoor.SpM
open Go.RowKit Bv VaSpec Base MemL RegR Ax MemC PutC MemC3 TzC OkS SpA SpB SpC SpD IterC SpE SpL
open BitsC PteSpec
set_option maxRecDepth 10000
set_option maxHeartbeats 800000
attribute [local irreducible] Ax.zb4
theorem flS_one (l : List Sp) : (flS l).all (·.oneCell') = true := by
  rw [List.all_eq_true]
  intro v hv
  obtain ⟨f, _, hv⟩ := List.mem_flatMap.1 hv
  exact List.all_eq_true.1 (show f.vs.all (·.oneCell') = true from rfl) v hv
theorem zxr (l : List (Int × Int)) : (fl l).all (·.oneCell') = true := List.all_eq_true.2 (zhk l)
theorem zst (k : Kr) (ht : k.ts = zsL k.tn) (hn : k.tn ≤ 16) (hm : k.m.length ≤ 1000000) (hs : k.ss.length ≤ 1000000) (hf : k.fs.length ≤ 1000000) : Ok 20 [.ag k.ce] (.m (.ag k.ce)) := by
  have h1 := zn2 k.tn
  rw [← ht] at h1
  refine zaf 30 Tryz.func20 rfl rfl rfl rfl ?_ GG.to
  intro W A hG
  repeat (first | (refine zai rfl ?_; first | refine gnk 1 rfl (za2 tb rfl rfl rfl rfl rfl) ?_ | refine gnx 1 rfl (zba tb rfl rfl rfl) rfl ?_ | refine gdr (zag rfl rfl rfl rfl rfl rfl) ?_ | refine gdr (zae rfl rfl rfl rfl rfl) ?_ | refine gnk 1 rfl (zbg rfl rfl rfl rfl rfl rfl rfl) ?_ | refine gdr (zcm rfl rfl rfl rfl rfl rfl rfl) ?_ | refine gdr (zcb rfl rfl rfl rfl rfl rfl rfl rfl rfl rfl rfl rfl (zxr k.m) (by omega)) ?_ | refine gdr (zcb rfl rfl rfl rfl rfl rfl rfl rfl rfl rfl rfl rfl h1 (by omega)) ?_ | refine gdr (zcb rfl rfl rfl rfl rfl rfl rfl rfl rfl rfl rfl rfl (flS_one k.ss) (by omega)) ?_ | refine gdr (zcb rfl rfl rfl rfl rfl rfl rfl rfl rfl rfl rfl rfl (zkr k.fs) (by omega)) ?_) | (refine hK _ ?_; clear hK K) | refine zad rfl ?_ | exact zao (show za6 _ _ _ = some _ by kernel_rfl) | refine zac (fun K hK => ?_))
theorem zxs (k : Kr) (ht : k.ts = zsL k.tn) (hn : k.tn ≤ 16) (hm : k.m.length ≤ 1000000) (hs : k.ss.length ≤ 1000000) (hf : k.fs.length ≤ 1000000) : Ok 13 [.ag k.ce, .ag k.ce] (.m (ib true)) := by
  have s1 := zuy k.sz k.m hm
  have s2 := zuz k.tn hn k.sm k.sa k.sp k.priv k.su k.mx k.vic
  rw [← ht] at s2
  have s3 := zkw k.fs hf
  have e1 : ∀ w, (Op.equalIn 10000 23 (.agg #[.int .i64 k.cd, .int .i64 k.cp, .int .i64 k.ca, .int .i64 k.cs]) (.agg #[.int .i64 k.cd, .int .i64 k.cp, .int .i64 k.ca, .int .i64 k.cs])).run Tryz.prog w = .ok true w := fun w => by rw [zxo]; simp
  have e2 : ∀ w, (Op.equalIn 10000 39 (.agg #[.int .u64 k.pb, .int .i64 k.pm, .int .u64 k.pf]) (.agg #[.int .u64 k.pb, .int .i64 k.pm, .int .u64 k.pf])).run Tryz.prog w = .ok true w := fun w => by rw [PoolC4.zru 9998]; simp
  have e3 : ∀ w, (Op.equalIn 10000 41 (.agg #[.int .i64 k.am, .int .u64 k.af, .int .u64 k.ao]) (.agg #[.int .i64 k.am, .int .u64 k.af, .int .u64 k.ao])).run Tryz.prog w = .ok true w := fun w => by rw [zkp]; simp
  refine zaf 90 Tryz.func13 rfl rfl rfl rfl ?_ GG.to
  intro W A hG
  repeat (first | (refine zai rfl ?_; first | refine gdr (zaa (.inl rfl) rfl) ?_ | refine gnk 1 rfl (za2 tb rfl rfl rfl rfl rfl) ?_ | refine gnx 1 rfl (zba tb rfl rfl rfl) rfl ?_ | refine gdr (zaa (.inr rfl) rfl) ?_ | refine gdr (zak rfl rfl rfl) ?_ | refine gdr (za5 rfl rfl rfl rfl) ?_ | refine gdr (zag rfl rfl rfl rfl rfl rfl) ?_ | refine gdr (zah rfl rfl rfl rfl) ?_ | refine gdr (zau rfl rfl rfl) ?_ | refine gdr (zab rfl rfl rfl (s1) (by kernel_rfl)) ?_ | refine gdr (zab rfl rfl rfl (s2) (by kernel_rfl)) ?_ | refine gdr (zab rfl rfl rfl (s3) (by kernel_rfl)) ?_ | refine gdr (zds (us := [.int .i64 k.cd, .int .i64 k.cp, .int .i64 k.ca, .int .i64 k.cs]) (vs := [.int .i64 k.cd, .int .i64 k.cp, .int .i64 k.ca, .int .i64 k.cs]) e1 (by kernel_rfl) rfl rfl rfl rfl) ?_ | refine gdr (zds (us := [.int .u64 k.pb, .int .i64 k.pm, .int .u64 k.pf]) (vs := [.int .u64 k.pb, .int .i64 k.pm, .int .u64 k.pf]) e2 (by kernel_rfl) rfl rfl rfl rfl) ?_ | refine gdr (zds (us := [.int .i64 k.am, .int .u64 k.af, .int .u64 k.ao]) (vs := [.int .i64 k.am, .int .u64 k.af, .int .u64 k.ao]) e3 (by kernel_rfl) rfl rfl rfl rfl) ?_) | (refine hK _ ?_; clear hK K) | refine zad rfl ?_ | refine zaj rfl rfl ?_ | refine zam ?_ | refine zaq ?_ | refine zac (fun K hK => ?_))
  refine zbb (α := Nat) (fun i => i ≤ k.ss.length) (fun i => St.of [(2, .m (.c (.p 2 0))), (3, .m (.c (.p 3 0))), (5, .m (ii i))] [(2, .live (.box k.ce)), (3, .live (.box k.ce))]) (fun i => k.ss.length - i) 0 (by omega) (zas _ _ ⟨by kernel_rfl, by kernel_rfl, by kernel_rfl, trivial⟩ ⟨by kernel_rfl, by kernel_rfl, trivial⟩ (by kernel_rfl)) ?_
  intro i hi
  by_cases hlt : i < k.ss.length
  · obtain ⟨s, hs⟩ : ∃ s, k.ss[i]? = some s := ⟨_, List.getElem?_eq_getElem hlt⟩
    have hx : ((flS k.ss).drop (i * 3)).take 3 = [.int .u64 s.root, .int .u64 s.asid, .bool s.live] := zfe Sp.vs 3 (fun _ => rfl) k.ss _ s hs
    have he : ∀ w, (Op.equalIn 10000 92 (.agg #[.int .u64 s.root, .int .u64 s.asid, .bool s.live]) (.agg #[.int .u64 s.root, .int .u64 s.asid, .bool s.live])).run Tryz.prog w = .ok true w := fun w => by rw [zux]; simp
    repeat (first | (refine zai rfl ?_; first | refine gdr (zaa (.inl rfl) rfl) ?_ | refine gnk 1 rfl (za2 tb rfl rfl rfl rfl rfl) ?_ | refine gnx 1 rfl (zba tb rfl rfl rfl) rfl ?_ | refine gdr (zaa (.inr rfl) rfl) ?_ | refine gdr (za5 rfl rfl rfl rfl) ?_ | refine gdr (gar rfl rfl rfl rfl) ?_ | refine gdr (zah rfl rfl rfl rfl) ?_ | refine gnx 3 rfl (zav tb rfl rfl rfl rfl (by first | kernel_rfl | rfl)) rfl ?_ | refine gnx 4 rfl (zay rfl rfl rfl rfl rfl rfl (by omega) (by omega) _ (by assumption)) rfl ?_ | refine gdr (zds (us := [.int .u64 s.root, .int .u64 s.asid, .bool s.live]) (vs := [.int .u64 s.root, .int .u64 s.asid, .bool s.live]) he (by kernel_rfl) rfl rfl rfl rfl) ?_) | (refine hK _ ?_; clear hK K) | refine zad rfl ?_ | refine za3 (by kernel_rfl) (by kernel_rfl) rfl ?_ | refine zal rfl rfl ?_ | refine zaj rfl rfl ?_ | refine zam ?_ | refine zaq ?_ | refine zac (fun K hK => ?_))
    exact ⟨i + 1, by omega, by omega, zas _ _ ⟨rfl, rfl, rfl, trivial⟩ ⟨rfl, rfl, trivial⟩ rfl⟩
  · skip
    repeat (first | (refine zai rfl ?_; first | refine gdr (zaa (.inl rfl) rfl) ?_ | refine gnk 1 rfl (za2 tb rfl rfl rfl rfl rfl) ?_ | refine gnx 1 rfl (zba tb rfl rfl rfl) rfl ?_ | refine gdr (zaa (.inr rfl) rfl) ?_ | refine gdr (za5 rfl rfl rfl rfl) ?_ | refine gdr (zah rfl rfl rfl rfl) ?_) | (refine hK _ ?_; clear hK K) | (rename_i K1 hK1; refine hK1 _ ?_; clear hK hK1; clear K) | refine zad rfl ?_ | exact zao (show za6 _ _ _ = some _ by kernel_rfl) | refine zaj rfl rfl ?_ | refine zbi ?_ | refine zac (fun K hK => ?_))
end Go.Proofs.YtmkjfeamgknpfaaGreatDoor.SpM
namespace Go.Proofs.YtmkjfeamgknpfaaGreatDoor.SpN
open Go.RowKit Bv VaSpec Base MemL RegR Ax MemC PutC MemC3 TzC OkS SpA SpB SpC SpD IterC SpE SpF SpG SpH SpI SpJ SpK
open BitsC PteSpec
set_option maxRecDepth 10000
set_option maxHeartbeats 800000
attribute [local irreducible] Ax.zb4
theorem zfl {P : Program} {G : World → Prop} {k : FuncId} {args : List Cm} {r r' : AV} (h : zb4 P G k args r) (hc : zco r' = true) (hlt : r.lt r') : zb4 P G k args r' := by
  unfold zb4 at h ⊢
  obtain ⟨h1, h2, h3⟩ := h
  exact ⟨hc, h2, fun A W vs hG hR => (h3 A W vs hG hR).mono fun e w' ⟨v, he, hb, hr⟩ => ⟨v, he, hb, hlt _ _ hr⟩⟩
def ltC (c c' : Ce) : Prop := ∀ E v, c.R E v → c'.R E v
theorem ltC.rf (c : Ce) : ltC c c := fun _ _ h => h
theorem ltC.nil (k : Nat) : ltC (.v (.slice none 0 0)) (.s 0 k []) := fun E v h => by
  have h : v = .slice none 0 0 := h
  subst h
  exact ⟨⟨by simp, .inl ⟨rfl, rfl⟩⟩, fun a l c e => by cases e⟩
theorem zob {E : En} : ∀ (cs cs' : List Ce) (vs : List Value), All2 ltC cs cs' → All2 (Ce.R E) cs vs → All2 (Ce.R E) cs' vs
  | [], [], _, _, h => h
  | c :: cs, c' :: cs', [], _, h => h.elim
  | c :: cs, c' :: cs', v :: vs, k, h => ⟨k.1 _ _ h.1, zob cs cs' vs k.2 h.2⟩
  | [], _ :: _, _, k, _ => k.elim
  | _ :: _, [], _, k, _ => k.elim
theorem zz6 {cs cs' : List Ce} {l : List Cm} (h : All2 ltC cs cs') : AV.lt (.tu (.ag cs :: l)) (.tu (.ag cs' :: l)) := fun E v ⟨vs, e, k⟩ => by
  refine ⟨vs, e, ?_⟩
  generalize vs.toList = xs at k
  cases xs with
  | nil => exact k.elim
  | cons x xs =>
    obtain ⟨⟨us, e', k1⟩, k2⟩ := k
    exact ⟨⟨us, e', zob _ _ _ h k1⟩, k2⟩
theorem m_lt {cs cs' : List Ce} (h : All2 ltC cs cs') : AV.lt (.m (.ag cs)) (.m (.ag cs')) := fun E v ⟨vs, e, k⟩ => ⟨vs, e, zob _ _ _ h k⟩
def zfm (a b c d : Int) : Bool := decide (1 ≤ a) && (decide (a ≤ 524288) && (decide (1 ≤ b) && (decide (b ≤ 64) && (decide (1 ≤ c) && (decide (c ≤ 16) && (decide (0 ≤ d) && decide (d ≤ 16)))))))
theorem zcu {a b c d : Int} : zfm a b c d = true ↔ (1 ≤ a ∧ a ≤ 524288) ∧ (1 ≤ b ∧ b ≤ 64) ∧ (1 ≤ c ∧ c ≤ 16) ∧ (0 ≤ d ∧ d ≤ 16) := by
  unfold zfm; simp only [Bool.and_eq_true, decide_eq_true_eq]; omega
theorem zcz {a b c d : Int} (h : ¬ ((1 ≤ a ∧ a ≤ 524288) ∧ (1 ≤ b ∧ b ≤ 64) ∧ (1 ≤ c ∧ c ≤ 16) ∧ (0 ≤ d ∧ d ≤ 16))) : zfm a b c d = false := by
  cases e : zfm a b c d with
  | false => rfl
  | true => exact absurd (zcu.1 e) h
def zjl (a b c d : Int) : Cm := .ag [ci a, ci b, ci c, ci d]
theorem zsu (a b c d : Int) : Ok 9 [zjl a b c d] (.m (ib (zfm a b c d))) := by
  by_cases h1 : 1 ≤ a
  · by_cases h2 : a ≤ 524288
    · by_cases h3 : 1 ≤ b
      · by_cases h4 : b ≤ 64
        · by_cases h5 : 1 ≤ c
          · by_cases h6 : c ≤ 16
            · by_cases h7 : 0 ≤ d
              · by_cases h8 : d ≤ 16
                · rw [zcu.2 (by omega)]
                  refine zaf 41 Tryz.func9 rfl rfl rfl rfl ?_ GG.to
                  intro W A hG
                  repeat (first | (refine zai rfl ?_; first | refine gdr (zaa (.inl rfl) rfl) ?_ | refine gnk 1 rfl (za2 tb rfl rfl rfl rfl rfl) ?_ | refine gnx 1 rfl (zba tb rfl rfl rfl) rfl ?_ | refine gdr (zaa (.inr rfl) rfl) ?_ | refine gdr (zak rfl rfl rfl) ?_ | refine gdr (za5 rfl rfl rfl rfl) ?_ | refine gdr (zag rfl rfl rfl rfl rfl rfl) ?_) | (refine hK _ ?_; clear hK K) | refine zad rfl ?_ | exact zao (show za6 _ _ _ = some _ by kernel_rfl) | refine zac (fun K hK => ?_))
                · rw [zcz (by omega)]
                  refine zaf 41 Tryz.func9 rfl rfl rfl rfl ?_ GG.to
                  intro W A hG
                  repeat (first | (refine zai rfl ?_; first | refine gdr (zaa (.inl rfl) rfl) ?_ | refine gnk 1 rfl (za2 tb rfl rfl rfl rfl rfl) ?_ | refine gnx 1 rfl (zba tb rfl rfl rfl) rfl ?_ | refine gdr (zaa (.inr rfl) rfl) ?_ | refine gdr (zak rfl rfl rfl) ?_ | refine gdr (za5 rfl rfl rfl rfl) ?_ | refine gdr (zag rfl rfl rfl rfl rfl rfl) ?_) | (refine hK _ ?_; clear hK K) | refine zad rfl ?_ | exact zao (show za6 _ _ _ = some _ by kernel_rfl) | refine zac (fun K hK => ?_))
              · rw [zcz (by omega)]
                refine zaf 41 Tryz.func9 rfl rfl rfl rfl ?_ GG.to
                intro W A hG
                repeat (first | (refine zai rfl ?_; first | refine gdr (zaw rfl) ?_ | refine gdr (zaa (.inl rfl) rfl) ?_ | refine gnk 1 rfl (za2 tb rfl rfl rfl rfl rfl) ?_ | refine gnx 1 rfl (zba tb rfl rfl rfl) rfl ?_ | refine gdr (zaa (.inr rfl) rfl) ?_ | refine gdr (zak rfl rfl rfl) ?_ | refine gdr (za5 rfl rfl rfl rfl) ?_ | refine gdr (zag rfl rfl rfl rfl rfl rfl) ?_) | (refine hK _ ?_; clear hK K) | refine zad rfl ?_ | exact zao (show za6 _ _ _ = some _ by kernel_rfl) | refine zac (fun K hK => ?_))
            · rw [zcz (by omega)]
              refine zaf 41 Tryz.func9 rfl rfl rfl rfl ?_ GG.to
              intro W A hG
              repeat (first | (refine zai rfl ?_; first | refine gdr (zaw rfl) ?_ | refine gdr (zaa (.inl rfl) rfl) ?_ | refine gnk 1 rfl (za2 tb rfl rfl rfl rfl rfl) ?_ | refine gnx 1 rfl (zba tb rfl rfl rfl) rfl ?_ | refine gdr (zaa (.inr rfl) rfl) ?_ | refine gdr (zak rfl rfl rfl) ?_ | refine gdr (za5 rfl rfl rfl rfl) ?_ | refine gdr (zag rfl rfl rfl rfl rfl rfl) ?_) | (refine hK _ ?_; clear hK K) | refine zad rfl ?_ | exact zao (show za6 _ _ _ = some _ by kernel_rfl) | refine zac (fun K hK => ?_))
          · rw [zcz (by omega)]
            refine zaf 41 Tryz.func9 rfl rfl rfl rfl ?_ GG.to
            intro W A hG
            repeat (first | (refine zai rfl ?_; first | refine gdr (zaw rfl) ?_ | refine gdr (zaa (.inl rfl) rfl) ?_ | refine gnk 1 rfl (za2 tb rfl rfl rfl rfl rfl) ?_ | refine gnx 1 rfl (zba tb rfl rfl rfl) rfl ?_ | refine gdr (zaa (.inr rfl) rfl) ?_ | refine gdr (zak rfl rfl rfl) ?_ | refine gdr (za5 rfl rfl rfl rfl) ?_ | refine gdr (zag rfl rfl rfl rfl rfl rfl) ?_) | (refine hK _ ?_; clear hK K) | refine zad rfl ?_ | exact zao (show za6 _ _ _ = some _ by kernel_rfl) | refine zac (fun K hK => ?_))
        · rw [zcz (by omega)]
          refine zaf 41 Tryz.func9 rfl rfl rfl rfl ?_ GG.to
          intro W A hG
          repeat (first | (refine zai rfl ?_; first | refine gdr (zaw rfl) ?_ | refine gdr (zaa (.inl rfl) rfl) ?_ | refine gnk 1 rfl (za2 tb rfl rfl rfl rfl rfl) ?_ | refine gnx 1 rfl (zba tb rfl rfl rfl) rfl ?_ | refine gdr (zaa (.inr rfl) rfl) ?_ | refine gdr (zak rfl rfl rfl) ?_ | refine gdr (za5 rfl rfl rfl rfl) ?_ | refine gdr (zag rfl rfl rfl rfl rfl rfl) ?_) | (refine hK _ ?_; clear hK K) | refine zad rfl ?_ | exact zao (show za6 _ _ _ = some _ by kernel_rfl) | refine zac (fun K hK => ?_))
      · rw [zcz (by omega)]
        refine zaf 41 Tryz.func9 rfl rfl rfl rfl ?_ GG.to
        intro W A hG
        repeat (first | (refine zai rfl ?_; first | refine gdr (zaw rfl) ?_ | refine gdr (zaa (.inl rfl) rfl) ?_ | refine gnk 1 rfl (za2 tb rfl rfl rfl rfl rfl) ?_ | refine gnx 1 rfl (zba tb rfl rfl rfl) rfl ?_ | refine gdr (zaa (.inr rfl) rfl) ?_ | refine gdr (zak rfl rfl rfl) ?_ | refine gdr (za5 rfl rfl rfl rfl) ?_ | refine gdr (zag rfl rfl rfl rfl rfl rfl) ?_) | (refine hK _ ?_; clear hK K) | refine zad rfl ?_ | exact zao (show za6 _ _ _ = some _ by kernel_rfl) | refine zac (fun K hK => ?_))
    · rw [zcz (by omega)]
      refine zaf 41 Tryz.func9 rfl rfl rfl rfl ?_ GG.to
      intro W A hG
      repeat (first | (refine zai rfl ?_; first | refine gdr (zaw rfl) ?_ | refine gdr (zaa (.inl rfl) rfl) ?_ | refine gnk 1 rfl (za2 tb rfl rfl rfl rfl rfl) ?_ | refine gnx 1 rfl (zba tb rfl rfl rfl) rfl ?_ | refine gdr (zaa (.inr rfl) rfl) ?_ | refine gdr (zak rfl rfl rfl) ?_ | refine gdr (za5 rfl rfl rfl rfl) ?_ | refine gdr (zag rfl rfl rfl rfl rfl rfl) ?_) | (refine hK _ ?_; clear hK K) | refine zad rfl ?_ | exact zao (show za6 _ _ _ = some _ by kernel_rfl) | refine zac (fun K hK => ?_))
  · rw [zcz (by omega)]
    refine zaf 41 Tryz.func9 rfl rfl rfl rfl ?_ GG.to
    intro W A hG
    repeat (first | (refine zai rfl ?_; first | refine gdr (zaw rfl) ?_ | refine gdr (zaa (.inl rfl) rfl) ?_ | refine gnk 1 rfl (za2 tb rfl rfl rfl rfl rfl) ?_ | refine gnx 1 rfl (zba tb rfl rfl rfl) rfl ?_ | refine gdr (zaa (.inr rfl) rfl) ?_ | refine gdr (zak rfl rfl rfl) ?_ | refine gdr (za5 rfl rfl rfl rfl) ?_ | refine gdr (zag rfl rfl rfl rfl rfl rfl) ?_) | (refine hK _ ?_; clear hK K) | refine zad rfl ?_ | exact zao (show za6 _ _ _ = some _ by kernel_rfl) | refine zac (fun K hK => ?_))
theorem zd0 {n a b : Int} (h : a ≤ n ∧ n ≤ b) : Ok 102 [ii n, ii a, ii b] (.m (ib true)) := by
  have := zmf n a b
  rwa [show zdl n a b = true by simp [zdl, h.1, h.2]] at this
theorem zi1 {n a b : Int} (h : ¬ (a ≤ n ∧ n ≤ b)) : Ok 102 [ii n, ii a, ii b] (.m (ib false)) := by
  have := zmf n a b
  rwa [show zdl n a b = false by cases e : zdl n a b with | false => rfl | true => (simp [zdl] at e; exact absurd e h)] at this
theorem zxt (a b c d : Int) : Ok 75 [zjl a b c d] (.m (ib (zfm a b c d))) := by
  by_cases h1 : 1 ≤ a ∧ a ≤ 524288
  · by_cases h2 : 1 ≤ b ∧ b ≤ 64
    · by_cases h3 : 1 ≤ c ∧ c ≤ 16
      · by_cases h4 : 0 ≤ d ∧ d ≤ 16
        · rw [zcu.2 (by omega)]
          refine zaf 21 Tryz.func75 rfl rfl rfl rfl ?_ GG.to
          intro W A hG
          repeat (first | (refine zai rfl ?_; first | refine gdr (zaa (.inl rfl) rfl) ?_ | refine gnk 1 rfl (za2 tb rfl rfl rfl rfl rfl) ?_ | refine gnx 1 rfl (zba tb rfl rfl rfl) rfl ?_ | refine gdr (zaa (.inr rfl) rfl) ?_ | refine gdr (zak rfl rfl rfl) ?_ | refine gdr (zag rfl rfl rfl rfl rfl rfl) ?_ | refine gdr (zab rfl rfl rfl (zd0 h1) rfl) ?_ | refine gdr (zab rfl rfl rfl (zd0 h2) rfl) ?_ | refine gdr (zab rfl rfl rfl (zd0 h3) rfl) ?_ | refine gdr (zab rfl rfl rfl (zd0 h4) rfl) ?_) | (refine hK _ ?_; clear hK K) | refine zad rfl ?_ | exact zao (show za6 _ _ _ = some _ by kernel_rfl) | refine zac (fun K hK => ?_))
        · rw [zcz (by omega)]
          refine zaf 21 Tryz.func75 rfl rfl rfl rfl ?_ GG.to
          intro W A hG
          repeat (first | (refine zai rfl ?_; first | refine gdr (zaa (.inl rfl) rfl) ?_ | refine gnk 1 rfl (za2 tb rfl rfl rfl rfl rfl) ?_ | refine gnx 1 rfl (zba tb rfl rfl rfl) rfl ?_ | refine gdr (zaa (.inr rfl) rfl) ?_ | refine gdr (zak rfl rfl rfl) ?_ | refine gdr (zag rfl rfl rfl rfl rfl rfl) ?_ | refine gdr (zab rfl rfl rfl (zd0 h1) rfl) ?_ | refine gdr (zab rfl rfl rfl (zd0 h2) rfl) ?_ | refine gdr (zab rfl rfl rfl (zd0 h3) rfl) ?_ | refine gdr (zab rfl rfl rfl (zi1 h4) rfl) ?_) | (refine hK _ ?_; clear hK K) | refine zad rfl ?_ | exact zao (show za6 _ _ _ = some _ by kernel_rfl) | refine zac (fun K hK => ?_))
      · rw [zcz (by omega)]
        refine zaf 21 Tryz.func75 rfl rfl rfl rfl ?_ GG.to
        intro W A hG
        repeat (first | (refine zai rfl ?_; first | refine gdr (zaw rfl) ?_ | refine gdr (zaa (.inl rfl) rfl) ?_ | refine gnk 1 rfl (za2 tb rfl rfl rfl rfl rfl) ?_ | refine gnx 1 rfl (zba tb rfl rfl rfl) rfl ?_ | refine gdr (zaa (.inr rfl) rfl) ?_ | refine gdr (zak rfl rfl rfl) ?_ | refine gdr (zag rfl rfl rfl rfl rfl rfl) ?_ | refine gdr (zab rfl rfl rfl (zd0 h1) rfl) ?_ | refine gdr (zab rfl rfl rfl (zd0 h2) rfl) ?_ | refine gdr (zab rfl rfl rfl (zi1 h3) rfl) ?_) | (refine hK _ ?_; clear hK K) | refine zad rfl ?_ | exact zao (show za6 _ _ _ = some _ by kernel_rfl) | refine zac (fun K hK => ?_))
    · rw [zcz (by omega)]
      refine zaf 21 Tryz.func75 rfl rfl rfl rfl ?_ GG.to
      intro W A hG
      repeat (first | (refine zai rfl ?_; first | refine gdr (zaw rfl) ?_ | refine gdr (zaa (.inl rfl) rfl) ?_ | refine gnk 1 rfl (za2 tb rfl rfl rfl rfl rfl) ?_ | refine gnx 1 rfl (zba tb rfl rfl rfl) rfl ?_ | refine gdr (zaa (.inr rfl) rfl) ?_ | refine gdr (zak rfl rfl rfl) ?_ | refine gdr (zag rfl rfl rfl rfl rfl rfl) ?_ | refine gdr (zab rfl rfl rfl (zd0 h1) rfl) ?_ | refine gdr (zab rfl rfl rfl (zi1 h2) rfl) ?_) | (refine hK _ ?_; clear hK K) | refine zad rfl ?_ | exact zao (show za6 _ _ _ = some _ by kernel_rfl) | refine zac (fun K hK => ?_))
  · rw [zcz (by omega)]
    refine zaf 21 Tryz.func75 rfl rfl rfl rfl ?_ GG.to
    intro W A hG
    repeat (first | (refine zai rfl ?_; first | refine gdr (zaw rfl) ?_ | refine gdr (zaa (.inl rfl) rfl) ?_ | refine gnk 1 rfl (za2 tb rfl rfl rfl rfl rfl) ?_ | refine gnx 1 rfl (zba tb rfl rfl rfl) rfl ?_ | refine gdr (zaa (.inr rfl) rfl) ?_ | refine gdr (zak rfl rfl rfl) ?_ | refine gdr (zag rfl rfl rfl rfl rfl rfl) ?_ | refine gdr (zab rfl rfl rfl (zi1 h1) rfl) ?_) | (refine hK _ ?_; clear hK K) | refine zad rfl ?_ | exact zao (show za6 _ _ _ = some _ by kernel_rfl) | refine zac (fun K hK => ?_))
def zcq (n : Int) : Int := zdt 18446744073709551615 0 n
theorem zi2 {n : Int} (h0 : 0 ≤ n) (h : n ≤ 64) : 0 ≤ zcq n ∧ zcq n < 2 ^ n.toNat := by
  refine ⟨(zrs _ _ _).1, ?_⟩
  unfold zcq
  rw [zcx _ _ _ ⟨by omega, by omega⟩ h]
  exact Int.emod_lt_of_pos _ (Int.pow_pos (by omega))
theorem zkx {n : Int} (h0 : 1 ≤ n) (h : n ≤ 64) : zcq n ≠ 0 := by
  unfold zcq
  rw [zcx _ _ _ ⟨by omega, by omega⟩ h]
  intro e
  obtain ⟨k, hk⟩ : ∃ k, n.toNat = k + 1 := ⟨n.toNat - 1, by omega⟩
  have := Int.emod_emod_of_dvd (18446744073709551615 / 2 ^ (0 : Int).toNat) (show (2 : Int) ∣ 2 ^ n.toNat from ⟨2 ^ k, by rw [hk, Int.pow_succ, Int.mul_comm]⟩)
  rw [e] at this
  revert this; decide
def zlh (a b c : Int) (n : Nat) : Kr := { cd := a, cp := b, ca := c, cs := n, sz := (a + b) * 4096, m := [], tn := n, ts := zsL n, sm := 0, sa := 0, sp := 0, priv := 0, su := false, mx := false, vic := -1, pb := a, pm := b, pf := zbq (zcq b) (tzI (zcq b)) 1 0, am := c, af := zcq c, ao := 0, ss := [], now := -1, sh := a + tzI (zcq b), fs := [] }
theorem zxu (sz : Int) (h : 0 ≤ sz) (h1 : sz ≤ 1099511627776) (h2 : sz % 4096 = 0) : Ok 76 [iu sz] (.tu [zbz sz [], ii 0]) := by
  have hz : U sz := ⟨h, by omega⟩
  have := zr5 sz hz
  have e : MemNewC.zjt sz = true := by
    unfold MemNewC.zjt ze4
    rw [if_neg (by omega), h2, decide_eq_true h1]; rfl
  unfold MemNewC.newV at this
  rw [if_pos e] at this
  exact zfl this rfl (zz6 (cs := [cu sz, .v (.slice none 0 0)]) ⟨ltC.rf _, ltC.nil 2, trivial⟩)
theorem zu0 (b m : Int) (hb : 0 ≤ b ∧ b ≤ 268435456) (hm : 0 ≤ m ∧ m ≤ 64) : Ok 77 [iu b, ii m] (.tu [.ag [cu b, ci m, cu (zcq m)], ii 0]) := by
  have := zqo b m ⟨hb.1, by omega⟩ hm
  have e : PoolC2.zju b m 0 = true := by
    unfold PoolC2.zju
    rw [decide_eq_true hm.1, decide_eq_true hm.2, decide_eq_true hb.2, zcx _ _ _ ⟨by omega, by omega⟩ hm.2]
    simp
  unfold PoolC2.newV at this
  rw [if_pos e] at this
  exact this
theorem zu1 (m : Int) (hm : 1 ≤ m ∧ m ≤ 16) : Ok 78 [ii m] (.tu [.ag [ci m, cu (zcq m), cu 0], ii 0]) := by
  have := zqp m
  have e : AsidC2.newV m = .tuple #[.agg #[.int .i64 m, .int .u64 (zcq m), .int .u64 0], .int .i64 0] := by
    unfold AsidC2.newV
    rw [if_pos]; rfl
    unfold AsidC.zfd AsidC.zfc
    rw [decide_eq_true hm.1, decide_eq_true hm.2, zcx _ _ _ ⟨by omega, by omega⟩ (by omega)]
    simp
  rw [e] at this
  exact this
theorem zset : ∃ z, (Tryz.prog.info? 213).bind (·.zero) = some z ∧ z.cells.toList = zS := by
  refine ⟨.agg zS.toArray, by kernel_rfl, ?_⟩
  show zS.toArray.toList = zS
  rfl
theorem zxv (n : Nat) : ∀ i : Nat, i < n * 45 → (zsL n)[i]? = zS[i % 45]? := by
  induction n with
  | zero => intro i h; omega
  | succ n ih =>
    intro i h
    have e : zsL (n + 1) = zS ++ zsL n := rfl
    have l : zS.length = 45 := rfl
    rw [e]
    by_cases hi : i < 45
    · rw [List.getElem?_append_left (by omega), Nat.mod_eq_of_lt hi]
    · rw [List.getElem?_append_right (by omega), l, ih (i - 45) (by omega), Nat.mod_eq_sub_mod (by omega : 45 ≤ i)]
theorem zxw (n : Nat) : (zsL n).length = n * 45 := by
  induction n with
  | zero => rfl
  | succ n ih =>
    have e : zsL (n + 1) = zS ++ zsL n := rfl
    have l : zS.length = 45 := rfl
    rw [e, List.length_append, ih, l]; omega
theorem zsv (n : Nat) (z : Value) (h : z.cells.toList = zS) : (madeCells z.cells (n * 45)).toList = zsL n := by
  have l : z.cells.size = 45 := by rw [← Array.length_toList, h]; rfl
  apply List.ext_getElem?
  intro i
  by_cases hi : i < n * 45
  · rw [zxv n i hi, ← h]
    simp [madeCells, hi, l, List.getElem?_eq_getElem, Nat.mod_lt]
  · rw [List.getElem?_eq_none (by rw [Array.length_toList, size_madeCells]; omega), List.getElem?_eq_none (by rw [zxw]; omega)]
theorem zxx (n : Nat) (hn : n ≤ 16) : Ok 79 [ii n] (.tu [.ag [.s n 45 (zsL n)], ii 0]) := by
  obtain ⟨z, hz, hc⟩ := zset
  have := zr7 n hn z hz
  rwa [zsv n z hc] at this
theorem zxy (a b c : Int) (n : Nat) (h : zfm a b c n = true) : Ok 31 [zjl a b c n] (.tu [.ag (zlh a b c n).ce, ii 0]) := by
  obtain ⟨ha, hb, hc, hn⟩ := zcu.1 h
  have hm := zxt a b c n
  rw [h] at hm
  have l1 := zi2 (n := b) (by omega) (by omega)
  have l2 := zkx (n := b) (by omega) (by omega)
  have h1 := zxu ((a + b) * 4096) (by omega) (by omega) (by omega)
  have h2 := zu0 a b (by omega) (by omega)
  have h3 := zu1 c hc
  have h4 := zxx n (by omega)
  have h5 := zfu ((a + b) * 4096) [] a b (zcq b) (by omega) (by omega) (zhq l1.1 l1.2 (by omega)) l2 List.Pairwise.nil (by simp)
  have key : Ok 31 [zjl a b c n] (.tu [.ag [ci a, ci b, ci c, ci n, cu ((a + b) * 4096), .s 0 2 [], .s n 45 (zsL n), cu 0, cu 0, cu 0, ci 0, cb false, cb false, ci (-1), cu a, ci b, cu (zbq (zcq b) (tzI (zcq b)) 1 0), ci c, cu (zcq c), cu 0, .v (.slice none 0 0), ci (-1), cu (a + tzI (zcq b)), .v (.slice none 0 0)], ii 0]) := by
    refine zaf 63 Tryz.func31 rfl rfl rfl rfl ?_ GG.to
    intro W A hG
    repeat (first | (refine zai rfl ?_; first | refine gdr (zaa (.inl rfl) rfl) ?_ | refine gnk 1 rfl (za2 tb rfl rfl rfl rfl rfl) ?_ | refine gnx 1 rfl (zba tb rfl rfl rfl) rfl ?_ | refine gdr (zaa (.inr rfl) rfl) ?_ | refine gdr (zan rfl rfl rfl rfl) ?_ | refine gdr (gar rfl rfl rfl rfl) ?_ | refine gdr (gcv rfl rfl rfl rfl rfl) ?_ | refine gdr (zag rfl rfl rfl rfl rfl rfl) ?_ | refine gdr (zae rfl rfl rfl rfl rfl) ?_ | refine gnk 1 rfl (zbg rfl rfl rfl rfl rfl rfl rfl) ?_ | refine gdr (zau rfl rfl rfl) ?_ | refine gdr (zar rfl rfl rfl rfl) ?_ | refine gdr (zab rfl rfl rfl (hm) (by kernel_rfl)) ?_ | refine gdr (zab rfl rfl rfl (h1) (by kernel_rfl)) ?_ | refine gdr (zab rfl rfl rfl (h2) (by kernel_rfl)) ?_ | refine gdr (zab rfl rfl rfl (h3) (by kernel_rfl)) ?_ | refine gdr (zab rfl rfl rfl (h4) (by kernel_rfl)) ?_ | refine gdr (zab rfl rfl rfl (h5) (by kernel_rfl)) ?_) | (refine hK _ ?_; clear hK K) | refine zad rfl ?_ | exact zao (show za6 _ _ _ = some _ by kernel_rfl) | refine zaj rfl rfl ?_ | refine zaq ?_ | refine zac (fun K hK => ?_))
  refine zfl key rfl (zz6 ?_)
  exact ⟨ltC.rf _, ltC.rf _, ltC.rf _, ltC.rf _, ltC.rf _, ltC.rf _, ltC.rf _, ltC.rf _, ltC.rf _, ltC.rf _, ltC.rf _, ltC.rf _, ltC.rf _, ltC.rf _, ltC.rf _, ltC.rf _, ltC.rf _, ltC.rf _, ltC.rf _, ltC.rf _, ltC.nil 3, ltC.rf _, ltC.rf _, ltC.nil 4, trivial⟩
theorem zky {a b c : Int} {n : Nat} (h : zfm a b c n = true) : Inv 0 (zlh a b c n) := by
  obtain ⟨ha, hb, hc, hn⟩ := zcu.1 h
  have l1 := zi2 (n := b) (by omega) (by omega)
  have l2 := zkx (n := b) (by omega) (by omega)
  have l3 := zi2 (n := c) (by omega) (by omega)
  have u1 : U (zcq b) := zhq l1.1 l1.2 (by omega)
  have t := zc7 u1 l1.2 l2
  exact { cd := ha, cp := hb, ca := hc, cs := ⟨rfl, by show n ≤ 16; omega⟩, sz := rfl, pb := rfl, pm := rfl, am := rfl, pf := ⟨(zez _ _ _ _).1, zgb u1 l1.2 t.1 t.2⟩, af := l3, ao := ⟨by show (0 : Int) ≤ 0; omega, by show (0 : Int) < _; exact Int.pow_pos (by omega)⟩, sh := ⟨by show a ≤ a + _; omega, by show a + tzI (zcq b) < a + b; omega⟩, ts := rfl, m := List.Pairwise.nil, mc := fun c hc => (by cases hc), ml := Nat.le_refl _, fl := Nat.le_refl _, sl := by show 0 ≤ 32; omega, ss := fun s hs => (by cases hs), nw := .inl ⟨rfl, rfl, rfl, rfl⟩ }
def i8 (n : Int) : Ce := .v (.int .u8 n)
end Go.Proofs.YtmkjfeamgknpfaaGreatDoor.SpN
namespace Go.Proofs.YtmkjfeamgknpfaaGreatDoor.RfP
open Go.RowKit Bv VaSpec Base MemL RegR Ax MemC PutC MemC3 TzC OkS SpA SpB SpC SpD IterC SpE SpF SpG SpH SpI SpJ SpK SpN
open BitsC PteSpec
theorem zsw {x : Int} (h : U x) (h0 : x ≠ 0) : ∃ m, x.toNat = 2 ^ (tzI x).toNat * (2 * m + 1) := by
  obtain ⟨h1, h2⟩ := h
  obtain ⟨m, hm, _⟩ := Lib.ctzFrom_spec 64 x.toNat (by omega) (by omega)
  refine ⟨m, ?_⟩
  have : (tzI x).toNat = Lib.ctzFrom 64 x.toNat := by
    unfold tzI Lib.ctz
    rw [if_neg (by omega)]; simp
  rw [this]; exact hm
theorem zmp {x : Int} (h : U x) (h0 : x ≠ 0) : zha x (tzI x) = true := by
  obtain ⟨m, hm⟩ := zsw h h0
  rw [zev (by unfold tzI; omega), ← BitVec.testBit_toNat, zxl h, hm, Nat.testBit_two_pow_mul]
  simp
theorem zi3 {x i : Int} (h : U x) (h0 : x ≠ 0) (hi : 0 ≤ i) (hlt : i < tzI x) : zha x i = false := by
  obtain ⟨m, hm⟩ := zsw h h0
  rw [zev hi, ← BitVec.testBit_toNat, zxl h, hm, Nat.testBit_two_pow_mul]
  simp; omega
theorem zpj (i : Int) (hi : 0 ≤ i) : zha 0 i = false := by
  rw [zev hi]
  rw [show X 0 = 0#64 from rfl, BitVec.getLsbD_zero]
theorem zu2 (x i : Int) (hi : 0 ≤ i) : (zdt x i 1 == 0) = !zha x i := by
  have hu := zrs x i 1
  have hlt : zdt x i 1 < 2 := by
    unfold zdt
    have hb := fun j => zep (X x) i.toNat 1 j
    have : (zkk (X x) i.toNat 1).toNat < 2 ^ 1 := zg9 fun j hj => by rw [hb j, decide_eq_false (by omega), Bool.false_and]
    rw [show (1 : Int).toNat = 1 from rfl]; unfold B; omega
  unfold zha
  rcases (by have := hu.1; omega : zdt x i 1 = 0 ∨ zdt x i 1 = 1) with e | e <;> rw [e] <;> rfl
theorem zpk (j : Nat) (hj : j < 64) : (X 18446744073709551615).getLsbD j = true := by
  rw [show X 18446744073709551615 = BitVec.allOnes 64 from rfl, BitVec.getLsbD_allOnes, decide_eq_true hj]
theorem zmq (i : Int) (h0 : 0 ≤ i) (h : i < 64) : zbq (zcq i) i 1 1 = zcq (i + 1) := by
  unfold zbq zcq zdt
  rw [X_B]
  congr 1
  apply BitVec.eq_of_getLsbD_eq
  intro j hj
  rw [zeq, zep, zep, decide_eq_true hj, Bool.true_and, show (1 : Int).toNat = 1 from rfl, show (0 : Int).toNat = 0 from rfl, Nat.zero_add, zpk j hj, Bool.and_true, Bool.and_true]
  by_cases e : j = i.toNat
  · rw [if_pos ⟨by omega, by omega⟩, e, Nat.sub_self, decide_eq_true (by omega)]; rfl
  · rw [if_neg (by omega)]
    by_cases e2 : j < i.toNat
    · rw [decide_eq_true e2, decide_eq_true (by omega)]
    · rw [decide_eq_false e2, decide_eq_false (by omega)]
theorem allI_zero : zcq 0 = 0 := by
  unfold zcq
  rw [zcx _ _ _ ⟨by omega, by omega⟩ (by omega)]
  decide
theorem zmr (n : Int) : U (zcq n) := zrs _ _ _
end Go.Proofs.YtmkjfeamgknpfaaGreatDoor.RfP
