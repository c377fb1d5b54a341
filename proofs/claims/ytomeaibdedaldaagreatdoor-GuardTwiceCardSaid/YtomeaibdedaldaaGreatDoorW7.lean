/- Texts of this claim, one behind the other: LnH, LoA, LrD, LoB, LoC, LoD, LoE, LoF. -/
import Derived.Test.YtomeaibdedaldaaGreatDoorW6
import Derived.Test.YtomeaibdedaldaaGreatDoorW4
import Derived.Test.YtomeaibdedaldaaGreatDoorW5
set_option linter.unusedVariables false
set_option linter.unusedSimpArgs false
set_option maxRecDepth 20000
set_option maxHeartbeats 4000000
namespace Go.Proofs.YtomeaibdedaldaaGreatDoor
namespace LnH
open Go.RowKit Bv VaSpec Base MemL RegR Ax MemC PutC OkS SpA SpB SpC SpD SpE SpF SpN SpO SpH SpI LaA LaB LaC LaD LaE LaG LiA LiB LiC LiE LrA LrB LjA LjF LkE LmA LmE LnA LnB BitsC PteSpec RfG RfJ RfK LaH RfQ LnD LnF LnG
theorem z1p {sz sh : Int} {xs xs' : List (Int × Int)} {al al' : Int → Prop} {R : Int → Int → Prop} (h : Rm (atM sz xs) al sh R (atM sz xs') al') (hk : ∀ s i, (0 ≤ i ∧ i < 512) → ∀ l, 1 ≤ l → za2 (atM sz xs s i) l = true → lkP (atM sz xs s i) = true) (v w : Int) (hw : 0 ≤ w) {t : Int} : ∀ (l : Nat) (t0 : Int), zao sz xs v w l t0 = (t, w) → zas (atM sz xs t (idx v w)) = true → ¬ R t (idx v w) → (w ≤ (l : Int)) →
 ¬ Dd (atM sz xs) sh R t0 (idx v (l : Int)) ∧ atM sz xs t0 (idx v (l : Int)) ≠ zP ∧ zao sz xs' v w l t0 = (t, w) := by
 have base : ∀ (l : Nat) (t0 : Int), zas (atM sz xs t0 (idx v (l : Int))) = true → ¬ R t0 (idx v (l : Int)) → ¬ Dd (atM sz xs) sh R t0 (idx v (l : Int)) ∧ atM sz xs t0 (idx v (l : Int)) ≠ zP := fun l t0 hlf hR => by
  refine ⟨fun hd => ?_, zy4 hlf⟩; rcases hd.inv with ⟨_, q⟩ | ⟨q, _⟩
  · exact hR q
  · rw [zcg hlf] at q; cases q
 intro l
 induction l with
 | zero =>
  intro t0 hr hlf hR _; have hr : (t0, (0 : Int)) = (t, w) := hr; simp only [Prod.mk.injEq] at hr; obtain ⟨rfl, rfl⟩ := hr; obtain ⟨b1, b2⟩ := base 0 t0 hlf hR; exact ⟨b1, b2, rfl⟩
 | succ l ih =>
  intro t0 hr hlf hR hwl; have hi := idx_bd v ((l + 1 : Nat) : Int); by_cases cg : w < ((l + 1 : Nat) : Int) ∧ za2 (atM sz xs t0 (idx v ((l + 1 : Nat) : Int))) ((l + 1 : Nat) : Int) = true
  · have k1 := hk t0 _ hi _ (by omega) cg.2; rw [zbk cg.1 cg.2] at hr; obtain ⟨q1, q2, q3⟩ := ih _ hr hlf hR (by omega); have hnd : ¬ Dd (atM sz xs) sh R t0 (idx v ((l + 1 : Nat) : Int)) := fun hd => by
     rcases hd.inv with ⟨q, _⟩ | ⟨_, _, q⟩
     · rw [zcg q] at k1; cases k1
     · exact q1 (q _ (idx_bd _ _) q2)
    have e := h.k t0 _ hi hnd; refine ⟨hnd, zn9 k1, ?_⟩; rw [zbk cg.1 (by rw [e]; exact cg.2), e]
    exact q3
  · have hno : zao sz xs v w (l + 1) t0 = (t0, ((l + 1 : Nat) : Int)) := zbh (fun hh => by
     cases e : za2 (atM sz xs t0 (idx v ((l + 1 : Nat) : Int))) ((l + 1 : Nat) : Int) with
     | false => rfl
     | true => exact absurd ⟨hh, e⟩ cg) hw
    rw [hno] at hr; simp only [Prod.mk.injEq] at hr; obtain ⟨rfl, rfl⟩ := hr; obtain ⟨b1, b2⟩ := base (l + 1) t0 hlf hR; exact ⟨b1, b2, zbh (fun hh => absurd hh (by omega)) hw⟩
structure PJ (k : Kr) (lv : Int → Int) (R : Int → Int → Prop) (b : Kr) : Prop where
 e : b = { k with m := b.m, pf := b.pf, fs := b.fs }
 t : TI k.cd k.cp k.sz b.m b.pf k.sh lv
 r : Rm (atM k.sz k.m) (Al k.cd k.cp k.pf) k.sh R (atM k.sz b.m) (Al k.cd k.cp b.pf)
theorem Rm.refl (E : Int → Int → Pte) (al : Int → Prop) (sh : Int) (hn : NE E sh) (hl : ∀ s i, (0 ≤ i ∧ i < 512) → E s i ≠ zP → zas (E s i) = true ∨ lkP (E s i) = true) : Rm E al sh (fun _ _ => False) E al := by
 have no : ∀ {s i}, Dd E sh (fun _ _ => False) s i → (0 ≤ i ∧ i < 512) → False := fun {s i} hd => by
  induction hd with
  | lf _ r => exact fun _ => r
  | @lk s i h n a ih =>
   intro hi; obtain ⟨j, hj, hne⟩ := hn s i hi h n; exact ih j hj hne hj
 exact ⟨fun s i hi hd => (no hd hi).elim, fun _ _ _ _ => rfl, fun s => ⟨fun q => ⟨q, fun t i hi _ _ hd => no hd hi⟩, fun q => q.1⟩⟩
theorem z5a {n : Nat} {k b : Kr} {lv : Int → Int} {R : Int → Int → Prop} {id v w top : Int} {l0 : Nat} {t : Int} (hb : InvT n b) (hN : NE (atM k.sz k.m) k.sh) (hT : TI k.cd k.cp k.sz k.m k.pf k.sh lv) (P : PJ k lv R b) (hw : 0 ≤ w) (hwh : zal k id v w = (top, (l0 : Int), 0)) (hl : lv top = l0) (h02 : l0 ≤ 2) (hwl : w ≤ (l0 : Int)) (hH : l0 = 2 → idx v 2 ≠ 511) (h0 : l0 = 2 ∨ top = k.sh)
 (hr : zao k.sz k.m v w l0 top = (t, w)) (hlf : zas (atM k.sz k.m t (idx v w)) = true) (hR : ¬ R t (idx v w)) :
 (unR b id v w).2 = 0 ∧ PJ k lv (fun s j => R s j ∨ (s = t ∧ j = idx v w)) (unR b id v w).1 := by
 obtain ⟨w', rfl⟩ := Int.eq_ofNat_of_zero_le hw; have hi := idx_bd v (w' : Int); have q3 := (z1p P.r (fun s i hi l h1 h2 => (zh3 hT hi h2).1) v (w' : Int) hw l0 top hr hlf hR hwl).2.2; have hnd : ¬ Dd (atM k.sz k.m) k.sh R t (idx v (w' : Int)) := fun hd => by
  rcases hd.inv with ⟨_, q⟩ | ⟨q, _⟩
  · exact hR q
  · rw [zcg hlf] at q; cases q
 have hE := P.r.k t _ hi hnd; have hlf' : zas (atM k.sz b.m t (idx v (w' : Int))) = true := by rw [hE]; exact hlf
 have hwb : zal b id v (w' : Int) = (top, (l0 : Int), 0) := by
  rw [P.e]; exact hwh
 have hwg := zbd (id := id) (a := v) (l := (w' : Int)) hb.l (by rw [hwb]); rw [hwb] at hwg; have hbz : b.sz = k.sz ∧ b.cd = k.cd ∧ b.cp = k.cp ∧ b.sh = k.sh := by
  rw [P.e]; exact ⟨rfl, rfl, rfl, rfl⟩
 obtain ⟨z1, z2, z3, z4⟩ := hbz; have hat : Al k.cd k.cp b.pf top := by have := hwg.2.1; rw [z2, z3] at this; exact this
 have hash : Al k.cd k.cp b.pf k.sh := by have := hb.l.sh; rw [z2, z3, z4] at this; exact this
 have hre : za0 b.sz b.m v (w' : Int) (l0 : Int) top = (t, (w' : Int)) := by
  unfold za0; rw [z1, Int.toNat_natCast]; exact q3
 have hin : (inR b id v (w' : Int)).length ≠ 0 := by
  unfold inR; rw [hwb, if_neg (by simp)]; show (zax b.sz b.m (za0 b.sz b.m v (w' : Int) (l0 : Int) top).2 (atM b.sz b.m (za0 b.sz b.m v (w' : Int) (l0 : Int) top).1 (idx v (za0 b.sz b.m v (w' : Int) (l0 : Int) top).2)) (VaSpec.base v (za0 b.sz b.m v (w' : Int) (l0 : Int) top).2)).length ≠ 0; rw [hre]; unfold zax; rw [z1, if_pos hlf']; simp
 have huT : unT b top (l0 : Int) v (w' : Int) = (b.m, b.pf, (t, (w' : Int)), 0) := by
  unfold unT; rw [z1, z2, Int.toNat_natCast, zn4 (.inl (by rw [q3])) _, q3]
 have hU : unR b id v (w' : Int) = (unK b id top (l0 : Int) v (w' : Int) (b.m, b.pf, (t, (w' : Int)), 0), 0) := by
  unfold unR; rw [hwb, if_neg (by simp), if_neg hin]; show (if (unT b top (l0 : Int) v (w' : Int)).2.2.2 ≠ 0 then _ else _) = _; rw [huT, if_neg (by simp)]
 rw [hU]; refine ⟨rfl, ?_⟩; have hN' := z7f P.r hN; have Q := z1l (e := 0) P.t hN' hash v (w' : Int) hw (top := top) (l0 := l0) (l' := w') hat hl (by omega) h02 hH h0 q3; have hmp : ((unK b id top (l0 : Int) v (w' : Int) (b.m, b.pf, (t, (w' : Int)), 0)).m, (unK b id top (l0 : Int) v (w' : Int) (b.m, b.pf, (t, (w' : Int)), 0)).pf) = prN k.sz k.cd k.cp v l0 top (zba k.sz (zdu k.sz k.cd k.cp (b.m, b.pf, (t, (w' : Int)), 0) v).1 t (idx v (w' : Int)) zP, (zdu k.sz k.cd k.cp (b.m, b.pf, (t, (w' : Int)), 0) v).2) := by
  show (unM b (b.m, b.pf, (t, (w' : Int)), 0) top (l0 : Int) v) = _; unfold unM; rw [z1, z2, z3, Int.toNat_natCast]
 obtain ⟨_, _, wt, wa, _⟩ := ze7 P.t v (w' : Int) hw l0 top hat hl (by omega) q3; obtain ⟨c1, c2, _⟩ := zpx (e := 0) (a := v) P.t hash wa wt (by have := hwg.1; omega) (fun hh => hH (by omega))
 have hta := c2 _ hat (.inr (by rw [hl]; omega))
 have hPr := zgq v c1 l0 top h02 hta hl (fun hh => hH (by omega)); generalize prN k.sz k.cd k.cp v l0 top (zba k.sz (zdu k.sz k.cd k.cp (b.m, b.pf, (t, (w' : Int)), 0) v).1 t (idx v (w' : Int)) zP, (zdu k.sz k.cd k.cp (b.m, b.pf, (t, (w' : Int)), 0) v).2) = q at *; simp only [Prod.ext_iff] at hmp; obtain ⟨hm1, hm2⟩ := hmp; have hTq : TI k.cd k.cp k.sz q.1 q.2 k.sh lv := hPr.t; refine ⟨?_, by rw [hm1, hm2]; exact hTq, ?_⟩
 · have e := P.e; have key : ∀ (m' : List (Int × Int)) (f' : Int) (F : List Fe), ({ b with m := m', pf := f', fs := F } : Kr) = { k with m := m', pf := f', fs := F } := fun m' f' F => by rw [e]
   exact key _ _ _
 · rw [hm1, hm2]; refine LnG.Rm.conv (P.r.comp Q) fun s i hi hls => or_congr Iff.rfl ⟨?_, fun hh => .inl hh⟩; rintro (hh | ⟨hh, _⟩)
   · exact hh
   · rw [zcg hlf'] at hh; cases hh
def zcn (k : Kr) (id : Int) (ys : List Pg) : Nat → Kr
 | 0 => k
 | i + 1 => match ys[i]? with
  | some y => (unR (zcn k id ys i) id y.va y.lev).1
  | none => zcn k id ys i
theorem zld (k : Kr) (id : Int) (ys : List Pg) (i : Nat) {y : Pg} (h : ys[i]? = some y) : zcn k id ys (i + 1) = (unR (zcn k id ys i) id y.va y.lev).1 := by
 show (match ys[i]? with | some y => (unR (zcn k id ys i) id y.va y.lev).1 | none => zcn k id ys i) = _; rw [h]
theorem zmn {n : Nat} {k : Kr} (h : InvT n k) (id : Int) (ys : List Pg) : ∀ i, InvT (n + 1100 * i) (zcn k id ys i)
 | 0 => h
 | i + 1 => by
  have I := zmn h id ys i; cases e : ys[i]? with
  | some y =>
   rw [zld k id ys i e]; have := z2h (id := id) (a := y.va) (l := y.lev) I; rw [show n + 1100 * (i + 1) = n + 1100 * i + 1100 by omega]; exact this
  | none =>
   have : zcn k id ys (i + 1) = zcn k id ys i := by
    show (match ys[i]? with | some y => (unR (zcn k id ys i) id y.va y.lev).1 | none => zcn k id ys i) = _; rw [e]
   rw [this]; exact ⟨{ I.l with ml := by have := I.l.ml; omega, fl := by have := I.l.fl; omega }, I.t⟩
theorem parts {n : Nat} {k : Kr} {id a l : Int} (h : InvT n k) (g : InvN k) (he : (unR k id a l).2 = 0) {y0 : Pg} (hy0 : (inR k id a l)[0]? = some y0) (hlev : y0.lev ≤ l) :
 (∀ (i : Nat) (y : Pg), (inR k id a l)[i]? = some y → (unR (zcn k id (inR k id a l) i) id y.va y.lev).2 = 0) ∧
 { zcn k id (inR k id a l) (inR k id a l).length with fs := (unR k id a l).1.fs } = (unR k id a l).1 := by
 unfold unR at he; by_cases c0 : (zal k id a l).2.2 ≠ 0
 · rw [if_pos c0] at he; exact absurd he c0
 rw [if_neg c0] at he; by_cases c2 : (inR k id a l).length = 0
 · rw [if_pos c2] at he; cases he
 rw [if_neg c2] at he; by_cases c3 : (unT k (zal k id a l).1 (zal k id a l).2.1 a l).2.2.2 ≠ 0
 · rw [if_pos c3] at he; exact absurd he c3
 have hB : unR k id a l = (unK k id (zal k id a l).1 (zal k id a l).2.1 a l (unT k (zal k id a l).1 (zal k id a l).2.1 a l), 0) := by
  unfold unR; rw [if_neg c0, if_neg c2, if_neg c3]
 clear he; have c0' : (zal k id a l).2.2 = 0 := by omega
 have hfm := zdp c0'; have hfb := zk0 hfm; have hlf := zvb h c0' c2; obtain ⟨lv, hT, hs, hr⟩ := h.t; obtain ⟨w1, w2, w3, w4⟩ := zbd (id := id) (a := a) (l := l) h.l c0'; obtain ⟨z1, z2⟩ := h.top (a := a) (id := id) (l := l) c0' hs hr; have hwt := zd5 h.l c0'; have hw02 := zoa h c0'; have hbm := zgs w1 hfm; have hin : inR k id a l = zax k.sz k.m (za0 k.sz k.m a l (zal k id a l).2.1 (zal k id a l).1).2 (atM k.sz k.m (za0 k.sz k.m a l (zal k id a l).2.1 (zal k id a l).1).1 (idx a (za0 k.sz k.m a l (zal k id a l).2.1 (zal k id a l).1).2)) (VaSpec.base a (za0 k.sz k.m a l (zal k id a l).2.1 (zal k id a l).1).2) := by
  unfold inR; rw [if_neg c0]
 have hwh : ∀ v w, zhh v w = true → (0 ≤ w ∧ w ≤ 2) → (idx v 2 = idx a 2) → w ≤ l → zal k id v w = zal k id a l := fun v w hf hw2 hix hwl => by
  have hid := fun hh => zym (id := id) (a := a) (l := l) c0' hh; unfold zal; have c6 : ¬ (id ≠ -1 ∧ za4 k id = false) := fun hh => by
   rcases hwt with ⟨_, _, e⟩ | ⟨e, _⟩
   · exact hh.1 e
   · rw [hh.2] at e; cases e
  rw [if_neg (show ¬ ¬ (0 ≤ w ∧ w ≤ 2) from fun hh => hh hw2), if_neg c6, if_neg (show ¬ zhh v w = false by rw [hf]; simp)]
  rw [if_neg (show ¬ ¬ (0 ≤ l ∧ l ≤ 2) from fun hh => hh w1), if_neg c6, if_neg (show ¬ zhh a l = false by rw [hfm]; simp)]
  by_cases c7 : id = -1
  · have := hid c7; have hl2 : l ≠ 2 := by
     intro hh; rcases hwt with ⟨_, e, _⟩ | ⟨_, e, _⟩
     · rw [e] at w3; omega
     · exact e c7
    rw [if_pos c7, if_pos c7, if_pos ⟨by rw [hix]; exact this, by omega⟩, if_pos ⟨this, hl2⟩]
  · rw [if_neg c7, if_neg c7, hix]
 generalize hW : zal k id a l = w at *; obtain ⟨l0, hl0⟩ : ∃ l0 : Nat, w.2.1 = (l0 : Int) := ⟨w.2.1.toNat, by omega⟩; have hW3 : w = (w.1, (l0 : Int), 0) := by rw [← hl0, ← c0']
 obtain ⟨l', t, i1, i2, i3, i4, i5, i6, i7⟩ := zci hT a l w1.1 l0 w.1 w2 (by omega) (by omega); have hre : za0 k.sz k.m a l w.2.1 w.1 = (t, (l' : Int)) := by unfold za0; rw [hl0, Int.toNat_natCast]; exact i1
 rw [hre] at hin hlf; have hin : inR k id a l = zax k.sz k.m (l' : Int) (atM k.sz k.m t (idx a (l' : Int))) (VaSpec.base a (l' : Int)) := hin; have hlf : zas (atM k.sz k.m t (idx a (l' : Int))) = true ∨ lkP (atM k.sz k.m t (idx a (l' : Int))) = true := hlf; have hi := idx_bd a (l' : Int); rcases hlf with hlf | hlk
 · -- one page, the region itself
   have hU : inR k id a l = [⟨VaSpec.base a (l' : Int), (atM k.sz k.m t (idx a (l' : Int))).ppn * 4096, (l' : Int), (atM k.sz k.m t (idx a (l' : Int))).r, (atM k.sz k.m t (idx a (l' : Int))).w, (atM k.sz k.m t (idx a (l' : Int))).x, (atM k.sz k.m t (idx a (l' : Int))).u, (atM k.sz k.m t (idx a (l' : Int))).d⟩] := by
    rw [hin]; unfold zax; rw [if_pos hlf]
   rw [hU] at hy0; have hy0 : (⟨VaSpec.base a (l' : Int), (atM k.sz k.m t (idx a (l' : Int))).ppn * 4096, (l' : Int), (atM k.sz k.m t (idx a (l' : Int))).r, (atM k.sz k.m t (idx a (l' : Int))).w, (atM k.sz k.m t (idx a (l' : Int))).x, (atM k.sz k.m t (idx a (l' : Int))).u, (atM k.sz k.m t (idx a (l' : Int))).d⟩ : Pg) = y0 := by simpa using hy0
   have hll : (l' : Int) = l := by
    rw [← hy0] at hlev; have : (l' : Int) ≤ l := hlev; omega
   rw [hll, hfb] at hy0; have hU' : inR k id a l = [y0] := by rw [hU, hll, hfb]; rw [← hy0]
   have hy1 : y0.va = a := by rw [← hy0]
   have hy2 : y0.lev = l := by rw [← hy0]
   rw [hU']; refine ⟨fun i y hy => ?_, ?_⟩
   · cases i with
     | zero =>
      have : y0 = y := by simpa using hy
      rw [← this, hy1, hy2]; show (unR k id a l).2 = 0; rw [hB]
     | succ i => simp at hy
   · have : zcn k id [y0] [y0].length = (unR k id a l).1 := by
      show zcn k id [y0] (0 + 1) = _; rw [zld k id [y0] 0 (y := y0) rfl, hy1, hy2]
      rfl
     rw [this]
 · -- a link
   obtain ⟨k1, k2, k3, k4⟩ := zb5 hT hi hlk; have hll : (l' : Int) = l := by
    by_cases c : l < (l' : Int)
    · have := i6 c; rw [zb7 hlk (by omega)] at this; cases this
    · omega
   have hstop : unT k w.1 w.2.1 a l = (k.m, k.pf, (t, (l' : Int)), 0) := by
    unfold unT; rw [hl0, Int.toNat_natCast, zn4 (.inl (by rw [i1]; exact hll)) _, i1]
   rw [hstop] at hB; obtain ⟨m, rfl⟩ : ∃ m : Nat, l' = m + 1 := ⟨l' - 1, by omega⟩; have hba : VaSpec.base a ((m + 1 : Nat) : Int) = a := by rw [hll]; exact hfb
   have hU : inR k id a l = za7 k.sz k.m m (atM k.sz k.m t (idx a ((m + 1 : Nat) : Int))).ppn a := by
    rw [hin]; unfold zax; rw [if_neg (by rw [(za8 hlk).2.2]; simp), if_pos (za8 hlk).1, hba, show (((m + 1 : Nat) : Int) - 1).toNat = m by omega]
   have hgl : lv (atM k.sz k.m t (idx a ((m + 1 : Nat) : Int))).ppn = m := by rw [k3, i5]; omega
   have hbm' : m39 a % (512 * VaSpec.sz (m : Int)) = 0 := zk4 (by omega) (by rw [hll]; exact hbm)
   have hsz : VaSpec.sz ((m + 1 : Nat) : Int) = 512 * VaSpec.sz (m : Int) := by
    have := zhe (l := ((m + 1 : Nat) : Int)) (by omega); rw [show ((m + 1 : Nat) : Int) - 1 = (m : Int) by omega] at this; exact this
   rw [hU]; generalize hys : za7 k.sz k.m m (atM k.sz k.m t (idx a ((m + 1 : Nat) : Int))).ppn a = ys at *; have hpage : ∀ y ∈ ys, zal k id y.va y.lev = (w.1, (l0 : Int), 0) ∧ (0 ≤ y.lev ∧ y.lev ≤ (m : Int)) ∧ (l0 = 2 → idx y.va 2 ≠ 511) ∧ ∃ s, zao k.sz k.m y.va y.lev l0 w.1 = (s, y.lev) ∧ zao k.sz k.m y.va y.lev m (atM k.sz k.m t (idx a ((m + 1 : Nat) : Int))).ppn = (s, y.lev) ∧ zas (atM k.sz k.m s (idx y.va y.lev)) = true := fun y hy => by
    have hy' := hy; rw [← hys] at hy'; obtain ⟨q1, q2, q3, q4, q5⟩ := zh6 k.sz k.m m _ a y (by omega) hbm' hy'; obtain ⟨s, r1, r2, r3⟩ := zgb hT m _ a y (by omega) k4 hgl hbm' hy'; have hsp := sz_pos (l := y.lev) (by omega); have hix : ∀ m', ((m + 1 : Nat) : Int) ≤ m' → m' ≤ 2 → idx y.va m' = idx a m' := fun m' h1 h2 => z7j (l := ((m + 1 : Nat) : Int)) (by omega) ⟨h1, h2⟩ (by rw [hsz]; exact hbm') q2 (by rw [hsz]; omega)
    have h2' := hix 2 (by omega) (by omega); refine ⟨(hwh y.va y.lev (z49 (by omega) q5 q4) (by omega) h2' (by omega)).trans hW3, q1, fun hh => by rw [h2']; exact z2 (by omega), s, ?_, r1, r3⟩
    have := zvf hT a y.va l y.lev w1.1 hlk ⟨q1.1, by omega⟩ hix l0 w.1 (by omega) w2 (by omega) (by omega) i1; rw [this]; exact r1
   -- where the first pages stood
   have hJ : ∀ i : Nat, i ≤ ys.length → PJ k lv (fun s j => ∃ y ∈ ys.take i, (zao k.sz k.m y.va y.lev l0 w.1).1 = s ∧ idx y.va y.lev = j) (zcn k id ys i) ∧ ∀ y, ys[i]? = some y → (unR (zcn k id ys i) id y.va y.lev).2 = 0 := by
    have step : ∀ i : Nat, PJ k lv (fun s j => ∃ y ∈ ys.take i, (zao k.sz k.m y.va y.lev l0 w.1).1 = s ∧ idx y.va y.lev = j) (zcn k id ys i) → ∀ y, ys[i]? = some y → (unR (zcn k id ys i) id y.va y.lev).2 = 0 ∧ PJ k lv (fun s j => ∃ y ∈ ys.take (i + 1), (zao k.sz k.m y.va y.lev l0 w.1).1 = s ∧ idx y.va y.lev = j) (zcn k id ys (i + 1)) := fun i P y hy => by
     have hym := List.mem_of_getElem? hy; obtain ⟨p1, p2, p3, s, p4, p5, p6⟩ := hpage y hym; have hlt : i < ys.length := by
      rcases Nat.lt_or_ge i ys.length with q | q
      · exact q
      · rw [List.getElem?_eq_none q] at hy; cases hy
     obtain ⟨e1, e2⟩ := z5a (id := id) (v := y.va) (w := y.lev) (top := w.1) (l0 := l0) (t := s) (zmn h id ys i) g.ne hT P p2.1 p1 (by omega) (by omega) (by omega) p3 (hw02.imp (fun hh => by omega) (fun hh => hh)) p4 p6 (by
      rintro ⟨z, hz, x1, x2⟩; obtain ⟨j, hj⟩ := List.getElem?_of_mem hz; rw [List.getElem?_take] at hj
      split at hj
      · rename_i hji; have hzm := List.mem_of_getElem? hj; obtain ⟨_, _, _, s', y4, y5, _⟩ := hpage z hzm; have hzy : z = y := by
         refine z1n hT m _ a z y (by omega) k4 hgl hbm' (by rw [hys]; exact hzm) (by rw [hys]; exact hym) ?_ x2
         rw [y4] at x1; have x1 : s' = s := x1; rw [y5, p5, x1]
        have hnd := z1o k.sz k.m m (atM k.sz k.m t (idx a ((m + 1 : Nat) : Int))).ppn a (by omega) hbm'; rw [hys] at hnd; have hjl : j < ys.length := by omega
        have := List.pairwise_iff_getElem.1 hnd j i hjl hlt hji; have ea : ys[j] = z := (List.getElem?_eq_some_iff.1 hj).2; have eb : ys[i] = y := (List.getElem?_eq_some_iff.1 hy).2; rw [ea, eb, hzy] at this; omega
      · cases hj)
     refine ⟨e1, ?_⟩; rw [zld k id ys i hy]; refine ⟨e2.e, e2.t, LnG.Rm.conv e2.r fun s' j' _ _ => ?_⟩; rw [List.take_add_one, hy]; simp only [Option.toList_some, List.mem_append, List.mem_singleton]; constructor
     · rintro (⟨z, hz, q1, q2⟩ | ⟨q1, q2⟩)
       · exact ⟨z, .inl hz, q1, q2⟩
       · exact ⟨y, .inr rfl, by rw [p4]; exact q1.symm, q2.symm⟩
     · rintro ⟨z, hz | rfl, q1, q2⟩
       · exact .inl ⟨z, hz, q1, q2⟩
       · rw [p4] at q1; exact .inr ⟨q1.symm, q2.symm⟩
    have all : ∀ i : Nat, i ≤ ys.length → PJ k lv (fun s j => ∃ y ∈ ys.take i, (zao k.sz k.m y.va y.lev l0 w.1).1 = s ∧ idx y.va y.lev = j) (zcn k id ys i) := by
     intro i
     induction i with
     | zero =>
      intro _
      refine ⟨rfl, hT, LnG.Rm.conv (Rm.refl _ _ _ g.ne fun s i hi hne => ?_) fun s i _ _ => ⟨fun hh => hh.elim, fun hh => by
       obtain ⟨y, hy, _⟩ := hh
       simp at hy⟩⟩
      rcases hT.e.k s i hi with e | ⟨_, _, ⟨e, _⟩ | ⟨e, _⟩⟩
      · exact absurd e hne
      · exact .inl e
      · exact .inr e
     | succ i ih =>
      intro hi'; have hy : ys[i]? = some ys[i] := List.getElem?_eq_getElem (by omega); exact (step i (ih (by omega)) _ hy).2
    exact fun i hi' => ⟨all i hi', fun y hy => (step i (all i hi') y hy).1⟩
   refine ⟨fun i y hy => ?_, ?_⟩
   · have hlt : i < ys.length := by
      rcases Nat.lt_or_ge i ys.length with q | q
      · exact q
      · rw [List.getElem?_eq_none q] at hy; cases hy
     exact (hJ i (by omega)).2 y hy
   · have P := (hJ ys.length (Nat.le_refl _)).1; rw [List.take_length] at P; have Q := z1l (e := 0) hT g.ne h.l.sh a l w1.1 (top := w.1) (l0 := l0) (l' := m + 1) w2 (by omega) (by omega) (by omega) (fun hh => z2 (by omega)) (hw02.imp (fun hh => by omega) (fun hh => hh)) i1; obtain ⟨c1, c2', _⟩ := zpx (e := 0) (a := a) hT h.l.sh i4 i5 (by omega) (fun hh => z2 (by omega)); have hta := c2' _ w2 (.inr (by omega)); have hPr := zgq a c1 l0 w.1 (by omega) hta (by omega) (fun hh => z2 (by omega))
     have hS := Q.same P.r (fun s j hj hls => by
      constructor
      · rintro (⟨rfl, rfl⟩ | ⟨_, hm⟩)
        · rw [zcg hls] at hlk; cases hlk
        · obtain ⟨y, hy, r1, r2⟩ := zqa hT m _ a (by omega) k4 hgl hbm' s hm j hj hls; rw [hys] at hy; obtain ⟨_, _, _, s', y4, y5, _⟩ := hpage y hy; rw [r1] at y5; simp only [Prod.mk.injEq] at y5; exact ⟨y, hy, by rw [y4]; exact y5.1.symm, r2⟩
      · rintro ⟨y, hy, r1, r2⟩; obtain ⟨_, p2, _, s', y4, y5, _⟩ := hpage y hy; have := zji k.sz k.m y.va y.lev p2.1 m (atM k.sz k.m t (idx a ((m + 1 : Nat) : Int))).ppn; rw [y5] at this; rw [y4] at r1; have r1 : s' = s := r1; rw [r1] at this
        exact .inr ⟨hlk, this⟩)
     have hTq := hPr.t; have e1 := z2l hTq P.t hS.1; have e2 := z7g hT.bp hTq.bf P.t.bf hS.2; have hmp : ((unK k id w.1 w.2.1 a l (k.m, k.pf, (t, ((m + 1 : Nat) : Int)), 0)).m, (unK k id w.1 w.2.1 a l (k.m, k.pf, (t, ((m + 1 : Nat) : Int)), 0)).pf) = prN k.sz k.cd k.cp a l0 w.1 (zba k.sz (zdu k.sz k.cd k.cp (k.m, k.pf, (t, ((m + 1 : Nat) : Int)), 0) a).1 t (idx a ((m + 1 : Nat) : Int)) zP, (zdu k.sz k.cd k.cp (k.m, k.pf, (t, ((m + 1 : Nat) : Int)), 0) a).2) := by
      show (unM k (k.m, k.pf, (t, ((m + 1 : Nat) : Int)), 0) w.1 w.2.1 a) = _; unfold unM; rw [hl0, Int.toNat_natCast]
     simp only [Prod.ext_iff] at hmp; rw [← hmp.1] at e1; rw [← hmp.2] at e2; rw [hB]; have pe := P.e; show ({ zcn k id ys ys.length with fs := (unK k id w.1 w.2.1 a l (k.m, k.pf, (t, ((m + 1 : Nat) : Int)), 0)).fs } : Kr) = unK k id w.1 w.2.1 a l (k.m, k.pf, (t, ((m + 1 : Nat) : Int)), 0); generalize zcn k id ys ys.length = B at *; have key : ∀ (K : Kr), K = { k with m := B.m, pf := B.pf, fs := K.fs } → ({ B with fs := K.fs } : Kr) = K := fun K hK => by
      conv => rhs; rw [hK]
      conv => lhs; rw [pe]
     refine key _ ?_; rw [← e1, ← e2]
     rfl
end LnH
namespace LoA
open Go.RowKit Bv VaSpec Base MemL RegR Ax MemC PutC MemC3 OkS SpA SpB SpD SpN SpG SpH SpI LaA LaB LaC LaD LaE LaG LiA LiB LiC LiE LrA LjA LjF LkE LmA LmE LnA LnB PteSpec RfG RfJ RfK LaH RfQ LnD LnF LnG LnH RfC RlA RlB
open PteSpec
attribute [local irreducible] Ax.zbr
def flU (l : List Int) : List Value := l.map fun x => .int .u64 x
theorem z5b (l : List Int) : (flU l).all (·.oneCell') = true := by
 rw [List.all_eq_true]; intro v hv; obtain ⟨x, _, rfl⟩ := List.mem_map.1 hv
 rfl
theorem z2t {l : List Int} {k : Nat} {c : Int} (h : l[k]? = some c) : ((flU l).drop (k * 1)).take 1 = [.int .u64 c] := by
 rw [Nat.mul_one]; apply List.ext_getElem?; intro i; unfold flU; cases i with
 | zero => simp [h]
 | succ i => simp [List.getElem?_take]
def frJ (sz : Int) (xs : List (Int × Int)) (l : Nat) (t : Int) (j : Nat) : List Int := (List.range j).flatMap fun (i : Nat) => if za2 (atM sz xs t i) (l : Int) then frN sz xs (l - 1) (atM sz xs t i).ppn else []
theorem zt1 (sz : Int) (xs : List (Int × Int)) (l : Nat) (t : Int) (j : Nat) : frJ sz xs l t (j + 1) = frJ sz xs l t j ++ (if za2 (atM sz xs t j) (l : Int) then frN sz xs (l - 1) (atM sz xs t j).ppn else []) := by
 unfold frJ; rw [List.range_succ, List.flatMap_append]; simp
theorem zy5 (sz : Int) (xs : List (Int × Int)) (l : Nat) (t : Int) (j : Nat) : ∀ m : Nat, ∃ r, frJ sz xs l t (j + m) = frJ sz xs l t j ++ r
 | 0 => ⟨[], by simp⟩
 | m + 1 => by
  obtain ⟨r, hr⟩ := zy5 sz xs l t j m; exact ⟨r ++ (if za2 (atM sz xs t ((j + m : Nat) : Int)) (l : Int) then frN sz xs (l - 1) (atM sz xs t ((j + m : Nat) : Int)).ppn else []), by rw [show j + (m + 1) = (j + m) + 1 by omega, zt1, hr, List.append_assoc]⟩
theorem z2u (p : Pte) : za2 p ((0 : Nat) : Int) = false := by
 unfold za2 zco; cases zbf p <;> simp
theorem zy6 (sz : Int) (xs : List (Int × Int)) (l : Nat) (t : Int) : frN sz xs l t = t :: frJ sz xs l t 512 := by
 cases l with
 | zero =>
  show [t] = t :: frJ sz xs 0 t 512
  congr 1
  unfold frJ; rw [zh8 (g := fun _ => []) fun i _ => by rw [z2u]; rfl]
  simp
 | succ l => rfl
def rgA (t l : Int) (sz : Int) (xs : List (Int × Int)) (N : Nat) (V : List Value) (j : Nat) : St := St.of [(1, .m (iu t)), (2, .m (ii l)), (3, .m (.c (.s N 1 V))), (4, .m (.c (.p 4 0))), (11, .m (ii j))] [(4, .live (.box [cu sz, .s xs.length 2 (fl xs)]))]
def rgB (t l : Int) (sz : Int) (xs : List (Int × Int)) (met : List Int) (j : Nat) : St := St.of [(1, .m (iu t)), (2, .m (ii l)), (3, .m (.c (.o 52))), (4, .m (.c (.p 4 0))), (11, .m (ii j))] [(4, .live (.box [cu sz, .s xs.length 2 (fl xs)])), (52, .live (.row 25 1 (met.length + 1) (flU met ++ [.int .u64 t])))]
def rgH (t l : Int) (sz : Int) (xs : List (Int × Int)) (met : List Int) (N : Nat) (V : List Value) (ph : Bool) (j : Nat) : St := cond ph (rgA t l sz xs N V j) (rgB t l sz xs met j)
section
variable {cd cp sz f sh : Int} {xs : List (Int × Int)} {lv : Int → Int}
theorem zle (h : TI cd cp sz xs f sh lv) (hx : xs.length ≤ 1000000) (l : Nat) (rec : ∀ m, l = m + 1 → ∀ (t : Int) (met : List Int), Al cd cp f t → lv t = m → (met ++ frN sz xs m t).Nodup → (met ++ frN sz xs m t).length ≤ 64 → Ok 65 [zbm sz xs, iu t, ii m, .c (.s met.length 1 (flU met))] (.tu [.c (.s (met ++ frN sz xs m t).length 1 (flU (met ++ frN sz xs m t))), ib true]))
 (t : Int) (met : List Int) (l2 : l ≤ 2) (ht : Al cd cp f t) (hl : lv t = l) (hnd : (met ++ frN sz xs l t).Nodup) (hlen : (met ++ frN sz xs l t).length ≤ 64) :
 Ok 65 [zbm sz xs, iu t, ii l, .c (.s met.length 1 (flU met))] (.tu [.c (.s (met ++ frN sz xs l t).length 1 (flU (met ++ frN sz xs l t))), ib true]) := by
 have b1 := h.bd; have b2 := h.bp; have bz := h.bz; have bt := ht.1; have hs := h.s; have hu := h.u; have hmet : met.length < 64 := by
  rw [zy6, List.length_append, List.length_cons] at hlen; omega
 have hno : ∀ x ∈ met, x ≠ t := fun x hx e => by
  rw [List.nodup_append] at hnd; exact hnd.2.2 x hx t (zb8 _ _ _ _) e
 obtain ⟨N, hN⟩ : ∃ N, N = (met ++ frN sz xs l t).length := ⟨_, rfl⟩; obtain ⟨V, hV⟩ : ∃ V, V = flU (met ++ frN sz xs l t) := ⟨_, rfl⟩; rw [← hN, ← hV]; refine zad 79 Tryz.func65 rfl rfl rfl rfl ?_ GG.to; intro W A hG
 repeat (first | (refine zai rfl ?_; first | refine zaj ?_) | (refine hK _ ?_; clear hK K) | (rename_i K1 hK1; refine hK1 _ ?_; clear hK hK1; clear K) | (rename_i K1 hK1; refine hK1 _ ?_; clear hK1) | refine zac rfl ?_ | refine zaq (by kernel_rfl) (by kernel_rfl) rfl ?_ | exact zah (show zat _ _ _ = some _ by kernel_rfl) | refine zaf rfl rfl ?_ | refine zae rfl rfl ?_ | refine zag ?_ | refine zar ?_ | refine zak ?_ | refine zab (fun K hK => ?_) | refine zaz ?_ | refine za3 ?_ | refine zah (show zat _ _ _ = some _ ∧ EndB _ _ from ⟨by kernel_rfl, ?_⟩))
 refine za1 (α := Nat) (fun i => i ≤ met.length) (fun i => St.of [(1, .m (iu t)), (2, .m (ii l)), (3, .m (.c (.s met.length 1 (flU met)))), (4, .m (.c (.p 4 0))), (10, .m (ii i))] [(4, .live (.box [cu sz, .s xs.length 2 (fl xs)]))]) (fun i => met.length - i) 0 (Nat.zero_le _) (zaw _ _ ⟨rfl, rfl, rfl, rfl, rfl, trivial⟩ ⟨rfl, trivial⟩ rfl) ?_; intro i hi; by_cases hlt : i < met.length
 · obtain ⟨x, hx0⟩ : ∃ x, met[i]? = some x := ⟨_, List.getElem?_eq_getElem hlt⟩; have hx := z2t hx0; have hne := hno x (List.mem_of_getElem? hx0)
   repeat (first | (refine zai rfl ?_; first | refine zaj ?_) | (refine hK _ ?_; clear hK K) | (rename_i K1 hK1; refine hK1 _ ?_; clear hK hK1; clear K) | (rename_i K1 hK1; refine hK1 _ ?_; clear hK1) | refine zac rfl ?_ | refine zaq (by kernel_rfl) (by kernel_rfl) rfl ?_ | exact zah (show zat _ _ _ = some _ by kernel_rfl) | refine zaf rfl rfl ?_ | refine zae rfl rfl ?_ | refine zag ?_ | refine zar ?_ | refine zak ?_ | refine zab (fun K hK => ?_) | refine zaz ?_ | refine za3 ?_ | refine zah (show zat _ _ _ = some _ ∧ EndB _ _ from ⟨by kernel_rfl, ?_⟩))
   exact ⟨i + 1, by omega, by omega, zaw _ _ ⟨rfl, rfl, rfl, rfl, rfl, trivial⟩ ⟨rfl, trivial⟩ rfl⟩
 · skip
   repeat (first | (refine zai rfl ?_; first | refine zaj ?_ | refine gdr (zdm rfl rfl rfl rfl rfl rfl rfl rfl rfl rfl rfl rfl (z5b met) (by omega)) ?_ | refine gdr (zbg rfl rfl rfl rfl rfl rfl rfl rfl rfl rfl rfl rfl rfl (by omega)) ?_) | (refine hK _ ?_; clear hK K) | (rename_i K1 hK1; refine hK1 _ ?_; clear hK hK1; clear K) | (rename_i K1 hK1; refine hK1 _ ?_; clear hK1) | refine zac rfl ?_ | refine zaq (by kernel_rfl) (by kernel_rfl) rfl ?_ | exact zah (show zat _ _ _ = some _ by kernel_rfl) | refine zaf rfl rfl ?_ | refine zae rfl rfl ?_ | refine zag ?_ | refine zar ?_ | refine zak ?_ | refine zab (fun K hK => ?_) | refine zaz ?_ | refine za3 ?_ | refine zah (show zat _ _ _ = some _ ∧ EndB _ _ from ⟨by kernel_rfl, ?_⟩))
   refine za1 (α := Bool × Nat) (fun w => w.2 ≤ 512 ∧ (w.1 = false → frJ sz xs l t w.2 = [])) (fun w => rgH t l sz xs met (met ++ t :: frJ sz xs l t w.2).length (flU (met ++ t :: frJ sz xs l t w.2)) w.1 w.2) (fun w => 512 - w.2) (false, 0) ⟨Nat.zero_le _, fun _ => rfl⟩ (by show Sub _ _ (rgB t l sz xs met 0); unfold rgB; exact sbq _ _) ?_
   rintro ⟨ph, j⟩ ⟨hj0, hp0⟩; have hj : j ≤ 512 := hj0; have hp : ph = false → frJ sz xs l t j = [] := hp0; clear hj0 hp0; show Aw _ _ _ _ (rgH t l sz xs met (met ++ t :: frJ sz xs l t j).length (flU (met ++ t :: frJ sz xs l t j)) ph j); by_cases hjt : j < 512
   · have hj' : (0 : Int) ≤ (j : Int) ∧ (j : Int) < 512 := by omega
     have ha := z2e sz xs t j ⟨by omega, by omega⟩ hj' hs hu hx; rw [show 4096 * t + 8 * (j : Int) = t * 4096 + (j : Int) * 8 by omega] at ha; replace ha : Ok 66 [zbm sz xs, iu t, ii j] (.m (.ag (atM sz xs t j).ce)) := ha; have hk := zpv (atM sz xs t j) (ze5 hu sz t j) (l : Int) (by omega) (by omega); have hsucc := zt1 sz xs l t j; cases hlk : za2 (atM sz xs t j) (l : Int) with
     | false =>
      rw [hlk] at hk hsucc; replace hsucc : frJ sz xs l t (j + 1) = frJ sz xs l t j := by rw [hsucc]; simp
      generalize atM sz xs t j = q at *; cases ph with
      | false =>
       replace hp := hp rfl; show Aw _ _ _ _ (rgB t _ sz xs met j); unfold rgB
       repeat (first | (refine zai rfl ?_; first | refine zaj ?_ | refine gdr (zaa rfl rfl rfl (ha) (by kernel_rfl)) ?_ | refine gdr (zaa rfl rfl rfl (hk) (by kernel_rfl)) ?_) | (refine hK _ ?_; clear hK K) | (rename_i K1 hK1; refine hK1 _ ?_; clear hK hK1; clear K) | (rename_i K1 hK1; refine hK1 _ ?_; clear hK1) | refine zac rfl ?_ | refine zaq (by kernel_rfl) (by kernel_rfl) rfl ?_ | exact zah (show zat _ _ _ = some _ by kernel_rfl) | refine zaf rfl rfl ?_ | refine zae rfl rfl ?_ | refine zag ?_ | refine zar ?_ | refine zak ?_ | refine zab (fun K hK => ?_) | refine zaz ?_ | refine za3 ?_ | refine zah (show zat _ _ _ = some _ ∧ EndB _ _ from ⟨by kernel_rfl, ?_⟩))
       refine ⟨(false, j + 1), ⟨by show j + 1 ≤ 512; omega, fun _ => by show frJ sz xs l t (j + 1) = []; rw [hsucc]; exact hp⟩, by show 512 - (j + 1) < 512 - j; omega, ?_⟩
       show Sub _ _ (rgB t _ sz xs met (j + 1)); unfold rgB; exact sbq _ _
      | true =>
       show Aw _ _ _ _ (rgA t _ sz xs _ _ j); unfold rgA; have e1 : frJ sz xs l t (true, j + 1).2 = frJ sz xs l t j := hsucc; generalize (met ++ t :: frJ sz xs l t j).length = n1 at *
       repeat (first | (refine zai rfl ?_; first | refine zaj ?_ | refine gdr (zaa rfl rfl rfl (ha) (by kernel_rfl)) ?_ | refine gdr (zaa rfl rfl rfl (hk) (by kernel_rfl)) ?_) | (refine hK _ ?_; clear hK K) | (rename_i K1 hK1; refine hK1 _ ?_; clear hK hK1; clear K) | (rename_i K1 hK1; refine hK1 _ ?_; clear hK1) | refine zac rfl ?_ | refine zaq (by kernel_rfl) (by kernel_rfl) rfl ?_ | exact zah (show zat _ _ _ = some _ by kernel_rfl) | refine zaf rfl rfl ?_ | refine zae rfl rfl ?_ | refine zag ?_ | refine zar ?_ | refine zak ?_ | refine zab (fun K hK => ?_) | refine zaz ?_ | refine za3 ?_ | refine zah (show zat _ _ _ = some _ ∧ EndB _ _ from ⟨by kernel_rfl, ?_⟩))
       refine ⟨(true, j + 1), ⟨by show j + 1 ≤ 512; omega, fun hh => by cases hh⟩, by show 512 - (j + 1) < 512 - j; omega, ?_⟩
       rw [e1]; show Sub _ _ (rgA t _ sz xs _ _ (j + 1)); unfold rgA; exact sbq _ _
     | true =>
      rw [hlk] at hk hsucc; obtain ⟨m, rfl⟩ : ∃ m, l = m + 1 := by
       cases l with
       | zero => rw [z2u] at hlk; cases hlk
       | succ m => exact ⟨m, rfl⟩
      obtain ⟨k1, k2, k3, k4, k5⟩ := zh3 h hj' hlk; replace hsucc : frJ sz xs (m + 1) t (j + 1) = frJ sz xs (m + 1) t j ++ frN sz xs m (atM sz xs t j).ppn := by rw [hsucc, if_pos rfl]; rfl
      obtain ⟨r, hr⟩ := zy5 sz xs (m + 1) t (j + 1) (512 - (j + 1)); rw [show j + 1 + (512 - (j + 1)) = 512 by omega, hsucc] at hr; have hall : met ++ frN sz xs (m + 1) t = (met ++ t :: frJ sz xs (m + 1) t j ++ frN sz xs m (atM sz xs t j).ppn) ++ r := by rw [zy6, hr]; simp
      have hnd' : (met ++ t :: frJ sz xs (m + 1) t j ++ frN sz xs m (atM sz xs t j).ppn).Nodup := by
       rw [hall, List.nodup_append] at hnd; exact hnd.1
      have hlen' : (met ++ t :: frJ sz xs (m + 1) t j ++ frN sz xs m (atM sz xs t j).ppn).length ≤ 64 := by
       rw [hall, List.length_append] at hlen; omega
      have hrr := rec m rfl (atM sz xs t j).ppn (met ++ t :: frJ sz xs (m + 1) t j) k5 (by rw [k4, hl]; omega) hnd' hlen'
      have e1 : met ++ t :: frJ sz xs (m + 1) t (true, j + 1).2 = met ++ t :: frJ sz xs (m + 1) t j ++ frN sz xs m (atM sz xs t j).ppn := by
       show met ++ t :: frJ sz xs (m + 1) t (j + 1) = _; rw [hsucc]; simp
      rw [show (m : Int) = ((m + 1 : Nat) : Int) - 1 by omega] at hrr; have hl1 : (0 : Int) ≤ ((m + 1 : Nat) : Int) ∧ ((m + 1 : Nat) : Int) ≤ 2 := by omega
      clear hnd hlen hall hr hnd' hlen' hsucc rec; generalize frN sz xs m (atM sz xs t j).ppn = F at *; generalize ((m + 1 : Nat) : Int) = li at *; generalize atM sz xs t j = q at *; cases ph with
      | false =>
       replace hp := hp rfl; rw [hp] at hrr e1; rw [show (met ++ [t]).length = met.length + 1 by simp, show flU (met ++ [t]) = flU met ++ [.int .u64 t] by simp [flU]] at hrr; show Aw _ _ _ _ (rgB t _ sz xs met j); unfold rgB
       repeat (first | (refine zai rfl ?_; first | refine zaj ?_ | refine gdr (zaa rfl rfl rfl (ha) (by kernel_rfl)) ?_ | refine gdr (zaa rfl rfl rfl (hk) (by kernel_rfl)) ?_) | (refine hK _ ?_; clear hK K) | (rename_i K1 hK1; refine hK1 _ ?_; clear hK hK1; clear K) | (rename_i K1 hK1; refine hK1 _ ?_; clear hK1) | refine zac rfl ?_ | refine zaq (by kernel_rfl) (by kernel_rfl) rfl ?_ | exact zah (show zat _ _ _ = some _ by kernel_rfl) | refine zaf rfl rfl ?_ | refine zae rfl rfl ?_ | refine zag ?_ | refine zar ?_ | refine zak ?_ | refine zab (fun K hK => ?_) | refine zaz ?_ | refine za3 ?_ | refine zah (show zat _ _ _ = some _ ∧ EndB _ _ from ⟨by kernel_rfl, ?_⟩))
       refine zai rfl ?_; refine zi1 (zd0 (b := 52) (l := [zbm sz xs, iu q.ppn, ii (li - 1), .c (.o 52)]) rfl rfl rfl (by kernel_rfl) rfl (by kernel_rfl) (zhx (by kernel_rfl) hrr)) (by kernel_rfl) ?_
       repeat (first | (refine zai rfl ?_; first | refine zaj ?_) | (refine hK _ ?_; clear hK K) | (rename_i K1 hK1; refine hK1 _ ?_; clear hK hK1; clear K) | (rename_i K1 hK1; refine hK1 _ ?_; clear hK1) | refine zac rfl ?_ | refine zaq (by kernel_rfl) (by kernel_rfl) rfl ?_ | exact zah (show zat _ _ _ = some _ by kernel_rfl) | refine zaf rfl rfl ?_ | refine zae rfl rfl ?_ | refine zag ?_ | refine zar ?_ | refine zak ?_ | refine zab (fun K hK => ?_) | refine zaz ?_ | refine za3 ?_ | refine zah (show zat _ _ _ = some _ ∧ EndB _ _ from ⟨by kernel_rfl, ?_⟩))
       refine ⟨(true, j + 1), ⟨by show j + 1 ≤ 512; omega, fun hh => by cases hh⟩, by show 512 - (j + 1) < 512 - j; omega, ?_⟩
       rw [e1]; show Sub _ _ (rgA t _ sz xs _ _ (j + 1)); unfold rgA; exact sbq _ _
      | true =>
       show Aw _ _ _ _ (rgA t _ sz xs _ _ j); unfold rgA; generalize met ++ t :: frJ sz xs (m + 1) t j = M at *
       repeat (first | (refine zai rfl ?_; first | refine zaj ?_ | refine gdr (zaa rfl rfl rfl (ha) (by kernel_rfl)) ?_ | refine gdr (zaa rfl rfl rfl (hk) (by kernel_rfl)) ?_ | refine gdr (zaa rfl rfl rfl (hrr) (by kernel_rfl)) ?_) | (refine hK _ ?_; clear hK K) | (rename_i K1 hK1; refine hK1 _ ?_; clear hK hK1; clear K) | (rename_i K1 hK1; refine hK1 _ ?_; clear hK1) | refine zac rfl ?_ | refine zaq (by kernel_rfl) (by kernel_rfl) rfl ?_ | exact zah (show zat _ _ _ = some _ by kernel_rfl) | refine zaf rfl rfl ?_ | refine zae rfl rfl ?_ | refine zag ?_ | refine zar ?_ | refine zak ?_ | refine zab (fun K hK => ?_) | refine zaz ?_ | refine za3 ?_ | refine zah (show zat _ _ _ = some _ ∧ EndB _ _ from ⟨by kernel_rfl, ?_⟩))
       refine ⟨(true, j + 1), ⟨by show j + 1 ≤ 512; omega, fun hh => by cases hh⟩, by show 512 - (j + 1) < 512 - j; omega, ?_⟩
       rw [e1]; show Sub _ _ (rgA t _ sz xs _ _ (j + 1)); unfold rgA; exact sbq _ _
   · obtain rfl : j = 512 := by omega
     rw [← zy6]; cases ph with
     | false =>
      have hp := hp rfl; have hN : N = met.length + 1 := by rw [hN, zy6, hp]; simp
      have hV : V = flU met ++ [.int .u64 t] := by rw [hV, zy6, hp]; simp [flU]
      subst hN hV; show Aw _ _ _ _ (rgB t _ sz xs met 512); unfold rgB
      repeat (first | (refine zai rfl ?_; first | refine zaj ?_) | (refine hK _ ?_; clear hK K) | (rename_i K1 hK1; refine hK1 _ ?_; clear hK hK1; clear K) | (rename_i K1 hK1; refine hK1 _ ?_; clear hK1) | refine zac rfl ?_ | refine zaq (by kernel_rfl) (by kernel_rfl) rfl ?_ | exact zah (show zat _ _ _ = some _ by kernel_rfl) | refine zaf rfl rfl ?_ | refine zae rfl rfl ?_ | refine zag ?_ | refine zar ?_ | refine zak ?_ | refine zab (fun K hK => ?_) | refine zaz ?_ | refine za3 ?_ | refine zah (show zat _ _ _ = some _ ∧ EndB _ _ from ⟨by kernel_rfl, ?_⟩))
     | true =>
      rw [← hN, ← hV]; show Aw _ _ _ _ (rgA t _ sz xs _ _ 512); unfold rgA
      repeat (first | (refine zai rfl ?_; first | refine zaj ?_) | (refine hK _ ?_; clear hK K) | (rename_i K1 hK1; refine hK1 _ ?_; clear hK hK1; clear K) | (rename_i K1 hK1; refine hK1 _ ?_; clear hK1) | refine zac rfl ?_ | refine zaq (by kernel_rfl) (by kernel_rfl) rfl ?_ | exact zah (show zat _ _ _ = some _ by kernel_rfl) | refine zaf rfl rfl ?_ | refine zae rfl rfl ?_ | refine zag ?_ | refine zar ?_ | refine zak ?_ | refine zab (fun K hK => ?_) | refine zaz ?_ | refine za3 ?_ | refine zah (show zat _ _ _ = some _ ∧ EndB _ _ from ⟨by kernel_rfl, ?_⟩))
theorem zmo (h : TI cd cp sz xs f sh lv) (hx : xs.length ≤ 1000000) : ∀ (l : Nat) (t : Int) (met : List Int), l ≤ 2 → Al cd cp f t → lv t = l → (met ++ frN sz xs l t).Nodup → (met ++ frN sz xs l t).length ≤ 64 →
 Ok 65 [zbm sz xs, iu t, ii l, .c (.s met.length 1 (flU met))] (.tu [.c (.s (met ++ frN sz xs l t).length 1 (flU (met ++ frN sz xs l t))), ib true]) := by
 intro l
 induction l with
 | zero => exact fun t met l2 => zle h hx 0 (fun m e => by omega) t met l2
 | succ l ih =>
  intro t met l2; refine zle h hx (l + 1) (fun m e t met => ?_) t met l2; obtain rfl : m = l := by omega
  exact ih t met (by omega)
end
end LoA
namespace LrD
open Go.RowKit Bv Base MemL RegR Ax MemC PutC OkS SpA SpD SpH SpI SpN RfA RfG RfJ LaA LaB LaC LaD LaE LaG LaH LaI RlA RlB RlC LiE
open PteSpec
attribute [local irreducible] Ax.zbr
def frH (b m f : Int) (i n : Nat) : St := St.of [(1, .m (.c (.p 1 0))), (2, .m (ii 0)), (3, .m (ii n)), (4, .m (ii i))] [(1, .live (.box [cu b, ci m, cu f]))]
theorem z1q (b m f : Int) (hf : U f) : Ok 21 [.ag [cu b, ci m, cu f]] (.m (ii (cnt f))) := by
 obtain ⟨R, hR⟩ : ∃ R : Nat, R = cnt f := ⟨_, rfl⟩; rw [← hR]; refine zad 16 Tryz.func21 rfl rfl rfl rfl ?_ GG.to; intro W A hG
 repeat (first | (refine zai rfl ?_; first | refine zaj ?_) | (refine hK _ ?_; clear hK K) | refine zac rfl ?_ | refine zag ?_ | refine zab (fun K hK => ?_))
 refine za1 (α := Nat × Nat) (fun p => p.1 ≤ 64 ∧ p.2 = cs p.1 (fun j => zfh f (j : Int)) ∧ p.2 ≤ p.1) (fun p => frH b m f p.1 p.2) (fun p => 64 - p.1) (0, 0) ⟨by show 0 ≤ 64; omega, rfl, by show 0 ≤ 0; omega⟩ (sbq _ _) ?_
 rintro ⟨i, n⟩ ⟨x1, x2, x3⟩; have g1 : i ≤ 64 := x1; have g2 : n = cs i (fun j => zfh f (j : Int)) := x2; have g3 : n ≤ i := x3; show Aw _ _ _ _ (frH b m f i n); unfold frH; by_cases hlt : i < 64
 · have h1 := zfl f (i : Int) hf (by omega) (by omega); cases hb : zfh f (i : Int) with
   | true =>
    rw [hb] at h1
    repeat (first | (refine zai rfl ?_; first | refine zaj ?_ | refine gdr (zaa rfl rfl rfl (h1) (by kernel_rfl)) ?_) | (refine hK _ ?_; clear hK K) | refine zac rfl ?_ | refine zaf rfl rfl ?_ | refine zag ?_ | refine zak ?_ | refine zab (fun K hK => ?_))
    exact ⟨(i + 1, n + 1), ⟨by show i + 1 ≤ 64; omega, by show n + 1 = cs i (fun j => zfh f (j : Int)) + (zfh f (i : Int)).toNat; rw [hb, g2]; rfl, by show n + 1 ≤ i + 1; omega⟩, by show 64 - (i + 1) < 64 - i; omega, sbq _ _⟩
   | false =>
    rw [hb] at h1
    repeat (first | (refine zai rfl ?_; first | refine zaj ?_ | refine gdr (zaa rfl rfl rfl (h1) (by kernel_rfl)) ?_) | (refine hK _ ?_; clear hK K) | refine zac rfl ?_ | refine zaf rfl rfl ?_ | refine zae rfl rfl ?_ | refine zag ?_ | refine zak ?_ | refine zab (fun K hK => ?_))
    exact ⟨(i + 1, n), ⟨by show i + 1 ≤ 64; omega, by show n = cs i (fun j => zfh f (j : Int)) + (zfh f (i : Int)).toNat; rw [hb, g2]; rfl, by show n ≤ i + 1; omega⟩, by show 64 - (i + 1) < 64 - i; omega, sbq _ _⟩
 · have e : i = 64 := by omega
   subst e; have e2 : R = n := by rw [hR, g2]; rfl
   subst e2
   repeat (first | (refine zai rfl ?_; first | refine zaj ?_) | (refine hK _ ?_; clear hK K) | (rename_i K1 hK1; refine hK1 _ ?_; clear hK hK1; clear K) | refine zac rfl ?_ | exact zah (show zat _ _ _ = some _ by kernel_rfl) | refine zae rfl rfl ?_ | refine zar ?_ | refine zab (fun K hK => ?_))
end LrD
namespace LoB
open Go.RowKit Bv VaSpec Base MemL RegR Ax MemC PutC OkS SpA SpB SpD SpE SpF SpN SpG SpH SpI LaA LaB LaC LaD LaE LaF LaG LiA LiB LiC LiE LrA LjA LjF LkE LmA LmE LnA LnB PteSpec RfG RfJ RfA RfP RfQ LnD LnF LnG LnH RfC RlA RlB LoA LrD RfB SpG
open PteSpec
theorem z7k (w : World) (q : Pte) :
 (Op.equalIn 10000 65 (.agg #[.bool q.v, .bool q.r, .bool q.w, .bool q.x, .bool q.u, .bool q.g, .bool q.a, .bool q.d, .int .u64 q.rsw, .int .u64 q.ppn, .int .u64 q.high]) (.agg #[.bool q.v, .bool q.r, .bool q.w, .bool q.x, .bool q.u, .bool q.g, .bool q.a, .bool q.d, .int .u64 q.rsw, .int .u64 q.ppn, .int .u64 q.high])).run Tryz.prog w = .ok true w := by
 have : (Op.equalIn 10000 65 (.agg #[.bool q.v, .bool q.r, .bool q.w, .bool q.x, .bool q.u, .bool q.g, .bool q.a, .bool q.d, .int .u64 q.rsw, .int .u64 q.ppn, .int .u64 q.high]) (.agg #[.bool q.v, .bool q.r, .bool q.w, .bool q.x, .bool q.u, .bool q.g, .bool q.a, .bool q.d, .int .u64 q.rsw, .int .u64 q.ppn, .int .u64 q.high])).run Tryz.prog w = .ok (q.v == q.v && (q.r == q.r && (q.w == q.w && (q.x == q.x && (q.u == q.u && (q.g == q.g && (q.a == q.a && (q.d == q.d && (q.rsw == q.rsw && (q.ppn == q.ppn && (q.high == q.high && true))))))))))) w := by
  refine PoolC4.zc9 Tryz.underlying65 (by kernel_rfl) ?_; refine PoolC4.zau (by rfl) (by go_simp; rfl) (by go_simp; rfl) (by go_simp) ?_
  refine PoolC4.zau (by rfl) (by go_simp; rfl) (by go_simp; rfl) (by go_simp) ?_
  refine PoolC4.zau (by rfl) (by go_simp; rfl) (by go_simp; rfl) (by go_simp) ?_
  refine PoolC4.zau (by rfl) (by go_simp; rfl) (by go_simp; rfl) (by go_simp) ?_
  refine PoolC4.zau (by rfl) (by go_simp; rfl) (by go_simp; rfl) (by go_simp) ?_
  refine PoolC4.zau (by rfl) (by go_simp; rfl) (by go_simp; rfl) (by go_simp) ?_
  refine PoolC4.zau (by rfl) (by go_simp; rfl) (by go_simp; rfl) (by go_simp) ?_
  refine PoolC4.zau (by rfl) (by go_simp; rfl) (by go_simp; rfl) (by go_simp) ?_
  refine PoolC4.zau (by rfl) (by go_simp; rfl) (by go_simp; rfl) (by go_simp) ?_
  refine PoolC4.zau (by rfl) (by go_simp; rfl) (by go_simp; rfl) (by go_simp) ?_
  exact PoolC4.zau (by rfl) (by go_simp; rfl) (by go_simp; rfl) (by go_simp) PoolC4.zcq
 rw [this]; simp
attribute [local irreducible] Ax.zbr
def zvg (k : Kr) (s : Sp) : List Int := frN k.sz (zb3 k.m (s.root * 512 + 511) 0) 2 s.root
def zey (k : Kr) (l : List Sp) : List Int := frN k.sz k.m 1 k.sh ++ l.flatMap fun s => if s.live then zvg k s else []
theorem zy7 (k : Kr) (l : List Sp) (s : Sp) : zey k (l ++ [s]) = zey k l ++ (if s.live then zvg k s else []) := by
 unfold zey; rw [List.flatMap_append, ← List.append_assoc]; simp
theorem z1r (k : Kr) (l r : List Sp) : ∃ q, zey k (l ++ r) = zey k l ++ q := by
 unfold zey; rw [List.flatMap_append, ← List.append_assoc]; exact ⟨_, rfl⟩
theorem z8v {cd cp f x : Int} (h : Al cd cp f x) : PoolC.isP cd cp f x = true := by
 obtain ⟨h1, h2⟩ := h; unfold PoolC.isP PoolC.inP; rw [decide_eq_true (by omega), decide_eq_true (by omega), znm _ _ (by omega), h2]
 rfl
def trH (k : Kr) (i n : Nat) (xs : List Value) : St := St.of [(1, .m (.c (.p 1 0))), (3, .m (.c (.s n 1 xs))), (4, .m (ib true)), (5, .m (ii i))] [(1, .live (.box k.ce))]
theorem z5c {l : List Sp} {i : Nat} {s : Sp} (h : l[i]? = some s) : l.take (i + 1) = l.take i ++ [s] := by rw [List.take_add_one, h]; rfl
theorem zt2 {cd cp sz f sh : Int} {xs : List (Int × Int)} {lv : Int → Int} (h : TI cd cp sz xs f sh lv) {rt : Int} (ha : Al cd cp f rt) : TI cd cp sz (zb3 xs (rt * 512 + 511) 0) f sh lv ∧ ∀ s j, (0 ≤ j ∧ j < 512) → atM sz (zb3 xs (rt * 512 + 511) 0) s j = if s = rt ∧ j = 511 then zP else atM sz xs s j := by
 have b1 := h.bd; have bt := ha.1; refine ⟨h.put bt (by omega) ⟨by omega, by omega⟩ h.bf fun E' hE => h.e.sub fun s j hj => ?_, fun s j hj => zhc (cd := cd) (cp := cp) h.s h.bz (by omega) (by omega) s j hj⟩; rw [hE s j hj, znr]
 split
 · exact .inl rfl
 · exact .inr rfl
theorem zy8 {n : Nat} {k : Kr} (h : InvT n k) (hn : n ≤ 100000) (hg : ∀ s ∈ k.ss, s.live = true → atM k.sz k.m s.root 511 = gP k.sh) (hnd : (zey k k.ss).Nodup) (hal : ∀ x ∈ zey k k.ss, Al k.cd k.cp k.pf x) (hc : ((zey k k.ss).length : Int) + cnt k.pf = k.cp) : Ok 17 [.ag k.ce] (.m (ib true)) := by
 obtain ⟨lv, hT, hs, hr⟩ := h.t; have b1 := hT.bd; have b2 := hT.bp; have bz := hT.bz; have hml := h.l.ml; have hsl := h.l.sl; have hpb := h.l.pb; have hpm := h.l.pm; have hsh := h.l.sh; have bsh := hsh.1; have pre : ∀ l r, k.ss = l ++ r → (zey k l).Nodup ∧ (zey k l).length ≤ 64 := fun l r e => by
  obtain ⟨q, hq⟩ := z1r k l r; rw [← e] at hq; rw [hq] at hnd hc; rw [List.nodup_append] at hnd; rw [List.length_append] at hc; exact ⟨hnd.1, by omega⟩
 have p0 := pre [] k.ss rfl; have m0 : zey k [] = frN k.sz k.m 1 k.sh := by unfold zey; simp
 rw [m0] at p0; have hr0 := zmo hT (by omega) 1 k.sh [] (by omega) hsh (by rw [hs]; rfl) (by simpa using p0.1) (by simpa using p0.2)
 have hr1 : Ok 65 [zbm k.sz k.m, iu k.sh, ii 1, .c (.v (.slice none 0 0))] (.tu [.c (.s (zey k []).length 1 (flU (zey k []))), ib true]) := by
  rw [m0]; exact zre hr0 rfl ⟨fun _ _ h => h, fun _ _ h => h, fun _ _ h => h, fun E v hv => ltC.nil 1 E v hv, trivial⟩
 have hfree := z1q k.pb k.pm k.pf hT.uf; refine zad 97 Tryz.func17 rfl rfl rfl rfl ?_ GG.to; intro W A hG
 repeat (first | (refine zai rfl ?_; first | refine zaj ?_ | refine gdr (zaa rfl rfl rfl (hr1) (by kernel_rfl)) ?_) | (refine hK _ ?_; clear hK K) | (rename_i K1 hK1; refine hK1 _ ?_; clear hK hK1; clear K) | (rename_i K1 hK1; refine hK1 _ ?_; clear hK1) | refine zac rfl ?_ | refine zaq (by kernel_rfl) (by kernel_rfl) rfl ?_ | exact zah (show zat _ _ _ = some _ by kernel_rfl) | refine zaf rfl rfl ?_ | refine zae rfl rfl ?_ | refine zag ?_ | refine zar ?_ | refine zak ?_ | refine zab (fun K hK => ?_) | refine zaz ?_ | refine za3 ?_ | refine zah (show zat _ _ _ = some _ ∧ EndB _ _ from ⟨by kernel_rfl, ?_⟩))
 refine za1 (α := Nat) (fun i => i ≤ k.ss.length) (fun i => trH k i (zey k (k.ss.take i)).length (flU (zey k (k.ss.take i)))) (fun i => k.ss.length - i) 0 (Nat.zero_le _) (sbq _ _) ?_; intro i hi; show Aw _ _ _ _ (trH k i (zey k (k.ss.take i)).length (flU (zey k (k.ss.take i)))); unfold trH; by_cases hlt : i < k.ss.length
 · obtain ⟨s, hs0⟩ : ∃ s, k.ss[i]? = some s := ⟨_, List.getElem?_eq_getElem hlt⟩; have hx : ((flS k.ss).drop (i * 3)).take 3 = [.int .u64 s.root, .int .u64 s.asid, .bool s.live] := zfc Sp.vs 3 (fun _ => rfl) k.ss _ s hs0; have hsm := List.mem_of_getElem? hs0; have htk := z5c hs0; have hsn := zy7 k (k.ss.take i) s; rw [← htk] at hsn; have hp := pre (k.ss.take (i + 1)) (k.ss.drop (i + 1)) (List.take_append_drop _ _).symm; cases hl : s.live with
   | false =>
    rw [hl] at hx hsn; replace hsn : zey k (k.ss.take (i + 1)) = zey k (k.ss.take i) := by rw [hsn]; simp
    repeat (first | (refine zai rfl ?_; first | refine zaj ?_) | (refine hK _ ?_; clear hK K) | (rename_i K1 hK1; refine hK1 _ ?_; clear hK hK1; clear K) | (rename_i K1 hK1; refine hK1 _ ?_; clear hK1) | refine zac rfl ?_ | refine zaq (by kernel_rfl) (by kernel_rfl) rfl ?_ | exact zah (show zat _ _ _ = some _ by kernel_rfl) | refine zaf rfl rfl ?_ | refine zae rfl rfl ?_ | refine zag ?_ | refine zar ?_ | refine zak ?_ | refine zab (fun K hK => ?_) | refine zaz ?_ | refine za3 ?_ | refine zah (show zat _ _ _ = some _ ∧ EndB _ _ from ⟨by kernel_rfl, ?_⟩))
    refine ⟨i + 1, hlt, by omega, ?_⟩; rw [hsn]; exact sbq _ _
   | true =>
    rw [hl] at hx hsn; replace hsn : zey k (k.ss.take (i + 1)) = zey k (k.ss.take i) ++ zvg k s := by rw [hsn]; simp
    have har := h.l.ss s hsm hl; have hrl := hr s hsm hl; have bar := har.1; have ha := z2e k.sz k.m s.root 511 ⟨by omega, by omega⟩ ⟨by omega, by omega⟩ hT.s hT.u (by omega)
    rw [show zay (zbs k.sz k.m (4096 * s.root + 8 * 511)) = gP k.sh from by
     rw [show 4096 * s.root + 8 * 511 = s.root * 4096 + 511 * 8 by omega]; exact hg s hsm hl] at ha
    have hpl := zi9 k.m (512 * s.root + 511) 0; have hst := zkx k.sz k.m (512 * s.root + 511) 0 hT.s (by omega); have hTo := (zt2 hT har).1; have e5 : s.root * 512 + 511 = 512 * s.root + 511 := by omega
    have hrr := zmo hTo (by rw [e5]; omega) 2 s.root (zey k (k.ss.take i)) (by omega) har hrl (by
     have := hp.1; rw [hsn] at this; exact this) (by
     have := hp.2; rw [hsn] at this; exact this)
    replace hrr : Ok 65 [zbm k.sz (zb3 k.m (s.root * 512 + 511) 0), iu s.root, ii 2, .c (.s (zey k (k.ss.take i)).length 1 (flU (zey k (k.ss.take i))))] (.tu [.c (.s (zey k (k.ss.take i) ++ zvg k s).length 1 (flU (zey k (k.ss.take i) ++ zvg k s))), ib true]) := hrr; rw [← hsn] at hrr; rw [e5] at hrr; clear hsn hp; generalize zey k (k.ss.take i) = M0 at *
    repeat (first | (refine zai rfl ?_; first | refine zaj ?_ | refine gdr (zaa rfl rfl rfl (ha) (by kernel_rfl)) ?_ | refine gdr (zaa rfl rfl rfl (hst) (by kernel_rfl)) ?_ | refine gdr (zaa rfl rfl rfl (hrr) (by kernel_rfl)) ?_ | refine gdr (zcl (us := [.bool true, .bool false, .bool false, .bool false, .bool false, .bool true, .bool false, .bool false, .int .u64 0, .int .u64 k.sh, .int .u64 0]) (vs := [.bool true, .bool false, .bool false, .bool false, .bool false, .bool true, .bool false, .bool false, .int .u64 0, .int .u64 k.sh, .int .u64 0]) (fun w => z7k w (gP k.sh)) (by kernel_rfl) rfl rfl (by kernel_rfl) (by kernel_rfl)) ?_) | (refine hK _ ?_; clear hK K) | (rename_i K1 hK1; refine hK1 _ ?_; clear hK hK1; clear K) | (rename_i K1 hK1; refine hK1 _ ?_; clear hK1) | refine zac rfl ?_ | refine zaq (by kernel_rfl) (by kernel_rfl) rfl ?_ | exact zah (show zat _ _ _ = some _ by kernel_rfl) | refine zaf rfl rfl ?_ | refine zae rfl rfl ?_ | refine zag ?_ | refine zar ?_ | refine zak ?_ | refine zab (fun K hK => ?_) | refine zaz ?_ | refine za3 ?_ | refine zah (show zat _ _ _ = some _ ∧ EndB _ _ from ⟨by kernel_rfl, ?_⟩))
    exact ⟨i + 1, hlt, by omega, sbq _ _⟩
 · have hi' : i = k.ss.length := by omega
   rw [hi', List.take_length]; have hi2 : ¬ i < k.ss.length := hlt; clear pre p0 m0 hr0 hr1; have hcb : ((zey k k.ss).length : Int) = k.pm - (cnt k.pf : Int) := by omega
   clear hnd; generalize hM : zey k k.ss = M at *; subst hi'
   repeat (first | (refine zai rfl ?_; first | refine zaj ?_ | refine gdr (zaa rfl rfl rfl (hfree) (by kernel_rfl)) ?_) | (refine hK _ ?_; clear hK K) | (rename_i K1 hK1; refine hK1 _ ?_; clear hK hK1; clear K) | (rename_i K1 hK1; refine hK1 _ ?_; clear hK1) | refine zac rfl ?_ | refine zaq (by kernel_rfl) (by kernel_rfl) rfl ?_ | exact zah (show zat _ _ _ = some _ by kernel_rfl) | refine zaf rfl rfl ?_ | refine zae rfl rfl ?_ | refine zag ?_ | refine zar ?_ | refine zak ?_ | refine zab (fun K hK => ?_) | refine zaz ?_ | refine za3 ?_ | refine zah (show zat _ _ _ = some _ ∧ EndB _ _ from ⟨by kernel_rfl, ?_⟩))
   refine za1 (α := Nat) (fun j => j ≤ M.length) (fun j => St.of [(1, .m (.c (.p 1 0))), (3, .m (.c (.s M.length 1 (flU M)))), (7, .m (ii j))] [(1, .live (.box k.ce))]) (fun j => M.length - j) 0 (Nat.zero_le _) (sbq _ _) ?_; intro j hj; by_cases hjt : j < M.length
   · obtain ⟨x, hx0⟩ : ∃ x, M[j]? = some x := ⟨_, List.getElem?_eq_getElem hjt⟩; have hx := z2t hx0; have hin := hal x (List.mem_of_getElem? hx0); have bin := hin.1; have his := z4k k.pb k.pm k.pf x (by omega) (by omega) hT.uf ⟨by omega, by omega⟩; rw [hpb, hpm, z8v hin, ← hpb, ← hpm] at his
     repeat (first | (refine zai rfl ?_; first | refine zaj ?_ | refine gdr (zaa rfl rfl rfl (his) (by kernel_rfl)) ?_) | (refine hK _ ?_; clear hK K) | (rename_i K1 hK1; refine hK1 _ ?_; clear hK hK1; clear K) | (rename_i K1 hK1; refine hK1 _ ?_; clear hK1) | refine zac rfl ?_ | refine zaq (by kernel_rfl) (by kernel_rfl) rfl ?_ | exact zah (show zat _ _ _ = some _ by kernel_rfl) | refine zaf rfl rfl ?_ | refine zae rfl rfl ?_ | refine zag ?_ | refine zar ?_ | refine zak ?_ | refine zab (fun K hK => ?_) | refine zaz ?_ | refine za3 ?_ | refine zah (show zat _ _ _ = some _ ∧ EndB _ _ from ⟨by kernel_rfl, ?_⟩))
     exact ⟨j + 1, by omega, by omega, sbq _ _⟩
   · skip
     repeat (first | (refine zai rfl ?_; first | refine zaj ?_) | (refine hK _ ?_; clear hK K) | (rename_i K1 hK1; refine hK1 _ ?_; clear hK hK1; clear K) | (rename_i K1 hK1; refine hK1 _ ?_; clear hK1) | refine zac rfl ?_ | refine zaq (by kernel_rfl) (by kernel_rfl) rfl ?_ | exact zah (show zat _ _ _ = some _ by kernel_rfl) | refine zaf rfl rfl ?_ | refine zae rfl rfl ?_ | refine zag ?_ | refine zar ?_ | refine zak ?_ | refine zab (fun K hK => ?_) | refine zaz ?_ | refine za3 ?_ | refine zah (show zat _ _ _ = some _ ∧ EndB _ _ from ⟨by kernel_rfl, ?_⟩))
end LoB
namespace LoC
open Go.RowKit Bv VaSpec Base MemL RegR Ax MemC PutC MemC3 TzC OkS SpA SpB SpC SpD SpE SpF SpN SpO SpG SpH SpI SpJ LaA LaB LaC LaD LaE LaF LaG LiA LiB LiC LiE LiF LrA LrB LrC LjA LjF LkE LmA LmE LnA LnB BitsC PteSpec RfG RfJ RfK LaH RfQ LnD LnF LnG LnH RfC RlA RlB LoA LrD SpG LoB
open BitsC PteSpec
theorem zy9 (p : Nat → Bool) : ∀ n : Nat, ((List.range n).filter fun j => !p j).length + cs n p = n
 | 0 => rfl
 | n + 1 => by
  have I := zy9 p n; rw [List.range_succ, List.filter_append, List.length_append]; have e : cs (n + 1) p = cs n p + (p n).toNat := by simp [cs]
  rw [e]; cases h : p n <;> simp [h] <;> omega
theorem z7l (p : Nat → Bool) (m : Nat) (hp : ∀ j, m ≤ j → p j = false) : ∀ d : Nat, cs (m + d) p = cs m p
 | 0 => rfl
 | d + 1 => by
  have e : cs (m + (d + 1)) p = cs (m + d) p + (p (m + d)).toNat := by
   rw [show m + (d + 1) = (m + d) + 1 by omega]; simp [cs]
  rw [e, z7l p m hp d, hp _ (by omega)]; rfl
theorem z7m {f : Int} {c : Nat} (hu : U f) (hf : f < 2 ^ c) (j : Nat) (hj : c ≤ j) : zfh f (j : Int) = false := by
 rw [zea (by omega), Int.toNat_natCast]; have e : (X f).toNat = f.toNat := zro hu; have : (X f).toNat < 2 ^ j := by
  rw [e]; have h1 : (2 : Int) ^ c = ((2 ^ c : Nat) : Int) := by push_cast; rfl
  have h2 : 2 ^ c ≤ 2 ^ j := Nat.pow_le_pow_right (by omega) hj; have := hu.1; omega
 rw [BitVec.getLsbD]; exact Nat.testBit_lt_two_pow this
def alL (cd cp f : Int) : List Int := ((List.range cp.toNat).filter fun (j : Nat) => !zfh f (j : Int)).map fun (j : Nat) => cd + (j : Int)
theorem zza {cd cp f s : Int} : s ∈ alL cd cp f ↔ Al cd cp f s := by
 unfold alL Al; rw [List.mem_map]; constructor
 · rintro ⟨j, hj, rfl⟩; obtain ⟨h1, h2⟩ := List.mem_filter.1 hj; have h1 := List.mem_range.1 h1; rw [Bool.not_eq_true'] at h2; exact ⟨⟨by omega, by omega⟩, by rw [show cd + (j : Int) - cd = (j : Int) by omega]; exact h2⟩
 · rintro ⟨⟨h1, h2⟩, h3⟩; refine ⟨(s - cd).toNat, List.mem_filter.2 ⟨List.mem_range.2 (by omega), ?_⟩, by omega⟩; rw [show (((s - cd).toNat : Nat) : Int) = s - cd by omega, h3]; rfl
theorem z7n (cd cp f : Int) : (alL cd cp f).Nodup := by
 unfold alL; refine List.Pairwise.map _ ?_ ((List.nodup_range (n := cp.toNat)).sublist List.filter_sublist); intro a b hab e; exact hab (by omega)
theorem zzb {cd cp f : Int} (hb : 1 ≤ cp ∧ cp ≤ 64) (hf : 0 ≤ f ∧ f < 2 ^ cp.toNat) : ((alL cd cp f).length : Int) + cnt f = cp := by
 have hu : U f := zha hf.1 hf.2 (by omega); have h1 := zy9 (fun j => zfh f (j : Int)) cp.toNat; have h2 := z7l (fun j => zfh f (j : Int)) cp.toNat (fun j hj => z7m hu hf.2 j hj) (64 - cp.toNat); rw [show cp.toNat + (64 - cp.toNat) = 64 by omega] at h2; unfold alL cnt; rw [List.length_map, h2]; omega
structure GI (E : Int → Int → Pte) (al : Int → Prop) (sh : Int) (rs : List Int) : Prop where
 r : ∀ r ∈ rs, E r 511 = gP sh
 g : ∀ s i, (0 ≤ i ∧ i < 512) → lkP (E s i) = true → (E s i).ppn ≠ sh → (E s i).g = false
 c : ∀ s, al s → s = sh ∨ s ∈ rs ∨ ∃ t i, (0 ≤ i ∧ i < 512) ∧ lkP (E t i) = true ∧ (E t i).ppn = s
theorem z8w (n : Int) : lkP (gP n) = true ∧ (gP n).ppn = n := ⟨rfl, rfl⟩
theorem GI.grow {E E' : Int → Int → Pte} {al al' : Int → Prop} {sh : Int} {rs : List Int} (h : GI E al sh rs) (h1 : ∀ s i, (0 ≤ i ∧ i < 512) → lkP (E s i) = true → E' s i = E s i) (h2 : ∀ s i, (0 ≤ i ∧ i < 512) → lkP (E' s i) = true → (E' s i).ppn ≠ sh → E' s i = E s i ∨ (E' s i).g = false) (h3 : ∀ s, al' s → al s ∨ ∃ t i, (0 ≤ i ∧ i < 512) ∧ lkP (E' t i) = true ∧ (E' t i).ppn = s) : GI E' al' sh rs := by
 refine ⟨fun r hr => ?_, fun s i hi k1 k2 => ?_, fun s hs => ?_⟩
 · have e := h.r r hr; rw [h1 r 511 (by omega) (by rw [e]; exact (z8w sh).1), e]
 · rcases h2 s i hi k1 k2 with e | e
   · rw [e] at k1 k2 ⊢; exact h.g s i hi k1 k2
   · exact e
 · rcases h3 s hs with q | q
   · rcases h.c s q with e | e | ⟨t, i, hi, q1, q2⟩
     · exact .inl e
     · exact .inr (.inl e)
     · have e := h1 t i hi q1; exact .inr (.inr ⟨t, i, hi, by rw [e]; exact q1, by rw [e]; exact q2⟩)
   · exact .inr (.inr q)
theorem GI.rm {E E' : Int → Int → Pte} {al al' : Int → Prop} {sh : Int} {rs : List Int} {R : Int → Int → Prop} (h : GI E al sh rs) (q : Rm E al sh R E' al') : GI E' al' sh rs := by
 refine ⟨fun r hr => ?_, fun s i hi k1 k2 => ?_, fun s hs => ?_⟩
 · have e := h.r r hr; rw [q.k r 511 (by omega) fun hd => ?_, e]; rcases hd.inv with ⟨c, _⟩ | ⟨_, c, _⟩
   · rw [e] at c; cases c
   · rw [e] at c; exact c rfl
 · have e := (q.nz hi (zn9 k1)).2; rw [e] at k1 k2 ⊢; exact h.g s i hi k1 k2
 · obtain ⟨q1, q2⟩ := (q.a s).1 hs; rcases h.c s q1 with e | e | ⟨t, i, hi, c1, c2⟩
   · exact .inl e
   · exact .inr (.inl e)
   · have e := q.k t i hi (q2 t i hi c1 c2); exact .inr (.inr ⟨t, i, hi, by rw [e]; exact c1, by rw [e]; exact c2⟩)
section
variable {cd cp sz sh : Int} {rs : List Int}
theorem z7o (addr zam : Int) (hw : 0 ≤ zam) : ∀ (l : Nat) (xs : List (Int × Int)) (f t : Int) (lv : Int → Int), TI cd cp sz xs f sh lv → GI (atM sz xs) (Al cd cp f) sh rs → Al cd cp f t → Al cd cp f sh → lv t = l → l ≤ 2 → zam ≤ (l : Int) → (atM sz xs t (idx addr (l : Int))).v = false → (dnN sz cd addr zam l xs f t).2.2.2 = 0 →
 GI (atM sz (dnN sz cd addr zam l xs f t).1) (Al cd cp (dnN sz cd addr zam l xs f t).2.1) sh rs ∧ (atM sz (dnN sz cd addr zam l xs f t).1 (dnN sz cd addr zam l xs f t).2.2.1 (idx addr zam)).v = false
 | 0, xs, f, t, lv, h, g, ht, _, hl, _, hwl, hv, _ => ⟨g, by
  have e : zam = ((0 : Nat) : Int) := by omega
  rw [e]; exact hv⟩
 | l + 1, xs, f, t, lv, h, g, ht, hsh, hl, h2, hwl, hv, he => by
  have hi := idx_bd addr ((l + 1 : Nat) : Int); have hlf : zas (atM sz xs t (idx addr ((l + 1 : Nat) : Int))) = false := by unfold zas; rw [hv]; rfl
  have hn : zbf (atM sz xs t (idx addr ((l + 1 : Nat) : Int))) = false := by unfold zbf; rw [hv]; rfl
  have hnl : lkP (atM sz xs t (idx addr ((l + 1 : Nat) : Int))) = false := by
   cases e : lkP (atM sz xs t (idx addr ((l + 1 : Nat) : Int))) with
   | false => rfl
   | true => rw [(za8 e).1] at hn; cases hn
  unfold dnN at he ⊢; by_cases c1 : ((l + 1 : Nat) : Int) ≤ zam
  · rw [if_pos c1]; have e : zam = ((l + 1 : Nat) : Int) := by omega
    exact ⟨g, by rw [e]; exact hv⟩
  · rw [if_neg c1, if_neg (by rw [hlf]; simp), if_neg (by rw [hv]; simp)] at he ⊢
    by_cases c4 : f = 0
    · rw [if_pos c4] at he; cases he
    · rw [if_neg c4] at he ⊢; obtain ⟨a0, a1, a2, a3⟩ := zch h c4; have b1 := h.bd; have b2 := h.bp; have hbt := ht.1; have hnn : 0 ≤ cd + tzI f ∧ cd + tzI f < 17592186044416 := by omega
      have hT := zn0 h c4 ht hsh (by rw [hl]; omega) hi hn
      have hat := fun s j hj => zn7 h ht hi (zhb hnn) (zfj hnn) s j hj; have hcp : cp ≤ 64 := b2.2; refine z7o addr zam hw l _ _ _ _ hT ?_ a1 (a0 _ hsh).1 (by rw [hl]; show upL lv (cd + tzI f) _ (cd + tzI f) = _; unfold upL; rw [if_pos rfl]; omega) (by omega) (by omega) ?_ he
      · refine g.grow (fun s i hi' hk => ?_) (fun s i hi' k1 k2 => ?_) (fun s hs => ?_)
        · rw [hat s i hi', if_neg]; rintro ⟨rfl, rfl⟩; rw [hnl] at hk; cases hk
        · rw [hat s i hi']; by_cases c : s = t ∧ i = idx addr ((l + 1 : Nat) : Int)
          · rw [if_pos c]; exact .inr rfl
          · rw [if_neg c]; exact .inl rfl
        · by_cases c : s = cd + tzI f
          · refine .inr ⟨t, _, hi, ?_, ?_⟩
            · rw [hat t _ hi, if_pos ⟨rfl, rfl⟩]; rfl
            · rw [hat t _ hi, if_pos ⟨rfl, rfl⟩]; exact c.symm
          · refine .inl ⟨hs.1, ?_⟩; have := hs.2; have t1 := zct h.uf h.bf.2 c4; rw [zfi h.uf t1.1 (by omega) (by have := hs.1; omega) (by have := hs.1; omega), if_neg (by omega)] at this
            exact this
      · have hj := idx_bd addr (l : Int); rw [hat _ _ hj, if_neg (by rintro ⟨e, _⟩; exact (a0 _ ht).2 e.symm)]
        rcases h.e.k (cd + tzI f) _ hj with e | ⟨e, _⟩
        · rw [e]; rfl
        · exact absurd rfl (a0 _ e).2
theorem z7p {f : Int} {xs : List (Int × Int)} {lv : Int → Int} (h : TI cd cp sz xs f sh lv) (g : GI (atM sz xs) (Al cd cp f) sh rs) (h0 : f ≠ 0) {t i l : Int} {q : Pte} (ht : Al cd cp f t) (hi : 0 ≤ i ∧ i < 512) (hl : 1 ≤ l ∧ l ≤ 2) (hq : q = atM sz xs t i) (h1 : zas q = true) (h2 : zco q l = false) : GI (atM sz (zfk sz xs t i l q (cd + tzI f))) (Al cd cp (zbx f (tzI f) 1 0)) sh rs := by
 have hat := fun s j hj => zks h h0 ht hi hl hq h1 h2 s j hj; obtain ⟨a0, a1, a2, a3⟩ := zch h h0; have b2 := h.bp; have hU : q.U := by rw [hq]; exact ze5 h.u _ _ _
 have hm : zhr q = true := by rw [hq]; exact zg0 h.u
 have hgt : cd + tzI f ≠ t := fun e => (a0 _ ht).2 e.symm; have hzg : ∀ j, (0 ≤ j ∧ j < 512) → atM sz xs (cd + tzI f) j = zP := fun j hj => by
  rcases h.e.k (cd + tzI f) j hj with e | ⟨e, _⟩
  · exact e
  · exact absurd rfl (a0 _ e).2
 refine g.grow (fun s j hj hk => ?_) (fun s j hj k1 k2 => ?_) (fun s hs => ?_)
 · rw [hat s j hj, if_neg, if_neg]
   · intro e; rw [e, hzg j hj] at hk; cases hk
   · rintro ⟨rfl, rfl⟩; rw [← hq, zcg h1] at hk; cases hk
 · rw [hat s j hj] at k1 ⊢; by_cases c : s = t ∧ j = i
   · rw [if_pos c]; exact .inr rfl
   · rw [if_neg c] at k1 ⊢; by_cases d : s = cd + tzI f
     · rw [if_pos d, zcg (zd4 hU hm hl h1 h2 hj).2.2.1] at k1; cases k1
     · rw [if_neg d]; exact .inl rfl
 · by_cases c : s = cd + tzI f
   · refine .inr ⟨t, i, hi, ?_, ?_⟩
     · rw [hat t i hi, if_pos ⟨rfl, rfl⟩]; rfl
     · rw [hat t i hi, if_pos ⟨rfl, rfl⟩]; exact c.symm
   · refine .inl ⟨hs.1, ?_⟩; have := hs.2; have t1 := zct h.uf h.bf.2 h0; rw [zfi h.uf t1.1 (by omega) (by have := hs.1; omega) (by have := hs.1; omega), if_neg (by omega)] at this
     exact this
theorem z5d (addr zam top : Int) (l : Nat) (hw : 0 ≤ zam) (hwl : zam ≤ (l : Int)) (hl2 : l ≤ 2) : ∀ (n : Nat) (xs : List (Int × Int)) (f : Int) (lv : Int → Int), TI cd cp sz xs f sh lv → GI (atM sz xs) (Al cd cp f) sh rs → Al cd cp f top → Al cd cp f sh → lv top = l → GI (atM sz (toN sz cd addr zam top l n xs f).1) (Al cd cp (toN sz cd addr zam top l n xs f).2.1) sh rs
 | 0, xs, f, lv, h, hn, ht, _, hl => hn
 | n + 1, xs, f, lv, h, hn, ht, hsh, hl => by
  obtain ⟨l', t', i1, i2, i3, i4, i5, i6, i7⟩ := zci h addr zam hw l top ht hl hwl; unfold toN; rw [i1]; by_cases c1 : (l' : Int) = zam ∨ zas (atM sz xs t' (idx addr (l' : Int))) = false
  · rw [if_pos c1]; exact hn
  · rw [if_neg c1]; by_cases c4 : f = 0
    · rw [if_pos c4]; exact hn
    · rw [if_neg c4]; have c2 : ¬ (l' : Int) = zam := fun e => c1 (.inl e); have hlf : zas (atM sz xs t' (idx addr (l' : Int))) = true := by
       cases e : zas (atM sz xs t' (idx addr (l' : Int))) with
       | true => rfl
       | false => exact absurd (.inr e) c1
      obtain ⟨m, rfl⟩ : ∃ m : Nat, l' = m + 1 := ⟨l' - 1, by omega⟩; have hi := idx_bd addr ((m + 1 : Nat) : Int); have hbad : zco (atM sz xs t' (idx addr ((m + 1 : Nat) : Int))) ((m + 1 : Nat) : Int) = false := by
       rcases h.e.k t' _ hi with e | ⟨_, _, ⟨_, e⟩ | ⟨e, _⟩⟩
       · rw [e] at hlf; cases hlf
       · rw [i5] at e; exact e
       · rw [(za8 e).2.2] at hlf; cases hlf
      obtain ⟨a0, a1, a2, a3⟩ := zch h c4; have hT := zkt h c4 i4 hsh hi i5 (by omega) rfl hlf hbad; exact z5d addr zam top l hw hwl hl2 n _ _ _ hT (z7p h hn c4 i4 hi (l := ((m + 1 : Nat) : Int)) (by omega) rfl hlf hbad) (a0 _ ht).1 (a0 _ hsh).1 ((if_neg (a0 _ ht).2).trans hl)
theorem z7q {f : Int} {p : Pm} {xs xs' : List (Int × Int)} (h : Shp sz p xs xs') (g : GI (atM sz xs) (Al cd cp f) sh rs) : GI (atM sz xs') (Al cd cp f) sh rs :=
 g.grow (fun s j hj hk => by
  rcases h s j hj with e | ⟨e, _⟩
  · exact e
  · rw [zcg e] at hk; cases hk) (fun s j hj k1 k2 => by
  rcases h s j hj with e | ⟨_, e, _⟩
  · exact .inl e
  · rw [zcg e] at k1; cases k1) (fun s hs => .inl hs)
end
def rtL (k : Kr) : List Int := (k.ss.filter (·.live)).map (·.root)
structure InvG (k : Kr) : Prop where
 g : GI (atM k.sz k.m) (Al k.cd k.cp k.pf) k.sh (rtL k)
 d : Rts k
theorem z8x {n : Nat} {k : Kr} {id a pa l : Int} {p : Pm} (h : InvT n k) (g : InvG k) (hp : U pa) : InvG (zdh k id a pa l p).1 := by
 refine ⟨?_, zsg g.d id a pa l p⟩; have g := g.g; unfold zdh; by_cases c0 : (zal k id a l).2.2 ≠ 0
 · rw [if_pos c0]; exact g
 rw [if_neg c0]; by_cases c1 : lk0 pa l ≠ 0
 · rw [if_pos c1]; exact g
 rw [if_neg c1]; by_cases c2 : lk1 k pa l ≠ 0
 · rw [if_pos c2]; exact g
 rw [if_neg c2]; by_cases c3 : lk2 p ≠ 0
 · rw [if_pos c3]; exact g
 rw [if_neg c3]; by_cases c4 : lk3 k (zal k id a l).1 (zal k id a l).2.1 a l ≠ 0
 · rw [if_pos c4]; exact g
 rw [if_neg c4]; by_cases c5 : (zme k (zal k id a l).1 (zal k id a l).2.1 a l).2.2.2 ≠ 0
 · rw [if_pos c5]; exact g
 rw [if_neg c5]; obtain ⟨lv, hT, hs, hr⟩ := h.t; obtain ⟨w1, w2, w3, w4⟩ := zbd (id := id) (a := a) (l := l) h.l (by omega); obtain ⟨z1, z2⟩ := h.top (id := id) (a := a) (l := l) (by omega) hs hr; have hv := z2k k (zal k id a l).1 (zal k id a l).2.1 a l; generalize zal k id a l = w at *; obtain ⟨m, hm⟩ : ∃ m : Nat, w.2.1 = (m : Int) := ⟨w.2.1.toNat, by omega⟩; have hre : za0 k.sz k.m a l w.2.1 w.1 = zao k.sz k.m a l m w.1 := by unfold za0; rw [hm, Int.toNat_natCast]
 have hD : zme k w.1 w.2.1 a l = dnN k.sz k.cd a l m k.m k.pf w.1 := by unfold zme; rw [hm, Int.toNat_natCast]
 rw [hre] at hv; have hv : (atM k.sz k.m (zao k.sz k.m a l m w.1).1 (idx a (zao k.sz k.m a l m w.1).2)).v = false := by
  rcases hv with e | e
  · exact e.2
  · exact absurd e (by omega)
 obtain ⟨l', t', i1, i2, i3, i4, i5, i6, i7⟩ := zgm k.cd k.cp k.sz a l w1.1 hT.gm m w.1 w2 (by omega); obtain ⟨l'', t'', j1, j2, j3, j4, j5, j6, _⟩ := zci hT a l w1.1 m w.1 w2 (by omega) (by omega); have ee := i1.symm.trans j1; simp only [Prod.mk.injEq] at ee; have ht : t' = t'' := ee.1; have hl' : l' = l'' := by omega
 subst ht hl'; rw [i1] at hv; rw [hD] at c5 ⊢; obtain ⟨lv', r1, r2, r3, r4⟩ := zx8 a l w1.1 m k.m k.pf w.1 lv hT w2 h.l.sh (by omega) (by omega) (by omega) (by omega); rw [i6] at c5 r1 r2 r3 ⊢; obtain ⟨q1, q2⟩ := z7o a l w1.1 l' k.m k.pf t' lv hT g i4 h.l.sh j5 (by omega) i3 hv (by omega); have hpm := zin (p := p) (by omega); have hpn := zmf (k := k) (l := l) hp (by have := h.l.g.bd; omega) (by omega)
 have hb := zgn (n := pa / 4096) (p := p) (g := decide (id = -1)) hpn hpm; have hi := idx_bd a l; show GI (atM k.sz (zba k.sz (dnN k.sz k.cd a l l' k.m k.pf t').1 (dnN k.sz k.cd a l l' k.m k.pf t').2.2.1 (idx a l) (mkP (pa / 4096) p (decide (id = -1))))) (Al k.cd k.cp (dnN k.sz k.cd a l l' k.m k.pf t').2.1) k.sh (rtL k); generalize dnN k.sz k.cd a l l' k.m k.pf t' = D at *; have hat := fun s j hj => zn7 r1 r3 hi hb.2.1 hb.1 s j hj; refine q1.grow (fun s j hj hk => ?_) (fun s j hj k1 k2 => ?_) (fun s hs' => .inl hs')
 · rw [hat s j hj, if_neg]; rintro ⟨rfl, rfl⟩; rw [(za8 hk).2.1] at q2; cases q2
 · rw [hat s j hj] at k1 ⊢; by_cases c : s = D.2.2.1 ∧ j = idx a l
   · rw [if_pos c, zcg hb.2.2] at k1; cases k1
   · rw [if_neg c]; exact .inl rfl
theorem un_g {n : Nat} {k : Kr} {id a l : Int} (h : InvT n k) (gn : InvN k) (g : InvG k) : InvG (unR k id a l).1 := by
 have hss : (unR k id a l).1.ss = k.ss := by
  unfold unR; (repeat' split) <;> rfl
 refine ⟨?_, ⟨by rw [hss]; exact g.d.r⟩⟩
 have g := g.g; unfold unR
 split
 · exact g
 · rename_i c0
   split
   · exact g
   · split
     · exact g
     · rename_i c5; obtain ⟨lv, hT, hs, hr⟩ := h.t; obtain ⟨w1, w2, w3, w4⟩ := zbd (id := id) (a := a) (l := l) h.l (by omega); obtain ⟨z1, z2⟩ := h.top (a := a) (id := id) (l := l) (by omega) hs hr; have z3 := zoa (id := id) (a := a) (l := l) h (by omega); generalize zal k id a l = w at *; obtain ⟨lv', P⟩ := zls a l w.1 w.2.1.toNat w1.1 (by omega) (by omega) w.2.1.toNat k.m k.pf lv hT w2 h.l.sh (by omega); have hN := z1m a l w.1 w.2.1.toNat w1.1 (by omega) (by omega) w.2.1.toNat k.m k.pf lv hT gn.ne w2 h.l.sh (by omega); have hG := z5d a l w.1 w.2.1.toNat w1.1 (by omega) (by omega) w.2.1.toNat k.m k.pf lv hT g w2 h.l.sh (by omega); have hN : NE (atM k.sz (unT k w.1 w.2.1 a l).1) k.sh := hN; have hG : GI (atM k.sz (unT k w.1 w.2.1 a l).1) (Al k.cd k.cp (unT k w.1 w.2.1 a l).2.1) k.sh (rtL k) := hG; have P : ToP k.cd k.cp k.sz k.pf k.sh a l w.1 w.2.1.toNat k.m lv w.2.1.toNat (unT k w.1 w.2.1 a l) lv' := P; generalize unT k w.1 w.2.1 a l = T at *; obtain ⟨xs, f, ⟨t, lt⟩, e⟩ := T; obtain ⟨l', e1, e2, e3, e4, e5⟩ := P.p; have e1 : lt = (l' : Int) := e1; subst e1; have hPt : TI k.cd k.cp k.sz xs f k.sh lv' := P.t; have ash := P.a _ h.l.sh; have atop := P.a _ w2; have hPr : zao k.sz xs a l w.2.1.toNat w.1 = (t, (l' : Int)) := P.r; have Q := z1l (e := e) hPt hN ash.1 a l w1.1 (top := w.1) (l0 := w.2.1.toNat) (l' := l') atop.1 (by rw [atop.2]; omega) (by omega) (by omega) (fun hh => z2 (by omega)) (z3.imp (fun hh => by omega) (fun hh => hh)) hPr
       exact GI.rm hG Q
theorem pr_g {n : Nat} {k : Kr} {id a l : Int} {p : Pm} (h : InvT n k) (g : InvG k) : InvG (prR k id a l p).1 := by
 have hss : (prR k id a l p).1.ss = k.ss := by
  unfold prR; (repeat' split) <;> rfl
 refine ⟨?_, ⟨by rw [hss]; exact g.d.r⟩⟩
 have g := g.g; unfold prR
 split
 · exact g
 · rename_i c0
   split
   · exact g
   · rename_i cp; have hp : zcb p = true := by simpa using cp
     split
     · exact g
     · rename_i c1
       split
       · exact g
       · rename_i c5; have c0' : (zal k id a l).2.2 = 0 := by omega
         have c5' : (unT k (zal k id a l).1 (zal k id a l).2.1 a l).2.2.2 = 0 := by omega
         have hlev := zp2 h c0' c1 c5'; have hlf := zvb h c0' c1; have hfm := zdp c0'; obtain ⟨lv, hT, hs, hr⟩ := h.t; obtain ⟨w1, w2, w3, w4⟩ := zbd (id := id) (a := a) (l := l) h.l c0'; obtain ⟨z1, z2⟩ := h.top (a := a) (id := id) (l := l) c0' hs hr; have hbm := zgs w1 hfm; generalize zal k id a l = w at *; obtain ⟨lv', P⟩ := zls a l w.1 w.2.1.toNat w1.1 (by omega) (by omega) w.2.1.toNat k.m k.pf lv hT w2 h.l.sh (by omega); have hG := z5d a l w.1 w.2.1.toNat w1.1 (by omega) (by omega) w.2.1.toNat k.m k.pf lv hT g w2 h.l.sh (by omega); have hG : GI (atM k.sz (unT k w.1 w.2.1 a l).1) (Al k.cd k.cp (unT k w.1 w.2.1 a l).2.1) k.sh (rtL k) := hG; have hto := zva a l w.1 w.2.1.toNat w1.1 (by omega) (by omega) w.2.1.toNat k.m k.pf lv hT w2 h.l.sh (by omega) hlf c5'; have P : ToP k.cd k.cp k.sz k.pf k.sh a l w.1 w.2.1.toNat k.m lv w.2.1.toNat (unT k w.1 w.2.1 a l) lv' := P; have hto : zas (atM k.sz (unT k w.1 w.2.1 a l).1 (unT k w.1 w.2.1 a l).2.2.1.1 (idx a (unT k w.1 w.2.1 a l).2.2.1.2)) = true ∨ lkP (atM k.sz (unT k w.1 w.2.1 a l).1 (unT k w.1 w.2.1 a l).2.2.1.1 (idx a (unT k w.1 w.2.1 a l).2.2.1.2)) = true := hto; generalize unT k w.1 w.2.1 a l = T at *; obtain ⟨xs, f, ⟨t, lt⟩, e⟩ := T; obtain ⟨l', e1, e2, e3, e4, e5⟩ := P.p; have e1 : lt = (l' : Int) := e1; subst e1; have hll : (l' : Int) = l := hlev; have hPt : TI k.cd k.cp k.sz xs f k.sh lv' := P.t; exact z7q (ztv (t := t) (e := e) hPt hp (by omega) e5 (by rw [hll]; exact hbm) hto).1 hG
theorem zhg {k : Kr} {r : Int} : r ∈ rtL k ↔ ∃ s ∈ k.ss, s.live = true ∧ s.root = r := by
 unfold rtL; rw [List.mem_map]; constructor
 · rintro ⟨s, hs, rfl⟩; obtain ⟨h1, h2⟩ := List.mem_filter.1 hs; exact ⟨s, h1, h2, rfl⟩
 · rintro ⟨s, h1, h2, rfl⟩; exact ⟨s, List.mem_filter.2 ⟨h1, h2⟩, rfl⟩
theorem z7r {k : Kr} (h : Rts k) : (rtL k).Nodup := by
 unfold rtL; have hp : k.ss.Pairwise (fun s t => s.live = true → t.live = true → s.root ≠ t.root) := by
  rw [List.pairwise_iff_getElem]; intro i j hi hj hij; exact h.r i j _ _ (List.getElem?_eq_getElem hi) (List.getElem?_eq_getElem hj) (by omega)
 refine List.Pairwise.map (R := fun s t => s.root ≠ t.root) _ (fun a b hab => hab) ?_; rw [List.pairwise_filter]; exact hp
theorem z5e (k : Kr) : (rtL k).length = alv k.ss := by
 unfold rtL; rw [List.length_map]; have : ∀ l : List Sp, (l.filter (·.live)).length = alv l := fun l => by
  induction l with
  | nil => rfl
  | cons s l ih =>
   cases h : s.live
   · rw [List.filter_cons, if_neg (by rw [h]; simp), ih]; simp [alv, h]
   · rw [List.filter_cons, if_pos h, List.length_cons, ih]; simp [alv, h]; omega
 exact this _
theorem z8y {n : Nat} {k : Kr} (h : Inv n k) (g : Inv2 k) : InvG k := by
 obtain ⟨lv, hT, hs, hr⟩ := (z02 h g).t; have hl := (z02 h g).l; have hcd := h.cd; have hcp := h.cp; have hsh := h.sh; have hrts : Rts k := ⟨fun i j s t h1 h2 h3 h4 h5 => (g.ap i j s t h1 h2 h3 h4 h5).1⟩; refine ⟨⟨fun r hr' => ?_, fun s i hi k1 k2 => ?_, fun s hs' => ?_⟩, hrts⟩
 · obtain ⟨s, h1, h2, rfl⟩ := zhg.1 hr'; have hm := (g.lv s h1 h2).2.2.2.2; have := hT.mem hm; rw [zkz (by omega)] at this; rw [show (s.root * 512 + 511, 33 + 1024 * k.sh).1 = s.root * 512 + 511 from rfl, show (s.root * 512 + 511) / 512 = s.root by omega, show (s.root * 512 + 511) % 512 = 511 by omega] at this; exact this
 · exfalso
   unfold atM zbs at k1 k2
   split at k1
   · rename_i hlt; rw [if_pos hlt] at k2; rcases znq (xs := k.m) (k := (s * 4096 + i * 8) / 8) with e | ⟨c, hc, e1, e2⟩
     · rw [e, znr] at k1; cases k1
     · obtain ⟨p, hp, hv, rfl⟩ := g.cl c hc; rw [e2] at k2; have k2 : (zay (33 + 1024 * k.sh)).ppn ≠ k.sh := k2; rw [zkz (by omega)] at k2; exact k2 rfl
   · rw [znr] at k1; cases k1
 · refine Classical.byContradiction fun hc => ?_; have hnd : (s :: k.sh :: rtL k).Nodup := by
    rw [List.nodup_cons, List.nodup_cons]; refine ⟨fun hm => ?_, fun hm => ?_, z7r hrts⟩
    · rcases List.mem_cons.1 hm with e | e
      · exact hc (.inl e)
      · exact hc (.inr (.inl e))
    · obtain ⟨q, h1, h2, h3⟩ := zhg.1 hm; have := hr q h1 h2; rw [h3, hs] at this; omega
   have hsub : (s :: k.sh :: rtL k) ⊆ alL k.cd k.cp k.pf := fun x hx => by
    rw [zza]; rcases List.mem_cons.1 hx with rfl | hx
    · exact hs'
    · rcases List.mem_cons.1 hx with rfl | hx
      · exact hl.sh
      · obtain ⟨q, h1, h2, rfl⟩ := zhg.1 hx; exact hl.ss q h1 h2
   have h1 := hnd.length_le_of_subset hsub; have h2 := zzb (cd := k.cd) hT.bp hT.bf; have h3 := g.np; rw [List.length_cons, List.length_cons, z5e] at h1; omega
theorem bg_g {a b c : Int} {n : Nat} (h : zf8 a b c n = true) : InvG (bgK a b c n) := by
 have h0 := zim h; have g0 := zjf h; have h1 := zcs h0; have g1 := zcm h0 g0; exact z8y (zcs h1) (zcm h1 g1)
end LoC
namespace LoD
open Go.RowKit Bv VaSpec Base MemL RegR Ax MemC PutC OkS SpA SpB SpD SpE SpN SpH SpI LaA LaB LaC LaD LaE LaF LaG LiA LiB LiC LiE LiF LrA LjA LjF LkE LmA LmE LnA LnB PteSpec RfG RfJ RfK LaH RfQ LnD LnF LnG LnH RfC RlA RlB LoA LrD LoB LoC
open PteSpec
section
variable {cd cp sz f sh : Int} {xs xs' : List (Int × Int)} {lv : Int → Int}
theorem zzc (sz : Int) (xs : List (Int × Int)) (l : Nat) (t s : Int) : s ∈ frN sz xs (l + 1) t ↔ s = t ∨ ∃ j, (0 ≤ j ∧ j < 512) ∧ za2 (atM sz xs t j) ((l + 1 : Nat) : Int) = true ∧ s ∈ frN sz xs l (atM sz xs t j).ppn := by
 simp only [frN, List.mem_cons]; refine or_congr Iff.rfl ?_; rw [List.mem_flatMap]; constructor
 · rintro ⟨i, hi, hs⟩; have hi := List.mem_range.1 hi
   split at hs
   · rename_i h; exact ⟨i, by omega, h, hs⟩
   · cases hs
 · rintro ⟨j, hj, h1, h2⟩; refine ⟨j.toNat, List.mem_range.2 (by omega), ?_⟩; rw [show ((j.toNat : Nat) : Int) = j by omega, if_pos h1]; exact h2
theorem z5f (h : TI cd cp sz xs f sh lv) : ∀ (l : Nat) (t : Int), l ≤ 2 → Al cd cp f t → lv t = l → (l = 2 → ∀ j, (0 ≤ j ∧ j < 512) → lkP (atM sz xs t j) = true → (atM sz xs t j).ppn ≠ sh) → (frN sz xs l t).Nodup
 | 0, t, _, _, _, _ => by simp [frN]
 | l + 1, t, h2, ha, hl, hns => by
  have child : ∀ j, (0 ≤ j ∧ j < 512) → za2 (atM sz xs t j) ((l + 1 : Nat) : Int) = true → lkP (atM sz xs t j) = true ∧ Al cd cp f (atM sz xs t j).ppn ∧ lv (atM sz xs t j).ppn = l := fun j hj hk => by
   obtain ⟨k1, k2, k3, k4, k5⟩ := zh3 h hj hk; exact ⟨k1, k5, by rw [k4, hl]; omega⟩
  have hnsh : ∀ j, (0 ≤ j ∧ j < 512) → lkP (atM sz xs t j) = true → (atM sz xs t j).ppn ≠ sh := fun j hj hk e => by
   by_cases c : l + 1 = 2
   · exact hns c j hj hk e
   · have := (h.e.s t j hj hk e).2; omega
  rw [frN, List.nodup_cons]; constructor
  · intro hm; obtain ⟨i, hi, hs⟩ := List.mem_flatMap.1 hm; have hi := List.mem_range.1 hi
    split at hs
    · rename_i hk; obtain ⟨c1, c2, c3⟩ := child i (by omega) hk; have := (zbc h l _ c2 c3 t hs).2.1; omega
    · cases hs
  · refine List.pairwise_flatMap.2 ⟨fun i hi => ?_, ?_⟩
    · have hi := List.mem_range.1 hi
      split
      · rename_i hk; obtain ⟨c1, c2, c3⟩ := child i (by omega) hk; exact z5f h l _ (by omega) c2 c3 (fun hh => by omega)
      · exact .nil
    · refine List.Pairwise.imp_of_mem ?_ (List.pairwise_lt_range (n := 512)); intro i j hi hj hij x hx y hy e; have hi := List.mem_range.1 hi; have hj := List.mem_range.1 hj; subst e
      split at hx
      · rename_i hk
        split at hy
        · rename_i hk'; obtain ⟨c1, c2, c3⟩ := child i (by omega) hk; obtain ⟨d1, d2, d3⟩ := child j (by omega) hk'; have := zsf h hl (by omega) (by omega) (by omega) c1 d1 (.inl (hnsh i (by omega) c1)) hx hy; omega
        · cases hy
      · cases hx
theorem zzd : ∀ (l : Nat) (t : Int), (∀ s ∈ frN sz xs l t, ∀ j, (0 ≤ j ∧ j < 512) → atM sz xs' s j = atM sz xs s j) → frN sz xs' l t = frN sz xs l t
 | 0, t, _ => rfl
 | l + 1, t, h => by
  simp only [frN]
  congr 1
  refine zh8 fun i hi => ?_; have hi := List.mem_range.1 hi; rw [h t (zb8 _ _ _ _) i (by omega)]
  split
  · rename_i hk; exact zzd l _ fun s hs j hj => h s ((zzc sz xs l t s).2 (.inr ⟨i, by omega, hk, hs⟩)) j hj
  · rfl
theorem zfo (h : TI cd cp sz xs f sh lv) {r : Int} (ha : Al cd cp f r) (hr : lv r = 2) (x : Int) : x ∈ frN sz (zb3 xs (r * 512 + 511) 0) 2 r ↔ x = r ∨ ∃ j, (0 ≤ j ∧ j < 512) ∧ j ≠ 511 ∧ lkP (atM sz xs r j) = true ∧ x ∈ frN sz xs 1 (atM sz xs r j).ppn := by
 obtain ⟨ho, hat⟩ := zt2 h ha; rw [zzc]; refine or_congr Iff.rfl ?_; have key : ∀ j, (0 ≤ j ∧ j < 512) → j ≠ 511 → atM sz (zb3 xs (r * 512 + 511) 0) r j = atM sz xs r j := fun j hj c => by rw [hat r j hj, if_neg (fun hh => c hh.2)]
 have same : ∀ j, (0 ≤ j ∧ j < 512) → lkP (atM sz xs r j) = true → frN sz (zb3 xs (r * 512 + 511) 0) 1 (atM sz xs r j).ppn = frN sz xs 1 (atM sz xs r j).ppn := fun j hj hk => by
  obtain ⟨_, _, k3, k4⟩ := zb5 h hj hk; refine zzd 1 _ fun s hs j' hj' => ?_; rw [hat s j' hj', if_neg]; rintro ⟨rfl, _⟩; have := (zbc h 1 _ k4 (by rw [k3, hr]; rfl) s hs).2.1
  omega
 constructor
 · rintro ⟨j, hj, h1, h2⟩; by_cases c : j = 511
   · subst c; rw [hat r 511 hj, if_pos ⟨rfl, rfl⟩] at h1; cases h1
   · rw [key j hj c] at h1 h2; have hk := (zh3 h hj h1).1; rw [same j hj hk] at h2; exact ⟨j, hj, c, hk, h2⟩
 · rintro ⟨j, hj, c, hk, h2⟩; refine ⟨j, hj, by rw [key j hj c]; exact zb7 hk (by omega), ?_⟩
   rw [key j hj c, same j hj hk]; exact h2
end
theorem z5g {n : Nat} {k : Kr} (h : InvT n k) {lv : Int → Int} (hT : TI k.cd k.cp k.sz k.m k.pf k.sh lv) (hs : lv k.sh = 1) (hr : ∀ s ∈ k.ss, s.live = true → lv s.root = 2) (g : InvG k) (x : Int) : x ∈ zey k k.ss ↔ Al k.cd k.cp k.pf x := by
 have memR : ∀ s ∈ k.ss, s.live = true → ∀ y, y ∈ zvg k s → y ∈ zey k k.ss := fun s h1 h2 y hy => by
  unfold zey; exact List.mem_append.2 (.inr (List.mem_flatMap.2 ⟨s, h1, by rw [if_pos h2]; exact hy⟩))
 constructor
 · intro hx; unfold zey at hx; rcases List.mem_append.1 hx with hx | hx
   · exact (zbc hT 1 k.sh h.l.sh hs x hx).1
   · obtain ⟨s, h1, h2⟩ := List.mem_flatMap.1 hx
     split at h2
     · rename_i hl; obtain ⟨ho, _⟩ := zt2 hT (h.l.ss s h1 hl); exact (zbc ho 2 s.root (h.l.ss s h1 hl) (hr s h1 hl) x h2).1
     · cases h2
 · -- climbing
   have key : ∀ (d : Nat) (x : Int), 2 - lv x ≤ d → Al k.cd k.cp k.pf x → x ∈ zey k k.ss := by
    intro d
    induction d with
    | zero =>
     intro x hd hx; rcases g.g.c x hx with rfl | e | ⟨t, i, hi, c1, c2⟩
     · rw [hs] at hd; omega
     · obtain ⟨s, h1, h2, rfl⟩ := zhg.1 e; exact memR s h1 h2 _ (zb8 _ _ _ _)
     · obtain ⟨_, q2, q3, _⟩ := zb5 hT hi c1; rw [c2] at q3; omega
    | succ d ih =>
     intro x hd hx; rcases g.g.c x hx with rfl | e | ⟨t, i, hi, c1, c2⟩
     · unfold zey; exact List.mem_append.2 (.inl (zb8 _ _ _ _))
     · obtain ⟨s, h1, h2, rfl⟩ := zhg.1 e; exact memR s h1 h2 _ (zb8 _ _ _ _)
     · obtain ⟨q1, q2, q3, q4⟩ := zb5 hT hi c1; rw [c2] at q3; have ht := ih t (by omega) q1; unfold zey at ht; rcases List.mem_append.1 ht with ht | ht
       · unfold zey; have := zlb hT 1 k.sh h.l.sh hs t ht i hi c1; rw [c2] at this; exact List.mem_append.2 (.inl this)
       · obtain ⟨s, h1, h2⟩ := List.mem_flatMap.1 ht
         split at h2
         · rename_i hl; have har := h.l.ss s h1 hl; have hrl := hr s h1 hl; rcases (zfo hT har hrl t).1 h2 with rfl | ⟨j, hj, hj5, hk, hm⟩
           · by_cases c : i = 511
             · have := g.g.r s.root (zhg.2 ⟨s, h1, hl, rfl⟩); rw [c, this] at c2; have c2 : k.sh = x := c2; rw [← c2]; unfold zey; exact List.mem_append.2 (.inl (zb8 _ _ _ _))
             · refine memR s h1 hl x ((zfo hT har hrl x).2 (.inr ⟨i, hi, c, c1, ?_⟩)); rw [c2]; exact zb8 _ _ _ _
           · obtain ⟨_, _, k3, k4⟩ := zb5 hT hj hk; have := zlb hT 1 _ k4 (by rw [k3, hrl]; rfl) t hm i hi c1
             rw [c2] at this; exact memR s h1 hl x ((zfo hT har hrl x).2 (.inr ⟨j, hj, hj5, hk, this⟩))
         · cases h2
   exact fun hx => key (2 - lv x).toNat x (by omega) hx
theorem z7s {n : Nat} {k : Kr} (h : InvT n k) {lv : Int → Int} (hT : TI k.cd k.cp k.sz k.m k.pf k.sh lv) (hs : lv k.sh = 1) (hr : ∀ s ∈ k.ss, s.live = true → lv s.root = 2) (g : InvG k) : (zey k k.ss).Nodup := by
 have nsh : ∀ {r : Int}, ∀ j, (0 ≤ j ∧ j < 512) → j ≠ 511 → lkP (atM k.sz k.m r j) = true → (atM k.sz k.m r j).ppn ≠ k.sh := fun j hj h5 hk e => h5 (hT.e.s _ j hj hk e).1; unfold zey; rw [List.nodup_append]; refine ⟨z5f hT 1 k.sh (by omega) h.l.sh hs (fun hh => by omega), ?_, ?_⟩
 · refine List.pairwise_flatMap.2 ⟨fun s h1 => ?_, ?_⟩
   · split
     · rename_i hl; obtain ⟨ho, hat⟩ := zt2 hT (h.l.ss s h1 hl); refine z5f ho 2 s.root (by omega) (h.l.ss s h1 hl) (hr s h1 hl) fun _ j hj hk => ?_; rw [hat _ j hj] at hk ⊢; by_cases c : s.root = s.root ∧ j = 511
       · rw [if_pos c] at hk; cases hk
       · rw [if_neg c] at hk ⊢; exact nsh j hj (fun e => c ⟨rfl, e⟩) hk
     · exact .nil
   · rw [List.pairwise_iff_getElem]; intro i j hi hj hij x hx y hy e; subst e
     split at hx
     · rename_i l1
       split at hy
       · rename_i l2; have a1 := h.l.ss _ (List.getElem_mem hi) l1; have a2 := h.l.ss _ (List.getElem_mem hj) l2; have r1 := hr _ (List.getElem_mem hi) l1; have r2 := hr _ (List.getElem_mem hj) l2; have hne := g.d.r i j _ _ (List.getElem?_eq_getElem hi) (List.getElem?_eq_getElem hj) (by omega) l1 l2; rcases (zfo hT a1 r1 x).1 hx with e | ⟨p, hp, hp5, pk, pm⟩
         · rcases (zfo hT a2 r2 x).1 hy with e' | ⟨q, hq, hq5, qk, qm⟩
           · exact hne (e.symm.trans e')
           · obtain ⟨_, _, k3, k4⟩ := zb5 hT hq qk; have := (zbc hT 1 _ k4 (by rw [k3, r2]; rfl) x qm).2.1
             rw [e, r1] at this; omega
         · obtain ⟨_, _, k3, k4⟩ := zb5 hT hp pk; have e3 : lv (atM k.sz k.m (k.ss[i]).root p).ppn = (1 : Nat) := by rw [k3, r1]; rfl
           rcases (zfo hT a2 r2 x).1 hy with e' | ⟨q, hq, hq5, qk, qm⟩
           · have := (zbc hT 1 _ k4 e3 x pm).2.1; rw [e', r2] at this; omega
           · obtain ⟨_, _, m3, m4⟩ := zb5 hT hq qk; have e4 : lv (atM k.sz k.m (k.ss[j]).root q).ppn = (1 : Nat) := by rw [m3, r2]; rfl
             have hx1 := (zbc hT 1 _ m4 e4 x qm).2.1; have hm := zve hT k4 m4 e3 e4 (Nat.le_refl _) (zp8 hT m4 e4 (Nat.le_refl _)) 1 x (by omega) pm qm; obtain ⟨_, _, v⟩ := zbc hT 1 _ k4 e3 _ hm; rcases v with e' | ⟨s', _, j', p1, p2, p3, p4⟩
             · exact hne (hT.e.u _ p _ q hp hq pk qk e'.symm (nsh p hp hp5 pk)).1
             · obtain ⟨_, _, rr, _⟩ := zb5 hT p1 p2; rw [p3] at rr; omega
       · cases hy
     · cases hx
 · intro x hx y hy e; subst e; obtain ⟨s, h1, h2⟩ := List.mem_flatMap.1 hy
   split at h2
   · rename_i hl; have har := h.l.ss s h1 hl; have hrl := hr s h1 hl; have q2 := (zbc hT 1 k.sh h.l.sh hs x hx).2.1; rcases (zfo hT har hrl x).1 h2 with e | ⟨j, hj, hj5, hk, hm⟩
     · rw [e, hrl] at q2; omega
     · obtain ⟨_, _, k3, k4⟩ := zb5 hT hj hk; have e3 : lv (atM k.sz k.m s.root j).ppn = (1 : Nat) := by rw [k3, hrl]; rfl
       have hm2 := zve hT k4 h.l.sh e3 (l2 := 1) hs (Nat.le_refl _) (zp8 hT h.l.sh hs (Nat.le_refl _)) 1 x (by omega) hm hx; by_cases c : k.sh = (atM k.sz k.m s.root j).ppn
       · exact nsh j hj hj5 hk c.symm
       · exact zp8 hT k4 e3 (Nat.le_refl _) k.sh hm2 c rfl
   · cases h2
theorem z5h {n : Nat} {k : Kr} (h : InvT n k) (hn : n ≤ 100000) (g : InvG k) : Ok 17 [.ag k.ce] (.m (ib true)) := by
 obtain ⟨lv, hT, hs, hr⟩ := h.t; have hm := z5g h hT hs hr g; have hnd := z7s h hT hs hr g; refine zy8 h hn (fun s h1 h2 => g.g.r s.root (zhg.2 ⟨s, h1, h2, rfl⟩)) hnd (fun x hx => (hm x).1 hx) ?_; have hp : (zey k k.ss).Perm (alL k.cd k.cp k.pf) := (List.perm_ext_iff_of_nodup hnd (z7n _ _ _)).2 fun x => by rw [hm x, zza]
 rw [hp.length_eq]; exact zzb hT.bp hT.bf
end LoD
namespace LoE
open Go.RowKit Bv VaSpec Base MemL RegR Ax MemC PutC MemC3 OkS SpA SpB SpC SpD SpE SpF SpN SpO SpH SpI LaA LaB LaC LaD LaE LaG LiA LiB LiC LiE LrA LrB LjA LjF LkE LmA LmB LmE LnA LnB PteSpec RfG RfJ RfK LaH RfQ LnD LnF LnG LnH RfC RlA RlB LoA LrD LoB LoC LoD
open PteSpec
section
variable {cd cp sz f sh : Int} {xs : List (Int × Int)} {lv : Int → Int}
theorem z1s {p : Pm} : ∀ (l : Nat) (t b : Int), (∀ s ∈ frN sz xs l t, ∀ j, (0 ≤ j ∧ j < 512) → zas (atM sz xs s j) = true → pmE (atM sz xs s j) = p) → (∀ s j, (0 ≤ j ∧ j < 512) → ∀ l, zco (atM sz xs s j) l = false → zas (atM sz xs s j) = false → zbf (atM sz xs s j) = true) → ∀ y ∈ za7 sz xs l t b, zhi y = p := by
 intro l
 induction l with
 | zero =>
  intro t b h _ y hy; obtain ⟨i, hi, _, ⟨c1, rfl⟩ | ⟨_, m, e, _⟩⟩ := (zbp _ _ _ _ _ _).1 hy
  · exact h t (zb8 _ _ _ _) i (by omega) c1
  · omega
 | succ l ih =>
  intro t b h hk y hy; obtain ⟨i, hi, c0, ⟨c1, rfl⟩ | ⟨c1, m, e, hy⟩⟩ := (zbp _ _ _ _ _ _).1 hy
  · exact h t (zb8 _ _ _ _) i (by omega) c1
  · obtain rfl : m = l := by omega
    have hl := hk t i (by omega) _ c0 c1; have hlk : za2 (atM sz xs t i) ((m + 1 : Nat) : Int) = true := by unfold za2; rw [hl, c0]; rfl
    exact ih _ _ (fun s hs j hj => h s ((zzc sz xs m t s).2 (.inr ⟨i, by omega, hlk, hs⟩)) j hj) hk y hy
theorem z1t (h : TI cd cp sz xs f sh lv) : ∀ s j, (0 ≤ j ∧ j < 512) → ∀ l, zco (atM sz xs s j) l = false → zas (atM sz xs s j) = false → zbf (atM sz xs s j) = true := fun s j hj l hb hl => by
 rcases h.e.k s j hj with e | ⟨_, _, ⟨e, _⟩ | ⟨e, _⟩⟩
 · rw [e] at hb; unfold zco zP at hb; simp at hb
 · rw [e] at hl; cases hl
 · exact (za8 e).1
theorem z7t {p : Pm} {a b : List (Int × Int)} (h : Shp sz p a b) {s j : Int} (hj : 0 ≤ j ∧ j < 512) (he : pmE (atM sz a s j) = p) : pmE (atM sz b s j) = p := by
 rcases h s j hj with e | ⟨_, _, e⟩
 · rw [e]; exact he
 · rw [e]; rfl
theorem zze (h : TI cd cp sz xs f sh lv) {p : Pm} (hp : zcb p = true) (l : Nat) (t b : Int) (hl2 : l ≤ 2) (ht : Al cd cp f t) (hl : lv t = l) (hb : m39 b % (512 * VaSpec.sz l) = 0) : ∀ (ys : List Pg), (∀ y ∈ ys, y ∈ za7 sz xs l t b) → ∀ xs', Pnt cd cp sz f sh lv p xs xs' → Shp sz p xs' (zlt sz l t p ys xs') ∧ ∀ y ∈ ys, pmE (atM sz (zlt sz l t p ys xs') (zao sz xs y.va y.lev l t).1 (idx y.va y.lev)) = p
 | [], _, xs', g => ⟨Shp.refl _ _ _, fun y hy => by cases hy⟩
 | y :: ys, hy, xs', g => by
  obtain ⟨t', r1, r2, r3⟩ := zgb h l t b y hl2 ht hl hb (hy y (by simp)); have hi := idx_bd y.va y.lev; have g2 := g.go h hp hi r3; have hlf := g.s.leaf hi r3; obtain ⟨_, q, _⟩ := zir g.t hi hlf hp; have I := zze h hp l t b hl2 ht hl hb ys (fun z hz => hy z (by simp [hz])) _ g2; have e0 : zlt sz l t p (y :: ys) xs' = zlt sz l t p ys (zml sz xs' t' (idx y.va y.lev) p) := by
   conv => lhs; unfold zlt
   rw [g.s.reach, r1]
  rw [e0]; have hS : Shp sz p xs' (zml sz xs' t' (idx y.va y.lev) p) := fun s j hj => by
   rw [q s j hj]; by_cases c : s = t' ∧ j = idx y.va y.lev
   · rw [if_pos c]; rw [c.1, c.2]; obtain ⟨_, _, hbad⟩ := zew g.t hi hlf; exact .inr ⟨hlf, (zfm (p := p) (ze5 g.t.u sz _ _) (zg0 g.t.u) hp hlf hbad).2.2.1, rfl⟩
   · rw [if_neg c]; exact .inl rfl
  refine ⟨hS.trans I.1, fun z hz => ?_⟩; rcases List.mem_cons.1 hz with rfl | hz
  · rw [r1]; refine z7t I.1 hi ?_; rw [q t' _ hi, if_pos ⟨rfl, rfl⟩]; rfl
  · exact I.2 z hz
theorem z7u (h : TI cd cp sz xs f sh lv) {t a : Int} {l' : Nat} {e : Int} {p : Pm} (hp : zcb p = true) (l2 : l' ≤ 2) (ht : Al cd cp f t) (hlv : lv t = (l' : Int)) (hm : m39 a % VaSpec.sz (l' : Int) = 0)
 (hor : zas (atM sz xs t (idx a (l' : Int))) = true ∨ lkP (atM sz xs t (idx a (l' : Int))) = true) :
 (zas (atM sz xs t (idx a (l' : Int))) = true → pmE (atM sz (prM sz (xs, f, (t, (l' : Int)), e) a p) t (idx a (l' : Int))) = p) ∧
 (lkP (atM sz xs t (idx a (l' : Int))) = true → ∀ s ∈ frN sz xs ((l' : Int) - 1).toNat (atM sz xs t (idx a (l' : Int))).ppn, ∀ j, (0 ≤ j ∧ j < 512) → zas (atM sz xs s j) = true → pmE (atM sz (prM sz (xs, f, (t, (l' : Int)), e) a p) s j) = p) := by
 have hi := idx_bd a (l' : Int); refine ⟨fun h1 => ?_, fun h1 s hs j hj hlf => ?_⟩
 · have e0 : prM sz (xs, f, (t, (l' : Int)), e) a p = zml sz xs t (idx a (l' : Int)) p := if_pos h1; rw [e0, (zir h hi h1 hp).2.1 t _ hi, if_pos ⟨rfl, rfl⟩]; rfl
 · have e0 : prM sz (xs, f, (t, (l' : Int)), e) a p = zlt sz ((l' : Int) - 1).toNat (atM sz xs t (idx a (l' : Int))).ppn p (za7 sz xs ((l' : Int) - 1).toNat (atM sz xs t (idx a (l' : Int))).ppn a) xs := if_neg (by show ¬ zas (atM sz xs t (idx a (l' : Int))) = true; rw [(za8 h1).2.2]; simp)
   rw [e0]; obtain ⟨_, k2, k3, k4⟩ := zb5 h hi h1; obtain ⟨m, rfl⟩ : ∃ m : Nat, l' = m + 1 := ⟨l' - 1, by omega⟩; rw [show (((m + 1 : Nat) : Int) - 1).toNat = m by omega] at hs ⊢; have g0 : Pnt cd cp sz f sh lv p xs xs := ⟨h, Shp.refl _ _ _, Nat.le_refl _⟩; have hgl : lv (atM sz xs t (idx a ((m + 1 : Nat) : Int))).ppn = m := by rw [k3, hlv]; omega
   obtain ⟨y, hy, r1, r2⟩ := zqa h m _ a (by omega) k4 hgl (zk4 (by omega) hm) s hs j hj hlf; have := (zze h hp m (atM sz xs t (idx a ((m + 1 : Nat) : Int))).ppn a (by omega) k4 hgl (zk4 (by omega) hm) (za7 sz xs m (atM sz xs t (idx a ((m + 1 : Nat) : Int))).ppn a) (fun y hy => hy) xs g0).2 y hy; rw [r1, r2] at this; exact this
end
structure PrO (k : Kr) (id a l : Int) (p : Pm) (lv : Int → Int) (top : Int) (l0 : Nat) (xs : List (Int × Int)) (f t : Int) (l' : Nat) : Prop where
 e : prR k id a l p = (prK k id a p (xs, f, (t, (l' : Int)), 0), 0)
 w : zal k id a l = (top, (l0 : Int), 0)
 hl : (l' : Int) = l
 hp : zcb p = true
 hT : TI k.cd k.cp k.sz xs f k.sh lv
 hal : Al k.cd k.cp f t
 hlv : lv t = (l' : Int)
 h : zas (atM k.sz xs t (idx a (l' : Int))) = true ∨ lkP (atM k.sz xs t (idx a (l' : Int))) = true
 r : zao k.sz xs a l l0 top = (t, (l' : Int))
 b : m39 a % VaSpec.sz (l' : Int) = 0
 s : VaSpec.base a l = a
 n : lkP (atM k.sz xs t (idx a (l' : Int))) = true → ∃ y, y ∈ za7 k.sz xs ((l' : Int) - 1).toNat (atM k.sz xs t (idx a (l' : Int))).ppn a
 l2 : l' ≤ 2
theorem zzf {n : Nat} {k : Kr} {id a l : Int} {p : Pm} (h : InvT n k) (he : (prR k id a l p).2 = 0) : ∃ lv top l0 xs f t l', PrO k id a l p lv top l0 xs f t l' := by
 unfold prR at he; by_cases c0 : (zal k id a l).2.2 ≠ 0
 · rw [if_pos c0] at he; exact absurd he c0
 rw [if_neg c0] at he; by_cases c1 : zcb p = false
 · rw [if_pos c1] at he; cases he
 rw [if_neg c1] at he; by_cases c2 : (inR k id a l).length = 0
 · rw [if_pos c2] at he; cases he
 rw [if_neg c2] at he; by_cases c3 : (unT k (zal k id a l).1 (zal k id a l).2.1 a l).2.2.2 ≠ 0
 · rw [if_pos c3] at he; exact absurd he c3
 have hA : prR k id a l p = (prK k id a p (unT k (zal k id a l).1 (zal k id a l).2.1 a l), 0) := by
  unfold prR; rw [if_neg c0, if_neg c1, if_neg c2, if_neg c3]
 clear he; have c0' : (zal k id a l).2.2 = 0 := by omega
 have c3' : (unT k (zal k id a l).1 (zal k id a l).2.1 a l).2.2.2 = 0 := by omega
 have hp : zcb p = true := by simpa using c1
 have hlev := zp2 h c0' c2 c3'; have hlf := zvb h c0' c2; have hfm := zdp c0'; have hfb := zk0 hfm; obtain ⟨lv, hT, hs, hr⟩ := h.t; obtain ⟨w1, w2, w3, w4⟩ := zbd (id := id) (a := a) (l := l) h.l c0'; obtain ⟨z1, z2⟩ := h.top (a := a) (id := id) (l := l) c0' hs hr; have hbm := zgs w1 hfm; have hin : inR k id a l = zax k.sz k.m (za0 k.sz k.m a l (zal k id a l).2.1 (zal k id a l).1).2 (atM k.sz k.m (za0 k.sz k.m a l (zal k id a l).2.1 (zal k id a l).1).1 (idx a (za0 k.sz k.m a l (zal k id a l).2.1 (zal k id a l).1).2)) (VaSpec.base a (za0 k.sz k.m a l (zal k id a l).2.1 (zal k id a l).1).2) := by
  unfold inR; rw [if_neg c0]
 have hstop : zas (atM k.sz k.m (za0 k.sz k.m a l (zal k id a l).2.1 (zal k id a l).1).1 (idx a (za0 k.sz k.m a l (zal k id a l).2.1 (zal k id a l).1).2)) = false → unT k (zal k id a l).1 (zal k id a l).2.1 a l = (k.m, k.pf, za0 k.sz k.m a l (zal k id a l).2.1 (zal k id a l).1, 0) := fun hh => zn4 (.inr hh) _; generalize hW : zal k id a l = w at *; obtain ⟨lv', P⟩ := zls a l w.1 w.2.1.toNat w1.1 (by omega) (by omega) w.2.1.toNat k.m k.pf lv hT w2 h.l.sh (by omega); have hto := zva a l w.1 w.2.1.toNat w1.1 (by omega) (by omega) w.2.1.toNat k.m k.pf lv hT w2 h.l.sh (by omega) hlf c3'; have htl := fun pm hh => zyw a l w.1 w.2.1.toNat w1.1 (by omega) (by omega) pm w.2.1.toNat k.m k.pf lv hT w2 h.l.sh (by omega) hh c3'; have P : ToP k.cd k.cp k.sz k.pf k.sh a l w.1 w.2.1.toNat k.m lv w.2.1.toNat (unT k w.1 w.2.1 a l) lv' := P; have hto : zas (atM k.sz (unT k w.1 w.2.1 a l).1 (unT k w.1 w.2.1 a l).2.2.1.1 (idx a (unT k w.1 w.2.1 a l).2.2.1.2)) = true ∨ lkP (atM k.sz (unT k w.1 w.2.1 a l).1 (unT k w.1 w.2.1 a l).2.2.1.1 (idx a (unT k w.1 w.2.1 a l).2.2.1.2)) = true := hto; have htl : ∀ pm, (zas (atM k.sz k.m (za0 k.sz k.m a l w.2.1 w.1).1 (idx a (za0 k.sz k.m a l w.2.1 w.1).2)) = true ∧ pmE (atM k.sz k.m (za0 k.sz k.m a l w.2.1 w.1).1 (idx a (za0 k.sz k.m a l w.2.1 w.1).2)) = pm) → zas (atM k.sz (unT k w.1 w.2.1 a l).1 (unT k w.1 w.2.1 a l).2.2.1.1 (idx a (unT k w.1 w.2.1 a l).2.2.1.2)) = true ∧ pmE (atM k.sz (unT k w.1 w.2.1 a l).1 (unT k w.1 w.2.1 a l).2.2.1.1 (idx a (unT k w.1 w.2.1 a l).2.2.1.2)) = pm := htl; generalize hTT : unT k w.1 w.2.1 a l = T at *; obtain ⟨xs, f, ⟨t, lt⟩, e⟩ := T; obtain ⟨l', e1, e2, e3, e4, e5⟩ := P.p; have e1 : lt = (l' : Int) := e1; subst e1; obtain rfl : e = 0 := c3'; have hll : (l' : Int) = l := hlev; have e4 : Al k.cd k.cp f t := e4; have e5 : lv' t = (l' : Int) := e5; have hPt : TI k.cd k.cp k.sz xs f k.sh lv' := P.t; have hPr : zao k.sz xs a l w.2.1.toNat w.1 = (t, (l' : Int)) := P.r; have hto : zas (atM k.sz xs t (idx a (l' : Int))) = true ∨ lkP (atM k.sz xs t (idx a (l' : Int))) = true := hto; have hwe : w = (w.1, ((w.2.1.toNat : Nat) : Int), 0) := by
  rw [show ((w.2.1.toNat : Nat) : Int) = w.2.1 by omega, ← c0']
 refine ⟨lv', w.1, w.2.1.toNat, xs, f, t, l', hA, hW.trans hwe, hll, hp, hPt, e4, e5, hto, hPr, by rw [hll]; exact hbm, hfb, fun h1 => ?_, by omega⟩
 cases hl0 : zas (atM k.sz k.m (za0 k.sz k.m a l w.2.1 w.1).1 (idx a (za0 k.sz k.m a l w.2.1 w.1).2)) with
 | true =>
  have := (htl _ ⟨hl0, rfl⟩).1; have this : zas (atM k.sz xs t (idx a (l' : Int))) = true := this; rw [(za8 h1).2.2] at this; cases this
 | false =>
  have hst := hstop hl0; simp only [Prod.mk.injEq] at hst; obtain ⟨rfl, rfl, hsp, _⟩ := hst; rw [hin, ← hsp] at c2; have c2 : (zax k.sz k.m (l' : Int) (atM k.sz k.m t (idx a (l' : Int))) (VaSpec.base a (l' : Int))).length ≠ 0 := c2; unfold zax at c2; rw [if_neg (by rw [(za8 h1).2.2]; simp), if_pos (za8 h1).1, hll, hfb] at c2
  rw [hll]; exact List.exists_mem_of_ne_nil (za7 k.sz k.m (l - 1).toNat (atM k.sz k.m t (idx a l)).ppn a) (fun hh => c2 (by rw [hh]; rfl))
theorem zt3 {n : Nat} {k : Kr} {id a l : Int} {p : Pm} (h : InvT n k) (he : (prR k id a l p).2 = 0) :
 (∀ y ∈ inR (prR k id a l p).1 id a l, zhi y = p) ∧ (inR (prR k id a l p).1 id a l).length ≠ 0 ∧ (∀ p', zcb p' = true → (prR (prR k id a l p).1 id a l p').2 = 0) ∧ prR (prR k id a l p).1 id a l p = ((prR k id a l p).1, 0) := by
 obtain ⟨lv, top, l0, xs, f, t, l', O⟩ := zzf h he; have hi := idx_bd a (l' : Int); obtain ⟨q1, _⟩ := zyq (t := t) (e := 0) O.hT O.hp O.l2 O.hlv O.b O.h; obtain ⟨s1, _⟩ := ztv (t := t) (e := 0) O.hT O.hp O.l2 O.hlv O.b O.h; obtain ⟨m1, m2⟩ := z7u (t := t) (e := 0) O.hT O.hp O.l2 O.hal O.hlv O.b O.h; have hre : zao k.sz (prM k.sz (xs, f, (t, (l' : Int)), 0) a p) a l l0 top = (t, (l' : Int)) := (s1.reach a l _ _).trans O.r; rw [O.e]; obtain ⟨ys, hys⟩ : ∃ ys, ys = prM k.sz (xs, f, (t, (l' : Int)), 0) a p := ⟨_, rfl⟩; obtain ⟨K, hK⟩ : ∃ K, K = prK k id a p (xs, f, (t, (l' : Int)), 0) := ⟨_, rfl⟩; have hKm : K.m = ys ∧ K.pf = f ∧ K.sz = k.sz ∧ K.cd = k.cd ∧ K.cp = k.cp ∧ K.sh = k.sh ∧ K.ss = k.ss := by rw [hK, hys]; exact ⟨rfl, rfl, rfl, rfl, rfl, rfl, rfl⟩
 have hKw : zal K id a l = (top, (l0 : Int), 0) := by rw [hK]; exact O.w
 show (∀ y ∈ inR (prK k id a p (xs, f, (t, (l' : Int)), 0)) id a l, zhi y = p) ∧ (inR (prK k id a p (xs, f, (t, (l' : Int)), 0)) id a l).length ≠ 0 ∧ (∀ p', zcb p' = true → (prR (prK k id a p (xs, f, (t, (l' : Int)), 0)) id a l p').2 = 0) ∧ prR (prK k id a p (xs, f, (t, (l' : Int)), 0)) id a l p = (prK k id a p (xs, f, (t, (l' : Int)), 0), 0); rw [← hK]; rw [← hys] at q1 s1 m1 m2 hre; obtain ⟨k1, k2, k3, k4, k5, k6, k7⟩ := hKm; have hreK : za0 K.sz K.m a l (l0 : Int) top = (t, (l' : Int)) := by unfold za0; rw [k3, k1, Int.toNat_natCast]; exact hre
 have hin : inR K id a l = zax k.sz ys (l' : Int) (atM k.sz ys t (idx a (l' : Int))) a := by
  unfold inR; rw [hKw, if_neg (by simp)]; show zax K.sz K.m (za0 K.sz K.m a l (l0 : Int) top).2 (atM K.sz K.m (za0 K.sz K.m a l (l0 : Int) top).1 (idx a (za0 K.sz K.m a l (l0 : Int) top).2)) (VaSpec.base a (za0 K.sz K.m a l (l0 : Int) top).2) = _; rw [hreK, k3, k1]; show zax k.sz ys (l' : Int) (atM k.sz ys t (idx a (l' : Int))) (VaSpec.base a (l' : Int)) = _; rw [O.hl, O.s]
 -- all of it permits what was told
 have hall : ∀ y ∈ zax k.sz ys (l' : Int) (atM k.sz ys t (idx a (l' : Int))) a, zhi y = p := fun y hy => by
  unfold zax at hy; rcases O.h with h1 | h1
  · rw [if_pos (s1.leaf hi h1)] at hy; have hy := List.mem_singleton.1 hy; rw [hy]; exact m1 h1
  · have e : atM k.sz ys t (idx a (l' : Int)) = atM k.sz xs t (idx a (l' : Int)) := by
     rcases s1 t _ hi with e0 | ⟨e1, _⟩
     · exact e0
     · rw [(za8 h1).2.2] at e1; cases e1
    rw [e, if_neg (by rw [(za8 h1).2.2]; simp), if_pos (za8 h1).1] at hy
    refine z1s _ _ _ (fun s hs j hj hlf => ?_) (z1t q1) y hy; rw [zyv s1] at hs; refine m2 h1 s hs j hj ?_; rcases s1 s j hj with e0 | ⟨e1, _⟩
    · rw [← e0]; exact hlf
    · exact e1
 have hne : (zax k.sz ys (l' : Int) (atM k.sz ys t (idx a (l' : Int))) a).length ≠ 0 := by
  unfold zax; rcases O.h with h1 | h1
  · rw [if_pos (s1.leaf hi h1)]; simp
  · have e : atM k.sz ys t (idx a (l' : Int)) = atM k.sz xs t (idx a (l' : Int)) := by
     rcases s1 t _ hi with e0 | ⟨e1, _⟩
     · exact e0
     · rw [(za8 h1).2.2] at e1; cases e1
    rw [e, if_neg (by rw [(za8 h1).2.2]; simp), if_pos (za8 h1).1]
    obtain ⟨_, c2, c3, c4⟩ := zb5 O.hT hi h1; obtain ⟨z, hz⟩ := zvc O.hT q1 s1 ((l' : Int) - 1).toNat (atM k.sz xs t (idx a (l' : Int))).ppn a (by rw [c3, O.hlv]; have := O.hlv; omega) (O.n h1)
    exact fun hh => by rw [List.length_eq_zero_iff.1 hh] at hz; cases hz
 have huT : unT K top (l0 : Int) a l = (ys, f, (t, (l' : Int)), 0) := by
  unfold unT; rw [k3, k4, k1, k2, Int.toNat_natCast, zn4 (.inl (by rw [hre]; exact O.hl)) _, hre]
 have hPK : ∀ p', zcb p' = true → prR K id a l p' = (prK K id a p' (ys, f, (t, (l' : Int)), 0), 0) := fun p' hp' => by
  unfold prR; rw [hKw, if_neg (by simp), if_neg (by rw [hp']; simp), hin, if_neg hne]
  show (if (unT K top (l0 : Int) a l).2.2.2 ≠ 0 then _ else _) = _; rw [huT, if_neg (by simp)]
 refine ⟨by rw [hin]; exact hall, by rw [hin]; exact hne, fun p' hp' => by rw [hPK p' hp'], ?_⟩
 rw [hPK p O.hp]
 congr 1
 -- the same once more
 have hor : zas (atM k.sz ys t (idx a (l' : Int))) = true ∨ lkP (atM k.sz ys t (idx a (l' : Int))) = true := by
  rcases O.h with h1 | h1
  · exact .inl (s1.leaf hi h1)
  · rcases s1 t _ hi with e0 | ⟨e1, _⟩
    · rw [e0]; exact .inr h1
    · rw [(za8 h1).2.2] at e1; cases e1
 have hmem : prM k.sz (ys, f, (t, (l' : Int)), 0) a p = ys := by
  obtain ⟨r1, _⟩ := zyq (t := t) (e := 0) q1 O.hp O.l2 O.hlv O.b hor; obtain ⟨u1, u2⟩ := ztv (t := t) (e := 0) q1 O.hp O.l2 O.hlv O.b hor; refine z2l r1 q1 fun s j hj => ?_; rcases u1 s j hj with e | ⟨e1, _, e3⟩
  · exact e
  · -- painted alike
    have key : pmE (atM k.sz ys s j) = p → zde (atM k.sz ys s j) p = atM k.sz ys s j := fun hh => by
     rw [← hh]; rfl
    by_cases c : s = t ∧ j = idx a (l' : Int)
    · rw [e3]; refine key ?_; rw [c.1, c.2] at e1 ⊢; refine m1 ?_; rcases O.h with h1 | h1
      · exact h1
      · rcases s1 t _ hi with e0 | ⟨f1, _⟩
        · rw [e0, (za8 h1).2.2] at e1; cases e1
        · exact f1
    · by_cases d : lkP (atM k.sz ys t (idx a (l' : Int))) = true ∧ s ∈ frN k.sz ys ((l' : Int) - 1).toNat (atM k.sz ys t (idx a (l' : Int))).ppn
      · rw [e3]; refine key ?_; have h1 : lkP (atM k.sz xs t (idx a (l' : Int))) = true ∧ atM k.sz ys t (idx a (l' : Int)) = atM k.sz xs t (idx a (l' : Int)) := by
         rcases s1 t _ hi with e0 | ⟨_, f1, _⟩
         · rw [e0] at d; exact ⟨d.1, e0⟩
         · rw [zcg f1] at d; cases d.1
        have hs := d.2; rw [zyv s1, h1.2] at hs; refine m2 h1.1 s hs j hj ?_; rcases s1 s j hj with e0 | ⟨f1, _⟩
        · rw [← e0]; exact e1
        · exact f1
      · exact u2 s j hj c fun hh hm => d ⟨hh, hm⟩
 have hless : zdf (zax k.sz ys (l' : Int) (atM k.sz ys t (idx a (l' : Int))) a) p = [] := by
  unfold zdf; rw [List.filter_eq_nil_iff]; intro y hy; rw [hall y hy]; unfold zlu; obtain ⟨r, w, x, u⟩ := p; cases r <;> cases w <;> cases x <;> cases u <;> simp
 show zda { K with m := prM K.sz (ys, f, (t, (l' : Int)), 0) a p, pf := f } (zgv K id (zdf (zax K.sz ys (l' : Int) (atM K.sz ys t (idx a (l' : Int))) a) p)) = K; have e1 : prM K.sz (ys, f, (t, (l' : Int)), 0) a p = ys := by rw [k3]; exact hmem
 have e2 : zdf (zax K.sz ys (l' : Int) (atM K.sz ys t (idx a (l' : Int))) a) p = [] := by rw [k3]; exact hless
 rw [e1, e2]; have hnil : zgv K id [] = [] := rfl; rw [hnil]; unfold zda; rw [List.append_nil]; have key : ({ K with m := ys, pf := f } : Kr) = K := by rw [← k1, ← k2]
 exact key
theorem z7v {n : Nat} {k : Kr} {id a l : Int} (h : InvT n k) : ∀ y ∈ inR k id a l, zcb (zhi y) = true := by
 obtain ⟨lv, hT, _, _⟩ := h.t; have leafm : ∀ s j, (0 ≤ j ∧ j < 512) → zas (atM k.sz k.m s j) = true → zcb (pmE (atM k.sz k.m s j)) = true := fun s j hj hlf => by
  obtain ⟨_, _, hb⟩ := zew hT hj hlf; generalize atM k.sz k.m s j = q at *; obtain ⟨v, r, w, x, u, g, a, d, rsw, ppn, high⟩ := q; revert hlf hb; unfold zas zco zcb pmE; cases v <;> cases r <;> cases w <;> cases x <;> simp
 have pagm : ∀ (l : Nat) (t b : Int), ∀ y ∈ za7 k.sz k.m l t b, zcb (zhi y) = true := by
  intro l
  induction l with
  | zero =>
   intro t b y hy; obtain ⟨i, hi, _, ⟨c1, rfl⟩ | ⟨_, m, e, _⟩⟩ := (zbp _ _ _ _ _ _).1 hy
   · exact leafm t i (by omega) c1
   · omega
  | succ l ih =>
   intro t b y hy; obtain ⟨i, hi, _, ⟨c1, rfl⟩ | ⟨_, m, e, hy⟩⟩ := (zbp _ _ _ _ _ _).1 hy
   · exact leafm t i (by omega) c1
   · obtain rfl : m = l := by omega
     exact ih _ _ y hy
 intro y hy; unfold inR at hy
 split at hy
 · cases hy
 · unfold zax at hy
   split at hy
   · rename_i hlf; have hy := List.mem_singleton.1 hy; rw [hy]; exact leafm _ _ (idx_bd _ _) hlf
   · split at hy
     · exact pagm _ _ _ y hy
     · cases hy
end LoE
namespace LoF
open Go.RowKit Bv VaSpec Base MemL RegR Ax MemC PutC OkS SpA SpB SpH SpI LaA LaB LaC LaD LaE LaG LiA LiB LiC LiE LiF SpE SpO SpN RfC RfJ RlA RlB RlC LaH LaI LaJ LjA LjB LjF LkE LmA LmB LmE LmG LmH LmI LnA SpD LrA LnB RfG RfQ LnD LnF LnG LnH LoA LrD LoB LoC LoD LoE LnC
theorem eqp (w : World) (a b : Pm) : (Op.equalIn 10000 49 (.agg #[.bool a.r, .bool a.w, .bool a.x, .bool a.u]) (.agg #[.bool b.r, .bool b.w, .bool b.x, .bool b.u])).run Tryz.prog w = .ok (a.r == b.r && (a.w == b.w && (a.x == b.x && (a.u == b.u && true)))) w := by
 refine PoolC4.zc9 Tryz.underlying49 (by kernel_rfl) ?_; refine PoolC4.zau (by rfl) (by go_simp; rfl) (by go_simp; rfl) (by go_simp) ?_
 refine PoolC4.zau (by rfl) (by go_simp; rfl) (by go_simp; rfl) (by go_simp) ?_
 refine PoolC4.zau (by rfl) (by go_simp; rfl) (by go_simp; rfl) (by go_simp) ?_
 exact PoolC4.zau (by rfl) (by go_simp; rfl) (by go_simp; rfl) (by go_simp) PoolC4.zcq
theorem zzg (w : World) (a b : Pm) (h : a = b) : (Op.equalIn 10000 49 (.agg #[.bool a.r, .bool a.w, .bool a.x, .bool a.u]) (.agg #[.bool b.r, .bool b.w, .bool b.x, .bool b.u])).run Tryz.prog w = .ok true w := by
 rw [eqp, h]; simp
theorem z7w (w : World) (a b : Pm) (h : a ≠ b) : (Op.equalIn 10000 49 (.agg #[.bool a.r, .bool a.w, .bool a.x, .bool a.u]) (.agg #[.bool b.r, .bool b.w, .bool b.x, .bool b.u])).run Tryz.prog w = .ok false w := by
 rw [eqp]
 congr 1
 obtain ⟨a1, a2, a3, a4⟩ := a; obtain ⟨b1, b2, b3, b4⟩ := b; cases a1 <;> cases a2 <;> cases a3 <;> cases a4 <;> cases b1 <;> cases b2 <;> cases b3 <;> cases b4 <;> simp at h ⊢
attribute [local irreducible] Ax.zbr
theorem dg_n {n : Nat} {k : Kr} {d : Dg} (h : InvT n k) (g : InvN k) (hd : UG d) : InvN (dgR k d).1 := by
 unfold dgR
 split
 · exact un_n h g
 · split
   · exact pr_n h g
   · exact z7a h g hd.2.2
theorem dg_g {n : Nat} {k : Kr} {d : Dg} (h : InvT n k) (gn : InvN k) (g : InvG k) (hd : UG d) : InvG (dgR k d).1 := by
 unfold dgR
 split
 · exact un_g h gn g
 · split
   · exact pr_g h g
   · exact z8x h g hd.2.2
def twJ (ys : List Pg) (e : Dg) (kp : Kr) (i : Nat) : St := St.of [(5, .m (.c (.p 5 0))), (6, .m (ib false)), (10, .m (.c (.p 10 0))), (14, .m (.c (.s ys.length 8 (flP ys)))), (15, .m (ii i))] [(5, .live (.box e.ce)), (10, .live (.box kp.ce))]
def twK (ys zs : List Pg) (i : Nat) : St := St.of [(6, .m (ib false)), (14, .m (.c (.s ys.length 8 (flP ys)))), (17, .m (ii 0)), (18, .m (.c (.s zs.length 8 (flP zs)))), (19, .m (ii i))] []
theorem twice4_ok (a b c d : Int) (l : List Dg) (e : Dg) (hl : ∀ x ∈ l, UG x) (he : UG e) : Ok 9 [znk a b c d, .c (.s l.length 9 (z1f l)), .ag e.ce] (.m (ib true)) := by
 have hm := z31 a b c d; cases hc : zf8 a b c d with
 | false =>
  rw [hc] at hm; refine zad 167 Tryz.func9 rfl rfl rfl rfl ?_ GG.to; intro W A hG
  repeat (first | (refine zai rfl ?_; first | refine zaj ?_ | refine gdr (zaa rfl rfl rfl (zk6) (by kernel_rfl)) ?_ | refine gdr (zaa rfl rfl rfl (hm) (by kernel_rfl)) ?_) | (refine hK _ ?_; clear hK K) | (rename_i K1 hK1; refine hK1 _ ?_; clear hK hK1; clear K) | (rename_i K1 hK1; refine hK1 _ ?_; clear hK1) | refine zac rfl ?_ | refine zaq (by kernel_rfl) (by kernel_rfl) rfl ?_ | exact zah (show zat _ _ _ = some _ by kernel_rfl) | refine zaf rfl rfl ?_ | refine zae rfl rfl ?_ | refine zag ?_ | refine zar ?_ | refine zak ?_ | refine zab (fun K hK => ?_) | refine zaz ?_ | refine za3 ?_ | refine zah (show zat _ _ _ = some _ ∧ EndB _ _ from ⟨by kernel_rfl, ?_⟩))
 | true =>
  rw [hc] at hm; by_cases hlen : 15 < l.length
  · refine zad 167 Tryz.func9 rfl rfl rfl rfl ?_ GG.to; intro W A hG
    repeat (first | (refine zai rfl ?_; first | refine zaj ?_ | refine gdr (zaa rfl rfl rfl (zk6) (by kernel_rfl)) ?_ | refine gdr (zaa rfl rfl rfl (hm) (by kernel_rfl)) ?_) | (refine hK _ ?_; clear hK K) | (rename_i K1 hK1; refine hK1 _ ?_; clear hK hK1; clear K) | (rename_i K1 hK1; refine hK1 _ ?_; clear hK1) | refine zac rfl ?_ | refine zaq (by kernel_rfl) (by kernel_rfl) rfl ?_ | exact zah (show zat _ _ _ = some _ by kernel_rfl) | refine zaf rfl rfl ?_ | refine zae rfl rfl ?_ | refine zag ?_ | refine zar ?_ | refine zak ?_ | refine zab (fun K hK => ?_) | refine zaz ?_ | refine za3 ?_ | refine zah (show zat _ _ _ = some _ ∧ EndB _ _ from ⟨by kernel_rfl, ?_⟩))
  obtain ⟨n, rfl⟩ := Int.eq_ofNat_of_zero_le (zd3.1 hc).2.2.2.1; have hb := zp6 a b c n hc; have hbi := zx9 hc; have hbn := bg_n hc; have hbg := bg_g hc; generalize bgK a b c n = bk at *; refine zad 167 Tryz.func9 rfl rfl rfl rfl ?_ GG.to; intro W A hG
  repeat (first | (refine zai rfl ?_; first | refine zaj ?_ | refine gdr (zaa rfl rfl rfl (zk6) (by kernel_rfl)) ?_ | refine gdr (zaa rfl rfl rfl (hm) (by kernel_rfl)) ?_ | refine gdr (zaa rfl rfl rfl (hb) (by kernel_rfl)) ?_) | (refine hK _ ?_; clear hK K) | (rename_i K1 hK1; refine hK1 _ ?_; clear hK hK1; clear K) | (rename_i K1 hK1; refine hK1 _ ?_; clear hK1) | refine zac rfl ?_ | refine zaq (by kernel_rfl) (by kernel_rfl) rfl ?_ | exact zah (show zat _ _ _ = some _ by kernel_rfl) | refine zaf rfl rfl ?_ | refine zae rfl rfl ?_ | refine zag ?_ | refine zar ?_ | refine zak ?_ | refine zab (fun K hK => ?_) | refine zaz ?_ | refine za3 ?_ | refine zah (show zat _ _ _ = some _ ∧ EndB _ _ from ⟨by kernel_rfl, ?_⟩))
  refine za1 (α := Nat × Kr) (fun w => w.1 ≤ l.length ∧ InvT (2 + 1100 * w.1) w.2 ∧ InvN w.2 ∧ InvG w.2) (fun w => zse l e w.1 w.2) (fun w => l.length - w.1) (0, bk) ⟨Nat.zero_le _, hbi, hbn, hbg⟩ (sbq _ _) ?_; rintro ⟨i, k⟩ ⟨hi0, hk0, hn0, hg0⟩; have hi : i ≤ l.length := hi0; have hk : InvT (2 + 1100 * i) k := hk0; have hn : InvN k := hn0; have hg : InvG k := hg0; show Aw _ _ _ _ (zse l e i k); unfold zse; by_cases hlt : i < l.length
  · obtain ⟨x, hx0⟩ : ∃ x, l[i]? = some x := ⟨_, List.getElem?_eq_getElem hlt⟩; have hx := z42 hx0; have h8 := hl x (List.mem_of_getElem? hx0); have hd := z7b hk (by omega) h8; have hdi := z41 hk h8; have hdn := dg_n hk hn h8; have hdg := dg_g hk hn hg h8; generalize dgR k x = rr at *
    repeat (first | (refine zai rfl ?_; first | refine zaj ?_ | refine gdr (zaa rfl rfl rfl (hd) (by kernel_rfl)) ?_) | (refine hK _ ?_; clear hK K) | (rename_i K1 hK1; refine hK1 _ ?_; clear hK hK1; clear K) | (rename_i K1 hK1; refine hK1 _ ?_; clear hK1) | refine zac rfl ?_ | refine zaq (by kernel_rfl) (by kernel_rfl) rfl ?_ | exact zah (show zat _ _ _ = some _ by kernel_rfl) | refine zaf rfl rfl ?_ | refine zae rfl rfl ?_ | refine zag ?_ | refine zar ?_ | refine zak ?_ | refine zab (fun K hK => ?_) | refine zaz ?_ | refine za3 ?_ | refine zah (show zat _ _ _ = some _ ∧ EndB _ _ from ⟨by kernel_rfl, ?_⟩))
    exact ⟨(i + 1, rr.1), ⟨by show i + 1 ≤ l.length; omega, hdi, hdn, hdg⟩, by show l.length - (i + 1) < l.length - i; omega, sbq _ _⟩
  · have hd := zc5 hk (by omega) e.id e.va e.lev e.p he.2.1; have hpi := zto (id := e.id) (a := e.va) (l := e.lev) (p := e.p) hk; have hpg := pr_g (id := e.id) (a := e.va) (l := e.lev) (p := e.p) hk hg; have htr := z5h hpi (by omega) hpg; have hsm := z8u hpi.l (by omega); have hd2 := fun q => zc5 hpi (by omega) e.id e.va e.lev q he.2.1; have hoi := fun q => zto (id := e.id) (a := e.va) (l := e.lev) (p := q) hpi; have hin := zyi hk (by omega) e.id e.va e.lev he.2.1; have hil := inRl hk e.id e.va e.lev he.2.1; have hmy := z7v (id := e.id) (a := e.va) (l := e.lev) hk; have hne := zzf (id := e.id) (a := e.va) (l := e.lev) (p := e.p) hk; have haf := zt3 (id := e.id) (a := e.va) (l := e.lev) (p := e.p) hk; have hsome : (prR k e.id e.va e.lev e.p).2 = 0 → (inR k e.id e.va e.lev).length ≠ 0 := fun h0 hh => by
     unfold prR at h0; by_cases c0 : (zal k e.id e.va e.lev).2.2 ≠ 0
     · rw [if_pos c0] at h0; exact c0 h0
     rw [if_neg c0] at h0; by_cases c1 : zcb e.p = false
     · rw [if_pos c1] at h0; cases h0
     rw [if_neg c1, if_pos hh] at h0; cases h0
    have haf2 := fun q => zt3 (id := e.id) (a := e.va) (l := e.lev) (p := q) hpi; clear hne hpg; generalize inR k e.id e.va e.lev = ys at *; generalize prR k e.id e.va e.lev e.p = rp at *; obtain ⟨kp, ep⟩ := rp
    repeat (first | (refine zai rfl ?_; first | refine zaj ?_) | refine zac rfl ?_ | refine zaq (by kernel_rfl) (by kernel_rfl) rfl ?_ | exact zah (show zat _ _ _ = some _ by kernel_rfl) | refine zaf rfl rfl ?_ | refine zae rfl rfl ?_ | refine zag ?_ | refine zar ?_ | refine zak ?_ | refine zab (fun K hK => ?_) | refine zaz ?_ | refine za3 ?_ | refine zah (show zat _ _ _ = some _ ∧ EndB _ _ from ⟨by kernel_rfl, ?_⟩))
    first
     | (refine hK _ ?_; clear hK K)
     | (rename_i K1 hK1; refine hK1 _ ?_; clear hK hK1; clear K)
     | (rename_i K1 hK1; refine hK1 _ ?_; clear hK1)
    repeat (first | (refine zai rfl ?_; first | refine zaj ?_) | refine zac rfl ?_ | refine zaq (by kernel_rfl) (by kernel_rfl) rfl ?_ | exact zah (show zat _ _ _ = some _ by kernel_rfl) | refine zaf rfl rfl ?_ | refine zae rfl rfl ?_ | refine zag ?_ | refine zar ?_ | refine zak ?_ | refine zab (fun K hK => ?_) | refine zaz ?_ | refine za3 ?_ | refine zah (show zat _ _ _ = some _ ∧ EndB _ _ from ⟨by kernel_rfl, ?_⟩))
    first
     | (refine hK _ ?_; clear hK K)
     | (rename_i K1 hK1; refine hK1 _ ?_; clear hK hK1; clear K)
     | (rename_i K1 hK1; refine hK1 _ ?_; clear hK1)
    repeat (first | (refine zai rfl ?_; first | refine zaj ?_ | refine gdr (zaa rfl rfl rfl (hd) (by kernel_rfl)) ?_) | refine zac rfl ?_ | refine zaq (by kernel_rfl) (by kernel_rfl) rfl ?_ | exact zah (show zat _ _ _ = some _ by kernel_rfl) | refine zaf rfl rfl ?_ | refine zae rfl rfl ?_ | refine zag ?_ | refine zar ?_ | refine zak ?_ | refine zab (fun K hK => ?_) | refine zaz ?_ | refine za3 ?_ | refine zah (show zat _ _ _ = some _ ∧ EndB _ _ from ⟨by kernel_rfl, ?_⟩))
    first
     | (refine hK _ ?_; clear hK K)
     | (rename_i K1 hK1; refine hK1 _ ?_; clear hK hK1; clear K)
     | (rename_i K1 hK1; refine hK1 _ ?_; clear hK1)
    refine zc7 (sbq [(5, .m (.c (.p 5 0))), (6, .m (ib false)), (7, .m (.c (.p 7 0))), (10, .m (.c (.p 10 0))), (11, .m (ii ep))] [(5, .live (.box e.ce)), (7, .live (.box k.ce)), (10, .live (.box kp.ce))]) ?_; by_cases c0 : ep = 0
    · subst c0; obtain ⟨-, -, r3, r4⟩ := haf rfl; replace hsome : ys.length ≠ 0 := hsome rfl; replace r3 : ∀ p', zcb p' = true → (prR kp e.id e.va e.lev p').2 = 0 := r3; replace r4 : prR kp e.id e.va e.lev e.p = (kp, 0) := r4; have hd1 := hd2 e.p; replace hd1 : Ok 38 [.ag kp.ce, ii e.id, iu e.va, ii e.lev, .ag [cb e.p.r, cb e.p.w, cb e.p.x, cb e.p.u]] (.tu [.ag (prR kp e.id e.va e.lev e.p).1.ce, ii (prR kp e.id e.va e.lev e.p).2]) := hd1; rw [r4] at hd1; obtain ⟨y0, hy0⟩ : ∃ y0, ys[0]? = some y0 := ⟨_, List.getElem?_eq_getElem (by omega)⟩; have hx0 := zmi hy0; have hm0 := hmy y0 (List.mem_of_getElem? hy0); have ho := r3 (zhi y0) hm0; have hd3 := hd2 (zhi y0); have hoI := hoi (zhi y0); obtain ⟨u1, u2, -, -⟩ := haf2 (zhi y0) ho; have hin2 := zyi hoI (by omega) e.id e.va e.lev he.2.1; have hil2 := inRl hoI e.id e.va e.lev he.2.1; replace hd3 : Ok 38 [.ag kp.ce, ii e.id, iu e.va, ii e.lev, .ag [cb y0.r, cb y0.w, cb y0.x, cb y0.u]] (.tu [.ag (prR kp e.id e.va e.lev (zhi y0)).1.ce, ii (prR kp e.id e.va e.lev (zhi y0)).2]) := hd3; clear haf haf2 hd2 hoi r3 r4 hoI hpi hmy hm0; generalize inR (prR kp e.id e.va e.lev (zhi y0)).1 e.id e.va e.lev = zs at *; generalize prR kp e.id e.va e.lev (zhi y0) = ro at *; obtain ⟨ko, eo⟩ := ro; replace ho : eo = 0 := ho; subst ho
      repeat (first | (refine zai rfl ?_; first | refine zaj ?_) | refine zac rfl ?_ | refine zaq (by kernel_rfl) (by kernel_rfl) rfl ?_ | exact zah (show zat _ _ _ = some _ by kernel_rfl) | refine zaf rfl rfl ?_ | refine zae rfl rfl ?_ | refine zag ?_ | refine zar ?_ | refine zak ?_ | refine zab (fun K hK => ?_) | refine zaz ?_ | refine za3 ?_ | refine zah (show zat _ _ _ = some _ ∧ EndB _ _ from ⟨by kernel_rfl, ?_⟩))
      first
       | (refine hK _ ?_; clear hK K)
       | (rename_i K1 hK1; refine hK1 _ ?_; clear hK hK1; clear K)
       | (rename_i K1 hK1; refine hK1 _ ?_; clear hK1)
      repeat (first | (refine zai rfl ?_; first | refine zaj ?_) | refine zac rfl ?_ | refine zaq (by kernel_rfl) (by kernel_rfl) rfl ?_ | exact zah (show zat _ _ _ = some _ by kernel_rfl) | refine zaf rfl rfl ?_ | refine zae rfl rfl ?_ | refine zag ?_ | refine zar ?_ | refine zak ?_ | refine zab (fun K hK => ?_) | refine zaz ?_ | refine za3 ?_ | refine zah (show zat _ _ _ = some _ ∧ EndB _ _ from ⟨by kernel_rfl, ?_⟩))
      first
       | (refine hK _ ?_; clear hK K)
       | (rename_i K1 hK1; refine hK1 _ ?_; clear hK hK1; clear K)
       | (rename_i K1 hK1; refine hK1 _ ?_; clear hK1)
      repeat (first | (refine zai rfl ?_; first | refine zaj ?_ | refine gdr (zaa rfl rfl rfl (hd1) (by kernel_rfl)) ?_) | refine zac rfl ?_ | refine zaq (by kernel_rfl) (by kernel_rfl) rfl ?_ | exact zah (show zat _ _ _ = some _ by kernel_rfl) | refine zaf rfl rfl ?_ | refine zae rfl rfl ?_ | refine zag ?_ | refine zar ?_ | refine zak ?_ | refine zab (fun K hK => ?_) | refine zaz ?_ | refine za3 ?_ | refine zah (show zat _ _ _ = some _ ∧ EndB _ _ from ⟨by kernel_rfl, ?_⟩))
      first
       | (refine hK _ ?_; clear hK K)
       | (rename_i K1 hK1; refine hK1 _ ?_; clear hK hK1; clear K)
       | (rename_i K1 hK1; refine hK1 _ ?_; clear hK1)
      refine zc7 (sbq [(5, .m (.c (.p 5 0))), (6, .m (ib false)), (7, .m (.c (.p 7 0))), (10, .m (.c (.p 10 0))), (12, .m (.c (.p 12 0))), (13, .m (ii 0))] [(5, .live (.box e.ce)), (7, .live (.box k.ce)), (10, .live (.box kp.ce)), (12, .live (.box kp.ce))]) ?_
      repeat (first | (refine zai rfl ?_; first | refine zaj ?_ | refine gdr (zaa rfl rfl rfl (hsm) (by kernel_rfl)) ?_ | refine gdr (zaa rfl rfl rfl (htr) (by kernel_rfl)) ?_) | refine zac rfl ?_ | refine zaq (by kernel_rfl) (by kernel_rfl) rfl ?_ | exact zah (show zat _ _ _ = some _ by kernel_rfl) | refine zaf rfl rfl ?_ | refine zae rfl rfl ?_ | refine zag ?_ | refine zar ?_ | refine zak ?_ | refine zab (fun K hK => ?_) | refine zaz ?_ | refine za3 ?_ | refine zah (show zat _ _ _ = some _ ∧ EndB _ _ from ⟨by kernel_rfl, ?_⟩))
      first
       | (refine hK _ ?_; clear hK K)
       | (rename_i K1 hK1; refine hK1 _ ?_; clear hK hK1; clear K)
       | (rename_i K1 hK1; refine hK1 _ ?_; clear hK1)
      repeat (first | (refine zai rfl ?_; first | refine zaj ?_) | refine zac rfl ?_ | refine zaq (by kernel_rfl) (by kernel_rfl) rfl ?_ | exact zah (show zat _ _ _ = some _ by kernel_rfl) | refine zaf rfl rfl ?_ | refine zae rfl rfl ?_ | refine zag ?_ | refine zar ?_ | refine zak ?_ | refine zab (fun K hK => ?_) | refine zaz ?_ | refine za3 ?_ | refine zah (show zat _ _ _ = some _ ∧ EndB _ _ from ⟨by kernel_rfl, ?_⟩))
      first
       | (refine hK _ ?_; clear hK K)
       | (rename_i K1 hK1; refine hK1 _ ?_; clear hK hK1; clear K)
       | (rename_i K1 hK1; refine hK1 _ ?_; clear hK1)
      repeat (first | (refine zai rfl ?_; first | refine zaj ?_ | refine gdr (zaa rfl rfl rfl (hin) (by kernel_rfl)) ?_) | refine zac rfl ?_ | refine zaq (by kernel_rfl) (by kernel_rfl) rfl ?_ | exact zah (show zat _ _ _ = some _ by kernel_rfl) | refine zaf rfl rfl ?_ | refine zae rfl rfl ?_ | refine zag ?_ | refine zar ?_ | refine zak ?_ | refine zab (fun K hK => ?_) | refine zaz ?_ | refine za3 ?_ | refine zah (show zat _ _ _ = some _ ∧ EndB _ _ from ⟨by kernel_rfl, ?_⟩))
      first
       | (refine hK _ ?_; clear hK K)
       | (rename_i K1 hK1; refine hK1 _ ?_; clear hK hK1; clear K)
       | (rename_i K1 hK1; refine hK1 _ ?_; clear hK1)
      refine zc7 (sbq [(5, .m (.c (.p 5 0))), (6, .m (ib false)), (10, .m (.c (.p 10 0))), (14, .m (.c (.s ys.length 8 (flP ys))))] [(5, .live (.box e.ce)), (10, .live (.box kp.ce))]) ?_
      repeat (first | (refine zai rfl ?_; first | refine zaj ?_) | (refine hK _ ?_; clear hK K) | (rename_i K1 hK1; refine hK1 _ ?_; clear hK hK1; clear K) | (rename_i K1 hK1; refine hK1 _ ?_; clear hK1) | refine zac rfl ?_ | refine zaq (by kernel_rfl) (by kernel_rfl) rfl ?_ | exact zah (show zat _ _ _ = some _ by kernel_rfl) | refine zaf rfl rfl ?_ | refine zae rfl rfl ?_ | refine zag ?_ | refine zar ?_ | refine zak ?_ | refine zab (fun K hK => ?_) | refine zaz ?_ | refine za3 ?_ | refine zah (show zat _ _ _ = some _ ∧ EndB _ _ from ⟨by kernel_rfl, ?_⟩))
      refine za1 (α := Nat) (fun w => w ≤ ys.length) (fun w => twJ ys e kp w) (fun w => ys.length - w) 0 (Nat.zero_le _) (sbq _ _) ?_; intro j hj; show Aw _ _ _ _ (twJ ys e kp j); unfold twJ; by_cases hjl : j < ys.length
      · obtain ⟨y, hy⟩ : ∃ y, ys[j]? = some y := ⟨_, List.getElem?_eq_getElem hjl⟩; have hx := zmi hy; by_cases hpp : zhi y = zhi y0
        · have hq := fun w => zzg w (zhi y) (zhi y0) hpp
          repeat (first | (refine zai rfl ?_; first | refine zaj ?_ | refine gdr (zeg rfl rfl rfl rfl rfl rfl (by decide) (by omega) _ hx0) ?_ | refine gdr (zcl (us := [.bool y.r, .bool y.w, .bool y.x, .bool y.u]) (vs := [.bool y0.r, .bool y0.w, .bool y0.x, .bool y0.u]) hq (by kernel_rfl) rfl rfl rfl rfl) ?_) | (refine hK _ ?_; clear hK K) | (rename_i K1 hK1; refine hK1 _ ?_; clear hK hK1; clear K) | (rename_i K1 hK1; refine hK1 _ ?_; clear hK1) | refine zac rfl ?_ | refine zaq (by kernel_rfl) (by kernel_rfl) rfl ?_ | exact zah (show zat _ _ _ = some _ by kernel_rfl) | refine zaf rfl rfl ?_ | refine zae rfl rfl ?_ | refine zag ?_ | refine zar ?_ | refine zak ?_ | refine zab (fun K hK => ?_) | refine zaz ?_ | refine za3 ?_ | refine zah (show zat _ _ _ = some _ ∧ EndB _ _ from ⟨by kernel_rfl, ?_⟩))
          exact ⟨j + 1, hjl, by omega, sbq _ _⟩
        · have hq := fun w => z7w w (zhi y) (zhi y0) hpp
          repeat (first | (refine zai rfl ?_; first | refine zaj ?_ | refine gdr (zeg rfl rfl rfl rfl rfl rfl (by decide) (by omega) _ hx0) ?_ | refine gdr (zcl (us := [.bool y.r, .bool y.w, .bool y.x, .bool y.u]) (vs := [.bool y0.r, .bool y0.w, .bool y0.x, .bool y0.u]) hq (by kernel_rfl) rfl rfl rfl rfl) ?_) | (refine hK _ ?_; clear hK K) | (rename_i K1 hK1; refine hK1 _ ?_; clear hK hK1; clear K) | (rename_i K1 hK1; refine hK1 _ ?_; clear hK1) | refine zac rfl ?_ | refine zaq (by kernel_rfl) (by kernel_rfl) rfl ?_ | exact zah (show zat _ _ _ = some _ by kernel_rfl) | refine zaf rfl rfl ?_ | refine zae rfl rfl ?_ | refine zag ?_ | refine zar ?_ | refine zak ?_ | refine zab (fun K hK => ?_) | refine zaz ?_ | refine za3 ?_ | refine zah (show zat _ _ _ = some _ ∧ EndB _ _ from ⟨by kernel_rfl, ?_⟩))
      · skip
        repeat (first | (refine zai rfl ?_; first | refine zaj ?_) | refine zac rfl ?_ | refine zaq (by kernel_rfl) (by kernel_rfl) rfl ?_ | exact zah (show zat _ _ _ = some _ by kernel_rfl) | refine zaf rfl rfl ?_ | refine zae rfl rfl ?_ | refine zag ?_ | refine zar ?_ | refine zak ?_ | refine zab (fun K hK => ?_) | refine zaz ?_ | refine za3 ?_ | refine zah (show zat _ _ _ = some _ ∧ EndB _ _ from ⟨by kernel_rfl, ?_⟩))
        first
         | (refine hK _ ?_; clear hK K)
         | (rename_i K1 hK1; refine hK1 _ ?_; clear hK hK1; clear K)
         | (rename_i K1 hK1; refine hK1 _ ?_; clear hK1)
        repeat (first | (refine zai rfl ?_; first | refine zaj ?_) | refine zac rfl ?_ | refine zaq (by kernel_rfl) (by kernel_rfl) rfl ?_ | exact zah (show zat _ _ _ = some _ by kernel_rfl) | refine zaf rfl rfl ?_ | refine zae rfl rfl ?_ | refine zag ?_ | refine zar ?_ | refine zak ?_ | refine zab (fun K hK => ?_) | refine zaz ?_ | refine za3 ?_ | refine zah (show zat _ _ _ = some _ ∧ EndB _ _ from ⟨by kernel_rfl, ?_⟩))
        first
         | (refine hK _ ?_; clear hK K)
         | (rename_i K1 hK1; refine hK1 _ ?_; clear hK hK1; clear K)
         | (rename_i K1 hK1; refine hK1 _ ?_; clear hK1)
        repeat (first | (refine zai rfl ?_; first | refine zaj ?_ | refine gdr (zaa rfl rfl rfl (hd3) (by kernel_rfl)) ?_ | refine gdr (zeg rfl rfl rfl rfl rfl rfl (by decide) (by omega) _ hx0) ?_) | refine zac rfl ?_ | refine zaq (by kernel_rfl) (by kernel_rfl) rfl ?_ | exact zah (show zat _ _ _ = some _ by kernel_rfl) | refine zaf rfl rfl ?_ | refine zae rfl rfl ?_ | refine zag ?_ | refine zar ?_ | refine zak ?_ | refine zab (fun K hK => ?_) | refine zaz ?_ | refine za3 ?_ | refine zah (show zat _ _ _ = some _ ∧ EndB _ _ from ⟨by kernel_rfl, ?_⟩))
        first
         | (refine hK _ ?_; clear hK K)
         | (rename_i K1 hK1; refine hK1 _ ?_; clear hK hK1; clear K)
         | (rename_i K1 hK1; refine hK1 _ ?_; clear hK1)
        refine zc7 (sbq [(5, .m (.c (.p 5 0))), (6, .m (ib false)), (14, .m (.c (.s ys.length 8 (flP ys)))), (16, .m (.c (.p 16 0))), (17, .m (ii 0))] [(5, .live (.box e.ce)), (16, .live (.box ko.ce))]) ?_
        repeat (first | (refine zai rfl ?_; first | refine zaj ?_ | refine gdr (zaa rfl rfl rfl (hin2) (by kernel_rfl)) ?_) | (refine hK _ ?_; clear hK K) | (rename_i K1 hK1; refine hK1 _ ?_; clear hK hK1; clear K) | (rename_i K1 hK1; refine hK1 _ ?_; clear hK1) | refine zac rfl ?_ | refine zaq (by kernel_rfl) (by kernel_rfl) rfl ?_ | exact zah (show zat _ _ _ = some _ by kernel_rfl) | refine zaf rfl rfl ?_ | refine zae rfl rfl ?_ | refine zag ?_ | refine zar ?_ | refine zak ?_ | refine zab (fun K hK => ?_) | refine zaz ?_ | refine za3 ?_ | refine zah (show zat _ _ _ = some _ ∧ EndB _ _ from ⟨by kernel_rfl, ?_⟩))
        refine za1 (α := Nat) (fun w => w ≤ zs.length) (fun w => twK ys zs w) (fun w => zs.length - w) 0 (Nat.zero_le _) (sbq _ _) ?_; intro q hq0; show Aw _ _ _ _ (twK ys zs q); unfold twK; by_cases hql : q < zs.length
        · obtain ⟨z, hz⟩ : ∃ z, zs[q]? = some z := ⟨_, List.getElem?_eq_getElem hql⟩; have hx := zmi hz; have hq := fun w => zzg w (zhi z) (zhi y0) (u1 z (List.mem_of_getElem? hz))
          repeat (first | (refine zai rfl ?_; first | refine zaj ?_ | refine gdr (zeg rfl rfl rfl rfl rfl rfl (by decide) (by omega) _ hx0) ?_ | refine gdr (zcl (us := [.bool z.r, .bool z.w, .bool z.x, .bool z.u]) (vs := [.bool y0.r, .bool y0.w, .bool y0.x, .bool y0.u]) hq (by kernel_rfl) rfl rfl rfl rfl) ?_) | (refine hK _ ?_; clear hK K) | (rename_i K1 hK1; refine hK1 _ ?_; clear hK hK1; clear K) | (rename_i K1 hK1; refine hK1 _ ?_; clear hK1) | refine zac rfl ?_ | refine zaq (by kernel_rfl) (by kernel_rfl) rfl ?_ | exact zah (show zat _ _ _ = some _ by kernel_rfl) | refine zaf rfl rfl ?_ | refine zae rfl rfl ?_ | refine zag ?_ | refine zar ?_ | refine zak ?_ | refine zab (fun K hK => ?_) | refine zaz ?_ | refine za3 ?_ | refine zah (show zat _ _ _ = some _ ∧ EndB _ _ from ⟨by kernel_rfl, ?_⟩))
          exact ⟨q + 1, hql, by omega, sbq _ _⟩
        · skip
          repeat (first | (refine zai rfl ?_; first | refine zaj ?_) | (refine hK _ ?_; clear hK K) | (rename_i K1 hK1; refine hK1 _ ?_; clear hK hK1; clear K) | (rename_i K1 hK1; refine hK1 _ ?_; clear hK1) | refine zac rfl ?_ | refine zaq (by kernel_rfl) (by kernel_rfl) rfl ?_ | exact zah (show zat _ _ _ = some _ by kernel_rfl) | refine zaf rfl rfl ?_ | refine zae rfl rfl ?_ | refine zag ?_ | refine zar ?_ | refine zak ?_ | refine zab (fun K hK => ?_) | refine zaz ?_ | refine za3 ?_ | refine zah (show zat _ _ _ = some _ ∧ EndB _ _ from ⟨by kernel_rfl, ?_⟩))
    · clear haf haf2
      repeat (first | (refine zai rfl ?_; first | refine zaj ?_) | (refine hK _ ?_; clear hK K) | (rename_i K1 hK1; refine hK1 _ ?_; clear hK hK1; clear K) | (rename_i K1 hK1; refine hK1 _ ?_; clear hK1) | refine zac rfl ?_ | refine zaq (by kernel_rfl) (by kernel_rfl) rfl ?_ | exact zah (show zat _ _ _ = some _ by kernel_rfl) | refine zaf rfl rfl ?_ | refine zae rfl rfl ?_ | refine zag ?_ | refine zar ?_ | refine zak ?_ | refine zab (fun K hK => ?_) | refine zaz ?_ | refine za3 ?_ | refine zah (show zat _ _ _ = some _ ∧ EndB _ _ from ⟨by kernel_rfl, ?_⟩))
end LoF
end Go.Proofs.YtomeaibdedaldaaGreatDoor
