/- Texts of this claim, one behind the other: LiE, LiF, LjB, VaR3, RlA, RlB, RlC, LkA, LjC, AxZ, LjD, AxW, LjE, LkB, LkC, LkD, LjA, LjF, LkE, LrA, LrB, LrC, LmA, LmC, LmD, LmB. -/
import Derived.Test.YtomeaibdedaldaaGreatDoorW4
import Derived.Test.YtomeaibdedaldaaGreatDoorW3
import Derived.Defers
set_option linter.unusedVariables false
set_option linter.unusedSimpArgs false
set_option linter.unusedSectionVars false
set_option maxRecDepth 20000
set_option maxHeartbeats 4000000
namespace Go.Proofs.YtomeaibdedaldaaGreatDoor
namespace LiE
open Go.RowKit Bv VaSpec Base MemL RegR Ax MemC PutC TzC OkS SpA SpB SpC SpD SpE SpF SpH SpI SpJ SpN SpO RfQ RfJ LaA LaB LaC LaD LaE LaF LaG LaH LiA LiB LiC
open BitsC PteSpec
structure InvT (n : Nat) (k : Kr) : Prop where
 l : InvL n k
 t : ∃ lv, TI k.cd k.cp k.sz k.m k.pf k.sh lv ∧ lv k.sh = 1 ∧ ∀ s ∈ k.ss, s.live = true → lv s.root = 2
theorem z62 {n l : Int} {p : Pm} {g : Bool} (hn : n % (VaSpec.sz l / 4096) = 0) (hp : zcb p = true) : zco (mkP n p g) l = false := by
 obtain ⟨r, w, x, u⟩ := p; revert hp; unfold zcb zco zbf mkP; cases r <;> cases w <;> cases x <;> simp [hn]
section
variable {cd cp sz f sh : Int} {xs : List (Int × Int)} {lv : Int → Int}
theorem zn0 (h : TI cd cp sz xs f sh lv) (h0 : f ≠ 0) {t i : Int} (ht : Al cd cp f t) (hsh : Al cd cp f sh) (hl : 1 ≤ lv t ∧ lv t ≤ 2) (hi : 0 ≤ i ∧ i < 512) (hn : zbf (atM sz xs t i) = false) :
 TI cd cp sz (zba sz xs t i (lnk (cd + tzI f))) (zbx f (tzI f) 1 0) sh (upL lv (cd + tzI f) (lv t - 1)) := by
 obtain ⟨a0, a1, a2, a3⟩ := zch h h0; have b1 := h.bd; have b2 := h.bp; have hnn : 0 ≤ cd + tzI f ∧ cd + tzI f < 17592186044416 := by omega
 rw [h.gm.with ht hi (zhb hnn)]; refine h.put ht.1 hi (zfq _ (zhb hnn)) a3 fun E' hE => ?_; rw [zfj hnn] at hE; refine h.e.link a0 a1 ht hl hi hsh ?_ hE; cases e : lkP (atM sz xs t i) with
 | false => rfl
 | true => rw [(za8 e).1] at hn; cases hn
theorem zx8 (addr zam : Int) (hw : 0 ≤ zam) : ∀ (l : Nat) (xs : List (Int × Int)) (f t : Int) (lv : Int → Int), TI cd cp sz xs f sh lv → Al cd cp f t → Al cd cp f sh → lv t = l → l ≤ 2 → zam ≤ (l : Int) →
 (dnN sz cd addr zam l xs f t).2.2.2 = 0 → ∃ lv', TI cd cp sz (dnN sz cd addr zam l xs f t).1 (dnN sz cd addr zam l xs f t).2.1 sh lv' ∧ lv' (dnN sz cd addr zam l xs f t).2.2.1 = zam ∧ Al cd cp (dnN sz cd addr zam l xs f t).2.1 (dnN sz cd addr zam l xs f t).2.2.1 ∧ ∀ s, Al cd cp f s → lv' s = lv s
 | 0, xs, f, t, lv, h, ht, _, hl, _, hwl, _ => ⟨lv, h, by show lv t = zam; omega, ht, fun s _ => rfl⟩
 | l + 1, xs, f, t, lv, h, ht, hsh, hl, h2, hwl, he => by
  have hi := idx_bd addr ((l + 1 : Nat) : Int); unfold dnN at he ⊢
  split
  · exact ⟨lv, h, by show lv t = zam; omega, ht, fun s _ => rfl⟩
  · rename_i c1; rw [if_neg c1] at he
    split
    · rename_i c2; rw [if_pos c2] at he; cases he
    · rename_i c2; rw [if_neg c2] at he; have hk := h.e.k t _ hi
      split
      · rename_i c3; rw [if_pos c3] at he; rcases hk with e | ⟨_, _, ⟨e, _⟩ | ⟨e1, e2, e3, e4⟩⟩
        · rw [e] at c3; cases c3
        · exact absurd e c2
        · exact zx8 addr zam hw l xs f _ lv h e4 hsh (by rw [e3, hl]; omega) (by omega) (by omega) he
      · rename_i c3; rw [if_neg c3] at he
        split
        · rename_i c4; rw [if_pos c4] at he; cases he
        · rename_i c4; rw [if_neg c4] at he; obtain ⟨a0, a1, a2, a3⟩ := zch h c4; have hn : zbf (atM sz xs t (idx addr ((l + 1 : Nat) : Int))) = false := by
           unfold zbf; rw [show (atM sz xs t (idx addr ((l + 1 : Nat) : Int))).v = false by simpa using c3]; rfl
          have hT := zn0 h c4 ht hsh (by rw [hl]; omega) hi hn
          obtain ⟨lv', r1, r2, r3, r4⟩ := zx8 addr zam hw l _ _ _ _ hT a1 (a0 _ hsh).1 (by rw [hl]; show upL lv (cd + tzI f) _ (cd + tzI f) = _; unfold upL; rw [if_pos rfl]; omega) (by omega) (by omega) he
          refine ⟨lv', r1, r2, r3, fun s hs => (r4 s (a0 s hs).1).trans ?_⟩; exact if_neg (a0 s hs).2
end
theorem zd5 {n : Nat} {k : Kr} {id a l : Int} (h : InvL n k) (he : (zal k id a l).2.2 = 0) : ((zal k id a l).1 = k.sh ∧ (zal k id a l).2.1 = 1 ∧ id = -1) ∨ (za4 k id = true ∧ id ≠ -1 ∧ (zal k id a l).1 = (zcw k id).root ∧ (zal k id a l).2.1 = 2 ∧ idx a 2 ≠ 511) := by
 unfold zal at he ⊢; by_cases c1 : 0 ≤ l ∧ l ≤ 2; rotate_left
 · rw [if_pos c1] at he; cases he
 rw [if_neg (by simpa using c1)] at he ⊢; by_cases c2 : id ≠ -1 ∧ za4 k id = false
 · rw [if_pos c2] at he; cases he
 rw [if_neg c2] at he ⊢; by_cases c3 : zhh a l = false
 · rw [if_pos c3] at he; cases he
 rw [if_neg c3] at he ⊢; by_cases c4 : id = -1
 · rw [if_pos c4] at he ⊢; by_cases c5 : idx a 2 = 511 ∧ l ≠ 2
   · rw [if_pos c5]; exact .inl ⟨rfl, rfl, c4⟩
   · rw [if_neg c5] at he; cases he
 · rw [if_neg c4] at he ⊢; by_cases c5 : idx a 2 = 511
   · rw [if_pos c5] at he; cases he
   · rw [if_neg c5]; have c6 : za4 k id = true := by
      cases e : za4 k id with
      | true => rfl
      | false => exact absurd ⟨c4, e⟩ c2
     exact .inr ⟨c6, c4, rfl, rfl, c5⟩
theorem zdp {k : Kr} {id a l : Int} (he : (zal k id a l).2.2 = 0) : zhh a l = true := by
 unfold zal at he
 split at he
 · cases he
 · split at he
   · cases he
   · split at he
     · cases he
     · rename_i c; simpa using c
theorem zk0 {a l : Int} (h : zhh a l = true) : VaSpec.base a l = a := by
 unfold zhh off at h; unfold VaSpec.base; simp only [Bool.and_eq_true, beq_iff_eq] at h; omega
theorem InvT.top {n : Nat} {k : Kr} {id a l : Int} (h : InvT n k) (he : (zal k id a l).2.2 = 0) {lv : Int → Int} (hs : lv k.sh = 1) (hr : ∀ s ∈ k.ss, s.live = true → lv s.root = 2) :
 lv (zal k id a l).1 = (zal k id a l).2.1 ∧ (2 ≤ (zal k id a l).2.1 → idx a 2 ≠ 511) := by
 rcases zd5 h.l he with ⟨e1, e2, _⟩ | ⟨e1, _, e2, e3, e4⟩
 · rw [e1, e2]; exact ⟨hs, fun hh => by omega⟩
 · obtain ⟨h0, h1, h2, h3⟩ := zdc e1; rw [e2, e3]; exact ⟨hr _ (List.mem_of_getElem? h2) h3, fun _ => e4⟩
theorem z00 {l : Int} (h : 0 ≤ l ∧ l ≤ 2) {pa : Int} (hp : pa % VaSpec.sz l = 0) : (pa / 4096) % (VaSpec.sz l / 4096) = 0 := by
 rcases (by omega : l = 0 ∨ l = 1 ∨ l = 2) with rfl | rfl | rfl
 · show (pa / 4096) % 1 = 0; omega
 · have hp : pa % 2097152 = 0 := hp; show (pa / 4096) % 512 = 0; omega
 · have hp : pa % 1073741824 = 0 := hp; show (pa / 4096) % 262144 = 0; omega
theorem zgr {n : Nat} {k : Kr} {id a pa l : Int} {p : Pm} (h : InvT n k) (hp : U pa) : InvT (n + 3) (zdh k id a pa l p).1 := by
 refine ⟨z4f h.l hp, ?_⟩; obtain ⟨lv, hT, hs, hr⟩ := h.t; unfold zdh
 split
 · exact ⟨lv, hT, hs, hr⟩
 · rename_i c0
   split
   · exact ⟨lv, hT, hs, hr⟩
   · rename_i c1
     split
     · exact ⟨lv, hT, hs, hr⟩
     · split
       · exact ⟨lv, hT, hs, hr⟩
       · rename_i c3
         split
         · exact ⟨lv, hT, hs, hr⟩
         · split
           · exact ⟨lv, hT, hs, hr⟩
           · rename_i c5; obtain ⟨w1, w2, w3, w4⟩ := zbd (id := id) (a := a) (l := l) h.l (by omega); obtain ⟨z1, z2⟩ := h.top (id := id) (a := a) (l := l) (by omega) hs hr; generalize zal k id a l = w at *; have he : (zme k w.1 w.2.1 a l).2.2.2 = 0 := by omega
             obtain ⟨lv', r1, r2, r3, r4⟩ := zx8 a l w1.1 w.2.1.toNat k.m k.pf w.1 lv hT w2 h.l.sh (by omega) (by omega) (by omega) he; have hpm := zin (p := p) (by omega); have hpn := zmf (k := k) (l := l) hp (by have := h.l.g.bd; omega) (by omega)
             have hb := zgn (n := pa / 4096) (p := p) (g := decide (id = -1)) hpn hpm; have hzz : 0 < VaSpec.sz l := by rcases VaSpec.lev w1.1 w1.2 with rfl | rfl | rfl <;> decide
             have hmod : pa % VaSpec.sz l = 0 := by
              have e : lk0 pa l = 0 := by omega
              unfold lk0 zfu at e; rw [if_neg (show ¬ VaSpec.sz l = 0 by omega)] at e
              split at e
              · rename_i c; simpa using c
              · cases e
             have hbad := z62 (g := decide (id = -1)) (z00 w1 hmod) hpm; refine ⟨lv', ?_, (r4 _ h.l.sh).trans hs, fun s hs' hl => (r4 _ (h.l.ss s hs' hl)).trans (hr s hs' hl)⟩; show TI k.cd k.cp k.sz (zba k.sz (dnN k.sz k.cd a l w.2.1.toNat k.m k.pf w.1).1 (dnN k.sz k.cd a l w.2.1.toNat k.m k.pf w.1).2.2.1 (idx a l) (mkP (pa / 4096) p (decide (id = -1)))) (dnN k.sz k.cd a l w.2.1.toNat k.m k.pf w.1).2.1 k.sh lv'; rw [r1.gm.with r3 (idx_bd a l) hb.2.1]; refine r1.put r3.1 (idx_bd a l) (zfq _ hb.2.1) r1.bf fun E' hE => ?_; rw [hb.1] at hE; exact r1.e.leaf r3 (by rw [r2]; exact w1) hb.2.2 (by rw [r2]; exact hbad) hE
structure ToP (cd cp sz f sh addr zam top : Int) (l : Nat) (xs : List (Int × Int)) (lv : Int → Int) (n : Nat) (T : List (Int × Int) × Int × (Int × Int) × Int) (lv' : Int → Int) : Prop where
 t : TI cd cp sz T.1 T.2.1 sh lv'
 a : ∀ s, Al cd cp f s → Al cd cp T.2.1 s ∧ lv' s = lv s
 n : T.1.length ≤ xs.length + 513 * n
 r : zao sz T.1 addr zam l top = T.2.2.1
 p : ∃ l' : Nat, T.2.2.1.2 = (l' : Int) ∧ l' ≤ l ∧ zam ≤ (l' : Int) ∧ Al cd cp T.2.1 T.2.2.1.1 ∧ lv' T.2.2.1.1 = (l' : Int)
section
variable {cd cp sz sh : Int}
theorem zls (addr zam top : Int) (l : Nat) (hw : 0 ≤ zam) (hwl : zam ≤ (l : Int)) (hl2 : l ≤ 2) : ∀ (n : Nat) (xs : List (Int × Int)) (f : Int) (lv : Int → Int), TI cd cp sz xs f sh lv → Al cd cp f top → Al cd cp f sh → lv top = l →
 ∃ lv', ToP cd cp sz f sh addr zam top l xs lv n (toN sz cd addr zam top l n xs f) lv'
 | 0, xs, f, lv, h, ht, _, hl => by
  obtain ⟨l', t', i1, i2, i3, i4, i5, i6, _⟩ := zci h addr zam hw l top ht hl hwl; exact ⟨lv, h, fun s hs => ⟨hs, rfl⟩, by show xs.length ≤ _; omega, rfl, l', by show (zao sz xs addr zam l top).2 = _; rw [i1], i2, i3, by show Al cd cp f (zao sz xs addr zam l top).1; rw [i1]; exact i4, by show lv (zao sz xs addr zam l top).1 = _; rw [i1]; exact i5⟩
 | n + 1, xs, f, lv, h, ht, hsh, hl => by
  obtain ⟨l', t', i1, i2, i3, i4, i5, i6, i7⟩ := zci h addr zam hw l top ht hl hwl; have hstop : ∀ e, ToP cd cp sz f sh addr zam top l xs lv (n + 1) (xs, f, (t', (l' : Int)), e) lv := fun e => ⟨h, fun s hs => ⟨hs, rfl⟩, by show xs.length ≤ _; omega, i1, l', rfl, i2, i3, i4, i5⟩
  unfold toN; rw [i1]
  split
  · exact ⟨lv, hstop 0⟩
  · rename_i c
    split
    · exact ⟨lv, hstop 8⟩
    · rename_i c4; have c1 : ¬ (l' : Int) = zam := fun e => c (.inl e); obtain ⟨m, rfl⟩ : ∃ m : Nat, l' = m + 1 := ⟨l' - 1, by omega⟩; have hlf : zas (atM sz xs t' (idx addr ((m + 1 : Nat) : Int))) = true := by
       cases e : zas (atM sz xs t' (idx addr ((m + 1 : Nat) : Int))) with
       | true => rfl
       | false => exact absurd (.inr e) c
      have hi := idx_bd addr ((m + 1 : Nat) : Int); have hbad : zco (atM sz xs t' (idx addr ((m + 1 : Nat) : Int))) ((m + 1 : Nat) : Int) = false := by
       rcases h.e.k t' _ hi with e | ⟨_, _, ⟨_, e⟩ | ⟨e, _⟩⟩
       · rw [e] at hlf; cases hlf
       · rw [i5] at e; exact e
       · rw [(za8 e).2.2] at hlf; cases hlf
      obtain ⟨a0, a1, a2, a3⟩ := zch h c4; have hT := zkt h c4 i4 hsh hi i5 (by omega) rfl hlf hbad; obtain ⟨lv', P⟩ := zls addr zam top l hw hwl hl2 n _ _ _ hT (a0 _ ht).1 (a0 _ hsh).1 ((if_neg (a0 _ ht).2).trans hl); have hsl := zxs sz xs t' (idx addr ((m + 1 : Nat) : Int)) ((m + 1 : Nat) : Int) (atM sz xs t' (idx addr ((m + 1 : Nat) : Int))) (cd + tzI f); have hPn := P.n; refine ⟨lv', P.t, fun s hs => ⟨(P.a s (a0 s hs).1).1, (P.a s (a0 s hs).1).2.trans (if_neg (a0 s hs).2)⟩, ?_, P.r, P.p⟩; exact Nat.le_trans hPn (by omega)
theorem z2f (addr zam top : Int) (l : Nat) (hw : 0 ≤ zam) (hwl : zam ≤ (l : Int)) (hl2 : l ≤ 2) : ∀ (n : Nat) (xs : List (Int × Int)) (f : Int) (lv : Int → Int), TI cd cp sz xs f sh lv → Al cd cp f top → Al cd cp f sh → lv top = l →
 (zao sz xs addr zam l top).2 ≤ zam + n → ((zao sz xs addr zam l top).2 = zam ∨ zas (atM sz xs (zao sz xs addr zam l top).1 (idx addr (zao sz xs addr zam l top).2)) = true) →
 (toN sz cd addr zam top l n xs f).2.2.2 = 0 → (toN sz cd addr zam top l n xs f).2.2.1.2 = zam
 | 0, xs, f, lv, h, ht, _, hl, hb, _, _ => by
  obtain ⟨l', t', i1, i2, i3, i4, i5, i6, _⟩ := zci h addr zam hw l top ht hl hwl; show (zao sz xs addr zam l top).2 = zam; rw [i1] at hb ⊢; show (l' : Int) = zam; have : (l' : Int) ≤ zam + (0 : Nat) := hb; omega
 | n + 1, xs, f, lv, h, ht, hsh, hl, hb, hor, he => by
  obtain ⟨l', t', i1, i2, i3, i4, i5, i6, i7⟩ := zci h addr zam hw l top ht hl hwl; rw [i1] at hb hor; unfold toN at he ⊢; rw [i1] at he ⊢; by_cases c1 : (l' : Int) = zam
  · rw [if_pos (.inl c1)]; exact c1
  · have hlf : zas (atM sz xs t' (idx addr (l' : Int))) = true := hor.resolve_left c1; obtain ⟨m, rfl⟩ : ∃ m : Nat, l' = m + 1 := ⟨l' - 1, by omega⟩; have hc : ¬ ((t', ((m + 1 : Nat) : Int)).2 = zam ∨ zas (atM sz xs (t', ((m + 1 : Nat) : Int)).1 (idx addr (t', ((m + 1 : Nat) : Int)).2)) = false) := by
     rintro (e | e)
     · exact c1 e
     · have e : zas (atM sz xs t' (idx addr ((m + 1 : Nat) : Int))) = false := e; rw [hlf] at e; cases e
    rw [if_neg hc] at he ⊢; by_cases c4 : f = 0
    · rw [if_pos c4] at he; cases he
    · rw [if_neg c4] at he ⊢; have hi := idx_bd addr ((m + 1 : Nat) : Int); have hbad : zco (atM sz xs t' (idx addr ((m + 1 : Nat) : Int))) ((m + 1 : Nat) : Int) = false := by
       rcases h.e.k t' _ hi with e | ⟨_, _, ⟨_, e⟩ | ⟨e, _⟩⟩
       · rw [e] at hlf; cases hlf
       · rw [i5] at e; exact e
       · rw [(za8 e).2.2] at hlf; cases hlf
      obtain ⟨a0, a1, a2, a3⟩ := zch h c4; have hT := zkt h c4 i4 hsh hi i5 (by omega) rfl hlf hbad; obtain ⟨s1, s2⟩ := zh2 h c4 addr zam hw i4 i5 (by omega) (by omega) hlf hbad; have hre := (i7 _ s1).trans s2; have hat := zks h c4 i4 hi (l := ((m + 1 : Nat) : Int)) (by omega) rfl hlf hbad (cd + tzI f) (idx addr (m : Int)) (idx_bd addr _); rw [if_neg (by rintro ⟨e, _⟩; exact (a0 _ i4).2 e.symm), if_pos rfl] at hat
      refine z2f addr zam top l hw hwl hl2 n _ _ _ hT (a0 _ ht).1 (a0 _ hsh).1 ((if_neg (a0 _ ht).2).trans hl) ?_ ?_ he
      · have hb : ((m + 1 : Nat) : Int) ≤ zam + ((n + 1 : Nat) : Int) := hb; show (zao sz (zfk sz xs t' (idx addr ((m + 1 : Nat) : Int)) ((m + 1 : Nat) : Int) (atM sz xs t' (idx addr ((m + 1 : Nat) : Int))) (cd + tzI f)) addr zam l top).2 ≤ zam + (n : Int); rw [hre]; show (m : Int) ≤ zam + n; omega
      · refine .inr ?_; show zas (atM sz (zfk sz xs t' (idx addr ((m + 1 : Nat) : Int)) ((m + 1 : Nat) : Int) (atM sz xs t' (idx addr ((m + 1 : Nat) : Int))) (cd + tzI f)) (zao sz (zfk sz xs t' (idx addr ((m + 1 : Nat) : Int)) ((m + 1 : Nat) : Int) (atM sz xs t' (idx addr ((m + 1 : Nat) : Int))) (cd + tzI f)) addr zam l top).1 (idx addr (zao sz (zfk sz xs t' (idx addr ((m + 1 : Nat) : Int)) ((m + 1 : Nat) : Int) (atM sz xs t' (idx addr ((m + 1 : Nat) : Int))) (cd + tzI f)) addr zam l top).2)) = true; rw [hre]; show zas (atM sz (zfk sz xs t' (idx addr ((m + 1 : Nat) : Int)) ((m + 1 : Nat) : Int) (atM sz xs t' (idx addr ((m + 1 : Nat) : Int))) (cd + tzI f)) (cd + tzI f) (idx addr (m : Int))) = true; rw [hat]; exact hlf
end
def zax (sz : Int) (xs : List (Int × Int)) (l : Int) (q : Pte) (b : Int) : List Pg := if zas q then [⟨b, q.ppn * 4096, l, q.r, q.w, q.x, q.u, q.d⟩] else if zbf q then za7 sz xs (l - 1).toNat q.ppn b else []
def inR (k : Kr) (id a l : Int) : List Pg :=
 if (zal k id a l).2.2 ≠ 0 then [] else
 zax k.sz k.m (za0 k.sz k.m a l (zal k id a l).2.1 (zal k id a l).1).2 (atM k.sz k.m (za0 k.sz k.m a l (zal k id a l).2.1 (zal k id a l).1).1 (idx a (za0 k.sz k.m a l (zal k id a l).2.1 (zal k id a l).1).2)) (VaSpec.base a (za0 k.sz k.m a l (zal k id a l).2.1 (zal k id a l).1).2)
def zdi (id n : Int) (p : Pg) : Fe := if id = -1 then ⟨true, p.va, false, 0⟩ else ⟨true, p.va, true, n⟩
def z01 (id n : Int) : Fe := if id = -1 then ⟨false, 0, false, 0⟩ else ⟨false, 0, true, n⟩
def zgv (k : Kr) (id : Int) (l : List Pg) : List Fe := if 16 < l.length then [z01 id (zcw k id).asid] else l.map (zdi id (zcw k id).asid)
theorem zjg (k : Kr) (id : Int) (l : List Pg) : (zgv k id l).length ≤ 16 := by
 unfold zgv
 split
 · simp
 · rw [List.length_map]; omega
def zdu (sz cd cp : Int) (T : List (Int × Int) × Int × (Int × Int) × Int) (a : Int) : List (Int × Int) × Int :=
 if zbf (atM sz T.1 T.2.2.1.1 (idx a T.2.2.1.2)) then bkN cd cp (frN sz T.1 (T.2.2.1.2 - 1).toNat (atM sz T.1 T.2.2.1.1 (idx a T.2.2.1.2)).ppn) (T.1, T.2.1) else (T.1, T.2.1)
def unM (k : Kr) (T : List (Int × Int) × Int × (Int × Int) × Int) (top at' a : Int) : List (Int × Int) × Int :=
 prN k.sz k.cd k.cp a at'.toNat top (zba k.sz (zdu k.sz k.cd k.cp T a).1 T.2.2.1.1 (idx a T.2.2.1.2) zP, (zdu k.sz k.cd k.cp T a).2)
def unT (k : Kr) (top at' a l : Int) : List (Int × Int) × Int × (Int × Int) × Int := toN k.sz k.cd a l top at'.toNat at'.toNat k.m k.pf
def unK (k : Kr) (id top at' a l : Int) (T : List (Int × Int) × Int × (Int × Int) × Int) : Kr := zda { k with m := (unM k T top at' a).1, pf := (unM k T top at' a).2 } (zgv k id (zax k.sz T.1 T.2.2.1.2 (atM k.sz T.1 T.2.2.1.1 (idx a T.2.2.1.2)) (VaSpec.base a T.2.2.1.2)))
def unR (k : Kr) (id a l : Int) : Kr × Int :=
 if (zal k id a l).2.2 ≠ 0 then (k, (zal k id a l).2.2)
 else if (inR k id a l).length = 0 then (k, 7)
 else if (unT k (zal k id a l).1 (zal k id a l).2.1 a l).2.2.2 ≠ 0 then (k, (unT k (zal k id a l).1 (zal k id a l).2.1 a l).2.2.2)
 else (unK k id (zal k id a l).1 (zal k id a l).2.1 a l (unT k (zal k id a l).1 (zal k id a l).2.1 a l), 0)
section
variable {cd cp sz f sh : Int} {xs : List (Int × Int)} {lv : Int → Int}
theorem z2g (cd cp : Int) : ∀ (l : List Int) (p : List (Int × Int) × Int), (bkN cd cp l p).1.length ≤ p.1.length
 | [], p => Nat.le_refl _
 | g :: l, p => Nat.le_trans (z2g cd cp l _) (zee _ _)
theorem zpx (h : TI cd cp sz xs f sh lv) (hsh : Al cd cp f sh) {t a e : Int} {l' : Nat} (ht : Al cd cp f t) (hlv : lv t = (l' : Int)) (hl2 : l' ≤ 2) (hH : l' = 2 → idx a 2 ≠ 511) :
 TI cd cp sz (zba sz (zdu sz cd cp (xs, f, (t, (l' : Int)), e) a).1 t (idx a (l' : Int)) zP) (zdu sz cd cp (xs, f, (t, (l' : Int)), e) a).2 sh lv ∧
 (∀ s, Al cd cp f s → (s = sh ∨ (l' : Int) ≤ lv s) → Al cd cp (zdu sz cd cp (xs, f, (t, (l' : Int)), e) a).2 s) ∧ (zba sz (zdu sz cd cp (xs, f, (t, (l' : Int)), e) a).1 t (idx a (l' : Int)) zP).length ≤ xs.length ∧ Srt (zdu sz cd cp (xs, f, (t, (l' : Int)), e) a).1 ∧ (zdu sz cd cp (xs, f, (t, (l' : Int)), e) a).1.length ≤ xs.length := by
 have hi := idx_bd a (l' : Int); have b1 := h.bd; have bt := ht.1; have hz : ∀ ys : List (Int × Int), zba sz ys t (idx a (l' : Int)) zP = zb3 ys (t * 512 + idx a (l' : Int)) 0 := fun ys => by
  rw [zem z17 (by omega) hi (by rw [h.bz]; omega), zpn]
 have hlen : ∀ ys : List (Int × Int), Srt ys → (zb3 ys (t * 512 + idx a (l' : Int)) 0).length ≤ ys.length := fun ys hs => by rw [zhz _ _ hs]; exact List.length_filter_le ..
 by_cases c : zbf (atM sz xs t (idx a (l' : Int))) = true
 · have hq : lkP (atM sz xs t (idx a (l' : Int))) = true := by
    rcases h.e.k t _ hi with e | ⟨_, _, ⟨e, _⟩ | ⟨e, _⟩⟩
    · rw [e] at c; cases c
    · rw [(zbw e).1] at c; cases c
    · exact e
   obtain ⟨k1, k2, k3, k4⟩ := zb5 h hi hq; obtain ⟨m, rfl⟩ : ∃ m : Nat, l' = m + 1 := ⟨l' - 1, by omega⟩; have e1 : zdu sz cd cp (xs, f, (t, ((m + 1 : Nat) : Int)), e) a = bkN cd cp (frN sz xs m (atM sz xs t (idx a ((m + 1 : Nat) : Int))).ppn) (xs, f) := by
    unfold zdu; show (if zbf (atM sz xs t (idx a ((m + 1 : Nat) : Int))) = true then bkN cd cp (frN sz xs (((m + 1 : Nat) : Int) - 1).toNat (atM sz xs t (idx a ((m + 1 : Nat) : Int))).ppn) (xs, f) else (xs, f)) = _; rw [if_pos c, show (((m + 1 : Nat) : Int) - 1).toNat = m by omega]
   rw [e1, hz]
   obtain ⟨r1, r2⟩ := z4g h ht hlv hl2 hi (fun hh => by
    have e2 : m + 1 = 2 := hh.1; have e3 := hh.2; rw [show ((m + 1 : Nat) : Int) = 2 by omega] at e3
    exact hH e2 e3) hq
   have hbl := z2g cd cp (frN sz xs m (atM sz xs t (idx a ((m + 1 : Nat) : Int))).ppn) (xs, f); have hbs := (zgp cd cp sz h.bp (frN sz xs m (atM sz xs t (idx a ((m + 1 : Nat) : Int))).ppn) (xs, f) h.s h.bf).s; exact ⟨r1, fun s hs hk => r2 s hs (by omega), Nat.le_trans (hlen _ hbs) hbl, hbs, hbl⟩
 · have e1 : zdu sz cd cp (xs, f, (t, (l' : Int)), e) a = (xs, f) := by
    unfold zdu; exact if_neg c
   rw [e1, hz]; refine ⟨h.put bt hi ⟨by omega, by omega⟩ h.bf fun E' hE => h.e.sub fun s j hj => ?_, fun s hs _ => hs, hlen _ h.s, h.s, Nat.le_refl _⟩; rw [hE s j hj, znr]
   split
   · exact .inl rfl
   · exact .inr rfl
end
theorem z2h {n : Nat} {k : Kr} {id a l : Int} (h : InvT n k) : InvT (n + 1100) (unR k id a l).1 := by
 have hm : InvT (n + 1100) k := ⟨{ h.l with ml := by have := h.l.ml; omega, fl := by have := h.l.fl; omega }, h.t⟩
 unfold unR
 split
 · exact hm
 · rename_i c0
   split
   · exact hm
   · split
     · exact hm
     · rename_i c5; obtain ⟨lv, hT, hs, hr⟩ := h.t; obtain ⟨w1, w2, w3, w4⟩ := zbd (id := id) (a := a) (l := l) h.l (by omega); obtain ⟨z1, z2⟩ := h.top (a := a) (id := id) (l := l) (by omega) hs hr; generalize zal k id a l = w at *; obtain ⟨lv', P⟩ := zls a l w.1 w.2.1.toNat w1.1 (by omega) (by omega) w.2.1.toNat k.m k.pf lv hT w2 h.l.sh (by omega); show InvT (n + 1100) (unK k id w.1 w.2.1 a l (unT k w.1 w.2.1 a l)); have P : ToP k.cd k.cp k.sz k.pf k.sh a l w.1 w.2.1.toNat k.m lv w.2.1.toNat (unT k w.1 w.2.1 a l) lv' := P; generalize unT k w.1 w.2.1 a l = T at *; obtain ⟨xs, f, ⟨t, lt⟩, e⟩ := T; obtain ⟨l', e1, e2, e3, e4, e5⟩ := P.p; have e1 : lt = (l' : Int) := e1; subst e1; have e4 : Al k.cd k.cp f t := e4; have e5 : lv' t = (l' : Int) := e5; have hPt : TI k.cd k.cp k.sz xs f k.sh lv' := P.t; have ash := P.a _ h.l.sh; have atop := P.a _ w2; obtain ⟨c1, c2, c3, _, _⟩ := zpx (a := a) (e := e) hPt ash.1 e4 e5 (by omega) (fun hh => z2 (by omega)); have hlt : lv' w.1 = w.2.1 := atop.2.trans z1; have atop2 := c2 _ atop.1 (.inr (by rw [hlt]; omega))
       have ash2 := c2 _ ash.1 (.inl rfl); have Q := zgq a c1 w.2.1.toNat w.1 (by omega) atop2 (by rw [hlt]; omega) (fun hh => z2 (by omega))
       have hroot : ∀ s ∈ k.ss, s.live = true → lv' s.root = 2 ∧ Al k.cd k.cp (unM k (xs, f, (t, (l' : Int)), e) w.1 w.2.1 a).2 s.root := fun s hs' hl => by
        have a1 := P.a _ (h.l.ss s hs' hl); have a2 : lv' s.root = 2 := a1.2.trans (hr s hs' hl); have a3 := c2 _ a1.1 (.inr (by rw [a2]; omega))
        exact ⟨a2, Q.a _ a3 (.inr (by rw [a2]; omega))⟩
       have hTI : TI k.cd k.cp k.sz (unM k (xs, f, (t, (l' : Int)), e) w.1 w.2.1 a).1 (unM k (xs, f, (t, (l' : Int)), e) w.1 w.2.1 a).2 k.sh lv' := Q.t; have hPn : xs.length ≤ k.m.length + 513 * w.2.1.toNat := P.n; have hml := h.l.ml; have hfl := h.l.fl; have hlen : (unM k (xs, f, (t, (l' : Int)), e) w.1 w.2.1 a).1.length ≤ n + 1100 := by
        have : (unM k (xs, f, (t, (l' : Int)), e) w.1 w.2.1 a).1.length ≤ (zba k.sz (zdu k.sz k.cd k.cp (xs, f, (t, (l' : Int)), e) a).1 t (idx a (l' : Int)) zP).length := Q.n; omega
       refine ⟨{ g := hTI.gm, cs := h.l.cs, pb := h.l.pb, pm := h.l.pm, sh := Q.a _ ash2 (.inl rfl), ts := h.l.ts, ml := hlen, fl := ?_, sl := h.l.sl, ss := fun s hs' hl => (hroot s hs' hl).2 }, lv', hTI, ash.2.trans hs, fun s hs' hl => (hroot s hs' hl).1⟩; have := zjg k id (zax k.sz xs (l' : Int) (atM k.sz xs t (idx a (l' : Int))) (VaSpec.base a (l' : Int))); show (k.fs ++ zgv k id (zax k.sz xs (l' : Int) (atM k.sz xs t (idx a (l' : Int))) (VaSpec.base a (l' : Int)))).length ≤ n + 1100; rw [List.length_append]; omega
end LiE
namespace LiF
open Go.RowKit Bv VaSpec MemL RegR Ax MemC PutC OkS SpA SpB SpD SpE SpF SpG SpH SpJ SpN RfQ RfJ RfK LaA LaB LaC LaD LaE LaF LaG LaH LiA LiB LiC LiE
theorem z02 {n : Nat} {k : Kr} (h : Inv n k) (g : Inv2 k) : InvT n k := by
 have hl := z60 h g; refine ⟨hl, fun s => if s = k.sh then 1 else 2, ⟨h.cd, h.cp, h.sz, h.pf, h.m, fun c hc => ?_, ?_⟩, if_pos rfl, fun s hs hv => ?_⟩
 · obtain ⟨s, hs, hv, rfl⟩ := g.cl c hc; have hr := (h.ss s hs hv).1; have hsh := h.sh; have := h.cd; have hu := (h.mc _ hc).2.2.2; exact ⟨⟨by show k.cd * 512 ≤ s.root * 512 + 511; omega, by show s.root * 512 + 511 < (k.cd + k.cp) * 512; omega⟩, hu, by show 33 + 1024 * k.sh ≠ 0; omega⟩
 · have key : ∀ s i, (0 ≤ i ∧ i < 512) → atM k.sz k.m s i = zP ∨ (i = 511 ∧ s ≠ k.sh ∧ Al k.cd k.cp k.pf s ∧ atM k.sz k.m s i = gP k.sh) := fun s i hi => by
    unfold atM zbs
    split
    · rcases znq (xs := k.m) (k := (s * 4096 + i * 8) / 8) with e | ⟨c, hc, e1, e2⟩
      · rw [e]; exact .inl znr
      · obtain ⟨p, hp, hv, rfl⟩ := g.cl c hc; have e1 : p.root * 512 + 511 = (s * 4096 + i * 8) / 8 := e1; have hsh := h.sh; have hcd := h.cd; have hcp := h.cp; have e3 : p.root = s := by omega
        rw [e2, show (33 + 1024 * k.sh : Int) = 33 + 1024 * k.sh from rfl, zkz (by omega)]; exact .inr ⟨by omega, by rw [← e3, g.sh]; exact (g.lv p hp hv).1, by rw [← e3]; exact hl.ss p hp hv, rfl⟩
    · exact .inl znr
   refine ⟨fun s i hi => ?_, fun s i t j hi hj h1 h2 h3 h4 => ?_, fun s i hi h1 h2 => ?_⟩
   · rcases key s i hi with e | ⟨_, a, b, c⟩
     · exact .inl e
     · rw [c]; refine .inr ⟨b, by dsimp only; rw [if_neg a]; omega, .inr ⟨rfl, by dsimp only; rw [if_neg a]; omega, ?_, hl.sh⟩⟩
       show (if k.sh = k.sh then (1 : Int) else 2) = (if s = k.sh then (1 : Int) else 2) - 1; rw [if_pos rfl, if_neg a]; rfl
   · rcases key s i hi with e | ⟨_, _, _, c⟩
     · rw [e] at h1; cases h1
     · rw [c] at h4; exact absurd rfl h4
   · rcases key s i hi with e | ⟨a, b, _, c⟩
     · rw [e] at h1; cases h1
     · exact ⟨a, if_neg b⟩
 · have := (g.lv s hs hv).1; rw [← g.sh] at this; exact if_neg this
theorem zx9 {a b c : Int} {n : Nat} (h : zf8 a b c n = true) : InvT 2 (bgK a b c n) := by
 have h0 := zim h; have g0 := zjf h; have h1 := zcs h0; have g1 := zcm h0 g0; exact z02 (zcs h1) (zcm h1 g1)
theorem t2 : InvT 2 c2 := by rw [← bg2]; exact zx9 (by decide)
def rr : Pm := ⟨true, false, false, false⟩
def kf (k : Kr) (fs : List Fe) : Kr := { k with fs := fs }
def dA : Kr := kr2 [(2560, 7169), (3071, 4129), (3583, 4129), (3584, 8193), (4101, 1027)] 224 0 3 [⟨5, 1, true⟩, ⟨6, 2, true⟩]
end LiF
namespace LjB
open Go.RowKit Bv VaSpec Base MemL RegR Ax MemC PutC MemC3 OkS SpA SpB LaA IterE LaC LaD LiC
open PteSpec
def vI (n : Int) : Value := .int .u64 n
def vsI (l : List Int) : List Value := l.map vI
theorem zya : ∀ l : List Int, (vsI l).all (·.oneCell') = true
 | [] => rfl
 | p :: l => by rw [show vsI (p :: l) = vI p :: vsI l from rfl, List.all_cons, zya l]; rfl
theorem zyb {α : Type} (E : α → List Int) : ∀ (ys : List α) (acc : Nat × List Value), ys.foldl (fun p x => (p.1 + (E x).length, p.2 ++ vsI (E x))) acc = (acc.1 + (ys.flatMap E).length, acc.2 ++ vsI (ys.flatMap E))
 | [], acc => by simp [vsI]
 | y :: ys, acc => by
  rw [List.foldl_cons, zyb E ys, List.flatMap_cons, List.length_append]; simp only [vsI, List.map_append, Nat.add_assoc, List.append_assoc]
theorem ztf {α : Type} (E : α → List Int) (M : Nat) (h : ∀ x, (E x).length ≤ M) : ∀ ys : List α, (ys.flatMap E).length ≤ ys.length * M
 | [] => by simp
 | y :: ys => by
  rw [List.flatMap_cons, List.length_append, List.length_cons, Nat.succ_mul]; have := h y; have := ztf E M h ys; omega
theorem zn1 {sz : Int} {xs : List (Int × Int)} {f : Int} (E : Nat → List Int) (h : ∀ i, nzB sz xs f i = false → E i = []) : ∀ l : List Nat, (l.filter (nzB sz xs f)).flatMap E = l.flatMap E
 | [] => rfl
 | i :: l => by
  cases e : nzB sz xs f i with
  | true => rw [List.filter_cons, e]; simp only [if_true, List.flatMap_cons]; rw [zn1 E h l]
  | false => rw [List.filter_cons, e]; simp only [Bool.false_eq_true, if_false]; rw [List.flatMap_cons, h i e, zn1 E h l]; rfl
def zod (rec : Int → List Int) (p : Pte) (l : Int) : List Int := if za2 p l then rec p.ppn else []
def ts1 : List (Nat × Nat) := [(3, 3), (5, 5), (7, 7)]
def ns1 : List Nat := [3, 5, 7, 1001, 1002]
def bs1 (sz : Int) (xs : List (Int × Int)) (top lv : Int) (p : Nat × List Value) : List (Nat × Hs) := [(3, .live (.box [cu sz, .s xs.length 2 (fl xs)])), (5, .live (.box [ci lv])), (7, .live (.box [.o 1000])), (1000, .live (.row 25 1 p.1 p.2)), (1001, .live (.box [cu sz, .s xs.length 2 (fl xs)])), (1002, .live (.box [cu top]))]
theorem zmg (sz : Int) (xs : List (Int × Int)) (top lv : Int) (rec : Int → List Int) (ht : 0 ≤ top ∧ top < 17592186044416) (h0 : 0 ≤ lv) (h2 : lv ≤ 2) (hs : Srt xs) (hu : Uw xs) (hrec : ∀ t, (rec t).length ≤ 1000)
 (hIH : 1 ≤ lv → ∀ t, (0 ≤ t ∧ t < 17592186044416) → Ok 77 [zbm sz xs, iu t, ii (lv - 1)] (.m (.c (.s (rec t).length 1 (vsI (rec t))))))
 (L : List Int) (hL : L = top :: (List.range 512).flatMap fun (i : Nat) => zod rec (atM sz xs top i) lv) :
 Ok 77 [zbm sz xs, iu top, ii lv] (.m (.c (.s L.length 1 (vsI L)))) := by
 refine zf6 29 Tryz.func77 rfl rfl rfl ?_ GG.to; intro W A hG; refine zcz (fun K hK => ?_)
 repeat (first | (refine zai rfl ?_; first | refine zaj ?_) | (refine hK _ ?_; clear hK K) | refine zac rfl ?_)
 refine zcz (fun K hK => ?_)
 repeat (first | (refine zai rfl ?_; first | refine zaj ?_) | (refine hK _ ?_; clear hK K) | refine zac rfl ?_)
 refine zxf ?_; refine zcz (fun K hK => ?_)
 repeat (first | (refine zai rfl ?_; first | refine zaj ?_ | refine gdr (zff (n1 := 1001) (n2 := 1002) rfl rfl rfl rfl rfl rfl) ?_) | (refine hK _ ?_; clear hK K) | refine zac rfl ?_)
 refine zkk ?_
 refine zkl (zaw [(3, .m (.c (.p 3 0))), (5, .m (.c (.p 5 0))), (7, .m (.c (.p 7 0))), (14, .m (.c (.cl 166 [1001, 1002])))] [(3, .live (.box [cu sz, .s xs.length 2 (fl xs)])), (5, .live (.box [ci lv])), (7, .live (.box [.o 11])), (11, .live (.row 25 1 1 [.int .u64 top])), (1001, .live (.box [cu sz, .s xs.length 2 (fl xs)])), (1002, .live (.box [cu top]))]
  ⟨rfl, rfl, rfl, rfl, trivial⟩ ⟨rfl, rfl, rfl, rfl, rfl, rfl, trivial⟩ rfl) ?_
 refine zkl (zd1 (b := 11) (b' := 1000) rfl rfl) ?_; intro a w ⟨τ0, s⟩
 have s' := zrg (ns := ns1) s (by
  intro b hb; simp only [ns1, List.mem_cons, List.not_mem_nil, or_false] at hb; rcases hb with rfl | rfl | rfl | rfl | rfl
  all_goals exact ⟨_, rfl⟩)
 refine z2a (β := Nat × List Value) ht hs hu rfl ts1 ns1 1001 1002 (bs1 sz xs top lv)
  (fun p x => St.of [(3, .m (.c (.p 3 0))), (5, .m (.c (.p 5 0))), (7, .m (.c (.p 7 0))), (9, .m (.c (.p 9 0)))] (bs1 sz xs top lv p ++ [(9, .live (.box (atM sz xs top x.1).ce))]))
  (fun p x => (p.1 + (zod rec (atM sz xs top x.1) lv).length, p.2 ++ vsI (zod rec (atM sz xs top x.1) lv))) (1, [.int .u64 top]) s' (show 14 < 29 by decide) rfl
  (by
   intro p hp; simp only [ts1, List.mem_cons, List.not_mem_nil, or_false] at hp; rcases hp with rfl | rfl | rfl
   all_goals exact ⟨rfl, by simp [ns1], by show _ < 29; decide⟩)
  (by
   intro b hb; simp only [ns1, List.mem_cons, List.not_mem_nil, or_false] at hb; rcases hb with rfl | rfl | rfl | rfl | rfl
   all_goals exact ⟨_, rfl⟩)
  ⟨rfl, rfl, rfl, rfl, rfl, rfl, trivial⟩ (by simp [ns1]) (by simp [ns1]) (fun _ => rfl) (fun _ => rfl) (fun _ => rfl) (fun _ _ => ⟨rfl, rfl, rfl, rfl, rfl, rfl, trivial⟩) (fun _ => ⟨rfl, rfl, rfl, rfl, rfl, rfl, trivial⟩)
  (by
   intro τ τ' a a' W o o' x h h'; have := zxg (c := 7) (b := 1000) h h' (by simp [ns1]) rfl rfl rfl rfl
   exact Prod.ext this.1 this.2)
  ?_ (fun p => p.1 ≤ 1 + 512 * 1000) ?_ ?_ ?_
 · intro W l hk o x
   repeat (first | (refine zai rfl ?_; first | refine zaj ?_) | refine zac rfl ?_)
   exact zaw _ _ ⟨rfl, rfl, rfl, rfl, trivial⟩ ⟨rfl, rfl, rfl, rfl, rfl, rfl, rfl, trivial⟩ rfl
 · intro pre hpre; rw [zyb (fun x : Ie sz xs top => zod rec (atM sz xs top x.1) lv)]; have := ztf (fun x : Ie sz xs top => zod rec (atM sz xs top x.1) lv) 1000 (fun x => by unfold zod; split <;> first | exact hrec _ | simp) pre
   have h3 : pre.length * 1000 ≤ 512 * 1000 := Nat.mul_le_mul_right _ (by omega); show 1 + _ ≤ 1 + 512 * 1000; omega
 · intro W' l hk o x ho; have hx := x.2.1; have hU := ze5 hu sz top (x.1 : Int); have hp := zdo (xs := xs) sz top (x.1 : Int); have ho : o.1 ≤ 1 + 512 * 1000 := ho; generalize hq : atM sz xs top (x.1 : Int) = q at hU hp ⊢; have hmv : ∀ (S' : St) (n : Nat) (vs : List Value), EqT S' [] → EqB S' [(3, .live (.box [cu sz, .s xs.length 2 (fl xs)])), (5, .live (.box [ci lv])), (7, .live (.box [.o 27])), (27, .live (.row 25 1 n vs)), (1001, .live (.box [cu sz, .s xs.length 2 (fl xs)])), (1002, .live (.box [cu top]))] → Sub (cxR (Cx.of 29 W A GG hG) W' l τ0 ns1 hk) S' (St.of (ptT []) (bs1 sz xs top lv (n, vs))) := fun S' n vs h1 h2 =>
    Sub.trans (zaw [] _ h1 h2 rfl) (Sub.trans (zd1 (b := 27) (b' := 1000) rfl rfl) (zaw [] _ trivial ⟨rfl, rfl, rfl, rfl, rfl, rfl, trivial⟩ rfl))
   cases hlk : za2 q lv with
   | false =>
    have hE : zod rec q lv = [] := by unfold zod; rw [hlk]; rfl
    rw [hE]
    repeat (first | (refine zai rfl ?_; first | refine zaj ?_ | refine gdr (zaa rfl rfl rfl (hlk ▸ zi7 q hU lv h0 h2) rfl) ?_) | (refine hK _ ?_; clear hK K) | refine zac rfl ?_ | refine zae rfl rfl ?_ | refine zag ?_ | refine zak ?_ | refine zab (fun K hK => ?_))
    rw [show vsI [] = [] from rfl, List.append_nil]; exact zaw _ _ trivial ⟨rfl, rfl, rfl, rfl, rfl, rfl, trivial⟩ rfl
   | true =>
    have hlv : 1 ≤ lv := by
     rcases (by omega : lv = 0 ∨ 1 ≤ lv) with rfl | h
     · unfold za2 zco at hlk; cases hk2 : zbf q with
       | false => rw [hk2] at hlk; cases hlk
       | true => rw [hk2] at hlk; simp at hlk
     · exact h
    have hE : zod rec q lv = rec q.ppn := by unfold zod; rw [hlk]; rfl
    rw [hE]; have hi := hIH hlv q.ppn hp; have hl := hrec q.ppn; have ha := zya (rec q.ppn)
    repeat (first | (refine zai rfl ?_; first | refine zaj ?_ | refine gdr (zaa rfl rfl rfl (hlk ▸ zi7 q hU lv h0 h2) rfl) ?_ | refine gdr (zaa rfl rfl rfl (hi) rfl) ?_ | refine gdr (zbg rfl rfl rfl rfl rfl rfl rfl rfl rfl rfl rfl rfl ha (by omega)) ?_) | (refine hK _ ?_; clear hK K) | refine zac rfl ?_ | refine zaq (by kernel_rfl) (by kernel_rfl) rfl ?_ | refine zaf rfl rfl ?_ | refine zag ?_ | refine zab (fun K hK => ?_))
    exact hmv _ _ _ trivial ⟨rfl, rfl, rfl, rfl, rfl, rfl, trivial⟩
 · intro D ys W hD hys hI hK; have hfold : ys.foldl (fun (p : Nat × List Value) (x : Ie sz xs top) => (p.1 + (zod rec (atM sz xs top x.1) lv).length, p.2 ++ vsI (zod rec (atM sz xs top x.1) lv))) (1, [.int .u64 top]) = (L.length, vsI L) := by
    rw [zyb (fun x : Ie sz xs top => zod rec (atM sz xs top x.1) lv)]; have e : top :: ys.flatMap (fun x : Ie sz xs top => zod rec (atM sz xs top x.1) lv) = L := by
     rw [hL, ← zn1 (sz := sz) (xs := xs) (f := top) _ (fun i hi => ?_), ← hys, List.flatMap_map]; have : zbs sz xs (top * 4096 + (i : Int) * 8) = 0 := by unfold nzB at hi; simpa using hi
     unfold zod atM; rw [this, LaD.znr]
     rfl
    rw [← e]; show (1 + _, [vI top] ++ _) = (_, vsI (top :: _)); rw [List.length_cons, Nat.add_comm]; rfl
   rw [hfold] at hI; obtain ⟨τ1, s1⟩ := hI; have s2 : SimT (Cx.of 29 _ A GG hG) (St.of (ptT ts1) (bs1 sz xs top lv (L.length, vsI L))) τ1 a W := ⟨s1.size, s1.nodef, s1.bel, s1.tm, s1.hp, s1.own, s1.sep, s1.one, fun p hp => by cases hp⟩; refine zma (t := 6) rfl (by decide) rfl s2 (Nat.le_trans s.bel.size hD) hK (fun hk hD => ?_)
   repeat (first | (refine zai rfl ?_; first | refine zaj ?_) | (refine hK _ ?_; clear hK K) | refine zac rfl ?_ | refine zab (fun K hK => ?_))
   exact zah ⟨.inr rfl, _, rfl, rfl⟩
section
variable (sz : Int) (xs : List (Int × Int)) (hs : Srt xs) (hu : Uw xs)
include hs hu
theorem z03 (t : Int) : frN sz xs 0 t = t :: (List.range 512).flatMap fun (i : Nat) => zod (fun _ => []) (atM sz xs t i) 0 := by
 have : ((List.range 512).flatMap fun (i : Nat) => zod (fun _ => []) (atM sz xs t i) 0) = [] := by
  rw [List.flatMap_eq_nil_iff]; intro i _; unfold zod
  split <;> rfl
 rw [this]; rfl
theorem ztg (t : Int) (ht : 0 ≤ t ∧ t < 17592186044416) : Ok 77 [zbm sz xs, iu t, ii 0] (.m (.c (.s (frN sz xs 0 t).length 1 (vsI (frN sz xs 0 t))))) :=
 zmg sz xs t 0 (fun _ => []) ht (by omega) (by omega) hs hu (fun _ => by simp) (fun h => by omega) _ (z03 sz xs hs hu t)
theorem z04 (t : Int) (ht : 0 ≤ t ∧ t < 17592186044416) : Ok 77 [zbm sz xs, iu t, ii 1] (.m (.c (.s (frN sz xs 1 t).length 1 (vsI (frN sz xs 1 t))))) :=
 zmg sz xs t 1 (frN sz xs 0) ht (by omega) (by omega) hs hu (fun _ => by simp [frN]) (fun _ t h1 => ztg sz xs hs hu t h1) _ rfl
end
end LjB
namespace VaR
open Go.RowKit Bv VaSpec Base
theorem zyc (n : Int) (w : World) (a0 : 0 ≤ n) (a1 : n < 18446744073709551616) : Calls Tryz.prog 85 #[.int .u64 n] w fun e w' => e = .returned (.int .u64 (ofv n)) ∧ Below w.heap.size w w' := by
 obtain ⟨x, hx⟩ := zm8 (a := n % 134217728 * 4096) (by omega) (by omega); have hs := zsx x; have Hv := Lib.hid (show B (zm7 x 39) = ofv n by rw [hs, ← hx, Int.emod_eq_of_lt (by omega) (by omega)]; rfl)
 have Hx := Lib.hid hx; clear hx hs
 go_enter Tryz.func85, Tryz.ntmps85
 go_wp2_with fail
 rw [Hx.out]; refine (RefS.z0t x 39 _ (by omega) (by omega)).mono ?_; rintro e w' ⟨rfl, bel⟩; rw [Hv.out]
 go_wp2
 go_ret
 exact ⟨rfl, bel⟩
end VaR
namespace RlA
open Go.RowKit Bv VaSpec Base MemL RegR Ax MemC MemC3 OkS SpA SpB SpC SpD SpH SpI SpJ SpN RfC LaA LaB LaC LaD LaE
open BitsC PteSpec
def pv (p : Pte) : Value := .agg #[.bool p.v, .bool p.r, .bool p.w, .bool p.x, .bool p.u, .bool p.g, .bool p.a, .bool p.d, .int .u64 p.rsw, .int .u64 p.ppn, .int .u64 p.high]
theorem zth (q : Pte) : Ok 153 [.ag q.ce] (.m (ib (zas q))) :=
 zbb #[pv q] (.bool (zas q)) fun W _ => (PteR.zky q.v q.r q.w q.x q.u q.g q.a q.d q.rsw q.ppn q.high W).mono fun e w' h => h
theorem zti (q : Pte) : Ok 39 [.ag q.ce] (.m (.ag [cb q.r, cb q.w, cb q.x, cb q.u])) :=
 zbb #[pv q] (.agg #[.bool q.r, .bool q.w, .bool q.x, .bool q.u]) fun W _ => (PteR.zrx q.v q.r q.w q.x q.u q.g q.a q.d q.rsw q.ppn q.high W).mono fun e w' h => h
theorem z05 (l : Int) (h0 : 0 ≤ l) (h2 : l ≤ 2) : Ok 18 [ii l] (.m (iu (VaSpec.sz l))) :=
 zbb #[.int .i64 l] (.int .u64 (VaSpec.sz l)) fun W _ => (VaR.zhd l W h0 h2).mono fun e w' ⟨he, hq⟩ => ⟨he, Q.below hq⟩
theorem z4n (a : Int) (ha : U a) : Ok 28 [iu a] (.m (iu (num a))) :=
 zbb #[.int .u64 a] (.int .u64 (num a)) fun W _ => (VaR.zu5 a W ha.1 ha.2).mono fun e w' ⟨he, hq⟩ => ⟨he, Q.below hq⟩
theorem z63 (a : Int) (ha : U a) : Ok 85 [iu a] (.m (iu (ofv a))) :=
 zbb #[.int .u64 a] (.int .u64 (ofv a)) fun W _ => (VaR.zyc a W ha.1 ha.2).mono fun e w' h => h
theorem zr4 (sz : Int) (m : List (Int × Int)) (f i : Int) (hf : 0 ≤ f ∧ f < 17592186044416) (hi : 0 ≤ i ∧ i < 512) (hs : Srt m) (hu : Uw m) (hl : m.length ≤ 1000000) : Ok 66 [zbm sz m, iu f, ii i] (.m (.ag (atM sz m f i).ce)) := by
 have h1 := ztd sz m (4096 * f + 8 * i) ⟨by omega, by omega⟩ hs hl; have h2 := zxz (zbs sz m (4096 * f + 8 * i)) (zf5 hu sz _); rw [show atM sz m f i = zay (zbs sz m (4096 * f + 8 * i)) by unfold atM; rw [show f * 4096 + i * 8 = 4096 * f + 8 * i by omega]]
 refine zad 16 Tryz.func66 rfl rfl rfl rfl ?_ GG.to; intro W A hG
 repeat (first | (refine zai rfl ?_; first | refine zaj ?_ | refine gdr (zaa rfl rfl rfl (h1) (by kernel_rfl)) ?_ | refine gdr (zaa rfl rfl rfl (h2) (by kernel_rfl)) ?_) | (refine hK _ ?_; clear hK K) | refine zac rfl ?_ | exact zah (show zat _ _ _ = some _ by kernel_rfl) | refine zab (fun K hK => ?_))
theorem zpy (sz : Int) (xs : List (Int × Int)) (addr zam : Int) (ha : U addr) (hw : 0 ≤ zam) (hs : Srt xs) (hu : Uw xs) (hn : xs.length ≤ 1000000) : ∀ (l : Nat) (t : Int), l ≤ 2 → (0 ≤ t ∧ t < 17592186044416) →
 Ok 88 [zbm sz xs, iu t, ii l, iu addr, ii zam] (.m (.ag (zi2 sz xs addr (zao sz xs addr zam l t))))
 | 0, t, hl, ht => by
  have hi := idx_bd addr ((0 : Nat) : Int); have h1 := zrz addr ((0 : Nat) : Int) ha (by omega) (by omega); have h2 := zr4 sz xs t (idx addr ((0 : Nat) : Int)) ht hi hs hu hn; rw [show zi2 sz xs addr (zao sz xs addr zam 0 t) = zbq t ((0 : Nat) : Int) (atM sz xs t (idx addr ((0 : Nat) : Int))) from rfl]; generalize atM sz xs t (idx addr ((0 : Nat) : Int)) = q at *; generalize idx addr ((0 : Nat) : Int) = ix at *; refine zad 38 Tryz.func88 rfl rfl rfl rfl ?_ GG.to; intro W A hG
  repeat (first | (refine zai rfl ?_; first | refine zaj ?_ | refine gdr (zaa rfl rfl rfl (h1) (by kernel_rfl)) ?_ | refine gdr (zaa rfl rfl rfl (h2) (by kernel_rfl)) ?_) | (refine hK _ ?_; clear hK K) | refine zac rfl ?_ | refine zaq (by kernel_rfl) (by kernel_rfl) rfl ?_ | exact zah (show zat _ _ _ = some _ by kernel_rfl) | refine zae rfl rfl ?_ | refine zak ?_ | refine zab (fun K hK => ?_))
 | l + 1, t, hl, ht => by
  have hi := idx_bd addr ((l + 1 : Nat) : Int); have h1 := zrz addr ((l + 1 : Nat) : Int) ha (by omega) (by omega); have h2 := zr4 sz xs t (idx addr ((l + 1 : Nat) : Int)) ht hi hs hu hn; have hA := ze5 hu sz t (idx addr ((l + 1 : Nat) : Int)); have hp := zdo (xs := xs) sz t (idx addr ((l + 1 : Nat) : Int)); have h3 := zpv _ hA ((l + 1 : Nat) : Int) (by omega) (by omega); have IH := zpy sz xs addr zam ha hw hs hu hn l _ (by omega) hp; by_cases hlt : zam < ((l + 1 : Nat) : Int)
  · cases hlk : za2 (atM sz xs t (idx addr ((l + 1 : Nat) : Int))) ((l + 1 : Nat) : Int) with
    | true =>
     rw [zbk hlt hlk]; rw [hlk] at h3; generalize zao sz xs addr zam l (atM sz xs t (idx addr ((l + 1 : Nat) : Int))).ppn = rr at *; generalize atM sz xs t (idx addr ((l + 1 : Nat) : Int)) = q at *; generalize idx addr ((l + 1 : Nat) : Int) = ix at *; have IH : Ok 88 [zbm sz xs, iu q.ppn, ii (((l + 1 : Nat) : Int) - 1), iu addr, ii zam] (.m (.ag (zi2 sz xs addr rr))) := by
      rw [show (((l + 1 : Nat) : Int) - 1) = (l : Int) by omega]; exact IH
     refine zad 38 Tryz.func88 rfl rfl rfl rfl ?_ GG.to; intro W A hG
     repeat (first | (refine zai rfl ?_; first | refine zaj ?_ | refine gdr (zaa rfl rfl rfl (h1) (by kernel_rfl)) ?_ | refine gdr (zaa rfl rfl rfl (h2) (by kernel_rfl)) ?_ | refine gdr (zaa rfl rfl rfl (h3) (by kernel_rfl)) ?_ | refine gdr (zaa rfl rfl rfl (IH) (by kernel_rfl)) ?_) | (refine hK _ ?_; clear hK K) | refine zac rfl ?_ | refine zaq (by kernel_rfl) (by kernel_rfl) rfl ?_ | exact zah (show zat _ _ _ = some _ by kernel_rfl) | refine zaf rfl rfl ?_ | refine zab (fun K hK => ?_))
    | false =>
     rw [zbh (fun _ => hlk) hw]; rw [hlk] at h3; rw [show zi2 sz xs addr (t, ((l + 1 : Nat) : Int)) = zbq t ((l + 1 : Nat) : Int) (atM sz xs t (idx addr ((l + 1 : Nat) : Int))) from rfl]; clear IH; generalize atM sz xs t (idx addr ((l + 1 : Nat) : Int)) = q at *; generalize idx addr ((l + 1 : Nat) : Int) = ix at *; refine zad 38 Tryz.func88 rfl rfl rfl rfl ?_ GG.to; intro W A hG
     repeat (first | (refine zai rfl ?_; first | refine zaj ?_ | refine gdr (zaa rfl rfl rfl (h1) (by kernel_rfl)) ?_ | refine gdr (zaa rfl rfl rfl (h2) (by kernel_rfl)) ?_ | refine gdr (zaa rfl rfl rfl (h3) (by kernel_rfl)) ?_) | (refine hK _ ?_; clear hK K) | refine zac rfl ?_ | refine zaq (by kernel_rfl) (by kernel_rfl) rfl ?_ | exact zah (show zat _ _ _ = some _ by kernel_rfl) | refine zae rfl rfl ?_ | refine zak ?_ | refine zab (fun K hK => ?_))
  · rw [zbh (fun hh => absurd hh hlt) hw]; rw [show zi2 sz xs addr (t, ((l + 1 : Nat) : Int)) = zbq t ((l + 1 : Nat) : Int) (atM sz xs t (idx addr ((l + 1 : Nat) : Int))) from rfl]; clear IH; generalize atM sz xs t (idx addr ((l + 1 : Nat) : Int)) = q at *; generalize idx addr ((l + 1 : Nat) : Int) = ix at *; refine zad 38 Tryz.func88 rfl rfl rfl rfl ?_ GG.to; intro W A hG
    repeat (first | (refine zai rfl ?_; first | refine zaj ?_ | refine gdr (zaa rfl rfl rfl (h1) (by kernel_rfl)) ?_ | refine gdr (zaa rfl rfl rfl (h2) (by kernel_rfl)) ?_) | (refine hK _ ?_; clear hK K) | refine zac rfl ?_ | refine zaq (by kernel_rfl) (by kernel_rfl) rfl ?_ | exact zah (show zat _ _ _ = some _ by kernel_rfl) | refine zae rfl rfl ?_ | refine zak ?_ | refine zab (fun K hK => ?_))
end RlA
namespace RlB
open Go.RowKit Bv VaSpec Base MemL RegR Ax MemC PutC MemC3 OkS SpA SpB SpD SpH SpI SpN RfC LaA LaB LaC LaD LaE RlA
open PteSpec
def z8o (sz : Int) (xs : List (Int × Int)) (top lv base : Int) (i n : Nat) (vs : List Value) : St := St.of [(1, .m (iu top)), (2, .m (ii lv)), (3, .m (iu base)), (4, .m (.c (.p 4 0))), (8, .m (.c (.v (.slice none 0 0)))), (9, .m (.c (.o 1000))), (10, .m (ii i))] [(4, .live (.box [cu sz, .s xs.length 2 (fl xs)])), (1000, .live (.row 60 8 n vs))]
theorem zyd {α : Type} (E : Nat → List α) (i : Nat) : (List.range (i + 1)).flatMap E = (List.range i).flatMap E ++ E i := by
 rw [List.range_succ, List.flatMap_append]; simp
theorem zmh (sz : Int) (xs : List (Int × Int)) (top base lv : Int) (rec : Int → Int → List Pg) (ht : 0 ≤ top ∧ top < 17592186044416) (hb : U base) (h0 : 0 ≤ lv) (h2 : lv ≤ 2) (hs : Srt xs) (hu : Uw xs) (hn : xs.length ≤ 1000000) (hrec : ∀ t a, (rec t a).length ≤ 262144)
 (hIH : 1 ≤ lv → ∀ t a, (0 ≤ t ∧ t < 17592186044416) → U a → Ok 154 [zbm sz xs, iu t, ii (lv - 1), iu a] (.m (.c (.s (rec t a).length 8 (flP (rec t a))))))
 (L : List Pg) (hL : L = (List.range 512).flatMap fun (i : Nat) => ze6 rec (atM sz xs top i) lv (adr base i lv)) :
 Ok 154 [zbm sz xs, iu top, ii lv, iu base] (.m (.c (.s L.length 8 (flP L)))) := by
 have hz := zxh lv h0 h2; obtain ⟨N, hN⟩ : ∃ N, N = L.length := ⟨_, rfl⟩; obtain ⟨XS, hXS⟩ : ∃ XS, XS = flP L := ⟨_, rfl⟩; rw [← hN, ← hXS]; obtain ⟨E, hE0⟩ : ∃ E : Nat → List Pg, E = fun (i : Nat) => ze6 rec (atM sz xs top i) lv (adr base i lv) := ⟨_, rfl⟩; rw [← hE0] at hL; have hEl : ∀ i, (E i).length ≤ 262144 := fun i => by rw [hE0]; exact zxj hrec _ _ _
 refine zad 58 Tryz.func154 rfl rfl rfl rfl ?_ GG.to; intro W A hG
 repeat (first | (refine zai rfl ?_; first | refine zaj ?_) | (refine hK _ ?_; clear hK K) | refine zac rfl ?_ | refine zag ?_ | refine zab (fun K hK => ?_))
 refine za1 (α := Nat × Nat × List Value) (fun q => q.1 ≤ 512 ∧ q.2.1 = ((List.range q.1).flatMap E).length ∧ q.2.2 = flP ((List.range q.1).flatMap E) ∧ q.2.1 ≤ q.1 * 262144) (fun q => z8o sz xs top lv base q.1 q.2.1 q.2.2) (fun q => 512 - q.1) (0, 0, []) ⟨by show 0 ≤ 512; omega, rfl, rfl, by show 0 ≤ 0 * 262144; omega⟩ (Sub.trans (zg7 9 1000 60 8 rfl rfl) (sbq _ _)) ?_
 rintro ⟨i, n, vs⟩ ⟨y1, y2, y3, y4⟩; have g1 : i ≤ 512 := y1; have g2 : n = ((List.range i).flatMap E).length := y2; have g3 : vs = flP ((List.range i).flatMap E) := y3; have g4 : n ≤ i * 262144 := y4; show Aw _ _ _ _ (z8o sz xs top lv base i n vs); unfold z8o; by_cases hlt : i < 512
 · have h1 := zr4 sz xs top i ht ⟨by omega, by omega⟩ hs hu hn; have h3 := z05 lv h0 h2; have hU := ze5 hu sz top (i : Int); have hp := zdo (xs := xs) sz top (i : Int); have hA := z3q base i lv; have hNu := z6p hA; have hEi : E i = ze6 rec (atM sz xs top i) lv (adr base i lv) := by rw [hE0]
   have hn1 : n + (E i).length = ((List.range (i + 1)).flatMap E).length := by rw [zyd, List.length_append, g2]
   have hv1 : vs ++ flP (E i) = flP ((List.range (i + 1)).flatMap E) := by rw [zyd, zrj, g3]
   have hn2 : n + (E i).length ≤ (i + 1) * 262144 := by have := hEl i; rw [Nat.succ_mul]; omega
   have h4 := zx0 _ hU lv h0 h2; have h5 := zth (atM sz xs top (i : Int)); have h6 := zti (atM sz xs top (i : Int)); have h7 := z4n _ hA; have h8 := z63 _ hNu; clear g2 g3 y2 y3 hL hE0 hEl; generalize atM sz xs top (i : Int) = q at *; cases hbad : zco q lv with
   | true =>
    have e : E i = [] := by rw [hEi]; unfold ze6; rw [hbad]; rfl
    rw [hbad] at h4; rw [e, show flP [] = [] from rfl, List.append_nil] at hv1; rw [e, List.length_nil, Nat.add_zero] at hn1 hn2
    repeat (first | (refine zai rfl ?_; first | refine zaj ?_ | refine gdr (zaa rfl rfl rfl (h1) (by kernel_rfl)) ?_ | refine gdr (zaa rfl rfl rfl (h3) (by kernel_rfl)) ?_ | refine gdr (zaa rfl rfl rfl (h4) (by kernel_rfl)) ?_) | (refine hK _ ?_; clear hK K) | (rename_i K1 hK1; refine hK1 _ ?_; clear hK hK1; clear K) | refine zac rfl ?_ | refine zaf rfl rfl ?_ | refine zag ?_ | refine zar ?_ | refine zak ?_ | refine zab (fun K hK => ?_))
    exact ⟨(i + 1, n, vs), ⟨by show i + 1 ≤ 512; omega, hn1, hv1, hn2⟩, by show 512 - (i + 1) < 512 - i; omega, sbq _ _⟩
   | false =>
    rw [hbad] at h4; cases hleaf : zas q with
    | true =>
     rw [hleaf] at h5; have e : E i = [⟨ofv (num (adr base i lv)), 4096 * q.ppn, lv, q.r, q.w, q.x, q.u, q.d⟩] := by rw [hEi]; unfold ze6 zxi; rw [hbad, hleaf, Int.mul_comm]; rfl
     rw [e, znf] at hv1; rw [e, List.length_singleton] at hn1 hn2
     repeat (first | (refine zai rfl ?_; first | refine zaj ?_ | refine gdr (zaa rfl rfl rfl (h1) (by kernel_rfl)) ?_ | refine gdr (zaa rfl rfl rfl (h3) (by kernel_rfl)) ?_ | refine gdr (zaa rfl rfl rfl (h4) (by kernel_rfl)) ?_ | refine gdr (zaa rfl rfl rfl (h5) (by kernel_rfl)) ?_ | refine gdr (zaa rfl rfl rfl (h6) (by kernel_rfl)) ?_ | refine gdr (zaa rfl rfl rfl (h7) (by kernel_rfl)) ?_ | refine gdr (zaa rfl rfl rfl (h8) (by kernel_rfl)) ?_) | (refine hK _ ?_; clear hK K) | refine zac rfl ?_ | refine zaq (by kernel_rfl) (by kernel_rfl) rfl ?_ | refine zaf rfl rfl ?_ | refine zae rfl rfl ?_ | refine zag ?_ | refine zak ?_ | refine zab (fun K hK => ?_))
     refine zai rfl ?_; refine zi1 (zbg rfl rfl rfl rfl rfl rfl rfl rfl rfl rfl rfl rfl rfl (by omega)) (by kernel_rfl) ?_
     repeat (first | (refine zai rfl ?_; first | refine zaj ?_) | (refine hK _ ?_; clear hK K) | refine zac rfl ?_)
     exact ⟨(i + 1, n + 1, vs ++ (⟨ofv (num (adr base i lv)), 4096 * q.ppn, lv, q.r, q.w, q.x, q.u, q.d⟩ : Pg).vs), ⟨by show i + 1 ≤ 512; omega, hn1, hv1, hn2⟩, by show 512 - (i + 1) < 512 - i; omega, Sub.trans (sbq [(1, .m (iu top)), (2, .m (ii lv)), (3, .m (iu base)), (4, .m (.c (.p 4 0))), (8, .m (.c (.v (.slice none 0 0)))), (9, .m (.c (.o 47))), (10, .m (ii ((i + 1 : Nat) : Int)))] [(4, .live (.box [cu sz, .s xs.length 2 (fl xs)])), (47, .live (.row 60 8 (n + 1) (vs ++ (⟨ofv (num (adr base i lv)), 4096 * q.ppn, lv, q.r, q.w, q.x, q.u, q.d⟩ : Pg).vs)))]) (Sub.trans (zd1 (b := 47) (b' := 1000) rfl rfl) (sbq _ _))⟩
    | false =>
     rw [hleaf] at h5; have hlv : 1 ≤ lv := by
      rcases (by omega : lv = 0 ∨ 1 ≤ lv) with rfl | h
      · rw [zpj hbad] at hleaf; cases hleaf
      · exact h
     have e : E i = rec q.ppn (adr base i lv) := by rw [hEi]; unfold ze6; rw [hbad, hleaf]; rfl
     rw [e] at hn1 hn2 hv1; have hi := hIH hlv q.ppn (adr base i lv) hp hA; have hl := hrec q.ppn (adr base i lv); have ha := zrk (rec q.ppn (adr base i lv)); generalize rec q.ppn (adr base i lv) = ys at *
     repeat (first | (refine zai rfl ?_; first | refine zaj ?_ | refine gdr (zaa rfl rfl rfl (h1) (by kernel_rfl)) ?_ | refine gdr (zaa rfl rfl rfl (h3) (by kernel_rfl)) ?_ | refine gdr (zaa rfl rfl rfl (h4) (by kernel_rfl)) ?_ | refine gdr (zaa rfl rfl rfl (h5) (by kernel_rfl)) ?_ | refine gdr (zaa rfl rfl rfl (hi) (by kernel_rfl)) ?_ | refine gdr (zbg rfl rfl rfl rfl rfl rfl rfl rfl rfl rfl rfl rfl ha (by omega)) ?_) | (refine hK _ ?_; clear hK K) | refine zac rfl ?_ | refine zaf rfl rfl ?_ | refine zae rfl rfl ?_ | refine zag ?_ | refine zak ?_ | refine zab (fun K hK => ?_))
     exact ⟨(i + 1, n + ys.length, vs ++ flP ys), ⟨by show i + 1 ≤ 512; omega, hn1, hv1, hn2⟩, by show 512 - (i + 1) < 512 - i; omega, Sub.trans (sbq [(1, .m (iu top)), (2, .m (ii lv)), (3, .m (iu base)), (4, .m (.c (.p 4 0))), (8, .m (.c (.v (.slice none 0 0)))), (9, .m (.c (.o 56))), (10, .m (ii ((i + 1 : Nat) : Int)))] [(4, .live (.box [cu sz, .s xs.length 2 (fl xs)])), (56, .live (.row 60 8 (n + ys.length) (vs ++ flP ys)))]) (Sub.trans (zd1 (b := 56) (b' := 1000) rfl rfl) (sbq _ _))⟩
 · have e : i = 512 := by omega
   subst e; rw [← hL] at g2 g3; obtain rfl : N = n := by rw [hN, g2]
   obtain rfl : XS = vs := by rw [hXS, g3]
   repeat (first | (refine zai rfl ?_; first | refine zaj ?_) | (refine hK _ ?_; clear hK K) | (rename_i K1 hK1; refine hK1 _ ?_; clear hK hK1; clear K) | refine zac rfl ?_ | exact zah (show zat _ _ _ = some _ by kernel_rfl) | refine zae rfl rfl ?_ | refine zar ?_ | refine zab (fun K hK => ?_))
section
variable (sz : Int) (xs : List (Int × Int)) (hs : Srt xs) (hu : Uw xs) (hn : xs.length ≤ 1000000)
include hs hu hn
theorem ztj (t b : Int) (ht : 0 ≤ t ∧ t < 17592186044416) (hb : U b) : Ok 154 [zbm sz xs, iu t, ii 0, iu b] (.m (.c (.s (za7 sz xs 0 t b).length 8 (flP (za7 sz xs 0 t b))))) :=
 zmh sz xs t b 0 (fun _ _ => []) ht hb (by omega) (by omega) hs hu hn (fun _ _ => by simp) (fun h => by omega) _ rfl
theorem z06 (t b : Int) (ht : 0 ≤ t ∧ t < 17592186044416) (hb : U b) : Ok 154 [zbm sz xs, iu t, ii 1, iu b] (.m (.c (.s (za7 sz xs 1 t b).length 8 (flP (za7 sz xs 1 t b))))) :=
 zmh sz xs t b 1 (za7 sz xs 0) ht hb (by omega) (by omega) hs hu hn (fun t a => Nat.le_trans (zgl sz xs t a) (by omega)) (fun _ t a h1 h2 => ztj sz xs hs hu hn t a h1 h2) _ rfl
end
theorem zmi {l : List Pg} {k : Nat} {p : Pg} (h : l[k]? = some p) : ((flP l).drop (k * 8)).take 8 = p.vs := zfc Pg.vs 8 (fun _ => rfl) l _ p h
end RlB
namespace RlC
open Go.RowKit Bv MemL RegR Ax
end RlC
namespace LkA
open Go.RowKit Bv MemL RegR Ax
end LkA
namespace LjC
open Go.RowKit Bv VaSpec Base MemL RegR Ax MemC PutC MemC3 TzC OkS SpA SpB SpC SpF SpH SpI SpJ LaA LaB LaC LaD LaE LaG LiA LiB LiC LiE
open BitsC PteSpec
def leH (sz cd cp a t l g b : Int) (q : Pte) (xs : List (Int × Int)) (f : Int) (i : Nat) (n : Int) : St := St.of [(3, .m (iu a)), (6, .m (.c (.p 6 0))), (8, .m (.c (.p 8 0))), (9, .m (.c (.p 9 0))), (10, .m (ii 0)), (11, .m (.c (.p 11 0))), (12, .m (.c (.p 12 0))), (13, .m (iu g)), (15, .m (.c (.p 15 0))), (16, .m (iu b)), (37, .m (iu i))] [(6, .live (.box (zbq t l q))), (8, .live (.box [cu 0, .v (.slice none 0 0)])), (9, .live (.box [cu 0, ci 0, cu 0])), (11, .live (.box [cu sz, .s xs.length 2 (fl xs)])), (12, .live (.box [cu cd, ci cp, cu f])), (15, .live (.box [cb q.v, cb q.r, cb q.w, cb q.x, cb q.u, cb q.g, cb q.a, cb q.d, cu q.rsw, cu n, cu q.high]))]
theorem ztk {a i : Int} (l : Int) (hl : l = 1 ∨ l = 2) (ha : U a) (hi : 0 ≤ i ∧ i < 512) : idx (VaSpec.base a l + i * VaSpec.sz (l - 1)) (l - 1) = i ∧ U (VaSpec.base a l + i * VaSpec.sz (l - 1)) ∧ U (VaSpec.base a l) ∧ VaSpec.base a l + 512 * VaSpec.sz (l - 1) ≤ 18446744073709551616 := by
 obtain ⟨a0, a1⟩ := ha; unfold VaSpec.base idx; rcases hl with rfl | rfl
 · simp only [show VaSpec.sz 1 = 2097152 from rfl, show VaSpec.sz (1 - 1) = 4096 from rfl]; exact ⟨by omega, ⟨by omega, by omega⟩, ⟨by omega, by omega⟩, by omega⟩
 · simp only [show VaSpec.sz 2 = 1073741824 from rfl, show VaSpec.sz (2 - 1) = 2097152 from rfl]; exact ⟨by omega, ⟨by omega, by omega⟩, ⟨by omega, by omega⟩, by omega⟩
theorem z4o (cd cp sz : Int) (xs : List (Int × Int)) (t l : Int) (q : Pte) (a : Int) (hb : 0 ≤ cd ∧ cd ≤ 268435456) (hm : 0 ≤ cp ∧ cp ≤ 64) : Ok 138 [zbm sz xs, .ag [cu cd, ci cp, cu 0], .ag (zbq t l q), iu a] (.tu [zbm sz xs, .ag [cu cd, ci cp, cu 0], ii 8]) := by
 have hf := zij sz xs cd cp hb hm; refine zad 76 Tryz.func138 rfl rfl rfl rfl ?_ GG.to; intro W A hG
 repeat (first | (refine zai rfl ?_; first | refine zaj ?_ | refine gdr (zaa rfl rfl rfl (hf) (by kernel_rfl)) ?_) | (refine hK _ ?_; clear hK K) | refine zac rfl ?_ | refine zaq (by kernel_rfl) (by kernel_rfl) rfl ?_ | exact zah (show zat _ _ _ = some _ by kernel_rfl) | refine zaf rfl rfl ?_ | refine zab (fun K hK => ?_))
theorem z07 {cd cp sz f sh : Int} {xs : List (Int × Int)} {lv : Int → Int} (h : TI cd cp sz xs f sh lv) (h0 : f ≠ 0) (hn : xs.length ≤ 100000) {t a : Int} {q : Pte} (ha : U a) (ht : Al cd cp f t) (hq : q = atM sz xs t (idx a 1)) (h1 : zas q = true) (h2 : zco q 1 = false) :
 Ok 138 [zbm sz xs, .ag [cu cd, ci cp, cu f], .ag (zbq t 1 q), iu a] (.tu [zbm sz (zfk sz xs t (idx a 1) 1 q (cd + tzI f)), .ag [cu cd, ci cp, cu (zbx f (tzI f) 1 0)], ii 0]) := by
 obtain ⟨a0, a1, a2, a3⟩ := zch h h0; have b1 := h.bd; have b2 := h.bp; have bz := h.bz; have bt := ht.1; have hqU : q.U := by rw [hq]; exact ze5 h.u _ _ _
 have hqm : zhr q = true := by rw [hq]; exact zg0 h.u
 have hf := zgh sz xs cd cp f (by omega) (by omega) h.uf h0 h.s (by omega); rw [h.gm.wipe h0] at hf; have hg : 0 ≤ cd + tzI f ∧ cd + tzI f < 1099511627776 := by omega
 have hgz : (cd + tzI f) * 4096 + 4096 ≤ sz := by omega
 have hi := idx_bd a 1; have hba := zhs a 1 ha (by omega) (by omega); have hsz : Ok 51 [ii 0] (.m (iu 4096)) := zf7 0 (by omega) (by omega); have hsz1 : Ok 51 [ii 1] (.m (iu 2097152)) := zf7 1 (by omega) (by omega); have hln := zrs (cd + tzI f); have hlU := zhb (n := cd + tzI f) (by omega); have hRs := zio (g := cd + tzI f) (v := fun j => PteC.zc4 (prt q 1 j)) h.s; have hRl := znu xs (cd + tzI f) (fun j => PteC.zc4 (prt q 1 j)); have hRm := fun i => znv (xs := xs) (g := cd + tzI f) (v := fun j => PteC.zc4 (prt q 1 j)) i; have hxu := h.u; have hpU : ∀ i : Int, (0 ≤ i ∧ i < 512) → (prt q 1 i).U := fun i hi => (zd4 hqU hqm (by omega) h1 h2 hi).1; have hRu : ∀ i, i ≤ 512 → Uw (zgo xs (cd + tzI f) (fun j => PteC.zc4 (prt q 1 j)) i) := fun i hi c hc => by
  rcases hRm i c hc with hc | ⟨j, hj, rfl, _⟩
  · exact hxu c hc
  · exact ⟨⟨by show 0 ≤ (cd + tzI f) * 512 + (j : Int); omega, by show (cd + tzI f) * 512 + (j : Int) < 18446744073709551616; omega⟩, zfq _ (hpU j (by omega))⟩
 have hfin := zd9 sz (zgo xs (cd + tzI f) (fun j => PteC.zc4 (prt q 1 j)) 512) t 1 q a (lnk (cd + tzI f)) ha hlU (by omega) (by omega) (by omega) (hRs 512) (hRu 512 (by omega)) (by have := hRl 512; omega)
 have hpb : 0 ≤ q.ppn ∧ q.ppn < 17592186044416 := by rw [hq]; exact zdo ..
 refine zad 76 Tryz.func138 rfl rfl rfl rfl ?_ GG.to; intro W A hG; unfold zfk; generalize hgen : cd + tzI f = g at *; generalize zbx f (tzI f) 1 0 = f2 at *
 repeat (first | (refine zai rfl ?_; first | refine zaj ?_ | refine gdr (zaa rfl rfl rfl (hf) (by kernel_rfl)) ?_ | refine gdr (zaa rfl rfl rfl (hba) (by kernel_rfl)) ?_) | (refine hK _ ?_; clear hK K) | refine zac rfl ?_ | refine zae rfl rfl ?_ | refine zag ?_ | refine zak ?_ | refine zab (fun K hK => ?_))
 refine za1 (α := Nat × Int) (fun p => p.1 ≤ 512) (fun p => leH sz cd cp a t 1 g (VaSpec.base a 1) q (zgo xs g (fun j => PteC.zc4 (prt q 1 j)) p.1) f2 p.1 p.2) (fun p => 512 - p.1) (0, q.ppn) (by show 0 ≤ 512; omega) (sbq _ _) ?_
 rintro ⟨i, n⟩ x1; have g1 : i ≤ 512 := x1; show Aw _ _ _ _ (leH sz cd cp a t 1 g (VaSpec.base a 1) q (zgo xs g (fun j => PteC.zc4 (prt q 1 j)) i) f2 i n); unfold leH; by_cases hlt : i < 512
 · obtain ⟨e1, e2, e3, e4⟩ := ztk (a := a) (i := (i : Int)) 1 (by omega) ha (by omega); have e1 : idx (VaSpec.base a 1 + (i : Int) * 4096) (1 - 1) = (i : Int) := e1; have e2 : U (VaSpec.base a 1 + (i : Int) * 4096) := e2; have e4 : VaSpec.base a 1 + 512 * 4096 ≤ 18446744073709551616 := e4; have epp : q.ppn + (i : Int) * 4096 / 4096 = q.ppn + (i : Int) * 1 := by omega
   have hwt := zd9 sz (zgo xs g (fun j => PteC.zc4 (prt q 1 j)) i) g (1 - 1) ⟨false, false, false, false, false, false, false, false, 0, 0, 0⟩ (VaSpec.base a 1 + (i : Int) * 4096) (prt q 1 i) e2 (hpU i (by omega)) (by omega) (by omega) hg (hRs i) (hRu i g1) (by have := hRl i; omega)
   rw [e1, zem (hpU i (by omega)) hg.1 (by omega) (by omega)] at hwt; have hrw : prt q 1 (i : Int) = ⟨q.v, q.r, q.w, q.x, q.u, q.g, q.a, q.d, q.rsw, q.ppn + (i : Int) * 4096 / 4096, q.high⟩ := by rw [epp]; rfl
   have hwt : Ok 49 [zbm sz (zgo xs g (fun j => PteC.zc4 (prt q 1 j)) i), .ag (zbq g (1 - 1) ⟨false, false, false, false, false, false, false, false, 0, 0, 0⟩), iu (VaSpec.base a 1 + (i : Int) * 4096), .ag (⟨q.v, q.r, q.w, q.x, q.u, q.g, q.a, q.d, q.rsw, q.ppn + (i : Int) * 4096 / 4096, q.high⟩ : Pte).ce] (.m (zbm sz (zgo xs g (fun j => PteC.zc4 (prt q 1 j)) (i + 1)))) := by
    rw [← hrw]; exact hwt
   obtain ⟨ys1, hys⟩ : ∃ ys1, ys1 = zgo xs g (fun j => PteC.zc4 (prt q 1 j)) (i + 1) := ⟨_, rfl⟩; rw [← hys] at hwt; generalize zgo xs g (fun j => PteC.zc4 (prt q 1 j)) i = ys at *; have hb0 := e3.1; generalize VaSpec.base a 1 = b at *
   repeat (first | (refine zai rfl ?_; first | refine zaj ?_ | refine gdr (zaa rfl rfl rfl (hsz) (by kernel_rfl)) ?_ | refine gdr (zaa rfl rfl rfl (hwt) (by kernel_rfl)) ?_) | (refine hK _ ?_; clear hK K) | refine zac rfl ?_ | refine zaq (by kernel_rfl) (by kernel_rfl) rfl ?_ | refine zaf rfl rfl ?_ | refine zag ?_ | refine zak ?_ | refine zab (fun K hK => ?_))
   refine ⟨(i + 1, q.ppn + (i : Int) * 4096 / 4096), by show i + 1 ≤ 512; omega, by show 512 - (i + 1) < 512 - i; omega, ?_⟩
   show Sub _ _ (leH sz cd cp a t 1 g b q (zgo xs g (fun j => PteC.zc4 (prt q 1 j)) (i + 1)) f2 (i + 1) (q.ppn + (i : Int) * 4096 / 4096)); rw [← hys]; exact sbq _ _
 · obtain rfl : i = 512 := by omega
   generalize zgo xs g (fun j => PteC.zc4 (prt q 1 j)) 512 = ys at *
   repeat (first | (refine zai rfl ?_; first | refine zaj ?_ | refine gdr (zaa rfl rfl rfl (hln) (by kernel_rfl)) ?_ | refine gdr (zaa rfl rfl rfl (hfin) (by kernel_rfl)) ?_) | (refine hK _ ?_; clear hK K) | (rename_i K1 hK1; refine hK1 _ ?_; clear hK hK1; clear K) | refine zac rfl ?_ | refine zaq (by kernel_rfl) (by kernel_rfl) rfl ?_ | exact zah (show zat _ _ _ = some _ by kernel_rfl) | refine zae rfl rfl ?_ | refine zar ?_ | refine zab (fun K hK => ?_))
theorem z08 {cd cp sz f sh : Int} {xs : List (Int × Int)} {lv : Int → Int} (h : TI cd cp sz xs f sh lv) (h0 : f ≠ 0) (hn : xs.length ≤ 100000) {t a : Int} {q : Pte} (ha : U a) (ht : Al cd cp f t) (hq : q = atM sz xs t (idx a 2)) (h1 : zas q = true) (h2 : zco q 2 = false) :
 Ok 138 [zbm sz xs, .ag [cu cd, ci cp, cu f], .ag (zbq t 2 q), iu a] (.tu [zbm sz (zfk sz xs t (idx a 2) 2 q (cd + tzI f)), .ag [cu cd, ci cp, cu (zbx f (tzI f) 1 0)], ii 0]) := by
 obtain ⟨a0, a1, a2, a3⟩ := zch h h0; have b1 := h.bd; have b2 := h.bp; have bz := h.bz; have bt := ht.1; have hqU : q.U := by rw [hq]; exact ze5 h.u _ _ _
 have hqm : zhr q = true := by rw [hq]; exact zg0 h.u
 have hf := zgh sz xs cd cp f (by omega) (by omega) h.uf h0 h.s (by omega); rw [h.gm.wipe h0] at hf; have hg : 0 ≤ cd + tzI f ∧ cd + tzI f < 1099511627776 := by omega
 have hgz : (cd + tzI f) * 4096 + 4096 ≤ sz := by omega
 have hi := idx_bd a 2; have hba := zhs a 2 ha (by omega) (by omega); have hsz : Ok 51 [ii 0] (.m (iu 4096)) := zf7 0 (by omega) (by omega); have hsz1 : Ok 51 [ii 1] (.m (iu 2097152)) := zf7 1 (by omega) (by omega); have hln := zrs (cd + tzI f); have hlU := zhb (n := cd + tzI f) (by omega); have hRs := zio (g := cd + tzI f) (v := fun j => PteC.zc4 (prt q 2 j)) h.s; have hRl := znu xs (cd + tzI f) (fun j => PteC.zc4 (prt q 2 j)); have hRm := fun i => znv (xs := xs) (g := cd + tzI f) (v := fun j => PteC.zc4 (prt q 2 j)) i; have hxu := h.u; have hpU : ∀ i : Int, (0 ≤ i ∧ i < 512) → (prt q 2 i).U := fun i hi => (zd4 hqU hqm (by omega) h1 h2 hi).1; have hRu : ∀ i, i ≤ 512 → Uw (zgo xs (cd + tzI f) (fun j => PteC.zc4 (prt q 2 j)) i) := fun i hi c hc => by
  rcases hRm i c hc with hc | ⟨j, hj, rfl, _⟩
  · exact hxu c hc
  · exact ⟨⟨by show 0 ≤ (cd + tzI f) * 512 + (j : Int); omega, by show (cd + tzI f) * 512 + (j : Int) < 18446744073709551616; omega⟩, zfq _ (hpU j (by omega))⟩
 have hfin := zd9 sz (zgo xs (cd + tzI f) (fun j => PteC.zc4 (prt q 2 j)) 512) t 2 q a (lnk (cd + tzI f)) ha hlU (by omega) (by omega) (by omega) (hRs 512) (hRu 512 (by omega)) (by have := hRl 512; omega)
 have hpb : 0 ≤ q.ppn ∧ q.ppn < 17592186044416 := by rw [hq]; exact zdo ..
 refine zad 76 Tryz.func138 rfl rfl rfl rfl ?_ GG.to; intro W A hG; unfold zfk; generalize hgen : cd + tzI f = g at *; generalize zbx f (tzI f) 1 0 = f2 at *
 repeat (first | (refine zai rfl ?_; first | refine zaj ?_ | refine gdr (zaa rfl rfl rfl (hf) (by kernel_rfl)) ?_ | refine gdr (zaa rfl rfl rfl (hba) (by kernel_rfl)) ?_) | (refine hK _ ?_; clear hK K) | refine zac rfl ?_ | refine zae rfl rfl ?_ | refine zag ?_ | refine zak ?_ | refine zab (fun K hK => ?_))
 refine za1 (α := Nat × Int) (fun p => p.1 ≤ 512) (fun p => leH sz cd cp a t 2 g (VaSpec.base a 2) q (zgo xs g (fun j => PteC.zc4 (prt q 2 j)) p.1) f2 p.1 p.2) (fun p => 512 - p.1) (0, q.ppn) (by show 0 ≤ 512; omega) (sbq _ _) ?_
 rintro ⟨i, n⟩ x1; have g1 : i ≤ 512 := x1; show Aw _ _ _ _ (leH sz cd cp a t 2 g (VaSpec.base a 2) q (zgo xs g (fun j => PteC.zc4 (prt q 2 j)) i) f2 i n); unfold leH; by_cases hlt : i < 512
 · obtain ⟨e1, e2, e3, e4⟩ := ztk (a := a) (i := (i : Int)) 2 (by omega) ha (by omega); have e1 : idx (VaSpec.base a 2 + (i : Int) * 2097152) (2 - 1) = (i : Int) := e1; have e2 : U (VaSpec.base a 2 + (i : Int) * 2097152) := e2; have e4 : VaSpec.base a 2 + 512 * 2097152 ≤ 18446744073709551616 := e4; have epp : q.ppn + (i : Int) * 2097152 / 4096 = q.ppn + (i : Int) * 512 := by omega
   have hwt := zd9 sz (zgo xs g (fun j => PteC.zc4 (prt q 2 j)) i) g (2 - 1) ⟨false, false, false, false, false, false, false, false, 0, 0, 0⟩ (VaSpec.base a 2 + (i : Int) * 2097152) (prt q 2 i) e2 (hpU i (by omega)) (by omega) (by omega) hg (hRs i) (hRu i g1) (by have := hRl i; omega)
   rw [e1, zem (hpU i (by omega)) hg.1 (by omega) (by omega)] at hwt; have hrw : prt q 2 (i : Int) = ⟨q.v, q.r, q.w, q.x, q.u, q.g, q.a, q.d, q.rsw, q.ppn + (i : Int) * 2097152 / 4096, q.high⟩ := by rw [epp]; rfl
   have hwt : Ok 49 [zbm sz (zgo xs g (fun j => PteC.zc4 (prt q 2 j)) i), .ag (zbq g (2 - 1) ⟨false, false, false, false, false, false, false, false, 0, 0, 0⟩), iu (VaSpec.base a 2 + (i : Int) * 2097152), .ag (⟨q.v, q.r, q.w, q.x, q.u, q.g, q.a, q.d, q.rsw, q.ppn + (i : Int) * 2097152 / 4096, q.high⟩ : Pte).ce] (.m (zbm sz (zgo xs g (fun j => PteC.zc4 (prt q 2 j)) (i + 1)))) := by
    rw [← hrw]; exact hwt
   obtain ⟨ys1, hys⟩ : ∃ ys1, ys1 = zgo xs g (fun j => PteC.zc4 (prt q 2 j)) (i + 1) := ⟨_, rfl⟩; rw [← hys] at hwt; generalize zgo xs g (fun j => PteC.zc4 (prt q 2 j)) i = ys at *; have hb0 := e3.1; generalize VaSpec.base a 2 = b at *
   repeat (first | (refine zai rfl ?_; first | refine zaj ?_ | refine gdr (zaa rfl rfl rfl (hsz1) (by kernel_rfl)) ?_ | refine gdr (zaa rfl rfl rfl (hwt) (by kernel_rfl)) ?_) | (refine hK _ ?_; clear hK K) | refine zac rfl ?_ | refine zaq (by kernel_rfl) (by kernel_rfl) rfl ?_ | refine zaf rfl rfl ?_ | refine zag ?_ | refine zak ?_ | refine zab (fun K hK => ?_))
   refine ⟨(i + 1, q.ppn + (i : Int) * 2097152 / 4096), by show i + 1 ≤ 512; omega, by show 512 - (i + 1) < 512 - i; omega, ?_⟩
   show Sub _ _ (leH sz cd cp a t 2 g b q (zgo xs g (fun j => PteC.zc4 (prt q 2 j)) (i + 1)) f2 (i + 1) (q.ppn + (i : Int) * 2097152 / 4096)); rw [← hys]; exact sbq _ _
 · obtain rfl : i = 512 := by omega
   generalize zgo xs g (fun j => PteC.zc4 (prt q 2 j)) 512 = ys at *
   repeat (first | (refine zai rfl ?_; first | refine zaj ?_ | refine gdr (zaa rfl rfl rfl (hln) (by kernel_rfl)) ?_ | refine gdr (zaa rfl rfl rfl (hfin) (by kernel_rfl)) ?_) | (refine hK _ ?_; clear hK K) | (rename_i K1 hK1; refine hK1 _ ?_; clear hK hK1; clear K) | refine zac rfl ?_ | refine zaq (by kernel_rfl) (by kernel_rfl) rfl ?_ | exact zah (show zat _ _ _ = some _ by kernel_rfl) | refine zae rfl rfl ?_ | refine zar ?_ | refine zab (fun K hK => ?_))
theorem z09 (sz cd addr zam top : Int) (lv n : Nat) (xs : List (Int × Int)) (f : Int) : toN sz cd addr zam top lv (n + 1) xs f = if (zao sz xs addr zam lv top).2 = zam ∨ zas (atM sz xs (zao sz xs addr zam lv top).1 (idx addr (zao sz xs addr zam lv top).2)) = false then (xs, f, zao sz xs addr zam lv top, 0)
 else if f = 0 then (xs, f, zao sz xs addr zam lv top, 8)
 else toN sz cd addr zam top lv n (zfk sz xs (zao sz xs addr zam lv top).1 (idx addr (zao sz xs addr zam lv top).2) (zao sz xs addr zam lv top).2 (atM sz xs (zao sz xs addr zam lv top).1 (idx addr (zao sz xs addr zam lv top).2)) (cd + tzI f)) (zbx f (tzI f) 1 0) := rfl
def toH (sz cd cp top lv addr zam : Int) (xs0 : List (Int × Int)) (f0 : Int) (xs : List (Int × Int)) (f : Int) : St := St.of [(2, .m (iu top)), (3, .m (ii lv)), (4, .m (iu addr)), (5, .m (ii zam)), (6, .m (.c (.p 6 0))), (7, .m (.c (.p 7 0))), (12, .m (.c (.p 12 0))), (13, .m (.c (.p 13 0))), (14, .m (.c (.p 14 0))), (15, .m (ii 0)), (16, .m (.c (.p 16 0))), (17, .m (.c (.p 17 0)))] [(6, .live (.box [cu sz, .s xs0.length 2 (fl xs0)])), (7, .live (.box [cu cd, ci cp, cu f0])), (12, .live (.box [cu 0, .v (.slice none 0 0)])), (13, .live (.box [cu 0, ci 0, cu 0])), (14, .live (.box (zbq 0 0 zP))), (16, .live (.box [cu sz, .s xs.length 2 (fl xs)])), (17, .live (.box [cu cd, ci cp, cu f]))]
theorem z64 {cd cp sz sh : Int} (top addr zam : Int) (l : Nat) (xs0 : List (Int × Int)) (f0 : Int) (lv0 : Int → Int) (h : TI cd cp sz xs0 f0 sh lv0) (ht : Al cd cp f0 top) (hsh : Al cd cp f0 sh) (hlt : lv0 top = l) (ha : U addr) (hl : l ≤ 2) (hw : 0 ≤ zam) (hwl : zam ≤ (l : Int)) (hn : xs0.length ≤ 90000)
 (R : List (Int × Int) × Int × (Int × Int) × Int) (hR : R = toN sz cd addr zam top l l xs0 f0) :
 Ok 74 [zbm sz xs0, .ag [cu cd, ci cp, cu f0], iu top, ii l, iu addr, ii zam]
  (.tu (if R.2.2.2 = 0 then [zbm sz R.1, .ag [cu cd, ci cp, cu R.2.1], .ag (zi2 sz R.1 addr R.2.2.1), ii 0] else [zbm sz xs0, .ag [cu cd, ci cp, cu f0], .ag (zbq 0 0 zP), ii R.2.2.2])) := by
 have hcd := h.bd; have hcp := h.bp; obtain ⟨V, hV⟩ : ∃ V, V = (if R.2.2.2 = 0 then [zbm sz R.1, .ag [cu cd, ci cp, cu R.2.1], .ag (zi2 sz R.1 addr R.2.2.1), ii 0] else [zbm sz xs0, .ag [cu cd, ci cp, cu f0], .ag (zbq 0 0 zP), ii R.2.2.2]) := ⟨_, rfl⟩; rw [← hV]; have hcl : (zcu (.tu V) && [zbm sz xs0, .ag [cu cd, ci cp, cu f0], iu top, ii l, iu addr, ii zam].all zcf) = true := by
  rw [hV]; split <;> rfl
 refine zad 60 Tryz.func74 rfl hcl rfl rfl ?_ GG.to; intro W A hG
 repeat (first | (refine zai rfl ?_; first | refine zaj ?_) | (refine hK _ ?_; clear hK K) | refine zac rfl ?_ | refine zaq (by kernel_rfl) (by kernel_rfl) rfl ?_ | refine zag ?_ | refine zab (fun K hK => ?_))
 obtain ⟨r0, r1, r2, r3, r4, r5, r6, _⟩ := zci h addr zam hw l top ht hlt hwl; refine za1 (α := Nat × List (Int × Int) × Int × (Int → Int)) (fun q => TI cd cp sz q.2.1 q.2.2.1 sh q.2.2.2 ∧ Al cd cp q.2.2.1 top ∧ Al cd cp q.2.2.1 sh ∧ q.2.2.2 top = l ∧ q.2.1.length + 513 * q.1 ≤ 100000 ∧ toN sz cd addr zam top l q.1 q.2.1 q.2.2.1 = R ∧ (zao sz q.2.1 addr zam l top).2 ≤ zam + q.1)
  (fun q => toH sz cd cp top l addr zam xs0 f0 q.2.1 q.2.2.1) (fun q => q.1) (l, xs0, f0, lv0) ⟨h, ht, hsh, hlt, by show xs0.length + 513 * l ≤ _; omega, hR.symm, by show (zao sz xs0 addr zam l top).2 ≤ zam + l; rw [r2]; show (r0 : Int) ≤ _; omega⟩ (sbq _ _) ?_
 clear r2 r3 r4 r5 r6; rintro ⟨n, xs, f, lv⟩ ⟨x1, x2, x3, x4, x5, x6, x7⟩; have g1 : TI cd cp sz xs f sh lv := x1; have g2 : Al cd cp f top := x2; have g3 : Al cd cp f sh := x3; have g4 : lv top = l := x4; have g5 : xs.length + 513 * n ≤ 100000 := x5; have g6 : toN sz cd addr zam top l n xs f = R := x6; have g7 : (zao sz xs addr zam l top).2 ≤ zam + (n : Int) := x7; clear x1 x2 x3 x4 x5 x6 x7; show Aw _ _ _ _ (toH sz cd cp top l addr zam xs0 f0 xs f); unfold toH; obtain ⟨l', t', i1, i2, i3, i4, i5, i6, i7⟩ := zci g1 addr zam hw l top g2 g4 hwl; have ub := g1.u; have bt := g2.1; have bt' := i4.1; have hr := zfd sz xs top (l : Int) addr zam ⟨by omega, by omega⟩ ha (by omega) (by omega) hw g1.s ub; rw [show za0 sz xs addr zam (l : Int) top = (t', (l' : Int)) by unfold za0; rw [Int.toNat_natCast, i1]] at hr
 rw [i1] at g7; have g7 : (l' : Int) ≤ zam + (n : Int) := g7; have hi := idx_bd addr (l' : Int); have hstop : ((l' : Int) = zam ∨ zas (atM sz xs t' (idx addr (l' : Int))) = false) → R = (xs, f, (t', (l' : Int)), 0) := fun hor => by
  rw [← g6]; cases n with
  | zero => show (xs, f, zao sz xs addr zam l top, 0) = _; rw [i1]
  | succ n => unfold toN; rw [i1, if_pos hor]
 have hgo : ¬ ((l' : Int) = zam ∨ zas (atM sz xs t' (idx addr (l' : Int))) = false) → ∃ m, n = m + 1 ∧ R = if f = 0 then (xs, f, (t', (l' : Int)), 8) else toN sz cd addr zam top l m (zfk sz xs t' (idx addr (l' : Int)) (l' : Int) (atM sz xs t' (idx addr (l' : Int))) (cd + tzI f)) (zbx f (tzI f) 1 0) := fun hor => by
  cases n with
  | zero => exact absurd (.inl (by omega)) hor
  | succ n => exact ⟨n, rfl, by rw [← g6, z09, i1, if_neg hor]⟩
 have h3 := zgj (atM sz xs t' (idx addr (l' : Int))); have hk := g1.e.k t' _ hi; obtain ⟨q, hq⟩ : ∃ q, q = atM sz xs t' (idx addr (l' : Int)) := ⟨_, rfl⟩; unfold zi2 at hr; rw [show (t', (l' : Int)).1 = t' from rfl, show (t', (l' : Int)).2 = (l' : Int) from rfl] at hr; by_cases c1 : (l' : Int) = zam
 · have e := hstop (.inl c1); subst e; have hV : V = [zbm sz xs, .ag [cu cd, ci cp, cu f], .ag (zbq t' (l' : Int) (atM sz xs t' (idx addr (l' : Int)))), ii 0] := hV; rw [← hq] at hV hr h3; subst hV
   repeat (first | (refine zai rfl ?_; first | refine zaj ?_ | refine gdr (zaa rfl rfl rfl (hr) (by kernel_rfl)) ?_) | (refine hK _ ?_; clear hK K) | refine zac rfl ?_ | refine zaq (by kernel_rfl) (by kernel_rfl) rfl ?_ | exact zah (show zat _ _ _ = some _ by kernel_rfl) | refine zaf rfl rfl ?_ | refine zag ?_ | refine zab (fun K hK => ?_))
 · cases hlf : zas (atM sz xs t' (idx addr (l' : Int))) with
   | false =>
    have e := hstop (.inr hlf); subst e; have hV : V = [zbm sz xs, .ag [cu cd, ci cp, cu f], .ag (zbq t' (l' : Int) (atM sz xs t' (idx addr (l' : Int)))), ii 0] := hV; rw [hlf] at h3; rw [← hq] at hV hr h3; subst hV
    repeat (first | (refine zai rfl ?_; first | refine zaj ?_ | refine gdr (zaa rfl rfl rfl (hr) (by kernel_rfl)) ?_ | refine gdr (zaa rfl rfl rfl (h3) (by kernel_rfl)) ?_) | (refine hK _ ?_; clear hK K) | refine zac rfl ?_ | refine zaq (by kernel_rfl) (by kernel_rfl) rfl ?_ | exact zah (show zat _ _ _ = some _ by kernel_rfl) | refine zaf rfl rfl ?_ | refine zag ?_ | refine zab (fun K hK => ?_))
   | true =>
    rw [hlf] at h3; obtain ⟨m, rfl, e⟩ := hgo (by rw [hlf]; rintro (e | e); exact c1 e; cases e)
    have hbad : zco (atM sz xs t' (idx addr (l' : Int))) (l' : Int) = false := by
     rcases hk with e | ⟨_, _, ⟨_, e⟩ | ⟨e, _⟩⟩
     · rw [e] at hlf; cases hlf
     · rw [i5] at e; exact e
     · rw [(za8 e).2.2] at hlf; cases hlf
    by_cases c4 : f = 0
    · rw [if_pos c4] at e; subst e; subst c4; have hV : V = [zbm sz xs0, .ag [cu cd, ci cp, cu f0], .ag (zbq 0 0 zP), ii 8] := hV; subst hV; have hlo := z4o cd cp sz xs t' (l' : Int) q addr ⟨by omega, by omega⟩ ⟨by omega, by omega⟩; rw [← hq] at hr h3
      repeat (first | (refine zai rfl ?_; first | refine zaj ?_ | refine gdr (zaa rfl rfl rfl (hr) (by kernel_rfl)) ?_ | refine gdr (zaa rfl rfl rfl (h3) (by kernel_rfl)) ?_ | refine gdr (zaa rfl rfl rfl (hlo) (by kernel_rfl)) ?_) | (refine hK _ ?_; clear hK K) | refine zac rfl ?_ | refine zaq (by kernel_rfl) (by kernel_rfl) rfl ?_ | exact zah (show zat _ _ _ = some _ by kernel_rfl) | refine zaf rfl rfl ?_ | refine zae rfl rfl ?_ | refine zag ?_ | refine zak ?_ | refine zab (fun K hK => ?_))
    · rw [if_neg c4] at e; obtain ⟨a0, a1, a2, a3⟩ := zch g1 c4; clear hk hgo hstop; obtain ⟨p, rfl⟩ := Nat.exists_eq_add_one_of_ne_zero (show l' ≠ 0 from fun e => c1 (by rw [e] at i3 ⊢; exact Int.le_antisymm hw i3))
      have hT := zkt g1 c4 i4 g3 hi i5 (by omega) rfl hlf hbad; obtain ⟨s1, s2⟩ := zh2 g1 c4 addr zam hw i4 i5 (by omega) (by omega) hlf hbad; have hre := (i7 _ s1).trans s2; have hsl := zxs sz xs t' (idx addr ((p + 1 : Nat) : Int)) ((p + 1 : Nat) : Int) (atM sz xs t' (idx addr ((p + 1 : Nat) : Int))) (cd + tzI f); have hlo : Ok 138 [zbm sz xs, .ag [cu cd, ci cp, cu f], .ag (zbq t' ((p + 1 : Nat) : Int) (atM sz xs t' (idx addr ((p + 1 : Nat) : Int)))), iu addr] (.tu [zbm sz (zfk sz xs t' (idx addr ((p + 1 : Nat) : Int)) ((p + 1 : Nat) : Int) (atM sz xs t' (idx addr ((p + 1 : Nat) : Int))) (cd + tzI f)), .ag [cu cd, ci cp, cu (zbx f (tzI f) 1 0)], ii 0]) := by
       rcases (by omega : p = 0 ∨ p = 1) with rfl | rfl
       · exact z07 g1 c4 (by omega) ha i4 rfl hlf hbad
       · exact z08 g1 c4 (by omega) ha i4 rfl hlf hbad
      have htop := (if_neg (a0 _ g2).2 : upL lv (cd + tzI f) (((p + 1 : Nat) : Int) - 1) top = lv top).trans g4; generalize zfk sz xs t' (idx addr ((p + 1 : Nat) : Int)) ((p + 1 : Nat) : Int) (atM sz xs t' (idx addr ((p + 1 : Nat) : Int))) (cd + tzI f) = xs2 at *; rw [← hq] at hr h3 hlo
      repeat (first | (refine zai rfl ?_; first | refine zaj ?_ | refine gdr (zaa rfl rfl rfl (hr) (by kernel_rfl)) ?_ | refine gdr (zaa rfl rfl rfl (h3) (by kernel_rfl)) ?_ | refine gdr (zaa rfl rfl rfl (hlo) (by kernel_rfl)) ?_) | (refine hK _ ?_; clear hK K) | refine zac rfl ?_ | refine zaq (by kernel_rfl) (by kernel_rfl) rfl ?_ | refine zae rfl rfl ?_ | refine zag ?_ | refine zak ?_ | refine zab (fun K hK => ?_))
      exact ⟨(m, xs2, zbx f (tzI f) 1 0, upL lv (cd + tzI f) (((p + 1 : Nat) : Int) - 1)), ⟨hT, (a0 _ g2).1, (a0 _ g3).1, htop, by show xs2.length + 513 * m ≤ 100000; omega, e.symm, by show (zao sz xs2 addr zam l top).2 ≤ zam + (m : Int); rw [hre]; show (p : Int) ≤ _; omega⟩, by show m < m + 1; omega, sbq _ _⟩
end LjC
namespace Ax
open Go.RowKit MemL RegR MemC MemC3 PutC LaA IterE BitsC OkS Go
section
variable {P : Program} {X : Cx} {S : St} {τ : Nat → Value} {a : Act} {w : World}
theorem zpz {G : World → Prop} {N : Nat} {W0 : World} {A : Nat → Prop} {hG : ∀ w, Below W0.heap.size W0 w → G w} {fn : Func} {m : Cm} {D : Nat} {W : World} (hres : zex N fn.results.toList = true) (hcl : zcf m = true) (hkb : Kept (Cx.of N W0 A G hG).K (Cx.of N W0 A G hG).W0 W) (hlt : D < W.heap.size) (hDW : W0.heap.size ≤ D) (hK : W.heap[D]? = some (.deferred (some [])))
 {S' : St} {τ' : Nat → Value} {a' : Act} {w' : World} (s : SimT (cxD (Cx.of N W0 A G hG) W D hkb hlt) S' τ' a' w') (hra : zat P fn S' = some (.m m)) : LeavesInM Fence.wide 5 P fn a'.tmps (zri W0 A (.m m)) a'.defers .returning w' := by
 have hK' : w'.heap[D]? = some (.deferred (some [])) := (s.bel.block D (.inr rfl)).trans hK
 let X2 : Cx := { cxD (Cx.of N W0 A G hG) W D hkb hlt with
  K := (Cx.of N W0 A G hG).K
  hK := fun g hg => Nat.lt_of_lt_of_le ((Cx.of N W0 A G hG).hK g hg) hkb.size
  hG := fun w h => hG w ((hkb.trans h).below (fun _ h => h)) }
 have s2 : SimT X2 S' τ' a' w' := ⟨s.size, s.nodef, s.bel.mono fun _ => .inl, s.tm, s.hp, fun b g hb ho => ⟨fun k => (s.own b g hb ho).1 (.inl k), (s.own b g hb ho).2⟩, s.sep, s.one, fun p hp => by cases hp⟩
 have s3 : SimT X2 S' τ' a' (w'.putObj D (.deferred none)) := zki s2 (grownBy_putObj' w' D (.deferred none)) (fun r e => by cases e; exact ⟨⟨_, hK', rfl⟩, fun k => by
  have : D < W0.heap.size := (Cx.of N W0 A G hG).hK D k
  omega⟩)
 have b3 : Below W0.heap.size W0 (w'.putObj D (.deferred none)) := by
  have b1 : Below W0.heap.size W0 W := hkb.below fun _ h => h; have b2 : Below W0.heap.size W w' := s.bel.below fun _ h => .inl h; exact (b1.trans b2).trans ((Below.refl _ _).grown (grownBy_putObj' w' D (.deferred none)) (Nat.le_trans b1.size b2.size) (fun k e => by cases e; exact hDW))
 have hrun : ∃ v, (results fn a'.tmps).run P (w'.putObj D (.deferred none)) = .ok v (w'.putObj D (.deferred none)) ∧ zri W0 A (.m m) (.returned v) (w'.putObj D (.deferred none)) := by
  unfold zat at hra
  split at hra
  · rename_i m' hm; cases hra
    obtain ⟨vs', h1, h2⟩ := zeu s3 _ _ hres hm; obtain ⟨v, rfl⟩ : ∃ v, vs' = [v] := by
     cases vs' with
     | nil => exact h2.elim
     | cons v l => cases l with | nil => exact ⟨v, rfl⟩ | cons _ _ => exact h2.2.elim
    refine ⟨v, ?_, v, rfl, b3, (zfx (E := ⟨_, _, τ', _⟩) (F := en0 (fun g => A g ∨ W0.heap.size ≤ g) (w'.putObj D (.deferred none))) rfl (fun g _ hg => hg) _ _ hcl h2.1 : Cm.R _ _ _)⟩; rw [zdl, Array.mapM_eq_mapM_toList]; simp only [Sem.run_bind, Sem.run_map, h1, Result.andThen_ok, Sem.run_pure]
    rfl
  · cases hra
  · cases hra
 obtain ⟨v, hv, hM⟩ := hrun; rw [s.nodef]; exact ⟨by simp, .inl ⟨_, _, rfl, run_takeDeferred hK', ⟨_, hv, hM⟩⟩⟩
theorem zr5 {G : World → Prop} {N : Nat} {W0 : World} {A : Nat → Prop} {hG : ∀ w, Below W0.heap.size W0 w → G w} {fn : Func} {rest : Code} {m : Cm} {D : Nat} {W : World} (hres : zex N fn.results.toList = true) (hcl : zcf m = true) (hs : SimT (Cx.of N W0 A G hG) S τ a W) (hDW : W0.heap.size ≤ D) (hK : W.heap[D]? = some (.deferred (some [])))
 (h : ∀ (hk : Kept (Cx.of N W0 A G hG).K (Cx.of N W0 A G hG).W0 W) (hD : D < W.heap.size), Aw P (cxD (Cx.of N W0 A G hG) W D hk hD) rest (fun e S' => (e = .normal ∨ e = .ret) ∧ zat P fn S' = some (.m m)) S) :
 rest.wp P (bodyPostM Fence.wide 5 P fn (zri W0 A (.m m))) { a with defers := { target := .collected D, args := #[] } :: a.defers } W := by
 have hlt : D < W.heap.size := (Array.getElem?_eq_some_iff.1 hK).1; have s1 := zrh hs rfl ⟨_, hK, rfl⟩ hlt; refine wp_mono (zuw rfl (h hs.bel hlt) ⟨_, s1⟩) ?_; intro e a' w' ⟨S', ⟨he, hra⟩, τ', s⟩; have key := zpz hres hcl hs.bel hlt hDW hK s hra; rcases he with rfl | rfl
 · exact key
 · exact key
theorem zye {G : World → Prop} {N : Nat} {W0 : World} {A : Nat → Prop} {hG : ∀ w, Below W0.heap.size W0 w → G w} {fn : Func} {m : Cm} {D : Nat} {W : World} {Q : Exit → Act → World → Prop} (hres : zex N fn.results.toList = true) (hcl : zcf m = true) (hs : SimT (Cx.of N W0 A G hG) S τ a W) (hDW : W0.heap.size ≤ D) (hK : W.heap[D]? = some (.deferred (some [])))
 (hra : zat P fn S = some (.m m)) (hQ : ∀ a' w', LeavesInM Fence.wide 5 P fn a'.tmps (zri W0 A (.m m)) a'.defers .returning w' → Q .ret a' w') :
 Code.ret.wp P Q { a with defers := { target := .collected D, args := #[] } :: a.defers } W := by
 have hlt : D < W.heap.size := (Array.getElem?_eq_some_iff.1 hK).1; have s1 := zrh hs rfl ⟨_, hK, rfl⟩ hlt; exact wp_ret (hQ _ _ (zpz hres hcl hs.bel hlt hDW hK s1 hra))
set_option maxHeartbeats 1000000 in
theorem z65 {X : Cx} {S : St} {τ0 : Nat → Value} {a : Act} {w : World} {t p1 p2 : Tmp} {assign body : Code} {Q : Exit → Act → World → Prop} {sz f : Int} {xs : List (Int × Int)} (hf : 0 ≤ f ∧ f < 17592186044416) (hs : Srt xs) (hu : Uw xs)
 (hdf : X.df = []) (ts : List (Nat × Nat)) (ns : List Nat) (n1 n2 : Nat) (bs : List (Nat × Hs)) (mid : Ie sz xs f → St)
 (hS : SimT (cxP X τ0 ns) S τ0 a w) (htN : t < X.N) (hcl : S.tm t = .m (.c (.cl 166 [n1, n2])))
 (hts : ∀ p ∈ ts, S.tm p.1 = .m (.c (.p p.2 0)) ∧ p.2 ∈ ns ∧ p.1 < X.N) (hns : ∀ b ∈ ns, ∃ cs, S.hp b = .live (.box cs)) (hb0 : EqB S bs) (m1 : n1 ∈ ns) (m2 : n2 ∈ ns)
 (hbs : (bs.all (fun p => (idK p.2).all (zlx · bs)) && ns.all (fun b => zlx b bs)) = true)
 (hn1 : look Hs.fresh bs n1 = .live (.box [.v (.int .u64 sz), .s xs.length 2 (fl xs)])) (hn2 : look Hs.fresh bs n2 = .live (.box [.v (.int .u64 f)]))
 (hmid : ∀ x, EqB (mid x) bs) (hself : EqB (St.of [] bs) bs)
 (hA : ∀ (W : World) (l : Nat) (hk : Kept X.K X.W0 W) (x : Ie sz xs f), Aw Tryz.prog (cxR X W l τ0 ns hk) assign (zlk (fun S' => Sub (cxR X W l τ0 ns hk) S' (mid x)) z70) ((St.of (ptT ts) bs).two p1 p2 (.m (.c (.v (.int .i64 (x.1 : Int))))) (.m (.ag (atM sz xs f x.1).ce))))
 (hB : ∀ (W : World) (l : Nat) (hk : Kept X.K X.W0 W) (x : Ie sz xs f), Aw Tryz.prog (cxR X W l τ0 ns hk) body (fun e S' => e = .ret ∧ Sub (cxR X W l τ0 ns hk) S' (St.of (ptT []) bs)) (mid x))
 (hdone : ∀ (D : Nat) (W : World), w.heap.size ≤ D → (∀ i : Nat, i < 512 → nzB sz xs f i = false) → Sim (cxP X τ0 ns) (St.of (ptT ts) bs) a W → W.heap[D]? = some (.deferred (some [])) → Q .normal { a with defers := { target := .collected D, args := #[] } :: a.defers } W)
 (hstop : ∀ (D : Nat) (W : World) (x : Ie sz xs f), w.heap.size ≤ D → Sim (cxP X τ0 ns) (St.of (ptT ts) bs) a W → W.heap[D]? = some (.deferred (some [])) → Code.ret.wp Tryz.prog Q { a with defers := { target := .collected D, args := #[] } :: a.defers } W) :
 (Code.rangeFunc (.tmp t) #[p1, p2] assign body).wp Tryz.prog Q a w := by
 have hptr : ∀ b ∈ ns, ∃ g, τ0 b = .pointer (some ⟨g, 0, none⟩) := fun b hb => by
  obtain ⟨cs, e⟩ := hns b hb; obtain ⟨g, vs, e1, _⟩ := hS.hp b _ e; exact ⟨g, e1⟩
 obtain ⟨b1, e1⟩ := hptr n1 m1; obtain ⟨b2, e2⟩ := hptr n2 m2; have hval : a.eval (.tmp t) = .func (.func 166) #[] #[.pointer (some ⟨b1, 0, none⟩), .pointer (some ⟨b2, 0, none⟩)] := by
  have := hS.tm t htN; rw [hcl] at this; have this : a.tmps.getD t undef = .func (.func 166) #[] ([n1, n2].map τ0).toArray := this.1; show a.tmps.getD t undef = _; rw [this]; simp [e1, e2]
 have hts' : ∀ p ∈ ts, p.2 ∈ ns ∧ a.tmps.getD p.1 undef = τ0 p.2 ∧ ∃ g, τ0 p.2 = .pointer (some ⟨g, 0, none⟩) := fun p hp => by
  obtain ⟨q1, q2, q3⟩ := hts p hp; have := hS.tm p.1 q3; rw [q1] at this; obtain ⟨_, g, r1, r2⟩ := this; have r1 : τ0 p.2 = .pointer (some ⟨g, 0, none⟩) := r1; exact ⟨q2, r2.trans r1.symm, g, r1⟩
 have hbs1 : (bs.all fun p => (idK p.2).all (zlx · bs)) = true := by rw [Bool.and_eq_true] at hbs; exact hbs.1
 have hbs2 : (ns.all fun b => zlx b bs) = true := by rw [Bool.and_eq_true] at hbs; exact hbs.2
 have hent : ∀ {S' : St} {τ' : Nat → Value} {a' : Act} {W' : World}, SimT (cxP X τ0 ns) S' τ' a' W' → EqB S' bs → Ent sz xs f b1 b2 W' := fun {S' τ' a' W'} s h => by
  have hl : ∀ n v, look Hs.fresh bs n = .live v → S'.hp n = .live v := fun n v hv => by
   rcases zm3 h n with e | e
   · rw [e] at hv; cases hv
   · rw [← e]; exact hv
  exact z19 s (hl _ _ hn1) (hl _ _ hn2) m1 m2 e1 e2
 have hE0 : Ent sz xs f b1 b2 w := hent hS hb0; have hszW : X.W0.heap.size ≤ w.heap.size := hS.bel.size
 have hgr : ∀ (S' : St) (a' : Act), OwnFrom w.heap.size (fun (_ : Unit) W => Sim (cxP X τ0 ns) S' a' W) := fun S' a' _ W W' row ⟨τ', s⟩ hg hr => ⟨τ', zki s hg fun r e => ⟨(hr r e).2, fun k => by
  have := X.hK r k; have := (hr r e).1; omega⟩⟩
 have hI0 : Sim (cxP X τ0 ns) (St.of (ptT ts) bs) a w := zgi ⟨τ0, hS⟩ ts bs hb0 hbs1 hbs2 hts' hS.size hS.nodef
 refine (wpIn_wide (n := 5)).1 (wpIn_rangeFunc_ownH (w0 := w) rfl (by omega) (gf := 166) hval trivial (enters_of Tryz.func166 (by kernel_rfl) rfl)
  (zpi 4 (by omega) sz xs f b1 b2 w hE0 hf hs hu) KpE.trans (fun W l o o' _ hl ho _ => KpE.put W l o o' hl ho) (Below.refl _ _) (fun _ => rfl)
  (fun pre W => pre = [] ∧ Sim (cxP X τ0 ns) (St.of (ptT ts) bs) a W) (fun c pre W => c = .ret ∧ Nonempty (Ie sz xs f) ∧ Sim (cxP X τ0 ns) (St.of (ptT ts) bs) a W) (fun s W W' row hi hg hr => ⟨hi.1, hgr _ _ () W W' row hi.2 hg hr⟩) (fun c s W W' row hi hg hr => ⟨hi.1, hi.2.1, hgr _ _ () W W' row hi.2.2 hg hr⟩) ⟨rfl, hI0⟩
  (fun x a' W => Sim (cxP X τ0 ns) (mid x) a' W) (fun x a' _ W W' row hi hg hr => hgr _ _ () W W' row hi hg hr) ?_ ?_ ?_ ?_)
 · intro l pre x W K ⟨hp, hI⟩ hK; obtain ⟨τ1, s1⟩ := hI; have hk : Kept X.K X.W0 W := s1.bel; have s2 := zxe (p1 := p1) (p2 := p2) (v1 := .m (.c (.v (.int .i64 (x.1 : Int))))) (v2 := .m (.ag (atM sz xs f x.1).ce)) (u1 := .int .i64 (x.1 : Int)) (u2 := z5m (atM sz xs f x.1)) (show (cxP X τ0 ns).df = [] from hdf) s1 rfl ⟨_, rfl, rfl, rfl, rfl, rfl, rfl, rfl, rfl, rfl, rfl, rfl, rfl, trivial⟩; have s3 := zhv (l := l) s2 hk; have ez : (#[p1, p2].zip (z5n sz xs f x)).foldl (fun t (p, v) => t.setIfInBounds p v) a.tmps = (a.tmps.setIfInBounds p1 (.int .i64 (x.1 : Int))).setIfInBounds p2 (z5m (atM sz xs f x.1)) := by simp [z5n]
   rw [ez]; refine wpIn_mono (hA W l hk x _ W ⟨_, s3⟩ _) ?_; intro e a' W' ⟨S', q, s4⟩; cases e with
   | normal =>
    obtain ⟨τ5, s5⟩ := q _ _ s4; have s6 := zhw s5; exact hK a' W' (zfe s5 _) ⟨s5.bel.size, fun _ => hent s6 (hmid _)⟩ ⟨hp, zgi ⟨_, s6⟩ ts _ (hmid x) hbs1 hbs2 hts' hS.size hS.nodef⟩ ⟨_, s6⟩
   | _ => exact q.elim
 · intro l pre x a' W hl hr hI ⟨τ2, s2⟩ hlen; have hk : Kept X.K X.W0 W := s2.bel; have s3 := zhv (l := l) s2 hk; refine wpIn_mono (hB W l hk x _ W ⟨_, s3⟩ _) ?_; rintro e a2 W' ⟨S', ⟨rfl, q⟩, s4⟩; obtain ⟨τ5, s5⟩ := q _ _ s4; have s6 := zhw s5; have hq := zkj (S := St.of [] bs) (S' := St.of (ptT []) bs) rfl _ hself; exact ⟨zfe s5 _, rfl, ⟨x⟩, zgi ⟨_, s6⟩ ts _ hq hbs1 hbs2 hts' hS.size hS.nodef⟩
 · intro D ys W hD hys ⟨hnil, hI⟩ hK; refine hdone D W hD (fun i hi => ?_) hI hK; subst hnil; have hys : [] = (List.range 512).filter (nzB sz xs f) := hys; cases e : nzB sz xs f i with
   | false => rfl
   | true =>
    have : i ∈ (List.range 512).filter (nzB sz xs f) := List.mem_filter.2 ⟨List.mem_range.2 hi, e⟩; rw [← hys] at this; cases this
 · rintro D c pre W hD _ ⟨rfl, ⟨x⟩, hI⟩ hK; exact wpIn_wide.2 (hstop D W x hD hI hK)
end
end Ax
namespace LjD
open Go.RowKit Bv VaSpec Base MemL RegR Ax MemC PutC MemC3 OkS SpA SpB LaA IterE LaC LaD LiC
def tsE : List (Nat × Nat) := [(2, 2), (4, 4)]
def nsE : List Nat := [2, 4, 1001, 1002]
def bsE (sz : Int) (xs : List (Int × Int)) (top : Int) : List (Nat × Hs) := [(2, .live (.box [cu sz, .s xs.length 2 (fl xs)])), (4, .live (.box [cb false])), (1001, .live (.box [cu sz, .s xs.length 2 (fl xs)])), (1002, .live (.box [cu top]))]
theorem z1a (sz : Int) (xs : List (Int × Int)) (top : Int) (b : Bool) (ht : 0 ≤ top ∧ top < 17592186044416) (hs : Srt xs) (hu : Uw xs) (hb1 : (∀ i : Nat, i < 512 → nzB sz xs top i = false) → b = true) (hb0 : (∃ i : Nat, i < 512 ∧ nzB sz xs top i = true) → b = false) :
 Ok 193 [zbm sz xs, iu top] (.m (ib b)) := by
 refine zf6 10 Tryz.func193 rfl rfl rfl ?_ GG.to; intro W A hG; refine zcz (fun K hK => ?_)
 repeat (first | (refine zai rfl ?_; first | refine zaj ?_) | (refine hK _ ?_; clear hK K) | refine zac rfl ?_)
 refine zxf ?_; refine zcz (fun K hK => ?_)
 repeat (first | (refine zai rfl ?_; first | refine zaj ?_ | refine gdr (zff (n1 := 1001) (n2 := 1002) rfl rfl rfl rfl rfl rfl) ?_) | (refine hK _ ?_; clear hK K) | refine zac rfl ?_)
 refine zkk ?_
 refine zkl (zaw [(2, .m (.c (.p 2 0))), (4, .m (.c (.p 4 0))), (7, .m (.c (.cl 166 [1001, 1002])))] (bsE sz xs top)
  ⟨rfl, rfl, rfl, trivial⟩ ⟨rfl, rfl, rfl, rfl, trivial⟩ rfl) ?_
 intro a w ⟨τ0, s⟩
 have s' := zrg (ns := nsE) s (by
  intro b hb; simp only [nsE, List.mem_cons, List.not_mem_nil, or_false] at hb; rcases hb with rfl | rfl | rfl | rfl
  all_goals exact ⟨_, rfl⟩)
 refine z65 ht hs hu rfl tsE nsE 1001 1002 (bsE sz xs top) (fun x => St.of [(2, .m (.c (.p 2 0))), (4, .m (.c (.p 4 0)))] (bsE sz xs top)) s' (show 7 < 10 by decide) rfl
  (by
   intro p hp; simp only [tsE, List.mem_cons, List.not_mem_nil, or_false] at hp; rcases hp with rfl | rfl
   all_goals exact ⟨rfl, by simp [nsE], by show _ < 10; decide⟩)
  (by
   intro b hb; simp only [nsE, List.mem_cons, List.not_mem_nil, or_false] at hb; rcases hb with rfl | rfl | rfl | rfl
   all_goals exact ⟨_, rfl⟩)
  ⟨rfl, rfl, rfl, rfl, trivial⟩ (by simp [nsE]) (by simp [nsE]) rfl rfl rfl (fun _ => ⟨rfl, rfl, rfl, rfl, trivial⟩) ⟨rfl, rfl, rfl, rfl, trivial⟩ ?_ ?_ ?_ ?_
 · intro W l hk x
   repeat (first | refine zak ?_)
   exact zaw _ _ ⟨rfl, rfl, trivial⟩ ⟨rfl, rfl, rfl, rfl, trivial⟩ rfl
 · intro W' l hk x
   repeat (first | (refine zai rfl ?_; first | refine zaj ?_) | (refine hK _ ?_; clear hK K) | refine zac rfl ?_ | refine zag ?_ | refine zab (fun K hK => ?_))
   exact zah ⟨rfl, zaw _ _ trivial ⟨rfl, rfl, rfl, rfl, trivial⟩ rfl⟩
 · intro D W hD hz hI hK; have hb := hb1 hz; subst hb; obtain ⟨τ1, s1⟩ := hI; have s2 : SimT (Cx.of 10 _ A GG hG) (St.of (ptT tsE) (bsE sz xs top)) τ1 a W := ⟨s1.size, s1.nodef, s1.bel, s1.tm, s1.hp, s1.own, s1.sep, s1.one, fun p hp => by cases hp⟩; refine zr5 rfl rfl s2 (Nat.le_trans s.bel.size hD) hK (fun hk hD => ?_)
   repeat (first | (refine zai rfl ?_; first | refine zaj ?_) | (refine hK _ ?_; clear hK K) | refine zac rfl ?_ | refine zab (fun K hK => ?_))
   exact zah ⟨.inr rfl, rfl⟩
 · intro D W x hD hI hK; have hb := hb0 ⟨x.1, x.2.1, by have := x.2.2; unfold nzB; simpa using this⟩
   subst hb; obtain ⟨τ1, s1⟩ := hI; have s2 : SimT (Cx.of 10 _ A GG hG) (St.of (ptT tsE) (bsE sz xs top)) τ1 a W := ⟨s1.size, s1.nodef, s1.bel, s1.tm, s1.hp, s1.own, s1.sep, s1.one, fun p hp => by cases hp⟩; exact zye rfl rfl s2 (Nat.le_trans s.bel.size hD) hK rfl (fun a' w' h => h)
theorem zu8 {cd cp sz f sh : Int} {xs : List (Int × Int)} {lv : Int → Int} (h : LiA.TI cd cp sz xs f sh lv) {g : Int} (hg : cd ≤ g ∧ g < cd + cp) : Ok 193 [zbm sz xs, iu g] (.m (ib (zec xs g))) := by
 obtain ⟨e1, e2⟩ := znw h hg; have b1 := h.bd; have b2 := h.bp; refine z1a sz xs g _ ⟨by omega, by omega⟩ h.s h.u (fun hz => ?_) (fun ⟨i, hi, hn⟩ => ?_)
 · cases c : zec xs g with
   | true => rfl
   | false =>
    obtain ⟨j, hj, hne⟩ := e2 c; have := hz j.toNat (by omega); unfold nzB at this; rw [show ((j.toNat : Nat) : Int) = j by omega] at this; simp at this; exact absurd this hne
 · cases c : zec xs g with
   | false => rfl
   | true =>
    have := e1 c (i : Int) ⟨by omega, by omega⟩; unfold nzB at hn; simp at hn; exact absurd this hn
end LjD
namespace Ax
open Go.RowKit MemL RegR Go
variable {P : Program} {ops : Array Oper} {X : Cx} {o : Oper} {S : St}
def CallsE (P : Program) (f : FuncId) (args : Array Value) (w : World) (R : Ending → World → Prop) : Prop := ∀ u, CallsD P f args u w fun e u' w' => u' = u ∧ R e w'
theorem CallsE.mono {f : FuncId} {args : Array Value} {w : World} {R R' : Ending → World → Prop} (h : CallsE P f args w R) (hr : ∀ e w', R e w' → R' e w') : CallsE P f args w R' := fun u => (h u).mono fun e u' w' k => ⟨k.1, hr e w' k.2⟩
theorem zp0 {f : FuncId} {fn : Func} {c : Code} {args : Array Value} {w : World} {R : Ending → World → Prop} (hf : P.funcs[f]? = some fn) (hb : fn.body = some c)
 (h : c.wp P (bodyPost P fn R) { tmps := args ++ Array.replicate (fn.ntmps - args.size) undef, defers := [] } w) : CallsE P f args w R := fun u => callsD_of_wp hf hb h
def zyf (W : World) (A : Nat → Prop) (τ : Nat → Value) (bs : List Ln) (r : AV) (e : Ending) (w' : World) : Prop := ∃ v, e = .returned v ∧ Kept (fun g => g < W.heap.size ∧ ¬ zqc τ bs g) W w' ∧ r.R (en0 (fun g => A g ∨ W.heap.size ≤ g) w') v ∧
 ∀ p ∈ bs, ∃ g us, τ p.1 = .pointer (some ⟨g, 0, none⟩) ∧ Bx w' g us ∧ All2 (Ce.R (en0 (fun g => A g ∨ W.heap.size ≤ g) w')) p.2.2 us.toList
def zjh (P : Program) (G : World → Prop) (k : FuncId) (bs : List Ln) (args : List Cm) (r : AV) : Prop :=
 (zcu r && bs.all (fun p => p.2.1.all zbl && p.2.2.all zbl)) = true ∧ (args.flatMap idM).all (fun b => bs.any (fun p => Nat.beq p.1 b)) = true ∧
 ∀ (A : Nat → Prop) (W : World) (τ : Nat → Value) (vs : Array Value), (∀ w, Kept (fun g => g < W.heap.size ∧ ¬ zqc τ bs g) W w → G w) →
  (∀ p ∈ bs, ∃ g us, τ p.1 = .pointer (some ⟨g, 0, none⟩) ∧ Bx W g us ∧ All2 (Ce.R (en0 A W)) p.2.1 us.toList ∧ ¬ A g) →
  (∀ p ∈ bs, ∀ q ∈ bs, p.1 ≠ q.1 → ∀ g, occ (τ p.1) = some g → occ (τ q.1) ≠ some g) →
  All2 (Cm.R ⟨A, fun b => ∃ p ∈ bs, p.1 = b, τ, W⟩) args vs.toList → CallsE P k vs W (zyf W A τ bs r)
theorem zmj {G : World → Prop} {fn : Func} {bs : List Ln} {args : List Cm} {r : AV} (N : Nat) {A : Nat → Prop} {W : World} {τ : Nat → Value} {vs : Array Value}
 (hcl : (zcu r && bs.all (fun p => p.2.1.all zbl && p.2.2.all zbl)) = true) (hid : (args.flatMap idM).all (fun b => bs.any (fun p => Nat.beq p.1 b)) = true) (hN : args.length + (fn.ntmps - args.length) = N)
 (hG : ∀ w, Kept (fun g => g < W.heap.size ∧ ¬ zqc τ bs g) W w → G w)
 (hB : ∀ p ∈ bs, ∃ g us, τ p.1 = .pointer (some ⟨g, 0, none⟩) ∧ Bx W g us ∧ All2 (Ce.R (en0 A W)) p.2.1 us.toList ∧ ¬ A g)
 (hsep : ∀ p ∈ bs, ∀ q ∈ bs, p.1 ≠ q.1 → ∀ g, occ (τ p.1) = some g → occ (τ q.1) ≠ some g)
 (hR : All2 (Cm.R ⟨A, fun b => ∃ p ∈ bs, p.1 = b, τ, W⟩) args vs.toList) : Sim (cxW N W A G τ bs hG) (zfr bs args) { tmps := vs ++ Array.replicate (fn.ntmps - vs.size) undef, defers := [] } W := by
 simp only [Bool.and_eq_true, List.all_eq_true] at hcl; obtain ⟨hcr, hcb⟩ := hcl; have hlen := All2.length _ _ hR; simp only [Array.length_toList] at hlen; obtain ⟨τ', hτ'⟩ : ∃ τ' : Nat → Value, τ' = fun b => cond (bs.any fun p => Nat.beq p.1 b) (τ b) (.bool false) := ⟨_, rfl⟩; have ht : ∀ p ∈ bs, τ' p.1 = τ p.1 := fun p hp => by
  rw [hτ']; have : (bs.any fun q => Nat.beq q.1 p.1) = true := List.any_eq_true.2 ⟨p, hp, Nat.beq_refl _⟩; simp only [this, cond]
 have hlive : ∀ b q, look .fresh (bs.map fun p => (p.1, Hs.live (.box p.2.1))) b = .live q → ∃ p ∈ bs, p.1 = b ∧ q = .box p.2.1 := fun b q hq => by
  obtain ⟨x, h1, h2, h3⟩ := look_mem _ b _ hq (fun e => by cases e); obtain ⟨p, hp, rfl⟩ := List.mem_map.1 h1; exact ⟨p, hp, h2, by cases h3; rfl⟩
 have halw : ∀ g, A g → alw (cxW N W A G τ bs hG) (zfr bs args).hp τ' g := fun g hg => ⟨.inl hg, fun b ⟨q, hq⟩ ho => by
  obtain ⟨p, hp, rfl, _⟩ := hlive b q hq; obtain ⟨g', us, e1, _, _, e4⟩ := hB p hp; rw [ht p hp, e1] at ho
  cases ho; exact e4 hg⟩
 have hS : Sim (cxW N W A G τ bs hG) (zfr bs args) { tmps := vs ++ Array.replicate (fn.ntmps - vs.size) undef, defers := [] } W := by
  refine ⟨τ', by simp [← hN, hlen, cxW], rfl, Kept.refl _ _, fun t ht' => ?_, fun b k hk => ?_, fun b g hk ho => ?_, fun b b' g hne hk hk' ho => ?_, fun b => ?_, fun q hq => ?_⟩
  · show AV.R _ (match args[t]? with | some m => .m m | none => .m (.c (.v undef))) _; have ht' : t < N := ht'; by_cases hlt : t < args.length
    · obtain ⟨v, hv, hr⟩ := All2.get _ _ t _ hR (List.getElem?_eq_getElem hlt); rw [List.getElem?_eq_getElem hlt]; have e : (vs ++ Array.replicate (fn.ntmps - vs.size) undef).getD t undef = v := by
       rw [Array.getD_eq_getD_getElem?, Array.getElem?_append_left (by omega)]; simp only [Array.getElem?_toList] at hv; rw [hv]; rfl
      rw [e]; refine zsj (E := ⟨A, fun b => ∃ p ∈ bs, p.1 = b, τ, W⟩) (F := env (cxW N W A G τ bs hG) (zfr bs args).hp τ' W) ⟨fun b hb' => ?_, fun g _ hg => halw g hg, Nat.le_refl _, fun _ _ _ _ => rfl⟩ _ _ hr; obtain ⟨p, hp, rfl⟩ := hb'; refine ⟨?_, ht p hp⟩; obtain ⟨q, q1, q2, q3⟩ := zkf (d := Hs.fresh) (bs.map fun p => (p.1, Hs.live (.box p.2.1))) (p.1, .live (.box p.2.1)) (List.mem_map.2 ⟨p, hp, rfl⟩); show look Hs.fresh (bs.map fun p => (p.1, Hs.live (.box p.2.1))) p.1 ≠ Hs.fresh; rw [show look Hs.fresh (bs.map fun p => (p.1, Hs.live (.box p.2.1))) p.1 = q.2 from q3]; obtain ⟨p', _, rfl⟩ := List.mem_map.1 q1; intro e; cases e
    · rw [List.getElem?_eq_none (by omega)]; show _ = undef; rw [Array.getD_eq_getD_getElem?, Array.getElem?_append_right (by omega)]; rw [Array.getElem?_replicate]; split <;> rfl
  · obtain ⟨p, hp, rfl, rfl⟩ := hlive b k hk; obtain ⟨g, us, e1, e2, e3, _⟩ := hB p hp; have := hcb p hp; exact ⟨g, us, (ht p hp).trans e1, e2, zds (E := en0 A W) (F := env (cxW N W A G τ bs hG) (zfr bs args).hp τ' W) rfl (fun g _ hg => halw g hg) _ _ (List.all_eq_true.2 this.1) e3⟩
  · obtain ⟨q, hq⟩ := hk; obtain ⟨p, hp, rfl, rfl⟩ := hlive b q hq; obtain ⟨g', us, e1, e2, e3, _⟩ := hB p hp; rw [ht p hp] at ho; refine ⟨fun hk => hk.2 ⟨p, hp, ho⟩, ?_⟩; rw [e1] at ho; cases ho
    exact e2.lt
  · obtain ⟨q, hq⟩ := hk; obtain ⟨q', hq'⟩ := hk'; obtain ⟨p, hp, rfl, rfl⟩ := hlive b q hq; obtain ⟨p', hp', rfl, rfl⟩ := hlive b' q' hq'; rw [ht p hp] at ho; rw [ht p' hp']; exact hsep p hp p' hp' hne g ho
  · have e0 : τ' b = cond (bs.any fun p => Nat.beq p.1 b) (τ b) (.bool false) := by rw [hτ']
    rw [e0]; cases e : bs.any fun p => Nat.beq p.1 b with
    | false => rfl
    | true =>
     obtain ⟨p, hp, e'⟩ := List.any_eq_true.1 e; obtain rfl := Nat.eq_of_beq_eq_true e'; obtain ⟨g, us, e1, _⟩ := hB p hp; show (τ p.1).oneCell' = true; rw [e1]; rfl
  · obtain ⟨p, hp, rfl⟩ := List.mem_map.1 hq; refine ⟨?_, ht p hp⟩; obtain ⟨q, q1, q2, q3⟩ := zkf (d := Hs.fresh) (bs.map fun p => (p.1, Hs.live (.box p.2.1))) (p.1, .live (.box p.2.1)) (List.mem_map.2 ⟨p, hp, rfl⟩); show look Hs.fresh (bs.map fun p => (p.1, Hs.live (.box p.2.1))) p.1 ≠ Hs.fresh; rw [show look Hs.fresh (bs.map fun p => (p.1, Hs.live (.box p.2.1))) p.1 = q.2 from q3]; obtain ⟨p', _, rfl⟩ := List.mem_map.1 q1; intro e; cases e
 exact hS
def z4p (N : Nat) (W : World) (A : Nat → Prop) (G : World → Prop) (τ : Nat → Value) (bs : List Ln) (hG : ∀ w, Kept (fun g => g < W.heap.size ∧ ¬ zqc τ bs g) W w → G w) (ds : List Deferred) : Cx := { cxW N W A G τ bs hG with df := ds }
theorem finW {G : World → Prop} {fn : Func} {bs : List Ln} {r : AV} {N : Nat} {A : Nat → Prop} {W : World} {τ : Nat → Value} {hG : ∀ w, Kept (fun g => g < W.heap.size ∧ ¬ zqc τ bs g) W w → G w} {ds : List Deferred} {S' : St} {τe : Nat → Value} {a' : Act} {w' : World}
 (hcr : zcu r = true) (hcb : ∀ p ∈ bs, p.2.1.all zbl = true ∧ p.2.2.all zbl = true) (hres : zex N fn.results.toList = true) (s : SimT (z4p N W A G τ bs hG ds) S' τe a' w') (hr : zat P fn S' = some r) (hE : EndB S' bs) : ∃ v, (results fn a'.tmps).run P w' = .ok v w' ∧ zyf W A τ bs r (.returned v) w' := by
 have hbx : ∀ p ∈ bs, ∃ g us, τ p.1 = .pointer (some ⟨g, 0, none⟩) ∧ Bx w' g us ∧ All2 (Ce.R (en0 (fun g => A g ∨ W.heap.size ≤ g) w')) p.2.2 us.toList := fun p hp => by
  obtain ⟨cs, e1, e2⟩ := hE.mem p hp; obtain ⟨g, us, e3, e4, e5⟩ := s.hp p.1 _ e1; have hpin := (s.pin (p.1, τ p.1) (List.mem_map.2 ⟨p, hp, rfl⟩)).2; have e6 := zne s _ _ e5; rw [e2] at e6; have := hcb p hp; exact ⟨g, us, by rw [← e3]; exact hpin.symm, e4, zds (E := ⟨_, _, τe, w'⟩) (F := en0 (fun g => A g ∨ W.heap.size ≤ g) w') rfl (fun g _ hg => hg) _ _ this.2 e6⟩
 unfold zat at hr
 split at hr
 · rename_i m hm; cases hr
   obtain ⟨vs', h1, h2⟩ := zeu s _ _ hres hm; obtain ⟨v, rfl⟩ : ∃ v, vs' = [v] := by
    cases vs' with
    | nil => exact h2.elim
    | cons v l => cases l with | nil => exact ⟨v, rfl⟩ | cons _ _ => exact h2.2.elim
   refine ⟨v, ?_, v, rfl, s.bel, (zfx (E := ⟨_, _, τe, w'⟩) (F := en0 (fun g => A g ∨ W.heap.size ≤ g) w') rfl (fun g _ hg => hg) _ _ hcr h2.1 : Cm.R _ _ _), hbx⟩; rw [zdl]; rw [Array.mapM_eq_mapM_toList]; simp only [Sem.run_bind, Sem.run_map, h1, Result.andThen_ok, Sem.run_pure]
   rfl
 · rename_i ms hne hm; cases hr
   obtain ⟨vs', h1, h2⟩ := zeu s _ _ hres hm; have hl := All2.length _ _ h2; have hsz : vs'.length ≠ 1 := fun e => by
    cases ms with
    | nil => simp at hl; omega
    | cons m l => cases l with
     | nil => exact hne m rfl
     | cons _ _ => simp at hl; omega
   refine ⟨.tuple vs'.toArray, ?_, _, rfl, s.bel, ⟨_, rfl, zdw (E := ⟨_, _, τe, w'⟩) (F := en0 (fun g => A g ∨ W.heap.size ≤ g) w') rfl (fun g _ hg => hg) _ _ hcr h2⟩, hbx⟩; rw [zdl]; rw [Array.mapM_eq_mapM_toList]; simp only [Sem.run_bind, Sem.run_map, h1, Result.andThen_ok, Sem.run_pure]; simp [hsz]
 · cases hr
theorem zk1 {G : World → Prop} {k : FuncId} {fn : Func} {c : Code} {bs : List Ln} {args : List Cm} {r : AV} (N : Nat) (hf : P.funcs[k]? = some fn) (hb : fn.body = some c) (hcl : (zcu r && bs.all (fun p => p.2.1.all zbl && p.2.2.all zbl)) = true) (hid : (args.flatMap idM).all (fun b => bs.any (fun p => Nat.beq p.1 b)) = true)
 (hN : args.length + (fn.ntmps - args.length) = N) (hres : zex N fn.results.toList = true)
 (h : ∀ (W : World) (A : Nat → Prop) (τ : Nat → Value) (hG : ∀ w, Kept (fun g => g < W.heap.size ∧ ¬ zqc τ bs g) W w → G w), Aw P (cxW N W A G τ bs hG) c (RetW P fn r bs) (zfr bs args)) : zjh P G k bs args r := by
 refine ⟨hcl, hid, fun A W τ vs hG hB hsep hR => zp0 hf hb ?_⟩; have hS := zmj N hcl hid hN hG hB hsep hR; simp only [Bool.and_eq_true, List.all_eq_true] at hcl; obtain ⟨hcr, hcb⟩ := hcl; have hcb : ∀ p ∈ bs, p.2.1.all zbl = true ∧ p.2.2.all zbl = true := fun p hp => by
  have := hcb p hp; exact ⟨List.all_eq_true.2 this.1, List.all_eq_true.2 this.2⟩
 refine wp_mono (wpIn_wide.1 (h W A τ hG _ W hS 0)) ?_; intro e a' w' ⟨S', q, τe, s⟩; have key : zat P fn S' = some r ∧ EndB S' bs → a'.defers = [] ∧ ∃ v, (results fn a'.tmps).run P w' = .ok v w' ∧ zyf W A τ bs r (.returned v) w' := fun ⟨hr, hE⟩ => ⟨s.nodef, finW (hG := hG) (ds := []) hcr hcb hres s hr hE⟩; cases e with
 | normal => exact key q
 | ret => exact key q
 | _ => exact q.elim
theorem zr6 {G : World → Prop} {k : FuncId} {fn : Func} {c : Code} {bs : List Ln} {args : List Cm} {r : AV} (N : Nat) (hf : P.funcs[k]? = some fn) (hb : fn.body = some c) (hcl : (zcu r && bs.all (fun p => p.2.1.all zbl && p.2.2.all zbl)) = true) (hid : (args.flatMap idM).all (fun b => bs.any (fun p => Nat.beq p.1 b)) = true)
 (hN : args.length + (fn.ntmps - args.length) = N)
 (h : ∀ (W : World) (A : Nat → Prop) (τ : Nat → Value) (hG : ∀ w, Kept (fun g => g < W.heap.size ∧ ¬ zqc τ bs g) W w → G w), Aw2 P (cxW N W A G τ bs hG) c (bodyPostD P fn (zyf W A τ bs r)) (zfr bs args)) : zby P G k bs args r :=
 ⟨hcl, hid, fun A W τ vs hG hB hsep hR => calls_of_wp_defers hf hb (h W A τ hG _ W (zmj N hcl hid hN hG hB hsep hR))⟩
theorem zr7 {k : FuncId} {bs : List Ln} {nm : Nat → Nat} {args : List Cm} {r : AV} {vals : Array Value} {τ : Nat → Value} {a : Act} {w : World} (hS : SimT X S τ a w) (hc : zjh P X.G k bs args r) (hb : ∀ p ∈ bs, S.hp (nm p.1) = .live (.box p.2.1)) (hin : z5k nm bs = true)
 (hok : args.all zpd = true) (hR : All2 (Cm.R (env X S.hp τ w)) (args.map (rnM nm)) vals.toList) {d : Option Tmp} {rd : List Rd} :
 CallsE P k vals w fun e w' => ∃ v, e = .returned v ∧ SimT X (S.app d ⟨r, upB nm bs, rd⟩) τ (a.put d v) w' := by
 obtain ⟨c1, c2, hc⟩ := hc; simp only [Bool.and_eq_true, List.all_eq_true] at c1; obtain ⟨c1, c3⟩ := c1; have c3 : ∀ p ∈ bs, p.2.1.all zbl = true ∧ p.2.2.all zbl = true := fun p hp => by
  have := c3 p hp; exact ⟨List.all_eq_true.2 this.1, List.all_eq_true.2 this.2⟩
 have hinj : ∀ p ∈ bs, ∀ q ∈ bs, p.1 ≠ q.1 → nm p.1 ≠ nm q.1 := fun p hp q hq hne e => by
  have := List.all_eq_true.1 (List.all_eq_true.1 hin p hp) q hq; rw [e, Nat.beq_refl] at this; simp at this; exact hne this
 have hal : ∀ p ∈ bs, zck S.hp (nm p.1) := fun p hp => ⟨_, hb p hp⟩; have hlent : ∀ g, zqc (fun b => τ (nm b)) bs g → ∃ b, zck S.hp b ∧ occ (τ b) = some g := fun g ⟨p, hp, e⟩ => ⟨_, hal p hp, e⟩
 refine (hc (alw X S.hp τ) w (fun b => τ (nm b)) vals (fun w' hk => X.hG w' (hS.bel.trans (hk.mono fun g hg => ⟨Nat.lt_of_lt_of_le (X.hK g hg) hS.bel.size, fun hl => by
  obtain ⟨b, h1, h2⟩ := hlent g hl
  exact (hS.own b g h1 h2).1 hg⟩))) (fun p hp => ?_) (fun p hp q hq hne g ho => hS.sep _ _ g (hinj p hp q hq hne) (hal p hp) (hal q hq) ho) ?_).mono ?_
 · obtain ⟨g, us, e1, e2, e3⟩ := hS.hp _ _ (hb p hp); exact ⟨g, us, e1, e2, zds (E := env X S.hp τ w) (F := en0 (alw X S.hp τ) w) rfl (fun _ _ h => h) _ _ (c3 p hp).1 e3, fun hA => hA.2 _ (hal p hp) (by rw [e1]; rfl)⟩
 · refine zw2 (E := env X S.hp τ w) (nm := nm) (U := fun b => ∃ p ∈ bs, p.1 = b) (fun b _ => rfl) _ _ hok (fun b hb' => ?_) hR; obtain ⟨p, hp, e⟩ := List.any_eq_true.1 (List.all_eq_true.1 c2 b hb'); exact ⟨p, hp, Nat.eq_of_beq_eq_true e⟩
 rintro e w' ⟨v, rfl, hk, hr, hbx⟩; refine ⟨v, rfl, ?_⟩; have hal' : ∀ b, zck (upd (upB nm bs) S.hp) b → zck S.hp b := fun b ⟨q, hq⟩ => by
  rcases zel (nm := nm) S.hp bs b with ⟨p, h1, rfl, _⟩ | ⟨_, h2⟩
  · exact hal p h1
  · rw [h2] at hq; exact ⟨q, hq⟩
 have hbel : Kept X.K X.W0 w' := hS.bel.trans (hk.mono fun g hg => ⟨Nat.lt_of_lt_of_le (X.hK g hg) hS.bel.size, fun hl => by
  obtain ⟨b, h1, h2⟩ := hlent g hl
  exact (hS.own b g h1 h2).1 hg⟩)
 have hle : (env X S.hp τ w).le (env X (upd (upB nm bs) S.hp) τ w') := by
  refine ⟨fun i hi => ⟨?_, rfl⟩, fun g _ ha => ⟨ha.1, fun i hi => ha.2 i (hal' i hi)⟩, hk.size, fun g o hg ha => hk.cell (p := ⟨g, o, none⟩) ⟨hg, fun hl => ?_⟩⟩
  · show upd (upB nm bs) S.hp i ≠ .fresh; rcases zel (nm := nm) S.hp bs i with ⟨p, h1, rfl, h3⟩ | ⟨_, h2⟩
    · rw [h3]; intro e; cases e
    · rw [h2]; exact hi
  · obtain ⟨b, h1, h2⟩ := hlent g hl; exact ha.2 b h1 h2
 have hA' : ∀ g, g < w'.heap.size → (alw X S.hp τ g ∨ w.heap.size ≤ g) → alw X (upd (upB nm bs) S.hp) τ g := fun g _ hg => by
  rcases hg with hg | hg
  · exact ⟨hg.1, fun i hi => hg.2 i (hal' i hi)⟩
  · exact ⟨.inr (Nat.le_trans hS.bsz hg), fun i hi he => by have := (hS.own i g (hal' i hi) he).2; omega⟩
 refine hS.turn (u := upB nm bs) hle hbel (fun i q hq => ?_) (fun i g hi ho => ?_) (fun i j g hij hi hj ho => hS.sep i j g hij (hal' i hi) (hal' j hj) ho) hS.one ?_
 · rcases zel (nm := nm) S.hp bs i with ⟨p, h1, rfl, h3⟩ | ⟨h1, h2⟩
   · rw [h3] at hq; cases hq
     obtain ⟨g, us, e1, e2, e3⟩ := hbx p h1; exact ⟨g, us, e1, e2, zds (E := en0 (fun g => alw X S.hp τ g ∨ w.heap.size ≤ g) w') (F := env X (upd (upB nm bs) S.hp) τ w') rfl (fun g hg h => hA' g hg h) _ _ (c3 p h1).2 e3⟩
   · rw [h2] at hq; have hfar : ∀ g, occ (τ i) = some g → w'.heap[g]? = w.heap[g]? := fun g ho => hk.block g ⟨(hS.own i g ⟨q, hq⟩ ho).2, fun ⟨p, hp, e⟩ => hS.sep _ _ g (h1 p hp) (hal p hp) ⟨q, hq⟩ e ho⟩; have hk' := hS.hp i q hq; cases q with
     | box cs' =>
      obtain ⟨g', vs', x1, ⟨T', x2⟩, x3⟩ := hk'; exact ⟨g', vs', x1, ⟨T', (hfar g' (by rw [x1]; rfl)).trans x2⟩, All2.mono (zcj hle) _ _ x3⟩
     | row e' k' n' xs' =>
      obtain ⟨x0, x1⟩ := hk'; refine ⟨x0, ?_⟩; rcases x1 with x1 | ⟨g', cap, cur, y1, y2, y3, y4⟩
      · exact .inl x1
      · exact .inr ⟨g', cap, cur, y1, y2, (hfar g' (by rw [y1]; rfl)).trans y3, y4⟩
 · have := hS.own i g (hal' i hi) ho; exact ⟨this.1, Nat.lt_of_lt_of_le this.2 hk.size⟩
 · exact zj3 (E := en0 (fun g => alw X S.hp τ g ∨ w.heap.size ≤ g) w') (F := env X (upd (upB nm bs) S.hp) τ w') rfl hA' _ _ c1 hr
theorem ziy {Q : St → Prop} {Q' : Exit → Act → World → Prop} {l2 : List Nat} {n : Nat} (hQ : ∀ S a w, Q S → Sim X S a w → wpOpsIn (FX X) n P ops Q' l2 a w) (hN : ∀ o ∈ ops, ∀ t, t ∈ o.looksAt ops ∨ o.dst = some t → t < X.N) {anc : Nat → Nat → Bool} : ∀ (l : List Nat) (T : List (Nat × List Rd × List Rd)) (S : St) (a : Act) (w : World), Go P ops X Q anc l T S → Sim X S a w → wpOpsIn (FX X) n P ops Q' (l ++ l2) a w
 | [], T, S, a, w, hg, hS => hQ _ _ _ hg hS
 | i :: r, T, S, a, w, hg, hS => by
  obtain ⟨o, e, ho, hv, _, hg⟩ := hg; rw [List.cons_append, wpOpsIn_cons]; exact Step.wpIn ho (hv S a w (fun _ _ => rfl) (fun r _ => AgR.refl _ r) (hN o (Array.mem_of_getElem? ho)) hS) fun v w' hS' => ziy hQ hN r _ _ _ _ hg hS'
theorem zyg {id : Nat} {l : List Oper} {rest : Code} {Q : Exit → Act → World → Prop} {R : St → Prop} {k : FuncId} {xs : Array Operand} {ts : Array TypeId} {od : Oper} (m : Nat) (hN : zlw X.N l = true) (hm : List.range l.length = List.range m ++ [m]) (ho : l[m]? = some od) (hop : od.op = .defer { callee := .value (.func k), args := xs, argTypes := ts }) (hdst : od.dst = none) (hgd : od.guard = none)
 (hr : X.rd = none) (hg : Go P l.toArray X R (fun _ _ => true) (List.range m) [] S)
 (h : ∀ S' a w, R S' → Sim X S' a w → rest.wp P Q { a with defers := { target := .fn (.func k) #[], args := xs.map a.eval } :: a.defers } w) : Aw2 P X (.seq (.region id l.toArray false) rest) Q S := fun a w hs => wp_seq (by
 have key : ∀ n, (Code.region id l.toArray false).wpIn (FX X) n P (Exit.then (rest.wp P Q) Q) a w := fun n => wpIn_region (by
  have e : List.range l.toArray.size = List.range m ++ [m] := by simpa using hm
  rw [e]; refine ziy (Q := R) (fun S' a' w' hR hS' => ?_) (zqg hN) (List.range m) [] S a w hg hs; rw [wpOpsIn_cons]; unfold wpOpIn; have ho' : l.toArray[m]? = some od := by simpa using ho
  simp only [ho']; have hwt : Region.wanted od (yielded l.toArray a'.tmps) = true := by unfold Region.wanted; rw [hgd]
  simp only [hwt, if_true]; refine ⟨fun f _ => trivial, ?_⟩; have hx : FX X = Fence.wide := zia hr; rw [hx]; show od.uponIn _ _ _ _ _ _ ((od.semAt none a'.eval).run P w'); rw [Oper.semAt_none]; have hex : (execOp a'.eval od).run P w' = .ok (.defer { target := .fn (.func k) #[], args := xs.map a'.eval }) w' := by
   simp [execOp, hop, resolve, Deferred.ofValue, Act.eval]
  rw [hex, Oper.uponIn_defer, hdst]
  exact h S' a' w' hR hS')
 have := key 0; rw [zia hr] at this
 exact wpIn_wide.1 this)
end Ax
namespace LjE
open Go.RowKit Bv VaSpec Base MemL RegR Ax MemC PutC MemC3 OkS SpA SpB SpC SpF SpH SpI SpJ LaA LaB LaC LaD LaE LaG LiA LiB LiC LiD LiE LiF LjD
open BitsC PteSpec
section
variable {P : Program}
theorem zr8 {k : FuncId} (hk : zb6 P k = true) (args : Array Value) (w : World) : (invoke (.fn (.func k) #[]) args).run P w = .ok (.enter k args) w := by
 unfold zb6 at hk
 split at hk
 · rename_i fn hf; simp only [Bool.and_eq_true, Bool.not_eq_true'] at hk; obtain ⟨h1, h2⟩ := hk; have h2 : ¬ fn.name = "runtime.NumGoroutine" := by simpa using h2
   have h3 : ¬ fn.body = none := fun e => by rw [e] at h1; cases h1
   simp [invoke, callFunc, hf, h2, h3, mark]
 · cases hk
theorem z66 {G : World → Prop} {fn : Func} {bs bs1 : List Ln} {r r1 : AV} {N : Nat} {A : Nat → Prop} {W : World} {τ : Nat → Value} {hG : ∀ w, Kept (fun g => g < W.heap.size ∧ ¬ zqc τ bs g) W w → G w} {k : FuncId} {vals : Array Value} {args : List Cm} {S' : St} {τe : Nat → Value} {a' : Act} {w' : World}
 (s : SimT (z4p N W A G τ bs hG [{ target := .fn (.func k) #[], args := vals }]) S' τe a' w') (nm : Nat → Nat) (hk : zb6 P k = true) (hc : zjh P G k bs1 args r1) (hb : ∀ p ∈ bs1, S'.hp (nm p.1) = .live (.box p.2.1)) (hin : z5k nm bs1 = true) (hok : args.all zpd = true)
 (hR : All2 (Cm.R (env (z4p N W A G τ bs hG [{ target := .fn (.func k) #[], args := vals }]) S'.hp τe w')) (args.map (rnM nm)) vals.toList)
 (hcl : (zcu r && bs.all (fun p => p.2.1.all zbl && p.2.2.all zbl)) = true) (hres : zex N fn.results.toList = true) (hr : zat P fn (S'.app none ⟨r1, upB nm bs1, []⟩) = some r) (hE : EndB (S'.app none ⟨r1, upB nm bs1, []⟩) bs) : bodyPostD P fn (zyf W A τ bs r) .normal a' w' := by
 simp only [Bool.and_eq_true, List.all_eq_true] at hcl; obtain ⟨hcr, hcb⟩ := hcl; have hcb : ∀ p ∈ bs, p.2.1.all zbl = true ∧ p.2.2.all zbl = true := fun p hp => by
  have := hcb p hp; exact ⟨List.all_eq_true.2 this.1, List.all_eq_true.2 this.2⟩
 show Leaves P fn a'.tmps _ a'.defers .returning w'; rw [show a'.defers = [{ target := .fn (.func k) #[], args := vals }] from s.nodef]; refine leaves_cons (by simp) (zr8 hk vals w') ?_; refine ((zr7 (d := none) (rd := []) s hc hb hin hok hR) .returning).mono ?_; rintro e u w2 ⟨rfl, v, rfl, s2⟩; exact finW hcr hcb hres s2 hr hE
end
def prC (sz cd cp addr : Int) (p : List (Int × Int) × Int) : List Ce := [cu sz, .s p.1.length 2 (fl p.1), cu cd, ci cp, cu p.2, cu addr]
section
variable {cd cp sz f sh : Int} {xs : List (Int × Int)} {lv : Int → Int}
theorem z1b (h : TI cd cp sz xs f sh lv) (hn : xs.length ≤ 100000) (t l addr : Int) (q : Pte) (ha : U addr) (ht : cd ≤ t ∧ t < cd + cp) (l0 : 0 ≤ l) (l2 : l ≤ 2) (hg : cd ≤ q.ppn ∧ q.ppn < cd + cp) (R : List (Int × Int) × Int)
 (hR : R = if zec xs q.ppn = true then (zba sz (TableC.za6 xs q.ppn) t (idx addr l) zP, TableC2.zdz cd cp f q.ppn) else (xs, f)) :
 zjh Tryz.prog GG 177 [(2000, prC sz cd cp addr (xs, f), prC sz cd cp addr R)] [.c (.p 2000 0), .ag (zbq t l q)] (.tu []) := by
 have b1 := h.bd; have b2 := h.bp; have he := zu8 h hg; have hb := zwy sz xs cd cp f q.ppn ⟨by omega, by omega⟩ (by omega) h.uf ⟨by omega, by omega⟩ h.s (by omega); have hwl := zee xs q.ppn; have hwu : Uw (TableC.za6 xs q.ppn) := fun c hc => h.u c (zfg hc); have hw := zd9 sz (TableC.za6 xs q.ppn) t l q addr ⟨false, false, false, false, false, false, false, false, 0, 0, 0⟩ ha z17 l0 l2 ⟨by omega, by omega⟩ (zcr _ h.s) hwu (by omega); have hw : Ok 49 [zbm sz (TableC.za6 xs q.ppn), .ag (zbq t l q), iu addr, .ag (⟨false, false, false, false, false, false, false, false, 0, 0, 0⟩ : Pte).ce] (.m (zbm sz (zba sz (TableC.za6 xs q.ppn) t (idx addr l) zP))) := hw; cases c : zec xs q.ppn with
 | true =>
  rw [c] at he; rw [c, if_pos rfl] at hR; subst hR; generalize zba sz (TableC.za6 xs q.ppn) t (idx addr l) zP = ys at *; generalize TableC.za6 xs q.ppn = zs at *; generalize TableC2.zdz cd cp f q.ppn = f2 at *; refine zk1 47 Tryz.func177 rfl rfl rfl rfl rfl ?_; intro W A τ hG
  repeat (first | (refine zai rfl ?_; first | refine zaj ?_ | refine gdr (zaa rfl rfl rfl (he) (by kernel_rfl)) ?_ | refine gdr (zaa rfl rfl rfl (hb) (by kernel_rfl)) ?_ | refine gdr (zaa rfl rfl rfl (hw) (by kernel_rfl)) ?_) | (refine hK _ ?_; clear hK K) | refine zac rfl ?_ | refine zaq (by kernel_rfl) (by kernel_rfl) rfl ?_ | refine zaf rfl rfl ?_ | refine zab (fun K hK => ?_))
  exact ⟨by kernel_rfl, ⟨_, rfl, rfl⟩, trivial⟩
 | false =>
  rw [c] at he; rw [c, if_neg (by simp)] at hR; subst hR; refine zk1 47 Tryz.func177 rfl rfl rfl rfl rfl ?_; intro W A τ hG
  repeat (first | (refine zai rfl ?_; first | refine zaj ?_ | refine gdr (zaa rfl rfl rfl (he) (by kernel_rfl)) ?_) | (refine hK _ ?_; clear hK K) | refine zac rfl ?_ | refine zaq (by kernel_rfl) (by kernel_rfl) rfl ?_ | refine zae rfl rfl ?_ | refine zak ?_ | refine zab (fun K hK => ?_))
  exact ⟨by kernel_rfl, ⟨_, rfl, rfl⟩, trivial⟩
def z67 (t m addr : Int) (sz cd cp : Int) (q : Pte) (p : List (Int × Int) × Int) : St := St.of [(0, .m (.c (.p 2000 0))), (1, .m (iu t)), (2, .m (ii (m + 1))), (6, .m (.c (.p 6 0))), (29, .m (.c (.p 2000 0))), (30, .m (.ag (zbq t (m + 1) q)))] [(6, .live (.box (zbq t (m + 1) q))), (2000, .live (.box (prC sz cd cp addr p)))]
theorem z4q (addr : Int) (ha : U addr) (h : TI cd cp sz xs f sh lv) (hn : xs.length ≤ 100000) : ∀ (l : Nat) (t : Int), l ≤ 2 → Al cd cp f t → lv t = l → (2 ≤ l → idx addr 2 ≠ 511) →
 zby Tryz.prog GG 142 [(2000, prC sz cd cp addr (xs, f), prC sz cd cp addr (prN sz cd cp addr l t (xs, f)))] [.c (.p 2000 0), iu t, ii l] (.tu []) := by
 intro l
 induction l with
 | zero =>
  intro t h2 ht hl hH; have b1 := h.bd; have b2 := h.bp; have bt := ht.1; have hr := zfd sz xs t 0 addr 0 ⟨by omega, by omega⟩ ha (by omega) (by omega) (by omega) h.s h.u; rw [show za0 sz xs addr 0 0 t = (t, 0) from rfl] at hr; have hr : Ok 53 [zbm sz xs, iu t, ii 0, iu addr, ii 0] (.m (.ag (zbq t 0 (atM sz xs t (idx addr 0))))) := hr; have hU := ze5 h.u sz t (idx addr 0); have hk := zgg (atM sz xs t (idx addr 0)); have hbd := zig (atM sz xs t (idx addr 0)) hU 0 (by omega) (by omega); rw [show prN sz cd cp addr 0 t (xs, f) = (xs, f) from rfl]; generalize atM sz xs t (idx addr 0) = q at *; cases c : zbf q with
  | false =>
   rw [c] at hk; refine zb1 38 Tryz.func142 rfl rfl rfl rfl rfl ?_; intro W A τ hG
   repeat (first | (refine zai rfl ?_; first | refine zaj ?_ | refine gdr (zaa rfl rfl rfl (hr) (by kernel_rfl)) ?_ | refine gdr (zaa rfl rfl rfl (hk) (by kernel_rfl)) ?_) | (refine hK _ ?_; clear hK K) | refine zac rfl ?_ | refine zaq (by kernel_rfl) (by kernel_rfl) rfl ?_ | refine zaf rfl rfl ?_ | refine zab (fun K hK => ?_) | refine zah (show zat _ _ _ = some _ ∧ EndB _ _ from ⟨by kernel_rfl, ?_⟩))
   exact ⟨⟨_, rfl, rfl⟩, trivial⟩
  | true =>
   rw [c] at hk; have hb2 : zco q 0 = true := by unfold zco; rw [c]; simp
   rw [hb2] at hbd; refine zb1 38 Tryz.func142 rfl rfl rfl rfl rfl ?_; intro W A τ hG
   repeat (first | (refine zai rfl ?_; first | refine zaj ?_ | refine gdr (zaa rfl rfl rfl (hr) (by kernel_rfl)) ?_ | refine gdr (zaa rfl rfl rfl (hk) (by kernel_rfl)) ?_ | refine gdr (zaa rfl rfl rfl (hbd) (by kernel_rfl)) ?_) | (refine hK _ ?_; clear hK K) | refine zac rfl ?_ | refine zaq (by kernel_rfl) (by kernel_rfl) rfl ?_ | refine zaf rfl rfl ?_ | refine zab (fun K hK => ?_) | refine zah (show zat _ _ _ = some _ ∧ EndB _ _ from ⟨by kernel_rfl, ?_⟩))
   exact ⟨⟨_, rfl, rfl⟩, trivial⟩
 | succ m IH =>
  intro t h2 ht hl hH; have b1 := h.bd; have b2 := h.bp; have bt := ht.1; have hi := idx_bd addr ((m + 1 : Nat) : Int); have hr := zfd sz xs t ((m + 1 : Nat) : Int) addr ((m + 1 : Nat) : Int) ⟨by omega, by omega⟩ ha (by omega) (by omega) (by omega) h.s h.u; rw [show za0 sz xs addr ((m + 1 : Nat) : Int) ((m + 1 : Nat) : Int) t = (t, ((m + 1 : Nat) : Int)) from zkh (by omega) (fun hh => by omega) (by omega)] at hr; have hr : Ok 53 [zbm sz xs, iu t, ii ((m + 1 : Nat) : Int), iu addr, ii ((m + 1 : Nat) : Int)] (.m (.ag (zbq t ((m + 1 : Nat) : Int) (atM sz xs t (idx addr ((m + 1 : Nat) : Int)))))) := hr; have hU := ze5 h.u sz t (idx addr ((m + 1 : Nat) : Int)); have hk := zgg (atM sz xs t (idx addr ((m + 1 : Nat) : Int))); have hbd := zig (atM sz xs t (idx addr ((m + 1 : Nat) : Int))) hU ((m + 1 : Nat) : Int) (by omega) (by omega); cases c : za2 (atM sz xs t (idx addr ((m + 1 : Nat) : Int))) ((m + 1 : Nat) : Int) with
  | false =>
   have hnk : zbf (atM sz xs t (idx addr ((m + 1 : Nat) : Int))) = false := by
    rcases h.e.k t _ hi with e | ⟨_, _, ⟨e, _⟩ | ⟨e, _⟩⟩
    · rw [e]; rfl
    · exact (zbw e).1
    · rw [zb7 e (by omega)] at c; cases c
   rw [hnk] at hk; have hpr : prN sz cd cp addr (m + 1) t (xs, f) = (xs, f) := by unfold prN; rw [c]; rfl
   rw [hpr]; generalize atM sz xs t (idx addr ((m + 1 : Nat) : Int)) = q at *; refine zb1 38 Tryz.func142 rfl rfl rfl rfl rfl ?_; intro W A τ hG
   repeat (first | (refine zai rfl ?_; first | refine zaj ?_ | refine gdr (zaa rfl rfl rfl (hr) (by kernel_rfl)) ?_ | refine gdr (zaa rfl rfl rfl (hk) (by kernel_rfl)) ?_) | (refine hK _ ?_; clear hK K) | refine zac rfl ?_ | refine zaq (by kernel_rfl) (by kernel_rfl) rfl ?_ | refine zaf rfl rfl ?_ | refine zab (fun K hK => ?_) | refine zah (show zat _ _ _ = some _ ∧ EndB _ _ from ⟨by kernel_rfl, ?_⟩))
   exact ⟨⟨_, rfl, rfl⟩, trivial⟩
  | true =>
   obtain ⟨k1, k2, k3, k4, k5⟩ := zh3 h hi c; have hls : lv (atM sz xs t (idx addr ((m + 1 : Nat) : Int))).ppn = (m : Int) := by rw [k4, hl]; omega
   have hIH := IH _ (by omega) k5 hls (fun hh => by omega); have P := zgq addr h m _ (by omega) k5 hls (fun hh => by omega); have hbw := z1b P.t (Nat.le_trans P.n hn) t ((m + 1 : Nat) : Int) addr (atM sz xs t (idx addr ((m + 1 : Nat) : Int))) ha bt (by omega) (by omega) k5.1 _ rfl; have hpr : prN sz cd cp addr (m + 1) t (xs, f) = if zec (prN sz cd cp addr m (atM sz xs t (idx addr ((m + 1 : Nat) : Int))).ppn (xs, f)).1 (atM sz xs t (idx addr ((m + 1 : Nat) : Int))).ppn = true then (zba sz (TableC.za6 (prN sz cd cp addr m (atM sz xs t (idx addr ((m + 1 : Nat) : Int))).ppn (xs, f)).1 (atM sz xs t (idx addr ((m + 1 : Nat) : Int))).ppn) t (idx addr ((m + 1 : Nat) : Int)) zP, TableC2.zdz cd cp (prN sz cd cp addr m (atM sz xs t (idx addr ((m + 1 : Nat) : Int))).ppn (xs, f)).2 (atM sz xs t (idx addr ((m + 1 : Nat) : Int))).ppn) else ((prN sz cd cp addr m (atM sz xs t (idx addr ((m + 1 : Nat) : Int))).ppn (xs, f)).1, (prN sz cd cp addr m (atM sz xs t (idx addr ((m + 1 : Nat) : Int))).ppn (xs, f)).2) := by
    conv => lhs; unfold prN
    rw [if_pos (show za2 (atM sz (xs, f).1 t (idx addr ((m + 1 : Nat) : Int))) ((m + 1 : Nat) : Int) = true from c)]
   rw [← hpr] at hbw; rw [(za8 k1).1] at hk; have hnb : zco (atM sz xs t (idx addr ((m + 1 : Nat) : Int))) ((m + 1 : Nat) : Int) = false := by
    unfold za2 at c; simp only [Bool.and_eq_true, Bool.not_eq_true'] at c; exact c.2
   rw [hnb] at hbd; clear hpr P IH; generalize prN sz cd cp addr (m + 1) t (xs, f) = p2 at *; generalize prN sz cd cp addr m (atM sz xs t (idx addr ((m + 1 : Nat) : Int))).ppn (xs, f) = p1 at *; generalize atM sz xs t (idx addr ((m + 1 : Nat) : Int)) = q at *; have hIH : zby Tryz.prog GG 142 [(2000, prC sz cd cp addr (xs, f), prC sz cd cp addr p1)] [.c (.p 2000 0), iu q.ppn, ii (((m + 1 : Nat) : Int) - 1)] (.tu []) := by
    rw [show ((m + 1 : Nat) : Int) - 1 = (m : Int) by omega]; exact hIH
   have hcast : ((m + 1 : Nat) : Int) = (m : Int) + 1 := by omega
   rw [hcast] at hr hbd hIH hbw ⊢; refine zr6 38 Tryz.func142 rfl rfl rfl rfl ?_; intro W A τ hG; refine zcz (fun K hK => ?_)
   repeat (first | (refine zai rfl ?_; first | refine zaj ?_ | refine gdr (zaa rfl rfl rfl (hr) (by kernel_rfl)) ?_) | (refine hK _ ?_; clear hK K) | refine zaq (by kernel_rfl) (by kernel_rfl) rfl ?_)
   refine zcz (fun K hK => ?_)
   repeat (first | (refine zai rfl ?_; first | refine zaj ?_ | refine gdr (zaa rfl rfl rfl (hk) (by kernel_rfl)) ?_ | refine gdr (zaa rfl rfl rfl (hbd) (by kernel_rfl)) ?_) | (refine hK _ ?_; clear hK K) | refine zac rfl ?_ | refine zae rfl rfl ?_ | refine zak ?_ | refine zab (fun K hK => ?_))
   refine zyg (R := fun S' => Sub (cxW 38 W A GG τ _ hG) S' (z67 t m addr sz cd cp q (xs, f))) 2 (by rfl) (by rfl) (by rfl) (by rfl) (by rfl) (by rfl) (by rfl) ?_ ?_
   · skip
     repeat (first | (refine zai rfl ?_; first | refine zaj ?_))
     exact sbq _ _
   intro S' a w hsub hS'; obtain ⟨τe, s⟩ := hsub a w hS'; have hnd : a.defers = [] := s.nodef; have e29 : Cm.R _ (.c (.p 2000 0)) (a.tmps.getD 29 undef) := s.tm 29 (by show 29 < 38; decide)
   have e30 : Cm.R _ (.ag (zbq t ((m : Int) + 1) q)) (a.tmps.getD 30 undef) := s.tm 30 (by show 30 < 38; decide)
   have ep := (s.pin (2000, τ 2000) (by simp [cxW])).2; have hdf : ({ target := .fn (.func 177) #[], args := #[Operand.tmp 29, Operand.tmp 30].map a.eval } : Deferred) = { target := .fn (.func 177) #[], args := #[a.tmps.getD 29 undef, a.tmps.getD 30 undef] } := by simp [Act.eval]
   rw [hdf, hnd]; generalize a.tmps.getD 29 undef = v29 at *; generalize a.tmps.getD 30 undef = v30 at *; have s' : SimT (z4p 38 W A GG τ _ hG [{ target := .fn (.func 177) #[], args := #[v29, v30] }]) (z67 t m addr sz cd cp q (xs, f)) τe { a with defers := [{ target := .fn (.func 177) #[], args := #[v29, v30] }] } w := ⟨s.size, rfl, s.bel, s.tm, s.hp, s.own, s.sep, s.one, s.pin⟩; refine wp_mono (zuw (Q := fun e S'' => e = .normal ∧ Sub (z4p 38 W A GG τ _ hG [{ target := .fn (.func 177) #[], args := #[v29, v30] }]) S'' (St.of [] [(2000, .live (.box (prC sz cd cp addr p1)))])) rfl ?_ ⟨τe, s'⟩) ?_
   · skip
     repeat (first | (refine zai rfl ?_; first | refine zaj ?_ | refine gdr (zev (fun _ => 2000) hIH rfl rfl (by kernel_rfl) rfl ⟨rfl, trivial⟩ (by kernel_rfl)) ?_) | refine zac rfl ?_)
     exact ⟨rfl, zaw _ _ trivial ⟨by kernel_rfl, trivial⟩ (by kernel_rfl)⟩
   intro e a2 w2 ⟨S2, ⟨he, hs2⟩, hS2⟩; subst he; obtain ⟨τ2, t2⟩ := hs2 a2 w2 hS2; have ep2 := (t2.pin (2000, τ 2000) (by simp [z4p, cxW])).2; have hin2 := (t2.pin (2000, τ 2000) (by simp [z4p, cxW])).1; refine z66 t2 (fun _ => 2000) (by kernel_rfl) hbw (by intro p hp; simp at hp; subst hp; rfl) (by kernel_rfl) (by kernel_rfl) ?_ (by kernel_rfl) (by kernel_rfl) (by kernel_rfl) ⟨⟨_, rfl, rfl⟩, trivial⟩
   obtain ⟨_, g, i1, i2⟩ := e29; exact ⟨⟨hin2, g, by rw [← i1]; exact ep2.trans ep.symm, i2⟩, zzt _ _ (by kernel_rfl) e30, trivial⟩
end
end LjE
namespace LkB
open Go.RowKit Bv VaSpec MemL RegR Ax LkA
section
variable {cd cp sz f sh : Int} {xs : List (Int × Int)} {lv : Int → Int}
end
end LkB
namespace LkC
open Go.RowKit Bv MemL RegR Ax LkA LkB
end LkC
namespace LkD
open Go.RowKit Bv MemL RegR Ax LkA LkB LkC
end LkD
namespace LjA
open Go.RowKit Bv VaSpec Base MemL RegR Ax MemC PutC MemC3 OkS SpA SpB SpC SpD SpE SpH SpI SpJ SpN SpO RfC RfD RlA RlB LaA LaB LaC LaD LaE LaF LaG LaH LiA LiB LiC LiE
open PteSpec
theorem z1c (a : Int) : Ok 135 [iu a] (.m (.ag [cb true, cu a, cb false, cu 0])) := by
 refine zad 5 Tryz.func135 rfl rfl rfl rfl ?_ GG.to; intro W A hG
 repeat (first | (refine zai rfl ?_; first | refine zaj ?_) | (refine hK _ ?_; clear hK K) | refine zac rfl ?_ | exact zah (show zat _ _ _ = some _ by kernel_rfl) | refine zab (fun K hK => ?_))
theorem z68 (n a : Int) : Ok 137 [iu n, iu a] (.m (.ag [cb true, cu a, cb true, cu n])) := by
 refine zad 8 Tryz.func137 rfl rfl rfl rfl ?_ GG.to; intro W A hG
 repeat (first | (refine zai rfl ?_; first | refine zaj ?_) | (refine hK _ ?_; clear hK K) | refine zac rfl ?_ | exact zah (show zat _ _ _ = some _ by kernel_rfl) | refine zab (fun K hK => ?_))
theorem z4r (n a : Int) : zby Tryz.prog GG 136 [spB 2000 [cu n]] [iu a, .c (.p 2000 0)] (.m (.ag [cb true, cu a, cb true, cu n])) := by
 refine zb1 7 Tryz.func136 rfl rfl rfl rfl rfl ?_; intro W A τ hG
 repeat (first | (refine zai rfl ?_; first | refine zaj ?_ | refine gdr (zaa rfl rfl rfl (z68 n a) rfl) ?_) | (refine hK _ ?_; clear hK K) | refine zac rfl ?_ | refine zab (fun K hK => ?_) | refine zah (show zat _ _ _ = some _ ∧ EndB _ _ from ⟨by kernel_rfl, ?_⟩))
 exact ⟨⟨_, rfl, rfl⟩, trivial⟩
theorem ztl {a l : Int} (ha : U a) (l0 : 0 ≤ l) (l2 : l ≤ 2) : U (VaSpec.base a l) := by
 obtain ⟨a0, a1⟩ := ha; unfold VaSpec.base; rcases (by omega : l = 0 ∨ l = 1 ∨ l = 2) with rfl | rfl | rfl
 · simp only [show VaSpec.sz 0 = 4096 from rfl]; exact ⟨by omega, by omega⟩
 · simp only [show VaSpec.sz 1 = 2097152 from rfl]; exact ⟨by omega, by omega⟩
 · simp only [show VaSpec.sz 2 = 1073741824 from rfl]; exact ⟨by omega, by omega⟩
theorem zp1 (sz : Int) (xs : List (Int × Int)) (t l : Int) (q : Pte) (a : Int) (ha : U a) (hs : Srt xs) (hu : Uw xs) (hq : 0 ≤ q.ppn ∧ q.ppn < 17592186044416) (l0 : 0 ≤ l) (l2 : l ≤ 2) (hl : zbf q = true → 1 ≤ l) :
 Ok 75 [zbm sz xs, .ag (zbq t l q), iu a] (.m (.c (.s (zax sz xs l q (VaSpec.base a l)).length 8 (flP (zax sz xs l q (VaSpec.base a l)))))) := by
 have hbU : U (VaSpec.base a l) := ztl ha l0 l2; have h1 := zgj q; have h2 := zgg q; have h3 := zng q; have h5 := zhs a l ha l0 l2; cases hlf : zas q with
 | true =>
  have e : zax sz xs l q (VaSpec.base a l) = [⟨VaSpec.base a l, q.ppn * 4096, l, q.r, q.w, q.x, q.u, q.d⟩] := by unfold zax; rw [hlf]; rfl
  rw [e, znf]; rw [hlf] at h1; refine zad 45 Tryz.func75 rfl rfl rfl rfl ?_ GG.to; intro W A hG
  repeat (first | (refine zai rfl ?_; first | refine zaj ?_ | refine gdr (zaa rfl rfl rfl (h1) (by kernel_rfl)) ?_ | refine gdr (zaa rfl rfl rfl (h3) (by kernel_rfl)) ?_ | refine gdr (zaa rfl rfl rfl (h5) (by kernel_rfl)) ?_) | (refine hK _ ?_; clear hK K) | refine zac rfl ?_ | refine zaq (by kernel_rfl) (by kernel_rfl) rfl ?_ | exact zah (show zat _ _ _ = some _ by kernel_rfl) | refine zaf rfl rfl ?_ | refine zag ?_ | refine zab (fun K hK => ?_))
 | false =>
  rw [hlf] at h1; cases hlk : zbf q with
  | true =>
   rw [hlk] at h2; have e : zax sz xs l q (VaSpec.base a l) = za7 sz xs (l - 1).toNat q.ppn (VaSpec.base a l) := by unfold zax; rw [hlf, hlk]; rfl
   rw [e]; rcases (by have := hl hlk; omega : l = 1 ∨ l = 2) with rfl | rfl
   · have h4 := zrr sz xs hs hu q.ppn (VaSpec.base a 1) hq hbU; rw [show ((1 : Int) - 1).toNat = 0 by decide]; refine zad 45 Tryz.func75 rfl rfl rfl rfl ?_ GG.to; intro W A hG
     repeat (first | (refine zai rfl ?_; first | refine zaj ?_ | refine gdr (zaa rfl rfl rfl (h1) (by kernel_rfl)) ?_ | refine gdr (zaa rfl rfl rfl (h2) (by kernel_rfl)) ?_ | refine gdr (zaa rfl rfl rfl (h4) (by kernel_rfl)) ?_ | refine gdr (zaa rfl rfl rfl (h5) (by kernel_rfl)) ?_) | (refine hK _ ?_; clear hK K) | refine zac rfl ?_ | refine zaq (by kernel_rfl) (by kernel_rfl) rfl ?_ | exact zah (show zat _ _ _ = some _ by kernel_rfl) | refine zaf rfl rfl ?_ | refine zae rfl rfl ?_ | refine zag ?_ | refine zab (fun K hK => ?_))
   · have h4 := znn sz xs hs hu q.ppn (VaSpec.base a 2) hq hbU; rw [show ((2 : Int) - 1).toNat = 1 by decide]; refine zad 45 Tryz.func75 rfl rfl rfl rfl ?_ GG.to; intro W A hG
     repeat (first | (refine zai rfl ?_; first | refine zaj ?_ | refine gdr (zaa rfl rfl rfl (h1) (by kernel_rfl)) ?_ | refine gdr (zaa rfl rfl rfl (h2) (by kernel_rfl)) ?_ | refine gdr (zaa rfl rfl rfl (h4) (by kernel_rfl)) ?_ | refine gdr (zaa rfl rfl rfl (h5) (by kernel_rfl)) ?_) | (refine hK _ ?_; clear hK K) | refine zac rfl ?_ | refine zaq (by kernel_rfl) (by kernel_rfl) rfl ?_ | exact zah (show zat _ _ _ = some _ by kernel_rfl) | refine zaf rfl rfl ?_ | refine zae rfl rfl ?_ | refine zag ?_ | refine zab (fun K hK => ?_))
  | false =>
   rw [hlk] at h2; have e : zax sz xs l q (VaSpec.base a l) = [] := by unfold zax; rw [hlf, hlk]; rfl
   rw [e]; refine zd2 (r := .m (.c (.v (.slice none 0 0)))) ?_ rfl (zkr 8); refine zad 45 Tryz.func75 rfl rfl rfl rfl ?_ GG.to; intro W A hG
   repeat (first | (refine zai rfl ?_; first | refine zaj ?_ | refine gdr (zaa rfl rfl rfl (h1) (by kernel_rfl)) ?_ | refine gdr (zaa rfl rfl rfl (h2) (by kernel_rfl)) ?_) | (refine hK _ ?_; clear hK K) | refine zac rfl ?_ | exact zah (show zat _ _ _ = some _ by kernel_rfl) | refine zae rfl rfl ?_ | refine zag ?_ | refine zak ?_ | refine zab (fun K hK => ?_))
theorem zyh (sz : Int) (xs : List (Int × Int)) (t l : Int) (q : Pte) (a : Int) (ha : U a) (hs : Srt xs) (hu : Uw xs) (hn : xs.length ≤ 1000000) (hq : 0 ≤ q.ppn ∧ q.ppn < 17592186044416) (l0 : 0 ≤ l) (l2 : l ≤ 2) (hl : zbf q = true → 1 ≤ l) :
 Ok 89 [zbm sz xs, .ag (zbq t l q), iu a] (.m (.c (.s (zax sz xs l q (a)).length 8 (flP (zax sz xs l q (a)))))) := by
 have hbU : U (a) := by exact ha
 have h1 := zth q; have h2 := ztc q; have h3 := zti q; cases hlf : zas q with
 | true =>
  have e : zax sz xs l q (a) = [⟨a, 4096 * q.ppn, l, q.r, q.w, q.x, q.u, q.d⟩] := by unfold zax; rw [hlf]; rw [Int.mul_comm]; rfl
  rw [e, znf]; rw [hlf] at h1; refine zad 37 Tryz.func89 rfl rfl rfl rfl ?_ GG.to; intro W A hG
  repeat (first | (refine zai rfl ?_; first | refine zaj ?_ | refine gdr (zaa rfl rfl rfl (h1) (by kernel_rfl)) ?_ | refine gdr (zaa rfl rfl rfl (h3) (by kernel_rfl)) ?_) | (refine hK _ ?_; clear hK K) | refine zac rfl ?_ | refine zaq (by kernel_rfl) (by kernel_rfl) rfl ?_ | exact zah (show zat _ _ _ = some _ by kernel_rfl) | refine zaf rfl rfl ?_ | refine zab (fun K hK => ?_))
 | false =>
  rw [hlf] at h1; cases hlk : zbf q with
  | true =>
   rw [hlk] at h2; have e : zax sz xs l q (a) = za7 sz xs (l - 1).toNat q.ppn (a) := by unfold zax; rw [hlf, hlk]; rfl
   rw [e]; rcases (by have := hl hlk; omega : l = 1 ∨ l = 2) with rfl | rfl
   · have h4 := ztj sz xs hs hu hn q.ppn (a) hq hbU; rw [show ((1 : Int) - 1).toNat = 0 by decide]; refine zad 37 Tryz.func89 rfl rfl rfl rfl ?_ GG.to; intro W A hG
     repeat (first | (refine zai rfl ?_; first | refine zaj ?_ | refine gdr (zaa rfl rfl rfl (h1) (by kernel_rfl)) ?_ | refine gdr (zaa rfl rfl rfl (h2) (by kernel_rfl)) ?_ | refine gdr (zaa rfl rfl rfl (h4) (by kernel_rfl)) ?_) | (refine hK _ ?_; clear hK K) | refine zac rfl ?_ | exact zah (show zat _ _ _ = some _ by kernel_rfl) | refine zaf rfl rfl ?_ | refine zae rfl rfl ?_ | refine zak ?_ | refine zab (fun K hK => ?_))
   · have h4 := z06 sz xs hs hu hn q.ppn (a) hq hbU; rw [show ((2 : Int) - 1).toNat = 1 by decide]; refine zad 37 Tryz.func89 rfl rfl rfl rfl ?_ GG.to; intro W A hG
     repeat (first | (refine zai rfl ?_; first | refine zaj ?_ | refine gdr (zaa rfl rfl rfl (h1) (by kernel_rfl)) ?_ | refine gdr (zaa rfl rfl rfl (h2) (by kernel_rfl)) ?_ | refine gdr (zaa rfl rfl rfl (h4) (by kernel_rfl)) ?_) | (refine hK _ ?_; clear hK K) | refine zac rfl ?_ | exact zah (show zat _ _ _ = some _ by kernel_rfl) | refine zaf rfl rfl ?_ | refine zae rfl rfl ?_ | refine zak ?_ | refine zab (fun K hK => ?_))
  | false =>
   rw [hlk] at h2; have e : zax sz xs l q (a) = [] := by unfold zax; rw [hlf, hlk]; rfl
   rw [e]; refine zd2 (r := .m (.c (.v (.slice none 0 0)))) ?_ rfl (zkr 8); refine zad 37 Tryz.func89 rfl rfl rfl rfl ?_ GG.to; intro W A hG
   repeat (first | (refine zai rfl ?_; first | refine zaj ?_ | refine gdr (zaa rfl rfl rfl (h1) (by kernel_rfl)) ?_ | refine gdr (zaa rfl rfl rfl (h2) (by kernel_rfl)) ?_) | (refine hK _ ?_; clear hK K) | refine zac rfl ?_ | exact zah (show zat _ _ _ = some _ by kernel_rfl) | refine zae rfl rfl ?_ | refine zak ?_ | refine zab (fun K hK => ?_))
theorem zr9 {n : Nat} {k : Kr} {id a l : Int} (h : InvT n k) (he : (zal k id a l).2.2 = 0) : ∃ (l' : Nat) (t' : Int), za0 k.sz k.m a l (zal k id a l).2.1 (zal k id a l).1 = (t', (l' : Int)) ∧ l' ≤ 2 ∧ l ≤ (l' : Int) ∧ Al k.cd k.cp k.pf t' ∧ (zbf (atM k.sz k.m t' (idx a (l' : Int))) = true → 1 ≤ (l' : Int)) := by
 obtain ⟨lv, hT, hs, hr⟩ := h.t; obtain ⟨w1, w2, w3, w4⟩ := zbd (id := id) (a := a) (l := l) h.l he; obtain ⟨z1, _⟩ := h.top (id := id) (a := a) (l := l) he hs hr; generalize zal k id a l = w at *; obtain ⟨l', t', i1, i2, i3, i4, i5, i6, _⟩ := zci hT a l w1.1 w.2.1.toNat w.1 w2 (by omega) (by omega); refine ⟨l', t', i1, by omega, i3, i4, fun hlk => ?_⟩; rcases hT.e.k t' _ (idx_bd a (l' : Int)) with e | ⟨_, _, ⟨e, _⟩ | ⟨_, e, _⟩⟩
 · rw [e] at hlk; cases hlk
 · rw [(zbw e).1] at hlk; cases hlk
 · omega
theorem z2i {n : Nat} {k : Kr} (h : InvT n k) (hn : n ≤ 90000) (id a l : Int) (ha : U a) : Ok 33 [.ag k.ce, ii id, iu a, ii l] (.m (.c (.s (inR k id a l).length 8 (flP (inR k id a l))))) := by
 have hw := zjd k id a l ha; unfold inR; by_cases c0 : (zal k id a l).2.2 = 0; rotate_left
 · rw [if_pos c0]; generalize zal k id a l = w at *; refine zd2 (r := .m (.c (.v (.slice none 0 0)))) ?_ rfl (zkr 8); refine zad 34 Tryz.func33 rfl rfl rfl rfl ?_ GG.to; intro W A hG
   repeat (first | (refine zai rfl ?_; first | refine zaj ?_ | refine gdr (zaa rfl rfl rfl (hw) (by kernel_rfl)) ?_) | (refine hK _ ?_; clear hK K) | refine zac rfl ?_ | exact zah (show zat _ _ _ = some _ by kernel_rfl) | refine zaf rfl rfl ?_ | refine zab (fun K hK => ?_))
 rw [if_neg (by omega)]; obtain ⟨w1, w2, w3, w4⟩ := zbd (id := id) (a := a) (l := l) h.l c0; obtain ⟨l', t', e1, e2, e3, e4, e5⟩ := zr9 (id := id) (a := a) (l := l) h c0; rw [c0] at hw; have b1 := h.l.g.bd; have b2 := h.l.g.bp; have f1 := w2.1; have hre := zfd k.sz k.m (zal k id a l).1 (zal k id a l).2.1 a l ⟨by omega, by omega⟩ ha (by omega) (by omega) w1.1 h.l.g.s h.l.g.u; rw [e1] at hre ⊢; have hre : Ok 53 [zbm k.sz k.m, iu (zal k id a l).1, ii (zal k id a l).2.1, iu a, ii l] (.m (.ag (zbq t' (l' : Int) (atM k.sz k.m t' (idx a (l' : Int)))))) := hre; have hun := zp1 k.sz k.m t' (l' : Int) (atM k.sz k.m t' (idx a (l' : Int))) a ha h.l.g.s h.l.g.u (zdo ..) (by omega) (by omega) e5; show Ok _ _ (.m (.c (.s (zax k.sz k.m (l' : Int) (atM k.sz k.m t' (idx a (l' : Int))) (VaSpec.base a (l' : Int))).length 8 (flP (zax k.sz k.m (l' : Int) (atM k.sz k.m t' (idx a (l' : Int))) (VaSpec.base a (l' : Int))))))); generalize zax k.sz k.m (l' : Int) (atM k.sz k.m t' (idx a (l' : Int))) (VaSpec.base a (l' : Int)) = U0 at *; generalize atM k.sz k.m t' (idx a (l' : Int)) = q at *; generalize (zal k id a l).1 = top at *; generalize (zal k id a l).2.1 = lv at *; refine zad 34 Tryz.func33 rfl rfl rfl rfl ?_ GG.to; intro W A hG
 repeat (first | (refine zai rfl ?_; first | refine zaj ?_ | refine gdr (zaa rfl rfl rfl (hw) (by kernel_rfl)) ?_ | refine gdr (zaa rfl rfl rfl (hre) (by kernel_rfl)) ?_ | refine gdr (zaa rfl rfl rfl (hun) (by kernel_rfl)) ?_) | (refine hK _ ?_; clear hK K) | refine zac rfl ?_ | refine zaq (by kernel_rfl) (by kernel_rfl) rfl ?_ | exact zah (show zat _ _ _ = some _ by kernel_rfl) | refine zae rfl rfl ?_ | refine zak ?_ | refine zab (fun K hK => ?_))
def z8p (k : Kr) (a t l : Int) (q : Pte) (i : Int) : St := St.of [(2, .m (iu a)), (4, .m (.c (.p 4 0))), (8, .m (.c (.v (.slice none 0 0)))), (12, .m (.c (.p 12 0))), (13, .m (iu (VaSpec.sz i))), (14, .m (ii i))] [(4, .live (.box k.ce)), (12, .live (.box (zbq t l q)))]
theorem zyi {n : Nat} {k : Kr} (h : InvT n k) (hn : n ≤ 90000) (id a l : Int) (ha : U a) : Ok 40 [.ag k.ce, ii id, iu a, ii l] (.m (.c (.s (inR k id a l).length 8 (flP (inR k id a l))))) := by
 have hw := zx4 k id a l ha; have hml := h.l.ml; unfold inR; by_cases c0 : (zal k id a l).2.2 = 0; rotate_left
 · rw [if_pos c0]; generalize zal k id a l = w at *; refine zd2 (r := .m (.c (.v (.slice none 0 0)))) ?_ rfl (zkr 8); refine zad 50 Tryz.func40 rfl rfl rfl rfl ?_ GG.to; intro W A hG
   repeat (first | (refine zai rfl ?_; first | refine zaj ?_ | refine gdr (zaa rfl rfl rfl (hw) (by kernel_rfl)) ?_) | (refine hK _ ?_; clear hK K) | refine zac rfl ?_ | exact zah (show zat _ _ _ = some _ by kernel_rfl) | refine zaf rfl rfl ?_ | refine zab (fun K hK => ?_))
 rw [if_neg (by omega)]; obtain ⟨w1, w2, w3, w4⟩ := zbd (id := id) (a := a) (l := l) h.l c0; obtain ⟨l', t', e1, e2, e3, e4, e5⟩ := zr9 (id := id) (a := a) (l := l) h c0; rw [c0] at hw; have b1 := h.l.g.bd; have b2 := h.l.g.bp; have f1 := w2.1; obtain ⟨lw, hlw⟩ := Int.eq_ofNat_of_zero_le (show 0 ≤ (zal k id a l).2.1 by omega); have hre0 := zpy k.sz k.m a l ha w1.1 h.l.g.s h.l.g.u (by omega) lw (zal k id a l).1 (by omega) ⟨by omega, by omega⟩; rw [← hlw] at hre0; have e1' : zao k.sz k.m a l lw (zal k id a l).1 = (t', (l' : Int)) := by rw [← e1]; unfold za0; rw [hlw, Int.toNat_natCast]
 rw [e1'] at hre0; rw [e1]; have hre : Ok 88 [zbm k.sz k.m, iu (zal k id a l).1, ii (zal k id a l).2.1, iu a, ii l] (.m (.ag (zbq t' (l' : Int) (atM k.sz k.m t' (idx a (l' : Int)))))) := hre0; clear hre0; have hbU := ztl (l := (l' : Int)) ha (by omega) (by omega); have hun := zyh k.sz k.m t' (l' : Int) (atM k.sz k.m t' (idx a (l' : Int))) (VaSpec.base a (l' : Int)) hbU h.l.g.s h.l.g.u (by omega) (zdo ..) (by omega) (by omega) e5; show Ok _ _ (.m (.c (.s (zax k.sz k.m (l' : Int) (atM k.sz k.m t' (idx a (l' : Int))) (VaSpec.base a (l' : Int))).length 8 (flP (zax k.sz k.m (l' : Int) (atM k.sz k.m t' (idx a (l' : Int))) (VaSpec.base a (l' : Int))))))); have hbe : VaSpec.base a (l' : Int) = a - a % VaSpec.sz (l' : Int) := rfl; generalize zax k.sz k.m (l' : Int) (atM k.sz k.m t' (idx a (l' : Int))) (VaSpec.base a (l' : Int)) = U0 at *; generalize atM k.sz k.m t' (idx a (l' : Int)) = q at *; generalize (zal k id a l).1 = top at *; generalize (zal k id a l).2.1 = lv at *; rw [hbe] at hun hbU; have ha0 := ha.1; have ha1 := ha.2; have hu0 := hbU.1; have hu1 := hbU.2; refine zad 50 Tryz.func40 rfl rfl rfl rfl ?_ GG.to; intro W A hG
 repeat (first | (refine zai rfl ?_; first | refine zaj ?_ | refine gdr (zaa rfl rfl rfl (hw) (by kernel_rfl)) ?_ | refine gdr (zaa rfl rfl rfl (hre) (by kernel_rfl)) ?_) | (refine hK _ ?_; clear hK K) | refine zac rfl ?_ | refine zae rfl rfl ?_ | refine zag ?_ | refine zak ?_ | refine zab (fun K hK => ?_))
 refine za1 (α := Nat) (fun i => i ≤ l') (fun i => z8p k a t' (l' : Int) q (i : Int)) (fun i => l' - i) 0 (by omega) (sbq _ _) ?_; intro i hi; show Aw _ _ _ _ (z8p k a t' (l' : Int) q (i : Int)); unfold z8p; by_cases hlt : i < l'
 · rcases (by omega : i = 0 ∨ i = 1) with rfl | rfl
   · skip
     repeat (first | (refine zai rfl ?_; first | refine zaj ?_) | (refine hK _ ?_; clear hK K) | refine zac rfl ?_ | refine zaf rfl rfl ?_ | refine zag ?_ | refine zak ?_ | refine zab (fun K hK => ?_))
     exact ⟨1, by omega, by omega, sbq _ _⟩
   · skip
     repeat (first | (refine zai rfl ?_; first | refine zaj ?_) | (refine hK _ ?_; clear hK K) | refine zac rfl ?_ | refine zaf rfl rfl ?_ | refine zag ?_ | refine zak ?_ | refine zab (fun K hK => ?_))
     exact ⟨2, by omega, by omega, sbq _ _⟩
 · obtain rfl : i = l' := by omega
   have hzp := VaSpec.sz_pos (i : Int); generalize VaSpec.sz (i : Int) = z at *
   repeat (first | (refine zai rfl ?_; first | refine zaj ?_ | refine gdr (zaa rfl rfl rfl (hun) (by kernel_rfl)) ?_) | (refine hK _ ?_; clear hK K) | (rename_i K1 hK1; refine hK1 _ ?_; clear hK hK1; clear K) | refine zac rfl ?_ | refine zaq (by kernel_rfl) (by kernel_rfl) rfl ?_ | exact zah (show zat _ _ _ = some _ by kernel_rfl) | refine zae rfl rfl ?_ | refine zar ?_ | refine zab (fun K hK => ?_))
def z4s (k : Kr) (id n : Int) (l : List Pg) (i m : Nat) (vs : List Value) : St := St.of [(6, .m (.c (.v (.slice none 0 0)))), (7, .m (.c (.v (.func (.func 135) #[] #[])))), (10, .m (.c (.o 1000))), (30, .m (.c (.s l.length 8 (flP l)))), (31, .m (ii l.length)), (32, .m (ii i))] [(1000, .live (.row 141 4 m vs))]
theorem zyj (k : Kr) (id : Int) (l : List Pg) (hid : id = -1) (hl : l.length ≤ 134217728) : Ok 73 [.ag k.ce, ii id, .c (.s l.length 8 (flP l))] (.m (.c (.s (zgv k id l).length 4 (flF (zgv k id l))))) := by
 by_cases c : 16 < l.length
 · have e : zgv k id l = [⟨false, 0, false, 0⟩] := by unfold zgv z01; rw [if_pos c, if_pos hid]
   rw [e]; refine zad 45 Tryz.func73 rfl rfl rfl rfl ?_ GG.to; intro W A hG
   repeat (first | (refine zai rfl ?_; first | refine zaj ?_) | (refine hK _ ?_; clear hK K) | refine zac rfl ?_ | exact zah (show zat _ _ _ = some _ by kernel_rfl) | refine zaf rfl rfl ?_ | refine zae rfl rfl ?_ | refine zak ?_ | refine zab (fun K hK => ?_))
 · have e : zgv k id l = l.map (zdi id (zcw k id).asid) := by unfold zgv; rw [if_neg c]
   rw [e]; obtain ⟨N, hN⟩ : ∃ N, N = (l.map (zdi id (zcw k id).asid)).length := ⟨_, rfl⟩; obtain ⟨XS, hXS⟩ : ∃ XS, XS = flF (l.map (zdi id (zcw k id).asid)) := ⟨_, rfl⟩; rw [← hN, ← hXS]; refine zad 45 Tryz.func73 rfl rfl rfl rfl ?_ GG.to; intro W A hG
   repeat (first | (refine zai rfl ?_; first | refine zaj ?_) | (refine hK _ ?_; clear hK K) | refine zac rfl ?_ | refine zae rfl rfl ?_ | refine zag ?_ | refine zak ?_ | refine zab (fun K hK => ?_))
   refine za1 (α := Nat × Nat × List Value) (fun q => q.1 ≤ l.length ∧ q.2.1 = ((l.take q.1).map (zdi id (zcw k id).asid)).length ∧ q.2.2 = flF ((l.take q.1).map (zdi id (zcw k id).asid))) (fun q => z4s k id (zcw k id).asid l q.1 q.2.1 q.2.2) (fun q => l.length - q.1) (0, 0, []) ⟨Nat.zero_le _, rfl, rfl⟩ (Sub.trans (zg7 10 1000 141 4 rfl rfl) (sbq _ _)) ?_; rintro ⟨i, m, vs⟩ ⟨x1, x2, x3⟩; have g1 : i ≤ l.length := x1; have g2 : m = ((l.take i).map (zdi id (zcw k id).asid)).length := x2; have g3 : vs = flF ((l.take i).map (zdi id (zcw k id).asid)) := x3; show Aw _ _ _ _ (z4s k id (zcw k id).asid l i m vs); unfold z4s; by_cases hlt : i < l.length
   · obtain ⟨p, hp⟩ : ∃ p, l[i]? = some p := ⟨_, List.getElem?_eq_getElem hlt⟩; have hx : ((flP l).drop (i * 8)).take 8 = [.int .u64 p.va, .int .u64 p.pa, .int .i64 p.lev, .bool p.r, .bool p.w, .bool p.x, .bool p.u, .bool p.d] := zmi hp; have hm : m ≤ i := by rw [g2, List.length_map, List.length_take]; omega
     have et : (l.take (i + 1)).map (zdi id (zcw k id).asid) = (l.take i).map (zdi id (zcw k id).asid) ++ [(⟨true, p.va, false, 0⟩ : Fe)] := by
      rw [List.take_add_one, hp, List.map_append]; show _ ++ [zdi id (zcw k id).asid p] = _; unfold zdi; rw [if_pos hid]
     have hn1 : m + 1 = ((l.take (i + 1)).map (zdi id (zcw k id).asid)).length := by rw [et, List.length_append, ← g2]; rfl
     have hv1 : vs ++ ((⟨true, p.va, false, 0⟩ : Fe)).vs = flF ((l.take (i + 1)).map (zdi id (zcw k id).asid)) := by
      rw [et, g3]; unfold flF; rw [List.flatMap_append]; simp
     clear g2 g3 x2 x3 hN hXS
     repeat (first | (refine zai rfl ?_; first | refine zaj ?_ | refine gdr (zf1 rfl rfl rfl rfl (z1c p.va) rfl) ?_) | (refine hK _ ?_; clear hK K) | refine zac rfl ?_ | refine zaf rfl rfl ?_ | refine zag ?_ | refine zak ?_ | refine zab (fun K hK => ?_))
     refine zai rfl ?_; refine zi1 (zbg rfl rfl rfl rfl rfl rfl rfl rfl rfl rfl rfl rfl rfl (by omega)) (by kernel_rfl) ?_
     repeat (first | (refine zai rfl ?_; first | refine zaj ?_) | (refine hK _ ?_; clear hK K) | refine zac rfl ?_)
     exact ⟨(i + 1, m + 1, vs ++ ((⟨true, p.va, false, 0⟩ : Fe)).vs), ⟨by show i + 1 ≤ l.length; omega, hn1, hv1⟩, by show l.length - (i + 1) < l.length - i; omega, Sub.trans (sbq [(6, .m (.c (.v (.slice none 0 0)))), (7, .m (.c (.v (.func (.func 135) #[] #[])))), (10, .m (.c (.o 42))), (30, .m (.c (.s l.length 8 (flP l)))), (31, .m (ii l.length)), (32, .m (ii ((i + 1 : Nat) : Int)))] [(42, .live (.row 141 4 (m + 1) (vs ++ (⟨true, p.va, false, 0⟩ : Fe).vs)))]) (Sub.trans (zd1 (b := 42) (b' := 1000) rfl rfl) (sbq _ _))⟩
   · have ei : i = l.length := by omega
     rw [ei, List.take_length] at g2 g3; obtain rfl : N = m := by rw [hN, g2]
     obtain rfl : XS = vs := by rw [hXS, g3]
     repeat (first | (refine zai rfl ?_; first | refine zaj ?_) | (refine hK _ ?_; clear hK K) | (rename_i K1 hK1; refine hK1 _ ?_; clear hK hK1; clear K) | refine zac rfl ?_ | exact zah (show zat _ _ _ = some _ by kernel_rfl) | refine zae rfl rfl ?_ | refine zar ?_ | refine zab (fun K hK => ?_))
def z4t (k : Kr) (id n : Int) (l : List Pg) (i m : Nat) (vs : List Value) : St := St.of [(6, .m (.c (.v (.slice none 0 0)))), (7, .m (.c (.cl 136 [9]))), (10, .m (.c (.o 1000))), (30, .m (.c (.s l.length 8 (flP l)))), (31, .m (ii l.length)), (32, .m (ii i))] [(9, .live (.box [cu n])), (1000, .live (.row 141 4 m vs))]
theorem zyk (k : Kr) (id : Int) (l : List Pg) (hid : id ≠ -1) (hlv : za4 k id = true) (hl : l.length ≤ 134217728) : Ok 73 [.ag k.ce, ii id, .c (.s l.length 8 (flP l))] (.m (.c (.s (zgv k id l).length 4 (flF (zgv k id l))))) := by
 obtain ⟨y0, y1, y2, y3⟩ := zdc hlv; have hxs := zke y2; by_cases c : 16 < l.length
 · have e : zgv k id l = [⟨false, 0, true, (zcw k id).asid⟩] := by unfold zgv z01; rw [if_pos c, if_neg hid]
   rw [e]; refine zad 45 Tryz.func73 rfl rfl rfl rfl ?_ GG.to; intro W A hG
   repeat (first | (refine zai rfl ?_; first | refine zaj ?_ | refine gdr (zaa rfl rfl rfl (znb (zcw k id).asid) (by kernel_rfl)) ?_) | (refine hK _ ?_; clear hK K) | refine zac rfl ?_ | exact zah (show zat _ _ _ = some _ by kernel_rfl) | refine zaf rfl rfl ?_ | refine zab (fun K hK => ?_))
 · have e : zgv k id l = l.map (zdi id (zcw k id).asid) := by unfold zgv; rw [if_neg c]
   rw [e]; obtain ⟨N, hN⟩ : ∃ N, N = (l.map (zdi id (zcw k id).asid)).length := ⟨_, rfl⟩; obtain ⟨XS, hXS⟩ : ∃ XS, XS = flF (l.map (zdi id (zcw k id).asid)) := ⟨_, rfl⟩; rw [← hN, ← hXS]; refine zad 45 Tryz.func73 rfl rfl rfl rfl ?_ GG.to; intro W A hG
   repeat (first | (refine zai rfl ?_; first | refine zaj ?_ | refine gdr (zaa rfl rfl rfl (znb (zcw k id).asid) (by kernel_rfl)) ?_) | (refine hK _ ?_; clear hK K) | refine zac rfl ?_ | refine zaf rfl rfl ?_ | refine zae rfl rfl ?_ | refine zag ?_ | refine zak ?_ | refine zab (fun K hK => ?_))
   refine za1 (α := Nat × Nat × List Value) (fun q => q.1 ≤ l.length ∧ q.2.1 = ((l.take q.1).map (zdi id (zcw k id).asid)).length ∧ q.2.2 = flF ((l.take q.1).map (zdi id (zcw k id).asid))) (fun q => z4t k id (zcw k id).asid l q.1 q.2.1 q.2.2) (fun q => l.length - q.1) (0, 0, []) ⟨Nat.zero_le _, rfl, rfl⟩ (Sub.trans (zg7 10 1000 141 4 rfl rfl) (sbq _ _)) ?_; rintro ⟨i, m, vs⟩ ⟨x1, x2, x3⟩; have g1 : i ≤ l.length := x1; have g2 : m = ((l.take i).map (zdi id (zcw k id).asid)).length := x2; have g3 : vs = flF ((l.take i).map (zdi id (zcw k id).asid)) := x3; show Aw _ _ _ _ (z4t k id (zcw k id).asid l i m vs); unfold z4t; by_cases hlt : i < l.length
   · obtain ⟨p, hp⟩ : ∃ p, l[i]? = some p := ⟨_, List.getElem?_eq_getElem hlt⟩; have hx : ((flP l).drop (i * 8)).take 8 = [.int .u64 p.va, .int .u64 p.pa, .int .i64 p.lev, .bool p.r, .bool p.w, .bool p.x, .bool p.u, .bool p.d] := zmi hp; have hm : m ≤ i := by rw [g2, List.length_map, List.length_take]; omega
     have et : (l.take (i + 1)).map (zdi id (zcw k id).asid) = (l.take i).map (zdi id (zcw k id).asid) ++ [(⟨true, p.va, true, (zcw k id).asid⟩ : Fe)] := by
      rw [List.take_add_one, hp, List.map_append]; show _ ++ [zdi id (zcw k id).asid p] = _; unfold zdi; rw [if_neg hid]
     have hn1 : m + 1 = ((l.take (i + 1)).map (zdi id (zcw k id).asid)).length := by rw [et, List.length_append, ← g2]; rfl
     have hv1 : vs ++ ((⟨true, p.va, true, (zcw k id).asid⟩ : Fe)).vs = flF ((l.take (i + 1)).map (zdi id (zcw k id).asid)) := by
      rw [et, g3]; unfold flF; rw [List.flatMap_append]; simp
     clear g2 g3 x2 x3 hN hXS
     repeat (first | (refine zai rfl ?_; first | refine zaj ?_ | refine gdr (zbz (fun _ => 9) (z4r (zcw k id).asid p.va) rfl rfl rfl (by kernel_rfl) rfl rfl ⟨rfl, trivial⟩ (by kernel_rfl)) ?_) | (refine hK _ ?_; clear hK K) | refine zac rfl ?_ | refine zaf rfl rfl ?_ | refine zag ?_ | refine zak ?_ | refine zab (fun K hK => ?_))
     refine zai rfl ?_; refine zi1 (zbg rfl rfl rfl rfl rfl rfl rfl rfl rfl rfl rfl rfl rfl (by omega)) (by kernel_rfl) ?_
     repeat (first | (refine zai rfl ?_; first | refine zaj ?_) | (refine hK _ ?_; clear hK K) | refine zac rfl ?_)
     exact ⟨(i + 1, m + 1, vs ++ ((⟨true, p.va, true, (zcw k id).asid⟩ : Fe)).vs), ⟨by show i + 1 ≤ l.length; omega, hn1, hv1⟩, by show l.length - (i + 1) < l.length - i; omega, Sub.trans (sbq [(6, .m (.c (.v (.slice none 0 0)))), (7, .m (.c (.cl 136 [9]))), (10, .m (.c (.o 42))), (30, .m (.c (.s l.length 8 (flP l)))), (31, .m (ii l.length)), (32, .m (ii ((i + 1 : Nat) : Int)))] [(9, .live (.box [cu (zcw k id).asid])), (42, .live (.row 141 4 (m + 1) (vs ++ (⟨true, p.va, true, (zcw k id).asid⟩ : Fe).vs)))]) (Sub.trans (zd1 (b := 42) (b' := 1000) rfl rfl) (sbq _ _))⟩
   · have ei : i = l.length := by omega
     rw [ei, List.take_length] at g2 g3; obtain rfl : N = m := by rw [hN, g2]
     obtain rfl : XS = vs := by rw [hXS, g3]
     repeat (first | (refine zai rfl ?_; first | refine zaj ?_) | (refine hK _ ?_; clear hK K) | (rename_i K1 hK1; refine hK1 _ ?_; clear hK hK1; clear K) | refine zac rfl ?_ | exact zah (show zat _ _ _ = some _ by kernel_rfl) | refine zae rfl rfl ?_ | refine zar ?_ | refine zab (fun K hK => ?_))
end LjA
namespace LjF
open Go.RowKit Bv VaSpec Base MemL RegR Ax MemC PutC MemC3 OkS SpA SpB SpC SpF SpH SpI LaA LaB LaC LaD LaE LaG LiA LiB LiC LiE SpE SpO LjA LjB LjC LjD LjE
open PteSpec
section
variable {cd cp sz f sh : Int} {xs : List (Int × Int)} {lv : Int → Int}
theorem z1d (addr : Int) (ha : U addr) (h : TI cd cp sz xs f sh lv) (hn : xs.length ≤ 100000) (l : Nat) (t : Int) (h2 : l ≤ 2) (ht : Al cd cp f t) (hl : lv t = l) (hH : 2 ≤ l → idx addr 2 ≠ 511) :
 Ok 79 [zbm sz xs, .ag [cu cd, ci cp, cu f], iu t, ii l, iu addr] (.tu [zbm sz (prN sz cd cp addr l t (xs, f)).1, .ag [cu cd, ci cp, cu (prN sz cd cp addr l t (xs, f)).2]]) := by
 have hf := z4q addr ha h hn l t h2 ht hl hH; generalize prN sz cd cp addr l t (xs, f) = p at *; have hf : zby Tryz.prog GG 142 [(2000, [cu sz, .s xs.length 2 (fl xs), cu cd, ci cp, cu f, cu addr], [cu sz, .s p.1.length 2 (fl p.1), cu cd, ci cp, cu p.2, cu addr])] [.c (.p 2000 0), iu t, ii l] (.tu []) := hf; refine zad 30 Tryz.func79 rfl rfl rfl rfl ?_ GG.to; intro W A hG
 repeat (first | (refine zai rfl ?_; first | refine zaj ?_ | refine gdr (zev (fun _ => 17) hf rfl rfl (by kernel_rfl) rfl ⟨rfl, trivial⟩ (by kernel_rfl)) ?_) | (refine hK _ ?_; clear hK K) | refine zac rfl ?_ | refine zaq (by kernel_rfl) (by kernel_rfl) rfl ?_ | exact zah (show zat _ _ _ = some _ by kernel_rfl) | refine zab (fun K hK => ?_))
theorem z4u (h : TI cd cp sz xs f sh lv) {t i : Int} (hi : 0 ≤ i ∧ i < 512) (c : zbf (atM sz xs t i) = true) : 1 ≤ lv t := by
 rcases h.e.k t i hi with e | ⟨_, _, ⟨e, _⟩ | ⟨e, _⟩⟩
 · rw [e] at c; cases c
 · rw [(zbw e).1] at c; cases c
 · exact (zb5 h hi e).2.1.1
end
theorem z69 (n : Int) : U (ofv n) := by
 unfold ofv zj8
 split <;> exact ⟨by omega, by omega⟩
theorem zn2 (sz : Int) (xs : List (Int × Int)) (l : Int) (q : Pte) (b : Int) (hb : U b) (l2 : l ≤ 2) : (zax sz xs l q b).length ≤ 262144 ∧ ∀ y ∈ zax sz xs l q b, U y.va := by
 have hpv : ∀ (m : Nat) (t b : Int), U b → ∀ y ∈ za7 sz xs m t b, U y.va := by
  intro m
  induction m with
  | zero =>
   intro t b hb y hy; obtain ⟨i, _, hy⟩ := List.mem_flatMap.1 hy; unfold ze6 at hy
   split at hy
   · cases hy
   · split at hy
     · rw [List.mem_singleton.1 hy]; exact z69 _
     · cases hy
  | succ m IH =>
   intro t b hb y hy; obtain ⟨i, _, hy⟩ := List.mem_flatMap.1 hy; unfold ze6 at hy
   split at hy
   · cases hy
   · split at hy
     · rw [List.mem_singleton.1 hy]; exact z69 _
     · exact IH _ _ (z3q _ _ _) y hy
 unfold zax
 split
 · exact ⟨by simp, fun y hy => by rw [List.mem_singleton.1 hy]; exact hb⟩
 · split
   · refine ⟨?_, hpv _ _ _ hb⟩; rcases (by omega : (l - 1).toNat = 0 ∨ (l - 1).toNat = 1) with e | e
     · rw [e]; have := zgl sz xs q.ppn b; omega
     · rw [e]; exact zmd sz xs q.ppn b
   · exact ⟨by simp, fun y hy => by cases hy⟩
theorem z2j (k : Kr) (id : Int) (l : List Pg) (h : ∀ y ∈ l, U y.va) : ∀ f ∈ zgv k id l, U f.ad := by
 intro f hf; unfold zgv at hf
 split at hf
 · rw [List.mem_singleton.1 hf]; unfold z01; split <;> exact ⟨by show (0 : Int) ≤ 0; decide, by show (0 : Int) < 18446744073709551616; decide⟩
 · obtain ⟨y, hy, rfl⟩ := List.mem_map.1 hf; unfold zdi
   split <;> exact h y hy
theorem z4v (sz : Int) (xs : List (Int × Int)) (l : Nat) (t : Int) (h : l ≤ 1) : (frN sz xs l t).length ≤ 513 := by
 rcases (by omega : l = 0 ∨ l = 1) with rfl | rfl
 · simp [frN]
 · unfold frN; rw [List.length_cons, List.length_flatMap]; have : ∀ is : List Nat, (is.map fun (i : Nat) => (if za2 (atM sz xs t i) ((0 + 1 : Nat) : Int) then frN sz xs 0 (atM sz xs t i).ppn else []).length).sum ≤ is.length := by
    intro is
    induction is with
    | nil => exact Nat.le_refl _
    | cons i is IH =>
     rw [List.map_cons, List.sum_cons, List.length_cons]; have : (if za2 (atM sz xs t i) ((0 + 1 : Nat) : Int) then frN sz xs 0 (atM sz xs t i).ppn else []).length ≤ 1 := by
      split
      · simp [frN]
      · simp
     omega
   have := this (List.range 512); rw [List.length_range] at this; exact Nat.add_le_add_right this 1
def unH (k : Kr) (id a l top lw t l' : Int) (q : Pte) (PL : List Pg) (L : List Int) (m : List (Int × Int)) (f : Int) (i : Nat) : St := St.of [(1, .m (ii id)), (2, .m (iu a)), (3, .m (ii l)), (4, .m (.c (.p 4 0))), (8, .m (.c (.p 8 0))), (10, .m (iu top)), (11, .m (ii lw)), (13, .m (.c (.p 13 0))), (14, .m (.c (.p 14 0))), (15, .m (.c (.p 15 0))), (16, .m (.c (.s PL.length 8 (flP PL)))), (72, .m (.c (.s L.length 1 (vsI L)))), (73, .m (ii L.length)), (74, .m (ii i))]
 [(4, .live (.box k.ce)), (8, .live (.box zK)), (13, .live (.box [cu k.sz, .s m.length 2 (fl m)])), (14, .live (.box [cu k.pb, ci k.pm, cu f])), (15, .live (.box (zbq t l' q)))]
theorem zyl {n : Nat} {k : Kr} (h : InvT n k) (hn : n ≤ 88000) (id a l : Int) (ha : U a) : Ok 27 [.ag k.ce, ii id, iu a, ii l] (.tu [.ag (unR k id a l).1.ce, ii (unR k id a l).2]) := by
 have hw := zjd k id a l ha; have hin := z2i h (by omega) id a l ha; obtain ⟨R, hR⟩ : ∃ R, R = unR k id a l := ⟨_, rfl⟩; rw [← hR]; unfold unR at hR; by_cases c0 : (zal k id a l).2.2 ≠ 0
 · rw [if_pos c0] at hR; generalize zal k id a l = w at *; subst hR; refine zad 107 Tryz.func27 rfl rfl rfl rfl ?_ GG.to; intro W A hG
   repeat (first | (refine zai rfl ?_; first | refine zaj ?_ | refine gdr (zaa rfl rfl rfl (hw) (by kernel_rfl)) ?_) | (refine hK _ ?_; clear hK K) | refine zac rfl ?_ | exact zah (show zat _ _ _ = some _ by kernel_rfl) | refine zaf rfl rfl ?_ | refine zab (fun K hK => ?_))
 rw [if_neg c0] at hR; replace c0 : (zal k id a l).2.2 = 0 := by omega
 obtain ⟨lv, hT, hs, hr⟩ := h.t; obtain ⟨w1, w2, w3, w4⟩ := zbd (id := id) (a := a) (l := l) h.l c0; obtain ⟨z1, z2⟩ := h.top (a := a) (id := id) (l := l) c0 hs hr; have hlive : id = -1 ∨ (id ≠ -1 ∧ za4 k id = true) := by
  rcases zd5 h.l c0 with ⟨_, _, e⟩ | ⟨e1, e2, _⟩
  · exact .inl e
  · exact .inr ⟨e2, e1⟩
 rw [c0] at hw; generalize (zal k id a l).1 = top at *; generalize (zal k id a l).2.1 = lw at *; have b1 := hT.bd; have b2 := hT.bp; have bt := w2.1; have hml := h.l.ml; have hfl := h.l.fl; have hpb := h.l.pb; have hpm := h.l.pm; by_cases c1 : (inR k id a l).length = 0
 · rw [if_pos c1] at hR; rw [List.length_eq_zero_iff.1 c1] at hin; clear c1; subst hR; refine zad 107 Tryz.func27 rfl rfl rfl rfl ?_ GG.to; intro W A hG
   repeat (first | (refine zai rfl ?_; first | refine zaj ?_ | refine gdr (zaa rfl rfl rfl (hw) (by kernel_rfl)) ?_ | refine gdr (zaa rfl rfl rfl (hin) (by kernel_rfl)) ?_) | (refine hK _ ?_; clear hK K) | refine zac rfl ?_ | exact zah (show zat _ _ _ = some _ by kernel_rfl) | refine zaf rfl rfl ?_ | refine zae rfl rfl ?_ | refine zak ?_ | refine zab (fun K hK => ?_))
 rw [if_neg c1] at hR; generalize inR k id a l = IL at *; obtain ⟨m, rfl⟩ := Int.eq_ofNat_of_zero_le (show 0 ≤ lw by omega); have hto := z64 top a l m k.m k.pf lv hT w2 h.l.sh z1 ha (by omega) w1.1 w3 (by omega) _ rfl; obtain ⟨lv', P⟩ := zls a l top m w1.1 w3 (by omega) m k.m k.pf lv hT w2 h.l.sh z1; unfold unT at hR; rw [Int.toNat_natCast] at hR; have hKe : ∀ T, unK k id top (m : Int) a l T = unK k id top (m : Int) a l T := fun _ => rfl; generalize toN k.sz k.cd a l top m m k.m k.pf = T at *; obtain ⟨xs, f, ⟨t, lt⟩, e⟩ := T; obtain ⟨l', e1, e2, e3, e4, e5⟩ := P.p; replace e1 : lt = (l' : Int) := e1; subst e1; have y4 : Al k.cd k.cp f t := e4; have y5 : lv' t = (l' : Int) := e5; by_cases c5 : e ≠ 0
 · rw [if_pos c5] at hR; rw [if_neg (show ¬ (xs, f, (t, (l' : Int)), e).2.2.2 = 0 from c5)] at hto; replace hto : Ok 74 [zbm k.sz k.m, .ag [cu k.cd, ci k.cp, cu k.pf], iu top, ii m, iu a, ii l] (.tu [zbm k.sz k.m, .ag [cu k.cd, ci k.cp, cu k.pf], .ag (zbq 0 0 zP), ii e]) := hto; rw [← hpb, ← hpm] at hto; replace hR : R = (k, e) := hR; subst hR; refine zad 107 Tryz.func27 rfl rfl rfl rfl ?_ GG.to; intro W A hG
   repeat (first | (refine zai rfl ?_; first | refine zaj ?_ | refine gdr (zaa rfl rfl rfl (hw) (by kernel_rfl)) ?_ | refine gdr (zaa rfl rfl rfl (hin) (by kernel_rfl)) ?_ | refine gdr (zaa rfl rfl rfl (hto) (by kernel_rfl)) ?_) | (refine hK _ ?_; clear hK K) | refine zac rfl ?_ | exact zah (show zat _ _ _ = some _ by kernel_rfl) | refine zaf rfl rfl ?_ | refine zae rfl rfl ?_ | refine zak ?_ | refine zab (fun K hK => ?_))
 rw [if_neg c5] at hR; obtain rfl : e = 0 := by omega
 rw [if_pos (show (xs, f, (t, (l' : Int)), (0 : Int)).2.2.2 = 0 from rfl)] at hto; replace hto : Ok 74 [zbm k.sz k.m, .ag [cu k.cd, ci k.cp, cu k.pf], iu top, ii m, iu a, ii l] (.tu [zbm k.sz xs, .ag [cu k.cd, ci k.cp, cu f], .ag (zbq t (l' : Int) (atM k.sz xs t (idx a (l' : Int)))), ii 0]) := hto; have hPt : TI k.cd k.cp k.sz xs f k.sh lv' := P.t; have ash := P.a _ h.l.sh; have atop := P.a _ w2; have hi := idx_bd a (l' : Int); have bt' := y4.1; have hxl : xs.length ≤ k.m.length + 513 * m := P.n; obtain ⟨c2, c3, c4, c6, c7⟩ := zpx (a := a) (e := 0) (t := t) (xs := xs) (f := f) (lv := lv') hPt ash.1 y4 y5 (by omega) (fun hh => z2 (by omega)); have hlt : lv' top = (m : Int) := atop.2.trans z1; have atop2 := c3 _ atop.1 (.inr (by rw [hlt]; omega))
 have hq := ze5 hPt.u k.sz t (idx a (l' : Int)); have hqp := zdo (xs := xs) k.sz t (idx a (l' : Int)); have hpl := zp1 k.sz xs t (l' : Int) (atM k.sz xs t (idx a (l' : Int))) a ha hPt.s hPt.u hqp (by omega) (by omega) (fun c => by have := z4u hPt hi c; omega)
 have hub := zn2 k.sz xs (l' : Int) (atM k.sz xs t (idx a (l' : Int))) (VaSpec.base a (l' : Int)) (ztl ha (by omega) (by omega)) (by omega); have hU2 : Uw (zdu k.sz k.cd k.cp (xs, f, (t, (l' : Int)), (0 : Int)) a).1 := fun c hc => by
  unfold zdu at hc
  split at hc
  · exact hPt.u c ((zgp k.cd k.cp k.sz hPt.bp _ (xs, f) hPt.s hPt.bf).m c hc)
  · exact hPt.u c hc
 have hwt := zd9 k.sz (zdu k.sz k.cd k.cp (xs, f, (t, (l' : Int)), (0 : Int)) a).1 t (l' : Int) (atM k.sz xs t (idx a (l' : Int))) a ⟨false, false, false, false, false, false, false, false, 0, 0, 0⟩ ha z17 (by omega) (by omega) ⟨by omega, by omega⟩ c6 hU2 (by omega); replace hwt : Ok 49 [zbm k.sz (zdu k.sz k.cd k.cp (xs, f, (t, (l' : Int)), (0 : Int)) a).1, .ag (zbq t (l' : Int) (atM k.sz xs t (idx a (l' : Int)))), iu a, .ag (⟨false, false, false, false, false, false, false, false, 0, 0, 0⟩ : Pte).ce] (.m (zbm k.sz (zba k.sz (zdu k.sz k.cd k.cp (xs, f, (t, (l' : Int)), (0 : Int)) a).1 t (idx a (l' : Int)) zP))) := hwt; have hpr := z1d a ha c2 (by omega) m top (by omega) atop2 hlt (fun hh => z2 (by omega)); have hK : R = (zda { k with m := (prN k.sz k.cd k.cp a m top (zba k.sz (zdu k.sz k.cd k.cp (xs, f, (t, (l' : Int)), (0 : Int)) a).1 t (idx a (l' : Int)) zP, (zdu k.sz k.cd k.cp (xs, f, (t, (l' : Int)), (0 : Int)) a).2)).1, pf := (prN k.sz k.cd k.cp a m top (zba k.sz (zdu k.sz k.cd k.cp (xs, f, (t, (l' : Int)), (0 : Int)) a).1 t (idx a (l' : Int)) zP, (zdu k.sz k.cd k.cp (xs, f, (t, (l' : Int)), (0 : Int)) a).2)).2 } (zgv k id (zax k.sz xs (l' : Int) (atM k.sz xs t (idx a (l' : Int))) (VaSpec.base a (l' : Int)))), 0) := by
  rw [hR]; unfold unK unM; rw [Int.toNat_natCast]
 have hfb := zjg k id (zax k.sz xs (l' : Int) (atM k.sz xs t (idx a (l' : Int))) (VaSpec.base a (l' : Int))); have hfU := z2j k id _ hub.2; generalize prN k.sz k.cd k.cp a m top (zba k.sz (zdu k.sz k.cd k.cp (xs, f, (t, (l' : Int)), (0 : Int)) a).1 t (idx a (l' : Int)) zP, (zdu k.sz k.cd k.cp (xs, f, (t, (l' : Int)), (0 : Int)) a).2) = p4 at *; obtain ⟨m4, f4⟩ := p4; have hfe : Ok 73 [.ag ({ k with m := m4, pf := f4 } : Kr).ce, ii id, .c (.s (zax k.sz xs (l' : Int) (atM k.sz xs t (idx a (l' : Int))) (VaSpec.base a (l' : Int))).length 8 (flP (zax k.sz xs (l' : Int) (atM k.sz xs t (idx a (l' : Int))) (VaSpec.base a (l' : Int)))))] (.m (.c (.s (zgv k id (zax k.sz xs (l' : Int) (atM k.sz xs t (idx a (l' : Int))) (VaSpec.base a (l' : Int)))).length 4 (flF (zgv k id (zax k.sz xs (l' : Int) (atM k.sz xs t (idx a (l' : Int))) (VaSpec.base a (l' : Int)))))))) := by
  rcases hlive with e | ⟨e, e'⟩
  · exact zyj { k with m := m4, pf := f4 } id _ e (by omega)
  · exact zyk { k with m := m4, pf := f4 } id _ e e' (by omega)
 have hsf := zkg { k with m := m4, pf := f4 } h.l.ts h.l.cs.2 (zgv k id (zax k.sz xs (l' : Int) (atM k.sz xs t (idx a (l' : Int))) (VaSpec.base a (l' : Int)))) hfU (by omega) (by show k.fs.length ≤ _; omega)
 generalize zgv k id (zax k.sz xs (l' : Int) (atM k.sz xs t (idx a (l' : Int))) (VaSpec.base a (l' : Int))) = FL at *; generalize zax k.sz xs (l' : Int) (atM k.sz xs t (idx a (l' : Int))) (VaSpec.base a (l' : Int)) = PL at *; have hlk := zgg (atM k.sz xs t (idx a (l' : Int))); have hlk1 : zbf (atM k.sz xs t (idx a (l' : Int))) = true → lkP (atM k.sz xs t (idx a (l' : Int))) = true := fun c => by
  rcases hPt.e.k t _ hi with e | ⟨_, _, ⟨e, _⟩ | ⟨e, _⟩⟩
  · rw [e] at c; cases c
  · rw [(zbw e).1] at c; cases c
  · exact e
 have hcut : zdu k.sz k.cd k.cp (xs, f, (t, (l' : Int)), (0 : Int)) a = if zbf (atM k.sz xs t (idx a (l' : Int))) then bkN k.cd k.cp (frN k.sz xs ((l' : Int) - 1).toNat (atM k.sz xs t (idx a (l' : Int))).ppn) (xs, f) else (xs, f) := rfl; clear hub hfb hfU hR c0 P; generalize zba k.sz (zdu k.sz k.cd k.cp (xs, f, (t, (l' : Int)), (0 : Int)) a).1 t (idx a (l' : Int)) zP = m3 at *; generalize zdu k.sz k.cd k.cp (xs, f, (t, (l' : Int)), (0 : Int)) a = P2 at *; cases c : zbf (atM k.sz xs t (idx a (l' : Int))) with
 | false =>
  rw [c] at hlk hcut; rw [if_neg (by simp)] at hcut; subst hcut; generalize atM k.sz xs t (idx a (l' : Int)) = q at *; rw [← hpb, ← hpm] at hto hpr; subst hK; refine zad 107 Tryz.func27 rfl rfl rfl rfl ?_ GG.to; intro W A hG
  repeat (first | (refine zai rfl ?_; first | refine zaj ?_ | refine gdr (zaa rfl rfl rfl (hw) (by kernel_rfl)) ?_ | refine gdr (zaa rfl rfl rfl (hin) (by kernel_rfl)) ?_ | refine gdr (zaa rfl rfl rfl (hto) (by kernel_rfl)) ?_ | refine gdr (zaa rfl rfl rfl (hpl) (by kernel_rfl)) ?_ | refine gdr (zaa rfl rfl rfl (hlk) (by kernel_rfl)) ?_ | refine gdr (zaa rfl rfl rfl (hwt) (by kernel_rfl)) ?_ | refine gdr (zaa rfl rfl rfl (hpr) (by kernel_rfl)) ?_ | refine gdr (zaa rfl rfl rfl (hfe) (by kernel_rfl)) ?_ | refine gdr (zaa rfl rfl rfl (hsf) (by kernel_rfl)) ?_) | (refine hK _ ?_; clear hK K) | refine zac rfl ?_ | refine zaq (by kernel_rfl) (by kernel_rfl) rfl ?_ | exact zah (show zat _ _ _ = some _ by kernel_rfl) | refine zae rfl rfl ?_ | refine zak ?_ | refine zab (fun K hK => ?_))
 | true =>
  obtain ⟨k1, k2, k3, k4⟩ := zb5 hPt hi (hlk1 c); rw [c] at hlk hcut; rw [if_pos rfl] at hcut; have hl12 : l' = 1 ∨ l' = 2 := by omega
  have hfr : Ok 77 [zbm k.sz xs, iu (atM k.sz xs t (idx a (l' : Int))).ppn, ii ((l' : Int) - 1)] (.m (.c (.s (frN k.sz xs ((l' : Int) - 1).toNat (atM k.sz xs t (idx a (l' : Int))).ppn).length 1 (vsI (frN k.sz xs ((l' : Int) - 1).toNat (atM k.sz xs t (idx a (l' : Int))).ppn))))) := by
   clear hwt hpr hfe hsf hcut hto hpl hin hw hlk c c2 c3 c4 c6 c7 k1 k4 hi hlk1 hqp hq y5 e5 e4 e2 e3; have hqp := zdo (xs := xs) k.sz t (idx a (l' : Int)); generalize atM k.sz xs t (idx a (l' : Int)) = q at *; rcases hl12 with rfl | rfl
   · exact ztg k.sz xs hPt.s hPt.u q.ppn hqp
   · exact z04 k.sz xs hPt.s hPt.u q.ppn hqp
  have hLl := z4v k.sz xs ((l' : Int) - 1).toNat (atM k.sz xs t (idx a (l' : Int))).ppn (by omega); have hLb : ∀ g ∈ frN k.sz xs ((l' : Int) - 1).toNat (atM k.sz xs t (idx a (l' : Int))).ppn, 0 ≤ g ∧ g < 1099511627776 := fun g hg => by
   have := (zbc hPt ((l' : Int) - 1).toNat _ k4 (by omega) g hg).1.1; omega
  generalize frN k.sz xs ((l' : Int) - 1).toNat (atM k.sz xs t (idx a (l' : Int))).ppn = L at *; have hxs := hPt.s; have hxf := hPt.bf; generalize atM k.sz xs t (idx a (l' : Int)) = q at *; subst hK; have hto' := hto; have hpr' := hpr; rw [← hpb, ← hpm] at hto' hpr'; have b1p : 1 ≤ k.pb ∧ k.pb ≤ 524288 := by omega
  have b2p : 1 ≤ k.pm ∧ k.pm ≤ 64 := by omega
  clear hto hpr; have hl0 : 1 ≤ (l' : Int) := by omega
  have hl2 : (l' : Int) ≤ 2 := by omega
  clear hl12 hlk1 k1 k2 k3 k4 c2 c3 c4 hPt y4 y5 e2 e3 e4 e5 hT hs hr hlive w2 atop atop2 ash hfl hlt z1 z2; generalize (l' : Int) = li at *; refine zad 107 Tryz.func27 rfl rfl rfl rfl ?_ GG.to; intro W A hG
  repeat (first | (refine zai rfl ?_; first | refine zaj ?_ | refine gdr (zaa rfl rfl rfl (hw) (by kernel_rfl)) ?_ | refine gdr (zaa rfl rfl rfl (hin) (by kernel_rfl)) ?_ | refine gdr (zaa rfl rfl rfl (hto') (by kernel_rfl)) ?_ | refine gdr (zaa rfl rfl rfl (hpl) (by kernel_rfl)) ?_ | refine gdr (zaa rfl rfl rfl (hlk) (by kernel_rfl)) ?_ | refine gdr (zaa rfl rfl rfl (hfr) (by kernel_rfl)) ?_) | (refine hK _ ?_; clear hK K) | refine zac rfl ?_ | refine zaf rfl rfl ?_ | refine zae rfl rfl ?_ | refine zag ?_ | refine zak ?_ | refine zab (fun K hK => ?_))
  refine za1 (α := Nat × List (Int × Int) × Int) (fun p => p.1 ≤ L.length ∧ bkN k.cd k.cp (L.drop p.1) (p.2.1, p.2.2) = P2 ∧ Srt p.2.1 ∧ p.2.1.length ≤ xs.length ∧ (0 ≤ p.2.2 ∧ p.2.2 < 2 ^ k.cp.toNat)) (fun p => unH k id a l top m t li q PL L p.2.1 p.2.2 p.1) (fun p => L.length - p.1) (0, xs, f) ⟨Nat.zero_le _, hcut.symm, hxs, Nat.le_refl _, hxf⟩ (sbq _ _) ?_; rintro ⟨i, mm, ff⟩ ⟨x1, x2, x3, x4, x5⟩; have g1 : i ≤ L.length := x1; have g2 : bkN k.cd k.cp (L.drop i) (mm, ff) = P2 := x2; have g3 : Srt mm := x3; have g4 : mm.length ≤ xs.length := x4; have g5 : 0 ≤ ff ∧ ff < 2 ^ k.cp.toNat := x5; clear x1 x2 x3 x4 x5; show Aw _ _ _ _ (unH k id a l top m t li q PL L mm ff i); unfold unH; by_cases hlt : i < L.length
  · have hgm := hLb _ (List.getElem_mem hlt); have hd0 : L.drop i = L[i] :: L.drop (i + 1) := List.drop_eq_getElem_cons hlt; have hx : ((vsI L).drop (i * 1)).take 1 = [.int .u64 L[i]] := by rw [Nat.mul_one]; unfold vsI; rw [← List.map_drop, hd0]; rfl
    have hd := hd0; rw [hd] at g2; have hbk := zwy k.sz mm k.cd k.cp ff L[i] ⟨by omega, by omega⟩ (by omega) (zha g5.1 g5.2 (by omega)) hgm g3 (by omega); clear hd hd0; generalize L[i] = g at *; replace g2 : bkN k.cd k.cp (L.drop (i + 1)) (TableC.za6 mm g, TableC2.zdz k.cd k.cp ff g) = P2 := g2; have hws := zcr g g3; have hwl := zee mm g; have hgb := zrt (cd := k.cd) (g := g) b2 g5; generalize TableC.za6 mm g = m5 at *; generalize TableC2.zdz k.cd k.cp ff g = f5 at *; rw [← hpb, ← hpm] at hbk
    repeat (first | (refine zai rfl ?_; first | refine zaj ?_ | refine gdr (zaa rfl rfl rfl (hbk) (by kernel_rfl)) ?_) | (refine hK _ ?_; clear hK K) | refine zac rfl ?_ | refine zaf rfl rfl ?_ | refine zag ?_ | refine zak ?_ | refine zab (fun K hK => ?_))
    exact ⟨(i + 1, m5, f5), ⟨by show i + 1 ≤ L.length; omega, g2, hws, by show m5.length ≤ _; omega, hgb⟩, by show L.length - (i + 1) < L.length - i; omega, sbq _ _⟩
  · have ei : i = L.length := by omega
    rw [ei, List.drop_length] at g2; replace g2 : (mm, ff) = P2 := g2; subst g2
    repeat (first | (refine zai rfl ?_; first | refine zaj ?_ | refine gdr (zaa rfl rfl rfl (hwt) (by kernel_rfl)) ?_ | refine gdr (zaa rfl rfl rfl (hpr') (by kernel_rfl)) ?_ | refine gdr (zaa rfl rfl rfl (hfe) (by kernel_rfl)) ?_ | refine gdr (zaa rfl rfl rfl (hsf) (by kernel_rfl)) ?_) | (refine hK _ ?_; clear hK K) | (rename_i K1 hK1; refine hK1 _ ?_; clear hK hK1; clear K) | refine zac rfl ?_ | refine zaq (by kernel_rfl) (by kernel_rfl) rfl ?_ | exact zah (show zat _ _ _ = some _ by kernel_rfl) | refine zae rfl rfl ?_ | refine zar ?_ | refine zab (fun K hK => ?_))
end LjF
namespace LkE
open Go.RowKit Bv VaSpec MemL RegR Ax OkS SpA SpB SpC SpH LaA LaB LaC LaD LaE LaG LiA LiB LiC LiE SpE SpO SpN RfC RlA RlB LjA LjB LjC LjD LjE LjF LkA LkB LkC LkD
open PteSpec
theorem zp2 {n : Nat} {k : Kr} {id a l : Int} (h : InvT n k) (c0 : (zal k id a l).2.2 = 0) (c1 : (inR k id a l).length ≠ 0) (c5 : (unT k (zal k id a l).1 (zal k id a l).2.1 a l).2.2.2 = 0) : (unT k (zal k id a l).1 (zal k id a l).2.1 a l).2.2.1.2 = l := by
 obtain ⟨lv, hT, hs, hr⟩ := h.t; obtain ⟨w1, w2, w3, w4⟩ := zbd (id := id) (a := a) (l := l) h.l c0; obtain ⟨z1, z2⟩ := h.top (a := a) (id := id) (l := l) c0 hs hr; unfold inR at c1; rw [if_neg (by omega)] at c1; generalize zal k id a l = w at *; obtain ⟨l', t', i1, i2, i3, i4, i5, i6, _⟩ := zci hT a l w1.1 w.2.1.toNat w.1 w2 (by omega) (by omega); rw [show za0 k.sz k.m a l w.2.1 w.1 = (t', (l' : Int)) from i1] at c1; replace c1 : (zax k.sz k.m (l' : Int) (atM k.sz k.m t' (idx a (l' : Int))) (VaSpec.base a (l' : Int))).length ≠ 0 := c1; refine z2f a l w.1 w.2.1.toNat w1.1 (by omega) (by omega) w.2.1.toNat k.m k.pf lv hT w2 h.l.sh (by omega) ?_ ?_ c5
 · rw [i1]; show (l' : Int) ≤ _; omega
 · rw [i1]; show (l' : Int) = l ∨ zas (atM k.sz k.m t' (idx a (l' : Int))) = true; by_cases e : (l' : Int) = l
   · exact .inl e
   · refine .inr ?_; have hnl := i6 (by omega); cases hlf : zas (atM k.sz k.m t' (idx a (l' : Int))) with
     | true => rfl
     | false =>
      exfalso
      refine c1 ?_; have hk : zbf (atM k.sz k.m t' (idx a (l' : Int))) = false := by
       rcases hT.e.k t' _ (idx_bd a (l' : Int)) with e | ⟨_, _, ⟨e, _⟩ | ⟨e, _⟩⟩
       · rw [e]; rfl
       · exact (zbw e).1
       · rw [zb7 e (by omega)] at hnl; cases hnl
      unfold zax; rw [hlf, hk]
      rfl
end LkE
namespace LrA
open Go.RowKit Bv VaSpec Base MemL RegR Ax MemC PutC TzC OkS SpA SpB SpC SpD SpE SpF SpH SpJ SpN SpO RfQ RfG RfJ RfK LaA LaB LaC LaD LaE LaG LaH LiA LiB LiC LiE LiF
open PteSpec
def NE (E : Int → Int → Pte) (sh : Int) : Prop := ∀ s i, (0 ≤ i ∧ i < 512) → lkP (E s i) = true → (E s i).ppn ≠ sh → ∃ j, (0 ≤ j ∧ j < 512) ∧ E (E s i).ppn j ≠ zP
def NEx (E : Int → Int → Pte) (sh g : Int) : Prop := ∀ s i, (0 ≤ i ∧ i < 512) → lkP (E s i) = true → (E s i).ppn ≠ sh → (E s i).ppn ≠ g → ∃ j, (0 ≤ j ∧ j < 512) ∧ E (E s i).ppn j ≠ zP
theorem NEx.full {E : Int → Int → Pte} {sh g i : Int} (h : NEx E sh g) (hi : 0 ≤ i ∧ i < 512) (hn : E g i ≠ zP) : NE E sh := fun s j hj h1 h2 => by
 by_cases c : (E s j).ppn = g
 · exact ⟨i, hi, by rw [c]; exact hn⟩
 · exact h s j hj h1 h2 c
theorem NE.ex {E : Int → Int → Pte} {sh : Int} (h : NE E sh) (g : Int) : NEx E sh g := fun s j hj h1 h2 _ => h s j hj h1 h2
theorem zu9 {p : Pte} (h : p.v = true) : p ≠ zP := fun e => by rw [e] at h; cases h
section
variable {cd cp sz sh : Int}
theorem z4w (addr zam : Int) (hw : 0 ≤ zam) : ∀ (l : Nat) (xs : List (Int × Int)) (f t : Int) (lv : Int → Int), TI cd cp sz xs f sh lv → Al cd cp f t → Al cd cp f sh → lv t = l → l ≤ 2 → NEx (atM sz xs) sh t →
 (dnN sz cd addr zam l xs f t).2.2.2 = 0 → NEx (atM sz (dnN sz cd addr zam l xs f t).1) sh (dnN sz cd addr zam l xs f t).2.2.1
 | 0, xs, f, t, lv, h, ht, _, hl, _, hx, _ => hx
 | l + 1, xs, f, t, lv, h, ht, hsh, hl, h2, hx, he => by
  have hi := idx_bd addr ((l + 1 : Nat) : Int); unfold dnN at he ⊢
  split
  · exact hx
  · rename_i c1; rw [if_neg c1] at he
    split
    · rename_i c2; rw [if_pos c2] at he; cases he
    · rename_i c2; rw [if_neg c2] at he; have hk := h.e.k t _ hi
      split
      · rename_i c3; rw [if_pos c3] at he; rcases hk with e | ⟨_, _, ⟨e, _⟩ | ⟨e1, e2, e3, e4⟩⟩
        · rw [e] at c3; cases c3
        · exact absurd e c2
        · exact z4w addr zam hw l xs f _ lv h e4 hsh (by rw [e3, hl]; omega) (by omega) ((hx.full hi (zu9 c3)).ex _) he
      · rename_i c3; rw [if_neg c3] at he
        split
        · rename_i c4; rw [if_pos c4] at he; cases he
        · rename_i c4; rw [if_neg c4] at he; obtain ⟨a0, a1, a2, a3⟩ := zch h c4; have b1 := h.bd; have b2 := h.bp; have hbt := ht.1; have hn : zbf (atM sz xs t (idx addr ((l + 1 : Nat) : Int))) = false := by
           unfold zbf; rw [show (atM sz xs t (idx addr ((l + 1 : Nat) : Int))).v = false by simpa using c3]; rfl
          have hnn : 0 ≤ cd + tzI f ∧ cd + tzI f < 17592186044416 := by omega
          have hT := zn0 h c4 ht hsh (by rw [hl]; omega) hi hn
          have hat : ∀ s j, (0 ≤ j ∧ j < 512) → atM sz (zba sz xs t (idx addr ((l + 1 : Nat) : Int)) (lnk (cd + tzI f))) s j = if s = t ∧ j = idx addr ((l + 1 : Nat) : Int) then lnk (cd + tzI f) else atM sz xs s j := fun s j hj => by
           rw [h.gm.with ht hi (zhb hnn)]; by_cases hd : s * 4096 + j * 8 < sz
           · rw [zh1 h.s hi hj hd, zfj hnn]
           · have bz := h.bz; rw [if_neg (by rintro ⟨rfl, rfl⟩; omega)]
             unfold atM zbs; rw [if_neg hd, if_neg hd]
          refine z4w addr zam hw l _ _ _ _ hT a1 (a0 _ hsh).1 (by rw [hl]; show upL lv (cd + tzI f) _ (cd + tzI f) = _; unfold upL; rw [if_pos rfl]; omega) (by omega) (fun s j hj q1 q2 q3 => ?_) he
          have keep : ∀ s j, (0 ≤ j ∧ j < 512) → atM sz xs s j ≠ zP → atM sz (zba sz xs t (idx addr ((l + 1 : Nat) : Int)) (lnk (cd + tzI f))) s j ≠ zP := fun s j hj hne => by
           rw [hat s j hj]
           split
           · exact zu9 rfl
           · exact hne
          rw [hat s j hj] at q1 q2 q3 ⊢; by_cases c : s = t ∧ j = idx addr ((l + 1 : Nat) : Int)
          · rw [if_pos c] at q3; exact absurd rfl q3
          · rw [if_neg c] at q1 q2 q3 ⊢; by_cases d : (atM sz xs s j).ppn = t
            · refine ⟨idx addr ((l + 1 : Nat) : Int), hi, ?_⟩; rw [d, hat t _ hi, if_pos ⟨rfl, rfl⟩]; exact zu9 rfl
            · obtain ⟨j', hj', hne⟩ := hx s j hj q1 q2 d; exact ⟨j', hj', keep _ _ hj' hne⟩
end
structure InvN (k : Kr) : Prop where
 ne : NE (atM k.sz k.m) k.sh
theorem z7a {n : Nat} {k : Kr} {id a pa l : Int} {p : Pm} (h : InvT n k) (g : InvN k) (hp : U pa) : InvN (zdh k id a pa l p).1 := by
 obtain ⟨lv, hT, hs, hr⟩ := h.t; unfold zdh
 split
 · exact g
 · rename_i c0
   split
   · exact g
   · rename_i c1
     split
     · exact g
     · split
       · exact g
       · rename_i c3
         split
         · exact g
         · split
           · exact g
           · rename_i c5; obtain ⟨w1, w2, w3, w4⟩ := zbd (id := id) (a := a) (l := l) h.l (by omega); obtain ⟨z1, z2⟩ := h.top (id := id) (a := a) (l := l) (by omega) hs hr; generalize zal k id a l = w at *; have he : (zme k w.1 w.2.1 a l).2.2.2 = 0 := by omega
             obtain ⟨lv', r1, r2, r3, r4⟩ := zx8 a l w1.1 w.2.1.toNat k.m k.pf w.1 lv hT w2 h.l.sh (by omega) (by omega) (by omega) he; have hx := z4w a l w1.1 w.2.1.toNat k.m k.pf w.1 lv hT w2 h.l.sh (by omega) (by omega) (g.ne.ex _) he; have hpm := zin (p := p) (by omega); have hpn := zmf (k := k) (l := l) hp (by have := h.l.g.bd; omega) (by omega)
             have hb := zgn (n := pa / 4096) (p := p) (g := decide (id = -1)) hpn hpm; have hi := idx_bd a l; have b3 := r3.1; have hat : ∀ s j, (0 ≤ j ∧ j < 512) → atM k.sz (zba k.sz (dnN k.sz k.cd a l w.2.1.toNat k.m k.pf w.1).1 (dnN k.sz k.cd a l w.2.1.toNat k.m k.pf w.1).2.2.1 (idx a l) (mkP (pa / 4096) p (decide (id = -1)))) s j = if s = (dnN k.sz k.cd a l w.2.1.toNat k.m k.pf w.1).2.2.1 ∧ j = idx a l then mkP (pa / 4096) p (decide (id = -1)) else atM k.sz (dnN k.sz k.cd a l w.2.1.toNat k.m k.pf w.1).1 s j := fun s j hj => by
              rw [r1.gm.with r3 hi hb.2.1]; by_cases hd : s * 4096 + j * 8 < k.sz
              · rw [zh1 r1.s hi hj hd, hb.1]
              · have bz := r1.bz; rw [if_neg (by rintro ⟨rfl, rfl⟩; omega)]
                unfold atM zbs; rw [if_neg hd, if_neg hd]
             refine ⟨?_⟩; show NE (atM k.sz (zba k.sz (dnN k.sz k.cd a l w.2.1.toNat k.m k.pf w.1).1 (dnN k.sz k.cd a l w.2.1.toNat k.m k.pf w.1).2.2.1 (idx a l) (mkP (pa / 4096) p (decide (id = -1))))) k.sh; generalize dnN k.sz k.cd a l w.2.1.toNat k.m k.pf w.1 = D at *; intro s j hj q1 q2; rw [hat s j hj] at q1 q2 ⊢; by_cases c : s = D.2.2.1 ∧ j = idx a l
             · rw [if_pos c, zcg hb.2.2] at q1; cases q1
             · rw [if_neg c] at q1 q2 ⊢; by_cases d : (atM k.sz D.1 s j).ppn = D.2.2.1
               · exact ⟨idx a l, hi, by rw [d, hat _ _ hi, if_pos ⟨rfl, rfl⟩]; exact zu9 rfl⟩
               · obtain ⟨j', hj', hne⟩ := hx s j hj q1 q2 d; refine ⟨j', hj', ?_⟩; rw [hat _ _ hj']
                 split
                 · exact zu9 rfl
                 · exact hne
theorem z8q {n : Nat} {k : Kr} (h : Inv n k) (g : Inv2 k) : InvN k := ⟨fun s i hi h1 h2 => by
 obtain ⟨lv, hT, hs, hr⟩ := (z02 h g).t; unfold atM zbs at h1 h2 ⊢
 split at h1
 · rename_i hlt; rw [if_pos hlt] at h2; rcases znq (xs := k.m) (k := (s * 4096 + i * 8) / 8) with e | ⟨c, hc, e1, e2⟩
   · rw [e, znr] at h1; cases h1
   · obtain ⟨p, hp, hv, rfl⟩ := g.cl c hc; have hsh := h.sh; have hcd := h.cd; have hcp := h.cp; rw [e2] at h2; have h2 : (zay (33 + 1024 * k.sh)).ppn ≠ k.sh := h2; rw [zkz (by omega)] at h2; exact absurd rfl h2
 · rw [znr] at h1; cases h1⟩
theorem bg_n {a b c : Int} {n : Nat} (h : zf8 a b c n = true) : InvN (bgK a b c n) := by
 have h0 := zim h; have g0 := zjf h; have h1 := zcs h0; have g1 := zcm h0 g0; exact z8q (zcs h1) (zcm h1 g1)
def m39 (a : Int) : Int := a % 549755813888
theorem zeo {b i l : Int} (h0 : 0 ≤ l ∧ l ≤ 2) (hi : 0 ≤ i ∧ i < 512) (hb : m39 b % (512 * VaSpec.sz l) = 0) : m39 (adr b i l) = m39 b + i * VaSpec.sz l ∧ m39 b + 512 * VaSpec.sz l ≤ 549755813888 := by
 unfold adr; rw [IntKind.wrap_u64, IntKind.wrap_u64]; unfold m39 at *; rcases (by omega : l = 0 ∨ l = 1 ∨ l = 2) with rfl | rfl | rfl
 · simp only [show VaSpec.sz 0 = 4096 from rfl] at *; omega
 · simp only [show VaSpec.sz 1 = 2097152 from rfl] at *; omega
 · simp only [show VaSpec.sz 2 = 1073741824 from rfl] at *; omega
theorem zk2 {a : Int} (h : m39 a % 4096 = 0) : m39 (ofv (num a)) = m39 a := by
 unfold m39 at *; unfold ofv zj8 num
 split <;> omega
theorem zsa (a l : Int) (h : 0 ≤ l ∧ l ≤ 2) : idx (m39 a) l = idx a l := by
 unfold idx m39; rcases (by omega : l = 0 ∨ l = 1 ∨ l = 2) with rfl | rfl | rfl
 · simp only [show VaSpec.sz 0 = 4096 from rfl]; omega
 · simp only [show VaSpec.sz 1 = 2097152 from rfl]; omega
 · simp only [show VaSpec.sz 2 = 1073741824 from rfl]; omega
theorem sz_pos {l : Int} (h : 0 ≤ l ∧ l ≤ 2) : 0 < VaSpec.sz l := by
 rcases (by omega : l = 0 ∨ l = 1 ∨ l = 2) with rfl | rfl | rfl <;> decide
theorem zhe {l : Int} (h : 1 ≤ l ∧ l ≤ 2) : VaSpec.sz l = 512 * VaSpec.sz (l - 1) := by
 rcases (by omega : l = 1 ∨ l = 2) with rfl | rfl <;> rfl
theorem zmk {l : Int} (h : 0 ≤ l ∧ l ≤ 2) {m : Int} (hm : m % VaSpec.sz l = 0) : m % 4096 = 0 := by
 rcases (by omega : l = 0 ∨ l = 1 ∨ l = 2) with rfl | rfl | rfl
 · exact hm
 · have hm : m % 2097152 = 0 := hm; omega
 · have hm : m % 1073741824 = 0 := hm; omega
theorem zbp (sz : Int) (xs : List (Int × Int)) (l : Nat) (t b : Int) (y : Pg) : y ∈ za7 sz xs l t b ↔ ∃ i : Nat, i < 512 ∧ zco (atM sz xs t i) (l : Int) = false ∧
 ((zas (atM sz xs t i) = true ∧ y = zxi (atM sz xs t i) (adr b i l) l) ∨ (zas (atM sz xs t i) = false ∧ ∃ m, l = m + 1 ∧ y ∈ za7 sz xs m (atM sz xs t i).ppn (adr b i l))) := by
 have key : ∀ (rec : Int → Int → List Pg) (p : Pte) (a : Int), y ∈ ze6 rec p (l : Int) a ↔ zco p (l : Int) = false ∧ ((zas p = true ∧ y = zxi p a l) ∨ (zas p = false ∧ y ∈ rec p.ppn a)) := fun rec p a => by
  unfold ze6; cases zco p (l : Int) <;> cases zas p <;> simp
 cases l with
 | zero =>
  simp only [za7, List.mem_flatMap, List.mem_range]; constructor
  · rintro ⟨i, hi, hy⟩; obtain ⟨a, b | ⟨_, c⟩⟩ := (key _ _ _).1 hy
    · exact ⟨i, hi, a, .inl b⟩
    · cases c
  · rintro ⟨i, hi, a, b | ⟨_, m, e, _⟩⟩
    · exact ⟨i, hi, (key _ _ _).2 ⟨a, .inl b⟩⟩
    · omega
 | succ m =>
  simp only [za7, List.mem_flatMap, List.mem_range]; constructor
  · rintro ⟨i, hi, hy⟩; obtain ⟨a, b | ⟨c, d⟩⟩ := (key _ _ _).1 hy
    · exact ⟨i, hi, a, .inl b⟩
    · exact ⟨i, hi, a, .inr ⟨c, m, rfl, d⟩⟩
  · rintro ⟨i, hi, a, b | ⟨c, m', e, d⟩⟩
    · exact ⟨i, hi, (key _ _ _).2 ⟨a, .inl b⟩⟩
    · obtain rfl : m' = m := by omega
      exact ⟨i, hi, (key _ _ _).2 ⟨a, .inr ⟨c, d⟩⟩⟩
theorem zh6 (sz : Int) (xs : List (Int × Int)) : ∀ (l : Nat) (t b : Int) (y : Pg), l ≤ 2 → m39 b % (512 * VaSpec.sz l) = 0 → y ∈ za7 sz xs l t b → (0 ≤ y.lev ∧ y.lev ≤ l) ∧ m39 b ≤ m39 y.va ∧ m39 y.va + VaSpec.sz y.lev ≤ m39 b + 512 * VaSpec.sz l ∧ m39 y.va % VaSpec.sz y.lev = 0 ∧ y.va = ofv (num y.va) := by
 intro l
 induction l with
 | zero =>
  intro t b y hl hb hy; obtain ⟨i, hi, _, ⟨_, rfl⟩ | ⟨_, m, e, _⟩⟩ := (zbp _ _ _ _ _ _).1 hy
  · obtain ⟨e1, e2⟩ := zeo (b := b) (i := (i : Int)) (l := ((0 : Nat) : Int)) (by omega) (by omega) hb; have hz : VaSpec.sz ((0 : Nat) : Int) = 4096 := rfl; have e3 := zk2 (a := adr b i ((0 : Nat) : Int)) (by rw [e1, hz]; rw [hz] at hb; omega)
    refine ⟨⟨by show (0 : Int) ≤ ((0 : Nat) : Int); omega, by show ((0 : Nat) : Int) ≤ ((0 : Nat) : Int); omega⟩, ?_⟩
    show m39 b ≤ m39 (ofv (num _)) ∧ m39 (ofv (num _)) + VaSpec.sz ((0 : Nat) : Int) ≤ _ ∧ m39 (ofv (num _)) % VaSpec.sz ((0 : Nat) : Int) = 0 ∧ _; rw [e3, e1, hz]; rw [hz] at hb; refine ⟨by omega, by omega, by omega, ?_⟩; show ofv (num _) = ofv (num (ofv (num _)))
    congr 1
    unfold num ofv zj8; split <;> omega
  · omega
 | succ l IH =>
  intro t b y hl hb hy; obtain ⟨i, hi, _, ⟨_, rfl⟩ | ⟨_, m, e, hy⟩⟩ := (zbp _ _ _ _ _ _).1 hy
  · obtain ⟨e1, e2⟩ := zeo (b := b) (i := (i : Int)) (l := ((l + 1 : Nat) : Int)) (by omega) (by omega) hb; have hz := sz_pos (l := ((l + 1 : Nat) : Int)) (by omega); have hmod : (m39 b + (i : Int) * VaSpec.sz ((l + 1 : Nat) : Int)) % VaSpec.sz ((l + 1 : Nat) : Int) = 0 := by
     rcases (by omega : l = 0 ∨ l = 1) with rfl | rfl
     · have hb : m39 b % (512 * 2097152) = 0 := hb; show (m39 b + (i : Int) * 2097152) % 2097152 = 0; omega
     · have hb : m39 b % (512 * 1073741824) = 0 := hb; show (m39 b + (i : Int) * 1073741824) % 1073741824 = 0; omega
    have e3 := zk2 (a := adr b i ((l + 1 : Nat) : Int)) (by rw [e1]; exact zmk (by omega) hmod)
    refine ⟨⟨by show (0 : Int) ≤ ((l + 1 : Nat) : Int); omega, by show ((l + 1 : Nat) : Int) ≤ ((l + 1 : Nat) : Int); omega⟩, ?_⟩
    show m39 b ≤ m39 (ofv (num _)) ∧ m39 (ofv (num _)) + VaSpec.sz ((l + 1 : Nat) : Int) ≤ _ ∧ m39 (ofv (num _)) % VaSpec.sz ((l + 1 : Nat) : Int) = 0 ∧ _; rw [e3, e1]; refine ⟨?_, ?_, hmod, ?_⟩
    · have : 0 ≤ (i : Int) * VaSpec.sz ((l + 1 : Nat) : Int) := Int.mul_nonneg (by omega) (by omega); omega
    · rcases (by omega : l = 0 ∨ l = 1) with rfl | rfl
      · show m39 b + (i : Int) * 2097152 + 2097152 ≤ m39 b + 512 * 2097152; omega
      · show m39 b + (i : Int) * 1073741824 + 1073741824 ≤ m39 b + 512 * 1073741824; omega
    · show ofv (num _) = ofv (num (ofv (num _)))
      congr 1
      unfold num ofv zj8; split <;> omega
  · obtain rfl : m = l := by omega
    obtain ⟨e1, e2⟩ := zeo (b := b) (i := (i : Int)) (l := ((m + 1 : Nat) : Int)) (by omega) (by omega) hb; have hs := zhe (l := ((m + 1 : Nat) : Int)) (by omega); rw [show ((m + 1 : Nat) : Int) - 1 = (m : Int) by omega] at hs; have hmod : (m39 b + (i : Int) * VaSpec.sz ((m + 1 : Nat) : Int)) % (512 * VaSpec.sz (m : Int)) = 0 := by
     rw [← hs]; rcases (by omega : m = 0 ∨ m = 1) with rfl | rfl
     · have hb : m39 b % (512 * 2097152) = 0 := hb; show (m39 b + (i : Int) * 2097152) % 2097152 = 0; omega
     · have hb : m39 b % (512 * 1073741824) = 0 := hb; show (m39 b + (i : Int) * 1073741824) % 1073741824 = 0; omega
    obtain ⟨r1, r2, r3, r4, r5⟩ := IH _ _ y (by omega) (by rw [e1]; exact hmod) hy
    rw [e1] at r2 r3; refine ⟨⟨r1.1, by omega⟩, ?_, ?_, r4, r5⟩
    · have : 0 ≤ (i : Int) * VaSpec.sz ((m + 1 : Nat) : Int) := Int.mul_nonneg (by omega) (by have := sz_pos (l := ((m + 1 : Nat) : Int)) (by omega); omega)
      omega
    · rw [← hs] at r3; rcases (by omega : m = 0 ∨ m = 1) with rfl | rfl
      · have r3 : m39 y.va + VaSpec.sz y.lev ≤ m39 b + (i : Int) * 2097152 + 2097152 := r3; show m39 y.va + VaSpec.sz y.lev ≤ m39 b + 512 * 2097152; omega
      · have r3 : m39 y.va + VaSpec.sz y.lev ≤ m39 b + (i : Int) * 1073741824 + 1073741824 := r3; show m39 y.va + VaSpec.sz y.lev ≤ m39 b + 512 * 1073741824; omega
end LrA
namespace LrB
open Go.RowKit Bv VaSpec MemL RegR Ax OkS SpA SpB SpD SpE SpH SpN SpO RfG LaA LaB LaC LaD LaE LaG LaH LiA LiB LiC LiE LrA
section
variable {cd cp sz f sh : Int} {xs : List (Int × Int)} {lv : Int → Int}
theorem blk {m mb l : Int} (hl : 0 ≤ l ∧ l ≤ 2) (hb : mb % (512 * VaSpec.sz l) = 0) (h0 : mb ≤ m) (h1 : m < mb + 512 * VaSpec.sz l) : mb + idx m l * VaSpec.sz l ≤ m ∧ m < mb + idx m l * VaSpec.sz l + VaSpec.sz l := by
 unfold idx; rcases (by omega : l = 0 ∨ l = 1 ∨ l = 2) with rfl | rfl | rfl
 · simp only [show VaSpec.sz 0 = 4096 from rfl] at *; omega
 · simp only [show VaSpec.sz 1 = 2097152 from rfl] at *; omega
 · simp only [show VaSpec.sz 2 = 1073741824 from rfl] at *; omega
end
theorem zgs {a l : Int} (h : 0 ≤ l ∧ l ≤ 2) (hf : zhh a l = true) : m39 a % VaSpec.sz l = 0 := by
 unfold zhh off at hf; simp only [Bool.and_eq_true, beq_iff_eq] at hf; obtain ⟨_, hf⟩ := hf; unfold m39; rcases (by omega : l = 0 ∨ l = 1 ∨ l = 2) with rfl | rfl | rfl
 · simp only [show VaSpec.sz 0 = 4096 from rfl] at *; omega
 · simp only [show VaSpec.sz 1 = 2097152 from rfl] at *; omega
 · simp only [show VaSpec.sz 2 = 1073741824 from rfl] at *; omega
theorem zym {k : Kr} {id a l : Int} (he : (zal k id a l).2.2 = 0) (h : id = -1) : idx a 2 = 511 := by
 unfold zal at he; by_cases c1 : 0 ≤ l ∧ l ≤ 2; rotate_left
 · rw [if_pos c1] at he; cases he
 rw [if_neg (by simpa using c1)] at he; by_cases c2 : id ≠ -1 ∧ za4 k id = false
 · rw [if_pos c2] at he; cases he
 rw [if_neg c2] at he; by_cases c3 : zhh a l = false
 · rw [if_pos c3] at he; cases he
 rw [if_neg c3, if_pos h] at he; by_cases c5 : idx a 2 = 511 ∧ l ≠ 2
 · exact c5.1
 · rw [if_neg c5] at he; cases he
end LrB
namespace LrC
open Go.RowKit Bv VaSpec MemL RegR Ax SpA SpB SpD SpE SpH SpN RfG RfJ LaA LaB LaC LaD LaE LaG LiA LiB LiC LiE LrA
section
variable {cd cp sz sh : Int}
end
theorem z2k (k : Kr) (top at' a l : Int) : (lk3 k top at' a l = 0 ∧ (atM k.sz k.m (za0 k.sz k.m a l at' top).1 (idx a (za0 k.sz k.m a l at' top).2)).v = false) ∨ lk3 k top at' a l = 6 := by
 unfold lk3; cases (atM k.sz k.m (za0 k.sz k.m a l at' top).1 (idx a (za0 k.sz k.m a l at' top).2)).v <;> simp
def ends (a s : Int) : Int := IntKind.u64.wrap (IntKind.u64.wrap (a + s) - 1)
end LrC
namespace LmA
open Go.RowKit Bv VaSpec Base MemL RegR Ax MemC PutC MemC3 OkS SpA SpB SpC SpF SpH SpI SpJ LaA LaB LaC LaD LaE LaG LiA LiB LiC LiE LrA LjA LjF LkE
open PteSpec
def zde (q : Pte) (p : Pm) : Pte := { q with r := p.r, w := p.w, x := p.x, u := p.u }
def zml (sz : Int) (xs : List (Int × Int)) (t i : Int) (p : Pm) : List (Int × Int) := zba sz xs t i (zde (atM sz xs t i) p)
theorem zfm {q : Pte} {p : Pm} {l : Int} (hU : q.U) (hm : zhr q = true) (hp : zcb p = true) (h1 : zas q = true) (h2 : zco q l = false) :
 (zde q p).U ∧ zhr (zde q p) = true ∧ zas (zde q p) = true ∧ zco (zde q p) l = false := by
 obtain ⟨v, r, w, x, u, g, a, d, rsw, ppn, high⟩ := q; obtain ⟨pr, pw, px, pu⟩ := p; refine ⟨hU, hm, ?_, ?_⟩
 · revert hp h1; unfold zas zde zcb; cases v <;> cases pr <;> cases pw <;> cases px <;> simp
 · revert hp h1 h2; unfold zas zcb zco zbf zde; simp only; generalize (high != 0) = e1; generalize (ppn % (VaSpec.sz l / 4096) == 0) = e2; generalize (l == 0 || a || d || u) = e3; generalize (l == 0 || a || d || pu) = e4; cases v <;> cases r <;> cases w <;> cases x <;> cases pr <;> cases pw <;> cases px <;> cases e1 <;> cases e2 <;> simp
theorem ztm : ∀ (xs : List (Int × Int)) (a v : Int), MemC.look xs a ≠ 0 → (zb3 xs a v).length ≤ xs.length
 | [], a, v, h => absurd (zno a) h
 | c :: cs, a, v, h => by
  rw [zdd] at h; unfold zb3; by_cases c1 : c.1 < a
  · rw [if_pos c1] at h ⊢; have := ztm cs a v h; show (zb3 cs a v).length + 1 ≤ cs.length + 1; omega
  · rw [if_neg c1] at h ⊢; by_cases c2 : c.1 = a
    · rw [if_pos c2]
      split
      · show cs.length ≤ cs.length + 1; omega
      · exact Nat.le_refl _
    · rw [if_neg c2] at h; exact absurd rfl h
section
variable {cd cp sz f sh : Int} {xs : List (Int × Int)} {lv : Int → Int}
theorem zew (h : TI cd cp sz xs f sh lv) {t i : Int} (hi : 0 ≤ i ∧ i < 512) (h1 : zas (atM sz xs t i) = true) : Al cd cp f t ∧ (0 ≤ lv t ∧ lv t ≤ 2) ∧ zco (atM sz xs t i) (lv t) = false := by
 rcases h.e.k t i hi with e | ⟨a, b, ⟨_, e⟩ | ⟨e, _⟩⟩
 · rw [e] at h1; cases h1
 · exact ⟨a, b, e⟩
 · have := (za8 e).2.2; rw [h1] at this; cases this
theorem zir (h : TI cd cp sz xs f sh lv) {t i : Int} {p : Pm} (hi : 0 ≤ i ∧ i < 512) (h1 : zas (atM sz xs t i) = true) (hp : zcb p = true) :
 TI cd cp sz (zml sz xs t i p) f sh lv ∧ (∀ s j, (0 ≤ j ∧ j < 512) → atM sz (zml sz xs t i p) s j = if s = t ∧ j = i then zde (atM sz xs t i) p else atM sz xs s j) ∧ (zml sz xs t i p).length ≤ xs.length := by
 obtain ⟨ht, hl, h2⟩ := zew h hi h1; have b1 := h.bd; have bz := h.bz; have bt := ht.1; obtain ⟨p1, p2, p3, p4⟩ := zfm (p := p) (ze5 h.u sz t i) (zg0 h.u) hp h1 h2; have e : zml sz xs t i p = zb3 xs (t * 512 + i) (PteC.zc4 (zde (atM sz xs t i) p)) := zem p1 (by omega) hi (by rw [bz]; omega)
 rw [e]; have hb := zta p1 p2; have hE : ∀ s j, (0 ≤ j ∧ j < 512) → atM sz (zb3 xs (t * 512 + i) (PteC.zc4 (zde (atM sz xs t i) p))) s j = if s = t ∧ j = i then zde (atM sz xs t i) p else atM sz xs s j := fun s j hj => by
  by_cases hd : s * 4096 + j * 8 < sz
  · rw [zh1 h.s hi hj hd, hb]
  · rw [if_neg (by rintro ⟨rfl, rfl⟩; omega)]
    unfold atM zbs; rw [if_neg hd, if_neg hd]
 refine ⟨h.put bt hi (zfq _ p1) h.bf fun E' hE' => ?_, hE, ztm _ _ _ fun e0 => ?_⟩
 · rw [hb] at hE'; exact h.e.leaf ht hl p3 p4 hE'
 · have : atM sz xs t i = zP := by
    unfold atM zbs; rw [if_pos (by rw [bz]; omega), show (t * 4096 + i * 8) / 8 = t * 512 + i by omega, e0, znr]
   rw [this] at h1; cases h1
def Shp (sz : Int) (p : Pm) (xs xs' : List (Int × Int)) : Prop := ∀ s j, (0 ≤ j ∧ j < 512) → atM sz xs' s j = atM sz xs s j ∨ (zas (atM sz xs s j) = true ∧ zas (atM sz xs' s j) = true ∧ atM sz xs' s j = zde (atM sz xs s j) p)
theorem Shp.refl (sz : Int) (p : Pm) (xs : List (Int × Int)) : Shp sz p xs xs := fun _ _ _ => .inl rfl
theorem zsb (q : Pte) (p : Pm) : zde (zde q p) p = zde q p := rfl
theorem Shp.trans {sz : Int} {p : Pm} {a b c : List (Int × Int)} (h : Shp sz p a b) (g : Shp sz p b c) : Shp sz p a c := fun s j hj => by
 rcases h s j hj with e | ⟨e1, e2, e3⟩ <;> rcases g s j hj with e' | ⟨e1', e2', e3'⟩
 · exact .inl (e'.trans e)
 · rw [e] at e1' e3'; exact .inr ⟨e1', e2', e3'⟩
 · rw [e'] ; exact .inr ⟨e1, e2, e3⟩
 · exact .inr ⟨e1, e2', by rw [e3', e3, zsb]⟩
theorem Shp.leaf {sz : Int} {p : Pm} {a b : List (Int × Int)} (h : Shp sz p a b) {s j : Int} (hj : 0 ≤ j ∧ j < 512) (hl : zas (atM sz a s j) = true) : zas (atM sz b s j) = true := by
 rcases h s j hj with e | ⟨_, e, _⟩
 · rw [e]; exact hl
 · exact e
theorem zgt {q : Pte} (l : Int) (h : zas q = true) : za2 q l = false := by
 unfold za2; rw [(zbw h).1]; rfl
theorem Shp.reach {sz : Int} {p : Pm} {a b : List (Int × Int)} (h : Shp sz p a b) (addr zam : Int) : ∀ (l : Nat) (t : Int), zao sz b addr zam l t = zao sz a addr zam l t
 | 0, t => rfl
 | l + 1, t => by
  have hi := idx_bd addr ((l + 1 : Nat) : Int); unfold zao; rcases h t _ hi with e | ⟨e1, e2, _⟩
  · rw [e, h.reach addr zam l]
  · rw [zgt _ e1, zgt _ e2, Bool.and_false]
    rfl
theorem zk3 {v b i l : Int} (h0 : 0 ≤ l ∧ l ≤ 2) (hi : 0 ≤ i ∧ i < 512) (hb : m39 b % (512 * VaSpec.sz l) = 0) (h1 : m39 b + i * VaSpec.sz l ≤ m39 v) (h2 : m39 v < m39 b + i * VaSpec.sz l + VaSpec.sz l) : idx v l = i := by
 rw [← zsa v l h0]; unfold idx; rcases (by omega : l = 0 ∨ l = 1 ∨ l = 2) with rfl | rfl | rfl
 · simp only [show VaSpec.sz 0 = 4096 from rfl] at *; omega
 · simp only [show VaSpec.sz 1 = 2097152 from rfl] at *; omega
 · simp only [show VaSpec.sz 2 = 1073741824 from rfl] at *; omega
theorem zgb (h : TI cd cp sz xs f sh lv) : ∀ (l : Nat) (t b : Int) (y : Pg), l ≤ 2 → Al cd cp f t → lv t = l → m39 b % (512 * VaSpec.sz l) = 0 → y ∈ za7 sz xs l t b →
 ∃ t', zao sz xs y.va y.lev l t = (t', y.lev) ∧ (0 ≤ y.lev ∧ y.lev ≤ l) ∧ zas (atM sz xs t' (idx y.va y.lev)) = true := by
 intro l
 induction l with
 | zero =>
  intro t b y h2 ht hl hb hy; obtain ⟨i, hi, c0, ⟨c1, rfl⟩ | ⟨_, m, e, _⟩⟩ := (zbp _ _ _ _ _ _).1 hy
  · obtain ⟨e1, e2⟩ := zeo (b := b) (i := (i : Int)) (l := ((0 : Nat) : Int)) (by omega) (by omega) hb; have hz : VaSpec.sz ((0 : Nat) : Int) = 4096 := rfl; have e3 := zk2 (a := adr b i ((0 : Nat) : Int)) (by rw [e1, hz]; rw [hz] at hb; omega)
    have hix : idx (ofv (num (adr b i ((0 : Nat) : Int)))) ((0 : Nat) : Int) = (i : Int) := zk3 (by omega) (by omega) hb (by rw [e3, e1]; omega) (by rw [e3, e1, hz]; omega)
    refine ⟨t, rfl, ⟨Int.le_refl 0, Int.le_refl 0⟩, ?_⟩; show zas (atM sz xs t (idx (ofv (num (adr b i ((0 : Nat) : Int)))) ((0 : Nat) : Int))) = true; rw [hix]; exact c1
  · omega
 | succ m ih =>
  intro t b y h2 ht hl hb hy; obtain ⟨i, hi, c0, ⟨c1, rfl⟩ | ⟨c1, m', e, hy'⟩⟩ := (zbp _ _ _ _ _ _).1 hy
  · obtain ⟨e1, e2⟩ := zeo (b := b) (i := (i : Int)) (l := ((m + 1 : Nat) : Int)) (by omega) (by omega) hb; have hsp := sz_pos (l := ((m + 1 : Nat) : Int)) (by omega); have hdv : m39 (adr b i ((m + 1 : Nat) : Int)) % VaSpec.sz ((m + 1 : Nat) : Int) = 0 := by
     rw [e1]; rcases (by omega : m = 0 ∨ m = 1) with rfl | rfl
     · have hz : VaSpec.sz ((0 + 1 : Nat) : Int) = 2097152 := rfl; rw [hz] at hb ⊢; omega
     · have hz : VaSpec.sz ((1 + 1 : Nat) : Int) = 1073741824 := rfl; rw [hz] at hb ⊢; omega
    have e3 := zk2 (a := adr b i ((m + 1 : Nat) : Int)) (zmk (l := ((m + 1 : Nat) : Int)) (by omega) hdv); have hix : idx (ofv (num (adr b i ((m + 1 : Nat) : Int)))) ((m + 1 : Nat) : Int) = (i : Int) := zk3 (by omega) (by omega) hb (by rw [e3, e1]; omega) (by rw [e3, e1]; omega)
    refine ⟨t, ?_, ⟨by show (0 : Int) ≤ ((m + 1 : Nat) : Int); omega, by show ((m + 1 : Nat) : Int) ≤ ((m + 1 : Nat) : Int); omega⟩, ?_⟩
    · exact zbh (fun hh => absurd hh (by show ¬ ((m + 1 : Nat) : Int) < ((m + 1 : Nat) : Int); omega)) (by show (0 : Int) ≤ ((m + 1 : Nat) : Int); omega)
    · show zas (atM sz xs t (idx (ofv (num (adr b i ((m + 1 : Nat) : Int)))) ((m + 1 : Nat) : Int))) = true; rw [hix]; exact c1
  · obtain rfl : m' = m := by omega
    have hi' : (0 : Int) ≤ (i : Int) ∧ (i : Int) < 512 := by omega
    have hlk : lkP (atM sz xs t i) = true := by
     rcases h.e.k t i hi' with e | ⟨_, _, ⟨e, _⟩ | ⟨e, _⟩⟩
     · rw [e] at c0; cases c0
     · rw [e] at c1; cases c1
     · exact e
    obtain ⟨k1, k2, k3, k4⟩ := zb5 h hi' hlk; obtain ⟨e1, e2⟩ := zeo (b := b) (i := (i : Int)) (l := ((m' + 1 : Nat) : Int)) (by omega) (by omega) hb; have hss := zhe (l := ((m' + 1 : Nat) : Int)) (by omega); have hsm : VaSpec.sz (((m' + 1 : Nat) : Int) - 1) = VaSpec.sz (m' : Int) := by rw [show ((m' + 1 : Nat) : Int) - 1 = (m' : Int) by omega]
    rw [hsm] at hss; have hdv : m39 (adr b i ((m' + 1 : Nat) : Int)) % (512 * VaSpec.sz (m' : Int)) = 0 := by
     rw [e1, ← hss]; rcases (by omega : m' = 0 ∨ m' = 1) with rfl | rfl
     · have hz : VaSpec.sz ((0 + 1 : Nat) : Int) = 2097152 := rfl; rw [hz] at hb ⊢; omega
     · have hz : VaSpec.sz ((1 + 1 : Nat) : Int) = 1073741824 := rfl; rw [hz] at hb ⊢; omega
    obtain ⟨q1, q2, q3, q4, q5⟩ := zh6 sz xs m' (atM sz xs t i).ppn (adr b i ((m' + 1 : Nat) : Int)) y (by omega) hdv hy'; have hsp := sz_pos (l := y.lev) (by omega); have hix : idx y.va ((m' + 1 : Nat) : Int) = (i : Int) := zk3 (by omega) hi' hb (by rw [← e1]; exact q2) (by rw [hss] at e1 ⊢; omega)
    obtain ⟨t', r1, r2, r3⟩ := ih (atM sz xs t i).ppn (adr b i ((m' + 1 : Nat) : Int)) y (by omega) k4 (by rw [k3, hl]; omega) hdv hy'
    refine ⟨t', ?_, ⟨r2.1, by omega⟩, r3⟩; rw [zbk (by omega) (by rw [hix]; exact zb7 hlk (by omega)), hix]
    exact r1
def zlt (sz : Int) (l : Nat) (top : Int) (p : Pm) : List Pg → List (Int × Int) → List (Int × Int)
 | [], xs => xs
 | y :: ys, xs => zlt sz l top p ys (zml sz xs (zao sz xs y.va y.lev l top).1 (idx y.va (zao sz xs y.va y.lev l top).2) p)
structure Pnt (cd cp sz f sh : Int) (lv : Int → Int) (p : Pm) (xs xs' : List (Int × Int)) : Prop where
 t : TI cd cp sz xs' f sh lv
 s : Shp sz p xs xs'
 n : xs'.length ≤ xs.length
theorem Pnt.go {xs' : List (Int × Int)} {p : Pm} (h : TI cd cp sz xs f sh lv) (hp : zcb p = true) (g : Pnt cd cp sz f sh lv p xs xs') {t i : Int} (hi : 0 ≤ i ∧ i < 512) (h1 : zas (atM sz xs t i) = true) : Pnt cd cp sz f sh lv p xs (zml sz xs' t i p) := by
 have h2 := g.s.leaf hi h1; obtain ⟨r1, r2, r3⟩ := zir g.t hi h2 hp; obtain ⟨_, _, hbad⟩ := zew g.t hi h2; refine ⟨r1, g.s.trans fun s j hj => ?_, Nat.le_trans r3 g.n⟩; rw [r2 s j hj]
 split
 · rename_i c; obtain ⟨rfl, rfl⟩ := c; exact .inr ⟨h2, (zfm (p := p) (ze5 g.t.u sz _ _) (zg0 g.t.u) hp h2 hbad).2.2.1, rfl⟩
 · exact .inl rfl
theorem zsc (h : TI cd cp sz xs f sh lv) {p : Pm} (hp : zcb p = true) (l : Nat) (t b : Int) (hl2 : l ≤ 2) (ht : Al cd cp f t) (hl : lv t = l) (hb : m39 b % (512 * VaSpec.sz l) = 0) : ∀ (ys : List Pg), (∀ y ∈ ys, y ∈ za7 sz xs l t b) → ∀ xs', Pnt cd cp sz f sh lv p xs xs' → Pnt cd cp sz f sh lv p xs (zlt sz l t p ys xs')
 | [], _, xs', g => g
 | y :: ys, hy, xs', g => by
  obtain ⟨t', r1, r2, r3⟩ := zgb h l t b y hl2 ht hl hb (hy y (by simp)); unfold zlt; rw [g.s.reach, r1]; exact zsc h hp l t b hl2 ht hl hb ys (fun z hz => hy z (by simp [hz])) _ (g.go h hp (idx_bd _ _) r3)
end
end LmA
namespace LmC
open Go.RowKit Bv VaSpec Base MemL RegR Ax MemC PutC MemC3 OkS SpA SpB SpC SpH SpI LaA LaB LaC LaD LaE LaG LiA LiB LiC LiE RlB LrA LjA LjF LkE LmA
open PteSpec
def pcC (sz : Int) (xs : List (Int × Int)) (p : Pm) : List Ce := [cu sz, .s xs.length 2 (fl xs), cb p.r, cb p.w, cb p.x, cb p.u]
theorem zyn (sz : Int) (xs : List (Int × Int)) (t l addr : Int) (q : Pte) (p : Pm) (ha : U addr) (hU : (zde q p).U) (l0 : 0 ≤ l) (l2 : l ≤ 2) (ht : 0 ≤ t ∧ t < 1099511627776) (hs : Srt xs) (hu : Uw xs) (hn : xs.length ≤ 1000000) (R : List (Int × Int)) (hR : R = zba sz xs t (idx addr l) (zde q p)) :
 zby Tryz.prog GG 150 [(2000, pcC sz xs p, pcC sz R p)] [.c (.p 2000 0), .ag (zbq t l q), iu addr] (.tu []) := by
 have hw := zd9 sz xs t l q addr (zde q p) ha hU l0 l2 ht hs hu (by omega); rw [← hR] at hw; have hw : Ok 49 [zbm sz xs, .ag (zbq t l q), iu addr, .ag [cb q.v, cb p.r, cb p.w, cb p.x, cb p.u, cb q.g, cb q.a, cb q.d, cu q.rsw, cu q.ppn, cu q.high]] (.m (zbm sz R)) := hw; refine zb1 44 Tryz.func150 rfl rfl rfl rfl rfl ?_; intro W A τ hG
 repeat (first | (refine zai rfl ?_; first | refine zaj ?_ | refine gdr (zaa rfl rfl rfl (hw) (by kernel_rfl)) ?_) | (refine hK _ ?_; clear hK K) | refine zac rfl ?_ | refine zaq (by kernel_rfl) (by kernel_rfl) rfl ?_ | refine zab (fun K hK => ?_))
 exact ⟨by kernel_rfl, ⟨_, rfl, rfl⟩, trivial⟩
section
variable {cd cp sz f sh : Int} {xs : List (Int × Int)} {lv : Int → Int}
theorem ztn (h : TI cd cp sz xs f sh lv) (hn : xs.length ≤ 1000000) {t addr : Int} (ha : U addr) {p : Pm} (hp : zcb p = true) (l : Int) (l0 : 0 ≤ l) (l2 : l ≤ 2) (h1 : zas (atM sz xs t (idx addr l)) = true) :
 zby Tryz.prog GG 150 [(2000, pcC sz xs p, pcC sz (zml sz xs t (idx addr l) p) p)] [.c (.p 2000 0), .ag (zbq t l (atM sz xs t (idx addr l))), iu addr] (.tu []) := by
 obtain ⟨ht, _, hb⟩ := zew h (idx_bd addr l) h1; have b1 := h.bd; have b2 := h.bp; have bt := ht.1; exact zyn sz xs t l addr _ p ha (zfm (ze5 h.u sz _ _) (zg0 h.u) hp h1 hb).1 l0 l2 ⟨by omega, by omega⟩ h.s h.u hn _ rfl
def z8r (t a b l : Int) (q : Pte) (p : Pm) (sz : Int) (ys : List Pg) (i : Nat) (xs' : List (Int × Int)) : St := St.of [(0, .m (.c (.p 2000 0))), (2, .m (iu a)), (4, .m (.c (.p 4 0))), (6, .m (.c (.v (.slice none 0 0)))), (7, .m (.c (.cl (150 + 1000000) [2000]))), (8, .m (iu b)), (10, .m (.c (.s ys.length 8 (flP ys)))), (54, .m (.c (.s ys.length 8 (flP ys)))), (55, .m (ii ys.length)), (56, .m (ii i))] [(4, .live (.box (zbq t l q))), (2000, .live (.box (pcC sz xs' p)))]
theorem zyo (h : TI cd cp sz xs f sh lv) (hn : xs.length ≤ 1000000) {t a : Int} (ha : U a) {p : Pm} (hp : zcb p = true) (l : Int) (l0 : 0 ≤ l) (l2 : l ≤ 2) (h1 : zas (atM sz xs t (idx a l)) = true) (R : List (Int × Int)) (hR : R = zml sz xs t (idx a l) p) (q : Pte) (hq : q = atM sz xs t (idx a l)) :
 zby Tryz.prog GG 86 [(2000, pcC sz xs p, pcC sz R p)] [.c (.p 2000 0), .ag (zbq t l q), iu a] (.m (.c (.s 1 8 (flP [⟨VaSpec.base a l, q.ppn * 4096, l, q.r, q.w, q.x, q.u, q.d⟩])))) := by
 have hl := ztn h hn (t := t) ha hp l l0 l2 h1; have hU := ze5 h.u sz t (idx a l); have hpp := zdo (xs := xs) sz t (idx a l); rw [← hR, ← hq] at hl; rw [← hq] at h1 hU hpp; have h5 := zhs a l ha l0 l2; have h3 := zng q; have h2 := zgj q; rw [h1] at h2; clear hR; refine zb1 81 Tryz.func86 rfl rfl rfl rfl rfl ?_; intro W A τ hG
 repeat (first | (refine zai rfl ?_; first | refine zaj ?_ | refine gdr (zaa rfl rfl rfl (h5) (by kernel_rfl)) ?_ | refine gdr (zaa rfl rfl rfl (h2) (by kernel_rfl)) ?_ | refine gdr (zaa rfl rfl rfl (h3) (by kernel_rfl)) ?_ | refine gdr (zl9 rfl rfl rfl) ?_ | refine gdr (zix (fun _ => 2000) hl rfl rfl rfl (by kernel_rfl) rfl rfl ⟨rfl, trivial⟩ (by kernel_rfl)) ?_) | (refine hK _ ?_; clear hK K) | refine zac rfl ?_ | refine zaq (by kernel_rfl) (by kernel_rfl) rfl ?_ | refine zaf rfl rfl ?_ | refine zab (fun K hK => ?_) | refine zah (show zat _ _ _ = some _ ∧ EndB _ _ from ⟨by kernel_rfl, ?_⟩))
 exact ⟨⟨_, rfl, rfl⟩, trivial⟩
theorem zyp (h : TI cd cp sz xs f sh lv) (hn : xs.length ≤ 1000000) {t a : Int} (ha : U a) {p : Pm} (hp : zcb p = true) (m : Nat) (m2 : m ≤ 1) (q : Pte) (hq : 0 ≤ q.ppn ∧ q.ppn < 17592186044416) (h1 : zas q = false) (b : Int) (hb : b = VaSpec.base a ((m + 1 : Nat) : Int)) (bU : U b) (bm : m39 b % (512 * VaSpec.sz (m : Int)) = 0)
 (ht : Al cd cp f q.ppn) (hl : lv q.ppn = m) (ys : List Pg) (hys : ys = za7 sz xs m q.ppn b) (hyl : ys.length ≤ 134217728) (hyU : ∀ y ∈ ys, U y.va) (hpg : Ok 48 [zbm sz xs, iu q.ppn, ii m, iu b] (.m (.c (.s ys.length 8 (flP ys))))) (R : List (Int × Int)) (hR : R = zlt sz m q.ppn p ys xs) :
 zby Tryz.prog GG 86 [(2000, pcC sz xs p, pcC sz R p)] [.c (.p 2000 0), .ag (zbq t ((m + 1 : Nat) : Int) q), iu a] (.m (.c (.s ys.length 8 (flP ys)))) := by
 have h5 := zhs a ((m + 1 : Nat) : Int) ha (by omega) (by omega); rw [← hb] at h5; have h2 := zgj q; rw [h1] at h2; have e1 : ((m + 1 : Nat) : Int) - 1 = (m : Int) := by omega
 generalize ((m + 1 : Nat) : Int) = li at *; refine zb1 81 Tryz.func86 rfl rfl rfl rfl rfl ?_; intro W A τ hG; have hpg2 : Ok 48 [zbm sz xs, iu q.ppn, ii (li - 1), iu b] (.m (.c (.s ys.length 8 (flP ys)))) := by rw [e1]; exact hpg
 repeat (first | (refine zai rfl ?_; first | refine zaj ?_ | refine gdr (zaa rfl rfl rfl (h5) (by kernel_rfl)) ?_ | refine gdr (zaa rfl rfl rfl (h2) (by kernel_rfl)) ?_ | refine gdr (zaa rfl rfl rfl (hpg2) (by kernel_rfl)) ?_ | refine gdr (zl9 rfl rfl rfl) ?_) | (refine hK _ ?_; clear hK K) | refine zac rfl ?_ | refine zaq (by kernel_rfl) (by kernel_rfl) rfl ?_ | refine zae rfl rfl ?_ | refine zag ?_ | refine zak ?_ | refine zab (fun K hK => ?_))
 refine za1 (α := Nat × List (Int × Int)) (fun w => w.1 ≤ ys.length ∧ Pnt cd cp sz f sh lv p xs w.2 ∧ zlt sz m q.ppn p (ys.drop w.1) w.2 = R) (fun w => z8r t a b li q p sz ys w.1 w.2) (fun w => ys.length - w.1) (0, xs) ⟨Nat.zero_le _, ⟨h, Shp.refl _ _ _, Nat.le_refl _⟩, hR.symm⟩ (sbq _ _) ?_; rintro ⟨i, xs'⟩ ⟨w1, w2, w3⟩; have g1 : i ≤ ys.length := w1; have g2 : Pnt cd cp sz f sh lv p xs xs' := w2; have g3 : zlt sz m q.ppn p (ys.drop i) xs' = R := w3; show Aw _ _ _ _ (z8r t a b li q p sz ys i xs'); unfold z8r; by_cases hlt : i < ys.length
 · obtain ⟨y, hy⟩ : ∃ y, ys[i]? = some y := ⟨_, List.getElem?_eq_getElem hlt⟩; have hx : ((flP ys).drop (i * 8)).take 8 = [.int .u64 y.va, .int .u64 y.pa, .int .i64 y.lev, .bool y.r, .bool y.w, .bool y.x, .bool y.u, .bool y.d] := zmi hy; have hmem : y ∈ ys := List.mem_of_getElem? hy; have yU := hyU y hmem; obtain ⟨t', r1, r2, r3⟩ := zgb h m q.ppn b y (by omega) ht hl bm (hys ▸ hmem); have r4 := g2.s.leaf (idx_bd _ _) r3; have hr := zfd sz xs' q.ppn (li - 1) y.va y.lev hq yU (by omega) (by omega) r2.1 g2.t.s g2.t.u; have e2 : za0 sz xs' y.va y.lev (li - 1) q.ppn = (t', y.lev) := by rw [e1]; show zao sz xs' y.va y.lev ((m : Int)).toNat q.ppn = _; rw [Int.toNat_natCast, g2.s.reach, r1]
   rw [e2] at hr; have hr : Ok 53 [zbm sz xs', iu q.ppn, ii (li - 1), iu y.va, ii y.lev] (.m (.ag (zbq t' y.lev (atM sz xs' t' (idx y.va y.lev))))) := hr; have hlf := ztn g2.t (Nat.le_trans g2.n hn) (t := t') yU hp y.lev r2.1 (by omega) r4; have gn := g2.go h hp (idx_bd _ _) r3; have g4 : zlt sz m q.ppn p (ys.drop (i + 1)) (zml sz xs' t' (idx y.va y.lev) p) = R := by
    rw [← g3, List.drop_eq_getElem_cons hlt]; obtain rfl : ys[i] = y := Option.some.inj ((List.getElem?_eq_getElem hlt).symm.trans hy); show _ = zlt sz m q.ppn p (ys.drop (i + 1)) (zml sz xs' (zao sz xs' ys[i].va ys[i].lev m q.ppn).1 (idx ys[i].va (zao sz xs' ys[i].va ys[i].lev m q.ppn).2) p); rw [g2.s.reach, r1]
   clear w1 w2 w3 g3 hR; generalize zml sz xs' t' (idx y.va y.lev) p = zs at *; generalize atM sz xs' t' (idx y.va y.lev) = qq at *
   repeat (first | (refine zai rfl ?_; first | refine zaj ?_ | refine gdr (zaa rfl rfl rfl (hr) (by kernel_rfl)) ?_) | (refine hK _ ?_; clear hK K) | refine zac rfl ?_ | refine zaq (by kernel_rfl) (by kernel_rfl) rfl ?_ | refine zaf rfl rfl ?_ | refine zag ?_ | refine zak ?_ | refine zab (fun K hK => ?_))
   refine zai rfl ?_; refine zi1 (zix (fun _ => 2000) hlf rfl rfl rfl (by kernel_rfl) rfl rfl ⟨rfl, trivial⟩ (by kernel_rfl)) (by kernel_rfl) ?_
   repeat (first | (refine zai rfl ?_; first | refine zaj ?_) | (refine hK _ ?_; clear hK K) | refine zac rfl ?_)
   exact ⟨(i + 1, zs), ⟨by show i + 1 ≤ ys.length; omega, gn, g4⟩, by show ys.length - (i + 1) < ys.length - i; omega, sbq _ _⟩
 · have ei : i = ys.length := by omega
   rw [ei, List.drop_length] at g3; obtain rfl : R = xs' := g3.symm
   repeat (first | (refine zai rfl ?_; first | refine zaj ?_) | (refine hK _ ?_; clear hK K) | (rename_i K1 hK1; refine hK1 _ ?_; clear hK hK1; clear K) | refine zac rfl ?_ | refine zae rfl rfl ?_ | refine zar ?_ | refine zab (fun K hK => ?_) | refine zah (show zat _ _ _ = some _ ∧ EndB _ _ from ⟨by kernel_rfl, ?_⟩))
   exact ⟨⟨_, rfl, rfl⟩, trivial⟩
end
end LmC
namespace LmD
open Go.RowKit Bv VaSpec MemL RegR Ax
section
variable {cd cp sz f sh : Int} {xs : List (Int × Int)} {lv : Int → Int}
end
end LmD
namespace LmB
open Go.RowKit Bv VaSpec Base MemL RegR Ax MemC PutC OkS SpA SpB SpH SpI LaA LaB LaC LaD LaE LaG LiA LiB LiC LiE LjA RlA RlB
def zlu (p q : Pm) : Bool := (q.r && !p.r) || (q.w && !p.w) || (q.x && !p.x) || (q.u != p.u)
def zhi (y : Pg) : Pm := ⟨y.r, y.w, y.x, y.u⟩
def zdf (l : List Pg) (p : Pm) : List Pg := l.filter fun y => zlu p (zhi y)
theorem b3 (a b : Bool) : a = false ∨ (a = true ∧ b = true) ∨ (a = true ∧ b = false) := by cases a <;> cases b <;> simp
set_option maxHeartbeats 40000000 in
theorem z4x (p q : Pm) : Ok 93 [.ag [cb p.r, cb p.w, cb p.x, cb p.u], .ag [cb q.r, cb q.w, cb q.x, cb q.u]] (.m (ib (zlu p q))) := by
 obtain ⟨pr, pw, px, pu⟩ := p; obtain ⟨qr, qw, qx, qu⟩ := q; unfold zlu; simp only
 all_goals rcases b3 qr pr with rfl | ⟨rfl, rfl⟩ | ⟨rfl, rfl⟩
 all_goals
  try
   try simp only [Bool.false_and, Bool.true_and, Bool.not_true, Bool.not_false, Bool.false_or, Bool.true_or, Bool.and_false, Bool.or_false, Bool.or_true, Bool.and_true, bne_self_eq_false, Bool.bne_false, Bool.bne_true]
   refine zad 37 Tryz.func93 rfl rfl rfl rfl ?_ GG.to; intro W A hG
   repeat (first | (refine zai rfl ?_; first | refine zaj ?_) | (refine hK _ ?_; clear hK K) | (rename_i K1 hK1; refine hK1 _ ?_; clear hK hK1; clear K) | (rename_i K1 hK1; refine hK1 _ ?_; clear hK1) | refine zac rfl ?_ | refine zaq (by kernel_rfl) (by kernel_rfl) rfl ?_ | exact zah (show zat _ _ _ = some _ by kernel_rfl) | refine zaf rfl rfl ?_ | refine zae rfl rfl ?_ | refine zag ?_ | refine zar ?_ | refine zak ?_ | refine zab (fun K hK => ?_) | refine zaz ?_ | refine za3 ?_ | refine zah (show zat _ _ _ = some _ ∧ EndB _ _ from ⟨by kernel_rfl, ?_⟩))
   done
 all_goals rcases b3 qw pw with rfl | ⟨rfl, rfl⟩ | ⟨rfl, rfl⟩
 all_goals
  try
   try simp only [Bool.false_and, Bool.true_and, Bool.not_true, Bool.not_false, Bool.false_or, Bool.true_or, Bool.and_false, Bool.or_false, Bool.or_true, Bool.and_true, bne_self_eq_false, Bool.bne_false, Bool.bne_true]
   refine zad 37 Tryz.func93 rfl rfl rfl rfl ?_ GG.to; intro W A hG
   repeat (first | (refine zai rfl ?_; first | refine zaj ?_) | (refine hK _ ?_; clear hK K) | (rename_i K1 hK1; refine hK1 _ ?_; clear hK hK1; clear K) | (rename_i K1 hK1; refine hK1 _ ?_; clear hK1) | refine zac rfl ?_ | refine zaq (by kernel_rfl) (by kernel_rfl) rfl ?_ | exact zah (show zat _ _ _ = some _ by kernel_rfl) | refine zaf rfl rfl ?_ | refine zae rfl rfl ?_ | refine zag ?_ | refine zar ?_ | refine zak ?_ | refine zab (fun K hK => ?_) | refine zaz ?_ | refine za3 ?_ | refine zah (show zat _ _ _ = some _ ∧ EndB _ _ from ⟨by kernel_rfl, ?_⟩))
   done
 all_goals rcases b3 qx px with rfl | ⟨rfl, rfl⟩ | ⟨rfl, rfl⟩
 all_goals
  try
   try simp only [Bool.false_and, Bool.true_and, Bool.not_true, Bool.not_false, Bool.false_or, Bool.true_or, Bool.and_false, Bool.or_false, Bool.or_true, Bool.and_true, bne_self_eq_false, Bool.bne_false, Bool.bne_true]
   refine zad 37 Tryz.func93 rfl rfl rfl rfl ?_ GG.to; intro W A hG
   repeat (first | (refine zai rfl ?_; first | refine zaj ?_) | (refine hK _ ?_; clear hK K) | (rename_i K1 hK1; refine hK1 _ ?_; clear hK hK1; clear K) | (rename_i K1 hK1; refine hK1 _ ?_; clear hK1) | refine zac rfl ?_ | refine zaq (by kernel_rfl) (by kernel_rfl) rfl ?_ | exact zah (show zat _ _ _ = some _ by kernel_rfl) | refine zaf rfl rfl ?_ | refine zae rfl rfl ?_ | refine zag ?_ | refine zar ?_ | refine zak ?_ | refine zab (fun K hK => ?_) | refine zaz ?_ | refine za3 ?_ | refine zah (show zat _ _ _ = some _ ∧ EndB _ _ from ⟨by kernel_rfl, ?_⟩))
   done
theorem z1e (p : Pm) (y : Pg) : Ok 92 [.ag [cu y.va, cu y.pa, ci y.lev, cb y.r, cb y.w, cb y.x, cb y.u, cb y.d], .c (.q [.bool p.r, .bool p.w, .bool p.x, .bool p.u])] (.m (ib (!zlu p (zhi y)))) := by
 have h := z4x p (zhi y); generalize zlu p (zhi y) = b at *; have h : Ok 93 [.ag [cb p.r, cb p.w, cb p.x, cb p.u], .ag [cb y.r, cb y.w, cb y.x, cb y.u]] (.m (ib b)) := h; refine zad 9 Tryz.func92 rfl rfl rfl rfl ?_ GG.to; intro W A hG
 repeat (first | (refine zai rfl ?_; first | refine zaj ?_ | refine gdr (zaa rfl rfl rfl (h) (by kernel_rfl)) ?_) | (refine hK _ ?_; clear hK K) | (rename_i K1 hK1; refine hK1 _ ?_; clear hK hK1; clear K) | (rename_i K1 hK1; refine hK1 _ ?_; clear hK1) | refine zac rfl ?_ | refine zaq (by kernel_rfl) (by kernel_rfl) rfl ?_ | exact zah (show zat _ _ _ = some _ by kernel_rfl) | refine zaf rfl rfl ?_ | refine zae rfl rfl ?_ | refine zag ?_ | refine zar ?_ | refine zak ?_ | refine zab (fun K hK => ?_) | refine zaz ?_ | refine za3 ?_ | refine zah (show zat _ _ _ = some _ ∧ EndB _ _ from ⟨by kernel_rfl, ?_⟩))
end LmB
end Go.Proofs.YtomeaibdedaldaaGreatDoor
