/- Texts of this claim, one behind the other: LiE, LiF, LjB, LkA, LjC, AxZ, LjD, AxW, LjE, LkB, LkC, LkD, LjA, LjF, LkE, LrA, LrB, LrC, LmA, LmB, LmE, LnA, LnB, LnD, LnF, LnG, LnH, LoA. -/
import Derived.Test.YtomeaibdedaldaaGreatDoorV4
import Derived.Test.YtomeaibdedaldaaGreatDoorV3
import Derived.Defers
set_option linter.unusedVariables false
set_option linter.unusedSimpArgs false
set_option linter.unusedSectionVars false
namespace Go.Proofs.YtomeaibdedaldaaGreatDoor.LiE
open Go.RowKit Bv VaSpec Base MemL RegR Ax MemC PutC MemC3 TzC OkS SpA SpB SpC SpD SpE SpF SpG SpH SpI SpJ SpN SpO RfP RfQ RfE RfJ LaA LaB LaC LaD LaE LaF LaG LaH LiA LiB LiC LiD
open BitsC PteSpec
set_option maxRecDepth 10000
set_option maxHeartbeats 1000000
structure InvT (n : Nat) (k : Kr) : Prop where
  l : InvL n k
  t : ∃ lv, TI k.cd k.cp k.sz k.m k.pf k.sh lv ∧ lv k.sh = 1 ∧ ∀ s ∈ k.ss, s.live = true → lv s.root = 2
theorem z37 {n l : Int} {p : Pm} {g : Bool} (hn : n % (VaSpec.sz l / 4096) = 0) (hp : zhk p = true) : zc3 (mkP n p g) l = false := by
  obtain ⟨r, w, x, u⟩ := p
  revert hp
  unfold zhk zc3 zbk mkP
  cases r <;> cases w <;> cases x <;> simp [hn]
section
variable {cd cp sz f sh : Int} {xs : List (Int × Int)} {lv : Int → Int}
theorem zl7 (h : TI cd cp sz xs f sh lv) (h0 : f ≠ 0) {t i : Int} (ht : Al cd cp f t) (hsh : Al cd cp f sh) (hl : 1 ≤ lv t ∧ lv t ≤ 2) (hi : 0 ≤ i ∧ i < 512) (hn : zbk (atM sz xs t i) = false) :
    TI cd cp sz (za7 sz xs t i (lnk (cd + tzI f))) (zbw f (tzI f) 1 0) sh (upL lv (cd + tzI f) (lv t - 1)) := by
  obtain ⟨a0, a1, a2, a3⟩ := zff h h0
  have b1 := h.bd
  have b2 := h.bp
  have hnn : 0 ≤ cd + tzI f ∧ cd + tzI f < 17592186044416 := by omega
  rw [h.gm.with ht hi (zhp hnn)]
  refine h.put ht.1 hi (zf4 _ (zhp hnn)) a3 fun E' hE => ?_
  rw [zeq hnn] at hE
  refine h.e.link a0 a1 ht hl hi hsh ?_ hE
  cases e : lkP (atM sz xs t i) with
  | false => rfl
  | true => rw [(zbs e).1] at hn; cases hn
theorem zvs (addr zam : Int) (hw : 0 ≤ zam) : ∀ (l : Nat) (xs : List (Int × Int)) (f t : Int) (lv : Int → Int), TI cd cp sz xs f sh lv → Al cd cp f t → Al cd cp f sh → lv t = l → l ≤ 2 → zam ≤ (l : Int) →
    (dnN sz cd addr zam l xs f t).2.2.2 = 0 → ∃ lv', TI cd cp sz (dnN sz cd addr zam l xs f t).1 (dnN sz cd addr zam l xs f t).2.1 sh lv' ∧ lv' (dnN sz cd addr zam l xs f t).2.2.1 = zam ∧ Al cd cp (dnN sz cd addr zam l xs f t).2.1 (dnN sz cd addr zam l xs f t).2.2.1 ∧ ∀ s, Al cd cp f s → lv' s = lv s
  | 0, xs, f, t, lv, h, ht, _, hl, _, hwl, _ => ⟨lv, h, by show lv t = zam; omega, ht, fun s _ => rfl⟩
  | l + 1, xs, f, t, lv, h, ht, hsh, hl, h2, hwl, he => by
    have hi := idx_bd addr ((l + 1 : Nat) : Int)
    unfold dnN at he ⊢
    split
    · exact ⟨lv, h, by show lv t = zam; omega, ht, fun s _ => rfl⟩
    · rename_i c1
      rw [if_neg c1] at he
      split
      · rename_i c2; rw [if_pos c2] at he; cases he
      · rename_i c2
        rw [if_neg c2] at he
        have hk := h.e.k t _ hi
        split
        · rename_i c3
          rw [if_pos c3] at he
          rcases hk with e | ⟨_, _, ⟨e, _⟩ | ⟨e1, e2, e3, e4⟩⟩
          · rw [e] at c3; cases c3
          · exact absurd e c2
          · exact zvs addr zam hw l xs f _ lv h e4 hsh (by rw [e3, hl]; omega) (by omega) (by omega) he
        · rename_i c3
          rw [if_neg c3] at he
          split
          · rename_i c4; rw [if_pos c4] at he; cases he
          · rename_i c4
            rw [if_neg c4] at he
            obtain ⟨a0, a1, a2, a3⟩ := zff h c4
            have hn : zbk (atM sz xs t (idx addr ((l + 1 : Nat) : Int))) = false := by
              unfold zbk
              rw [show (atM sz xs t (idx addr ((l + 1 : Nat) : Int))).v = false by simpa using c3]; rfl
            have hT := zl7 h c4 ht hsh (by rw [hl]; omega) hi hn
            obtain ⟨lv', r1, r2, r3, r4⟩ := zvs addr zam hw l _ _ _ _ hT a1 (a0 _ hsh).1 (by rw [hl]; show upL lv (cd + tzI f) _ (cd + tzI f) = _; unfold upL; rw [if_pos rfl]; omega) (by omega) (by omega) he
            refine ⟨lv', r1, r2, r3, fun s hs => (r4 s (a0 s hs).1).trans ?_⟩
            exact if_neg (a0 s hs).2
end
theorem zc1 {n : Nat} {k : Kr} {id a l : Int} (h : InvL n k) (he : (zao k id a l).2.2 = 0) : ((zao k id a l).1 = k.sh ∧ (zao k id a l).2.1 = 1 ∧ id = -1) ∨ (za5 k id = true ∧ id ≠ -1 ∧ (zao k id a l).1 = (zfc k id).root ∧ (zao k id a l).2.1 = 2 ∧ idx a 2 ≠ 511) := by
  unfold zao at he ⊢
  by_cases c1 : 0 ≤ l ∧ l ≤ 2
  rotate_left
  · rw [if_pos c1] at he; cases he
  rw [if_neg (by simpa using c1)] at he ⊢
  by_cases c2 : id ≠ -1 ∧ za5 k id = false
  · rw [if_pos c2] at he; cases he
  rw [if_neg c2] at he ⊢
  by_cases c3 : zhw a l = false
  · rw [if_pos c3] at he; cases he
  rw [if_neg c3] at he ⊢
  by_cases c4 : id = -1
  · rw [if_pos c4] at he ⊢
    by_cases c5 : idx a 2 = 511 ∧ l ≠ 2
    · rw [if_pos c5]; exact .inl ⟨rfl, rfl, c4⟩
    · rw [if_neg c5] at he; cases he
  · rw [if_neg c4] at he ⊢
    by_cases c5 : idx a 2 = 511
    · rw [if_pos c5] at he; cases he
    · rw [if_neg c5]
      have c6 : za5 k id = true := by
        cases e : za5 k id with
        | true => rfl
        | false => exact absurd ⟨c4, e⟩ c2
      exact .inr ⟨c6, c4, rfl, rfl, c5⟩
theorem zf0 {k : Kr} {id a l : Int} (he : (zao k id a l).2.2 = 0) : zhw a l = true := by
  unfold zao at he
  split at he
  · cases he
  · split at he
    · cases he
    · split at he
      · cases he
      · rename_i c; simpa using c
theorem zvt {a l : Int} (h : zhw a l = true) : VaSpec.base a l = a := by
  unfold zhw off at h
  unfold VaSpec.base
  simp only [Bool.and_eq_true, beq_iff_eq] at h
  omega
theorem InvT.top {n : Nat} {k : Kr} {id a l : Int} (h : InvT n k) (he : (zao k id a l).2.2 = 0) {lv : Int → Int} (hs : lv k.sh = 1) (hr : ∀ s ∈ k.ss, s.live = true → lv s.root = 2) :
    lv (zao k id a l).1 = (zao k id a l).2.1 ∧ (2 ≤ (zao k id a l).2.1 → idx a 2 ≠ 511) := by
  rcases zc1 h.l he with ⟨e1, e2, _⟩ | ⟨e1, _, e2, e3, e4⟩
  · rw [e1, e2]; exact ⟨hs, fun hh => by omega⟩
  · obtain ⟨h0, h1, h2, h3⟩ := zdd e1
    rw [e2, e3]
    exact ⟨hr _ (List.mem_of_getElem? h2) h3, fun _ => e4⟩
theorem zx3 {l : Int} (h : 0 ≤ l ∧ l ≤ 2) {pa : Int} (hp : pa % VaSpec.sz l = 0) : (pa / 4096) % (VaSpec.sz l / 4096) = 0 := by
  rcases (by omega : l = 0 ∨ l = 1 ∨ l = 2) with rfl | rfl | rfl
  · show (pa / 4096) % 1 = 0; omega
  · have hp : pa % 2097152 = 0 := hp
    show (pa / 4096) % 512 = 0; omega
  · have hp : pa % 1073741824 = 0 := hp
    show (pa / 4096) % 262144 = 0; omega
theorem zes {n : Nat} {k : Kr} {id a pa l : Int} {p : Pm} (h : InvT n k) (hp : U pa) : InvT (n + 3) (zb6 k id a pa l p).1 := by
  refine ⟨zpr h.l hp, ?_⟩
  obtain ⟨lv, hT, hs, hr⟩ := h.t
  unfold zb6
  split
  · exact ⟨lv, hT, hs, hr⟩
  · rename_i c0
    split
    · exact ⟨lv, hT, hs, hr⟩
    · rename_i c1
      split
      · exact ⟨lv, hT, hs, hr⟩
      · split
        · exact ⟨lv, hT, hs, hr⟩
        · rename_i c3
          split
          · exact ⟨lv, hT, hs, hr⟩
          · split
            · exact ⟨lv, hT, hs, hr⟩
            · rename_i c5
              obtain ⟨w1, w2, w3, w4⟩ := zbt (id := id) (a := a) (l := l) h.l (by omega)
              obtain ⟨z1, z2⟩ := h.top (id := id) (a := a) (l := l) (by omega) hs hr
              generalize zao k id a l = w at *
              have he : (zko k w.1 w.2.1 a l).2.2.2 = 0 := by omega
              obtain ⟨lv', r1, r2, r3, r4⟩ := zvs a l w1.1 w.2.1.toNat k.m k.pf w.1 lv hT w2 h.l.sh (by omega) (by omega) (by omega) he
              have hpm := zhq (p := p) (by omega)
              have hpn := zji (k := k) (l := l) hp (by have := h.l.g.bd; omega) (by omega)
              have hb := zfw (n := pa / 4096) (p := p) (g := decide (id = -1)) hpn hpm
              have hzz : 0 < VaSpec.sz l := by rcases VaSpec.lev w1.1 w1.2 with rfl | rfl | rfl <;> decide
              have hmod : pa % VaSpec.sz l = 0 := by
                have e : lk0 pa l = 0 := by omega
                unfold lk0 zem at e
                rw [if_neg (show ¬ VaSpec.sz l = 0 by omega)] at e
                split at e
                · rename_i c; simpa using c
                · cases e
              have hbad := z37 (g := decide (id = -1)) (zx3 w1 hmod) hpm
              refine ⟨lv', ?_, (r4 _ h.l.sh).trans hs, fun s hs' hl => (r4 _ (h.l.ss s hs' hl)).trans (hr s hs' hl)⟩
              show TI k.cd k.cp k.sz (za7 k.sz (dnN k.sz k.cd a l w.2.1.toNat k.m k.pf w.1).1 (dnN k.sz k.cd a l w.2.1.toNat k.m k.pf w.1).2.2.1 (idx a l) (mkP (pa / 4096) p (decide (id = -1)))) (dnN k.sz k.cd a l w.2.1.toNat k.m k.pf w.1).2.1 k.sh lv'
              rw [r1.gm.with r3 (idx_bd a l) hb.2.1]
              refine r1.put r3.1 (idx_bd a l) (zf4 _ hb.2.1) r1.bf fun E' hE => ?_
              rw [hb.1] at hE
              exact r1.e.leaf r3 (by rw [r2]; exact w1) hb.2.2 (by rw [r2]; exact hbad) hE
structure ToP (cd cp sz f sh addr zam top : Int) (l : Nat) (xs : List (Int × Int)) (lv : Int → Int) (n : Nat) (T : List (Int × Int) × Int × (Int × Int) × Int) (lv' : Int → Int) : Prop where
  t : TI cd cp sz T.1 T.2.1 sh lv'
  a : ∀ s, Al cd cp f s → Al cd cp T.2.1 s ∧ lv' s = lv s
  n : T.1.length ≤ xs.length + 513 * n
  r : zat sz T.1 addr zam l top = T.2.2.1
  p : ∃ l' : Nat, T.2.2.1.2 = (l' : Int) ∧ l' ≤ l ∧ zam ≤ (l' : Int) ∧ Al cd cp T.2.1 T.2.2.1.1 ∧ lv' T.2.2.1.1 = (l' : Int)
section
variable {cd cp sz sh : Int}
theorem z38 (addr zam top : Int) (l : Nat) (hw : 0 ≤ zam) (hwl : zam ≤ (l : Int)) (hl2 : l ≤ 2) : ∀ (n : Nat) (xs : List (Int × Int)) (f : Int) (lv : Int → Int), TI cd cp sz xs f sh lv → Al cd cp f top → Al cd cp f sh → lv top = l →
    ∃ lv', ToP cd cp sz f sh addr zam top l xs lv n (toN sz cd addr zam top l n xs f) lv'
  | 0, xs, f, lv, h, ht, _, hl => by
    obtain ⟨l', t', i1, i2, i3, i4, i5, i6, _⟩ := zfz h addr zam hw l top ht hl hwl
    exact ⟨lv, h, fun s hs => ⟨hs, rfl⟩, by show xs.length ≤ _; omega, rfl, l', by show (zat sz xs addr zam l top).2 = _; rw [i1], i2, i3, by show Al cd cp f (zat sz xs addr zam l top).1; rw [i1]; exact i4, by show lv (zat sz xs addr zam l top).1 = _; rw [i1]; exact i5⟩
  | n + 1, xs, f, lv, h, ht, hsh, hl => by
    obtain ⟨l', t', i1, i2, i3, i4, i5, i6, i7⟩ := zfz h addr zam hw l top ht hl hwl
    have hstop : ∀ e, ToP cd cp sz f sh addr zam top l xs lv (n + 1) (xs, f, (t', (l' : Int)), e) lv := fun e => ⟨h, fun s hs => ⟨hs, rfl⟩, by show xs.length ≤ _; omega, i1, l', rfl, i2, i3, i4, i5⟩
    unfold toN
    rw [i1]
    split
    · exact ⟨lv, hstop 0⟩
    · rename_i c
      split
      · exact ⟨lv, hstop 8⟩
      · rename_i c4
        have c1 : ¬ (l' : Int) = zam := fun e => c (.inl e)
        obtain ⟨m, rfl⟩ : ∃ m : Nat, l' = m + 1 := ⟨l' - 1, by omega⟩
        have hlf : zaz (atM sz xs t' (idx addr ((m + 1 : Nat) : Int))) = true := by
          cases e : zaz (atM sz xs t' (idx addr ((m + 1 : Nat) : Int))) with
          | true => rfl
          | false => exact absurd (.inr e) c
        have hi := idx_bd addr ((m + 1 : Nat) : Int)
        have hbad : zc3 (atM sz xs t' (idx addr ((m + 1 : Nat) : Int))) ((m + 1 : Nat) : Int) = false := by
          rcases h.e.k t' _ hi with e | ⟨_, _, ⟨_, e⟩ | ⟨e, _⟩⟩
          · rw [e] at hlf; cases hlf
          · rw [i5] at e; exact e
          · rw [(zbs e).2.2] at hlf; cases hlf
        obtain ⟨a0, a1, a2, a3⟩ := zff h c4
        have hT := z36 h c4 i4 hsh hi i5 (by omega) rfl hlf hbad
        obtain ⟨lv', P⟩ := z38 addr zam top l hw hwl hl2 n _ _ _ hT (a0 _ ht).1 (a0 _ hsh).1 ((if_neg (a0 _ ht).2).trans hl)
        have hsl := z1u sz xs t' (idx addr ((m + 1 : Nat) : Int)) ((m + 1 : Nat) : Int) (atM sz xs t' (idx addr ((m + 1 : Nat) : Int))) (cd + tzI f)
        have hPn := P.n
        refine ⟨lv', P.t, fun s hs => ⟨(P.a s (a0 s hs).1).1, (P.a s (a0 s hs).1).2.trans (if_neg (a0 s hs).2)⟩, ?_, P.r, P.p⟩
        exact Nat.le_trans hPn (by omega)
end
def zfh (sz : Int) (xs : List (Int × Int)) (l : Int) (q : Pte) (b : Int) : List Pg := if zaz q then [⟨b, q.ppn * 4096, l, q.r, q.w, q.x, q.u, q.d⟩] else if zbk q then zbf sz xs (l - 1).toNat q.ppn b else []
def inR (k : Kr) (id a l : Int) : List Pg :=
  if (zao k id a l).2.2 ≠ 0 then [] else
  zfh k.sz k.m (za6 k.sz k.m a l (zao k id a l).2.1 (zao k id a l).1).2 (atM k.sz k.m (za6 k.sz k.m a l (zao k id a l).2.1 (zao k id a l).1).1 (idx a (za6 k.sz k.m a l (zao k id a l).2.1 (zao k id a l).1).2)) (VaSpec.base a (za6 k.sz k.m a l (zao k id a l).2.1 (zao k id a l).1).2)
def z5q (id n : Int) (p : Pg) : Fe := if id = -1 then ⟨true, p.va, false, 0⟩ else ⟨true, p.va, true, n⟩
def z5r (id n : Int) : Fe := if id = -1 then ⟨false, 0, false, 0⟩ else ⟨false, 0, true, n⟩
def z4z (k : Kr) (id : Int) (l : List Pg) : List Fe := if 16 < l.length then [z5r id (zfc k id).asid] else l.map (z5q id (zfc k id).asid)
theorem zx4 (k : Kr) (id : Int) (l : List Pg) : (z4z k id l).length ≤ 16 := by
  unfold z4z
  split
  · simp
  · rw [List.length_map]; omega
def zeh (sz cd cp : Int) (T : List (Int × Int) × Int × (Int × Int) × Int) (a : Int) : List (Int × Int) × Int :=
  if zbk (atM sz T.1 T.2.2.1.1 (idx a T.2.2.1.2)) then bkN cd cp (frN sz T.1 (T.2.2.1.2 - 1).toNat (atM sz T.1 T.2.2.1.1 (idx a T.2.2.1.2)).ppn) (T.1, T.2.1) else (T.1, T.2.1)
def unM (k : Kr) (T : List (Int × Int) × Int × (Int × Int) × Int) (top at' a : Int) : List (Int × Int) × Int :=
  prN k.sz k.cd k.cp a at'.toNat top (za7 k.sz (zeh k.sz k.cd k.cp T a).1 T.2.2.1.1 (idx a T.2.2.1.2) zP, (zeh k.sz k.cd k.cp T a).2)
def unT (k : Kr) (top at' a l : Int) : List (Int × Int) × Int × (Int × Int) × Int := toN k.sz k.cd a l top at'.toNat at'.toNat k.m k.pf
def unK (k : Kr) (id top at' a l : Int) (T : List (Int × Int) × Int × (Int × Int) × Int) : Kr := zd3 { k with m := (unM k T top at' a).1, pf := (unM k T top at' a).2 } (z4z k id (zfh k.sz T.1 T.2.2.1.2 (atM k.sz T.1 T.2.2.1.1 (idx a T.2.2.1.2)) (VaSpec.base a T.2.2.1.2)))
def unR (k : Kr) (id a l : Int) : Kr × Int :=
  if (zao k id a l).2.2 ≠ 0 then (k, (zao k id a l).2.2)
  else if (inR k id a l).length = 0 then (k, 7)
  else if (unT k (zao k id a l).1 (zao k id a l).2.1 a l).2.2.2 ≠ 0 then (k, (unT k (zao k id a l).1 (zao k id a l).2.1 a l).2.2.2)
  else (unK k id (zao k id a l).1 (zao k id a l).2.1 a l (unT k (zao k id a l).1 (zao k id a l).2.1 a l), 0)
section
variable {cd cp sz f sh : Int} {xs : List (Int × Int)} {lv : Int → Int}
theorem zy6 (cd cp : Int) : ∀ (l : List Int) (p : List (Int × Int) × Int), (bkN cd cp l p).1.length ≤ p.1.length
  | [], p => Nat.le_refl _
  | g :: l, p => Nat.le_trans (zy6 cd cp l _) (zen _ _)
theorem zq7 (h : TI cd cp sz xs f sh lv) (hsh : Al cd cp f sh) {t a e : Int} {l' : Nat} (ht : Al cd cp f t) (hlv : lv t = (l' : Int)) (hl2 : l' ≤ 2) (hH : l' = 2 → idx a 2 ≠ 511) :
    TI cd cp sz (za7 sz (zeh sz cd cp (xs, f, (t, (l' : Int)), e) a).1 t (idx a (l' : Int)) zP) (zeh sz cd cp (xs, f, (t, (l' : Int)), e) a).2 sh lv ∧
    (∀ s, Al cd cp f s → (s = sh ∨ (l' : Int) ≤ lv s) → Al cd cp (zeh sz cd cp (xs, f, (t, (l' : Int)), e) a).2 s) ∧ (za7 sz (zeh sz cd cp (xs, f, (t, (l' : Int)), e) a).1 t (idx a (l' : Int)) zP).length ≤ xs.length ∧ Srt (zeh sz cd cp (xs, f, (t, (l' : Int)), e) a).1 ∧ (zeh sz cd cp (xs, f, (t, (l' : Int)), e) a).1.length ≤ xs.length := by
  have hi := idx_bd a (l' : Int)
  have b1 := h.bd
  have bt := ht.1
  have hz : ∀ ys : List (Int × Int), za7 sz ys t (idx a (l' : Int)) zP = zbq ys (t * 512 + idx a (l' : Int)) 0 := fun ys => by
    rw [zep z2o (by omega) hi (by rw [h.bz]; omega), znt]
  have hlen : ∀ ys : List (Int × Int), Srt ys → (zbq ys (t * 512 + idx a (l' : Int)) 0).length ≤ ys.length := fun ys hs => by rw [zgv _ _ hs]; exact List.length_filter_le ..
  by_cases c : zbk (atM sz xs t (idx a (l' : Int))) = true
  · have hq : lkP (atM sz xs t (idx a (l' : Int))) = true := by
      rcases h.e.k t _ hi with e | ⟨_, _, ⟨e, _⟩ | ⟨e, _⟩⟩
      · rw [e] at c; cases c
      · rw [(zbp e).1] at c; cases c
      · exact e
    obtain ⟨k1, k2, k3, k4⟩ := zbz h hi hq
    obtain ⟨m, rfl⟩ : ∃ m : Nat, l' = m + 1 := ⟨l' - 1, by omega⟩
    have e1 : zeh sz cd cp (xs, f, (t, ((m + 1 : Nat) : Int)), e) a = bkN cd cp (frN sz xs m (atM sz xs t (idx a ((m + 1 : Nat) : Int))).ppn) (xs, f) := by
      unfold zeh
      show (if zbk (atM sz xs t (idx a ((m + 1 : Nat) : Int))) = true then bkN cd cp (frN sz xs (((m + 1 : Nat) : Int) - 1).toNat (atM sz xs t (idx a ((m + 1 : Nat) : Int))).ppn) (xs, f) else (xs, f)) = _
      rw [if_pos c, show (((m + 1 : Nat) : Int) - 1).toNat = m by omega]
    rw [e1, hz]
    obtain ⟨r1, r2⟩ := z1v h ht hlv hl2 hi (fun hh => by
      have e2 : m + 1 = 2 := hh.1
      have e3 := hh.2
      rw [show ((m + 1 : Nat) : Int) = 2 by omega] at e3
      exact hH e2 e3) hq
    have hbl := zy6 cd cp (frN sz xs m (atM sz xs t (idx a ((m + 1 : Nat) : Int))).ppn) (xs, f)
    have hbs := (zg1 cd cp sz h.bp (frN sz xs m (atM sz xs t (idx a ((m + 1 : Nat) : Int))).ppn) (xs, f) h.s h.bf).s
    exact ⟨r1, fun s hs hk => r2 s hs (by omega), Nat.le_trans (hlen _ hbs) hbl, hbs, hbl⟩
  · have e1 : zeh sz cd cp (xs, f, (t, (l' : Int)), e) a = (xs, f) := by
      unfold zeh
      exact if_neg c
    rw [e1, hz]
    refine ⟨h.put bt hi ⟨by omega, by omega⟩ h.bf fun E' hE => h.e.sub fun s j hj => ?_, fun s hs _ => hs, hlen _ h.s, h.s, Nat.le_refl _⟩
    rw [hE s j hj, zly]
    split
    · exact .inl rfl
    · exact .inr rfl
end
theorem z39 {n : Nat} {k : Kr} {id a l : Int} (h : InvT n k) : InvT (n + 1100) (unR k id a l).1 := by
  have hm : InvT (n + 1100) k := ⟨{ h.l with ml := by have := h.l.ml; omega, fl := by have := h.l.fl; omega }, h.t⟩
  unfold unR
  split
  · exact hm
  · rename_i c0
    split
    · exact hm
    · split
      · exact hm
      · rename_i c5
        obtain ⟨lv, hT, hs, hr⟩ := h.t
        obtain ⟨w1, w2, w3, w4⟩ := zbt (id := id) (a := a) (l := l) h.l (by omega)
        obtain ⟨z1, z2⟩ := h.top (a := a) (id := id) (l := l) (by omega) hs hr
        generalize zao k id a l = w at *
        obtain ⟨lv', P⟩ := z38 a l w.1 w.2.1.toNat w1.1 (by omega) (by omega) w.2.1.toNat k.m k.pf lv hT w2 h.l.sh (by omega)
        show InvT (n + 1100) (unK k id w.1 w.2.1 a l (unT k w.1 w.2.1 a l))
        have P : ToP k.cd k.cp k.sz k.pf k.sh a l w.1 w.2.1.toNat k.m lv w.2.1.toNat (unT k w.1 w.2.1 a l) lv' := P
        generalize unT k w.1 w.2.1 a l = T at *
        obtain ⟨xs, f, ⟨t, lt⟩, e⟩ := T
        obtain ⟨l', e1, e2, e3, e4, e5⟩ := P.p
        have e1 : lt = (l' : Int) := e1
        subst e1
        have e4 : Al k.cd k.cp f t := e4
        have e5 : lv' t = (l' : Int) := e5
        have hPt : TI k.cd k.cp k.sz xs f k.sh lv' := P.t
        have ash := P.a _ h.l.sh
        have atop := P.a _ w2
        obtain ⟨c1, c2, c3, _, _⟩ := zq7 (a := a) (e := e) hPt ash.1 e4 e5 (by omega) (fun hh => z2 (by omega))
        have hlt : lv' w.1 = w.2.1 := atop.2.trans z1
        have atop2 := c2 _ atop.1 (.inr (by rw [hlt]; omega))
        have ash2 := c2 _ ash.1 (.inl rfl)
        have Q := zg3 a c1 w.2.1.toNat w.1 (by omega) atop2 (by rw [hlt]; omega) (fun hh => z2 (by omega))
        have hroot : ∀ s ∈ k.ss, s.live = true → lv' s.root = 2 ∧ Al k.cd k.cp (unM k (xs, f, (t, (l' : Int)), e) w.1 w.2.1 a).2 s.root := fun s hs' hl => by
          have a1 := P.a _ (h.l.ss s hs' hl)
          have a2 : lv' s.root = 2 := a1.2.trans (hr s hs' hl)
          have a3 := c2 _ a1.1 (.inr (by rw [a2]; omega))
          exact ⟨a2, Q.a _ a3 (.inr (by rw [a2]; omega))⟩
        have hTI : TI k.cd k.cp k.sz (unM k (xs, f, (t, (l' : Int)), e) w.1 w.2.1 a).1 (unM k (xs, f, (t, (l' : Int)), e) w.1 w.2.1 a).2 k.sh lv' := Q.t
        have hPn : xs.length ≤ k.m.length + 513 * w.2.1.toNat := P.n
        have hml := h.l.ml
        have hfl := h.l.fl
        have hlen : (unM k (xs, f, (t, (l' : Int)), e) w.1 w.2.1 a).1.length ≤ n + 1100 := by
          have : (unM k (xs, f, (t, (l' : Int)), e) w.1 w.2.1 a).1.length ≤ (za7 k.sz (zeh k.sz k.cd k.cp (xs, f, (t, (l' : Int)), e) a).1 t (idx a (l' : Int)) zP).length := Q.n
          omega
        refine ⟨{ g := hTI.gm, cs := h.l.cs, pb := h.l.pb, pm := h.l.pm, sh := Q.a _ ash2 (.inl rfl), ts := h.l.ts, ml := hlen, fl := ?_, sl := h.l.sl, ss := fun s hs' hl => (hroot s hs' hl).2 }, lv', hTI, ash.2.trans hs, fun s hs' hl => (hroot s hs' hl).1⟩
        have := zx4 k id (zfh k.sz xs (l' : Int) (atM k.sz xs t (idx a (l' : Int))) (VaSpec.base a (l' : Int)))
        show (k.fs ++ z4z k id (zfh k.sz xs (l' : Int) (atM k.sz xs t (idx a (l' : Int))) (VaSpec.base a (l' : Int)))).length ≤ n + 1100
        rw [List.length_append]; omega
end Go.Proofs.YtomeaibdedaldaaGreatDoor.LiE
namespace Go.Proofs.YtomeaibdedaldaaGreatDoor.LiF
open Go.RowKit Bv VaSpec Base MemL RegR Ax MemC PutC MemC3 TzC OkS SpA SpB SpC SpD SpE SpF SpG SpH SpI SpJ SpN SpO RfP RfQ RfE RfJ RfK LaA LaB LaC LaD LaE LaF LaG LaH LiA LiB LiC LiD LiE
open BitsC PteSpec
set_option maxRecDepth 10000
set_option maxHeartbeats 1000000
theorem zx5 {n : Nat} {k : Kr} (h : Inv n k) (g : Inv2 k) : InvT n k := by
  have hl := z31 h g
  refine ⟨hl, fun s => if s = k.sh then 1 else 2, ⟨h.cd, h.cp, h.sz, h.pf, h.m, fun c hc => ?_, ?_⟩, if_pos rfl, fun s hs hv => ?_⟩
  · obtain ⟨s, hs, hv, rfl⟩ := g.cl c hc
    have hr := (h.ss s hs hv).1
    have hsh := h.sh
    have := h.cd
    have hu := (h.mc _ hc).2.2.2
    exact ⟨⟨by show k.cd * 512 ≤ s.root * 512 + 511; omega, by show s.root * 512 + 511 < (k.cd + k.cp) * 512; omega⟩, hu, by show 33 + 1024 * k.sh ≠ 0; omega⟩
  · have key : ∀ s i, (0 ≤ i ∧ i < 512) → atM k.sz k.m s i = zP ∨ (i = 511 ∧ s ≠ k.sh ∧ Al k.cd k.cp k.pf s ∧ atM k.sz k.m s i = gP k.sh) := fun s i hi => by
      unfold atM zbj
      split
      · rcases zlx (xs := k.m) (k := (s * 4096 + i * 8) / 8) with e | ⟨c, hc, e1, e2⟩
        · rw [e]; exact .inl zly
        · obtain ⟨p, hp, hv, rfl⟩ := g.cl c hc
          have e1 : p.root * 512 + 511 = (s * 4096 + i * 8) / 8 := e1
          have hsh := h.sh
          have hcd := h.cd
          have hcp := h.cp
          have e3 : p.root = s := by omega
          rw [e2, show (33 + 1024 * k.sh : Int) = 33 + 1024 * k.sh from rfl, zjm (by omega)]
          exact .inr ⟨by omega, by rw [← e3, g.sh]; exact (g.lv p hp hv).1, by rw [← e3]; exact hl.ss p hp hv, rfl⟩
      · exact .inl zly
    refine ⟨fun s i hi => ?_, fun s i t j hi hj h1 h2 h3 h4 => ?_, fun s i hi h1 h2 => ?_⟩
    · rcases key s i hi with e | ⟨_, a, b, c⟩
      · exact .inl e
      · rw [c]
        refine .inr ⟨b, by dsimp only; rw [if_neg a]; omega, .inr ⟨rfl, by dsimp only; rw [if_neg a]; omega, ?_, hl.sh⟩⟩
        show (if k.sh = k.sh then (1 : Int) else 2) = (if s = k.sh then (1 : Int) else 2) - 1
        rw [if_pos rfl, if_neg a]; rfl
    · rcases key s i hi with e | ⟨_, _, _, c⟩
      · rw [e] at h1; cases h1
      · rw [c] at h4; exact absurd rfl h4
    · rcases key s i hi with e | ⟨a, b, _, c⟩
      · rw [e] at h1; cases h1
      · exact ⟨a, if_neg b⟩
  · have := (g.lv s hs hv).1
    rw [← g.sh] at this
    exact if_neg this
theorem zvu {a b c : Int} {n : Nat} (h : zez a b c n = true) : InvT 2 (bgK a b c n) := by
  have h0 := zhn h
  have g0 := zig h
  have h1 := zb3 h0
  have g1 := zb8 h0 g0
  exact zx5 (zb3 h1) (zb8 h1 g1)
theorem t2 : InvT 2 c2 := by rw [← bg2]; exact zvu (by decide)
def rr : Pm := ⟨true, false, false, false⟩
end Go.Proofs.YtomeaibdedaldaaGreatDoor.LiF
namespace Go.Proofs.YtomeaibdedaldaaGreatDoor.LjB
open Go.RowKit Bv VaSpec Base MemL RegR Ax MemC PutC MemC3 TzC OkS SpA SpB SpC SpF LaA IterE LaC LaD LiC
open BitsC PteSpec
set_option maxRecDepth 10000
set_option maxHeartbeats 1000000
section
variable (sz : Int) (xs : List (Int × Int)) (hs : Srt xs) (hu : Uw xs)
include hs hu
end
end Go.Proofs.YtomeaibdedaldaaGreatDoor.LjB
namespace Go.Proofs.YtomeaibdedaldaaGreatDoor.LkA
open Go.RowKit Bv VaSpec Base MemL RegR Ax MemC PutC MemC3 TzC OkS SpA SpB SpC SpF SpH SpI SpJ LaA LaB LaC LaD LaE LaF LaG LiA LiB LiC LiD LiE LiF SpL SpN SpO RfA RfB RfC RfD RlA RlB LjB
open BitsC PteSpec
set_option maxRecDepth 10000
set_option maxHeartbeats 1000000
end Go.Proofs.YtomeaibdedaldaaGreatDoor.LkA
namespace Go.Proofs.YtomeaibdedaldaaGreatDoor.LjC
open Go.RowKit Bv VaSpec Base MemL RegR Ax MemC PutC MemC3 TzC OkS SpA SpB SpC SpF SpH SpI SpJ LaA LaB LaC LaD LaE LaF LaG LiA LiB LiC LiD LiE LiF
open BitsC PteSpec
set_option maxRecDepth 10000
set_option maxHeartbeats 1000000
end Go.Proofs.YtomeaibdedaldaaGreatDoor.LjC
namespace Go.Proofs.YtomeaibdedaldaaGreatDoor.Ax
open Go.RowKit MemL RegR MemC MemC3 PutC LaA IterE PteSpec BitsC OkS Go
section
variable {P : Program} {X : Cx} {S : St} {τ : Nat → Value} {a : Act} {w : World}
end
end Go.Proofs.YtomeaibdedaldaaGreatDoor.Ax
namespace Go.Proofs.YtomeaibdedaldaaGreatDoor.LjD
open Go.RowKit Bv VaSpec Base MemL RegR Ax MemC PutC MemC3 TzC OkS SpA SpB SpC SpF LaA IterE LaC LaD LiC
open BitsC PteSpec
set_option maxRecDepth 10000
set_option maxHeartbeats 1000000
end Go.Proofs.YtomeaibdedaldaaGreatDoor.LjD
namespace Go.Proofs.YtomeaibdedaldaaGreatDoor.Ax
open Go.RowKit MemL RegR Go
variable {P : Program} {ops : Array Oper} {X : Cx} {o : Oper} {S : St}
def CallsE (P : Program) (f : FuncId) (args : Array Value) (w : World) (R : Ending → World → Prop) : Prop := ∀ u, CallsD P f args u w fun e u' w' => u' = u ∧ R e w'
theorem CallsE.mono {f : FuncId} {args : Array Value} {w : World} {R R' : Ending → World → Prop} (h : CallsE P f args w R) (hr : ∀ e w', R e w' → R' e w') : CallsE P f args w R' := fun u => (h u).mono fun e u' w' k => ⟨k.1, hr e w' k.2⟩
end Go.Proofs.YtomeaibdedaldaaGreatDoor.Ax
namespace Go.Proofs.YtomeaibdedaldaaGreatDoor.LjE
open Go.RowKit Bv VaSpec Base MemL RegR Ax MemC PutC MemC3 TzC OkS SpA SpB SpC SpF SpH SpI SpJ LaA LaB LaC LaD LaE LaF LaG LiA LiB LiC LiD LiE LiF LjD
open BitsC PteSpec
set_option maxRecDepth 10000
set_option maxHeartbeats 1000000
section
variable {P : Program}
end
section
variable {cd cp sz f sh : Int} {xs : List (Int × Int)} {lv : Int → Int}
end
end Go.Proofs.YtomeaibdedaldaaGreatDoor.LjE
namespace Go.Proofs.YtomeaibdedaldaaGreatDoor.LkB
open Go.RowKit Bv VaSpec Base MemL RegR Ax MemC PutC MemC3 TzC OkS SpA SpB SpC SpF SpH SpI SpJ LaA LaB LaC LaD LaE LaF LaG LiA LiB LiC LiD LiE LiF SpL SpN SpO RfA RfB RfC RfD RlA RlB LjB LkA
open BitsC PteSpec
set_option maxRecDepth 10000
set_option maxHeartbeats 1000000
section
variable {cd cp sz f sh : Int} {xs : List (Int × Int)} {lv : Int → Int}
end
end Go.Proofs.YtomeaibdedaldaaGreatDoor.LkB
namespace Go.Proofs.YtomeaibdedaldaaGreatDoor.LkC
open Go.RowKit Bv VaSpec Base MemL RegR Ax MemC PutC MemC3 TzC OkS SpA SpB SpC SpF SpH SpI SpJ LaA LaB LaC LaD LaE LaF LaG LiA LiB LiC LiD LiE LiF SpG SpL SpN SpO RfA RfB RfC RfD RlA RlB LjB LkA LkB
open BitsC PteSpec
set_option maxRecDepth 10000
set_option maxHeartbeats 1000000
end Go.Proofs.YtomeaibdedaldaaGreatDoor.LkC
namespace Go.Proofs.YtomeaibdedaldaaGreatDoor.LkD
open Go.RowKit Bv VaSpec Base MemL RegR Ax MemC PutC MemC3 TzC OkS SpA SpB SpC SpF SpH SpI SpJ LaA LaB LaC LaD LaE LaF LaG LiA LiB LiC LiD LiE LiF SpL SpN SpO RfA RfB RfC RfD RlA RlB LjB LjC LkA LkB LkC
open BitsC PteSpec
set_option maxRecDepth 10000
set_option maxHeartbeats 1000000
end Go.Proofs.YtomeaibdedaldaaGreatDoor.LkD
namespace Go.Proofs.YtomeaibdedaldaaGreatDoor.LjA
open Go.RowKit Bv VaSpec Base MemL RegR Ax MemC PutC MemC3 TzC OkS SpA SpB SpC SpD SpE SpF SpG SpH SpI SpJ SpK SpN SpO RfA RfB RfC RfD RlA RlB LaA LaB LaC LaD LaE LaF LaG LaH LiA LiB LiC LiD LiE LiF
open BitsC PteSpec
set_option maxRecDepth 10000
set_option maxHeartbeats 1000000
end Go.Proofs.YtomeaibdedaldaaGreatDoor.LjA
namespace Go.Proofs.YtomeaibdedaldaaGreatDoor.LjF
open Go.RowKit Bv VaSpec Base MemL RegR Ax MemC PutC MemC3 TzC OkS SpA SpB SpC SpF SpH SpI SpJ LaA LaB LaC LaD LaE LaF LaG LiA LiB LiC LiD LiE LiF SpE SpG SpO LjA LjB LjC LjD LjE LiF
open BitsC PteSpec
set_option maxRecDepth 10000
set_option maxHeartbeats 1000000
section
variable {cd cp sz f sh : Int} {xs : List (Int × Int)} {lv : Int → Int}
end
end Go.Proofs.YtomeaibdedaldaaGreatDoor.LjF
namespace Go.Proofs.YtomeaibdedaldaaGreatDoor.LkE
open Go.RowKit Bv VaSpec Base MemL RegR Ax MemC PutC MemC3 TzC OkS SpA SpB SpC SpF SpH SpI SpJ LaA LaB LaC LaD LaE LaF LaG LiA LiB LiC LiD LiE LiF SpE SpG SpO SpL SpN RfA RfB RfC RfD RlA RlB LjA LjB LjC LjD LjE LjF LiF LkA LkB LkC LkD
open BitsC PteSpec
set_option maxRecDepth 10000
set_option maxHeartbeats 1000000
end Go.Proofs.YtomeaibdedaldaaGreatDoor.LkE
namespace Go.Proofs.YtomeaibdedaldaaGreatDoor.LrA
open Go.RowKit Bv VaSpec Base MemL RegR Ax MemC PutC MemC3 TzC OkS SpA SpB SpC SpD SpE SpF SpG SpH SpI SpJ SpN SpO RfP RfQ RfE RfG RfJ RfK LaA LaB LaC LaD LaE LaF LaG LaH LiA LiB LiC LiD LiE LiF
open BitsC PteSpec
set_option maxRecDepth 10000
set_option maxHeartbeats 1000000
def NE (E : Int → Int → Pte) (sh : Int) : Prop := ∀ s i, (0 ≤ i ∧ i < 512) → lkP (E s i) = true → (E s i).ppn ≠ sh → ∃ j, (0 ≤ j ∧ j < 512) ∧ E (E s i).ppn j ≠ zP
def NEx (E : Int → Int → Pte) (sh g : Int) : Prop := ∀ s i, (0 ≤ i ∧ i < 512) → lkP (E s i) = true → (E s i).ppn ≠ sh → (E s i).ppn ≠ g → ∃ j, (0 ≤ j ∧ j < 512) ∧ E (E s i).ppn j ≠ zP
theorem NEx.full {E : Int → Int → Pte} {sh g i : Int} (h : NEx E sh g) (hi : 0 ≤ i ∧ i < 512) (hn : E g i ≠ zP) : NE E sh := fun s j hj h1 h2 => by
  by_cases c : (E s j).ppn = g
  · exact ⟨i, hi, by rw [c]; exact hn⟩
  · exact h s j hj h1 h2 c
theorem NE.ex {E : Int → Int → Pte} {sh : Int} (h : NE E sh) (g : Int) : NEx E sh g := fun s j hj h1 h2 _ => h s j hj h1 h2
theorem zvv {p : Pte} (h : p.v = true) : p ≠ zP := fun e => by rw [e] at h; cases h
section
variable {cd cp sz sh : Int}
theorem z1w (addr zam : Int) (hw : 0 ≤ zam) : ∀ (l : Nat) (xs : List (Int × Int)) (f t : Int) (lv : Int → Int), TI cd cp sz xs f sh lv → Al cd cp f t → Al cd cp f sh → lv t = l → l ≤ 2 → NEx (atM sz xs) sh t →
    (dnN sz cd addr zam l xs f t).2.2.2 = 0 → NEx (atM sz (dnN sz cd addr zam l xs f t).1) sh (dnN sz cd addr zam l xs f t).2.2.1
  | 0, xs, f, t, lv, h, ht, _, hl, _, hx, _ => hx
  | l + 1, xs, f, t, lv, h, ht, hsh, hl, h2, hx, he => by
    have hi := idx_bd addr ((l + 1 : Nat) : Int)
    unfold dnN at he ⊢
    split
    · exact hx
    · rename_i c1
      rw [if_neg c1] at he
      split
      · rename_i c2; rw [if_pos c2] at he; cases he
      · rename_i c2
        rw [if_neg c2] at he
        have hk := h.e.k t _ hi
        split
        · rename_i c3
          rw [if_pos c3] at he
          rcases hk with e | ⟨_, _, ⟨e, _⟩ | ⟨e1, e2, e3, e4⟩⟩
          · rw [e] at c3; cases c3
          · exact absurd e c2
          · exact z1w addr zam hw l xs f _ lv h e4 hsh (by rw [e3, hl]; omega) (by omega) ((hx.full hi (zvv c3)).ex _) he
        · rename_i c3
          rw [if_neg c3] at he
          split
          · rename_i c4; rw [if_pos c4] at he; cases he
          · rename_i c4
            rw [if_neg c4] at he
            obtain ⟨a0, a1, a2, a3⟩ := zff h c4
            have b1 := h.bd
            have b2 := h.bp
            have hbt := ht.1
            have hn : zbk (atM sz xs t (idx addr ((l + 1 : Nat) : Int))) = false := by
              unfold zbk
              rw [show (atM sz xs t (idx addr ((l + 1 : Nat) : Int))).v = false by simpa using c3]; rfl
            have hnn : 0 ≤ cd + tzI f ∧ cd + tzI f < 17592186044416 := by omega
            have hT := zl7 h c4 ht hsh (by rw [hl]; omega) hi hn
            have hat : ∀ s j, (0 ≤ j ∧ j < 512) → atM sz (za7 sz xs t (idx addr ((l + 1 : Nat) : Int)) (lnk (cd + tzI f))) s j = if s = t ∧ j = idx addr ((l + 1 : Nat) : Int) then lnk (cd + tzI f) else atM sz xs s j := fun s j hj => by
              rw [h.gm.with ht hi (zhp hnn)]
              by_cases hd : s * 4096 + j * 8 < sz
              · rw [zgx h.s hi hj hd, zeq hnn]
              · have bz := h.bz
                rw [if_neg (by rintro ⟨rfl, rfl⟩; omega)]
                unfold atM zbj
                rw [if_neg hd, if_neg hd]
            refine z1w addr zam hw l _ _ _ _ hT a1 (a0 _ hsh).1 (by rw [hl]; show upL lv (cd + tzI f) _ (cd + tzI f) = _; unfold upL; rw [if_pos rfl]; omega) (by omega) (fun s j hj q1 q2 q3 => ?_) he
            have keep : ∀ s j, (0 ≤ j ∧ j < 512) → atM sz xs s j ≠ zP → atM sz (za7 sz xs t (idx addr ((l + 1 : Nat) : Int)) (lnk (cd + tzI f))) s j ≠ zP := fun s j hj hne => by
              rw [hat s j hj]
              split
              · exact zvv rfl
              · exact hne
            rw [hat s j hj] at q1 q2 q3 ⊢
            by_cases c : s = t ∧ j = idx addr ((l + 1 : Nat) : Int)
            · rw [if_pos c] at q3
              exact absurd rfl q3
            · rw [if_neg c] at q1 q2 q3 ⊢
              by_cases d : (atM sz xs s j).ppn = t
              · refine ⟨idx addr ((l + 1 : Nat) : Int), hi, ?_⟩
                rw [d, hat t _ hi, if_pos ⟨rfl, rfl⟩]
                exact zvv rfl
              · obtain ⟨j', hj', hne⟩ := hx s j hj q1 q2 d
                exact ⟨j', hj', keep _ _ hj' hne⟩
end
structure InvN (k : Kr) : Prop where
  ne : NE (atM k.sz k.m) k.sh
theorem z4a {n : Nat} {k : Kr} {id a pa l : Int} {p : Pm} (h : InvT n k) (g : InvN k) (hp : U pa) : InvN (zb6 k id a pa l p).1 := by
  obtain ⟨lv, hT, hs, hr⟩ := h.t
  unfold zb6
  split
  · exact g
  · rename_i c0
    split
    · exact g
    · rename_i c1
      split
      · exact g
      · split
        · exact g
        · rename_i c3
          split
          · exact g
          · split
            · exact g
            · rename_i c5
              obtain ⟨w1, w2, w3, w4⟩ := zbt (id := id) (a := a) (l := l) h.l (by omega)
              obtain ⟨z1, z2⟩ := h.top (id := id) (a := a) (l := l) (by omega) hs hr
              generalize zao k id a l = w at *
              have he : (zko k w.1 w.2.1 a l).2.2.2 = 0 := by omega
              obtain ⟨lv', r1, r2, r3, r4⟩ := zvs a l w1.1 w.2.1.toNat k.m k.pf w.1 lv hT w2 h.l.sh (by omega) (by omega) (by omega) he
              have hx := z1w a l w1.1 w.2.1.toNat k.m k.pf w.1 lv hT w2 h.l.sh (by omega) (by omega) (g.ne.ex _) he
              have hpm := zhq (p := p) (by omega)
              have hpn := zji (k := k) (l := l) hp (by have := h.l.g.bd; omega) (by omega)
              have hb := zfw (n := pa / 4096) (p := p) (g := decide (id = -1)) hpn hpm
              have hi := idx_bd a l
              have b3 := r3.1
              have hat : ∀ s j, (0 ≤ j ∧ j < 512) → atM k.sz (za7 k.sz (dnN k.sz k.cd a l w.2.1.toNat k.m k.pf w.1).1 (dnN k.sz k.cd a l w.2.1.toNat k.m k.pf w.1).2.2.1 (idx a l) (mkP (pa / 4096) p (decide (id = -1)))) s j = if s = (dnN k.sz k.cd a l w.2.1.toNat k.m k.pf w.1).2.2.1 ∧ j = idx a l then mkP (pa / 4096) p (decide (id = -1)) else atM k.sz (dnN k.sz k.cd a l w.2.1.toNat k.m k.pf w.1).1 s j := fun s j hj => by
                rw [r1.gm.with r3 hi hb.2.1]
                by_cases hd : s * 4096 + j * 8 < k.sz
                · rw [zgx r1.s hi hj hd, hb.1]
                · have bz := r1.bz
                  rw [if_neg (by rintro ⟨rfl, rfl⟩; omega)]
                  unfold atM zbj
                  rw [if_neg hd, if_neg hd]
              refine ⟨?_⟩
              show NE (atM k.sz (za7 k.sz (dnN k.sz k.cd a l w.2.1.toNat k.m k.pf w.1).1 (dnN k.sz k.cd a l w.2.1.toNat k.m k.pf w.1).2.2.1 (idx a l) (mkP (pa / 4096) p (decide (id = -1))))) k.sh
              generalize dnN k.sz k.cd a l w.2.1.toNat k.m k.pf w.1 = D at *
              intro s j hj q1 q2
              rw [hat s j hj] at q1 q2 ⊢
              by_cases c : s = D.2.2.1 ∧ j = idx a l
              · rw [if_pos c, zc8 hb.2.2] at q1; cases q1
              · rw [if_neg c] at q1 q2 ⊢
                by_cases d : (atM k.sz D.1 s j).ppn = D.2.2.1
                · exact ⟨idx a l, hi, by rw [d, hat _ _ hi, if_pos ⟨rfl, rfl⟩]; exact zvv rfl⟩
                · obtain ⟨j', hj', hne⟩ := hx s j hj q1 q2 d
                  refine ⟨j', hj', ?_⟩
                  rw [hat _ _ hj']
                  split
                  · exact zvv rfl
                  · exact hne
theorem z5s {n : Nat} {k : Kr} (h : Inv n k) (g : Inv2 k) : InvN k := ⟨fun s i hi h1 h2 => by
  obtain ⟨lv, hT, hs, hr⟩ := (zx5 h g).t
  unfold atM zbj at h1 h2 ⊢
  split at h1
  · rename_i hlt
    rw [if_pos hlt] at h2
    rcases zlx (xs := k.m) (k := (s * 4096 + i * 8) / 8) with e | ⟨c, hc, e1, e2⟩
    · rw [e, zly] at h1; cases h1
    · obtain ⟨p, hp, hv, rfl⟩ := g.cl c hc
      have hsh := h.sh
      have hcd := h.cd
      have hcp := h.cp
      rw [e2] at h2
      have h2 : (zay (33 + 1024 * k.sh)).ppn ≠ k.sh := h2
      rw [zjm (by omega)] at h2
      exact absurd rfl h2
  · rw [zly] at h1; cases h1⟩
theorem bg_n {a b c : Int} {n : Nat} (h : zez a b c n = true) : InvN (bgK a b c n) := by
  have h0 := zhn h
  have g0 := zig h
  have h1 := zb3 h0
  have g1 := zb8 h0 g0
  exact z5s (zb3 h1) (zb8 h1 g1)
def m39 (a : Int) : Int := a % 549755813888
theorem zb4 {b i l : Int} (h0 : 0 ≤ l ∧ l ≤ 2) (hi : 0 ≤ i ∧ i < 512) (hb : m39 b % (512 * VaSpec.sz l) = 0) : m39 (adr b i l) = m39 b + i * VaSpec.sz l ∧ m39 b + 512 * VaSpec.sz l ≤ 549755813888 := by
  unfold adr
  rw [IntKind.wrap_u64, IntKind.wrap_u64]
  unfold m39 at *
  rcases (by omega : l = 0 ∨ l = 1 ∨ l = 2) with rfl | rfl | rfl
  · simp only [show VaSpec.sz 0 = 4096 from rfl] at *
    omega
  · simp only [show VaSpec.sz 1 = 2097152 from rfl] at *
    omega
  · simp only [show VaSpec.sz 2 = 1073741824 from rfl] at *
    omega
theorem zf8 {a : Int} (h : m39 a % 4096 = 0) : m39 (ofv (num a)) = m39 a := by
  unfold m39 at *
  unfold ofv zh3 num
  split <;> omega
theorem zgh (a l : Int) (h : 0 ≤ l ∧ l ≤ 2) : idx (m39 a) l = idx a l := by
  unfold idx m39
  rcases (by omega : l = 0 ∨ l = 1 ∨ l = 2) with rfl | rfl | rfl
  · simp only [show VaSpec.sz 0 = 4096 from rfl]; omega
  · simp only [show VaSpec.sz 1 = 2097152 from rfl]; omega
  · simp only [show VaSpec.sz 2 = 1073741824 from rfl]; omega
def zhz (m s m' s' : Int) : Prop := m ≤ m' + s' - 1 ∧ m' ≤ m + s - 1
theorem sz_pos {l : Int} (h : 0 ≤ l ∧ l ≤ 2) : 0 < VaSpec.sz l := by
  rcases (by omega : l = 0 ∨ l = 1 ∨ l = 2) with rfl | rfl | rfl <;> decide
theorem zet {l : Int} (h : 1 ≤ l ∧ l ≤ 2) : VaSpec.sz l = 512 * VaSpec.sz (l - 1) := by
  rcases (by omega : l = 1 ∨ l = 2) with rfl | rfl <;> rfl
theorem zg4 {l : Int} (h : 0 ≤ l ∧ l ≤ 2) {m : Int} (hm : m % VaSpec.sz l = 0) : m % 4096 = 0 := by
  rcases (by omega : l = 0 ∨ l = 1 ∨ l = 2) with rfl | rfl | rfl
  · exact hm
  · have hm : m % 2097152 = 0 := hm
    omega
  · have hm : m % 1073741824 = 0 := hm
    omega
theorem zbi (sz : Int) (xs : List (Int × Int)) (l : Nat) (t b : Int) (y : Pg) : y ∈ zbf sz xs l t b ↔ ∃ i : Nat, i < 512 ∧ zc3 (atM sz xs t i) (l : Int) = false ∧
    ((zaz (atM sz xs t i) = true ∧ y = zmf (atM sz xs t i) (adr b i l) l) ∨ (zaz (atM sz xs t i) = false ∧ ∃ m, l = m + 1 ∧ y ∈ zbf sz xs m (atM sz xs t i).ppn (adr b i l))) := by
  have key : ∀ (rec : Int → Int → List Pg) (p : Pte) (a : Int), y ∈ zfr rec p (l : Int) a ↔ zc3 p (l : Int) = false ∧ ((zaz p = true ∧ y = zmf p a l) ∨ (zaz p = false ∧ y ∈ rec p.ppn a)) := fun rec p a => by
    unfold zfr
    cases zc3 p (l : Int) <;> cases zaz p <;> simp
  cases l with
  | zero =>
    simp only [zbf, List.mem_flatMap, List.mem_range]
    constructor
    · rintro ⟨i, hi, hy⟩
      obtain ⟨a, b | ⟨_, c⟩⟩ := (key _ _ _).1 hy
      · exact ⟨i, hi, a, .inl b⟩
      · cases c
    · rintro ⟨i, hi, a, b | ⟨_, m, e, _⟩⟩
      · exact ⟨i, hi, (key _ _ _).2 ⟨a, .inl b⟩⟩
      · omega
  | succ m =>
    simp only [zbf, List.mem_flatMap, List.mem_range]
    constructor
    · rintro ⟨i, hi, hy⟩
      obtain ⟨a, b | ⟨c, d⟩⟩ := (key _ _ _).1 hy
      · exact ⟨i, hi, a, .inl b⟩
      · exact ⟨i, hi, a, .inr ⟨c, m, rfl, d⟩⟩
    · rintro ⟨i, hi, a, b | ⟨c, m', e, d⟩⟩
      · exact ⟨i, hi, (key _ _ _).2 ⟨a, .inl b⟩⟩
      · obtain rfl : m' = m := by omega
        exact ⟨i, hi, (key _ _ _).2 ⟨a, .inr ⟨c, d⟩⟩⟩
theorem zeu (sz : Int) (xs : List (Int × Int)) : ∀ (l : Nat) (t b : Int) (y : Pg), l ≤ 2 → m39 b % (512 * VaSpec.sz l) = 0 → y ∈ zbf sz xs l t b → (0 ≤ y.lev ∧ y.lev ≤ l) ∧ m39 b ≤ m39 y.va ∧ m39 y.va + VaSpec.sz y.lev ≤ m39 b + 512 * VaSpec.sz l ∧ m39 y.va % VaSpec.sz y.lev = 0 ∧ y.va = ofv (num y.va) := by
  intro l
  induction l with
  | zero =>
    intro t b y hl hb hy
    obtain ⟨i, hi, _, ⟨_, rfl⟩ | ⟨_, m, e, _⟩⟩ := (zbi _ _ _ _ _ _).1 hy
    · obtain ⟨e1, e2⟩ := zb4 (b := b) (i := (i : Int)) (l := ((0 : Nat) : Int)) (by omega) (by omega) hb
      have hz : VaSpec.sz ((0 : Nat) : Int) = 4096 := rfl
      have e3 := zf8 (a := adr b i ((0 : Nat) : Int)) (by rw [e1, hz]; rw [hz] at hb; omega)
      refine ⟨⟨by show (0 : Int) ≤ ((0 : Nat) : Int); omega, by show ((0 : Nat) : Int) ≤ ((0 : Nat) : Int); omega⟩, ?_⟩
      show m39 b ≤ m39 (ofv (num _)) ∧ m39 (ofv (num _)) + VaSpec.sz ((0 : Nat) : Int) ≤ _ ∧ m39 (ofv (num _)) % VaSpec.sz ((0 : Nat) : Int) = 0 ∧ _
      rw [e3, e1, hz]
      rw [hz] at hb
      refine ⟨by omega, by omega, by omega, ?_⟩
      show ofv (num _) = ofv (num (ofv (num _)))
      congr 1
      unfold num ofv zh3; split <;> omega
    · omega
  | succ l IH =>
    intro t b y hl hb hy
    obtain ⟨i, hi, _, ⟨_, rfl⟩ | ⟨_, m, e, hy⟩⟩ := (zbi _ _ _ _ _ _).1 hy
    · obtain ⟨e1, e2⟩ := zb4 (b := b) (i := (i : Int)) (l := ((l + 1 : Nat) : Int)) (by omega) (by omega) hb
      have hz := sz_pos (l := ((l + 1 : Nat) : Int)) (by omega)
      have hmod : (m39 b + (i : Int) * VaSpec.sz ((l + 1 : Nat) : Int)) % VaSpec.sz ((l + 1 : Nat) : Int) = 0 := by
        rcases (by omega : l = 0 ∨ l = 1) with rfl | rfl
        · have hb : m39 b % (512 * 2097152) = 0 := hb
          show (m39 b + (i : Int) * 2097152) % 2097152 = 0; omega
        · have hb : m39 b % (512 * 1073741824) = 0 := hb
          show (m39 b + (i : Int) * 1073741824) % 1073741824 = 0; omega
      have e3 := zf8 (a := adr b i ((l + 1 : Nat) : Int)) (by rw [e1]; exact zg4 (by omega) hmod)
      refine ⟨⟨by show (0 : Int) ≤ ((l + 1 : Nat) : Int); omega, by show ((l + 1 : Nat) : Int) ≤ ((l + 1 : Nat) : Int); omega⟩, ?_⟩
      show m39 b ≤ m39 (ofv (num _)) ∧ m39 (ofv (num _)) + VaSpec.sz ((l + 1 : Nat) : Int) ≤ _ ∧ m39 (ofv (num _)) % VaSpec.sz ((l + 1 : Nat) : Int) = 0 ∧ _
      rw [e3, e1]
      refine ⟨?_, ?_, hmod, ?_⟩
      · have : 0 ≤ (i : Int) * VaSpec.sz ((l + 1 : Nat) : Int) := Int.mul_nonneg (by omega) (by omega)
        omega
      · rcases (by omega : l = 0 ∨ l = 1) with rfl | rfl
        · show m39 b + (i : Int) * 2097152 + 2097152 ≤ m39 b + 512 * 2097152; omega
        · show m39 b + (i : Int) * 1073741824 + 1073741824 ≤ m39 b + 512 * 1073741824; omega
      · show ofv (num _) = ofv (num (ofv (num _)))
        congr 1
        unfold num ofv zh3; split <;> omega
    · obtain rfl : m = l := by omega
      obtain ⟨e1, e2⟩ := zb4 (b := b) (i := (i : Int)) (l := ((m + 1 : Nat) : Int)) (by omega) (by omega) hb
      have hs := zet (l := ((m + 1 : Nat) : Int)) (by omega)
      rw [show ((m + 1 : Nat) : Int) - 1 = (m : Int) by omega] at hs
      have hmod : (m39 b + (i : Int) * VaSpec.sz ((m + 1 : Nat) : Int)) % (512 * VaSpec.sz (m : Int)) = 0 := by
        rw [← hs]
        rcases (by omega : m = 0 ∨ m = 1) with rfl | rfl
        · have hb : m39 b % (512 * 2097152) = 0 := hb
          show (m39 b + (i : Int) * 2097152) % 2097152 = 0; omega
        · have hb : m39 b % (512 * 1073741824) = 0 := hb
          show (m39 b + (i : Int) * 1073741824) % 1073741824 = 0; omega
      obtain ⟨r1, r2, r3, r4, r5⟩ := IH _ _ y (by omega) (by rw [e1]; exact hmod) hy
      rw [e1] at r2 r3
      refine ⟨⟨r1.1, by omega⟩, ?_, ?_, r4, r5⟩
      · have : 0 ≤ (i : Int) * VaSpec.sz ((m + 1 : Nat) : Int) := Int.mul_nonneg (by omega) (by have := sz_pos (l := ((m + 1 : Nat) : Int)) (by omega); omega)
        omega
      · rw [← hs] at r3
        rcases (by omega : m = 0 ∨ m = 1) with rfl | rfl
        · have r3 : m39 y.va + VaSpec.sz y.lev ≤ m39 b + (i : Int) * 2097152 + 2097152 := r3
          show m39 y.va + VaSpec.sz y.lev ≤ m39 b + 512 * 2097152; omega
        · have r3 : m39 y.va + VaSpec.sz y.lev ≤ m39 b + (i : Int) * 1073741824 + 1073741824 := r3
          show m39 y.va + VaSpec.sz y.lev ≤ m39 b + 512 * 1073741824; omega
end Go.Proofs.YtomeaibdedaldaaGreatDoor.LrA
namespace Go.Proofs.YtomeaibdedaldaaGreatDoor.LrB
open Go.RowKit Bv VaSpec Base MemL RegR Ax MemC PutC MemC3 TzC OkS SpA SpB SpC SpD SpE SpF SpG SpH SpI SpJ SpN SpO RfP RfQ RfE RfG RfJ RfK LaA LaB LaC LaD LaE LaF LaG LaH LiA LiB LiC LiD LiE LiF LrA
open BitsC PteSpec
set_option maxRecDepth 10000
set_option maxHeartbeats 1000000
section
variable {cd cp sz f sh : Int} {xs : List (Int × Int)} {lv : Int → Int}
theorem zy7 (h : TI cd cp sz xs f sh lv) (hn : NE (atM sz xs) sh) : ∀ (l : Nat) (t b : Int), l ≤ 1 → lv t = l → (∃ j, (0 ≤ j ∧ j < 512) ∧ atM sz xs t j ≠ zP) → ∃ y, y ∈ zbf sz xs l t b
  | 0, t, b, _, hl, ⟨j, hj, hne⟩ => by
    rcases h.e.k t j hj with e | ⟨_, _, ⟨e1, e2⟩ | ⟨e1, e2, _⟩⟩
    · exact absurd e hne
    · rw [show j = ((j.toNat : Nat) : Int) by omega] at e1 e2
      rw [hl] at e2
      exact ⟨_, (zbi _ _ _ _ _ _).2 ⟨j.toNat, by omega, e2, .inl ⟨e1, rfl⟩⟩⟩
    · omega
  | l + 1, t, b, h1, hl, ⟨j, hj, hne⟩ => by
    rcases h.e.k t j hj with e | ⟨_, _, ⟨e1, e2⟩ | ⟨e1, e2, e3, e4⟩⟩
    · exact absurd e hne
    · rw [show j = ((j.toNat : Nat) : Int) by omega] at e1 e2
      rw [hl] at e2
      exact ⟨_, (zbi _ _ _ _ _ _).2 ⟨j.toNat, by omega, e2, .inl ⟨e1, rfl⟩⟩⟩
    · have hns : (atM sz xs t j).ppn ≠ sh := fun e => by have := (h.e.s t j hj e1 e).2; omega
      obtain ⟨y, hy⟩ := zy7 h hn l (atM sz xs t j).ppn (adr b j ((l + 1 : Nat) : Int)) (by omega) (by rw [e3, hl]; omega) (hn t j hj e1 hns)
      have hb : zc3 (atM sz xs t j) ((l + 1 : Nat) : Int) = false := by
        have := zbo e1 (l := ((l + 1 : Nat) : Int)) (by omega)
        unfold za0 at this
        simp only [Bool.and_eq_true, Bool.not_eq_true'] at this
        exact this.2
      have hlf := (zbs e1).2.2
      rw [show j = ((j.toNat : Nat) : Int) by omega] at hb hlf hy
      exact ⟨y, (zbi _ _ _ _ _ _).2 ⟨j.toNat, by omega, hb, .inr ⟨hlf, l, rfl, hy⟩⟩⟩
theorem blk {m mb l : Int} (hl : 0 ≤ l ∧ l ≤ 2) (hb : mb % (512 * VaSpec.sz l) = 0) (h0 : mb ≤ m) (h1 : m < mb + 512 * VaSpec.sz l) : mb + idx m l * VaSpec.sz l ≤ m ∧ m < mb + idx m l * VaSpec.sz l + VaSpec.sz l := by
  unfold idx
  rcases (by omega : l = 0 ∨ l = 1 ∨ l = 2) with rfl | rfl | rfl
  · simp only [show VaSpec.sz 0 = 4096 from rfl] at *; omega
  · simp only [show VaSpec.sz 1 = 2097152 from rfl] at *; omega
  · simp only [show VaSpec.sz 2 = 1073741824 from rfl] at *; omega
theorem zy8 {m mb l w i : Int} (hl : 0 ≤ l ∧ l ≤ 2) (hw : 0 ≤ w ∧ w ≤ l) (hb : mb % (512 * VaSpec.sz l) = 0) (hm : m % VaSpec.sz w = 0) (h1 : m < mb + i * VaSpec.sz l + VaSpec.sz l) : m + VaSpec.sz w ≤ mb + i * VaSpec.sz l + VaSpec.sz l := by
  rcases (by omega : l = 0 ∨ l = 1 ∨ l = 2) with rfl | rfl | rfl <;> rcases (by omega : w = 0 ∨ w = 1 ∨ w = 2) with rfl | rfl | rfl
  all_goals first
    | (exfalso; omega)
    | (simp only [show VaSpec.sz 0 = 4096 from rfl, show VaSpec.sz 1 = 2097152 from rfl, show VaSpec.sz 2 = 1073741824 from rfl] at *; omega)
theorem zy9 {mb l i j m s : Int} (hl : 0 ≤ l ∧ l ≤ 2) (h1 : mb + i * VaSpec.sz l ≤ m) (h2 : m + s ≤ mb + i * VaSpec.sz l + VaSpec.sz l) {m' s' : Int} (h3 : mb + j * VaSpec.sz l ≤ m') (h4 : m' + s' ≤ mb + j * VaSpec.sz l + VaSpec.sz l) (hm : zhz m s m' s') : i = j := by
  unfold zhz at hm
  rcases (by omega : l = 0 ∨ l = 1 ∨ l = 2) with rfl | rfl | rfl
  · simp only [show VaSpec.sz 0 = 4096 from rfl] at *; omega
  · simp only [show VaSpec.sz 1 = 2097152 from rfl] at *; omega
  · simp only [show VaSpec.sz 2 = 1073741824 from rfl] at *; omega
theorem zn3 (h : TI cd cp sz xs f sh lv) (hn : NE (atM sz xs) sh) (a zam : Int) (hw : 0 ≤ zam) (hm : m39 a % VaSpec.sz zam = 0) : ∀ (l : Nat) (t b : Int), l ≤ 2 → Al cd cp f t → lv t = l → zam ≤ (l : Int) → m39 b % (512 * VaSpec.sz l) = 0 → m39 b ≤ m39 a → m39 a < m39 b + 512 * VaSpec.sz l →
    (l = 2 → ∀ i, (0 ≤ i ∧ i < 512) → lkP (atM sz xs t i) = true → (atM sz xs t i).ppn ≠ sh) →
    ((∃ y ∈ zbf sz xs l t b, zhz (m39 y.va) (VaSpec.sz y.lev) (m39 a) (VaSpec.sz zam)) ↔ (atM sz xs (zat sz xs a zam l t).1 (idx a (zat sz xs a zam l t).2)).v = true) := by
  intro l
  induction l with
  | zero =>
    intro t b h2 ht hl hwl hb h0 h1 _
    obtain rfl : zam = 0 := by omega
    have hi := idx_bd a ((0 : Nat) : Int)
    have e : zat sz xs a 0 0 t = (t, ((0 : Nat) : Int)) := rfl
    rw [e]
    show _ ↔ (atM sz xs t (idx a ((0 : Nat) : Int))).v = true
    obtain ⟨k1, k2⟩ := blk (l := ((0 : Nat) : Int)) (by omega) hb h0 h1
    rw [zgh a _ (by omega)] at k1 k2
    have k3 := zy8 (w := 0) (i := idx a ((0 : Nat) : Int)) (l := ((0 : Nat) : Int)) (by omega) (by omega) hb hm k2
    constructor
    · rintro ⟨y, hy, hme⟩
      obtain ⟨i, hi2, hbad, ⟨hlf, rfl⟩ | ⟨_, m, em, _⟩⟩ := (zbi _ _ _ _ _ _).1 hy
      · obtain ⟨e1, e2⟩ := zb4 (b := b) (i := (i : Int)) (l := ((0 : Nat) : Int)) (by omega) (by omega) hb
        have hz : VaSpec.sz ((0 : Nat) : Int) = 4096 := rfl
        have e3 : m39 (zmf (atM sz xs t i) (adr b i ((0 : Nat) : Int)) ((0 : Nat) : Int)).va = m39 b + (i : Int) * VaSpec.sz ((0 : Nat) : Int) := (zf8 (a := adr b i ((0 : Nat) : Int)) (by rw [e1, hz]; rw [hz] at hb; omega)).trans e1
        have e4 : (i : Int) = idx a ((0 : Nat) : Int) := zy9 (l := ((0 : Nat) : Int)) (by omega) (by rw [e3]; omega) (by rw [e3]; show _ + VaSpec.sz ((0 : Nat) : Int) ≤ _; omega) k1 k3 hme
        rw [← e4]
        exact (zbp hlf).2
      · omega
    · intro hv
      rcases h.e.k t _ hi with e | ⟨_, _, ⟨q1, q2⟩ | ⟨q1, q2, _⟩⟩
      · rw [e] at hv; cases hv
      · obtain ⟨e1, e2⟩ := zb4 (b := b) (i := idx a ((0 : Nat) : Int)) (l := ((0 : Nat) : Int)) (by omega) hi hb
        have hz : VaSpec.sz ((0 : Nat) : Int) = 4096 := rfl
        have e3 := (zf8 (a := adr b (idx a ((0 : Nat) : Int)) ((0 : Nat) : Int)) (by rw [e1, hz]; rw [hz] at hb; omega)).trans e1
        rw [hl] at q2
        refine ⟨zmf (atM sz xs t (idx a ((0 : Nat) : Int))) (adr b (idx a ((0 : Nat) : Int)) ((0 : Nat) : Int)) ((0 : Nat) : Int), ?_, ?_⟩
        · rw [show idx a ((0 : Nat) : Int) = (((idx a ((0 : Nat) : Int)).toNat : Nat) : Int) by omega] at q1 q2 ⊢
          exact (zbi _ _ _ _ _ _).2 ⟨_, by omega, q2, .inl ⟨q1, rfl⟩⟩
        · show zhz (m39 (ofv (num _))) (VaSpec.sz ((0 : Nat) : Int)) _ _
          rw [e3]
          exact ⟨by have := sz_pos (l := 0) (by omega); omega, by omega⟩
      · omega
  | succ l IH =>
    intro t b h2 ht hl hwl hb h0 h1 hns
    have hi := idx_bd a ((l + 1 : Nat) : Int)
    have hzp := sz_pos (l := ((l + 1 : Nat) : Int)) (by omega)
    obtain ⟨k1, k2⟩ := blk (l := ((l + 1 : Nat) : Int)) (by omega) hb h0 h1
    rw [zgh a _ (by omega)] at k1 k2
    have hwp := sz_pos (l := zam) (by omega)
    have k3 := zy8 (w := zam) (i := idx a ((l + 1 : Nat) : Int)) (l := ((l + 1 : Nat) : Int)) (by omega) (by omega) hb hm k2
    have hs := zet (l := ((l + 1 : Nat) : Int)) (by omega)
    rw [show ((l + 1 : Nat) : Int) - 1 = (l : Int) by omega] at hs
    have hmod : ∀ i : Int, (m39 b + i * VaSpec.sz ((l + 1 : Nat) : Int)) % VaSpec.sz ((l + 1 : Nat) : Int) = 0 := fun i => by
      rcases (by omega : l = 0 ∨ l = 1) with rfl | rfl
      · have hb : m39 b % (512 * 2097152) = 0 := hb
        show (m39 b + i * 2097152) % 2097152 = 0; omega
      · have hb : m39 b % (512 * 1073741824) = 0 := hb
        show (m39 b + i * 1073741824) % 1073741824 = 0; omega
    have hpg : ∀ (i : Int) (p : Pte), (0 ≤ i ∧ i < 512) → m39 (zmf p (adr b i ((l + 1 : Nat) : Int)) ((l + 1 : Nat) : Int)).va = m39 b + i * VaSpec.sz ((l + 1 : Nat) : Int) := fun i p hi => by
      obtain ⟨e1, e2⟩ := zb4 (b := b) (i := i) (l := ((l + 1 : Nat) : Int)) (by omega) hi hb
      exact (zf8 (a := adr b i ((l + 1 : Nat) : Int)) (by rw [e1]; exact zg4 (by omega) (hmod i))).trans e1
    have hsub : ∀ (i : Nat) (y : Pg) (t' : Int), i < 512 → y ∈ zbf sz xs l t' (adr b i ((l + 1 : Nat) : Int)) → m39 b + (i : Int) * VaSpec.sz ((l + 1 : Nat) : Int) ≤ m39 y.va ∧ m39 y.va + VaSpec.sz y.lev ≤ m39 b + (i : Int) * VaSpec.sz ((l + 1 : Nat) : Int) + VaSpec.sz ((l + 1 : Nat) : Int) := fun i y t' hi hy => by
      obtain ⟨e1, e2⟩ := zb4 (b := b) (i := (i : Int)) (l := ((l + 1 : Nat) : Int)) (by omega) (by omega) hb
      obtain ⟨_, r2, r3, _⟩ := zeu sz xs l t' _ y (by omega) (by rw [e1, ← hs]; exact hmod i) hy
      rw [e1] at r2 r3
      rw [← hs] at r3
      exact ⟨r2, r3⟩
    have hme_i : ∀ (i : Nat) (y : Pg), i < 512 → m39 b + (i : Int) * VaSpec.sz ((l + 1 : Nat) : Int) ≤ m39 y.va → m39 y.va + VaSpec.sz y.lev ≤ m39 b + (i : Int) * VaSpec.sz ((l + 1 : Nat) : Int) + VaSpec.sz ((l + 1 : Nat) : Int) → zhz (m39 y.va) (VaSpec.sz y.lev) (m39 a) (VaSpec.sz zam) → (i : Int) = idx a ((l + 1 : Nat) : Int) := fun i y hi q1 q2 q3 =>
      zy9 (l := ((l + 1 : Nat) : Int)) (by omega) q1 q2 k1 k3 q3
    rcases h.e.k t _ hi with e | ⟨_, _, ⟨q1, q2⟩ | ⟨q1, q2, q3, q4⟩⟩
    · -- nothing is there
      have hst : zat sz xs a zam (l + 1) t = (t, ((l + 1 : Nat) : Int)) := za1 (fun _ => by rw [e]; rfl) hw
      rw [hst]
      show _ ↔ (atM sz xs t (idx a ((l + 1 : Nat) : Int))).v = true
      rw [e]
      constructor
      · rintro ⟨y, hy, hme⟩
        obtain ⟨i, hi2, hbad, ⟨hlf, rfl⟩ | ⟨hlf, m, em, hy⟩⟩ := (zbi _ _ _ _ _ _).1 hy
        · have e3 := hpg (i : Int) (atM sz xs t i) (by omega)
          have e4 := hme_i i _ hi2 (by rw [e3]; omega) (by rw [e3]; show _ + VaSpec.sz ((l + 1 : Nat) : Int) ≤ _; omega) hme
          rw [e4, e] at hlf; cases hlf
        · obtain rfl : m = l := by omega
          obtain ⟨s1, s2⟩ := hsub i y _ hi2 hy
          have e4 := hme_i i y hi2 s1 s2 hme
          rw [e4, e] at hbad; cases hbad
      · intro hv; cases hv
    · -- a leaf
      have hst : zat sz xs a zam (l + 1) t = (t, ((l + 1 : Nat) : Int)) := za1 (fun _ => zfu (zbp q1).1) hw
      rw [hst]
      show _ ↔ (atM sz xs t (idx a ((l + 1 : Nat) : Int))).v = true
      rw [(zbp q1).2]
      refine ⟨fun _ => rfl, fun _ => ⟨zmf (atM sz xs t (idx a ((l + 1 : Nat) : Int))) (adr b (idx a ((l + 1 : Nat) : Int)) ((l + 1 : Nat) : Int)) ((l + 1 : Nat) : Int), ?_, ?_⟩⟩
      · rw [hl] at q2
        rw [show idx a ((l + 1 : Nat) : Int) = (((idx a ((l + 1 : Nat) : Int)).toNat : Nat) : Int) by omega] at q1 q2 ⊢
        exact (zbi _ _ _ _ _ _).2 ⟨_, by omega, q2, .inl ⟨q1, rfl⟩⟩
      · show zhz _ (VaSpec.sz ((l + 1 : Nat) : Int)) _ _
        rw [hpg _ _ hi]
        exact ⟨by omega, by omega⟩
    · -- a link
      have hlk := zbo q1 (l := ((l + 1 : Nat) : Int)) (by omega)
      have hlf := (zbs q1).2.2
      have hbad : zc3 (atM sz xs t (idx a ((l + 1 : Nat) : Int))) ((l + 1 : Nat) : Int) = false := by
        unfold za0 at hlk
        simp only [Bool.and_eq_true, Bool.not_eq_true'] at hlk
        exact hlk.2
      have hnsh : (atM sz xs t (idx a ((l + 1 : Nat) : Int))).ppn ≠ sh := by
        by_cases c : l + 1 = 2
        · exact hns c _ hi q1
        · exact fun e => by have := (h.e.s t _ hi q1 e).2; omega
      obtain ⟨e1, e2⟩ := zb4 (b := b) (i := idx a ((l + 1 : Nat) : Int)) (l := ((l + 1 : Nat) : Int)) (by omega) hi hb
      have hmem : ∀ y, y ∈ zbf sz xs l (atM sz xs t (idx a ((l + 1 : Nat) : Int))).ppn (adr b (idx a ((l + 1 : Nat) : Int)) ((l + 1 : Nat) : Int)) → y ∈ zbf sz xs (l + 1) t b := fun y hy => by
        have hbad := hbad
        have hlf := hlf
        rw [show idx a ((l + 1 : Nat) : Int) = (((idx a ((l + 1 : Nat) : Int)).toNat : Nat) : Int) by omega] at hbad hlf hy
        exact (zbi _ _ _ _ _ _).2 ⟨_, by omega, hbad, .inr ⟨hlf, l, rfl, hy⟩⟩
      by_cases c : zam < ((l + 1 : Nat) : Int)
      · rw [zba c hlk]
        have I := IH (atM sz xs t (idx a ((l + 1 : Nat) : Int))).ppn (adr b (idx a ((l + 1 : Nat) : Int)) ((l + 1 : Nat) : Int)) (by omega) q4 (by rw [q3, hl]; omega) (by omega) (by rw [e1, ← hs]; exact hmod _) (by rw [e1]; exact k1) (by rw [e1, ← hs]; exact k2) (fun hh => by omega)
        rw [← I]
        constructor
        · rintro ⟨y, hy, hme⟩
          obtain ⟨i, hi2, hbad2, ⟨hlf2, rfl⟩ | ⟨hlf2, m, em, hy⟩⟩ := (zbi _ _ _ _ _ _).1 hy
          · have e3 := hpg (i : Int) (atM sz xs t i) (by omega)
            have e4 := hme_i i _ hi2 (by rw [e3]; omega) (by rw [e3]; show _ + VaSpec.sz ((l + 1 : Nat) : Int) ≤ _; omega) hme
            rw [e4, hlf] at hlf2; cases hlf2
          · obtain rfl : m = l := by omega
            obtain ⟨s1, s2⟩ := hsub i y _ hi2 hy
            have e4 := hme_i i y hi2 s1 s2 hme
            rw [e4] at hy
            exact ⟨y, hy, hme⟩
        · rintro ⟨y, hy, hme⟩
          exact ⟨y, hmem y hy, hme⟩
      · have hwe : zam = ((l + 1 : Nat) : Int) := by omega
        have hst : zat sz xs a zam (l + 1) t = (t, ((l + 1 : Nat) : Int)) := za1 (fun hh => absurd hh c) hw
        rw [hst]
        show _ ↔ (atM sz xs t (idx a ((l + 1 : Nat) : Int))).v = true
        rw [(zbs q1).2.1]
        refine ⟨fun _ => rfl, fun _ => ?_⟩
        obtain ⟨y, hy⟩ := zy7 h hn l (atM sz xs t (idx a ((l + 1 : Nat) : Int))).ppn (adr b (idx a ((l + 1 : Nat) : Int)) ((l + 1 : Nat) : Int)) (by omega) (by rw [q3, hl]; omega) (hn t _ hi q1 hnsh)
        refine ⟨y, hmem y hy, ?_⟩
        have hy2 := hy
        rw [show adr b (idx a ((l + 1 : Nat) : Int)) ((l + 1 : Nat) : Int) = adr b (((idx a ((l + 1 : Nat) : Int)).toNat : Nat) : Int) ((l + 1 : Nat) : Int) by rw [show (((idx a ((l + 1 : Nat) : Int)).toNat : Nat) : Int) = idx a ((l + 1 : Nat) : Int) by omega]] at hy2
        obtain ⟨s1, s2⟩ := hsub _ y _ (by omega) hy2
        rw [show (((idx a ((l + 1 : Nat) : Int)).toNat : Nat) : Int) = idx a ((l + 1 : Nat) : Int) by omega] at s1 s2
        have ha : m39 a = m39 b + idx a ((l + 1 : Nat) : Int) * VaSpec.sz ((l + 1 : Nat) : Int) := by
          rw [hwe] at k3; omega
        obtain ⟨⟨y0, y1⟩, _⟩ := zeu sz xs l _ _ y (by omega) (by rw [e1, ← hs]; exact hmod _) hy
        have := sz_pos (l := y.lev) (by omega)
        rw [hwe]
        exact ⟨by omega, by omega⟩
theorem zkp (h : TI cd cp sz xs f sh lv) (a zam : Int) (hw : 0 ≤ zam) {xs' : List (Int × Int)} (hx : ∀ s, Al cd cp f s → (0 ≤ lv s ∧ lv s ≤ 2) → atM sz xs' s (idx a (lv s)) = atM sz xs s (idx a (lv s))) : ∀ (l : Nat) (t : Int), l ≤ 2 → Al cd cp f t → lv t = l →
    zat sz xs' a zam l t = zat sz xs a zam l t
  | 0, t, _, _, _ => rfl
  | l + 1, t, h2, ht, hl => by
    have hi := idx_bd a ((l + 1 : Nat) : Int)
    have e := hx t ht (by omega)
    rw [hl] at e
    by_cases c1 : zam < ((l + 1 : Nat) : Int)
    · cases c : za0 (atM sz xs t (idx a ((l + 1 : Nat) : Int))) ((l + 1 : Nat) : Int) with
      | true =>
        obtain ⟨_, _, _, k4, k5⟩ := zg2 h hi c
        rw [zba c1 (by rw [e]; exact c), zba c1 c, e]
        exact zkp h a zam hw hx l _ (by omega) k5 (by rw [k4, hl]; omega)
      | false =>
        rw [za1 (fun _ => by rw [e]; exact c) (by omega), za1 (fun _ => c) (by omega)]
    · rw [za1 (fun hh => absurd hh c1) (by omega), za1 (fun hh => absurd hh c1) (by omega)]
end
theorem zg5 {a l : Int} (h : 0 ≤ l ∧ l ≤ 2) (hf : zhw a l = true) : m39 a % VaSpec.sz l = 0 := by
  unfold zhw off at hf
  simp only [Bool.and_eq_true, beq_iff_eq] at hf
  obtain ⟨_, hf⟩ := hf
  unfold m39
  rcases (by omega : l = 0 ∨ l = 1 ∨ l = 2) with rfl | rfl | rfl
  · simp only [show VaSpec.sz 0 = 4096 from rfl] at *; omega
  · simp only [show VaSpec.sz 1 = 2097152 from rfl] at *; omega
  · simp only [show VaSpec.sz 2 = 1073741824 from rfl] at *; omega
theorem zkq : m39 kA = 548682072064 := by rw [zsg]; decide
theorem zg6 {k : Kr} {id a l : Int} (he : (zao k id a l).2.2 = 0) (h : id = -1) : idx a 2 = 511 := by
  unfold zao at he
  by_cases c1 : 0 ≤ l ∧ l ≤ 2
  rotate_left
  · rw [if_pos c1] at he; cases he
  rw [if_neg (by simpa using c1)] at he
  by_cases c2 : id ≠ -1 ∧ za5 k id = false
  · rw [if_pos c2] at he; cases he
  rw [if_neg c2] at he
  by_cases c3 : zhw a l = false
  · rw [if_pos c3] at he; cases he
  rw [if_neg c3, if_pos h] at he
  by_cases c5 : idx a 2 = 511 ∧ l ≠ 2
  · exact c5.1
  · rw [if_neg c5] at he; cases he
theorem zss {n : Nat} {k : Kr} {id a l : Int} (h : InvT n k) (g : InvN k) (he : (zao k id a l).2.2 = 0) :
    lk3 k (zao k id a l).1 (zao k id a l).2.1 a l ≠ 0 ↔ ∃ y ∈ zcf k id, zhz (m39 y.va) (VaSpec.sz y.lev) (m39 a) (VaSpec.sz l) := by
  obtain ⟨lv, hT, hs, hr⟩ := h.t
  obtain ⟨w1, w2, w3, w4⟩ := zbt (id := id) (a := a) (l := l) h.l he
  have hft := zf0 he
  have hm := zg5 w1 hft
  have h3 : ∀ top at', lk3 k top at' a l ≠ 0 ↔ (atM k.sz k.m (za6 k.sz k.m a l at' top).1 (idx a (za6 k.sz k.m a l at' top).2)).v = true := fun top at' => by
    unfold lk3
    cases (atM k.sz k.m (za6 k.sz k.m a l at' top).1 (idx a (za6 k.sz k.m a l at' top).2)).v <;> simp
  rw [h3]
  rcases zc1 h.l he with ⟨e1, e2, e3⟩ | ⟨e1, e2, e3, e4, e5⟩
  · have hid := zg6 he e3
    rw [e1, e2]
    have hl : zcf k id = zbf k.sz k.m 1 k.sh kA := by unfold zcf; rw [if_pos e3]
    rw [hl]
    have hz : (512 : Int) * VaSpec.sz ((1 : Nat) : Int) = 1073741824 := rfl
    rw [e2] at w3
    have hr39 : 548682072064 ≤ m39 a ∧ m39 a < 548682072064 + 1073741824 := by
      unfold idx at hid
      simp only [show VaSpec.sz 2 = 1073741824 from rfl] at hid
      unfold m39; omega
    exact (zn3 hT g.ne a l w1.1 hm 1 k.sh kA (by omega) h.l.sh hs (by omega) (by rw [hz, zkq]; decide) (by rw [zkq]; exact hr39.1) (by rw [hz, zkq]; exact hr39.2) (fun hh => by omega)).symm
  · rw [e3, e4]
    have hl : zcf k id = zbf k.sz (zxt k id) 2 (zfc k id).root 0 := by
      unfold zcf
      rw [if_neg e2, if_neg (by rw [e1]; simp)]
    rw [hl]
    obtain ⟨h0, h1, h2, hv⟩ := zdd e1
    have hrl := hr _ (List.mem_of_getElem? h2) hv
    have har := h.l.root e1
    have hown : zxt k id = zbq k.m ((zfc k id).root * 512 + 511) 0 := rfl
    generalize (zfc k id).root = rt at *
    have b1 := hT.bd
    have bt := har.1
    have hat : ∀ s j, (0 ≤ j ∧ j < 512) → atM k.sz (zbq k.m (rt * 512 + 511) 0) s j = if s = rt ∧ j = 511 then zP else atM k.sz k.m s j := fun s j hj => zfg (cd := k.cd) (cp := k.cp) hT.s hT.bz (by omega) (by omega) s j hj
    have hTo : TI k.cd k.cp k.sz (zbq k.m (rt * 512 + 511) 0) k.pf k.sh lv := hT.put bt (by omega) ⟨by omega, by omega⟩ hT.bf fun E' hE => hT.e.sub fun s j hj => by
      rw [hE s j hj, zly]
      split
      · exact .inl rfl
      · exact .inr rfl
    have hne : NE (atM k.sz (zbq k.m (rt * 512 + 511) 0)) k.sh := fun s j hj q1 q2 => by
      rw [hat s j hj] at q1 q2 ⊢
      by_cases c : s = rt ∧ j = 511
      · rw [if_pos c] at q1; cases q1
      · rw [if_neg c] at q1 q2 ⊢
        obtain ⟨j', hj', hn⟩ := g.ne s j hj q1 q2
        obtain ⟨_, r2, r3, _⟩ := zbz hT hj q1
        refine ⟨j', hj', ?_⟩
        rw [hat _ _ hj', if_neg]
        · exact hn
        · rintro ⟨e, _⟩
          rw [e, hrl] at r3
          omega
    have hsame := zkp hT a l w1.1 (xs' := zbq k.m (rt * 512 + 511) 0) (fun s hs2 hb => by
      rw [hat s _ (idx_bd a _), if_neg]
      rintro ⟨e, c⟩
      rw [e, hrl] at c
      exact e5 c) 2 rt (by omega) har hrl
    obtain ⟨l', t', i1, i2, i3, i4, i5, _⟩ := zfz hT a l w1.1 2 rt har hrl (by omega)
    have hz : (512 : Int) * VaSpec.sz ((2 : Nat) : Int) = 549755813888 := rfl
    have hr39 : 0 ≤ m39 a ∧ m39 a < 549755813888 := by unfold m39; omega
    have M := zn3 hTo hne a l w1.1 hm 2 rt 0 (by omega) har hrl (by omega) (by rw [hz]; decide) (by rw [show m39 0 = 0 from rfl]; exact hr39.1) (by rw [hz, show m39 0 = 0 from rfl]; omega) (fun _ i hi q1 q2 => by
      rw [hat rt i hi] at q1 q2
      by_cases c : rt = rt ∧ i = 511
      · rw [if_pos c] at q1; cases q1
      · rw [if_neg c] at q1 q2
        exact c ⟨rfl, (hT.e.s rt i hi q1 q2).1⟩)
    rw [hown, M, hsame]
    show (atM k.sz k.m (zat k.sz k.m a l 2 rt).1 (idx a (zat k.sz k.m a l 2 rt).2)).v = true ↔ _
    rw [i1]
    show (atM k.sz k.m t' (idx a (l' : Int))).v = true ↔ (atM k.sz (zbq k.m (rt * 512 + 511) 0) t' (idx a (l' : Int))).v = true
    rw [hat t' _ (idx_bd a _), if_neg]
    rintro ⟨e, c⟩
    rw [e, hrl] at i5
    rw [← i5] at c
    exact e5 c
end Go.Proofs.YtomeaibdedaldaaGreatDoor.LrB
namespace Go.Proofs.YtomeaibdedaldaaGreatDoor.LrC
open Go.RowKit Bv VaSpec Base MemL RegR Ax MemC PutC MemC3 TzC OkS SpA SpB SpC SpD SpE SpF SpG SpH SpI SpJ SpN SpO RfP RfQ RfA RfE RfG RfJ RfK LaA LaB LaC LaD LaE LaF LaG LaH LiA LiB LiC LiD LiE LiF LrA LrB
open BitsC PteSpec
set_option maxRecDepth 10000
set_option maxHeartbeats 1000000
section
variable {cd cp sz sh : Int}
end
theorem zza (k : Kr) (top at' a l : Int) : (lk3 k top at' a l = 0 ∧ (atM k.sz k.m (za6 k.sz k.m a l at' top).1 (idx a (za6 k.sz k.m a l at' top).2)).v = false) ∨ lk3 k top at' a l = 6 := by
  unfold lk3
  cases (atM k.sz k.m (za6 k.sz k.m a l at' top).1 (idx a (za6 k.sz k.m a l at' top).2)).v <;> simp
def ends (a s : Int) : Int := IntKind.u64.wrap (IntKind.u64.wrap (a + s) - 1)
theorem z4b {a l : Int} (hU : U a) (h : 0 ≤ l ∧ l ≤ 2) (hf : zhw a l = true) : a = ofv (num a) := by
  have hm := zg5 h hf
  have hm2 := zg4 h hm
  unfold zhw at hf
  simp only [Bool.and_eq_true] at hf
  have hv := hf.1
  obtain ⟨u0, u1⟩ := hU
  rw [← zo0 a u0 u1] at hv
  rw [beq_iff_eq] at hv
  unfold m39 at hm2
  rw [← hv]
  unfold ofv num
  have : zh3 (a % 549755813888) / 4096 % 134217728 % 134217728 * 4096 = a % 549755813888 := by
    unfold zh3
    split <;> omega
  rw [this]
end Go.Proofs.YtomeaibdedaldaaGreatDoor.LrC
namespace Go.Proofs.YtomeaibdedaldaaGreatDoor.LmA
open Go.RowKit Bv VaSpec Base MemL RegR Ax MemC PutC MemC3 TzC OkS SpA SpB SpC SpF SpH SpI SpJ LaA LaB LaC LaD LaE LaF LaG LiA LiB LiC LiD LiE LiF LrA LrB LrC LjA LjF LkE
open BitsC PteSpec
set_option maxRecDepth 10000
set_option maxHeartbeats 1000000
def zdz (q : Pte) (p : Pm) : Pte := { q with r := p.r, w := p.w, x := p.x, u := p.u }
def z4c (sz : Int) (xs : List (Int × Int)) (t i : Int) (p : Pm) : List (Int × Int) := za7 sz xs t i (zdz (atM sz xs t i) p)
theorem zjo {q : Pte} {p : Pm} {l : Int} (hU : q.U) (hm : zh4 q = true) (hp : zhk p = true) (h1 : zaz q = true) (h2 : zc3 q l = false) :
    (zdz q p).U ∧ zh4 (zdz q p) = true ∧ zaz (zdz q p) = true ∧ zc3 (zdz q p) l = false := by
  obtain ⟨v, r, w, x, u, g, a, d, rsw, ppn, high⟩ := q
  obtain ⟨pr, pw, px, pu⟩ := p
  refine ⟨hU, hm, ?_, ?_⟩
  · revert hp h1
    unfold zaz zdz zhk
    cases v <;> cases pr <;> cases pw <;> cases px <;> simp
  · revert hp h1 h2
    unfold zaz zhk zc3 zbk zdz
    simp only
    generalize (high != 0) = e1
    generalize (ppn % (VaSpec.sz l / 4096) == 0) = e2
    generalize (l == 0 || a || d || u) = e3
    generalize (l == 0 || a || d || pu) = e4
    cases v <;> cases r <;> cases w <;> cases x <;> cases pr <;> cases pw <;> cases px <;> cases e1 <;> cases e2 <;> simp
theorem zq8 : ∀ (xs : List (Int × Int)) (a v : Int), MemC.look xs a ≠ 0 → (zbq xs a v).length ≤ xs.length
  | [], a, v, h => absurd (zlv a) h
  | c :: cs, a, v, h => by
    rw [zc0] at h
    unfold zbq
    by_cases c1 : c.1 < a
    · rw [if_pos c1] at h ⊢
      have := zq8 cs a v h
      show (zbq cs a v).length + 1 ≤ cs.length + 1
      omega
    · rw [if_neg c1] at h ⊢
      by_cases c2 : c.1 = a
      · rw [if_pos c2]
        split
        · show cs.length ≤ cs.length + 1; omega
        · exact Nat.le_refl _
      · rw [if_neg c2] at h; exact absurd rfl h
section
variable {cd cp sz f sh : Int} {xs : List (Int × Int)} {lv : Int → Int}
theorem zl8 (h : TI cd cp sz xs f sh lv) {t i : Int} (hi : 0 ≤ i ∧ i < 512) (h1 : zaz (atM sz xs t i) = true) : Al cd cp f t ∧ (0 ≤ lv t ∧ lv t ≤ 2) ∧ zc3 (atM sz xs t i) (lv t) = false := by
  rcases h.e.k t i hi with e | ⟨a, b, ⟨_, e⟩ | ⟨e, _⟩⟩
  · rw [e] at h1; cases h1
  · exact ⟨a, b, e⟩
  · have := (zbs e).2.2; rw [h1] at this; cases this
theorem z1x (h : TI cd cp sz xs f sh lv) {t i : Int} {p : Pm} (hi : 0 ≤ i ∧ i < 512) (h1 : zaz (atM sz xs t i) = true) (hp : zhk p = true) :
    TI cd cp sz (z4c sz xs t i p) f sh lv ∧ (∀ s j, (0 ≤ j ∧ j < 512) → atM sz (z4c sz xs t i p) s j = if s = t ∧ j = i then zdz (atM sz xs t i) p else atM sz xs s j) ∧ (z4c sz xs t i p).length ≤ xs.length := by
  obtain ⟨ht, hl, h2⟩ := zl8 h hi h1
  have b1 := h.bd
  have bz := h.bz
  have bt := ht.1
  obtain ⟨p1, p2, p3, p4⟩ := zjo (p := p) (znj h.u sz t i) (zq5 h.u) hp h1 h2
  have e : z4c sz xs t i p = zbq xs (t * 512 + i) (PteC.ze7 (zdz (atM sz xs t i) p)) := zep p1 (by omega) hi (by rw [bz]; omega)
  rw [e]
  have hb := zq4 p1 p2
  have hE : ∀ s j, (0 ≤ j ∧ j < 512) → atM sz (zbq xs (t * 512 + i) (PteC.ze7 (zdz (atM sz xs t i) p))) s j = if s = t ∧ j = i then zdz (atM sz xs t i) p else atM sz xs s j := fun s j hj => by
    by_cases hd : s * 4096 + j * 8 < sz
    · rw [zgx h.s hi hj hd, hb]
    · rw [if_neg (by rintro ⟨rfl, rfl⟩; omega)]
      unfold atM zbj
      rw [if_neg hd, if_neg hd]
  refine ⟨h.put bt hi (zf4 _ p1) h.bf fun E' hE' => ?_, hE, zq8 _ _ _ fun e0 => ?_⟩
  · rw [hb] at hE'
    exact h.e.leaf ht hl p3 p4 hE'
  · have : atM sz xs t i = zP := by
      unfold atM zbj
      rw [if_pos (by rw [bz]; omega), show (t * 4096 + i * 8) / 8 = t * 512 + i by omega, e0, zly]
    rw [this] at h1; cases h1
def Shp (sz : Int) (p : Pm) (xs xs' : List (Int × Int)) : Prop := ∀ s j, (0 ≤ j ∧ j < 512) → atM sz xs' s j = atM sz xs s j ∨ (zaz (atM sz xs s j) = true ∧ zaz (atM sz xs' s j) = true ∧ atM sz xs' s j = zdz (atM sz xs s j) p)
theorem Shp.refl (sz : Int) (p : Pm) (xs : List (Int × Int)) : Shp sz p xs xs := fun _ _ _ => .inl rfl
theorem zp0 (q : Pte) (p : Pm) : zdz (zdz q p) p = zdz q p := rfl
theorem Shp.trans {sz : Int} {p : Pm} {a b c : List (Int × Int)} (h : Shp sz p a b) (g : Shp sz p b c) : Shp sz p a c := fun s j hj => by
  rcases h s j hj with e | ⟨e1, e2, e3⟩ <;> rcases g s j hj with e' | ⟨e1', e2', e3'⟩
  · exact .inl (e'.trans e)
  · rw [e] at e1' e3'; exact .inr ⟨e1', e2', e3'⟩
  · rw [e'] ; exact .inr ⟨e1, e2, e3⟩
  · exact .inr ⟨e1, e2', by rw [e3', e3, zp0]⟩
theorem Shp.leaf {sz : Int} {p : Pm} {a b : List (Int × Int)} (h : Shp sz p a b) {s j : Int} (hj : 0 ≤ j ∧ j < 512) (hl : zaz (atM sz a s j) = true) : zaz (atM sz b s j) = true := by
  rcases h s j hj with e | ⟨_, e, _⟩
  · rw [e]; exact hl
  · exact e
theorem zjp {v b i l : Int} (h0 : 0 ≤ l ∧ l ≤ 2) (hi : 0 ≤ i ∧ i < 512) (hb : m39 b % (512 * VaSpec.sz l) = 0) (h1 : m39 b + i * VaSpec.sz l ≤ m39 v) (h2 : m39 v < m39 b + i * VaSpec.sz l + VaSpec.sz l) : idx v l = i := by
  rw [← zgh v l h0]
  unfold idx
  rcases (by omega : l = 0 ∨ l = 1 ∨ l = 2) with rfl | rfl | rfl
  · simp only [show VaSpec.sz 0 = 4096 from rfl] at *; omega
  · simp only [show VaSpec.sz 1 = 2097152 from rfl] at *; omega
  · simp only [show VaSpec.sz 2 = 1073741824 from rfl] at *; omega
theorem zvw (h : TI cd cp sz xs f sh lv) : ∀ (l : Nat) (t b : Int) (y : Pg), l ≤ 2 → Al cd cp f t → lv t = l → m39 b % (512 * VaSpec.sz l) = 0 → y ∈ zbf sz xs l t b →
    ∃ t', zat sz xs y.va y.lev l t = (t', y.lev) ∧ (0 ≤ y.lev ∧ y.lev ≤ l) ∧ zaz (atM sz xs t' (idx y.va y.lev)) = true := by
  intro l
  induction l with
  | zero =>
    intro t b y h2 ht hl hb hy
    obtain ⟨i, hi, c0, ⟨c1, rfl⟩ | ⟨_, m, e, _⟩⟩ := (zbi _ _ _ _ _ _).1 hy
    · obtain ⟨e1, e2⟩ := zb4 (b := b) (i := (i : Int)) (l := ((0 : Nat) : Int)) (by omega) (by omega) hb
      have hz : VaSpec.sz ((0 : Nat) : Int) = 4096 := rfl
      have e3 := zf8 (a := adr b i ((0 : Nat) : Int)) (by rw [e1, hz]; rw [hz] at hb; omega)
      have hix : idx (ofv (num (adr b i ((0 : Nat) : Int)))) ((0 : Nat) : Int) = (i : Int) := zjp (by omega) (by omega) hb (by rw [e3, e1]; omega) (by rw [e3, e1, hz]; omega)
      refine ⟨t, rfl, ⟨Int.le_refl 0, Int.le_refl 0⟩, ?_⟩
      show zaz (atM sz xs t (idx (ofv (num (adr b i ((0 : Nat) : Int)))) ((0 : Nat) : Int))) = true
      rw [hix]; exact c1
    · omega
  | succ m ih =>
    intro t b y h2 ht hl hb hy
    obtain ⟨i, hi, c0, ⟨c1, rfl⟩ | ⟨c1, m', e, hy'⟩⟩ := (zbi _ _ _ _ _ _).1 hy
    · obtain ⟨e1, e2⟩ := zb4 (b := b) (i := (i : Int)) (l := ((m + 1 : Nat) : Int)) (by omega) (by omega) hb
      have hsp := sz_pos (l := ((m + 1 : Nat) : Int)) (by omega)
      have hdv : m39 (adr b i ((m + 1 : Nat) : Int)) % VaSpec.sz ((m + 1 : Nat) : Int) = 0 := by
        rw [e1]
        rcases (by omega : m = 0 ∨ m = 1) with rfl | rfl
        · have hz : VaSpec.sz ((0 + 1 : Nat) : Int) = 2097152 := rfl
          rw [hz] at hb ⊢; omega
        · have hz : VaSpec.sz ((1 + 1 : Nat) : Int) = 1073741824 := rfl
          rw [hz] at hb ⊢; omega
      have e3 := zf8 (a := adr b i ((m + 1 : Nat) : Int)) (zg4 (l := ((m + 1 : Nat) : Int)) (by omega) hdv)
      have hix : idx (ofv (num (adr b i ((m + 1 : Nat) : Int)))) ((m + 1 : Nat) : Int) = (i : Int) := zjp (by omega) (by omega) hb (by rw [e3, e1]; omega) (by rw [e3, e1]; omega)
      refine ⟨t, ?_, ⟨by show (0 : Int) ≤ ((m + 1 : Nat) : Int); omega, by show ((m + 1 : Nat) : Int) ≤ ((m + 1 : Nat) : Int); omega⟩, ?_⟩
      · exact za1 (fun hh => absurd hh (by show ¬ ((m + 1 : Nat) : Int) < ((m + 1 : Nat) : Int); omega)) (by show (0 : Int) ≤ ((m + 1 : Nat) : Int); omega)
      · show zaz (atM sz xs t (idx (ofv (num (adr b i ((m + 1 : Nat) : Int)))) ((m + 1 : Nat) : Int))) = true
        rw [hix]; exact c1
    · obtain rfl : m' = m := by omega
      have hi' : (0 : Int) ≤ (i : Int) ∧ (i : Int) < 512 := by omega
      have hlk : lkP (atM sz xs t i) = true := by
        rcases h.e.k t i hi' with e | ⟨_, _, ⟨e, _⟩ | ⟨e, _⟩⟩
        · rw [e] at c0; cases c0
        · rw [e] at c1; cases c1
        · exact e
      obtain ⟨k1, k2, k3, k4⟩ := zbz h hi' hlk
      obtain ⟨e1, e2⟩ := zb4 (b := b) (i := (i : Int)) (l := ((m' + 1 : Nat) : Int)) (by omega) (by omega) hb
      have hss := zet (l := ((m' + 1 : Nat) : Int)) (by omega)
      have hsm : VaSpec.sz (((m' + 1 : Nat) : Int) - 1) = VaSpec.sz (m' : Int) := by rw [show ((m' + 1 : Nat) : Int) - 1 = (m' : Int) by omega]
      rw [hsm] at hss
      have hdv : m39 (adr b i ((m' + 1 : Nat) : Int)) % (512 * VaSpec.sz (m' : Int)) = 0 := by
        rw [e1, ← hss]
        rcases (by omega : m' = 0 ∨ m' = 1) with rfl | rfl
        · have hz : VaSpec.sz ((0 + 1 : Nat) : Int) = 2097152 := rfl
          rw [hz] at hb ⊢; omega
        · have hz : VaSpec.sz ((1 + 1 : Nat) : Int) = 1073741824 := rfl
          rw [hz] at hb ⊢; omega
      obtain ⟨q1, q2, q3, q4, q5⟩ := zeu sz xs m' (atM sz xs t i).ppn (adr b i ((m' + 1 : Nat) : Int)) y (by omega) hdv hy'
      have hsp := sz_pos (l := y.lev) (by omega)
      have hix : idx y.va ((m' + 1 : Nat) : Int) = (i : Int) := zjp (by omega) hi' hb (by rw [← e1]; exact q2) (by rw [hss] at e1 ⊢; omega)
      obtain ⟨t', r1, r2, r3⟩ := ih (atM sz xs t i).ppn (adr b i ((m' + 1 : Nat) : Int)) y (by omega) k4 (by rw [k3, hl]; omega) hdv hy'
      refine ⟨t', ?_, ⟨r2.1, by omega⟩, r3⟩
      rw [zba (by omega) (by rw [hix]; exact zbo hlk (by omega)), hix]
      exact r1
structure Pnt (cd cp sz f sh : Int) (lv : Int → Int) (p : Pm) (xs xs' : List (Int × Int)) : Prop where
  t : TI cd cp sz xs' f sh lv
  s : Shp sz p xs xs'
  n : xs'.length ≤ xs.length
theorem Pnt.go {xs' : List (Int × Int)} {p : Pm} (h : TI cd cp sz xs f sh lv) (hp : zhk p = true) (g : Pnt cd cp sz f sh lv p xs xs') {t i : Int} (hi : 0 ≤ i ∧ i < 512) (h1 : zaz (atM sz xs t i) = true) : Pnt cd cp sz f sh lv p xs (z4c sz xs' t i p) := by
  have h2 := g.s.leaf hi h1
  obtain ⟨r1, r2, r3⟩ := z1x g.t hi h2 hp
  obtain ⟨_, _, hbad⟩ := zl8 g.t hi h2
  refine ⟨r1, g.s.trans fun s j hj => ?_, Nat.le_trans r3 g.n⟩
  rw [r2 s j hj]
  split
  · rename_i c
    obtain ⟨rfl, rfl⟩ := c
    exact .inr ⟨h2, (zjo (p := p) (znj g.t.u sz _ _) (zq5 g.t.u) hp h2 hbad).2.2.1, rfl⟩
  · exact .inl rfl
end
end Go.Proofs.YtomeaibdedaldaaGreatDoor.LmA
namespace Go.Proofs.YtomeaibdedaldaaGreatDoor.LmB
open Go.RowKit Bv VaSpec Base MemL RegR Ax MemC PutC MemC3 TzC OkS SpA SpB SpC SpF SpH SpI SpJ LaA LaB LaC LaD LaE LaF LaG LiA LiB LiC LiD LiE LiF LjA RlA RlB
open BitsC PteSpec
set_option maxRecDepth 10000
set_option maxHeartbeats 1000000
theorem b3 (a b : Bool) : a = false ∨ (a = true ∧ b = true) ∨ (a = true ∧ b = false) := by cases a <;> cases b <;> simp
end Go.Proofs.YtomeaibdedaldaaGreatDoor.LmB
namespace Go.Proofs.YtomeaibdedaldaaGreatDoor.LmE
open Go.RowKit Bv VaSpec Base MemL RegR Ax MemC PutC MemC3 TzC OkS SpA SpB SpC SpD SpE SpF SpN SpO SpG SpH SpI SpJ LaA LaB LaC LaD LaE LaF LaG LiA LiB LiC LiD LiE LiF LrA LrB LrC LjA LjF LkE LmA LmB
open BitsC PteSpec
set_option maxRecDepth 10000
set_option maxHeartbeats 1000000
section
variable {cd cp sz sh : Int}
end
theorem z5t {n : Nat} {k : Kr} {id a l : Int} (h : InvT n k) (c0 : (zao k id a l).2.2 = 0) (c1 : (inR k id a l).length ≠ 0) :
    zaz (atM k.sz k.m (za6 k.sz k.m a l (zao k id a l).2.1 (zao k id a l).1).1 (idx a (za6 k.sz k.m a l (zao k id a l).2.1 (zao k id a l).1).2)) = true ∨ lkP (atM k.sz k.m (za6 k.sz k.m a l (zao k id a l).2.1 (zao k id a l).1).1 (idx a (za6 k.sz k.m a l (zao k id a l).2.1 (zao k id a l).1).2)) = true := by
  obtain ⟨lv, hT, _, _⟩ := h.t
  unfold inR at c1
  rw [if_neg (by omega)] at c1
  unfold zfh at c1
  generalize za6 k.sz k.m a l (zao k id a l).2.1 (zao k id a l).1 = r at *
  cases e1 : zaz (atM k.sz k.m r.1 (idx a r.2)) with
  | true => exact .inl rfl
  | false =>
    rw [e1, if_neg (by simp)] at c1
    cases e2 : zbk (atM k.sz k.m r.1 (idx a r.2)) with
    | false => rw [e2, if_neg (by simp)] at c1; exact absurd rfl c1
    | true =>
      rcases hT.e.k r.1 _ (idx_bd a r.2) with e | ⟨_, _, ⟨e, _⟩ | ⟨e, _⟩⟩
      · rw [e] at e2; cases e2
      · rw [e1] at e; cases e
      · exact .inr e
theorem z4d {a : Int} {m : Nat} (h2 : m ≤ 1) (h : m39 a % VaSpec.sz ((m + 1 : Nat) : Int) = 0) : m39 a % (512 * VaSpec.sz (m : Int)) = 0 := by
  have := zet (l := ((m + 1 : Nat) : Int)) (by omega)
  rw [show ((m + 1 : Nat) : Int) - 1 = (m : Int) by omega] at this
  rw [← this]; exact h
end Go.Proofs.YtomeaibdedaldaaGreatDoor.LmE
namespace Go.Proofs.YtomeaibdedaldaaGreatDoor.LnA
open Go.RowKit Bv VaSpec Base MemL RegR Ax MemC PutC MemC3 TzC OkS SpA SpB SpC SpD SpE SpF SpN SpO SpG SpH SpI SpJ LaA LaB LaC LaD LaE LaF LaG LiA LiB LiC LiD LiE LiF LrA LrB LrC LjA LjF LkE LmA LmB LmE
open BitsC PteSpec
set_option maxRecDepth 10000
set_option maxHeartbeats 1000000
theorem zq9 : ∀ (xs ys : List (Int × Int)), Srt xs → Srt ys → (∀ c ∈ xs, c.2 ≠ 0) → (∀ c ∈ ys, c.2 ≠ 0) → (∀ a, MemC.look xs a = MemC.look ys a) → xs = ys
  | [], [], _, _, _, _, _ => rfl
  | [], d :: ys, _, hs, _, h0, he => absurd ((look_mem hs (List.mem_cons_self ..)).symm.trans (he d.1).symm) (h0 d (List.mem_cons_self ..))
  | c :: xs, [], hs, _, h0, _, he => absurd ((look_mem hs (List.mem_cons_self ..)).symm.trans (he c.1)) (h0 c (List.mem_cons_self ..))
  | c :: xs, d :: ys, hs, gs, h0, g0, he => by
    have hs' := List.pairwise_cons.1 hs
    have gs' := List.pairwise_cons.1 gs
    have e1 := he c.1
    have e2 := he d.1
    rw [look_mem hs (List.mem_cons_self ..)] at e1
    rw [look_mem gs (List.mem_cons_self ..)] at e2
    have n1 := h0 c (List.mem_cons_self ..)
    have n2 := g0 d (List.mem_cons_self ..)
    by_cases h1 : c.1 < d.1
    · rw [zcy fun z hz => by
        rcases List.mem_cons.1 hz with rfl | hz
        · omega
        · have := gs'.1 z hz; omega] at e1
      exact absurd e1 n1
    by_cases h2 : d.1 < c.1
    · rw [zcy fun z hz => by
        rcases List.mem_cons.1 hz with rfl | hz
        · omega
        · have := hs'.1 z hz; omega] at e2
      exact absurd e2.symm n2
    have h3 : c.1 = d.1 := by omega
    rw [← h3, look_mem hs (List.mem_cons_self ..)] at e2
    have hcd : c = d := Prod.ext h3 e2
    subst hcd
    congr 1
    refine zq9 xs ys hs'.2 gs'.2 (fun z hz => h0 z (List.mem_cons_of_mem _ hz)) (fun z hz => g0 z (List.mem_cons_of_mem _ hz)) fun a => ?_
    by_cases h4 : c.1 < a
    · have := he a
      rw [zc0, zc0, if_pos h4, if_pos h4] at this
      exact this
    · rw [zcy fun z hz => by have := hs'.1 z hz; omega, zcy fun z hz => by have := gs'.1 z hz; omega]
theorem z1y {u v : Int} (hu : U u) (hv : U v) (h : zay u = zay v) : u = v := by
  rw [← zhg u hu.1 hu.2, h, zhg v hv.1 hv.2]
theorem z4e {cd cp sz f sh f' sh' : Int} {xs ys : List (Int × Int)} {lv lv' : Int → Int} (h : TI cd cp sz xs f sh lv) (g : TI cd cp sz ys f' sh' lv') (he : ∀ s j, (0 ≤ j ∧ j < 512) → atM sz xs s j = atM sz ys s j) : xs = ys := by
  refine zq9 _ _ h.s g.s (fun c hc => (h.r c hc).2.2) (fun c hc => (g.r c hc).2.2) fun a => ?_
  by_cases ha : cd * 512 ≤ a ∧ a < (cd + cp) * 512
  · have e := he (a / 512) (a % 512) (by omega)
    have bz := h.bz
    unfold atM zbj at e
    rw [if_pos (by omega), if_pos (by omega), show (a / 512 * 4096 + a % 512 * 8) / 8 = a by omega] at e
    exact z1y (zuq h.u a) (zuq g.u a) e
  · rw [zcy fun c hc e => ha (by rw [← e]; exact (h.r c hc).1), zcy fun c hc e => ha (by rw [← e]; exact (g.r c hc).1)]
theorem zb0 (sz : Int) (xs : List (Int × Int)) (l : Nat) (t : Int) : t ∈ frN sz xs l t := by
  cases l <;> simp [frN]
theorem zl9 (sz : Int) (xs : List (Int × Int)) (addr zam : Int) (hw : 0 ≤ zam) : ∀ (l : Nat) (t : Int), (zat sz xs addr zam l t).1 ∈ frN sz xs l t
  | 0, t => zb0 _ _ _ _
  | l + 1, t => by
    have hi := idx_bd addr ((l + 1 : Nat) : Int)
    by_cases c1 : zam < ((l + 1 : Nat) : Int)
    · cases c : za0 (atM sz xs t (idx addr ((l + 1 : Nat) : Int))) ((l + 1 : Nat) : Int) with
      | true =>
        rw [zba c1 c]
        have IH := zl9 sz xs addr zam hw l (atM sz xs t (idx addr ((l + 1 : Nat) : Int))).ppn
        simp only [frN, List.mem_cons]
        refine .inr (List.mem_flatMap.2 ⟨(idx addr ((l + 1 : Nat) : Int)).toNat, List.mem_range.2 (by omega), ?_⟩)
        rw [show (((idx addr ((l + 1 : Nat) : Int)).toNat : Nat) : Int) = idx addr ((l + 1 : Nat) : Int) by omega, if_pos c]
        exact IH
      | false =>
        rw [za1 (fun _ => c) hw]; exact zb0 _ _ _ _
    · rw [za1 (fun hh => absurd hh c1) hw]; exact zb0 _ _ _ _
section
variable {cd cp sz f sh : Int} {xs : List (Int × Int)} {lv : Int → Int}
theorem zzb (h : TI cd cp sz xs f sh lv) {t a e : Int} {l' : Nat} (ht : Al cd cp f t) (s j : Int) (hj : 0 ≤ j ∧ j < 512) :
    atM sz (za7 sz (zeh sz cd cp (xs, f, (t, (l' : Int)), e) a).1 t (idx a (l' : Int)) zP) s j = if s = t ∧ j = idx a (l' : Int) then zP else if zbk (atM sz xs t (idx a (l' : Int))) = true ∧ s ∈ frN sz xs ((l' : Int) - 1).toNat (atM sz xs t (idx a (l' : Int))).ppn then zP else atM sz xs s j := by
  have hi := idx_bd a (l' : Int)
  have b1 := h.bd
  have bt := ht.1
  have hz : ∀ ys : List (Int × Int), za7 sz ys t (idx a (l' : Int)) zP = zbq ys (t * 512 + idx a (l' : Int)) 0 := fun ys => by
    rw [zep z2o (by omega) hi (by rw [h.bz]; omega), znt]
  rw [hz]
  by_cases c : zbk (atM sz xs t (idx a (l' : Int))) = true
  · have e1 : zeh sz cd cp (xs, f, (t, (l' : Int)), e) a = bkN cd cp (frN sz xs ((l' : Int) - 1).toNat (atM sz xs t (idx a (l' : Int))).ppn) (xs, f) := if_pos c
    rw [e1]
    have hb := zg1 cd cp sz h.bp (frN sz xs ((l' : Int) - 1).toNat (atM sz xs t (idx a (l' : Int))).ppn) (xs, f) h.s h.bf
    rw [zfg (cd := cd) (cp := cp) hb.s h.bz (by omega) hi s j hj, hb.e s j hj]
    split
    · rfl
    · by_cases d : s ∈ frN sz xs ((l' : Int) - 1).toNat (atM sz xs t (idx a (l' : Int))).ppn
      · rw [if_pos d, if_pos ⟨c, d⟩]
      · rw [if_neg d, if_neg fun hh => d hh.2]
  · have e1 : zeh sz cd cp (xs, f, (t, (l' : Int)), e) a = (xs, f) := if_neg c
    rw [e1, zfg (cd := cd) (cp := cp) h.s h.bz (by omega) hi s j hj, if_neg (fun hh : _ ∧ _ => c hh.1)]
end
theorem zvx {sz cd addr zam top f : Int} {xs : List (Int × Int)} {l : Nat} (h : (zat sz xs addr zam l top).2 = zam ∨ zaz (atM sz xs (zat sz xs addr zam l top).1 (idx addr (zat sz xs addr zam l top).2)) = false) : ∀ n : Nat, toN sz cd addr zam top l n xs f = (xs, f, zat sz xs addr zam l top, 0)
  | 0 => rfl
  | n + 1 => by unfold toN; rw [if_pos h]
section
variable {cd cp sz sh : Int}
end
section
variable {cd cp sz f sh : Int} {xs xs' : List (Int × Int)} {lv : Int → Int}
end
end Go.Proofs.YtomeaibdedaldaaGreatDoor.LnA
namespace Go.Proofs.YtomeaibdedaldaaGreatDoor.LnB
open Go.RowKit Bv VaSpec Base MemL RegR Ax MemC PutC MemC3 TzC OkS SpA SpB SpC SpD SpE SpF SpN SpO SpG SpH SpI SpJ LaA LaB LaC LaD LaE LaF LaG LiA LiB LiC LiD LiE LiF LrA LrB LrC LjA LjF LkE LmA LmB LmE LnA
open BitsC PteSpec RfE RfG RfJ RfK LaH RfA RfP RfQ
set_option maxRecDepth 10000
set_option maxHeartbeats 1000000
inductive Tr where
  | no
  | lf (p : Pte)
  | tb (f : Int → Tr)
def upd (f : Int → Tr) (i : Int) (r : Tr) : Int → Tr := fun j => if j = i then r else f j
theorem zd4 (f : Int → Tr) (i : Int) (r : Tr) : upd f i r i = r := if_pos rfl
theorem zd5 (f : Int → Tr) {i j : Int} (r : Tr) (h : j ≠ i) : upd f i r j = f j := if_neg h
theorem zma (f : Int → Tr) (i : Int) (r s : Tr) : upd (upd f i r) i s = upd f i s := by
  funext j; unfold upd; split <;> rfl
theorem upd_comm (f : Int → Tr) {i j : Int} (r s : Tr) (h : i ≠ j) : upd (upd f i r) j s = upd (upd f j s) i r := by
  funext x; unfold upd
  by_cases h1 : x = i
  · rw [if_neg (by omega), if_pos h1, if_pos h1]
  · rw [if_neg h1]
    split <;> rfl
def zih : Tr → Int → Tr
  | .tb f => f
  | _ => fun _ => .no
def zx6 : Tr → Bool
  | .no => true
  | _ => false
def zzc : Tr → Bool
  | .lf _ => true
  | _ => false
def zgj (a zam : Int) (q : Pte) : Nat → Tr → Option Tr
  | 0, tr => if zx6 tr then some (.lf q) else none
  | l + 1, tr => if zam = ((l + 1 : Nat) : Int) then (if zx6 tr then some (.lf q) else none)
    else if zzc tr then none
    else (zgj a zam q l (zih tr (idx a (l : Int)))).map fun r => .tb (upd (zih tr) (idx a (l : Int)) r)
def zdi (a zam : Int) (q : Pte) (l : Nat) (f : Int → Tr) : Option (Int → Tr) := (zgj a zam q l (f (idx a (l : Int)))).map fun r => upd f (idx a (l : Int)) r
theorem zd6 {a zam : Int} {q : Pte} {l : Nat} {tr : Tr} (h : zam ≠ ((l + 1 : Nat) : Int)) (hl : zzc tr = false) : zgj a zam q (l + 1) tr = (zdi a zam q l (zih tr)).map .tb := by
  unfold zdi
  show (if zam = ((l + 1 : Nat) : Int) then _ else if zzc tr = true then none else _) = _
  rw [if_neg h, hl, if_neg (by simp)]
  cases zgj a zam q l (zih tr (idx a (l : Int))) <;> rfl
theorem zfi {a zam : Int} {q : Pte} {l : Nat} {tr : Tr} (h : zam = (l : Int)) : zgj a zam q l tr = if zx6 tr then some (.lf q) else none := by
  cases l with
  | zero => rfl
  | succ l => exact if_pos h
theorem zh0 {a zam : Int} {q p : Pte} {l : Nat} : zgj a zam q l (.lf p) = none := by
  cases l with
  | zero => rfl
  | succ l =>
    show (if zam = ((l + 1 : Nat) : Int) then _ else _) = _
    split <;> rfl
theorem zra {a zam : Int} {q : Pte} {l : Nat} {tr r : Tr} (h : zgj a zam q l tr = some r) : zx6 r = false := by
  cases l with
  | zero =>
    unfold zgj at h
    split at h
    · simp only [Option.some.injEq] at h; subst h; rfl
    · cases h
  | succ l =>
    unfold zgj at h
    split at h
    · split at h
      · simp only [Option.some.injEq] at h; subst h; rfl
      · cases h
    · split at h
      · cases h
      · obtain ⟨x, _, rfl⟩ := Option.map_eq_some_iff.1 h; rfl
theorem zx7 (a w : Int) (q : Pte) (a' w' : Int) (q' : Pte) : ∀ (l : Nat) (tr A B : Tr), zgj a w q l tr = some A → zgj a' w' q' l A = some B → ∃ C, zgj a' w' q' l tr = some C ∧ zgj a w q l C = some B := by
  intro l
  induction l with
  | zero =>
    intro tr A B h1 h2
    have hA := zra h1
    unfold zgj at h2
    rw [hA, if_neg (by simp)] at h2
    cases h2
  | succ l ih =>
    intro tr A B h1 h2
    have hA := zra h1
    by_cases w1 : w = ((l + 1 : Nat) : Int)
    · rw [zfi w1] at h1
      split at h1
      · simp only [Option.some.injEq] at h1; subst h1
        rw [zh0] at h2; cases h2
      · cases h1
    by_cases w2 : w' = ((l + 1 : Nat) : Int)
    · rw [zfi w2, hA, if_neg (by simp)] at h2; cases h2
    have l1 : zzc tr = false := by
      cases tr with
      | lf p => rw [zh0] at h1; cases h1
      | no => rfl
      | tb f => rfl
    rw [zd6 w1 l1] at h1
    obtain ⟨F, hF, rfl⟩ := Option.map_eq_some_iff.1 h1
    rw [zd6 w2 rfl] at h2
    obtain ⟨G, hG, rfl⟩ := Option.map_eq_some_iff.1 h2
    have hG : zdi a' w' q' l F = some G := hG
    rw [zd6 w2 l1]
    unfold zdi at hF hG
    obtain ⟨r, hr, rfl⟩ := Option.map_eq_some_iff.1 hF
    obtain ⟨s, hs, rfl⟩ := Option.map_eq_some_iff.1 hG
    by_cases e : idx a' (l : Int) = idx a (l : Int)
    · rw [e, zd4] at hs
      obtain ⟨c, hc, hb⟩ := ih _ _ _ hr hs
      refine ⟨.tb (upd (zih tr) (idx a (l : Int)) c), ?_, ?_⟩
      · unfold zdi; rw [e, hc]; rfl
      · rw [zd6 w1 rfl]
        unfold zdi
        show ((zgj a w q l (upd (zih tr) (idx a (l : Int)) c (idx a (l : Int)))).map _).map _ = _
        rw [zd4, hb]
        show some (Tr.tb (upd (upd (zih tr) (idx a (l : Int)) c) (idx a (l : Int)) s)) = some (Tr.tb (upd (upd (zih tr) (idx a (l : Int)) r) (idx a' (l : Int)) s))
        rw [e, zma, zma]
    · rw [zd5 _ _ e] at hs
      refine ⟨.tb (upd (zih tr) (idx a' (l : Int)) s), ?_, ?_⟩
      · unfold zdi; rw [hs]; rfl
      · rw [zd6 w1 rfl]
        unfold zdi
        show ((zgj a w q l (upd (zih tr) (idx a' (l : Int)) s (idx a (l : Int)))).map _).map _ = _
        rw [zd5 _ _ (fun hh => e hh.symm), hr]
        show some (Tr.tb (upd (upd (zih tr) (idx a' (l : Int)) s) (idx a (l : Int)) r)) = some (Tr.tb (upd (upd (zih tr) (idx a (l : Int)) r) (idx a' (l : Int)) s))
        rw [upd_comm _ _ _ e]
theorem zvy {a w : Int} {q : Pte} {a' w' : Int} {q' : Pte} {l : Nat} {F A B : Int → Tr} (h1 : zdi a w q l F = some A) (h2 : zdi a' w' q' l A = some B) : ∃ C, zdi a' w' q' l F = some C ∧ zdi a w q l C = some B := by
  unfold zdi at *
  obtain ⟨r, hr, rfl⟩ := Option.map_eq_some_iff.1 h1
  obtain ⟨s, hs, rfl⟩ := Option.map_eq_some_iff.1 h2
  by_cases e : idx a' (l : Int) = idx a (l : Int)
  · rw [e, zd4] at hs
    obtain ⟨c, hc, hb⟩ := zx7 a w q a' w' q' l _ _ _ hr hs
    refine ⟨upd F (idx a (l : Int)) c, by rw [e, hc]; rfl, ?_⟩
    rw [zd4, hb]
    show some (upd (upd F (idx a (l : Int)) c) (idx a (l : Int)) s) = some (upd (upd F (idx a (l : Int)) r) (idx a' (l : Int)) s)
    rw [e, zma, zma]
  · rw [zd5 _ _ e] at hs
    refine ⟨upd F (idx a' (l : Int)) s, by rw [hs]; rfl, ?_⟩
    rw [zd5 _ _ (fun hh => e hh.symm), hr]
    show some (upd (upd F (idx a' (l : Int)) s) (idx a (l : Int)) r) = some (upd (upd F (idx a (l : Int)) r) (idx a' (l : Int)) s)
    rw [upd_comm _ _ _ e]
theorem zvz (a w : Int) (q q' : Pte) : ∀ (l : Nat) (tr A : Tr), zgj a w q l tr = some A → zgj a w q' l A = none := by
  intro l
  induction l with
  | zero =>
    intro tr A h1
    have hA := zra h1
    unfold zgj
    rw [hA, if_neg (by simp)]
  | succ l ih =>
    intro tr A h1
    have hA := zra h1
    by_cases w1 : w = ((l + 1 : Nat) : Int)
    · rw [zfi w1, hA, if_neg (by simp)]
    have l1 : zzc tr = false := by
      cases tr with
      | lf p => rw [zh0] at h1; cases h1
      | no => rfl
      | tb f => rfl
    rw [zd6 w1 l1] at h1
    obtain ⟨F, hF, rfl⟩ := Option.map_eq_some_iff.1 h1
    unfold zdi at hF
    obtain ⟨r, hr, rfl⟩ := Option.map_eq_some_iff.1 hF
    rw [zd6 w1 rfl]
    unfold zdi
    show ((zgj a w q' l (upd (zih tr) (idx a (l : Int)) r (idx a (l : Int)))).map _).map _ = _
    rw [zd4, ih _ _ hr]
    rfl
theorem zst {a w : Int} {q q' : Pte} {l : Nat} {F A : Int → Tr} (h1 : zdi a w q l F = some A) : zdi a w q' l A = none := by
  unfold zdi at *
  obtain ⟨r, hr, rfl⟩ := Option.map_eq_some_iff.1 h1
  rw [zd4, zvz a w q q' l _ _ hr]
  rfl
def zsz (f : Int → Nat) : Nat → Nat
  | 0 => 0
  | n + 1 => zsz f n + f (n : Int)
theorem zrb {f g : Int → Nat} : ∀ (n : Nat), (∀ i : Nat, i < n → f i = g i) → zsz f n = zsz g n
  | 0, _ => rfl
  | n + 1, h => by
    show zsz f n + f n = zsz g n + g n
    rw [zrb n fun i hi => h i (by omega), h n (by omega)]
theorem zrc {f g : Int → Nat} {i : Int} : ∀ (n : Nat), (0 ≤ i ∧ i < n) → (∀ j, j ≠ i → g j = f j) → zsz g n + f i = zsz f n + g i
  | 0, hi, _ => by omega
  | n + 1, hi, h => by
    show zsz g n + g n + f i = zsz f n + f n + g i
    by_cases e : i = (n : Int)
    · subst e
      rw [zrb n fun j hj => h j (by omega)]
      omega
    · have := zrc (f := f) (g := g) n (by omega) h
      have := h n (fun hh => e hh.symm)
      omega
theorem zn4 : ∀ (n : Nat), zsz (fun _ => 0) n = 0
  | 0 => rfl
  | n + 1 => zn4 n
def zmb : Tr → Nat
  | .tb f => 1 + zsz (fun i => zmb (f i)) 512
  | _ => 0
def zh1 (f : Int → Tr) : Nat := zsz (fun i => zmb (f i)) 512
theorem zev (f : Int → Tr) (i : Int) (r : Tr) (hi : 0 ≤ i ∧ i < 512) : zh1 (upd f i r) + zmb (f i) = zh1 f + zmb r := by
  unfold zh1
  have := zrc (f := fun j => zmb (f j)) (g := fun j => zmb (upd f i r j)) (i := i) 512 (by omega) (fun j hj => by show zmb (upd f i r j) = _; rw [zd5 _ _ hj])
  have e : zmb (upd f i r i) = zmb r := by rw [zd4]
  simp only [e] at this
  exact this
theorem z1z : zh1 (fun _ => Tr.no) = 0 := zn4 512
noncomputable def z10 (sz : Int) (xs : List (Int × Int)) : Nat → Pte → Tr
  | 0, p => if zaz p then .lf p else .no
  | l + 1, p => if zaz p then .lf p else if za0 p ((l + 1 : Nat) : Int) then .tb (fun j => if 0 ≤ j ∧ j < 512 then z10 sz xs l (atM sz xs p.ppn j) else .no) else .no
noncomputable def zc2 (sz : Int) (xs : List (Int × Int)) (l : Nat) (t : Int) : Int → Tr := fun j => if 0 ≤ j ∧ j < 512 then z10 sz xs l (atM sz xs t j) else .no
theorem zc9 {sz : Int} {xs : List (Int × Int)} {l : Nat} {t j : Int} (hj : 0 ≤ j ∧ j < 512) : zc2 sz xs l t j = z10 sz xs l (atM sz xs t j) := if_pos hj
theorem zda {sz : Int} {xs : List (Int × Int)} {l : Nat} {p : Pte} (h : zaz p = true) : z10 sz xs l p = .lf p := by
  cases l with
  | zero => exact if_pos h
  | succ l => exact if_pos h
theorem zdn {sz : Int} {xs : List (Int × Int)} {l : Nat} {p : Pte} (h : lkP p = true) : z10 sz xs (l + 1) p = .tb (zc2 sz xs l p.ppn) := by
  show (if zaz p = true then _ else if za0 p ((l + 1 : Nat) : Int) = true then _ else _) = _
  rw [(zbs h).2.2, if_neg (by simp), if_pos (zbo h (by omega))]
  rfl
theorem zef {sz : Int} {xs : List (Int × Int)} {l : Nat} : z10 sz xs l zP = .no := by
  cases l with
  | zero => rfl
  | succ l => rfl
theorem zii {sz : Int} {xs xs' : List (Int × Int)} : ∀ (l : Nat) (t : Int), (∀ s ∈ frN sz xs l t, ∀ j, (0 ≤ j ∧ j < 512) → atM sz xs' s j = atM sz xs s j) → zc2 sz xs' l t = zc2 sz xs l t
  | 0, t, h => by
    funext j
    unfold zc2
    split
    · rename_i hj
      rw [h t (zb0 _ _ _ _) j hj]
      rfl
    · rfl
  | l + 1, t, h => by
    funext j
    unfold zc2
    split
    · rename_i hj
      rw [h t (zb0 _ _ _ _) j hj]
      show (if zaz (atM sz xs t j) = true then _ else if za0 (atM sz xs t j) ((l + 1 : Nat) : Int) = true then Tr.tb (zc2 sz xs' l (atM sz xs t j).ppn) else _) = (if zaz (atM sz xs t j) = true then _ else if za0 (atM sz xs t j) ((l + 1 : Nat) : Int) = true then Tr.tb (zc2 sz xs l (atM sz xs t j).ppn) else _)
      cases c : za0 (atM sz xs t j) ((l + 1 : Nat) : Int) with
      | false => rfl
      | true =>
        rw [zii l (atM sz xs t j).ppn fun s hs j' hj' => h s (by
          simp only [frN, List.mem_cons]
          refine .inr (List.mem_flatMap.2 ⟨j.toNat, List.mem_range.2 (by omega), ?_⟩)
          rw [show ((j.toNat : Nat) : Int) = j by omega, if_pos c]
          exact hs) j' hj']
    · rfl
section
variable {cd cp sz f sh : Int} {xs : List (Int × Int)} {lv : Int → Int}
theorem zsu (h : TI cd cp sz xs f sh lv) {l1 l2 : Nat} {t1 t2 : Int} (a1 : Al cd cp f t1) (a2 : Al cd cp f t2) (e1 : lv t1 = l1) (e2 : lv t2 = l2) (hl : l2 ≤ l1) (hns : ∀ g ∈ frN sz xs l2 t2, g ≠ t2 → g ≠ sh) : ∀ (d : Nat) (g : Int), lv t2 - lv g ≤ d → g ∈ frN sz xs l1 t1 → g ∈ frN sz xs l2 t2 → t2 ∈ frN sz xs l1 t1
  | 0, g, hd, h1, h2 => by
    obtain ⟨_, q2, q3⟩ := zbb h l2 t2 a2 e2 g h2
    rcases q3 with rfl | ⟨s, hs, j, p1, p2, p3, p4⟩
    · exact h1
    · obtain ⟨_, _, r, _⟩ := zbz h p1 p2
      rw [p3] at r
      omega
  | d + 1, g, hd, h1, h2 => by
    obtain ⟨_, q2, q3⟩ := zbb h l2 t2 a2 e2 g h2
    obtain ⟨_, _, v3⟩ := zbb h l1 t1 a1 e1 g h1
    by_cases hg : g = t2
    · rw [← hg]; exact h1
    rcases q3 with e | ⟨s, hs, j, p1, p2, p3, p4⟩
    · exact absurd e hg
    obtain ⟨_, _, r, _⟩ := zbz h p1 p2
    rw [p3] at r
    rcases v3 with e | ⟨s', hs', j', p1', p2', p3', p4'⟩
    · rw [e] at r; omega
    · obtain ⟨u1, u2⟩ := h.e.u s j s' j' p1 p1' p2 p2' (p3.trans p3'.symm) (by rw [p3]; exact hns g h2 hg)
      subst u1
      exact zsu h a1 a2 e1 e2 hl hns d s (by omega) hs' hs
theorem zn5 (h : TI cd cp sz xs f sh lv) {l : Nat} {t : Int} (ha : Al cd cp f t) (e : lv t = l) (hl : l ≤ 1) : ∀ g ∈ frN sz xs l t, g ≠ t → g ≠ sh := fun g hg hne hs => by
  obtain ⟨_, _, q3⟩ := zbb h l t ha e g hg
  rcases q3 with e | ⟨s, hs', j, p1, p2, p3, p4⟩
  · exact hne e
  · have := (h.e.s s j p1 p2 (p3.trans hs)).2
    omega
theorem zp1 (h : TI cd cp sz xs f sh lv) {l : Nat} {t i j g : Int} (ht : lv t = (l + 1 : Nat)) (h2 : l ≤ 1) (hi : 0 ≤ i ∧ i < 512) (hj : 0 ≤ j ∧ j < 512) (k1 : lkP (atM sz xs t i) = true) (k2 : lkP (atM sz xs t j) = true) (hns : (atM sz xs t i).ppn ≠ sh ∨ (atM sz xs t j).ppn ≠ sh) (g1 : g ∈ frN sz xs l (atM sz xs t i).ppn) (g2 : g ∈ frN sz xs l (atM sz xs t j).ppn) : i = j := by
  obtain ⟨_, _, r1, a1⟩ := zbz h hi k1
  obtain ⟨_, _, r2, a2⟩ := zbz h hj k2
  have e1 : lv (atM sz xs t i).ppn = l := by rw [r1, ht]; omega
  have e2 : lv (atM sz xs t j).ppn = l := by rw [r2, ht]; omega
  obtain ⟨_, q2, _⟩ := zbb h l _ a2 e2 g g2
  have hm := zsu h a1 a2 e1 e2 (Nat.le_refl _) (zn5 h a2 e2 h2) l g (by omega) g1 g2
  obtain ⟨_, _, v⟩ := zbb h l _ a1 e1 _ hm
  rcases v with e | ⟨s, _, j', p1, p2, p3, p4⟩
  · rcases hns with hns | hns
    · exact (h.e.u t i t j hi hj k1 k2 e.symm hns).2
    · exact (h.e.u t j t i hj hi k2 k1 e hns).2.symm
  · obtain ⟨_, _, r, _⟩ := zbz h p1 p2
    rw [p3] at r
    omega
end
def zp2 : Nat → Int → Tr → List Pg
  | 0, b, tr => match tr with
    | .lf p => [zmf p b 0]
    | _ => []
  | l + 1, b, tr => match tr with
    | .lf p => [zmf p b ((l + 1 : Nat) : Int)]
    | .tb f => (List.range 512).flatMap fun (i : Nat) => zp2 l (adr b i (l : Int)) (f i)
    | .no => []
def z11 (l : Nat) (b : Int) (f : Int → Tr) : List Pg := (List.range 512).flatMap fun (i : Nat) => zp2 l (adr b i (l : Int)) (f i)
theorem zfj {α β : Type} {l : List α} {f g : α → List β} (h : ∀ x ∈ l, f x = g x) : l.flatMap f = l.flatMap g := by
  rw [List.flatMap_def, List.flatMap_def, List.map_congr_left h]
section
variable {cd cp sz f sh : Int} {xs : List (Int × Int)} {lv : Int → Int}
theorem zjq (h : TI cd cp sz xs f sh lv) : ∀ (l : Nat) (t b : Int), lv t = l → zbf sz xs l t b = z11 l b (zc2 sz xs l t)
  | 0, t, b, hl => by
    show (List.range 512).flatMap _ = (List.range 512).flatMap _
    refine zfj fun i hi => ?_
    have hi := List.mem_range.1 hi
    have hi' : (0 : Int) ≤ (i : Int) ∧ (i : Int) < 512 := by omega
    rw [zc9 hi']
    rcases h.e.k t i hi' with e | ⟨_, _, ⟨e1, e2⟩ | ⟨e1, e2, _⟩⟩
    · rw [e]; rfl
    · rw [hl] at e2
      rw [zda e1]
      unfold zfr
      rw [show zc3 (atM sz xs t i) 0 = false from e2, e1]
      rfl
    · omega
  | l + 1, t, b, hl => by
    show (List.range 512).flatMap _ = (List.range 512).flatMap _
    refine zfj fun i hi => ?_
    have hi := List.mem_range.1 hi
    have hi' : (0 : Int) ≤ (i : Int) ∧ (i : Int) < 512 := by omega
    rw [zc9 hi']
    rcases h.e.k t i hi' with e | ⟨_, _, ⟨e1, e2⟩ | ⟨e1, e2, e3, _⟩⟩
    · rw [e, zef]; rfl
    · rw [hl] at e2
      rw [zda e1]
      unfold zfr
      rw [e2, e1]
      rfl
    · have hb : zc3 (atM sz xs t i) ((l + 1 : Nat) : Int) = false := by
        have := zbo e1 (l := ((l + 1 : Nat) : Int)) (by omega)
        unfold za0 at this
        simp only [Bool.and_eq_true, Bool.not_eq_true'] at this
        exact this.2
      rw [zdn e1]
      unfold zfr
      rw [hb, (zbs e1).2.2]
      show zbf sz xs l (atM sz xs t i).ppn (adr b i ((l + 1 : Nat) : Int)) = z11 l (adr b i ((l + 1 : Nat) : Int)) (zc2 sz xs l (atM sz xs t i).ppn)
      exact zjq h l _ _ (by rw [e3, hl]; omega)
theorem zij (h : TI cd cp sz xs f sh lv) {l : Nat} {t i : Int} (ht : Al cd cp f t) (hl : lv t = l) (hi : 0 ≤ i ∧ i < 512) {xs' : List (Int × Int)} {r : Tr} (C : Int → Prop) (h1 : z10 sz xs' l (atM sz xs' t i) = r)
    (h2 : ∀ s j, (0 ≤ j ∧ j < 512) → Al cd cp f s → ¬ (s = t ∧ j = i) → ¬ C s → atM sz xs' s j = atM sz xs s j) (h3 : ¬ C t)
    (h4 : ∀ m, l = m + 1 → ∀ j, (0 ≤ j ∧ j < 512) → j ≠ i → lkP (atM sz xs t j) = true → ∀ g ∈ frN sz xs m (atM sz xs t j).ppn, ¬ C g) : zc2 sz xs' l t = upd (zc2 sz xs l t) i r := by
  funext j
  by_cases hj : 0 ≤ j ∧ j < 512
  · rw [zc9 hj]
    by_cases c : j = i
    · subst c; rw [h1, zd4]
    · rw [zd5 _ _ c, zc9 hj, h2 t j hj ht (fun hh => c hh.2) h3]
      cases l with
      | zero => rfl
      | succ m =>
        rcases h.e.k t j hj with e | ⟨_, _, ⟨e1, e2⟩ | ⟨e1, e2, e3, e4⟩⟩
        · rw [e, zef, zef]
        · rw [zda e1, zda e1]
        · have e5 : lv (atM sz xs t j).ppn = m := by rw [e3, hl]; omega
          rw [zdn e1, zdn e1, zii m (atM sz xs t j).ppn fun s hs j' hj' => h2 s j' hj' (zbb h m _ e4 e5 s hs).1 (fun hh => by
            have := (zbb h m _ e4 e5 s hs).2.1
            rw [hh.1, hl] at this
            omega) (h4 m rfl j hj c e1 s hs)]
  · have : j ≠ i := fun e => hj (e ▸ hi)
    rw [zd5 _ _ this]
    unfold zc2
    rw [if_neg hj, if_neg hj]
theorem zmc (h : TI cd cp sz xs f sh lv) {t i : Int} {p : Pte} (ht : Al cd cp f t) (hi : 0 ≤ i ∧ i < 512) (hp : p.U) (hb : zay (PteC.ze7 p) = p) (s j : Int) (hj : 0 ≤ j ∧ j < 512) : atM sz (za7 sz xs t i p) s j = if s = t ∧ j = i then p else atM sz xs s j := by
  have bt := ht.1
  have bz := h.bz
  rw [h.gm.with ht hi hp]
  by_cases hd : s * 4096 + j * 8 < sz
  · rw [zgx h.s hi hj hd, hb]
  · rw [if_neg (by rintro ⟨rfl, rfl⟩; omega)]
    unfold atM zbj
    rw [if_neg hd, if_neg hd]
def chg (sz : Int) (xs : List (Int × Int)) (a : Int) (l : Nat) (t s : Int) : Prop := ∃ m, l = m + 1 ∧ lkP (atM sz xs t (idx a (l : Int))) = true ∧ s ∈ frN sz xs m (atM sz xs t (idx a (l : Int))).ppn
theorem zrd (a zam : Int) (q : Pte) (hw : 0 ≤ zam) : ∀ (l : Nat), zam ≤ (l : Int) → ∃ A, zgj a zam q l .no = some A
  | 0, _ => ⟨_, rfl⟩
  | l + 1, h => by
    by_cases c : zam = ((l + 1 : Nat) : Int)
    · exact ⟨_, zfi c⟩
    · obtain ⟨A, hA⟩ := zrd a zam q hw l (by omega)
      refine ⟨.tb (upd (zih .no) (idx a (l : Int)) A), ?_⟩
      rw [zd6 c rfl]
      unfold zdi
      show ((zgj a zam q l .no).map _).map _ = _
      rw [hA]; rfl
theorem zv0 (h : TI cd cp sz xs f sh lv) (a zam : Int) (q : Pte) (hw : 0 ≤ zam) : ∀ (l : Nat) (t : Int), zam ≤ (l : Int) → lv t = l → (zdi a zam q l (zc2 sz xs l t) = none ↔ (atM sz xs (zat sz xs a zam l t).1 (idx a (zat sz xs a zam l t).2)).v = true) := by
  have hnone : ∀ (l : Nat) (F : Int → Tr), zdi a zam q l F = none ↔ zgj a zam q l (F (idx a (l : Int))) = none := fun l F => by
    unfold zdi
    rw [Option.map_eq_none_iff]
  intro l
  induction l with
  | zero =>
    intro t hwl hl
    have hi := idx_bd a ((0 : Nat) : Int)
    rw [hnone, zc9 hi]
    show _ ↔ (atM sz xs t (idx a ((0 : Nat) : Int))).v = true
    rw [zfi (by omega)]
    rcases h.e.k t _ hi with e | ⟨_, _, ⟨e1, e2⟩ | ⟨e1, e2, _⟩⟩
    · rw [e]; exact ⟨fun hh => (by cases hh), fun hh => (by cases hh)⟩
    · rw [zda e1, (zbp e1).2]; exact ⟨fun _ => rfl, fun _ => rfl⟩
    · omega
  | succ l ih =>
    intro t hwl hl
    have hi := idx_bd a ((l + 1 : Nat) : Int)
    rw [hnone, zc9 hi]
    by_cases c : zam = ((l + 1 : Nat) : Int)
    · rw [za1 (fun hh => by omega) hw]
      show _ ↔ (atM sz xs t (idx a ((l + 1 : Nat) : Int))).v = true
      rw [zfi c]
      rcases h.e.k t _ hi with e | ⟨_, _, ⟨e1, e2⟩ | ⟨e1, e2, _⟩⟩
      · rw [e, zef]; exact ⟨fun hh => (by cases hh), fun hh => (by cases hh)⟩
      · rw [zda e1, (zbp e1).2]; exact ⟨fun _ => rfl, fun _ => rfl⟩
      · rw [zdn e1, (zbs e1).2.1]; exact ⟨fun _ => rfl, fun _ => rfl⟩
    · rcases h.e.k t _ hi with e | ⟨_, _, ⟨e1, e2⟩ | ⟨e1, e2, e3, e4⟩⟩
      · rw [za1 (fun _ => by rw [e]; rfl) hw]
        show _ ↔ (atM sz xs t (idx a ((l + 1 : Nat) : Int))).v = true
        rw [e, zef]
        obtain ⟨A, hA⟩ := zrd a zam q hw (l + 1) hwl
        rw [hA]
        exact ⟨fun hh => (by cases hh), fun hh => (by cases hh)⟩
      · rw [za1 (fun _ => zfu (zbp e1).1) hw]
        show _ ↔ (atM sz xs t (idx a ((l + 1 : Nat) : Int))).v = true
        rw [zda e1, (zbp e1).2, zh0]; exact ⟨fun _ => rfl, fun _ => rfl⟩
      · rw [zba (by omega) (zbo e1 (by omega)), zdn e1, zd6 c rfl, Option.map_eq_none_iff]
        exact ih _ (by omega) (by rw [e3, hl]; omega)
theorem z12 (sz : Int) (ys : List (Int × Int)) (l : Nat) (g : Int) (hz : ∀ j, (0 ≤ j ∧ j < 512) → atM sz ys g j = zP) : ∀ s ∈ frN sz ys l g, s = g := fun s hs => by
  cases l with
  | zero => simpa [frN] using hs
  | succ m =>
    simp only [frN, List.mem_cons] at hs
    rcases hs with e | hs
    · exact e
    · obtain ⟨i, hi, hs⟩ := List.mem_flatMap.1 hs
      have hi := List.mem_range.1 hi
      rw [hz i (by omega), if_neg (by unfold za0 zbk zP; simp)] at hs
      cases hs
end
section
variable {cd cp sz sh : Int}
theorem z4f (addr zam : Int) (q : Pte) (hw : 0 ≤ zam) (hqU : q.U) (hqb : zay (PteC.ze7 q) = q) (hql : zaz q = true) : ∀ (l : Nat) (xs : List (Int × Int)) (f t : Int) (lv : Int → Int), TI cd cp sz xs f sh lv → Al cd cp f t → Al cd cp f sh → lv t = l → l ≤ 2 → zam ≤ (l : Int) → (l = 2 → idx addr 2 ≠ 511) → ∀ A, zdi addr zam q l (zc2 sz xs l t) = some A →
    ((dnN sz cd addr zam l xs f t).2.2.2 = 0 ∧ zc2 sz (za7 sz (dnN sz cd addr zam l xs f t).1 (dnN sz cd addr zam l xs f t).2.2.1 (idx addr zam) q) l t = A ∧ cnt (dnN sz cd addr zam l xs f t).2.1 + zh1 A = cnt f + zh1 (zc2 sz xs l t) ∧
      (∀ s j, (0 ≤ j ∧ j < 512) → Al cd cp f s → ¬ (s = t ∧ j = idx addr (l : Int)) → ¬ chg sz xs addr l t s → atM sz (za7 sz (dnN sz cd addr zam l xs f t).1 (dnN sz cd addr zam l xs f t).2.2.1 (idx addr zam) q) s j = atM sz xs s j)) ∨
    ((dnN sz cd addr zam l xs f t).2.2.2 = 8 ∧ cnt f + zh1 (zc2 sz xs l t) < zh1 A) := by
  -- a leaf is put into this table
  have base : ∀ (l : Nat) (xs : List (Int × Int)) (f t : Int) (lv : Int → Int), TI cd cp sz xs f sh lv → Al cd cp f t → lv t = l → zam = (l : Int) → ∀ A, zdi addr zam q l (zc2 sz xs l t) = some A →
      zc2 sz (za7 sz xs t (idx addr zam) q) l t = A ∧ cnt f + zh1 A = cnt f + zh1 (zc2 sz xs l t) ∧ (∀ s j, (0 ≤ j ∧ j < 512) → Al cd cp f s → ¬ (s = t ∧ j = idx addr (l : Int)) → ¬ chg sz xs addr l t s → atM sz (za7 sz xs t (idx addr zam) q) s j = atM sz xs s j) := fun l xs f t lv h ht hl hwl A hA => by
    have hi := idx_bd addr (l : Int)
    have hat := fun s j hj => zmc h ht (i := idx addr zam) (by rw [hwl]; exact hi) hqU hqb s j hj
    rw [hwl] at hat ⊢
    unfold zdi at hA
    rw [zfi hwl] at hA
    cases c : zx6 (zc2 sz xs l t (idx addr (l : Int))) with
    | false => rw [c, if_neg (by simp)] at hA; cases hA
    | true =>
      rw [c, if_pos rfl] at hA
      simp only [Option.map_some, Option.some.injEq] at hA
      subst hA
      refine ⟨zij h ht hl hi (fun _ => False) ?_ (fun s j hj _ hn _ => by rw [hat s j hj, if_neg hn]) (fun hh => hh) (fun _ _ _ _ _ _ _ _ hh => hh), ?_, fun s j hj _ hn _ => by rw [hat s j hj, if_neg hn]⟩
      · rw [hat t _ hi, if_pos ⟨rfl, rfl⟩, zda hql]
      · have := zev (zc2 sz xs l t) (idx addr (l : Int)) (.lf q) hi
        have e0 : zmb (zc2 sz xs l t (idx addr (l : Int))) = 0 := by
          revert c
          cases zc2 sz xs l t (idx addr (l : Int)) <;> intro c
          · rfl
          · rfl
          · cases c
        have e1 : zmb (.lf q) = 0 := rfl
        omega
  intro l
  induction l with
  | zero =>
    intro xs f t lv h ht hsh hl h2 hwl hH A hA
    exact .inl ⟨rfl, base 0 xs f t lv h ht hl (by omega) A hA⟩
  | succ l ih =>
    intro xs f t lv h ht hsh hl h2 hwl hH A hA
    have hi := idx_bd addr ((l + 1 : Nat) : Int)
    by_cases c1 : ((l + 1 : Nat) : Int) ≤ zam
    · have e0 : dnN sz cd addr zam (l + 1) xs f t = (xs, f, t, 0) := by unfold dnN; rw [if_pos c1]
      rw [e0]
      exact .inl ⟨rfl, base (l + 1) xs f t lv h ht hl (by omega) A hA⟩
    have cw : zam ≠ ((l + 1 : Nat) : Int) := by omega
    have hA0 := hA
    unfold zdi at hA
    obtain ⟨r, hr, rfl⟩ := Option.map_eq_some_iff.1 hA
    rw [zc9 hi] at hr
    rcases h.e.k t _ hi with e | ⟨_, _, ⟨e1, e2⟩ | ⟨e1, e2, e3, e4⟩⟩
    · -- nothing is there
      rw [e, zef, zd6 cw rfl] at hr
      obtain ⟨A', hA', rfl⟩ := Option.map_eq_some_iff.1 hr
      have hA' : zdi addr zam q l (fun _ => .no) = some A' := hA'
      have hcu := zev (zc2 sz xs (l + 1) t) (idx addr ((l + 1 : Nat) : Int)) (.tb A') hi
      rw [zc9 hi, e, zef] at hcu
      have hc0 : zmb .no = 0 := rfl
      have hc1 : zmb (.tb A') = 1 + zh1 A' := rfl
      by_cases c4 : f = 0
      · subst c4
        have e0 : dnN sz cd addr zam (l + 1) xs 0 t = (xs, 0, t, 8) := by unfold dnN; rw [if_neg c1, e, if_neg (by unfold zaz zP; simp), if_neg (by unfold zP; simp), if_pos rfl]
        rw [e0]
        have : cnt 0 = 0 := by decide
        exact .inr ⟨rfl, by omega⟩
      · have hD : dnN sz cd addr zam (l + 1) xs f t = dnN sz cd addr zam l (za7 sz xs t (idx addr ((l + 1 : Nat) : Int)) (lnk (cd + tzI f))) (zbw f (tzI f) 1 0) (cd + tzI f) := by
          conv => lhs; unfold dnN
          rw [if_neg c1, e, if_neg (by unfold zaz zP; simp), if_neg (by unfold zP; simp), if_neg c4]
        rw [hD]
        obtain ⟨a0, a1, a2, a3⟩ := zff h c4
        have b1 := h.bd
        have b2 := h.bp
        have hbt := ht.1
        have hnn : 0 ≤ cd + tzI f ∧ cd + tzI f < 17592186044416 := by omega
        have hT := zl7 h c4 ht hsh (by rw [hl]; omega) hi (by rw [e]; rfl)
        have hat := fun s j hj => zmc h ht hi (zhp hnn) (zeq hnn) s j hj
        have hz : ∀ j, (0 ≤ j ∧ j < 512) → atM sz (za7 sz xs t (idx addr ((l + 1 : Nat) : Int)) (lnk (cd + tzI f))) (cd + tzI f) j = zP := fun j hj => by
          rw [hat _ j hj, if_neg (by rintro ⟨e, _⟩; exact (a0 _ ht).2 e.symm)]
          rcases h.e.k (cd + tzI f) j hj with e | ⟨e, _⟩
          · exact e
          · exact absurd rfl (a0 _ e).2
        have hS : zc2 sz (za7 sz xs t (idx addr ((l + 1 : Nat) : Int)) (lnk (cd + tzI f))) l (cd + tzI f) = fun _ => .no := by
          funext j
          unfold zc2
          split
          · rename_i hj; rw [hz j hj, zef]
          · rfl
        have t1 := zcl h.uf h.bf.2 c4
        have hco := zl3 h.uf t1.1 (by omega) (zkl h.uf c4)
        have hup : upL lv (cd + tzI f) (lv t - 1) (cd + tzI f) = (l : Int) := by unfold upL; rw [if_pos rfl, hl]; omega
        have I := ih _ _ _ _ hT a1 (a0 _ hsh).1 hup (by omega) (by omega) (fun hh => by omega) A' (by rw [hS]; exact hA')
        rw [hS, z1z] at I
        have hz0 := z12 sz _ l _ hz
        generalize hys : za7 sz xs t (idx addr ((l + 1 : Nat) : Int)) (lnk (cd + tzI f)) = ys at *
        rcases I with ⟨I1, I2, I3, I4⟩ | ⟨I1, I2⟩
        · refine .inl ⟨I1, ?_, by omega, ?_⟩
          · generalize za7 sz (dnN sz cd addr zam l ys (zbw f (tzI f) 1 0) (cd + tzI f)).1 (dnN sz cd addr zam l ys (zbw f (tzI f) 1 0) (cd + tzI f)).2.2.1 (idx addr zam) q = zs at *
            have key : ∀ s j, (0 ≤ j ∧ j < 512) → Al cd cp f s → atM sz zs s j = atM sz ys s j := fun s j hj hs => I4 s j hj (a0 s hs).1 (fun hh => (a0 s hs).2 hh.1) (by
              rintro ⟨m, em, k1, k2⟩
              rw [hz _ (idx_bd addr _)] at k1; cases k1)
            refine zij h ht hl hi (fun _ => False) ?_ (fun s j hj hs hn _ => by rw [key s j hj hs, hat s j hj, if_neg hn]) (fun hh => hh) (fun _ _ _ _ _ _ _ _ hh => hh)
            rw [key t _ hi ht, hat t _ hi, if_pos ⟨rfl, rfl⟩, zdn rfl]
            show Tr.tb (zc2 sz zs l (cd + tzI f)) = _
            rw [I2]
          · intro s j hj hs hn _
            rw [I4 s j hj (a0 s hs).1 (fun hh => (a0 s hs).2 hh.1) (by
              rintro ⟨m, em, k1, k2⟩
              rw [hz _ (idx_bd addr _)] at k1; cases k1), hat s j hj, if_neg hn]
        · exact .inr ⟨I1, by omega⟩
    · rw [zda e1, zh0] at hr; cases hr
    · -- a link
      have e5 : lv (atM sz xs t (idx addr ((l + 1 : Nat) : Int))).ppn = (l : Int) := by rw [e3, hl]; omega
      rw [zdn e1, zd6 cw rfl] at hr
      obtain ⟨A', hA', rfl⟩ := Option.map_eq_some_iff.1 hr
      have hA' : zdi addr zam q l (zc2 sz xs l (atM sz xs t (idx addr ((l + 1 : Nat) : Int))).ppn) = some A' := hA'
      have hcu := zev (zc2 sz xs (l + 1) t) (idx addr ((l + 1 : Nat) : Int)) (.tb A') hi
      rw [zc9 hi, zdn e1] at hcu
      have hc0 : zmb (.tb (zc2 sz xs l (atM sz xs t (idx addr ((l + 1 : Nat) : Int))).ppn)) = 1 + zh1 (zc2 sz xs l (atM sz xs t (idx addr ((l + 1 : Nat) : Int))).ppn) := rfl
      have hc1 : zmb (.tb A') = 1 + zh1 A' := rfl
      have hD : dnN sz cd addr zam (l + 1) xs f t = dnN sz cd addr zam l xs f (atM sz xs t (idx addr ((l + 1 : Nat) : Int))).ppn := by
        conv => lhs; unfold dnN
        rw [if_neg c1, (zbs e1).2.2, if_neg (by simp), if_pos (zbs e1).2.1]
      rw [hD]
      have hns : (atM sz xs t (idx addr ((l + 1 : Nat) : Int))).ppn ≠ sh := fun ee => by
        obtain ⟨b1, b2⟩ := h.e.s t _ hi e1 ee
        have : l + 1 = 2 := by omega
        rw [show ((l + 1 : Nat) : Int) = 2 by omega] at b1
        exact hH this b1
      rcases ih xs f _ lv h e4 hsh e5 (by omega) (by omega) (fun hh => by omega) A' hA' with ⟨I1, I2, I3, I4⟩ | ⟨I1, I2⟩
      · have hfp := zbb h l _ e4 e5
        have htn : t ∉ frN sz xs l (atM sz xs t (idx addr ((l + 1 : Nat) : Int))).ppn := fun hh => by have := (hfp t hh).2.1; omega
        have chin : ∀ s, chg sz xs addr l (atM sz xs t (idx addr ((l + 1 : Nat) : Int))).ppn s → s ∈ frN sz xs l (atM sz xs t (idx addr ((l + 1 : Nat) : Int))).ppn := by
          rintro s ⟨m, rfl, k1, k2⟩
          have hj := idx_bd addr ((m + 1 : Nat) : Int)
          simp only [frN, List.mem_cons]
          refine .inr (List.mem_flatMap.2 ⟨(idx addr ((m + 1 : Nat) : Int)).toNat, List.mem_range.2 (by omega), ?_⟩)
          rw [show (((idx addr ((m + 1 : Nat) : Int)).toNat : Nat) : Int) = idx addr ((m + 1 : Nat) : Int) by omega, if_pos (zbo k1 (by omega))]
          exact k2
        have out : ∀ s j, (0 ≤ j ∧ j < 512) → Al cd cp f s → s ∉ frN sz xs l (atM sz xs t (idx addr ((l + 1 : Nat) : Int))).ppn → atM sz (za7 sz (dnN sz cd addr zam l xs f (atM sz xs t (idx addr ((l + 1 : Nat) : Int))).ppn).1 (dnN sz cd addr zam l xs f (atM sz xs t (idx addr ((l + 1 : Nat) : Int))).ppn).2.2.1 (idx addr zam) q) s j = atM sz xs s j := fun s j hj hs hn =>
          I4 s j hj hs (fun hh => hn (by rw [hh.1]; exact zb0 _ _ _ _)) (fun hh => hn (chin s hh))
        generalize za7 sz (dnN sz cd addr zam l xs f (atM sz xs t (idx addr ((l + 1 : Nat) : Int))).ppn).1 (dnN sz cd addr zam l xs f (atM sz xs t (idx addr ((l + 1 : Nat) : Int))).ppn).2.2.1 (idx addr zam) q = zs at *
        refine .inl ⟨I1, ?_, by omega, fun s j hj hs hn hc => out s j hj hs fun hh => hc ⟨l, rfl, e1, hh⟩⟩
        refine zij h ht hl hi (fun s => s ∈ frN sz xs l (atM sz xs t (idx addr ((l + 1 : Nat) : Int))).ppn) ?_ (fun s j hj hs _ hn => out s j hj hs hn) htn ?_
        · rw [out t _ hi ht htn, zdn e1, I2]
        · intro m em j hj hne hlk g hg hin
          obtain rfl : m = l := by omega
          exact hne (zp1 h hl (by omega) hj hi hlk e1 (.inr hns) hg hin)
      · exact .inr ⟨I1, by omega⟩
end
end Go.Proofs.YtomeaibdedaldaaGreatDoor.LnB
namespace Go.Proofs.YtomeaibdedaldaaGreatDoor.LnD
open Go.RowKit Bv VaSpec Base MemL RegR Ax MemC PutC MemC3 TzC OkS SpA SpB SpC SpD SpE SpF SpN SpO SpG SpH SpI SpJ LaA LaB LaC LaD LaE LaF LaG LiA LiB LiC LiD LiE LiF LrA LrB LrC LjA LjF LkE LmA LmB LmE LnA LnB
open BitsC PteSpec RfE RfG RfJ RfK LaH RfA RfP RfQ
set_option maxRecDepth 10000
set_option maxHeartbeats 1000000
noncomputable def zh2 (k : Kr) (id : Int) : Int → Tr := if id = -1 then zc2 k.sz k.m 1 k.sh else upd (zc2 k.sz k.m 2 (zfc k id).root) 511 .no
def zkr (id : Int) : Nat := if id = -1 then 1 else 2
structure Rts (k : Kr) : Prop where
  r : ∀ (i j : Nat) (s t : Sp), k.ss[i]? = some s → k.ss[j]? = some t → i ≠ j → s.live = true → t.live = true → s.root ≠ t.root
theorem zhs (k : Kr) : zh2 k (-1) = zc2 k.sz k.m 1 k.sh := if_pos rfl
theorem zfk (k : Kr) {id : Int} (h : id ≠ -1) : zh2 k id = upd (zc2 k.sz k.m 2 (zfc k id).root) 511 .no := if_neg h
theorem zg7 {n : Nat} {k : Kr} (h : InvT n k) (id : Int) : zcf k id = if id = -1 then z11 1 kA (zh2 k id) else if za5 k id = false then [] else z11 2 0 (zh2 k id) := by
  obtain ⟨lv, hT, hs, hr⟩ := h.t
  unfold zcf
  by_cases c0 : id = -1
  · subst c0
    rw [if_pos rfl, if_pos rfl, zhs]
    exact zjq hT 1 k.sh kA (by rw [hs]; rfl)
  · rw [if_neg c0, if_neg c0]
    by_cases c1 : za5 k id = false
    · rw [if_pos c1, if_pos c1]
    · rw [if_neg c1, if_neg c1, zfk k c0]
      have c1 : za5 k id = true := by simpa using c1
      obtain ⟨h0, h1, h2, hv⟩ := zdd c1
      have hrl := hr _ (List.mem_of_getElem? h2) hv
      have har := h.l.root c1
      have hown : zxt k id = zbq k.m ((zfc k id).root * 512 + 511) 0 := rfl
      rw [hown]
      generalize (zfc k id).root = rt at *
      have b1 := hT.bd
      have bt := har.1
      have hat : ∀ s j, (0 ≤ j ∧ j < 512) → atM k.sz (zbq k.m (rt * 512 + 511) 0) s j = if s = rt ∧ j = 511 then zP else atM k.sz k.m s j := fun s j hj => zfg (cd := k.cd) (cp := k.cp) hT.s hT.bz (by omega) (by omega) s j hj
      have hTo : TI k.cd k.cp k.sz (zbq k.m (rt * 512 + 511) 0) k.pf k.sh lv := hT.put bt (by omega) ⟨by omega, by omega⟩ hT.bf fun E' hE => hT.e.sub fun s j hj => by
        rw [hE s j hj, zly]
        split
        · exact .inl rfl
        · exact .inr rfl
      rw [zjq hTo 2 rt 0 hrl]
      rw [zij hT (l := 2) har hrl (i := 511) (by omega) (r := .no) (fun _ => False) (by rw [hat rt 511 (by omega), if_pos ⟨rfl, rfl⟩, zef]) (fun s j hj _ hn _ => by rw [hat s j hj, if_neg hn]) (fun hh => hh) (fun _ _ _ _ _ _ _ _ hh => hh)]
structure Fit (k : Kr) (id a pa l : Int) (p : Pm) : Prop where
  w : (zao k id a l).2.2 = 0
  a : lk0 pa l = 0
  b : lk1 k pa l = 0
  c : lk2 p = 0
theorem zjr {k : Kr} {id a pa l : Int} {p : Pm} (he : (zb6 k id a pa l p).2 = 0) : Fit k id a pa l p := by
  unfold zb6 at he
  by_cases c0 : (zao k id a l).2.2 ≠ 0
  · rw [if_pos c0] at he; exact absurd he c0
  rw [if_neg c0] at he
  by_cases c1 : lk0 pa l ≠ 0
  · rw [if_pos c1] at he; exact absurd he c1
  rw [if_neg c1] at he
  by_cases c2 : lk1 k pa l ≠ 0
  · rw [if_pos c2] at he; exact absurd he c2
  rw [if_neg c2] at he
  by_cases c3 : lk2 p ≠ 0
  · rw [if_pos c3] at he; exact absurd he c3
  exact ⟨by omega, by omega, by omega, by omega⟩
theorem zre (k : Kr) (id a pa l : Int) (p : Pm) : (zb6 k id a pa l p).1 = k ∨ ∃ D g, (zb6 k id a pa l p).1 = z2p k D a pa l p g := by
  unfold zb6
  (repeat' split) <;> first | exact .inl rfl | exact .inr ⟨_, _, rfl⟩
theorem zrf (k : Kr) (id a pa l : Int) (p : Pm) : (zb6 k id a pa l p).1.ss = k.ss ∧ (zb6 k id a pa l p).1.sh = k.sh ∧ (zb6 k id a pa l p).1.cd = k.cd ∧ (zb6 k id a pa l p).1.sz = k.sz := by
  rcases zre k id a pa l p with e | ⟨D, g, e⟩
  · rw [e]; exact ⟨rfl, rfl, rfl, rfl⟩
  · rw [e]; exact ⟨rfl, rfl, rfl, rfl⟩
theorem zp3 {k : Kr} (h : Rts k) (id a pa l : Int) (p : Pm) : Rts (zb6 k id a pa l p).1 := ⟨by rw [(zrf k id a pa l p).1]; exact h.r⟩
theorem zb9 (k : Kr) (id a pa l : Int) (p : Pm) (i : Int) : za5 (zb6 k id a pa l p).1 i = za5 k i := by
  rcases zre k id a pa l p with e | ⟨D, g, e⟩ <;> rw [e] <;> rfl
theorem zmd {k : Kr} {id a pa l id' a' pa' l' : Int} {p p' : Pm} : Fit (zb6 k id a pa l p).1 id' a' pa' l' p' ↔ Fit k id' a' pa' l' p' := by
  rcases zre k id a pa l p with e | ⟨D, g, e⟩
  · rw [e]
  · rw [e]
    constructor
    · rintro ⟨a, b, c, d⟩; exact ⟨a, b, c, d⟩
    · rintro ⟨a, b, c, d⟩; exact ⟨a, b, c, d⟩
section
variable {cd cp sz f sh : Int} {xs xs' : List (Int × Int)} {lv : Int → Int}
theorem z4g (h : TI cd cp sz xs f sh lv) {r i : Int} (hr : lv r = 2) (hsa : Al cd cp f sh) (hsl : lv sh = 1) (hi : 0 ≤ i ∧ i < 512) (hH : i ≠ 511) (h4 : ∀ s j, (0 ≤ j ∧ j < 512) → Al cd cp f s → ¬ (s = r ∧ j = i) → ¬ (lkP (atM sz xs r i) = true ∧ s ∈ frN sz xs 1 (atM sz xs r i).ppn) → atM sz xs' s j = atM sz xs s j) : zc2 sz xs' 1 sh = zc2 sz xs 1 sh := by
  refine zii 1 sh fun s hs j hj => ?_
  obtain ⟨q1, q2, _⟩ := zbb h 1 sh hsa hsl s hs
  refine h4 s j hj q1 (fun hh => by rw [hh.1, hr] at q2; omega) ?_
  rintro ⟨k1, k2⟩
  obtain ⟨_, _, r1, a1⟩ := zbz h hi k1
  have e1 : lv (atM sz xs r i).ppn = (1 : Nat) := by rw [r1, hr]; rfl
  have hm := zsu h a1 hsa e1 (l2 := 1) hsl (Nat.le_refl _) (zn5 h hsa hsl (Nat.le_refl _)) 1 s (by omega) k2 hs
  by_cases c : sh = (atM sz xs r i).ppn
  · exact hH (h.e.s r i hi k1 c.symm).1
  · exact zn5 h a1 e1 (Nat.le_refl _) sh hm c rfl
theorem zzd (h : TI cd cp sz xs f sh lv) {r2 : Int} (hr : lv r2 = 2) (ha : Al cd cp f r2) (hx : ∀ j, (0 ≤ j ∧ j < 512) → atM sz xs' r2 j = atM sz xs r2 j) (hs : ∀ j, (0 ≤ j ∧ j < 512) → j ≠ 511 → lkP (atM sz xs r2 j) = true → (atM sz xs r2 j).ppn ≠ sh → ∀ s ∈ frN sz xs 1 (atM sz xs r2 j).ppn, ∀ j', (0 ≤ j' ∧ j' < 512) → atM sz xs' s j' = atM sz xs s j') : upd (zc2 sz xs' 2 r2) 511 .no = upd (zc2 sz xs 2 r2) 511 .no := by
  funext j
  by_cases c : j = 511
  · subst c; rw [zd4, zd4]
  rw [zd5 _ _ c, zd5 _ _ c]
  by_cases hj : 0 ≤ j ∧ j < 512
  · rw [zc9 hj, zc9 hj, hx j hj]
    rcases h.e.k r2 j hj with e | ⟨_, _, ⟨e1, e2⟩ | ⟨e1, e2, e3, e4⟩⟩
    · rw [e, zef, zef]
    · rw [zda e1, zda e1]
    · rw [zdn e1, zdn e1, zii 1 _ (hs j hj c e1 fun ee => c (h.e.s r2 j hj e1 ee).1)]
  · unfold zc2; rw [if_neg hj, if_neg hj]
theorem zv1 (h : TI cd cp sz xs f sh lv) {i r2 : Int} (hsl : lv sh = 1) (hr : lv r2 = 2) (ha : Al cd cp f r2) (hi : 0 ≤ i ∧ i < 512) (h4 : ∀ s j, (0 ≤ j ∧ j < 512) → Al cd cp f s → ¬ (s = sh ∧ j = i) → ¬ (lkP (atM sz xs sh i) = true ∧ s ∈ frN sz xs 0 (atM sz xs sh i).ppn) → atM sz xs' s j = atM sz xs s j) : upd (zc2 sz xs' 2 r2) 511 .no = upd (zc2 sz xs 2 r2) 511 .no := by
  have hc : ∀ s, lkP (atM sz xs sh i) = true → s ∈ frN sz xs 0 (atM sz xs sh i).ppn → s = (atM sz xs sh i).ppn ∧ lv s = 0 := fun s k1 k2 => by
    have e : s = (atM sz xs sh i).ppn := by simpa [frN] using k2
    obtain ⟨_, _, r1, _⟩ := zbz h hi k1
    exact ⟨e, by rw [e, r1, hsl]; rfl⟩
  refine zzd h hr ha (fun j hj => h4 r2 j hj ha (fun hh => by rw [hh.1, hsl] at hr; omega) fun hh => by have := (hc _ hh.1 hh.2).2; omega) ?_
  intro j hj hj5 k2 hns s hs j' hj'
  obtain ⟨_, _, r1, a1⟩ := zbz h hj k2
  have e1 : lv (atM sz xs r2 j).ppn = (1 : Nat) := by rw [r1, hr]; rfl
  obtain ⟨q1, q2, q3⟩ := zbb h 1 _ a1 e1 s hs
  have hne : ∀ g ∈ frN sz xs 1 (atM sz xs r2 j).ppn, g ≠ sh := fun g hg e => by
    by_cases c : g = (atM sz xs r2 j).ppn
    · exact hns (c.symm.trans e)
    · exact zn5 h a1 e1 (Nat.le_refl _) g hg c e
  refine h4 s j' hj' q1 (fun hh => hne s hs hh.1) ?_
  rintro ⟨k1, k3⟩
  obtain ⟨c1, c2⟩ := hc s k1 k3
  rcases q3 with e | ⟨s', hs', j2, p1, p2, p3, p4⟩
  · rw [e, e1] at c2; omega
  · obtain ⟨u1, _⟩ := h.e.u s' j2 sh i p1 hi p2 k1 (p3.trans c1) (by rw [p3]; intro e; rw [e, hsl] at c2; omega)
    exact hne s' hs' u1
theorem zv2 (h : TI cd cp sz xs f sh lv) {r i r2 : Int} (hr1 : lv r = 2) (hr : lv r2 = 2) (ha : Al cd cp f r2) (hne : r ≠ r2) (hi : 0 ≤ i ∧ i < 512) (hH : i ≠ 511) (h4 : ∀ s j, (0 ≤ j ∧ j < 512) → Al cd cp f s → ¬ (s = r ∧ j = i) → ¬ (lkP (atM sz xs r i) = true ∧ s ∈ frN sz xs 1 (atM sz xs r i).ppn) → atM sz xs' s j = atM sz xs s j) : upd (zc2 sz xs' 2 r2) 511 .no = upd (zc2 sz xs 2 r2) 511 .no := by
  have hc : ∀ s, lkP (atM sz xs r i) = true → s ∈ frN sz xs 1 (atM sz xs r i).ppn → lv s ≤ 1 := fun s k1 k2 => by
    obtain ⟨_, _, r1, a1⟩ := zbz h hi k1
    exact (zbb h 1 _ a1 (by rw [r1, hr1]; rfl) s k2).2.1.2
  refine zzd h hr ha (fun j hj => h4 r2 j hj ha (fun hh => hne hh.1.symm) fun hh => by have := hc _ hh.1 hh.2; omega) ?_
  intro j hj hj5 k2 hns s hs j' hj'
  obtain ⟨_, _, r1, a1⟩ := zbz h hj k2
  have e1 : lv (atM sz xs r2 j).ppn = (1 : Nat) := by rw [r1, hr]; rfl
  obtain ⟨q1, q2, q3⟩ := zbb h 1 _ a1 e1 s hs
  refine h4 s j' hj' q1 (fun hh => by rw [hh.1, hr1] at q2; omega) ?_
  rintro ⟨k1, k3⟩
  obtain ⟨_, _, r3, a3⟩ := zbz h hi k1
  have e3 : lv (atM sz xs r i).ppn = (1 : Nat) := by rw [r3, hr1]; rfl
  have hm := zsu h a3 a1 e3 e1 (Nat.le_refl _) (zn5 h a1 e1 (Nat.le_refl _)) 1 s (by omega) k3 hs
  obtain ⟨_, _, v⟩ := zbb h 1 _ a3 e3 _ hm
  rcases v with e | ⟨s', _, j2, p1, p2, p3, p4⟩
  · exact hne (h.e.u r i r2 j hi hj k1 k2 e.symm (fun ee => hns (e.trans ee))).1
  · obtain ⟨_, _, rr, _⟩ := zbz h p1 p2
    rw [p3] at rr
    omega
end
theorem zgi {n : Nat} {k : Kr} {id a pa l : Int} {p : Pm} (h : InvT n k) (hR : Rts k) (hp : U pa) (hf : Fit k id a pa l p) :
    (zdi a l (mkP (pa / 4096) p (decide (id = -1))) (zkr id) (zh2 k id) = none → (zb6 k id a pa l p).2 = 6) ∧
    (∀ A, zdi a l (mkP (pa / 4096) p (decide (id = -1))) (zkr id) (zh2 k id) = some A →
      ((zb6 k id a pa l p).2 = 0 ∧ zh2 (zb6 k id a pa l p).1 id = A ∧ cnt (zb6 k id a pa l p).1.pf + zh1 A = cnt k.pf + zh1 (zh2 k id) ∧ (∀ id', id' ≠ id → (id' = -1 ∨ za5 k id' = true) → zh2 (zb6 k id a pa l p).1 id' = zh2 k id')) ∨
      ((zb6 k id a pa l p).2 = 8 ∧ cnt k.pf + zh1 (zh2 k id) < zh1 A)) := by
  obtain ⟨c0, c1, c2, c3⟩ := hf
  obtain ⟨lv, hT, hs, hr⟩ := h.t
  obtain ⟨w1, w2, w3, w4⟩ := zbt (id := id) (a := a) (l := l) h.l c0
  obtain ⟨z1, z2⟩ := h.top (id := id) (a := a) (l := l) c0 hs hr
  have hpn := zji (k := k) (l := l) hp (by have := h.l.g.bd; omega) c2
  have hb := zfw (n := pa / 4096) (p := p) (g := decide (id = -1)) hpn (zhq c3)
  have hwt := zc1 h.l c0
  have hM : zb6 k id a pa l p = if lk3 k (zao k id a l).1 (zao k id a l).2.1 a l ≠ 0 then (k, lk3 k (zao k id a l).1 (zao k id a l).2.1 a l)
      else if (zko k (zao k id a l).1 (zao k id a l).2.1 a l).2.2.2 ≠ 0 then (k, (zko k (zao k id a l).1 (zao k id a l).2.1 a l).2.2.2)
      else (z2p k (zko k (zao k id a l).1 (zao k id a l).2.1 a l) a pa l p (decide (id = -1)), 0) := by
    unfold zb6
    rw [if_neg (by omega), if_neg (by omega), if_neg (by omega), if_neg (by omega)]
  rw [hM]
  clear hM
  generalize zao k id a l = w at *
  obtain ⟨m, hm⟩ : ∃ m : Nat, w.2.1 = (m : Int) := ⟨w.2.1.toNat, by omega⟩
  have hir := zv0 hT a l (mkP (pa / 4096) p (decide (id = -1))) w1.1 m w.1 (by omega) (by omega)
  have h3 := zza k w.1 w.2.1 a l
  have h3v : (atM k.sz k.m (za6 k.sz k.m a l w.2.1 w.1).1 (idx a (za6 k.sz k.m a l w.2.1 w.1).2)).v = true → lk3 k w.1 w.2.1 a l = 6 := fun hh => by
    unfold lk3; rw [hh]; rfl
  have hre : za6 k.sz k.m a l w.2.1 w.1 = zat k.sz k.m a l m w.1 := by unfold za6; rw [hm, Int.toNat_natCast]
  rw [hre] at h3v
  rw [hre] at h3
  have hD : zko k w.1 w.2.1 a l = dnN k.sz k.cd a l m k.m k.pf w.1 := by unfold zko; rw [hm, Int.toNat_natCast]
  have hds := z4f a l (mkP (pa / 4096) p (decide (id = -1))) w1.1 hb.2.1 hb.1 hb.2.2 m k.m k.pf w.1 lv hT w2 h.l.sh (by omega) (by omega) (by omega) (fun hh => z2 (by omega))
  rw [hD]
  generalize hq : mkP (pa / 4096) p (decide (id = -1)) = q at *
  generalize hDD : dnN k.sz k.cd a l m k.m k.pf w.1 = D at *
  have hi := idx_bd a (m : Int)
  -- the tree, told as a shape
  have hins : (zdi a l q (zkr id) (zh2 k id) = none ↔ zdi a l q m (zc2 k.sz k.m m w.1) = none) ∧ (∀ A, zdi a l q (zkr id) (zh2 k id) = some A → ∃ A0, zdi a l q m (zc2 k.sz k.m m w.1) = some A0 ∧ (∀ K : Kr, K.sz = k.sz → K.sh = k.sh → zfc K id = zfc k id → zc2 k.sz K.m m w.1 = A0 → zh2 K id = A) ∧ (zh1 A + zh1 (zc2 k.sz k.m m w.1) = zh1 A0 + zh1 (zh2 k id))) := by
    rcases hwt with ⟨e1, e2, e3⟩ | ⟨e1, e2, e3, e4, e5⟩
    · subst e3
      obtain rfl : m = 1 := by omega
      rw [zhs, e1]
      refine ⟨Iff.rfl, fun A hA => ⟨A, hA, fun K y1 y2 y3 y4 => ?_, by omega⟩⟩
      rw [zhs, y1, y2]; exact y4
    · obtain rfl : m = 2 := by omega
      have ht : zkr id = 2 := if_neg e2
      rw [zfk k e2, ht, ← e3]
      have e5' : idx a ((2 : Nat) : Int) ≠ 511 := e5
      have key : zgj a l q 2 (upd (zc2 k.sz k.m 2 w.1) 511 .no (idx a ((2 : Nat) : Int))) = zgj a l q 2 (zc2 k.sz k.m 2 w.1 (idx a ((2 : Nat) : Int))) := by rw [zd5 _ _ e5']
      unfold zdi
      rw [key]
      refine ⟨by rw [Option.map_eq_none_iff, Option.map_eq_none_iff], fun A hA => ?_⟩
      obtain ⟨r, hr', rfl⟩ := Option.map_eq_some_iff.1 hA
      refine ⟨upd (zc2 k.sz k.m 2 w.1) (idx a ((2 : Nat) : Int)) r, by rw [hr']; rfl, fun K y1 y2 y3 y4 => ?_, ?_⟩
      · rw [zfk K e2, y1, y3, ← e3, y4]
        exact (upd_comm _ _ _ (fun hh => e5' hh.symm)).symm
      · have n1 := zev (upd (zc2 k.sz k.m 2 w.1) 511 .no) (idx a ((2 : Nat) : Int)) r hi
        rw [zd5 _ _ e5'] at n1
        have n2 := zev (zc2 k.sz k.m 2 w.1) (idx a ((2 : Nat) : Int)) r hi
        omega
  constructor
  · intro hh
    have := h3v (hir.1 (hins.1.1 hh))
    rw [if_pos (by omega)]
    exact this
  · intro A hA
    obtain ⟨A0, hA0, hK, hcn⟩ := hins.2 A hA
    have h30 : lk3 k w.1 w.2.1 a l = 0 := by
      rcases h3 with e | e
      · exact e.1
      · exfalso
        have : ¬ (atM k.sz k.m (zat k.sz k.m a l m w.1).1 (idx a (zat k.sz k.m a l m w.1).2)).v = true := fun hv => by
          rw [hir.2 hv] at hA0; cases hA0
        unfold lk3 at e
        rw [hre] at e
        have this : (atM k.sz k.m (zat k.sz k.m a l m w.1).1 (idx a (zat k.sz k.m a l m w.1).2)).v = false := by simpa using this
        rw [this] at e
        cases e
    rw [if_neg (by omega)]
    rcases hds A0 hA0 with ⟨d1, d2, d3, d4⟩ | ⟨d1, d2⟩
    · rw [if_neg (by omega)]
      have hmK : (z2p k D a pa l p (decide (id = -1))).m = za7 k.sz D.1 D.2.2.1 (idx a l) q := by rw [← hq]; rfl
      refine .inl ⟨rfl, hK _ rfl rfl rfl (by rw [hmK]; exact d2), ?_, fun id' hne hlv => ?_⟩
      · show cnt D.2.1 + zh1 A = _
        omega
      · have d4' : ∀ s j, (0 ≤ j ∧ j < 512) → Al k.cd k.cp k.pf s → ¬ (s = w.1 ∧ j = idx a (m : Int)) → ¬ (lkP (atM k.sz k.m w.1 (idx a (m : Int))) = true ∧ s ∈ frN k.sz k.m (m - 1) (atM k.sz k.m w.1 (idx a (m : Int))).ppn) → atM k.sz (z2p k D a pa l p (decide (id = -1))).m s j = atM k.sz k.m s j := fun s j hj hs hn hc => by
          rw [hmK]
          refine d4 s j hj hs hn ?_
          rintro ⟨m', em, k1, k2⟩
          obtain rfl : m' = m - 1 := by omega
          exact hc ⟨k1, k2⟩
        rcases hwt with ⟨e1, e2, e3⟩ | ⟨e1, e2, e3, e4, e5⟩
        · obtain rfl : m = 1 := by omega
          have hl' : za5 k id' = true := hlv.resolve_left (fun hh => hne (hh.trans e3.symm))
          obtain ⟨g0, g1, g2, g3⟩ := zdd hl'
          have hne1 : id' ≠ -1 := fun hh => hne (hh.trans e3.symm)
          rw [zfk _ hne1, zfk _ hne1]
          rw [e1] at d4'
          exact zv1 hT hs (hr _ (List.mem_of_getElem? g2) g3) (h.l.root hl') hi d4'
        · obtain rfl : m = 2 := by omega
          have hwr : lv w.1 = 2 := by rw [z1, e4]
          by_cases hid : id' = -1
          · subst hid
            rw [zhs, zhs]
            exact z4g hT hwr h.l.sh hs hi e5 d4'
          · have hl' : za5 k id' = true := hlv.resolve_left hid
            obtain ⟨g0, g1, g2, g3⟩ := zdd hl'
            obtain ⟨f0, f1, f2, f3⟩ := zdd e1
            rw [zfk _ hid, zfk _ hid]
            have hrn : w.1 ≠ (zfc k id').root := by
              rw [e3]
              exact hR.r id.toNat id'.toNat _ _ f2 g2 (by omega) f3 g3
            exact zv2 hT hwr (hr _ (List.mem_of_getElem? g2) g3) (h.l.root hl') hrn hi e5 d4'
    · rw [if_pos (by omega)]
      exact .inr ⟨d1, by omega⟩
theorem zx8 (a zam : Int) (q : Pte) : ∀ (l : Nat) (tr A : Tr), zgj a zam q l tr = some A → zmb tr ≤ zmb A := by
  intro l
  induction l with
  | zero =>
    intro tr A h
    unfold zgj at h
    cases tr <;> simp [zx6] at h
    exact Nat.zero_le _
  | succ l ih =>
    intro tr A h
    by_cases w1 : zam = ((l + 1 : Nat) : Int)
    · rw [zfi w1] at h
      cases tr <;> simp [zx6] at h
      exact Nat.zero_le _
    have l1 : zzc tr = false := by
      cases tr with
      | lf p => rw [zh0] at h; cases h
      | no => rfl
      | tb f => rfl
    rw [zd6 w1 l1] at h
    obtain ⟨F, hF, rfl⟩ := Option.map_eq_some_iff.1 h
    unfold zdi at hF
    obtain ⟨r, hr, rfl⟩ := Option.map_eq_some_iff.1 hF
    have hi := idx_bd a (l : Int)
    have n1 := zev (zih tr) (idx a (l : Int)) r hi
    have n2 := ih _ _ hr
    have n3 : zmb (.tb (upd (zih tr) (idx a (l : Int)) r)) = 1 + zh1 (upd (zih tr) (idx a (l : Int)) r) := rfl
    have n4 : zmb tr ≤ 1 + zh1 (zih tr) := by
      cases tr with
      | no => exact Nat.zero_le _
      | lf p => exact Nat.zero_le _
      | tb f => exact Nat.le_refl _
    omega
theorem zjs {a zam : Int} {q : Pte} {l : Nat} {F A : Int → Tr} (h : zdi a zam q l F = some A) : zh1 F ≤ zh1 A := by
  unfold zdi at h
  obtain ⟨r, hr, rfl⟩ := Option.map_eq_some_iff.1 h
  have hi := idx_bd a (l : Int)
  have n1 := zev F (idx a (l : Int)) r hi
  have n2 := zx8 a zam q l _ _ hr
  omega
theorem twice {n : Nat} {k : Kr} {id a pa l id' a' pa' l' : Int} {p p' : Pm} (h : InvT n k) (hR : Rts k) (hp : U pa) (hp' : U pa') (h0 : (zb6 k id a pa l p).2 = 0) :
    (zb6 (zb6 k id a pa l p).1 id a pa l p).2 = 6 ∧
    ((zb6 (zb6 k id a pa l p).1 id' a' pa' l' p').2 = 0 → (zb6 k id' a' pa' l' p').2 = 0 ∧ (zb6 (zb6 k id' a' pa' l' p').1 id a pa l p).2 = 0 ∧
      cnt (zb6 (zb6 k id a pa l p).1 id' a' pa' l' p').1.pf = cnt (zb6 (zb6 k id' a' pa' l' p').1 id a pa l p).1.pf ∧
      ∀ i, zcf (zb6 (zb6 k id a pa l p).1 id' a' pa' l' p').1 i = zcf (zb6 (zb6 k id' a' pa' l' p').1 id a pa l p).1 i) := by
  have hf := zjr h0
  have h1 := zes (id := id) (a := a) (pa := pa) (l := l) (p := p) h hp
  have r1 := zp3 hR id a pa l p
  obtain ⟨q1, q2⟩ := zgi h hR hp hf
  obtain ⟨A, hA⟩ : ∃ A, zdi a l (mkP (pa / 4096) p (decide (id = -1))) (zkr id) (zh2 k id) = some A := by
    cases e : zdi a l (mkP (pa / 4096) p (decide (id = -1))) (zkr id) (zh2 k id) with
    | none => have := q1 e; omega
    | some A => exact ⟨A, rfl⟩
  rcases q2 A hA with ⟨_, s1, s2, s3⟩ | ⟨s0, _⟩
  rotate_left
  · omega
  refine ⟨(zgi h1 r1 hp (zmd.2 hf)).1 (by rw [s1]; exact zst hA), fun h2 => ?_⟩
  have hf2 := zjr h2
  have hf' : Fit k id' a' pa' l' p' := zmd.1 hf2
  have h12 := zes (id := id') (a := a') (pa := pa') (l := l') (p := p') h1 hp'
  obtain ⟨t1, t2⟩ := zgi h1 r1 hp' hf2
  obtain ⟨B, hB⟩ : ∃ B, zdi a' l' (mkP (pa' / 4096) p' (decide (id' = -1))) (zkr id') (zh2 (zb6 k id a pa l p).1 id') = some B := by
    cases e : zdi a' l' (mkP (pa' / 4096) p' (decide (id' = -1))) (zkr id') (zh2 (zb6 k id a pa l p).1 id') with
    | none => have := t1 e; omega
    | some A => exact ⟨A, rfl⟩
  rcases t2 B hB with ⟨_, u1, u2, u3⟩ | ⟨u0, _⟩
  rotate_left
  · omega
  obtain ⟨v1, v2⟩ := zgi h hR hp' hf'
  have h2' := zes (id := id') (a := a') (pa := pa') (l := l') (p := p') h hp'
  have r2 := zp3 hR id' a' pa' l' p'
  obtain ⟨x1, x2⟩ := zgi h2' r2 hp (zmd.2 hf)
  have h21 := zes (id := id) (a := a) (pa := pa) (l := l) (p := p) h2' hp
  -- the same is listed where the shapes are the same
  have fin : ∀ K K' : Kr, InvT (n + 3 + 3) K → InvT (n + 3 + 3) K' → (∀ i, za5 K i = za5 k i) → (∀ i, za5 K' i = za5 k i) → (∀ i, (i = -1 ∨ za5 k i = true) → zh2 K i = zh2 K' i) → ∀ i, zcf K i = zcf K' i := fun K K' g1 g2 l1 l2 hsh i => by
    rw [zg7 g1, zg7 g2, l1, l2]
    by_cases e : i = -1
    · rw [if_pos e, if_pos e, hsh i (.inl e)]
    · rw [if_neg e, if_neg e]
      cases e2 : za5 k i with
      | false => rfl
      | true => rw [if_neg (by simp), if_neg (by simp), hsh i (.inr e2)]
  have lva : ∀ i, za5 (zb6 (zb6 k id a pa l p).1 id' a' pa' l' p').1 i = za5 k i := fun i => by rw [zb9, zb9]
  have lvb : ∀ i, za5 (zb6 (zb6 k id' a' pa' l' p').1 id a pa l p).1 i = za5 k i := fun i => by rw [zb9, zb9]
  have hlid : id = -1 ∨ za5 k id = true := by
    rcases zc1 h.l hf.w with ⟨_, _, e⟩ | ⟨e, _⟩
    · exact .inl e
    · exact .inr e
  have hlid' : id' = -1 ∨ za5 k id' = true := by
    rcases zc1 h.l hf'.w with ⟨_, _, e⟩ | ⟨e, _⟩
    · exact .inl e
    · exact .inr e
  by_cases hid : id' = id
  · subst hid
    rw [s1] at hB
    obtain ⟨C, hC, hD⟩ := zvy hA hB
    have m1 := zjs hD
    rcases v2 C hC with ⟨y0, y1, y2, y3⟩ | ⟨y0, y1⟩
    rotate_left
    · rw [s1] at u2; omega
    rw [← y1] at hD
    rcases x2 B hD with ⟨z0, z1, z2, z3⟩ | ⟨z0, z1⟩
    rotate_left
    · rw [s1] at u2; rw [y1] at z1; omega
    refine ⟨y0, z0, by rw [s1] at u2; rw [y1] at z2; omega, fin _ _ h12 h21 lva lvb fun i hi => ?_⟩
    by_cases e : i = id'
    · subst e; rw [u1, z1]
    · rw [u3 i e (by rw [zb9]; exact hi), s3 i e hi, z3 i e (by rw [zb9]; exact hi), y3 i e hi]
  · rw [s3 id' hid hlid'] at hB
    rcases v2 B hB with ⟨y0, y1, y2, y3⟩ | ⟨y0, y1⟩
    rotate_left
    · have := zjs hA
      rw [s3 id' hid hlid'] at u2
      omega
    have hA' := hA
    rw [← y3 id (fun hh => hid hh.symm) hlid] at hA'
    rcases x2 A hA' with ⟨z0, z1, z2, z3⟩ | ⟨z0, z1⟩
    rotate_left
    · have := zjs hB
      rw [y3 id (fun hh => hid hh.symm) hlid] at z1
      rw [s3 id' hid hlid'] at u2
      omega
    refine ⟨y0, z0, by rw [s3 id' hid hlid'] at u2; rw [y3 id (fun hh => hid hh.symm) hlid] at z2; omega, fin _ _ h12 h21 lva lvb fun i hi => ?_⟩
    by_cases e : i = id'
    · subst e; rw [u1, z3 i hid (by rw [zb9]; exact hi), y1]
    · by_cases e2 : i = id
      · subst e2; rw [u3 i e (by rw [zb9]; exact hi), s1, z1]
      · rw [u3 i e (by rw [zb9]; exact hi), s3 i e2 hi, z3 i e2 (by rw [zb9]; exact hi), y3 i e hi]
end Go.Proofs.YtomeaibdedaldaaGreatDoor.LnD
namespace Go.Proofs.YtomeaibdedaldaaGreatDoor.LnF
open Go.RowKit Bv VaSpec Base MemL RegR Ax MemC PutC MemC3 TzC OkS SpA SpB SpC SpD SpE SpF SpN SpO SpG SpH SpI SpJ LaA LaB LaC LaD LaE LaF LaG LiA LiB LiC LiD LiE LiF LrA LrB LrC LjA LjF LkE LmA LmB LmE LnA LnB BitsC PteSpec RfE RfG RfJ RfK LaH RfA RfP RfQ LnD
set_option maxRecDepth 10000
set_option maxHeartbeats 1000000
inductive Dd (E : Int → Int → Pte) (sh : Int) (R : Int → Int → Prop) : Int → Int → Prop
  | lf {s i : Int} (h : zaz (E s i) = true) (r : R s i) : Dd E sh R s i
  | lk {s i : Int} (h : lkP (E s i) = true) (n : (E s i).ppn ≠ sh) (a : ∀ j, (0 ≤ j ∧ j < 512) → E (E s i).ppn j ≠ zP → Dd E sh R (E s i).ppn j) : Dd E sh R s i
section
variable {E E' E2 : Int → Int → Pte} {al al' al2 : Int → Prop} {sh : Int} {R R' : Int → Int → Prop}
theorem z13 {p : Pte} (h : zaz p = true) : p ≠ zP := fun e => by rw [e] at h; cases h
theorem zn6 {p : Pte} (h : lkP p = true) : p ≠ zP := fun e => by rw [e] at h; cases h
theorem Dd.nz {s i : Int} (h : Dd E sh R s i) : E s i ≠ zP := by
  cases h with
  | lf h _ => exact z13 h
  | lk h _ _ => exact zn6 h
theorem Dd.mono (hR : ∀ s i, zaz (E s i) = true → R s i → R' s i) {s i : Int} (h : Dd E sh R s i) : Dd E sh R' s i := by
  induction h with
  | lf h r => exact .lf h (hR _ _ h r)
  | lk h n a ih => exact .lk h n ih
theorem Dd.inv {s i : Int} (h : Dd E sh R s i) : (zaz (E s i) = true ∧ R s i) ∨ (lkP (E s i) = true ∧ (E s i).ppn ≠ sh ∧ ∀ j, (0 ≤ j ∧ j < 512) → E (E s i).ppn j ≠ zP → Dd E sh R (E s i).ppn j) := by
  cases h with
  | lf h r => exact .inl ⟨h, r⟩
  | lk h n a => exact .inr ⟨h, n, a⟩
structure Rm (E : Int → Int → Pte) (al : Int → Prop) (sh : Int) (R : Int → Int → Prop) (E' : Int → Int → Pte) (al' : Int → Prop) : Prop where
  z : ∀ s i, (0 ≤ i ∧ i < 512) → Dd E sh R s i → E' s i = zP
  k : ∀ s i, (0 ≤ i ∧ i < 512) → ¬ Dd E sh R s i → E' s i = E s i
  a : ∀ s, al' s ↔ al s ∧ ∀ t i, (0 ≤ i ∧ i < 512) → lkP (E t i) = true → (E t i).ppn = s → ¬ Dd E sh R t i
theorem Rm.nz (h : Rm E al sh R E' al') {s i : Int} (hi : 0 ≤ i ∧ i < 512) (hn : E' s i ≠ zP) : ¬ Dd E sh R s i ∧ E' s i = E s i := by
  have : ¬ Dd E sh R s i := fun hd => hn (h.z s i hi hd)
  exact ⟨this, h.k s i hi this⟩
theorem Rm.comp1 (h : Rm E al sh R E' al') {s i : Int} (hd : Dd E' sh R' s i) : (0 ≤ i ∧ i < 512) → Dd E sh (fun s i => R s i ∨ R' s i) s i := by
  induction hd with
  | lf g r => intro hi; rw [(h.nz hi (z13 g)).2] at g; exact .lf g (.inr r)
  | @lk s i g n a ih =>
    intro hi
    have e := (h.nz hi (zn6 g)).2
    rw [e] at g n a ih
    refine .lk g n fun j hj hne => ?_
    by_cases c : Dd E sh R (E s i).ppn j
    · exact c.mono fun _ _ _ r => .inl r
    · exact ih j hj (by rw [h.k _ j hj c]; exact hne) hj
theorem Rm.comp2 (h : Rm E al sh R E' al') {s i : Int} (hd : Dd E sh (fun s i => R s i ∨ R' s i) s i) : (0 ≤ i ∧ i < 512) → Dd E sh R s i ∨ Dd E' sh R' s i := by
  induction hd with
  | @lf s i g r =>
    intro hi
    rcases r with r | r
    · exact .inl (.lf g r)
    · by_cases c : Dd E sh R s i
      · exact .inl c
      · exact .inr (.lf (by rw [h.k s i hi c]; exact g) r)
  | @lk s i g n a ih =>
    intro hi
    by_cases c : Dd E sh R s i
    · exact .inl c
    · have e := h.k s i hi c
      refine .inr (.lk (by rw [e]; exact g) (by rw [e]; exact n) fun j hj hne => ?_)
      rw [e] at hne ⊢
      obtain ⟨c1, c2⟩ := h.nz hj hne
      exact (ih j hj (by rw [← c2]; exact hne) hj).resolve_left c1
theorem Rm.comp (h : Rm E al sh R E' al') (g : Rm E' al' sh R' E2 al2) : Rm E al sh (fun s i => R s i ∨ R' s i) E2 al2 := by
  refine ⟨fun s i hi hd => ?_, fun s i hi hd => ?_, fun s => ?_⟩
  · rcases h.comp2 hd hi with c | c
    · by_cases d : Dd E' sh R' s i
      · exact g.z s i hi d
      · rw [g.k s i hi d]; exact h.z s i hi c
    · exact g.z s i hi c
  · have c : ¬ Dd E sh R s i := fun c => hd (c.mono fun _ _ _ r => .inl r)
    have d : ¬ Dd E' sh R' s i := fun d => hd (h.comp1 d hi)
    rw [g.k s i hi d, h.k s i hi c]
  · rw [g.a, h.a]
    constructor
    · rintro ⟨⟨q1, q2⟩, q3⟩
      refine ⟨q1, fun t i hi k1 k2 hd => ?_⟩
      have c := q2 t i hi k1 k2
      have e := h.k t i hi c
      rcases h.comp2 hd hi with d | d
      · exact c d
      · exact q3 t i hi (by rw [e]; exact k1) (by rw [e]; exact k2) d
    · rintro ⟨q1, q2⟩
      refine ⟨⟨q1, fun t i hi k1 k2 hd => q2 t i hi k1 k2 (hd.mono fun _ _ _ r => .inl r)⟩, fun t i hi k1 k2 hd => ?_⟩
      have e := (h.nz hi (zn6 k1)).2
      rw [e] at k1 k2
      exact q2 t i hi k1 k2 (h.comp1 hd hi)
theorem Rm.cong (h : Rm E al sh R E' al') (hR : ∀ s i, (0 ≤ i ∧ i < 512) → zaz (E s i) = true → (R s i ↔ R' s i)) : (∀ s i, (0 ≤ i ∧ i < 512) → (Dd E sh R s i ↔ Dd E sh R' s i)) := by
  have key : ∀ {R R' : Int → Int → Prop}, (∀ s i, (0 ≤ i ∧ i < 512) → zaz (E s i) = true → R s i → R' s i) → ∀ {s i}, Dd E sh R s i → (0 ≤ i ∧ i < 512) → Dd E sh R' s i := fun {R R'} hR {s i} hd => by
    induction hd with
    | lf g r => intro hi; exact .lf g (hR _ _ hi g r)
    | lk g n a ih => intro hi; exact .lk g n fun j hj hne => ih j hj hne hj
  exact fun s i hi => ⟨fun hd => key (fun s i hi g => (hR s i hi g).1) hd hi, fun hd => key (fun s i hi g => (hR s i hi g).2) hd hi⟩
theorem Rm.same (h : Rm E al sh R E' al') (g : Rm E al sh R' E2 al2) (hR : ∀ s i, (0 ≤ i ∧ i < 512) → zaz (E s i) = true → (R s i ↔ R' s i)) : (∀ s i, (0 ≤ i ∧ i < 512) → E' s i = E2 s i) ∧ ∀ s, al' s ↔ al2 s := by
  have hc := h.cong hR
  refine ⟨fun s i hi => ?_, fun s => ?_⟩
  · by_cases c : Dd E sh R s i
    · rw [h.z s i hi c, g.z s i hi ((hc s i hi).1 c)]
    · rw [h.k s i hi c, g.k s i hi fun d => c ((hc s i hi).2 d)]
  · rw [h.a, g.a]
    exact and_congr Iff.rfl ⟨fun q t i hi k1 k2 hd => q t i hi k1 k2 ((hc t i hi).2 hd), fun q t i hi k1 k2 hd => q t i hi k1 k2 ((hc t i hi).1 hd)⟩
end
def zn7 (sz : Int) (xs : List (Int × Int)) (a zam : Int) : Nat → Int → List (Int × Int)
  | 0, t => [(t, idx a 0)]
  | l + 1, t => (t, idx a ((l + 1 : Nat) : Int)) :: (if zam < ((l + 1 : Nat) : Int) ∧ za0 (atM sz xs t (idx a ((l + 1 : Nat) : Int))) ((l + 1 : Nat) : Int) = true then zn7 sz xs a zam l (atM sz xs t (idx a ((l + 1 : Nat) : Int))).ppn else [])
theorem zze {sz a zam t : Int} {xs : List (Int × Int)} {l : Nat} (h1 : zam < ((l + 1 : Nat) : Int)) (h2 : za0 (atM sz xs t (idx a ((l + 1 : Nat) : Int))) ((l + 1 : Nat) : Int) = true) : zn7 sz xs a zam (l + 1) t = (t, idx a ((l + 1 : Nat) : Int)) :: zn7 sz xs a zam l (atM sz xs t (idx a ((l + 1 : Nat) : Int))).ppn := by
  show _ :: (if _ then _ else _) = _
  rw [if_pos ⟨h1, h2⟩]
section
variable {cd cp sz f sh : Int} {xs : List (Int × Int)} {lv : Int → Int}
def zzf (sz : Int) (xs : List (Int × Int)) (t i : Int) (l : Nat) : Int → Int → Prop := fun s j => (s = t ∧ j = i) ∨ (lkP (atM sz xs t i) = true ∧ s ∈ frN sz xs (l - 1) (atM sz xs t i).ppn)
theorem zzg (h : TI cd cp sz xs f sh lv) (hn : NE (atM sz xs) sh) (R : Int → Int → Prop) : ∀ (l : Nat) (g : Int), Al cd cp f g → lv g = l → l ≤ 1 → (∀ s ∈ frN sz xs l g, ∀ j, (0 ≤ j ∧ j < 512) → R s j) → ∀ s ∈ frN sz xs l g, ∀ j, (0 ≤ j ∧ j < 512) → atM sz xs s j ≠ zP → Dd (atM sz xs) sh R s j := by
  intro l
  induction l with
  | zero =>
    intro g ha hl _ hR s hs j hj hne
    have e : s = g := by simpa [frN] using hs
    subst e
    rcases h.e.k s j hj with e | ⟨_, _, ⟨e1, _⟩ | ⟨e1, e2, _⟩⟩
    · exact absurd e hne
    · exact .lf e1 (hR _ hs j hj)
    · omega
  | succ l ih =>
    intro g ha hl h1 hR s hs j hj hne
    have key : ∀ j, (0 ≤ j ∧ j < 512) → atM sz xs g j ≠ zP → Dd (atM sz xs) sh R g j ∧ (lkP (atM sz xs g j) = true → ∀ s ∈ frN sz xs l (atM sz xs g j).ppn, s ∈ frN sz xs (l + 1) g) := fun j hj hne => by
      have mem : lkP (atM sz xs g j) = true → ∀ s ∈ frN sz xs l (atM sz xs g j).ppn, s ∈ frN sz xs (l + 1) g := fun hk s hs => by
        simp only [frN, List.mem_cons]
        refine .inr (List.mem_flatMap.2 ⟨j.toNat, List.mem_range.2 (by omega), ?_⟩)
        rw [show ((j.toNat : Nat) : Int) = j by omega, if_pos (zbo hk (by omega))]
        exact hs
      refine ⟨?_, mem⟩
      rcases h.e.k g j hj with e | ⟨_, _, ⟨e1, _⟩ | ⟨e1, e2, e3, e4⟩⟩
      · exact absurd e hne
      · exact .lf e1 (hR _ (zb0 _ _ _ _) j hj)
      · refine .lk e1 (fun e => by have := (h.e.s g j hj e1 e).2; omega) fun j' hj' hne' => ?_
        exact ih _ e4 (by rw [e3, hl]; omega) (by omega) (fun s hs j hj => hR s (mem e1 s hs) j hj) _ (zb0 _ _ _ _) j' hj' hne'
    simp only [frN, List.mem_cons] at hs
    rcases hs with rfl | hs
    · exact (key j hj hne).1
    · obtain ⟨i, hi, hs⟩ := List.mem_flatMap.1 hs
      have hi := List.mem_range.1 hi
      split at hs
      · rename_i hlk
        obtain ⟨k1, k2, k3, k4, k5⟩ := zg2 h (by omega) hlk
        exact ih _ k5 (by rw [k4, hl]; omega) (by omega) (fun s' hs' j hj => hR s' ((key i (by omega) (zn6 k1)).2 k1 s' hs') j hj) s hs j hj hne
      · cases hs
theorem zjt (h : TI cd cp sz xs f sh lv) : ∀ (l : Nat) (g : Int), Al cd cp f g → lv g = l → ∀ s ∈ frN sz xs l g, ∀ j, (0 ≤ j ∧ j < 512) → lkP (atM sz xs s j) = true → (atM sz xs s j).ppn ∈ frN sz xs l g := by
  intro l
  induction l with
  | zero =>
    intro g ha hl s hs j hj hk
    have e : s = g := by simpa [frN] using hs
    have := (zbz h hj hk).2.1
    rw [e] at this
    omega
  | succ l ih =>
    intro g ha hl s hs j hj hk
    simp only [frN, List.mem_cons] at hs ⊢
    rcases hs with rfl | hs
    · refine .inr (List.mem_flatMap.2 ⟨j.toNat, List.mem_range.2 (by omega), ?_⟩)
      rw [show ((j.toNat : Nat) : Int) = j by omega, if_pos (zbo hk (by omega))]
      exact zb0 _ _ _ _
    · obtain ⟨i, hi, hs⟩ := List.mem_flatMap.1 hs
      have hi' := List.mem_range.1 hi
      refine .inr (List.mem_flatMap.2 ⟨i, hi, ?_⟩)
      split at hs
      · rename_i hlk
        rw [if_pos hlk]
        obtain ⟨k1, k2, k3, k4, k5⟩ := zg2 h (by omega) hlk
        exact ih _ k5 (by rw [k4, hl]; omega) s hs j hj hk
      · cases hs
theorem zeg (h : TI cd cp sz xs f sh lv) (a zam : Int) (hw : 0 ≤ zam) {t : Int} {l' : Nat} : ∀ (l : Nat) (t0 : Int), Al cd cp f t0 → lv t0 = l → zam ≤ (l : Int) → zat sz xs a zam l t0 = (t, (l' : Int)) →
    (t, idx a (l' : Int)) ∈ zn7 sz xs a zam l t0 ∧ l' ≤ l ∧ lv t = l' ∧ Al cd cp f t ∧ ∀ s j, (s, j) ∈ zn7 sz xs a zam l t0 → j = idx a (lv s) ∧ ((l' : Int) ≤ lv s ∧ lv s ≤ l) ∧ Al cd cp f s ∧ (s = t0 ∨ ∃ s' i', (s', i') ∈ zn7 sz xs a zam l t0 ∧ lkP (atM sz xs s' i') = true ∧ (atM sz xs s' i').ppn = s) := by
  intro l
  induction l with
  | zero =>
    intro t0 ha hl hwl hr
    have hr : (t0, (0 : Int)) = (t, (l' : Int)) := hr
    simp only [Prod.mk.injEq] at hr
    obtain ⟨rfl, e⟩ := hr
    obtain rfl : l' = 0 := by omega
    refine ⟨List.mem_singleton.2 rfl, by omega, hl, ha, fun s j hm => ?_⟩
    have hm := List.mem_singleton.1 hm
    simp only [Prod.mk.injEq] at hm
    obtain ⟨rfl, rfl⟩ := hm
    exact ⟨by rw [hl]; rfl, ⟨by omega, by omega⟩, ha, .inl rfl⟩
  | succ l ih =>
    intro t0 ha hl hwl hr
    have hi := idx_bd a ((l + 1 : Nat) : Int)
    by_cases c : zam < ((l + 1 : Nat) : Int) ∧ za0 (atM sz xs t0 (idx a ((l + 1 : Nat) : Int))) ((l + 1 : Nat) : Int) = true
    · obtain ⟨k1, k2, k3, k4, k5⟩ := zg2 h hi c.2
      rw [zba c.1 c.2] at hr
      obtain ⟨q1, q2, q3, q4, q5⟩ := ih _ k5 (by rw [k4, hl]; omega) (by omega) hr
      rw [zze c.1 c.2]
      refine ⟨List.mem_cons_of_mem _ q1, by omega, q3, q4, fun s j hm => ?_⟩
      rcases List.mem_cons.1 hm with e | hm
      · simp only [Prod.mk.injEq] at e
        obtain ⟨rfl, rfl⟩ := e
        exact ⟨by rw [hl], ⟨by omega, by omega⟩, ha, .inl rfl⟩
      · obtain ⟨r1, r2, r3, r4⟩ := q5 s j hm
        refine ⟨r1, ⟨r2.1, by omega⟩, r3, .inr ?_⟩
        rcases r4 with rfl | ⟨s', i', m1, m2, m3⟩
        · exact ⟨t0, _, List.mem_cons_self .., k1, rfl⟩
        · exact ⟨s', i', List.mem_cons_of_mem _ m1, m2, m3⟩
    · have hno : zat sz xs a zam (l + 1) t0 = (t0, ((l + 1 : Nat) : Int)) := za1 (fun hh => by
        cases e : za0 (atM sz xs t0 (idx a ((l + 1 : Nat) : Int))) ((l + 1 : Nat) : Int) with
        | false => rfl
        | true => exact absurd ⟨hh, e⟩ c) hw
      rw [hno] at hr
      simp only [Prod.mk.injEq] at hr
      obtain ⟨rfl, e⟩ := hr
      obtain rfl : l' = l + 1 := by omega
      have hW : zn7 sz xs a zam (l + 1) t0 = [(t0, idx a ((l + 1 : Nat) : Int))] := by
        show _ :: (if _ then _ else _) = _
        rw [if_neg c]
      rw [hW]
      refine ⟨List.mem_singleton.2 rfl, by omega, hl, ha, fun s j hm => ?_⟩
      have hm := List.mem_singleton.1 hm
      simp only [Prod.mk.injEq] at hm
      obtain ⟨rfl, rfl⟩ := hm
      exact ⟨by rw [hl], ⟨by omega, by omega⟩, ha, .inl rfl⟩
theorem zzh (h : TI cd cp sz xs f sh lv) (hn : NE (atM sz xs) sh) (a zam : Int) (hw : 0 ≤ zam) {t top : Int} {l0 l' : Nat} (ha : Al cd cp f top) (hl : lv top = l0) (hwl : zam ≤ (l0 : Int)) (h0 : l0 = 2 ∨ top = sh) (hr : zat sz xs a zam l0 top = (t, (l' : Int))) {s j : Int} (hd : Dd (atM sz xs) sh (zzf sz xs t (idx a (l' : Int)) l') s j) :
    (0 ≤ j ∧ j < 512) → (s, j) ∈ zn7 sz xs a zam l0 top ∨ (lkP (atM sz xs t (idx a (l' : Int))) = true ∧ s ∈ frN sz xs (l' - 1) (atM sz xs t (idx a (l' : Int))).ppn) := by
  obtain ⟨w1, w2, w3, w4, w5⟩ := zeg h a zam hw l0 top ha hl hwl hr
  have hi := idx_bd a (l' : Int)
  induction hd with
  | lf g r =>
    intro _
    rcases r with ⟨rfl, rfl⟩ | r
    · exact .inl w1
    · exact .inr r
  | @lk s j g n b ih =>
    intro hj
    obtain ⟨j', hj', hne⟩ := hn s j hj g n
    obtain ⟨b1, b2, b3, b4⟩ := zbz h hj g
    rcases ih j' hj' hne hj' with m | ⟨m1, m2⟩
    · obtain ⟨_, _, _, v⟩ := w5 _ _ m
      rcases v with e | ⟨s', i', v1, v2, v3⟩
      · rcases h0 with h0 | h0
        · rw [e, hl, h0] at b3; omega
        · exact absurd (e.trans h0) n
      · have hi' : 0 ≤ i' ∧ i' < 512 := by rw [(w5 _ _ v1).1]; exact idx_bd _ _
        obtain ⟨rfl, rfl⟩ := h.e.u s j s' i' hj hi' g v2 v3.symm n
        exact .inl v1
    · obtain ⟨c1, c2, c3, c4⟩ := zbz h hi m1
      obtain ⟨_, _, v⟩ := zbb h (l' - 1) _ c4 (by rw [c3, w3]; omega) _ m2
      rcases v with e | ⟨s', v0, i', v1, v2, v3, _⟩
      · obtain ⟨rfl, rfl⟩ := h.e.u s j t _ hj hi g m1 e n
        exact .inl w1
      · obtain ⟨rfl, rfl⟩ := h.e.u s j s' i' hj v1 g v2 v3.symm n
        exact .inr ⟨m1, v0⟩
theorem zzi (h : TI cd cp sz xs f sh lv) {t a e : Int} {l' : Nat} (s : Int) : Al cd cp (zeh sz cd cp (xs, f, (t, (l' : Int)), e) a).2 s ↔ Al cd cp f s ∧ ¬ (zbk (atM sz xs t (idx a (l' : Int))) = true ∧ s ∈ frN sz xs ((l' : Int) - 1).toNat (atM sz xs t (idx a (l' : Int))).ppn) := by
  by_cases c : zbk (atM sz xs t (idx a (l' : Int))) = true
  · have e1 : zeh sz cd cp (xs, f, (t, (l' : Int)), e) a = bkN cd cp (frN sz xs ((l' : Int) - 1).toNat (atM sz xs t (idx a (l' : Int))).ppn) (xs, f) := if_pos c
    rw [e1]
    have hb := zg1 cd cp sz h.bp (frN sz xs ((l' : Int) - 1).toNat (atM sz xs t (idx a (l' : Int))).ppn) (xs, f) h.s h.bf
    rw [hb.a s]
    exact and_congr Iff.rfl ⟨fun q hh => q hh.2, fun q hh => q ⟨c, hh⟩⟩
  · have e1 : zeh sz cd cp (xs, f, (t, (l' : Int)), e) a = (xs, f) := if_neg c
    rw [e1]
    exact ⟨fun q => ⟨q, fun hh => c hh.1⟩, fun q => q.1⟩
theorem zju (h : TI cd cp sz xs f sh lv) {t i : Int} (hi : 0 ≤ i ∧ i < 512) : zbk (atM sz xs t i) = true ↔ lkP (atM sz xs t i) = true := by
  constructor
  · intro c
    rcases h.e.k t i hi with e | ⟨_, _, ⟨e, _⟩ | ⟨e, _⟩⟩
    · rw [e] at c; cases c
    · rw [(zbp e).1] at c; cases c
    · exact e
  · exact fun c => (zbs c).1
structure PrD (sz cd cp : Int) (xs : List (Int × Int)) (sh : Int) (R : Int → Int → Prop) (W : List (Int × Int)) (c r : List (Int × Int) × Int) : Prop where
  z : ∀ s j, (0 ≤ j ∧ j < 512) → (s, j) ∈ W → Dd (atM sz xs) sh R s j → atM sz r.1 s j = zP
  k : ∀ s j, (0 ≤ j ∧ j < 512) → ¬ ((s, j) ∈ W ∧ Dd (atM sz xs) sh R s j) → atM sz r.1 s j = atM sz c.1 s j
  a : ∀ s, Al cd cp r.2 s ↔ Al cd cp c.2 s ∧ ∀ t i, (t, i) ∈ W → lkP (atM sz xs t i) = true → (atM sz xs t i).ppn = s → ¬ Dd (atM sz xs) sh R t i
theorem zx9 (h : TI cd cp sz xs f sh lv) (hn : NE (atM sz xs) sh) (hsh : Al cd cp f sh) (a zam : Int) (hw : 0 ≤ zam) {t top e : Int} {l0 l' : Nat} (ha : Al cd cp f top) (hl : lv top = l0) (hwl : zam ≤ (l0 : Int)) (h02 : l0 ≤ 2) (hH : l0 = 2 → idx a 2 ≠ 511) (h0 : l0 = 2 ∨ top = sh) (hr : zat sz xs a zam l0 top = (t, (l' : Int))) :
    ∀ (l : Nat) (t0 : Int), l ≤ l0 → Al cd cp f t0 → lv t0 = l → zam ≤ (l : Int) → zat sz xs a zam l t0 = (t, (l' : Int)) → (∀ s j, (s, j) ∈ zn7 sz xs a zam l t0 → (s, j) ∈ zn7 sz xs a zam l0 top) →
    PrD sz cd cp xs sh (zzf sz xs t (idx a (l' : Int)) l') (zn7 sz xs a zam l t0) (za7 sz (zeh sz cd cp (xs, f, (t, (l' : Int)), e) a).1 t (idx a (l' : Int)) zP, (zeh sz cd cp (xs, f, (t, (l' : Int)), e) a).2)
      (prN sz cd cp a l t0 (za7 sz (zeh sz cd cp (xs, f, (t, (l' : Int)), e) a).1 t (idx a (l' : Int)) zP, (zeh sz cd cp (xs, f, (t, (l' : Int)), e) a).2)) := by
  obtain ⟨w1, w2, w3, w4, w5⟩ := zeg h a zam hw l0 top ha hl hwl hr
  have hi := idx_bd a (l' : Int)
  have hl2 : l' = 2 → idx a 2 ≠ 511 := fun hh => hH (by omega)
  have hoff := fun s j hd => zzh h hn a zam hw ha hl hwl h0 hr (s := s) (j := j) hd
  have hat := fun s j hj => zzb (e := e) (a := a) (l' := l') h w4 s j hj
  have hal := fun s => zzi (e := e) (a := a) (l' := l') (t := t) h s
  obtain ⟨c1, c2, _⟩ := zq7 (e := e) (a := a) h hsh w4 w3 (by omega) hl2
  have hln : ((l' : Int) - 1).toNat = l' - 1 := by omega
  rw [hln] at hat hal
  have hF : ∀ g, lkP (atM sz xs t (idx a (l' : Int))) = true → g ∈ frN sz xs (l' - 1) (atM sz xs t (idx a (l' : Int))).ppn → lv g < l' := fun g k1 k2 => by
    obtain ⟨b1, b2, b3, b4⟩ := zbz h hi k1
    have := (zbb h (l' - 1) _ b4 (by rw [b3, w3]; omega) g k2).2.1
    omega
  have hspot : atM sz xs t (idx a (l' : Int)) ≠ zP → Dd (atM sz xs) sh (zzf sz xs t (idx a (l' : Int)) l') t (idx a (l' : Int)) := fun hne => by
    rcases h.e.k t _ hi with e | ⟨_, _, ⟨e1, _⟩ | ⟨e1, e2, e3, e4⟩⟩
    · exact absurd e hne
    · exact .lf e1 (.inl ⟨rfl, rfl⟩)
    · have hns : (atM sz xs t (idx a (l' : Int))).ppn ≠ sh := fun ee => by
        obtain ⟨q1, q2⟩ := h.e.s t _ hi e1 ee
        have e5 : l' = 2 := by omega
        rw [e5] at q1
        exact hl2 e5 q1
      refine .lk e1 hns fun j hj hne => ?_
      exact zzg h hn _ (l' - 1) _ e4 (by rw [e3, w3]; omega) (by omega) (fun s hs j hj => .inr ⟨e1, hs⟩) _ (zb0 _ _ _ _) j hj hne
  generalize hc0 : (za7 sz (zeh sz cd cp (xs, f, (t, (l' : Int)), e) a).1 t (idx a (l' : Int)) zP, (zeh sz cd cp (xs, f, (t, (l' : Int)), e) a).2) = c at *
  have hc1 : za7 sz (zeh sz cd cp (xs, f, (t, (l' : Int)), e) a).1 t (idx a (l' : Int)) zP = c.1 := by rw [← hc0]
  have hc2 : (zeh sz cd cp (xs, f, (t, (l' : Int)), e) a).2 = c.2 := by rw [← hc0]
  rw [hc1] at hat c1
  rw [hc2] at hal c1 c2
  clear hc0 hc1 hc2
  generalize hRR : zzf sz xs t (idx a (l' : Int)) l' = R at *
  intro l
  induction l with
  | zero =>
    intro t0 _ hta hlt hwl0 hrt _
    have hrt : (t0, (0 : Int)) = (t, (l' : Int)) := hrt
    simp only [Prod.mk.injEq] at hrt
    obtain ⟨rfl, e0⟩ := hrt
    obtain rfl : l' = 0 := by omega
    show PrD sz cd cp xs sh R [(t0, idx a 0)] c c
    refine ⟨fun s j hj hm _ => ?_, fun s j hj _ => rfl, fun s => ⟨fun q => ⟨q, fun t' i' hm k1 _ => ?_⟩, fun q => q.1⟩⟩
    · have hm := List.mem_singleton.1 hm
      simp only [Prod.mk.injEq] at hm
      rw [hat s j hj, if_pos ⟨hm.1, hm.2⟩]
    · have hm := List.mem_singleton.1 hm
      simp only [Prod.mk.injEq] at hm
      rw [hm.1, hm.2] at k1
      have := (zbz h hi k1).2.1
      rw [hlt] at this
      omega
  | succ l ih =>
    intro t0 hll hta hlt hwl0 hrt hsub
    have hi0 := idx_bd a ((l + 1 : Nat) : Int)
    by_cases cg : zam < ((l + 1 : Nat) : Int) ∧ za0 (atM sz xs t0 (idx a ((l + 1 : Nat) : Int))) ((l + 1 : Nat) : Int) = true
    · -- the way goes on
      obtain ⟨k1, k2, k3, k4, k5⟩ := zg2 h hi0 cg.2
      rw [zba cg.1 cg.2] at hrt
      have hlg : lv (atM sz xs t0 (idx a ((l + 1 : Nat) : Int))).ppn = l := by rw [k4, hlt]; omega
      obtain ⟨p1, p2, p3, p4, p5⟩ := zeg h a zam hw l _ k5 hlg (by omega) hrt
      have hW := zze cg.1 cg.2
      rw [hW] at hsub ⊢
      have hsub' : ∀ s j, (s, j) ∈ zn7 sz xs a zam l (atM sz xs t0 (idx a ((l + 1 : Nat) : Int))).ppn → (s, j) ∈ zn7 sz xs a zam l0 top := fun s j hm => hsub s j (List.mem_cons_of_mem _ hm)
      have I := ih _ (by omega) k5 hlg (by omega) hrt hsub'
      have ht0 : t0 ≠ t := fun e => by rw [e, w3] at hlt; omega
      have hE1 : atM sz c.1 t0 (idx a ((l + 1 : Nat) : Int)) = atM sz xs t0 (idx a ((l + 1 : Nat) : Int)) := by
        rw [hat _ _ hi0, if_neg (fun hh => ht0 hh.1), if_neg]
        rintro ⟨m1, m2⟩
        have := hF _ ((zju h hi).1 m1) m2
        omega
      have hgs : (atM sz xs t0 (idx a ((l + 1 : Nat) : Int))).ppn ≠ sh := fun ee => by
        obtain ⟨q1, q2⟩ := h.e.s t0 _ hi0 k1 ee
        have e5 : l0 = 2 := by omega
        rw [show ((l + 1 : Nat) : Int) = 2 by omega] at q1
        exact hH e5 q1
      have hP := zg3 a c1 l (atM sz xs t0 (idx a ((l + 1 : Nat) : Int))).ppn (by omega) (c2 _ k5 (.inr (by rw [hlg]; omega))) hlg (fun hh => by omega)
      -- the table below: what is left of it
      have hgc : ∀ j, (0 ≤ j ∧ j < 512) → (atM sz (prN sz cd cp a l (atM sz xs t0 (idx a ((l + 1 : Nat) : Int))).ppn c).1 (atM sz xs t0 (idx a ((l + 1 : Nat) : Int))).ppn j = zP ↔ atM sz xs (atM sz xs t0 (idx a ((l + 1 : Nat) : Int))).ppn j = zP ∨ Dd (atM sz xs) sh R (atM sz xs t0 (idx a ((l + 1 : Nat) : Int))).ppn j) := fun j hj => by
        have hnF : ¬ (zbk (atM sz xs t (idx a (l' : Int))) = true ∧ (atM sz xs t0 (idx a ((l + 1 : Nat) : Int))).ppn ∈ frN sz xs (l' - 1) (atM sz xs t (idx a (l' : Int))).ppn) := fun hh => by
          have := hF _ ((zju h hi).1 hh.1) hh.2
          omega
        constructor
        · intro hz
          by_cases c : (((atM sz xs t0 (idx a ((l + 1 : Nat) : Int))).ppn, j) ∈ zn7 sz xs a zam l (atM sz xs t0 (idx a ((l + 1 : Nat) : Int))).ppn ∧ Dd (atM sz xs) sh R (atM sz xs t0 (idx a ((l + 1 : Nat) : Int))).ppn j)
          · exact .inr c.2
          · rw [I.k _ j hj c, hat _ j hj] at hz
            by_cases c2 : (atM sz xs t0 (idx a ((l + 1 : Nat) : Int))).ppn = t ∧ j = idx a (l' : Int)
            · by_cases c3 : atM sz xs (atM sz xs t0 (idx a ((l + 1 : Nat) : Int))).ppn j = zP
              · exact .inl c3
              · rw [c2.1, c2.2] at c3 ⊢
                exact .inr (hspot c3)
            · rw [if_neg c2, if_neg hnF] at hz
              exact .inl hz
        · intro hor
          by_cases c : (((atM sz xs t0 (idx a ((l + 1 : Nat) : Int))).ppn, j) ∈ zn7 sz xs a zam l (atM sz xs t0 (idx a ((l + 1 : Nat) : Int))).ppn ∧ Dd (atM sz xs) sh R (atM sz xs t0 (idx a ((l + 1 : Nat) : Int))).ppn j)
          · exact I.z _ j hj c.1 c.2
          · rcases hor with hz | hd
            · rw [I.k _ j hj c, hat _ j hj]
              by_cases c2 : (atM sz xs t0 (idx a ((l + 1 : Nat) : Int))).ppn = t ∧ j = idx a (l' : Int)
              · rw [if_pos c2]
              · rw [if_neg c2, if_neg hnF, hz]
            · exfalso
              refine c ⟨?_, hd⟩
              rcases hoff _ _ hd hj with m | m
              · have e1 := (w5 _ _ m).1
                rw [hlg] at e1
                rw [e1]
                cases l with
                | zero => exact List.mem_singleton.2 rfl
                | succ l => exact List.mem_cons_self ..
              · exact absurd ⟨(zju h hi).2 m.1, m.2⟩ hnF
      have hag := hP.a _ (c2 _ k5 (.inr (by rw [hlg]; omega))) (.inr (by rw [hlg]; omega))
      have hemp := zq6 hP.t hag.1
      have hlkc : za0 (atM sz c.1 t0 (idx a ((l + 1 : Nat) : Int))) ((l + 1 : Nat) : Int) = true := by rw [hE1]; exact cg.2
      have hpr : prN sz cd cp a (l + 1) t0 c = if zf7 (prN sz cd cp a l (atM sz xs t0 (idx a ((l + 1 : Nat) : Int))).ppn c).1 (atM sz xs t0 (idx a ((l + 1 : Nat) : Int))).ppn then
          (za7 sz (TableC.zbc (prN sz cd cp a l (atM sz xs t0 (idx a ((l + 1 : Nat) : Int))).ppn c).1 (atM sz xs t0 (idx a ((l + 1 : Nat) : Int))).ppn) t0 (idx a ((l + 1 : Nat) : Int)) zP, TableC2.zf1 cd cp (prN sz cd cp a l (atM sz xs t0 (idx a ((l + 1 : Nat) : Int))).ppn c).2 (atM sz xs t0 (idx a ((l + 1 : Nat) : Int))).ppn)
          else prN sz cd cp a l (atM sz xs t0 (idx a ((l + 1 : Nat) : Int))).ppn c := by
        conv => lhs; unfold prN
        rw [if_pos hlkc, hE1]
      rw [hpr]
      have hb := h.bd
      have hta' := hta.1
      generalize hg : (atM sz xs t0 (idx a ((l + 1 : Nat) : Int))).ppn = g at *
      generalize hrr : prN sz cd cp a l g c = r at *
      have hDd : Dd (atM sz xs) sh R t0 (idx a ((l + 1 : Nat) : Int)) ↔ zf7 r.1 g = true := by
        constructor
        · intro hd
          cases he : zf7 r.1 g with
          | true => rfl
          | false =>
            exfalso
            obtain ⟨j, hj, hne⟩ := hemp.2 he
            have hz : atM sz r.1 g j = zP := by
              refine (hgc j hj).2 ?_
              by_cases c0 : atM sz xs g j = zP
              · exact .inl c0
              · rcases hd.inv with ⟨q1, _⟩ | ⟨_, _, q3⟩
                · rw [zc8 q1] at k1; cases k1
                · rw [hg] at q3
                  exact .inr (q3 j hj c0)
            unfold atM at hz
            have hu := zfa hP.t.u sz (g * 4096 + j * 8)
            exact zy3 hu hne hz
        · intro he
          refine .lk k1 (by rw [hg]; exact hgs) fun j hj hne => ?_
          rw [hg] at hne ⊢
          have hz : atM sz r.1 g j = zP := by unfold atM; rw [hemp.1 he j hj, zly]
          exact ((hgc j hj).1 hz).resolve_left hne
      cases he : zf7 r.1 g with
      | false =>
        rw [if_neg (by simp)]
        have hnd : ¬ Dd (atM sz xs) sh R t0 (idx a ((l + 1 : Nat) : Int)) := fun hd => by rw [hDd.1 hd] at he; cases he
        refine ⟨fun s j hj hm hd => ?_, fun s j hj hn' => I.k s j hj fun hh => hn' ⟨List.mem_cons_of_mem _ hh.1, hh.2⟩, fun s => ?_⟩
        · rcases List.mem_cons.1 hm with e1 | hm
          · simp only [Prod.mk.injEq] at e1
            rw [e1.1, e1.2] at hd
            exact absurd hd hnd
          · exact I.z s j hj hm hd
        · rw [I.a s]
          refine and_congr Iff.rfl ⟨fun q t' i' hm q1 q2 hd => ?_, fun q t' i' hm => q t' i' (List.mem_cons_of_mem _ hm)⟩
          rcases List.mem_cons.1 hm with e1 | hm
          · simp only [Prod.mk.injEq] at e1
            rw [e1.1, e1.2] at hd
            exact hnd hd
          · exact q t' i' hm q1 q2 hd
      | true =>
        rw [if_pos rfl]
        have hd0 := hDd.2 he
        have hzg : ∀ j, (0 ≤ j ∧ j < 512) → atM sz r.1 g j = zP := fun j hj => by unfold atM; rw [hemp.1 he j hj, zly]
        have hwi : za7 sz (TableC.zbc r.1 g) t0 (idx a ((l + 1 : Nat) : Int)) zP = zbq (TableC.zbc r.1 g) (t0 * 512 + idx a ((l + 1 : Nat) : Int)) 0 := by
          rw [zep z2o (by omega) hi0 (by rw [h.bz]; omega), znt]
        have hE : ∀ s j, (0 ≤ j ∧ j < 512) → atM sz (za7 sz (TableC.zbc r.1 g) t0 (idx a ((l + 1 : Nat) : Int)) zP) s j = if s = t0 ∧ j = idx a ((l + 1 : Nat) : Int) then zP else atM sz r.1 s j := fun s j hj => by
          rw [hwi, zfg (cd := cd) (cp := cp) (zcx _ hP.t.s) h.bz (by omega) hi0 s j hj, zl5 hP.t.s _ s j hj]
          split
          · rfl
          · split
            · rename_i e1; rw [e1, hzg j hj]
            · rfl
        refine ⟨fun s j hj hm hd => ?_, fun s j hj hn' => ?_, fun s => ?_⟩
        · show atM sz (za7 sz (TableC.zbc r.1 g) t0 (idx a ((l + 1 : Nat) : Int)) zP) s j = zP
          rw [hE s j hj]
          rcases List.mem_cons.1 hm with e1 | hm
          · simp only [Prod.mk.injEq] at e1
            rw [if_pos e1]
          · split
            · rfl
            · exact I.z s j hj hm hd
        · show atM sz (za7 sz (TableC.zbc r.1 g) t0 (idx a ((l + 1 : Nat) : Int)) zP) s j = _
          rw [hE s j hj, if_neg]
          · exact I.k s j hj fun hh => hn' ⟨List.mem_cons_of_mem _ hh.1, hh.2⟩
          · intro e1
            refine hn' ⟨?_, by rw [e1.1, e1.2]; exact hd0⟩
            rw [e1.1, e1.2]; exact List.mem_cons_self ..
        · show Al cd cp (TableC2.zf1 cd cp r.2 g) s ↔ _
          rw [zpz h.bp hP.t.bf, I.a s, and_assoc]
          refine and_congr Iff.rfl ⟨fun q t' i' hm q1 q2 hd => ?_, fun q => ⟨fun t' i' hm => q t' i' (List.mem_cons_of_mem _ hm), fun e1 => ?_⟩⟩
          · rcases List.mem_cons.1 hm with e1 | hm
            · simp only [Prod.mk.injEq] at e1
              rw [e1.1, e1.2, hg] at q2
              exact q.2 q2.symm
            · exact q.1 t' i' hm q1 q2 hd
          · exact q t0 _ (List.mem_cons_self ..) k1 (hg.trans e1.symm) hd0
    · -- the way ends
      have hno : zat sz xs a zam (l + 1) t0 = (t0, ((l + 1 : Nat) : Int)) := za1 (fun hh => by
        cases e : za0 (atM sz xs t0 (idx a ((l + 1 : Nat) : Int))) ((l + 1 : Nat) : Int) with
        | false => rfl
        | true => exact absurd ⟨hh, e⟩ cg) hw
      rw [hno] at hrt
      simp only [Prod.mk.injEq] at hrt
      obtain ⟨rfl, e0⟩ := hrt
      obtain rfl : l' = l + 1 := by omega
      have hW : zn7 sz xs a zam (l + 1) t0 = [(t0, idx a ((l + 1 : Nat) : Int))] := by
        show _ :: (if _ then _ else _) = _
        rw [if_neg cg]
      have hz := hat t0 _ hi0
      rw [if_pos ⟨rfl, rfl⟩] at hz
      have hpr : prN sz cd cp a (l + 1) t0 c = c := by
        unfold prN
        rw [hz, if_neg (by unfold za0 zbk zP; simp)]
      rw [hW, hpr]
      refine ⟨fun s j hj hm _ => ?_, fun s j hj _ => rfl, fun s => ⟨fun q => ⟨q, fun t' i' hm q1 q2 _ => ?_⟩, fun q => q.1⟩⟩
      · have hm := List.mem_singleton.1 hm
        simp only [Prod.mk.injEq] at hm
        rw [hat s j hj, if_pos ⟨hm.1, hm.2⟩]
      · have hm := List.mem_singleton.1 hm
        simp only [Prod.mk.injEq] at hm
        rw [hm.1, hm.2] at q1 q2
        refine ((hal s).1 q).2 ⟨(zbs q1).1, ?_⟩
        rw [q2]
        exact zb0 _ _ _ _
theorem z4h (h : TI cd cp sz xs f sh lv) (hn : NE (atM sz xs) sh) (hsh : Al cd cp f sh) (a zam : Int) (hw : 0 ≤ zam) {t top e : Int} {l0 l' : Nat} (ha : Al cd cp f top) (hl : lv top = l0) (hwl : zam ≤ (l0 : Int)) (h02 : l0 ≤ 2) (hH : l0 = 2 → idx a 2 ≠ 511) (h0 : l0 = 2 ∨ top = sh) (hr : zat sz xs a zam l0 top = (t, (l' : Int))) :
    Rm (atM sz xs) (Al cd cp f) sh (zzf sz xs t (idx a (l' : Int)) l')
      (atM sz (prN sz cd cp a l0 top (za7 sz (zeh sz cd cp (xs, f, (t, (l' : Int)), e) a).1 t (idx a (l' : Int)) zP, (zeh sz cd cp (xs, f, (t, (l' : Int)), e) a).2)).1)
      (Al cd cp (prN sz cd cp a l0 top (za7 sz (zeh sz cd cp (xs, f, (t, (l' : Int)), e) a).1 t (idx a (l' : Int)) zP, (zeh sz cd cp (xs, f, (t, (l' : Int)), e) a).2)).2) := by
  obtain ⟨w1, w2, w3, w4, w5⟩ := zeg h a zam hw l0 top ha hl hwl hr
  have P := zx9 (e := e) h hn hsh a zam hw ha hl hwl h02 hH h0 hr l0 top (Nat.le_refl _) ha hl hwl hr (fun _ _ hm => hm)
  have hi := idx_bd a (l' : Int)
  have hoff := fun s j hd => zzh h hn a zam hw ha hl hwl h0 hr (s := s) (j := j) hd
  have hat := fun s j hj => zzb (e := e) (a := a) (l' := l') h w4 s j hj
  have hal := fun s => zzi (e := e) (a := a) (l' := l') (t := t) h s
  have hln : ((l' : Int) - 1).toNat = l' - 1 := by omega
  rw [hln] at hat hal
  have hFd : lkP (atM sz xs t (idx a (l' : Int))) = true → ∀ s ∈ frN sz xs (l' - 1) (atM sz xs t (idx a (l' : Int))).ppn, ∀ j, (0 ≤ j ∧ j < 512) → atM sz xs s j ≠ zP → Dd (atM sz xs) sh (zzf sz xs t (idx a (l' : Int)) l') s j := fun k1 => by
    obtain ⟨b1, b2, b3, b4⟩ := zbz h hi k1
    exact zzg h hn _ (l' - 1) _ b4 (by rw [b3, w3]; omega) (by omega) (fun s hs j hj => .inr ⟨k1, hs⟩)
  have hspot : atM sz xs t (idx a (l' : Int)) ≠ zP → Dd (atM sz xs) sh (zzf sz xs t (idx a (l' : Int)) l') t (idx a (l' : Int)) := fun hne => by
    rcases h.e.k t _ hi with e | ⟨_, _, ⟨e1, _⟩ | ⟨e1, e2, e3, e4⟩⟩
    · exact absurd e hne
    · exact .lf e1 (.inl ⟨rfl, rfl⟩)
    · have hns : (atM sz xs t (idx a (l' : Int))).ppn ≠ sh := fun ee => by
        obtain ⟨q1, q2⟩ := h.e.s t _ hi e1 ee
        have e5 : l' = 2 := by omega
        rw [e5] at q1
        exact hH (by omega) q1
      exact .lk e1 hns fun j hj hne => hFd e1 _ (zb0 _ _ _ _) j hj hne
  refine ⟨fun s j hj hd => ?_, fun s j hj hd => ?_, fun s => ?_⟩
  · rcases hoff s j hd hj with m | ⟨m1, m2⟩
    · exact P.z s j hj m hd
    · by_cases c : (s, j) ∈ zn7 sz xs a zam l0 top ∧ Dd (atM sz xs) sh (zzf sz xs t (idx a (l' : Int)) l') s j
      · exact P.z s j hj c.1 c.2
      · rw [P.k s j hj c]
        show atM sz (za7 sz (zeh sz cd cp (xs, f, (t, (l' : Int)), e) a).1 t (idx a (l' : Int)) zP) s j = zP
        rw [hat s j hj]
        split
        · rfl
        · rw [if_pos ⟨(zbs m1).1, m2⟩]
  · rw [P.k s j hj fun hh => hd hh.2]
    show atM sz (za7 sz (zeh sz cd cp (xs, f, (t, (l' : Int)), e) a).1 t (idx a (l' : Int)) zP) s j = _
    rw [hat s j hj]
    by_cases c : s = t ∧ j = idx a (l' : Int)
    · rw [if_pos c]
      by_cases c2 : atM sz xs s j = zP
      · exact c2.symm
      · rw [c.1, c.2] at c2 hd
        exact absurd (hspot c2) hd
    · rw [if_neg c]
      by_cases c2 : zbk (atM sz xs t (idx a (l' : Int))) = true ∧ s ∈ frN sz xs (l' - 1) (atM sz xs t (idx a (l' : Int))).ppn
      · rw [if_pos c2]
        by_cases c3 : atM sz xs s j = zP
        · exact c3.symm
        · exact absurd (hFd ((zju h hi).1 c2.1) s c2.2 j hj c3) hd
      · rw [if_neg c2]
  · rw [P.a s]
    show Al cd cp (zeh sz cd cp (xs, f, (t, (l' : Int)), e) a).2 s ∧ _ ↔ _
    rw [hal s, and_assoc]
    refine and_congr Iff.rfl ⟨fun q t' i' hi' q1 q2 hd => ?_, fun q => ⟨?_, fun t' i' hm q1 q2 hd => q t' i' (by rw [(w5 _ _ hm).1]; exact idx_bd _ _) q1 q2 hd⟩⟩
    · rcases hoff t' i' hd hi' with m | ⟨m1, m2⟩
      · exact q.2 t' i' m q1 q2 hd
      · obtain ⟨b1, b2, b3, b4⟩ := zbz h hi m1
        have := zjt h (l' - 1) _ b4 (by rw [b3, w3]; omega) t' m2 i' hi' q1
        rw [q2] at this
        exact q.1 ⟨(zbs m1).1, this⟩
    · rintro ⟨m1, m2⟩
      have m1' := (zju h hi).1 m1
      obtain ⟨b1, b2, b3, b4⟩ := zbz h hi m1'
      obtain ⟨_, _, v⟩ := zbb h (l' - 1) _ b4 (by rw [b3, w3]; omega) s m2
      rcases v with e1 | ⟨s', v0, i', v1, v2, v3, _⟩
      · exact q t _ hi m1' e1.symm (hspot (zn6 m1'))
      · exact q s' i' v1 v2 v3 (hFd m1' s' v0 i' v1 (zn6 v2))
end
end Go.Proofs.YtomeaibdedaldaaGreatDoor.LnF
namespace Go.Proofs.YtomeaibdedaldaaGreatDoor.LnG
open Go.RowKit Bv VaSpec Base MemL RegR Ax MemC PutC MemC3 TzC OkS SpA SpB SpC SpD SpE SpF SpN SpO SpG SpH SpI SpJ LaA LaB LaC LaD LaE LaF LaG LiA LiB LiC LiD LiE LiF LrA LrB LrC LjA LjF LkE LmA LmB LmE LnA LnB BitsC PteSpec RfE RfG RfJ RfK LaH RfA RfP RfQ LnD LnF
set_option maxRecDepth 10000
set_option maxHeartbeats 1000000
theorem z5u {E E' : Int → Int → Pte} {al al' : Int → Prop} {sh : Int} {R : Int → Int → Prop} (h : Rm E al sh R E' al') (hn : NE E sh) : NE E' sh := fun s i hi h1 h2 => by
  obtain ⟨c, e⟩ := h.nz hi (zn6 h1)
  rw [e] at h1 h2 ⊢
  refine Classical.byContradiction fun hc => c (.lk h1 h2 fun j hj hne => Classical.byContradiction fun hd => hc ⟨j, hj, ?_⟩)
  rw [h.k _ j hj hd]; exact hne
theorem Rm.conv {E E' : Int → Int → Pte} {al al' : Int → Prop} {sh : Int} {R R' : Int → Int → Prop} (h : Rm E al sh R E' al') (hR : ∀ s i, (0 ≤ i ∧ i < 512) → zaz (E s i) = true → (R s i ↔ R' s i)) : Rm E al sh R' E' al' := by
  have hc := Rm.cong h hR
  exact ⟨fun s i hi hd => h.z s i hi ((hc s i hi).2 hd), fun s i hi hd => h.k s i hi fun d => hd ((hc s i hi).1 d), fun s => by
    rw [h.a s]
    exact and_congr Iff.rfl ⟨fun q t i hi k1 k2 hd => q t i hi k1 k2 ((hc t i hi).2 hd), fun q t i hi k1 k2 hd => q t i hi k1 k2 ((hc t i hi).1 hd)⟩⟩
theorem z4i {cd cp f f' : Int} (hb : 1 ≤ cp ∧ cp ≤ 64) (h : 0 ≤ f ∧ f < 2 ^ cp.toNat) (h' : 0 ≤ f' ∧ f' < 2 ^ cp.toNat) (he : ∀ s, Al cd cp f s ↔ Al cd cp f' s) : f = f' := by
  have u : U f := zgs h.1 h.2 (by omega)
  have u' : U f' := zgs h'.1 h'.2 (by omega)
  have hi : ∀ (g : Int), U g → g < 2 ^ cp.toNat → ∀ i : Nat, cp.toNat ≤ i → (X g).getLsbD i = false := fun g hg hlt i hi => by
    have e : (X g).toNat = g.toNat := zpn hg
    have : (X g).toNat < 2 ^ i := by
      rw [e]
      have h1 : (2 : Int) ^ cp.toNat = ((2 ^ cp.toNat : Nat) : Int) := by push_cast; rfl
      have h2 : 2 ^ cp.toNat ≤ 2 ^ i := Nat.pow_le_pow_right (by omega) hi
      have := hg.1
      omega
    rw [BitVec.getLsbD]
    exact Nat.testBit_lt_two_pow this
  have hX : X f = X f' := by
    refine BitVec.eq_of_getLsbD_eq fun i hi64 => ?_
    by_cases c : cp.toNat ≤ i
    · rw [hi f u h.2 i c, hi f' u' h'.2 i c]
    · have e := he (cd + (i : Int))
      unfold Al at e
      rw [show cd + (i : Int) - cd = (i : Int) by omega, zdm (by omega), zdm (by omega), Int.toNat_natCast] at e
      have r : (cd ≤ cd + (i : Int) ∧ cd + (i : Int) < cd + cp) := by omega
      cases e1 : (X f).getLsbD i <;> cases e2 : (X f').getLsbD i
      · rfl
      · rw [e1, e2] at e
        have := (e.1 ⟨r, rfl⟩).2
        cases this
      · rw [e1, e2] at e
        have := (e.2 ⟨r, rfl⟩).2
        cases this
      · rfl
  have e1 := zpn u
  have e2 := zpn u'
  rw [hX, e2] at e1
  have := u.1
  have := u'.1
  omega
section
variable {cd cp sz sh : Int}
end
theorem zya {n : Nat} {k : Kr} {id a l : Int} (h : InvT n k) (c0 : (zao k id a l).2.2 = 0) : (zao k id a l).2.1 = 2 ∨ (zao k id a l).1 = k.sh := by
  rcases zc1 h.l c0 with ⟨e1, _⟩ | ⟨_, _, _, e, _⟩
  · exact .inr e1
  · exact .inl e
theorem zzj {a v l m : Int} (hl : 0 ≤ l ∧ l ≤ 2) (hm : l ≤ m ∧ m ≤ 2) (ha : m39 a % VaSpec.sz l = 0) (h0 : m39 a ≤ m39 v) (h1 : m39 v < m39 a + VaSpec.sz l) : idx v m = idx a m := by
  rw [← zgh v m (by omega), ← zgh a m (by omega)]
  unfold idx
  rcases (by omega : l = 0 ∨ l = 1 ∨ l = 2) with rfl | rfl | rfl <;> rcases (by omega : m = 0 ∨ m = 1 ∨ m = 2) with rfl | rfl | rfl
  all_goals first
    | (exfalso; omega)
    | (simp only [show VaSpec.sz 0 = 4096 from rfl, show VaSpec.sz 1 = 2097152 from rfl, show VaSpec.sz 2 = 1073741824 from rfl] at *; omega)
theorem z14 {a l : Int} (hl : 0 ≤ l ∧ l ≤ 2) (hv : a = ofv (num a)) (hm : m39 a % VaSpec.sz l = 0) : zhw a l = true := by
  have hb := VaC.z28 (num a)
  have e : isv a = true := by
    rw [← zo0 a (by omega) (by omega), beq_iff_eq]
    conv => rhs; rw [hv]
    have hm2 := zg4 hl hm
    unfold m39 at hm2
    unfold ofv num
    congr 1
    omega
  unfold zhw off
  rw [e, Bool.true_and, beq_iff_eq]
  unfold m39 at hm
  rcases (by omega : l = 0 ∨ l = 1 ∨ l = 2) with rfl | rfl | rfl
  all_goals
    simp only [show VaSpec.sz 0 = 4096 from rfl, show VaSpec.sz 1 = 2097152 from rfl, show VaSpec.sz 2 = 1073741824 from rfl] at *
    omega
section
variable {cd cp sz f sh : Int} {xs : List (Int × Int)} {lv : Int → Int}
theorem zsv (h : TI cd cp sz xs f sh lv) (a v zam w : Int) (hw : 0 ≤ zam) {t : Int} {l' : Nat} (hlk : lkP (atM sz xs t (idx a (l' : Int))) = true) (hwv : 0 ≤ w ∧ w < (l' : Int)) (hix : ∀ m, (l' : Int) ≤ m → m ≤ 2 → idx v m = idx a m) : ∀ (l : Nat) (t0 : Int), l ≤ 2 → Al cd cp f t0 → lv t0 = l → zam ≤ (l : Int) → zat sz xs a zam l t0 = (t, (l' : Int)) → zat sz xs v w l t0 = zat sz xs v w (l' - 1) (atM sz xs t (idx a (l' : Int))).ppn := by
  intro l
  induction l with
  | zero =>
    intro t0 _ hta hlt hwl hr
    have hr : (t0, (0 : Int)) = (t, (l' : Int)) := hr
    simp only [Prod.mk.injEq] at hr
    omega
  | succ l ih =>
    intro t0 h2 hta hlt hwl hr
    have hi := idx_bd a ((l + 1 : Nat) : Int)
    by_cases cg : zam < ((l + 1 : Nat) : Int) ∧ za0 (atM sz xs t0 (idx a ((l + 1 : Nat) : Int))) ((l + 1 : Nat) : Int) = true
    · obtain ⟨k1, k2, k3, k4, k5⟩ := zg2 h hi cg.2
      rw [zba cg.1 cg.2] at hr
      have hlg : lv (atM sz xs t0 (idx a ((l + 1 : Nat) : Int))).ppn = l := by rw [k4, hlt]; omega
      have := (zeg h a zam hw l _ k5 hlg (by omega) hr).2.1
      have e := hix ((l + 1 : Nat) : Int) (by omega) (by omega)
      rw [zba (by omega) (by rw [e]; exact cg.2), e]
      exact ih _ (by omega) k5 hlg (by omega) hr
    · have hno : zat sz xs a zam (l + 1) t0 = (t0, ((l + 1 : Nat) : Int)) := za1 (fun hh => by
        cases e : za0 (atM sz xs t0 (idx a ((l + 1 : Nat) : Int))) ((l + 1 : Nat) : Int) with
        | false => rfl
        | true => exact absurd ⟨hh, e⟩ cg) hw
      rw [hno] at hr
      simp only [Prod.mk.injEq] at hr
      obtain ⟨rfl, e0⟩ := hr
      obtain rfl : l' = l + 1 := by omega
      have e := hix ((l + 1 : Nat) : Int) (by omega) (by omega)
      rw [zba hwv.2 (by rw [e]; exact zbo hlk (by omega)), e]
      rfl
theorem zyb (h : TI cd cp sz xs f sh lv) : ∀ (l : Nat) (t b : Int) (y z : Pg), l ≤ 1 → Al cd cp f t → lv t = l → m39 b % (512 * VaSpec.sz l) = 0 → y ∈ zbf sz xs l t b → z ∈ zbf sz xs l t b → (zat sz xs y.va y.lev l t).1 = (zat sz xs z.va z.lev l t).1 → idx y.va y.lev = idx z.va z.lev → y = z := by
  have leafix : ∀ (l : Nat) (b : Int) (i : Nat) (p : Pte), l ≤ 1 → i < 512 → m39 b % (512 * VaSpec.sz l) = 0 → idx (zmf p (adr b i (l : Int)) (l : Int)).va (l : Int) = (i : Int) := fun l b i p h1 hi hb => by
    obtain ⟨e1, e2⟩ := zb4 (b := b) (i := (i : Int)) (l := (l : Int)) (by omega) (by omega) hb
    have hdv : m39 (adr b i (l : Int)) % VaSpec.sz (l : Int) = 0 := by
      rw [e1]
      rcases (by omega : l = 0 ∨ l = 1) with rfl | rfl
      · have hz : VaSpec.sz ((0 : Nat) : Int) = 4096 := rfl
        rw [hz] at hb ⊢; omega
      · have hz : VaSpec.sz ((1 : Nat) : Int) = 2097152 := rfl
        rw [hz] at hb ⊢; omega
    have hsp := sz_pos (l := (l : Int)) (by omega)
    have e3 := zf8 (a := adr b i (l : Int)) (zg4 (l := (l : Int)) (by omega) hdv)
    exact zjp (l := (l : Int)) (by omega) (by omega) hb (by show _ ≤ m39 (ofv (num _)); rw [e3, e1]; omega) (by show m39 (ofv (num _)) < _; rw [e3, e1]; omega)
  intro l
  induction l with
  | zero =>
    intro t b y z _ ha hl hb hy hz hr hx
    obtain ⟨i, hi, _, ⟨c1, rfl⟩ | ⟨_, m, e, _⟩⟩ := (zbi _ _ _ _ _ _).1 hy
    rotate_left
    · omega
    obtain ⟨j, hj, _, ⟨c2, rfl⟩ | ⟨_, m, e, _⟩⟩ := (zbi _ _ _ _ _ _).1 hz
    rotate_left
    · omega
    have e1 := leafix 0 b i (atM sz xs t i) (by omega) hi hb
    have e2 := leafix 0 b j (atM sz xs t j) (by omega) hj hb
    have : (i : Int) = (j : Int) := e1.symm.trans (hx.trans e2)
    rw [this]
  | succ l ih =>
    intro t b y z h1 ha hl hb hy hz hr hx
    have child : ∀ (i : Nat) (y : Pg), i < 512 → zc3 (atM sz xs t i) ((l + 1 : Nat) : Int) = false → zaz (atM sz xs t i) = false → y ∈ zbf sz xs l (atM sz xs t i).ppn (adr b i ((l + 1 : Nat) : Int)) → lkP (atM sz xs t i) = true ∧ m39 (adr b i ((l + 1 : Nat) : Int)) % (512 * VaSpec.sz (l : Int)) = 0 ∧ zat sz xs y.va y.lev (l + 1) t = zat sz xs y.va y.lev l (atM sz xs t i).ppn ∧ (0 ≤ y.lev ∧ y.lev ≤ (l : Int)) := fun i y hi c0 c1 hy => by
      have hi' : (0 : Int) ≤ (i : Int) ∧ (i : Int) < 512 := by omega
      have hlk : lkP (atM sz xs t i) = true := by
        rcases h.e.k t i hi' with e | ⟨_, _, ⟨e, _⟩ | ⟨e, _⟩⟩
        · rw [e] at c0; cases c0
        · rw [e] at c1; cases c1
        · exact e
      obtain ⟨e1, e2⟩ := zb4 (b := b) (i := (i : Int)) (l := ((l + 1 : Nat) : Int)) (by omega) (by omega) hb
      have hss := zet (l := ((l + 1 : Nat) : Int)) (by omega)
      rw [show ((l + 1 : Nat) : Int) - 1 = (l : Int) by omega] at hss
      have hdv : m39 (adr b i ((l + 1 : Nat) : Int)) % (512 * VaSpec.sz (l : Int)) = 0 := by
        rw [e1, ← hss]
        obtain rfl : l = 0 := by omega
        have hz : VaSpec.sz ((0 + 1 : Nat) : Int) = 2097152 := rfl
        rw [hz] at hb ⊢; omega
      obtain ⟨q1, q2, q3, q4, q5⟩ := zeu sz xs l (atM sz xs t i).ppn (adr b i ((l + 1 : Nat) : Int)) y (by omega) hdv hy
      have hsp := sz_pos (l := y.lev) (by omega)
      have hix : idx y.va ((l + 1 : Nat) : Int) = (i : Int) := zjp (by omega) hi' hb (by rw [← e1]; exact q2) (by rw [hss] at e1 ⊢; omega)
      refine ⟨hlk, hdv, ?_, q1⟩
      rw [zba (by omega) (by rw [hix]; exact zbo hlk (by omega)), hix]
    have leafr : ∀ (i : Nat), zat sz xs (zmf (atM sz xs t i) (adr b i ((l + 1 : Nat) : Int)) ((l + 1 : Nat) : Int)).va (zmf (atM sz xs t i) (adr b i ((l + 1 : Nat) : Int)) ((l + 1 : Nat) : Int)).lev (l + 1) t = (t, ((l + 1 : Nat) : Int)) := fun i => za1 (fun hh => absurd hh (by show ¬ ((l + 1 : Nat) : Int) < ((l + 1 : Nat) : Int); omega)) (by show (0 : Int) ≤ ((l + 1 : Nat) : Int); omega)
    have low : ∀ (i : Nat) (y : Pg), i < 512 → lkP (atM sz xs t i) = true → (0 ≤ y.lev ∧ y.lev ≤ (l : Int)) → (zat sz xs y.va y.lev l (atM sz xs t i).ppn).1 ∈ frN sz xs l (atM sz xs t i).ppn ∧ (zat sz xs y.va y.lev l (atM sz xs t i).ppn).1 ≠ t := fun i y hi hlk hlev => by
      have hm := zl9 sz xs y.va y.lev hlev.1 l (atM sz xs t i).ppn
      obtain ⟨_, k2, k3, k4⟩ := zbz h (show (0 : Int) ≤ (i : Int) ∧ (i : Int) < 512 by omega) hlk
      have := (zbb h l _ k4 (by rw [k3, hl]; omega) _ hm).2.1
      exact ⟨hm, fun e => by rw [e, hl] at this; omega⟩
    obtain ⟨i, hi, c0, ⟨c1, rfl⟩ | ⟨c1, m, e, hy⟩⟩ := (zbi _ _ _ _ _ _).1 hy <;> obtain ⟨j, hj, d0, ⟨d1, rfl⟩ | ⟨d1, m', e', hz⟩⟩ := (zbi _ _ _ _ _ _).1 hz
    · have e1 := leafix (l + 1) b i (atM sz xs t i) (by omega) hi hb
      have e2 := leafix (l + 1) b j (atM sz xs t j) (by omega) hj hb
      have : (i : Int) = (j : Int) := e1.symm.trans (hx.trans e2)
      rw [this]
    · obtain rfl : m' = l := by omega
      obtain ⟨f1, f2, f3, f4⟩ := child j z hj d0 d1 hz
      rw [leafr i, f3] at hr
      exact absurd hr.symm (low j z hj f1 f4).2
    · obtain rfl : m = l := by omega
      obtain ⟨f1, f2, f3, f4⟩ := child i y hi c0 c1 hy
      rw [leafr j, f3] at hr
      exact absurd hr (low i y hi f1 f4).2
    · obtain rfl : m = l := by omega
      obtain rfl : m' = m := by omega
      obtain ⟨f1, f2, f3, f4⟩ := child i y hi c0 c1 hy
      obtain ⟨g1, g2, g3, g4⟩ := child j z hj d0 d1 hz
      rw [f3, g3] at hr
      have m1 := (low i y hi f1 f4).1
      have m2 := (low j z hj g1 g4).1
      rw [hr] at m1
      have hij : (i : Int) = (j : Int) := zp1 h hl (by omega) (by omega) (by omega) f1 g1 (.inl fun ee => by have := (h.e.s t i (by omega) f1 ee).2; omega) m1 m2
      obtain rfl : i = j := by omega
      obtain ⟨_, k2, k3, k4⟩ := zbz h (show (0 : Int) ≤ (i : Int) ∧ (i : Int) < 512 by omega) f1
      exact ih _ _ y z (by omega) k4 (by rw [k3, hl]; omega) f2 hy hz hr hx
theorem zv3 (h : TI cd cp sz xs f sh lv) : ∀ (l : Nat) (t b : Int), l ≤ 1 → Al cd cp f t → lv t = l → m39 b % (512 * VaSpec.sz l) = 0 → ∀ s ∈ frN sz xs l t, ∀ j, (0 ≤ j ∧ j < 512) → zaz (atM sz xs s j) = true → ∃ y ∈ zbf sz xs l t b, zat sz xs y.va y.lev l t = (s, y.lev) ∧ idx y.va y.lev = j := by
  have own : ∀ (l : Nat) (t b : Int), l ≤ 1 → lv t = l → m39 b % (512 * VaSpec.sz l) = 0 → ∀ j, (0 ≤ j ∧ j < 512) → zaz (atM sz xs t j) = true → ∃ y ∈ zbf sz xs l t b, zat sz xs y.va y.lev l t = (t, y.lev) ∧ idx y.va y.lev = j := fun l t b h1 hl hb j hj hlf => by
    obtain ⟨_, _, q2⟩ := zl8 h hj hlf
    rw [hl] at q2
    refine ⟨zmf (atM sz xs t j) (adr b j (l : Int)) (l : Int), ?_, za1 (fun hh => absurd hh (by show ¬ (l : Int) < (l : Int); omega)) (by show (0 : Int) ≤ (l : Int); omega), ?_⟩
    · have hlf := hlf
      rw [show j = ((j.toNat : Nat) : Int) by omega] at hlf q2 ⊢
      exact (zbi _ _ _ _ _ _).2 ⟨j.toNat, by omega, q2, .inl ⟨hlf, rfl⟩⟩
    · obtain ⟨e1, e2⟩ := zb4 (b := b) (i := j) (l := (l : Int)) (by omega) hj hb
      have hdv : m39 (adr b j (l : Int)) % VaSpec.sz (l : Int) = 0 := by
        rw [e1]
        rcases (by omega : l = 0 ∨ l = 1) with rfl | rfl
        · have hz : VaSpec.sz ((0 : Nat) : Int) = 4096 := rfl
          rw [hz] at hb ⊢; omega
        · have hz : VaSpec.sz ((1 : Nat) : Int) = 2097152 := rfl
          rw [hz] at hb ⊢; omega
      have hsp := sz_pos (l := (l : Int)) (by omega)
      have e3 := zf8 (a := adr b j (l : Int)) (zg4 (l := (l : Int)) (by omega) hdv)
      exact zjp (l := (l : Int)) (by omega) hj hb (by show _ ≤ m39 (ofv (num _)); rw [e3, e1]; omega) (by show m39 (ofv (num _)) < _; rw [e3, e1]; omega)
  intro l
  induction l with
  | zero =>
    intro t b h1 ha hl hb s hs j hj hlf
    have e : s = t := by simpa [frN] using hs
    subst e
    exact own 0 s b h1 hl hb j hj hlf
  | succ l ih =>
    intro t b h1 ha hl hb s hs j hj hlf
    simp only [frN, List.mem_cons] at hs
    rcases hs with rfl | hs
    · exact own (l + 1) s b h1 hl hb j hj hlf
    · obtain ⟨i, hi, hs⟩ := List.mem_flatMap.1 hs
      have hi := List.mem_range.1 hi
      split at hs
      · rename_i hlk
        have hi' : (0 : Int) ≤ (i : Int) ∧ (i : Int) < 512 := by omega
        obtain ⟨k1, k2, k3, k4, k5⟩ := zg2 h hi' hlk
        obtain ⟨e1, e2⟩ := zb4 (b := b) (i := (i : Int)) (l := ((l + 1 : Nat) : Int)) (by omega) (by omega) hb
        have hss := zet (l := ((l + 1 : Nat) : Int)) (by omega)
        rw [show ((l + 1 : Nat) : Int) - 1 = (l : Int) by omega] at hss
        have hdv : m39 (adr b i ((l + 1 : Nat) : Int)) % (512 * VaSpec.sz (l : Int)) = 0 := by
          rw [e1, ← hss]
          obtain rfl : l = 0 := by omega
          have hz : VaSpec.sz ((0 + 1 : Nat) : Int) = 2097152 := rfl
          rw [hz] at hb ⊢; omega
        obtain ⟨y, hy, r1, r2⟩ := ih _ (adr b i ((l + 1 : Nat) : Int)) (by omega) k5 (by rw [k4, hl]; omega) hdv s hs j hj hlf
        obtain ⟨q1, q2, q3, q4, q5⟩ := zeu sz xs l (atM sz xs t i).ppn (adr b i ((l + 1 : Nat) : Int)) y (by omega) hdv hy
        have hsp := sz_pos (l := y.lev) (by omega)
        have hix : idx y.va ((l + 1 : Nat) : Int) = (i : Int) := zjp (by omega) hi' hb (by rw [← e1]; exact q2) (by rw [hss] at e1 ⊢; omega)
        have hbad : zc3 (atM sz xs t i) ((l + 1 : Nat) : Int) = false := by
          unfold za0 at hlk
          simp only [Bool.and_eq_true, Bool.not_eq_true'] at hlk
          exact hlk.2
        refine ⟨y, (zbi _ _ _ _ _ _).2 ⟨i, hi, hbad, .inr ⟨(zbs k1).2.2, l, rfl, hy⟩⟩, ?_, r2⟩
        rw [zba (by omega) (by rw [hix]; exact hlk), hix]
        exact r1
      · cases hs
theorem zyc (sz : Int) (xs : List (Int × Int)) : ∀ (l : Nat) (t b : Int), l ≤ 1 → m39 b % (512 * VaSpec.sz l) = 0 → (zbf sz xs l t b).Pairwise (fun y z => m39 y.va < m39 z.va) := by
  have part : ∀ (l : Nat) (b : Int) (i : Nat), l ≤ 1 → i < 512 → m39 b % (512 * VaSpec.sz l) = 0 → m39 (adr b i (l : Int)) % VaSpec.sz (l : Int) = 0 ∧ m39 (adr b i (l : Int)) = m39 b + (i : Int) * VaSpec.sz (l : Int) := fun l b i h1 hi hb => by
    obtain ⟨e1, e2⟩ := zb4 (b := b) (i := (i : Int)) (l := (l : Int)) (by omega) (by omega) hb
    refine ⟨?_, e1⟩
    rw [e1]
    rcases (by omega : l = 0 ∨ l = 1) with rfl | rfl
    · have hz : VaSpec.sz ((0 : Nat) : Int) = 4096 := rfl
      rw [hz] at hb ⊢; omega
    · have hz : VaSpec.sz ((1 : Nat) : Int) = 2097152 := rfl
      rw [hz] at hb ⊢; omega
  have blkE : ∀ (l : Nat) (t b : Int) (rec : Int → Int → List Pg) (i : Nat), l ≤ 1 → i < 512 → m39 b % (512 * VaSpec.sz l) = 0 → (∀ y ∈ rec (atM sz xs t i).ppn (adr b i (l : Int)), m39 (adr b i (l : Int)) ≤ m39 y.va ∧ m39 y.va < m39 (adr b i (l : Int)) + VaSpec.sz (l : Int)) → ∀ y ∈ zfr rec (atM sz xs t i) (l : Int) (adr b i (l : Int)), m39 b + (i : Int) * VaSpec.sz (l : Int) ≤ m39 y.va ∧ m39 y.va < m39 b + (i : Int) * VaSpec.sz (l : Int) + VaSpec.sz (l : Int) := fun l t b rec i h1 hi hb hrec y hy => by
    obtain ⟨p1, p2⟩ := part l b i h1 hi hb
    have hsp := sz_pos (l := (l : Int)) (by omega)
    unfold zfr at hy
    split at hy
    · cases hy
    · split at hy
      · have hy := List.mem_singleton.1 hy
        subst hy
        have e3 := zf8 (a := adr b i (l : Int)) (zg4 (l := (l : Int)) (by omega) p1)
        show m39 b + _ ≤ m39 (ofv (num (adr b i (l : Int)))) ∧ m39 (ofv (num (adr b i (l : Int)))) < _
        rw [e3, p2]
        omega
      · have := hrec y hy
        omega
  have apart : ∀ (l : Nat) (i j : Nat), l ≤ 1 → i < j → (i : Int) * VaSpec.sz (l : Int) + VaSpec.sz (l : Int) ≤ (j : Int) * VaSpec.sz (l : Int) := fun l i j h1 hij => by
    rcases (by omega : l = 0 ∨ l = 1) with rfl | rfl
    · have hz : VaSpec.sz ((0 : Nat) : Int) = 4096 := rfl
      rw [hz]; omega
    · have hz : VaSpec.sz ((1 : Nat) : Int) = 2097152 := rfl
      rw [hz]; omega
  have glue : ∀ (l : Nat) (t b : Int) (rec : Int → Int → List Pg), l ≤ 1 → m39 b % (512 * VaSpec.sz l) = 0 → (∀ i : Nat, i < 512 → (rec (atM sz xs t i).ppn (adr b i (l : Int))).Pairwise (fun y z => m39 y.va < m39 z.va) ∧ ∀ y ∈ rec (atM sz xs t i).ppn (adr b i (l : Int)), m39 (adr b i (l : Int)) ≤ m39 y.va ∧ m39 y.va < m39 (adr b i (l : Int)) + VaSpec.sz (l : Int)) → ((List.range 512).flatMap fun (i : Nat) => zfr rec (atM sz xs t i) (l : Int) (adr b i (l : Int))).Pairwise (fun y z => m39 y.va < m39 z.va) := fun l t b rec h1 hb hrec => by
    rw [List.pairwise_flatMap]
    refine ⟨fun i hi => ?_, ?_⟩
    · have hi := List.mem_range.1 hi
      unfold zfr
      split
      · exact .nil
      · split
        · exact List.pairwise_singleton _ _
        · exact (hrec i hi).1
    · refine List.Pairwise.imp_of_mem ?_ (List.pairwise_lt_range (n := 512))
      intro i j hi hj hij y hy z hz
      have hi := List.mem_range.1 hi
      have hj := List.mem_range.1 hj
      have b1 := blkE l t b rec i h1 hi hb (hrec i hi).2 y hy
      have b2 := blkE l t b rec j h1 hj hb (hrec j hj).2 z hz
      have := apart l i j h1 hij
      omega
  intro l
  induction l with
  | zero =>
    intro t b h1 hb
    exact glue 0 t b (fun _ _ => []) h1 hb fun i hi => ⟨.nil, fun y hy => by cases hy⟩
  | succ l ih =>
    intro t b h1 hb
    refine glue (l + 1) t b (zbf sz xs l) h1 hb fun i hi => ?_
    obtain ⟨p1, p2⟩ := part (l + 1) b i h1 hi hb
    have hss := zet (l := ((l + 1 : Nat) : Int)) (by omega)
    rw [show ((l + 1 : Nat) : Int) - 1 = (l : Int) by omega] at hss
    rw [hss] at p1
    refine ⟨ih _ _ (by omega) p1, fun y hy => ?_⟩
    obtain ⟨q1, q2, q3, q4, q5⟩ := zeu sz xs l (atM sz xs t i).ppn (adr b i ((l + 1 : Nat) : Int)) y (by omega) p1 hy
    have hsp := sz_pos (l := y.lev) (by omega)
    rw [← hss] at q3
    omega
end
end Go.Proofs.YtomeaibdedaldaaGreatDoor.LnG
namespace Go.Proofs.YtomeaibdedaldaaGreatDoor.LnH
open Go.RowKit Bv VaSpec Base MemL RegR Ax MemC PutC MemC3 TzC OkS SpA SpB SpC SpD SpE SpF SpN SpO SpG SpH SpI SpJ LaA LaB LaC LaD LaE LaF LaG LiA LiB LiC LiD LiE LiF LrA LrB LrC LjA LjF LkE LmA LmB LmE LnA LnB BitsC PteSpec RfE RfG RfJ RfK LaH RfA RfP RfQ LnD LnF LnG
set_option maxRecDepth 10000
set_option maxHeartbeats 1000000
theorem zyd {sz sh : Int} {xs xs' : List (Int × Int)} {al al' : Int → Prop} {R : Int → Int → Prop} (h : Rm (atM sz xs) al sh R (atM sz xs') al') (hk : ∀ s i, (0 ≤ i ∧ i < 512) → ∀ l, 1 ≤ l → za0 (atM sz xs s i) l = true → lkP (atM sz xs s i) = true) (v w : Int) (hw : 0 ≤ w) {t : Int} : ∀ (l : Nat) (t0 : Int), zat sz xs v w l t0 = (t, w) → zaz (atM sz xs t (idx v w)) = true → ¬ R t (idx v w) → (w ≤ (l : Int)) →
    ¬ Dd (atM sz xs) sh R t0 (idx v (l : Int)) ∧ atM sz xs t0 (idx v (l : Int)) ≠ zP ∧ zat sz xs' v w l t0 = (t, w) := by
  have base : ∀ (l : Nat) (t0 : Int), zaz (atM sz xs t0 (idx v (l : Int))) = true → ¬ R t0 (idx v (l : Int)) → ¬ Dd (atM sz xs) sh R t0 (idx v (l : Int)) ∧ atM sz xs t0 (idx v (l : Int)) ≠ zP := fun l t0 hlf hR => by
    refine ⟨fun hd => ?_, z13 hlf⟩
    rcases hd.inv with ⟨_, q⟩ | ⟨q, _⟩
    · exact hR q
    · rw [zc8 hlf] at q; cases q
  intro l
  induction l with
  | zero =>
    intro t0 hr hlf hR _
    have hr : (t0, (0 : Int)) = (t, w) := hr
    simp only [Prod.mk.injEq] at hr
    obtain ⟨rfl, rfl⟩ := hr
    obtain ⟨b1, b2⟩ := base 0 t0 hlf hR
    exact ⟨b1, b2, rfl⟩
  | succ l ih =>
    intro t0 hr hlf hR hwl
    have hi := idx_bd v ((l + 1 : Nat) : Int)
    by_cases cg : w < ((l + 1 : Nat) : Int) ∧ za0 (atM sz xs t0 (idx v ((l + 1 : Nat) : Int))) ((l + 1 : Nat) : Int) = true
    · have k1 := hk t0 _ hi _ (by omega) cg.2
      rw [zba cg.1 cg.2] at hr
      obtain ⟨q1, q2, q3⟩ := ih _ hr hlf hR (by omega)
      have hnd : ¬ Dd (atM sz xs) sh R t0 (idx v ((l + 1 : Nat) : Int)) := fun hd => by
        rcases hd.inv with ⟨q, _⟩ | ⟨_, _, q⟩
        · rw [zc8 q] at k1; cases k1
        · exact q1 (q _ (idx_bd _ _) q2)
      have e := h.k t0 _ hi hnd
      refine ⟨hnd, zn6 k1, ?_⟩
      rw [zba cg.1 (by rw [e]; exact cg.2), e]
      exact q3
    · have hno : zat sz xs v w (l + 1) t0 = (t0, ((l + 1 : Nat) : Int)) := za1 (fun hh => by
        cases e : za0 (atM sz xs t0 (idx v ((l + 1 : Nat) : Int))) ((l + 1 : Nat) : Int) with
        | false => rfl
        | true => exact absurd ⟨hh, e⟩ cg) hw
      rw [hno] at hr
      simp only [Prod.mk.injEq] at hr
      obtain ⟨rfl, rfl⟩ := hr
      obtain ⟨b1, b2⟩ := base (l + 1) t0 hlf hR
      exact ⟨b1, b2, za1 (fun hh => absurd hh (by omega)) hw⟩
structure PJ (k : Kr) (lv : Int → Int) (R : Int → Int → Prop) (b : Kr) : Prop where
  e : b = { k with m := b.m, pf := b.pf, fs := b.fs }
  t : TI k.cd k.cp k.sz b.m b.pf k.sh lv
  r : Rm (atM k.sz k.m) (Al k.cd k.cp k.pf) k.sh R (atM k.sz b.m) (Al k.cd k.cp b.pf)
theorem Rm.refl (E : Int → Int → Pte) (al : Int → Prop) (sh : Int) (hn : NE E sh) (hl : ∀ s i, (0 ≤ i ∧ i < 512) → E s i ≠ zP → zaz (E s i) = true ∨ lkP (E s i) = true) : Rm E al sh (fun _ _ => False) E al := by
  have no : ∀ {s i}, Dd E sh (fun _ _ => False) s i → (0 ≤ i ∧ i < 512) → False := fun {s i} hd => by
    induction hd with
    | lf _ r => exact fun _ => r
    | @lk s i h n a ih =>
      intro hi
      obtain ⟨j, hj, hne⟩ := hn s i hi h n
      exact ih j hj hne hj
  exact ⟨fun s i hi hd => (no hd hi).elim, fun _ _ _ _ => rfl, fun s => ⟨fun q => ⟨q, fun t i hi _ _ hd => no hd hi⟩, fun q => q.1⟩⟩
theorem z15 {n : Nat} {k b : Kr} {lv : Int → Int} {R : Int → Int → Prop} {id v w top : Int} {l0 : Nat} {t : Int} (hb : InvT n b) (hN : NE (atM k.sz k.m) k.sh) (hT : TI k.cd k.cp k.sz k.m k.pf k.sh lv) (P : PJ k lv R b) (hw : 0 ≤ w) (hwh : zao k id v w = (top, (l0 : Int), 0)) (hl : lv top = l0) (h02 : l0 ≤ 2) (hwl : w ≤ (l0 : Int)) (hH : l0 = 2 → idx v 2 ≠ 511) (h0 : l0 = 2 ∨ top = k.sh)
    (hr : zat k.sz k.m v w l0 top = (t, w)) (hlf : zaz (atM k.sz k.m t (idx v w)) = true) (hR : ¬ R t (idx v w)) :
    (unR b id v w).2 = 0 ∧ PJ k lv (fun s j => R s j ∨ (s = t ∧ j = idx v w)) (unR b id v w).1 := by
  obtain ⟨w', rfl⟩ := Int.eq_ofNat_of_zero_le hw
  have hi := idx_bd v (w' : Int)
  have q3 := (zyd P.r (fun s i hi l h1 h2 => (zg2 hT hi h2).1) v (w' : Int) hw l0 top hr hlf hR hwl).2.2
  have hnd : ¬ Dd (atM k.sz k.m) k.sh R t (idx v (w' : Int)) := fun hd => by
    rcases hd.inv with ⟨_, q⟩ | ⟨q, _⟩
    · exact hR q
    · rw [zc8 hlf] at q; cases q
  have hE := P.r.k t _ hi hnd
  have hlf' : zaz (atM k.sz b.m t (idx v (w' : Int))) = true := by rw [hE]; exact hlf
  have hwb : zao b id v (w' : Int) = (top, (l0 : Int), 0) := by
    rw [P.e]; exact hwh
  have hwg := zbt (id := id) (a := v) (l := (w' : Int)) hb.l (by rw [hwb])
  rw [hwb] at hwg
  have hbz : b.sz = k.sz ∧ b.cd = k.cd ∧ b.cp = k.cp ∧ b.sh = k.sh := by
    rw [P.e]; exact ⟨rfl, rfl, rfl, rfl⟩
  obtain ⟨z1, z2, z3, z4⟩ := hbz
  have hat : Al k.cd k.cp b.pf top := by have := hwg.2.1; rw [z2, z3] at this; exact this
  have hash : Al k.cd k.cp b.pf k.sh := by have := hb.l.sh; rw [z2, z3, z4] at this; exact this
  have hre : za6 b.sz b.m v (w' : Int) (l0 : Int) top = (t, (w' : Int)) := by
    unfold za6; rw [z1, Int.toNat_natCast]; exact q3
  have hin : (inR b id v (w' : Int)).length ≠ 0 := by
    unfold inR
    rw [hwb, if_neg (by simp)]
    show (zfh b.sz b.m (za6 b.sz b.m v (w' : Int) (l0 : Int) top).2 (atM b.sz b.m (za6 b.sz b.m v (w' : Int) (l0 : Int) top).1 (idx v (za6 b.sz b.m v (w' : Int) (l0 : Int) top).2)) (VaSpec.base v (za6 b.sz b.m v (w' : Int) (l0 : Int) top).2)).length ≠ 0
    rw [hre]
    unfold zfh
    rw [z1, if_pos hlf']
    simp
  have huT : unT b top (l0 : Int) v (w' : Int) = (b.m, b.pf, (t, (w' : Int)), 0) := by
    unfold unT
    rw [z1, z2, Int.toNat_natCast, zvx (.inl (by rw [q3])) _, q3]
  have hU : unR b id v (w' : Int) = (unK b id top (l0 : Int) v (w' : Int) (b.m, b.pf, (t, (w' : Int)), 0), 0) := by
    unfold unR
    rw [hwb, if_neg (by simp), if_neg hin]
    show (if (unT b top (l0 : Int) v (w' : Int)).2.2.2 ≠ 0 then _ else _) = _
    rw [huT, if_neg (by simp)]
  rw [hU]
  refine ⟨rfl, ?_⟩
  have hN' := z5u P.r hN
  have Q := z4h (e := 0) P.t hN' hash v (w' : Int) hw (top := top) (l0 := l0) (l' := w') hat hl (by omega) h02 hH h0 q3
  have hmp : ((unK b id top (l0 : Int) v (w' : Int) (b.m, b.pf, (t, (w' : Int)), 0)).m, (unK b id top (l0 : Int) v (w' : Int) (b.m, b.pf, (t, (w' : Int)), 0)).pf) = prN k.sz k.cd k.cp v l0 top (za7 k.sz (zeh k.sz k.cd k.cp (b.m, b.pf, (t, (w' : Int)), 0) v).1 t (idx v (w' : Int)) zP, (zeh k.sz k.cd k.cp (b.m, b.pf, (t, (w' : Int)), 0) v).2) := by
    show (unM b (b.m, b.pf, (t, (w' : Int)), 0) top (l0 : Int) v) = _
    unfold unM
    rw [z1, z2, z3, Int.toNat_natCast]
  obtain ⟨_, _, wt, wa, _⟩ := zeg P.t v (w' : Int) hw l0 top hat hl (by omega) q3
  obtain ⟨c1, c2, _⟩ := zq7 (e := 0) (a := v) P.t hash wa wt (by have := hwg.1; omega) (fun hh => hH (by omega))
  have hta := c2 _ hat (.inr (by rw [hl]; omega))
  have hPr := zg3 v c1 l0 top h02 hta hl (fun hh => hH (by omega))
  generalize prN k.sz k.cd k.cp v l0 top (za7 k.sz (zeh k.sz k.cd k.cp (b.m, b.pf, (t, (w' : Int)), 0) v).1 t (idx v (w' : Int)) zP, (zeh k.sz k.cd k.cp (b.m, b.pf, (t, (w' : Int)), 0) v).2) = q at *
  simp only [Prod.ext_iff] at hmp
  obtain ⟨hm1, hm2⟩ := hmp
  have hTq : TI k.cd k.cp k.sz q.1 q.2 k.sh lv := hPr.t
  refine ⟨?_, by rw [hm1, hm2]; exact hTq, ?_⟩
  · have e := P.e
    have key : ∀ (m' : List (Int × Int)) (f' : Int) (F : List Fe), ({ b with m := m', pf := f', fs := F } : Kr) = { k with m := m', pf := f', fs := F } := fun m' f' F => by rw [e]
    exact key _ _ _
  · rw [hm1, hm2]
    refine LnG.Rm.conv (P.r.comp Q) fun s i hi hls => or_congr Iff.rfl ⟨?_, fun hh => .inl hh⟩
    rintro (hh | ⟨hh, _⟩)
    · exact hh
    · rw [zc8 hlf'] at hh; cases hh
def zca (k : Kr) (id : Int) (ys : List Pg) : Nat → Kr
  | 0 => k
  | i + 1 => match ys[i]? with
    | some y => (unR (zca k id ys i) id y.va y.lev).1
    | none => zca k id ys i
theorem zjv (k : Kr) (id : Int) (ys : List Pg) (i : Nat) {y : Pg} (h : ys[i]? = some y) : zca k id ys (i + 1) = (unR (zca k id ys i) id y.va y.lev).1 := by
  show (match ys[i]? with | some y => (unR (zca k id ys i) id y.va y.lev).1 | none => zca k id ys i) = _
  rw [h]
theorem zks {n : Nat} {k : Kr} (h : InvT n k) (id : Int) (ys : List Pg) : ∀ i, InvT (n + 1100 * i) (zca k id ys i)
  | 0 => h
  | i + 1 => by
    have I := zks h id ys i
    cases e : ys[i]? with
    | some y =>
      rw [zjv k id ys i e]
      have := z39 (id := id) (a := y.va) (l := y.lev) I
      rw [show n + 1100 * (i + 1) = n + 1100 * i + 1100 by omega]
      exact this
    | none =>
      have : zca k id ys (i + 1) = zca k id ys i := by
        show (match ys[i]? with | some y => (unR (zca k id ys i) id y.va y.lev).1 | none => zca k id ys i) = _
        rw [e]
      rw [this]
      exact ⟨{ I.l with ml := by have := I.l.ml; omega, fl := by have := I.l.fl; omega }, I.t⟩
theorem parts {n : Nat} {k : Kr} {id a l : Int} (h : InvT n k) (g : InvN k) (he : (unR k id a l).2 = 0) {y0 : Pg} (hy0 : (inR k id a l)[0]? = some y0) (hlev : y0.lev ≤ l) :
    (∀ (i : Nat) (y : Pg), (inR k id a l)[i]? = some y → (unR (zca k id (inR k id a l) i) id y.va y.lev).2 = 0) ∧
    { zca k id (inR k id a l) (inR k id a l).length with fs := (unR k id a l).1.fs } = (unR k id a l).1 := by
  unfold unR at he
  by_cases c0 : (zao k id a l).2.2 ≠ 0
  · rw [if_pos c0] at he; exact absurd he c0
  rw [if_neg c0] at he
  by_cases c2 : (inR k id a l).length = 0
  · rw [if_pos c2] at he; cases he
  rw [if_neg c2] at he
  by_cases c3 : (unT k (zao k id a l).1 (zao k id a l).2.1 a l).2.2.2 ≠ 0
  · rw [if_pos c3] at he; exact absurd he c3
  have hB : unR k id a l = (unK k id (zao k id a l).1 (zao k id a l).2.1 a l (unT k (zao k id a l).1 (zao k id a l).2.1 a l), 0) := by
    unfold unR; rw [if_neg c0, if_neg c2, if_neg c3]
  clear he
  have c0' : (zao k id a l).2.2 = 0 := by omega
  have hfm := zf0 c0'
  have hfb := zvt hfm
  have hlf := z5t h c0' c2
  obtain ⟨lv, hT, hs, hr⟩ := h.t
  obtain ⟨w1, w2, w3, w4⟩ := zbt (id := id) (a := a) (l := l) h.l c0'
  obtain ⟨z1, z2⟩ := h.top (a := a) (id := id) (l := l) c0' hs hr
  have hwt := zc1 h.l c0'
  have hw02 := zya h c0'
  have hbm := zg5 w1 hfm
  have hin : inR k id a l = zfh k.sz k.m (za6 k.sz k.m a l (zao k id a l).2.1 (zao k id a l).1).2 (atM k.sz k.m (za6 k.sz k.m a l (zao k id a l).2.1 (zao k id a l).1).1 (idx a (za6 k.sz k.m a l (zao k id a l).2.1 (zao k id a l).1).2)) (VaSpec.base a (za6 k.sz k.m a l (zao k id a l).2.1 (zao k id a l).1).2) := by
    unfold inR; rw [if_neg c0]
  have hwh : ∀ v w, zhw v w = true → (0 ≤ w ∧ w ≤ 2) → (idx v 2 = idx a 2) → w ≤ l → zao k id v w = zao k id a l := fun v w hf hw2 hix hwl => by
    have hid := fun hh => zg6 (id := id) (a := a) (l := l) c0' hh
    unfold zao
    have c6 : ¬ (id ≠ -1 ∧ za5 k id = false) := fun hh => by
      rcases hwt with ⟨_, _, e⟩ | ⟨e, _⟩
      · exact hh.1 e
      · rw [hh.2] at e; cases e
    rw [if_neg (show ¬ ¬ (0 ≤ w ∧ w ≤ 2) from fun hh => hh hw2), if_neg c6, if_neg (show ¬ zhw v w = false by rw [hf]; simp)]
    rw [if_neg (show ¬ ¬ (0 ≤ l ∧ l ≤ 2) from fun hh => hh w1), if_neg c6, if_neg (show ¬ zhw a l = false by rw [hfm]; simp)]
    by_cases c7 : id = -1
    · have := hid c7
      have hl2 : l ≠ 2 := by
        intro hh
        rcases hwt with ⟨_, e, _⟩ | ⟨_, e, _⟩
        · rw [e] at w3; omega
        · exact e c7
      rw [if_pos c7, if_pos c7, if_pos ⟨by rw [hix]; exact this, by omega⟩, if_pos ⟨this, hl2⟩]
    · rw [if_neg c7, if_neg c7, hix]
  generalize hW : zao k id a l = w at *
  obtain ⟨l0, hl0⟩ : ∃ l0 : Nat, w.2.1 = (l0 : Int) := ⟨w.2.1.toNat, by omega⟩
  have hW3 : w = (w.1, (l0 : Int), 0) := by rw [← hl0, ← c0']
  obtain ⟨l', t, i1, i2, i3, i4, i5, i6, i7⟩ := zfz hT a l w1.1 l0 w.1 w2 (by omega) (by omega)
  have hre : za6 k.sz k.m a l w.2.1 w.1 = (t, (l' : Int)) := by unfold za6; rw [hl0, Int.toNat_natCast]; exact i1
  rw [hre] at hin hlf
  have hin : inR k id a l = zfh k.sz k.m (l' : Int) (atM k.sz k.m t (idx a (l' : Int))) (VaSpec.base a (l' : Int)) := hin
  have hlf : zaz (atM k.sz k.m t (idx a (l' : Int))) = true ∨ lkP (atM k.sz k.m t (idx a (l' : Int))) = true := hlf
  have hi := idx_bd a (l' : Int)
  rcases hlf with hlf | hlk
  · -- one page, the region itself
    have hU : inR k id a l = [⟨VaSpec.base a (l' : Int), (atM k.sz k.m t (idx a (l' : Int))).ppn * 4096, (l' : Int), (atM k.sz k.m t (idx a (l' : Int))).r, (atM k.sz k.m t (idx a (l' : Int))).w, (atM k.sz k.m t (idx a (l' : Int))).x, (atM k.sz k.m t (idx a (l' : Int))).u, (atM k.sz k.m t (idx a (l' : Int))).d⟩] := by
      rw [hin]; unfold zfh; rw [if_pos hlf]
    rw [hU] at hy0
    have hy0 : (⟨VaSpec.base a (l' : Int), (atM k.sz k.m t (idx a (l' : Int))).ppn * 4096, (l' : Int), (atM k.sz k.m t (idx a (l' : Int))).r, (atM k.sz k.m t (idx a (l' : Int))).w, (atM k.sz k.m t (idx a (l' : Int))).x, (atM k.sz k.m t (idx a (l' : Int))).u, (atM k.sz k.m t (idx a (l' : Int))).d⟩ : Pg) = y0 := by simpa using hy0
    have hll : (l' : Int) = l := by
      rw [← hy0] at hlev
      have : (l' : Int) ≤ l := hlev
      omega
    rw [hll, hfb] at hy0
    have hU' : inR k id a l = [y0] := by rw [hU, hll, hfb]; rw [← hy0]
    have hy1 : y0.va = a := by rw [← hy0]
    have hy2 : y0.lev = l := by rw [← hy0]
    rw [hU']
    refine ⟨fun i y hy => ?_, ?_⟩
    · cases i with
      | zero =>
        have : y0 = y := by simpa using hy
        rw [← this, hy1, hy2]
        show (unR k id a l).2 = 0
        rw [hB]
      | succ i => simp at hy
    · have : zca k id [y0] [y0].length = (unR k id a l).1 := by
        show zca k id [y0] (0 + 1) = _
        rw [zjv k id [y0] 0 (y := y0) rfl, hy1, hy2]
        rfl
      rw [this]
  · -- a link
    obtain ⟨k1, k2, k3, k4⟩ := zbz hT hi hlk
    have hll : (l' : Int) = l := by
      by_cases c : l < (l' : Int)
      · have := i6 c
        rw [zbo hlk (by omega)] at this; cases this
      · omega
    have hstop : unT k w.1 w.2.1 a l = (k.m, k.pf, (t, (l' : Int)), 0) := by
      unfold unT
      rw [hl0, Int.toNat_natCast, zvx (.inl (by rw [i1]; exact hll)) _, i1]
    rw [hstop] at hB
    obtain ⟨m, rfl⟩ : ∃ m : Nat, l' = m + 1 := ⟨l' - 1, by omega⟩
    have hba : VaSpec.base a ((m + 1 : Nat) : Int) = a := by rw [hll]; exact hfb
    have hU : inR k id a l = zbf k.sz k.m m (atM k.sz k.m t (idx a ((m + 1 : Nat) : Int))).ppn a := by
      rw [hin]; unfold zfh
      rw [if_neg (by rw [(zbs hlk).2.2]; simp), if_pos (zbs hlk).1, hba, show (((m + 1 : Nat) : Int) - 1).toNat = m by omega]
    have hgl : lv (atM k.sz k.m t (idx a ((m + 1 : Nat) : Int))).ppn = m := by rw [k3, i5]; omega
    have hbm' : m39 a % (512 * VaSpec.sz (m : Int)) = 0 := z4d (by omega) (by rw [hll]; exact hbm)
    have hsz : VaSpec.sz ((m + 1 : Nat) : Int) = 512 * VaSpec.sz (m : Int) := by
      have := zet (l := ((m + 1 : Nat) : Int)) (by omega)
      rw [show ((m + 1 : Nat) : Int) - 1 = (m : Int) by omega] at this
      exact this
    rw [hU]
    generalize hys : zbf k.sz k.m m (atM k.sz k.m t (idx a ((m + 1 : Nat) : Int))).ppn a = ys at *
    have hpage : ∀ y ∈ ys, zao k id y.va y.lev = (w.1, (l0 : Int), 0) ∧ (0 ≤ y.lev ∧ y.lev ≤ (m : Int)) ∧ (l0 = 2 → idx y.va 2 ≠ 511) ∧ ∃ s, zat k.sz k.m y.va y.lev l0 w.1 = (s, y.lev) ∧ zat k.sz k.m y.va y.lev m (atM k.sz k.m t (idx a ((m + 1 : Nat) : Int))).ppn = (s, y.lev) ∧ zaz (atM k.sz k.m s (idx y.va y.lev)) = true := fun y hy => by
      have hy' := hy
      rw [← hys] at hy'
      obtain ⟨q1, q2, q3, q4, q5⟩ := zeu k.sz k.m m _ a y (by omega) hbm' hy'
      obtain ⟨s, r1, r2, r3⟩ := zvw hT m _ a y (by omega) k4 hgl hbm' hy'
      have hsp := sz_pos (l := y.lev) (by omega)
      have hix : ∀ m', ((m + 1 : Nat) : Int) ≤ m' → m' ≤ 2 → idx y.va m' = idx a m' := fun m' h1 h2 => zzj (l := ((m + 1 : Nat) : Int)) (by omega) ⟨h1, h2⟩ (by rw [hsz]; exact hbm') q2 (by rw [hsz]; omega)
      have h2' := hix 2 (by omega) (by omega)
      refine ⟨(hwh y.va y.lev (z14 (by omega) q5 q4) (by omega) h2' (by omega)).trans hW3, q1, fun hh => by rw [h2']; exact z2 (by omega), s, ?_, r1, r3⟩
      have := zsv hT a y.va l y.lev w1.1 hlk ⟨q1.1, by omega⟩ hix l0 w.1 (by omega) w2 (by omega) (by omega) i1
      rw [this]
      exact r1
    -- where the first pages stood
    have hJ : ∀ i : Nat, i ≤ ys.length → PJ k lv (fun s j => ∃ y ∈ ys.take i, (zat k.sz k.m y.va y.lev l0 w.1).1 = s ∧ idx y.va y.lev = j) (zca k id ys i) ∧ ∀ y, ys[i]? = some y → (unR (zca k id ys i) id y.va y.lev).2 = 0 := by
      have step : ∀ i : Nat, PJ k lv (fun s j => ∃ y ∈ ys.take i, (zat k.sz k.m y.va y.lev l0 w.1).1 = s ∧ idx y.va y.lev = j) (zca k id ys i) → ∀ y, ys[i]? = some y → (unR (zca k id ys i) id y.va y.lev).2 = 0 ∧ PJ k lv (fun s j => ∃ y ∈ ys.take (i + 1), (zat k.sz k.m y.va y.lev l0 w.1).1 = s ∧ idx y.va y.lev = j) (zca k id ys (i + 1)) := fun i P y hy => by
        have hym := List.mem_of_getElem? hy
        obtain ⟨p1, p2, p3, s, p4, p5, p6⟩ := hpage y hym
        have hlt : i < ys.length := by
          rcases Nat.lt_or_ge i ys.length with q | q
          · exact q
          · rw [List.getElem?_eq_none q] at hy; cases hy
        obtain ⟨e1, e2⟩ := z15 (id := id) (v := y.va) (w := y.lev) (top := w.1) (l0 := l0) (t := s) (zks h id ys i) g.ne hT P p2.1 p1 (by omega) (by omega) (by omega) p3 (hw02.imp (fun hh => by omega) (fun hh => hh)) p4 p6 (by
          rintro ⟨z, hz, x1, x2⟩
          obtain ⟨j, hj⟩ := List.getElem?_of_mem hz
          rw [List.getElem?_take] at hj
          split at hj
          · rename_i hji
            have hzm := List.mem_of_getElem? hj
            obtain ⟨_, _, _, s', y4, y5, _⟩ := hpage z hzm
            have hzy : z = y := by
              refine zyb hT m _ a z y (by omega) k4 hgl hbm' (by rw [hys]; exact hzm) (by rw [hys]; exact hym) ?_ x2
              rw [y4] at x1
              have x1 : s' = s := x1
              rw [y5, p5, x1]
            have hnd := zyc k.sz k.m m (atM k.sz k.m t (idx a ((m + 1 : Nat) : Int))).ppn a (by omega) hbm'
            rw [hys] at hnd
            have hjl : j < ys.length := by omega
            have := List.pairwise_iff_getElem.1 hnd j i hjl hlt hji
            have ea : ys[j] = z := (List.getElem?_eq_some_iff.1 hj).2
            have eb : ys[i] = y := (List.getElem?_eq_some_iff.1 hy).2
            rw [ea, eb, hzy] at this
            omega
          · cases hj)
        refine ⟨e1, ?_⟩
        rw [zjv k id ys i hy]
        refine ⟨e2.e, e2.t, LnG.Rm.conv e2.r fun s' j' _ _ => ?_⟩
        rw [List.take_add_one, hy]
        simp only [Option.toList_some, List.mem_append, List.mem_singleton]
        constructor
        · rintro (⟨z, hz, q1, q2⟩ | ⟨q1, q2⟩)
          · exact ⟨z, .inl hz, q1, q2⟩
          · exact ⟨y, .inr rfl, by rw [p4]; exact q1.symm, q2.symm⟩
        · rintro ⟨z, hz | rfl, q1, q2⟩
          · exact .inl ⟨z, hz, q1, q2⟩
          · rw [p4] at q1
            exact .inr ⟨q1.symm, q2.symm⟩
      have all : ∀ i : Nat, i ≤ ys.length → PJ k lv (fun s j => ∃ y ∈ ys.take i, (zat k.sz k.m y.va y.lev l0 w.1).1 = s ∧ idx y.va y.lev = j) (zca k id ys i) := by
        intro i
        induction i with
        | zero =>
          intro _
          refine ⟨rfl, hT, LnG.Rm.conv (Rm.refl _ _ _ g.ne fun s i hi hne => ?_) fun s i _ _ => ⟨fun hh => hh.elim, fun hh => by
            obtain ⟨y, hy, _⟩ := hh
            simp at hy⟩⟩
          rcases hT.e.k s i hi with e | ⟨_, _, ⟨e, _⟩ | ⟨e, _⟩⟩
          · exact absurd e hne
          · exact .inl e
          · exact .inr e
        | succ i ih =>
          intro hi'
          have hy : ys[i]? = some ys[i] := List.getElem?_eq_getElem (by omega)
          exact (step i (ih (by omega)) _ hy).2
      exact fun i hi' => ⟨all i hi', fun y hy => (step i (all i hi') y hy).1⟩
    refine ⟨fun i y hy => ?_, ?_⟩
    · have hlt : i < ys.length := by
        rcases Nat.lt_or_ge i ys.length with q | q
        · exact q
        · rw [List.getElem?_eq_none q] at hy; cases hy
      exact (hJ i (by omega)).2 y hy
    · have P := (hJ ys.length (Nat.le_refl _)).1
      rw [List.take_length] at P
      have Q := z4h (e := 0) hT g.ne h.l.sh a l w1.1 (top := w.1) (l0 := l0) (l' := m + 1) w2 (by omega) (by omega) (by omega) (fun hh => z2 (by omega)) (hw02.imp (fun hh => by omega) (fun hh => hh)) i1
      obtain ⟨c1, c2', _⟩ := zq7 (e := 0) (a := a) hT h.l.sh i4 i5 (by omega) (fun hh => z2 (by omega))
      have hta := c2' _ w2 (.inr (by omega))
      have hPr := zg3 a c1 l0 w.1 (by omega) hta (by omega) (fun hh => z2 (by omega))
      have hS := Q.same P.r (fun s j hj hls => by
        constructor
        · rintro (⟨rfl, rfl⟩ | ⟨_, hm⟩)
          · rw [zc8 hls] at hlk; cases hlk
          · obtain ⟨y, hy, r1, r2⟩ := zv3 hT m _ a (by omega) k4 hgl hbm' s hm j hj hls
            rw [hys] at hy
            obtain ⟨_, _, _, s', y4, y5, _⟩ := hpage y hy
            rw [r1] at y5
            simp only [Prod.mk.injEq] at y5
            exact ⟨y, hy, by rw [y4]; exact y5.1.symm, r2⟩
        · rintro ⟨y, hy, r1, r2⟩
          obtain ⟨_, p2, _, s', y4, y5, _⟩ := hpage y hy
          have := zl9 k.sz k.m y.va y.lev p2.1 m (atM k.sz k.m t (idx a ((m + 1 : Nat) : Int))).ppn
          rw [y5] at this
          rw [y4] at r1
          have r1 : s' = s := r1
          rw [r1] at this
          exact .inr ⟨hlk, this⟩)
      have hTq := hPr.t
      have e1 := z4e hTq P.t hS.1
      have e2 := z4i hT.bp hTq.bf P.t.bf hS.2
      have hmp : ((unK k id w.1 w.2.1 a l (k.m, k.pf, (t, ((m + 1 : Nat) : Int)), 0)).m, (unK k id w.1 w.2.1 a l (k.m, k.pf, (t, ((m + 1 : Nat) : Int)), 0)).pf) = prN k.sz k.cd k.cp a l0 w.1 (za7 k.sz (zeh k.sz k.cd k.cp (k.m, k.pf, (t, ((m + 1 : Nat) : Int)), 0) a).1 t (idx a ((m + 1 : Nat) : Int)) zP, (zeh k.sz k.cd k.cp (k.m, k.pf, (t, ((m + 1 : Nat) : Int)), 0) a).2) := by
        show (unM k (k.m, k.pf, (t, ((m + 1 : Nat) : Int)), 0) w.1 w.2.1 a) = _
        unfold unM
        rw [hl0, Int.toNat_natCast]
      simp only [Prod.ext_iff] at hmp
      rw [← hmp.1] at e1
      rw [← hmp.2] at e2
      rw [hB]
      have pe := P.e
      show ({ zca k id ys ys.length with fs := (unK k id w.1 w.2.1 a l (k.m, k.pf, (t, ((m + 1 : Nat) : Int)), 0)).fs } : Kr) = unK k id w.1 w.2.1 a l (k.m, k.pf, (t, ((m + 1 : Nat) : Int)), 0)
      generalize zca k id ys ys.length = B at *
      have key : ∀ (K : Kr), K = { k with m := B.m, pf := B.pf, fs := K.fs } → ({ B with fs := K.fs } : Kr) = K := fun K hK => by
        conv => rhs; rw [hK]
        conv => lhs; rw [pe]
      refine key _ ?_
      rw [← e1, ← e2]
      rfl
end Go.Proofs.YtomeaibdedaldaaGreatDoor.LnH
namespace Go.Proofs.YtomeaibdedaldaaGreatDoor.LoA
open Go.RowKit Bv VaSpec Base MemL RegR Ax MemC PutC MemC3 TzC OkS SpA SpB SpC SpD SpE SpF SpN SpO SpG SpH SpI SpJ LaA LaB LaC LaD LaE LaF LaG LiA LiB LiC LiD LiE LiF LrA LrB LrC LjA LjF LkE LmA LmB LmE LnA LnB BitsC PteSpec RfE RfG RfJ RfK LaH RfA RfP RfQ LnD LnF LnG LnH RfC RfD RlA RlB
open BitsC PteSpec
set_option maxRecDepth 10000
set_option maxHeartbeats 1000000
attribute [local irreducible] Ax.zbn
def flU (l : List Int) : List Value := l.map fun x => .int .u64 x
theorem z16 (l : List Int) : (flU l).all (·.oneCell') = true := by
  rw [List.all_eq_true]
  intro v hv
  obtain ⟨x, _, rfl⟩ := List.mem_map.1 hv
  rfl
theorem zzk {l : List Int} {k : Nat} {c : Int} (h : l[k]? = some c) : ((flU l).drop (k * 1)).take 1 = [.int .u64 c] := by
  rw [Nat.mul_one]
  apply List.ext_getElem?
  intro i
  unfold flU
  cases i with
  | zero => simp [h]
  | succ i => simp [List.getElem?_take]
def frJ (sz : Int) (xs : List (Int × Int)) (l : Nat) (t : Int) (j : Nat) : List Int := (List.range j).flatMap fun (i : Nat) => if za0 (atM sz xs t i) (l : Int) then frN sz xs (l - 1) (atM sz xs t i).ppn else []
theorem zrg (sz : Int) (xs : List (Int × Int)) (l : Nat) (t : Int) (j : Nat) : frJ sz xs l t (j + 1) = frJ sz xs l t j ++ (if za0 (atM sz xs t j) (l : Int) then frN sz xs (l - 1) (atM sz xs t j).ppn else []) := by
  unfold frJ
  rw [List.range_succ, List.flatMap_append]
  simp
theorem zv4 (sz : Int) (xs : List (Int × Int)) (l : Nat) (t : Int) (j : Nat) : ∀ m : Nat, ∃ r, frJ sz xs l t (j + m) = frJ sz xs l t j ++ r
  | 0 => ⟨[], by simp⟩
  | m + 1 => by
    obtain ⟨r, hr⟩ := zv4 sz xs l t j m
    exact ⟨r ++ (if za0 (atM sz xs t ((j + m : Nat) : Int)) (l : Int) then frN sz xs (l - 1) (atM sz xs t ((j + m : Nat) : Int)).ppn else []), by rw [show j + (m + 1) = (j + m) + 1 by omega, zrg, hr, List.append_assoc]⟩
theorem zzl (p : Pte) : za0 p ((0 : Nat) : Int) = false := by
  unfold za0 zc3
  cases zbk p <;> simp
theorem zv5 (sz : Int) (xs : List (Int × Int)) (l : Nat) (t : Int) : frN sz xs l t = t :: frJ sz xs l t 512 := by
  cases l with
  | zero =>
    show [t] = t :: frJ sz xs 0 t 512
    congr 1
    unfold frJ
    rw [zfj (g := fun _ => []) fun i _ => by rw [zzl]; rfl]
    simp
  | succ l => rfl
def rgA (t l : Int) (sz : Int) (xs : List (Int × Int)) (N : Nat) (V : List Value) (j : Nat) : St := St.of [(1, .m (iu t)), (2, .m (ii l)), (3, .m (.c (.s N 1 V))), (4, .m (.c (.p 4 0))), (11, .m (ii j))] [(4, .live (.box [cu sz, .s xs.length 2 (fl xs)]))]
def rgB (t l : Int) (sz : Int) (xs : List (Int × Int)) (met : List Int) (j : Nat) : St := St.of [(1, .m (iu t)), (2, .m (ii l)), (3, .m (.c (.o 52))), (4, .m (.c (.p 4 0))), (11, .m (ii j))] [(4, .live (.box [cu sz, .s xs.length 2 (fl xs)])), (52, .live (.row 25 1 (met.length + 1) (flU met ++ [.int .u64 t])))]
def rgH (t l : Int) (sz : Int) (xs : List (Int × Int)) (met : List Int) (N : Nat) (V : List Value) (ph : Bool) (j : Nat) : St := cond ph (rgA t l sz xs N V j) (rgB t l sz xs met j)
section
variable {cd cp sz f sh : Int} {xs : List (Int × Int)} {lv : Int → Int}
theorem zjw (h : TI cd cp sz xs f sh lv) (hx : xs.length ≤ 1000000) (l : Nat) (rec : ∀ m, l = m + 1 → ∀ (t : Int) (met : List Int), Al cd cp f t → lv t = m → (met ++ frN sz xs m t).Nodup → (met ++ frN sz xs m t).length ≤ 64 → Ok 65 [zb2 sz xs, iu t, ii m, .c (.s met.length 1 (flU met))] (.tu [.c (.s (met ++ frN sz xs m t).length 1 (flU (met ++ frN sz xs m t))), ib true]))
    (t : Int) (met : List Int) (l2 : l ≤ 2) (ht : Al cd cp f t) (hl : lv t = l) (hnd : (met ++ frN sz xs l t).Nodup) (hlen : (met ++ frN sz xs l t).length ≤ 64) :
    Ok 65 [zb2 sz xs, iu t, ii l, .c (.s met.length 1 (flU met))] (.tu [.c (.s (met ++ frN sz xs l t).length 1 (flU (met ++ frN sz xs l t))), ib true]) := by
  have b1 := h.bd
  have b2 := h.bp
  have bz := h.bz
  have bt := ht.1
  have hs := h.s
  have hu := h.u
  have hmet : met.length < 64 := by
    rw [zv5, List.length_append, List.length_cons] at hlen; omega
  have hno : ∀ x ∈ met, x ≠ t := fun x hx e => by
    rw [List.nodup_append] at hnd
    exact hnd.2.2 x hx t (zb0 _ _ _ _) e
  obtain ⟨N, hN⟩ : ∃ N, N = (met ++ frN sz xs l t).length := ⟨_, rfl⟩
  obtain ⟨V, hV⟩ : ∃ V, V = flU (met ++ frN sz xs l t) := ⟨_, rfl⟩
  rw [← hN, ← hV]
  refine zah 79 Tryz.func65 rfl rfl rfl rfl ?_ GG.to
  intro W A hG
  repeat (first | (refine zaj rfl ?_; first | refine zak ?_) | (refine hK _ ?_; clear hK K) | (rename_i K1 hK1; refine hK1 _ ?_; clear hK hK1; clear K) | (rename_i K1 hK1; refine hK1 _ ?_; clear hK1) | refine zac rfl ?_ | refine zas (by kernel_rfl) (by kernel_rfl) rfl ?_ | exact zaf (show zav _ _ _ = some _ by kernel_rfl) | refine zag rfl rfl ?_ | refine zae rfl rfl ?_ | refine zad ?_ | refine zan ?_ | refine zai ?_ | refine zab (fun K hK => ?_) | refine zap ?_ | refine zau ?_ | refine zaf (show zav _ _ _ = some _ ∧ EndB _ _ from ⟨by kernel_rfl, ?_⟩))
  refine za3 (α := Nat) (fun i => i ≤ met.length) (fun i => St.of [(1, .m (iu t)), (2, .m (ii l)), (3, .m (.c (.s met.length 1 (flU met)))), (4, .m (.c (.p 4 0))), (10, .m (ii i))] [(4, .live (.box [cu sz, .s xs.length 2 (fl xs)]))]) (fun i => met.length - i) 0 (Nat.zero_le _) (zax _ _ ⟨rfl, rfl, rfl, rfl, rfl, trivial⟩ ⟨rfl, trivial⟩ rfl) ?_
  intro i hi
  by_cases hlt : i < met.length
  · obtain ⟨x, hx0⟩ : ∃ x, met[i]? = some x := ⟨_, List.getElem?_eq_getElem hlt⟩
    have hx := zzk hx0
    have hne := hno x (List.mem_of_getElem? hx0)
    repeat (first | (refine zaj rfl ?_; first | refine zak ?_) | (refine hK _ ?_; clear hK K) | (rename_i K1 hK1; refine hK1 _ ?_; clear hK hK1; clear K) | (rename_i K1 hK1; refine hK1 _ ?_; clear hK1) | refine zac rfl ?_ | refine zas (by kernel_rfl) (by kernel_rfl) rfl ?_ | exact zaf (show zav _ _ _ = some _ by kernel_rfl) | refine zag rfl rfl ?_ | refine zae rfl rfl ?_ | refine zad ?_ | refine zan ?_ | refine zai ?_ | refine zab (fun K hK => ?_) | refine zap ?_ | refine zau ?_ | refine zaf (show zav _ _ _ = some _ ∧ EndB _ _ from ⟨by kernel_rfl, ?_⟩))
    exact ⟨i + 1, by omega, by omega, zax _ _ ⟨rfl, rfl, rfl, rfl, rfl, trivial⟩ ⟨rfl, trivial⟩ rfl⟩
  · skip
    repeat (first | (refine zaj rfl ?_; first | refine zak ?_ | refine gdr (zc5 rfl rfl rfl rfl rfl rfl rfl rfl rfl rfl rfl rfl (z16 met) (by omega)) ?_ | refine gdr (zbl rfl rfl rfl rfl rfl rfl rfl rfl rfl rfl rfl rfl rfl (by omega)) ?_) | (refine hK _ ?_; clear hK K) | (rename_i K1 hK1; refine hK1 _ ?_; clear hK hK1; clear K) | (rename_i K1 hK1; refine hK1 _ ?_; clear hK1) | refine zac rfl ?_ | refine zas (by kernel_rfl) (by kernel_rfl) rfl ?_ | exact zaf (show zav _ _ _ = some _ by kernel_rfl) | refine zag rfl rfl ?_ | refine zae rfl rfl ?_ | refine zad ?_ | refine zan ?_ | refine zai ?_ | refine zab (fun K hK => ?_) | refine zap ?_ | refine zau ?_ | refine zaf (show zav _ _ _ = some _ ∧ EndB _ _ from ⟨by kernel_rfl, ?_⟩))
    refine za3 (α := Bool × Nat) (fun w => w.2 ≤ 512 ∧ (w.1 = false → frJ sz xs l t w.2 = [])) (fun w => rgH t l sz xs met (met ++ t :: frJ sz xs l t w.2).length (flU (met ++ t :: frJ sz xs l t w.2)) w.1 w.2) (fun w => 512 - w.2) (false, 0) ⟨Nat.zero_le _, fun _ => rfl⟩ (by show Sub _ _ (rgB t l sz xs met 0); unfold rgB; exact sbq _ _) ?_
    rintro ⟨ph, j⟩ ⟨hj0, hp0⟩
    have hj : j ≤ 512 := hj0
    have hp : ph = false → frJ sz xs l t j = [] := hp0
    clear hj0 hp0
    show Aw _ _ _ _ (rgH t l sz xs met (met ++ t :: frJ sz xs l t j).length (flU (met ++ t :: frJ sz xs l t j)) ph j)
    by_cases hjt : j < 512
    · have hj' : (0 : Int) ≤ (j : Int) ∧ (j : Int) < 512 := by omega
      have ha := zy1 sz xs t j ⟨by omega, by omega⟩ hj' hs hu hx
      rw [show 4096 * t + 8 * (j : Int) = t * 4096 + (j : Int) * 8 by omega] at ha
      replace ha : Ok 66 [zb2 sz xs, iu t, ii j] (.m (.ag (atM sz xs t j).ce)) := ha
      have hk := zvg (atM sz xs t j) (znj hu sz t j) (l : Int) (by omega) (by omega)
      have hsucc := zrg sz xs l t j
      cases hlk : za0 (atM sz xs t j) (l : Int) with
      | false =>
        rw [hlk] at hk hsucc
        replace hsucc : frJ sz xs l t (j + 1) = frJ sz xs l t j := by rw [hsucc]; simp
        generalize atM sz xs t j = q at *
        cases ph with
        | false =>
          replace hp := hp rfl
          show Aw _ _ _ _ (rgB t _ sz xs met j)
          unfold rgB
          repeat (first | (refine zaj rfl ?_; first | refine zak ?_ | refine gdr (zaa rfl rfl rfl (ha) (by kernel_rfl)) ?_ | refine gdr (zaa rfl rfl rfl (hk) (by kernel_rfl)) ?_) | (refine hK _ ?_; clear hK K) | (rename_i K1 hK1; refine hK1 _ ?_; clear hK hK1; clear K) | (rename_i K1 hK1; refine hK1 _ ?_; clear hK1) | refine zac rfl ?_ | refine zas (by kernel_rfl) (by kernel_rfl) rfl ?_ | exact zaf (show zav _ _ _ = some _ by kernel_rfl) | refine zag rfl rfl ?_ | refine zae rfl rfl ?_ | refine zad ?_ | refine zan ?_ | refine zai ?_ | refine zab (fun K hK => ?_) | refine zap ?_ | refine zau ?_ | refine zaf (show zav _ _ _ = some _ ∧ EndB _ _ from ⟨by kernel_rfl, ?_⟩))
          refine ⟨(false, j + 1), ⟨by show j + 1 ≤ 512; omega, fun _ => by show frJ sz xs l t (j + 1) = []; rw [hsucc]; exact hp⟩, by show 512 - (j + 1) < 512 - j; omega, ?_⟩
          show Sub _ _ (rgB t _ sz xs met (j + 1))
          unfold rgB
          exact sbq _ _
        | true =>
          show Aw _ _ _ _ (rgA t _ sz xs _ _ j)
          unfold rgA
          have e1 : frJ sz xs l t (true, j + 1).2 = frJ sz xs l t j := hsucc
          generalize (met ++ t :: frJ sz xs l t j).length = n1 at *
          repeat (first | (refine zaj rfl ?_; first | refine zak ?_ | refine gdr (zaa rfl rfl rfl (ha) (by kernel_rfl)) ?_ | refine gdr (zaa rfl rfl rfl (hk) (by kernel_rfl)) ?_) | (refine hK _ ?_; clear hK K) | (rename_i K1 hK1; refine hK1 _ ?_; clear hK hK1; clear K) | (rename_i K1 hK1; refine hK1 _ ?_; clear hK1) | refine zac rfl ?_ | refine zas (by kernel_rfl) (by kernel_rfl) rfl ?_ | exact zaf (show zav _ _ _ = some _ by kernel_rfl) | refine zag rfl rfl ?_ | refine zae rfl rfl ?_ | refine zad ?_ | refine zan ?_ | refine zai ?_ | refine zab (fun K hK => ?_) | refine zap ?_ | refine zau ?_ | refine zaf (show zav _ _ _ = some _ ∧ EndB _ _ from ⟨by kernel_rfl, ?_⟩))
          refine ⟨(true, j + 1), ⟨by show j + 1 ≤ 512; omega, fun hh => by cases hh⟩, by show 512 - (j + 1) < 512 - j; omega, ?_⟩
          rw [e1]
          show Sub _ _ (rgA t _ sz xs _ _ (j + 1))
          unfold rgA
          exact sbq _ _
      | true =>
        rw [hlk] at hk hsucc
        obtain ⟨m, rfl⟩ : ∃ m, l = m + 1 := by
          cases l with
          | zero => rw [zzl] at hlk; cases hlk
          | succ m => exact ⟨m, rfl⟩
        obtain ⟨k1, k2, k3, k4, k5⟩ := zg2 h hj' hlk
        replace hsucc : frJ sz xs (m + 1) t (j + 1) = frJ sz xs (m + 1) t j ++ frN sz xs m (atM sz xs t j).ppn := by rw [hsucc, if_pos rfl]; rfl
        obtain ⟨r, hr⟩ := zv4 sz xs (m + 1) t (j + 1) (512 - (j + 1))
        rw [show j + 1 + (512 - (j + 1)) = 512 by omega, hsucc] at hr
        have hall : met ++ frN sz xs (m + 1) t = (met ++ t :: frJ sz xs (m + 1) t j ++ frN sz xs m (atM sz xs t j).ppn) ++ r := by rw [zv5, hr]; simp
        have hnd' : (met ++ t :: frJ sz xs (m + 1) t j ++ frN sz xs m (atM sz xs t j).ppn).Nodup := by
          rw [hall, List.nodup_append] at hnd; exact hnd.1
        have hlen' : (met ++ t :: frJ sz xs (m + 1) t j ++ frN sz xs m (atM sz xs t j).ppn).length ≤ 64 := by
          rw [hall, List.length_append] at hlen; omega
        have hrr := rec m rfl (atM sz xs t j).ppn (met ++ t :: frJ sz xs (m + 1) t j) k5 (by rw [k4, hl]; omega) hnd' hlen'
        have e1 : met ++ t :: frJ sz xs (m + 1) t (true, j + 1).2 = met ++ t :: frJ sz xs (m + 1) t j ++ frN sz xs m (atM sz xs t j).ppn := by
          show met ++ t :: frJ sz xs (m + 1) t (j + 1) = _
          rw [hsucc]; simp
        rw [show (m : Int) = ((m + 1 : Nat) : Int) - 1 by omega] at hrr
        have hl1 : (0 : Int) ≤ ((m + 1 : Nat) : Int) ∧ ((m + 1 : Nat) : Int) ≤ 2 := by omega
        clear hnd hlen hall hr hnd' hlen' hsucc rec
        generalize frN sz xs m (atM sz xs t j).ppn = F at *
        generalize ((m + 1 : Nat) : Int) = li at *
        generalize atM sz xs t j = q at *
        cases ph with
        | false =>
          replace hp := hp rfl
          rw [hp] at hrr e1
          rw [show (met ++ [t]).length = met.length + 1 by simp, show flU (met ++ [t]) = flU met ++ [.int .u64 t] by simp [flU]] at hrr
          show Aw _ _ _ _ (rgB t _ sz xs met j)
          unfold rgB
          repeat (first | (refine zaj rfl ?_; first | refine zak ?_ | refine gdr (zaa rfl rfl rfl (ha) (by kernel_rfl)) ?_ | refine gdr (zaa rfl rfl rfl (hk) (by kernel_rfl)) ?_) | (refine hK _ ?_; clear hK K) | (rename_i K1 hK1; refine hK1 _ ?_; clear hK hK1; clear K) | (rename_i K1 hK1; refine hK1 _ ?_; clear hK1) | refine zac rfl ?_ | refine zas (by kernel_rfl) (by kernel_rfl) rfl ?_ | exact zaf (show zav _ _ _ = some _ by kernel_rfl) | refine zag rfl rfl ?_ | refine zae rfl rfl ?_ | refine zad ?_ | refine zan ?_ | refine zai ?_ | refine zab (fun K hK => ?_) | refine zap ?_ | refine zau ?_ | refine zaf (show zav _ _ _ = some _ ∧ EndB _ _ from ⟨by kernel_rfl, ?_⟩))
          refine zaj rfl ?_
          refine zrv (ze8 (b := 52) (l := [zb2 sz xs, iu q.ppn, ii (li - 1), .c (.o 52)]) rfl rfl rfl (by kernel_rfl) rfl (by kernel_rfl) (zlp (by kernel_rfl) hrr)) (by kernel_rfl) ?_
          repeat (first | (refine zaj rfl ?_; first | refine zak ?_) | (refine hK _ ?_; clear hK K) | (rename_i K1 hK1; refine hK1 _ ?_; clear hK hK1; clear K) | (rename_i K1 hK1; refine hK1 _ ?_; clear hK1) | refine zac rfl ?_ | refine zas (by kernel_rfl) (by kernel_rfl) rfl ?_ | exact zaf (show zav _ _ _ = some _ by kernel_rfl) | refine zag rfl rfl ?_ | refine zae rfl rfl ?_ | refine zad ?_ | refine zan ?_ | refine zai ?_ | refine zab (fun K hK => ?_) | refine zap ?_ | refine zau ?_ | refine zaf (show zav _ _ _ = some _ ∧ EndB _ _ from ⟨by kernel_rfl, ?_⟩))
          refine ⟨(true, j + 1), ⟨by show j + 1 ≤ 512; omega, fun hh => by cases hh⟩, by show 512 - (j + 1) < 512 - j; omega, ?_⟩
          rw [e1]
          show Sub _ _ (rgA t _ sz xs _ _ (j + 1))
          unfold rgA
          exact sbq _ _
        | true =>
          show Aw _ _ _ _ (rgA t _ sz xs _ _ j)
          unfold rgA
          generalize met ++ t :: frJ sz xs (m + 1) t j = M at *
          repeat (first | (refine zaj rfl ?_; first | refine zak ?_ | refine gdr (zaa rfl rfl rfl (ha) (by kernel_rfl)) ?_ | refine gdr (zaa rfl rfl rfl (hk) (by kernel_rfl)) ?_ | refine gdr (zaa rfl rfl rfl (hrr) (by kernel_rfl)) ?_) | (refine hK _ ?_; clear hK K) | (rename_i K1 hK1; refine hK1 _ ?_; clear hK hK1; clear K) | (rename_i K1 hK1; refine hK1 _ ?_; clear hK1) | refine zac rfl ?_ | refine zas (by kernel_rfl) (by kernel_rfl) rfl ?_ | exact zaf (show zav _ _ _ = some _ by kernel_rfl) | refine zag rfl rfl ?_ | refine zae rfl rfl ?_ | refine zad ?_ | refine zan ?_ | refine zai ?_ | refine zab (fun K hK => ?_) | refine zap ?_ | refine zau ?_ | refine zaf (show zav _ _ _ = some _ ∧ EndB _ _ from ⟨by kernel_rfl, ?_⟩))
          refine ⟨(true, j + 1), ⟨by show j + 1 ≤ 512; omega, fun hh => by cases hh⟩, by show 512 - (j + 1) < 512 - j; omega, ?_⟩
          rw [e1]
          show Sub _ _ (rgA t _ sz xs _ _ (j + 1))
          unfold rgA
          exact sbq _ _
    · obtain rfl : j = 512 := by omega
      rw [← zv5]
      cases ph with
      | false =>
        have hp := hp rfl
        have hN : N = met.length + 1 := by rw [hN, zv5, hp]; simp
        have hV : V = flU met ++ [.int .u64 t] := by rw [hV, zv5, hp]; simp [flU]
        subst hN hV
        show Aw _ _ _ _ (rgB t _ sz xs met 512)
        unfold rgB
        repeat (first | (refine zaj rfl ?_; first | refine zak ?_) | (refine hK _ ?_; clear hK K) | (rename_i K1 hK1; refine hK1 _ ?_; clear hK hK1; clear K) | (rename_i K1 hK1; refine hK1 _ ?_; clear hK1) | refine zac rfl ?_ | refine zas (by kernel_rfl) (by kernel_rfl) rfl ?_ | exact zaf (show zav _ _ _ = some _ by kernel_rfl) | refine zag rfl rfl ?_ | refine zae rfl rfl ?_ | refine zad ?_ | refine zan ?_ | refine zai ?_ | refine zab (fun K hK => ?_) | refine zap ?_ | refine zau ?_ | refine zaf (show zav _ _ _ = some _ ∧ EndB _ _ from ⟨by kernel_rfl, ?_⟩))
      | true =>
        rw [← hN, ← hV]
        show Aw _ _ _ _ (rgA t _ sz xs _ _ 512)
        unfold rgA
        repeat (first | (refine zaj rfl ?_; first | refine zak ?_) | (refine hK _ ?_; clear hK K) | (rename_i K1 hK1; refine hK1 _ ?_; clear hK hK1; clear K) | (rename_i K1 hK1; refine hK1 _ ?_; clear hK1) | refine zac rfl ?_ | refine zas (by kernel_rfl) (by kernel_rfl) rfl ?_ | exact zaf (show zav _ _ _ = some _ by kernel_rfl) | refine zag rfl rfl ?_ | refine zae rfl rfl ?_ | refine zad ?_ | refine zan ?_ | refine zai ?_ | refine zab (fun K hK => ?_) | refine zap ?_ | refine zau ?_ | refine zaf (show zav _ _ _ = some _ ∧ EndB _ _ from ⟨by kernel_rfl, ?_⟩))
theorem zkt (h : TI cd cp sz xs f sh lv) (hx : xs.length ≤ 1000000) : ∀ (l : Nat) (t : Int) (met : List Int), l ≤ 2 → Al cd cp f t → lv t = l → (met ++ frN sz xs l t).Nodup → (met ++ frN sz xs l t).length ≤ 64 →
    Ok 65 [zb2 sz xs, iu t, ii l, .c (.s met.length 1 (flU met))] (.tu [.c (.s (met ++ frN sz xs l t).length 1 (flU (met ++ frN sz xs l t))), ib true]) := by
  intro l
  induction l with
  | zero => exact fun t met l2 => zjw h hx 0 (fun m e => by omega) t met l2
  | succ l ih =>
    intro t met l2
    refine zjw h hx (l + 1) (fun m e t met => ?_) t met l2
    obtain rfl : m = l := by omega
    exact ih t met (by omega)
end
end Go.Proofs.YtomeaibdedaldaaGreatDoor.LoA
