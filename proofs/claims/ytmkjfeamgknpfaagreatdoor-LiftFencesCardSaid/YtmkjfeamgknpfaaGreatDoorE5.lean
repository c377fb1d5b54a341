/- Texts of this claim, one behind the other: LiE, LiF, LjB, VaR3, RlA, RlB, RlC, LkA, LjC, AxZ, LjD, AxW, LjE, LkB, LkC, LkD, LjA, LjF, LkE, LaI, LkF, LaJ, LkG, Open. -/
import Derived.Test.YtmkjfeamgknpfaaGreatDoorE4
import Derived.Test.YtmkjfeamgknpfaaGreatDoorE3
import Derived.Defers
import Derived.Test.YtmkjfeamgknpfaaGreatDoorE2
import Derived.ProofKit
import Derived.Carry
import Derived.ChangeOld
import Derived.ChangeArms
import Derived.WideShapes
set_option linter.unusedVariables false
set_option linter.unusedSimpArgs false
set_option linter.unusedSectionVars false
namespace Go.Proofs.YtmkjfeamgknpfaaGreatDoor.LiE
open Go.RowKit Bv VaSpec Base MemL RegR Ax MemC PutC MemC3 TzC OkS SpA SpB SpC SpD SpE SpF SpG SpH SpI SpJ SpN SpO RfP RfQ RfE RfJ LaA LaB LaC LaD LaE LaF LaG LaH LiA LiB LiC LiD
open BitsC PteSpec
set_option maxRecDepth 10000
set_option maxHeartbeats 1000000
structure InvT (n : Nat) (k : Kr) : Prop where
  l : InvL n k
  t : ∃ lv, TI k.cd k.cp k.sz k.m k.pf k.sh lv ∧ lv k.sh = 1 ∧ ∀ s ∈ k.ss, s.live = true → lv s.root = 2
theorem z0f {n l : Int} {p : Pm} {g : Bool} (hn : n % (VaSpec.sz l / 4096) = 0) (hp : zmm p = true) : ze5 (mkP n p g) l = false := by
  obtain ⟨r, w, x, u⟩ := p
  revert hp
  unfold zmm ze5 zb7 mkP
  cases r <;> cases w <;> cases x <;> simp [hn]
section
variable {cd cp sz f sh : Int} {xs : List (Int × Int)} {lv : Int → Int}
theorem zyc (h : TI cd cp sz xs f sh lv) (h0 : f ≠ 0) {t i : Int} (ht : Al cd cp f t) (hsh : Al cd cp f sh) (hl : 1 ≤ lv t ∧ lv t ≤ 2) (hi : 0 ≤ i ∧ i < 512) (hn : zb7 (atM sz xs t i) = false) :
    TI cd cp sz (zbw sz xs t i (lnk (cd + tzI f))) (zbq f (tzI f) 1 0) sh (upL lv (cd + tzI f) (lv t - 1)) := by
  obtain ⟨a0, a1, a2, a3⟩ := zew h h0
  have b1 := h.bd
  have b2 := h.bp
  have hnn : 0 ≤ cd + tzI f ∧ cd + tzI f < 17592186044416 := by omega
  rw [h.gm.with ht hi (zhr hnn)]
  refine h.put ht.1 hi (zff _ (zhr hnn)) a3 fun E' hE => ?_
  rw [zh1 hnn] at hE
  refine h.e.link a0 a1 ht hl hi hsh ?_ hE
  cases e : lkP (atM sz xs t i) with
  | false => rfl
  | true => rw [(zgd e).1] at hn; cases hn
theorem zyd (addr zax : Int) (hw : 0 ≤ zax) : ∀ (l : Nat) (xs : List (Int × Int)) (f t : Int) (lv : Int → Int), TI cd cp sz xs f sh lv → Al cd cp f t → Al cd cp f sh → lv t = l → l ≤ 2 → zax ≤ (l : Int) →
    (dnN sz cd addr zax l xs f t).2.2.2 = 0 → ∃ lv', TI cd cp sz (dnN sz cd addr zax l xs f t).1 (dnN sz cd addr zax l xs f t).2.1 sh lv' ∧ lv' (dnN sz cd addr zax l xs f t).2.2.1 = zax ∧ Al cd cp (dnN sz cd addr zax l xs f t).2.1 (dnN sz cd addr zax l xs f t).2.2.1 ∧ ∀ s, Al cd cp f s → lv' s = lv s
  | 0, xs, f, t, lv, h, ht, _, hl, _, hwl, _ => ⟨lv, h, by show lv t = zax; omega, ht, fun s _ => rfl⟩
  | l + 1, xs, f, t, lv, h, ht, hsh, hl, h2, hwl, he => by
    have hi := idx_bd addr ((l + 1 : Nat) : Int)
    unfold dnN at he ⊢
    split
    · exact ⟨lv, h, by show lv t = zax; omega, ht, fun s _ => rfl⟩
    · rename_i c1
      rw [if_neg c1] at he
      split
      · rename_i c2; rw [if_pos c2] at he; cases he
      · rename_i c2
        rw [if_neg c2] at he
        have hk := h.e.k t _ hi
        split
        · rename_i c3
          rw [if_pos c3] at he
          rcases hk with e | ⟨_, _, ⟨e, _⟩ | ⟨e1, e2, e3, e4⟩⟩
          · rw [e] at c3; cases c3
          · exact absurd e c2
          · exact zyd addr zax hw l xs f _ lv h e4 hsh (by rw [e3, hl]; omega) (by omega) (by omega) he
        · rename_i c3
          rw [if_neg c3] at he
          split
          · rename_i c4; rw [if_pos c4] at he; cases he
          · rename_i c4
            rw [if_neg c4] at he
            obtain ⟨a0, a1, a2, a3⟩ := zew h c4
            have hn : zb7 (atM sz xs t (idx addr ((l + 1 : Nat) : Int))) = false := by
              unfold zb7
              rw [show (atM sz xs t (idx addr ((l + 1 : Nat) : Int))).v = false by simpa using c3]; rfl
            have hT := zyc h c4 ht hsh (by rw [hl]; omega) hi hn
            obtain ⟨lv', r1, r2, r3, r4⟩ := zyd addr zax hw l _ _ _ _ hT a1 (a0 _ hsh).1 (by rw [hl]; show upL lv (cd + tzI f) _ (cd + tzI f) = _; unfold upL; rw [if_pos rfl]; omega) (by omega) (by omega) he
            refine ⟨lv', r1, r2, r3, fun s hs => (r4 s (a0 s hs).1).trans ?_⟩
            exact if_neg (a0 s hs).2
end
theorem zmy {n : Nat} {k : Kr} {id a l : Int} (h : InvL n k) (he : (za1 k id a l).2.2 = 0) : ((za1 k id a l).1 = k.sh ∧ (za1 k id a l).2.1 = 1 ∧ id = -1) ∨ (zb2 k id = true ∧ id ≠ -1 ∧ (za1 k id a l).1 = (zb5 k id).root ∧ (za1 k id a l).2.1 = 2 ∧ idx a 2 ≠ 511) := by
  unfold za1 at he ⊢
  by_cases c1 : 0 ≤ l ∧ l ≤ 2
  rotate_left
  · rw [if_pos c1] at he; cases he
  rw [if_neg (by simpa using c1)] at he ⊢
  by_cases c2 : id ≠ -1 ∧ zb2 k id = false
  · rw [if_pos c2] at he; cases he
  rw [if_neg c2] at he ⊢
  by_cases c3 : zrq a l = false
  · rw [if_pos c3] at he; cases he
  rw [if_neg c3] at he ⊢
  by_cases c4 : id = -1
  · rw [if_pos c4] at he ⊢
    by_cases c5 : idx a 2 = 511 ∧ l ≠ 2
    · rw [if_pos c5]; exact .inl ⟨rfl, rfl, c4⟩
    · rw [if_neg c5] at he; cases he
  · rw [if_neg c4] at he ⊢
    by_cases c5 : idx a 2 = 511
    · rw [if_pos c5] at he; cases he
    · rw [if_neg c5]
      have c6 : zb2 k id = true := by
        cases e : zb2 k id with
        | true => rfl
        | false => exact absurd ⟨c4, e⟩ c2
      exact .inr ⟨c6, c4, rfl, rfl, c5⟩
theorem InvT.top {n : Nat} {k : Kr} {id a l : Int} (h : InvT n k) (he : (za1 k id a l).2.2 = 0) {lv : Int → Int} (hs : lv k.sh = 1) (hr : ∀ s ∈ k.ss, s.live = true → lv s.root = 2) :
    lv (za1 k id a l).1 = (za1 k id a l).2.1 ∧ (2 ≤ (za1 k id a l).2.1 → idx a 2 ≠ 511) := by
  rcases zmy h.l he with ⟨e1, e2, _⟩ | ⟨e1, _, e2, e3, e4⟩
  · rw [e1, e2]; exact ⟨hs, fun hh => by omega⟩
  · obtain ⟨h0, h1, h2, h3⟩ := zfy e1
    rw [e2, e3]
    exact ⟨hr _ (List.mem_of_getElem? h2) h3, fun _ => e4⟩
theorem zvd {l : Int} (h : 0 ≤ l ∧ l ≤ 2) {pa : Int} (hp : pa % VaSpec.sz l = 0) : (pa / 4096) % (VaSpec.sz l / 4096) = 0 := by
  rcases (by omega : l = 0 ∨ l = 1 ∨ l = 2) with rfl | rfl | rfl
  · show (pa / 4096) % 1 = 0; omega
  · have hp : pa % 2097152 = 0 := hp
    show (pa / 4096) % 512 = 0; omega
  · have hp : pa % 1073741824 = 0 := hp
    show (pa / 4096) % 262144 = 0; omega
theorem zlc {n : Nat} {k : Kr} {id a pa l : Int} {p : Pm} (h : InvT n k) (hp : U pa) : InvT (n + 3) (zq2 k id a pa l p).1 := by
  refine ⟨zx5 h.l hp, ?_⟩
  obtain ⟨lv, hT, hs, hr⟩ := h.t
  unfold zq2
  split
  · exact ⟨lv, hT, hs, hr⟩
  · rename_i c0
    split
    · exact ⟨lv, hT, hs, hr⟩
    · rename_i c1
      split
      · exact ⟨lv, hT, hs, hr⟩
      · split
        · exact ⟨lv, hT, hs, hr⟩
        · rename_i c3
          split
          · exact ⟨lv, hT, hs, hr⟩
          · split
            · exact ⟨lv, hT, hs, hr⟩
            · rename_i c5
              obtain ⟨w1, w2, w3, w4⟩ := zdb (id := id) (a := a) (l := l) h.l (by omega)
              obtain ⟨z1, z2⟩ := h.top (id := id) (a := a) (l := l) (by omega) hs hr
              generalize za1 k id a l = w at *
              have he : (zs0 k w.1 w.2.1 a l).2.2.2 = 0 := by omega
              obtain ⟨lv', r1, r2, r3, r4⟩ := zyd a l w1.1 w.2.1.toNat k.m k.pf w.1 lv hT w2 h.l.sh (by omega) (by omega) (by omega) he
              have hpm := zod (p := p) (by omega)
              have hpn := zs1 (k := k) (l := l) hp (by have := h.l.g.bd; omega) (by omega)
              have hb := zk2 (n := pa / 4096) (p := p) (g := decide (id = -1)) hpn hpm
              have hzz : 0 < VaSpec.sz l := by rcases VaSpec.lev w1.1 w1.2 with rfl | rfl | rfl <;> decide
              have hmod : pa % VaSpec.sz l = 0 := by
                have e : lk0 pa l = 0 := by omega
                unfold lk0 ze4 at e
                rw [if_neg (show ¬ VaSpec.sz l = 0 by omega)] at e
                split at e
                · rename_i c; simpa using c
                · cases e
              have hbad := z0f (g := decide (id = -1)) (zvd w1 hmod) hpm
              refine ⟨lv', ?_, (r4 _ h.l.sh).trans hs, fun s hs' hl => (r4 _ (h.l.ss s hs' hl)).trans (hr s hs' hl)⟩
              show TI k.cd k.cp k.sz (zbw k.sz (dnN k.sz k.cd a l w.2.1.toNat k.m k.pf w.1).1 (dnN k.sz k.cd a l w.2.1.toNat k.m k.pf w.1).2.2.1 (idx a l) (mkP (pa / 4096) p (decide (id = -1)))) (dnN k.sz k.cd a l w.2.1.toNat k.m k.pf w.1).2.1 k.sh lv'
              rw [r1.gm.with r3 (idx_bd a l) hb.2.1]
              refine r1.put r3.1 (idx_bd a l) (zff _ hb.2.1) r1.bf fun E' hE => ?_
              rw [hb.1] at hE
              exact r1.e.leaf r3 (by rw [r2]; exact w1) hb.2.2 (by rw [r2]; exact hbad) hE
structure ToP (cd cp sz f sh addr zax top : Int) (l : Nat) (xs : List (Int × Int)) (lv : Int → Int) (n : Nat) (T : List (Int × Int) × Int × (Int × Int) × Int) (lv' : Int → Int) : Prop where
  t : TI cd cp sz T.1 T.2.1 sh lv'
  a : ∀ s, Al cd cp f s → Al cd cp T.2.1 s ∧ lv' s = lv s
  n : T.1.length ≤ xs.length + 513 * n
  r : zbc sz T.1 addr zax l top = T.2.2.1
  p : ∃ l' : Nat, T.2.2.1.2 = (l' : Int) ∧ l' ≤ l ∧ zax ≤ (l' : Int) ∧ Al cd cp T.2.1 T.2.2.1.1 ∧ lv' T.2.2.1.1 = (l' : Int)
section
variable {cd cp sz sh : Int}
theorem zye (addr zax top : Int) (l : Nat) (hw : 0 ≤ zax) (hwl : zax ≤ (l : Int)) (hl2 : l ≤ 2) : ∀ (n : Nat) (xs : List (Int × Int)) (f : Int) (lv : Int → Int), TI cd cp sz xs f sh lv → Al cd cp f top → Al cd cp f sh → lv top = l →
    ∃ lv', ToP cd cp sz f sh addr zax top l xs lv n (toN sz cd addr zax top l n xs f) lv'
  | 0, xs, f, lv, h, ht, _, hl => by
    obtain ⟨l', t', i1, i2, i3, i4, i5, i6, _⟩ := zf0 h addr zax hw l top ht hl hwl
    exact ⟨lv, h, fun s hs => ⟨hs, rfl⟩, by show xs.length ≤ _; omega, rfl, l', by show (zbc sz xs addr zax l top).2 = _; rw [i1], i2, i3, by show Al cd cp f (zbc sz xs addr zax l top).1; rw [i1]; exact i4, by show lv (zbc sz xs addr zax l top).1 = _; rw [i1]; exact i5⟩
  | n + 1, xs, f, lv, h, ht, hsh, hl => by
    obtain ⟨l', t', i1, i2, i3, i4, i5, i6, i7⟩ := zf0 h addr zax hw l top ht hl hwl
    have hstop : ∀ e, ToP cd cp sz f sh addr zax top l xs lv (n + 1) (xs, f, (t', (l' : Int)), e) lv := fun e => ⟨h, fun s hs => ⟨hs, rfl⟩, by show xs.length ≤ _; omega, i1, l', rfl, i2, i3, i4, i5⟩
    unfold toN
    rw [i1]
    split
    · exact ⟨lv, hstop 0⟩
    · rename_i c
      split
      · exact ⟨lv, hstop 8⟩
      · rename_i c4
        have c1 : ¬ (l' : Int) = zax := fun e => c (.inl e)
        obtain ⟨m, rfl⟩ : ∃ m : Nat, l' = m + 1 := ⟨l' - 1, by omega⟩
        have hlf : zb3 (atM sz xs t' (idx addr ((m + 1 : Nat) : Int))) = true := by
          cases e : zb3 (atM sz xs t' (idx addr ((m + 1 : Nat) : Int))) with
          | true => rfl
          | false => exact absurd (.inr e) c
        have hi := idx_bd addr ((m + 1 : Nat) : Int)
        have hbad : ze5 (atM sz xs t' (idx addr ((m + 1 : Nat) : Int))) ((m + 1 : Nat) : Int) = false := by
          rcases h.e.k t' _ hi with e | ⟨_, _, ⟨_, e⟩ | ⟨e, _⟩⟩
          · rw [e] at hlf; cases hlf
          · rw [i5] at e; exact e
          · rw [(zgd e).2.2] at hlf; cases hlf
        obtain ⟨a0, a1, a2, a3⟩ := zew h c4
        have hT := zwd h c4 i4 hsh hi i5 (by omega) rfl hlf hbad
        obtain ⟨lv', P⟩ := zye addr zax top l hw hwl hl2 n _ _ _ hT (a0 _ ht).1 (a0 _ hsh).1 ((if_neg (a0 _ ht).2).trans hl)
        have hsl := zs2 sz xs t' (idx addr ((m + 1 : Nat) : Int)) ((m + 1 : Nat) : Int) (atM sz xs t' (idx addr ((m + 1 : Nat) : Int))) (cd + tzI f)
        have hPn := P.n
        refine ⟨lv', P.t, fun s hs => ⟨(P.a s (a0 s hs).1).1, (P.a s (a0 s hs).1).2.trans (if_neg (a0 s hs).2)⟩, ?_, P.r, P.p⟩
        exact Nat.le_trans hPn (by omega)
end
def zb8 (sz : Int) (xs : List (Int × Int)) (l : Int) (q : Pte) (b : Int) : List Pg := if zb3 q then [⟨b, q.ppn * 4096, l, q.r, q.w, q.x, q.u, q.d⟩] else if zb7 q then ze1 sz xs (l - 1).toNat q.ppn b else []
def inR (k : Kr) (id a l : Int) : List Pg :=
  if (za1 k id a l).2.2 ≠ 0 then [] else
  zb8 k.sz k.m (zcg k.sz k.m a l (za1 k id a l).2.1 (za1 k id a l).1).2 (atM k.sz k.m (zcg k.sz k.m a l (za1 k id a l).2.1 (za1 k id a l).1).1 (idx a (zcg k.sz k.m a l (za1 k id a l).2.1 (za1 k id a l).1).2)) (VaSpec.base a (zcg k.sz k.m a l (za1 k id a l).2.1 (za1 k id a l).1).2)
def zbp (id n : Int) (p : Pg) : Fe := if id = -1 then ⟨true, p.va, false, 0⟩ else ⟨true, p.va, true, n⟩
def zqz (id n : Int) : Fe := if id = -1 then ⟨false, 0, false, 0⟩ else ⟨false, 0, true, n⟩
def zd1 (k : Kr) (id : Int) (l : List Pg) : List Fe := if 16 < l.length then [zqz id (zb5 k id).asid] else l.map (zbp id (zb5 k id).asid)
theorem zld (k : Kr) (id : Int) (l : List Pg) : (zd1 k id l).length ≤ 16 := by
  unfold zd1
  split
  · simp
  · rw [List.length_map]; omega
def zhg (sz cd cp : Int) (T : List (Int × Int) × Int × (Int × Int) × Int) (a : Int) : List (Int × Int) × Int :=
  if zb7 (atM sz T.1 T.2.2.1.1 (idx a T.2.2.1.2)) then bkN cd cp (frN sz T.1 (T.2.2.1.2 - 1).toNat (atM sz T.1 T.2.2.1.1 (idx a T.2.2.1.2)).ppn) (T.1, T.2.1) else (T.1, T.2.1)
def unM (k : Kr) (T : List (Int × Int) × Int × (Int × Int) × Int) (top at' a : Int) : List (Int × Int) × Int :=
  prN k.sz k.cd k.cp a at'.toNat top (zbw k.sz (zhg k.sz k.cd k.cp T a).1 T.2.2.1.1 (idx a T.2.2.1.2) zP, (zhg k.sz k.cd k.cp T a).2)
def unT (k : Kr) (top at' a l : Int) : List (Int × Int) × Int × (Int × Int) × Int := toN k.sz k.cd a l top at'.toNat at'.toNat k.m k.pf
def unK (k : Kr) (id top at' a l : Int) (T : List (Int × Int) × Int × (Int × Int) × Int) : Kr := zdy { k with m := (unM k T top at' a).1, pf := (unM k T top at' a).2 } (zd1 k id (zb8 k.sz T.1 T.2.2.1.2 (atM k.sz T.1 T.2.2.1.1 (idx a T.2.2.1.2)) (VaSpec.base a T.2.2.1.2)))
def unR (k : Kr) (id a l : Int) : Kr × Int :=
  if (za1 k id a l).2.2 ≠ 0 then (k, (za1 k id a l).2.2)
  else if (inR k id a l).length = 0 then (k, 7)
  else if (unT k (za1 k id a l).1 (za1 k id a l).2.1 a l).2.2.2 ≠ 0 then (k, (unT k (za1 k id a l).1 (za1 k id a l).2.1 a l).2.2.2)
  else (unK k id (za1 k id a l).1 (za1 k id a l).2.1 a l (unT k (za1 k id a l).1 (za1 k id a l).2.1 a l), 0)
section
variable {cd cp sz f sh : Int} {xs : List (Int × Int)} {lv : Int → Int}
theorem zwf (cd cp : Int) : ∀ (l : List Int) (p : List (Int × Int) × Int), (bkN cd cp l p).1.length ≤ p.1.length
  | [], p => Nat.le_refl _
  | g :: l, p => Nat.le_trans (zwf cd cp l _) (zdo _ _)
theorem zwg (h : TI cd cp sz xs f sh lv) (hsh : Al cd cp f sh) {t a e : Int} {l' : Nat} (ht : Al cd cp f t) (hlv : lv t = (l' : Int)) (hl2 : l' ≤ 2) (hH : l' = 2 → idx a 2 ≠ 511) :
    TI cd cp sz (zbw sz (zhg sz cd cp (xs, f, (t, (l' : Int)), e) a).1 t (idx a (l' : Int)) zP) (zhg sz cd cp (xs, f, (t, (l' : Int)), e) a).2 sh lv ∧
    (∀ s, Al cd cp f s → (s = sh ∨ (l' : Int) ≤ lv s) → Al cd cp (zhg sz cd cp (xs, f, (t, (l' : Int)), e) a).2 s) ∧ (zbw sz (zhg sz cd cp (xs, f, (t, (l' : Int)), e) a).1 t (idx a (l' : Int)) zP).length ≤ xs.length ∧ Srt (zhg sz cd cp (xs, f, (t, (l' : Int)), e) a).1 ∧ (zhg sz cd cp (xs, f, (t, (l' : Int)), e) a).1.length ≤ xs.length := by
  have hi := idx_bd a (l' : Int)
  have b1 := h.bd
  have bt := ht.1
  have hz : ∀ ys : List (Int × Int), zbw sz ys t (idx a (l' : Int)) zP = zcc ys (t * 512 + idx a (l' : Int)) 0 := fun ys => by
    rw [zfk z0q (by omega) hi (by rw [h.bz]; omega), zwb]
  have hlen : ∀ ys : List (Int × Int), Srt ys → (zcc ys (t * 512 + idx a (l' : Int)) 0).length ≤ ys.length := fun ys hs => by rw [zgr _ _ hs]; exact List.length_filter_le ..
  by_cases c : zb7 (atM sz xs t (idx a (l' : Int))) = true
  · have hq : lkP (atM sz xs t (idx a (l' : Int))) = true := by
      rcases h.e.k t _ hi with e | ⟨_, _, ⟨e, _⟩ | ⟨e, _⟩⟩
      · rw [e] at c; cases c
      · rw [(zcv e).1] at c; cases c
      · exact e
    obtain ⟨k1, k2, k3, k4⟩ := zqx h hi hq
    obtain ⟨m, rfl⟩ : ∃ m : Nat, l' = m + 1 := ⟨l' - 1, by omega⟩
    have e1 : zhg sz cd cp (xs, f, (t, ((m + 1 : Nat) : Int)), e) a = bkN cd cp (frN sz xs m (atM sz xs t (idx a ((m + 1 : Nat) : Int))).ppn) (xs, f) := by
      unfold zhg
      show (if zb7 (atM sz xs t (idx a ((m + 1 : Nat) : Int))) = true then bkN cd cp (frN sz xs (((m + 1 : Nat) : Int) - 1).toNat (atM sz xs t (idx a ((m + 1 : Nat) : Int))).ppn) (xs, f) else (xs, f)) = _
      rw [if_pos c, show (((m + 1 : Nat) : Int) - 1).toNat = m by omega]
    rw [e1, hz]
    obtain ⟨r1, r2⟩ := zx6 h ht hlv hl2 hi (fun hh => by
      have e2 : m + 1 = 2 := hh.1
      have e3 := hh.2
      rw [show ((m + 1 : Nat) : Int) = 2 by omega] at e3
      exact hH e2 e3) hq
    have hbl := zwf cd cp (frN sz xs m (atM sz xs t (idx a ((m + 1 : Nat) : Int))).ppn) (xs, f)
    have hbs := (zh2 cd cp sz h.bp (frN sz xs m (atM sz xs t (idx a ((m + 1 : Nat) : Int))).ppn) (xs, f) h.s h.bf).s
    exact ⟨r1, fun s hs hk => r2 s hs (by omega), Nat.le_trans (hlen _ hbs) hbl, hbs, hbl⟩
  · have e1 : zhg sz cd cp (xs, f, (t, (l' : Int)), e) a = (xs, f) := by
      unfold zhg
      exact if_neg c
    rw [e1, hz]
    refine ⟨h.put bt hi ⟨by omega, by omega⟩ h.bf fun E' hE => h.e.sub fun s j hj => ?_, fun s hs _ => hs, hlen _ h.s, h.s, Nat.le_refl _⟩
    rw [hE s j hj, ztt]
    split
    · exact .inl rfl
    · exact .inr rfl
end
theorem zwh {n : Nat} {k : Kr} {id a l : Int} (h : InvT n k) : InvT (n + 1100) (unR k id a l).1 := by
  have hm : InvT (n + 1100) k := ⟨{ h.l with ml := by have := h.l.ml; omega, fl := by have := h.l.fl; omega }, h.t⟩
  unfold unR
  split
  · exact hm
  · rename_i c0
    split
    · exact hm
    · split
      · exact hm
      · rename_i c5
        obtain ⟨lv, hT, hs, hr⟩ := h.t
        obtain ⟨w1, w2, w3, w4⟩ := zdb (id := id) (a := a) (l := l) h.l (by omega)
        obtain ⟨z1, z2⟩ := h.top (a := a) (id := id) (l := l) (by omega) hs hr
        generalize za1 k id a l = w at *
        obtain ⟨lv', P⟩ := zye a l w.1 w.2.1.toNat w1.1 (by omega) (by omega) w.2.1.toNat k.m k.pf lv hT w2 h.l.sh (by omega)
        show InvT (n + 1100) (unK k id w.1 w.2.1 a l (unT k w.1 w.2.1 a l))
        have P : ToP k.cd k.cp k.sz k.pf k.sh a l w.1 w.2.1.toNat k.m lv w.2.1.toNat (unT k w.1 w.2.1 a l) lv' := P
        generalize unT k w.1 w.2.1 a l = T at *
        obtain ⟨xs, f, ⟨t, lt⟩, e⟩ := T
        obtain ⟨l', e1, e2, e3, e4, e5⟩ := P.p
        have e1 : lt = (l' : Int) := e1
        subst e1
        have e4 : Al k.cd k.cp f t := e4
        have e5 : lv' t = (l' : Int) := e5
        have hPt : TI k.cd k.cp k.sz xs f k.sh lv' := P.t
        have ash := P.a _ h.l.sh
        have atop := P.a _ w2
        obtain ⟨c1, c2, c3, _, _⟩ := zwg (a := a) (e := e) hPt ash.1 e4 e5 (by omega) (fun hh => z2 (by omega))
        have hlt : lv' w.1 = w.2.1 := atop.2.trans z1
        have atop2 := c2 _ atop.1 (.inr (by rw [hlt]; omega))
        have ash2 := c2 _ ash.1 (.inl rfl)
        have Q := zk8 a c1 w.2.1.toNat w.1 (by omega) atop2 (by rw [hlt]; omega) (fun hh => z2 (by omega))
        have hroot : ∀ s ∈ k.ss, s.live = true → lv' s.root = 2 ∧ Al k.cd k.cp (unM k (xs, f, (t, (l' : Int)), e) w.1 w.2.1 a).2 s.root := fun s hs' hl => by
          have a1 := P.a _ (h.l.ss s hs' hl)
          have a2 : lv' s.root = 2 := a1.2.trans (hr s hs' hl)
          have a3 := c2 _ a1.1 (.inr (by rw [a2]; omega))
          exact ⟨a2, Q.a _ a3 (.inr (by rw [a2]; omega))⟩
        have hTI : TI k.cd k.cp k.sz (unM k (xs, f, (t, (l' : Int)), e) w.1 w.2.1 a).1 (unM k (xs, f, (t, (l' : Int)), e) w.1 w.2.1 a).2 k.sh lv' := Q.t
        have hPn : xs.length ≤ k.m.length + 513 * w.2.1.toNat := P.n
        have hml := h.l.ml
        have hfl := h.l.fl
        have hlen : (unM k (xs, f, (t, (l' : Int)), e) w.1 w.2.1 a).1.length ≤ n + 1100 := by
          have : (unM k (xs, f, (t, (l' : Int)), e) w.1 w.2.1 a).1.length ≤ (zbw k.sz (zhg k.sz k.cd k.cp (xs, f, (t, (l' : Int)), e) a).1 t (idx a (l' : Int)) zP).length := Q.n
          omega
        refine ⟨{ g := hTI.gm, cs := h.l.cs, pb := h.l.pb, pm := h.l.pm, sh := Q.a _ ash2 (.inl rfl), ts := h.l.ts, ml := hlen, fl := ?_, sl := h.l.sl, ss := fun s hs' hl => (hroot s hs' hl).2 }, lv', hTI, ash.2.trans hs, fun s hs' hl => (hroot s hs' hl).1⟩
        have := zld k id (zb8 k.sz xs (l' : Int) (atM k.sz xs t (idx a (l' : Int))) (VaSpec.base a (l' : Int)))
        show (k.fs ++ zd1 k id (zb8 k.sz xs (l' : Int) (atM k.sz xs t (idx a (l' : Int))) (VaSpec.base a (l' : Int)))).length ≤ n + 1100
        rw [List.length_append]; omega
end Go.Proofs.YtmkjfeamgknpfaaGreatDoor.LiE
namespace Go.Proofs.YtmkjfeamgknpfaaGreatDoor.LiF
open Go.RowKit Bv VaSpec Base MemL RegR Ax MemC PutC MemC3 TzC OkS SpA SpB SpC SpD SpE SpF SpG SpH SpI SpJ SpN SpO RfP RfQ RfE RfJ RfK LaA LaB LaC LaD LaE LaF LaG LaH LiA LiB LiC LiD LiE
open BitsC PteSpec
set_option maxRecDepth 10000
set_option maxHeartbeats 1000000
theorem z1e {n : Nat} {k : Kr} (h : Inv n k) (g : Inv2 k) : InvT n k := by
  have hl := z0d h g
  refine ⟨hl, fun s => if s = k.sh then 1 else 2, ⟨h.cd, h.cp, h.sz, h.pf, h.m, fun c hc => ?_, ?_⟩, if_pos rfl, fun s hs hv => ?_⟩
  · obtain ⟨s, hs, hv, rfl⟩ := g.cl c hc
    have hr := (h.ss s hs hv).1
    have hsh := h.sh
    have := h.cd
    have hu := (h.mc _ hc).2.2.2
    exact ⟨⟨by show k.cd * 512 ≤ s.root * 512 + 511; omega, by show s.root * 512 + 511 < (k.cd + k.cp) * 512; omega⟩, hu, by show 33 + 1024 * k.sh ≠ 0; omega⟩
  · have key : ∀ s i, (0 ≤ i ∧ i < 512) → atM k.sz k.m s i = zP ∨ (i = 511 ∧ s ≠ k.sh ∧ Al k.cd k.cp k.pf s ∧ atM k.sz k.m s i = gP k.sh) := fun s i hi => by
      unfold atM zb6
      split
      · rcases zsy (xs := k.m) (k := (s * 4096 + i * 8) / 8) with e | ⟨c, hc, e1, e2⟩
        · rw [e]; exact .inl ztt
        · obtain ⟨p, hp, hv, rfl⟩ := g.cl c hc
          have e1 : p.root * 512 + 511 = (s * 4096 + i * 8) / 8 := e1
          have hsh := h.sh
          have hcd := h.cd
          have hcp := h.cp
          have e3 : p.root = s := by omega
          rw [e2, show (33 + 1024 * k.sh : Int) = 33 + 1024 * k.sh from rfl, ztg (by omega)]
          exact .inr ⟨by omega, by rw [← e3, g.sh]; exact (g.lv p hp hv).1, by rw [← e3]; exact hl.ss p hp hv, rfl⟩
      · exact .inl ztt
    refine ⟨fun s i hi => ?_, fun s i t j hi hj h1 h2 h3 h4 => ?_, fun s i hi h1 h2 => ?_⟩
    · rcases key s i hi with e | ⟨_, a, b, c⟩
      · exact .inl e
      · rw [c]
        refine .inr ⟨b, by dsimp only; rw [if_neg a]; omega, .inr ⟨rfl, by dsimp only; rw [if_neg a]; omega, ?_, hl.sh⟩⟩
        show (if k.sh = k.sh then (1 : Int) else 2) = (if s = k.sh then (1 : Int) else 2) - 1
        rw [if_pos rfl, if_neg a]; rfl
    · rcases key s i hi with e | ⟨_, _, _, c⟩
      · rw [e] at h1; cases h1
      · rw [c] at h4; exact absurd rfl h4
    · rcases key s i hi with e | ⟨a, b, _, c⟩
      · rw [e] at h1; cases h1
      · exact ⟨a, if_neg b⟩
  · have := (g.lv s hs hv).1
    rw [← g.sh] at this
    exact if_neg this
theorem zth {a b c : Int} {n : Nat} (h : zfm a b c n = true) : InvT 2 (bgK a b c n) := by
  have h0 := zky h
  have g0 := zps h
  have h1 := zei h0
  have g1 := zex h0 g0
  exact z1e (zei h1) (zex h1 g1)
theorem t2 : InvT 2 c2 := by rw [← bg2]; exact zth (by decide)
def rr : Pm := ⟨true, false, false, false⟩
def kf (k : Kr) (fs : List Fe) : Kr := { k with fs := fs }
def dA : Kr := kr2 [(2560, 7169), (3071, 4129), (3583, 4129), (3584, 8193), (4101, 1027)] 224 0 3 [⟨5, 1, true⟩, ⟨6, 2, true⟩]
def dB : Kr := kr2 [(2559, 9217), (2560, 7169), (3071, 4129), (3583, 4129), (3584, 8193), (4101, 1027), (5119, 35)] 192 0 3 [⟨5, 1, true⟩, ⟨6, 2, true⟩]
def dC : Kr := kf (kr2 [(2559, 9217), (3071, 4129), (3583, 4129), (5119, 35)] 216 0 3 [⟨5, 1, true⟩, ⟨6, 2, true⟩]) [⟨true, 20480, true, 1⟩]
def dD : Kr := kf (kr2 [(3071, 4129), (3583, 4129)] 248 0 3 [⟨5, 1, true⟩, ⟨6, 2, true⟩]) [⟨true, 20480, true, 1⟩, ⟨true, 18446744073709547520, false, 0⟩]
theorem uA : zq2 c2 0 20480 4096 0 rr = (dA, 0) := by kernel_rfl
theorem jA : InvT 5 dA := by have := zlc (id := 0) (a := 20480) (pa := 4096) (l := 0) (p := rr) t2 ⟨by omega, by omega⟩; rwa [uA] at this
theorem uB : zq2 dA (-1) 18446744073709547520 0 0 rr = (dB, 0) := by kernel_rfl
theorem jB : InvT 8 dB := by have := zlc (id := -1) (a := 18446744073709547520) (pa := 0) (l := 0) (p := rr) jA ⟨by omega, by omega⟩; rwa [uB] at this
theorem uC : unR dB 0 20480 0 = (dC, 0) := by kernel_rfl
theorem jC : InvT 1108 dC := by have := zwh (id := 0) (a := 20480) (l := 0) jB; rwa [uC] at this
theorem uF : unR dC 0 20480 0 = (dC, 7) := by kernel_rfl
theorem uD : unR dC (-1) 18446744073707454464 1 = (dD, 0) := by kernel_rfl
theorem uH : unR dC 7 20480 0 = (dC, 4) := by kernel_rfl
theorem vB : inR dB 0 0 2 = [⟨20480, 4096, 0, true, false, false, false, false⟩] := by kernel_rfl
theorem vC : inR dC 0 0 2 = [] := by kernel_rfl
end Go.Proofs.YtmkjfeamgknpfaaGreatDoor.LiF
namespace Go.Proofs.YtmkjfeamgknpfaaGreatDoor.LjB
open Go.RowKit Bv VaSpec Base MemL RegR Ax MemC PutC MemC3 TzC OkS SpA SpB SpC SpF LaA IterE LaC LaD LiC
open BitsC PteSpec
set_option maxRecDepth 10000
set_option maxHeartbeats 1000000
def vI (n : Int) : Value := .int .u64 n
def vsI (l : List Int) : List Value := l.map vI
theorem zti : ∀ l : List Int, (vsI l).all (·.oneCell') = true
  | [] => rfl
  | p :: l => by rw [show vsI (p :: l) = vI p :: vsI l from rfl, List.all_cons, zti l]; rfl
theorem ztj {α : Type} (E : α → List Int) : ∀ (ys : List α) (acc : Nat × List Value), ys.foldl (fun p x => (p.1 + (E x).length, p.2 ++ vsI (E x))) acc = (acc.1 + (ys.flatMap E).length, acc.2 ++ vsI (ys.flatMap E))
  | [], acc => by simp [vsI]
  | y :: ys, acc => by
    rw [List.foldl_cons, ztj E ys, List.flatMap_cons, List.length_append]
    simp only [vsI, List.map_append, Nat.add_assoc, List.append_assoc]
theorem zpt {α : Type} (E : α → List Int) (M : Nat) (h : ∀ x, (E x).length ≤ M) : ∀ ys : List α, (ys.flatMap E).length ≤ ys.length * M
  | [] => by simp
  | y :: ys => by
    rw [List.flatMap_cons, List.length_append, List.length_cons, Nat.succ_mul]
    have := h y
    have := zpt E M h ys
    omega
theorem zle {sz : Int} {xs : List (Int × Int)} {f : Int} (E : Nat → List Int) (h : ∀ i, nzB sz xs f i = false → E i = []) : ∀ l : List Nat, (l.filter (nzB sz xs f)).flatMap E = l.flatMap E
  | [] => rfl
  | i :: l => by
    cases e : nzB sz xs f i with
    | true => rw [List.filter_cons, e]; simp only [if_true, List.flatMap_cons]; rw [zle E h l]
    | false => rw [List.filter_cons, e]; simp only [Bool.false_eq_true, if_false]; rw [List.flatMap_cons, h i e, zle E h l]; rfl
def zlj (rec : Int → List Int) (p : Pte) (l : Int) : List Int := if zbt p l then rec p.ppn else []
def ts1 : List (Nat × Nat) := [(3, 3), (5, 5), (7, 7)]
def ns1 : List Nat := [3, 5, 7, 1001, 1002]
def bs1 (sz : Int) (xs : List (Int × Int)) (top lv : Int) (p : Nat × List Value) : List (Nat × Hs) := [(3, .live (.box [cu sz, .s xs.length 2 (fl xs)])), (5, .live (.box [ci lv])), (7, .live (.box [.o 1000])), (1000, .live (.row 25 1 p.1 p.2)), (1001, .live (.box [cu sz, .s xs.length 2 (fl xs)])), (1002, .live (.box [cu top]))]
theorem zj4 (sz : Int) (xs : List (Int × Int)) (top lv : Int) (rec : Int → List Int) (ht : 0 ≤ top ∧ top < 17592186044416) (h0 : 0 ≤ lv) (h2 : lv ≤ 2) (hs : Srt xs) (hu : Uw xs) (hrec : ∀ t, (rec t).length ≤ 1000)
    (hIH : 1 ≤ lv → ∀ t, (0 ≤ t ∧ t < 17592186044416) → Ok 51 [zbz sz xs, iu t, ii (lv - 1)] (.m (.c (.s (rec t).length 1 (vsI (rec t))))))
    (L : List Int) (hL : L = top :: (List.range 512).flatMap fun (i : Nat) => zlj rec (atM sz xs top i) lv) :
    Ok 51 [zbz sz xs, iu top, ii lv] (.m (.c (.s L.length 1 (vsI L)))) := by
  refine zfi 29 Tryz.func51 rfl rfl rfl ?_ GG.to
  intro W A hG
  refine zct (fun K hK => ?_)
  repeat (first | (refine zai rfl ?_; first | refine gdr (zaa (.inr rfl) rfl) ?_ | refine gdr (zag rfl rfl rfl rfl rfl rfl) ?_) | (refine hK _ ?_; clear hK K) | refine zad rfl ?_)
  refine zct (fun K hK => ?_)
  repeat (first | (refine zai rfl ?_; first | refine gdr (zaa (.inl rfl) rfl) ?_ | refine gdr (zae rfl rfl rfl rfl rfl) ?_ | refine gnk 1 rfl (zbg rfl rfl rfl rfl rfl rfl rfl) ?_ | refine gdr (zaz rfl rfl rfl rfl rfl rfl rfl rfl rfl rfl rfl) ?_) | (refine hK _ ?_; clear hK K) | refine zad rfl ?_)
  refine zsk ?_
  refine zct (fun K hK => ?_)
  repeat (first | (refine zai rfl ?_; first | refine gdr (zaa (.inl rfl) rfl) ?_ | refine gnk 1 rfl (za2 tb rfl rfl rfl rfl rfl) ?_ | refine gdr (zet (n1 := 1001) (n2 := 1002) rfl rfl rfl rfl rfl rfl) ?_) | (refine hK _ ?_; clear hK K) | refine zad rfl ?_)
  refine ziy ?_
  refine ziz (zas [(3, .m (.c (.p 3 0))), (5, .m (.c (.p 5 0))), (7, .m (.c (.p 7 0))), (14, .m (.c (.cl 162 [1001, 1002])))] [(3, .live (.box [cu sz, .s xs.length 2 (fl xs)])), (5, .live (.box [ci lv])), (7, .live (.box [.o 11])), (11, .live (.row 25 1 1 [.int .u64 top])), (1001, .live (.box [cu sz, .s xs.length 2 (fl xs)])), (1002, .live (.box [cu top]))]
    ⟨rfl, rfl, rfl, rfl, trivial⟩ ⟨rfl, rfl, rfl, rfl, rfl, rfl, trivial⟩ rfl) ?_
  refine ziz (zdj (b := 11) (b' := 1000) rfl rfl) ?_
  intro a w ⟨τ0, s⟩
  have s' := zn4 (ns := ns1) s (by
    intro b hb
    simp only [ns1, List.mem_cons, List.not_mem_nil, or_false] at hb
    rcases hb with rfl | rfl | rfl | rfl | rfl
    all_goals exact ⟨_, rfl⟩)
  refine zv9 (β := Nat × List Value) ht hs hu rfl ts1 ns1 1001 1002 (bs1 sz xs top lv)
    (fun p x => St.of [(3, .m (.c (.p 3 0))), (5, .m (.c (.p 5 0))), (7, .m (.c (.p 7 0))), (9, .m (.c (.p 9 0)))] (bs1 sz xs top lv p ++ [(9, .live (.box (atM sz xs top x.1).ce))]))
    (fun p x => (p.1 + (zlj rec (atM sz xs top x.1) lv).length, p.2 ++ vsI (zlj rec (atM sz xs top x.1) lv))) (1, [.int .u64 top]) s' (show 14 < 29 by decide) rfl
    (by
      intro p hp
      simp only [ts1, List.mem_cons, List.not_mem_nil, or_false] at hp
      rcases hp with rfl | rfl | rfl
      all_goals exact ⟨rfl, by simp [ns1], by show _ < 29; decide⟩)
    (by
      intro b hb
      simp only [ns1, List.mem_cons, List.not_mem_nil, or_false] at hb
      rcases hb with rfl | rfl | rfl | rfl | rfl
      all_goals exact ⟨_, rfl⟩)
    ⟨rfl, rfl, rfl, rfl, rfl, rfl, trivial⟩ (by simp [ns1]) (by simp [ns1]) (fun _ => rfl) (fun _ => rfl) (fun _ => rfl) (fun _ _ => ⟨rfl, rfl, rfl, rfl, rfl, rfl, trivial⟩) (fun _ => ⟨rfl, rfl, rfl, rfl, rfl, rfl, trivial⟩)
    (by
      intro τ τ' a a' W o o' x h h'
      have := zsl (c := 7) (b := 1000) h h' (by simp [ns1]) rfl rfl rfl rfl
      exact Prod.ext this.1 this.2)
    ?_ (fun p => p.1 ≤ 1 + 512 * 1000) ?_ ?_ ?_
  · intro W l hk o x
    repeat (first | (refine zai rfl ?_; first | refine gdr (zae rfl rfl rfl rfl rfl) ?_ | refine gnk 1 rfl (zbg rfl rfl rfl rfl rfl rfl rfl) ?_) | refine zad rfl ?_)
    exact zas _ _ ⟨rfl, rfl, rfl, rfl, trivial⟩ ⟨rfl, rfl, rfl, rfl, rfl, rfl, rfl, trivial⟩ rfl
  · intro pre hpre
    rw [ztj (fun x : Ie sz xs top => zlj rec (atM sz xs top x.1) lv)]
    have := zpt (fun x : Ie sz xs top => zlj rec (atM sz xs top x.1) lv) 1000 (fun x => by unfold zlj; split <;> first | exact hrec _ | simp) pre
    have h3 : pre.length * 1000 ≤ 512 * 1000 := Nat.mul_le_mul_right _ (by omega)
    show 1 + _ ≤ 1 + 512 * 1000
    omega
  · intro W' l hk o x ho
    have hx := x.2.1
    have hU := zji hu sz top (x.1 : Int)
    have hp := zfh (xs := xs) sz top (x.1 : Int)
    have ho : o.1 ≤ 1 + 512 * 1000 := ho
    generalize hq : atM sz xs top (x.1 : Int) = q at hU hp ⊢
    have hmv : ∀ (S' : St) (n : Nat) (vs : List Value), EqT S' [] → EqB S' [(3, .live (.box [cu sz, .s xs.length 2 (fl xs)])), (5, .live (.box [ci lv])), (7, .live (.box [.o 27])), (27, .live (.row 25 1 n vs)), (1001, .live (.box [cu sz, .s xs.length 2 (fl xs)])), (1002, .live (.box [cu top]))] → Sub (cxR (Cx.of 29 W A GG hG) W' l τ0 ns1 hk) S' (St.of (ptT []) (bs1 sz xs top lv (n, vs))) := fun S' n vs h1 h2 =>
      Sub.trans (zas [] _ h1 h2 rfl) (Sub.trans (zdj (b := 27) (b' := 1000) rfl rfl) (zas [] _ trivial ⟨rfl, rfl, rfl, rfl, rfl, rfl, trivial⟩ rfl))
    cases hlk : zbt q lv with
    | false =>
      have hE : zlj rec q lv = [] := by unfold zlj; rw [hlk]; rfl
      rw [hE]
      repeat (first | (refine zai rfl ?_; first | refine gnk 1 rfl (za2 tb rfl rfl rfl rfl rfl) ?_ | refine gdr (zab rfl rfl rfl (hlk ▸ zhv q hU lv h0 h2) rfl) ?_) | (refine hK _ ?_; clear hK K) | refine zad rfl ?_ | refine zaj rfl rfl ?_ | refine zam ?_ | refine zaq ?_ | refine zac (fun K hK => ?_))
      rw [show vsI [] = [] from rfl, List.append_nil]
      exact zas _ _ trivial ⟨rfl, rfl, rfl, rfl, rfl, rfl, trivial⟩ rfl
    | true =>
      have hlv : 1 ≤ lv := by
        rcases (by omega : lv = 0 ∨ 1 ≤ lv) with rfl | h
        · unfold zbt ze5 at hlk
          cases hk2 : zb7 q with
          | false => rw [hk2] at hlk; cases hlk
          | true => rw [hk2] at hlk; simp at hlk
        · exact h
      have hE : zlj rec q lv = rec q.ppn := by unfold zlj; rw [hlk]; rfl
      rw [hE]
      have hi := hIH hlv q.ppn hp
      have hl := hrec q.ppn
      have ha := zti (rec q.ppn)
      repeat (first | (refine zai rfl ?_; first | refine gnk 1 rfl (za2 tb rfl rfl rfl rfl rfl) ?_ | refine gnx 1 rfl (zba tb rfl rfl rfl) rfl ?_ | refine gdr (gar rfl rfl rfl rfl) ?_ | refine gnk 1 rfl (zbg rfl rfl rfl rfl rfl rfl rfl) ?_ | refine gdr (zab rfl rfl rfl (hlk ▸ zhv q hU lv h0 h2) rfl) ?_ | refine gdr (zab rfl rfl rfl (hi) rfl) ?_ | refine gdr (zbh rfl rfl rfl rfl rfl rfl rfl rfl rfl rfl rfl rfl ha (by omega)) ?_) | (refine hK _ ?_; clear hK K) | refine zad rfl ?_ | refine za3 (by kernel_rfl) (by kernel_rfl) rfl ?_ | refine zal rfl rfl ?_ | refine zam ?_ | refine zac (fun K hK => ?_))
      exact hmv _ _ _ trivial ⟨rfl, rfl, rfl, rfl, rfl, rfl, trivial⟩
  · intro D ys W hD hys hI hK
    have hfold : ys.foldl (fun (p : Nat × List Value) (x : Ie sz xs top) => (p.1 + (zlj rec (atM sz xs top x.1) lv).length, p.2 ++ vsI (zlj rec (atM sz xs top x.1) lv))) (1, [.int .u64 top]) = (L.length, vsI L) := by
      rw [ztj (fun x : Ie sz xs top => zlj rec (atM sz xs top x.1) lv)]
      have e : top :: ys.flatMap (fun x : Ie sz xs top => zlj rec (atM sz xs top x.1) lv) = L := by
        rw [hL, ← zle (sz := sz) (xs := xs) (f := top) _ (fun i hi => ?_), ← hys, List.flatMap_map]
        have : zb6 sz xs (top * 4096 + (i : Int) * 8) = 0 := by unfold nzB at hi; simpa using hi
        unfold zlj atM
        rw [this, LaD.ztt]
        rfl
      rw [← e]
      show (1 + _, [vI top] ++ _) = (_, vsI (top :: _))
      rw [List.length_cons, Nat.add_comm]; rfl
    rw [hfold] at hI
    obtain ⟨τ1, s1⟩ := hI
    have s2 : SimT (Cx.of 29 _ A GG hG) (St.of (ptT ts1) (bs1 sz xs top lv (L.length, vsI L))) τ1 a W := ⟨s1.size, s1.nodef, s1.bel, s1.tm, s1.hp, s1.own, s1.sep, s1.one, fun p hp => by cases hp⟩
    refine zj2 (t := 6) rfl (by decide) rfl s2 (Nat.le_trans s.bel.size hD) hK (fun hk hD => ?_)
    repeat (first | (refine zai rfl ?_; first | refine gnk 1 rfl (za2 tb rfl rfl rfl rfl rfl) ?_ | refine gdr (zaa (.inr rfl) rfl) ?_) | (refine hK _ ?_; clear hK K) | refine zad rfl ?_ | refine zac (fun K hK => ?_))
    exact zao ⟨.inr rfl, _, rfl, rfl⟩
section
variable (sz : Int) (xs : List (Int × Int)) (hs : Srt xs) (hu : Uw xs)
include hs hu
theorem zve (t : Int) : frN sz xs 0 t = t :: (List.range 512).flatMap fun (i : Nat) => zlj (fun _ => []) (atM sz xs t i) 0 := by
  have : ((List.range 512).flatMap fun (i : Nat) => zlj (fun _ => []) (atM sz xs t i) 0) = [] := by
    rw [List.flatMap_eq_nil_iff]
    intro i _
    unfold zlj
    split <;> rfl
  rw [this]; rfl
theorem zpu (t : Int) (ht : 0 ≤ t ∧ t < 17592186044416) : Ok 51 [zbz sz xs, iu t, ii 0] (.m (.c (.s (frN sz xs 0 t).length 1 (vsI (frN sz xs 0 t))))) :=
  zj4 sz xs t 0 (fun _ => []) ht (by omega) (by omega) hs hu (fun _ => by simp) (fun h => by omega) _ (zve sz xs hs hu t)
theorem zvf (t : Int) (ht : 0 ≤ t ∧ t < 17592186044416) : Ok 51 [zbz sz xs, iu t, ii 1] (.m (.c (.s (frN sz xs 1 t).length 1 (vsI (frN sz xs 1 t))))) :=
  zj4 sz xs t 1 (frN sz xs 0) ht (by omega) (by omega) hs hu (fun _ => by simp [frN]) (fun _ t h1 => zpu sz xs hs hu t h1) _ rfl
end
end Go.Proofs.YtmkjfeamgknpfaaGreatDoor.LjB
namespace Go.Proofs.YtmkjfeamgknpfaaGreatDoor.VaR
open Go.RowKit Bv VaSpec Base BitsC VaC
end Go.Proofs.YtmkjfeamgknpfaaGreatDoor.VaR
namespace Go.Proofs.YtmkjfeamgknpfaaGreatDoor.RlA
open Go.RowKit Bv VaSpec Base MemL RegR Ax MemC PutC MemC3 TzC OkS SpA SpB SpC SpD SpE SpF SpH SpI SpJ SpN SpO RfA RfB RfC RfD LaA LaB LaC LaD LaE
open BitsC PteSpec
set_option maxRecDepth 10000
set_option maxHeartbeats 1000000
end Go.Proofs.YtmkjfeamgknpfaaGreatDoor.RlA
namespace Go.Proofs.YtmkjfeamgknpfaaGreatDoor.RlB
open Go.RowKit Bv VaSpec Base MemL RegR Ax MemC PutC MemC3 TzC OkS SpA SpB SpC SpD SpE SpF SpH SpI SpJ SpN SpO RfA RfB RfC RfD LaA LaB LaC LaD LaE RlA
open BitsC PteSpec
set_option maxRecDepth 10000
set_option maxHeartbeats 1000000
section
variable (sz : Int) (xs : List (Int × Int)) (hs : Srt xs) (hu : Uw xs) (hn : xs.length ≤ 1000000)
include hs hu hn
end
theorem zpv {l : List Pg} {k : Nat} {p : Pg} (h : l[k]? = some p) : ((flP l).drop (k * 8)).take 8 = p.vs := zfe Pg.vs 8 (fun _ => rfl) l _ p h
end Go.Proofs.YtmkjfeamgknpfaaGreatDoor.RlB
namespace Go.Proofs.YtmkjfeamgknpfaaGreatDoor.RlC
open Go.RowKit Bv VaSpec Base MemL RegR Ax MemC PutC MemC3 TzC OkS SpA SpB SpC SpD SpE SpF SpH SpI SpJ SpN SpO RfA RfB RfC RfD LaA LaB LaC LaD LaE LaF LaG RlA RlB
open BitsC PteSpec
set_option maxRecDepth 10000
set_option maxHeartbeats 1000000
end Go.Proofs.YtmkjfeamgknpfaaGreatDoor.RlC
namespace Go.Proofs.YtmkjfeamgknpfaaGreatDoor.LkA
open Go.RowKit Bv VaSpec Base MemL RegR Ax MemC PutC MemC3 TzC OkS SpA SpB SpC SpF SpH SpI SpJ LaA LaB LaC LaD LaE LaF LaG LiA LiB LiC LiD LiE LiF SpL SpN SpO RfA RfB RfC RfD RlA RlB LjB
open BitsC PteSpec
set_option maxRecDepth 10000
set_option maxHeartbeats 1000000
section
variable (sz : Int) (xs : List (Int × Int)) (hs : Srt xs) (hu : Uw xs) (hn : xs.length ≤ 1000000)
include hs hu hn
end
end Go.Proofs.YtmkjfeamgknpfaaGreatDoor.LkA
namespace Go.Proofs.YtmkjfeamgknpfaaGreatDoor.LjC
open Go.RowKit Bv VaSpec Base MemL RegR Ax MemC PutC MemC3 TzC OkS SpA SpB SpC SpF SpH SpI SpJ LaA LaB LaC LaD LaE LaF LaG LiA LiB LiC LiD LiE LiF
open BitsC PteSpec
set_option maxRecDepth 10000
set_option maxHeartbeats 1000000
def leH (sz cd cp a t l g b : Int) (q : Pte) (xs : List (Int × Int)) (f : Int) (i : Nat) (n : Int) : St := St.of [(3, .m (iu a)), (6, .m (.c (.p 6 0))), (8, .m (.c (.p 8 0))), (9, .m (.c (.p 9 0))), (10, .m (ii 0)), (11, .m (.c (.p 11 0))), (12, .m (.c (.p 12 0))), (13, .m (iu g)), (15, .m (.c (.p 15 0))), (16, .m (iu b)), (37, .m (iu i))] [(6, .live (.box (zb9 t l q))), (8, .live (.box [cu 0, .v (.slice none 0 0)])), (9, .live (.box [cu 0, ci 0, cu 0])), (11, .live (.box [cu sz, .s xs.length 2 (fl xs)])), (12, .live (.box [cu cd, ci cp, cu f])), (15, .live (.box [cb q.v, cb q.r, cb q.w, cb q.x, cb q.u, cb q.g, cb q.a, cb q.d, cu q.rsw, cu n, cu q.high]))]
theorem zpw {a i : Int} (l : Int) (hl : l = 1 ∨ l = 2) (ha : U a) (hi : 0 ≤ i ∧ i < 512) : idx (VaSpec.base a l + i * VaSpec.sz (l - 1)) (l - 1) = i ∧ U (VaSpec.base a l + i * VaSpec.sz (l - 1)) ∧ U (VaSpec.base a l) ∧ VaSpec.base a l + 512 * VaSpec.sz (l - 1) ≤ 18446744073709551616 := by
  obtain ⟨a0, a1⟩ := ha
  unfold VaSpec.base idx
  rcases hl with rfl | rfl
  · simp only [show VaSpec.sz 1 = 2097152 from rfl, show VaSpec.sz (1 - 1) = 4096 from rfl]
    exact ⟨by omega, ⟨by omega, by omega⟩, ⟨by omega, by omega⟩, by omega⟩
  · simp only [show VaSpec.sz 2 = 1073741824 from rfl, show VaSpec.sz (2 - 1) = 2097152 from rfl]
    exact ⟨by omega, ⟨by omega, by omega⟩, ⟨by omega, by omega⟩, by omega⟩
theorem zyf (cd cp sz : Int) (xs : List (Int × Int)) (t l : Int) (q : Pte) (a : Int) (hb : 0 ≤ cd ∧ cd ≤ 268435456) (hm : 0 ≤ cp ∧ cp ≤ 64) : Ok 119 [zbz sz xs, .ag [cu cd, ci cp, cu 0], .ag (zb9 t l q), iu a] (.tu [zbz sz xs, .ag [cu cd, ci cp, cu 0], ii 8]) := by
  have hf := zg8 sz xs cd cp hb hm
  refine zaf 76 Tryz.func119 rfl rfl rfl rfl ?_ GG.to
  intro W A hG
  repeat (first | (refine zai rfl ?_; first | refine gdr (zaa (.inl rfl) rfl) ?_ | refine gnk 1 rfl (za2 tb rfl rfl rfl rfl rfl) ?_ | refine gdr (zaa (.inr rfl) rfl) ?_ | refine gdr (zan rfl rfl rfl rfl) ?_ | refine gdr (za5 rfl rfl rfl rfl) ?_ | refine gdr (zag rfl rfl rfl rfl rfl rfl) ?_ | refine gdr (zae rfl rfl rfl rfl rfl) ?_ | refine gnk 1 rfl (zbg rfl rfl rfl rfl rfl rfl rfl) ?_ | refine gdr (zab rfl rfl rfl (hf) (by kernel_rfl)) ?_) | (refine hK _ ?_; clear hK K) | refine zad rfl ?_ | refine za3 (by kernel_rfl) (by kernel_rfl) rfl ?_ | exact zao (show za6 _ _ _ = some _ by kernel_rfl) | refine zal rfl rfl ?_ | refine zac (fun K hK => ?_))
theorem zvg {cd cp sz f sh : Int} {xs : List (Int × Int)} {lv : Int → Int} (h : TI cd cp sz xs f sh lv) (h0 : f ≠ 0) (hn : xs.length ≤ 100000) {t a : Int} {q : Pte} (ha : U a) (ht : Al cd cp f t) (hq : q = atM sz xs t (idx a 1)) (h1 : zb3 q = true) (h2 : ze5 q 1 = false) :
    Ok 119 [zbz sz xs, .ag [cu cd, ci cp, cu f], .ag (zb9 t 1 q), iu a] (.tu [zbz sz (zli sz xs t (idx a 1) 1 q (cd + tzI f)), .ag [cu cd, ci cp, cu (zbq f (tzI f) 1 0)], ii 0]) := by
  obtain ⟨a0, a1, a2, a3⟩ := zew h h0
  have b1 := h.bd
  have b2 := h.bp
  have bz := h.bz
  have bt := ht.1
  have hqU : q.U := by rw [hq]; exact zji h.u _ _ _
  have hqm : zhp q = true := by rw [hq]; exact zpp h.u
  have hf := zfu sz xs cd cp f (by omega) (by omega) h.uf h0 h.s (by omega)
  rw [h.gm.wipe h0] at hf
  have hg : 0 ≤ cd + tzI f ∧ cd + tzI f < 1099511627776 := by omega
  have hgz : (cd + tzI f) * 4096 + 4096 ≤ sz := by omega
  have hi := idx_bd a 1
  have hba := zkn a 1 ha (by omega) (by omega)
  have hsz : Ok 66 [ii 0] (.m (iu 4096)) := zfj 0 (by omega) (by omega)
  have hsz1 : Ok 66 [ii 1] (.m (iu 2097152)) := zfj 1 (by omega) (by omega)
  have hln := zoc (cd + tzI f)
  have hlU := zhr (n := cd + tzI f) (by omega)
  have hRs := zhe (g := cd + tzI f) (v := fun j => PteC.zc5 (prt q 1 j)) h.s
  have hRl := zk5 xs (cd + tzI f) (fun j => PteC.zc5 (prt q 1 j))
  have hRm := fun i => zk6 (xs := xs) (g := cd + tzI f) (v := fun j => PteC.zc5 (prt q 1 j)) i
  have hxu := h.u
  have hpU : ∀ i : Int, (0 ≤ i ∧ i < 512) → (prt q 1 i).U := fun i hi => (zfo hqU hqm (by omega) h1 h2 hi).1
  have hRu : ∀ i, i ≤ 512 → Uw (zfz xs (cd + tzI f) (fun j => PteC.zc5 (prt q 1 j)) i) := fun i hi c hc => by
    rcases hRm i c hc with hc | ⟨j, hj, rfl, _⟩
    · exact hxu c hc
    · exact ⟨⟨by show 0 ≤ (cd + tzI f) * 512 + (j : Int); omega, by show (cd + tzI f) * 512 + (j : Int) < 18446744073709551616; omega⟩, zff _ (hpU j (by omega))⟩
  have hfin := zeb sz (zfz xs (cd + tzI f) (fun j => PteC.zc5 (prt q 1 j)) 512) t 1 q a (lnk (cd + tzI f)) ha hlU (by omega) (by omega) (by omega) (hRs 512) (hRu 512 (by omega)) (by have := hRl 512; omega)
  have hpb : 0 ≤ q.ppn ∧ q.ppn < 17592186044416 := by rw [hq]; exact zfh ..
  refine zaf 76 Tryz.func119 rfl rfl rfl rfl ?_ GG.to
  intro W A hG
  unfold zli
  generalize hgen : cd + tzI f = g at *
  generalize zbq f (tzI f) 1 0 = f2 at *
  repeat (first | (refine zai rfl ?_; first | refine gdr (zaa (.inl rfl) rfl) ?_ | refine gnk 1 rfl (za2 tb rfl rfl rfl rfl rfl) ?_ | refine gnx 1 rfl (zba tb rfl rfl rfl) rfl ?_ | refine gdr (zaa (.inr rfl) rfl) ?_ | refine gdr (zan rfl rfl rfl rfl) ?_ | refine gdr (za5 rfl rfl rfl rfl) ?_ | refine gdr (zag rfl rfl rfl rfl rfl rfl) ?_ | refine gdr (zae rfl rfl rfl rfl rfl) ?_ | refine gnk 1 rfl (zbg rfl rfl rfl rfl rfl rfl rfl) ?_ | refine gdr (zab rfl rfl rfl (hf) (by kernel_rfl)) ?_ | refine gdr (zab rfl rfl rfl (hba) (by kernel_rfl)) ?_) | (refine hK _ ?_; clear hK K) | refine zad rfl ?_ | refine zaj rfl rfl ?_ | refine zam ?_ | refine zaq ?_ | refine zac (fun K hK => ?_))
  refine zbb (α := Nat × Int) (fun p => p.1 ≤ 512) (fun p => leH sz cd cp a t 1 g (VaSpec.base a 1) q (zfz xs g (fun j => PteC.zc5 (prt q 1 j)) p.1) f2 p.1 p.2) (fun p => 512 - p.1) (0, q.ppn) (by show 0 ≤ 512; omega) (zas _ _ ⟨by kernel_rfl, by kernel_rfl, by kernel_rfl, by kernel_rfl, by kernel_rfl, by kernel_rfl, by kernel_rfl, by kernel_rfl, by kernel_rfl, by kernel_rfl, by kernel_rfl, trivial⟩ ⟨by kernel_rfl, by kernel_rfl, by kernel_rfl, by kernel_rfl, by kernel_rfl, by kernel_rfl, trivial⟩ (by kernel_rfl)) ?_
  rintro ⟨i, n⟩ x1
  have g1 : i ≤ 512 := x1
  show Aw _ _ _ _ (leH sz cd cp a t 1 g (VaSpec.base a 1) q (zfz xs g (fun j => PteC.zc5 (prt q 1 j)) i) f2 i n)
  unfold leH
  by_cases hlt : i < 512
  · obtain ⟨e1, e2, e3, e4⟩ := zpw (a := a) (i := (i : Int)) 1 (by omega) ha (by omega)
    have e1 : idx (VaSpec.base a 1 + (i : Int) * 4096) (1 - 1) = (i : Int) := e1
    have e2 : U (VaSpec.base a 1 + (i : Int) * 4096) := e2
    have e4 : VaSpec.base a 1 + 512 * 4096 ≤ 18446744073709551616 := e4
    have epp : q.ppn + (i : Int) * 4096 / 4096 = q.ppn + (i : Int) * 1 := by omega
    have hwt := zeb sz (zfz xs g (fun j => PteC.zc5 (prt q 1 j)) i) g (1 - 1) ⟨false, false, false, false, false, false, false, false, 0, 0, 0⟩ (VaSpec.base a 1 + (i : Int) * 4096) (prt q 1 i) e2 (hpU i (by omega)) (by omega) (by omega) hg (hRs i) (hRu i g1) (by have := hRl i; omega)
    rw [e1, zfk (hpU i (by omega)) hg.1 (by omega) (by omega)] at hwt
    have hrw : prt q 1 (i : Int) = ⟨q.v, q.r, q.w, q.x, q.u, q.g, q.a, q.d, q.rsw, q.ppn + (i : Int) * 4096 / 4096, q.high⟩ := by rw [epp]; rfl
    have hwt : Ok 54 [zbz sz (zfz xs g (fun j => PteC.zc5 (prt q 1 j)) i), .ag (zb9 g (1 - 1) ⟨false, false, false, false, false, false, false, false, 0, 0, 0⟩), iu (VaSpec.base a 1 + (i : Int) * 4096), .ag (⟨q.v, q.r, q.w, q.x, q.u, q.g, q.a, q.d, q.rsw, q.ppn + (i : Int) * 4096 / 4096, q.high⟩ : Pte).ce] (.m (zbz sz (zfz xs g (fun j => PteC.zc5 (prt q 1 j)) (i + 1)))) := by
      rw [← hrw]; exact hwt
    obtain ⟨ys1, hys⟩ : ∃ ys1, ys1 = zfz xs g (fun j => PteC.zc5 (prt q 1 j)) (i + 1) := ⟨_, rfl⟩
    rw [← hys] at hwt
    generalize zfz xs g (fun j => PteC.zc5 (prt q 1 j)) i = ys at *
    have hb0 := e3.1
    generalize VaSpec.base a 1 = b at *
    repeat (first | (refine zai rfl ?_; first | refine gdr (zaa (.inl rfl) rfl) ?_ | refine gnk 1 rfl (za2 tb rfl rfl rfl rfl rfl) ?_ | refine gnx 1 rfl (zba tb rfl rfl rfl) rfl ?_ | refine gdr (zaa (.inr rfl) rfl) ?_ | refine gdr (za5 rfl rfl rfl rfl) ?_ | refine gdr (gar rfl rfl rfl rfl) ?_ | refine gdr (zgj rfl rfl rfl rfl (by omega) (by omega) (by first | exact zjo (by omega) (by omega) | exact zjp (by omega) (by omega))) ?_ | refine gnk 1 rfl (zbg rfl rfl rfl rfl rfl rfl rfl) ?_ | refine gdr (zar rfl rfl rfl rfl) ?_ | refine gdr (zab rfl rfl rfl (hsz) (by kernel_rfl)) ?_ | refine gdr (zab rfl rfl rfl (hwt) (by kernel_rfl)) ?_) | (refine hK _ ?_; clear hK K) | refine zad rfl ?_ | refine za3 (by kernel_rfl) (by kernel_rfl) rfl ?_ | refine zal rfl rfl ?_ | refine zam ?_ | refine zaq ?_ | refine zac (fun K hK => ?_))
    refine ⟨(i + 1, q.ppn + (i : Int) * 4096 / 4096), by show i + 1 ≤ 512; omega, by show 512 - (i + 1) < 512 - i; omega, ?_⟩
    show Sub _ _ (leH sz cd cp a t 1 g b q (zfz xs g (fun j => PteC.zc5 (prt q 1 j)) (i + 1)) f2 (i + 1) (q.ppn + (i : Int) * 4096 / 4096))
    rw [← hys]
    exact zas _ _ ⟨by kernel_rfl, by kernel_rfl, by kernel_rfl, by kernel_rfl, by kernel_rfl, by kernel_rfl, by kernel_rfl, by kernel_rfl, by kernel_rfl, by kernel_rfl, by kernel_rfl, trivial⟩ ⟨by kernel_rfl, by kernel_rfl, by kernel_rfl, by kernel_rfl, by kernel_rfl, by kernel_rfl, trivial⟩ (by kernel_rfl)
  · obtain rfl : i = 512 := by omega
    generalize zfz xs g (fun j => PteC.zc5 (prt q 1 j)) 512 = ys at *
    repeat (first | (refine zai rfl ?_; first | refine gdr (zaa (.inl rfl) rfl) ?_ | refine gnk 1 rfl (za2 tb rfl rfl rfl rfl rfl) ?_ | refine gdr (zaa (.inr rfl) rfl) ?_ | refine gdr (za5 rfl rfl rfl rfl) ?_ | refine gnk 1 rfl (zbg rfl rfl rfl rfl rfl rfl rfl) ?_ | refine gdr (zab rfl rfl rfl (hln) (by kernel_rfl)) ?_ | refine gdr (zab rfl rfl rfl (hfin) (by kernel_rfl)) ?_) | (refine hK _ ?_; clear hK K) | (rename_i K1 hK1; refine hK1 _ ?_; clear hK hK1; clear K) | refine zad rfl ?_ | refine za3 (by kernel_rfl) (by kernel_rfl) rfl ?_ | exact zao (show za6 _ _ _ = some _ by kernel_rfl) | refine zaj rfl rfl ?_ | refine zbi ?_ | refine zac (fun K hK => ?_))
theorem zvh {cd cp sz f sh : Int} {xs : List (Int × Int)} {lv : Int → Int} (h : TI cd cp sz xs f sh lv) (h0 : f ≠ 0) (hn : xs.length ≤ 100000) {t a : Int} {q : Pte} (ha : U a) (ht : Al cd cp f t) (hq : q = atM sz xs t (idx a 2)) (h1 : zb3 q = true) (h2 : ze5 q 2 = false) :
    Ok 119 [zbz sz xs, .ag [cu cd, ci cp, cu f], .ag (zb9 t 2 q), iu a] (.tu [zbz sz (zli sz xs t (idx a 2) 2 q (cd + tzI f)), .ag [cu cd, ci cp, cu (zbq f (tzI f) 1 0)], ii 0]) := by
  obtain ⟨a0, a1, a2, a3⟩ := zew h h0
  have b1 := h.bd
  have b2 := h.bp
  have bz := h.bz
  have bt := ht.1
  have hqU : q.U := by rw [hq]; exact zji h.u _ _ _
  have hqm : zhp q = true := by rw [hq]; exact zpp h.u
  have hf := zfu sz xs cd cp f (by omega) (by omega) h.uf h0 h.s (by omega)
  rw [h.gm.wipe h0] at hf
  have hg : 0 ≤ cd + tzI f ∧ cd + tzI f < 1099511627776 := by omega
  have hgz : (cd + tzI f) * 4096 + 4096 ≤ sz := by omega
  have hi := idx_bd a 2
  have hba := zkn a 2 ha (by omega) (by omega)
  have hsz : Ok 66 [ii 0] (.m (iu 4096)) := zfj 0 (by omega) (by omega)
  have hsz1 : Ok 66 [ii 1] (.m (iu 2097152)) := zfj 1 (by omega) (by omega)
  have hln := zoc (cd + tzI f)
  have hlU := zhr (n := cd + tzI f) (by omega)
  have hRs := zhe (g := cd + tzI f) (v := fun j => PteC.zc5 (prt q 2 j)) h.s
  have hRl := zk5 xs (cd + tzI f) (fun j => PteC.zc5 (prt q 2 j))
  have hRm := fun i => zk6 (xs := xs) (g := cd + tzI f) (v := fun j => PteC.zc5 (prt q 2 j)) i
  have hxu := h.u
  have hpU : ∀ i : Int, (0 ≤ i ∧ i < 512) → (prt q 2 i).U := fun i hi => (zfo hqU hqm (by omega) h1 h2 hi).1
  have hRu : ∀ i, i ≤ 512 → Uw (zfz xs (cd + tzI f) (fun j => PteC.zc5 (prt q 2 j)) i) := fun i hi c hc => by
    rcases hRm i c hc with hc | ⟨j, hj, rfl, _⟩
    · exact hxu c hc
    · exact ⟨⟨by show 0 ≤ (cd + tzI f) * 512 + (j : Int); omega, by show (cd + tzI f) * 512 + (j : Int) < 18446744073709551616; omega⟩, zff _ (hpU j (by omega))⟩
  have hfin := zeb sz (zfz xs (cd + tzI f) (fun j => PteC.zc5 (prt q 2 j)) 512) t 2 q a (lnk (cd + tzI f)) ha hlU (by omega) (by omega) (by omega) (hRs 512) (hRu 512 (by omega)) (by have := hRl 512; omega)
  have hpb : 0 ≤ q.ppn ∧ q.ppn < 17592186044416 := by rw [hq]; exact zfh ..
  refine zaf 76 Tryz.func119 rfl rfl rfl rfl ?_ GG.to
  intro W A hG
  unfold zli
  generalize hgen : cd + tzI f = g at *
  generalize zbq f (tzI f) 1 0 = f2 at *
  repeat (first | (refine zai rfl ?_; first | refine gdr (zaa (.inl rfl) rfl) ?_ | refine gnk 1 rfl (za2 tb rfl rfl rfl rfl rfl) ?_ | refine gnx 1 rfl (zba tb rfl rfl rfl) rfl ?_ | refine gdr (zaa (.inr rfl) rfl) ?_ | refine gdr (zan rfl rfl rfl rfl) ?_ | refine gdr (za5 rfl rfl rfl rfl) ?_ | refine gdr (zag rfl rfl rfl rfl rfl rfl) ?_ | refine gdr (zae rfl rfl rfl rfl rfl) ?_ | refine gnk 1 rfl (zbg rfl rfl rfl rfl rfl rfl rfl) ?_ | refine gdr (zab rfl rfl rfl (hf) (by kernel_rfl)) ?_ | refine gdr (zab rfl rfl rfl (hba) (by kernel_rfl)) ?_) | (refine hK _ ?_; clear hK K) | refine zad rfl ?_ | refine zaj rfl rfl ?_ | refine zam ?_ | refine zaq ?_ | refine zac (fun K hK => ?_))
  refine zbb (α := Nat × Int) (fun p => p.1 ≤ 512) (fun p => leH sz cd cp a t 2 g (VaSpec.base a 2) q (zfz xs g (fun j => PteC.zc5 (prt q 2 j)) p.1) f2 p.1 p.2) (fun p => 512 - p.1) (0, q.ppn) (by show 0 ≤ 512; omega) (zas _ _ ⟨by kernel_rfl, by kernel_rfl, by kernel_rfl, by kernel_rfl, by kernel_rfl, by kernel_rfl, by kernel_rfl, by kernel_rfl, by kernel_rfl, by kernel_rfl, by kernel_rfl, trivial⟩ ⟨by kernel_rfl, by kernel_rfl, by kernel_rfl, by kernel_rfl, by kernel_rfl, by kernel_rfl, trivial⟩ (by kernel_rfl)) ?_
  rintro ⟨i, n⟩ x1
  have g1 : i ≤ 512 := x1
  show Aw _ _ _ _ (leH sz cd cp a t 2 g (VaSpec.base a 2) q (zfz xs g (fun j => PteC.zc5 (prt q 2 j)) i) f2 i n)
  unfold leH
  by_cases hlt : i < 512
  · obtain ⟨e1, e2, e3, e4⟩ := zpw (a := a) (i := (i : Int)) 2 (by omega) ha (by omega)
    have e1 : idx (VaSpec.base a 2 + (i : Int) * 2097152) (2 - 1) = (i : Int) := e1
    have e2 : U (VaSpec.base a 2 + (i : Int) * 2097152) := e2
    have e4 : VaSpec.base a 2 + 512 * 2097152 ≤ 18446744073709551616 := e4
    have epp : q.ppn + (i : Int) * 2097152 / 4096 = q.ppn + (i : Int) * 512 := by omega
    have hwt := zeb sz (zfz xs g (fun j => PteC.zc5 (prt q 2 j)) i) g (2 - 1) ⟨false, false, false, false, false, false, false, false, 0, 0, 0⟩ (VaSpec.base a 2 + (i : Int) * 2097152) (prt q 2 i) e2 (hpU i (by omega)) (by omega) (by omega) hg (hRs i) (hRu i g1) (by have := hRl i; omega)
    rw [e1, zfk (hpU i (by omega)) hg.1 (by omega) (by omega)] at hwt
    have hrw : prt q 2 (i : Int) = ⟨q.v, q.r, q.w, q.x, q.u, q.g, q.a, q.d, q.rsw, q.ppn + (i : Int) * 2097152 / 4096, q.high⟩ := by rw [epp]; rfl
    have hwt : Ok 54 [zbz sz (zfz xs g (fun j => PteC.zc5 (prt q 2 j)) i), .ag (zb9 g (2 - 1) ⟨false, false, false, false, false, false, false, false, 0, 0, 0⟩), iu (VaSpec.base a 2 + (i : Int) * 2097152), .ag (⟨q.v, q.r, q.w, q.x, q.u, q.g, q.a, q.d, q.rsw, q.ppn + (i : Int) * 2097152 / 4096, q.high⟩ : Pte).ce] (.m (zbz sz (zfz xs g (fun j => PteC.zc5 (prt q 2 j)) (i + 1)))) := by
      rw [← hrw]; exact hwt
    obtain ⟨ys1, hys⟩ : ∃ ys1, ys1 = zfz xs g (fun j => PteC.zc5 (prt q 2 j)) (i + 1) := ⟨_, rfl⟩
    rw [← hys] at hwt
    generalize zfz xs g (fun j => PteC.zc5 (prt q 2 j)) i = ys at *
    have hb0 := e3.1
    generalize VaSpec.base a 2 = b at *
    repeat (first | (refine zai rfl ?_; first | refine gdr (zaa (.inl rfl) rfl) ?_ | refine gnk 1 rfl (za2 tb rfl rfl rfl rfl rfl) ?_ | refine gnx 1 rfl (zba tb rfl rfl rfl) rfl ?_ | refine gdr (zaa (.inr rfl) rfl) ?_ | refine gdr (za5 rfl rfl rfl rfl) ?_ | refine gdr (gar rfl rfl rfl rfl) ?_ | refine gdr (zgj rfl rfl rfl rfl (by omega) (by omega) (by first | exact zjo (by omega) (by omega) | exact zjp (by omega) (by omega))) ?_ | refine gnk 1 rfl (zbg rfl rfl rfl rfl rfl rfl rfl) ?_ | refine gdr (zar rfl rfl rfl rfl) ?_ | refine gdr (zab rfl rfl rfl (hsz1) (by kernel_rfl)) ?_ | refine gdr (zab rfl rfl rfl (hwt) (by kernel_rfl)) ?_) | (refine hK _ ?_; clear hK K) | refine zad rfl ?_ | refine za3 (by kernel_rfl) (by kernel_rfl) rfl ?_ | refine zal rfl rfl ?_ | refine zam ?_ | refine zaq ?_ | refine zac (fun K hK => ?_))
    refine ⟨(i + 1, q.ppn + (i : Int) * 2097152 / 4096), by show i + 1 ≤ 512; omega, by show 512 - (i + 1) < 512 - i; omega, ?_⟩
    show Sub _ _ (leH sz cd cp a t 2 g b q (zfz xs g (fun j => PteC.zc5 (prt q 2 j)) (i + 1)) f2 (i + 1) (q.ppn + (i : Int) * 2097152 / 4096))
    rw [← hys]
    exact zas _ _ ⟨by kernel_rfl, by kernel_rfl, by kernel_rfl, by kernel_rfl, by kernel_rfl, by kernel_rfl, by kernel_rfl, by kernel_rfl, by kernel_rfl, by kernel_rfl, by kernel_rfl, trivial⟩ ⟨by kernel_rfl, by kernel_rfl, by kernel_rfl, by kernel_rfl, by kernel_rfl, by kernel_rfl, trivial⟩ (by kernel_rfl)
  · obtain rfl : i = 512 := by omega
    generalize zfz xs g (fun j => PteC.zc5 (prt q 2 j)) 512 = ys at *
    repeat (first | (refine zai rfl ?_; first | refine gdr (zaa (.inl rfl) rfl) ?_ | refine gnk 1 rfl (za2 tb rfl rfl rfl rfl rfl) ?_ | refine gdr (zaa (.inr rfl) rfl) ?_ | refine gdr (za5 rfl rfl rfl rfl) ?_ | refine gnk 1 rfl (zbg rfl rfl rfl rfl rfl rfl rfl) ?_ | refine gdr (zab rfl rfl rfl (hln) (by kernel_rfl)) ?_ | refine gdr (zab rfl rfl rfl (hfin) (by kernel_rfl)) ?_) | (refine hK _ ?_; clear hK K) | (rename_i K1 hK1; refine hK1 _ ?_; clear hK hK1; clear K) | refine zad rfl ?_ | refine za3 (by kernel_rfl) (by kernel_rfl) rfl ?_ | exact zao (show za6 _ _ _ = some _ by kernel_rfl) | refine zaj rfl rfl ?_ | refine zbi ?_ | refine zac (fun K hK => ?_))
theorem zvi (sz cd addr zax top : Int) (lv n : Nat) (xs : List (Int × Int)) (f : Int) : toN sz cd addr zax top lv (n + 1) xs f = if (zbc sz xs addr zax lv top).2 = zax ∨ zb3 (atM sz xs (zbc sz xs addr zax lv top).1 (idx addr (zbc sz xs addr zax lv top).2)) = false then (xs, f, zbc sz xs addr zax lv top, 0)
    else if f = 0 then (xs, f, zbc sz xs addr zax lv top, 8)
    else toN sz cd addr zax top lv n (zli sz xs (zbc sz xs addr zax lv top).1 (idx addr (zbc sz xs addr zax lv top).2) (zbc sz xs addr zax lv top).2 (atM sz xs (zbc sz xs addr zax lv top).1 (idx addr (zbc sz xs addr zax lv top).2)) (cd + tzI f)) (zbq f (tzI f) 1 0) := rfl
def toH (sz cd cp top lv addr zax : Int) (xs0 : List (Int × Int)) (f0 : Int) (xs : List (Int × Int)) (f : Int) : St := St.of [(2, .m (iu top)), (3, .m (ii lv)), (4, .m (iu addr)), (5, .m (ii zax)), (6, .m (.c (.p 6 0))), (7, .m (.c (.p 7 0))), (12, .m (.c (.p 12 0))), (13, .m (.c (.p 13 0))), (14, .m (.c (.p 14 0))), (15, .m (ii 0)), (16, .m (.c (.p 16 0))), (17, .m (.c (.p 17 0)))] [(6, .live (.box [cu sz, .s xs0.length 2 (fl xs0)])), (7, .live (.box [cu cd, ci cp, cu f0])), (12, .live (.box [cu 0, .v (.slice none 0 0)])), (13, .live (.box [cu 0, ci 0, cu 0])), (14, .live (.box (zb9 0 0 zP))), (16, .live (.box [cu sz, .s xs.length 2 (fl xs)])), (17, .live (.box [cu cd, ci cp, cu f]))]
theorem z1f {cd cp sz sh : Int} (top addr zax : Int) (l : Nat) (xs0 : List (Int × Int)) (f0 : Int) (lv0 : Int → Int) (h : TI cd cp sz xs0 f0 sh lv0) (ht : Al cd cp f0 top) (hsh : Al cd cp f0 sh) (hlt : lv0 top = l) (ha : U addr) (hl : l ≤ 2) (hw : 0 ≤ zax) (hwl : zax ≤ (l : Int)) (hn : xs0.length ≤ 90000)
    (R : List (Int × Int) × Int × (Int × Int) × Int) (hR : R = toN sz cd addr zax top l l xs0 f0) :
    Ok 49 [zbz sz xs0, .ag [cu cd, ci cp, cu f0], iu top, ii l, iu addr, ii zax]
      (.tu (if R.2.2.2 = 0 then [zbz sz R.1, .ag [cu cd, ci cp, cu R.2.1], .ag (zn3 sz R.1 addr R.2.2.1), ii 0] else [zbz sz xs0, .ag [cu cd, ci cp, cu f0], .ag (zb9 0 0 zP), ii R.2.2.2])) := by
  have hcd := h.bd
  have hcp := h.bp
  obtain ⟨V, hV⟩ : ∃ V, V = (if R.2.2.2 = 0 then [zbz sz R.1, .ag [cu cd, ci cp, cu R.2.1], .ag (zn3 sz R.1 addr R.2.2.1), ii 0] else [zbz sz xs0, .ag [cu cd, ci cp, cu f0], .ag (zb9 0 0 zP), ii R.2.2.2]) := ⟨_, rfl⟩
  rw [← hV]
  have hcl : (zco (.tu V) && [zbz sz xs0, .ag [cu cd, ci cp, cu f0], iu top, ii l, iu addr, ii zax].all zce) = true := by
    rw [hV]; split <;> rfl
  refine zaf 60 Tryz.func49 rfl hcl rfl rfl ?_ GG.to
  intro W A hG
  repeat (first | (refine zai rfl ?_; first | refine gnk 1 rfl (za2 tb rfl rfl rfl rfl rfl) ?_ | refine gdr (zaa (.inr rfl) rfl) ?_ | refine gdr (zag rfl rfl rfl rfl rfl rfl) ?_ | refine gdr (zae rfl rfl rfl rfl rfl) ?_ | refine gnk 1 rfl (zbg rfl rfl rfl rfl rfl rfl rfl) ?_) | (refine hK _ ?_; clear hK K) | refine zad rfl ?_ | refine za3 (by kernel_rfl) (by kernel_rfl) rfl ?_ | refine zam ?_ | refine zac (fun K hK => ?_))
  obtain ⟨r0, r1, r2, r3, r4, r5, r6, _⟩ := zf0 h addr zax hw l top ht hlt hwl
  refine zbb (α := Nat × List (Int × Int) × Int × (Int → Int)) (fun q => TI cd cp sz q.2.1 q.2.2.1 sh q.2.2.2 ∧ Al cd cp q.2.2.1 top ∧ Al cd cp q.2.2.1 sh ∧ q.2.2.2 top = l ∧ q.2.1.length + 513 * q.1 ≤ 100000 ∧ toN sz cd addr zax top l q.1 q.2.1 q.2.2.1 = R ∧ (zbc sz q.2.1 addr zax l top).2 ≤ zax + q.1)
    (fun q => toH sz cd cp top l addr zax xs0 f0 q.2.1 q.2.2.1) (fun q => q.1) (l, xs0, f0, lv0) ⟨h, ht, hsh, hlt, by show xs0.length + 513 * l ≤ _; omega, hR.symm, by show (zbc sz xs0 addr zax l top).2 ≤ zax + l; rw [r2]; show (r0 : Int) ≤ _; omega⟩ (zas _ _ ⟨by kernel_rfl, by kernel_rfl, by kernel_rfl, by kernel_rfl, by kernel_rfl, by kernel_rfl, by kernel_rfl, by kernel_rfl, by kernel_rfl, by kernel_rfl, by kernel_rfl, by kernel_rfl, trivial⟩ ⟨by kernel_rfl, by kernel_rfl, by kernel_rfl, by kernel_rfl, by kernel_rfl, by kernel_rfl, by kernel_rfl, trivial⟩ (by kernel_rfl)) ?_
  clear r2 r3 r4 r5 r6
  rintro ⟨n, xs, f, lv⟩ ⟨x1, x2, x3, x4, x5, x6, x7⟩
  have g1 : TI cd cp sz xs f sh lv := x1
  have g2 : Al cd cp f top := x2
  have g3 : Al cd cp f sh := x3
  have g4 : lv top = l := x4
  have g5 : xs.length + 513 * n ≤ 100000 := x5
  have g6 : toN sz cd addr zax top l n xs f = R := x6
  have g7 : (zbc sz xs addr zax l top).2 ≤ zax + (n : Int) := x7
  clear x1 x2 x3 x4 x5 x6 x7
  show Aw _ _ _ _ (toH sz cd cp top l addr zax xs0 f0 xs f)
  unfold toH
  obtain ⟨l', t', i1, i2, i3, i4, i5, i6, i7⟩ := zf0 g1 addr zax hw l top g2 g4 hwl
  have ub := g1.u
  have bt := g2.1
  have bt' := i4.1
  have hr := zfv sz xs top (l : Int) addr zax ⟨by omega, by omega⟩ ha (by omega) (by omega) hw g1.s ub
  rw [show zcg sz xs addr zax (l : Int) top = (t', (l' : Int)) by unfold zcg; rw [Int.toNat_natCast, i1]] at hr
  rw [i1] at g7
  have g7 : (l' : Int) ≤ zax + (n : Int) := g7
  have hi := idx_bd addr (l' : Int)
  have hstop : ((l' : Int) = zax ∨ zb3 (atM sz xs t' (idx addr (l' : Int))) = false) → R = (xs, f, (t', (l' : Int)), 0) := fun hor => by
    rw [← g6]
    cases n with
    | zero => show (xs, f, zbc sz xs addr zax l top, 0) = _; rw [i1]
    | succ n => unfold toN; rw [i1, if_pos hor]
  have hgo : ¬ ((l' : Int) = zax ∨ zb3 (atM sz xs t' (idx addr (l' : Int))) = false) → ∃ m, n = m + 1 ∧ R = if f = 0 then (xs, f, (t', (l' : Int)), 8) else toN sz cd addr zax top l m (zli sz xs t' (idx addr (l' : Int)) (l' : Int) (atM sz xs t' (idx addr (l' : Int))) (cd + tzI f)) (zbq f (tzI f) 1 0) := fun hor => by
    cases n with
    | zero => exact absurd (.inl (by omega)) hor
    | succ n => exact ⟨n, rfl, by rw [← g6, zvi, i1, if_neg hor]⟩
  have h3 := zhx (atM sz xs t' (idx addr (l' : Int)))
  have hk := g1.e.k t' _ hi
  obtain ⟨q, hq⟩ : ∃ q, q = atM sz xs t' (idx addr (l' : Int)) := ⟨_, rfl⟩
  unfold zn3 at hr
  rw [show (t', (l' : Int)).1 = t' from rfl, show (t', (l' : Int)).2 = (l' : Int) from rfl] at hr
  by_cases c1 : (l' : Int) = zax
  · have e := hstop (.inl c1)
    subst e
    have hV : V = [zbz sz xs, .ag [cu cd, ci cp, cu f], .ag (zb9 t' (l' : Int) (atM sz xs t' (idx addr (l' : Int)))), ii 0] := hV
    rw [← hq] at hV hr h3
    subst hV
    repeat (first | (refine zai rfl ?_; first | refine gdr (zaw rfl) ?_ | refine gdr (zaa (.inl rfl) rfl) ?_ | refine gnk 1 rfl (za2 tb rfl rfl rfl rfl rfl) ?_ | refine gnx 1 rfl (zba tb rfl rfl rfl) rfl ?_ | refine gdr (zaa (.inr rfl) rfl) ?_ | refine gdr (zak rfl rfl rfl) ?_ | refine gdr (za5 rfl rfl rfl rfl) ?_ | refine gdr (zae rfl rfl rfl rfl rfl) ?_ | refine gnk 1 rfl (zbg rfl rfl rfl rfl rfl rfl rfl) ?_ | refine gdr (zab rfl rfl rfl (hr) (by kernel_rfl)) ?_) | (refine hK _ ?_; clear hK K) | refine zad rfl ?_ | refine za3 (by kernel_rfl) (by kernel_rfl) rfl ?_ | exact zao (show za6 _ _ _ = some _ by kernel_rfl) | refine zal rfl rfl ?_ | refine zam ?_ | refine zac (fun K hK => ?_))
  · cases hlf : zb3 (atM sz xs t' (idx addr (l' : Int))) with
    | false =>
      have e := hstop (.inr hlf)
      subst e
      have hV : V = [zbz sz xs, .ag [cu cd, ci cp, cu f], .ag (zb9 t' (l' : Int) (atM sz xs t' (idx addr (l' : Int)))), ii 0] := hV
      rw [hlf] at h3
      rw [← hq] at hV hr h3
      subst hV
      repeat (first | (refine zai rfl ?_; first | refine gdr (zaa (.inl rfl) rfl) ?_ | refine gnk 1 rfl (za2 tb rfl rfl rfl rfl rfl) ?_ | refine gnx 1 rfl (zba tb rfl rfl rfl) rfl ?_ | refine gdr (zaa (.inr rfl) rfl) ?_ | refine gdr (zak rfl rfl rfl) ?_ | refine gdr (za5 rfl rfl rfl rfl) ?_ | refine gdr (zae rfl rfl rfl rfl rfl) ?_ | refine gnk 1 rfl (zbg rfl rfl rfl rfl rfl rfl rfl) ?_ | refine gdr (zau rfl rfl rfl) ?_ | refine gdr (zab rfl rfl rfl (hr) (by kernel_rfl)) ?_ | refine gdr (zab rfl rfl rfl (h3) (by kernel_rfl)) ?_) | (refine hK _ ?_; clear hK K) | refine zad rfl ?_ | refine za3 (by kernel_rfl) (by kernel_rfl) rfl ?_ | exact zao (show za6 _ _ _ = some _ by kernel_rfl) | refine zal rfl rfl ?_ | refine zam ?_ | refine zac (fun K hK => ?_))
    | true =>
      rw [hlf] at h3
      obtain ⟨m, rfl, e⟩ := hgo (by rw [hlf]; rintro (e | e); exact c1 e; cases e)
      have hbad : ze5 (atM sz xs t' (idx addr (l' : Int))) (l' : Int) = false := by
        rcases hk with e | ⟨_, _, ⟨_, e⟩ | ⟨e, _⟩⟩
        · rw [e] at hlf; cases hlf
        · rw [i5] at e; exact e
        · rw [(zgd e).2.2] at hlf; cases hlf
      by_cases c4 : f = 0
      · rw [if_pos c4] at e
        subst e
        subst c4
        have hV : V = [zbz sz xs0, .ag [cu cd, ci cp, cu f0], .ag (zb9 0 0 zP), ii 8] := hV
        subst hV
        have hlo := zyf cd cp sz xs t' (l' : Int) q addr ⟨by omega, by omega⟩ ⟨by omega, by omega⟩
        rw [← hq] at hr h3
        repeat (first | (refine zai rfl ?_; first | refine gdr (zaa (.inl rfl) rfl) ?_ | refine gnk 1 rfl (za2 tb rfl rfl rfl rfl rfl) ?_ | refine gnx 1 rfl (zba tb rfl rfl rfl) rfl ?_ | refine gdr (zaa (.inr rfl) rfl) ?_ | refine gdr (zak rfl rfl rfl) ?_ | refine gdr (zan rfl rfl rfl rfl) ?_ | refine gdr (za5 rfl rfl rfl rfl) ?_ | refine gdr (zae rfl rfl rfl rfl rfl) ?_ | refine gnk 1 rfl (zbg rfl rfl rfl rfl rfl rfl rfl) ?_ | refine gdr (zau rfl rfl rfl) ?_ | refine gdr (zar rfl rfl rfl rfl) ?_ | refine gdr (zab rfl rfl rfl (hr) (by kernel_rfl)) ?_ | refine gdr (zab rfl rfl rfl (h3) (by kernel_rfl)) ?_ | refine gdr (zab rfl rfl rfl (hlo) (by kernel_rfl)) ?_) | (refine hK _ ?_; clear hK K) | refine zad rfl ?_ | refine za3 (by kernel_rfl) (by kernel_rfl) rfl ?_ | exact zao (show za6 _ _ _ = some _ by kernel_rfl) | refine zal rfl rfl ?_ | refine zaj rfl rfl ?_ | refine zam ?_ | refine zaq ?_ | refine zac (fun K hK => ?_))
      · rw [if_neg c4] at e
        obtain ⟨a0, a1, a2, a3⟩ := zew g1 c4
        clear hk hgo hstop
        obtain ⟨p, rfl⟩ := Nat.exists_eq_add_one_of_ne_zero (show l' ≠ 0 from fun e => c1 (by rw [e] at i3 ⊢; exact Int.le_antisymm hw i3))
        have hT := zwd g1 c4 i4 g3 hi i5 (by omega) rfl hlf hbad
        obtain ⟨s1, s2⟩ := zs3 g1 c4 addr zax hw i4 i5 (by omega) (by omega) hlf hbad
        have hre := (i7 _ s1).trans s2
        have hsl := zs2 sz xs t' (idx addr ((p + 1 : Nat) : Int)) ((p + 1 : Nat) : Int) (atM sz xs t' (idx addr ((p + 1 : Nat) : Int))) (cd + tzI f)
        have hlo : Ok 119 [zbz sz xs, .ag [cu cd, ci cp, cu f], .ag (zb9 t' ((p + 1 : Nat) : Int) (atM sz xs t' (idx addr ((p + 1 : Nat) : Int)))), iu addr] (.tu [zbz sz (zli sz xs t' (idx addr ((p + 1 : Nat) : Int)) ((p + 1 : Nat) : Int) (atM sz xs t' (idx addr ((p + 1 : Nat) : Int))) (cd + tzI f)), .ag [cu cd, ci cp, cu (zbq f (tzI f) 1 0)], ii 0]) := by
          rcases (by omega : p = 0 ∨ p = 1) with rfl | rfl
          · exact zvg g1 c4 (by omega) ha i4 rfl hlf hbad
          · exact zvh g1 c4 (by omega) ha i4 rfl hlf hbad
        have htop := (if_neg (a0 _ g2).2 : upL lv (cd + tzI f) (((p + 1 : Nat) : Int) - 1) top = lv top).trans g4
        generalize zli sz xs t' (idx addr ((p + 1 : Nat) : Int)) ((p + 1 : Nat) : Int) (atM sz xs t' (idx addr ((p + 1 : Nat) : Int))) (cd + tzI f) = xs2 at *
        rw [← hq] at hr h3 hlo
        repeat (first | (refine zai rfl ?_; first | refine gdr (zaa (.inl rfl) rfl) ?_ | refine gnk 1 rfl (za2 tb rfl rfl rfl rfl rfl) ?_ | refine gnx 1 rfl (zba tb rfl rfl rfl) rfl ?_ | refine gdr (zaa (.inr rfl) rfl) ?_ | refine gdr (zak rfl rfl rfl) ?_ | refine gdr (zan rfl rfl rfl rfl) ?_ | refine gdr (za5 rfl rfl rfl rfl) ?_ | refine gdr (zae rfl rfl rfl rfl rfl) ?_ | refine gnk 1 rfl (zbg rfl rfl rfl rfl rfl rfl rfl) ?_ | refine gdr (zau rfl rfl rfl) ?_ | refine gdr (zab rfl rfl rfl (hr) (by kernel_rfl)) ?_ | refine gdr (zab rfl rfl rfl (h3) (by kernel_rfl)) ?_ | refine gdr (zab rfl rfl rfl (hlo) (by kernel_rfl)) ?_) | (refine hK _ ?_; clear hK K) | refine zad rfl ?_ | refine za3 (by kernel_rfl) (by kernel_rfl) rfl ?_ | refine zaj rfl rfl ?_ | refine zam ?_ | refine zaq ?_ | refine zac (fun K hK => ?_))
        exact ⟨(m, xs2, zbq f (tzI f) 1 0, upL lv (cd + tzI f) (((p + 1 : Nat) : Int) - 1)), ⟨hT, (a0 _ g2).1, (a0 _ g3).1, htop, by show xs2.length + 513 * m ≤ 100000; omega, e.symm, by show (zbc sz xs2 addr zax l top).2 ≤ zax + (m : Int); rw [hre]; show (p : Int) ≤ _; omega⟩, by show m < m + 1; omega, zas _ _ ⟨by kernel_rfl, by kernel_rfl, by kernel_rfl, by kernel_rfl, by kernel_rfl, by kernel_rfl, by kernel_rfl, by kernel_rfl, by kernel_rfl, by kernel_rfl, by kernel_rfl, by kernel_rfl, trivial⟩ ⟨by kernel_rfl, by kernel_rfl, by kernel_rfl, by kernel_rfl, by kernel_rfl, by kernel_rfl, by kernel_rfl, trivial⟩ (by kernel_rfl)⟩
end Go.Proofs.YtmkjfeamgknpfaaGreatDoor.LjC
namespace Go.Proofs.YtmkjfeamgknpfaaGreatDoor.Ax
open Go.RowKit MemL RegR MemC MemC3 PutC LaA IterE PteSpec BitsC OkS Go
section
variable {P : Program} {X : Cx} {S : St} {τ : Nat → Value} {a : Act} {w : World}
theorem zmz {G : World → Prop} {N : Nat} {W0 : World} {A : Nat → Prop} {hG : ∀ w, Below W0.heap.size W0 w → G w} {fn : Func} {m : Cm} {D : Nat} {W : World} (hres : zea N fn.results.toList = true) (hcl : zce m = true) (hkb : Kept (Cx.of N W0 A G hG).K (Cx.of N W0 A G hG).W0 W) (hlt : D < W.heap.size) (hDW : W0.heap.size ≤ D) (hK : W.heap[D]? = some (.deferred (some [])))
    {S' : St} {τ' : Nat → Value} {a' : Act} {w' : World} (s : SimT (cxD (Cx.of N W0 A G hG) W D hkb hlt) S' τ' a' w') (hra : za6 P fn S' = some (.m m)) : LeavesInM Fence.wide 5 P fn a'.tmps (zn6 W0 A (.m m)) a'.defers .returning w' := by
  have hK' : w'.heap[D]? = some (.deferred (some [])) := (s.bel.block D (.inr rfl)).trans hK
  let X2 : Cx := { cxD (Cx.of N W0 A G hG) W D hkb hlt with
    K := (Cx.of N W0 A G hG).K
    hK := fun g hg => Nat.lt_of_lt_of_le ((Cx.of N W0 A G hG).hK g hg) hkb.size
    hG := fun w h => hG w ((hkb.trans h).below (fun _ h => h)) }
  have s2 : SimT X2 S' τ' a' w' := ⟨s.size, s.nodef, s.bel.mono fun _ => .inl, s.tm, s.hp, fun b g hb ho => ⟨fun k => (s.own b g hb ho).1 (.inl k), (s.own b g hb ho).2⟩, s.sep, s.one, fun p hp => by cases hp⟩
  have s3 : SimT X2 S' τ' a' (w'.putObj D (.deferred none)) := ziw s2 (grownBy_putObj' w' D (.deferred none)) (fun r e => by cases e; exact ⟨⟨_, hK', rfl⟩, fun k => by
    have : D < W0.heap.size := (Cx.of N W0 A G hG).hK D k
    omega⟩)
  have b3 : Below W0.heap.size W0 (w'.putObj D (.deferred none)) := by
    have b1 : Below W0.heap.size W0 W := hkb.below fun _ h => h
    have b2 : Below W0.heap.size W w' := s.bel.below fun _ h => .inl h
    exact (b1.trans b2).trans ((Below.refl _ _).grown (grownBy_putObj' w' D (.deferred none)) (Nat.le_trans b1.size b2.size) (fun k e => by cases e; exact hDW))
  have hrun : ∃ v, (results fn a'.tmps).run P (w'.putObj D (.deferred none)) = .ok v (w'.putObj D (.deferred none)) ∧ zn6 W0 A (.m m) (.returned v) (w'.putObj D (.deferred none)) := by
    unfold za6 at hra
    split at hra
    · rename_i m' hm
      cases hra
      obtain ⟨vs', h1, h2⟩ := zd3 s3 _ _ hres hm
      obtain ⟨v, rfl⟩ : ∃ v, vs' = [v] := by
        cases vs' with
        | nil => exact h2.elim
        | cons v l => cases l with | nil => exact ⟨v, rfl⟩ | cons _ _ => exact h2.2.elim
      refine ⟨v, ?_, v, rfl, b3, (ze6 (E := ⟨_, _, τ', _⟩) (F := en0 (fun g => A g ∨ W0.heap.size ≤ g) (w'.putObj D (.deferred none))) rfl (fun g _ hg => hg) _ _ hcl h2.1 : Cm.R _ _ _)⟩
      rw [zc9, Array.mapM_eq_mapM_toList]
      simp only [Sem.run_bind, Sem.run_map, h1, Result.andThen_ok, Sem.run_pure]
      rfl
    · cases hra
    · cases hra
  obtain ⟨v, hv, hM⟩ := hrun
  rw [s.nodef]
  exact ⟨by simp, .inl ⟨_, _, rfl, run_takeDeferred hK', ⟨_, hv, hM⟩⟩⟩
theorem zon {G : World → Prop} {N : Nat} {W0 : World} {A : Nat → Prop} {hG : ∀ w, Below W0.heap.size W0 w → G w} {fn : Func} {rest : Code} {m : Cm} {D : Nat} {W : World} (hres : zea N fn.results.toList = true) (hcl : zce m = true) (hs : SimT (Cx.of N W0 A G hG) S τ a W) (hDW : W0.heap.size ≤ D) (hK : W.heap[D]? = some (.deferred (some [])))
    (h : ∀ (hk : Kept (Cx.of N W0 A G hG).K (Cx.of N W0 A G hG).W0 W) (hD : D < W.heap.size), Aw P (cxD (Cx.of N W0 A G hG) W D hk hD) rest (fun e S' => (e = .normal ∨ e = .ret) ∧ za6 P fn S' = some (.m m)) S) :
    rest.wp P (bodyPostM Fence.wide 5 P fn (zn6 W0 A (.m m))) { a with defers := { target := .collected D, args := #[] } :: a.defers } W := by
  have hlt : D < W.heap.size := (Array.getElem?_eq_some_iff.1 hK).1
  have s1 := zn5 hs rfl ⟨_, hK, rfl⟩ hlt
  refine wp_mono (zqq rfl (h hs.bel hlt) ⟨_, s1⟩) ?_
  intro e a' w' ⟨S', ⟨he, hra⟩, τ', s⟩
  have key := zmz hres hcl hs.bel hlt hDW hK s hra
  rcases he with rfl | rfl
  · exact key
  · exact key
theorem ztk {G : World → Prop} {N : Nat} {W0 : World} {A : Nat → Prop} {hG : ∀ w, Below W0.heap.size W0 w → G w} {fn : Func} {m : Cm} {D : Nat} {W : World} {Q : Exit → Act → World → Prop} (hres : zea N fn.results.toList = true) (hcl : zce m = true) (hs : SimT (Cx.of N W0 A G hG) S τ a W) (hDW : W0.heap.size ≤ D) (hK : W.heap[D]? = some (.deferred (some [])))
    (hra : za6 P fn S = some (.m m)) (hQ : ∀ a' w', LeavesInM Fence.wide 5 P fn a'.tmps (zn6 W0 A (.m m)) a'.defers .returning w' → Q .ret a' w') :
    Code.ret.wp P Q { a with defers := { target := .collected D, args := #[] } :: a.defers } W := by
  have hlt : D < W.heap.size := (Array.getElem?_eq_some_iff.1 hK).1
  have s1 := zn5 hs rfl ⟨_, hK, rfl⟩ hlt
  exact wp_ret (hQ _ _ (zmz hres hcl hs.bel hlt hDW hK s1 hra))
set_option maxHeartbeats 1000000 in
theorem z0g {X : Cx} {S : St} {τ0 : Nat → Value} {a : Act} {w : World} {t p1 p2 : Tmp} {assign body : Code} {Q : Exit → Act → World → Prop} {sz f : Int} {xs : List (Int × Int)} (hf : 0 ≤ f ∧ f < 17592186044416) (hs : Srt xs) (hu : Uw xs)
    (hdf : X.df = []) (ts : List (Nat × Nat)) (ns : List Nat) (n1 n2 : Nat) (bs : List (Nat × Hs)) (mid : Ie sz xs f → St)
    (hS : SimT (cxP X τ0 ns) S τ0 a w) (htN : t < X.N) (hcl : S.tm t = .m (.c (.cl 162 [n1, n2])))
    (hts : ∀ p ∈ ts, S.tm p.1 = .m (.c (.p p.2 0)) ∧ p.2 ∈ ns ∧ p.1 < X.N) (hns : ∀ b ∈ ns, ∃ cs, S.hp b = .live (.box cs)) (hb0 : EqB S bs) (m1 : n1 ∈ ns) (m2 : n2 ∈ ns)
    (hbs : (bs.all (fun p => (idK p.2).all (zl3 · bs)) && ns.all (fun b => zl3 b bs)) = true)
    (hn1 : look Hs.fresh bs n1 = .live (.box [.v (.int .u64 sz), .s xs.length 2 (fl xs)])) (hn2 : look Hs.fresh bs n2 = .live (.box [.v (.int .u64 f)]))
    (hmid : ∀ x, EqB (mid x) bs) (hself : EqB (St.of [] bs) bs)
    (hA : ∀ (W : World) (l : Nat) (hk : Kept X.K X.W0 W) (x : Ie sz xs f), Aw Tryz.prog (cxR X W l τ0 ns hk) assign (zjd (fun S' => Sub (cxR X W l τ0 ns hk) S' (mid x)) z0s) ((St.of (ptT ts) bs).two p1 p2 (.m (.c (.v (.int .i64 (x.1 : Int))))) (.m (.ag (atM sz xs f x.1).ce))))
    (hB : ∀ (W : World) (l : Nat) (hk : Kept X.K X.W0 W) (x : Ie sz xs f), Aw Tryz.prog (cxR X W l τ0 ns hk) body (fun e S' => e = .ret ∧ Sub (cxR X W l τ0 ns hk) S' (St.of (ptT []) bs)) (mid x))
    (hdone : ∀ (D : Nat) (W : World), w.heap.size ≤ D → (∀ i : Nat, i < 512 → nzB sz xs f i = false) → Sim (cxP X τ0 ns) (St.of (ptT ts) bs) a W → W.heap[D]? = some (.deferred (some [])) → Q .normal { a with defers := { target := .collected D, args := #[] } :: a.defers } W)
    (hstop : ∀ (D : Nat) (W : World) (x : Ie sz xs f), w.heap.size ≤ D → Sim (cxP X τ0 ns) (St.of (ptT ts) bs) a W → W.heap[D]? = some (.deferred (some [])) → Code.ret.wp Tryz.prog Q { a with defers := { target := .collected D, args := #[] } :: a.defers } W) :
    (Code.rangeFunc (.tmp t) #[p1, p2] assign body).wp Tryz.prog Q a w := by
  have hptr : ∀ b ∈ ns, ∃ g, τ0 b = .pointer (some ⟨g, 0, none⟩) := fun b hb => by
    obtain ⟨cs, e⟩ := hns b hb
    obtain ⟨g, vs, e1, _⟩ := hS.hp b _ e
    exact ⟨g, e1⟩
  obtain ⟨b1, e1⟩ := hptr n1 m1
  obtain ⟨b2, e2⟩ := hptr n2 m2
  have hval : a.eval (.tmp t) = .func (.func 162) #[] #[.pointer (some ⟨b1, 0, none⟩), .pointer (some ⟨b2, 0, none⟩)] := by
    have := hS.tm t htN
    rw [hcl] at this
    have this : a.tmps.getD t undef = .func (.func 162) #[] ([n1, n2].map τ0).toArray := this.1
    show a.tmps.getD t undef = _
    rw [this]; simp [e1, e2]
  have hts' : ∀ p ∈ ts, p.2 ∈ ns ∧ a.tmps.getD p.1 undef = τ0 p.2 ∧ ∃ g, τ0 p.2 = .pointer (some ⟨g, 0, none⟩) := fun p hp => by
    obtain ⟨q1, q2, q3⟩ := hts p hp
    have := hS.tm p.1 q3
    rw [q1] at this
    obtain ⟨_, g, r1, r2⟩ := this
    have r1 : τ0 p.2 = .pointer (some ⟨g, 0, none⟩) := r1
    exact ⟨q2, r2.trans r1.symm, g, r1⟩
  have hbs1 : (bs.all fun p => (idK p.2).all (zl3 · bs)) = true := by rw [Bool.and_eq_true] at hbs; exact hbs.1
  have hbs2 : (ns.all fun b => zl3 b bs) = true := by rw [Bool.and_eq_true] at hbs; exact hbs.2
  have hent : ∀ {S' : St} {τ' : Nat → Value} {a' : Act} {W' : World}, SimT (cxP X τ0 ns) S' τ' a' W' → EqB S' bs → Ent sz xs f b1 b2 W' := fun {S' τ' a' W'} s h => by
    have hl : ∀ n v, look Hs.fresh bs n = .live v → S'.hp n = .live v := fun n v hv => by
      rcases zkh h n with e | e
      · rw [e] at hv; cases hv
      · rw [← e]; exact hv
    exact zv8 s (hl _ _ hn1) (hl _ _ hn2) m1 m2 e1 e2
  have hE0 : Ent sz xs f b1 b2 w := hent hS hb0
  have hszW : X.W0.heap.size ≤ w.heap.size := hS.bel.size
  have hgr : ∀ (S' : St) (a' : Act), OwnFrom w.heap.size (fun (_ : Unit) W => Sim (cxP X τ0 ns) S' a' W) := fun S' a' _ W W' row ⟨τ', s⟩ hg hr => ⟨τ', ziw s hg fun r e => ⟨(hr r e).2, fun k => by
    have := X.hK r k; have := (hr r e).1; omega⟩⟩
  have hI0 : Sim (cxP X τ0 ns) (St.of (ptT ts) bs) a w := zfw ⟨τ0, hS⟩ ts bs hb0 hbs1 hbs2 hts' hS.size hS.nodef
  refine (wpIn_wide (n := 5)).1 (wpIn_rangeFunc_ownH (w0 := w) rfl (by omega) (gf := 162) hval trivial (enters_of Tryz.func162 (by kernel_rfl) rfl)
    (zmk 4 (by omega) sz xs f b1 b2 w hE0 hf hs hu) KpE.trans (fun W l o o' _ hl ho _ => KpE.put W l o o' hl ho) (Below.refl _ _) (fun _ => rfl)
    (fun pre W => pre = [] ∧ Sim (cxP X τ0 ns) (St.of (ptT ts) bs) a W) (fun c pre W => c = .ret ∧ Nonempty (Ie sz xs f) ∧ Sim (cxP X τ0 ns) (St.of (ptT ts) bs) a W) (fun s W W' row hi hg hr => ⟨hi.1, hgr _ _ () W W' row hi.2 hg hr⟩) (fun c s W W' row hi hg hr => ⟨hi.1, hi.2.1, hgr _ _ () W W' row hi.2.2 hg hr⟩) ⟨rfl, hI0⟩
    (fun x a' W => Sim (cxP X τ0 ns) (mid x) a' W) (fun x a' _ W W' row hi hg hr => hgr _ _ () W W' row hi hg hr) ?_ ?_ ?_ ?_)
  · intro l pre x W K ⟨hp, hI⟩ hK
    obtain ⟨τ1, s1⟩ := hI
    have hk : Kept X.K X.W0 W := s1.bel
    have s2 := zsj (p1 := p1) (p2 := p2) (v1 := .m (.c (.v (.int .i64 (x.1 : Int))))) (v2 := .m (.ag (atM sz xs f x.1).ce)) (u1 := .int .i64 (x.1 : Int)) (u2 := zyx (atM sz xs f x.1)) (show (cxP X τ0 ns).df = [] from hdf) s1 rfl ⟨_, rfl, rfl, rfl, rfl, rfl, rfl, rfl, rfl, rfl, rfl, rfl, rfl, trivial⟩
    have s3 := zgo (l := l) s2 hk
    have ez : (#[p1, p2].zip (zyy sz xs f x)).foldl (fun t (p, v) => t.setIfInBounds p v) a.tmps = (a.tmps.setIfInBounds p1 (.int .i64 (x.1 : Int))).setIfInBounds p2 (zyx (atM sz xs f x.1)) := by simp [zyy]
    rw [ez]
    refine wpIn_mono (hA W l hk x _ W ⟨_, s3⟩ _) ?_
    intro e a' W' ⟨S', q, s4⟩
    cases e with
    | normal =>
      obtain ⟨τ5, s5⟩ := q _ _ s4
      have s6 := zgp s5
      exact hK a' W' (zes s5 _) ⟨s5.bel.size, fun _ => hent s6 (hmid _)⟩ ⟨hp, zfw ⟨_, s6⟩ ts _ (hmid x) hbs1 hbs2 hts' hS.size hS.nodef⟩ ⟨_, s6⟩
    | _ => exact q.elim
  · intro l pre x a' W hl hr hI ⟨τ2, s2⟩ hlen
    have hk : Kept X.K X.W0 W := s2.bel
    have s3 := zgo (l := l) s2 hk
    refine wpIn_mono (hB W l hk x _ W ⟨_, s3⟩ _) ?_
    rintro e a2 W' ⟨S', ⟨rfl, q⟩, s4⟩
    obtain ⟨τ5, s5⟩ := q _ _ s4
    have s6 := zgp s5
    have hq := zix (S := St.of [] bs) (S' := St.of (ptT []) bs) rfl _ hself
    exact ⟨zes s5 _, rfl, ⟨x⟩, zfw ⟨_, s6⟩ ts _ hq hbs1 hbs2 hts' hS.size hS.nodef⟩
  · intro D ys W hD hys ⟨hnil, hI⟩ hK
    refine hdone D W hD (fun i hi => ?_) hI hK
    subst hnil
    have hys : [] = (List.range 512).filter (nzB sz xs f) := hys
    cases e : nzB sz xs f i with
    | false => rfl
    | true =>
      have : i ∈ (List.range 512).filter (nzB sz xs f) := List.mem_filter.2 ⟨List.mem_range.2 hi, e⟩
      rw [← hys] at this; cases this
  · rintro D c pre W hD _ ⟨rfl, ⟨x⟩, hI⟩ hK
    exact wpIn_wide.2 (hstop D W x hD hI hK)
end
end Go.Proofs.YtmkjfeamgknpfaaGreatDoor.Ax
namespace Go.Proofs.YtmkjfeamgknpfaaGreatDoor.LjD
open Go.RowKit Bv VaSpec Base MemL RegR Ax MemC PutC MemC3 TzC OkS SpA SpB SpC SpF LaA IterE LaC LaD LiC
open BitsC PteSpec
set_option maxRecDepth 10000
set_option maxHeartbeats 1000000
def tsE : List (Nat × Nat) := [(2, 2), (4, 4)]
def nsE : List Nat := [2, 4, 1001, 1002]
def bsE (sz : Int) (xs : List (Int × Int)) (top : Int) : List (Nat × Hs) := [(2, .live (.box [cu sz, .s xs.length 2 (fl xs)])), (4, .live (.box [cb false])), (1001, .live (.box [cu sz, .s xs.length 2 (fl xs)])), (1002, .live (.box [cu top]))]
theorem zvj (sz : Int) (xs : List (Int × Int)) (top : Int) (b : Bool) (ht : 0 ≤ top ∧ top < 17592186044416) (hs : Srt xs) (hu : Uw xs) (hb1 : (∀ i : Nat, i < 512 → nzB sz xs top i = false) → b = true) (hb0 : (∃ i : Nat, i < 512 ∧ nzB sz xs top i = true) → b = false) :
    Ok 182 [zbz sz xs, iu top] (.m (ib b)) := by
  refine zfi 10 Tryz.func182 rfl rfl rfl ?_ GG.to
  intro W A hG
  refine zct (fun K hK => ?_)
  repeat (first | (refine zai rfl ?_; first | refine gdr (zag rfl rfl rfl rfl rfl rfl) ?_ | refine gdr (zae rfl rfl rfl rfl rfl) ?_) | (refine hK _ ?_; clear hK K) | refine zad rfl ?_)
  refine zsk ?_
  refine zct (fun K hK => ?_)
  repeat (first | (refine zai rfl ?_; first | refine gdr (zaa (.inl rfl) rfl) ?_ | refine gnk 1 rfl (za2 tb rfl rfl rfl rfl rfl) ?_ | refine gdr (zet (n1 := 1001) (n2 := 1002) rfl rfl rfl rfl rfl rfl) ?_) | (refine hK _ ?_; clear hK K) | refine zad rfl ?_)
  refine ziy ?_
  refine ziz (zas [(2, .m (.c (.p 2 0))), (4, .m (.c (.p 4 0))), (7, .m (.c (.cl 162 [1001, 1002])))] (bsE sz xs top)
    ⟨rfl, rfl, rfl, trivial⟩ ⟨rfl, rfl, rfl, rfl, trivial⟩ rfl) ?_
  intro a w ⟨τ0, s⟩
  have s' := zn4 (ns := nsE) s (by
    intro b hb
    simp only [nsE, List.mem_cons, List.not_mem_nil, or_false] at hb
    rcases hb with rfl | rfl | rfl | rfl
    all_goals exact ⟨_, rfl⟩)
  refine z0g ht hs hu rfl tsE nsE 1001 1002 (bsE sz xs top) (fun x => St.of [(2, .m (.c (.p 2 0))), (4, .m (.c (.p 4 0)))] (bsE sz xs top)) s' (show 7 < 10 by decide) rfl
    (by
      intro p hp
      simp only [tsE, List.mem_cons, List.not_mem_nil, or_false] at hp
      rcases hp with rfl | rfl
      all_goals exact ⟨rfl, by simp [nsE], by show _ < 10; decide⟩)
    (by
      intro b hb
      simp only [nsE, List.mem_cons, List.not_mem_nil, or_false] at hb
      rcases hb with rfl | rfl | rfl | rfl
      all_goals exact ⟨_, rfl⟩)
    ⟨rfl, rfl, rfl, rfl, trivial⟩ (by simp [nsE]) (by simp [nsE]) rfl rfl rfl (fun _ => ⟨rfl, rfl, rfl, rfl, trivial⟩) ⟨rfl, rfl, rfl, rfl, trivial⟩ ?_ ?_ ?_ ?_
  · intro W l hk x
    repeat (first | refine zaq ?_)
    exact zas _ _ ⟨rfl, rfl, trivial⟩ ⟨rfl, rfl, rfl, rfl, trivial⟩ rfl
  · intro W' l hk x
    repeat (first | (refine zai rfl ?_; first | refine gnk 1 rfl (zbg rfl rfl rfl rfl rfl rfl rfl) ?_) | (refine hK _ ?_; clear hK K) | refine zad rfl ?_ | refine zam ?_ | refine zac (fun K hK => ?_))
    exact zao ⟨rfl, zas _ _ trivial ⟨rfl, rfl, rfl, rfl, trivial⟩ rfl⟩
  · intro D W hD hz hI hK
    have hb := hb1 hz
    subst hb
    obtain ⟨τ1, s1⟩ := hI
    have s2 : SimT (Cx.of 10 _ A GG hG) (St.of (ptT tsE) (bsE sz xs top)) τ1 a W := ⟨s1.size, s1.nodef, s1.bel, s1.tm, s1.hp, s1.own, s1.sep, s1.one, fun p hp => by cases hp⟩
    refine zon rfl rfl s2 (Nat.le_trans s.bel.size hD) hK (fun hk hD => ?_)
    repeat (first | (refine zai rfl ?_; first | refine gnk 1 rfl (zbg rfl rfl rfl rfl rfl rfl rfl) ?_) | (refine hK _ ?_; clear hK K) | refine zad rfl ?_ | refine zac (fun K hK => ?_))
    exact zao ⟨.inr rfl, rfl⟩
  · intro D W x hD hI hK
    have hb := hb0 ⟨x.1, x.2.1, by have := x.2.2; unfold nzB; simpa using this⟩
    subst hb
    obtain ⟨τ1, s1⟩ := hI
    have s2 : SimT (Cx.of 10 _ A GG hG) (St.of (ptT tsE) (bsE sz xs top)) τ1 a W := ⟨s1.size, s1.nodef, s1.bel, s1.tm, s1.hp, s1.own, s1.sep, s1.one, fun p hp => by cases hp⟩
    exact ztk rfl rfl s2 (Nat.le_trans s.bel.size hD) hK rfl (fun a' w' h => h)
theorem zq0 {cd cp sz f sh : Int} {xs : List (Int × Int)} {lv : Int → Int} (h : LiA.TI cd cp sz xs f sh lv) {g : Int} (hg : cd ≤ g ∧ g < cd + cp) : Ok 182 [zbz sz xs, iu g] (.m (ib (ze2 xs g))) := by
  obtain ⟨e1, e2⟩ := zpq h hg
  have b1 := h.bd
  have b2 := h.bp
  refine zvj sz xs g _ ⟨by omega, by omega⟩ h.s h.u (fun hz => ?_) (fun ⟨i, hi, hn⟩ => ?_)
  · cases c : ze2 xs g with
    | true => rfl
    | false =>
      obtain ⟨j, hj, hne⟩ := e2 c
      have := hz j.toNat (by omega)
      unfold nzB at this
      rw [show ((j.toNat : Nat) : Int) = j by omega] at this
      simp at this
      exact absurd this hne
  · cases c : ze2 xs g with
    | false => rfl
    | true =>
      have := e1 c (i : Int) ⟨by omega, by omega⟩
      unfold nzB at hn
      simp at hn
      exact absurd this hn
end Go.Proofs.YtmkjfeamgknpfaaGreatDoor.LjD
namespace Go.Proofs.YtmkjfeamgknpfaaGreatDoor.Ax
open Go.RowKit MemL RegR Go
variable {P : Program} {ops : Array Oper} {X : Cx} {o : Oper} {S : St}
def CallsE (P : Program) (f : FuncId) (args : Array Value) (w : World) (R : Ending → World → Prop) : Prop := ∀ u, CallsD P f args u w fun e u' w' => u' = u ∧ R e w'
theorem CallsE.mono {f : FuncId} {args : Array Value} {w : World} {R R' : Ending → World → Prop} (h : CallsE P f args w R) (hr : ∀ e w', R e w' → R' e w') : CallsE P f args w R' := fun u => (h u).mono fun e u' w' k => ⟨k.1, hr e w' k.2⟩
theorem zm0 {f : FuncId} {fn : Func} {c : Code} {args : Array Value} {w : World} {R : Ending → World → Prop} (hf : P.funcs[f]? = some fn) (hb : fn.body = some c)
    (h : c.wp P (bodyPost P fn R) { tmps := args ++ Array.replicate (fn.ntmps - args.size) undef, defers := [] } w) : CallsE P f args w R := fun u => callsD_of_wp hf hb h
def ztl (W : World) (A : Nat → Prop) (τ : Nat → Value) (bs : List Ln) (r : AV) (e : Ending) (w' : World) : Prop := ∃ v, e = .returned v ∧ Kept (fun g => g < W.heap.size ∧ ¬ zm3 τ bs g) W w' ∧ r.R (en0 (fun g => A g ∨ W.heap.size ≤ g) w') v ∧
      ∀ p ∈ bs, ∃ g us, τ p.1 = .pointer (some ⟨g, 0, none⟩) ∧ Bx w' g us ∧ All2 (Ce.R (en0 (fun g => A g ∨ W.heap.size ≤ g) w')) p.2.2 us.toList
def zh4 (P : Program) (G : World → Prop) (k : FuncId) (bs : List Ln) (args : List Cm) (r : AV) : Prop :=
  (zco r && bs.all (fun p => p.2.1.all zbl && p.2.2.all zbl)) = true ∧ (args.flatMap idM).all (fun b => bs.any (fun p => Nat.beq p.1 b)) = true ∧
  ∀ (A : Nat → Prop) (W : World) (τ : Nat → Value) (vs : Array Value), (∀ w, Kept (fun g => g < W.heap.size ∧ ¬ zm3 τ bs g) W w → G w) →
    (∀ p ∈ bs, ∃ g us, τ p.1 = .pointer (some ⟨g, 0, none⟩) ∧ Bx W g us ∧ All2 (Ce.R (en0 A W)) p.2.1 us.toList ∧ ¬ A g) →
    (∀ p ∈ bs, ∀ q ∈ bs, p.1 ≠ q.1 → ∀ g, occ (τ p.1) = some g → occ (τ q.1) ≠ some g) →
    All2 (Cm.R ⟨A, fun b => ∃ p ∈ bs, p.1 = b, τ, W⟩) args vs.toList → CallsE P k vs W (ztl W A τ bs r)
theorem zj5 {G : World → Prop} {fn : Func} {bs : List Ln} {args : List Cm} {r : AV} (N : Nat) {A : Nat → Prop} {W : World} {τ : Nat → Value} {vs : Array Value}
    (hcl : (zco r && bs.all (fun p => p.2.1.all zbl && p.2.2.all zbl)) = true) (hid : (args.flatMap idM).all (fun b => bs.any (fun p => Nat.beq p.1 b)) = true) (hN : args.length + (fn.ntmps - args.length) = N)
    (hG : ∀ w, Kept (fun g => g < W.heap.size ∧ ¬ zm3 τ bs g) W w → G w)
    (hB : ∀ p ∈ bs, ∃ g us, τ p.1 = .pointer (some ⟨g, 0, none⟩) ∧ Bx W g us ∧ All2 (Ce.R (en0 A W)) p.2.1 us.toList ∧ ¬ A g)
    (hsep : ∀ p ∈ bs, ∀ q ∈ bs, p.1 ≠ q.1 → ∀ g, occ (τ p.1) = some g → occ (τ q.1) ≠ some g)
    (hR : All2 (Cm.R ⟨A, fun b => ∃ p ∈ bs, p.1 = b, τ, W⟩) args vs.toList) : Sim (cxW N W A G τ bs hG) (ze0 bs args) { tmps := vs ++ Array.replicate (fn.ntmps - vs.size) undef, defers := [] } W := by
  simp only [Bool.and_eq_true, List.all_eq_true] at hcl
  obtain ⟨hcr, hcb⟩ := hcl
  have hlen := All2.length _ _ hR
  simp only [Array.length_toList] at hlen
  obtain ⟨τ', hτ'⟩ : ∃ τ' : Nat → Value, τ' = fun b => cond (bs.any fun p => Nat.beq p.1 b) (τ b) (.bool false) := ⟨_, rfl⟩
  have ht : ∀ p ∈ bs, τ' p.1 = τ p.1 := fun p hp => by
    rw [hτ']
    have : (bs.any fun q => Nat.beq q.1 p.1) = true := List.any_eq_true.2 ⟨p, hp, Nat.beq_refl _⟩
    simp only [this, cond]
  have hlive : ∀ b q, look .fresh (bs.map fun p => (p.1, Hs.live (.box p.2.1))) b = .live q → ∃ p ∈ bs, p.1 = b ∧ q = .box p.2.1 := fun b q hq => by
    obtain ⟨x, h1, h2, h3⟩ := look_mem _ b _ hq (fun e => by cases e)
    obtain ⟨p, hp, rfl⟩ := List.mem_map.1 h1
    exact ⟨p, hp, h2, by cases h3; rfl⟩
  have halw : ∀ g, A g → alw (cxW N W A G τ bs hG) (ze0 bs args).hp τ' g := fun g hg => ⟨.inl hg, fun b ⟨q, hq⟩ ho => by
    obtain ⟨p, hp, rfl, _⟩ := hlive b q hq
    obtain ⟨g', us, e1, _, _, e4⟩ := hB p hp
    rw [ht p hp, e1] at ho
    cases ho; exact e4 hg⟩
  have hS : Sim (cxW N W A G τ bs hG) (ze0 bs args) { tmps := vs ++ Array.replicate (fn.ntmps - vs.size) undef, defers := [] } W := by
    refine ⟨τ', by simp [← hN, hlen, cxW], rfl, Kept.refl _ _, fun t ht' => ?_, fun b k hk => ?_, fun b g hk ho => ?_, fun b b' g hne hk hk' ho => ?_, fun b => ?_, fun q hq => ?_⟩
    · show AV.R _ (match args[t]? with | some m => .m m | none => .m (.c (.v undef))) _
      have ht' : t < N := ht'
      by_cases hlt : t < args.length
      · obtain ⟨v, hv, hr⟩ := All2.get _ _ t _ hR (List.getElem?_eq_getElem hlt)
        rw [List.getElem?_eq_getElem hlt]
        have e : (vs ++ Array.replicate (fn.ntmps - vs.size) undef).getD t undef = v := by
          rw [Array.getD_eq_getD_getElem?, Array.getElem?_append_left (by omega)]
          simp only [Array.getElem?_toList] at hv
          rw [hv]; rfl
        rw [e]
        refine zov (E := ⟨A, fun b => ∃ p ∈ bs, p.1 = b, τ, W⟩) (F := env (cxW N W A G τ bs hG) (ze0 bs args).hp τ' W) ⟨fun b hb' => ?_, fun g _ hg => halw g hg, Nat.le_refl _, fun _ _ _ _ => rfl⟩ _ _ hr
        obtain ⟨p, hp, rfl⟩ := hb'
        refine ⟨?_, ht p hp⟩
        obtain ⟨q, q1, q2, q3⟩ := ziu (d := Hs.fresh) (bs.map fun p => (p.1, Hs.live (.box p.2.1))) (p.1, .live (.box p.2.1)) (List.mem_map.2 ⟨p, hp, rfl⟩)
        show look Hs.fresh (bs.map fun p => (p.1, Hs.live (.box p.2.1))) p.1 ≠ Hs.fresh
        rw [show look Hs.fresh (bs.map fun p => (p.1, Hs.live (.box p.2.1))) p.1 = q.2 from q3]
        obtain ⟨p', _, rfl⟩ := List.mem_map.1 q1
        intro e; cases e
      · rw [List.getElem?_eq_none (by omega)]
        show _ = undef
        rw [Array.getD_eq_getD_getElem?, Array.getElem?_append_right (by omega)]
        rw [Array.getElem?_replicate]; split <;> rfl
    · obtain ⟨p, hp, rfl, rfl⟩ := hlive b k hk
      obtain ⟨g, us, e1, e2, e3, _⟩ := hB p hp
      have := hcb p hp
      exact ⟨g, us, (ht p hp).trans e1, e2, zdd (E := en0 A W) (F := env (cxW N W A G τ bs hG) (ze0 bs args).hp τ' W) rfl (fun g _ hg => halw g hg) _ _ (List.all_eq_true.2 this.1) e3⟩
    · obtain ⟨q, hq⟩ := hk
      obtain ⟨p, hp, rfl, rfl⟩ := hlive b q hq
      obtain ⟨g', us, e1, e2, e3, _⟩ := hB p hp
      rw [ht p hp] at ho
      refine ⟨fun hk => hk.2 ⟨p, hp, ho⟩, ?_⟩
      rw [e1] at ho; cases ho
      exact e2.lt
    · obtain ⟨q, hq⟩ := hk
      obtain ⟨q', hq'⟩ := hk'
      obtain ⟨p, hp, rfl, rfl⟩ := hlive b q hq
      obtain ⟨p', hp', rfl, rfl⟩ := hlive b' q' hq'
      rw [ht p hp] at ho
      rw [ht p' hp']
      exact hsep p hp p' hp' hne g ho
    · have e0 : τ' b = cond (bs.any fun p => Nat.beq p.1 b) (τ b) (.bool false) := by rw [hτ']
      rw [e0]
      cases e : bs.any fun p => Nat.beq p.1 b with
      | false => rfl
      | true =>
        obtain ⟨p, hp, e'⟩ := List.any_eq_true.1 e
        obtain rfl := Nat.eq_of_beq_eq_true e'
        obtain ⟨g, us, e1, _⟩ := hB p hp
        show (τ p.1).oneCell' = true
        rw [e1]; rfl
    · obtain ⟨p, hp, rfl⟩ := List.mem_map.1 hq
      refine ⟨?_, ht p hp⟩
      obtain ⟨q, q1, q2, q3⟩ := ziu (d := Hs.fresh) (bs.map fun p => (p.1, Hs.live (.box p.2.1))) (p.1, .live (.box p.2.1)) (List.mem_map.2 ⟨p, hp, rfl⟩)
      show look Hs.fresh (bs.map fun p => (p.1, Hs.live (.box p.2.1))) p.1 ≠ Hs.fresh
      rw [show look Hs.fresh (bs.map fun p => (p.1, Hs.live (.box p.2.1))) p.1 = q.2 from q3]
      obtain ⟨p', _, rfl⟩ := List.mem_map.1 q1
      intro e; cases e
  exact hS
def zyg (N : Nat) (W : World) (A : Nat → Prop) (G : World → Prop) (τ : Nat → Value) (bs : List Ln) (hG : ∀ w, Kept (fun g => g < W.heap.size ∧ ¬ zm3 τ bs g) W w → G w) (ds : List Deferred) : Cx := { cxW N W A G τ bs hG with df := ds }
theorem finW {G : World → Prop} {fn : Func} {bs : List Ln} {r : AV} {N : Nat} {A : Nat → Prop} {W : World} {τ : Nat → Value} {hG : ∀ w, Kept (fun g => g < W.heap.size ∧ ¬ zm3 τ bs g) W w → G w} {ds : List Deferred} {S' : St} {τe : Nat → Value} {a' : Act} {w' : World}
    (hcr : zco r = true) (hcb : ∀ p ∈ bs, p.2.1.all zbl = true ∧ p.2.2.all zbl = true) (hres : zea N fn.results.toList = true) (s : SimT (zyg N W A G τ bs hG ds) S' τe a' w') (hr : za6 P fn S' = some r) (hE : EndB S' bs) : ∃ v, (results fn a'.tmps).run P w' = .ok v w' ∧ ztl W A τ bs r (.returned v) w' := by
  have hbx : ∀ p ∈ bs, ∃ g us, τ p.1 = .pointer (some ⟨g, 0, none⟩) ∧ Bx w' g us ∧ All2 (Ce.R (en0 (fun g => A g ∨ W.heap.size ≤ g) w')) p.2.2 us.toList := fun p hp => by
    obtain ⟨cs, e1, e2⟩ := hE.mem p hp
    obtain ⟨g, us, e3, e4, e5⟩ := s.hp p.1 _ e1
    have hpin := (s.pin (p.1, τ p.1) (List.mem_map.2 ⟨p, hp, rfl⟩)).2
    have e6 := zkq s _ _ e5
    rw [e2] at e6
    have := hcb p hp
    exact ⟨g, us, by rw [← e3]; exact hpin.symm, e4, zdd (E := ⟨_, _, τe, w'⟩) (F := en0 (fun g => A g ∨ W.heap.size ≤ g) w') rfl (fun g _ hg => hg) _ _ this.2 e6⟩
  unfold za6 at hr
  split at hr
  · rename_i m hm
    cases hr
    obtain ⟨vs', h1, h2⟩ := zd3 s _ _ hres hm
    obtain ⟨v, rfl⟩ : ∃ v, vs' = [v] := by
      cases vs' with
      | nil => exact h2.elim
      | cons v l => cases l with | nil => exact ⟨v, rfl⟩ | cons _ _ => exact h2.2.elim
    refine ⟨v, ?_, v, rfl, s.bel, (ze6 (E := ⟨_, _, τe, w'⟩) (F := en0 (fun g => A g ∨ W.heap.size ≤ g) w') rfl (fun g _ hg => hg) _ _ hcr h2.1 : Cm.R _ _ _), hbx⟩
    rw [zc9]
    rw [Array.mapM_eq_mapM_toList]
    simp only [Sem.run_bind, Sem.run_map, h1, Result.andThen_ok, Sem.run_pure]
    rfl
  · rename_i ms hne hm
    cases hr
    obtain ⟨vs', h1, h2⟩ := zd3 s _ _ hres hm
    have hl := All2.length _ _ h2
    have hsz : vs'.length ≠ 1 := fun e => by
      cases ms with
      | nil => simp at hl; omega
      | cons m l => cases l with
        | nil => exact hne m rfl
        | cons _ _ => simp at hl; omega
    refine ⟨.tuple vs'.toArray, ?_, _, rfl, s.bel, ⟨_, rfl, zdf (E := ⟨_, _, τe, w'⟩) (F := en0 (fun g => A g ∨ W.heap.size ≤ g) w') rfl (fun g _ hg => hg) _ _ hcr h2⟩, hbx⟩
    rw [zc9]
    rw [Array.mapM_eq_mapM_toList]
    simp only [Sem.run_bind, Sem.run_map, h1, Result.andThen_ok, Sem.run_pure]
    simp [hsz]
  · cases hr
theorem zi6 {G : World → Prop} {k : FuncId} {fn : Func} {c : Code} {bs : List Ln} {args : List Cm} {r : AV} (N : Nat) (hf : P.funcs[k]? = some fn) (hb : fn.body = some c) (hcl : (zco r && bs.all (fun p => p.2.1.all zbl && p.2.2.all zbl)) = true) (hid : (args.flatMap idM).all (fun b => bs.any (fun p => Nat.beq p.1 b)) = true)
    (hN : args.length + (fn.ntmps - args.length) = N) (hres : zea N fn.results.toList = true)
    (h : ∀ (W : World) (A : Nat → Prop) (τ : Nat → Value) (hG : ∀ w, Kept (fun g => g < W.heap.size ∧ ¬ zm3 τ bs g) W w → G w), Aw P (cxW N W A G τ bs hG) c (RetW P fn r bs) (ze0 bs args)) : zh4 P G k bs args r := by
  refine ⟨hcl, hid, fun A W τ vs hG hB hsep hR => zm0 hf hb ?_⟩
  have hS := zj5 N hcl hid hN hG hB hsep hR
  simp only [Bool.and_eq_true, List.all_eq_true] at hcl
  obtain ⟨hcr, hcb⟩ := hcl
  have hcb : ∀ p ∈ bs, p.2.1.all zbl = true ∧ p.2.2.all zbl = true := fun p hp => by
    have := hcb p hp
    exact ⟨List.all_eq_true.2 this.1, List.all_eq_true.2 this.2⟩
  refine wp_mono (wpIn_wide.1 (h W A τ hG _ W hS 0)) ?_
  intro e a' w' ⟨S', q, τe, s⟩
  have key : za6 P fn S' = some r ∧ EndB S' bs → a'.defers = [] ∧ ∃ v, (results fn a'.tmps).run P w' = .ok v w' ∧ ztl W A τ bs r (.returned v) w' := fun ⟨hr, hE⟩ => ⟨s.nodef, finW (hG := hG) (ds := []) hcr hcb hres s hr hE⟩
  cases e with
  | normal => exact key q
  | ret => exact key q
  | _ => exact q.elim
theorem zoo {G : World → Prop} {k : FuncId} {fn : Func} {c : Code} {bs : List Ln} {args : List Cm} {r : AV} (N : Nat) (hf : P.funcs[k]? = some fn) (hb : fn.body = some c) (hcl : (zco r && bs.all (fun p => p.2.1.all zbl && p.2.2.all zbl)) = true) (hid : (args.flatMap idM).all (fun b => bs.any (fun p => Nat.beq p.1 b)) = true)
    (hN : args.length + (fn.ntmps - args.length) = N)
    (h : ∀ (W : World) (A : Nat → Prop) (τ : Nat → Value) (hG : ∀ w, Kept (fun g => g < W.heap.size ∧ ¬ zm3 τ bs g) W w → G w), Aw2 P (cxW N W A G τ bs hG) c (bodyPostD P fn (ztl W A τ bs r)) (ze0 bs args)) : zck P G k bs args r :=
  ⟨hcl, hid, fun A W τ vs hG hB hsep hR => calls_of_wp_defers hf hb (h W A τ hG _ W (zj5 N hcl hid hN hG hB hsep hR))⟩
theorem zop {k : FuncId} {bs : List Ln} {nm : Nat → Nat} {args : List Cm} {r : AV} {vals : Array Value} {τ : Nat → Value} {a : Act} {w : World} (hS : SimT X S τ a w) (hc : zh4 P X.G k bs args r) (hb : ∀ p ∈ bs, S.hp (nm p.1) = .live (.box p.2.1)) (hin : zzu nm bs = true)
    (hok : args.all zn1 = true) (hR : All2 (Cm.R (env X S.hp τ w)) (args.map (rnM nm)) vals.toList) {d : Option Tmp} {rd : List Rd} :
    CallsE P k vals w fun e w' => ∃ v, e = .returned v ∧ SimT X (S.app d ⟨r, upB nm bs, rd⟩) τ (a.put d v) w' := by
  obtain ⟨c1, c2, hc⟩ := hc
  simp only [Bool.and_eq_true, List.all_eq_true] at c1
  obtain ⟨c1, c3⟩ := c1
  have c3 : ∀ p ∈ bs, p.2.1.all zbl = true ∧ p.2.2.all zbl = true := fun p hp => by
    have := c3 p hp
    exact ⟨List.all_eq_true.2 this.1, List.all_eq_true.2 this.2⟩
  have hinj : ∀ p ∈ bs, ∀ q ∈ bs, p.1 ≠ q.1 → nm p.1 ≠ nm q.1 := fun p hp q hq hne e => by
    have := List.all_eq_true.1 (List.all_eq_true.1 hin p hp) q hq
    rw [e, Nat.beq_refl] at this
    simp at this
    exact hne this
  have hal : ∀ p ∈ bs, zch S.hp (nm p.1) := fun p hp => ⟨_, hb p hp⟩
  have hlent : ∀ g, zm3 (fun b => τ (nm b)) bs g → ∃ b, zch S.hp b ∧ occ (τ b) = some g := fun g ⟨p, hp, e⟩ => ⟨_, hal p hp, e⟩
  refine (hc (alw X S.hp τ) w (fun b => τ (nm b)) vals (fun w' hk => X.hG w' (hS.bel.trans (hk.mono fun g hg => ⟨Nat.lt_of_lt_of_le (X.hK g hg) hS.bel.size, fun hl => by
      obtain ⟨b, h1, h2⟩ := hlent g hl
      exact (hS.own b g h1 h2).1 hg⟩))) (fun p hp => ?_) (fun p hp q hq hne g ho => hS.sep _ _ g (hinj p hp q hq hne) (hal p hp) (hal q hq) ho) ?_).mono ?_
  · obtain ⟨g, us, e1, e2, e3⟩ := hS.hp _ _ (hb p hp)
    exact ⟨g, us, e1, e2, zdd (E := env X S.hp τ w) (F := en0 (alw X S.hp τ) w) rfl (fun _ _ h => h) _ _ (c3 p hp).1 e3, fun hA => hA.2 _ (hal p hp) (by rw [e1]; rfl)⟩
  · refine zsa (E := env X S.hp τ w) (nm := nm) (U := fun b => ∃ p ∈ bs, p.1 = b) (fun b _ => rfl) _ _ hok (fun b hb' => ?_) hR
    obtain ⟨p, hp, e⟩ := List.any_eq_true.1 (List.all_eq_true.1 c2 b hb')
    exact ⟨p, hp, Nat.eq_of_beq_eq_true e⟩
  rintro e w' ⟨v, rfl, hk, hr, hbx⟩
  refine ⟨v, rfl, ?_⟩
  have hal' : ∀ b, zch (upd (upB nm bs) S.hp) b → zch S.hp b := fun b ⟨q, hq⟩ => by
    rcases zdx (nm := nm) S.hp bs b with ⟨p, h1, rfl, _⟩ | ⟨_, h2⟩
    · exact hal p h1
    · rw [h2] at hq; exact ⟨q, hq⟩
  have hbel : Kept X.K X.W0 w' := hS.bel.trans (hk.mono fun g hg => ⟨Nat.lt_of_lt_of_le (X.hK g hg) hS.bel.size, fun hl => by
      obtain ⟨b, h1, h2⟩ := hlent g hl
      exact (hS.own b g h1 h2).1 hg⟩)
  have hle : (env X S.hp τ w).le (env X (upd (upB nm bs) S.hp) τ w') := by
    refine ⟨fun i hi => ⟨?_, rfl⟩, fun g _ ha => ⟨ha.1, fun i hi => ha.2 i (hal' i hi)⟩, hk.size, fun g o hg ha => hk.cell (p := ⟨g, o, none⟩) ⟨hg, fun hl => ?_⟩⟩
    · show upd (upB nm bs) S.hp i ≠ .fresh
      rcases zdx (nm := nm) S.hp bs i with ⟨p, h1, rfl, h3⟩ | ⟨_, h2⟩
      · rw [h3]; intro e; cases e
      · rw [h2]; exact hi
    · obtain ⟨b, h1, h2⟩ := hlent g hl
      exact ha.2 b h1 h2
  have hA' : ∀ g, g < w'.heap.size → (alw X S.hp τ g ∨ w.heap.size ≤ g) → alw X (upd (upB nm bs) S.hp) τ g := fun g _ hg => by
    rcases hg with hg | hg
    · exact ⟨hg.1, fun i hi => hg.2 i (hal' i hi)⟩
    · exact ⟨.inr (Nat.le_trans hS.bsz hg), fun i hi he => by have := (hS.own i g (hal' i hi) he).2; omega⟩
  refine hS.turn (u := upB nm bs) hle hbel (fun i q hq => ?_) (fun i g hi ho => ?_) (fun i j g hij hi hj ho => hS.sep i j g hij (hal' i hi) (hal' j hj) ho) hS.one ?_
  · rcases zdx (nm := nm) S.hp bs i with ⟨p, h1, rfl, h3⟩ | ⟨h1, h2⟩
    · rw [h3] at hq; cases hq
      obtain ⟨g, us, e1, e2, e3⟩ := hbx p h1
      exact ⟨g, us, e1, e2, zdd (E := en0 (fun g => alw X S.hp τ g ∨ w.heap.size ≤ g) w') (F := env X (upd (upB nm bs) S.hp) τ w') rfl (fun g hg h => hA' g hg h) _ _ (c3 p h1).2 e3⟩
    · rw [h2] at hq
      have hfar : ∀ g, occ (τ i) = some g → w'.heap[g]? = w.heap[g]? := fun g ho => hk.block g ⟨(hS.own i g ⟨q, hq⟩ ho).2, fun ⟨p, hp, e⟩ => hS.sep _ _ g (h1 p hp) (hal p hp) ⟨q, hq⟩ e ho⟩
      have hk' := hS.hp i q hq
      cases q with
      | box cs' =>
        obtain ⟨g', vs', x1, ⟨T', x2⟩, x3⟩ := hk'
        exact ⟨g', vs', x1, ⟨T', (hfar g' (by rw [x1]; rfl)).trans x2⟩, All2.mono (zcf hle) _ _ x3⟩
      | row e' k' n' xs' =>
        obtain ⟨x0, x1⟩ := hk'
        refine ⟨x0, ?_⟩
        rcases x1 with x1 | ⟨g', cap, cur, y1, y2, y3, y4⟩
        · exact .inl x1
        · exact .inr ⟨g', cap, cur, y1, y2, (hfar g' (by rw [y1]; rfl)).trans y3, y4⟩
  · have := hS.own i g (hal' i hi) ho
    exact ⟨this.1, Nat.lt_of_lt_of_le this.2 hk.size⟩
  · exact zim (E := en0 (fun g => alw X S.hp τ g ∨ w.heap.size ≤ g) w') (F := env X (upd (upB nm bs) S.hp) τ w') rfl hA' _ _ c1 hr
theorem zho {Q : St → Prop} {Q' : Exit → Act → World → Prop} {l2 : List Nat} {n : Nat} (hQ : ∀ S a w, Q S → Sim X S a w → wpOpsIn (FX X) n P ops Q' l2 a w) (hN : ∀ o ∈ ops, ∀ t, t ∈ o.looksAt ops ∨ o.dst = some t → t < X.N) {anc : Nat → Nat → Bool} : ∀ (l : List Nat) (T : List (Nat × List Rd × List Rd)) (S : St) (a : Act) (w : World), Go P ops X Q anc l T S → Sim X S a w → wpOpsIn (FX X) n P ops Q' (l ++ l2) a w
  | [], T, S, a, w, hg, hS => hQ _ _ _ hg hS
  | i :: r, T, S, a, w, hg, hS => by
    obtain ⟨o, e, ho, hv, _, hg⟩ := hg
    rw [List.cons_append, wpOpsIn_cons]
    exact Step.wpIn ho (hv S a w (fun _ _ => rfl) (fun r _ => AgR.refl _ r) (hN o (Array.mem_of_getElem? ho)) hS) fun v w' hS' => zho hQ hN r _ _ _ _ hg hS'
theorem ztm {id : Nat} {l : List Oper} {rest : Code} {Q : Exit → Act → World → Prop} {R : St → Prop} {k : FuncId} {xs : Array Operand} {ts : Array TypeId} {od : Oper} (m : Nat) (hN : zjn X.N l = true) (hm : List.range l.length = List.range m ++ [m]) (ho : l[m]? = some od) (hop : od.op = .defer { callee := .value (.func k), args := xs, argTypes := ts }) (hdst : od.dst = none) (hgd : od.guard = none)
    (hr : X.rd = none) (hg : Go P l.toArray X R (fun _ _ => true) (List.range m) [] S)
    (h : ∀ S' a w, R S' → Sim X S' a w → rest.wp P Q { a with defers := { target := .fn (.func k) #[], args := xs.map a.eval } :: a.defers } w) : Aw2 P X (.seq (.region id l.toArray false) rest) Q S := fun a w hs => wp_seq (by
  have key : ∀ n, (Code.region id l.toArray false).wpIn (FX X) n P (Exit.then (rest.wp P Q) Q) a w := fun n => wpIn_region (by
    have e : List.range l.toArray.size = List.range m ++ [m] := by simpa using hm
    rw [e]
    refine zho (Q := R) (fun S' a' w' hR hS' => ?_) (zm7 hN) (List.range m) [] S a w hg hs
    rw [wpOpsIn_cons]
    unfold wpOpIn
    have ho' : l.toArray[m]? = some od := by simpa using ho
    simp only [ho']
    have hwt : Region.wanted od (yielded l.toArray a'.tmps) = true := by unfold Region.wanted; rw [hgd]
    simp only [hwt, if_true]
    refine ⟨fun f _ => trivial, ?_⟩
    have hx : FX X = Fence.wide := zgx hr
    rw [hx]
    show od.uponIn _ _ _ _ _ _ ((od.semAt none a'.eval).run P w')
    rw [Oper.semAt_none]
    have hex : (execOp a'.eval od).run P w' = .ok (.defer { target := .fn (.func k) #[], args := xs.map a'.eval }) w' := by
      simp [execOp, hop, resolve, Deferred.ofValue, Act.eval]
    rw [hex, Oper.uponIn_defer, hdst]
    exact h S' a' w' hR hS')
  have := key 0
  rw [zgx hr] at this
  exact wpIn_wide.1 this)
end Go.Proofs.YtmkjfeamgknpfaaGreatDoor.Ax
namespace Go.Proofs.YtmkjfeamgknpfaaGreatDoor.LjE
open Go.RowKit Bv VaSpec Base MemL RegR Ax MemC PutC MemC3 TzC OkS SpA SpB SpC SpF SpH SpI SpJ LaA LaB LaC LaD LaE LaF LaG LiA LiB LiC LiD LiE LiF LjD
open BitsC PteSpec
set_option maxRecDepth 10000
set_option maxHeartbeats 1000000
section
variable {P : Program}
theorem zoq {k : FuncId} (hk : zcl P k = true) (args : Array Value) (w : World) : (invoke (.fn (.func k) #[]) args).run P w = .ok (.enter k args) w := by
  unfold zcl at hk
  split at hk
  · rename_i fn hf
    simp only [Bool.and_eq_true, Bool.not_eq_true'] at hk
    obtain ⟨h1, h2⟩ := hk
    have h2 : ¬ fn.name = "runtime.NumGoroutine" := by simpa using h2
    have h3 : ¬ fn.body = none := fun e => by rw [e] at h1; cases h1
    simp [invoke, callFunc, hf, h2, h3, mark]
  · cases hk
theorem z0h {G : World → Prop} {fn : Func} {bs bs1 : List Ln} {r r1 : AV} {N : Nat} {A : Nat → Prop} {W : World} {τ : Nat → Value} {hG : ∀ w, Kept (fun g => g < W.heap.size ∧ ¬ zm3 τ bs g) W w → G w} {k : FuncId} {vals : Array Value} {args : List Cm} {S' : St} {τe : Nat → Value} {a' : Act} {w' : World}
    (s : SimT (zyg N W A G τ bs hG [{ target := .fn (.func k) #[], args := vals }]) S' τe a' w') (nm : Nat → Nat) (hk : zcl P k = true) (hc : zh4 P G k bs1 args r1) (hb : ∀ p ∈ bs1, S'.hp (nm p.1) = .live (.box p.2.1)) (hin : zzu nm bs1 = true) (hok : args.all zn1 = true)
    (hR : All2 (Cm.R (env (zyg N W A G τ bs hG [{ target := .fn (.func k) #[], args := vals }]) S'.hp τe w')) (args.map (rnM nm)) vals.toList)
    (hcl : (zco r && bs.all (fun p => p.2.1.all zbl && p.2.2.all zbl)) = true) (hres : zea N fn.results.toList = true) (hr : za6 P fn (S'.app none ⟨r1, upB nm bs1, []⟩) = some r) (hE : EndB (S'.app none ⟨r1, upB nm bs1, []⟩) bs) : bodyPostD P fn (ztl W A τ bs r) .normal a' w' := by
  simp only [Bool.and_eq_true, List.all_eq_true] at hcl
  obtain ⟨hcr, hcb⟩ := hcl
  have hcb : ∀ p ∈ bs, p.2.1.all zbl = true ∧ p.2.2.all zbl = true := fun p hp => by
    have := hcb p hp
    exact ⟨List.all_eq_true.2 this.1, List.all_eq_true.2 this.2⟩
  show Leaves P fn a'.tmps _ a'.defers .returning w'
  rw [show a'.defers = [{ target := .fn (.func k) #[], args := vals }] from s.nodef]
  refine leaves_cons (by simp) (zoq hk vals w') ?_
  refine ((zop (d := none) (rd := []) s hc hb hin hok hR) .returning).mono ?_
  rintro e u w2 ⟨rfl, v, rfl, s2⟩
  exact finW hcr hcb hres s2 hr hE
end
def prC (sz cd cp addr : Int) (p : List (Int × Int) × Int) : List Ce := [cu sz, .s p.1.length 2 (fl p.1), cu cd, ci cp, cu p.2, cu addr]
section
variable {cd cp sz f sh : Int} {xs : List (Int × Int)} {lv : Int → Int}
theorem zvk (h : TI cd cp sz xs f sh lv) (hn : xs.length ≤ 100000) (t l addr : Int) (q : Pte) (ha : U addr) (ht : cd ≤ t ∧ t < cd + cp) (l0 : 0 ≤ l) (l2 : l ≤ 2) (hg : cd ≤ q.ppn ∧ q.ppn < cd + cp) (R : List (Int × Int) × Int)
    (hR : R = if ze2 xs q.ppn = true then (zbw sz (TableC.za7 xs q.ppn) t (idx addr l) zP, TableC2.zdn cd cp f q.ppn) else (xs, f)) :
    zh4 Tryz.prog GG 165 [(2000, prC sz cd cp addr (xs, f), prC sz cd cp addr R)] [.c (.p 2000 0), .ag (zb9 t l q)] (.tu []) := by
  have b1 := h.bd
  have b2 := h.bp
  have he := zq0 h hg
  have hb := zr6 sz xs cd cp f q.ppn ⟨by omega, by omega⟩ (by omega) h.uf ⟨by omega, by omega⟩ h.s (by omega)
  have hwl := zdo xs q.ppn
  have hwu : Uw (TableC.za7 xs q.ppn) := fun c hc => h.u c (zeu hc)
  have hw := zeb sz (TableC.za7 xs q.ppn) t l q addr ⟨false, false, false, false, false, false, false, false, 0, 0, 0⟩ ha z0q l0 l2 ⟨by omega, by omega⟩ (zcy _ h.s) hwu (by omega)
  have hw : Ok 54 [zbz sz (TableC.za7 xs q.ppn), .ag (zb9 t l q), iu addr, .ag (⟨false, false, false, false, false, false, false, false, 0, 0, 0⟩ : Pte).ce] (.m (zbz sz (zbw sz (TableC.za7 xs q.ppn) t (idx addr l) zP))) := hw
  cases c : ze2 xs q.ppn with
  | true =>
    rw [c] at he
    rw [c, if_pos rfl] at hR
    subst hR
    generalize zbw sz (TableC.za7 xs q.ppn) t (idx addr l) zP = ys at *
    generalize TableC.za7 xs q.ppn = zs at *
    generalize TableC2.zdn cd cp f q.ppn = f2 at *
    refine zi6 47 Tryz.func165 rfl rfl rfl rfl rfl ?_
    intro W A τ hG
    repeat (first | (refine zai rfl ?_; first | refine gdr (zaa (.inl rfl) rfl) ?_ | refine gnk 1 rfl (za2 tb rfl rfl rfl rfl rfl) ?_ | refine gnx 1 rfl (zba tb rfl rfl rfl) rfl ?_ | refine gdr (zan rfl rfl rfl rfl) ?_ | refine gdr (zag rfl rfl rfl rfl rfl rfl) ?_ | refine gnk 1 rfl (zbg rfl rfl rfl rfl rfl rfl rfl) ?_ | refine gdr (zar rfl rfl rfl rfl) ?_ | refine gdr (zdq rfl rfl rfl rfl) ?_ | refine gdr (zab rfl rfl rfl (he) (by kernel_rfl)) ?_ | refine gdr (zab rfl rfl rfl (hb) (by kernel_rfl)) ?_ | refine gdr (zab rfl rfl rfl (hw) (by kernel_rfl)) ?_) | (refine hK _ ?_; clear hK K) | refine zad rfl ?_ | refine za3 (by kernel_rfl) (by kernel_rfl) rfl ?_ | refine zal rfl rfl ?_ | refine zac (fun K hK => ?_))
    exact ⟨by kernel_rfl, ⟨_, rfl, rfl⟩, trivial⟩
  | false =>
    rw [c] at he
    rw [c, if_neg (by simp)] at hR
    subst hR
    refine zi6 47 Tryz.func165 rfl rfl rfl rfl rfl ?_
    intro W A τ hG
    repeat (first | (refine zai rfl ?_; first | refine gdr (zaa (.inl rfl) rfl) ?_ | refine gnk 1 rfl (za2 tb rfl rfl rfl rfl rfl) ?_ | refine gnx 1 rfl (zba tb rfl rfl rfl) rfl ?_ | refine gdr (zag rfl rfl rfl rfl rfl rfl) ?_ | refine gdr (zdq rfl rfl rfl rfl) ?_ | refine gdr (zab rfl rfl rfl (he) (by kernel_rfl)) ?_) | (refine hK _ ?_; clear hK K) | refine zad rfl ?_ | refine za3 (by kernel_rfl) (by kernel_rfl) rfl ?_ | refine zaj rfl rfl ?_ | refine zaq ?_ | refine zac (fun K hK => ?_))
    exact ⟨by kernel_rfl, ⟨_, rfl, rfl⟩, trivial⟩
def z0i (t m addr : Int) (sz cd cp : Int) (q : Pte) (p : List (Int × Int) × Int) : St := St.of [(0, .m (.c (.p 2000 0))), (1, .m (iu t)), (2, .m (ii (m + 1))), (6, .m (.c (.p 6 0))), (29, .m (.c (.p 2000 0))), (30, .m (.ag (zb9 t (m + 1) q)))] [(6, .live (.box (zb9 t (m + 1) q))), (2000, .live (.box (prC sz cd cp addr p)))]
theorem zyh (addr : Int) (ha : U addr) (h : TI cd cp sz xs f sh lv) (hn : xs.length ≤ 100000) : ∀ (l : Nat) (t : Int), l ≤ 2 → Al cd cp f t → lv t = l → (2 ≤ l → idx addr 2 ≠ 511) →
    zck Tryz.prog GG 123 [(2000, prC sz cd cp addr (xs, f), prC sz cd cp addr (prN sz cd cp addr l t (xs, f)))] [.c (.p 2000 0), iu t, ii l] (.tu []) := by
  intro l
  induction l with
  | zero =>
    intro t h2 ht hl hH
    have b1 := h.bd
    have b2 := h.bp
    have bt := ht.1
    have hr := zfv sz xs t 0 addr 0 ⟨by omega, by omega⟩ ha (by omega) (by omega) (by omega) h.s h.u
    rw [show zcg sz xs addr 0 0 t = (t, 0) from rfl] at hr
    have hr : Ok 41 [zbz sz xs, iu t, ii 0, iu addr, ii 0] (.m (.ag (zb9 t 0 (atM sz xs t (idx addr 0))))) := hr
    have hU := zji h.u sz t (idx addr 0)
    have hk := zft (atM sz xs t (idx addr 0))
    have hbd := zg3 (atM sz xs t (idx addr 0)) hU 0 (by omega) (by omega)
    rw [show prN sz cd cp addr 0 t (xs, f) = (xs, f) from rfl]
    generalize atM sz xs t (idx addr 0) = q at *
    cases c : zb7 q with
    | false =>
      rw [c] at hk
      refine zcd 38 Tryz.func123 rfl rfl rfl rfl rfl ?_
      intro W A τ hG
      repeat (first | (refine zai rfl ?_; first | refine gdr (zaw rfl) ?_ | refine gdr (zaa (.inl rfl) rfl) ?_ | refine gnk 1 rfl (za2 tb rfl rfl rfl rfl rfl) ?_ | refine gnx 1 rfl (zba tb rfl rfl rfl) rfl ?_ | refine gdr (zak rfl rfl rfl) ?_ | refine gdr (zae rfl rfl rfl rfl rfl) ?_ | refine gnk 1 rfl (zbg rfl rfl rfl rfl rfl rfl rfl) ?_ | refine gdr (zau rfl rfl rfl) ?_ | refine gdr (zdq rfl rfl rfl rfl) ?_ | refine gdr (zab rfl rfl rfl (hr) (by kernel_rfl)) ?_ | refine gdr (zab rfl rfl rfl (hk) (by kernel_rfl)) ?_) | (refine hK _ ?_; clear hK K) | refine zad rfl ?_ | refine za3 (by kernel_rfl) (by kernel_rfl) rfl ?_ | refine zal rfl rfl ?_ | refine zac (fun K hK => ?_) | refine zao (show za6 _ _ _ = some _ ∧ EndB _ _ from ⟨by kernel_rfl, ?_⟩))
      exact ⟨⟨_, rfl, rfl⟩, trivial⟩
    | true =>
      rw [c] at hk
      have hb2 : ze5 q 0 = true := by unfold ze5; rw [c]; simp
      rw [hb2] at hbd
      refine zcd 38 Tryz.func123 rfl rfl rfl rfl rfl ?_
      intro W A τ hG
      repeat (first | (refine zai rfl ?_; first | refine gdr (zaa (.inl rfl) rfl) ?_ | refine gnk 1 rfl (za2 tb rfl rfl rfl rfl rfl) ?_ | refine gnx 1 rfl (zba tb rfl rfl rfl) rfl ?_ | refine gdr (zak rfl rfl rfl) ?_ | refine gdr (zae rfl rfl rfl rfl rfl) ?_ | refine gnk 1 rfl (zbg rfl rfl rfl rfl rfl rfl rfl) ?_ | refine gdr (zau rfl rfl rfl) ?_ | refine gdr (zdq rfl rfl rfl rfl) ?_ | refine gdr (zab rfl rfl rfl (hr) (by kernel_rfl)) ?_ | refine gdr (zab rfl rfl rfl (hk) (by kernel_rfl)) ?_ | refine gdr (zab rfl rfl rfl (hbd) (by kernel_rfl)) ?_) | (refine hK _ ?_; clear hK K) | refine zad rfl ?_ | refine za3 (by kernel_rfl) (by kernel_rfl) rfl ?_ | refine zal rfl rfl ?_ | refine zac (fun K hK => ?_) | refine zao (show za6 _ _ _ = some _ ∧ EndB _ _ from ⟨by kernel_rfl, ?_⟩))
      exact ⟨⟨_, rfl, rfl⟩, trivial⟩
  | succ m IH =>
    intro t h2 ht hl hH
    have b1 := h.bd
    have b2 := h.bp
    have bt := ht.1
    have hi := idx_bd addr ((m + 1 : Nat) : Int)
    have hr := zfv sz xs t ((m + 1 : Nat) : Int) addr ((m + 1 : Nat) : Int) ⟨by omega, by omega⟩ ha (by omega) (by omega) (by omega) h.s h.u
    rw [show zcg sz xs addr ((m + 1 : Nat) : Int) ((m + 1 : Nat) : Int) t = (t, ((m + 1 : Nat) : Int)) from ziv (by omega) (fun hh => by omega) (by omega)] at hr
    have hr : Ok 41 [zbz sz xs, iu t, ii ((m + 1 : Nat) : Int), iu addr, ii ((m + 1 : Nat) : Int)] (.m (.ag (zb9 t ((m + 1 : Nat) : Int) (atM sz xs t (idx addr ((m + 1 : Nat) : Int)))))) := hr
    have hU := zji h.u sz t (idx addr ((m + 1 : Nat) : Int))
    have hk := zft (atM sz xs t (idx addr ((m + 1 : Nat) : Int)))
    have hbd := zg3 (atM sz xs t (idx addr ((m + 1 : Nat) : Int))) hU ((m + 1 : Nat) : Int) (by omega) (by omega)
    cases c : zbt (atM sz xs t (idx addr ((m + 1 : Nat) : Int))) ((m + 1 : Nat) : Int) with
    | false =>
      have hnk : zb7 (atM sz xs t (idx addr ((m + 1 : Nat) : Int))) = false := by
        rcases h.e.k t _ hi with e | ⟨_, _, ⟨e, _⟩ | ⟨e, _⟩⟩
        · rw [e]; rfl
        · exact (zcv e).1
        · rw [zgt e (by omega)] at c; cases c
      rw [hnk] at hk
      have hpr : prN sz cd cp addr (m + 1) t (xs, f) = (xs, f) := by unfold prN; rw [c]; rfl
      rw [hpr]
      generalize atM sz xs t (idx addr ((m + 1 : Nat) : Int)) = q at *
      refine zcd 38 Tryz.func123 rfl rfl rfl rfl rfl ?_
      intro W A τ hG
      repeat (first | (refine zai rfl ?_; first | refine gdr (zaw rfl) ?_ | refine gdr (zaa (.inl rfl) rfl) ?_ | refine gnk 1 rfl (za2 tb rfl rfl rfl rfl rfl) ?_ | refine gnx 1 rfl (zba tb rfl rfl rfl) rfl ?_ | refine gdr (zak rfl rfl rfl) ?_ | refine gdr (zae rfl rfl rfl rfl rfl) ?_ | refine gnk 1 rfl (zbg rfl rfl rfl rfl rfl rfl rfl) ?_ | refine gdr (zau rfl rfl rfl) ?_ | refine gdr (zdq rfl rfl rfl rfl) ?_ | refine gdr (zab rfl rfl rfl (hr) (by kernel_rfl)) ?_ | refine gdr (zab rfl rfl rfl (hk) (by kernel_rfl)) ?_) | (refine hK _ ?_; clear hK K) | refine zad rfl ?_ | refine za3 (by kernel_rfl) (by kernel_rfl) rfl ?_ | refine zal rfl rfl ?_ | refine zac (fun K hK => ?_) | refine zao (show za6 _ _ _ = some _ ∧ EndB _ _ from ⟨by kernel_rfl, ?_⟩))
      exact ⟨⟨_, rfl, rfl⟩, trivial⟩
    | true =>
      obtain ⟨k1, k2, k3, k4, k5⟩ := zu4 h hi c
      have hls : lv (atM sz xs t (idx addr ((m + 1 : Nat) : Int))).ppn = (m : Int) := by rw [k4, hl]; omega
      have hIH := IH _ (by omega) k5 hls (fun hh => by omega)
      have P := zk8 addr h m _ (by omega) k5 hls (fun hh => by omega)
      have hbw := zvk P.t (Nat.le_trans P.n hn) t ((m + 1 : Nat) : Int) addr (atM sz xs t (idx addr ((m + 1 : Nat) : Int))) ha bt (by omega) (by omega) k5.1 _ rfl
      have hpr : prN sz cd cp addr (m + 1) t (xs, f) = if ze2 (prN sz cd cp addr m (atM sz xs t (idx addr ((m + 1 : Nat) : Int))).ppn (xs, f)).1 (atM sz xs t (idx addr ((m + 1 : Nat) : Int))).ppn = true then (zbw sz (TableC.za7 (prN sz cd cp addr m (atM sz xs t (idx addr ((m + 1 : Nat) : Int))).ppn (xs, f)).1 (atM sz xs t (idx addr ((m + 1 : Nat) : Int))).ppn) t (idx addr ((m + 1 : Nat) : Int)) zP, TableC2.zdn cd cp (prN sz cd cp addr m (atM sz xs t (idx addr ((m + 1 : Nat) : Int))).ppn (xs, f)).2 (atM sz xs t (idx addr ((m + 1 : Nat) : Int))).ppn) else ((prN sz cd cp addr m (atM sz xs t (idx addr ((m + 1 : Nat) : Int))).ppn (xs, f)).1, (prN sz cd cp addr m (atM sz xs t (idx addr ((m + 1 : Nat) : Int))).ppn (xs, f)).2) := by
        conv => lhs; unfold prN
        rw [if_pos (show zbt (atM sz (xs, f).1 t (idx addr ((m + 1 : Nat) : Int))) ((m + 1 : Nat) : Int) = true from c)]
      rw [← hpr] at hbw
      rw [(zgd k1).1] at hk
      have hnb : ze5 (atM sz xs t (idx addr ((m + 1 : Nat) : Int))) ((m + 1 : Nat) : Int) = false := by
        unfold zbt at c
        simp only [Bool.and_eq_true, Bool.not_eq_true'] at c
        exact c.2
      rw [hnb] at hbd
      clear hpr P IH
      generalize prN sz cd cp addr (m + 1) t (xs, f) = p2 at *
      generalize prN sz cd cp addr m (atM sz xs t (idx addr ((m + 1 : Nat) : Int))).ppn (xs, f) = p1 at *
      generalize atM sz xs t (idx addr ((m + 1 : Nat) : Int)) = q at *
      have hIH : zck Tryz.prog GG 123 [(2000, prC sz cd cp addr (xs, f), prC sz cd cp addr p1)] [.c (.p 2000 0), iu q.ppn, ii (((m + 1 : Nat) : Int) - 1)] (.tu []) := by
        rw [show ((m + 1 : Nat) : Int) - 1 = (m : Int) by omega]; exact hIH
      have hcast : ((m + 1 : Nat) : Int) = (m : Int) + 1 := by omega
      rw [hcast] at hr hbd hIH hbw ⊢
      refine zoo 38 Tryz.func123 rfl rfl rfl rfl ?_
      intro W A τ hG
      refine zct (fun K hK => ?_)
      repeat (first | (refine zai rfl ?_; first | refine gdr (zaa (.inl rfl) rfl) ?_ | refine gnk 1 rfl (za2 tb rfl rfl rfl rfl rfl) ?_ | refine gnx 1 rfl (zba tb rfl rfl rfl) rfl ?_ | refine gdr (zae rfl rfl rfl rfl rfl) ?_ | refine gnk 1 rfl (zbg rfl rfl rfl rfl rfl rfl rfl) ?_ | refine gdr (zdq rfl rfl rfl rfl) ?_ | refine gdr (zab rfl rfl rfl (hr) (by kernel_rfl)) ?_) | (refine hK _ ?_; clear hK K) | refine za3 (by kernel_rfl) (by kernel_rfl) rfl ?_)
      refine zct (fun K hK => ?_)
      repeat (first | (refine zai rfl ?_; first | refine gdr (zaa (.inl rfl) rfl) ?_ | refine gnk 1 rfl (za2 tb rfl rfl rfl rfl rfl) ?_ | refine gnx 1 rfl (zba tb rfl rfl rfl) rfl ?_ | refine gdr (zak rfl rfl rfl) ?_ | refine gdr (zau rfl rfl rfl) ?_ | refine gdr (zab rfl rfl rfl (hk) (by kernel_rfl)) ?_ | refine gdr (zab rfl rfl rfl (hbd) (by kernel_rfl)) ?_) | (refine hK _ ?_; clear hK K) | refine zad rfl ?_ | refine zaj rfl rfl ?_ | refine zaq ?_ | refine zac (fun K hK => ?_))
      refine ztm (R := fun S' => Sub (cxW 38 W A GG τ _ hG) S' (z0i t m addr sz cd cp q (xs, f))) 2 (by rfl) (by rfl) (by rfl) (by rfl) (by rfl) (by rfl) (by rfl) ?_ ?_
      · skip
        repeat (first | (refine zai rfl ?_; first | refine gdr (zaa (.inl rfl) rfl) ?_ | refine gnk 1 rfl (za2 tb rfl rfl rfl rfl rfl) ?_))
        exact zas _ _ ⟨by kernel_rfl, by kernel_rfl, by kernel_rfl, by kernel_rfl, by kernel_rfl, by kernel_rfl, trivial⟩ ⟨by kernel_rfl, by kernel_rfl, trivial⟩ (by kernel_rfl)
      intro S' a w hsub hS'
      obtain ⟨τe, s⟩ := hsub a w hS'
      have hnd : a.defers = [] := s.nodef
      have e29 : Cm.R _ (.c (.p 2000 0)) (a.tmps.getD 29 undef) := s.tm 29 (by show 29 < 38; decide)
      have e30 : Cm.R _ (.ag (zb9 t ((m : Int) + 1) q)) (a.tmps.getD 30 undef) := s.tm 30 (by show 30 < 38; decide)
      have ep := (s.pin (2000, τ 2000) (by simp [cxW])).2
      have hdf : ({ target := .fn (.func 165) #[], args := #[Operand.tmp 29, Operand.tmp 30].map a.eval } : Deferred) = { target := .fn (.func 165) #[], args := #[a.tmps.getD 29 undef, a.tmps.getD 30 undef] } := by simp [Act.eval]
      rw [hdf, hnd]
      generalize a.tmps.getD 29 undef = v29 at *
      generalize a.tmps.getD 30 undef = v30 at *
      have s' : SimT (zyg 38 W A GG τ _ hG [{ target := .fn (.func 165) #[], args := #[v29, v30] }]) (z0i t m addr sz cd cp q (xs, f)) τe { a with defers := [{ target := .fn (.func 165) #[], args := #[v29, v30] }] } w := ⟨s.size, rfl, s.bel, s.tm, s.hp, s.own, s.sep, s.one, s.pin⟩
      refine wp_mono (zqq (Q := fun e S'' => e = .normal ∧ Sub (zyg 38 W A GG τ _ hG [{ target := .fn (.func 165) #[], args := #[v29, v30] }]) S'' (St.of [] [(2000, .live (.box (prC sz cd cp addr p1)))])) rfl ?_ ⟨τe, s'⟩) ?_
      · skip
        repeat (first | (refine zai rfl ?_; first | refine gdr (zaa (.inl rfl) rfl) ?_ | refine gnk 1 rfl (za2 tb rfl rfl rfl rfl rfl) ?_ | refine gnx 1 rfl (zba tb rfl rfl rfl) rfl ?_ | refine gdr (gar rfl rfl rfl rfl) ?_ | refine gdr (zhm (fun _ => 2000) hIH rfl rfl (by kernel_rfl) rfl ⟨rfl, trivial⟩ (by kernel_rfl)) ?_) | refine zad rfl ?_)
        exact ⟨rfl, zas _ _ trivial ⟨by kernel_rfl, trivial⟩ (by kernel_rfl)⟩
      intro e a2 w2 ⟨S2, ⟨he, hs2⟩, hS2⟩
      subst he
      obtain ⟨τ2, t2⟩ := hs2 a2 w2 hS2
      have ep2 := (t2.pin (2000, τ 2000) (by simp [zyg, cxW])).2
      have hin2 := (t2.pin (2000, τ 2000) (by simp [zyg, cxW])).1
      refine z0h t2 (fun _ => 2000) (by kernel_rfl) hbw (by intro p hp; simp at hp; subst hp; rfl) (by kernel_rfl) (by kernel_rfl) ?_ (by kernel_rfl) (by kernel_rfl) (by kernel_rfl) ⟨⟨_, rfl, rfl⟩, trivial⟩
      obtain ⟨_, g, i1, i2⟩ := e29
      exact ⟨⟨hin2, g, by rw [← i1]; exact ep2.trans ep.symm, i2⟩, zt3 _ _ (by kernel_rfl) e30, trivial⟩
end
end Go.Proofs.YtmkjfeamgknpfaaGreatDoor.LjE
namespace Go.Proofs.YtmkjfeamgknpfaaGreatDoor.LkB
open Go.RowKit Bv VaSpec Base MemL RegR Ax MemC PutC MemC3 TzC OkS SpA SpB SpC SpF SpH SpI SpJ LaA LaB LaC LaD LaE LaF LaG LiA LiB LiC LiD LiE LiF SpL SpN SpO RfA RfB RfC RfD RlA RlB LjB LkA
open BitsC PteSpec
set_option maxRecDepth 10000
set_option maxHeartbeats 1000000
section
variable {cd cp sz f sh : Int} {xs : List (Int × Int)} {lv : Int → Int}
end
end Go.Proofs.YtmkjfeamgknpfaaGreatDoor.LkB
namespace Go.Proofs.YtmkjfeamgknpfaaGreatDoor.LkC
open Go.RowKit Bv VaSpec Base MemL RegR Ax MemC PutC MemC3 TzC OkS SpA SpB SpC SpF SpH SpI SpJ LaA LaB LaC LaD LaE LaF LaG LiA LiB LiC LiD LiE LiF SpG SpL SpN SpO RfA RfB RfC RfD RlA RlB LjB LkA LkB
open BitsC PteSpec
set_option maxRecDepth 10000
set_option maxHeartbeats 1000000
end Go.Proofs.YtmkjfeamgknpfaaGreatDoor.LkC
namespace Go.Proofs.YtmkjfeamgknpfaaGreatDoor.LkD
open Go.RowKit Bv VaSpec Base MemL RegR Ax MemC PutC MemC3 TzC OkS SpA SpB SpC SpF SpH SpI SpJ LaA LaB LaC LaD LaE LaF LaG LiA LiB LiC LiD LiE LiF SpL SpN SpO RfA RfB RfC RfD RlA RlB LjB LjC LkA LkB LkC
open BitsC PteSpec
set_option maxRecDepth 10000
set_option maxHeartbeats 1000000
end Go.Proofs.YtmkjfeamgknpfaaGreatDoor.LkD
namespace Go.Proofs.YtmkjfeamgknpfaaGreatDoor.LjA
open Go.RowKit Bv VaSpec Base MemL RegR Ax MemC PutC MemC3 TzC OkS SpA SpB SpC SpD SpE SpF SpG SpH SpI SpJ SpK SpN SpO RfA RfB RfC RfD RlA RlB LaA LaB LaC LaD LaE LaF LaG LaH LiA LiB LiC LiD LiE LiF
open BitsC PteSpec
set_option maxRecDepth 10000
set_option maxHeartbeats 1000000
theorem zvl (a : Int) : Ok 45 [iu a] (.m (.ag [cb true, cu a, cb false, cu 0])) := by
  refine zaf 5 Tryz.func45 rfl rfl rfl rfl ?_ GG.to
  intro W A hG
  repeat (first | (refine zai rfl ?_; first | refine gdr (zaa (.inl rfl) rfl) ?_ | refine gdr (zae rfl rfl rfl rfl rfl) ?_ | refine gnk 1 rfl (zbg rfl rfl rfl rfl rfl rfl rfl) ?_ | refine gdr (zar rfl rfl rfl rfl) ?_) | (refine hK _ ?_; clear hK K) | refine zad rfl ?_ | exact zao (show za6 _ _ _ = some _ by kernel_rfl) | refine zac (fun K hK => ?_))
theorem z0j (n a : Int) : Ok 47 [iu n, iu a] (.m (.ag [cb true, cu a, cb true, cu n])) := by
  refine zaf 8 Tryz.func47 rfl rfl rfl rfl ?_ GG.to
  intro W A hG
  repeat (first | (refine zai rfl ?_; first | refine gdr (zaa (.inl rfl) rfl) ?_ | refine gdr (zae rfl rfl rfl rfl rfl) ?_ | refine gnk 1 rfl (zbg rfl rfl rfl rfl rfl rfl rfl) ?_ | refine gdr (zar rfl rfl rfl rfl) ?_) | (refine hK _ ?_; clear hK K) | refine zad rfl ?_ | exact zao (show za6 _ _ _ = some _ by kernel_rfl) | refine zac (fun K hK => ?_))
theorem zyi (n a : Int) : zck Tryz.prog GG 46 [spB 2000 [cu n]] [iu a, .c (.p 2000 0)] (.m (.ag [cb true, cu a, cb true, cu n])) := by
  refine zcd 7 Tryz.func46 rfl rfl rfl rfl rfl ?_
  intro W A τ hG
  repeat (first | (refine zai rfl ?_; first | refine gdr (zaa (.inl rfl) rfl) ?_ | refine gnk 1 rfl (za2 tb rfl rfl rfl rfl rfl) ?_ | refine gdr (zae rfl rfl rfl rfl rfl) ?_ | refine gnk 1 rfl (zbg rfl rfl rfl rfl rfl rfl rfl) ?_ | refine gdr (zab rfl rfl rfl (z0j n a) rfl) ?_) | (refine hK _ ?_; clear hK K) | refine zad rfl ?_ | refine zac (fun K hK => ?_) | refine zao (show za6 _ _ _ = some _ ∧ EndB _ _ from ⟨by kernel_rfl, ?_⟩))
  exact ⟨⟨_, rfl, rfl⟩, trivial⟩
theorem zwi {a l : Int} (ha : U a) (l0 : 0 ≤ l) (l2 : l ≤ 2) : U (VaSpec.base a l) := by
  obtain ⟨a0, a1⟩ := ha
  unfold VaSpec.base
  rcases (by omega : l = 0 ∨ l = 1 ∨ l = 2) with rfl | rfl | rfl
  · simp only [show VaSpec.sz 0 = 4096 from rfl]; exact ⟨by omega, by omega⟩
  · simp only [show VaSpec.sz 1 = 2097152 from rfl]; exact ⟨by omega, by omega⟩
  · simp only [show VaSpec.sz 2 = 1073741824 from rfl]; exact ⟨by omega, by omega⟩
theorem zm1 (sz : Int) (xs : List (Int × Int)) (t l : Int) (q : Pte) (a : Int) (ha : U a) (hs : Srt xs) (hu : Uw xs) (hq : 0 ≤ q.ppn ∧ q.ppn < 17592186044416) (l0 : 0 ≤ l) (l2 : l ≤ 2) (hl : zb7 q = true → 1 ≤ l) :
    Ok 40 [zbz sz xs, .ag (zb9 t l q), iu a] (.m (.c (.s (zb8 sz xs l q (VaSpec.base a l)).length 8 (flP (zb8 sz xs l q (VaSpec.base a l)))))) := by
  have hbU : U (VaSpec.base a l) := zwi ha l0 l2
  have h1 := zhx q
  have h2 := zft q
  have h3 := zpe q
  have h5 := zkn a l ha l0 l2
  cases hlf : zb3 q with
  | true =>
    have e : zb8 sz xs l q (VaSpec.base a l) = [⟨VaSpec.base a l, q.ppn * 4096, l, q.r, q.w, q.x, q.u, q.d⟩] := by unfold zb8; rw [hlf]; rfl
    rw [e, zsm]
    rw [hlf] at h1
    refine zaf 45 Tryz.func40 rfl rfl rfl rfl ?_ GG.to
    intro W A hG
    repeat (first | (refine zai rfl ?_; first | refine gdr (zaa (.inl rfl) rfl) ?_ | refine gnk 1 rfl (za2 tb rfl rfl rfl rfl rfl) ?_ | refine gnx 1 rfl (zba tb rfl rfl rfl) rfl ?_ | refine gdr (zaa (.inr rfl) rfl) ?_ | refine gdr (gar rfl rfl rfl rfl) ?_ | refine gdr (zag rfl rfl rfl rfl rfl rfl) ?_ | refine gdr (zar rfl rfl rfl rfl) ?_ | refine gdr (zaz rfl rfl rfl rfl rfl rfl rfl rfl rfl rfl rfl) ?_ | refine gdr (zab rfl rfl rfl (h1) (by kernel_rfl)) ?_ | refine gdr (zab rfl rfl rfl (h3) (by kernel_rfl)) ?_ | refine gdr (zab rfl rfl rfl (h5) (by kernel_rfl)) ?_) | (refine hK _ ?_; clear hK K) | refine zad rfl ?_ | refine za3 (by kernel_rfl) (by kernel_rfl) rfl ?_ | exact zao (show za6 _ _ _ = some _ by kernel_rfl) | refine zal rfl rfl ?_ | refine zam ?_ | refine zac (fun K hK => ?_))
  | false =>
    rw [hlf] at h1
    cases hlk : zb7 q with
    | true =>
      rw [hlk] at h2
      have e : zb8 sz xs l q (VaSpec.base a l) = ze1 sz xs (l - 1).toNat q.ppn (VaSpec.base a l) := by unfold zb8; rw [hlf, hlk]; rfl
      rw [e]
      rcases (by have := hl hlk; omega : l = 1 ∨ l = 2) with rfl | rfl
      · have h4 := zsx sz xs hs hu q.ppn (VaSpec.base a 1) hq hbU
        rw [show ((1 : Int) - 1).toNat = 0 by decide]
        refine zaf 45 Tryz.func40 rfl rfl rfl rfl ?_ GG.to
        intro W A hG
        repeat (first | (refine zai rfl ?_; first | refine gdr (zaa (.inl rfl) rfl) ?_ | refine gnk 1 rfl (za2 tb rfl rfl rfl rfl rfl) ?_ | refine gnx 1 rfl (zba tb rfl rfl rfl) rfl ?_ | refine gdr (zaa (.inr rfl) rfl) ?_ | refine gdr (gar rfl rfl rfl rfl) ?_ | refine gdr (zag rfl rfl rfl rfl rfl rfl) ?_ | refine gdr (zab rfl rfl rfl (h1) (by kernel_rfl)) ?_ | refine gdr (zab rfl rfl rfl (h2) (by kernel_rfl)) ?_ | refine gdr (zab rfl rfl rfl (h4) (by kernel_rfl)) ?_ | refine gdr (zab rfl rfl rfl (h5) (by kernel_rfl)) ?_) | (refine hK _ ?_; clear hK K) | refine zad rfl ?_ | refine za3 (by kernel_rfl) (by kernel_rfl) rfl ?_ | exact zao (show za6 _ _ _ = some _ by kernel_rfl) | refine zal rfl rfl ?_ | refine zaj rfl rfl ?_ | refine zam ?_ | refine zac (fun K hK => ?_))
      · have h4 := zx2 sz xs hs hu q.ppn (VaSpec.base a 2) hq hbU
        rw [show ((2 : Int) - 1).toNat = 1 by decide]
        refine zaf 45 Tryz.func40 rfl rfl rfl rfl ?_ GG.to
        intro W A hG
        repeat (first | (refine zai rfl ?_; first | refine gdr (zaa (.inl rfl) rfl) ?_ | refine gnk 1 rfl (za2 tb rfl rfl rfl rfl rfl) ?_ | refine gnx 1 rfl (zba tb rfl rfl rfl) rfl ?_ | refine gdr (zaa (.inr rfl) rfl) ?_ | refine gdr (gar rfl rfl rfl rfl) ?_ | refine gdr (zag rfl rfl rfl rfl rfl rfl) ?_ | refine gdr (zab rfl rfl rfl (h1) (by kernel_rfl)) ?_ | refine gdr (zab rfl rfl rfl (h2) (by kernel_rfl)) ?_ | refine gdr (zab rfl rfl rfl (h4) (by kernel_rfl)) ?_ | refine gdr (zab rfl rfl rfl (h5) (by kernel_rfl)) ?_) | (refine hK _ ?_; clear hK K) | refine zad rfl ?_ | refine za3 (by kernel_rfl) (by kernel_rfl) rfl ?_ | exact zao (show za6 _ _ _ = some _ by kernel_rfl) | refine zal rfl rfl ?_ | refine zaj rfl rfl ?_ | refine zam ?_ | refine zac (fun K hK => ?_))
    | false =>
      rw [hlk] at h2
      have e : zb8 sz xs l q (VaSpec.base a l) = [] := by unfold zb8; rw [hlf, hlk]; rfl
      rw [e]
      refine zfl (r := .m (.c (.v (.slice none 0 0)))) ?_ rfl (zsz 8)
      refine zaf 45 Tryz.func40 rfl rfl rfl rfl ?_ GG.to
      intro W A hG
      repeat (first | (refine zai rfl ?_; first | refine gnk 1 rfl (za2 tb rfl rfl rfl rfl rfl) ?_ | refine gnx 1 rfl (zba tb rfl rfl rfl) rfl ?_ | refine gdr (zaa (.inr rfl) rfl) ?_ | refine gdr (zag rfl rfl rfl rfl rfl rfl) ?_ | refine gdr (zab rfl rfl rfl (h1) (by kernel_rfl)) ?_ | refine gdr (zab rfl rfl rfl (h2) (by kernel_rfl)) ?_) | (refine hK _ ?_; clear hK K) | refine zad rfl ?_ | exact zao (show za6 _ _ _ = some _ by kernel_rfl) | refine zaj rfl rfl ?_ | refine zam ?_ | refine zaq ?_ | refine zac (fun K hK => ?_))
theorem zyj {n : Nat} {k : Kr} {id a l : Int} (h : InvT n k) (he : (za1 k id a l).2.2 = 0) : ∃ (l' : Nat) (t' : Int), zcg k.sz k.m a l (za1 k id a l).2.1 (za1 k id a l).1 = (t', (l' : Int)) ∧ l' ≤ 2 ∧ l ≤ (l' : Int) ∧ Al k.cd k.cp k.pf t' ∧ (zb7 (atM k.sz k.m t' (idx a (l' : Int))) = true → 1 ≤ (l' : Int)) := by
  obtain ⟨lv, hT, hs, hr⟩ := h.t
  obtain ⟨w1, w2, w3, w4⟩ := zdb (id := id) (a := a) (l := l) h.l he
  obtain ⟨z1, _⟩ := h.top (id := id) (a := a) (l := l) he hs hr
  generalize za1 k id a l = w at *
  obtain ⟨l', t', i1, i2, i3, i4, i5, i6, _⟩ := zf0 hT a l w1.1 w.2.1.toNat w.1 w2 (by omega) (by omega)
  refine ⟨l', t', i1, by omega, i3, i4, fun hlk => ?_⟩
  rcases hT.e.k t' _ (idx_bd a (l' : Int)) with e | ⟨_, _, ⟨e, _⟩ | ⟨_, e, _⟩⟩
  · rw [e] at hlk; cases hlk
  · rw [(zcv e).1] at hlk; cases hlk
  · omega
theorem zpx {n : Nat} {k : Kr} (h : InvT n k) (hn : n ≤ 90000) (id a l : Int) (ha : U a) : Ok 15 [.ag k.ce, ii id, iu a, ii l] (.m (.c (.s (inR k id a l).length 8 (flP (inR k id a l))))) := by
  have hw := zk3 k id a l ha
  unfold inR
  by_cases c0 : (za1 k id a l).2.2 = 0
  rotate_left
  · rw [if_pos c0]
    generalize za1 k id a l = w at *
    refine zfl (r := .m (.c (.v (.slice none 0 0)))) ?_ rfl (zsz 8)
    refine zaf 34 Tryz.func15 rfl rfl rfl rfl ?_ GG.to
    intro W A hG
    repeat (first | (refine zai rfl ?_; first | refine gdr (zaa (.inl rfl) rfl) ?_ | refine gnk 1 rfl (za2 tb rfl rfl rfl rfl rfl) ?_ | refine gdr (zaa (.inr rfl) rfl) ?_ | refine gdr (zan rfl rfl rfl rfl) ?_ | refine gdr (za5 rfl rfl rfl rfl) ?_ | refine gdr (zag rfl rfl rfl rfl rfl rfl) ?_ | refine gdr (zab rfl rfl rfl (hw) (by kernel_rfl)) ?_) | (refine hK _ ?_; clear hK K) | refine zad rfl ?_ | exact zao (show za6 _ _ _ = some _ by kernel_rfl) | refine zal rfl rfl ?_ | refine zac (fun K hK => ?_))
  rw [if_neg (by omega)]
  obtain ⟨w1, w2, w3, w4⟩ := zdb (id := id) (a := a) (l := l) h.l c0
  obtain ⟨l', t', e1, e2, e3, e4, e5⟩ := zyj (id := id) (a := a) (l := l) h c0
  rw [c0] at hw
  have b1 := h.l.g.bd
  have b2 := h.l.g.bp
  have f1 := w2.1
  have hre := zfv k.sz k.m (za1 k id a l).1 (za1 k id a l).2.1 a l ⟨by omega, by omega⟩ ha (by omega) (by omega) w1.1 h.l.g.s h.l.g.u
  rw [e1] at hre ⊢
  have hre : Ok 41 [zbz k.sz k.m, iu (za1 k id a l).1, ii (za1 k id a l).2.1, iu a, ii l] (.m (.ag (zb9 t' (l' : Int) (atM k.sz k.m t' (idx a (l' : Int)))))) := hre
  have hun := zm1 k.sz k.m t' (l' : Int) (atM k.sz k.m t' (idx a (l' : Int))) a ha h.l.g.s h.l.g.u (zfh ..) (by omega) (by omega) e5
  show Ok _ _ (.m (.c (.s (zb8 k.sz k.m (l' : Int) (atM k.sz k.m t' (idx a (l' : Int))) (VaSpec.base a (l' : Int))).length 8 (flP (zb8 k.sz k.m (l' : Int) (atM k.sz k.m t' (idx a (l' : Int))) (VaSpec.base a (l' : Int)))))))
  generalize zb8 k.sz k.m (l' : Int) (atM k.sz k.m t' (idx a (l' : Int))) (VaSpec.base a (l' : Int)) = U0 at *
  generalize atM k.sz k.m t' (idx a (l' : Int)) = q at *
  generalize (za1 k id a l).1 = top at *
  generalize (za1 k id a l).2.1 = lv at *
  refine zaf 34 Tryz.func15 rfl rfl rfl rfl ?_ GG.to
  intro W A hG
  repeat (first | (refine zai rfl ?_; first | refine gdr (zaa (.inl rfl) rfl) ?_ | refine gnk 1 rfl (za2 tb rfl rfl rfl rfl rfl) ?_ | refine gnx 1 rfl (zba tb rfl rfl rfl) rfl ?_ | refine gdr (zaa (.inr rfl) rfl) ?_ | refine gdr (zan rfl rfl rfl rfl) ?_ | refine gdr (za5 rfl rfl rfl rfl) ?_ | refine gdr (zag rfl rfl rfl rfl rfl rfl) ?_ | refine gdr (zab rfl rfl rfl (hw) (by kernel_rfl)) ?_ | refine gdr (zab rfl rfl rfl (hre) (by kernel_rfl)) ?_ | refine gdr (zab rfl rfl rfl (hun) (by kernel_rfl)) ?_) | (refine hK _ ?_; clear hK K) | refine zad rfl ?_ | refine za3 (by kernel_rfl) (by kernel_rfl) rfl ?_ | exact zao (show za6 _ _ _ = some _ by kernel_rfl) | refine zaj rfl rfl ?_ | refine zaq ?_ | refine zac (fun K hK => ?_))
def zyk (k : Kr) (id n : Int) (l : List Pg) (i m : Nat) (vs : List Value) : St := St.of [(6, .m (.c (.v (.slice none 0 0)))), (7, .m (.c (.v (.func (.func 45) #[] #[])))), (10, .m (.c (.o 1000))), (30, .m (.c (.s l.length 8 (flP l)))), (31, .m (ii l.length)), (32, .m (ii i))] [(1000, .live (.row 80 4 m vs))]
theorem ztn (k : Kr) (id : Int) (l : List Pg) (hid : id = -1) (hl : l.length ≤ 134217728) : Ok 17 [.ag k.ce, ii id, .c (.s l.length 8 (flP l))] (.m (.c (.s (zd1 k id l).length 4 (flF (zd1 k id l))))) := by
  by_cases c : 16 < l.length
  · have e : zd1 k id l = [⟨false, 0, false, 0⟩] := by unfold zd1 zqz; rw [if_pos c, if_pos hid]
    rw [e]
    refine zaf 45 Tryz.func17 rfl rfl rfl rfl ?_ GG.to
    intro W A hG
    repeat (first | (refine zai rfl ?_; first | refine gdr (zaa (.inl rfl) rfl) ?_ | refine gnk 1 rfl (za2 tb rfl rfl rfl rfl rfl) ?_ | refine gdr (zaa (.inr rfl) rfl) ?_ | refine gdr (za5 rfl rfl rfl rfl) ?_ | refine gdr (zag rfl rfl rfl rfl rfl rfl) ?_ | refine gdr (zae rfl rfl rfl rfl rfl) ?_ | refine gnk 1 rfl (zbg rfl rfl rfl rfl rfl rfl rfl) ?_ | refine gdr (zah rfl rfl rfl rfl) ?_ | refine gdr (zar rfl rfl rfl rfl) ?_ | refine gdr (zaz rfl rfl rfl rfl rfl rfl rfl rfl rfl rfl rfl) ?_) | (refine hK _ ?_; clear hK K) | refine zad rfl ?_ | exact zao (show za6 _ _ _ = some _ by kernel_rfl) | refine zal rfl rfl ?_ | refine zaj rfl rfl ?_ | refine zaq ?_ | refine zac (fun K hK => ?_))
  · have e : zd1 k id l = l.map (zbp id (zb5 k id).asid) := by unfold zd1; rw [if_neg c]
    rw [e]
    obtain ⟨N, hN⟩ : ∃ N, N = (l.map (zbp id (zb5 k id).asid)).length := ⟨_, rfl⟩
    obtain ⟨XS, hXS⟩ : ∃ XS, XS = flF (l.map (zbp id (zb5 k id).asid)) := ⟨_, rfl⟩
    rw [← hN, ← hXS]
    refine zaf 45 Tryz.func17 rfl rfl rfl rfl ?_ GG.to
    intro W A hG
    repeat (first | (refine zai rfl ?_; first | refine gdr (zaa (.inl rfl) rfl) ?_ | refine gdr (zaa (.inr rfl) rfl) ?_ | refine gdr (za5 rfl rfl rfl rfl) ?_ | refine gdr (zag rfl rfl rfl rfl rfl rfl) ?_ | refine gdr (zae rfl rfl rfl rfl rfl) ?_ | refine gnk 1 rfl (zbg rfl rfl rfl rfl rfl rfl rfl) ?_ | refine gdr (zah rfl rfl rfl rfl) ?_ | refine gdr (zar rfl rfl rfl rfl) ?_) | (refine hK _ ?_; clear hK K) | refine zad rfl ?_ | refine zaj rfl rfl ?_ | refine zam ?_ | refine zaq ?_ | refine zac (fun K hK => ?_))
    refine zbb (α := Nat × Nat × List Value) (fun q => q.1 ≤ l.length ∧ q.2.1 = ((l.take q.1).map (zbp id (zb5 k id).asid)).length ∧ q.2.2 = flF ((l.take q.1).map (zbp id (zb5 k id).asid))) (fun q => zyk k id (zb5 k id).asid l q.1 q.2.1 q.2.2) (fun q => l.length - q.1) (0, 0, []) ⟨Nat.zero_le _, rfl, rfl⟩ (Sub.trans (zfg 10 1000 80 4 rfl rfl) (zas _ _ ⟨by kernel_rfl, by kernel_rfl, by kernel_rfl, by kernel_rfl, by kernel_rfl, by kernel_rfl, trivial⟩ ⟨by kernel_rfl, trivial⟩ (by kernel_rfl))) ?_
    rintro ⟨i, m, vs⟩ ⟨x1, x2, x3⟩
    have g1 : i ≤ l.length := x1
    have g2 : m = ((l.take i).map (zbp id (zb5 k id).asid)).length := x2
    have g3 : vs = flF ((l.take i).map (zbp id (zb5 k id).asid)) := x3
    show Aw _ _ _ _ (zyk k id (zb5 k id).asid l i m vs)
    unfold zyk
    by_cases hlt : i < l.length
    · obtain ⟨p, hp⟩ : ∃ p, l[i]? = some p := ⟨_, List.getElem?_eq_getElem hlt⟩
      have hx : ((flP l).drop (i * 8)).take 8 = [.int .u64 p.va, .int .u64 p.pa, .int .i64 p.lev, .bool p.r, .bool p.w, .bool p.x, .bool p.u, .bool p.d] := zpv hp
      have hm : m ≤ i := by rw [g2, List.length_map, List.length_take]; omega
      have et : (l.take (i + 1)).map (zbp id (zb5 k id).asid) = (l.take i).map (zbp id (zb5 k id).asid) ++ [(⟨true, p.va, false, 0⟩ : Fe)] := by
        rw [List.take_add_one, hp, List.map_append]
        show _ ++ [zbp id (zb5 k id).asid p] = _
        unfold zbp
        rw [if_pos hid]
      have hn1 : m + 1 = ((l.take (i + 1)).map (zbp id (zb5 k id).asid)).length := by rw [et, List.length_append, ← g2]; rfl
      have hv1 : vs ++ ((⟨true, p.va, false, 0⟩ : Fe)).vs = flF ((l.take (i + 1)).map (zbp id (zb5 k id).asid)) := by
        rw [et, g3]
        unfold flF
        rw [List.flatMap_append]
        simp
      clear g2 g3 x2 x3 hN hXS
      repeat (first | (refine zai rfl ?_; first | refine gdr (zaa (.inl rfl) rfl) ?_ | refine gnk 1 rfl (za2 tb rfl rfl rfl rfl rfl) ?_ | refine gnx 1 rfl (zba tb rfl rfl rfl) rfl ?_ | refine gdr (za5 rfl rfl rfl rfl) ?_ | refine gdr (zae rfl rfl rfl rfl rfl) ?_ | refine gnk 1 rfl (zbg rfl rfl rfl rfl rfl rfl rfl) ?_ | refine gnx 3 rfl (zav tb rfl rfl rfl rfl (by first | kernel_rfl | rfl)) rfl ?_ | refine gnx 4 rfl (zay rfl rfl rfl rfl rfl rfl (by omega) (by omega) _ (by assumption)) rfl ?_ | refine gdr (zaz rfl rfl rfl rfl rfl rfl rfl rfl rfl rfl rfl) ?_ | refine gdr (zfa rfl rfl rfl rfl (zvl p.va) rfl) ?_) | (refine hK _ ?_; clear hK K) | refine zad rfl ?_ | refine zal rfl rfl ?_ | refine zam ?_ | refine zaq ?_ | refine zac (fun K hK => ?_))
      refine zai rfl ?_
      refine zgz (zbh rfl rfl rfl rfl rfl rfl rfl rfl rfl rfl rfl rfl rfl (by omega)) (by kernel_rfl) ?_
      repeat (first | (refine zai rfl ?_; first | refine gdr (zaa (.inl rfl) rfl) ?_ | refine gdr (zaa (.inr rfl) rfl) ?_ | refine gdr (gar rfl rfl rfl rfl) ?_) | (refine hK _ ?_; clear hK K) | refine zad rfl ?_)
      exact ⟨(i + 1, m + 1, vs ++ ((⟨true, p.va, false, 0⟩ : Fe)).vs), ⟨by show i + 1 ≤ l.length; omega, hn1, hv1⟩, by show l.length - (i + 1) < l.length - i; omega, Sub.trans (zas [(6, .m (.c (.v (.slice none 0 0)))), (7, .m (.c (.v (.func (.func 45) #[] #[])))), (10, .m (.c (.o 42))), (30, .m (.c (.s l.length 8 (flP l)))), (31, .m (ii l.length)), (32, .m (ii ((i + 1 : Nat) : Int)))] [(42, .live (.row 80 4 (m + 1) (vs ++ (⟨true, p.va, false, 0⟩ : Fe).vs)))] ⟨by kernel_rfl, by kernel_rfl, by kernel_rfl, by kernel_rfl, by kernel_rfl, by kernel_rfl, trivial⟩ ⟨by kernel_rfl, trivial⟩ (by kernel_rfl)) (Sub.trans (zdj (b := 42) (b' := 1000) rfl rfl) (zas _ _ ⟨by kernel_rfl, by kernel_rfl, by kernel_rfl, by kernel_rfl, by kernel_rfl, by kernel_rfl, trivial⟩ ⟨by kernel_rfl, trivial⟩ (by kernel_rfl)))⟩
    · have ei : i = l.length := by omega
      rw [ei, List.take_length] at g2 g3
      obtain rfl : N = m := by rw [hN, g2]
      obtain rfl : XS = vs := by rw [hXS, g3]
      repeat (first | (refine zai rfl ?_; first | refine gdr (zaa (.inl rfl) rfl) ?_ | refine gdr (zaa (.inr rfl) rfl) ?_ | refine gdr (za5 rfl rfl rfl rfl) ?_) | (refine hK _ ?_; clear hK K) | (rename_i K1 hK1; refine hK1 _ ?_; clear hK hK1; clear K) | refine zad rfl ?_ | exact zao (show za6 _ _ _ = some _ by kernel_rfl) | refine zaj rfl rfl ?_ | refine zbi ?_ | refine zac (fun K hK => ?_))
def zyl (k : Kr) (id n : Int) (l : List Pg) (i m : Nat) (vs : List Value) : St := St.of [(6, .m (.c (.v (.slice none 0 0)))), (7, .m (.c (.cl 46 [9]))), (10, .m (.c (.o 1000))), (30, .m (.c (.s l.length 8 (flP l)))), (31, .m (ii l.length)), (32, .m (ii i))] [(9, .live (.box [cu n])), (1000, .live (.row 80 4 m vs))]
theorem zor (k : Kr) (id : Int) (l : List Pg) (hid : id ≠ -1) (hlv : zb2 k id = true) (hl : l.length ≤ 134217728) : Ok 17 [.ag k.ce, ii id, .c (.s l.length 8 (flP l))] (.m (.c (.s (zd1 k id l).length 4 (flF (zd1 k id l))))) := by
  obtain ⟨y0, y1, y2, y3⟩ := zfy hlv
  have hxs := zpc y2
  by_cases c : 16 < l.length
  · have e : zd1 k id l = [⟨false, 0, true, (zb5 k id).asid⟩] := by unfold zd1 zqz; rw [if_pos c, if_neg hid]
    rw [e]
    refine zaf 45 Tryz.func17 rfl rfl rfl rfl ?_ GG.to
    intro W A hG
    repeat (first | (refine zai rfl ?_; first | refine gdr (zaa (.inl rfl) rfl) ?_ | refine gnk 1 rfl (za2 tb rfl rfl rfl rfl rfl) ?_ | refine gnx 1 rfl (zba tb rfl rfl rfl) rfl ?_ | refine gdr (zaa (.inr rfl) rfl) ?_ | refine gdr (za5 rfl rfl rfl rfl) ?_ | refine gdr (zag rfl rfl rfl rfl rfl rfl) ?_ | refine gdr (zae rfl rfl rfl rfl rfl) ?_ | refine gnk 1 rfl (zbg rfl rfl rfl rfl rfl rfl rfl) ?_ | refine gdr (zah rfl rfl rfl rfl) ?_ | refine gnx 3 rfl (zav tb rfl rfl rfl rfl (by first | kernel_rfl | rfl)) rfl ?_ | refine gnx 3 rfl (za9 tb rfl rfl rfl rfl) rfl ?_ | refine gdr (zar rfl rfl rfl rfl) ?_ | refine gnx 4 rfl (zay rfl rfl rfl rfl rfl rfl (by omega) (by omega) _ (by assumption)) rfl ?_ | refine gdr (zaz rfl rfl rfl rfl rfl rfl rfl rfl rfl rfl rfl) ?_ | refine gdr (zg5 rfl rfl rfl) ?_ | refine gdr (zab rfl rfl rfl (zko (zb5 k id).asid) (by kernel_rfl)) ?_) | (refine hK _ ?_; clear hK K) | refine zad rfl ?_ | exact zao (show za6 _ _ _ = some _ by kernel_rfl) | refine zal rfl rfl ?_ | refine zac (fun K hK => ?_))
  · have e : zd1 k id l = l.map (zbp id (zb5 k id).asid) := by unfold zd1; rw [if_neg c]
    rw [e]
    obtain ⟨N, hN⟩ : ∃ N, N = (l.map (zbp id (zb5 k id).asid)).length := ⟨_, rfl⟩
    obtain ⟨XS, hXS⟩ : ∃ XS, XS = flF (l.map (zbp id (zb5 k id).asid)) := ⟨_, rfl⟩
    rw [← hN, ← hXS]
    refine zaf 45 Tryz.func17 rfl rfl rfl rfl ?_ GG.to
    intro W A hG
    repeat (first | (refine zai rfl ?_; first | refine gdr (zaa (.inl rfl) rfl) ?_ | refine gnk 1 rfl (za2 tb rfl rfl rfl rfl rfl) ?_ | refine gnx 1 rfl (zba tb rfl rfl rfl) rfl ?_ | refine gdr (zaa (.inr rfl) rfl) ?_ | refine gdr (za5 rfl rfl rfl rfl) ?_ | refine gdr (zag rfl rfl rfl rfl rfl rfl) ?_ | refine gdr (zae rfl rfl rfl rfl rfl) ?_ | refine gnk 1 rfl (zbg rfl rfl rfl rfl rfl rfl rfl) ?_ | refine gdr (zah rfl rfl rfl rfl) ?_ | refine gnx 3 rfl (zav tb rfl rfl rfl rfl (by first | kernel_rfl | rfl)) rfl ?_ | refine gnx 3 rfl (za9 tb rfl rfl rfl rfl) rfl ?_ | refine gdr (zar rfl rfl rfl rfl) ?_ | refine gnx 4 rfl (zay rfl rfl rfl rfl rfl rfl (by omega) (by omega) _ (by assumption)) rfl ?_ | refine gdr (zg5 rfl rfl rfl) ?_ | refine gdr (zab rfl rfl rfl (zko (zb5 k id).asid) (by kernel_rfl)) ?_) | (refine hK _ ?_; clear hK K) | refine zad rfl ?_ | refine zal rfl rfl ?_ | refine zaj rfl rfl ?_ | refine zam ?_ | refine zaq ?_ | refine zac (fun K hK => ?_))
    refine zbb (α := Nat × Nat × List Value) (fun q => q.1 ≤ l.length ∧ q.2.1 = ((l.take q.1).map (zbp id (zb5 k id).asid)).length ∧ q.2.2 = flF ((l.take q.1).map (zbp id (zb5 k id).asid))) (fun q => zyl k id (zb5 k id).asid l q.1 q.2.1 q.2.2) (fun q => l.length - q.1) (0, 0, []) ⟨Nat.zero_le _, rfl, rfl⟩ (Sub.trans (zfg 10 1000 80 4 rfl rfl) (zas _ _ ⟨by kernel_rfl, by kernel_rfl, by kernel_rfl, by kernel_rfl, by kernel_rfl, by kernel_rfl, trivial⟩ ⟨by kernel_rfl, by kernel_rfl, trivial⟩ (by kernel_rfl))) ?_
    rintro ⟨i, m, vs⟩ ⟨x1, x2, x3⟩
    have g1 : i ≤ l.length := x1
    have g2 : m = ((l.take i).map (zbp id (zb5 k id).asid)).length := x2
    have g3 : vs = flF ((l.take i).map (zbp id (zb5 k id).asid)) := x3
    show Aw _ _ _ _ (zyl k id (zb5 k id).asid l i m vs)
    unfold zyl
    by_cases hlt : i < l.length
    · obtain ⟨p, hp⟩ : ∃ p, l[i]? = some p := ⟨_, List.getElem?_eq_getElem hlt⟩
      have hx : ((flP l).drop (i * 8)).take 8 = [.int .u64 p.va, .int .u64 p.pa, .int .i64 p.lev, .bool p.r, .bool p.w, .bool p.x, .bool p.u, .bool p.d] := zpv hp
      have hm : m ≤ i := by rw [g2, List.length_map, List.length_take]; omega
      have et : (l.take (i + 1)).map (zbp id (zb5 k id).asid) = (l.take i).map (zbp id (zb5 k id).asid) ++ [(⟨true, p.va, true, (zb5 k id).asid⟩ : Fe)] := by
        rw [List.take_add_one, hp, List.map_append]
        show _ ++ [zbp id (zb5 k id).asid p] = _
        unfold zbp
        rw [if_neg hid]
      have hn1 : m + 1 = ((l.take (i + 1)).map (zbp id (zb5 k id).asid)).length := by rw [et, List.length_append, ← g2]; rfl
      have hv1 : vs ++ ((⟨true, p.va, true, (zb5 k id).asid⟩ : Fe)).vs = flF ((l.take (i + 1)).map (zbp id (zb5 k id).asid)) := by
        rw [et, g3]
        unfold flF
        rw [List.flatMap_append]
        simp
      clear g2 g3 x2 x3 hN hXS
      repeat (first | (refine zai rfl ?_; first | refine gdr (zaa (.inl rfl) rfl) ?_ | refine gnk 1 rfl (za2 tb rfl rfl rfl rfl rfl) ?_ | refine gnx 1 rfl (zba tb rfl rfl rfl) rfl ?_ | refine gdr (za5 rfl rfl rfl rfl) ?_ | refine gdr (zae rfl rfl rfl rfl rfl) ?_ | refine gnk 1 rfl (zbg rfl rfl rfl rfl rfl rfl rfl) ?_ | refine gnx 3 rfl (zav tb rfl rfl rfl rfl (by first | kernel_rfl | rfl)) rfl ?_ | refine gnx 4 rfl (zay rfl rfl rfl rfl rfl rfl (by omega) (by omega) _ (by assumption)) rfl ?_ | refine gdr (zaz rfl rfl rfl rfl rfl rfl rfl rfl rfl rfl rfl) ?_ | refine gdr (zbs (fun _ => 9) (zyi (zb5 k id).asid p.va) rfl rfl rfl (by kernel_rfl) rfl rfl ⟨rfl, trivial⟩ (by kernel_rfl)) ?_) | (refine hK _ ?_; clear hK K) | refine zad rfl ?_ | refine zal rfl rfl ?_ | refine zam ?_ | refine zaq ?_ | refine zac (fun K hK => ?_))
      refine zai rfl ?_
      refine zgz (zbh rfl rfl rfl rfl rfl rfl rfl rfl rfl rfl rfl rfl rfl (by omega)) (by kernel_rfl) ?_
      repeat (first | (refine zai rfl ?_; first | refine gdr (zaa (.inl rfl) rfl) ?_ | refine gdr (zaa (.inr rfl) rfl) ?_ | refine gdr (gar rfl rfl rfl rfl) ?_) | (refine hK _ ?_; clear hK K) | refine zad rfl ?_)
      exact ⟨(i + 1, m + 1, vs ++ ((⟨true, p.va, true, (zb5 k id).asid⟩ : Fe)).vs), ⟨by show i + 1 ≤ l.length; omega, hn1, hv1⟩, by show l.length - (i + 1) < l.length - i; omega, Sub.trans (zas [(6, .m (.c (.v (.slice none 0 0)))), (7, .m (.c (.cl 46 [9]))), (10, .m (.c (.o 42))), (30, .m (.c (.s l.length 8 (flP l)))), (31, .m (ii l.length)), (32, .m (ii ((i + 1 : Nat) : Int)))] [(9, .live (.box [cu (zb5 k id).asid])), (42, .live (.row 80 4 (m + 1) (vs ++ (⟨true, p.va, true, (zb5 k id).asid⟩ : Fe).vs)))] ⟨by kernel_rfl, by kernel_rfl, by kernel_rfl, by kernel_rfl, by kernel_rfl, by kernel_rfl, trivial⟩ ⟨by kernel_rfl, by kernel_rfl, trivial⟩ (by kernel_rfl)) (Sub.trans (zdj (b := 42) (b' := 1000) rfl rfl) (zas _ _ ⟨by kernel_rfl, by kernel_rfl, by kernel_rfl, by kernel_rfl, by kernel_rfl, by kernel_rfl, trivial⟩ ⟨by kernel_rfl, by kernel_rfl, trivial⟩ (by kernel_rfl)))⟩
    · have ei : i = l.length := by omega
      rw [ei, List.take_length] at g2 g3
      obtain rfl : N = m := by rw [hN, g2]
      obtain rfl : XS = vs := by rw [hXS, g3]
      repeat (first | (refine zai rfl ?_; first | refine gdr (zaa (.inl rfl) rfl) ?_ | refine gdr (zaa (.inr rfl) rfl) ?_ | refine gdr (za5 rfl rfl rfl rfl) ?_) | (refine hK _ ?_; clear hK K) | (rename_i K1 hK1; refine hK1 _ ?_; clear hK hK1; clear K) | refine zad rfl ?_ | exact zao (show za6 _ _ _ = some _ by kernel_rfl) | refine zaj rfl rfl ?_ | refine zbi ?_ | refine zac (fun K hK => ?_))
def zym (k : Kr) (id n : Int) (l : List Pg) (i m : Nat) (vs : List Value) : St := St.of [(1, .m (ii id)), (2, .m (.c (.s l.length 8 (flP l)))), (3, .m (.c (.p 3 0))), (6, .m (.c (.v (.slice none 0 0)))), (7, .m (.c (.o 1000))), (8, .m (ii i))] [(3, .live (.box k.ce)), (1000, .live (.row 80 4 m vs))]
theorem zyn (k : Kr) (id : Int) (l : List Pg) (hid : id = -1) (hl : l.length ≤ 134217728) : Ok 19 [.ag k.ce, ii id, .c (.s l.length 8 (flP l))] (.m (.c (.s (zd1 k id l).length 4 (flF (zd1 k id l))))) := by
  by_cases c : 16 < l.length
  · have e : zd1 k id l = [⟨false, 0, false, 0⟩] := by unfold zd1 zqz; rw [if_pos c, if_pos hid]
    rw [e]
    refine zaf 57 Tryz.func19 rfl rfl rfl rfl ?_ GG.to
    intro W A hG
    repeat (first | (refine zai rfl ?_; first | refine gdr (zaa (.inl rfl) rfl) ?_ | refine gdr (zaa (.inr rfl) rfl) ?_ | refine gdr (zak rfl rfl rfl) ?_ | refine gdr (za5 rfl rfl rfl rfl) ?_ | refine gdr (zag rfl rfl rfl rfl rfl rfl) ?_ | refine gdr (zah rfl rfl rfl rfl) ?_ | refine gdr (zar rfl rfl rfl rfl) ?_ | refine gdr (zaz rfl rfl rfl rfl rfl rfl rfl rfl rfl rfl rfl) ?_) | (refine hK _ ?_; clear hK K) | refine zad rfl ?_ | exact zao (show za6 _ _ _ = some _ by kernel_rfl) | refine zal rfl rfl ?_ | refine zac (fun K hK => ?_))
  · have e : zd1 k id l = l.map (zbp id (zb5 k id).asid) := by unfold zd1; rw [if_neg c]
    rw [e]
    obtain ⟨N, hN⟩ : ∃ N, N = (l.map (zbp id (zb5 k id).asid)).length := ⟨_, rfl⟩
    obtain ⟨XS, hXS⟩ : ∃ XS, XS = flF (l.map (zbp id (zb5 k id).asid)) := ⟨_, rfl⟩
    rw [← hN, ← hXS]
    refine zaf 57 Tryz.func19 rfl rfl rfl rfl ?_ GG.to
    intro W A hG
    repeat (first | (refine zai rfl ?_; first | refine gdr (zaw rfl) ?_ | refine gdr (zaa (.inl rfl) rfl) ?_ | refine gdr (zaa (.inr rfl) rfl) ?_ | refine gdr (zak rfl rfl rfl) ?_ | refine gdr (za5 rfl rfl rfl rfl) ?_ | refine gdr (zag rfl rfl rfl rfl rfl rfl) ?_ | refine gdr (zah rfl rfl rfl rfl) ?_) | (refine hK _ ?_; clear hK K) | refine zad rfl ?_ | refine zaj rfl rfl ?_ | refine zam ?_ | refine zaq ?_ | refine zac (fun K hK => ?_))
    refine zbb (α := Nat × Nat × List Value) (fun q => q.1 ≤ l.length ∧ q.2.1 = ((l.take q.1).map (zbp id (zb5 k id).asid)).length ∧ q.2.2 = flF ((l.take q.1).map (zbp id (zb5 k id).asid))) (fun q => zym k id (zb5 k id).asid l q.1 q.2.1 q.2.2) (fun q => l.length - q.1) (0, 0, []) ⟨Nat.zero_le _, rfl, rfl⟩ (Sub.trans (zfg 7 1000 80 4 rfl rfl) (zas _ _ ⟨by kernel_rfl, by kernel_rfl, by kernel_rfl, by kernel_rfl, by kernel_rfl, by kernel_rfl, trivial⟩ ⟨by kernel_rfl, by kernel_rfl, trivial⟩ (by kernel_rfl))) ?_
    rintro ⟨i, m, vs⟩ ⟨x1, x2, x3⟩
    have g1 : i ≤ l.length := x1
    have g2 : m = ((l.take i).map (zbp id (zb5 k id).asid)).length := x2
    have g3 : vs = flF ((l.take i).map (zbp id (zb5 k id).asid)) := x3
    show Aw _ _ _ _ (zym k id (zb5 k id).asid l i m vs)
    unfold zym
    by_cases hlt : i < l.length
    · obtain ⟨p, hp⟩ : ∃ p, l[i]? = some p := ⟨_, List.getElem?_eq_getElem hlt⟩
      have hx : ((flP l).drop (i * 8)).take 8 = [.int .u64 p.va, .int .u64 p.pa, .int .i64 p.lev, .bool p.r, .bool p.w, .bool p.x, .bool p.u, .bool p.d] := zpv hp
      have hm : m ≤ i := by rw [g2, List.length_map, List.length_take]; omega
      have et : (l.take (i + 1)).map (zbp id (zb5 k id).asid) = (l.take i).map (zbp id (zb5 k id).asid) ++ [(⟨true, p.va, false, 0⟩ : Fe)] := by
        rw [List.take_add_one, hp, List.map_append]
        show _ ++ [zbp id (zb5 k id).asid p] = _
        unfold zbp
        rw [if_pos hid]
      have hn1 : m + 1 = ((l.take (i + 1)).map (zbp id (zb5 k id).asid)).length := by rw [et, List.length_append, ← g2]; rfl
      have hv1 : vs ++ ((⟨true, p.va, false, 0⟩ : Fe)).vs = flF ((l.take (i + 1)).map (zbp id (zb5 k id).asid)) := by
        rw [et, g3]
        unfold flF
        rw [List.flatMap_append]
        simp
      clear g2 g3 x2 x3 hN hXS
      repeat (first | (refine zai rfl ?_; first | refine gdr (zaa (.inl rfl) rfl) ?_ | refine gnk 1 rfl (za2 tb rfl rfl rfl rfl rfl) ?_ | refine gdr (za5 rfl rfl rfl rfl) ?_ | refine gdr (zae rfl rfl rfl rfl rfl) ?_ | refine gnk 1 rfl (zbg rfl rfl rfl rfl rfl rfl rfl) ?_ | refine gdr (zah rfl rfl rfl rfl) ?_ | refine gnx 3 rfl (zav tb rfl rfl rfl rfl (by first | kernel_rfl | rfl)) rfl ?_ | refine gnx 3 rfl (za9 tb rfl rfl rfl rfl) rfl ?_ | refine gdr (zar rfl rfl rfl rfl) ?_ | refine gnx 4 rfl (zay rfl rfl rfl rfl rfl rfl (by omega) (by omega) _ (by assumption)) rfl ?_ | refine gdr (zaz rfl rfl rfl rfl rfl rfl rfl rfl rfl rfl rfl) ?_) | (refine hK _ ?_; clear hK K) | refine zad rfl ?_ | refine zal rfl rfl ?_ | refine zaj rfl rfl ?_ | refine zam ?_ | refine zaq ?_ | refine zac (fun K hK => ?_))
      refine zai rfl ?_
      refine zgz (zbh rfl rfl rfl rfl rfl rfl rfl rfl rfl rfl rfl rfl rfl (by omega)) (by kernel_rfl) ?_
      repeat (first | (refine zai rfl ?_; first | refine gdr (zaa (.inl rfl) rfl) ?_ | refine gdr (zaa (.inr rfl) rfl) ?_ | refine gdr (gar rfl rfl rfl rfl) ?_) | (refine hK _ ?_; clear hK K) | refine zad rfl ?_)
      exact ⟨(i + 1, m + 1, vs ++ ((⟨true, p.va, false, 0⟩ : Fe)).vs), ⟨by show i + 1 ≤ l.length; omega, hn1, hv1⟩, by show l.length - (i + 1) < l.length - i; omega, Sub.trans (zas [(1, .m (ii id)), (2, .m (.c (.s l.length 8 (flP l)))), (3, .m (.c (.p 3 0))), (6, .m (.c (.v (.slice none 0 0)))), (7, .m (.c (.o 55))), (8, .m (ii ((i + 1 : Nat) : Int)))] [(3, .live (.box k.ce)), (55, .live (.row 80 4 (m + 1) (vs ++ (⟨true, p.va, false, 0⟩ : Fe).vs)))] ⟨by kernel_rfl, by kernel_rfl, by kernel_rfl, by kernel_rfl, by kernel_rfl, by kernel_rfl, trivial⟩ ⟨by kernel_rfl, by kernel_rfl, trivial⟩ (by kernel_rfl)) (Sub.trans (zdj (b := 55) (b' := 1000) rfl rfl) (zas _ _ ⟨by kernel_rfl, by kernel_rfl, by kernel_rfl, by kernel_rfl, by kernel_rfl, by kernel_rfl, trivial⟩ ⟨by kernel_rfl, by kernel_rfl, trivial⟩ (by kernel_rfl)))⟩
    · have ei : i = l.length := by omega
      rw [ei, List.take_length] at g2 g3
      obtain rfl : N = m := by rw [hN, g2]
      obtain rfl : XS = vs := by rw [hXS, g3]
      repeat (first | (refine zai rfl ?_; first | refine gdr (zaa (.inl rfl) rfl) ?_ | refine gdr (zaa (.inr rfl) rfl) ?_ | refine gdr (za5 rfl rfl rfl rfl) ?_ | refine gdr (zah rfl rfl rfl rfl) ?_) | (refine hK _ ?_; clear hK K) | (rename_i K1 hK1; refine hK1 _ ?_; clear hK hK1; clear K) | refine zad rfl ?_ | exact zao (show za6 _ _ _ = some _ by kernel_rfl) | refine zaj rfl rfl ?_ | refine zbi ?_ | refine zac (fun K hK => ?_))
def zyo (k : Kr) (id n : Int) (l : List Pg) (i m : Nat) (vs : List Value) : St := St.of [(1, .m (ii id)), (2, .m (.c (.s l.length 8 (flP l)))), (3, .m (.c (.p 3 0))), (6, .m (.c (.v (.slice none 0 0)))), (7, .m (.c (.o 1000))), (8, .m (ii i))] [(3, .live (.box k.ce)), (1000, .live (.row 80 4 m vs))]
theorem zyp (k : Kr) (id : Int) (l : List Pg) (hid : id ≠ -1) (hlv : zb2 k id = true) (hl : l.length ≤ 134217728) : Ok 19 [.ag k.ce, ii id, .c (.s l.length 8 (flP l))] (.m (.c (.s (zd1 k id l).length 4 (flF (zd1 k id l))))) := by
  obtain ⟨y0, y1, y2, y3⟩ := zfy hlv
  have hxs := zpc y2
  by_cases c : 16 < l.length
  · have e : zd1 k id l = [⟨false, 0, true, (zb5 k id).asid⟩] := by unfold zd1 zqz; rw [if_pos c, if_neg hid]
    rw [e]
    refine zaf 57 Tryz.func19 rfl rfl rfl rfl ?_ GG.to
    intro W A hG
    repeat (first | (refine zai rfl ?_; first | refine gdr (zaa (.inl rfl) rfl) ?_ | refine gnk 1 rfl (za2 tb rfl rfl rfl rfl rfl) ?_ | refine gnx 1 rfl (zba tb rfl rfl rfl) rfl ?_ | refine gdr (zaa (.inr rfl) rfl) ?_ | refine gdr (zak rfl rfl rfl) ?_ | refine gdr (za5 rfl rfl rfl rfl) ?_ | refine gdr (zag rfl rfl rfl rfl rfl rfl) ?_ | refine gdr (zah rfl rfl rfl rfl) ?_ | refine gnx 3 rfl (zav tb rfl rfl rfl rfl (by first | kernel_rfl | rfl)) rfl ?_ | refine gnx 3 rfl (za9 tb rfl rfl rfl rfl) rfl ?_ | refine gdr (zar rfl rfl rfl rfl) ?_ | refine gnx 4 rfl (zay rfl rfl rfl rfl rfl rfl (by omega) (by omega) _ (by assumption)) rfl ?_ | refine gdr (zaz rfl rfl rfl rfl rfl rfl rfl rfl rfl rfl rfl) ?_) | (refine hK _ ?_; clear hK K) | refine zad rfl ?_ | exact zao (show za6 _ _ _ = some _ by kernel_rfl) | refine zal rfl rfl ?_ | refine zaj rfl rfl ?_ | refine zaq ?_ | refine zac (fun K hK => ?_))
  · have e : zd1 k id l = l.map (zbp id (zb5 k id).asid) := by unfold zd1; rw [if_neg c]
    rw [e]
    obtain ⟨N, hN⟩ : ∃ N, N = (l.map (zbp id (zb5 k id).asid)).length := ⟨_, rfl⟩
    obtain ⟨XS, hXS⟩ : ∃ XS, XS = flF (l.map (zbp id (zb5 k id).asid)) := ⟨_, rfl⟩
    rw [← hN, ← hXS]
    refine zaf 57 Tryz.func19 rfl rfl rfl rfl ?_ GG.to
    intro W A hG
    repeat (first | (refine zai rfl ?_; first | refine gdr (zaw rfl) ?_ | refine gdr (zaa (.inl rfl) rfl) ?_ | refine gdr (zaa (.inr rfl) rfl) ?_ | refine gdr (zak rfl rfl rfl) ?_ | refine gdr (za5 rfl rfl rfl rfl) ?_ | refine gdr (zag rfl rfl rfl rfl rfl rfl) ?_ | refine gdr (zah rfl rfl rfl rfl) ?_) | (refine hK _ ?_; clear hK K) | refine zad rfl ?_ | refine zaj rfl rfl ?_ | refine zam ?_ | refine zaq ?_ | refine zac (fun K hK => ?_))
    refine zbb (α := Nat × Nat × List Value) (fun q => q.1 ≤ l.length ∧ q.2.1 = ((l.take q.1).map (zbp id (zb5 k id).asid)).length ∧ q.2.2 = flF ((l.take q.1).map (zbp id (zb5 k id).asid))) (fun q => zyo k id (zb5 k id).asid l q.1 q.2.1 q.2.2) (fun q => l.length - q.1) (0, 0, []) ⟨Nat.zero_le _, rfl, rfl⟩ (Sub.trans (zfg 7 1000 80 4 rfl rfl) (zas _ _ ⟨by kernel_rfl, by kernel_rfl, by kernel_rfl, by kernel_rfl, by kernel_rfl, by kernel_rfl, trivial⟩ ⟨by kernel_rfl, by kernel_rfl, trivial⟩ (by kernel_rfl))) ?_
    rintro ⟨i, m, vs⟩ ⟨x1, x2, x3⟩
    have g1 : i ≤ l.length := x1
    have g2 : m = ((l.take i).map (zbp id (zb5 k id).asid)).length := x2
    have g3 : vs = flF ((l.take i).map (zbp id (zb5 k id).asid)) := x3
    show Aw _ _ _ _ (zyo k id (zb5 k id).asid l i m vs)
    unfold zyo
    by_cases hlt : i < l.length
    · obtain ⟨p, hp⟩ : ∃ p, l[i]? = some p := ⟨_, List.getElem?_eq_getElem hlt⟩
      have hx : ((flP l).drop (i * 8)).take 8 = [.int .u64 p.va, .int .u64 p.pa, .int .i64 p.lev, .bool p.r, .bool p.w, .bool p.x, .bool p.u, .bool p.d] := zpv hp
      have hm : m ≤ i := by rw [g2, List.length_map, List.length_take]; omega
      have et : (l.take (i + 1)).map (zbp id (zb5 k id).asid) = (l.take i).map (zbp id (zb5 k id).asid) ++ [(⟨true, p.va, true, (zb5 k id).asid⟩ : Fe)] := by
        rw [List.take_add_one, hp, List.map_append]
        show _ ++ [zbp id (zb5 k id).asid p] = _
        unfold zbp
        rw [if_neg hid]
      have hn1 : m + 1 = ((l.take (i + 1)).map (zbp id (zb5 k id).asid)).length := by rw [et, List.length_append, ← g2]; rfl
      have hv1 : vs ++ ((⟨true, p.va, true, (zb5 k id).asid⟩ : Fe)).vs = flF ((l.take (i + 1)).map (zbp id (zb5 k id).asid)) := by
        rw [et, g3]
        unfold flF
        rw [List.flatMap_append]
        simp
      clear g2 g3 x2 x3 hN hXS
      repeat (first | (refine zai rfl ?_; first | refine gdr (zaa (.inl rfl) rfl) ?_ | refine gnk 1 rfl (za2 tb rfl rfl rfl rfl rfl) ?_ | refine gnx 1 rfl (zba tb rfl rfl rfl) rfl ?_ | refine gdr (za5 rfl rfl rfl rfl) ?_ | refine gdr (zae rfl rfl rfl rfl rfl) ?_ | refine gnk 1 rfl (zbg rfl rfl rfl rfl rfl rfl rfl) ?_ | refine gdr (zah rfl rfl rfl rfl) ?_ | refine gnx 3 rfl (zav tb rfl rfl rfl rfl (by first | kernel_rfl | rfl)) rfl ?_ | refine gnx 3 rfl (za9 tb rfl rfl rfl rfl) rfl ?_ | refine gdr (zar rfl rfl rfl rfl) ?_ | refine gnx 4 rfl (zay rfl rfl rfl rfl rfl rfl (by omega) (by omega) _ (by assumption)) rfl ?_ | refine gdr (zaz rfl rfl rfl rfl rfl rfl rfl rfl rfl rfl rfl) ?_) | (refine hK _ ?_; clear hK K) | refine zad rfl ?_ | refine zal rfl rfl ?_ | refine zam ?_ | refine zaq ?_ | refine zac (fun K hK => ?_))
      refine zai rfl ?_
      refine zgz (zbh rfl rfl rfl rfl rfl rfl rfl rfl rfl rfl rfl rfl rfl (by omega)) (by kernel_rfl) ?_
      repeat (first | (refine zai rfl ?_; first | refine gdr (zaa (.inl rfl) rfl) ?_ | refine gdr (zaa (.inr rfl) rfl) ?_ | refine gdr (gar rfl rfl rfl rfl) ?_) | (refine hK _ ?_; clear hK K) | refine zad rfl ?_)
      exact ⟨(i + 1, m + 1, vs ++ ((⟨true, p.va, true, (zb5 k id).asid⟩ : Fe)).vs), ⟨by show i + 1 ≤ l.length; omega, hn1, hv1⟩, by show l.length - (i + 1) < l.length - i; omega, Sub.trans (zas [(1, .m (ii id)), (2, .m (.c (.s l.length 8 (flP l)))), (3, .m (.c (.p 3 0))), (6, .m (.c (.v (.slice none 0 0)))), (7, .m (.c (.o 55))), (8, .m (ii ((i + 1 : Nat) : Int)))] [(3, .live (.box k.ce)), (55, .live (.row 80 4 (m + 1) (vs ++ (⟨true, p.va, true, (zb5 k id).asid⟩ : Fe).vs)))] ⟨by kernel_rfl, by kernel_rfl, by kernel_rfl, by kernel_rfl, by kernel_rfl, by kernel_rfl, trivial⟩ ⟨by kernel_rfl, by kernel_rfl, trivial⟩ (by kernel_rfl)) (Sub.trans (zdj (b := 55) (b' := 1000) rfl rfl) (zas _ _ ⟨by kernel_rfl, by kernel_rfl, by kernel_rfl, by kernel_rfl, by kernel_rfl, by kernel_rfl, trivial⟩ ⟨by kernel_rfl, by kernel_rfl, trivial⟩ (by kernel_rfl)))⟩
    · have ei : i = l.length := by omega
      rw [ei, List.take_length] at g2 g3
      obtain rfl : N = m := by rw [hN, g2]
      obtain rfl : XS = vs := by rw [hXS, g3]
      repeat (first | (refine zai rfl ?_; first | refine gdr (zaa (.inl rfl) rfl) ?_ | refine gdr (zaa (.inr rfl) rfl) ?_ | refine gdr (za5 rfl rfl rfl rfl) ?_ | refine gdr (zah rfl rfl rfl rfl) ?_) | (refine hK _ ?_; clear hK K) | (rename_i K1 hK1; refine hK1 _ ?_; clear hK hK1; clear K) | refine zad rfl ?_ | exact zao (show za6 _ _ _ = some _ by kernel_rfl) | refine zaj rfl rfl ?_ | refine zbi ?_ | refine zac (fun K hK => ?_))
end Go.Proofs.YtmkjfeamgknpfaaGreatDoor.LjA
namespace Go.Proofs.YtmkjfeamgknpfaaGreatDoor.LjF
open Go.RowKit Bv VaSpec Base MemL RegR Ax MemC PutC MemC3 TzC OkS SpA SpB SpC SpF SpH SpI SpJ LaA LaB LaC LaD LaE LaF LaG LiA LiB LiC LiD LiE LiF SpE SpG SpO LjA LjB LjC LjD LjE LiF
open BitsC PteSpec
set_option maxRecDepth 10000
set_option maxHeartbeats 1000000
section
variable {cd cp sz f sh : Int} {xs : List (Int × Int)} {lv : Int → Int}
theorem zvm (addr : Int) (ha : U addr) (h : TI cd cp sz xs f sh lv) (hn : xs.length ≤ 100000) (l : Nat) (t : Int) (h2 : l ≤ 2) (ht : Al cd cp f t) (hl : lv t = l) (hH : 2 ≤ l → idx addr 2 ≠ 511) :
    Ok 53 [zbz sz xs, .ag [cu cd, ci cp, cu f], iu t, ii l, iu addr] (.tu [zbz sz (prN sz cd cp addr l t (xs, f)).1, .ag [cu cd, ci cp, cu (prN sz cd cp addr l t (xs, f)).2]]) := by
  have hf := zyh addr ha h hn l t h2 ht hl hH
  generalize prN sz cd cp addr l t (xs, f) = p at *
  have hf : zck Tryz.prog GG 123 [(2000, [cu sz, .s xs.length 2 (fl xs), cu cd, ci cp, cu f, cu addr], [cu sz, .s p.1.length 2 (fl p.1), cu cd, ci cp, cu p.2, cu addr])] [.c (.p 2000 0), iu t, ii l] (.tu []) := hf
  refine zaf 30 Tryz.func53 rfl rfl rfl rfl ?_ GG.to
  intro W A hG
  repeat (first | (refine zai rfl ?_; first | refine gdr (zaa (.inl rfl) rfl) ?_ | refine gnk 1 rfl (za2 tb rfl rfl rfl rfl rfl) ?_ | refine gnx 1 rfl (zba tb rfl rfl rfl) rfl ?_ | refine gdr (zaa (.inr rfl) rfl) ?_ | refine gdr (zag rfl rfl rfl rfl rfl rfl) ?_ | refine gdr (zae rfl rfl rfl rfl rfl) ?_ | refine gnk 1 rfl (zbg rfl rfl rfl rfl rfl rfl rfl) ?_ | refine gdr (zar rfl rfl rfl rfl) ?_ | refine gdr (zdq rfl rfl rfl rfl) ?_ | refine gdr (zhm (fun _ => 17) hf rfl rfl (by kernel_rfl) rfl ⟨rfl, trivial⟩ (by kernel_rfl)) ?_) | (refine hK _ ?_; clear hK K) | refine zad rfl ?_ | refine za3 (by kernel_rfl) (by kernel_rfl) rfl ?_ | exact zao (show za6 _ _ _ = some _ by kernel_rfl) | refine zac (fun K hK => ?_))
theorem zyq (h : TI cd cp sz xs f sh lv) {t i : Int} (hi : 0 ≤ i ∧ i < 512) (c : zb7 (atM sz xs t i) = true) : 1 ≤ lv t := by
  rcases h.e.k t i hi with e | ⟨_, _, ⟨e, _⟩ | ⟨e, _⟩⟩
  · rw [e] at c; cases c
  · rw [(zcv e).1] at c; cases c
  · exact (zqx h hi e).2.1.1
end
theorem z0k (n : Int) : U (ofv n) := by
  unfold ofv zni
  split <;> exact ⟨by omega, by omega⟩
theorem zvn (sz : Int) (xs : List (Int × Int)) (l : Int) (q : Pte) (b : Int) (hb : U b) (l2 : l ≤ 2) : (zb8 sz xs l q b).length ≤ 262144 ∧ ∀ y ∈ zb8 sz xs l q b, U y.va := by
  have hpv : ∀ (m : Nat) (t b : Int), U b → ∀ y ∈ ze1 sz xs m t b, U y.va := by
    intro m
    induction m with
    | zero =>
      intro t b hb y hy
      obtain ⟨i, _, hy⟩ := List.mem_flatMap.1 hy
      unfold zhn at hy
      split at hy
      · cases hy
      · split at hy
        · rw [List.mem_singleton.1 hy]; exact z0k _
        · cases hy
    | succ m IH =>
      intro t b hb y hy
      obtain ⟨i, _, hy⟩ := List.mem_flatMap.1 hy
      unfold zhn at hy
      split at hy
      · cases hy
      · split at hy
        · rw [List.mem_singleton.1 hy]; exact z0k _
        · exact IH _ _ (zz2 _ _ _) y hy
  unfold zb8
  split
  · exact ⟨by simp, fun y hy => by rw [List.mem_singleton.1 hy]; exact hb⟩
  · split
    · refine ⟨?_, hpv _ _ _ hb⟩
      rcases (by omega : (l - 1).toNat = 0 ∨ (l - 1).toNat = 1) with e | e
      · rw [e]; have := zhc sz xs q.ppn b; omega
      · rw [e]; exact zqu sz xs q.ppn b
    · exact ⟨by simp, fun y hy => by cases hy⟩
theorem z0l (k : Kr) (id : Int) (l : List Pg) (h : ∀ y ∈ l, U y.va) : ∀ f ∈ zd1 k id l, U f.ad := by
  intro f hf
  unfold zd1 at hf
  split at hf
  · rw [List.mem_singleton.1 hf]; unfold zqz; split <;> exact ⟨by show (0 : Int) ≤ 0; decide, by show (0 : Int) < 18446744073709551616; decide⟩
  · obtain ⟨y, hy, rfl⟩ := List.mem_map.1 hf
    unfold zbp
    split <;> exact h y hy
theorem zyr (sz : Int) (xs : List (Int × Int)) (l : Nat) (t : Int) (h : l ≤ 1) : (frN sz xs l t).length ≤ 513 := by
  rcases (by omega : l = 0 ∨ l = 1) with rfl | rfl
  · simp [frN]
  · unfold frN
    rw [List.length_cons, List.length_flatMap]
    have : ∀ is : List Nat, (is.map fun (i : Nat) => (if zbt (atM sz xs t i) ((0 + 1 : Nat) : Int) then frN sz xs 0 (atM sz xs t i).ppn else []).length).sum ≤ is.length := by
      intro is
      induction is with
      | nil => exact Nat.le_refl _
      | cons i is IH =>
        rw [List.map_cons, List.sum_cons, List.length_cons]
        have : (if zbt (atM sz xs t i) ((0 + 1 : Nat) : Int) then frN sz xs 0 (atM sz xs t i).ppn else []).length ≤ 1 := by
          split
          · simp [frN]
          · simp
        omega
    have := this (List.range 512)
    rw [List.length_range] at this
    exact Nat.add_le_add_right this 1
def unH (k : Kr) (id a l top lw t l' : Int) (q : Pte) (PL : List Pg) (L : List Int) (m : List (Int × Int)) (f : Int) (i : Nat) : St := St.of [(1, .m (ii id)), (2, .m (iu a)), (3, .m (ii l)), (4, .m (.c (.p 4 0))), (8, .m (.c (.p 8 0))), (10, .m (iu top)), (11, .m (ii lw)), (13, .m (.c (.p 13 0))), (14, .m (.c (.p 14 0))), (15, .m (.c (.p 15 0))), (16, .m (.c (.s PL.length 8 (flP PL)))), (72, .m (.c (.s L.length 1 (vsI L)))), (73, .m (ii L.length)), (74, .m (ii i))]
  [(4, .live (.box k.ce)), (8, .live (.box zK)), (13, .live (.box [cu k.sz, .s m.length 2 (fl m)])), (14, .live (.box [cu k.pb, ci k.pm, cu f])), (15, .live (.box (zb9 t l' q)))]
theorem zek {n : Nat} {k : Kr} (h : InvT n k) (hn : n ≤ 88000) (id a l : Int) (ha : U a) : Ok 21 [.ag k.ce, ii id, iu a, ii l] (.tu [.ag (unR k id a l).1.ce, ii (unR k id a l).2]) := by
  have hw := zk3 k id a l ha
  have hin := zpx h (by omega) id a l ha
  obtain ⟨R, hR⟩ : ∃ R, R = unR k id a l := ⟨_, rfl⟩
  rw [← hR]
  unfold unR at hR
  by_cases c0 : (za1 k id a l).2.2 ≠ 0
  · rw [if_pos c0] at hR
    generalize za1 k id a l = w at *
    subst hR
    refine zaf 107 Tryz.func21 rfl rfl rfl rfl ?_ GG.to
    intro W A hG
    repeat (first | (refine zai rfl ?_; first | refine gdr (zaa (.inl rfl) rfl) ?_ | refine gnk 1 rfl (za2 tb rfl rfl rfl rfl rfl) ?_ | refine gdr (zaa (.inr rfl) rfl) ?_ | refine gdr (zan rfl rfl rfl rfl) ?_ | refine gdr (za5 rfl rfl rfl rfl) ?_ | refine gdr (zag rfl rfl rfl rfl rfl rfl) ?_ | refine gdr (zae rfl rfl rfl rfl rfl) ?_ | refine gnk 1 rfl (zbg rfl rfl rfl rfl rfl rfl rfl) ?_ | refine gdr (zab rfl rfl rfl (hw) (by kernel_rfl)) ?_) | (refine hK _ ?_; clear hK K) | refine zad rfl ?_ | exact zao (show za6 _ _ _ = some _ by kernel_rfl) | refine zal rfl rfl ?_ | refine zac (fun K hK => ?_))
  rw [if_neg c0] at hR
  replace c0 : (za1 k id a l).2.2 = 0 := by omega
  obtain ⟨lv, hT, hs, hr⟩ := h.t
  obtain ⟨w1, w2, w3, w4⟩ := zdb (id := id) (a := a) (l := l) h.l c0
  obtain ⟨z1, z2⟩ := h.top (a := a) (id := id) (l := l) c0 hs hr
  have hlive : id = -1 ∨ (id ≠ -1 ∧ zb2 k id = true) := by
    rcases zmy h.l c0 with ⟨_, _, e⟩ | ⟨e1, e2, _⟩
    · exact .inl e
    · exact .inr ⟨e2, e1⟩
  rw [c0] at hw
  generalize (za1 k id a l).1 = top at *
  generalize (za1 k id a l).2.1 = lw at *
  have b1 := hT.bd
  have b2 := hT.bp
  have bt := w2.1
  have hml := h.l.ml
  have hfl := h.l.fl
  have hpb := h.l.pb
  have hpm := h.l.pm
  by_cases c1 : (inR k id a l).length = 0
  · rw [if_pos c1] at hR
    rw [List.length_eq_zero_iff.1 c1] at hin
    clear c1
    subst hR
    refine zaf 107 Tryz.func21 rfl rfl rfl rfl ?_ GG.to
    intro W A hG
    repeat (first | (refine zai rfl ?_; first | refine gdr (zaa (.inl rfl) rfl) ?_ | refine gnk 1 rfl (za2 tb rfl rfl rfl rfl rfl) ?_ | refine gdr (zaa (.inr rfl) rfl) ?_ | refine gdr (zan rfl rfl rfl rfl) ?_ | refine gdr (za5 rfl rfl rfl rfl) ?_ | refine gdr (zag rfl rfl rfl rfl rfl rfl) ?_ | refine gdr (zae rfl rfl rfl rfl rfl) ?_ | refine gnk 1 rfl (zbg rfl rfl rfl rfl rfl rfl rfl) ?_ | refine gdr (zah rfl rfl rfl rfl) ?_ | refine gdr (zab rfl rfl rfl (hw) (by kernel_rfl)) ?_ | refine gdr (zab rfl rfl rfl (hin) (by kernel_rfl)) ?_) | (refine hK _ ?_; clear hK K) | refine zad rfl ?_ | exact zao (show za6 _ _ _ = some _ by kernel_rfl) | refine zal rfl rfl ?_ | refine zaj rfl rfl ?_ | refine zaq ?_ | refine zac (fun K hK => ?_))
  rw [if_neg c1] at hR
  generalize inR k id a l = IL at *
  obtain ⟨m, rfl⟩ := Int.eq_ofNat_of_zero_le (show 0 ≤ lw by omega)
  have hto := z1f top a l m k.m k.pf lv hT w2 h.l.sh z1 ha (by omega) w1.1 w3 (by omega) _ rfl
  obtain ⟨lv', P⟩ := zye a l top m w1.1 w3 (by omega) m k.m k.pf lv hT w2 h.l.sh z1
  unfold unT at hR
  rw [Int.toNat_natCast] at hR
  have hKe : ∀ T, unK k id top (m : Int) a l T = unK k id top (m : Int) a l T := fun _ => rfl
  generalize toN k.sz k.cd a l top m m k.m k.pf = T at *
  obtain ⟨xs, f, ⟨t, lt⟩, e⟩ := T
  obtain ⟨l', e1, e2, e3, e4, e5⟩ := P.p
  replace e1 : lt = (l' : Int) := e1
  subst e1
  have y4 : Al k.cd k.cp f t := e4
  have y5 : lv' t = (l' : Int) := e5
  by_cases c5 : e ≠ 0
  · rw [if_pos c5] at hR
    rw [if_neg (show ¬ (xs, f, (t, (l' : Int)), e).2.2.2 = 0 from c5)] at hto
    replace hto : Ok 49 [zbz k.sz k.m, .ag [cu k.cd, ci k.cp, cu k.pf], iu top, ii m, iu a, ii l] (.tu [zbz k.sz k.m, .ag [cu k.cd, ci k.cp, cu k.pf], .ag (zb9 0 0 zP), ii e]) := hto
    rw [← hpb, ← hpm] at hto
    replace hR : R = (k, e) := hR
    subst hR
    refine zaf 107 Tryz.func21 rfl rfl rfl rfl ?_ GG.to
    intro W A hG
    repeat (first | (refine zai rfl ?_; first | refine gdr (zaa (.inl rfl) rfl) ?_ | refine gnk 1 rfl (za2 tb rfl rfl rfl rfl rfl) ?_ | refine gnx 1 rfl (zba tb rfl rfl rfl) rfl ?_ | refine gdr (zaa (.inr rfl) rfl) ?_ | refine gdr (zan rfl rfl rfl rfl) ?_ | refine gdr (za5 rfl rfl rfl rfl) ?_ | refine gdr (zag rfl rfl rfl rfl rfl rfl) ?_ | refine gdr (zae rfl rfl rfl rfl rfl) ?_ | refine gnk 1 rfl (zbg rfl rfl rfl rfl rfl rfl rfl) ?_ | refine gdr (zah rfl rfl rfl rfl) ?_ | refine gdr (zab rfl rfl rfl (hw) (by kernel_rfl)) ?_ | refine gdr (zab rfl rfl rfl (hin) (by kernel_rfl)) ?_ | refine gdr (zab rfl rfl rfl (hto) (by kernel_rfl)) ?_) | (refine hK _ ?_; clear hK K) | refine zad rfl ?_ | exact zao (show za6 _ _ _ = some _ by kernel_rfl) | refine zal rfl rfl ?_ | refine zaj rfl rfl ?_ | refine zaq ?_ | refine zac (fun K hK => ?_))
  rw [if_neg c5] at hR
  obtain rfl : e = 0 := by omega
  rw [if_pos (show (xs, f, (t, (l' : Int)), (0 : Int)).2.2.2 = 0 from rfl)] at hto
  replace hto : Ok 49 [zbz k.sz k.m, .ag [cu k.cd, ci k.cp, cu k.pf], iu top, ii m, iu a, ii l] (.tu [zbz k.sz xs, .ag [cu k.cd, ci k.cp, cu f], .ag (zb9 t (l' : Int) (atM k.sz xs t (idx a (l' : Int)))), ii 0]) := hto
  have hPt : TI k.cd k.cp k.sz xs f k.sh lv' := P.t
  have ash := P.a _ h.l.sh
  have atop := P.a _ w2
  have hi := idx_bd a (l' : Int)
  have bt' := y4.1
  have hxl : xs.length ≤ k.m.length + 513 * m := P.n
  obtain ⟨c2, c3, c4, c6, c7⟩ := zwg (a := a) (e := 0) (t := t) (xs := xs) (f := f) (lv := lv') hPt ash.1 y4 y5 (by omega) (fun hh => z2 (by omega))
  have hlt : lv' top = (m : Int) := atop.2.trans z1
  have atop2 := c3 _ atop.1 (.inr (by rw [hlt]; omega))
  have hq := zji hPt.u k.sz t (idx a (l' : Int))
  have hqp := zfh (xs := xs) k.sz t (idx a (l' : Int))
  have hpl := zm1 k.sz xs t (l' : Int) (atM k.sz xs t (idx a (l' : Int))) a ha hPt.s hPt.u hqp (by omega) (by omega) (fun c => by have := zyq hPt hi c; omega)
  have hub := zvn k.sz xs (l' : Int) (atM k.sz xs t (idx a (l' : Int))) (VaSpec.base a (l' : Int)) (zwi ha (by omega) (by omega)) (by omega)
  have hU2 : Uw (zhg k.sz k.cd k.cp (xs, f, (t, (l' : Int)), (0 : Int)) a).1 := fun c hc => by
    unfold zhg at hc
    split at hc
    · exact hPt.u c ((zh2 k.cd k.cp k.sz hPt.bp _ (xs, f) hPt.s hPt.bf).m c hc)
    · exact hPt.u c hc
  have hwt := zeb k.sz (zhg k.sz k.cd k.cp (xs, f, (t, (l' : Int)), (0 : Int)) a).1 t (l' : Int) (atM k.sz xs t (idx a (l' : Int))) a ⟨false, false, false, false, false, false, false, false, 0, 0, 0⟩ ha z0q (by omega) (by omega) ⟨by omega, by omega⟩ c6 hU2 (by omega)
  replace hwt : Ok 54 [zbz k.sz (zhg k.sz k.cd k.cp (xs, f, (t, (l' : Int)), (0 : Int)) a).1, .ag (zb9 t (l' : Int) (atM k.sz xs t (idx a (l' : Int)))), iu a, .ag (⟨false, false, false, false, false, false, false, false, 0, 0, 0⟩ : Pte).ce] (.m (zbz k.sz (zbw k.sz (zhg k.sz k.cd k.cp (xs, f, (t, (l' : Int)), (0 : Int)) a).1 t (idx a (l' : Int)) zP))) := hwt
  have hpr := zvm a ha c2 (by omega) m top (by omega) atop2 hlt (fun hh => z2 (by omega))
  have hK : R = (zdy { k with m := (prN k.sz k.cd k.cp a m top (zbw k.sz (zhg k.sz k.cd k.cp (xs, f, (t, (l' : Int)), (0 : Int)) a).1 t (idx a (l' : Int)) zP, (zhg k.sz k.cd k.cp (xs, f, (t, (l' : Int)), (0 : Int)) a).2)).1, pf := (prN k.sz k.cd k.cp a m top (zbw k.sz (zhg k.sz k.cd k.cp (xs, f, (t, (l' : Int)), (0 : Int)) a).1 t (idx a (l' : Int)) zP, (zhg k.sz k.cd k.cp (xs, f, (t, (l' : Int)), (0 : Int)) a).2)).2 } (zd1 k id (zb8 k.sz xs (l' : Int) (atM k.sz xs t (idx a (l' : Int))) (VaSpec.base a (l' : Int)))), 0) := by
    rw [hR]
    unfold unK unM
    rw [Int.toNat_natCast]
  have hfb := zld k id (zb8 k.sz xs (l' : Int) (atM k.sz xs t (idx a (l' : Int))) (VaSpec.base a (l' : Int)))
  have hfU := z0l k id _ hub.2
  generalize prN k.sz k.cd k.cp a m top (zbw k.sz (zhg k.sz k.cd k.cp (xs, f, (t, (l' : Int)), (0 : Int)) a).1 t (idx a (l' : Int)) zP, (zhg k.sz k.cd k.cp (xs, f, (t, (l' : Int)), (0 : Int)) a).2) = p4 at *
  obtain ⟨m4, f4⟩ := p4
  have hfe : Ok 17 [.ag ({ k with m := m4, pf := f4 } : Kr).ce, ii id, .c (.s (zb8 k.sz xs (l' : Int) (atM k.sz xs t (idx a (l' : Int))) (VaSpec.base a (l' : Int))).length 8 (flP (zb8 k.sz xs (l' : Int) (atM k.sz xs t (idx a (l' : Int))) (VaSpec.base a (l' : Int)))))] (.m (.c (.s (zd1 k id (zb8 k.sz xs (l' : Int) (atM k.sz xs t (idx a (l' : Int))) (VaSpec.base a (l' : Int)))).length 4 (flF (zd1 k id (zb8 k.sz xs (l' : Int) (atM k.sz xs t (idx a (l' : Int))) (VaSpec.base a (l' : Int)))))))) := by
    rcases hlive with e | ⟨e, e'⟩
    · exact ztn { k with m := m4, pf := f4 } id _ e (by omega)
    · exact zor { k with m := m4, pf := f4 } id _ e e' (by omega)
  have hsf := zmh { k with m := m4, pf := f4 } h.l.ts h.l.cs.2 (zd1 k id (zb8 k.sz xs (l' : Int) (atM k.sz xs t (idx a (l' : Int))) (VaSpec.base a (l' : Int)))) hfU (by omega) (by show k.fs.length ≤ _; omega)
  generalize zd1 k id (zb8 k.sz xs (l' : Int) (atM k.sz xs t (idx a (l' : Int))) (VaSpec.base a (l' : Int))) = FL at *
  generalize zb8 k.sz xs (l' : Int) (atM k.sz xs t (idx a (l' : Int))) (VaSpec.base a (l' : Int)) = PL at *
  have hlk := zft (atM k.sz xs t (idx a (l' : Int)))
  have hlk1 : zb7 (atM k.sz xs t (idx a (l' : Int))) = true → lkP (atM k.sz xs t (idx a (l' : Int))) = true := fun c => by
    rcases hPt.e.k t _ hi with e | ⟨_, _, ⟨e, _⟩ | ⟨e, _⟩⟩
    · rw [e] at c; cases c
    · rw [(zcv e).1] at c; cases c
    · exact e
  have hcut : zhg k.sz k.cd k.cp (xs, f, (t, (l' : Int)), (0 : Int)) a = if zb7 (atM k.sz xs t (idx a (l' : Int))) then bkN k.cd k.cp (frN k.sz xs ((l' : Int) - 1).toNat (atM k.sz xs t (idx a (l' : Int))).ppn) (xs, f) else (xs, f) := rfl
  clear hub hfb hfU hR c0 P
  generalize zbw k.sz (zhg k.sz k.cd k.cp (xs, f, (t, (l' : Int)), (0 : Int)) a).1 t (idx a (l' : Int)) zP = m3 at *
  generalize zhg k.sz k.cd k.cp (xs, f, (t, (l' : Int)), (0 : Int)) a = P2 at *
  cases c : zb7 (atM k.sz xs t (idx a (l' : Int))) with
  | false =>
    rw [c] at hlk hcut
    rw [if_neg (by simp)] at hcut
    subst hcut
    generalize atM k.sz xs t (idx a (l' : Int)) = q at *
    rw [← hpb, ← hpm] at hto hpr
    subst hK
    refine zaf 107 Tryz.func21 rfl rfl rfl rfl ?_ GG.to
    intro W A hG
    repeat (first | (refine zai rfl ?_; first | refine gdr (zaa (.inl rfl) rfl) ?_ | refine gnk 1 rfl (za2 tb rfl rfl rfl rfl rfl) ?_ | refine gnx 1 rfl (zba tb rfl rfl rfl) rfl ?_ | refine gdr (zaa (.inr rfl) rfl) ?_ | refine gdr (zan rfl rfl rfl rfl) ?_ | refine gdr (za5 rfl rfl rfl rfl) ?_ | refine gdr (zag rfl rfl rfl rfl rfl rfl) ?_ | refine gdr (zae rfl rfl rfl rfl rfl) ?_ | refine gnk 1 rfl (zbg rfl rfl rfl rfl rfl rfl rfl) ?_ | refine gdr (zah rfl rfl rfl rfl) ?_ | refine gdr (zar rfl rfl rfl rfl) ?_ | refine gdr (zab rfl rfl rfl (hw) (by kernel_rfl)) ?_ | refine gdr (zab rfl rfl rfl (hin) (by kernel_rfl)) ?_ | refine gdr (zab rfl rfl rfl (hto) (by kernel_rfl)) ?_ | refine gdr (zab rfl rfl rfl (hpl) (by kernel_rfl)) ?_ | refine gdr (zab rfl rfl rfl (hlk) (by kernel_rfl)) ?_ | refine gdr (zab rfl rfl rfl (hwt) (by kernel_rfl)) ?_ | refine gdr (zab rfl rfl rfl (hpr) (by kernel_rfl)) ?_ | refine gdr (zab rfl rfl rfl (hfe) (by kernel_rfl)) ?_ | refine gdr (zab rfl rfl rfl (hsf) (by kernel_rfl)) ?_) | (refine hK _ ?_; clear hK K) | refine zad rfl ?_ | refine za3 (by kernel_rfl) (by kernel_rfl) rfl ?_ | exact zao (show za6 _ _ _ = some _ by kernel_rfl) | refine zaj rfl rfl ?_ | refine zaq ?_ | refine zac (fun K hK => ?_))
  | true =>
    obtain ⟨k1, k2, k3, k4⟩ := zqx hPt hi (hlk1 c)
    rw [c] at hlk hcut
    rw [if_pos rfl] at hcut
    have hl12 : l' = 1 ∨ l' = 2 := by omega
    have hfr : Ok 51 [zbz k.sz xs, iu (atM k.sz xs t (idx a (l' : Int))).ppn, ii ((l' : Int) - 1)] (.m (.c (.s (frN k.sz xs ((l' : Int) - 1).toNat (atM k.sz xs t (idx a (l' : Int))).ppn).length 1 (vsI (frN k.sz xs ((l' : Int) - 1).toNat (atM k.sz xs t (idx a (l' : Int))).ppn))))) := by
      clear hwt hpr hfe hsf hcut hto hpl hin hw hlk c c2 c3 c4 c6 c7 k1 k4 hi hlk1 hqp hq y5 e5 e4 e2 e3
      have hqp := zfh (xs := xs) k.sz t (idx a (l' : Int))
      generalize atM k.sz xs t (idx a (l' : Int)) = q at *
      rcases hl12 with rfl | rfl
      · exact zpu k.sz xs hPt.s hPt.u q.ppn hqp
      · exact zvf k.sz xs hPt.s hPt.u q.ppn hqp
    have hLl := zyr k.sz xs ((l' : Int) - 1).toNat (atM k.sz xs t (idx a (l' : Int))).ppn (by omega)
    have hLb : ∀ g ∈ frN k.sz xs ((l' : Int) - 1).toNat (atM k.sz xs t (idx a (l' : Int))).ppn, 0 ≤ g ∧ g < 1099511627776 := fun g hg => by
      have := (zk7 hPt ((l' : Int) - 1).toNat _ k4 (by omega) g hg).1.1
      omega
    generalize frN k.sz xs ((l' : Int) - 1).toNat (atM k.sz xs t (idx a (l' : Int))).ppn = L at *
    have hxs := hPt.s
    have hxf := hPt.bf
    generalize atM k.sz xs t (idx a (l' : Int)) = q at *
    subst hK
    have hto' := hto
    have hpr' := hpr
    rw [← hpb, ← hpm] at hto' hpr'
    have b1p : 1 ≤ k.pb ∧ k.pb ≤ 524288 := by omega
    have b2p : 1 ≤ k.pm ∧ k.pm ≤ 64 := by omega
    clear hto hpr
    have hl0 : 1 ≤ (l' : Int) := by omega
    have hl2 : (l' : Int) ≤ 2 := by omega
    clear hl12 hlk1 k1 k2 k3 k4 c2 c3 c4 hPt y4 y5 e2 e3 e4 e5 hT hs hr hlive w2 atop atop2 ash hfl hlt z1 z2
    generalize (l' : Int) = li at *
    refine zaf 107 Tryz.func21 rfl rfl rfl rfl ?_ GG.to
    intro W A hG
    repeat (first | (refine zai rfl ?_; first | refine gdr (zaa (.inl rfl) rfl) ?_ | refine gnk 1 rfl (za2 tb rfl rfl rfl rfl rfl) ?_ | refine gnx 1 rfl (zba tb rfl rfl rfl) rfl ?_ | refine gdr (zaa (.inr rfl) rfl) ?_ | refine gdr (zan rfl rfl rfl rfl) ?_ | refine gdr (za5 rfl rfl rfl rfl) ?_ | refine gdr (gar rfl rfl rfl rfl) ?_ | refine gdr (zag rfl rfl rfl rfl rfl rfl) ?_ | refine gdr (zae rfl rfl rfl rfl rfl) ?_ | refine gnk 1 rfl (zbg rfl rfl rfl rfl rfl rfl rfl) ?_ | refine gdr (zah rfl rfl rfl rfl) ?_ | refine gdr (zab rfl rfl rfl (hw) (by kernel_rfl)) ?_ | refine gdr (zab rfl rfl rfl (hin) (by kernel_rfl)) ?_ | refine gdr (zab rfl rfl rfl (hto') (by kernel_rfl)) ?_ | refine gdr (zab rfl rfl rfl (hpl) (by kernel_rfl)) ?_ | refine gdr (zab rfl rfl rfl (hlk) (by kernel_rfl)) ?_ | refine gdr (zab rfl rfl rfl (hfr) (by kernel_rfl)) ?_) | (refine hK _ ?_; clear hK K) | refine zad rfl ?_ | refine zal rfl rfl ?_ | refine zaj rfl rfl ?_ | refine zam ?_ | refine zaq ?_ | refine zac (fun K hK => ?_))
    refine zbb (α := Nat × List (Int × Int) × Int) (fun p => p.1 ≤ L.length ∧ bkN k.cd k.cp (L.drop p.1) (p.2.1, p.2.2) = P2 ∧ Srt p.2.1 ∧ p.2.1.length ≤ xs.length ∧ (0 ≤ p.2.2 ∧ p.2.2 < 2 ^ k.cp.toNat)) (fun p => unH k id a l top m t li q PL L p.2.1 p.2.2 p.1) (fun p => L.length - p.1) (0, xs, f) ⟨Nat.zero_le _, hcut.symm, hxs, Nat.le_refl _, hxf⟩ (zas _ _ ⟨by kernel_rfl, by kernel_rfl, by kernel_rfl, by kernel_rfl, by kernel_rfl, by kernel_rfl, by kernel_rfl, by kernel_rfl, by kernel_rfl, by kernel_rfl, by kernel_rfl, by kernel_rfl, by kernel_rfl, by kernel_rfl, trivial⟩ ⟨by kernel_rfl, by kernel_rfl, by kernel_rfl, by kernel_rfl, by kernel_rfl, trivial⟩ (by kernel_rfl)) ?_
    rintro ⟨i, mm, ff⟩ ⟨x1, x2, x3, x4, x5⟩
    have g1 : i ≤ L.length := x1
    have g2 : bkN k.cd k.cp (L.drop i) (mm, ff) = P2 := x2
    have g3 : Srt mm := x3
    have g4 : mm.length ≤ xs.length := x4
    have g5 : 0 ≤ ff ∧ ff < 2 ^ k.cp.toNat := x5
    clear x1 x2 x3 x4 x5
    show Aw _ _ _ _ (unH k id a l top m t li q PL L mm ff i)
    unfold unH
    by_cases hlt : i < L.length
    · have hgm := hLb _ (List.getElem_mem hlt)
      have hd0 : L.drop i = L[i] :: L.drop (i + 1) := List.drop_eq_getElem_cons hlt
      have hx : ((vsI L).drop (i * 1)).take 1 = [.int .u64 L[i]] := by rw [Nat.mul_one]; unfold vsI; rw [← List.map_drop, hd0]; rfl
      have hd := hd0
      rw [hd] at g2
      have hbk := zr6 k.sz mm k.cd k.cp ff L[i] ⟨by omega, by omega⟩ (by omega) (zhq g5.1 g5.2 (by omega)) hgm g3 (by omega)
      clear hd hd0
      generalize L[i] = g at *
      replace g2 : bkN k.cd k.cp (L.drop (i + 1)) (TableC.za7 mm g, TableC2.zdn k.cd k.cp ff g) = P2 := g2
      have hws := zcy g g3
      have hwl := zdo mm g
      have hgb := zog (cd := k.cd) (g := g) b2 g5
      generalize TableC.za7 mm g = m5 at *
      generalize TableC2.zdn k.cd k.cp ff g = f5 at *
      rw [← hpb, ← hpm] at hbk
      repeat (first | (refine zai rfl ?_; first | refine gdr (zaa (.inl rfl) rfl) ?_ | refine gnk 1 rfl (za2 tb rfl rfl rfl rfl rfl) ?_ | refine gdr (zaa (.inr rfl) rfl) ?_ | refine gdr (zan rfl rfl rfl rfl) ?_ | refine gdr (za5 rfl rfl rfl rfl) ?_ | refine gdr (gar rfl rfl rfl rfl) ?_ | refine gnk 1 rfl (zbg rfl rfl rfl rfl rfl rfl rfl) ?_ | refine gnx 3 rfl (zav tb rfl rfl rfl rfl (by first | kernel_rfl | rfl)) rfl ?_ | refine gnx 4 rfl (zay rfl rfl rfl rfl rfl rfl (by omega) (by omega) _ (by assumption)) rfl ?_ | refine gdr (zab rfl rfl rfl (hbk) (by kernel_rfl)) ?_) | (refine hK _ ?_; clear hK K) | refine zad rfl ?_ | refine zal rfl rfl ?_ | refine zam ?_ | refine zaq ?_ | refine zac (fun K hK => ?_))
      exact ⟨(i + 1, m5, f5), ⟨by show i + 1 ≤ L.length; omega, g2, hws, by show m5.length ≤ _; omega, hgb⟩, by show L.length - (i + 1) < L.length - i; omega, zas _ _ ⟨by kernel_rfl, by kernel_rfl, by kernel_rfl, by kernel_rfl, by kernel_rfl, by kernel_rfl, by kernel_rfl, by kernel_rfl, by kernel_rfl, by kernel_rfl, by kernel_rfl, by kernel_rfl, by kernel_rfl, by kernel_rfl, trivial⟩ ⟨by kernel_rfl, by kernel_rfl, by kernel_rfl, by kernel_rfl, by kernel_rfl, trivial⟩ (by kernel_rfl)⟩
    · have ei : i = L.length := by omega
      rw [ei, List.drop_length] at g2
      replace g2 : (mm, ff) = P2 := g2
      subst g2
      repeat (first | (refine zai rfl ?_; first | refine gdr (zaa (.inl rfl) rfl) ?_ | refine gnk 1 rfl (za2 tb rfl rfl rfl rfl rfl) ?_ | refine gnx 1 rfl (zba tb rfl rfl rfl) rfl ?_ | refine gdr (zaa (.inr rfl) rfl) ?_ | refine gdr (zan rfl rfl rfl rfl) ?_ | refine gdr (za5 rfl rfl rfl rfl) ?_ | refine gnk 1 rfl (zbg rfl rfl rfl rfl rfl rfl rfl) ?_ | refine gdr (zar rfl rfl rfl rfl) ?_ | refine gdr (zab rfl rfl rfl (hwt) (by kernel_rfl)) ?_ | refine gdr (zab rfl rfl rfl (hpr') (by kernel_rfl)) ?_ | refine gdr (zab rfl rfl rfl (hfe) (by kernel_rfl)) ?_ | refine gdr (zab rfl rfl rfl (hsf) (by kernel_rfl)) ?_) | (refine hK _ ?_; clear hK K) | (rename_i K1 hK1; refine hK1 _ ?_; clear hK hK1; clear K) | refine zad rfl ?_ | refine za3 (by kernel_rfl) (by kernel_rfl) rfl ?_ | exact zao (show za6 _ _ _ = some _ by kernel_rfl) | refine zaj rfl rfl ?_ | refine zbi ?_ | refine zac (fun K hK => ?_))
end Go.Proofs.YtmkjfeamgknpfaaGreatDoor.LjF
namespace Go.Proofs.YtmkjfeamgknpfaaGreatDoor.LkE
open Go.RowKit Bv VaSpec Base MemL RegR Ax MemC PutC MemC3 TzC OkS SpA SpB SpC SpF SpH SpI SpJ LaA LaB LaC LaD LaE LaF LaG LiA LiB LiC LiD LiE LiF SpE SpG SpO SpL SpN RfA RfB RfC RfD RlA RlB LjA LjB LjC LjD LjE LjF LiF LkA LkB LkC LkD
open BitsC PteSpec
set_option maxRecDepth 10000
set_option maxHeartbeats 1000000
end Go.Proofs.YtmkjfeamgknpfaaGreatDoor.LkE
namespace Go.Proofs.YtmkjfeamgknpfaaGreatDoor.LaI
open Go.RowKit Bv VaSpec Base MemL RegR Ax MemC PutC MemC3 TzC OkS SpA SpB SpC SpD SpE SpF SpG SpH SpI SpJ SpK SpN RfD RfE RfJ RfK LaA LaB LaC LaD LaE LaF LaG LaH RlB RlC
open BitsC PteSpec
set_option maxRecDepth 10000
set_option maxHeartbeats 1000000
attribute [local irreducible] Ax.zb4
noncomputable def bgI (a b c : Int) (n : Nat) : Nat → Kr
  | 0 => zlh a b c n
  | i + 1 => (zbk (bgI a b c n i)).1
def bgH (k : Kr) (i : Nat) : St := St.of [(2, .m (.c (.p 2 0))), (3, .m (.c (.p 3 0))), (4, .m (.c (.p 4 0))), (6, .m (.c (.p 6 0))), (7, .m (ii i))] [(2, .live (.box zK)), (3, .live (.box zK)), (4, .live (.box k.ce)), (6, .live (.box k.ce))]
theorem zto {a b c : Int} {n : Nat} (h : zfm a b c n = true) : ∀ i, Inv i (bgI a b c n i)
  | 0 => zky h
  | i + 1 => zei (zto h i)
end Go.Proofs.YtmkjfeamgknpfaaGreatDoor.LaI
namespace Go.Proofs.YtmkjfeamgknpfaaGreatDoor.LkF
open Go.RowKit Bv VaSpec Base MemL RegR Ax MemC PutC MemC3 TzC OkS SpA SpB SpC SpF SpH SpI SpJ LaA LaB LaC LaD LaE LaF LaG LiA LiB LiC LiD LiE LiF SpE SpG SpK SpO SpL SpN RfA RfB RfC RfD RfE RfJ RfK RlA RlB RlC LaH LaI LjA LjB LjF LiF LkE
open BitsC PteSpec
set_option maxRecDepth 10000
set_option maxHeartbeats 1000000
attribute [local irreducible] Ax.zb4
theorem zi7 (a b c : Int) (n : Nat) (h : zfm a b c n = true) : Ok 10 [zjl a b c n] (.tu [.ag (bgK a b c n).ce, .ag (bgK a b c n).ce]) := by
  have hn := zxy a b c n h
  have hr := zyb a b c n h
  refine zaf 33 Tryz.func10 rfl rfl rfl rfl ?_ GG.to
  intro W A hG
  repeat (first | (refine zai rfl ?_; first | refine gdr (zaa (.inl rfl) rfl) ?_ | refine gnk 1 rfl (za2 tb rfl rfl rfl rfl rfl) ?_ | refine gdr (zaa (.inr rfl) rfl) ?_ | refine gdr (zan rfl rfl rfl rfl) ?_ | refine gdr (zag rfl rfl rfl rfl rfl rfl) ?_ | refine gdr (zae rfl rfl rfl rfl rfl) ?_ | refine gnk 1 rfl (zbg rfl rfl rfl rfl rfl rfl rfl) ?_ | refine gdr (zab rfl rfl rfl (hn) (by kernel_rfl)) ?_ | refine gdr (zab rfl rfl rfl (hr) (by kernel_rfl)) ?_) | (refine hK _ ?_; clear hK K) | refine zad rfl ?_ | refine zam ?_ | refine zac (fun K hK => ?_))
  refine zbb (α := Nat) (fun i => i ≤ 2) (fun i => bgH (bgI a b c n i) i) (fun i => 2 - i) 0 (by omega) (zas _ _ ⟨by kernel_rfl, by kernel_rfl, by kernel_rfl, by kernel_rfl, by kernel_rfl, trivial⟩ ⟨by kernel_rfl, by kernel_rfl, by kernel_rfl, by kernel_rfl, trivial⟩ (by kernel_rfl)) ?_
  intro i hi
  show Aw _ _ _ _ (bgH (bgI a b c n i) i)
  unfold bgH
  by_cases hlt : i < 2
  · have hk := zto h i
    have hc := zqt hk (by omega)
    have hd := zoj hk (by omega)
    have e : bgI a b c n (i + 1) = (zbk (bgI a b c n i)).1 := rfl
    generalize zbk (bgI a b c n i) = rr at *
    repeat (first | (refine zai rfl ?_; first | refine gdr (zaa (.inl rfl) rfl) ?_ | refine gnk 1 rfl (za2 tb rfl rfl rfl rfl rfl) ?_ | refine gdr (zaa (.inr rfl) rfl) ?_ | refine gdr (zan rfl rfl rfl rfl) ?_ | refine gdr (za5 rfl rfl rfl rfl) ?_ | refine gdr (gar rfl rfl rfl rfl) ?_ | refine gnk 1 rfl (zbg rfl rfl rfl rfl rfl rfl rfl) ?_ | refine gdr (zab rfl rfl rfl (hc) (by kernel_rfl)) ?_ | refine gdr (zab rfl rfl rfl (hd) (by kernel_rfl)) ?_) | (refine hK _ ?_; clear hK K) | refine zad rfl ?_ | refine zal rfl rfl ?_ | refine zam ?_ | refine zaq ?_ | refine zac (fun K hK => ?_))
    refine ⟨i + 1, by omega, by omega, ?_⟩
    rw [e]
    exact zas _ _ ⟨by kernel_rfl, by kernel_rfl, by kernel_rfl, by kernel_rfl, by kernel_rfl, trivial⟩ ⟨by kernel_rfl, by kernel_rfl, by kernel_rfl, by kernel_rfl, trivial⟩ (by kernel_rfl)
  · obtain rfl : i = 2 := by omega
    rw [show bgI a b c n 2 = bgK a b c n from rfl]
    repeat (first | (refine zai rfl ?_; first | refine gdr (zaa (.inl rfl) rfl) ?_ | refine gnk 1 rfl (za2 tb rfl rfl rfl rfl rfl) ?_ | refine gdr (za5 rfl rfl rfl rfl) ?_ | refine gnk 1 rfl (zbg rfl rfl rfl rfl rfl rfl rfl) ?_) | (refine hK _ ?_; clear hK K) | (rename_i K1 hK1; refine hK1 _ ?_; clear hK hK1; clear K) | refine zad rfl ?_ | refine za3 (by kernel_rfl) (by kernel_rfl) rfl ?_ | exact zao (show za6 _ _ _ = some _ by kernel_rfl) | refine zaj rfl rfl ?_ | refine zbi ?_ | refine zac (fun K hK => ?_))
structure Dd where
  lift : Bool
  id : Int
  va : Int
  pa : Int
  lev : Int
  p : Pm
def Dd.ce (d : Dd) : List Ce := [cb d.lift, ci d.id, cu d.va, cu d.pa, ci d.lev] ++ d.p.ce
def Dd.vs (d : Dd) : List Value := [.bool d.lift, .int .i64 d.id, .int .u64 d.va, .int .u64 d.pa, .int .i64 d.lev, .bool d.p.r, .bool d.p.w, .bool d.p.x, .bool d.p.u]
def UD (d : Dd) : Prop := U d.va ∧ U d.pa
def ddR (k : Kr) (d : Dd) : Kr × Int := if d.lift then unR k d.id d.va d.lev else zq2 k d.id d.va d.pa d.lev d.p
theorem zys {n : Nat} {k : Kr} {d : Dd} (h : InvT n k) (hd : UD d) : InvT (n + 1100) (ddR k d).1 := by
  unfold ddR
  split
  · exact zwh h
  · have hm := zlc (id := d.id) (a := d.va) (pa := d.pa) (l := d.lev) (p := d.p) h hd.2
    exact ⟨{ hm.l with ml := by have := hm.l.ml; omega, fl := by have := hm.l.fl; omega }, hm.t⟩
theorem z1g {n : Nat} {k : Kr} {d : Dd} (h : InvT n k) (hn : n ≤ 88000) (hd : UD d) : Ok 11 [.ag k.ce, .ag d.ce] (.tu [.ag (ddR k d).1.ce, ii (ddR k d).2]) := by
  obtain ⟨b, id, va, pa, lev, p⟩ := d
  obtain ⟨h1, h2⟩ := hd
  obtain ⟨R, hR⟩ : ∃ R, R = ddR k ⟨b, id, va, pa, lev, p⟩ := ⟨_, rfl⟩
  rw [← hR]
  unfold Dd.ce
  cases b with
  | true =>
    have hu := zek h hn id va lev h1
    replace hR : R = unR k id va lev := hR
    rw [← hR] at hu
    refine zaf 32 Tryz.func11 rfl rfl rfl rfl ?_ GG.to
    intro W A hG
    repeat (first | (refine zai rfl ?_; first | refine gnk 1 rfl (za2 tb rfl rfl rfl rfl rfl) ?_ | refine gnx 1 rfl (zba tb rfl rfl rfl) rfl ?_ | refine gdr (zaa (.inr rfl) rfl) ?_ | refine gdr (zan rfl rfl rfl rfl) ?_ | refine gdr (zag rfl rfl rfl rfl rfl rfl) ?_ | refine gdr (zae rfl rfl rfl rfl rfl) ?_ | refine gnk 1 rfl (zbg rfl rfl rfl rfl rfl rfl rfl) ?_ | refine gdr (zab rfl rfl rfl (hu) (by kernel_rfl)) ?_) | (refine hK _ ?_; clear hK K) | refine zad rfl ?_ | exact zao (show za6 _ _ _ = some _ by kernel_rfl) | refine zal rfl rfl ?_ | refine zac (fun K hK => ?_))
  | false =>
    have hu := zoe h.l (by omega) id va pa lev p h1 h2
    replace hR : R = zq2 k id va pa lev p := hR
    rw [← hR] at hu
    refine zaf 32 Tryz.func11 rfl rfl rfl rfl ?_ GG.to
    intro W A hG
    repeat (first | (refine zai rfl ?_; first | refine gnk 1 rfl (za2 tb rfl rfl rfl rfl rfl) ?_ | refine gnx 1 rfl (zba tb rfl rfl rfl) rfl ?_ | refine gdr (zaa (.inr rfl) rfl) ?_ | refine gdr (zan rfl rfl rfl rfl) ?_ | refine gdr (zag rfl rfl rfl rfl rfl rfl) ?_ | refine gdr (zae rfl rfl rfl rfl rfl) ?_ | refine gnk 1 rfl (zbg rfl rfl rfl rfl rfl rfl rfl) ?_ | refine gdr (zab rfl rfl rfl (hu) (by kernel_rfl)) ?_) | (refine hK _ ?_; clear hK K) | refine zad rfl ?_ | exact zao (show za6 _ _ _ = some _ by kernel_rfl) | refine zaj rfl rfl ?_ | refine zaq ?_ | refine zac (fun K hK => ?_))
set_option maxHeartbeats 8000000 in
theorem zc8 : Ok 8 [] (.m (ib true)) := by
  have hN : Ok 10 [zjl 4 8 2 1] (.tu [.ag c2.ce, .ag c2.ce]) := by rw [← bg2]; exact zi7 4 8 2 1 (by decide)
  have hA := zoe t2.l (by omega) 0 20480 4096 0 rr ⟨by omega, by omega⟩ ⟨by omega, by omega⟩
  rw [uA] at hA
  have hB := zoe jA.l (by omega) (-1) 18446744073709547520 0 0 rr ⟨by omega, by omega⟩ ⟨by omega, by omega⟩
  rw [uB] at hB
  have hC := zek jB (by omega) 0 20480 0 ⟨by omega, by omega⟩
  rw [uC] at hC
  have hF := zek jC (by omega) 0 20480 0 ⟨by omega, by omega⟩
  rw [uF] at hF
  have hD := zek jC (by omega) (-1) 18446744073707454464 1 ⟨by omega, by omega⟩
  rw [uD] at hD
  have hH := zek jC (by omega) 7 20480 0 ⟨by omega, by omega⟩
  rw [uH] at hH
  have hI1 := zpx jB (by omega) 0 0 2 ⟨by omega, by omega⟩
  rw [vB] at hI1
  have hI1 : Ok 15 [.ag dB.ce, ii 0, iu 0, ii 2] (.m (.c (.s 1 8 (flP [⟨20480, 4096, 0, true, false, false, false, false⟩])))) := hI1
  have hI2 := zpx jC (by omega) 0 0 2 ⟨by omega, by omega⟩
  rw [vC] at hI2
  have hI2 : Ok 15 [.ag dC.ce, ii 0, iu 0, ii 2] (.m (.c (.s 0 8 []))) := hI2
  have hS := zkw [⟨true, 20480, true, 1⟩] (by decide)
  have hZ := zor c2 1 (List.replicate 17 ⟨0, 0, 0, false, false, false, false, false⟩) (by decide) (by decide) (by decide)
  have hx : ((flF dD.fs).drop ((1 : Int).toNat * 4)).take 4 = [.bool true, .int .u64 18446744073709547520, .bool false, .int .u64 0] := rfl
  have he : ∀ w, (Op.equalIn 10000 80 (.agg #[.bool true, .int .u64 18446744073709547520, .bool false, .int .u64 0]) (.agg #[.bool true, .int .u64 18446744073709547520, .bool false, .int .u64 0])).run Tryz.prog w = .ok true w := fun w => by rw [zph]; simp
  have hp : ∀ w, (Op.equalIn 10000 39 (.agg #[.int .u64 4, .int .i64 8, .int .u64 248]) (.agg #[.int .u64 4, .int .i64 8, .int .u64 248])).run Tryz.prog w = .ok true w := fun w => by rw [PoolC4.zru 9998]; rfl
  refine zaf 115 Tryz.func8 rfl rfl rfl rfl ?_ GG.to
  intro W A hG
  repeat (first | (refine zai rfl ?_; first | refine gdr (zaa (.inr rfl) rfl) ?_) | refine zad rfl ?_ | refine zac (fun K hK => ?_))
  first
    | (refine hK _ ?_; clear hK K)
    | (rename_i K1 hK1; refine hK1 _ ?_; clear hK hK1; clear K)
    | (rename_i K1 hK1; refine hK1 _ ?_; clear hK1)
  repeat (first | (refine zai rfl ?_; first | refine gdr (zaa (.inl rfl) rfl) ?_ | refine gdr (zan rfl rfl rfl rfl) ?_ | refine gdr (zae rfl rfl rfl rfl rfl) ?_ | refine gnk 1 rfl (zbg rfl rfl rfl rfl rfl rfl rfl) ?_ | refine gdr (zar rfl rfl rfl rfl) ?_ | refine gdr (zab rfl rfl rfl (hN) (by kernel_rfl)) ?_) | refine zad rfl ?_ | refine zac (fun K hK => ?_))
  first
    | (refine hK _ ?_; clear hK K)
    | (rename_i K1 hK1; refine hK1 _ ?_; clear hK hK1; clear K)
    | (rename_i K1 hK1; refine hK1 _ ?_; clear hK1)
  refine zd4 (zas [(1, .m (.c (.p 1 0)))] [(1, .live (.box c2.ce))] ⟨by kernel_rfl, trivial⟩ ⟨by kernel_rfl, trivial⟩ (by kernel_rfl)) ?_
  repeat (first | (refine zai rfl ?_; first | refine gdr (zae rfl rfl rfl rfl rfl) ?_ | refine gnk 1 rfl (zbg rfl rfl rfl rfl rfl rfl rfl) ?_ | refine gdr (zar rfl rfl rfl rfl) ?_) | refine zad rfl ?_ | refine zac (fun K hK => ?_))
  first
    | (refine hK _ ?_; clear hK K)
    | (rename_i K1 hK1; refine hK1 _ ?_; clear hK hK1; clear K)
    | (rename_i K1 hK1; refine hK1 _ ?_; clear hK1)
  refine zd4 (zas [(1, .m (.c (.p 1 0))), (3, .m (.c (.p 3 0)))] [(1, .live (.box c2.ce)), (3, .live (.box rr.ce))] ⟨by kernel_rfl, by kernel_rfl, trivial⟩ ⟨by kernel_rfl, by kernel_rfl, trivial⟩ (by kernel_rfl)) ?_
  repeat (first | (refine zai rfl ?_; first | refine gdr (zaa (.inl rfl) rfl) ?_ | refine gnk 1 rfl (za2 tb rfl rfl rfl rfl rfl) ?_ | refine gdr (zaa (.inr rfl) rfl) ?_ | refine gdr (zan rfl rfl rfl rfl) ?_ | refine gdr (zae rfl rfl rfl rfl rfl) ?_ | refine gnk 1 rfl (zbg rfl rfl rfl rfl rfl rfl rfl) ?_ | refine gdr (zab rfl rfl rfl (hA) (by kernel_rfl)) ?_) | refine zad rfl ?_ | refine zac (fun K hK => ?_))
  first
    | (refine hK _ ?_; clear hK K)
    | (rename_i K1 hK1; refine hK1 _ ?_; clear hK hK1; clear K)
    | (rename_i K1 hK1; refine hK1 _ ?_; clear hK1)
  refine zd4 (zas [(1, .m (.c (.p 1 0))), (3, .m (.c (.p 3 0))), (4, .m (.c (.p 4 0)))] [(1, .live (.box c2.ce)), (3, .live (.box rr.ce)), (4, .live (.box dA.ce))] ⟨by kernel_rfl, by kernel_rfl, by kernel_rfl, trivial⟩ ⟨by kernel_rfl, by kernel_rfl, by kernel_rfl, trivial⟩ (by kernel_rfl)) ?_
  repeat (first | (refine zai rfl ?_; first | refine gdr (zaa (.inl rfl) rfl) ?_ | refine gnk 1 rfl (za2 tb rfl rfl rfl rfl rfl) ?_ | refine gdr (zaa (.inr rfl) rfl) ?_ | refine gdr (zan rfl rfl rfl rfl) ?_ | refine gdr (zae rfl rfl rfl rfl rfl) ?_ | refine gnk 1 rfl (zbg rfl rfl rfl rfl rfl rfl rfl) ?_ | refine gdr (zab rfl rfl rfl (hB) (by kernel_rfl)) ?_) | refine zad rfl ?_ | refine zac (fun K hK => ?_))
  first
    | (refine hK _ ?_; clear hK K)
    | (rename_i K1 hK1; refine hK1 _ ?_; clear hK hK1; clear K)
    | (rename_i K1 hK1; refine hK1 _ ?_; clear hK1)
  refine zd4 (zas [(1, .m (.c (.p 1 0))), (3, .m (.c (.p 3 0))), (4, .m (.c (.p 4 0))), (6, .m (.c (.p 6 0)))] [(1, .live (.box c2.ce)), (3, .live (.box rr.ce)), (4, .live (.box dA.ce)), (6, .live (.box dB.ce))] ⟨by kernel_rfl, by kernel_rfl, by kernel_rfl, by kernel_rfl, trivial⟩ ⟨by kernel_rfl, by kernel_rfl, by kernel_rfl, by kernel_rfl, trivial⟩ (by kernel_rfl)) ?_
  repeat (first | (refine zai rfl ?_; first | refine gdr (zaa (.inl rfl) rfl) ?_ | refine gnk 1 rfl (za2 tb rfl rfl rfl rfl rfl) ?_ | refine gdr (zaa (.inr rfl) rfl) ?_ | refine gdr (zan rfl rfl rfl rfl) ?_ | refine gdr (zae rfl rfl rfl rfl rfl) ?_ | refine gnk 1 rfl (zbg rfl rfl rfl rfl rfl rfl rfl) ?_ | refine gdr (zab rfl rfl rfl (hC) (by kernel_rfl)) ?_) | refine zad rfl ?_ | refine zac (fun K hK => ?_))
  first
    | (refine hK _ ?_; clear hK K)
    | (rename_i K1 hK1; refine hK1 _ ?_; clear hK hK1; clear K)
    | (rename_i K1 hK1; refine hK1 _ ?_; clear hK1)
  refine zd4 (zas [(1, .m (.c (.p 1 0))), (3, .m (.c (.p 3 0))), (4, .m (.c (.p 4 0))), (6, .m (.c (.p 6 0))), (8, .m (.c (.p 8 0))), (9, .m (ii 0))] [(1, .live (.box c2.ce)), (3, .live (.box rr.ce)), (4, .live (.box dA.ce)), (6, .live (.box dB.ce)), (8, .live (.box dC.ce))] ⟨by kernel_rfl, by kernel_rfl, by kernel_rfl, by kernel_rfl, by kernel_rfl, by kernel_rfl, trivial⟩ ⟨by kernel_rfl, by kernel_rfl, by kernel_rfl, by kernel_rfl, by kernel_rfl, trivial⟩ (by kernel_rfl)) ?_
  repeat (first | (refine zai rfl ?_; first | refine gdr (zaa (.inl rfl) rfl) ?_ | refine gnk 1 rfl (za2 tb rfl rfl rfl rfl rfl) ?_ | refine gdr (zaa (.inr rfl) rfl) ?_ | refine gdr (zan rfl rfl rfl rfl) ?_ | refine gdr (zae rfl rfl rfl rfl rfl) ?_ | refine gnk 1 rfl (zbg rfl rfl rfl rfl rfl rfl rfl) ?_ | refine gdr (zab rfl rfl rfl (hF) (by kernel_rfl)) ?_) | refine zad rfl ?_ | refine zac (fun K hK => ?_))
  first
    | (refine hK _ ?_; clear hK K)
    | (rename_i K1 hK1; refine hK1 _ ?_; clear hK hK1; clear K)
    | (rename_i K1 hK1; refine hK1 _ ?_; clear hK1)
  refine zd4 (zas [(1, .m (.c (.p 1 0))), (3, .m (.c (.p 3 0))), (4, .m (.c (.p 4 0))), (6, .m (.c (.p 6 0))), (8, .m (.c (.p 8 0))), (9, .m (ii 0)), (11, .m (ii 7))] [(1, .live (.box c2.ce)), (3, .live (.box rr.ce)), (4, .live (.box dA.ce)), (6, .live (.box dB.ce)), (8, .live (.box dC.ce))] ⟨by kernel_rfl, by kernel_rfl, by kernel_rfl, by kernel_rfl, by kernel_rfl, by kernel_rfl, by kernel_rfl, trivial⟩ ⟨by kernel_rfl, by kernel_rfl, by kernel_rfl, by kernel_rfl, by kernel_rfl, trivial⟩ (by kernel_rfl)) ?_
  repeat (first | (refine zai rfl ?_; first | refine gdr (zaa (.inl rfl) rfl) ?_ | refine gnk 1 rfl (za2 tb rfl rfl rfl rfl rfl) ?_ | refine gdr (zaa (.inr rfl) rfl) ?_ | refine gdr (zan rfl rfl rfl rfl) ?_ | refine gdr (zae rfl rfl rfl rfl rfl) ?_ | refine gnk 1 rfl (zbg rfl rfl rfl rfl rfl rfl rfl) ?_ | refine gdr (zab rfl rfl rfl (hD) (by kernel_rfl)) ?_) | refine zad rfl ?_ | refine zac (fun K hK => ?_))
  first
    | (refine hK _ ?_; clear hK K)
    | (rename_i K1 hK1; refine hK1 _ ?_; clear hK hK1; clear K)
    | (rename_i K1 hK1; refine hK1 _ ?_; clear hK1)
  refine zd4 (zas [(1, .m (.c (.p 1 0))), (3, .m (.c (.p 3 0))), (4, .m (.c (.p 4 0))), (6, .m (.c (.p 6 0))), (8, .m (.c (.p 8 0))), (9, .m (ii 0)), (11, .m (ii 7)), (12, .m (.c (.p 12 0))), (13, .m (ii 0))] [(1, .live (.box c2.ce)), (3, .live (.box rr.ce)), (4, .live (.box dA.ce)), (6, .live (.box dB.ce)), (8, .live (.box dC.ce)), (12, .live (.box dD.ce))] ⟨by kernel_rfl, by kernel_rfl, by kernel_rfl, by kernel_rfl, by kernel_rfl, by kernel_rfl, by kernel_rfl, by kernel_rfl, by kernel_rfl, trivial⟩ ⟨by kernel_rfl, by kernel_rfl, by kernel_rfl, by kernel_rfl, by kernel_rfl, by kernel_rfl, trivial⟩ (by kernel_rfl)) ?_
  repeat (first | (refine zai rfl ?_; first | refine gdr (zaa (.inl rfl) rfl) ?_ | refine gnk 1 rfl (za2 tb rfl rfl rfl rfl rfl) ?_ | refine gdr (zaa (.inr rfl) rfl) ?_ | refine gdr (zan rfl rfl rfl rfl) ?_ | refine gdr (zae rfl rfl rfl rfl rfl) ?_ | refine gnk 1 rfl (zbg rfl rfl rfl rfl rfl rfl rfl) ?_ | refine gdr (zab rfl rfl rfl (hH) (by kernel_rfl)) ?_) | refine zad rfl ?_ | refine zac (fun K hK => ?_))
  first
    | (refine hK _ ?_; clear hK K)
    | (rename_i K1 hK1; refine hK1 _ ?_; clear hK hK1; clear K)
    | (rename_i K1 hK1; refine hK1 _ ?_; clear hK1)
  refine zd4 (zas [(1, .m (.c (.p 1 0))), (3, .m (.c (.p 3 0))), (4, .m (.c (.p 4 0))), (6, .m (.c (.p 6 0))), (8, .m (.c (.p 8 0))), (9, .m (ii 0)), (11, .m (ii 7)), (12, .m (.c (.p 12 0))), (13, .m (ii 0)), (15, .m (ii 4))] [(1, .live (.box c2.ce)), (3, .live (.box rr.ce)), (4, .live (.box dA.ce)), (6, .live (.box dB.ce)), (8, .live (.box dC.ce)), (12, .live (.box dD.ce))] ⟨by kernel_rfl, by kernel_rfl, by kernel_rfl, by kernel_rfl, by kernel_rfl, by kernel_rfl, by kernel_rfl, by kernel_rfl, by kernel_rfl, by kernel_rfl, trivial⟩ ⟨by kernel_rfl, by kernel_rfl, by kernel_rfl, by kernel_rfl, by kernel_rfl, by kernel_rfl, trivial⟩ (by kernel_rfl)) ?_
  repeat (first | (refine zai rfl ?_; first | refine gdr (zaa (.inl rfl) rfl) ?_ | refine gnk 1 rfl (za2 tb rfl rfl rfl rfl rfl) ?_ | refine gnx 1 rfl (zba tb rfl rfl rfl) rfl ?_ | refine gdr (za5 rfl rfl rfl rfl) ?_ | refine gdr (zar rfl rfl rfl rfl) ?_ | refine gdr (zaz rfl rfl rfl rfl rfl rfl rfl rfl rfl rfl rfl) ?_) | refine za3 (by kernel_rfl) (by kernel_rfl) rfl ?_ | refine zac (fun K hK => ?_))
  refine zai rfl ?_
  refine zgz (zd5 (b := 60) (l := [.c (.s dC.fs.length 4 (flF dC.fs)), .c (.o 60)]) rfl rfl rfl (by kernel_rfl) rfl (by kernel_rfl) (zhy (by kernel_rfl) hS)) (by kernel_rfl) ?_
  repeat (first | (refine zai rfl ?_; first | refine gdr (zaa (.inl rfl) rfl) ?_ | refine gnk 1 rfl (za2 tb rfl rfl rfl rfl rfl) ?_ | refine gnx 1 rfl (zba tb rfl rfl rfl) rfl ?_ | refine gdr (zak rfl rfl rfl) ?_ | refine gdr (za5 rfl rfl rfl rfl) ?_ | refine gdr (zah rfl rfl rfl rfl) ?_ | refine gnx 3 rfl (zav tb rfl rfl rfl rfl (by first | kernel_rfl | rfl)) rfl ?_ | refine gdr (zar rfl rfl rfl rfl) ?_ | (refine zg4 98 rfl ?_; refine gdr (zab rfl rfl rfl (hI1) (by kernel_rfl)) ?_) | (refine zg4 104 rfl ?_; refine gdr (zab rfl rfl rfl (hI2) (by kernel_rfl)) ?_) | refine gdr (zjq (n := 17) rfl rfl rfl rfl rfl rfl rfl rfl rfl rfl (by decide) (by decide) rfl) ?_ | refine gdr (zay rfl rfl rfl rfl rfl rfl (by decide) (by decide) _ hx) ?_ | refine gdr (zdg (us := [.bool true, .int .u64 18446744073709547520, .bool false, .int .u64 0]) (vs := [.bool true, .int .u64 18446744073709547520, .bool false, .int .u64 0]) he (by kernel_rfl) rfl rfl rfl rfl) ?_ | refine gdr (zdg (us := [.int .u64 4, .int .i64 8, .int .u64 248]) (vs := [.int .u64 4, .int .i64 8, .int .u64 248]) hp (by kernel_rfl) rfl rfl rfl rfl) ?_))
  refine zai rfl ?_
  refine zgz (zd5 (b := 110) (l := [.ag c2.ce, ii 1, .c (.o 110)]) rfl rfl rfl (by kernel_rfl) rfl (by kernel_rfl) (zhy (by kernel_rfl) hZ)) (by kernel_rfl) ?_
  repeat (first | (refine zai rfl ?_; first | refine gdr (zaa (.inr rfl) rfl) ?_ | refine gdr (zak rfl rfl rfl) ?_ | refine gdr (za5 rfl rfl rfl rfl) ?_ | refine gdr (zah rfl rfl rfl rfl) ?_) | (refine hK _ ?_; clear hK K) | exact zao (show za6 _ _ _ = some _ by kernel_rfl))
end Go.Proofs.YtmkjfeamgknpfaaGreatDoor.LkF
namespace Go.Proofs.YtmkjfeamgknpfaaGreatDoor.LaJ
open Go.RowKit Bv VaSpec Base MemL RegR Ax MemC PutC MemC3 TzC OkS SpA SpB SpC SpD SpE SpF SpG SpH SpI SpJ SpK SpN RfD RfE LaA LaB LaC LaD LaE LaF LaG LaH LaI RlB RlC
open BitsC PteSpec
set_option maxRecDepth 10000
set_option maxHeartbeats 1000000
attribute [local irreducible] Ax.zb4
structure Rq where
  id : Int
  va : Int
  pa : Int
  lev : Int
  p : Pm
deriving DecidableEq
def Rq.ce (q : Rq) : List Ce := [ci q.id, cu q.va, cu q.pa, ci q.lev, cb q.p.r, cb q.p.w, cb q.p.x, cb q.p.u]
def Rq.vs (q : Rq) : List Value := [.int .i64 q.id, .int .u64 q.va, .int .u64 q.pa, .int .i64 q.lev, .bool q.p.r, .bool q.p.w, .bool q.p.x, .bool q.p.u]
theorem z0m {n : Nat} {k : Kr} (h : InvL n k) (hn : n ≤ 100000) : Ok 13 [.ag k.ce, .ag k.ce] (.m (ib true)) ∧ Ok 20 [.ag k.ce] (.m (.ag k.ce)) := by
  have b1 := h.ml
  have b2 := h.fl
  have b3 := h.sl
  exact ⟨SpM.zxs k h.ts h.cs.2 (by omega) (by omega) (by omega), SpM.zst k h.ts h.cs.2 (by omega) (by omega) (by omega)⟩
end Go.Proofs.YtmkjfeamgknpfaaGreatDoor.LaJ
namespace Go.Proofs.YtmkjfeamgknpfaaGreatDoor.LkG
open Go.RowKit Bv VaSpec Base MemL RegR Ax MemC PutC MemC3 TzC OkS SpA SpB SpC SpF SpH SpI SpJ LaA LaB LaC LaD LaE LaF LaG LiA LiB LiC LiD LiE LiF SpE SpG SpK SpO SpL SpN RfA RfB RfC RfD RfE RfJ RfK RlA RlB RlC LaH LaI LaJ LjA LjB LjF LiF LkE LkF
open BitsC PteSpec
set_option maxRecDepth 10000
set_option maxHeartbeats 1000000
attribute [local irreducible] Ax.zb4
def zvo (l : List Dd) : List Value := l.flatMap Dd.vs
theorem zyt {l : List Dd} {k : Nat} {d : Dd} (h : l[k]? = some d) : ((zvo l).drop (k * 9)).take 9 = [.bool d.lift, .int .i64 d.id, .int .u64 d.va, .int .u64 d.pa, .int .i64 d.lev, .bool d.p.r, .bool d.p.w, .bool d.p.x, .bool d.p.u] := zfe Dd.vs 9 (fun _ => rfl) l _ d h
theorem z1h : ((List.range 65).all fun b => decide (b < 3) || (decide (zbq (zcq b) (tzI (zcq b)) 1 0 ≠ 0) && decide (zbq (zbq (zcq b) (tzI (zcq b)) 1 0) (tzI (zbq (zcq b) (tzI (zcq b)) 1 0)) 1 0 ≠ 0))) = true := by kernel_rfl
theorem z1i : ((List.range 17).all fun c => decide (c < 2) || (decide (zcq c ≠ 0) && decide (zbq (zcq c) (tzI (zcq c)) 1 0 ≠ 0))) = true := by kernel_rfl
theorem z0n {k : Kr} (h1 : k.ss.length < 32) (h2 : k.af ≠ 0) (h3 : k.pf ≠ 0) : (∃ r a, (zbk k).1.ss = k.ss ++ [⟨r, a, true⟩]) ∧ (zbk k).1.af = zbq k.af (tzI k.af) 1 0 ∧ (zbk k).1.pf = zbq k.pf (tzI k.pf) 1 0 := by
  unfold zbk
  rw [if_neg (by omega), if_neg h2, if_neg h3]
  split
  · exact ⟨⟨_, _, rfl⟩, rfl, rfl⟩
  · exact ⟨⟨_, _, rfl⟩, rfl, rfl⟩
theorem zvp {a b c : Int} {n : Nat} (h : zfm a b c n = true) (hb : 3 ≤ b) (hc : 2 ≤ c) (id : Int) (h0 : id = 0 ∨ id = 1) : zb2 (bgK a b c n) id = true := by
  obtain ⟨⟨_, _⟩, ⟨b0, b1⟩, ⟨c0, c1⟩, _⟩ := zcu.1 h
  obtain ⟨b, rfl⟩ := Int.eq_ofNat_of_zero_le (show 0 ≤ b by omega)
  obtain ⟨c, rfl⟩ := Int.eq_ofNat_of_zero_le (show 0 ≤ c by omega)
  have e1 := List.all_eq_true.1 z1h b (List.mem_range.2 (by omega))
  have e2 := List.all_eq_true.1 z1i c (List.mem_range.2 (by omega))
  rw [decide_eq_false (show ¬ b < 3 by omega), Bool.false_or, Bool.and_eq_true] at e1
  rw [decide_eq_false (show ¬ c < 2 by omega), Bool.false_or, Bool.and_eq_true] at e2
  have p0 := of_decide_eq_true e1.1
  have p1 := of_decide_eq_true e1.2
  have q0 := of_decide_eq_true e2.1
  have q1 := of_decide_eq_true e2.2
  obtain ⟨⟨r, x, s1⟩, s2, s3⟩ := z0n (k := zlh a b c n) (show 0 < 32 by omega) q0 p0
  have s1 : (zbk (zlh a b c n)).1.ss = [⟨r, x, true⟩] := s1
  have s2 : (zbk (zlh a b c n)).1.af = zbq (zcq c) (tzI (zcq c)) 1 0 := s2
  have s3 : (zbk (zlh a b c n)).1.pf = zbq (zbq (zcq b) (tzI (zcq b)) 1 0) (tzI (zbq (zcq b) (tzI (zcq b)) 1 0)) 1 0 := s3
  obtain ⟨⟨r', x', t1⟩, _⟩ := z0n (k := (zbk (zlh a b c n)).1) (by rw [s1]; show 1 < 32; omega) (by rw [s2]; exact q1) (by rw [s3]; exact p1)
  have t1 : (bgK a b c n).ss = [⟨r, x, true⟩, ⟨r', x', true⟩] := by rw [show (bgK a b c n).ss = (zbk (zbk (zlh a b c n)).1).1.ss from rfl, t1, s1]; rfl
  unfold zb2
  rw [t1]
  rcases h0 with rfl | rfl <;> rfl
def zos (l : List Dd) (e : Dd) (i : Nat) (k : Kr) : St := St.of [(1, .m (.c (.s l.length 9 (zvo l)))), (5, .m (.c (.p 5 0))), (6, .m (ib false)), (7, .m (.c (.p 7 0))), (9, .m (ii i))] [(5, .live (.box e.ce)), (7, .live (.box k.ce))]
theorem keeps3_ok (a b c d : Int) (l : List Dd) (e : Dd) (hl : ∀ x ∈ l, UD x) (he : UD e) : Ok 5 [zjl a b c d, .c (.s l.length 9 (zvo l)), .ag e.ce] (.m (ib true)) := by
  have hm := zsu a b c d
  cases hc : zfm a b c d with
  | false =>
    rw [hc] at hm
    refine zaf 65 Tryz.func5 rfl rfl rfl rfl ?_ GG.to
    intro W A hG
    repeat (first | (refine zai rfl ?_; first | refine gdr (zaw rfl) ?_ | refine gdr (zaa (.inl rfl) rfl) ?_ | refine gnk 1 rfl (za2 tb rfl rfl rfl rfl rfl) ?_ | refine gdr (zaa (.inr rfl) rfl) ?_ | refine gdr (zak rfl rfl rfl) ?_ | refine gdr (zag rfl rfl rfl rfl rfl rfl) ?_ | refine gdr (zau rfl rfl rfl) ?_ | refine gdr (zab rfl rfl rfl (zc8) (by kernel_rfl)) ?_ | refine gdr (zab rfl rfl rfl (hm) (by kernel_rfl)) ?_) | (refine hK _ ?_; clear hK K) | refine zad rfl ?_ | exact zao (show za6 _ _ _ = some _ by kernel_rfl) | refine zal rfl rfl ?_ | refine zac (fun K hK => ?_))
  | true =>
    rw [hc] at hm
    by_cases hlen : 20 < l.length
    · refine zaf 65 Tryz.func5 rfl rfl rfl rfl ?_ GG.to
      intro W A hG
      repeat (first | (refine zai rfl ?_; first | refine gdr (zaa (.inl rfl) rfl) ?_ | refine gnk 1 rfl (za2 tb rfl rfl rfl rfl rfl) ?_ | refine gdr (zaa (.inr rfl) rfl) ?_ | refine gdr (zak rfl rfl rfl) ?_ | refine gdr (za5 rfl rfl rfl rfl) ?_ | refine gdr (zag rfl rfl rfl rfl rfl rfl) ?_ | refine gdr (zah rfl rfl rfl rfl) ?_ | refine gdr (zau rfl rfl rfl) ?_ | refine gdr (zab rfl rfl rfl (zc8) (by kernel_rfl)) ?_ | refine gdr (zab rfl rfl rfl (hm) (by kernel_rfl)) ?_) | (refine hK _ ?_; clear hK K) | refine zad rfl ?_ | exact zao (show za6 _ _ _ = some _ by kernel_rfl) | refine zal rfl rfl ?_ | refine zac (fun K hK => ?_))
    obtain ⟨n, rfl⟩ := Int.eq_ofNat_of_zero_le (zcu.1 hc).2.2.2.1
    have hb := zi7 a b c n hc
    have hbi := zth hc
    generalize bgK a b c n = bk at *
    refine zaf 65 Tryz.func5 rfl rfl rfl rfl ?_ GG.to
    intro W A hG
    repeat (first | (refine zai rfl ?_; first | refine gdr (zaa (.inl rfl) rfl) ?_ | refine gnk 1 rfl (za2 tb rfl rfl rfl rfl rfl) ?_ | refine gdr (zaa (.inr rfl) rfl) ?_ | refine gdr (zak rfl rfl rfl) ?_ | refine gdr (zan rfl rfl rfl rfl) ?_ | refine gdr (za5 rfl rfl rfl rfl) ?_ | refine gdr (zag rfl rfl rfl rfl rfl rfl) ?_ | refine gdr (zae rfl rfl rfl rfl rfl) ?_ | refine gnk 1 rfl (zbg rfl rfl rfl rfl rfl rfl rfl) ?_ | refine gdr (zah rfl rfl rfl rfl) ?_ | refine gdr (zau rfl rfl rfl) ?_ | refine gdr (zab rfl rfl rfl (zc8) (by kernel_rfl)) ?_ | refine gdr (zab rfl rfl rfl (hm) (by kernel_rfl)) ?_ | refine gdr (zab rfl rfl rfl (hb) (by kernel_rfl)) ?_) | (refine hK _ ?_; clear hK K) | refine zad rfl ?_ | refine zaj rfl rfl ?_ | refine zam ?_ | refine zaq ?_ | refine zac (fun K hK => ?_))
    refine zbb (α := Nat × Kr) (fun p => p.1 ≤ l.length ∧ InvT (2 + 1100 * p.1) p.2) (fun p => zos l e p.1 p.2) (fun p => l.length - p.1) (0, bk) ⟨Nat.zero_le _, hbi⟩ (zas _ _ ⟨by kernel_rfl, by kernel_rfl, by kernel_rfl, by kernel_rfl, by kernel_rfl, trivial⟩ ⟨by kernel_rfl, by kernel_rfl, trivial⟩ (by kernel_rfl)) ?_
    rintro ⟨i, k⟩ ⟨hi0, hk0⟩
    have hi : i ≤ l.length := hi0
    have hk : InvT (2 + 1100 * i) k := hk0
    show Aw _ _ _ _ (zos l e i k)
    unfold zos
    by_cases hlt : i < l.length
    · obtain ⟨x, hx0⟩ : ∃ x, l[i]? = some x := ⟨_, List.getElem?_eq_getElem hlt⟩
      have hx := zyt hx0
      have h8 := hl x (List.mem_of_getElem? hx0)
      have hd := z1g hk (by omega) h8
      have hdi := zys hk h8
      generalize ddR k x = rr at *
      repeat (first | (refine zai rfl ?_; first | refine gdr (zaa (.inl rfl) rfl) ?_ | refine gnk 1 rfl (za2 tb rfl rfl rfl rfl rfl) ?_ | refine gdr (zaa (.inr rfl) rfl) ?_ | refine gdr (zan rfl rfl rfl rfl) ?_ | refine gdr (za5 rfl rfl rfl rfl) ?_ | refine gdr (gar rfl rfl rfl rfl) ?_ | refine gnk 1 rfl (zbg rfl rfl rfl rfl rfl rfl rfl) ?_ | refine gdr (zah rfl rfl rfl rfl) ?_ | refine gnx 3 rfl (zav tb rfl rfl rfl rfl (by first | kernel_rfl | rfl)) rfl ?_ | refine gnx 4 rfl (zay rfl rfl rfl rfl rfl rfl (by omega) (by omega) _ (by assumption)) rfl ?_ | refine gdr (zab rfl rfl rfl (hd) (by kernel_rfl)) ?_) | (refine hK _ ?_; clear hK K) | refine zad rfl ?_ | refine za3 (by kernel_rfl) (by kernel_rfl) rfl ?_ | refine zal rfl rfl ?_ | refine zam ?_ | refine zaq ?_ | refine zac (fun K hK => ?_))
      exact ⟨(i + 1, rr.1), ⟨by show i + 1 ≤ l.length; omega, hdi⟩, by show l.length - (i + 1) < l.length - i; omega, zas _ _ ⟨by kernel_rfl, by kernel_rfl, by kernel_rfl, by kernel_rfl, by kernel_rfl, trivial⟩ ⟨by kernel_rfl, by kernel_rfl, trivial⟩ (by kernel_rfl)⟩
    · have hd := zek hk (by omega) e.id e.va e.lev he.1
      obtain ⟨hsm, hcp⟩ := z0m hk.l (by omega)
      have hls := zpx hk (by omega) e.id e.va e.lev he.1
      generalize unR k e.id e.va e.lev = rr at *
      generalize inR k e.id e.va e.lev = ll at *
      repeat (first | (refine zai rfl ?_; first | refine gdr (zaa (.inl rfl) rfl) ?_ | refine gnk 1 rfl (za2 tb rfl rfl rfl rfl rfl) ?_ | refine gnx 1 rfl (zba tb rfl rfl rfl) rfl ?_ | refine gdr (zaa (.inr rfl) rfl) ?_ | refine gdr (za5 rfl rfl rfl rfl) ?_ | refine gdr (zae rfl rfl rfl rfl rfl) ?_ | refine gnk 1 rfl (zbg rfl rfl rfl rfl rfl rfl rfl) ?_ | refine gdr (zah rfl rfl rfl rfl) ?_ | refine gdr (zab rfl rfl rfl (hcp) (by kernel_rfl)) ?_ | refine gdr (zab rfl rfl rfl (hd) (by kernel_rfl)) ?_ | refine gdr (zab rfl rfl rfl (hsm) (by kernel_rfl)) ?_ | refine gdr (zab rfl rfl rfl (hls) (by kernel_rfl)) ?_) | (refine hK _ ?_; clear hK K) | (rename_i K1 hK1; refine hK1 _ ?_; clear hK hK1; clear K) | refine zad rfl ?_ | exact zao (show za6 _ _ _ = some _ by kernel_rfl) | refine zaj rfl rfl ?_ | refine zbi ?_ | refine zac (fun K hK => ?_))
theorem z1j (k : Kr) (id : Int) (l : List Pg) : (zd1 k id l).length ≤ l.length := by
  unfold zd1
  split
  · simp only [List.length_cons, List.length_nil]; omega
  · rw [List.length_map]; exact Nat.le_refl _
theorem z1k (k : Kr) (id : Int) (l : List Pg) (h : 0 < l.length) : 0 < (zd1 k id l).length := by
  unfold zd1
  split
  · simp
  · rw [List.length_map]; exact h
theorem fences3_ok (a b c d : Int) (x : Int) (hx : 0 ≤ x ∧ x < 256) (l : List Pg) (hU : ∀ y ∈ l, U y.va) : Ok 4 [zjl a b c d, .c (i8 x), .c (.s l.length 8 (flP l))] (.m (ib true)) := by
  have hm := zsu a b c d
  cases hc : zfm a b c d with
  | false =>
    rw [hc] at hm
    refine zaf 74 Tryz.func4 rfl rfl rfl rfl ?_ GG.to
    intro W A hG
    repeat (first | (refine zai rfl ?_; first | refine gdr (zaw rfl) ?_ | refine gdr (zaa (.inl rfl) rfl) ?_ | refine gnk 1 rfl (za2 tb rfl rfl rfl rfl rfl) ?_ | refine gdr (zaa (.inr rfl) rfl) ?_ | refine gdr (zak rfl rfl rfl) ?_ | refine gdr (zag rfl rfl rfl rfl rfl rfl) ?_ | refine gdr (zau rfl rfl rfl) ?_ | refine gdr (zab rfl rfl rfl (zc8) (by kernel_rfl)) ?_ | refine gdr (zab rfl rfl rfl (hm) (by kernel_rfl)) ?_) | (refine hK _ ?_; clear hK K) | refine zad rfl ?_ | exact zao (show za6 _ _ _ = some _ by kernel_rfl) | refine zal rfl rfl ?_ | refine zac (fun K hK => ?_))
  | true =>
    rw [hc] at hm
    by_cases h1 : b < 3
    · refine zaf 74 Tryz.func4 rfl rfl rfl rfl ?_ GG.to
      intro W A hG
      repeat (first | (refine zai rfl ?_; first | refine gdr (zaw rfl) ?_ | refine gdr (zaa (.inl rfl) rfl) ?_ | refine gnk 1 rfl (za2 tb rfl rfl rfl rfl rfl) ?_ | refine gnx 1 rfl (zba tb rfl rfl rfl) rfl ?_ | refine gdr (zaa (.inr rfl) rfl) ?_ | refine gdr (zak rfl rfl rfl) ?_ | refine gdr (za5 rfl rfl rfl rfl) ?_ | refine gdr (zag rfl rfl rfl rfl rfl rfl) ?_ | refine gdr (zau rfl rfl rfl) ?_ | refine gdr (zab rfl rfl rfl (zc8) (by kernel_rfl)) ?_ | refine gdr (zab rfl rfl rfl (hm) (by kernel_rfl)) ?_) | (refine hK _ ?_; clear hK K) | refine zad rfl ?_ | exact zao (show za6 _ _ _ = some _ by kernel_rfl) | refine zal rfl rfl ?_ | refine zac (fun K hK => ?_))
    by_cases h2 : c < 2
    · refine zaf 74 Tryz.func4 rfl rfl rfl rfl ?_ GG.to
      intro W A hG
      repeat (first | (refine zai rfl ?_; first | refine gdr (zaw rfl) ?_ | refine gdr (zaa (.inl rfl) rfl) ?_ | refine gnk 1 rfl (za2 tb rfl rfl rfl rfl rfl) ?_ | refine gnx 1 rfl (zba tb rfl rfl rfl) rfl ?_ | refine gdr (zaa (.inr rfl) rfl) ?_ | refine gdr (zak rfl rfl rfl) ?_ | refine gdr (za5 rfl rfl rfl rfl) ?_ | refine gdr (zag rfl rfl rfl rfl rfl rfl) ?_ | refine gdr (zau rfl rfl rfl) ?_ | refine gdr (zab rfl rfl rfl (zc8) (by kernel_rfl)) ?_ | refine gdr (zab rfl rfl rfl (hm) (by kernel_rfl)) ?_) | (refine hK _ ?_; clear hK K) | refine zad rfl ?_ | exact zao (show za6 _ _ _ = some _ by kernel_rfl) | refine zal rfl rfl ?_ | refine zac (fun K hK => ?_))
    by_cases h3 : 60 < l.length
    · refine zaf 74 Tryz.func4 rfl rfl rfl rfl ?_ GG.to
      intro W A hG
      repeat (first | (refine zai rfl ?_; first | refine gdr (zaa (.inl rfl) rfl) ?_ | refine gnk 1 rfl (za2 tb rfl rfl rfl rfl rfl) ?_ | refine gnx 1 rfl (zba tb rfl rfl rfl) rfl ?_ | refine gdr (zaa (.inr rfl) rfl) ?_ | refine gdr (zak rfl rfl rfl) ?_ | refine gdr (za5 rfl rfl rfl rfl) ?_ | refine gdr (zag rfl rfl rfl rfl rfl rfl) ?_ | refine gdr (zah rfl rfl rfl rfl) ?_ | refine gdr (zau rfl rfl rfl) ?_ | refine gdr (zab rfl rfl rfl (zc8) (by kernel_rfl)) ?_ | refine gdr (zab rfl rfl rfl (hm) (by kernel_rfl)) ?_) | (refine hK _ ?_; clear hK K) | refine zad rfl ?_ | exact zao (show za6 _ _ _ = some _ by kernel_rfl) | refine zal rfl rfl ?_ | refine zac (fun K hK => ?_))
    obtain ⟨n, rfl⟩ := Int.eq_ofNat_of_zero_le (zcu.1 hc).2.2.2.1
    have hb := zi7 a b c n hc
    have hlv := zvp hc (by omega) (by omega)
    have hq : ∀ w : Int, w = x % 3 - 1 → Ok 17 [.ag (bgK a b c n).ce, ii w, .c (.s l.length 8 (flP l))] (.m (.c (.s (zd1 (bgK a b c n) w l).length 4 (flF (zd1 (bgK a b c n) w l))))) ∧ Ok 19 [.ag (bgK a b c n).ce, ii w, .c (.s l.length 8 (flP l))] (.m (.c (.s (zd1 (bgK a b c n) w l).length 4 (flF (zd1 (bgK a b c n) w l))))) := by
      intro w hw
      by_cases e : w = -1
      · exact ⟨ztn _ w l e (by omega), zyn _ w l e (by omega)⟩
      · have := hlv w (by omega)
        exact ⟨zor _ w l e this (by omega), zyp _ w l e this (by omega)⟩
    generalize bgK a b c n = bk at *
    obtain ⟨hf, hr⟩ := hq _ rfl
    have g1 := zld bk (x % 3 - 1) l
    have g2 := z1j bk (x % 3 - 1) l
    have g3 := z1k bk (x % 3 - 1) l
    have hs := zkw (zd1 bk (x % 3 - 1) l) (by omega)
    generalize zd1 bk (x % 3 - 1) l = ff at *
    refine zaf 74 Tryz.func4 rfl rfl rfl rfl ?_ GG.to
    intro W A hG
    by_cases h0 : l.length = 0
    · have : ff.length = 0 := by omega
      repeat (first | (refine zai rfl ?_; first | refine gdr (zaa (.inl rfl) rfl) ?_ | refine gnk 1 rfl (za2 tb rfl rfl rfl rfl rfl) ?_ | refine gnx 1 rfl (zba tb rfl rfl rfl) rfl ?_ | refine gdr (zaa (.inr rfl) rfl) ?_ | refine gdr (zak rfl rfl rfl) ?_ | refine gdr (zan rfl rfl rfl rfl) ?_ | refine gdr (za5 rfl rfl rfl rfl) ?_ | refine gdr (gar rfl rfl rfl rfl) ?_ | refine gdr (gcv rfl rfl rfl rfl rfl) ?_ | refine gdr (zl2 rfl rfl rfl rfl (by omega) (by omega)) ?_ | refine gdr (zag rfl rfl rfl rfl rfl rfl) ?_ | refine gdr (zae rfl rfl rfl rfl rfl) ?_ | refine gnk 1 rfl (zbg rfl rfl rfl rfl rfl rfl rfl) ?_ | refine gdr (zah rfl rfl rfl rfl) ?_ | refine gdr (zau rfl rfl rfl) ?_ | refine gdr (zee rfl rfl rfl rfl rfl) ?_ | refine gdr (zab rfl rfl rfl (zc8) (by kernel_rfl)) ?_ | refine gdr (zab rfl rfl rfl (hm) (by kernel_rfl)) ?_ | refine gdr (zab rfl rfl rfl (hb) (by kernel_rfl)) ?_ | refine gdr (zab rfl rfl rfl (hf) (by kernel_rfl)) ?_ | refine gdr (zab rfl rfl rfl (hr) (by kernel_rfl)) ?_ | refine gdr (zab rfl rfl rfl (hs) (by kernel_rfl)) ?_) | (refine hK _ ?_; clear hK K) | refine zad rfl ?_ | exact zao (show za6 _ _ _ = some _ by kernel_rfl) | refine zaj rfl rfl ?_ | refine zaq ?_ | refine zac (fun K hK => ?_))
    · have := g3 (by omega)
      repeat (first | (refine zai rfl ?_; first | refine gdr (zaa (.inl rfl) rfl) ?_ | refine gnk 1 rfl (za2 tb rfl rfl rfl rfl rfl) ?_ | refine gnx 1 rfl (zba tb rfl rfl rfl) rfl ?_ | refine gdr (zaa (.inr rfl) rfl) ?_ | refine gdr (zak rfl rfl rfl) ?_ | refine gdr (zan rfl rfl rfl rfl) ?_ | refine gdr (za5 rfl rfl rfl rfl) ?_ | refine gdr (gar rfl rfl rfl rfl) ?_ | refine gdr (gcv rfl rfl rfl rfl rfl) ?_ | refine gdr (zl2 rfl rfl rfl rfl (by omega) (by omega)) ?_ | refine gdr (zag rfl rfl rfl rfl rfl rfl) ?_ | refine gdr (zae rfl rfl rfl rfl rfl) ?_ | refine gnk 1 rfl (zbg rfl rfl rfl rfl rfl rfl rfl) ?_ | refine gdr (zah rfl rfl rfl rfl) ?_ | refine gdr (zau rfl rfl rfl) ?_ | refine gdr (zee rfl rfl rfl rfl rfl) ?_ | refine gdr (zab rfl rfl rfl (zc8) (by kernel_rfl)) ?_ | refine gdr (zab rfl rfl rfl (hm) (by kernel_rfl)) ?_ | refine gdr (zab rfl rfl rfl (hb) (by kernel_rfl)) ?_ | refine gdr (zab rfl rfl rfl (hf) (by kernel_rfl)) ?_ | refine gdr (zab rfl rfl rfl (hr) (by kernel_rfl)) ?_ | refine gdr (zab rfl rfl rfl (hs) (by kernel_rfl)) ?_) | (refine hK _ ?_; clear hK K) | refine zad rfl ?_ | exact zao (show za6 _ _ _ = some _ by kernel_rfl) | refine zaj rfl rfl ?_ | refine zaq ?_ | refine zac (fun K hK => ?_))
end Go.Proofs.YtmkjfeamgknpfaaGreatDoor.LkG
namespace Go.Proofs.YtmkjfeamgknpfaaGreatDoor.Open
open Go.RowKit Go.WideShapes Go.ChangeShapes Base
set_option maxRecDepth 10000
section
variable {H : Type} {enc : TypeId × Value → H} {P : Program}
theorem keepAll (hl : laidOutB P = true) {W W' : World} (hb : Below W.heap.size W W') : ∀ {ts : List TypeId} {vs : List Value} {ds : List (DataW H)} {ps : List MemPlace},
    (ts.all fun t => P.readableRec t && decide (t < P.types.size)) = true → DataW.TrodAll enc P W 0 (fun _ => true) true ts vs ds ps → DataW.TrodAll enc P W' 0 (fun b => decide (b < W.heap.size)) true ts vs ds ps
  | [], [], [], _, _, h => h
  | t :: ts, v :: vs, d :: ds, ps, ht, ⟨a, b, h1, h2, e⟩ => by
    simp only [List.all_cons, Bool.and_eq_true, decide_eq_true_eq] at ht
    have h1' := h1
    obtain ⟨n, hn⟩ := h1
    exact ⟨a, b, Below.trod hl ht.1.1 ht.1.2 h1' hb (fun x hx => DataW.trod_lt n t _ _ hn x hx), keepAll hl hb ht.2 h2, e⟩
end
section
variable {H : Type} {enc : TypeId × Value → H} {W : World} {base b0 : Nat} {sp : Nat → Bool} {held : Bool} {n : Nat} {r : Reach}
theorem zcw {c : Value} {x : Option (DataW H × List MemPlace)} {y : DataW H × List MemPlace} (h : DataW.trod enc Tryz.prog W base sp held n 4 [c] = x) (hx : x = some y) : ∃ b, c = .bool b := by
  rw [hx] at h
  obtain ⟨b, e, _⟩ := DataW.trod_bool Tryz.underlying4 h
  exact ⟨b, by simpa using e⟩
theorem zh5 {c : Value} {x : Option (DataW H × List MemPlace)} {y : DataW H × List MemPlace} (h : DataW.trod enc Tryz.prog W base sp held n 25 [c] = x) (hx : x = some y) : ∃ a, c = .int .u64 a ∧ U a := by
  rw [hx] at h
  obtain ⟨b, e, _, wf⟩ := DataW.trod_int Tryz.underlying25 h
  exact ⟨b, by simpa using e, U.of wf⟩
theorem zey {c : Value} {x : Option (DataW H × List MemPlace)} {y : DataW H × List MemPlace} (h : DataW.trod enc Tryz.prog W base sp held n 3 [c] = x) (hx : x = some y) : ∃ a, c = .int .i64 a ∧ (-9223372036854775808 ≤ a ∧ a ≤ 9223372036854775807) := by
  rw [hx] at h
  obtain ⟨b, e, _, wf⟩ := DataW.trod_int Tryz.underlying3 h
  refine ⟨b, by simpa using e, ?_⟩
  simp [Lit.wf, IntKind.min, IntKind.max, IntKind.bits, IntKind.signed] at wf; omega
theorem zbx {α : Type} {xs : List α} {m i : Nat} (h : xs.length = m) (hi : i < m) : ∃ y, xs[i]? = some y := ⟨xs[i]'(by omega), List.getElem?_eq_getElem _⟩
end
end Go.Proofs.YtmkjfeamgknpfaaGreatDoor.Open
