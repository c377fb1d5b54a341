/- Texts of this claim, one behind the other: LnD, LnF, LnG, LnH, LnI. -/
import Derived.Test.YtomeaibdedaldaaGreatDoorP5
set_option linter.unusedVariables false
set_option linter.unusedSimpArgs false
namespace Go.Proofs.YtomeaibdedaldaaGreatDoor.LnD
open Go.RowKit Bv VaSpec Base MemL RegR Ax MemC PutC MemC3 TzC OkS SpA SpB SpC SpD SpE SpF SpN SpO SpG SpH SpI SpJ LaA LaB LaC LaD LaE LaF LaG LiA LiB LiC LiD LiE LiF LrA LrB LrC LjA LjF LkE LmA LmB LmE LnA LnB
open BitsC PteSpec RfE RfG RfJ RfK LaH RfA RfP RfQ
set_option maxRecDepth 10000
set_option maxHeartbeats 1000000
noncomputable def zkp (k : Kr) (id : Int) : Int → Tr := if id = -1 then zda k.sz k.m 1 k.sh else upd (zda k.sz k.m 2 (zcu k id).root) 511 .no
def zyp (id : Int) : Nat := if id = -1 then 1 else 2
structure Rts (k : Kr) : Prop where
  r : ∀ (i j : Nat) (s t : Sp), k.ss[i]? = some s → k.ss[j]? = some t → i ≠ j → s.live = true → t.live = true → s.root ≠ t.root
theorem zj5 (k : Kr) : zkp k (-1) = zda k.sz k.m 1 k.sh := if_pos rfl
theorem zgr (k : Kr) {id : Int} (h : id ≠ -1) : zkp k id = upd (zda k.sz k.m 2 (zcu k id).root) 511 .no := if_neg h
theorem zrz {n : Nat} {k : Kr} (h : InvT n k) (id : Int) : zs1 k id = if id = -1 then z4b 1 kA (zkp k id) else if za5 k id = false then [] else z4b 2 0 (zkp k id) := by
  obtain ⟨lv, hT, hs, hr⟩ := h.t
  unfold zs1
  by_cases c0 : id = -1
  · subst c0
    rw [if_pos rfl, if_pos rfl, zj5]
    exact zj4 hT 1 k.sh kA (by rw [hs]; rfl)
  · rw [if_neg c0, if_neg c0]
    by_cases c1 : za5 k id = false
    · rw [if_pos c1, if_pos c1]
    · rw [if_neg c1, if_neg c1, zgr k c0]
      have c1 : za5 k id = true := by simpa using c1
      obtain ⟨h0, h1, h2, hv⟩ := zdw c1
      have hrl := hr _ (List.mem_of_getElem? h2) hv
      have har := h.l.root c1
      have hown : ownM k id = zby k.m ((zcu k id).root * 512 + 511) 0 := rfl
      rw [hown]
      generalize (zcu k id).root = rt at *
      have b1 := hT.bd
      have bt := har.1
      have hat : ∀ s j, (0 ≤ j ∧ j < 512) → atM k.sz (zby k.m (rt * 512 + 511) 0) s j = if s = rt ∧ j = 511 then zP else atM k.sz k.m s j := fun s j hj => zh0 (cd := k.cd) (cp := k.cp) hT.s hT.bz (by omega) (by omega) s j hj
      have hTo : TI k.cd k.cp k.sz (zby k.m (rt * 512 + 511) 0) k.pf k.sh lv := hT.put bt (by omega) ⟨by omega, by omega⟩ hT.bf fun E' hE => hT.e.sub fun s j hj => by
        rw [hE s j hj, zom]
        split
        · exact .inl rfl
        · exact .inr rfl
      rw [zj4 hTo 2 rt 0 hrl]
      rw [ziq hT (l := 2) har hrl (i := 511) (by omega) (r := .no) (fun _ => False) (by rw [hat rt 511 (by omega), if_pos ⟨rfl, rfl⟩, zfx]) (fun s j hj _ hn _ => by rw [hat s j hj, if_neg hn]) (fun hh => hh) (fun _ _ _ _ _ _ _ _ hh => hh)]
structure Fit (k : Kr) (id a pa l : Int) (p : Pm) : Prop where
  w : (zan k id a l).2.2 = 0
  a : lk0 pa l = 0
  b : lk1 k pa l = 0
  c : lk2 p = 0
theorem zwf {k : Kr} {id a pa l : Int} {p : Pm} (he : (zc2 k id a pa l p).2 = 0) : Fit k id a pa l p := by
  unfold zc2 at he
  by_cases c0 : (zan k id a l).2.2 ≠ 0
  · rw [if_pos c0] at he; exact absurd he c0
  rw [if_neg c0] at he
  by_cases c1 : lk0 pa l ≠ 0
  · rw [if_pos c1] at he; exact absurd he c1
  rw [if_neg c1] at he
  by_cases c2 : lk1 k pa l ≠ 0
  · rw [if_pos c2] at he; exact absurd he c2
  rw [if_neg c2] at he
  by_cases c3 : lk2 p ≠ 0
  · rw [if_pos c3] at he; exact absurd he c3
  exact ⟨by omega, by omega, by omega, by omega⟩
theorem zwg (k : Kr) (id a pa l : Int) (p : Pm) : (zc2 k id a pa l p).1 = k ∨ ∃ D g, (zc2 k id a pa l p).1 = z17 k D a pa l p g := by
  unfold zc2
  (repeat' split) <;> first | exact .inl rfl | exact .inr ⟨_, _, rfl⟩
theorem z31 (k : Kr) (id a pa l : Int) (p : Pm) : (zc2 k id a pa l p).1.ss = k.ss ∧ (zc2 k id a pa l p).1.sh = k.sh ∧ (zc2 k id a pa l p).1.cd = k.cd ∧ (zc2 k id a pa l p).1.sz = k.sz := by
  rcases zwg k id a pa l p with e | ⟨D, g, e⟩
  · rw [e]; exact ⟨rfl, rfl, rfl, rfl⟩
  · rw [e]; exact ⟨rfl, rfl, rfl, rfl⟩
theorem zwh {k : Kr} (h : Rts k) (id a pa l : Int) (p : Pm) : Rts (zc2 k id a pa l p).1 := ⟨by rw [(z31 k id a pa l p).1]; exact h.r⟩
theorem zcl (k : Kr) (id a pa l : Int) (p : Pm) (i : Int) : za5 (zc2 k id a pa l p).1 i = za5 k i := by
  rcases zwg k id a pa l p with e | ⟨D, g, e⟩ <;> rw [e] <;> rfl
theorem zmq {k : Kr} {id a pa l id' a' pa' l' : Int} {p p' : Pm} : Fit (zc2 k id a pa l p).1 id' a' pa' l' p' ↔ Fit k id' a' pa' l' p' := by
  rcases zwg k id a pa l p with e | ⟨D, g, e⟩
  · rw [e]
  · rw [e]
    constructor
    · rintro ⟨a, b, c, d⟩; exact ⟨a, b, c, d⟩
    · rintro ⟨a, b, c, d⟩; exact ⟨a, b, c, d⟩
section
variable {cd cp sz f sh : Int} {xs xs' : List (Int × Int)} {lv : Int → Int}
theorem z32 (h : TI cd cp sz xs f sh lv) {r i : Int} (hr : lv r = 2) (hsa : Al cd cp f sh) (hsl : lv sh = 1) (hi : 0 ≤ i ∧ i < 512) (hH : i ≠ 511) (h4 : ∀ s j, (0 ≤ j ∧ j < 512) → Al cd cp f s → ¬ (s = r ∧ j = i) → ¬ (lkP (atM sz xs r i) = true ∧ s ∈ frN sz xs 1 (atM sz xs r i).ppn) → atM sz xs' s j = atM sz xs s j) : zda sz xs' 1 sh = zda sz xs 1 sh := by
  refine zio 1 sh fun s hs j hj => ?_
  obtain ⟨q1, q2, _⟩ := zbg h 1 sh hsa hsl s hs
  refine h4 s j hj q1 (fun hh => by rw [hh.1, hr] at q2; omega) ?_
  rintro ⟨k1, k2⟩
  obtain ⟨_, _, r1, a1⟩ := zcv h hi k1
  have e1 : lv (atM sz xs r i).ppn = (1 : Nat) := by rw [r1, hr]; rfl
  have hm := zyo h a1 hsa e1 (l2 := 1) hsl (Nat.le_refl _) (zwb h hsa hsl (Nat.le_refl _)) 1 s (by omega) k2 hs
  by_cases c : sh = (atM sz xs r i).ppn
  · exact hH (h.e.s r i hi k1 c.symm).1
  · exact zwb h a1 e1 (Nat.le_refl _) sh hm c rfl
theorem zzi (h : TI cd cp sz xs f sh lv) {r2 : Int} (hr : lv r2 = 2) (ha : Al cd cp f r2) (hx : ∀ j, (0 ≤ j ∧ j < 512) → atM sz xs' r2 j = atM sz xs r2 j) (hs : ∀ j, (0 ≤ j ∧ j < 512) → j ≠ 511 → lkP (atM sz xs r2 j) = true → (atM sz xs r2 j).ppn ≠ sh → ∀ s ∈ frN sz xs 1 (atM sz xs r2 j).ppn, ∀ j', (0 ≤ j' ∧ j' < 512) → atM sz xs' s j' = atM sz xs s j') : upd (zda sz xs' 2 r2) 511 .no = upd (zda sz xs 2 r2) 511 .no := by
  funext j
  by_cases c : j = 511
  · subst c; rw [zgf, zgf]
  rw [zfw _ _ c, zfw _ _ c]
  by_cases hj : 0 ≤ j ∧ j < 512
  · rw [zef hj, zef hj, hx j hj]
    rcases h.e.k r2 j hj with e | ⟨_, _, ⟨e1, e2⟩ | ⟨e1, e2, e3, e4⟩⟩
    · rw [e, zfx, zfx]
    · rw [zeg e1, zeg e1]
    · rw [zeh e1, zeh e1, zio 1 _ (hs j hj c e1 fun ee => c (h.e.s r2 j hj e1 ee).1)]
  · unfold zda; rw [if_neg hj, if_neg hj]
theorem zwi (h : TI cd cp sz xs f sh lv) {i r2 : Int} (hsl : lv sh = 1) (hr : lv r2 = 2) (ha : Al cd cp f r2) (hi : 0 ≤ i ∧ i < 512) (h4 : ∀ s j, (0 ≤ j ∧ j < 512) → Al cd cp f s → ¬ (s = sh ∧ j = i) → ¬ (lkP (atM sz xs sh i) = true ∧ s ∈ frN sz xs 0 (atM sz xs sh i).ppn) → atM sz xs' s j = atM sz xs s j) : upd (zda sz xs' 2 r2) 511 .no = upd (zda sz xs 2 r2) 511 .no := by
  have hc : ∀ s, lkP (atM sz xs sh i) = true → s ∈ frN sz xs 0 (atM sz xs sh i).ppn → s = (atM sz xs sh i).ppn ∧ lv s = 0 := fun s k1 k2 => by
    have e : s = (atM sz xs sh i).ppn := by simpa [frN] using k2
    obtain ⟨_, _, r1, _⟩ := zcv h hi k1
    exact ⟨e, by rw [e, r1, hsl]; rfl⟩
  refine zzi h hr ha (fun j hj => h4 r2 j hj ha (fun hh => by rw [hh.1, hsl] at hr; omega) fun hh => by have := (hc _ hh.1 hh.2).2; omega) ?_
  intro j hj hj5 k2 hns s hs j' hj'
  obtain ⟨_, _, r1, a1⟩ := zcv h hj k2
  have e1 : lv (atM sz xs r2 j).ppn = (1 : Nat) := by rw [r1, hr]; rfl
  obtain ⟨q1, q2, q3⟩ := zbg h 1 _ a1 e1 s hs
  have hne : ∀ g ∈ frN sz xs 1 (atM sz xs r2 j).ppn, g ≠ sh := fun g hg e => by
    by_cases c : g = (atM sz xs r2 j).ppn
    · exact hns (c.symm.trans e)
    · exact zwb h a1 e1 (Nat.le_refl _) g hg c e
  refine h4 s j' hj' q1 (fun hh => hne s hs hh.1) ?_
  rintro ⟨k1, k3⟩
  obtain ⟨c1, c2⟩ := hc s k1 k3
  rcases q3 with e | ⟨s', hs', j2, p1, p2, p3, p4⟩
  · rw [e, e1] at c2; omega
  · obtain ⟨u1, _⟩ := h.e.u s' j2 sh i p1 hi p2 k1 (p3.trans c1) (by rw [p3]; intro e; rw [e, hsl] at c2; omega)
    exact hne s' hs' u1
theorem zwj (h : TI cd cp sz xs f sh lv) {r i r2 : Int} (hr1 : lv r = 2) (hr : lv r2 = 2) (ha : Al cd cp f r2) (hne : r ≠ r2) (hi : 0 ≤ i ∧ i < 512) (hH : i ≠ 511) (h4 : ∀ s j, (0 ≤ j ∧ j < 512) → Al cd cp f s → ¬ (s = r ∧ j = i) → ¬ (lkP (atM sz xs r i) = true ∧ s ∈ frN sz xs 1 (atM sz xs r i).ppn) → atM sz xs' s j = atM sz xs s j) : upd (zda sz xs' 2 r2) 511 .no = upd (zda sz xs 2 r2) 511 .no := by
  have hc : ∀ s, lkP (atM sz xs r i) = true → s ∈ frN sz xs 1 (atM sz xs r i).ppn → lv s ≤ 1 := fun s k1 k2 => by
    obtain ⟨_, _, r1, a1⟩ := zcv h hi k1
    exact (zbg h 1 _ a1 (by rw [r1, hr1]; rfl) s k2).2.1.2
  refine zzi h hr ha (fun j hj => h4 r2 j hj ha (fun hh => hne hh.1.symm) fun hh => by have := hc _ hh.1 hh.2; omega) ?_
  intro j hj hj5 k2 hns s hs j' hj'
  obtain ⟨_, _, r1, a1⟩ := zcv h hj k2
  have e1 : lv (atM sz xs r2 j).ppn = (1 : Nat) := by rw [r1, hr]; rfl
  obtain ⟨q1, q2, q3⟩ := zbg h 1 _ a1 e1 s hs
  refine h4 s j' hj' q1 (fun hh => by rw [hh.1, hr1] at q2; omega) ?_
  rintro ⟨k1, k3⟩
  obtain ⟨_, _, r3, a3⟩ := zcv h hi k1
  have e3 : lv (atM sz xs r i).ppn = (1 : Nat) := by rw [r3, hr1]; rfl
  have hm := zyo h a3 a1 e3 e1 (Nat.le_refl _) (zwb h a1 e1 (Nat.le_refl _)) 1 s (by omega) k3 hs
  obtain ⟨_, _, v⟩ := zbg h 1 _ a3 e3 _ hm
  rcases v with e | ⟨s', _, j2, p1, p2, p3, p4⟩
  · exact hne (h.e.u r i r2 j hi hj k1 k2 e.symm (fun ee => hns (e.trans ee))).1
  · obtain ⟨_, _, rr, _⟩ := zcv h p1 p2
    rw [p3] at rr
    omega
end
theorem zj6 {n : Nat} {k : Kr} {id a pa l : Int} {p : Pm} (h : InvT n k) (hR : Rts k) (hp : U pa) (hf : Fit k id a pa l p) :
    (zer a l (mkP (pa / 4096) p (decide (id = -1))) (zyp id) (zkp k id) = none → (zc2 k id a pa l p).2 = 6) ∧
    (∀ A, zer a l (mkP (pa / 4096) p (decide (id = -1))) (zyp id) (zkp k id) = some A →
      ((zc2 k id a pa l p).2 = 0 ∧ zkp (zc2 k id a pa l p).1 id = A ∧ cnt (zc2 k id a pa l p).1.pf + zib A = cnt k.pf + zib (zkp k id) ∧ (∀ id', id' ≠ id → (id' = -1 ∨ za5 k id' = true) → zkp (zc2 k id a pa l p).1 id' = zkp k id')) ∨
      ((zc2 k id a pa l p).2 = 8 ∧ cnt k.pf + zib (zkp k id) < zib A)) := by
  obtain ⟨c0, c1, c2, c3⟩ := hf
  obtain ⟨lv, hT, hs, hr⟩ := h.t
  obtain ⟨w1, w2, w3, w4⟩ := zbw (id := id) (a := a) (l := l) h.l c0
  obtain ⟨z1, z2⟩ := h.top (id := id) (a := a) (l := l) c0 hs hr
  have hpn := zn4 (k := k) (l := l) hp (by have := h.l.g.bd; omega) c2
  have hb := zg9 (n := pa / 4096) (p := p) (g := decide (id = -1)) hpn (zjt c3)
  have hwt := zeb h.l c0
  have hM : zc2 k id a pa l p = if lk3 k (zan k id a l).1 (zan k id a l).2.1 a l ≠ 0 then (k, lk3 k (zan k id a l).1 (zan k id a l).2.1 a l)
      else if (zn3 k (zan k id a l).1 (zan k id a l).2.1 a l).2.2.2 ≠ 0 then (k, (zn3 k (zan k id a l).1 (zan k id a l).2.1 a l).2.2.2)
      else (z17 k (zn3 k (zan k id a l).1 (zan k id a l).2.1 a l) a pa l p (decide (id = -1)), 0) := by
    unfold zc2
    rw [if_neg (by omega), if_neg (by omega), if_neg (by omega), if_neg (by omega)]
  rw [hM]
  clear hM
  generalize zan k id a l = w at *
  obtain ⟨m, hm⟩ : ∃ m : Nat, w.2.1 = (m : Int) := ⟨w.2.1.toNat, by omega⟩
  have hir := zwe hT a l (mkP (pa / 4096) p (decide (id = -1))) w1.1 m w.1 (by omega) (by omega)
  have h3 := z3w k w.1 w.2.1 a l
  have h3v : (atM k.sz k.m (za6 k.sz k.m a l w.2.1 w.1).1 (idx a (za6 k.sz k.m a l w.2.1 w.1).2)).v = true → lk3 k w.1 w.2.1 a l = 6 := fun hh => by
    unfold lk3; rw [hh]; rfl
  have hre : za6 k.sz k.m a l w.2.1 w.1 = zaq k.sz k.m a l m w.1 := by unfold za6; rw [hm, Int.toNat_natCast]
  rw [hre] at h3v
  rw [hre] at h3
  have hD : zn3 k w.1 w.2.1 a l = dnN k.sz k.cd a l m k.m k.pf w.1 := by unfold zn3; rw [hm, Int.toNat_natCast]
  have hds := z30 a l (mkP (pa / 4096) p (decide (id = -1))) w1.1 hb.2.1 hb.1 hb.2.2 m k.m k.pf w.1 lv hT w2 h.l.sh (by omega) (by omega) (by omega) (fun hh => z2 (by omega))
  rw [hD]
  generalize hq : mkP (pa / 4096) p (decide (id = -1)) = q at *
  generalize hDD : dnN k.sz k.cd a l m k.m k.pf w.1 = D at *
  have hi := idx_bd a (m : Int)
  -- the tree, told as a shape
  have hins : (zer a l q (zyp id) (zkp k id) = none ↔ zer a l q m (zda k.sz k.m m w.1) = none) ∧ (∀ A, zer a l q (zyp id) (zkp k id) = some A → ∃ A0, zer a l q m (zda k.sz k.m m w.1) = some A0 ∧ (∀ K : Kr, K.sz = k.sz → K.sh = k.sh → zcu K id = zcu k id → zda k.sz K.m m w.1 = A0 → zkp K id = A) ∧ (zib A + zib (zda k.sz k.m m w.1) = zib A0 + zib (zkp k id))) := by
    rcases hwt with ⟨e1, e2, e3⟩ | ⟨e1, e2, e3, e4, e5⟩
    · subst e3
      obtain rfl : m = 1 := by omega
      rw [zj5, e1]
      refine ⟨Iff.rfl, fun A hA => ⟨A, hA, fun K y1 y2 y3 y4 => ?_, by omega⟩⟩
      rw [zj5, y1, y2]; exact y4
    · obtain rfl : m = 2 := by omega
      have ht : zyp id = 2 := if_neg e2
      rw [zgr k e2, ht, ← e3]
      have e5' : idx a ((2 : Nat) : Int) ≠ 511 := e5
      have key : zh2 a l q 2 (upd (zda k.sz k.m 2 w.1) 511 .no (idx a ((2 : Nat) : Int))) = zh2 a l q 2 (zda k.sz k.m 2 w.1 (idx a ((2 : Nat) : Int))) := by rw [zfw _ _ e5']
      unfold zer
      rw [key]
      refine ⟨by rw [Option.map_eq_none_iff, Option.map_eq_none_iff], fun A hA => ?_⟩
      obtain ⟨r, hr', rfl⟩ := Option.map_eq_some_iff.1 hA
      refine ⟨upd (zda k.sz k.m 2 w.1) (idx a ((2 : Nat) : Int)) r, by rw [hr']; rfl, fun K y1 y2 y3 y4 => ?_, ?_⟩
      · rw [zgr K e2, y1, y3, ← e3, y4]
        exact (upd_comm _ _ _ (fun hh => e5' hh.symm)).symm
      · have n1 := ze7 (upd (zda k.sz k.m 2 w.1) 511 .no) (idx a ((2 : Nat) : Int)) r hi
        rw [zfw _ _ e5'] at n1
        have n2 := ze7 (zda k.sz k.m 2 w.1) (idx a ((2 : Nat) : Int)) r hi
        omega
  constructor
  · intro hh
    have := h3v (hir.1 (hins.1.1 hh))
    rw [if_pos (by omega)]
    exact this
  · intro A hA
    obtain ⟨A0, hA0, hK, hcn⟩ := hins.2 A hA
    have h30 : lk3 k w.1 w.2.1 a l = 0 := by
      rcases h3 with e | e
      · exact e.1
      · exfalso
        have : ¬ (atM k.sz k.m (zaq k.sz k.m a l m w.1).1 (idx a (zaq k.sz k.m a l m w.1).2)).v = true := fun hv => by
          rw [hir.2 hv] at hA0; cases hA0
        unfold lk3 at e
        rw [hre] at e
        have this : (atM k.sz k.m (zaq k.sz k.m a l m w.1).1 (idx a (zaq k.sz k.m a l m w.1).2)).v = false := by simpa using this
        rw [this] at e
        cases e
    rw [if_neg (by omega)]
    rcases hds A0 hA0 with ⟨d1, d2, d3, d4⟩ | ⟨d1, d2⟩
    · rw [if_neg (by omega)]
      have hmK : (z17 k D a pa l p (decide (id = -1))).m = za1 k.sz D.1 D.2.2.1 (idx a l) q := by rw [← hq]; rfl
      refine .inl ⟨rfl, hK _ rfl rfl rfl (by rw [hmK]; exact d2), ?_, fun id' hne hlv => ?_⟩
      · show cnt D.2.1 + zib A = _
        omega
      · have d4' : ∀ s j, (0 ≤ j ∧ j < 512) → Al k.cd k.cp k.pf s → ¬ (s = w.1 ∧ j = idx a (m : Int)) → ¬ (lkP (atM k.sz k.m w.1 (idx a (m : Int))) = true ∧ s ∈ frN k.sz k.m (m - 1) (atM k.sz k.m w.1 (idx a (m : Int))).ppn) → atM k.sz (z17 k D a pa l p (decide (id = -1))).m s j = atM k.sz k.m s j := fun s j hj hs hn hc => by
          rw [hmK]
          refine d4 s j hj hs hn ?_
          rintro ⟨m', em, k1, k2⟩
          obtain rfl : m' = m - 1 := by omega
          exact hc ⟨k1, k2⟩
        rcases hwt with ⟨e1, e2, e3⟩ | ⟨e1, e2, e3, e4, e5⟩
        · obtain rfl : m = 1 := by omega
          have hl' : za5 k id' = true := hlv.resolve_left (fun hh => hne (hh.trans e3.symm))
          obtain ⟨g0, g1, g2, g3⟩ := zdw hl'
          have hne1 : id' ≠ -1 := fun hh => hne (hh.trans e3.symm)
          rw [zgr _ hne1, zgr _ hne1]
          rw [e1] at d4'
          exact zwi hT hs (hr _ (List.mem_of_getElem? g2) g3) (h.l.root hl') hi d4'
        · obtain rfl : m = 2 := by omega
          have hwr : lv w.1 = 2 := by rw [z1, e4]
          by_cases hid : id' = -1
          · subst hid
            rw [zj5, zj5]
            exact z32 hT hwr h.l.sh hs hi e5 d4'
          · have hl' : za5 k id' = true := hlv.resolve_left hid
            obtain ⟨g0, g1, g2, g3⟩ := zdw hl'
            obtain ⟨f0, f1, f2, f3⟩ := zdw e1
            rw [zgr _ hid, zgr _ hid]
            have hrn : w.1 ≠ (zcu k id').root := by
              rw [e3]
              exact hR.r id.toNat id'.toNat _ _ f2 g2 (by omega) f3 g3
            exact zwj hT hwr (hr _ (List.mem_of_getElem? g2) g3) (h.l.root hl') hrn hi e5 d4'
    · rw [if_pos (by omega)]
      exact .inr ⟨d1, by omega⟩
theorem zyq (a zam : Int) (q : Pte) : ∀ (l : Nat) (tr A : Tr), zh2 a zam q l tr = some A → zmp tr ≤ zmp A := by
  intro l
  induction l with
  | zero =>
    intro tr A h
    unfold zh2 at h
    cases tr <;> simp [z1s] at h
    exact Nat.zero_le _
  | succ l ih =>
    intro tr A h
    by_cases w1 : zam = ((l + 1 : Nat) : Int)
    · rw [zia w1] at h
      cases tr <;> simp [z1s] at h
      exact Nat.zero_le _
    have l1 : z19 tr = false := by
      cases tr with
      | lf p => rw [zla] at h; cases h
      | no => rfl
      | tb f => rfl
    rw [zfb w1 l1] at h
    obtain ⟨F, hF, rfl⟩ := Option.map_eq_some_iff.1 h
    unfold zer at hF
    obtain ⟨r, hr, rfl⟩ := Option.map_eq_some_iff.1 hF
    have hi := idx_bd a (l : Int)
    have n1 := ze7 (zmu tr) (idx a (l : Int)) r hi
    have n2 := ih _ _ hr
    have n3 : zmp (.tb (upd (zmu tr) (idx a (l : Int)) r)) = 1 + zib (upd (zmu tr) (idx a (l : Int)) r) := rfl
    have n4 : zmp tr ≤ 1 + zib (zmu tr) := by
      cases tr with
      | no => exact Nat.zero_le _
      | lf p => exact Nat.zero_le _
      | tb f => exact Nat.le_refl _
    omega
theorem zj7 {a zam : Int} {q : Pte} {l : Nat} {F A : Int → Tr} (h : zer a zam q l F = some A) : zib F ≤ zib A := by
  unfold zer at h
  obtain ⟨r, hr, rfl⟩ := Option.map_eq_some_iff.1 h
  have hi := idx_bd a (l : Int)
  have n1 := ze7 F (idx a (l : Int)) r hi
  have n2 := zyq a zam q l _ _ hr
  omega
theorem twice {n : Nat} {k : Kr} {id a pa l id' a' pa' l' : Int} {p p' : Pm} (h : InvT n k) (hR : Rts k) (hp : U pa) (hp' : U pa') (h0 : (zc2 k id a pa l p).2 = 0) :
    (zc2 (zc2 k id a pa l p).1 id a pa l p).2 = 6 ∧
    ((zc2 (zc2 k id a pa l p).1 id' a' pa' l' p').2 = 0 → (zc2 k id' a' pa' l' p').2 = 0 ∧ (zc2 (zc2 k id' a' pa' l' p').1 id a pa l p).2 = 0 ∧
      cnt (zc2 (zc2 k id a pa l p).1 id' a' pa' l' p').1.pf = cnt (zc2 (zc2 k id' a' pa' l' p').1 id a pa l p).1.pf ∧
      ∀ i, zs1 (zc2 (zc2 k id a pa l p).1 id' a' pa' l' p').1 i = zs1 (zc2 (zc2 k id' a' pa' l' p').1 id a pa l p).1 i) := by
  have hf := zwf h0
  have h1 := ze6 (id := id) (a := a) (pa := pa) (l := l) (p := p) h hp
  have r1 := zwh hR id a pa l p
  obtain ⟨q1, q2⟩ := zj6 h hR hp hf
  obtain ⟨A, hA⟩ : ∃ A, zer a l (mkP (pa / 4096) p (decide (id = -1))) (zyp id) (zkp k id) = some A := by
    cases e : zer a l (mkP (pa / 4096) p (decide (id = -1))) (zyp id) (zkp k id) with
    | none => have := q1 e; omega
    | some A => exact ⟨A, rfl⟩
  rcases q2 A hA with ⟨_, s1, s2, s3⟩ | ⟨s0, _⟩
  rotate_left
  · omega
  refine ⟨(zj6 h1 r1 hp (zmq.2 hf)).1 (by rw [s1]; exact zs6 hA), fun h2 => ?_⟩
  have hf2 := zwf h2
  have hf' : Fit k id' a' pa' l' p' := zmq.1 hf2
  have h12 := ze6 (id := id') (a := a') (pa := pa') (l := l') (p := p') h1 hp'
  obtain ⟨t1, t2⟩ := zj6 h1 r1 hp' hf2
  obtain ⟨B, hB⟩ : ∃ B, zer a' l' (mkP (pa' / 4096) p' (decide (id' = -1))) (zyp id') (zkp (zc2 k id a pa l p).1 id') = some B := by
    cases e : zer a' l' (mkP (pa' / 4096) p' (decide (id' = -1))) (zyp id') (zkp (zc2 k id a pa l p).1 id') with
    | none => have := t1 e; omega
    | some A => exact ⟨A, rfl⟩
  rcases t2 B hB with ⟨_, u1, u2, u3⟩ | ⟨u0, _⟩
  rotate_left
  · omega
  obtain ⟨v1, v2⟩ := zj6 h hR hp' hf'
  have h2' := ze6 (id := id') (a := a') (pa := pa') (l := l') (p := p') h hp'
  have r2 := zwh hR id' a' pa' l' p'
  obtain ⟨x1, x2⟩ := zj6 h2' r2 hp (zmq.2 hf)
  have h21 := ze6 (id := id) (a := a) (pa := pa) (l := l) (p := p) h2' hp
  -- the same is listed where the shapes are the same
  have fin : ∀ K K' : Kr, InvT (n + 3 + 3) K → InvT (n + 3 + 3) K' → (∀ i, za5 K i = za5 k i) → (∀ i, za5 K' i = za5 k i) → (∀ i, (i = -1 ∨ za5 k i = true) → zkp K i = zkp K' i) → ∀ i, zs1 K i = zs1 K' i := fun K K' g1 g2 l1 l2 hsh i => by
    rw [zrz g1, zrz g2, l1, l2]
    by_cases e : i = -1
    · rw [if_pos e, if_pos e, hsh i (.inl e)]
    · rw [if_neg e, if_neg e]
      cases e2 : za5 k i with
      | false => rfl
      | true => rw [if_neg (by simp), if_neg (by simp), hsh i (.inr e2)]
  have lva : ∀ i, za5 (zc2 (zc2 k id a pa l p).1 id' a' pa' l' p').1 i = za5 k i := fun i => by rw [zcl, zcl]
  have lvb : ∀ i, za5 (zc2 (zc2 k id' a' pa' l' p').1 id a pa l p).1 i = za5 k i := fun i => by rw [zcl, zcl]
  have hlid : id = -1 ∨ za5 k id = true := by
    rcases zeb h.l hf.w with ⟨_, _, e⟩ | ⟨e, _⟩
    · exact .inl e
    · exact .inr e
  have hlid' : id' = -1 ∨ za5 k id' = true := by
    rcases zeb h.l hf'.w with ⟨_, _, e⟩ | ⟨e, _⟩
    · exact .inl e
    · exact .inr e
  by_cases hid : id' = id
  · subst hid
    rw [s1] at hB
    obtain ⟨C, hC, hD⟩ := zv9 hA hB
    have m1 := zj7 hD
    rcases v2 C hC with ⟨y0, y1, y2, y3⟩ | ⟨y0, y1⟩
    rotate_left
    · rw [s1] at u2; omega
    rw [← y1] at hD
    rcases x2 B hD with ⟨z0, z1, z2, z3⟩ | ⟨z0, z1⟩
    rotate_left
    · rw [s1] at u2; rw [y1] at z1; omega
    refine ⟨y0, z0, by rw [s1] at u2; rw [y1] at z2; omega, fin _ _ h12 h21 lva lvb fun i hi => ?_⟩
    by_cases e : i = id'
    · subst e; rw [u1, z1]
    · rw [u3 i e (by rw [zcl]; exact hi), s3 i e hi, z3 i e (by rw [zcl]; exact hi), y3 i e hi]
  · rw [s3 id' hid hlid'] at hB
    rcases v2 B hB with ⟨y0, y1, y2, y3⟩ | ⟨y0, y1⟩
    rotate_left
    · have := zj7 hA
      rw [s3 id' hid hlid'] at u2
      omega
    have hA' := hA
    rw [← y3 id (fun hh => hid hh.symm) hlid] at hA'
    rcases x2 A hA' with ⟨z0, z1, z2, z3⟩ | ⟨z0, z1⟩
    rotate_left
    · have := zj7 hB
      rw [y3 id (fun hh => hid hh.symm) hlid] at z1
      rw [s3 id' hid hlid'] at u2
      omega
    refine ⟨y0, z0, by rw [s3 id' hid hlid'] at u2; rw [y3 id (fun hh => hid hh.symm) hlid] at z2; omega, fin _ _ h12 h21 lva lvb fun i hi => ?_⟩
    by_cases e : i = id'
    · subst e; rw [u1, z3 i hid (by rw [zcl]; exact hi), y1]
    · by_cases e2 : i = id
      · subst e2; rw [u3 i e (by rw [zcl]; exact hi), s1, z1]
      · rw [u3 i e (by rw [zcl]; exact hi), s3 i e2 hi, z3 i e2 (by rw [zcl]; exact hi), y3 i e hi]
end Go.Proofs.YtomeaibdedaldaaGreatDoor.LnD
namespace Go.Proofs.YtomeaibdedaldaaGreatDoor.LnF
open Go.RowKit Bv VaSpec Base MemL RegR Ax MemC PutC MemC3 TzC OkS SpA SpB SpC SpD SpE SpF SpN SpO SpG SpH SpI SpJ LaA LaB LaC LaD LaE LaF LaG LiA LiB LiC LiD LiE LiF LrA LrB LrC LjA LjF LkE LmA LmB LmE LnA LnB BitsC PteSpec RfE RfG RfJ RfK LaH RfA RfP RfQ LnD
set_option maxRecDepth 10000
set_option maxHeartbeats 1000000
inductive Dd (E : Int → Int → Pte) (sh : Int) (R : Int → Int → Prop) : Int → Int → Prop
  | lf {s i : Int} (h : zat (E s i) = true) (r : R s i) : Dd E sh R s i
  | lk {s i : Int} (h : lkP (E s i) = true) (n : (E s i).ppn ≠ sh) (a : ∀ j, (0 ≤ j ∧ j < 512) → E (E s i).ppn j ≠ zP → Dd E sh R (E s i).ppn j) : Dd E sh R s i
section
variable {E E' E2 : Int → Int → Pte} {al al' al2 : Int → Prop} {sh : Int} {R R' : Int → Int → Prop}
theorem zyr {p : Pte} (h : zat p = true) : p ≠ zP := fun e => by rw [e] at h; cases h
theorem zoh {p : Pte} (h : lkP p = true) : p ≠ zP := fun e => by rw [e] at h; cases h
theorem Dd.nz {s i : Int} (h : Dd E sh R s i) : E s i ≠ zP := by
  cases h with
  | lf h _ => exact zyr h
  | lk h _ _ => exact zoh h
theorem Dd.mono (hR : ∀ s i, zat (E s i) = true → R s i → R' s i) {s i : Int} (h : Dd E sh R s i) : Dd E sh R' s i := by
  induction h with
  | lf h r => exact .lf h (hR _ _ h r)
  | lk h n a ih => exact .lk h n ih
theorem Dd.inv {s i : Int} (h : Dd E sh R s i) : (zat (E s i) = true ∧ R s i) ∨ (lkP (E s i) = true ∧ (E s i).ppn ≠ sh ∧ ∀ j, (0 ≤ j ∧ j < 512) → E (E s i).ppn j ≠ zP → Dd E sh R (E s i).ppn j) := by
  cases h with
  | lf h r => exact .inl ⟨h, r⟩
  | lk h n a => exact .inr ⟨h, n, a⟩
structure Rm (E : Int → Int → Pte) (al : Int → Prop) (sh : Int) (R : Int → Int → Prop) (E' : Int → Int → Pte) (al' : Int → Prop) : Prop where
  z : ∀ s i, (0 ≤ i ∧ i < 512) → Dd E sh R s i → E' s i = zP
  k : ∀ s i, (0 ≤ i ∧ i < 512) → ¬ Dd E sh R s i → E' s i = E s i
  a : ∀ s, al' s ↔ al s ∧ ∀ t i, (0 ≤ i ∧ i < 512) → lkP (E t i) = true → (E t i).ppn = s → ¬ Dd E sh R t i
theorem Rm.nz (h : Rm E al sh R E' al') {s i : Int} (hi : 0 ≤ i ∧ i < 512) (hn : E' s i ≠ zP) : ¬ Dd E sh R s i ∧ E' s i = E s i := by
  have : ¬ Dd E sh R s i := fun hd => hn (h.z s i hi hd)
  exact ⟨this, h.k s i hi this⟩
theorem Rm.comp1 (h : Rm E al sh R E' al') {s i : Int} (hd : Dd E' sh R' s i) : (0 ≤ i ∧ i < 512) → Dd E sh (fun s i => R s i ∨ R' s i) s i := by
  induction hd with
  | lf g r => intro hi; rw [(h.nz hi (zyr g)).2] at g; exact .lf g (.inr r)
  | @lk s i g n a ih =>
    intro hi
    have e := (h.nz hi (zoh g)).2
    rw [e] at g n a ih
    refine .lk g n fun j hj hne => ?_
    by_cases c : Dd E sh R (E s i).ppn j
    · exact c.mono fun _ _ _ r => .inl r
    · exact ih j hj (by rw [h.k _ j hj c]; exact hne) hj
theorem Rm.comp2 (h : Rm E al sh R E' al') {s i : Int} (hd : Dd E sh (fun s i => R s i ∨ R' s i) s i) : (0 ≤ i ∧ i < 512) → Dd E sh R s i ∨ Dd E' sh R' s i := by
  induction hd with
  | @lf s i g r =>
    intro hi
    rcases r with r | r
    · exact .inl (.lf g r)
    · by_cases c : Dd E sh R s i
      · exact .inl c
      · exact .inr (.lf (by rw [h.k s i hi c]; exact g) r)
  | @lk s i g n a ih =>
    intro hi
    by_cases c : Dd E sh R s i
    · exact .inl c
    · have e := h.k s i hi c
      refine .inr (.lk (by rw [e]; exact g) (by rw [e]; exact n) fun j hj hne => ?_)
      rw [e] at hne ⊢
      obtain ⟨c1, c2⟩ := h.nz hj hne
      exact (ih j hj (by rw [← c2]; exact hne) hj).resolve_left c1
theorem Rm.comp (h : Rm E al sh R E' al') (g : Rm E' al' sh R' E2 al2) : Rm E al sh (fun s i => R s i ∨ R' s i) E2 al2 := by
  refine ⟨fun s i hi hd => ?_, fun s i hi hd => ?_, fun s => ?_⟩
  · rcases h.comp2 hd hi with c | c
    · by_cases d : Dd E' sh R' s i
      · exact g.z s i hi d
      · rw [g.k s i hi d]; exact h.z s i hi c
    · exact g.z s i hi c
  · have c : ¬ Dd E sh R s i := fun c => hd (c.mono fun _ _ _ r => .inl r)
    have d : ¬ Dd E' sh R' s i := fun d => hd (h.comp1 d hi)
    rw [g.k s i hi d, h.k s i hi c]
  · rw [g.a, h.a]
    constructor
    · rintro ⟨⟨q1, q2⟩, q3⟩
      refine ⟨q1, fun t i hi k1 k2 hd => ?_⟩
      have c := q2 t i hi k1 k2
      have e := h.k t i hi c
      rcases h.comp2 hd hi with d | d
      · exact c d
      · exact q3 t i hi (by rw [e]; exact k1) (by rw [e]; exact k2) d
    · rintro ⟨q1, q2⟩
      refine ⟨⟨q1, fun t i hi k1 k2 hd => q2 t i hi k1 k2 (hd.mono fun _ _ _ r => .inl r)⟩, fun t i hi k1 k2 hd => ?_⟩
      have e := (h.nz hi (zoh k1)).2
      rw [e] at k1 k2
      exact q2 t i hi k1 k2 (h.comp1 hd hi)
theorem Rm.cong (h : Rm E al sh R E' al') (hR : ∀ s i, (0 ≤ i ∧ i < 512) → zat (E s i) = true → (R s i ↔ R' s i)) : (∀ s i, (0 ≤ i ∧ i < 512) → (Dd E sh R s i ↔ Dd E sh R' s i)) := by
  have key : ∀ {R R' : Int → Int → Prop}, (∀ s i, (0 ≤ i ∧ i < 512) → zat (E s i) = true → R s i → R' s i) → ∀ {s i}, Dd E sh R s i → (0 ≤ i ∧ i < 512) → Dd E sh R' s i := fun {R R'} hR {s i} hd => by
    induction hd with
    | lf g r => intro hi; exact .lf g (hR _ _ hi g r)
    | lk g n a ih => intro hi; exact .lk g n fun j hj hne => ih j hj hne hj
  exact fun s i hi => ⟨fun hd => key (fun s i hi g => (hR s i hi g).1) hd hi, fun hd => key (fun s i hi g => (hR s i hi g).2) hd hi⟩
theorem Rm.same (h : Rm E al sh R E' al') (g : Rm E al sh R' E2 al2) (hR : ∀ s i, (0 ≤ i ∧ i < 512) → zat (E s i) = true → (R s i ↔ R' s i)) : (∀ s i, (0 ≤ i ∧ i < 512) → E' s i = E2 s i) ∧ ∀ s, al' s ↔ al2 s := by
  have hc := h.cong hR
  refine ⟨fun s i hi => ?_, fun s => ?_⟩
  · by_cases c : Dd E sh R s i
    · rw [h.z s i hi c, g.z s i hi ((hc s i hi).1 c)]
    · rw [h.k s i hi c, g.k s i hi fun d => c ((hc s i hi).2 d)]
  · rw [h.a, g.a]
    exact and_congr Iff.rfl ⟨fun q t i hi k1 k2 hd => q t i hi k1 k2 ((hc t i hi).2 hd), fun q t i hi k1 k2 hd => q t i hi k1 k2 ((hc t i hi).1 hd)⟩
end
def zoi (sz : Int) (xs : List (Int × Int)) (a zam : Int) : Nat → Int → List (Int × Int)
  | 0, t => [(t, idx a 0)]
  | l + 1, t => (t, idx a ((l + 1 : Nat) : Int)) :: (if zam < ((l + 1 : Nat) : Int) ∧ za2 (atM sz xs t (idx a ((l + 1 : Nat) : Int))) ((l + 1 : Nat) : Int) = true then zoi sz xs a zam l (atM sz xs t (idx a ((l + 1 : Nat) : Int))).ppn else [])
theorem zzj {sz a zam t : Int} {xs : List (Int × Int)} {l : Nat} (h1 : zam < ((l + 1 : Nat) : Int)) (h2 : za2 (atM sz xs t (idx a ((l + 1 : Nat) : Int))) ((l + 1 : Nat) : Int) = true) : zoi sz xs a zam (l + 1) t = (t, idx a ((l + 1 : Nat) : Int)) :: zoi sz xs a zam l (atM sz xs t (idx a ((l + 1 : Nat) : Int))).ppn := by
  show _ :: (if _ then _ else _) = _
  rw [if_pos ⟨h1, h2⟩]
section
variable {cd cp sz f sh : Int} {xs : List (Int × Int)} {lv : Int → Int}
def zzk (sz : Int) (xs : List (Int × Int)) (t i : Int) (l : Nat) : Int → Int → Prop := fun s j => (s = t ∧ j = i) ∨ (lkP (atM sz xs t i) = true ∧ s ∈ frN sz xs (l - 1) (atM sz xs t i).ppn)
theorem zzl (h : TI cd cp sz xs f sh lv) (hn : NE (atM sz xs) sh) (R : Int → Int → Prop) : ∀ (l : Nat) (g : Int), Al cd cp f g → lv g = l → l ≤ 1 → (∀ s ∈ frN sz xs l g, ∀ j, (0 ≤ j ∧ j < 512) → R s j) → ∀ s ∈ frN sz xs l g, ∀ j, (0 ≤ j ∧ j < 512) → atM sz xs s j ≠ zP → Dd (atM sz xs) sh R s j := by
  intro l
  induction l with
  | zero =>
    intro g ha hl _ hR s hs j hj hne
    have e : s = g := by simpa [frN] using hs
    subst e
    rcases h.e.k s j hj with e | ⟨_, _, ⟨e1, _⟩ | ⟨e1, e2, _⟩⟩
    · exact absurd e hne
    · exact .lf e1 (hR _ hs j hj)
    · omega
  | succ l ih =>
    intro g ha hl h1 hR s hs j hj hne
    have key : ∀ j, (0 ≤ j ∧ j < 512) → atM sz xs g j ≠ zP → Dd (atM sz xs) sh R g j ∧ (lkP (atM sz xs g j) = true → ∀ s ∈ frN sz xs l (atM sz xs g j).ppn, s ∈ frN sz xs (l + 1) g) := fun j hj hne => by
      have mem : lkP (atM sz xs g j) = true → ∀ s ∈ frN sz xs l (atM sz xs g j).ppn, s ∈ frN sz xs (l + 1) g := fun hk s hs => by
        simp only [frN, List.mem_cons]
        refine .inr (List.mem_flatMap.2 ⟨j.toNat, List.mem_range.2 (by omega), ?_⟩)
        rw [show ((j.toNat : Nat) : Int) = j by omega, if_pos (zb2 hk (by omega))]
        exact hs
      refine ⟨?_, mem⟩
      rcases h.e.k g j hj with e | ⟨_, _, ⟨e1, _⟩ | ⟨e1, e2, e3, e4⟩⟩
      · exact absurd e hne
      · exact .lf e1 (hR _ (zdq _ _ _ _) j hj)
      · refine .lk e1 (fun e => by have := (h.e.s g j hj e1 e).2; omega) fun j' hj' hne' => ?_
        exact ih _ e4 (by rw [e3, hl]; omega) (by omega) (fun s hs j hj => hR s (mem e1 s hs) j hj) _ (zdq _ _ _ _) j' hj' hne'
    simp only [frN, List.mem_cons] at hs
    rcases hs with rfl | hs
    · exact (key j hj hne).1
    · obtain ⟨i, hi, hs⟩ := List.mem_flatMap.1 hs
      have hi := List.mem_range.1 hi
      split at hs
      · rename_i hlk
        obtain ⟨k1, k2, k3, k4, k5⟩ := zjv h (by omega) hlk
        exact ih _ k5 (by rw [k4, hl]; omega) (by omega) (fun s' hs' j hj => hR s' ((key i (by omega) (zoh k1)).2 k1 s' hs') j hj) s hs j hj hne
      · cases hs
theorem zwk (h : TI cd cp sz xs f sh lv) : ∀ (l : Nat) (g : Int), Al cd cp f g → lv g = l → ∀ s ∈ frN sz xs l g, ∀ j, (0 ≤ j ∧ j < 512) → lkP (atM sz xs s j) = true → (atM sz xs s j).ppn ∈ frN sz xs l g := by
  intro l
  induction l with
  | zero =>
    intro g ha hl s hs j hj hk
    have e : s = g := by simpa [frN] using hs
    have := (zcv h hj hk).2.1
    rw [e] at this
    omega
  | succ l ih =>
    intro g ha hl s hs j hj hk
    simp only [frN, List.mem_cons] at hs ⊢
    rcases hs with rfl | hs
    · refine .inr (List.mem_flatMap.2 ⟨j.toNat, List.mem_range.2 (by omega), ?_⟩)
      rw [show ((j.toNat : Nat) : Int) = j by omega, if_pos (zb2 hk (by omega))]
      exact zdq _ _ _ _
    · obtain ⟨i, hi, hs⟩ := List.mem_flatMap.1 hs
      have hi' := List.mem_range.1 hi
      refine .inr (List.mem_flatMap.2 ⟨i, hi, ?_⟩)
      split at hs
      · rename_i hlk
        rw [if_pos hlk]
        obtain ⟨k1, k2, k3, k4, k5⟩ := zjv h (by omega) hlk
        exact ih _ k5 (by rw [k4, hl]; omega) s hs j hj hk
      · cases hs
theorem zew (h : TI cd cp sz xs f sh lv) (a zam : Int) (hw : 0 ≤ zam) {t : Int} {l' : Nat} : ∀ (l : Nat) (t0 : Int), Al cd cp f t0 → lv t0 = l → zam ≤ (l : Int) → zaq sz xs a zam l t0 = (t, (l' : Int)) →
    (t, idx a (l' : Int)) ∈ zoi sz xs a zam l t0 ∧ l' ≤ l ∧ lv t = l' ∧ Al cd cp f t ∧ ∀ s j, (s, j) ∈ zoi sz xs a zam l t0 → j = idx a (lv s) ∧ ((l' : Int) ≤ lv s ∧ lv s ≤ l) ∧ Al cd cp f s ∧ (s = t0 ∨ ∃ s' i', (s', i') ∈ zoi sz xs a zam l t0 ∧ lkP (atM sz xs s' i') = true ∧ (atM sz xs s' i').ppn = s) := by
  intro l
  induction l with
  | zero =>
    intro t0 ha hl hwl hr
    have hr : (t0, (0 : Int)) = (t, (l' : Int)) := hr
    simp only [Prod.mk.injEq] at hr
    obtain ⟨rfl, e⟩ := hr
    obtain rfl : l' = 0 := by omega
    refine ⟨List.mem_singleton.2 rfl, by omega, hl, ha, fun s j hm => ?_⟩
    have hm := List.mem_singleton.1 hm
    simp only [Prod.mk.injEq] at hm
    obtain ⟨rfl, rfl⟩ := hm
    exact ⟨by rw [hl]; rfl, ⟨by omega, by omega⟩, ha, .inl rfl⟩
  | succ l ih =>
    intro t0 ha hl hwl hr
    have hi := idx_bd a ((l + 1 : Nat) : Int)
    by_cases c : zam < ((l + 1 : Nat) : Int) ∧ za2 (atM sz xs t0 (idx a ((l + 1 : Nat) : Int))) ((l + 1 : Nat) : Int) = true
    · obtain ⟨k1, k2, k3, k4, k5⟩ := zjv h hi c.2
      rw [zbc c.1 c.2] at hr
      obtain ⟨q1, q2, q3, q4, q5⟩ := ih _ k5 (by rw [k4, hl]; omega) (by omega) hr
      rw [zzj c.1 c.2]
      refine ⟨List.mem_cons_of_mem _ q1, by omega, q3, q4, fun s j hm => ?_⟩
      rcases List.mem_cons.1 hm with e | hm
      · simp only [Prod.mk.injEq] at e
        obtain ⟨rfl, rfl⟩ := e
        exact ⟨by rw [hl], ⟨by omega, by omega⟩, ha, .inl rfl⟩
      · obtain ⟨r1, r2, r3, r4⟩ := q5 s j hm
        refine ⟨r1, ⟨r2.1, by omega⟩, r3, .inr ?_⟩
        rcases r4 with rfl | ⟨s', i', m1, m2, m3⟩
        · exact ⟨t0, _, List.mem_cons_self .., k1, rfl⟩
        · exact ⟨s', i', List.mem_cons_of_mem _ m1, m2, m3⟩
    · have hno : zaq sz xs a zam (l + 1) t0 = (t0, ((l + 1 : Nat) : Int)) := za8 (fun hh => by
        cases e : za2 (atM sz xs t0 (idx a ((l + 1 : Nat) : Int))) ((l + 1 : Nat) : Int) with
        | false => rfl
        | true => exact absurd ⟨hh, e⟩ c) hw
      rw [hno] at hr
      simp only [Prod.mk.injEq] at hr
      obtain ⟨rfl, e⟩ := hr
      obtain rfl : l' = l + 1 := by omega
      have hW : zoi sz xs a zam (l + 1) t0 = [(t0, idx a ((l + 1 : Nat) : Int))] := by
        show _ :: (if _ then _ else _) = _
        rw [if_neg c]
      rw [hW]
      refine ⟨List.mem_singleton.2 rfl, by omega, hl, ha, fun s j hm => ?_⟩
      have hm := List.mem_singleton.1 hm
      simp only [Prod.mk.injEq] at hm
      obtain ⟨rfl, rfl⟩ := hm
      exact ⟨by rw [hl], ⟨by omega, by omega⟩, ha, .inl rfl⟩
theorem zzm (h : TI cd cp sz xs f sh lv) (hn : NE (atM sz xs) sh) (a zam : Int) (hw : 0 ≤ zam) {t top : Int} {l0 l' : Nat} (ha : Al cd cp f top) (hl : lv top = l0) (hwl : zam ≤ (l0 : Int)) (h0 : l0 = 2 ∨ top = sh) (hr : zaq sz xs a zam l0 top = (t, (l' : Int))) {s j : Int} (hd : Dd (atM sz xs) sh (zzk sz xs t (idx a (l' : Int)) l') s j) :
    (0 ≤ j ∧ j < 512) → (s, j) ∈ zoi sz xs a zam l0 top ∨ (lkP (atM sz xs t (idx a (l' : Int))) = true ∧ s ∈ frN sz xs (l' - 1) (atM sz xs t (idx a (l' : Int))).ppn) := by
  obtain ⟨w1, w2, w3, w4, w5⟩ := zew h a zam hw l0 top ha hl hwl hr
  have hi := idx_bd a (l' : Int)
  induction hd with
  | lf g r =>
    intro _
    rcases r with ⟨rfl, rfl⟩ | r
    · exact .inl w1
    · exact .inr r
  | @lk s j g n b ih =>
    intro hj
    obtain ⟨j', hj', hne⟩ := hn s j hj g n
    obtain ⟨b1, b2, b3, b4⟩ := zcv h hj g
    rcases ih j' hj' hne hj' with m | ⟨m1, m2⟩
    · obtain ⟨_, _, _, v⟩ := w5 _ _ m
      rcases v with e | ⟨s', i', v1, v2, v3⟩
      · rcases h0 with h0 | h0
        · rw [e, hl, h0] at b3; omega
        · exact absurd (e.trans h0) n
      · have hi' : 0 ≤ i' ∧ i' < 512 := by rw [(w5 _ _ v1).1]; exact idx_bd _ _
        obtain ⟨rfl, rfl⟩ := h.e.u s j s' i' hj hi' g v2 v3.symm n
        exact .inl v1
    · obtain ⟨c1, c2, c3, c4⟩ := zcv h hi m1
      obtain ⟨_, _, v⟩ := zbg h (l' - 1) _ c4 (by rw [c3, w3]; omega) _ m2
      rcases v with e | ⟨s', v0, i', v1, v2, v3, _⟩
      · obtain ⟨rfl, rfl⟩ := h.e.u s j t _ hj hi g m1 e n
        exact .inl w1
      · obtain ⟨rfl, rfl⟩ := h.e.u s j s' i' hj v1 g v2 v3.symm n
        exact .inr ⟨m1, v0⟩
theorem zzn (h : TI cd cp sz xs f sh lv) {t a e : Int} {l' : Nat} (s : Int) : Al cd cp (zde sz cd cp (xs, f, (t, (l' : Int)), e) a).2 s ↔ Al cd cp f s ∧ ¬ (zbf (atM sz xs t (idx a (l' : Int))) = true ∧ s ∈ frN sz xs ((l' : Int) - 1).toNat (atM sz xs t (idx a (l' : Int))).ppn) := by
  by_cases c : zbf (atM sz xs t (idx a (l' : Int))) = true
  · have e1 : zde sz cd cp (xs, f, (t, (l' : Int)), e) a = bkN cd cp (frN sz xs ((l' : Int) - 1).toNat (atM sz xs t (idx a (l' : Int))).ppn) (xs, f) := if_pos c
    rw [e1]
    have hb := zf7 cd cp sz h.bp (frN sz xs ((l' : Int) - 1).toNat (atM sz xs t (idx a (l' : Int))).ppn) (xs, f) h.s h.bf
    rw [hb.a s]
    exact and_congr Iff.rfl ⟨fun q hh => q hh.2, fun q hh => q ⟨c, hh⟩⟩
  · have e1 : zde sz cd cp (xs, f, (t, (l' : Int)), e) a = (xs, f) := if_neg c
    rw [e1]
    exact ⟨fun q => ⟨q, fun hh => c hh.1⟩, fun q => q.1⟩
theorem zj8 (h : TI cd cp sz xs f sh lv) {t i : Int} (hi : 0 ≤ i ∧ i < 512) : zbf (atM sz xs t i) = true ↔ lkP (atM sz xs t i) = true := by
  constructor
  · intro c
    rcases h.e.k t i hi with e | ⟨_, _, ⟨e, _⟩ | ⟨e, _⟩⟩
    · rw [e] at c; cases c
    · rw [(zbr e).1] at c; cases c
    · exact e
  · exact fun c => (zbz c).1
structure PrD (sz cd cp : Int) (xs : List (Int × Int)) (sh : Int) (R : Int → Int → Prop) (W : List (Int × Int)) (c r : List (Int × Int) × Int) : Prop where
  z : ∀ s j, (0 ≤ j ∧ j < 512) → (s, j) ∈ W → Dd (atM sz xs) sh R s j → atM sz r.1 s j = zP
  k : ∀ s j, (0 ≤ j ∧ j < 512) → ¬ ((s, j) ∈ W ∧ Dd (atM sz xs) sh R s j) → atM sz r.1 s j = atM sz c.1 s j
  a : ∀ s, Al cd cp r.2 s ↔ Al cd cp c.2 s ∧ ∀ t i, (t, i) ∈ W → lkP (atM sz xs t i) = true → (atM sz xs t i).ppn = s → ¬ Dd (atM sz xs) sh R t i
theorem zys (h : TI cd cp sz xs f sh lv) (hn : NE (atM sz xs) sh) (hsh : Al cd cp f sh) (a zam : Int) (hw : 0 ≤ zam) {t top e : Int} {l0 l' : Nat} (ha : Al cd cp f top) (hl : lv top = l0) (hwl : zam ≤ (l0 : Int)) (h02 : l0 ≤ 2) (hH : l0 = 2 → idx a 2 ≠ 511) (h0 : l0 = 2 ∨ top = sh) (hr : zaq sz xs a zam l0 top = (t, (l' : Int))) :
    ∀ (l : Nat) (t0 : Int), l ≤ l0 → Al cd cp f t0 → lv t0 = l → zam ≤ (l : Int) → zaq sz xs a zam l t0 = (t, (l' : Int)) → (∀ s j, (s, j) ∈ zoi sz xs a zam l t0 → (s, j) ∈ zoi sz xs a zam l0 top) →
    PrD sz cd cp xs sh (zzk sz xs t (idx a (l' : Int)) l') (zoi sz xs a zam l t0) (za1 sz (zde sz cd cp (xs, f, (t, (l' : Int)), e) a).1 t (idx a (l' : Int)) zP, (zde sz cd cp (xs, f, (t, (l' : Int)), e) a).2)
      (prN sz cd cp a l t0 (za1 sz (zde sz cd cp (xs, f, (t, (l' : Int)), e) a).1 t (idx a (l' : Int)) zP, (zde sz cd cp (xs, f, (t, (l' : Int)), e) a).2)) := by
  obtain ⟨w1, w2, w3, w4, w5⟩ := zew h a zam hw l0 top ha hl hwl hr
  have hi := idx_bd a (l' : Int)
  have hl2 : l' = 2 → idx a 2 ≠ 511 := fun hh => hH (by omega)
  have hoff := fun s j hd => zzm h hn a zam hw ha hl hwl h0 hr (s := s) (j := j) hd
  have hat := fun s j hj => zzh (e := e) (a := a) (l' := l') h w4 s j hj
  have hal := fun s => zzn (e := e) (a := a) (l' := l') (t := t) h s
  obtain ⟨c1, c2, _⟩ := zoa (e := e) (a := a) h hsh w4 w3 (by omega) hl2
  have hln : ((l' : Int) - 1).toNat = l' - 1 := by omega
  rw [hln] at hat hal
  have hF : ∀ g, lkP (atM sz xs t (idx a (l' : Int))) = true → g ∈ frN sz xs (l' - 1) (atM sz xs t (idx a (l' : Int))).ppn → lv g < l' := fun g k1 k2 => by
    obtain ⟨b1, b2, b3, b4⟩ := zcv h hi k1
    have := (zbg h (l' - 1) _ b4 (by rw [b3, w3]; omega) g k2).2.1
    omega
  have hspot : atM sz xs t (idx a (l' : Int)) ≠ zP → Dd (atM sz xs) sh (zzk sz xs t (idx a (l' : Int)) l') t (idx a (l' : Int)) := fun hne => by
    rcases h.e.k t _ hi with e | ⟨_, _, ⟨e1, _⟩ | ⟨e1, e2, e3, e4⟩⟩
    · exact absurd e hne
    · exact .lf e1 (.inl ⟨rfl, rfl⟩)
    · have hns : (atM sz xs t (idx a (l' : Int))).ppn ≠ sh := fun ee => by
        obtain ⟨q1, q2⟩ := h.e.s t _ hi e1 ee
        have e5 : l' = 2 := by omega
        rw [e5] at q1
        exact hl2 e5 q1
      refine .lk e1 hns fun j hj hne => ?_
      exact zzl h hn _ (l' - 1) _ e4 (by rw [e3, w3]; omega) (by omega) (fun s hs j hj => .inr ⟨e1, hs⟩) _ (zdq _ _ _ _) j hj hne
  generalize hc0 : (za1 sz (zde sz cd cp (xs, f, (t, (l' : Int)), e) a).1 t (idx a (l' : Int)) zP, (zde sz cd cp (xs, f, (t, (l' : Int)), e) a).2) = c at *
  have hc1 : za1 sz (zde sz cd cp (xs, f, (t, (l' : Int)), e) a).1 t (idx a (l' : Int)) zP = c.1 := by rw [← hc0]
  have hc2 : (zde sz cd cp (xs, f, (t, (l' : Int)), e) a).2 = c.2 := by rw [← hc0]
  rw [hc1] at hat c1
  rw [hc2] at hal c1 c2
  clear hc0 hc1 hc2
  generalize hRR : zzk sz xs t (idx a (l' : Int)) l' = R at *
  intro l
  induction l with
  | zero =>
    intro t0 _ hta hlt hwl0 hrt _
    have hrt : (t0, (0 : Int)) = (t, (l' : Int)) := hrt
    simp only [Prod.mk.injEq] at hrt
    obtain ⟨rfl, e0⟩ := hrt
    obtain rfl : l' = 0 := by omega
    show PrD sz cd cp xs sh R [(t0, idx a 0)] c c
    refine ⟨fun s j hj hm _ => ?_, fun s j hj _ => rfl, fun s => ⟨fun q => ⟨q, fun t' i' hm k1 _ => ?_⟩, fun q => q.1⟩⟩
    · have hm := List.mem_singleton.1 hm
      simp only [Prod.mk.injEq] at hm
      rw [hat s j hj, if_pos ⟨hm.1, hm.2⟩]
    · have hm := List.mem_singleton.1 hm
      simp only [Prod.mk.injEq] at hm
      rw [hm.1, hm.2] at k1
      have := (zcv h hi k1).2.1
      rw [hlt] at this
      omega
  | succ l ih =>
    intro t0 hll hta hlt hwl0 hrt hsub
    have hi0 := idx_bd a ((l + 1 : Nat) : Int)
    by_cases cg : zam < ((l + 1 : Nat) : Int) ∧ za2 (atM sz xs t0 (idx a ((l + 1 : Nat) : Int))) ((l + 1 : Nat) : Int) = true
    · -- the way goes on
      obtain ⟨k1, k2, k3, k4, k5⟩ := zjv h hi0 cg.2
      rw [zbc cg.1 cg.2] at hrt
      have hlg : lv (atM sz xs t0 (idx a ((l + 1 : Nat) : Int))).ppn = l := by rw [k4, hlt]; omega
      obtain ⟨p1, p2, p3, p4, p5⟩ := zew h a zam hw l _ k5 hlg (by omega) hrt
      have hW := zzj cg.1 cg.2
      rw [hW] at hsub ⊢
      have hsub' : ∀ s j, (s, j) ∈ zoi sz xs a zam l (atM sz xs t0 (idx a ((l + 1 : Nat) : Int))).ppn → (s, j) ∈ zoi sz xs a zam l0 top := fun s j hm => hsub s j (List.mem_cons_of_mem _ hm)
      have I := ih _ (by omega) k5 hlg (by omega) hrt hsub'
      have ht0 : t0 ≠ t := fun e => by rw [e, w3] at hlt; omega
      have hE1 : atM sz c.1 t0 (idx a ((l + 1 : Nat) : Int)) = atM sz xs t0 (idx a ((l + 1 : Nat) : Int)) := by
        rw [hat _ _ hi0, if_neg (fun hh => ht0 hh.1), if_neg]
        rintro ⟨m1, m2⟩
        have := hF _ ((zj8 h hi).1 m1) m2
        omega
      have hgs : (atM sz xs t0 (idx a ((l + 1 : Nat) : Int))).ppn ≠ sh := fun ee => by
        obtain ⟨q1, q2⟩ := h.e.s t0 _ hi0 k1 ee
        have e5 : l0 = 2 := by omega
        rw [show ((l + 1 : Nat) : Int) = 2 by omega] at q1
        exact hH e5 q1
      have hP := zf8 a c1 l (atM sz xs t0 (idx a ((l + 1 : Nat) : Int))).ppn (by omega) (c2 _ k5 (.inr (by rw [hlg]; omega))) hlg (fun hh => by omega)
      -- the table below: what is left of it
      have hgc : ∀ j, (0 ≤ j ∧ j < 512) → (atM sz (prN sz cd cp a l (atM sz xs t0 (idx a ((l + 1 : Nat) : Int))).ppn c).1 (atM sz xs t0 (idx a ((l + 1 : Nat) : Int))).ppn j = zP ↔ atM sz xs (atM sz xs t0 (idx a ((l + 1 : Nat) : Int))).ppn j = zP ∨ Dd (atM sz xs) sh R (atM sz xs t0 (idx a ((l + 1 : Nat) : Int))).ppn j) := fun j hj => by
        have hnF : ¬ (zbf (atM sz xs t (idx a (l' : Int))) = true ∧ (atM sz xs t0 (idx a ((l + 1 : Nat) : Int))).ppn ∈ frN sz xs (l' - 1) (atM sz xs t (idx a (l' : Int))).ppn) := fun hh => by
          have := hF _ ((zj8 h hi).1 hh.1) hh.2
          omega
        constructor
        · intro hz
          by_cases c : (((atM sz xs t0 (idx a ((l + 1 : Nat) : Int))).ppn, j) ∈ zoi sz xs a zam l (atM sz xs t0 (idx a ((l + 1 : Nat) : Int))).ppn ∧ Dd (atM sz xs) sh R (atM sz xs t0 (idx a ((l + 1 : Nat) : Int))).ppn j)
          · exact .inr c.2
          · rw [I.k _ j hj c, hat _ j hj] at hz
            by_cases c2 : (atM sz xs t0 (idx a ((l + 1 : Nat) : Int))).ppn = t ∧ j = idx a (l' : Int)
            · by_cases c3 : atM sz xs (atM sz xs t0 (idx a ((l + 1 : Nat) : Int))).ppn j = zP
              · exact .inl c3
              · rw [c2.1, c2.2] at c3 ⊢
                exact .inr (hspot c3)
            · rw [if_neg c2, if_neg hnF] at hz
              exact .inl hz
        · intro hor
          by_cases c : (((atM sz xs t0 (idx a ((l + 1 : Nat) : Int))).ppn, j) ∈ zoi sz xs a zam l (atM sz xs t0 (idx a ((l + 1 : Nat) : Int))).ppn ∧ Dd (atM sz xs) sh R (atM sz xs t0 (idx a ((l + 1 : Nat) : Int))).ppn j)
          · exact I.z _ j hj c.1 c.2
          · rcases hor with hz | hd
            · rw [I.k _ j hj c, hat _ j hj]
              by_cases c2 : (atM sz xs t0 (idx a ((l + 1 : Nat) : Int))).ppn = t ∧ j = idx a (l' : Int)
              · rw [if_pos c2]
              · rw [if_neg c2, if_neg hnF, hz]
            · exfalso
              refine c ⟨?_, hd⟩
              rcases hoff _ _ hd hj with m | m
              · have e1 := (w5 _ _ m).1
                rw [hlg] at e1
                rw [e1]
                cases l with
                | zero => exact List.mem_singleton.2 rfl
                | succ l => exact List.mem_cons_self ..
              · exact absurd ⟨(zj8 h hi).2 m.1, m.2⟩ hnF
      have hag := hP.a _ (c2 _ k5 (.inr (by rw [hlg]; omega))) (.inr (by rw [hlg]; omega))
      have hemp := zme hP.t hag.1
      have hlkc : za2 (atM sz c.1 t0 (idx a ((l + 1 : Nat) : Int))) ((l + 1 : Nat) : Int) = true := by rw [hE1]; exact cg.2
      have hpr : prN sz cd cp a (l + 1) t0 c = if zdu (prN sz cd cp a l (atM sz xs t0 (idx a ((l + 1 : Nat) : Int))).ppn c).1 (atM sz xs t0 (idx a ((l + 1 : Nat) : Int))).ppn then
          (za1 sz (TableC.zav (prN sz cd cp a l (atM sz xs t0 (idx a ((l + 1 : Nat) : Int))).ppn c).1 (atM sz xs t0 (idx a ((l + 1 : Nat) : Int))).ppn) t0 (idx a ((l + 1 : Nat) : Int)) zP, TableC2.zdk cd cp (prN sz cd cp a l (atM sz xs t0 (idx a ((l + 1 : Nat) : Int))).ppn c).2 (atM sz xs t0 (idx a ((l + 1 : Nat) : Int))).ppn)
          else prN sz cd cp a l (atM sz xs t0 (idx a ((l + 1 : Nat) : Int))).ppn c := by
        conv => lhs; unfold prN
        rw [if_pos hlkc, hE1]
      rw [hpr]
      have hb := h.bd
      have hta' := hta.1
      generalize hg : (atM sz xs t0 (idx a ((l + 1 : Nat) : Int))).ppn = g at *
      generalize hrr : prN sz cd cp a l g c = r at *
      have hDd : Dd (atM sz xs) sh R t0 (idx a ((l + 1 : Nat) : Int)) ↔ zdu r.1 g = true := by
        constructor
        · intro hd
          cases he : zdu r.1 g with
          | true => rfl
          | false =>
            exfalso
            obtain ⟨j, hj, hne⟩ := hemp.2 he
            have hz : atM sz r.1 g j = zP := by
              refine (hgc j hj).2 ?_
              by_cases c0 : atM sz xs g j = zP
              · exact .inl c0
              · rcases hd.inv with ⟨q1, _⟩ | ⟨_, _, q3⟩
                · rw [zdp q1] at k1; cases k1
                · rw [hg] at q3
                  exact .inr (q3 j hj c0)
            unfold atM at hz
            have hu := zgl hP.t.u sz (g * 4096 + j * 8)
            exact zze hu hne hz
        · intro he
          refine .lk k1 (by rw [hg]; exact hgs) fun j hj hne => ?_
          rw [hg] at hne ⊢
          have hz : atM sz r.1 g j = zP := by unfold atM; rw [hemp.1 he j hj, zom]
          exact ((hgc j hj).1 hz).resolve_left hne
      cases he : zdu r.1 g with
      | false =>
        rw [if_neg (by simp)]
        have hnd : ¬ Dd (atM sz xs) sh R t0 (idx a ((l + 1 : Nat) : Int)) := fun hd => by rw [hDd.1 hd] at he; cases he
        refine ⟨fun s j hj hm hd => ?_, fun s j hj hn' => I.k s j hj fun hh => hn' ⟨List.mem_cons_of_mem _ hh.1, hh.2⟩, fun s => ?_⟩
        · rcases List.mem_cons.1 hm with e1 | hm
          · simp only [Prod.mk.injEq] at e1
            rw [e1.1, e1.2] at hd
            exact absurd hd hnd
          · exact I.z s j hj hm hd
        · rw [I.a s]
          refine and_congr Iff.rfl ⟨fun q t' i' hm q1 q2 hd => ?_, fun q t' i' hm => q t' i' (List.mem_cons_of_mem _ hm)⟩
          rcases List.mem_cons.1 hm with e1 | hm
          · simp only [Prod.mk.injEq] at e1
            rw [e1.1, e1.2] at hd
            exact hnd hd
          · exact q t' i' hm q1 q2 hd
      | true =>
        rw [if_pos rfl]
        have hd0 := hDd.2 he
        have hzg : ∀ j, (0 ≤ j ∧ j < 512) → atM sz r.1 g j = zP := fun j hj => by unfold atM; rw [hemp.1 he j hj, zom]
        have hwi : za1 sz (TableC.zav r.1 g) t0 (idx a ((l + 1 : Nat) : Int)) zP = zby (TableC.zav r.1 g) (t0 * 512 + idx a ((l + 1 : Nat) : Int)) 0 := by
          rw [zd8 z14 (by omega) hi0 (by rw [h.bz]; omega), zq7]
        have hE : ∀ s j, (0 ≤ j ∧ j < 512) → atM sz (za1 sz (TableC.zav r.1 g) t0 (idx a ((l + 1 : Nat) : Int)) zP) s j = if s = t0 ∧ j = idx a ((l + 1 : Nat) : Int) then zP else atM sz r.1 s j := fun s j hj => by
          rw [hwi, zh0 (cd := cd) (cp := cp) (zcd _ hP.t.s) h.bz (by omega) hi0 s j hj, zmb hP.t.s _ s j hj]
          split
          · rfl
          · split
            · rename_i e1; rw [e1, hzg j hj]
            · rfl
        refine ⟨fun s j hj hm hd => ?_, fun s j hj hn' => ?_, fun s => ?_⟩
        · show atM sz (za1 sz (TableC.zav r.1 g) t0 (idx a ((l + 1 : Nat) : Int)) zP) s j = zP
          rw [hE s j hj]
          rcases List.mem_cons.1 hm with e1 | hm
          · simp only [Prod.mk.injEq] at e1
            rw [if_pos e1]
          · split
            · rfl
            · exact I.z s j hj hm hd
        · show atM sz (za1 sz (TableC.zav r.1 g) t0 (idx a ((l + 1 : Nat) : Int)) zP) s j = _
          rw [hE s j hj, if_neg]
          · exact I.k s j hj fun hh => hn' ⟨List.mem_cons_of_mem _ hh.1, hh.2⟩
          · intro e1
            refine hn' ⟨?_, by rw [e1.1, e1.2]; exact hd0⟩
            rw [e1.1, e1.2]; exact List.mem_cons_self ..
        · show Al cd cp (TableC2.zdk cd cp r.2 g) s ↔ _
          rw [zp5 h.bp hP.t.bf, I.a s, and_assoc]
          refine and_congr Iff.rfl ⟨fun q t' i' hm q1 q2 hd => ?_, fun q => ⟨fun t' i' hm => q t' i' (List.mem_cons_of_mem _ hm), fun e1 => ?_⟩⟩
          · rcases List.mem_cons.1 hm with e1 | hm
            · simp only [Prod.mk.injEq] at e1
              rw [e1.1, e1.2, hg] at q2
              exact q.2 q2.symm
            · exact q.1 t' i' hm q1 q2 hd
          · exact q t0 _ (List.mem_cons_self ..) k1 (hg.trans e1.symm) hd0
    · -- the way ends
      have hno : zaq sz xs a zam (l + 1) t0 = (t0, ((l + 1 : Nat) : Int)) := za8 (fun hh => by
        cases e : za2 (atM sz xs t0 (idx a ((l + 1 : Nat) : Int))) ((l + 1 : Nat) : Int) with
        | false => rfl
        | true => exact absurd ⟨hh, e⟩ cg) hw
      rw [hno] at hrt
      simp only [Prod.mk.injEq] at hrt
      obtain ⟨rfl, e0⟩ := hrt
      obtain rfl : l' = l + 1 := by omega
      have hW : zoi sz xs a zam (l + 1) t0 = [(t0, idx a ((l + 1 : Nat) : Int))] := by
        show _ :: (if _ then _ else _) = _
        rw [if_neg cg]
      have hz := hat t0 _ hi0
      rw [if_pos ⟨rfl, rfl⟩] at hz
      have hpr : prN sz cd cp a (l + 1) t0 c = c := by
        unfold prN
        rw [hz, if_neg (by unfold za2 zbf zP; simp)]
      rw [hW, hpr]
      refine ⟨fun s j hj hm _ => ?_, fun s j hj _ => rfl, fun s => ⟨fun q => ⟨q, fun t' i' hm q1 q2 _ => ?_⟩, fun q => q.1⟩⟩
      · have hm := List.mem_singleton.1 hm
        simp only [Prod.mk.injEq] at hm
        rw [hat s j hj, if_pos ⟨hm.1, hm.2⟩]
      · have hm := List.mem_singleton.1 hm
        simp only [Prod.mk.injEq] at hm
        rw [hm.1, hm.2] at q1 q2
        refine ((hal s).1 q).2 ⟨(zbz q1).1, ?_⟩
        rw [q2]
        exact zdq _ _ _ _
theorem z1w (h : TI cd cp sz xs f sh lv) (hn : NE (atM sz xs) sh) (hsh : Al cd cp f sh) (a zam : Int) (hw : 0 ≤ zam) {t top e : Int} {l0 l' : Nat} (ha : Al cd cp f top) (hl : lv top = l0) (hwl : zam ≤ (l0 : Int)) (h02 : l0 ≤ 2) (hH : l0 = 2 → idx a 2 ≠ 511) (h0 : l0 = 2 ∨ top = sh) (hr : zaq sz xs a zam l0 top = (t, (l' : Int))) :
    Rm (atM sz xs) (Al cd cp f) sh (zzk sz xs t (idx a (l' : Int)) l')
      (atM sz (prN sz cd cp a l0 top (za1 sz (zde sz cd cp (xs, f, (t, (l' : Int)), e) a).1 t (idx a (l' : Int)) zP, (zde sz cd cp (xs, f, (t, (l' : Int)), e) a).2)).1)
      (Al cd cp (prN sz cd cp a l0 top (za1 sz (zde sz cd cp (xs, f, (t, (l' : Int)), e) a).1 t (idx a (l' : Int)) zP, (zde sz cd cp (xs, f, (t, (l' : Int)), e) a).2)).2) := by
  obtain ⟨w1, w2, w3, w4, w5⟩ := zew h a zam hw l0 top ha hl hwl hr
  have P := zys (e := e) h hn hsh a zam hw ha hl hwl h02 hH h0 hr l0 top (Nat.le_refl _) ha hl hwl hr (fun _ _ hm => hm)
  have hi := idx_bd a (l' : Int)
  have hoff := fun s j hd => zzm h hn a zam hw ha hl hwl h0 hr (s := s) (j := j) hd
  have hat := fun s j hj => zzh (e := e) (a := a) (l' := l') h w4 s j hj
  have hal := fun s => zzn (e := e) (a := a) (l' := l') (t := t) h s
  have hln : ((l' : Int) - 1).toNat = l' - 1 := by omega
  rw [hln] at hat hal
  have hFd : lkP (atM sz xs t (idx a (l' : Int))) = true → ∀ s ∈ frN sz xs (l' - 1) (atM sz xs t (idx a (l' : Int))).ppn, ∀ j, (0 ≤ j ∧ j < 512) → atM sz xs s j ≠ zP → Dd (atM sz xs) sh (zzk sz xs t (idx a (l' : Int)) l') s j := fun k1 => by
    obtain ⟨b1, b2, b3, b4⟩ := zcv h hi k1
    exact zzl h hn _ (l' - 1) _ b4 (by rw [b3, w3]; omega) (by omega) (fun s hs j hj => .inr ⟨k1, hs⟩)
  have hspot : atM sz xs t (idx a (l' : Int)) ≠ zP → Dd (atM sz xs) sh (zzk sz xs t (idx a (l' : Int)) l') t (idx a (l' : Int)) := fun hne => by
    rcases h.e.k t _ hi with e | ⟨_, _, ⟨e1, _⟩ | ⟨e1, e2, e3, e4⟩⟩
    · exact absurd e hne
    · exact .lf e1 (.inl ⟨rfl, rfl⟩)
    · have hns : (atM sz xs t (idx a (l' : Int))).ppn ≠ sh := fun ee => by
        obtain ⟨q1, q2⟩ := h.e.s t _ hi e1 ee
        have e5 : l' = 2 := by omega
        rw [e5] at q1
        exact hH (by omega) q1
      exact .lk e1 hns fun j hj hne => hFd e1 _ (zdq _ _ _ _) j hj hne
  refine ⟨fun s j hj hd => ?_, fun s j hj hd => ?_, fun s => ?_⟩
  · rcases hoff s j hd hj with m | ⟨m1, m2⟩
    · exact P.z s j hj m hd
    · by_cases c : (s, j) ∈ zoi sz xs a zam l0 top ∧ Dd (atM sz xs) sh (zzk sz xs t (idx a (l' : Int)) l') s j
      · exact P.z s j hj c.1 c.2
      · rw [P.k s j hj c]
        show atM sz (za1 sz (zde sz cd cp (xs, f, (t, (l' : Int)), e) a).1 t (idx a (l' : Int)) zP) s j = zP
        rw [hat s j hj]
        split
        · rfl
        · rw [if_pos ⟨(zbz m1).1, m2⟩]
  · rw [P.k s j hj fun hh => hd hh.2]
    show atM sz (za1 sz (zde sz cd cp (xs, f, (t, (l' : Int)), e) a).1 t (idx a (l' : Int)) zP) s j = _
    rw [hat s j hj]
    by_cases c : s = t ∧ j = idx a (l' : Int)
    · rw [if_pos c]
      by_cases c2 : atM sz xs s j = zP
      · exact c2.symm
      · rw [c.1, c.2] at c2 hd
        exact absurd (hspot c2) hd
    · rw [if_neg c]
      by_cases c2 : zbf (atM sz xs t (idx a (l' : Int))) = true ∧ s ∈ frN sz xs (l' - 1) (atM sz xs t (idx a (l' : Int))).ppn
      · rw [if_pos c2]
        by_cases c3 : atM sz xs s j = zP
        · exact c3.symm
        · exact absurd (hFd ((zj8 h hi).1 c2.1) s c2.2 j hj c3) hd
      · rw [if_neg c2]
  · rw [P.a s]
    show Al cd cp (zde sz cd cp (xs, f, (t, (l' : Int)), e) a).2 s ∧ _ ↔ _
    rw [hal s, and_assoc]
    refine and_congr Iff.rfl ⟨fun q t' i' hi' q1 q2 hd => ?_, fun q => ⟨?_, fun t' i' hm q1 q2 hd => q t' i' (by rw [(w5 _ _ hm).1]; exact idx_bd _ _) q1 q2 hd⟩⟩
    · rcases hoff t' i' hd hi' with m | ⟨m1, m2⟩
      · exact q.2 t' i' m q1 q2 hd
      · obtain ⟨b1, b2, b3, b4⟩ := zcv h hi m1
        have := zwk h (l' - 1) _ b4 (by rw [b3, w3]; omega) t' m2 i' hi' q1
        rw [q2] at this
        exact q.1 ⟨(zbz m1).1, this⟩
    · rintro ⟨m1, m2⟩
      have m1' := (zj8 h hi).1 m1
      obtain ⟨b1, b2, b3, b4⟩ := zcv h hi m1'
      obtain ⟨_, _, v⟩ := zbg h (l' - 1) _ b4 (by rw [b3, w3]; omega) s m2
      rcases v with e1 | ⟨s', v0, i', v1, v2, v3, _⟩
      · exact q t _ hi m1' e1.symm (hspot (zoh m1'))
      · exact q s' i' v1 v2 v3 (hFd m1' s' v0 i' v1 (zoh v2))
end
end Go.Proofs.YtomeaibdedaldaaGreatDoor.LnF
namespace Go.Proofs.YtomeaibdedaldaaGreatDoor.LnG
open Go.RowKit Bv VaSpec Base MemL RegR Ax MemC PutC MemC3 TzC OkS SpA SpB SpC SpD SpE SpF SpN SpO SpG SpH SpI SpJ LaA LaB LaC LaD LaE LaF LaG LiA LiB LiC LiD LiE LiF LrA LrB LrC LjA LjF LkE LmA LmB LmE LnA LnB BitsC PteSpec RfE RfG RfJ RfK LaH RfA RfP RfQ LnD LnF
set_option maxRecDepth 10000
set_option maxHeartbeats 1000000
theorem z33 {E E' : Int → Int → Pte} {al al' : Int → Prop} {sh : Int} {R : Int → Int → Prop} (h : Rm E al sh R E' al') (hn : NE E sh) : NE E' sh := fun s i hi h1 h2 => by
  obtain ⟨c, e⟩ := h.nz hi (zoh h1)
  rw [e] at h1 h2 ⊢
  refine Classical.byContradiction fun hc => c (.lk h1 h2 fun j hj hne => Classical.byContradiction fun hd => hc ⟨j, hj, ?_⟩)
  rw [h.k _ j hj hd]; exact hne
theorem Rm.conv {E E' : Int → Int → Pte} {al al' : Int → Prop} {sh : Int} {R R' : Int → Int → Prop} (h : Rm E al sh R E' al') (hR : ∀ s i, (0 ≤ i ∧ i < 512) → zat (E s i) = true → (R s i ↔ R' s i)) : Rm E al sh R' E' al' := by
  have hc := Rm.cong h hR
  exact ⟨fun s i hi hd => h.z s i hi ((hc s i hi).2 hd), fun s i hi hd => h.k s i hi fun d => hd ((hc s i hi).1 d), fun s => by
    rw [h.a s]
    exact and_congr Iff.rfl ⟨fun q t i hi k1 k2 hd => q t i hi k1 k2 ((hc t i hi).2 hd), fun q t i hi k1 k2 hd => q t i hi k1 k2 ((hc t i hi).1 hd)⟩⟩
theorem z34 {cd cp f f' : Int} (hb : 1 ≤ cp ∧ cp ≤ 64) (h : 0 ≤ f ∧ f < 2 ^ cp.toNat) (h' : 0 ≤ f' ∧ f' < 2 ^ cp.toNat) (he : ∀ s, Al cd cp f s ↔ Al cd cp f' s) : f = f' := by
  have u : U f := zg3 h.1 h.2 (by omega)
  have u' : U f' := zg3 h'.1 h'.2 (by omega)
  have hi : ∀ (g : Int), U g → g < 2 ^ cp.toNat → ∀ i : Nat, cp.toNat ≤ i → (X g).getLsbD i = false := fun g hg hlt i hi => by
    have e : (X g).toNat = g.toNat := zsv hg
    have : (X g).toNat < 2 ^ i := by
      rw [e]
      have h1 : (2 : Int) ^ cp.toNat = ((2 ^ cp.toNat : Nat) : Int) := by push_cast; rfl
      have h2 : 2 ^ cp.toNat ≤ 2 ^ i := Nat.pow_le_pow_right (by omega) hi
      have := hg.1
      omega
    rw [BitVec.getLsbD]
    exact Nat.testBit_lt_two_pow this
  have hX : X f = X f' := by
    refine BitVec.eq_of_getLsbD_eq fun i hi64 => ?_
    by_cases c : cp.toNat ≤ i
    · rw [hi f u h.2 i c, hi f' u' h'.2 i c]
    · have e := he (cd + (i : Int))
      unfold Al at e
      rw [show cd + (i : Int) - cd = (i : Int) by omega, zd7 (by omega), zd7 (by omega), Int.toNat_natCast] at e
      have r : (cd ≤ cd + (i : Int) ∧ cd + (i : Int) < cd + cp) := by omega
      cases e1 : (X f).getLsbD i <;> cases e2 : (X f').getLsbD i
      · rfl
      · rw [e1, e2] at e
        have := (e.1 ⟨r, rfl⟩).2
        cases this
      · rw [e1, e2] at e
        have := (e.2 ⟨r, rfl⟩).2
        cases this
      · rfl
  have e1 := zsv u
  have e2 := zsv u'
  rw [hX, e2] at e1
  have := u.1
  have := u'.1
  omega
section
variable {cd cp sz sh : Int}
theorem z35 {f : Int} {xs : List (Int × Int)} {lv : Int → Int} (h : TI cd cp sz xs f sh lv) (hn : NE (atM sz xs) sh) (h0 : f ≠ 0) {t i l : Int} {q : Pte} (ht : Al cd cp f t) (hi : 0 ≤ i ∧ i < 512) (hl : 1 ≤ l ∧ l ≤ 2) (hq : q = atM sz xs t i) (h1 : zat q = true) (h2 : zdt q l = false) : NE (atM sz (zko sz xs t i l q (cd + tzI f))) sh := fun s j hj k1 k2 => by
  have hat := fun s j hj => zvj h h0 ht hi hl hq h1 h2 s j hj
  obtain ⟨a0, a1, a2, a3⟩ := zc8 h h0
  have hU : q.U := by rw [hq]; exact zhq h.u _ _ _
  have hm : zhe q = true := by rw [hq]; exact zju h.u
  have hgt : cd + tzI f ≠ t := fun e => (a0 _ ht).2 e.symm
  have hpn : ∀ j, (0 ≤ j ∧ j < 512) → prt q l j ≠ zP := fun j hj => zyr (zea hU hm hl h1 h2 hj).2.2.1
  have keep : ∀ s j, (0 ≤ j ∧ j < 512) → atM sz xs s j ≠ zP → atM sz (zko sz xs t i l q (cd + tzI f)) s j ≠ zP := fun s j hj hne => by
    rw [hat s j hj]
    by_cases c : s = t ∧ j = i
    · rw [if_pos c]; exact zs5 rfl
    · rw [if_neg c]
      by_cases d : s = cd + tzI f
      · rw [if_pos d]; exact hpn j hj
      · rw [if_neg d]; exact hne
  rw [hat s j hj] at k1 k2 ⊢
  by_cases c : s = t ∧ j = i
  · rw [if_pos c]
    refine ⟨0, by omega, ?_⟩
    show atM sz (zko sz xs t i l q (cd + tzI f)) (cd + tzI f) 0 ≠ zP
    rw [hat _ 0 (by omega), if_neg (fun hh => hgt hh.1), if_pos rfl]
    exact hpn 0 (by omega)
  · rw [if_neg c] at k1 k2 ⊢
    by_cases d : s = cd + tzI f
    · rw [if_pos d] at k1
      rw [zdp (zea hU hm hl h1 h2 hj).2.2.1] at k1; cases k1
    · rw [if_neg d] at k1 k2 ⊢
      obtain ⟨j', hj', hne⟩ := hn s j hj k1 k2
      exact ⟨j', hj', keep _ _ hj' hne⟩
theorem z36 (addr zam top : Int) (l : Nat) (hw : 0 ≤ zam) (hwl : zam ≤ (l : Int)) (hl2 : l ≤ 2) : ∀ (n : Nat) (xs : List (Int × Int)) (f : Int) (lv : Int → Int), TI cd cp sz xs f sh lv → NE (atM sz xs) sh → Al cd cp f top → Al cd cp f sh → lv top = l → NE (atM sz (toN sz cd addr zam top l n xs f).1) sh
  | 0, xs, f, lv, h, hn, ht, _, hl => hn
  | n + 1, xs, f, lv, h, hn, ht, hsh, hl => by
    obtain ⟨l', t', i1, i2, i3, i4, i5, i6, i7⟩ := zeo h addr zam hw l top ht hl hwl
    unfold toN
    rw [i1]
    by_cases c1 : (l' : Int) = zam ∨ zat (atM sz xs t' (idx addr (l' : Int))) = false
    · rw [if_pos c1]; exact hn
    · rw [if_neg c1]
      by_cases c4 : f = 0
      · rw [if_pos c4]; exact hn
      · rw [if_neg c4]
        have c2 : ¬ (l' : Int) = zam := fun e => c1 (.inl e)
        have hlf : zat (atM sz xs t' (idx addr (l' : Int))) = true := by
          cases e : zat (atM sz xs t' (idx addr (l' : Int))) with
          | true => rfl
          | false => exact absurd (.inr e) c1
        obtain ⟨m, rfl⟩ : ∃ m : Nat, l' = m + 1 := ⟨l' - 1, by omega⟩
        have hi := idx_bd addr ((m + 1 : Nat) : Int)
        have hbad : zdt (atM sz xs t' (idx addr ((m + 1 : Nat) : Int))) ((m + 1 : Nat) : Int) = false := by
          rcases h.e.k t' _ hi with e | ⟨_, _, ⟨_, e⟩ | ⟨e, _⟩⟩
          · rw [e] at hlf; cases hlf
          · rw [i5] at e; exact e
          · rw [(zbz e).2.2] at hlf; cases hlf
        obtain ⟨a0, a1, a2, a3⟩ := zc8 h c4
        have hT := zvk h c4 i4 hsh hi i5 (by omega) rfl hlf hbad
        exact z36 addr zam top l hw hwl hl2 n _ _ _ hT (z35 h hn c4 i4 hi (l := ((m + 1 : Nat) : Int)) (by omega) rfl hlf hbad) (a0 _ ht).1 (a0 _ hsh).1 ((if_neg (a0 _ ht).2).trans hl)
end
theorem zr0 {n : Nat} {k : Kr} {id a l : Int} (h : InvT n k) (c0 : (zan k id a l).2.2 = 0) : (zan k id a l).2.1 = 2 ∨ (zan k id a l).1 = k.sh := by
  rcases zeb h.l c0 with ⟨e1, _⟩ | ⟨_, _, _, e, _⟩
  · exact .inr e1
  · exact .inl e
theorem un_n {n : Nat} {k : Kr} {id a l : Int} (h : InvT n k) (g : InvN k) : InvN (unR k id a l).1 := by
  unfold unR
  split
  · exact g
  · rename_i c0
    split
    · exact g
    · split
      · exact g
      · rename_i c5
        obtain ⟨lv, hT, hs, hr⟩ := h.t
        obtain ⟨w1, w2, w3, w4⟩ := zbw (id := id) (a := a) (l := l) h.l (by omega)
        obtain ⟨z1, z2⟩ := h.top (a := a) (id := id) (l := l) (by omega) hs hr
        have z3 := zr0 (id := id) (a := a) (l := l) h (by omega)
        generalize zan k id a l = w at *
        obtain ⟨lv', P⟩ := zx9 a l w.1 w.2.1.toNat w1.1 (by omega) (by omega) w.2.1.toNat k.m k.pf lv hT w2 h.l.sh (by omega)
        have hN := z36 a l w.1 w.2.1.toNat w1.1 (by omega) (by omega) w.2.1.toNat k.m k.pf lv hT g.ne w2 h.l.sh (by omega)
        have hN : NE (atM k.sz (unT k w.1 w.2.1 a l).1) k.sh := hN
        have P : ToP k.cd k.cp k.sz k.pf k.sh a l w.1 w.2.1.toNat k.m lv w.2.1.toNat (unT k w.1 w.2.1 a l) lv' := P
        generalize unT k w.1 w.2.1 a l = T at *
        obtain ⟨xs, f, ⟨t, lt⟩, e⟩ := T
        obtain ⟨l', e1, e2, e3, e4, e5⟩ := P.p
        have e1 : lt = (l' : Int) := e1
        subst e1
        have hPt : TI k.cd k.cp k.sz xs f k.sh lv' := P.t
        have ash := P.a _ h.l.sh
        have atop := P.a _ w2
        have hPr : zaq k.sz xs a l w.2.1.toNat w.1 = (t, (l' : Int)) := P.r
        have Q := z1w (e := e) hPt hN ash.1 a l w1.1 (top := w.1) (l0 := w.2.1.toNat) (l' := l') atop.1 (by rw [atop.2]; omega) (by omega) (by omega) (fun hh => z2 (by omega)) (z3.imp (fun hh => by omega) (fun hh => hh)) hPr
        exact ⟨z33 Q hN⟩
theorem z37 {a v l m : Int} (hl : 0 ≤ l ∧ l ≤ 2) (hm : l ≤ m ∧ m ≤ 2) (ha : m39 a % VaSpec.sz l = 0) (h0 : m39 a ≤ m39 v) (h1 : m39 v < m39 a + VaSpec.sz l) : idx v m = idx a m := by
  rw [← zqi v m (by omega), ← zqi a m (by omega)]
  unfold idx
  rcases (by omega : l = 0 ∨ l = 1 ∨ l = 2) with rfl | rfl | rfl <;> rcases (by omega : m = 0 ∨ m = 1 ∨ m = 2) with rfl | rfl | rfl
  all_goals first
    | (exfalso; omega)
    | (simp only [show VaSpec.sz 0 = 4096 from rfl, show VaSpec.sz 1 = 2097152 from rfl, show VaSpec.sz 2 = 1073741824 from rfl] at *; omega)
theorem z1x {a l : Int} (hl : 0 ≤ l ∧ l ≤ 2) (hv : a = ofv (num a)) (hm : m39 a % VaSpec.sz l = 0) : zj9 a l = true := by
  have hb := VaC.z2v (num a)
  have e : isv a = true := by
    rw [← zt9 a (by omega) (by omega), beq_iff_eq]
    conv => rhs; rw [hv]
    have hm2 := zk9 hl hm
    unfold m39 at hm2
    unfold ofv num
    congr 1
    omega
  unfold zj9 off
  rw [e, Bool.true_and, beq_iff_eq]
  unfold m39 at hm
  rcases (by omega : l = 0 ∨ l = 1 ∨ l = 2) with rfl | rfl | rfl
  all_goals
    simp only [show VaSpec.sz 0 = 4096 from rfl, show VaSpec.sz 1 = 2097152 from rfl, show VaSpec.sz 2 = 1073741824 from rfl] at *
    omega
section
variable {cd cp sz f sh : Int} {xs : List (Int × Int)} {lv : Int → Int}
theorem zs7 (h : TI cd cp sz xs f sh lv) (a v zam w : Int) (hw : 0 ≤ zam) {t : Int} {l' : Nat} (hlk : lkP (atM sz xs t (idx a (l' : Int))) = true) (hwv : 0 ≤ w ∧ w < (l' : Int)) (hix : ∀ m, (l' : Int) ≤ m → m ≤ 2 → idx v m = idx a m) : ∀ (l : Nat) (t0 : Int), l ≤ 2 → Al cd cp f t0 → lv t0 = l → zam ≤ (l : Int) → zaq sz xs a zam l t0 = (t, (l' : Int)) → zaq sz xs v w l t0 = zaq sz xs v w (l' - 1) (atM sz xs t (idx a (l' : Int))).ppn := by
  intro l
  induction l with
  | zero =>
    intro t0 _ hta hlt hwl hr
    have hr : (t0, (0 : Int)) = (t, (l' : Int)) := hr
    simp only [Prod.mk.injEq] at hr
    omega
  | succ l ih =>
    intro t0 h2 hta hlt hwl hr
    have hi := idx_bd a ((l + 1 : Nat) : Int)
    by_cases cg : zam < ((l + 1 : Nat) : Int) ∧ za2 (atM sz xs t0 (idx a ((l + 1 : Nat) : Int))) ((l + 1 : Nat) : Int) = true
    · obtain ⟨k1, k2, k3, k4, k5⟩ := zjv h hi cg.2
      rw [zbc cg.1 cg.2] at hr
      have hlg : lv (atM sz xs t0 (idx a ((l + 1 : Nat) : Int))).ppn = l := by rw [k4, hlt]; omega
      have := (zew h a zam hw l _ k5 hlg (by omega) hr).2.1
      have e := hix ((l + 1 : Nat) : Int) (by omega) (by omega)
      rw [zbc (by omega) (by rw [e]; exact cg.2), e]
      exact ih _ (by omega) k5 hlg (by omega) hr
    · have hno : zaq sz xs a zam (l + 1) t0 = (t0, ((l + 1 : Nat) : Int)) := za8 (fun hh => by
        cases e : za2 (atM sz xs t0 (idx a ((l + 1 : Nat) : Int))) ((l + 1 : Nat) : Int) with
        | false => rfl
        | true => exact absurd ⟨hh, e⟩ cg) hw
      rw [hno] at hr
      simp only [Prod.mk.injEq] at hr
      obtain ⟨rfl, e0⟩ := hr
      obtain rfl : l' = l + 1 := by omega
      have e := hix ((l + 1 : Nat) : Int) (by omega) (by omega)
      rw [zbc hwv.2 (by rw [e]; exact zb2 hlk (by omega)), e]
      rfl
theorem zyt (h : TI cd cp sz xs f sh lv) : ∀ (l : Nat) (t b : Int) (y z : Pg), l ≤ 1 → Al cd cp f t → lv t = l → m39 b % (512 * VaSpec.sz l) = 0 → y ∈ zbq sz xs l t b → z ∈ zbq sz xs l t b → (zaq sz xs y.va y.lev l t).1 = (zaq sz xs z.va z.lev l t).1 → idx y.va y.lev = idx z.va z.lev → y = z := by
  have leafix : ∀ (l : Nat) (b : Int) (i : Nat) (p : Pte), l ≤ 1 → i < 512 → m39 b % (512 * VaSpec.sz l) = 0 → idx (zwp p (adr b i (l : Int)) (l : Int)).va (l : Int) = (i : Int) := fun l b i p h1 hi hb => by
    obtain ⟨e1, e2⟩ := zed (b := b) (i := (i : Int)) (l := (l : Int)) (by omega) (by omega) hb
    have hdv : m39 (adr b i (l : Int)) % VaSpec.sz (l : Int) = 0 := by
      rw [e1]
      rcases (by omega : l = 0 ∨ l = 1) with rfl | rfl
      · have hz : VaSpec.sz ((0 : Nat) : Int) = 4096 := rfl
        rw [hz] at hb ⊢; omega
      · have hz : VaSpec.sz ((1 : Nat) : Int) = 2097152 := rfl
        rw [hz] at hb ⊢; omega
    have hsp := sz_pos (l := (l : Int)) (by omega)
    have e3 := zj1 (a := adr b i (l : Int)) (zk9 (l := (l : Int)) (by omega) hdv)
    exact zj3 (l := (l : Int)) (by omega) (by omega) hb (by show _ ≤ m39 (ofv (num _)); rw [e3, e1]; omega) (by show m39 (ofv (num _)) < _; rw [e3, e1]; omega)
  intro l
  induction l with
  | zero =>
    intro t b y z _ ha hl hb hy hz hr hx
    obtain ⟨i, hi, _, ⟨c1, rfl⟩ | ⟨_, m, e, _⟩⟩ := (zck _ _ _ _ _ _).1 hy
    rotate_left
    · omega
    obtain ⟨j, hj, _, ⟨c2, rfl⟩ | ⟨_, m, e, _⟩⟩ := (zck _ _ _ _ _ _).1 hz
    rotate_left
    · omega
    have e1 := leafix 0 b i (atM sz xs t i) (by omega) hi hb
    have e2 := leafix 0 b j (atM sz xs t j) (by omega) hj hb
    have : (i : Int) = (j : Int) := e1.symm.trans (hx.trans e2)
    rw [this]
  | succ l ih =>
    intro t b y z h1 ha hl hb hy hz hr hx
    have child : ∀ (i : Nat) (y : Pg), i < 512 → zdt (atM sz xs t i) ((l + 1 : Nat) : Int) = false → zat (atM sz xs t i) = false → y ∈ zbq sz xs l (atM sz xs t i).ppn (adr b i ((l + 1 : Nat) : Int)) → lkP (atM sz xs t i) = true ∧ m39 (adr b i ((l + 1 : Nat) : Int)) % (512 * VaSpec.sz (l : Int)) = 0 ∧ zaq sz xs y.va y.lev (l + 1) t = zaq sz xs y.va y.lev l (atM sz xs t i).ppn ∧ (0 ≤ y.lev ∧ y.lev ≤ (l : Int)) := fun i y hi c0 c1 hy => by
      have hi' : (0 : Int) ≤ (i : Int) ∧ (i : Int) < 512 := by omega
      have hlk : lkP (atM sz xs t i) = true := by
        rcases h.e.k t i hi' with e | ⟨_, _, ⟨e, _⟩ | ⟨e, _⟩⟩
        · rw [e] at c0; cases c0
        · rw [e] at c1; cases c1
        · exact e
      obtain ⟨e1, e2⟩ := zed (b := b) (i := (i : Int)) (l := ((l + 1 : Nat) : Int)) (by omega) (by omega) hb
      have hss := zgq (l := ((l + 1 : Nat) : Int)) (by omega)
      rw [show ((l + 1 : Nat) : Int) - 1 = (l : Int) by omega] at hss
      have hdv : m39 (adr b i ((l + 1 : Nat) : Int)) % (512 * VaSpec.sz (l : Int)) = 0 := by
        rw [e1, ← hss]
        obtain rfl : l = 0 := by omega
        have hz : VaSpec.sz ((0 + 1 : Nat) : Int) = 2097152 := rfl
        rw [hz] at hb ⊢; omega
      obtain ⟨q1, q2, q3, q4, q5⟩ := zhc sz xs l (atM sz xs t i).ppn (adr b i ((l + 1 : Nat) : Int)) y (by omega) hdv hy
      have hsp := sz_pos (l := y.lev) (by omega)
      have hix : idx y.va ((l + 1 : Nat) : Int) = (i : Int) := zj3 (by omega) hi' hb (by rw [← e1]; exact q2) (by rw [hss] at e1 ⊢; omega)
      refine ⟨hlk, hdv, ?_, q1⟩
      rw [zbc (by omega) (by rw [hix]; exact zb2 hlk (by omega)), hix]
    have leafr : ∀ (i : Nat), zaq sz xs (zwp (atM sz xs t i) (adr b i ((l + 1 : Nat) : Int)) ((l + 1 : Nat) : Int)).va (zwp (atM sz xs t i) (adr b i ((l + 1 : Nat) : Int)) ((l + 1 : Nat) : Int)).lev (l + 1) t = (t, ((l + 1 : Nat) : Int)) := fun i => za8 (fun hh => absurd hh (by show ¬ ((l + 1 : Nat) : Int) < ((l + 1 : Nat) : Int); omega)) (by show (0 : Int) ≤ ((l + 1 : Nat) : Int); omega)
    have low : ∀ (i : Nat) (y : Pg), i < 512 → lkP (atM sz xs t i) = true → (0 ≤ y.lev ∧ y.lev ≤ (l : Int)) → (zaq sz xs y.va y.lev l (atM sz xs t i).ppn).1 ∈ frN sz xs l (atM sz xs t i).ppn ∧ (zaq sz xs y.va y.lev l (atM sz xs t i).ppn).1 ≠ t := fun i y hi hlk hlev => by
      have hm := zmn sz xs y.va y.lev hlev.1 l (atM sz xs t i).ppn
      obtain ⟨_, k2, k3, k4⟩ := zcv h (show (0 : Int) ≤ (i : Int) ∧ (i : Int) < 512 by omega) hlk
      have := (zbg h l _ k4 (by rw [k3, hl]; omega) _ hm).2.1
      exact ⟨hm, fun e => by rw [e, hl] at this; omega⟩
    obtain ⟨i, hi, c0, ⟨c1, rfl⟩ | ⟨c1, m, e, hy⟩⟩ := (zck _ _ _ _ _ _).1 hy <;> obtain ⟨j, hj, d0, ⟨d1, rfl⟩ | ⟨d1, m', e', hz⟩⟩ := (zck _ _ _ _ _ _).1 hz
    · have e1 := leafix (l + 1) b i (atM sz xs t i) (by omega) hi hb
      have e2 := leafix (l + 1) b j (atM sz xs t j) (by omega) hj hb
      have : (i : Int) = (j : Int) := e1.symm.trans (hx.trans e2)
      rw [this]
    · obtain rfl : m' = l := by omega
      obtain ⟨f1, f2, f3, f4⟩ := child j z hj d0 d1 hz
      rw [leafr i, f3] at hr
      exact absurd hr.symm (low j z hj f1 f4).2
    · obtain rfl : m = l := by omega
      obtain ⟨f1, f2, f3, f4⟩ := child i y hi c0 c1 hy
      rw [leafr j, f3] at hr
      exact absurd hr (low i y hi f1 f4).2
    · obtain rfl : m = l := by omega
      obtain rfl : m' = m := by omega
      obtain ⟨f1, f2, f3, f4⟩ := child i y hi c0 c1 hy
      obtain ⟨g1, g2, g3, g4⟩ := child j z hj d0 d1 hz
      rw [f3, g3] at hr
      have m1 := (low i y hi f1 f4).1
      have m2 := (low j z hj g1 g4).1
      rw [hr] at m1
      have hij : (i : Int) = (j : Int) := zwc h hl (by omega) (by omega) (by omega) f1 g1 (.inl fun ee => by have := (h.e.s t i (by omega) f1 ee).2; omega) m1 m2
      obtain rfl : i = j := by omega
      obtain ⟨_, k2, k3, k4⟩ := zcv h (show (0 : Int) ≤ (i : Int) ∧ (i : Int) < 512 by omega) f1
      exact ih _ _ y z (by omega) k4 (by rw [k3, hl]; omega) f2 hy hz hr hx
theorem zwl (h : TI cd cp sz xs f sh lv) : ∀ (l : Nat) (t b : Int), l ≤ 1 → Al cd cp f t → lv t = l → m39 b % (512 * VaSpec.sz l) = 0 → ∀ s ∈ frN sz xs l t, ∀ j, (0 ≤ j ∧ j < 512) → zat (atM sz xs s j) = true → ∃ y ∈ zbq sz xs l t b, zaq sz xs y.va y.lev l t = (s, y.lev) ∧ idx y.va y.lev = j := by
  have own : ∀ (l : Nat) (t b : Int), l ≤ 1 → lv t = l → m39 b % (512 * VaSpec.sz l) = 0 → ∀ j, (0 ≤ j ∧ j < 512) → zat (atM sz xs t j) = true → ∃ y ∈ zbq sz xs l t b, zaq sz xs y.va y.lev l t = (t, y.lev) ∧ idx y.va y.lev = j := fun l t b h1 hl hb j hj hlf => by
    obtain ⟨_, _, q2⟩ := zmm h hj hlf
    rw [hl] at q2
    refine ⟨zwp (atM sz xs t j) (adr b j (l : Int)) (l : Int), ?_, za8 (fun hh => absurd hh (by show ¬ (l : Int) < (l : Int); omega)) (by show (0 : Int) ≤ (l : Int); omega), ?_⟩
    · have hlf := hlf
      rw [show j = ((j.toNat : Nat) : Int) by omega] at hlf q2 ⊢
      exact (zck _ _ _ _ _ _).2 ⟨j.toNat, by omega, q2, .inl ⟨hlf, rfl⟩⟩
    · obtain ⟨e1, e2⟩ := zed (b := b) (i := j) (l := (l : Int)) (by omega) hj hb
      have hdv : m39 (adr b j (l : Int)) % VaSpec.sz (l : Int) = 0 := by
        rw [e1]
        rcases (by omega : l = 0 ∨ l = 1) with rfl | rfl
        · have hz : VaSpec.sz ((0 : Nat) : Int) = 4096 := rfl
          rw [hz] at hb ⊢; omega
        · have hz : VaSpec.sz ((1 : Nat) : Int) = 2097152 := rfl
          rw [hz] at hb ⊢; omega
      have hsp := sz_pos (l := (l : Int)) (by omega)
      have e3 := zj1 (a := adr b j (l : Int)) (zk9 (l := (l : Int)) (by omega) hdv)
      exact zj3 (l := (l : Int)) (by omega) hj hb (by show _ ≤ m39 (ofv (num _)); rw [e3, e1]; omega) (by show m39 (ofv (num _)) < _; rw [e3, e1]; omega)
  intro l
  induction l with
  | zero =>
    intro t b h1 ha hl hb s hs j hj hlf
    have e : s = t := by simpa [frN] using hs
    subst e
    exact own 0 s b h1 hl hb j hj hlf
  | succ l ih =>
    intro t b h1 ha hl hb s hs j hj hlf
    simp only [frN, List.mem_cons] at hs
    rcases hs with rfl | hs
    · exact own (l + 1) s b h1 hl hb j hj hlf
    · obtain ⟨i, hi, hs⟩ := List.mem_flatMap.1 hs
      have hi := List.mem_range.1 hi
      split at hs
      · rename_i hlk
        have hi' : (0 : Int) ≤ (i : Int) ∧ (i : Int) < 512 := by omega
        obtain ⟨k1, k2, k3, k4, k5⟩ := zjv h hi' hlk
        obtain ⟨e1, e2⟩ := zed (b := b) (i := (i : Int)) (l := ((l + 1 : Nat) : Int)) (by omega) (by omega) hb
        have hss := zgq (l := ((l + 1 : Nat) : Int)) (by omega)
        rw [show ((l + 1 : Nat) : Int) - 1 = (l : Int) by omega] at hss
        have hdv : m39 (adr b i ((l + 1 : Nat) : Int)) % (512 * VaSpec.sz (l : Int)) = 0 := by
          rw [e1, ← hss]
          obtain rfl : l = 0 := by omega
          have hz : VaSpec.sz ((0 + 1 : Nat) : Int) = 2097152 := rfl
          rw [hz] at hb ⊢; omega
        obtain ⟨y, hy, r1, r2⟩ := ih _ (adr b i ((l + 1 : Nat) : Int)) (by omega) k5 (by rw [k4, hl]; omega) hdv s hs j hj hlf
        obtain ⟨q1, q2, q3, q4, q5⟩ := zhc sz xs l (atM sz xs t i).ppn (adr b i ((l + 1 : Nat) : Int)) y (by omega) hdv hy
        have hsp := sz_pos (l := y.lev) (by omega)
        have hix : idx y.va ((l + 1 : Nat) : Int) = (i : Int) := zj3 (by omega) hi' hb (by rw [← e1]; exact q2) (by rw [hss] at e1 ⊢; omega)
        have hbad : zdt (atM sz xs t i) ((l + 1 : Nat) : Int) = false := by
          unfold za2 at hlk
          simp only [Bool.and_eq_true, Bool.not_eq_true'] at hlk
          exact hlk.2
        refine ⟨y, (zck _ _ _ _ _ _).2 ⟨i, hi, hbad, .inr ⟨(zbz k1).2.2, l, rfl, hy⟩⟩, ?_, r2⟩
        rw [zbc (by omega) (by rw [hix]; exact hlk), hix]
        exact r1
      · cases hs
theorem zyu (sz : Int) (xs : List (Int × Int)) : ∀ (l : Nat) (t b : Int), l ≤ 1 → m39 b % (512 * VaSpec.sz l) = 0 → (zbq sz xs l t b).Pairwise (fun y z => m39 y.va < m39 z.va) := by
  have part : ∀ (l : Nat) (b : Int) (i : Nat), l ≤ 1 → i < 512 → m39 b % (512 * VaSpec.sz l) = 0 → m39 (adr b i (l : Int)) % VaSpec.sz (l : Int) = 0 ∧ m39 (adr b i (l : Int)) = m39 b + (i : Int) * VaSpec.sz (l : Int) := fun l b i h1 hi hb => by
    obtain ⟨e1, e2⟩ := zed (b := b) (i := (i : Int)) (l := (l : Int)) (by omega) (by omega) hb
    refine ⟨?_, e1⟩
    rw [e1]
    rcases (by omega : l = 0 ∨ l = 1) with rfl | rfl
    · have hz : VaSpec.sz ((0 : Nat) : Int) = 4096 := rfl
      rw [hz] at hb ⊢; omega
    · have hz : VaSpec.sz ((1 : Nat) : Int) = 2097152 := rfl
      rw [hz] at hb ⊢; omega
  have blkE : ∀ (l : Nat) (t b : Int) (rec : Int → Int → List Pg) (i : Nat), l ≤ 1 → i < 512 → m39 b % (512 * VaSpec.sz l) = 0 → (∀ y ∈ rec (atM sz xs t i).ppn (adr b i (l : Int)), m39 (adr b i (l : Int)) ≤ m39 y.va ∧ m39 y.va < m39 (adr b i (l : Int)) + VaSpec.sz (l : Int)) → ∀ y ∈ zfr rec (atM sz xs t i) (l : Int) (adr b i (l : Int)), m39 b + (i : Int) * VaSpec.sz (l : Int) ≤ m39 y.va ∧ m39 y.va < m39 b + (i : Int) * VaSpec.sz (l : Int) + VaSpec.sz (l : Int) := fun l t b rec i h1 hi hb hrec y hy => by
    obtain ⟨p1, p2⟩ := part l b i h1 hi hb
    have hsp := sz_pos (l := (l : Int)) (by omega)
    unfold zfr at hy
    split at hy
    · cases hy
    · split at hy
      · have hy := List.mem_singleton.1 hy
        subst hy
        have e3 := zj1 (a := adr b i (l : Int)) (zk9 (l := (l : Int)) (by omega) p1)
        show m39 b + _ ≤ m39 (ofv (num (adr b i (l : Int)))) ∧ m39 (ofv (num (adr b i (l : Int)))) < _
        rw [e3, p2]
        omega
      · have := hrec y hy
        omega
  have apart : ∀ (l : Nat) (i j : Nat), l ≤ 1 → i < j → (i : Int) * VaSpec.sz (l : Int) + VaSpec.sz (l : Int) ≤ (j : Int) * VaSpec.sz (l : Int) := fun l i j h1 hij => by
    rcases (by omega : l = 0 ∨ l = 1) with rfl | rfl
    · have hz : VaSpec.sz ((0 : Nat) : Int) = 4096 := rfl
      rw [hz]; omega
    · have hz : VaSpec.sz ((1 : Nat) : Int) = 2097152 := rfl
      rw [hz]; omega
  have glue : ∀ (l : Nat) (t b : Int) (rec : Int → Int → List Pg), l ≤ 1 → m39 b % (512 * VaSpec.sz l) = 0 → (∀ i : Nat, i < 512 → (rec (atM sz xs t i).ppn (adr b i (l : Int))).Pairwise (fun y z => m39 y.va < m39 z.va) ∧ ∀ y ∈ rec (atM sz xs t i).ppn (adr b i (l : Int)), m39 (adr b i (l : Int)) ≤ m39 y.va ∧ m39 y.va < m39 (adr b i (l : Int)) + VaSpec.sz (l : Int)) → ((List.range 512).flatMap fun (i : Nat) => zfr rec (atM sz xs t i) (l : Int) (adr b i (l : Int))).Pairwise (fun y z => m39 y.va < m39 z.va) := fun l t b rec h1 hb hrec => by
    rw [List.pairwise_flatMap]
    refine ⟨fun i hi => ?_, ?_⟩
    · have hi := List.mem_range.1 hi
      unfold zfr
      split
      · exact .nil
      · split
        · exact List.pairwise_singleton _ _
        · exact (hrec i hi).1
    · refine List.Pairwise.imp_of_mem ?_ (List.pairwise_lt_range (n := 512))
      intro i j hi hj hij y hy z hz
      have hi := List.mem_range.1 hi
      have hj := List.mem_range.1 hj
      have b1 := blkE l t b rec i h1 hi hb (hrec i hi).2 y hy
      have b2 := blkE l t b rec j h1 hj hb (hrec j hj).2 z hz
      have := apart l i j h1 hij
      omega
  intro l
  induction l with
  | zero =>
    intro t b h1 hb
    exact glue 0 t b (fun _ _ => []) h1 hb fun i hi => ⟨.nil, fun y hy => by cases hy⟩
  | succ l ih =>
    intro t b h1 hb
    refine glue (l + 1) t b (zbq sz xs l) h1 hb fun i hi => ?_
    obtain ⟨p1, p2⟩ := part (l + 1) b i h1 hi hb
    have hss := zgq (l := ((l + 1 : Nat) : Int)) (by omega)
    rw [show ((l + 1 : Nat) : Int) - 1 = (l : Int) by omega] at hss
    rw [hss] at p1
    refine ⟨ih _ _ (by omega) p1, fun y hy => ?_⟩
    obtain ⟨q1, q2, q3, q4, q5⟩ := zhc sz xs l (atM sz xs t i).ppn (adr b i ((l + 1 : Nat) : Int)) y (by omega) p1 hy
    have hsp := sz_pos (l := y.lev) (by omega)
    rw [← hss] at q3
    omega
end
end Go.Proofs.YtomeaibdedaldaaGreatDoor.LnG
namespace Go.Proofs.YtomeaibdedaldaaGreatDoor.LnH
open Go.RowKit Bv VaSpec Base MemL RegR Ax MemC PutC MemC3 TzC OkS SpA SpB SpC SpD SpE SpF SpN SpO SpG SpH SpI SpJ LaA LaB LaC LaD LaE LaF LaG LiA LiB LiC LiD LiE LiF LrA LrB LrC LjA LjF LkE LmA LmB LmE LnA LnB BitsC PteSpec RfE RfG RfJ RfK LaH RfA RfP RfQ LnD LnF LnG
set_option maxRecDepth 10000
set_option maxHeartbeats 1000000
theorem zyv {sz sh : Int} {xs xs' : List (Int × Int)} {al al' : Int → Prop} {R : Int → Int → Prop} (h : Rm (atM sz xs) al sh R (atM sz xs') al') (hk : ∀ s i, (0 ≤ i ∧ i < 512) → ∀ l, 1 ≤ l → za2 (atM sz xs s i) l = true → lkP (atM sz xs s i) = true) (v w : Int) (hw : 0 ≤ w) {t : Int} : ∀ (l : Nat) (t0 : Int), zaq sz xs v w l t0 = (t, w) → zat (atM sz xs t (idx v w)) = true → ¬ R t (idx v w) → (w ≤ (l : Int)) →
    ¬ Dd (atM sz xs) sh R t0 (idx v (l : Int)) ∧ atM sz xs t0 (idx v (l : Int)) ≠ zP ∧ zaq sz xs' v w l t0 = (t, w) := by
  have base : ∀ (l : Nat) (t0 : Int), zat (atM sz xs t0 (idx v (l : Int))) = true → ¬ R t0 (idx v (l : Int)) → ¬ Dd (atM sz xs) sh R t0 (idx v (l : Int)) ∧ atM sz xs t0 (idx v (l : Int)) ≠ zP := fun l t0 hlf hR => by
    refine ⟨fun hd => ?_, zyr hlf⟩
    rcases hd.inv with ⟨_, q⟩ | ⟨q, _⟩
    · exact hR q
    · rw [zdp hlf] at q; cases q
  intro l
  induction l with
  | zero =>
    intro t0 hr hlf hR _
    have hr : (t0, (0 : Int)) = (t, w) := hr
    simp only [Prod.mk.injEq] at hr
    obtain ⟨rfl, rfl⟩ := hr
    obtain ⟨b1, b2⟩ := base 0 t0 hlf hR
    exact ⟨b1, b2, rfl⟩
  | succ l ih =>
    intro t0 hr hlf hR hwl
    have hi := idx_bd v ((l + 1 : Nat) : Int)
    by_cases cg : w < ((l + 1 : Nat) : Int) ∧ za2 (atM sz xs t0 (idx v ((l + 1 : Nat) : Int))) ((l + 1 : Nat) : Int) = true
    · have k1 := hk t0 _ hi _ (by omega) cg.2
      rw [zbc cg.1 cg.2] at hr
      obtain ⟨q1, q2, q3⟩ := ih _ hr hlf hR (by omega)
      have hnd : ¬ Dd (atM sz xs) sh R t0 (idx v ((l + 1 : Nat) : Int)) := fun hd => by
        rcases hd.inv with ⟨q, _⟩ | ⟨_, _, q⟩
        · rw [zdp q] at k1; cases k1
        · exact q1 (q _ (idx_bd _ _) q2)
      have e := h.k t0 _ hi hnd
      refine ⟨hnd, zoh k1, ?_⟩
      rw [zbc cg.1 (by rw [e]; exact cg.2), e]
      exact q3
    · have hno : zaq sz xs v w (l + 1) t0 = (t0, ((l + 1 : Nat) : Int)) := za8 (fun hh => by
        cases e : za2 (atM sz xs t0 (idx v ((l + 1 : Nat) : Int))) ((l + 1 : Nat) : Int) with
        | false => rfl
        | true => exact absurd ⟨hh, e⟩ cg) hw
      rw [hno] at hr
      simp only [Prod.mk.injEq] at hr
      obtain ⟨rfl, rfl⟩ := hr
      obtain ⟨b1, b2⟩ := base (l + 1) t0 hlf hR
      exact ⟨b1, b2, za8 (fun hh => absurd hh (by omega)) hw⟩
structure PJ (k : Kr) (lv : Int → Int) (R : Int → Int → Prop) (b : Kr) : Prop where
  e : b = { k with m := b.m, pf := b.pf, fs := b.fs }
  t : TI k.cd k.cp k.sz b.m b.pf k.sh lv
  r : Rm (atM k.sz k.m) (Al k.cd k.cp k.pf) k.sh R (atM k.sz b.m) (Al k.cd k.cp b.pf)
theorem Rm.refl (E : Int → Int → Pte) (al : Int → Prop) (sh : Int) (hn : NE E sh) (hl : ∀ s i, (0 ≤ i ∧ i < 512) → E s i ≠ zP → zat (E s i) = true ∨ lkP (E s i) = true) : Rm E al sh (fun _ _ => False) E al := by
  have no : ∀ {s i}, Dd E sh (fun _ _ => False) s i → (0 ≤ i ∧ i < 512) → False := fun {s i} hd => by
    induction hd with
    | lf _ r => exact fun _ => r
    | @lk s i h n a ih =>
      intro hi
      obtain ⟨j, hj, hne⟩ := hn s i hi h n
      exact ih j hj hne hj
  exact ⟨fun s i hi hd => (no hd hi).elim, fun _ _ _ _ => rfl, fun s => ⟨fun q => ⟨q, fun t i hi _ _ hd => no hd hi⟩, fun q => q.1⟩⟩
theorem z1y {n : Nat} {k b : Kr} {lv : Int → Int} {R : Int → Int → Prop} {id v w top : Int} {l0 : Nat} {t : Int} (hb : InvT n b) (hN : NE (atM k.sz k.m) k.sh) (hT : TI k.cd k.cp k.sz k.m k.pf k.sh lv) (P : PJ k lv R b) (hw : 0 ≤ w) (hwh : zan k id v w = (top, (l0 : Int), 0)) (hl : lv top = l0) (h02 : l0 ≤ 2) (hwl : w ≤ (l0 : Int)) (hH : l0 = 2 → idx v 2 ≠ 511) (h0 : l0 = 2 ∨ top = k.sh)
    (hr : zaq k.sz k.m v w l0 top = (t, w)) (hlf : zat (atM k.sz k.m t (idx v w)) = true) (hR : ¬ R t (idx v w)) :
    (unR b id v w).2 = 0 ∧ PJ k lv (fun s j => R s j ∨ (s = t ∧ j = idx v w)) (unR b id v w).1 := by
  obtain ⟨w', rfl⟩ := Int.eq_ofNat_of_zero_le hw
  have hi := idx_bd v (w' : Int)
  have q3 := (zyv P.r (fun s i hi l h1 h2 => (zjv hT hi h2).1) v (w' : Int) hw l0 top hr hlf hR hwl).2.2
  have hnd : ¬ Dd (atM k.sz k.m) k.sh R t (idx v (w' : Int)) := fun hd => by
    rcases hd.inv with ⟨_, q⟩ | ⟨q, _⟩
    · exact hR q
    · rw [zdp hlf] at q; cases q
  have hE := P.r.k t _ hi hnd
  have hlf' : zat (atM k.sz b.m t (idx v (w' : Int))) = true := by rw [hE]; exact hlf
  have hwb : zan b id v (w' : Int) = (top, (l0 : Int), 0) := by
    rw [P.e]; exact hwh
  have hwg := zbw (id := id) (a := v) (l := (w' : Int)) hb.l (by rw [hwb])
  rw [hwb] at hwg
  have hbz : b.sz = k.sz ∧ b.cd = k.cd ∧ b.cp = k.cp ∧ b.sh = k.sh := by
    rw [P.e]; exact ⟨rfl, rfl, rfl, rfl⟩
  obtain ⟨z1, z2, z3, z4⟩ := hbz
  have hat : Al k.cd k.cp b.pf top := by have := hwg.2.1; rw [z2, z3] at this; exact this
  have hash : Al k.cd k.cp b.pf k.sh := by have := hb.l.sh; rw [z2, z3, z4] at this; exact this
  have hre : za6 b.sz b.m v (w' : Int) (l0 : Int) top = (t, (w' : Int)) := by
    unfold za6; rw [z1, Int.toNat_natCast]; exact q3
  have hin : (inR b id v (w' : Int)).length ≠ 0 := by
    unfold inR
    rw [hwb, if_neg (by simp)]
    show (zbi b.sz b.m (za6 b.sz b.m v (w' : Int) (l0 : Int) top).2 (atM b.sz b.m (za6 b.sz b.m v (w' : Int) (l0 : Int) top).1 (idx v (za6 b.sz b.m v (w' : Int) (l0 : Int) top).2)) (VaSpec.base v (za6 b.sz b.m v (w' : Int) (l0 : Int) top).2)).length ≠ 0
    rw [hre]
    unfold zbi
    rw [z1, if_pos hlf']
    simp
  have huT : unT b top (l0 : Int) v (w' : Int) = (b.m, b.pf, (t, (w' : Int)), 0) := by
    unfold unT
    rw [z1, z2, Int.toNat_natCast, zv8 (.inl (by rw [q3])) _, q3]
  have hU : unR b id v (w' : Int) = (unK b id top (l0 : Int) v (w' : Int) (b.m, b.pf, (t, (w' : Int)), 0), 0) := by
    unfold unR
    rw [hwb, if_neg (by simp), if_neg hin]
    show (if (unT b top (l0 : Int) v (w' : Int)).2.2.2 ≠ 0 then _ else _) = _
    rw [huT, if_neg (by simp)]
  rw [hU]
  refine ⟨rfl, ?_⟩
  have hN' := z33 P.r hN
  have Q := z1w (e := 0) P.t hN' hash v (w' : Int) hw (top := top) (l0 := l0) (l' := w') hat hl (by omega) h02 hH h0 q3
  have hmp : ((unK b id top (l0 : Int) v (w' : Int) (b.m, b.pf, (t, (w' : Int)), 0)).m, (unK b id top (l0 : Int) v (w' : Int) (b.m, b.pf, (t, (w' : Int)), 0)).pf) = prN k.sz k.cd k.cp v l0 top (za1 k.sz (zde k.sz k.cd k.cp (b.m, b.pf, (t, (w' : Int)), 0) v).1 t (idx v (w' : Int)) zP, (zde k.sz k.cd k.cp (b.m, b.pf, (t, (w' : Int)), 0) v).2) := by
    show (unM b (b.m, b.pf, (t, (w' : Int)), 0) top (l0 : Int) v) = _
    unfold unM
    rw [z1, z2, z3, Int.toNat_natCast]
  obtain ⟨_, _, wt, wa, _⟩ := zew P.t v (w' : Int) hw l0 top hat hl (by omega) q3
  obtain ⟨c1, c2, _⟩ := zoa (e := 0) (a := v) P.t hash wa wt (by have := hwg.1; omega) (fun hh => hH (by omega))
  have hta := c2 _ hat (.inr (by rw [hl]; omega))
  have hPr := zf8 v c1 l0 top h02 hta hl (fun hh => hH (by omega))
  generalize prN k.sz k.cd k.cp v l0 top (za1 k.sz (zde k.sz k.cd k.cp (b.m, b.pf, (t, (w' : Int)), 0) v).1 t (idx v (w' : Int)) zP, (zde k.sz k.cd k.cp (b.m, b.pf, (t, (w' : Int)), 0) v).2) = q at *
  simp only [Prod.ext_iff] at hmp
  obtain ⟨hm1, hm2⟩ := hmp
  have hTq : TI k.cd k.cp k.sz q.1 q.2 k.sh lv := hPr.t
  refine ⟨?_, by rw [hm1, hm2]; exact hTq, ?_⟩
  · have e := P.e
    have key : ∀ (m' : List (Int × Int)) (f' : Int) (F : List Fe), ({ b with m := m', pf := f', fs := F } : Kr) = { k with m := m', pf := f', fs := F } := fun m' f' F => by rw [e]
    exact key _ _ _
  · rw [hm1, hm2]
    refine LnG.Rm.conv (P.r.comp Q) fun s i hi hls => or_congr Iff.rfl ⟨?_, fun hh => .inl hh⟩
    rintro (hh | ⟨hh, _⟩)
    · exact hh
    · rw [zdp hlf'] at hh; cases hh
def zbs (k : Kr) (id : Int) (ys : List Pg) : Nat → Kr
  | 0 => k
  | i + 1 => match ys[i]? with
    | some y => (unR (zbs k id ys i) id y.va y.lev).1
    | none => zbs k id ys i
theorem zhd (k : Kr) (id : Int) (ys : List Pg) (i : Nat) {y : Pg} (h : ys[i]? = some y) : zbs k id ys (i + 1) = (unR (zbs k id ys i) id y.va y.lev).1 := by
  show (match ys[i]? with | some y => (unR (zbs k id ys i) id y.va y.lev).1 | none => zbs k id ys i) = _
  rw [h]
theorem zh3 {n : Nat} {k : Kr} (h : InvT n k) (id : Int) (ys : List Pg) : ∀ i, InvT (n + 1100 * i) (zbs k id ys i)
  | 0 => h
  | i + 1 => by
    have I := zh3 h id ys i
    cases e : ys[i]? with
    | some y =>
      rw [zhd k id ys i e]
      have := zrj (id := id) (a := y.va) (l := y.lev) I
      rw [show n + 1100 * (i + 1) = n + 1100 * i + 1100 by omega]
      exact this
    | none =>
      have : zbs k id ys (i + 1) = zbs k id ys i := by
        show (match ys[i]? with | some y => (unR (zbs k id ys i) id y.va y.lev).1 | none => zbs k id ys i) = _
        rw [e]
      rw [this]
      exact ⟨{ I.l with ml := by have := I.l.ml; omega, fl := by have := I.l.fl; omega }, I.t⟩
theorem parts {n : Nat} {k : Kr} {id a l : Int} (h : InvT n k) (g : InvN k) (he : (unR k id a l).2 = 0) {y0 : Pg} (hy0 : (inR k id a l)[0]? = some y0) (hlev : y0.lev ≤ l) :
    (∀ (i : Nat) (y : Pg), (inR k id a l)[i]? = some y → (unR (zbs k id (inR k id a l) i) id y.va y.lev).2 = 0) ∧
    { zbs k id (inR k id a l) (inR k id a l).length with fs := (unR k id a l).1.fs } = (unR k id a l).1 := by
  unfold unR at he
  by_cases c0 : (zan k id a l).2.2 ≠ 0
  · rw [if_pos c0] at he; exact absurd he c0
  rw [if_neg c0] at he
  by_cases c2 : (inR k id a l).length = 0
  · rw [if_pos c2] at he; cases he
  rw [if_neg c2] at he
  by_cases c3 : (unT k (zan k id a l).1 (zan k id a l).2.1 a l).2.2.2 ≠ 0
  · rw [if_pos c3] at he; exact absurd he c3
  have hB : unR k id a l = (unK k id (zan k id a l).1 (zan k id a l).2.1 a l (unT k (zan k id a l).1 (zan k id a l).2.1 a l), 0) := by
    unfold unR; rw [if_neg c0, if_neg c2, if_neg c3]
  clear he
  have c0' : (zan k id a l).2.2 = 0 := by omega
  have hfm := zs3 c0'
  have hfb := zvx hfm
  have hlf := z43 h c0' c2
  obtain ⟨lv, hT, hs, hr⟩ := h.t
  obtain ⟨w1, w2, w3, w4⟩ := zbw (id := id) (a := a) (l := l) h.l c0'
  obtain ⟨z1, z2⟩ := h.top (a := a) (id := id) (l := l) c0' hs hr
  have hwt := zeb h.l c0'
  have hw02 := zr0 h c0'
  have hbm := zym w1 hfm
  have hin : inR k id a l = zbi k.sz k.m (za6 k.sz k.m a l (zan k id a l).2.1 (zan k id a l).1).2 (atM k.sz k.m (za6 k.sz k.m a l (zan k id a l).2.1 (zan k id a l).1).1 (idx a (za6 k.sz k.m a l (zan k id a l).2.1 (zan k id a l).1).2)) (VaSpec.base a (za6 k.sz k.m a l (zan k id a l).2.1 (zan k id a l).1).2) := by
    unfold inR; rw [if_neg c0]
  have hwh : ∀ v w, zj9 v w = true → (0 ≤ w ∧ w ≤ 2) → (idx v 2 = idx a 2) → w ≤ l → zan k id v w = zan k id a l := fun v w hf hw2 hix hwl => by
    have hid := fun hh => zv6 (id := id) (a := a) (l := l) c0' hh
    unfold zan
    have c6 : ¬ (id ≠ -1 ∧ za5 k id = false) := fun hh => by
      rcases hwt with ⟨_, _, e⟩ | ⟨e, _⟩
      · exact hh.1 e
      · rw [hh.2] at e; cases e
    rw [if_neg (show ¬ ¬ (0 ≤ w ∧ w ≤ 2) from fun hh => hh hw2), if_neg c6, if_neg (show ¬ zj9 v w = false by rw [hf]; simp)]
    rw [if_neg (show ¬ ¬ (0 ≤ l ∧ l ≤ 2) from fun hh => hh w1), if_neg c6, if_neg (show ¬ zj9 a l = false by rw [hfm]; simp)]
    by_cases c7 : id = -1
    · have := hid c7
      have hl2 : l ≠ 2 := by
        intro hh
        rcases hwt with ⟨_, e, _⟩ | ⟨_, e, _⟩
        · rw [e] at w3; omega
        · exact e c7
      rw [if_pos c7, if_pos c7, if_pos ⟨by rw [hix]; exact this, by omega⟩, if_pos ⟨this, hl2⟩]
    · rw [if_neg c7, if_neg c7, hix]
  generalize hW : zan k id a l = w at *
  obtain ⟨l0, hl0⟩ : ∃ l0 : Nat, w.2.1 = (l0 : Int) := ⟨w.2.1.toNat, by omega⟩
  have hW3 : w = (w.1, (l0 : Int), 0) := by rw [← hl0, ← c0']
  obtain ⟨l', t, i1, i2, i3, i4, i5, i6, i7⟩ := zeo hT a l w1.1 l0 w.1 w2 (by omega) (by omega)
  have hre : za6 k.sz k.m a l w.2.1 w.1 = (t, (l' : Int)) := by unfold za6; rw [hl0, Int.toNat_natCast]; exact i1
  rw [hre] at hin hlf
  have hin : inR k id a l = zbi k.sz k.m (l' : Int) (atM k.sz k.m t (idx a (l' : Int))) (VaSpec.base a (l' : Int)) := hin
  have hlf : zat (atM k.sz k.m t (idx a (l' : Int))) = true ∨ lkP (atM k.sz k.m t (idx a (l' : Int))) = true := hlf
  have hi := idx_bd a (l' : Int)
  rcases hlf with hlf | hlk
  · -- one page, the region itself
    have hU : inR k id a l = [⟨VaSpec.base a (l' : Int), (atM k.sz k.m t (idx a (l' : Int))).ppn * 4096, (l' : Int), (atM k.sz k.m t (idx a (l' : Int))).r, (atM k.sz k.m t (idx a (l' : Int))).w, (atM k.sz k.m t (idx a (l' : Int))).x, (atM k.sz k.m t (idx a (l' : Int))).u, (atM k.sz k.m t (idx a (l' : Int))).d⟩] := by
      rw [hin]; unfold zbi; rw [if_pos hlf]
    rw [hU] at hy0
    have hy0 : (⟨VaSpec.base a (l' : Int), (atM k.sz k.m t (idx a (l' : Int))).ppn * 4096, (l' : Int), (atM k.sz k.m t (idx a (l' : Int))).r, (atM k.sz k.m t (idx a (l' : Int))).w, (atM k.sz k.m t (idx a (l' : Int))).x, (atM k.sz k.m t (idx a (l' : Int))).u, (atM k.sz k.m t (idx a (l' : Int))).d⟩ : Pg) = y0 := by simpa using hy0
    have hll : (l' : Int) = l := by
      rw [← hy0] at hlev
      have : (l' : Int) ≤ l := hlev
      omega
    rw [hll, hfb] at hy0
    have hU' : inR k id a l = [y0] := by rw [hU, hll, hfb]; rw [← hy0]
    have hy1 : y0.va = a := by rw [← hy0]
    have hy2 : y0.lev = l := by rw [← hy0]
    rw [hU']
    refine ⟨fun i y hy => ?_, ?_⟩
    · cases i with
      | zero =>
        have : y0 = y := by simpa using hy
        rw [← this, hy1, hy2]
        show (unR k id a l).2 = 0
        rw [hB]
      | succ i => simp at hy
    · have : zbs k id [y0] [y0].length = (unR k id a l).1 := by
        show zbs k id [y0] (0 + 1) = _
        rw [zhd k id [y0] 0 (y := y0) rfl, hy1, hy2]
        rfl
      rw [this]
  · -- a link
    obtain ⟨k1, k2, k3, k4⟩ := zcv hT hi hlk
    have hll : (l' : Int) = l := by
      by_cases c : l < (l' : Int)
      · have := i6 c
        rw [zb2 hlk (by omega)] at this; cases this
      · omega
    have hstop : unT k w.1 w.2.1 a l = (k.m, k.pf, (t, (l' : Int)), 0) := by
      unfold unT
      rw [hl0, Int.toNat_natCast, zv8 (.inl (by rw [i1]; exact hll)) _, i1]
    rw [hstop] at hB
    obtain ⟨m, rfl⟩ : ∃ m : Nat, l' = m + 1 := ⟨l' - 1, by omega⟩
    have hba : VaSpec.base a ((m + 1 : Nat) : Int) = a := by rw [hll]; exact hfb
    have hU : inR k id a l = zbq k.sz k.m m (atM k.sz k.m t (idx a ((m + 1 : Nat) : Int))).ppn a := by
      rw [hin]; unfold zbi
      rw [if_neg (by rw [(zbz hlk).2.2]; simp), if_pos (zbz hlk).1, hba, show (((m + 1 : Nat) : Int) - 1).toNat = m by omega]
    have hgl : lv (atM k.sz k.m t (idx a ((m + 1 : Nat) : Int))).ppn = m := by rw [k3, i5]; omega
    have hbm' : m39 a % (512 * VaSpec.sz (m : Int)) = 0 := z3y (by omega) (by rw [hll]; exact hbm)
    have hsz : VaSpec.sz ((m + 1 : Nat) : Int) = 512 * VaSpec.sz (m : Int) := by
      have := zgq (l := ((m + 1 : Nat) : Int)) (by omega)
      rw [show ((m + 1 : Nat) : Int) - 1 = (m : Int) by omega] at this
      exact this
    rw [hU]
    generalize hys : zbq k.sz k.m m (atM k.sz k.m t (idx a ((m + 1 : Nat) : Int))).ppn a = ys at *
    have hpage : ∀ y ∈ ys, zan k id y.va y.lev = (w.1, (l0 : Int), 0) ∧ (0 ≤ y.lev ∧ y.lev ≤ (m : Int)) ∧ (l0 = 2 → idx y.va 2 ≠ 511) ∧ ∃ s, zaq k.sz k.m y.va y.lev l0 w.1 = (s, y.lev) ∧ zaq k.sz k.m y.va y.lev m (atM k.sz k.m t (idx a ((m + 1 : Nat) : Int))).ppn = (s, y.lev) ∧ zat (atM k.sz k.m s (idx y.va y.lev)) = true := fun y hy => by
      have hy' := hy
      rw [← hys] at hy'
      obtain ⟨q1, q2, q3, q4, q5⟩ := zhc k.sz k.m m _ a y (by omega) hbm' hy'
      obtain ⟨s, r1, r2, r3⟩ := zv7 hT m _ a y (by omega) k4 hgl hbm' hy'
      have hsp := sz_pos (l := y.lev) (by omega)
      have hix : ∀ m', ((m + 1 : Nat) : Int) ≤ m' → m' ≤ 2 → idx y.va m' = idx a m' := fun m' h1 h2 => z37 (l := ((m + 1 : Nat) : Int)) (by omega) ⟨h1, h2⟩ (by rw [hsz]; exact hbm') q2 (by rw [hsz]; omega)
      have h2' := hix 2 (by omega) (by omega)
      refine ⟨(hwh y.va y.lev (z1x (by omega) q5 q4) (by omega) h2' (by omega)).trans hW3, q1, fun hh => by rw [h2']; exact z2 (by omega), s, ?_, r1, r3⟩
      have := zs7 hT a y.va l y.lev w1.1 hlk ⟨q1.1, by omega⟩ hix l0 w.1 (by omega) w2 (by omega) (by omega) i1
      rw [this]
      exact r1
    -- where the first pages stood
    have hJ : ∀ i : Nat, i ≤ ys.length → PJ k lv (fun s j => ∃ y ∈ ys.take i, (zaq k.sz k.m y.va y.lev l0 w.1).1 = s ∧ idx y.va y.lev = j) (zbs k id ys i) ∧ ∀ y, ys[i]? = some y → (unR (zbs k id ys i) id y.va y.lev).2 = 0 := by
      have step : ∀ i : Nat, PJ k lv (fun s j => ∃ y ∈ ys.take i, (zaq k.sz k.m y.va y.lev l0 w.1).1 = s ∧ idx y.va y.lev = j) (zbs k id ys i) → ∀ y, ys[i]? = some y → (unR (zbs k id ys i) id y.va y.lev).2 = 0 ∧ PJ k lv (fun s j => ∃ y ∈ ys.take (i + 1), (zaq k.sz k.m y.va y.lev l0 w.1).1 = s ∧ idx y.va y.lev = j) (zbs k id ys (i + 1)) := fun i P y hy => by
        have hym := List.mem_of_getElem? hy
        obtain ⟨p1, p2, p3, s, p4, p5, p6⟩ := hpage y hym
        have hlt : i < ys.length := by
          rcases Nat.lt_or_ge i ys.length with q | q
          · exact q
          · rw [List.getElem?_eq_none q] at hy; cases hy
        obtain ⟨e1, e2⟩ := z1y (id := id) (v := y.va) (w := y.lev) (top := w.1) (l0 := l0) (t := s) (zh3 h id ys i) g.ne hT P p2.1 p1 (by omega) (by omega) (by omega) p3 (hw02.imp (fun hh => by omega) (fun hh => hh)) p4 p6 (by
          rintro ⟨z, hz, x1, x2⟩
          obtain ⟨j, hj⟩ := List.getElem?_of_mem hz
          rw [List.getElem?_take] at hj
          split at hj
          · rename_i hji
            have hzm := List.mem_of_getElem? hj
            obtain ⟨_, _, _, s', y4, y5, _⟩ := hpage z hzm
            have hzy : z = y := by
              refine zyt hT m _ a z y (by omega) k4 hgl hbm' (by rw [hys]; exact hzm) (by rw [hys]; exact hym) ?_ x2
              rw [y4] at x1
              have x1 : s' = s := x1
              rw [y5, p5, x1]
            have hnd := zyu k.sz k.m m (atM k.sz k.m t (idx a ((m + 1 : Nat) : Int))).ppn a (by omega) hbm'
            rw [hys] at hnd
            have hjl : j < ys.length := by omega
            have := List.pairwise_iff_getElem.1 hnd j i hjl hlt hji
            have ea : ys[j] = z := (List.getElem?_eq_some_iff.1 hj).2
            have eb : ys[i] = y := (List.getElem?_eq_some_iff.1 hy).2
            rw [ea, eb, hzy] at this
            omega
          · cases hj)
        refine ⟨e1, ?_⟩
        rw [zhd k id ys i hy]
        refine ⟨e2.e, e2.t, LnG.Rm.conv e2.r fun s' j' _ _ => ?_⟩
        rw [List.take_add_one, hy]
        simp only [Option.toList_some, List.mem_append, List.mem_singleton]
        constructor
        · rintro (⟨z, hz, q1, q2⟩ | ⟨q1, q2⟩)
          · exact ⟨z, .inl hz, q1, q2⟩
          · exact ⟨y, .inr rfl, by rw [p4]; exact q1.symm, q2.symm⟩
        · rintro ⟨z, hz | rfl, q1, q2⟩
          · exact .inl ⟨z, hz, q1, q2⟩
          · rw [p4] at q1
            exact .inr ⟨q1.symm, q2.symm⟩
      have all : ∀ i : Nat, i ≤ ys.length → PJ k lv (fun s j => ∃ y ∈ ys.take i, (zaq k.sz k.m y.va y.lev l0 w.1).1 = s ∧ idx y.va y.lev = j) (zbs k id ys i) := by
        intro i
        induction i with
        | zero =>
          intro _
          refine ⟨rfl, hT, LnG.Rm.conv (Rm.refl _ _ _ g.ne fun s i hi hne => ?_) fun s i _ _ => ⟨fun hh => hh.elim, fun hh => by
            obtain ⟨y, hy, _⟩ := hh
            simp at hy⟩⟩
          rcases hT.e.k s i hi with e | ⟨_, _, ⟨e, _⟩ | ⟨e, _⟩⟩
          · exact absurd e hne
          · exact .inl e
          · exact .inr e
        | succ i ih =>
          intro hi'
          have hy : ys[i]? = some ys[i] := List.getElem?_eq_getElem (by omega)
          exact (step i (ih (by omega)) _ hy).2
      exact fun i hi' => ⟨all i hi', fun y hy => (step i (all i hi') y hy).1⟩
    refine ⟨fun i y hy => ?_, ?_⟩
    · have hlt : i < ys.length := by
        rcases Nat.lt_or_ge i ys.length with q | q
        · exact q
        · rw [List.getElem?_eq_none q] at hy; cases hy
      exact (hJ i (by omega)).2 y hy
    · have P := (hJ ys.length (Nat.le_refl _)).1
      rw [List.take_length] at P
      have Q := z1w (e := 0) hT g.ne h.l.sh a l w1.1 (top := w.1) (l0 := l0) (l' := m + 1) w2 (by omega) (by omega) (by omega) (fun hh => z2 (by omega)) (hw02.imp (fun hh => by omega) (fun hh => hh)) i1
      obtain ⟨c1, c2', _⟩ := zoa (e := 0) (a := a) hT h.l.sh i4 i5 (by omega) (fun hh => z2 (by omega))
      have hta := c2' _ w2 (.inr (by omega))
      have hPr := zf8 a c1 l0 w.1 (by omega) hta (by omega) (fun hh => z2 (by omega))
      have hS := Q.same P.r (fun s j hj hls => by
        constructor
        · rintro (⟨rfl, rfl⟩ | ⟨_, hm⟩)
          · rw [zdp hls] at hlk; cases hlk
          · obtain ⟨y, hy, r1, r2⟩ := zwl hT m _ a (by omega) k4 hgl hbm' s hm j hj hls
            rw [hys] at hy
            obtain ⟨_, _, _, s', y4, y5, _⟩ := hpage y hy
            rw [r1] at y5
            simp only [Prod.mk.injEq] at y5
            exact ⟨y, hy, by rw [y4]; exact y5.1.symm, r2⟩
        · rintro ⟨y, hy, r1, r2⟩
          obtain ⟨_, p2, _, s', y4, y5, _⟩ := hpage y hy
          have := zmn k.sz k.m y.va y.lev p2.1 m (atM k.sz k.m t (idx a ((m + 1 : Nat) : Int))).ppn
          rw [y5] at this
          rw [y4] at r1
          have r1 : s' = s := r1
          rw [r1] at this
          exact .inr ⟨hlk, this⟩)
      have hTq := hPr.t
      have e1 := z3z hTq P.t hS.1
      have e2 := z34 hT.bp hTq.bf P.t.bf hS.2
      have hmp : ((unK k id w.1 w.2.1 a l (k.m, k.pf, (t, ((m + 1 : Nat) : Int)), 0)).m, (unK k id w.1 w.2.1 a l (k.m, k.pf, (t, ((m + 1 : Nat) : Int)), 0)).pf) = prN k.sz k.cd k.cp a l0 w.1 (za1 k.sz (zde k.sz k.cd k.cp (k.m, k.pf, (t, ((m + 1 : Nat) : Int)), 0) a).1 t (idx a ((m + 1 : Nat) : Int)) zP, (zde k.sz k.cd k.cp (k.m, k.pf, (t, ((m + 1 : Nat) : Int)), 0) a).2) := by
        show (unM k (k.m, k.pf, (t, ((m + 1 : Nat) : Int)), 0) w.1 w.2.1 a) = _
        unfold unM
        rw [hl0, Int.toNat_natCast]
      simp only [Prod.ext_iff] at hmp
      rw [← hmp.1] at e1
      rw [← hmp.2] at e2
      rw [hB]
      have pe := P.e
      show ({ zbs k id ys ys.length with fs := (unK k id w.1 w.2.1 a l (k.m, k.pf, (t, ((m + 1 : Nat) : Int)), 0)).fs } : Kr) = unK k id w.1 w.2.1 a l (k.m, k.pf, (t, ((m + 1 : Nat) : Int)), 0)
      generalize zbs k id ys ys.length = B at *
      have key : ∀ (K : Kr), K = { k with m := B.m, pf := B.pf, fs := K.fs } → ({ B with fs := K.fs } : Kr) = K := fun K hK => by
        conv => rhs; rw [hK]
        conv => lhs; rw [pe]
      refine key _ ?_
      rw [← e1, ← e2]
      rfl
end Go.Proofs.YtomeaibdedaldaaGreatDoor.LnH
namespace Go.Proofs.YtomeaibdedaldaaGreatDoor.LnI
open Go.RowKit Bv VaSpec Base MemL RegR Ax MemC PutC MemC3 TzC OkS SpA SpB SpC SpF SpH SpI SpJ LaA LaB LaC LaD LaE LaF LaG LiA LiB LiC LiD LiE LiF SpE SpG SpK SpO SpL SpN RfA RfB RfC RfD RfE RfJ RfK RlA RlB RlC LaH LaI LaJ LjA LjB LjF LkE LkF SpD LrA LrB LrC LmA LmB LmE LnA LnB BitsC PteSpec RfG RfP RfQ LnD LnF LnG LkG LnH
open BitsC PteSpec
set_option maxRecDepth 10000
set_option maxHeartbeats 1000000
attribute [local irreducible] Ax.zbx
theorem z44 {n : Nat} {k : Kr} (h : InvL n k) (hn : n ≤ 100000) : Ok 16 [.ag k.ce, .ag k.ce] (.m (ib true)) := by
  have b1 := h.ml
  have b2 := h.fl
  have b3 := h.sl
  exact SpM.z0s k h.ts h.cs.2 (by omega) (by omega) (by omega)
theorem z45 {n : Nat} {k : Kr} (h : InvT n k) (id a l : Int) (ha : U a) : ∀ y ∈ inR k id a l, U y.va := by
  unfold inR
  by_cases c : (zan k id a l).2.2 = 0
  · rw [if_neg (by omega)]
    obtain ⟨l', t', e, h2, _⟩ := zqh (id := id) (a := a) (l := l) h c
    rw [e]
    exact (zml k.sz k.m _ _ _ (zro ha (by omega) (by omega)) (by show (l' : Int) ≤ 2; omega)).2
  · rw [if_pos c]
    intro y hy; cases hy
theorem z1z {k : Kr} {id a l : Int} (he : (unR k id a l).2 = 0) : (inR k id a l).length ≠ 0 := fun hh => by
  unfold unR at he
  by_cases c : (zan k id a l).2.2 ≠ 0
  · rw [if_pos c] at he; exact c he
  · rw [if_neg c, if_pos hh] at he; cases he
theorem dd_n {n : Nat} {k : Kr} {d : Dd} (h : InvT n k) (g : InvN k) (hd : UD d) : InvN (ddR k d).1 := by
  unfold ddR
  split
  · exact un_n h g
  · exact z3v h g hd.2
def z10 (l : List Dd) (e : Dd) (i : Nat) (k : Kr) : St := St.of [(1, .m (.c (.s l.length 9 (zyk l)))), (5, .m (.c (.p 5 0))), (6, .m (ib false)), (7, .m (.c (.p 7 0))), (9, .m (ii i))] [(5, .live (.box e.ce)), (7, .live (.box k.ce))]
def z11 (ys : List Pg) (e : Dd) (ka b : Kr) (i : Nat) : St := St.of [(5, .m (.c (.p 5 0))), (6, .m (ib false)), (10, .m (.c (.p 10 0))), (12, .m (.c (.s ys.length 8 (flP ys)))), (13, .m (.c (.p 13 0))), (14, .m (ii i))] [(5, .live (.box e.ce)), (10, .live (.box ka.ce)), (13, .live (.box b.ce))]
theorem parts3_ok (a b c d : Int) (l : List Dd) (e : Dd) (hl : ∀ x ∈ l, UD x) (he : UD e) : Ok 6 [zl5 a b c d, .c (.s l.length 9 (zyk l)), .ag e.ce] (.m (ib true)) := by
  have hm := z0t a b c d
  cases hc : zga a b c d with
  | false =>
    rw [hc] at hm
    refine zad 122 Tryz.func6 rfl rfl rfl rfl ?_ GG.to
    intro W A hG
    repeat (first | (refine zah rfl ?_; first | refine zai ?_ | refine gdr (zaa rfl rfl rfl (zj0) (by kernel_rfl)) ?_ | refine gdr (zaa rfl rfl rfl (hm) (by kernel_rfl)) ?_) | (refine hK _ ?_; clear hK K) | (rename_i K1 hK1; refine hK1 _ ?_; clear hK hK1; clear K) | (rename_i K1 hK1; refine hK1 _ ?_; clear hK1) | refine zac rfl ?_ | refine zas (by kernel_rfl) (by kernel_rfl) rfl ?_ | exact zaj (show zau _ _ _ = some _ by kernel_rfl) | refine zag rfl rfl ?_ | refine zae rfl rfl ?_ | refine zaf ?_ | refine zaz ?_ | refine zal ?_ | refine zab (fun K hK => ?_) | refine zb1 ?_ | refine zcq ?_ | refine zaj (show zau _ _ _ = some _ ∧ EndB _ _ from ⟨by kernel_rfl, ?_⟩))
  | true =>
    rw [hc] at hm
    by_cases hlen : 12 < l.length
    · refine zad 122 Tryz.func6 rfl rfl rfl rfl ?_ GG.to
      intro W A hG
      repeat (first | (refine zah rfl ?_; first | refine zai ?_ | refine gdr (zaa rfl rfl rfl (zj0) (by kernel_rfl)) ?_ | refine gdr (zaa rfl rfl rfl (hm) (by kernel_rfl)) ?_) | (refine hK _ ?_; clear hK K) | (rename_i K1 hK1; refine hK1 _ ?_; clear hK hK1; clear K) | (rename_i K1 hK1; refine hK1 _ ?_; clear hK1) | refine zac rfl ?_ | refine zas (by kernel_rfl) (by kernel_rfl) rfl ?_ | exact zaj (show zau _ _ _ = some _ by kernel_rfl) | refine zag rfl rfl ?_ | refine zae rfl rfl ?_ | refine zaf ?_ | refine zaz ?_ | refine zal ?_ | refine zab (fun K hK => ?_) | refine zb1 ?_ | refine zcq ?_ | refine zaj (show zau _ _ _ = some _ ∧ EndB _ _ from ⟨by kernel_rfl, ?_⟩))
    obtain ⟨n, rfl⟩ := Int.eq_ofNat_of_zero_le (zdl.1 hc).2.2.2.1
    have hb := zoe a b c n hc
    have hbi := zvy hc
    have hbn := bg_n hc
    generalize bgK a b c n = bk at *
    refine zad 122 Tryz.func6 rfl rfl rfl rfl ?_ GG.to
    intro W A hG
    repeat (first | (refine zah rfl ?_; first | refine zai ?_ | refine gdr (zaa rfl rfl rfl (zj0) (by kernel_rfl)) ?_ | refine gdr (zaa rfl rfl rfl (hm) (by kernel_rfl)) ?_ | refine gdr (zaa rfl rfl rfl (hb) (by kernel_rfl)) ?_) | (refine hK _ ?_; clear hK K) | (rename_i K1 hK1; refine hK1 _ ?_; clear hK hK1; clear K) | (rename_i K1 hK1; refine hK1 _ ?_; clear hK1) | refine zac rfl ?_ | refine zas (by kernel_rfl) (by kernel_rfl) rfl ?_ | exact zaj (show zau _ _ _ = some _ by kernel_rfl) | refine zag rfl rfl ?_ | refine zae rfl rfl ?_ | refine zaf ?_ | refine zaz ?_ | refine zal ?_ | refine zab (fun K hK => ?_) | refine zb1 ?_ | refine zcq ?_ | refine zaj (show zau _ _ _ = some _ ∧ EndB _ _ from ⟨by kernel_rfl, ?_⟩))
    refine za3 (α := Nat × Kr) (fun w => w.1 ≤ l.length ∧ InvT (2 + 1100 * w.1) w.2 ∧ InvN w.2) (fun w => z10 l e w.1 w.2) (fun w => l.length - w.1) (0, bk) ⟨Nat.zero_le _, hbi, hbn⟩ (zao _ _ ⟨by kernel_rfl, by kernel_rfl, by kernel_rfl, by kernel_rfl, by kernel_rfl, trivial⟩ ⟨by kernel_rfl, by kernel_rfl, trivial⟩ (by kernel_rfl)) ?_
    rintro ⟨i, k⟩ ⟨hi0, hk0, hn0⟩
    have hi : i ≤ l.length := hi0
    have hk : InvT (2 + 1100 * i) k := hk0
    have hn : InvN k := hn0
    show Aw _ _ _ _ (z10 l e i k)
    unfold z10
    by_cases hlt : i < l.length
    · obtain ⟨x, hx0⟩ : ∃ x, l[i]? = some x := ⟨_, List.getElem?_eq_getElem hlt⟩
      have hx := z1n hx0
      have h8 := hl x (List.mem_of_getElem? hx0)
      have hd := z41 hk (by omega) h8
      have hdi := z1m hk h8
      have hdn := dd_n hk hn h8
      generalize ddR k x = rr at *
      repeat (first | (refine zah rfl ?_; first | refine zai ?_ | refine gdr (zaa rfl rfl rfl (hd) (by kernel_rfl)) ?_) | (refine hK _ ?_; clear hK K) | (rename_i K1 hK1; refine hK1 _ ?_; clear hK hK1; clear K) | (rename_i K1 hK1; refine hK1 _ ?_; clear hK1) | refine zac rfl ?_ | refine zas (by kernel_rfl) (by kernel_rfl) rfl ?_ | exact zaj (show zau _ _ _ = some _ by kernel_rfl) | refine zag rfl rfl ?_ | refine zae rfl rfl ?_ | refine zaf ?_ | refine zaz ?_ | refine zal ?_ | refine zab (fun K hK => ?_) | refine zb1 ?_ | refine zcq ?_ | refine zaj (show zau _ _ _ = some _ ∧ EndB _ _ from ⟨by kernel_rfl, ?_⟩))
      exact ⟨(i + 1, rr.1), ⟨by show i + 1 ≤ l.length; omega, hdi, hdn⟩, by show l.length - (i + 1) < l.length - i; omega, zao _ _ ⟨by kernel_rfl, by kernel_rfl, by kernel_rfl, by kernel_rfl, by kernel_rfl, trivial⟩ ⟨by kernel_rfl, by kernel_rfl, trivial⟩ (by kernel_rfl)⟩
    · have hu := zec hk (by omega) e.id e.va e.lev he.1
      have hin := zrp hk (by omega) e.id e.va e.lev he.1
      have hyu := z45 hk e.id e.va e.lev he.1
      have hyl := z1o hk e.id e.va e.lev he.1
      have hks := (zrj (id := e.id) (a := e.va) (l := e.lev) hk).l
      have hsm := z44 hks (by omega)
      have hne := z1z (k := k) (id := e.id) (a := e.va) (l := e.lev)
      have hpt := fun h0 y0 => parts (id := e.id) (a := e.va) (l := e.lev) hk hn h0 (y0 := y0)
      have hpi := zh3 hk e.id (inR k e.id e.va e.lev)
      have hp0 : zbs k e.id (inR k e.id e.va e.lev) 0 = k := rfl
      have hps := fun i y => zhd k e.id (inR k e.id e.va e.lev) i (y := y)
      clear hks
      generalize inR k e.id e.va e.lev = ys at *
      generalize unR k e.id e.va e.lev = ru at *
      obtain ⟨ka, ea⟩ := ru
      repeat (first | (refine zah rfl ?_; first | refine zai ?_) | refine zac rfl ?_ | refine zas (by kernel_rfl) (by kernel_rfl) rfl ?_ | exact zaj (show zau _ _ _ = some _ by kernel_rfl) | refine zag rfl rfl ?_ | refine zae rfl rfl ?_ | refine zaf ?_ | refine zaz ?_ | refine zal ?_ | refine zab (fun K hK => ?_) | refine zb1 ?_ | refine zcq ?_ | refine zaj (show zau _ _ _ = some _ ∧ EndB _ _ from ⟨by kernel_rfl, ?_⟩))
      first
        | (refine hK _ ?_; clear hK K)
        | (rename_i K1 hK1; refine hK1 _ ?_; clear hK hK1; clear K)
        | (rename_i K1 hK1; refine hK1 _ ?_; clear hK1)
      repeat (first | (refine zah rfl ?_; first | refine zai ?_) | refine zac rfl ?_ | refine zas (by kernel_rfl) (by kernel_rfl) rfl ?_ | exact zaj (show zau _ _ _ = some _ by kernel_rfl) | refine zag rfl rfl ?_ | refine zae rfl rfl ?_ | refine zaf ?_ | refine zaz ?_ | refine zal ?_ | refine zab (fun K hK => ?_) | refine zb1 ?_ | refine zcq ?_ | refine zaj (show zau _ _ _ = some _ ∧ EndB _ _ from ⟨by kernel_rfl, ?_⟩))
      first
        | (refine hK _ ?_; clear hK K)
        | (rename_i K1 hK1; refine hK1 _ ?_; clear hK hK1; clear K)
        | (rename_i K1 hK1; refine hK1 _ ?_; clear hK1)
      repeat (first | (refine zah rfl ?_; first | refine zai ?_ | refine gdr (zaa rfl rfl rfl (hu) (by kernel_rfl)) ?_) | refine zac rfl ?_ | refine zas (by kernel_rfl) (by kernel_rfl) rfl ?_ | exact zaj (show zau _ _ _ = some _ by kernel_rfl) | refine zag rfl rfl ?_ | refine zae rfl rfl ?_ | refine zaf ?_ | refine zaz ?_ | refine zal ?_ | refine zab (fun K hK => ?_) | refine zb1 ?_ | refine zcq ?_ | refine zaj (show zau _ _ _ = some _ ∧ EndB _ _ from ⟨by kernel_rfl, ?_⟩))
      first
        | (refine hK _ ?_; clear hK K)
        | (rename_i K1 hK1; refine hK1 _ ?_; clear hK hK1; clear K)
        | (rename_i K1 hK1; refine hK1 _ ?_; clear hK1)
      refine zdr (zao [(5, .m (.c (.p 5 0))), (6, .m (ib false)), (7, .m (.c (.p 7 0))), (10, .m (.c (.p 10 0))), (11, .m (ii ea))] [(5, .live (.box e.ce)), (7, .live (.box k.ce)), (10, .live (.box ka.ce))] ⟨by kernel_rfl, by kernel_rfl, by kernel_rfl, by kernel_rfl, by kernel_rfl, trivial⟩ ⟨by kernel_rfl, by kernel_rfl, by kernel_rfl, trivial⟩ (by kernel_rfl)) ?_
      repeat (first | (refine zah rfl ?_; first | refine zai ?_ | refine gdr (zaa rfl rfl rfl (hin) (by kernel_rfl)) ?_) | refine zac rfl ?_ | refine zas (by kernel_rfl) (by kernel_rfl) rfl ?_ | exact zaj (show zau _ _ _ = some _ by kernel_rfl) | refine zag rfl rfl ?_ | refine zae rfl rfl ?_ | refine zaf ?_ | refine zaz ?_ | refine zal ?_ | refine zab (fun K hK => ?_) | refine zb1 ?_ | refine zcq ?_ | refine zaj (show zau _ _ _ = some _ ∧ EndB _ _ from ⟨by kernel_rfl, ?_⟩))
      first
        | (refine hK _ ?_; clear hK K)
        | (rename_i K1 hK1; refine hK1 _ ?_; clear hK hK1; clear K)
        | (rename_i K1 hK1; refine hK1 _ ?_; clear hK1)
      refine zdr (zao [(5, .m (.c (.p 5 0))), (6, .m (ib false)), (7, .m (.c (.p 7 0))), (10, .m (.c (.p 10 0))), (11, .m (ii ea)), (12, .m (.c (.s ys.length 8 (flP ys))))] [(5, .live (.box e.ce)), (7, .live (.box k.ce)), (10, .live (.box ka.ce))] ⟨by kernel_rfl, by kernel_rfl, by kernel_rfl, by kernel_rfl, by kernel_rfl, by kernel_rfl, trivial⟩ ⟨by kernel_rfl, by kernel_rfl, by kernel_rfl, trivial⟩ (by kernel_rfl)) ?_
      by_cases c0 : ea = 0
      · subst c0
        replace hpt : ∀ y0, ys[0]? = some y0 → y0.lev ≤ e.lev → (∀ (i : Nat) (y : Pg), ys[i]? = some y → (unR (zbs k e.id ys i) e.id y.va y.lev).2 = 0) ∧ { zbs k e.id ys ys.length with fs := ka.fs } = ka := hpt rfl
        replace hne : ys.length ≠ 0 := hne rfl
        by_cases c1 : 40 < ys.length
        · clear hpt hpi hps hp0
          repeat (first | (refine zah rfl ?_; first | refine zai ?_) | (refine hK _ ?_; clear hK K) | (rename_i K1 hK1; refine hK1 _ ?_; clear hK hK1; clear K) | (rename_i K1 hK1; refine hK1 _ ?_; clear hK1) | refine zac rfl ?_ | refine zas (by kernel_rfl) (by kernel_rfl) rfl ?_ | exact zaj (show zau _ _ _ = some _ by kernel_rfl) | refine zag rfl rfl ?_ | refine zae rfl rfl ?_ | refine zaf ?_ | refine zaz ?_ | refine zal ?_ | refine zab (fun K hK => ?_) | refine zb1 ?_ | refine zcq ?_ | refine zaj (show zau _ _ _ = some _ ∧ EndB _ _ from ⟨by kernel_rfl, ?_⟩))
        · obtain ⟨y0, hy0⟩ : ∃ y0, ys[0]? = some y0 := ⟨_, List.getElem?_eq_getElem (by omega)⟩
          have hx0 := zrm hy0
          by_cases c2 : e.lev < y0.lev
          · clear hpt hpi hps hp0
            repeat (first | (refine zah rfl ?_; first | refine zai ?_ | refine gdr (zez rfl rfl rfl rfl rfl rfl (by decide) (by omega) _ hx0) ?_) | (refine hK _ ?_; clear hK K) | (rename_i K1 hK1; refine hK1 _ ?_; clear hK hK1; clear K) | (rename_i K1 hK1; refine hK1 _ ?_; clear hK1) | refine zac rfl ?_ | refine zas (by kernel_rfl) (by kernel_rfl) rfl ?_ | exact zaj (show zau _ _ _ = some _ by kernel_rfl) | refine zag rfl rfl ?_ | refine zae rfl rfl ?_ | refine zaf ?_ | refine zaz ?_ | refine zal ?_ | refine zab (fun K hK => ?_) | refine zb1 ?_ | refine zcq ?_ | refine zaj (show zau _ _ _ = some _ ∧ EndB _ _ from ⟨by kernel_rfl, ?_⟩))
          · obtain ⟨q1, q2⟩ := hpt y0 hy0 (by omega)
            clear hpt
            repeat (first | (refine zah rfl ?_; first | refine zai ?_ | refine gdr (zez rfl rfl rfl rfl rfl rfl (by decide) (by omega) _ hx0) ?_) | (refine hK _ ?_; clear hK K) | (rename_i K1 hK1; refine hK1 _ ?_; clear hK hK1; clear K) | (rename_i K1 hK1; refine hK1 _ ?_; clear hK1) | refine zac rfl ?_ | refine zas (by kernel_rfl) (by kernel_rfl) rfl ?_ | exact zaj (show zau _ _ _ = some _ by kernel_rfl) | refine zag rfl rfl ?_ | refine zae rfl rfl ?_ | refine zaf ?_ | refine zaz ?_ | refine zal ?_ | refine zab (fun K hK => ?_) | refine zb1 ?_ | refine zcq ?_ | refine zaj (show zau _ _ _ = some _ ∧ EndB _ _ from ⟨by kernel_rfl, ?_⟩))
            refine za3 (α := Nat) (fun w => w ≤ ys.length) (fun w => z11 ys e ka (zbs k e.id ys w) w) (fun w => ys.length - w) 0 (Nat.zero_le _) (zao _ _ ⟨by kernel_rfl, by kernel_rfl, by kernel_rfl, by kernel_rfl, by kernel_rfl, by kernel_rfl, trivial⟩ ⟨by kernel_rfl, by kernel_rfl, by kernel_rfl, trivial⟩ (by kernel_rfl)) ?_
            intro j hj
            show Aw _ _ _ _ (z11 ys e ka (zbs k e.id ys j) j)
            unfold z11
            by_cases hjl : j < ys.length
            · obtain ⟨y, hy⟩ : ∃ y, ys[j]? = some y := ⟨_, List.getElem?_eq_getElem hjl⟩
              have hx := zrm hy
              have hyU := hyu y (List.mem_of_getElem? hy)
              have hI := hpi j
              have g1 := zec hI (by omega) e.id y.va y.lev hyU
              have g2 := q1 j y hy
              have g3 := hps j y hy
              generalize zbs k e.id ys (j + 1) = b2 at *
              generalize zbs k e.id ys j = b1 at *
              generalize unR b1 e.id y.va y.lev = rb at *
              obtain ⟨b3, eb⟩ := rb
              replace g2 : eb = 0 := g2
              replace g3 : b2 = b3 := g3
              subst g2 g3
              clear hI hps hpi q1 q2
              repeat (first | (refine zah rfl ?_; first | refine zai ?_ | refine gdr (zaa rfl rfl rfl (g1) (by kernel_rfl)) ?_) | (refine hK _ ?_; clear hK K) | (rename_i K1 hK1; refine hK1 _ ?_; clear hK hK1; clear K) | (rename_i K1 hK1; refine hK1 _ ?_; clear hK1) | refine zac rfl ?_ | refine zas (by kernel_rfl) (by kernel_rfl) rfl ?_ | exact zaj (show zau _ _ _ = some _ by kernel_rfl) | refine zag rfl rfl ?_ | refine zae rfl rfl ?_ | refine zaf ?_ | refine zaz ?_ | refine zal ?_ | refine zab (fun K hK => ?_) | refine zb1 ?_ | refine zcq ?_ | refine zaj (show zau _ _ _ = some _ ∧ EndB _ _ from ⟨by kernel_rfl, ?_⟩))
              exact ⟨j + 1, hjl, by show ys.length - (j + 1) < ys.length - j; omega, zao _ _ ⟨by kernel_rfl, by kernel_rfl, by kernel_rfl, by kernel_rfl, by kernel_rfl, by kernel_rfl, trivial⟩ ⟨by kernel_rfl, by kernel_rfl, by kernel_rfl, trivial⟩ (by kernel_rfl)⟩
            · obtain rfl : j = ys.length := by omega
              clear hps hpi q1
              generalize zbs k e.id ys ys.length = b1 at *
              obtain ⟨X, hX⟩ : ∃ X, X = b1.fs := ⟨_, rfl⟩
              replace q2 : b1 = { ka with fs := X } := by rw [← q2, hX]
              clear hX
              subst q2
              repeat (first | (refine zah rfl ?_; first | refine zai ?_ | refine gdr (zaa rfl rfl rfl (hsm) (by kernel_rfl)) ?_) | (refine hK _ ?_; clear hK K) | (rename_i K1 hK1; refine hK1 _ ?_; clear hK hK1; clear K) | (rename_i K1 hK1; refine hK1 _ ?_; clear hK1) | refine zac rfl ?_ | refine zas (by kernel_rfl) (by kernel_rfl) rfl ?_ | exact zaj (show zau _ _ _ = some _ by kernel_rfl) | refine zag rfl rfl ?_ | refine zae rfl rfl ?_ | refine zaf ?_ | refine zaz ?_ | refine zal ?_ | refine zab (fun K hK => ?_) | refine zb1 ?_ | refine zcq ?_ | refine zaj (show zau _ _ _ = some _ ∧ EndB _ _ from ⟨by kernel_rfl, ?_⟩))
      · clear hpt hpi hps hp0 hne
        repeat (first | (refine zah rfl ?_; first | refine zai ?_) | (refine hK _ ?_; clear hK K) | (rename_i K1 hK1; refine hK1 _ ?_; clear hK hK1; clear K) | (rename_i K1 hK1; refine hK1 _ ?_; clear hK1) | refine zac rfl ?_ | refine zas (by kernel_rfl) (by kernel_rfl) rfl ?_ | exact zaj (show zau _ _ _ = some _ by kernel_rfl) | refine zag rfl rfl ?_ | refine zae rfl rfl ?_ | refine zaf ?_ | refine zaz ?_ | refine zal ?_ | refine zab (fun K hK => ?_) | refine zb1 ?_ | refine zcq ?_ | refine zaj (show zau _ _ _ = some _ ∧ EndB _ _ from ⟨by kernel_rfl, ?_⟩))
end Go.Proofs.YtomeaibdedaldaaGreatDoor.LnI
