/- Texts of this claim, one behind the other: LnD, LrD, LnE. -/
import Derived.Test.YtomeaibdedaldaaGreatDoorT4
set_option linter.unusedVariables false
set_option linter.unusedSimpArgs false
namespace Go.Proofs.YtomeaibdedaldaaGreatDoor.LnD
open Go.RowKit Bv VaSpec Base MemL RegR Ax MemC PutC MemC3 TzC OkS SpA SpB SpC SpD SpE SpF SpN SpO SpG SpH SpI SpJ LaA LaB LaC LaD LaE LaF LaG LiA LiB LiC LiD LiE LiF LrA LrB LrC LjA LjF LkE LmA LmB LmE LnA LnB
open BitsC PteSpec RfE RfG RfJ RfK LaH RfA RfP RfQ
set_option maxRecDepth 10000
set_option maxHeartbeats 1000000
noncomputable def zij (k : Kr) (id : Int) : Int → Tr := if id = -1 then zci k.sz k.m 1 k.sh else upd (zci k.sz k.m 2 (zfo k id).root) 511 .no
def zu3 (id : Int) : Nat := if id = -1 then 1 else 2
structure Rts (k : Kr) : Prop where
  r : ∀ (i j : Nat) (s t : Sp), k.ss[i]? = some s → k.ss[j]? = some t → i ≠ j → s.live = true → t.live = true → s.root ≠ t.root
theorem zh3 (k : Kr) : zij k (-1) = zci k.sz k.m 1 k.sh := if_pos rfl
theorem ze5 (k : Kr) {id : Int} (h : id ≠ -1) : zij k id = upd (zci k.sz k.m 2 (zfo k id).root) 511 .no := if_neg h
theorem zo2 {n : Nat} {k : Kr} (h : InvT n k) (id : Int) : zbv k id = if id = -1 then zzu 1 kA (zij k id) else if zav k id = false then [] else zzu 2 0 (zij k id) := by
  obtain ⟨lv, hT, hs, hr⟩ := h.t
  unfold zbv
  by_cases c0 : id = -1
  · subst c0
    rw [if_pos rfl, if_pos rfl, zh3]
    exact zh2 hT 1 k.sh kA (by rw [hs]; rfl)
  · rw [if_neg c0, if_neg c0]
    by_cases c1 : zav k id = false
    · rw [if_pos c1, if_pos c1]
    · rw [if_neg c1, if_neg c1, ze5 k c0]
      have c1 : zav k id = true := by simpa using c1
      obtain ⟨h0, h1, h2, hv⟩ := zcw c1
      have hrl := hr _ (List.mem_of_getElem? h2) hv
      have har := h.l.root c1
      have hown : zxg k id = zb2 k.m ((zfo k id).root * 512 + 511) 0 := rfl
      rw [hown]
      generalize (zfo k id).root = rt at *
      have b1 := hT.bd
      have bt := har.1
      have hat : ∀ s j, (0 ≤ j ∧ j < 512) → atM k.sz (zb2 k.m (rt * 512 + 511) 0) s j = if s = rt ∧ j = 511 then zP else atM k.sz k.m s j := fun s j hj => zxp (cd := k.cd) (cp := k.cp) hT.s hT.bz (by omega) (by omega) s j hj
      have hTo : TI k.cd k.cp k.sz (zb2 k.m (rt * 512 + 511) 0) k.pf k.sh lv := hT.put bt (by omega) ⟨by omega, by omega⟩ hT.bf fun E' hE => hT.e.sub fun s j hj => by
        rw [hE s j hj, zuo]
        split
        · exact .inl rfl
        · exact .inr rfl
      rw [zh2 hTo 2 rt 0 hrl]
      rw [zgx hT (l := 2) har hrl (i := 511) (by omega) (r := .no) (fun _ => False) (by rw [hat rt 511 (by omega), if_pos ⟨rfl, rfl⟩, zeh]) (fun s j hj _ hn _ => by rw [hat s j hj, if_neg hn]) (fun hh => hh) (fun _ _ _ _ _ _ _ _ hh => hh)]
structure Fit (k : Kr) (id a pa l : Int) (p : Pm) : Prop where
  w : (zat k id a l).2.2 = 0
  a : lk0 pa l = 0
  b : lk1 k pa l = 0
  c : lk2 p = 0
theorem zs7 {k : Kr} {id a pa l : Int} {p : Pm} (he : (zcb k id a pa l p).2 = 0) : Fit k id a pa l p := by
  unfold zcb at he
  by_cases c0 : (zat k id a l).2.2 ≠ 0
  · rw [if_pos c0] at he; exact absurd he c0
  rw [if_neg c0] at he
  by_cases c1 : lk0 pa l ≠ 0
  · rw [if_pos c1] at he; exact absurd he c1
  rw [if_neg c1] at he
  by_cases c2 : lk1 k pa l ≠ 0
  · rw [if_pos c2] at he; exact absurd he c2
  rw [if_neg c2] at he
  by_cases c3 : lk2 p ≠ 0
  · rw [if_pos c3] at he; exact absurd he c3
  exact ⟨by omega, by omega, by omega, by omega⟩
theorem zs8 (k : Kr) (id a pa l : Int) (p : Pm) : (zcb k id a pa l p).1 = k ∨ ∃ D g, (zcb k id a pa l p).1 = zxz k D a pa l p g := by
  unfold zcb
  (repeat' split) <;> first | exact .inl rfl | exact .inr ⟨_, _, rfl⟩
theorem zzl (k : Kr) (id a pa l : Int) (p : Pm) : (zcb k id a pa l p).1.ss = k.ss ∧ (zcb k id a pa l p).1.sh = k.sh ∧ (zcb k id a pa l p).1.cd = k.cd ∧ (zcb k id a pa l p).1.sz = k.sz := by
  rcases zs8 k id a pa l p with e | ⟨D, g, e⟩
  · rw [e]; exact ⟨rfl, rfl, rfl, rfl⟩
  · rw [e]; exact ⟨rfl, rfl, rfl, rfl⟩
theorem znv {k : Kr} (h : Rts k) (id a pa l : Int) (p : Pm) : Rts (zcb k id a pa l p).1 := ⟨by rw [(zzl k id a pa l p).1]; exact h.r⟩
theorem zby (k : Kr) (id a pa l : Int) (p : Pm) (i : Int) : zav (zcb k id a pa l p).1 i = zav k i := by
  rcases zs8 k id a pa l p with e | ⟨D, g, e⟩ <;> rw [e] <;> rfl
theorem zkf {k : Kr} {id a pa l id' a' pa' l' : Int} {p p' : Pm} : Fit (zcb k id a pa l p).1 id' a' pa' l' p' ↔ Fit k id' a' pa' l' p' := by
  rcases zs8 k id a pa l p with e | ⟨D, g, e⟩
  · rw [e]
  · rw [e]
    constructor
    · rintro ⟨a, b, c, d⟩; exact ⟨a, b, c, d⟩
    · rintro ⟨a, b, c, d⟩; exact ⟨a, b, c, d⟩
section
variable {cd cp sz f sh : Int} {xs xs' : List (Int × Int)} {lv : Int → Int}
theorem zzm (h : TI cd cp sz xs f sh lv) {r i : Int} (hr : lv r = 2) (hsa : Al cd cp f sh) (hsl : lv sh = 1) (hi : 0 ≤ i ∧ i < 512) (hH : i ≠ 511) (h4 : ∀ s j, (0 ≤ j ∧ j < 512) → Al cd cp f s → ¬ (s = r ∧ j = i) → ¬ (lkP (atM sz xs r i) = true ∧ s ∈ frN sz xs 1 (atM sz xs r i).ppn) → atM sz xs' s j = atM sz xs s j) : zci sz xs' 1 sh = zci sz xs 1 sh := by
  refine zgw 1 sh fun s hs j hj => ?_
  obtain ⟨q1, q2, _⟩ := zbk h 1 sh hsa hsl s hs
  refine h4 s j hj q1 (fun hh => by rw [hh.1, hr] at q2; omega) ?_
  rintro ⟨k1, k2⟩
  obtain ⟨_, _, r1, a1⟩ := zgi h hi k1
  have e1 : lv (atM sz xs r i).ppn = (1 : Nat) := by rw [r1, hr]; rfl
  have hm := zu2 h a1 hsa e1 (l2 := 1) hsl (Nat.le_refl _) (zs4 h hsa hsl (Nat.le_refl _)) 1 s (by omega) k2 hs
  by_cases c : sh = (atM sz xs r i).ppn
  · exact hH (h.e.s r i hi k1 c.symm).1
  · exact zs4 h a1 e1 (Nat.le_refl _) sh hm c rfl
theorem zvq (h : TI cd cp sz xs f sh lv) {r2 : Int} (hr : lv r2 = 2) (ha : Al cd cp f r2) (hx : ∀ j, (0 ≤ j ∧ j < 512) → atM sz xs' r2 j = atM sz xs r2 j) (hs : ∀ j, (0 ≤ j ∧ j < 512) → j ≠ 511 → lkP (atM sz xs r2 j) = true → (atM sz xs r2 j).ppn ≠ sh → ∀ s ∈ frN sz xs 1 (atM sz xs r2 j).ppn, ∀ j', (0 ≤ j' ∧ j' < 512) → atM sz xs' s j' = atM sz xs s j') : upd (zci sz xs' 2 r2) 511 .no = upd (zci sz xs 2 r2) 511 .no := by
  funext j
  by_cases c : j = 511
  · subst c; rw [zex, zex]
  rw [zeg _ _ c, zeg _ _ c]
  by_cases hj : 0 ≤ j ∧ j < 512
  · rw [zda hj, zda hj, hx j hj]
    rcases h.e.k r2 j hj with e | ⟨_, _, ⟨e1, e2⟩ | ⟨e1, e2, e3, e4⟩⟩
    · rw [e, zeh, zeh]
    · rw [zdb e1, zdb e1]
    · rw [zdc e1, zdc e1, zgw 1 _ (hs j hj c e1 fun ee => c (h.e.s r2 j hj e1 ee).1)]
  · unfold zci; rw [if_neg hj, if_neg hj]
theorem zs9 (h : TI cd cp sz xs f sh lv) {i r2 : Int} (hsl : lv sh = 1) (hr : lv r2 = 2) (ha : Al cd cp f r2) (hi : 0 ≤ i ∧ i < 512) (h4 : ∀ s j, (0 ≤ j ∧ j < 512) → Al cd cp f s → ¬ (s = sh ∧ j = i) → ¬ (lkP (atM sz xs sh i) = true ∧ s ∈ frN sz xs 0 (atM sz xs sh i).ppn) → atM sz xs' s j = atM sz xs s j) : upd (zci sz xs' 2 r2) 511 .no = upd (zci sz xs 2 r2) 511 .no := by
  have hc : ∀ s, lkP (atM sz xs sh i) = true → s ∈ frN sz xs 0 (atM sz xs sh i).ppn → s = (atM sz xs sh i).ppn ∧ lv s = 0 := fun s k1 k2 => by
    have e : s = (atM sz xs sh i).ppn := by simpa [frN] using k2
    obtain ⟨_, _, r1, _⟩ := zgi h hi k1
    exact ⟨e, by rw [e, r1, hsl]; rfl⟩
  refine zvq h hr ha (fun j hj => h4 r2 j hj ha (fun hh => by rw [hh.1, hsl] at hr; omega) fun hh => by have := (hc _ hh.1 hh.2).2; omega) ?_
  intro j hj hj5 k2 hns s hs j' hj'
  obtain ⟨_, _, r1, a1⟩ := zgi h hj k2
  have e1 : lv (atM sz xs r2 j).ppn = (1 : Nat) := by rw [r1, hr]; rfl
  obtain ⟨q1, q2, q3⟩ := zbk h 1 _ a1 e1 s hs
  have hne : ∀ g ∈ frN sz xs 1 (atM sz xs r2 j).ppn, g ≠ sh := fun g hg e => by
    by_cases c : g = (atM sz xs r2 j).ppn
    · exact hns (c.symm.trans e)
    · exact zs4 h a1 e1 (Nat.le_refl _) g hg c e
  refine h4 s j' hj' q1 (fun hh => hne s hs hh.1) ?_
  rintro ⟨k1, k3⟩
  obtain ⟨c1, c2⟩ := hc s k1 k3
  rcases q3 with e | ⟨s', hs', j2, p1, p2, p3, p4⟩
  · rw [e, e1] at c2; omega
  · obtain ⟨u1, _⟩ := h.e.u s' j2 sh i p1 hi p2 k1 (p3.trans c1) (by rw [p3]; intro e; rw [e, hsl] at c2; omega)
    exact hne s' hs' u1
theorem zta (h : TI cd cp sz xs f sh lv) {r i r2 : Int} (hr1 : lv r = 2) (hr : lv r2 = 2) (ha : Al cd cp f r2) (hne : r ≠ r2) (hi : 0 ≤ i ∧ i < 512) (hH : i ≠ 511) (h4 : ∀ s j, (0 ≤ j ∧ j < 512) → Al cd cp f s → ¬ (s = r ∧ j = i) → ¬ (lkP (atM sz xs r i) = true ∧ s ∈ frN sz xs 1 (atM sz xs r i).ppn) → atM sz xs' s j = atM sz xs s j) : upd (zci sz xs' 2 r2) 511 .no = upd (zci sz xs 2 r2) 511 .no := by
  have hc : ∀ s, lkP (atM sz xs r i) = true → s ∈ frN sz xs 1 (atM sz xs r i).ppn → lv s ≤ 1 := fun s k1 k2 => by
    obtain ⟨_, _, r1, a1⟩ := zgi h hi k1
    exact (zbk h 1 _ a1 (by rw [r1, hr1]; rfl) s k2).2.1.2
  refine zvq h hr ha (fun j hj => h4 r2 j hj ha (fun hh => hne hh.1.symm) fun hh => by have := hc _ hh.1 hh.2; omega) ?_
  intro j hj hj5 k2 hns s hs j' hj'
  obtain ⟨_, _, r1, a1⟩ := zgi h hj k2
  have e1 : lv (atM sz xs r2 j).ppn = (1 : Nat) := by rw [r1, hr]; rfl
  obtain ⟨q1, q2, q3⟩ := zbk h 1 _ a1 e1 s hs
  refine h4 s j' hj' q1 (fun hh => by rw [hh.1, hr1] at q2; omega) ?_
  rintro ⟨k1, k3⟩
  obtain ⟨_, _, r3, a3⟩ := zgi h hi k1
  have e3 : lv (atM sz xs r i).ppn = (1 : Nat) := by rw [r3, hr1]; rfl
  have hm := zu2 h a3 a1 e3 e1 (Nat.le_refl _) (zs4 h a1 e1 (Nat.le_refl _)) 1 s (by omega) k3 hs
  obtain ⟨_, _, v⟩ := zbk h 1 _ a3 e3 _ hm
  rcases v with e | ⟨s', _, j2, p1, p2, p3, p4⟩
  · exact hne (h.e.u r i r2 j hi hj k1 k2 e.symm (fun ee => hns (e.trans ee))).1
  · obtain ⟨_, _, rr, _⟩ := zgi h p1 p2
    rw [p3] at rr
    omega
end
theorem zh4 {n : Nat} {k : Kr} {id a pa l : Int} {p : Pm} (h : InvT n k) (hR : Rts k) (hp : U pa) (hf : Fit k id a pa l p) :
    (zdh a l (mkP (pa / 4096) p (decide (id = -1))) (zu3 id) (zij k id) = none → (zcb k id a pa l p).2 = 6) ∧
    (∀ A, zdh a l (mkP (pa / 4096) p (decide (id = -1))) (zu3 id) (zij k id) = some A →
      ((zcb k id a pa l p).2 = 0 ∧ zij (zcb k id a pa l p).1 id = A ∧ cnt (zcb k id a pa l p).1.pf + zgh A = cnt k.pf + zgh (zij k id) ∧ (∀ id', id' ≠ id → (id' = -1 ∨ zav k id' = true) → zij (zcb k id a pa l p).1 id' = zij k id')) ∨
      ((zcb k id a pa l p).2 = 8 ∧ cnt k.pf + zgh (zij k id) < zgh A)) := by
  obtain ⟨c0, c1, c2, c3⟩ := hf
  obtain ⟨lv, hT, hs, hr⟩ := h.t
  obtain ⟨w1, w2, w3, w4⟩ := zep (id := id) (a := a) (l := l) h.l c0
  obtain ⟨z1, z2⟩ := h.top (id := id) (a := a) (l := l) c0 hs hr
  have hpn := zor (k := k) (l := l) hp (by have := h.l.g.bd; omega) c2
  have hb := zgu (n := pa / 4096) (p := p) (g := decide (id = -1)) hpn (zj6 c3)
  have hwt := zfl h.l c0
  have hM : zcb k id a pa l p = if lk3 k (zat k id a l).1 (zat k id a l).2.1 a l ≠ 0 then (k, lk3 k (zat k id a l).1 (zat k id a l).2.1 a l)
      else if (zl6 k (zat k id a l).1 (zat k id a l).2.1 a l).2.2.2 ≠ 0 then (k, (zl6 k (zat k id a l).1 (zat k id a l).2.1 a l).2.2.2)
      else (zxz k (zl6 k (zat k id a l).1 (zat k id a l).2.1 a l) a pa l p (decide (id = -1)), 0) := by
    unfold zcb
    rw [if_neg (by omega), if_neg (by omega), if_neg (by omega), if_neg (by omega)]
  rw [hM]
  clear hM
  generalize zat k id a l = w at *
  obtain ⟨m, hm⟩ : ∃ m : Nat, w.2.1 = (m : Int) := ⟨w.2.1.toNat, by omega⟩
  have hir := zs6 hT a l (mkP (pa / 4096) p (decide (id = -1))) w1.1 m w.1 (by omega) (by omega)
  have h3 := zzi k w.1 w.2.1 a l
  have h3v : (atM k.sz k.m (zbq k.sz k.m a l w.2.1 w.1).1 (idx a (zbq k.sz k.m a l w.2.1 w.1).2)).v = true → lk3 k w.1 w.2.1 a l = 6 := fun hh => by
    unfold lk3; rw [hh]; rfl
  have hre : zbq k.sz k.m a l w.2.1 w.1 = zbl k.sz k.m a l m w.1 := by unfold zbq; rw [hm, Int.toNat_natCast]
  rw [hre] at h3v
  rw [hre] at h3
  have hD : zl6 k w.1 w.2.1 a l = dnN k.sz k.cd a l m k.m k.pf w.1 := by unfold zl6; rw [hm, Int.toNat_natCast]
  have hds := zzk a l (mkP (pa / 4096) p (decide (id = -1))) w1.1 hb.2.1 hb.1 hb.2.2 m k.m k.pf w.1 lv hT w2 h.l.sh (by omega) (by omega) (by omega) (fun hh => z2 (by omega))
  rw [hD]
  generalize hq : mkP (pa / 4096) p (decide (id = -1)) = q at *
  generalize hDD : dnN k.sz k.cd a l m k.m k.pf w.1 = D at *
  have hi := idx_bd a (m : Int)
  -- the tree, told as a shape
  have hins : (zdh a l q (zu3 id) (zij k id) = none ↔ zdh a l q m (zci k.sz k.m m w.1) = none) ∧ (∀ A, zdh a l q (zu3 id) (zij k id) = some A → ∃ A0, zdh a l q m (zci k.sz k.m m w.1) = some A0 ∧ (∀ K : Kr, K.sz = k.sz → K.sh = k.sh → zfo K id = zfo k id → zci k.sz K.m m w.1 = A0 → zij K id = A) ∧ (zgh A + zgh (zci k.sz k.m m w.1) = zgh A0 + zgh (zij k id))) := by
    rcases hwt with ⟨e1, e2, e3⟩ | ⟨e1, e2, e3, e4, e5⟩
    · subst e3
      obtain rfl : m = 1 := by omega
      rw [zh3, e1]
      refine ⟨Iff.rfl, fun A hA => ⟨A, hA, fun K y1 y2 y3 y4 => ?_, by omega⟩⟩
      rw [zh3, y1, y2]; exact y4
    · obtain rfl : m = 2 := by omega
      have ht : zu3 id = 2 := if_neg e2
      rw [ze5 k e2, ht, ← e3]
      have e5' : idx a ((2 : Nat) : Int) ≠ 511 := e5
      have key : zf8 a l q 2 (upd (zci k.sz k.m 2 w.1) 511 .no (idx a ((2 : Nat) : Int))) = zf8 a l q 2 (zci k.sz k.m 2 w.1 (idx a ((2 : Nat) : Int))) := by rw [zeg _ _ e5']
      unfold zdh
      rw [key]
      refine ⟨by rw [Option.map_eq_none_iff, Option.map_eq_none_iff], fun A hA => ?_⟩
      obtain ⟨r, hr', rfl⟩ := Option.map_eq_some_iff.1 hA
      refine ⟨upd (zci k.sz k.m 2 w.1) (idx a ((2 : Nat) : Int)) r, by rw [hr']; rfl, fun K y1 y2 y3 y4 => ?_, ?_⟩
      · rw [ze5 K e2, y1, y3, ← e3, y4]
        exact (upd_comm _ _ _ (fun hh => e5' hh.symm)).symm
      · have n1 := zdz (upd (zci k.sz k.m 2 w.1) 511 .no) (idx a ((2 : Nat) : Int)) r hi
        rw [zeg _ _ e5'] at n1
        have n2 := zdz (zci k.sz k.m 2 w.1) (idx a ((2 : Nat) : Int)) r hi
        omega
  constructor
  · intro hh
    have := h3v (hir.1 (hins.1.1 hh))
    rw [if_pos (by omega)]
    exact this
  · intro A hA
    obtain ⟨A0, hA0, hK, hcn⟩ := hins.2 A hA
    have h30 : lk3 k w.1 w.2.1 a l = 0 := by
      rcases h3 with e | e
      · exact e.1
      · exfalso
        have : ¬ (atM k.sz k.m (zbl k.sz k.m a l m w.1).1 (idx a (zbl k.sz k.m a l m w.1).2)).v = true := fun hv => by
          rw [hir.2 hv] at hA0; cases hA0
        unfold lk3 at e
        rw [hre] at e
        have this : (atM k.sz k.m (zbl k.sz k.m a l m w.1).1 (idx a (zbl k.sz k.m a l m w.1).2)).v = false := by simpa using this
        rw [this] at e
        cases e
    rw [if_neg (by omega)]
    rcases hds A0 hA0 with ⟨d1, d2, d3, d4⟩ | ⟨d1, d2⟩
    · rw [if_neg (by omega)]
      have hmK : (zxz k D a pa l p (decide (id = -1))).m = zbg k.sz D.1 D.2.2.1 (idx a l) q := by rw [← hq]; rfl
      refine .inl ⟨rfl, hK _ rfl rfl rfl (by rw [hmK]; exact d2), ?_, fun id' hne hlv => ?_⟩
      · show cnt D.2.1 + zgh A = _
        omega
      · have d4' : ∀ s j, (0 ≤ j ∧ j < 512) → Al k.cd k.cp k.pf s → ¬ (s = w.1 ∧ j = idx a (m : Int)) → ¬ (lkP (atM k.sz k.m w.1 (idx a (m : Int))) = true ∧ s ∈ frN k.sz k.m (m - 1) (atM k.sz k.m w.1 (idx a (m : Int))).ppn) → atM k.sz (zxz k D a pa l p (decide (id = -1))).m s j = atM k.sz k.m s j := fun s j hj hs hn hc => by
          rw [hmK]
          refine d4 s j hj hs hn ?_
          rintro ⟨m', em, k1, k2⟩
          obtain rfl : m' = m - 1 := by omega
          exact hc ⟨k1, k2⟩
        rcases hwt with ⟨e1, e2, e3⟩ | ⟨e1, e2, e3, e4, e5⟩
        · obtain rfl : m = 1 := by omega
          have hl' : zav k id' = true := hlv.resolve_left (fun hh => hne (hh.trans e3.symm))
          obtain ⟨g0, g1, g2, g3⟩ := zcw hl'
          have hne1 : id' ≠ -1 := fun hh => hne (hh.trans e3.symm)
          rw [ze5 _ hne1, ze5 _ hne1]
          rw [e1] at d4'
          exact zs9 hT hs (hr _ (List.mem_of_getElem? g2) g3) (h.l.root hl') hi d4'
        · obtain rfl : m = 2 := by omega
          have hwr : lv w.1 = 2 := by rw [z1, e4]
          by_cases hid : id' = -1
          · subst hid
            rw [zh3, zh3]
            exact zzm hT hwr h.l.sh hs hi e5 d4'
          · have hl' : zav k id' = true := hlv.resolve_left hid
            obtain ⟨g0, g1, g2, g3⟩ := zcw hl'
            obtain ⟨f0, f1, f2, f3⟩ := zcw e1
            rw [ze5 _ hid, ze5 _ hid]
            have hrn : w.1 ≠ (zfo k id').root := by
              rw [e3]
              exact hR.r id.toNat id'.toNat _ _ f2 g2 (by omega) f3 g3
            exact zta hT hwr (hr _ (List.mem_of_getElem? g2) g3) (h.l.root hl') hrn hi e5 d4'
    · rw [if_pos (by omega)]
      exact .inr ⟨d1, by omega⟩
theorem zu4 (a zao : Int) (q : Pte) : ∀ (l : Nat) (tr A : Tr), zf8 a zao q l tr = some A → zke tr ≤ zke A := by
  intro l
  induction l with
  | zero =>
    intro tr A h
    unfold zf8 at h
    cases tr <;> simp [zxs] at h
    exact Nat.zero_le _
  | succ l ih =>
    intro tr A h
    by_cases w1 : zao = ((l + 1 : Nat) : Int)
    · rw [zgg w1] at h
      cases tr <;> simp [zxs] at h
      exact Nat.zero_le _
    have l1 : zx1 tr = false := by
      cases tr with
      | lf p => rw [zi2] at h; cases h
      | no => rfl
      | tb f => rfl
    rw [zd0 w1 l1] at h
    obtain ⟨F, hF, rfl⟩ := Option.map_eq_some_iff.1 h
    unfold zdh at hF
    obtain ⟨r, hr, rfl⟩ := Option.map_eq_some_iff.1 hF
    have hi := idx_bd a (l : Int)
    have n1 := zdz (zkh tr) (idx a (l : Int)) r hi
    have n2 := ih _ _ hr
    have n3 : zke (.tb (upd (zkh tr) (idx a (l : Int)) r)) = 1 + zgh (upd (zkh tr) (idx a (l : Int)) r) := rfl
    have n4 : zke tr ≤ 1 + zgh (zkh tr) := by
      cases tr with
      | no => exact Nat.zero_le _
      | lf p => exact Nat.zero_le _
      | tb f => exact Nat.le_refl _
    omega
theorem zh5 {a zao : Int} {q : Pte} {l : Nat} {F A : Int → Tr} (h : zdh a zao q l F = some A) : zgh F ≤ zgh A := by
  unfold zdh at h
  obtain ⟨r, hr, rfl⟩ := Option.map_eq_some_iff.1 h
  have hi := idx_bd a (l : Int)
  have n1 := zdz F (idx a (l : Int)) r hi
  have n2 := zu4 a zao q l _ _ hr
  omega
theorem z0k {n : Nat} {k : Kr} {id a pa l id' a' pa' l' : Int} {p p' : Pm} (h : InvT n k) (hR : Rts k) (hp : U pa) (hp' : U pa') (h0 : (zcb k id a pa l p).2 = 0) :
    (zcb (zcb k id a pa l p).1 id a pa l p).2 = 6 ∧
    ((zcb (zcb k id a pa l p).1 id' a' pa' l' p').2 = 0 → (zcb k id' a' pa' l' p').2 = 0 ∧ (zcb (zcb k id' a' pa' l' p').1 id a pa l p).2 = 0 ∧
      cnt (zcb (zcb k id a pa l p).1 id' a' pa' l' p').1.pf = cnt (zcb (zcb k id' a' pa' l' p').1 id a pa l p).1.pf ∧
      ∀ i, zbv (zcb (zcb k id a pa l p).1 id' a' pa' l' p').1 i = zbv (zcb (zcb k id' a' pa' l' p').1 id a pa l p).1 i) := by
  have hf := zs7 h0
  have h1 := zcx (id := id) (a := a) (pa := pa) (l := l) (p := p) h hp
  have r1 := znv hR id a pa l p
  obtain ⟨q1, q2⟩ := zh4 h hR hp hf
  obtain ⟨A, hA⟩ : ∃ A, zdh a l (mkP (pa / 4096) p (decide (id = -1))) (zu3 id) (zij k id) = some A := by
    cases e : zdh a l (mkP (pa / 4096) p (decide (id = -1))) (zu3 id) (zij k id) with
    | none => have := q1 e; omega
    | some A => exact ⟨A, rfl⟩
  rcases q2 A hA with ⟨_, s1, s2, s3⟩ | ⟨s0, _⟩
  rotate_left
  · omega
  refine ⟨(zh4 h1 r1 hp (zkf.2 hf)).1 (by rw [s1]; exact zp8 hA), fun h2 => ?_⟩
  have hf2 := zs7 h2
  have hf' : Fit k id' a' pa' l' p' := zkf.1 hf2
  have h12 := zcx (id := id') (a := a') (pa := pa') (l := l') (p := p') h1 hp'
  obtain ⟨t1, t2⟩ := zh4 h1 r1 hp' hf2
  obtain ⟨B, hB⟩ : ∃ B, zdh a' l' (mkP (pa' / 4096) p' (decide (id' = -1))) (zu3 id') (zij (zcb k id a pa l p).1 id') = some B := by
    cases e : zdh a' l' (mkP (pa' / 4096) p' (decide (id' = -1))) (zu3 id') (zij (zcb k id a pa l p).1 id') with
    | none => have := t1 e; omega
    | some A => exact ⟨A, rfl⟩
  rcases t2 B hB with ⟨_, u1, u2, u3⟩ | ⟨u0, _⟩
  rotate_left
  · omega
  obtain ⟨v1, v2⟩ := zh4 h hR hp' hf'
  have h2' := zcx (id := id') (a := a') (pa := pa') (l := l') (p := p') h hp'
  have r2 := znv hR id' a' pa' l' p'
  obtain ⟨x1, x2⟩ := zh4 h2' r2 hp (zkf.2 hf)
  have h21 := zcx (id := id) (a := a) (pa := pa) (l := l) (p := p) h2' hp
  -- the same is listed where the shapes are the same
  have fin : ∀ K K' : Kr, InvT (n + 3 + 3) K → InvT (n + 3 + 3) K' → (∀ i, zav K i = zav k i) → (∀ i, zav K' i = zav k i) → (∀ i, (i = -1 ∨ zav k i = true) → zij K i = zij K' i) → ∀ i, zbv K i = zbv K' i := fun K K' g1 g2 l1 l2 hsh i => by
    rw [zo2 g1, zo2 g2, l1, l2]
    by_cases e : i = -1
    · rw [if_pos e, if_pos e, hsh i (.inl e)]
    · rw [if_neg e, if_neg e]
      cases e2 : zav k i with
      | false => rfl
      | true => rw [if_neg (by simp), if_neg (by simp), hsh i (.inr e2)]
  have lva : ∀ i, zav (zcb (zcb k id a pa l p).1 id' a' pa' l' p').1 i = zav k i := fun i => by rw [zby, zby]
  have lvb : ∀ i, zav (zcb (zcb k id' a' pa' l' p').1 id a pa l p).1 i = zav k i := fun i => by rw [zby, zby]
  have hlid : id = -1 ∨ zav k id = true := by
    rcases zfl h.l hf.w with ⟨_, _, e⟩ | ⟨e, _⟩
    · exact .inl e
    · exact .inr e
  have hlid' : id' = -1 ∨ zav k id' = true := by
    rcases zfl h.l hf'.w with ⟨_, _, e⟩ | ⟨e, _⟩
    · exact .inl e
    · exact .inr e
  by_cases hid : id' = id
  · subst hid
    rw [s1] at hB
    obtain ⟨C, hC, hD⟩ := zs2 hA hB
    have m1 := zh5 hD
    rcases v2 C hC with ⟨y0, y1, y2, y3⟩ | ⟨y0, y1⟩
    rotate_left
    · rw [s1] at u2; omega
    rw [← y1] at hD
    rcases x2 B hD with ⟨z0, z1, z2, z3⟩ | ⟨z0, z1⟩
    rotate_left
    · rw [s1] at u2; rw [y1] at z1; omega
    refine ⟨y0, z0, by rw [s1] at u2; rw [y1] at z2; omega, fin _ _ h12 h21 lva lvb fun i hi => ?_⟩
    by_cases e : i = id'
    · subst e; rw [u1, z1]
    · rw [u3 i e (by rw [zby]; exact hi), s3 i e hi, z3 i e (by rw [zby]; exact hi), y3 i e hi]
  · rw [s3 id' hid hlid'] at hB
    rcases v2 B hB with ⟨y0, y1, y2, y3⟩ | ⟨y0, y1⟩
    rotate_left
    · have := zh5 hA
      rw [s3 id' hid hlid'] at u2
      omega
    have hA' := hA
    rw [← y3 id (fun hh => hid hh.symm) hlid] at hA'
    rcases x2 A hA' with ⟨z0, z1, z2, z3⟩ | ⟨z0, z1⟩
    rotate_left
    · have := zh5 hB
      rw [y3 id (fun hh => hid hh.symm) hlid] at z1
      rw [s3 id' hid hlid'] at u2
      omega
    refine ⟨y0, z0, by rw [s3 id' hid hlid'] at u2; rw [y3 id (fun hh => hid hh.symm) hlid] at z2; omega, fin _ _ h12 h21 lva lvb fun i hi => ?_⟩
    by_cases e : i = id'
    · subst e; rw [u1, z3 i hid (by rw [zby]; exact hi), y1]
    · by_cases e2 : i = id
      · subst e2; rw [u3 i e (by rw [zby]; exact hi), s1, z1]
      · rw [u3 i e (by rw [zby]; exact hi), s3 i e2 hi, z3 i e2 (by rw [zby]; exact hi), y3 i e hi]
theorem zzn {a b c : Int} {n : Nat} (h : zer a b c n = true) : Rts (bgK a b c n) := by
  have h0 := zhx h
  have g0 := zkb h
  have h1 := zcf h0
  have g1 := zcg h0 g0
  exact ⟨fun i j s t h1' h2 h3 h4 h5 => ((zcg h1 g1).ap i j s t h1' h2 h3 h4 h5).1⟩
end Go.Proofs.YtomeaibdedaldaaGreatDoor.LnD
namespace Go.Proofs.YtomeaibdedaldaaGreatDoor.LrD
open Go.RowKit Bv VaSpec Base MemL RegR Ax MemC PutC MemC3 TzC OkS SpA SpB SpC SpD SpE SpF SpG SpH SpI SpJ SpK SpN RfA RfD RfE RfG RfJ LaA LaB LaC LaD LaE LaF LaG LaH LaI LaJ RlA RlB RlC LiE LiF LrA LrB LrC
open BitsC PteSpec
set_option maxRecDepth 10000
set_option maxHeartbeats 1000000
attribute [local irreducible] Ax.zbh
def frH (b m f : Int) (i n : Nat) : St := St.of [(1, .m (.c (.p 1 0))), (2, .m (ii 0)), (3, .m (ii n)), (4, .m (ii i))] [(1, .live (.box [cu b, ci m, cu f]))]
theorem zo3 (b m f : Int) (hf : U f) : Ok 21 [.ag [cu b, ci m, cu f]] (.m (ii (cnt f))) := by
  obtain ⟨R, hR⟩ : ∃ R : Nat, R = cnt f := ⟨_, rfl⟩
  rw [← hR]
  refine zad 16 Tryz.func21 rfl rfl rfl rfl ?_ GG.to
  intro W A hG
  repeat (first | (refine zah rfl ?_; first | refine zai ?_) | (refine hK _ ?_; clear hK K) | refine zac rfl ?_ | refine zae ?_ | refine zab (fun K hK => ?_))
  refine za1 (α := Nat × Nat) (fun p => p.1 ≤ 64 ∧ p.2 = cs p.1 (fun j => zew f (j : Int)) ∧ p.2 ≤ p.1) (fun p => frH b m f p.1 p.2) (fun p => 64 - p.1) (0, 0) ⟨by show 0 ≤ 64; omega, rfl, by show 0 ≤ 0; omega⟩ (zan _ _ ⟨by kernel_rfl, by kernel_rfl, by kernel_rfl, by kernel_rfl, trivial⟩ ⟨by kernel_rfl, trivial⟩ (by kernel_rfl)) ?_
  rintro ⟨i, n⟩ ⟨x1, x2, x3⟩
  have g1 : i ≤ 64 := x1
  have g2 : n = cs i (fun j => zew f (j : Int)) := x2
  have g3 : n ≤ i := x3
  show Aw _ _ _ _ (frH b m f i n)
  unfold frH
  by_cases hlt : i < 64
  · have h1 := zee f (i : Int) hf (by omega) (by omega)
    cases hb : zew f (i : Int) with
    | true =>
      rw [hb] at h1
      repeat (first | (refine zah rfl ?_; first | refine zai ?_ | refine gdr (zaa rfl rfl rfl (h1) (by kernel_rfl)) ?_) | (refine hK _ ?_; clear hK K) | refine zac rfl ?_ | refine zaf rfl rfl ?_ | refine zae ?_ | refine zal ?_ | refine zab (fun K hK => ?_))
      exact ⟨(i + 1, n + 1), ⟨by show i + 1 ≤ 64; omega, by show n + 1 = cs i (fun j => zew f (j : Int)) + (zew f (i : Int)).toNat; rw [hb, g2]; rfl, by show n + 1 ≤ i + 1; omega⟩, by show 64 - (i + 1) < 64 - i; omega, zan _ _ ⟨by kernel_rfl, by kernel_rfl, by kernel_rfl, by kernel_rfl, trivial⟩ ⟨by kernel_rfl, trivial⟩ (by kernel_rfl)⟩
    | false =>
      rw [hb] at h1
      repeat (first | (refine zah rfl ?_; first | refine zai ?_ | refine gdr (zaa rfl rfl rfl (h1) (by kernel_rfl)) ?_) | (refine hK _ ?_; clear hK K) | refine zac rfl ?_ | refine zaf rfl rfl ?_ | refine zag rfl rfl ?_ | refine zae ?_ | refine zal ?_ | refine zab (fun K hK => ?_))
      exact ⟨(i + 1, n), ⟨by show i + 1 ≤ 64; omega, by show n = cs i (fun j => zew f (j : Int)) + (zew f (i : Int)).toNat; rw [hb, g2]; rfl, by show n ≤ i + 1; omega⟩, by show 64 - (i + 1) < 64 - i; omega, zan _ _ ⟨by kernel_rfl, by kernel_rfl, by kernel_rfl, by kernel_rfl, trivial⟩ ⟨by kernel_rfl, trivial⟩ (by kernel_rfl)⟩
  · have e : i = 64 := by omega
    subst e
    have e2 : R = n := by rw [hR, g2]; rfl
    subst e2
    repeat (first | (refine zah rfl ?_; first | refine zai ?_) | (refine hK _ ?_; clear hK K) | (rename_i K1 hK1; refine hK1 _ ?_; clear hK hK1; clear K) | refine zac rfl ?_ | exact zaj (show zaw _ _ _ = some _ by kernel_rfl) | refine zag rfl rfl ?_ | refine zau ?_ | refine zab (fun K hK => ?_))
end Go.Proofs.YtomeaibdedaldaaGreatDoor.LrD
namespace Go.Proofs.YtomeaibdedaldaaGreatDoor.LnE
open BitsC PteSpec RfE RfG RfJ RfK LaH RfA RfP RfQ Go.RowKit Bv VaSpec Base MemL RegR Ax MemC PutC MemC3 TzC OkS SpA SpB SpC SpD SpE SpF SpG SpH SpI SpJ SpK SpN RfD LaA LaB LaC LaD LaE LaF LaG LaI RlB RlC LnD LaJ LrD LiF SpO LiA LiB LiC LiD LiE LrA LrB LrC LjA LjF LkE LmA LmB LmE LnA LnB
open BitsC PteSpec
set_option maxRecDepth 10000
set_option maxHeartbeats 1000000
attribute [local irreducible] Ax.zbh
def ztb (l : List Rq) (x y : Rq) (i : Nat) (k : Kr) : St := St.of [(1, .m (.c (.s l.length 8 (flQ l)))), (6, .m (.c (.p 6 0))), (7, .m (.c (.p 7 0))), (8, .m (ib false)), (9, .m (.c (.p 9 0))), (11, .m (ii i))] [(6, .live (.box x.ce)), (7, .live (.box y.ce)), (9, .live (.box k.ce))]
def ztc (j : Int) (k m : Kr) : St := St.of [(8, .m (ib false)), (14, .m (.c (.p 14 0))), (20, .m (.c (.p 20 0))), (22, .m (ii j))] [(14, .live (.box k.ce)), (20, .live (.box m.ce))]
theorem twice_ok (a b c d : Int) (l : List Rq) (x y : Rq) (hl : ∀ x ∈ l, UQ x) (hx : UQ x) (hy : UQ y) : Ok 4 [zj0 a b c d, .c (.s l.length 8 (flQ l)), .ag x.ce, .ag y.ce] (.m (ib true)) := by
  have hm := zw1 a b c d
  cases hc : zer a b c d with
  | false =>
    rw [hc] at hm
    refine zad 189 Tryz.func4 rfl rfl rfl rfl ?_ GG.to
    intro W A hG
    repeat (first | (refine zah rfl ?_; first | refine zai ?_ | refine gdr (zaa rfl rfl rfl (zkc) (by kernel_rfl)) ?_ | refine gdr (zaa rfl rfl rfl (hm) (by kernel_rfl)) ?_) | (refine hK _ ?_; clear hK K) | (rename_i K1 hK1; refine hK1 _ ?_; clear hK hK1; clear K) | (rename_i K1 hK1; refine hK1 _ ?_; clear hK1) | refine zac rfl ?_ | refine zay (by kernel_rfl) (by kernel_rfl) rfl ?_ | exact zaj (show zaw _ _ _ = some _ by kernel_rfl) | refine zaf rfl rfl ?_ | refine zag rfl rfl ?_ | refine zae ?_ | refine zau ?_ | refine zal ?_ | refine zab (fun K hK => ?_) | refine zbe ?_ | refine zbp ?_ | refine zaj (show zaw _ _ _ = some _ ∧ EndB _ _ from ⟨by kernel_rfl, ?_⟩))
  | true =>
    rw [hc] at hm
    by_cases hlen : 15 < l.length
    · refine zad 189 Tryz.func4 rfl rfl rfl rfl ?_ GG.to
      intro W A hG
      repeat (first | (refine zah rfl ?_; first | refine zai ?_ | refine gdr (zaa rfl rfl rfl (zkc) (by kernel_rfl)) ?_ | refine gdr (zaa rfl rfl rfl (hm) (by kernel_rfl)) ?_) | (refine hK _ ?_; clear hK K) | (rename_i K1 hK1; refine hK1 _ ?_; clear hK hK1; clear K) | (rename_i K1 hK1; refine hK1 _ ?_; clear hK1) | refine zac rfl ?_ | refine zay (by kernel_rfl) (by kernel_rfl) rfl ?_ | exact zaj (show zaw _ _ _ = some _ by kernel_rfl) | refine zaf rfl rfl ?_ | refine zag rfl rfl ?_ | refine zae ?_ | refine zau ?_ | refine zal ?_ | refine zab (fun K hK => ?_) | refine zbe ?_ | refine zbp ?_ | refine zaj (show zaw _ _ _ = some _ ∧ EndB _ _ from ⟨by kernel_rfl, ?_⟩))
    obtain ⟨n, rfl⟩ := Int.eq_ofNat_of_zero_le (zco.1 hc).2.2.2.1
    have hb := zot a b c n hc
    have hbi := zs1 hc
    have hbr := zzn hc
    generalize bgK a b c n = bk at *
    refine zad 189 Tryz.func4 rfl rfl rfl rfl ?_ GG.to
    intro W A hG
    repeat (first | (refine zah rfl ?_; first | refine zai ?_ | refine gdr (zaa rfl rfl rfl (zkc) (by kernel_rfl)) ?_ | refine gdr (zaa rfl rfl rfl (hm) (by kernel_rfl)) ?_ | refine gdr (zaa rfl rfl rfl (hb) (by kernel_rfl)) ?_) | (refine hK _ ?_; clear hK K) | (rename_i K1 hK1; refine hK1 _ ?_; clear hK hK1; clear K) | (rename_i K1 hK1; refine hK1 _ ?_; clear hK1) | refine zac rfl ?_ | refine zay (by kernel_rfl) (by kernel_rfl) rfl ?_ | exact zaj (show zaw _ _ _ = some _ by kernel_rfl) | refine zaf rfl rfl ?_ | refine zag rfl rfl ?_ | refine zae ?_ | refine zau ?_ | refine zal ?_ | refine zab (fun K hK => ?_) | refine zbe ?_ | refine zbp ?_ | refine zaj (show zaw _ _ _ = some _ ∧ EndB _ _ from ⟨by kernel_rfl, ?_⟩))
    refine za1 (α := Nat × Kr) (fun w => w.1 ≤ l.length ∧ InvT (2 + 3 * w.1) w.2 ∧ Rts w.2) (fun w => ztb l x y w.1 w.2) (fun w => l.length - w.1) (0, bk) ⟨Nat.zero_le _, hbi, hbr⟩ (zan _ _ ⟨by kernel_rfl, by kernel_rfl, by kernel_rfl, by kernel_rfl, by kernel_rfl, by kernel_rfl, trivial⟩ ⟨by kernel_rfl, by kernel_rfl, by kernel_rfl, trivial⟩ (by kernel_rfl)) ?_
    rintro ⟨i, k⟩ ⟨hi0, hk0, hr0⟩
    have hi : i ≤ l.length := hi0
    have hk : InvT (2 + 3 * i) k := hk0
    have hr : Rts k := hr0
    show Aw _ _ _ _ (ztb l x y i k)
    unfold ztb
    by_cases hlt : i < l.length
    · obtain ⟨q, hq0⟩ : ∃ q, l[i]? = some q := ⟨_, List.getElem?_eq_getElem hlt⟩
      have hqx := zze hq0
      have h8 := hl q (List.mem_of_getElem? hq0)
      have hd := zp7 hk.l (by omega) q h8
      have hdi : InvT (2 + 3 * i + 3) (mq k q).1 := zcx hk h8.2
      have hdr : Rts (mq k q).1 := znv hr _ _ _ _ _
      generalize mq k q = rr at *
      repeat (first | (refine zah rfl ?_; first | refine zai ?_ | refine gdr (zaa rfl rfl rfl (hd) (by kernel_rfl)) ?_) | (refine hK _ ?_; clear hK K) | (rename_i K1 hK1; refine hK1 _ ?_; clear hK hK1; clear K) | (rename_i K1 hK1; refine hK1 _ ?_; clear hK1) | refine zac rfl ?_ | refine zay (by kernel_rfl) (by kernel_rfl) rfl ?_ | exact zaj (show zaw _ _ _ = some _ by kernel_rfl) | refine zaf rfl rfl ?_ | refine zag rfl rfl ?_ | refine zae ?_ | refine zau ?_ | refine zal ?_ | refine zab (fun K hK => ?_) | refine zbe ?_ | refine zbp ?_ | refine zaj (show zaw _ _ _ = some _ ∧ EndB _ _ from ⟨by kernel_rfl, ?_⟩))
      exact ⟨(i + 1, rr.1), ⟨by show i + 1 ≤ l.length; omega, hdi, hdr⟩, by show l.length - (i + 1) < l.length - i; omega, zan _ _ ⟨by kernel_rfl, by kernel_rfl, by kernel_rfl, by kernel_rfl, by kernel_rfl, by kernel_rfl, trivial⟩ ⟨by kernel_rfl, by kernel_rfl, by kernel_rfl, trivial⟩ (by kernel_rfl)⟩
    · have hIa : InvT (2 + 3 * i + 3) (mq k x).1 := zcx hk hx.2
      have hIb : InvT (2 + 3 * i + 3 + 3) (mq (mq k x).1 y).1 := zcx hIa hy.2
      have hId : InvT (2 + 3 * i + 3) (mq k y).1 := zcx hk hy.2
      have hIm : InvT (2 + 3 * i + 3 + 3) (mq (mq k y).1 x).1 := zcx hId hx.2
      have h1 := zp7 hk.l (by omega) x hx
      have h2 := zp7 hIa.l (by omega) y hy
      have h3 := zp7 hIa.l (by omega) x hx
      have h4 := zp7 hk.l (by omega) y hy
      have h5 := zp7 hId.l (by omega) x hx
      have htw : (mq k x).2 = 0 → (mq (mq k x).1 x).2 = 6 ∧ ((mq (mq k x).1 y).2 = 0 → (mq k y).2 = 0 ∧ (mq (mq k y).1 x).2 = 0 ∧ cnt (mq (mq k x).1 y).1.pf = cnt (mq (mq k y).1 x).1.pf ∧ ∀ i, zbv (mq (mq k x).1 y).1 i = zbv (mq (mq k y).1 x).1 i) := fun e => z0k hk hr hx.2 hy.2 e
      clear hIa hId
      generalize hg1 : mq (mq k x).1 y = rb at *
      generalize hg2 : mq (mq k x).1 x = rg at *
      generalize hg3 : mq (mq k y).1 x = rm at *
      clear hg1 hg2 hg3
      generalize mq k x = ra at *
      generalize mq k y = rd at *
      obtain ⟨ka, ea⟩ := ra
      obtain ⟨kb, eb⟩ := rb
      obtain ⟨kg, eg⟩ := rg
      obtain ⟨kd, ed⟩ := rd
      obtain ⟨km, em⟩ := rm
      repeat (first | (refine zah rfl ?_; first | refine zai ?_) | refine zac rfl ?_ | refine zay (by kernel_rfl) (by kernel_rfl) rfl ?_ | exact zaj (show zaw _ _ _ = some _ by kernel_rfl) | refine zaf rfl rfl ?_ | refine zag rfl rfl ?_ | refine zae ?_ | refine zau ?_ | refine zal ?_ | refine zab (fun K hK => ?_) | refine zbe ?_ | refine zbp ?_ | refine zaj (show zaw _ _ _ = some _ ∧ EndB _ _ from ⟨by kernel_rfl, ?_⟩))
      first
        | (refine hK _ ?_; clear hK K)
        | (rename_i K1 hK1; refine hK1 _ ?_; clear hK hK1; clear K)
        | (rename_i K1 hK1; refine hK1 _ ?_; clear hK1)
      repeat (first | (refine zah rfl ?_; first | refine zai ?_) | refine zac rfl ?_ | refine zay (by kernel_rfl) (by kernel_rfl) rfl ?_ | exact zaj (show zaw _ _ _ = some _ by kernel_rfl) | refine zaf rfl rfl ?_ | refine zag rfl rfl ?_ | refine zae ?_ | refine zau ?_ | refine zal ?_ | refine zab (fun K hK => ?_) | refine zbe ?_ | refine zbp ?_ | refine zaj (show zaw _ _ _ = some _ ∧ EndB _ _ from ⟨by kernel_rfl, ?_⟩))
      first
        | (refine hK _ ?_; clear hK K)
        | (rename_i K1 hK1; refine hK1 _ ?_; clear hK hK1; clear K)
        | (rename_i K1 hK1; refine hK1 _ ?_; clear hK1)
      repeat (first | (refine zah rfl ?_; first | refine zai ?_ | refine gdr (zaa rfl rfl rfl (h1) (by kernel_rfl)) ?_) | refine zac rfl ?_ | refine zay (by kernel_rfl) (by kernel_rfl) rfl ?_ | exact zaj (show zaw _ _ _ = some _ by kernel_rfl) | refine zaf rfl rfl ?_ | refine zag rfl rfl ?_ | refine zae ?_ | refine zau ?_ | refine zal ?_ | refine zab (fun K hK => ?_) | refine zbe ?_ | refine zbp ?_ | refine zaj (show zaw _ _ _ = some _ ∧ EndB _ _ from ⟨by kernel_rfl, ?_⟩))
      first
        | (refine hK _ ?_; clear hK K)
        | (rename_i K1 hK1; refine hK1 _ ?_; clear hK hK1; clear K)
        | (rename_i K1 hK1; refine hK1 _ ?_; clear hK1)
      refine zb4 (zan [(6, .m (.c (.p 6 0))), (7, .m (.c (.p 7 0))), (8, .m (ib false)), (9, .m (.c (.p 9 0))), (12, .m (.c (.p 12 0))), (13, .m (ii ea))] [(6, .live (.box x.ce)), (7, .live (.box y.ce)), (9, .live (.box k.ce)), (12, .live (.box ka.ce))] ⟨by kernel_rfl, by kernel_rfl, by kernel_rfl, by kernel_rfl, by kernel_rfl, by kernel_rfl, trivial⟩ ⟨by kernel_rfl, by kernel_rfl, by kernel_rfl, by kernel_rfl, trivial⟩ (by kernel_rfl)) ?_
      repeat (first | (refine zah rfl ?_; first | refine zai ?_ | refine gdr (zaa rfl rfl rfl (h2) (by kernel_rfl)) ?_) | refine zac rfl ?_ | refine zay (by kernel_rfl) (by kernel_rfl) rfl ?_ | exact zaj (show zaw _ _ _ = some _ by kernel_rfl) | refine zaf rfl rfl ?_ | refine zag rfl rfl ?_ | refine zae ?_ | refine zau ?_ | refine zal ?_ | refine zab (fun K hK => ?_) | refine zbe ?_ | refine zbp ?_ | refine zaj (show zaw _ _ _ = some _ ∧ EndB _ _ from ⟨by kernel_rfl, ?_⟩))
      first
        | (refine hK _ ?_; clear hK K)
        | (rename_i K1 hK1; refine hK1 _ ?_; clear hK hK1; clear K)
        | (rename_i K1 hK1; refine hK1 _ ?_; clear hK1)
      refine zb4 (zan [(6, .m (.c (.p 6 0))), (7, .m (.c (.p 7 0))), (8, .m (ib false)), (9, .m (.c (.p 9 0))), (12, .m (.c (.p 12 0))), (13, .m (ii ea)), (14, .m (.c (.p 14 0))), (15, .m (ii eb))] [(6, .live (.box x.ce)), (7, .live (.box y.ce)), (9, .live (.box k.ce)), (12, .live (.box ka.ce)), (14, .live (.box kb.ce))] ⟨by kernel_rfl, by kernel_rfl, by kernel_rfl, by kernel_rfl, by kernel_rfl, by kernel_rfl, by kernel_rfl, by kernel_rfl, trivial⟩ ⟨by kernel_rfl, by kernel_rfl, by kernel_rfl, by kernel_rfl, by kernel_rfl, trivial⟩ (by kernel_rfl)) ?_
      by_cases c0 : ea = 0
      · subst c0
        obtain ⟨t1, t2⟩ := htw rfl
        replace t1 : eg = 6 := t1
        subst t1
        by_cases c1 : eb = 0
        · subst c1
          obtain ⟨u1, u2, u3, u4⟩ := t2 rfl
          replace u1 : ed = 0 := u1
          replace u2 : em = 0 := u2
          replace u3 : cnt kb.pf = cnt km.pf := u3
          replace u4 : ∀ i, zbv kb i = zbv km i := u4
          subst u1 u2
          have hf1 := zo3 kb.pb kb.pm kb.pf hIb.l.g.uf
          have hf2 := zo3 km.pb km.pm km.pf hIm.l.g.uf
          rw [← u3] at hf2
          have hl1 : ∀ j, Ok 14 [.ag kb.ce, ii j] (.m (.c (.s (zbv kb j).length 8 (flP (zbv kb j))))) := fun j => zeo hIb.l (by omega) j
          have hl2 : ∀ j, Ok 14 [.ag km.ce, ii j] (.m (.c (.s (zbv kb j).length 8 (flP (zbv kb j))))) := fun j => by rw [u4 j]; exact zeo hIm.l (by omega) j
          have hsm : ∀ j, Ok 22 [.c (.s (zbv kb j).length 8 (flP (zbv kb j))), .c (.s (zbv kb j).length 8 (flP (zbv kb j)))] (.m (ib true)) := fun j => zuy (zbv kb j) (zsx kb j)
          clear hIb hIm u4 t2 htw
          generalize cnt kb.pf = cn at *
          repeat (first | (refine zah rfl ?_; first | refine zai ?_ | (refine zct 121 rfl ?_; refine gdr (zaa rfl rfl rfl (h3) (by kernel_rfl)) ?_)) | (refine hK _ ?_; clear hK K) | (rename_i K1 hK1; refine hK1 _ ?_; clear hK hK1; clear K) | (rename_i K1 hK1; refine hK1 _ ?_; clear hK1) | refine zac rfl ?_ | refine zay (by kernel_rfl) (by kernel_rfl) rfl ?_ | exact zaj (show zaw _ _ _ = some _ by kernel_rfl) | refine zaf rfl rfl ?_ | refine zag rfl rfl ?_ | refine zae ?_ | refine zau ?_ | refine zal ?_ | refine zab (fun K hK => ?_) | refine zbe ?_ | refine zbp ?_ | refine zaj (show zaw _ _ _ = some _ ∧ EndB _ _ from ⟨by kernel_rfl, ?_⟩))
          repeat (first | (refine zah rfl ?_; first | refine zai ?_ | refine gdr (zaa rfl rfl rfl (h4) (by kernel_rfl)) ?_) | refine zac rfl ?_ | refine zay (by kernel_rfl) (by kernel_rfl) rfl ?_ | exact zaj (show zaw _ _ _ = some _ by kernel_rfl) | refine zaf rfl rfl ?_ | refine zag rfl rfl ?_ | refine zae ?_ | refine zau ?_ | refine zal ?_ | refine zab (fun K hK => ?_) | refine zbe ?_ | refine zbp ?_ | refine zaj (show zaw _ _ _ = some _ ∧ EndB _ _ from ⟨by kernel_rfl, ?_⟩))
          first
            | (refine hK _ ?_; clear hK K)
            | (rename_i K1 hK1; refine hK1 _ ?_; clear hK hK1; clear K)
            | (rename_i K1 hK1; refine hK1 _ ?_; clear hK1)
          refine zb4 (zan [(6, .m (.c (.p 6 0))), (8, .m (ib false)), (14, .m (.c (.p 14 0))), (18, .m (.c (.p 18 0))), (19, .m (ii 0))] [(6, .live (.box x.ce)), (14, .live (.box kb.ce)), (18, .live (.box kd.ce))] ⟨by kernel_rfl, by kernel_rfl, by kernel_rfl, by kernel_rfl, by kernel_rfl, trivial⟩ ⟨by kernel_rfl, by kernel_rfl, by kernel_rfl, trivial⟩ (by kernel_rfl)) ?_
          repeat (first | (refine zah rfl ?_; first | refine zai ?_ | refine gdr (zaa rfl rfl rfl (h5) (by kernel_rfl)) ?_) | refine zac rfl ?_ | refine zay (by kernel_rfl) (by kernel_rfl) rfl ?_ | exact zaj (show zaw _ _ _ = some _ by kernel_rfl) | refine zaf rfl rfl ?_ | refine zag rfl rfl ?_ | refine zae ?_ | refine zau ?_ | refine zal ?_ | refine zab (fun K hK => ?_) | refine zbe ?_ | refine zbp ?_ | refine zaj (show zaw _ _ _ = some _ ∧ EndB _ _ from ⟨by kernel_rfl, ?_⟩))
          first
            | (refine hK _ ?_; clear hK K)
            | (rename_i K1 hK1; refine hK1 _ ?_; clear hK hK1; clear K)
            | (rename_i K1 hK1; refine hK1 _ ?_; clear hK1)
          refine zb4 (zan [(8, .m (ib false)), (14, .m (.c (.p 14 0))), (19, .m (ii 0)), (20, .m (.c (.p 20 0))), (21, .m (ii 0))] [(14, .live (.box kb.ce)), (20, .live (.box km.ce))] ⟨by kernel_rfl, by kernel_rfl, by kernel_rfl, by kernel_rfl, by kernel_rfl, trivial⟩ ⟨by kernel_rfl, by kernel_rfl, trivial⟩ (by kernel_rfl)) ?_
          repeat (first | (refine zah rfl ?_; first | refine zai ?_ | (refine zct 171 rfl ?_; refine gdr (zaa rfl rfl rfl (hf1) (by kernel_rfl)) ?_) | (refine zct 174 rfl ?_; refine gdr (zaa rfl rfl rfl (hf2) (by kernel_rfl)) ?_)) | (refine hK _ ?_; clear hK K) | (rename_i K1 hK1; refine hK1 _ ?_; clear hK hK1; clear K) | (rename_i K1 hK1; refine hK1 _ ?_; clear hK1) | refine zac rfl ?_ | refine zay (by kernel_rfl) (by kernel_rfl) rfl ?_ | exact zaj (show zaw _ _ _ = some _ by kernel_rfl) | refine zaf rfl rfl ?_ | refine zag rfl rfl ?_ | refine zae ?_ | refine zau ?_ | refine zal ?_ | refine zab (fun K hK => ?_) | refine zbe ?_ | refine zbp ?_ | refine zaj (show zaw _ _ _ = some _ ∧ EndB _ _ from ⟨by kernel_rfl, ?_⟩))
          refine za1 (α := Int) (fun j => -1 ≤ j ∧ j ≤ 3) (fun j => ztc j kb km) (fun j => (3 - j).toNat) (-1) ⟨by omega, by omega⟩ (zan _ _ ⟨by kernel_rfl, by kernel_rfl, by kernel_rfl, by kernel_rfl, trivial⟩ ⟨by kernel_rfl, by kernel_rfl, trivial⟩ (by kernel_rfl)) ?_
          rintro j ⟨j0, j1⟩
          show Aw _ _ _ _ (ztc j kb km)
          unfold ztc
          by_cases hj : j < 3
          · have g1 := hl1 j
            have g2 := hl2 j
            have g3 := hsm j
            generalize zbv kb j = lj at *
            repeat (first | (refine zah rfl ?_; first | refine zai ?_ | (refine zct 183 rfl ?_; refine gdr (zaa rfl rfl rfl (g1) (by kernel_rfl)) ?_) | (refine zct 186 rfl ?_; refine gdr (zaa rfl rfl rfl (g2) (by kernel_rfl)) ?_) | refine gdr (zaa rfl rfl rfl (g3) (by kernel_rfl)) ?_) | (refine hK _ ?_; clear hK K) | (rename_i K1 hK1; refine hK1 _ ?_; clear hK hK1; clear K) | (rename_i K1 hK1; refine hK1 _ ?_; clear hK1) | refine zac rfl ?_ | refine zay (by kernel_rfl) (by kernel_rfl) rfl ?_ | exact zaj (show zaw _ _ _ = some _ by kernel_rfl) | refine zaf rfl rfl ?_ | refine zag rfl rfl ?_ | refine zae ?_ | refine zau ?_ | refine zal ?_ | refine zab (fun K hK => ?_) | refine zbe ?_ | refine zbp ?_ | refine zaj (show zaw _ _ _ = some _ ∧ EndB _ _ from ⟨by kernel_rfl, ?_⟩))
            exact ⟨j + 1, ⟨by omega, by omega⟩, by show (3 - (j + 1)).toNat < (3 - j).toNat; omega, zan _ _ ⟨by kernel_rfl, by kernel_rfl, by kernel_rfl, by kernel_rfl, trivial⟩ ⟨by kernel_rfl, by kernel_rfl, trivial⟩ (by kernel_rfl)⟩
          · skip
            repeat (first | (refine zah rfl ?_; first | refine zai ?_) | (refine hK _ ?_; clear hK K) | (rename_i K1 hK1; refine hK1 _ ?_; clear hK hK1; clear K) | (rename_i K1 hK1; refine hK1 _ ?_; clear hK1) | refine zac rfl ?_ | refine zay (by kernel_rfl) (by kernel_rfl) rfl ?_ | exact zaj (show zaw _ _ _ = some _ by kernel_rfl) | refine zaf rfl rfl ?_ | refine zag rfl rfl ?_ | refine zae ?_ | refine zau ?_ | refine zal ?_ | refine zab (fun K hK => ?_) | refine zbe ?_ | refine zbp ?_ | refine zaj (show zaw _ _ _ = some _ ∧ EndB _ _ from ⟨by kernel_rfl, ?_⟩))
        · clear t2 htw
          repeat (first | (refine zah rfl ?_; first | refine zai ?_ | (refine zct 121 rfl ?_; refine gdr (zaa rfl rfl rfl (h3) (by kernel_rfl)) ?_)) | (refine hK _ ?_; clear hK K) | (rename_i K1 hK1; refine hK1 _ ?_; clear hK hK1; clear K) | (rename_i K1 hK1; refine hK1 _ ?_; clear hK1) | refine zac rfl ?_ | refine zay (by kernel_rfl) (by kernel_rfl) rfl ?_ | exact zaj (show zaw _ _ _ = some _ by kernel_rfl) | refine zaf rfl rfl ?_ | refine zag rfl rfl ?_ | refine zae ?_ | refine zau ?_ | refine zal ?_ | refine zab (fun K hK => ?_) | refine zbe ?_ | refine zbp ?_ | refine zaj (show zaw _ _ _ = some _ ∧ EndB _ _ from ⟨by kernel_rfl, ?_⟩))
      · clear htw
        repeat (first | (refine zah rfl ?_; first | refine zai ?_) | (refine hK _ ?_; clear hK K) | (rename_i K1 hK1; refine hK1 _ ?_; clear hK hK1; clear K) | (rename_i K1 hK1; refine hK1 _ ?_; clear hK1) | refine zac rfl ?_ | refine zay (by kernel_rfl) (by kernel_rfl) rfl ?_ | exact zaj (show zaw _ _ _ = some _ by kernel_rfl) | refine zaf rfl rfl ?_ | refine zag rfl rfl ?_ | refine zae ?_ | refine zau ?_ | refine zal ?_ | refine zab (fun K hK => ?_) | refine zbe ?_ | refine zbp ?_ | refine zaj (show zaw _ _ _ = some _ ∧ EndB _ _ from ⟨by kernel_rfl, ?_⟩))
end Go.Proofs.YtomeaibdedaldaaGreatDoor.LnE
