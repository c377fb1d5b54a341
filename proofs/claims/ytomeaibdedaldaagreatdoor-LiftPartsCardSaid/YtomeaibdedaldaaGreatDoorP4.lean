/- Texts of this claim, one behind the other: LaD, SpO, LaE, LaF, LaG, LiA, LiB, LiC, LiD, RefS, RefSet, RfA, RfB, PteR, VaR, RfC, RfD, RfE, RfG, RfJ, RfK, LaH, LiE, LiF, LjB, VaR3, RlA, RlB, RlC, LkA. -/
import Derived.Test.YtomeaibdedaldaaGreatDoorP3
import Derived.Test.YtomeaibdedaldaaGreatDoorP2
import Derived.OwnWalk
set_option linter.unusedVariables false
set_option linter.unusedSimpArgs false
set_option linter.unusedSectionVars false
namespace Go.Proofs.YtomeaibdedaldaaGreatDoor.LaD
open Go.RowKit Bv VaSpec Base MemL RegR Ax MemC PutC MemC3 TzC OkS SpA SpB SpC SpF SpI SpJ SpN RfP RfQ LaA LaB LaC
open BitsC PteSpec
set_option maxRecDepth 10000
set_option maxHeartbeats 1000000
theorem zre {rec : Int → Int → List Pg} {M : Nat} (h1 : 1 ≤ M) (hrec : ∀ t a, (rec t a).length ≤ M) (p : Pte) (l a : Int) : (zfr rec p l a).length ≤ M := by
  unfold zfr
  split
  · simp
  · split
    · simpa using h1
    · exact hrec _ _
theorem zhx (sz : Int) (xs : List (Int × Int)) (t b : Int) : (zbq sz xs 0 t b).length ≤ 512 := by
  have := zl1 (fun i : Nat => zfr (fun _ _ => []) (atM sz xs t i) 0 (adr b i 0)) 1 (fun i => zre (by omega) (fun _ _ => by simp) _ _ _) (List.range 512)
  rw [List.length_range] at this
  exact this
theorem zsy (sz : Int) (xs : List (Int × Int)) (t b : Int) : (zbq sz xs 1 t b).length ≤ 262144 := by
  have := zl1 (fun i : Nat => zfr (zbq sz xs 0) (atM sz xs t i) (0 + 1 : Nat) (adr b i (0 + 1 : Nat))) 512 (fun i => zre (by omega) (fun t a => zhx sz xs t a) _ _ _) (List.range 512)
  rw [List.length_range] at this
  exact this
section
variable (sz : Int) (xs : List (Int × Int)) (hs : Srt xs) (hu : Uw xs)
include hs hu
theorem zvh (t b : Int) (ht : 0 ≤ t ∧ t < 17592186044416) (hb : U b) : Ok 48 [zbt sz xs, iu t, ii 0, iu b] (.m (.c (.s (zbq sz xs 0 t b).length 8 (flP (zbq sz xs 0 t b))))) :=
  zny sz xs t b 0 (fun _ _ => []) ht hb (by omega) (by omega) hs hu (fun _ _ => by simp) (fun h => by omega) _ rfl
theorem z03 (t b : Int) (ht : 0 ≤ t ∧ t < 17592186044416) (hb : U b) : Ok 48 [zbt sz xs, iu t, ii 1, iu b] (.m (.c (.s (zbq sz xs 1 t b).length 8 (flP (zbq sz xs 1 t b))))) :=
  zny sz xs t b 1 (zbq sz xs 0) ht hb (by omega) (by omega) hs hu (fun t a => Nat.le_trans (zhx sz xs t a) (by omega)) (fun _ t a h1 h2 => zvh sz xs hs hu t a h1 h2) _ rfl
end
theorem zcz (c : Int × Int) (cs : List (Int × Int)) (a : Int) : MemC.look (c :: cs) a = if c.1 < a then MemC.look cs a else if c.1 = a then c.2 else 0 := by
  by_cases h : c.1 < a
  · have e : MemC.lb (c :: cs) a = MemC.lb cs a + 1 := by simp [MemC.lb, h]
    simp only [MemC.look, e, List.getElem?_cons_succ, if_pos h]
  · have e : MemC.lb (c :: cs) a = 0 := by simp [MemC.lb, h]
    simp only [MemC.look, e, List.getElem?_cons_zero, if_neg h]
theorem zl7 (a : Int) : MemC.look [] a = 0 := rfl
theorem zl8 (v : Int) : ∀ (xs : List (Int × Int)) (k a : Int), Srt xs → MemC.look (zby xs k v) a = if a = k then v else MemC.look xs a
  | [], k, a, _ => by
    simp only [zby]
    (repeat' split) <;> (try simp only [zcz, zl7]) <;> (repeat' split) <;> first | rfl | omega
  | c :: cs, k, a, hs => by
    have hs' := List.pairwise_cons.1 hs
    have hgt : ∀ b : Int, b ≤ c.1 → MemC.look cs b = 0 := fun b hb => zcy fun d hd => by have := hs'.1 d hd; omega
    have IH := zl8 v cs k a hs'.2
    simp only [zby]
    (repeat' split) <;> (try simp only [zcz, IH]) <;> (repeat' split) <;> first | rfl | omega | (rw [hgt a (by omega)]; done) | (rw [hgt a (by omega)]; omega)
theorem zg7 {sz : Int} {xs : List (Int × Int)} {t i v s j : Int} (hs : Srt xs) (hi : 0 ≤ i ∧ i < 512) (hj : 0 ≤ j ∧ j < 512) (hd : s * 4096 + j * 8 < sz) : atM sz (zby xs (t * 512 + i) v) s j = if s = t ∧ j = i then zay v else atM sz xs s j := by
  unfold atM zbo
  rw [if_pos hd, if_pos hd, zl8 v xs _ _ hs, show (s * 4096 + j * 8) / 8 = s * 512 + j by omega]
  by_cases h : s = t ∧ j = i
  · obtain ⟨rfl, rfl⟩ := h
    simp
  · rw [if_neg h, if_neg (by omega)]
def Al (cd cp f s : Int) : Prop := (cd ≤ s ∧ s < cd + cp) ∧ zhv f (s - cd) = false
def lkP (p : Pte) : Bool := p.v && !p.r && !p.w && !p.x && !p.u && !p.a && !p.d && (p.high == 0)
def EOk (cd cp f : Int) (p : Pte) : Prop := zat p = true ∨ (lkP p = true ∧ Al cd cp f p.ppn)
structure GM (cd cp : Int) (sz : Int) (xs : List (Int × Int)) (f : Int) : Prop where
  bd : 1 ≤ cd ∧ cd ≤ 524288
  bp : 1 ≤ cp ∧ cp ≤ 64
  bz : sz = (cd + cp) * 4096
  bf : 0 ≤ f ∧ f < 2 ^ cp.toNat
  s : Srt xs
  c : ∀ c ∈ xs, Al cd cp f (c.1 / 512) ∧ U c.2 ∧ EOk cd cp f (zay c.2)
theorem GM.uf {cd cp sz f : Int} {xs : List (Int × Int)} (h : GM cd cp sz xs f) : U f := zg3 h.bf.1 h.bf.2 (by have := h.bp; omega)
theorem GM.u {cd cp sz f : Int} {xs : List (Int × Int)} (h : GM cd cp sz xs f) : Uw xs := fun c hc => by
  obtain ⟨⟨⟨a, b⟩, _⟩, e, _⟩ := h.c c hc
  have := h.bd; have := h.bp
  exact ⟨⟨by omega, by omega⟩, e⟩
theorem zp1 {xs : List (Int × Int)} {k : Int} : MemC.look xs k = 0 ∨ ∃ c ∈ xs, c.1 = k ∧ MemC.look xs k = c.2 := by
  unfold MemC.look
  split
  · rename_i c hc
    split
    · rename_i h; exact .inr ⟨c, List.mem_of_getElem? hc, h, rfl⟩
    · exact .inl rfl
  · exact .inl rfl
theorem zom : zay 0 = zP := by decide
theorem GM.at {cd cp sz f : Int} {xs : List (Int × Int)} (h : GM cd cp sz xs f) (s i : Int) : atM sz xs s i = zP ∨ EOk cd cp f (atM sz xs s i) := by
  unfold atM zbo
  split
  · rcases zp1 (xs := xs) (k := (s * 4096 + i * 8) / 8) with e | ⟨c, hc, _, e⟩
    · rw [e]; exact .inl zom
    · rw [e]; exact .inr (h.c c hc).2.2
  · exact .inl zom
theorem zb2 {p : Pte} (h : lkP p = true) {l : Int} (hl : 1 ≤ l) : za2 p l = true := by
  obtain ⟨v, r, w, x, u, g, a, d, rsw, ppn, high⟩ := p
  unfold lkP at h
  unfold za2 zdt zbf
  simp only [Bool.and_eq_true, Bool.not_eq_true', beq_iff_eq] at h
  obtain ⟨⟨⟨⟨⟨⟨⟨rfl, rfl⟩, rfl⟩, rfl⟩, rfl⟩, rfl⟩, rfl⟩, rfl⟩ := h
  have : (l == 0) = false := by simpa using (by omega : ¬ l = 0)
  simp [this]
theorem zil {p : Pte} {l : Int} (h : zbf p = false) : za2 p l = false := by unfold za2; rw [h]; rfl
theorem zbr {p : Pte} (h : zat p = true) : zbf p = false ∧ p.v = true := by
  obtain ⟨v, r, w, x, u, g, a, d, rsw, ppn, high⟩ := p
  revert h
  unfold zat zbf
  cases v <;> cases r <;> cases x <;> simp
theorem zbz {p : Pte} (h : lkP p = true) : zbf p = true ∧ p.v = true ∧ zat p = false := by
  obtain ⟨v, r, w, x, u, g, a, d, rsw, ppn, high⟩ := p
  revert h
  unfold lkP zat zbf
  cases v <;> cases r <;> cases x <;> simp
theorem EOk.kinds {cd cp f : Int} {p : Pte} (h : p = zP ∨ EOk cd cp f p) {l : Int} (hl : 1 ≤ l) :
    (p.v = false ∧ zat p = false ∧ za2 p l = false) ∨ (p.v = true ∧ zat p = true ∧ za2 p l = false) ∨ (p.v = true ∧ zat p = false ∧ za2 p l = true ∧ zbf p = true ∧ Al cd cp f p.ppn) := by
  rcases h with rfl | h | ⟨h, ha⟩
  · exact .inl ⟨rfl, rfl, rfl⟩
  · obtain ⟨a, b⟩ := zbr h
    exact .inr (.inl ⟨b, h, zil a⟩)
  · obtain ⟨a, b, c⟩ := zbz h
    exact .inr (.inr ⟨b, c, zb2 h hl, a, ha⟩)
def lnk (n : Int) : Pte := ⟨true, false, false, false, false, false, false, false, 0, n, 0⟩
theorem zf5 {n : Int} (h : 0 ≤ n ∧ n < 17592186044416) : zay (PteC.zcp (lnk n)) = lnk n := by
  have hm : zhe (lnk n) = true := by rw [zdd]; unfold lnk; simp; omega
  have hU : (lnk n).U := by unfold Pte.U lnk; simp; omega
  unfold PteC.zcp
  rw [if_pos hm, zfz _ hU hm]
theorem zg8 {n : Int} (h : 0 ≤ n ∧ n < 17592186044416) : (lnk n).U := by unfold Pte.U lnk; simp; omega
def dnN (sz cd addr zam : Int) : Nat → List (Int × Int) → Int → Int → List (Int × Int) × Int × Int × Int
  | 0, xs, f, t => (xs, f, t, 0)
  | l + 1, xs, f, t =>
    if ((l + 1 : Nat) : Int) ≤ zam then (xs, f, t, 0)
    else if zat (atM sz xs t (idx addr ((l + 1 : Nat) : Int))) then (xs, f, t, 6)
    else if (atM sz xs t (idx addr ((l + 1 : Nat) : Int))).v then dnN sz cd addr zam l xs f (atM sz xs t (idx addr ((l + 1 : Nat) : Int))).ppn
    else if f = 0 then (xs, f, t, 8)
    else dnN sz cd addr zam l (za1 sz xs t (idx addr ((l + 1 : Nat) : Int)) (lnk (cd + tzI f))) (zbk f (tzI f) 1 0) (cd + tzI f)
theorem GM.take {cd cp sz f : Int} {xs : List (Int × Int)} (h : GM cd cp sz xs f) (h0 : f ≠ 0) {s : Int} (hs : Al cd cp f s) : s ≠ cd + tzI f ∧ Al cd cp (zbk f (tzI f) 1 0) s := by
  have t1 := zct h.uf h.bf.2 h0
  have hb := zk5 h.uf h0
  have hcp := h.bp
  refine ⟨fun e => ?_, hs.1, ?_⟩
  · have := hs.2
    rw [e, show cd + tzI f - cd = tzI f by omega, hb] at this
    cases this
  · have := hs.1
    rw [zgo h.uf t1.1 (by omega) (by omega) (by omega)]
    split
    · rfl
    · exact hs.2
theorem GM.al {cd cp sz f : Int} {xs : List (Int × Int)} (h : GM cd cp sz xs f) (h0 : f ≠ 0) : Al cd cp (zbk f (tzI f) 1 0) (cd + tzI f) ∧ (0 ≤ tzI f ∧ tzI f < cp) := by
  have t1 := zct h.uf h.bf.2 h0
  have hcp := h.bp
  refine ⟨⟨⟨by omega, by omega⟩, ?_⟩, t1.1, by omega⟩
  rw [show cd + tzI f - cd = tzI f by omega, zgo h.uf t1.1 (by omega) t1.1 (by omega), if_pos rfl]
  rfl
theorem GM.wipe {cd cp sz f : Int} {xs : List (Int × Int)} (h : GM cd cp sz xs f) (h0 : f ≠ 0) : TableC.zav xs (cd + tzI f) = xs := by
  rw [zg6 _ _ h.s]
  refine List.filter_eq_self.2 fun c hc => ?_
  have h1 := (h.take h0 (h.c c hc).1).1
  unfold zka
  rw [Bool.or_eq_true, decide_eq_true_eq, decide_eq_true_eq]
  omega
theorem GM.mono {cd cp sz f f' : Int} {xs : List (Int × Int)} (h : GM cd cp sz xs f) (hf : 0 ≤ f' ∧ f' < 2 ^ cp.toNat) (ha : ∀ s, Al cd cp f s → Al cd cp f' s) : GM cd cp sz xs f' :=
  ⟨h.bd, h.bp, h.bz, hf, h.s, fun c hc => by
    obtain ⟨a, b, d⟩ := h.c c hc
    refine ⟨ha _ a, b, ?_⟩
    rcases d with d | ⟨d, e⟩
    · exact .inl d
    · exact .inr ⟨d, ha _ e⟩⟩
theorem GM.put {cd cp sz f : Int} {xs : List (Int × Int)} (h : GM cd cp sz xs f) {t i v : Int} (ht : Al cd cp f t) (hi : 0 ≤ i ∧ i < 512) (hv : U v) (he : v ≠ 0 → EOk cd cp f (zay v)) : GM cd cp sz (zby xs (t * 512 + i) v) f :=
  ⟨h.bd, h.bp, h.bz, h.bf, zen _ _ _ h.s, fun c hc => by
    rcases zcx _ _ _ _ hc with hc | ⟨rfl, hv0⟩
    · exact h.c c hc
    · refine ⟨?_, hv, he hv0⟩
      show Al cd cp f ((t * 512 + i) / 512)
      rw [show (t * 512 + i) / 512 = t by omega]; exact ht⟩
theorem GM.with {cd cp sz f : Int} {xs : List (Int × Int)} (h : GM cd cp sz xs f) {t i : Int} {p : Pte} (ht : Al cd cp f t) (hi : 0 ≤ i ∧ i < 512) (hp : p.U) : za1 sz xs t i p = zby xs (t * 512 + i) (PteC.zcp p) :=
  zd8 hp (by have := h.bd; have := ht.1; omega) hi (by rw [h.bz]; have := ht.1; omega)
theorem GM.hang {cd cp sz f : Int} {xs : List (Int × Int)} (h : GM cd cp sz xs f) (h0 : f ≠ 0) {t i : Int} (ht : Al cd cp f t) (hi : 0 ≤ i ∧ i < 512) :
    GM cd cp sz (za1 sz xs t i (lnk (cd + tzI f))) (zbk f (tzI f) 1 0) := by
  obtain ⟨ha, t1⟩ := h.al h0
  have hcp := h.bp
  have hcd := h.bd
  have hn : 0 ≤ cd + tzI f ∧ cd + tzI f < 17592186044416 := by omega
  have h' := h.mono (f' := zbk f (tzI f) 1 0) ⟨(ze8 _ _ _ _).1, zgn h.uf h.bf.2 t1.1 (by omega)⟩ (fun s hs => (h.take h0 hs).2)
  rw [h.with ht hi (zg8 hn)]
  refine h'.put (h.take h0 ht).2 hi (ze9 _ (zg8 hn)) fun _ => ?_
  rw [zf5 hn]
  exact .inr ⟨rfl, ha⟩
theorem zl9 (cd cp sz addr zam : Int) (hw : 0 ≤ zam) : ∀ (l : Nat) (xs : List (Int × Int)) (f t : Int), GM cd cp sz xs f → Al cd cp f t →
    (dnN sz cd addr zam l xs f t).2.2.2 = 0 → GM cd cp sz (dnN sz cd addr zam l xs f t).1 (dnN sz cd addr zam l xs f t).2.1 ∧ Al cd cp (dnN sz cd addr zam l xs f t).2.1 (dnN sz cd addr zam l xs f t).2.2.1 ∧ (dnN sz cd addr zam l xs f t).1.length ≤ xs.length + l ∧ (∀ s, Al cd cp f s → Al cd cp (dnN sz cd addr zam l xs f t).2.1 s)
  | 0, xs, f, t, h, ht, _ => ⟨h, ht, by show xs.length ≤ xs.length + 0; omega, fun s hs => hs⟩
  | l + 1, xs, f, t, h, ht, he => by
    have hi := idx_bd addr ((l + 1 : Nat) : Int)
    have hk := EOk.kinds (h.at t (idx addr ((l + 1 : Nat) : Int))) (l := ((l + 1 : Nat) : Int)) (by omega)
    unfold dnN at he ⊢
    split
    · exact ⟨h, ht, by show xs.length ≤ xs.length + (l + 1); omega, fun s hs => hs⟩
    · rename_i c1
      rw [if_neg c1] at he
      split
      · rename_i c2; rw [if_pos c2] at he; cases he
      · rename_i c2
        rw [if_neg c2] at he
        split
        · rename_i c3
          rw [if_pos c3] at he
          rcases hk with ⟨k1, _⟩ | ⟨_, k2, _⟩ | ⟨_, _, _, _, k5⟩
          · rw [k1] at c3; cases c3
          · exact absurd k2 c2
          · obtain ⟨i1, i2, i3, i4⟩ := zl9 cd cp sz addr zam hw l xs f _ h k5 he
            exact ⟨i1, i2, by omega, i4⟩
        · rename_i c3
          rw [if_neg c3] at he
          split
          · rename_i c4; rw [if_pos c4] at he; cases he
          · rename_i c4
            rw [if_neg c4] at he
            obtain ⟨i1, i2, i3, i4⟩ := zl9 cd cp sz addr zam hw l _ _ _ (h.hang c4 ht hi) (h.al c4).1 he
            have := zg4 sz xs t (idx addr ((l + 1 : Nat) : Int)) (lnk (cd + tzI f))
            exact ⟨i1, i2, by omega, fun s hs => i4 s (h.take c4 hs).2⟩
theorem zhy (cd cp sz addr zam : Int) (hw : 0 ≤ zam) {xs : List (Int × Int)} {f : Int} (h : GM cd cp sz xs f) : ∀ (l : Nat) (t : Int), Al cd cp f t → zam ≤ (l : Int) →
    ∃ (l' : Nat) (t' : Int), zaq sz xs addr zam l t = (t', (l' : Int)) ∧ l' ≤ l ∧ zam ≤ (l' : Int) ∧ Al cd cp f t' ∧ (zam < (l' : Int) → za2 (atM sz xs t' (idx addr (l' : Int))) (l' : Int) = false) ∧ dnN sz cd addr zam l xs f t = dnN sz cd addr zam l' xs f t' ∧
      (∀ xs', (∀ s i, Al cd cp f s → (0 ≤ i ∧ i < 512) → zbf (atM sz xs s i) = true → atM sz xs' s i = atM sz xs s i) → zaq sz xs' addr zam l t = zaq sz xs' addr zam l' t')
  | 0, t, ht, hl => ⟨0, t, rfl, Nat.le_refl _, hl, ht, fun hh => by omega, rfl, fun _ _ => rfl⟩
  | l + 1, t, ht, hl => by
    have hi := idx_bd addr ((l + 1 : Nat) : Int)
    have hk := EOk.kinds (h.at t (idx addr ((l + 1 : Nat) : Int))) (l := ((l + 1 : Nat) : Int)) (by omega)
    by_cases c1 : zam < ((l + 1 : Nat) : Int)
    · rcases hk with ⟨_, _, k3⟩ | ⟨_, _, k3⟩ | ⟨k1, k2, k3, k4, k5⟩
      · exact ⟨l + 1, t, za8 (fun _ => k3) hw, Nat.le_refl _, hl, ht, fun _ => k3, rfl, fun _ _ => rfl⟩
      · exact ⟨l + 1, t, za8 (fun _ => k3) hw, Nat.le_refl _, hl, ht, fun _ => k3, rfl, fun _ _ => rfl⟩
      · obtain ⟨l', t', i1, i2, i3, i4, i5, i6, i7⟩ := zhy cd cp sz addr zam hw h l _ k5 (by omega)
        refine ⟨l', t', (zbc c1 k3).trans i1, by omega, i3, i4, i5, ?_, fun xs' hx => ?_⟩
        · rw [← i6]
          conv => lhs; unfold dnN
          rw [if_neg (by omega), if_neg (by rw [k2]; simp), if_pos k1]
        · have e := hx t _ ht hi k4
          rw [zbc c1 (by rw [e]; exact k3), e]
          exact i7 xs' hx
    · exact ⟨l + 1, t, za8 (fun hh => absurd hh c1) hw, Nat.le_refl _, hl, ht, fun hh => absurd hh c1, rfl, fun _ _ => rfl⟩
theorem zsz {cd cp sz f : Int} {xs : List (Int × Int)} (h : GM cd cp sz xs f) (h0 : f ≠ 0) {t i : Int} (ht : Al cd cp f t) (hi : 0 ≤ i ∧ i < 512) (hn : (atM sz xs t i).v = false) :
    ∀ s j, Al cd cp f s → (0 ≤ j ∧ j < 512) → zbf (atM sz xs s j) = true → atM sz (za1 sz xs t i (lnk (cd + tzI f))) s j = atM sz xs s j := fun s j hs hj hlk => by
  obtain ⟨ha, t1⟩ := h.al h0
  have hcp := h.bp
  have hcd := h.bd
  have hz := h.bz
  have b := hs.1
  rw [h.with ht hi (zg8 (by omega)), zg7 h.s hi hj (by rw [hz]; omega), if_neg]
  rintro ⟨rfl, rfl⟩
  unfold zbf at hlk
  rw [hn] at hlk
  cases hlk
theorem z04 {cd cp sz f : Int} {xs : List (Int × Int)} (h : GM cd cp sz xs f) (h0 : f ≠ 0) {t i : Int} (ht : Al cd cp f t) (hi : 0 ≤ i ∧ i < 512) : atM sz (za1 sz xs t i (lnk (cd + tzI f))) t i = lnk (cd + tzI f) := by
  obtain ⟨ha, t1⟩ := h.al h0
  have hcp := h.bp
  have hcd := h.bd
  have hz := h.bz
  have b := ht.1
  rw [h.with ht hi (zg8 (by omega)), zg7 h.s hi hi (by rw [hz]; omega), if_pos ⟨rfl, rfl⟩, zf5 (by omega)]
theorem zs0 {cd cp sz f addr zam : Int} {xs : List (Int × Int)} (hw : 0 ≤ zam) (h : GM cd cp sz xs f) (h0 : f ≠ 0) {l' : Nat} {t' : Int} (ht : Al cd cp f t') (hlt : zam < ((l' + 1 : Nat) : Int)) :
    zaq sz (za1 sz xs t' (idx addr ((l' + 1 : Nat) : Int)) (lnk (cd + tzI f))) addr zam (l' + 1) t' = zaq sz (za1 sz xs t' (idx addr ((l' + 1 : Nat) : Int)) (lnk (cd + tzI f))) addr zam l' (cd + tzI f) := by
  have hi := idx_bd addr ((l' + 1 : Nat) : Int)
  have e := z04 h h0 ht hi
  rw [zbc hlt (by rw [e]; exact zb2 rfl (by omega)), e]
  rfl
theorem zg9 {n : Int} {p : Pm} {g : Bool} (h : 0 ≤ n ∧ n < 17592186044416) (hp : zhs p = true) : zay (PteC.zcp (mkP n p g)) = mkP n p g ∧ (mkP n p g).U ∧ zat (mkP n p g) = true := by
  have hm : zhe (mkP n p g) = true := by rw [zdd]; unfold mkP; simp; omega
  have hU : (mkP n p g).U := by unfold Pte.U mkP; simp; omega
  refine ⟨?_, hU, ?_⟩
  · unfold PteC.zcp
    rw [if_pos hm, zfz _ hU hm]
  · obtain ⟨r, w, x, u⟩ := p
    revert hp
    unfold zhs mkP zat
    cases r <;> cases x <;> simp
end Go.Proofs.YtomeaibdedaldaaGreatDoor.LaD
namespace Go.Proofs.YtomeaibdedaldaaGreatDoor.SpO
open Go.RowKit Bv VaSpec Base MemL RegR Ax MemC PutC MemC3 TzC OkS SpA SpB SpC SpD IterC SpE SpF SpG SpH SpI SpJ SpK SpN
open BitsC PteSpec
set_option maxRecDepth 10000
set_option maxHeartbeats 800000
def kr (m : List (Int × Int)) (sm sa sp pf af ao : Int) (ss : List Sp) (now : Int) (fs : List Fe) : Kr := { cd := 4, cp := 4, ca := 1, cs := 1, sz := 32768, m := m, tn := 1, ts := zsL 1, sm := sm, sa := sa, sp := sp, priv := 0, su := false, mx := false, vic := -1, pb := 4, pm := 4, pf := pf, am := 1, af := af, ao := ao, ss := ss, now := now, sh := 4, fs := fs }
def k0 : Kr := kr [] 0 0 0 14 1 0 [] (-1) []
theorem n0 : zs9 4 4 1 1 = k0 := by kernel_rfl
theorem i0 : Inv 0 k0 := by rw [← n0]; exact zjr (by decide)
def zan (k : Kr) (id a l : Int) : Int × Int × Int :=
  if ¬ (0 ≤ l ∧ l ≤ 2) then (0, 0, 1)
  else if id ≠ -1 ∧ za5 k id = false then (0, 0, 4)
  else if zj9 a l = false then (0, 0, 2)
  else if id = -1 then (if idx a 2 = 511 ∧ l ≠ 2 then (k.sh, 1, 0) else (0, 0, 3))
  else if idx a 2 = 511 then (0, 0, 3) else ((zcu k id).root, 2, 0)
theorem zma (k : Kr) (id a l : Int) (ha : U a) : Ok 50 [.ag k.ce, ii id, iu a, ii l] (.tu [iu (zan k id a l).1, ii (zan k id a l).2.1, ii (zan k id a l).2.2]) := by
  unfold zan
  by_cases c1 : 0 ≤ l ∧ l ≤ 2
  rotate_left
  · rw [if_pos c1]
    have w0 := zjp c1
    by_cases c0 : id = -1
    · refine zad 55 Tryz.func50 rfl rfl rfl rfl ?_ GG.to
      intro W A hG
      repeat (first | (refine zah rfl ?_; first | refine zai ?_ | refine gdr (zaa rfl rfl rfl (w0) (by kernel_rfl)) ?_) | (refine hK _ ?_; clear hK K) | refine zac rfl ?_ | exact zaj (show zau _ _ _ = some _ by kernel_rfl) | refine zag rfl rfl ?_ | refine zaf ?_ | refine zab (fun K hK => ?_))
    · refine zad 55 Tryz.func50 rfl rfl rfl rfl ?_ GG.to
      intro W A hG
      repeat (first | (refine zah rfl ?_; first | refine zai ?_ | refine gdr (zaa rfl rfl rfl (w0) (by kernel_rfl)) ?_) | (refine hK _ ?_; clear hK K) | refine zac rfl ?_ | exact zaj (show zau _ _ _ = some _ by kernel_rfl) | refine zag rfl rfl ?_ | refine zaf ?_ | refine zab (fun K hK => ?_))
  rw [if_neg (by simpa using c1)]
  have w1 := zd9 c1
  have hi := zk2 a 2 ha (by omega) (by omega)
  have hl := zxk k id
  have hf := zxf a l ha c1.1 c1.2
  by_cases c0 : id = -1
  · rw [if_neg (by simp [c0])]
    by_cases c2 : zj9 a l = false
    · rw [if_pos c2]
      rw [c2] at hf
      refine zad 55 Tryz.func50 rfl rfl rfl rfl ?_ GG.to
      intro W A hG
      repeat (first | (refine zah rfl ?_; first | refine zai ?_ | refine gdr (zaa rfl rfl rfl (w1) (by kernel_rfl)) ?_ | refine gdr (zaa rfl rfl rfl (hf) (by kernel_rfl)) ?_) | (refine hK _ ?_; clear hK K) | refine zac rfl ?_ | exact zaj (show zau _ _ _ = some _ by kernel_rfl) | refine zag rfl rfl ?_ | refine zae rfl rfl ?_ | refine zaf ?_ | refine zab (fun K hK => ?_))
    rw [if_neg c2, if_pos c0]
    rw [show zj9 a l = true by simpa using c2] at hf
    by_cases c3 : idx a 2 = 511
    · by_cases c4 : l = 2
      · rw [if_neg (by simp [c4])]
        refine zad 55 Tryz.func50 rfl rfl rfl rfl ?_ GG.to
        intro W A hG
        repeat (first | (refine zah rfl ?_; first | refine zai ?_ | refine gdr (zaa rfl rfl rfl (w1) (by kernel_rfl)) ?_ | refine gdr (zaa rfl rfl rfl (hf) (by kernel_rfl)) ?_ | refine gdr (zaa rfl rfl rfl (hi) (by kernel_rfl)) ?_) | (refine hK _ ?_; clear hK K) | refine zac rfl ?_ | exact zaj (show zau _ _ _ = some _ by kernel_rfl) | refine zag rfl rfl ?_ | refine zae rfl rfl ?_ | refine zaf ?_ | refine zab (fun K hK => ?_))
      · rw [if_pos ⟨c3, c4⟩]
        refine zad 55 Tryz.func50 rfl rfl rfl rfl ?_ GG.to
        intro W A hG
        repeat (first | (refine zah rfl ?_; first | refine zai ?_ | refine gdr (zaa rfl rfl rfl (w1) (by kernel_rfl)) ?_ | refine gdr (zaa rfl rfl rfl (hf) (by kernel_rfl)) ?_ | refine gdr (zaa rfl rfl rfl (hi) (by kernel_rfl)) ?_) | (refine hK _ ?_; clear hK K) | refine zac rfl ?_ | exact zaj (show zau _ _ _ = some _ by kernel_rfl) | refine zag rfl rfl ?_ | refine zae rfl rfl ?_ | refine zaf ?_ | refine zab (fun K hK => ?_))
    · rw [if_neg (by simp [c3])]
      refine zad 55 Tryz.func50 rfl rfl rfl rfl ?_ GG.to
      intro W A hG
      repeat (first | (refine zah rfl ?_; first | refine zai ?_ | refine gdr (zaa rfl rfl rfl (w1) (by kernel_rfl)) ?_ | refine gdr (zaa rfl rfl rfl (hf) (by kernel_rfl)) ?_ | refine gdr (zaa rfl rfl rfl (hi) (by kernel_rfl)) ?_) | (refine hK _ ?_; clear hK K) | refine zac rfl ?_ | exact zaj (show zau _ _ _ = some _ by kernel_rfl) | refine zag rfl rfl ?_ | refine zae rfl rfl ?_ | refine zaf ?_ | refine zab (fun K hK => ?_))
  · by_cases c5 : za5 k id = false
    · rw [if_pos ⟨c0, c5⟩]
      rw [c5] at hl
      refine zad 55 Tryz.func50 rfl rfl rfl rfl ?_ GG.to
      intro W A hG
      repeat (first | (refine zah rfl ?_; first | refine zai ?_ | refine gdr (zaa rfl rfl rfl (w1) (by kernel_rfl)) ?_ | refine gdr (zaa rfl rfl rfl (hl) (by kernel_rfl)) ?_) | (refine hK _ ?_; clear hK K) | refine zac rfl ?_ | exact zaj (show zau _ _ _ = some _ by kernel_rfl) | refine zag rfl rfl ?_ | refine zae rfl rfl ?_ | refine zaf ?_ | refine zab (fun K hK => ?_))
    rw [if_neg (by simp [c5])]
    have c5 : za5 k id = true := by simpa using c5
    rw [c5] at hl
    obtain ⟨y0, y1, y2, y3⟩ := zdw c5
    have hx := zur y2
    by_cases c2 : zj9 a l = false
    · rw [if_pos c2]
      rw [c2] at hf
      refine zad 55 Tryz.func50 rfl rfl rfl rfl ?_ GG.to
      intro W A hG
      repeat (first | (refine zah rfl ?_; first | refine zai ?_ | refine gdr (zaa rfl rfl rfl (w1) (by kernel_rfl)) ?_ | refine gdr (zaa rfl rfl rfl (hl) (by kernel_rfl)) ?_ | refine gdr (zaa rfl rfl rfl (hf) (by kernel_rfl)) ?_) | (refine hK _ ?_; clear hK K) | refine zac rfl ?_ | exact zaj (show zau _ _ _ = some _ by kernel_rfl) | refine zag rfl rfl ?_ | refine zae rfl rfl ?_ | refine zaf ?_ | refine zab (fun K hK => ?_))
    rw [if_neg c2, if_neg c0]
    rw [show zj9 a l = true by simpa using c2] at hf
    by_cases c3 : idx a 2 = 511
    · rw [if_pos c3]
      refine zad 55 Tryz.func50 rfl rfl rfl rfl ?_ GG.to
      intro W A hG
      repeat (first | (refine zah rfl ?_; first | refine zai ?_ | refine gdr (zaa rfl rfl rfl (w1) (by kernel_rfl)) ?_ | refine gdr (zaa rfl rfl rfl (hl) (by kernel_rfl)) ?_ | refine gdr (zaa rfl rfl rfl (hf) (by kernel_rfl)) ?_ | refine gdr (zaa rfl rfl rfl (hi) (by kernel_rfl)) ?_) | (refine hK _ ?_; clear hK K) | refine zac rfl ?_ | exact zaj (show zau _ _ _ = some _ by kernel_rfl) | refine zag rfl rfl ?_ | refine zae rfl rfl ?_ | refine zaf ?_ | refine zab (fun K hK => ?_))
    · rw [if_neg c3]
      refine zad 55 Tryz.func50 rfl rfl rfl rfl ?_ GG.to
      intro W A hG
      repeat (first | (refine zah rfl ?_; first | refine zai ?_ | refine gdr (zaa rfl rfl rfl (w1) (by kernel_rfl)) ?_ | refine gdr (zaa rfl rfl rfl (hl) (by kernel_rfl)) ?_ | refine gdr (zaa rfl rfl rfl (hf) (by kernel_rfl)) ?_ | refine gdr (zaa rfl rfl rfl (hi) (by kernel_rfl)) ?_) | (refine hK _ ?_; clear hK K) | refine zac rfl ?_ | exact zaj (show zau _ _ _ = some _ by kernel_rfl) | refine zae rfl rfl ?_ | refine zaf ?_ | refine zal ?_ | refine zab (fun K hK => ?_))
end Go.Proofs.YtomeaibdedaldaaGreatDoor.SpO
namespace Go.Proofs.YtomeaibdedaldaaGreatDoor.LaE
open Go.RowKit Bv VaSpec Base MemL RegR Ax MemC PutC MemC3 TzC OkS SpA SpB SpC SpF SpH SpI SpJ SpN SpO LaA LaB LaC LaD
open BitsC PteSpec
set_option maxRecDepth 10000
set_option maxHeartbeats 1000000
theorem zp2 (n : Int) : Ok 126 [iu n] (.m (.ag (lnk n).ce)) := by
  refine zad 5 Tryz.func126 rfl rfl rfl rfl ?_ GG.to
  intro W A hG
  repeat (first | (refine zah rfl ?_; first | refine zai ?_) | (refine hK _ ?_; clear hK K) | refine zac rfl ?_ | exact zaj (show zau _ _ _ = some _ by kernel_rfl) | refine zab (fun K hK => ?_))
def dnH (sz cd cp top lv addr zam : Int) (xs0 : List (Int × Int)) (f0 : Int) (xs : List (Int × Int)) (f : Int) : St := St.of [(2, .m (iu top)), (3, .m (ii lv)), (4, .m (iu addr)), (5, .m (ii zam)), (6, .m (.c (.p 6 0))), (7, .m (.c (.p 7 0))), (12, .m (.c (.p 12 0))), (13, .m (.c (.p 13 0))), (14, .m (.c (.p 14 0))), (15, .m (ii 0)), (16, .m (.c (.p 16 0))), (17, .m (.c (.p 17 0)))]
  [(6, .live (.box [cu sz, .s xs0.length 2 (fl xs0)])), (7, .live (.box [cu cd, ci cp, cu f0])), (12, .live (.box [cu 0, .v (.slice none 0 0)])), (13, .live (.box [cu 0, ci 0, cu 0])), (14, .live (.box (zb0 0 0 zP))), (16, .live (.box [cu sz, .s xs.length 2 (fl xs)])), (17, .live (.box [cu cd, ci cp, cu f]))]
theorem z05 (cd cp sz top addr zam : Int) (lv : Nat) (xs0 : List (Int × Int)) (f0 : Int) (h : GM cd cp sz xs0 f0) (ht : Al cd cp f0 top) (ha : U addr) (hl : lv ≤ 2) (hw : 0 ≤ zam) (hwl : zam ≤ (lv : Int)) (hn : xs0.length ≤ 100000)
    (D : List (Int × Int) × Int × Int × Int) (hD : D = dnN sz cd addr zam lv xs0 f0 top) :
    Ok 60 [zbt sz xs0, .ag [cu cd, ci cp, cu f0], iu top, ii lv, iu addr, ii zam]
      (.tu (if D.2.2.2 = 0 then [zbt sz D.1, .ag [cu cd, ci cp, cu D.2.1], .ag (zps sz D.1 addr (D.2.2.1, zam)), ii 0] else [zbt sz xs0, .ag [cu cd, ci cp, cu f0], .ag (zb0 0 0 zP), ii D.2.2.2])) := by
  have hcd := h.bd
  have hcp := h.bp
  obtain ⟨R, hR⟩ : ∃ R, R = (if D.2.2.2 = 0 then [zbt sz D.1, .ag [cu cd, ci cp, cu D.2.1], .ag (zps sz D.1 addr (D.2.2.1, zam)), ii 0] else [zbt sz xs0, .ag [cu cd, ci cp, cu f0], .ag (zb0 0 0 zP), ii D.2.2.2]) := ⟨_, rfl⟩
  rw [← hR]
  have hcl : (zce (.tu R) && [zbt sz xs0, .ag [cu cd, ci cp, cu f0], iu top, ii lv, iu addr, ii zam].all zb7) = true := by
    rw [hR]; split <;> rfl
  refine zad 67 Tryz.func60 rfl hcl rfl rfl ?_ GG.to
  intro W A hG
  repeat (first | (refine zah rfl ?_; first | refine zai ?_) | (refine hK _ ?_; clear hK K) | refine zac rfl ?_ | refine zas (by kernel_rfl) (by kernel_rfl) rfl ?_ | refine zaf ?_ | refine zab (fun K hK => ?_))
  refine za3 (α := List (Int × Int) × Int × Nat × Int) (fun q => GM cd cp sz q.1 q.2.1 ∧ q.2.2.1 ≤ 2 ∧ zam ≤ (q.2.2.1 : Int) ∧ Al cd cp q.2.1 q.2.2.2 ∧ Al cd cp q.2.1 top ∧ q.1.length + q.2.2.1 ≤ 100002 ∧ dnN sz cd addr zam q.2.2.1 q.1 q.2.1 q.2.2.2 = D ∧ zaq sz q.1 addr zam lv top = zaq sz q.1 addr zam q.2.2.1 q.2.2.2)
    (fun q => dnH sz cd cp top lv addr zam xs0 f0 q.1 q.2.1) (fun q => q.2.2.1) (xs0, f0, lv, top) ⟨h, hl, hwl, ht, ht, by show xs0.length + lv ≤ _; omega, hD.symm, rfl⟩ (zao _ _ ⟨by kernel_rfl, by kernel_rfl, by kernel_rfl, by kernel_rfl, by kernel_rfl, by kernel_rfl, by kernel_rfl, by kernel_rfl, by kernel_rfl, by kernel_rfl, by kernel_rfl, by kernel_rfl, trivial⟩ ⟨by kernel_rfl, by kernel_rfl, by kernel_rfl, by kernel_rfl, by kernel_rfl, by kernel_rfl, by kernel_rfl, trivial⟩ (by kernel_rfl)) ?_
  rintro ⟨xs, f, l, t⟩ ⟨x1, x2, x3, x4, x5, x6, x7, x8⟩
  have g1 : GM cd cp sz xs f := x1
  have g2 : l ≤ 2 := x2
  have g3 : zam ≤ (l : Int) := x3
  have g4 : Al cd cp f t := x4
  have g5 : Al cd cp f top := x5
  have g6 : xs.length + l ≤ 100002 := x6
  have g7 : dnN sz cd addr zam l xs f t = D := x7
  have g8 : zaq sz xs addr zam lv top = zaq sz xs addr zam l t := x8
  show Aw _ _ _ _ (dnH sz cd cp top lv addr zam xs0 f0 xs f)
  unfold dnH
  obtain ⟨l', t', i1, i2, i3, i4, i5, i6, -⟩ := zhy cd cp sz addr zam hw g1 l t g4 g3
  obtain ⟨l0', l1', l2', -, -, -, -, -, l7'⟩ := zhy cd cp sz addr zam hw g1 lv top g5 hwl
  obtain ⟨e1, e2⟩ : t' = l1' ∧ l' = l0' := by
    have := l2'.symm.trans (g8.trans i1)
    simp only [Prod.mk.injEq] at this
    exact ⟨this.1.symm, by omega⟩
  subst e1 e2
  have ub := g1.u
  have hr := zf2 sz xs top lv addr zam ⟨by have := g5.1; omega, by have := g5.1; omega⟩ ha (by omega) (by omega) hw g1.s ub
  rw [show za6 sz xs addr zam lv top = (t', (l' : Int)) by unfold za6; rw [Int.toNat_natCast, g8, i1]] at hr
  have hi := idx_bd addr (l' : Int)
  have bt := i4.1
  rw [i6] at g7
  clear i1 i6
  obtain ⟨q, hq⟩ : ∃ q, q = atM sz xs t' (idx addr (l' : Int)) := ⟨_, rfl⟩
  unfold zps at hr
  rw [show (t', (l' : Int)).1 = t' from rfl, show (t', (l' : Int)).2 = (l' : Int) from rfl, ← hq] at hr
  repeat (first | (refine zah rfl ?_; first | refine zai ?_ | refine gdr (zaa rfl rfl rfl (hr) (by kernel_rfl)) ?_) | refine zac rfl ?_ | refine zaf ?_ | refine zab (fun K hK => ?_))
  first
    | (refine hK _ ?_; clear hK K)
    | (rename_i K1 hK1; refine hK1 _ ?_; clear hK hK1; clear K)
    | (rename_i K1 hK1; refine hK1 _ ?_; clear hK1)
  refine zdr (zao [(2, .m (iu top)), (3, .m (ii lv)), (4, .m (iu addr)), (5, .m (ii zam)), (6, .m (.c (.p 6 0))), (7, .m (.c (.p 7 0))), (12, .m (.c (.p 12 0))), (13, .m (.c (.p 13 0))), (14, .m (.c (.p 14 0))), (15, .m (ii 0)), (16, .m (.c (.p 16 0))), (17, .m (.c (.p 17 0))), (18, .m (.c (.p 18 0)))] [(6, .live (.box [cu sz, .s xs0.length 2 (fl xs0)])), (7, .live (.box [cu cd, ci cp, cu f0])), (12, .live (.box [cu 0, .v (.slice none 0 0)])), (13, .live (.box [cu 0, ci 0, cu 0])), (14, .live (.box (zb0 0 0 zP))), (16, .live (.box [cu sz, .s xs.length 2 (fl xs)])), (17, .live (.box [cu cd, ci cp, cu f])), (18, .live (.box (zb0 t' ((l' : Nat) : Int) q)))] ⟨by kernel_rfl, by kernel_rfl, by kernel_rfl, by kernel_rfl, by kernel_rfl, by kernel_rfl, by kernel_rfl, by kernel_rfl, by kernel_rfl, by kernel_rfl, by kernel_rfl, by kernel_rfl, by kernel_rfl, trivial⟩ ⟨by kernel_rfl, by kernel_rfl, by kernel_rfl, by kernel_rfl, by kernel_rfl, by kernel_rfl, by kernel_rfl, by kernel_rfl, trivial⟩ (by kernel_rfl)) ?_
  by_cases c1 : (l' : Int) = zam
  · have e : D = (xs, f, t', 0) := by
      rw [← g7]
      cases l' with
      | zero => rfl
      | succ m => unfold dnN; rw [if_pos (by omega)]
    subst e
    have hR : R = [zbt sz xs, .ag [cu cd, ci cp, cu f], .ag (zb0 t' zam (atM sz xs t' (idx addr zam))), ii 0] := hR
    rw [← c1, ← hq] at hR
    subst hR
    repeat (first | (refine zah rfl ?_; first | refine zai ?_) | (refine hK _ ?_; clear hK K) | refine zac rfl ?_ | refine zas (by kernel_rfl) (by kernel_rfl) rfl ?_ | exact zaj (show zau _ _ _ = some _ by kernel_rfl) | refine zag rfl rfl ?_ | refine zaf ?_ | refine zab (fun K hK => ?_))
  · obtain ⟨m, rfl⟩ : ∃ m : Nat, l' = m + 1 := ⟨l' - 1, by omega⟩
    have hlk := i5 (by omega)
    rw [← hq] at hlk
    have hk := EOk.kinds (g1.at t' (idx addr ((m + 1 : Nat) : Int))) (l := ((m + 1 : Nat) : Int)) (by omega)
    rw [← hq, hlk] at hk
    unfold dnN at g7
    rw [if_neg (by omega), ← hq] at g7
    cases hv : q.v with
    | true =>
      have hlf : zat q = true := by
        rcases hk with ⟨k1, _⟩ | ⟨_, k2, _⟩ | ⟨_, _, k3, _⟩
        · rw [k1] at hv; cases hv
        · exact k2
        · cases k3
      rw [if_pos hlf] at g7
      subst g7
      have hR : R = [zbt sz xs0, .ag [cu cd, ci cp, cu f0], .ag (zb0 0 0 zP), ii 6] := hR
      subst hR
      obtain ⟨q0, q1, q2, q3, q4, q5, q6, q7, q8, q9, q10⟩ := q
      have hv : q0 = true := hv
      subst hv
      repeat (first | (refine zah rfl ?_; first | refine zai ?_) | (refine hK _ ?_; clear hK K) | refine zac rfl ?_ | refine zas (by kernel_rfl) (by kernel_rfl) rfl ?_ | exact zaj (show zau _ _ _ = some _ by kernel_rfl) | refine zag rfl rfl ?_ | refine zae rfl rfl ?_ | refine zaf ?_ | refine zab (fun K hK => ?_))
    | false =>
      have hlf : zat q = false := by unfold zat; rw [hv]; rfl
      rw [hlf, hv, if_neg (by simp), if_neg (by simp)] at g7
      obtain ⟨q0, q1, q2, q3, q4, q5, q6, q7, q8, q9, q10⟩ := q
      have hv' : q0 = false := hv
      subst hv'
      by_cases c4 : f = 0
      · rw [if_pos c4] at g7
        subst g7
        have hR : R = [zbt sz xs0, .ag [cu cd, ci cp, cu f0], .ag (zb0 0 0 zP), ii 8] := hR
        subst hR
        subst c4
        have hf := zht sz xs cd cp (by omega) (by omega)
        repeat (first | (refine zah rfl ?_; first | refine zai ?_ | refine gdr (zaa rfl rfl rfl (hf) (by kernel_rfl)) ?_) | (refine hK _ ?_; clear hK K) | refine zac rfl ?_ | refine zas (by kernel_rfl) (by kernel_rfl) rfl ?_ | exact zaj (show zau _ _ _ = some _ by kernel_rfl) | refine zag rfl rfl ?_ | refine zae rfl rfl ?_ | refine zaf ?_ | refine zal ?_ | refine zab (fun K hK => ?_))
      · rw [if_neg c4] at g7
        have hf := zf1 sz xs cd cp f (by omega) (by omega) g1.uf c4 g1.s (by omega)
        rw [g1.wipe c4] at hf
        obtain ⟨a1, a2⟩ := g1.al c4
        have hfr : 0 ≤ cd + tzI f ∧ cd + tzI f < 17592186044416 := by omega
        have hln := zp2 (cd + tzI f)
        have hwt := zeq sz xs t' ((m + 1 : Nat) : Int) ⟨false, q1, q2, q3, q4, q5, q6, q7, q8, q9, q10⟩ addr (lnk (cd + tzI f)) ha (zg8 hfr) (by omega) (by omega) (by omega) g1.s ub (by omega)
        have hgm := g1.hang c4 i4 hi
        have hln2 := zg4 sz xs t' (idx addr ((m + 1 : Nat) : Int)) (lnk (cd + tzI f))
        have hre : zaq sz (za1 sz xs t' (idx addr ((m + 1 : Nat) : Int)) (lnk (cd + tzI f))) addr zam lv top = zaq sz (za1 sz xs t' (idx addr ((m + 1 : Nat) : Int)) (lnk (cd + tzI f))) addr zam m (cd + tzI f) := by
          rw [l7' _ (zsz g1 c4 i4 hi (by rw [← hq]))]
          exact zs0 hw g1 c4 i4 (by omega)
        revert hf hln hwt hgm hln2 hre g7
        generalize za1 sz xs t' (idx addr ((m + 1 : Nat) : Int)) (lnk (cd + tzI f)) = xs2
        intro g7 hf hln hwt hgm hln2 hre
        repeat (first | (refine zah rfl ?_; first | refine zai ?_ | refine gdr (zaa rfl rfl rfl (hf) (by kernel_rfl)) ?_ | refine gdr (zaa rfl rfl rfl (hln) (by kernel_rfl)) ?_ | refine gdr (zaa rfl rfl rfl (hwt) (by kernel_rfl)) ?_) | (refine hK _ ?_; clear hK K) | refine zac rfl ?_ | refine zas (by kernel_rfl) (by kernel_rfl) rfl ?_ | refine zae rfl rfl ?_ | refine zaf ?_ | refine zal ?_ | refine zab (fun K hK => ?_))
        exact ⟨(xs2, zbk f (tzI f) 1 0, m, cd + tzI f), ⟨hgm, by show m ≤ 2; omega, by show zam ≤ (m : Int); omega, a1, (g1.take c4 g5).2, by show xs2.length + m ≤ 100002; omega, g7, hre⟩, by show m < l; omega, zao _ _ ⟨by kernel_rfl, by kernel_rfl, by kernel_rfl, by kernel_rfl, by kernel_rfl, by kernel_rfl, by kernel_rfl, by kernel_rfl, by kernel_rfl, by kernel_rfl, by kernel_rfl, by kernel_rfl, trivial⟩ ⟨by kernel_rfl, by kernel_rfl, by kernel_rfl, by kernel_rfl, by kernel_rfl, by kernel_rfl, by kernel_rfl, trivial⟩ (by kernel_rfl)⟩
end Go.Proofs.YtomeaibdedaldaaGreatDoor.LaE
namespace Go.Proofs.YtomeaibdedaldaaGreatDoor.LaF
open Go.RowKit Bv VaSpec Base MemL RegR Ax MemC PutC MemC3 TzC OkS SpA SpB SpC SpD SpF SpH SpI SpJ SpN SpO LaA LaB LaC LaD LaE
open BitsC PteSpec
set_option maxRecDepth 10000
set_option maxHeartbeats 1000000
structure InvL (n : Nat) (k : Kr) : Prop where
  g : GM k.cd k.cp k.sz k.m k.pf
  cs : k.cs = k.tn ∧ k.tn ≤ 16
  pb : k.pb = k.cd
  pm : k.pm = k.cp
  sh : Al k.cd k.cp k.pf k.sh
  ts : k.ts = zsL k.tn
  ml : k.m.length ≤ n
  fl : k.fs.length ≤ n
  sl : k.ss.length ≤ 32
  ss : ∀ s ∈ k.ss, s.live = true → Al k.cd k.cp k.pf s.root
theorem InvL.root {n : Nat} {k : Kr} (h : InvL n k) {id : Int} (hl : za5 k id = true) : Al k.cd k.cp k.pf (zcu k id).root := by
  obtain ⟨h0, h1, h2, h3⟩ := zdw hl
  exact h.ss _ (List.mem_of_getElem? h2) h3
def ownM (k : Kr) (id : Int) : List (Int × Int) := zby k.m ((zcu k id).root * 512 + 511) 0
noncomputable def zs1 (k : Kr) (id : Int) : List Pg := if id = -1 then zbq k.sz k.m 1 k.sh kA else if za5 k id = false then [] else zbq k.sz (ownM k id) 2 (zcu k id).root 0
theorem zvi (k : Nat) : AV.lt (.m (.c (.v (.slice none 0 0)))) (.m (.c (.s 0 k []))) := fun E v h => ltC.nil k E v h
end Go.Proofs.YtomeaibdedaldaaGreatDoor.LaF
namespace Go.Proofs.YtomeaibdedaldaaGreatDoor.LaG
open Go.RowKit Bv VaSpec Base MemL RegR Ax MemC PutC MemC3 TzC OkS SpA SpB SpC SpD SpE SpF SpH SpI SpJ SpN SpO LaA LaB LaC LaD LaE LaF
open BitsC PteSpec
set_option maxRecDepth 10000
set_option maxHeartbeats 1000000
theorem zbw {n : Nat} {k : Kr} {id a l : Int} (h : InvL n k) (he : (zan k id a l).2.2 = 0) : (0 ≤ l ∧ l ≤ 2) ∧ Al k.cd k.cp k.pf (zan k id a l).1 ∧ l ≤ (zan k id a l).2.1 ∧ (1 ≤ (zan k id a l).2.1 ∧ (zan k id a l).2.1 ≤ 2) := by
  unfold zan at he ⊢
  by_cases c1 : 0 ≤ l ∧ l ≤ 2
  rotate_left
  · rw [if_pos c1] at he; cases he
  rw [if_neg (by simpa using c1)] at he ⊢
  by_cases c2 : id ≠ -1 ∧ za5 k id = false
  · rw [if_pos c2] at he; cases he
  rw [if_neg c2] at he ⊢
  by_cases c3 : zj9 a l = false
  · rw [if_pos c3] at he; cases he
  rw [if_neg c3] at he ⊢
  by_cases c4 : id = -1
  · rw [if_pos c4] at he ⊢
    by_cases c5 : idx a 2 = 511 ∧ l ≠ 2
    · rw [if_pos c5]
      exact ⟨c1, h.sh, by show l ≤ 1; omega, by show (1 : Int) ≤ 1; omega, by show (1 : Int) ≤ 2; omega⟩
    · rw [if_neg c5] at he; cases he
  · rw [if_neg c4] at he ⊢
    by_cases c5 : idx a 2 = 511
    · rw [if_pos c5] at he; cases he
    · rw [if_neg c5]
      have c6 : za5 k id = true := by
        cases e : za5 k id with
        | true => rfl
        | false => exact absurd ⟨c4, e⟩ c2
      exact ⟨c1, h.root c6, by show l ≤ 2; omega, by show (1 : Int) ≤ 2; omega, by show (2 : Int) ≤ 2; omega⟩
def lk0 (pa l : Int) : Int := if zfd pa (VaSpec.sz l) then 0 else 2
def lk1 (k : Kr) (pa l : Int) : Int := if inD pa (k.cd * 4096) (VaSpec.sz l) then 0 else 3
def lk2 (p : Pm) : Int := if zhs p then 0 else 5
def lk3 (k : Kr) (top lv a l : Int) : Int := if !(atM k.sz k.m (za6 k.sz k.m a l lv top).1 (idx a (za6 k.sz k.m a l lv top).2)).v then 0 else 6
def zn3 (k : Kr) (top lv a l : Int) : List (Int × Int) × Int × Int × Int := dnN k.sz k.cd a l lv.toNat k.m k.pf top
def z17 (k : Kr) (D : List (Int × Int) × Int × Int × Int) (a pa l : Int) (p : Pm) (g : Bool) : Kr := { k with m := za1 k.sz D.1 D.2.2.1 (idx a l) (mkP (pa / 4096) p g), pf := D.2.1 }
def zc2 (k : Kr) (id a pa l : Int) (p : Pm) : Kr × Int :=
  if (zan k id a l).2.2 ≠ 0 then (k, (zan k id a l).2.2)
  else if lk0 pa l ≠ 0 then (k, lk0 pa l)
  else if lk1 k pa l ≠ 0 then (k, lk1 k pa l)
  else if lk2 p ≠ 0 then (k, lk2 p)
  else if lk3 k (zan k id a l).1 (zan k id a l).2.1 a l ≠ 0 then (k, lk3 k (zan k id a l).1 (zan k id a l).2.1 a l)
  else if (zn3 k (zan k id a l).1 (zan k id a l).2.1 a l).2.2.2 ≠ 0 then (k, (zn3 k (zan k id a l).1 (zan k id a l).2.1 a l).2.2.2)
  else (z17 k (zn3 k (zan k id a l).1 (zan k id a l).2.1 a l) a pa l p (decide (id = -1)), 0)
theorem zjt {p : Pm} (h : lk2 p = 0) : zhs p = true := by
  unfold lk2 at h
  split at h
  · assumption
  · cases h
theorem zn4 {k : Kr} {pa l : Int} (h : U pa) (hd : k.cd ≤ 524288) (hq : lk1 k pa l = 0) : 0 ≤ pa / 4096 ∧ pa / 4096 < 17592186044416 := by
  obtain ⟨h0, h1⟩ := h
  unfold lk1 inD at hq
  split at hq
  · rename_i h2
    simp only [Bool.and_eq_true, decide_eq_true_eq] at h2
    omega
  · cases hq
theorem z06 {n : Nat} {k : Kr} {id a pa l : Int} {p : Pm} (h : InvL n k) (hp : U pa) : InvL (n + 3) (zc2 k id a pa l p).1 := by
  have hm : InvL (n + 3) k := { h with ml := by have := h.ml; omega, fl := by have := h.fl; omega }
  unfold zc2
  split
  · exact hm
  · rename_i c0
    split
    · exact hm
    · split
      · exact hm
      · split
        · exact hm
        · rename_i c3
          split
          · exact hm
          · split
            · exact hm
            · rename_i c5
              obtain ⟨w1, w2, w3, w4⟩ := zbw (id := id) (a := a) (l := l) h (by omega)
              generalize zan k id a l = w at *
              have he : (zn3 k w.1 w.2.1 a l).2.2.2 = 0 := by omega
              obtain ⟨d1, d2, d3, d4⟩ := zl9 k.cd k.cp k.sz a l w1.1 w.2.1.toNat k.m k.pf w.1 h.g w2 he
              have hb := zg9 (n := pa / 4096) (p := p) (g := decide (id = -1)) (zn4 (k := k) (l := l) hp (by have := h.g.bd; omega) (by omega)) (zjt (by omega))
              have hw := d1.with (i := idx a l) d2 (idx_bd a l) hb.2.1
              have hle := zg4 k.sz (zn3 k w.1 w.2.1 a l).1 (zn3 k w.1 w.2.1 a l).2.2.1 (idx a l) (mkP (pa / 4096) p (decide (id = -1)))
              have hml := h.ml
              refine { g := ?_, cs := h.cs, pb := h.pb, pm := h.pm, sh := d4 _ h.sh, ts := h.ts, ml := ?_, fl := by have := h.fl; show k.fs.length ≤ n + 3; omega, sl := h.sl, ss := fun s hs hl => d4 _ (h.ss s hs hl) }
              · show GM k.cd k.cp k.sz (za1 k.sz (dnN k.sz k.cd a l w.2.1.toNat k.m k.pf w.1).1 (dnN k.sz k.cd a l w.2.1.toNat k.m k.pf w.1).2.2.1 (idx a l) (mkP (pa / 4096) p (decide (id = -1)))) (dnN k.sz k.cd a l w.2.1.toNat k.m k.pf w.1).2.1
                rw [hw]
                exact d1.put d2 (idx_bd a l) (ze9 _ hb.2.1) fun _ => by rw [hb.1]; exact .inl hb.2.2
              · show (za1 k.sz (zn3 k w.1 w.2.1 a l).1 (zn3 k w.1 w.2.1 a l).2.2.1 (idx a l) (mkP (pa / 4096) p (decide (id = -1)))).length ≤ n + 3
                have d3' : (zn3 k w.1 w.2.1 a l).1.length ≤ k.m.length + w.2.1.toNat := d3
                omega
def z4v (k : Kr) (id a pa l : Int) (p : Pm) (top lv z : Int) (i : Nat) : St := St.of [(1, .m (ii id)), (6, .m (.c (.p 6 0))), (8, .m (.c (.p 8 0))), (9, .m (.c (.p 9 0))), (10, .m (.c (.p 10 0))), (11, .m (.c (.p 11 0))), (12, .m (.c (.p 12 0))), (13, .m (ii 0)), (14, .m (.c (.p 14 0))), (15, .m (.c (.p 15 0))), (16, .m (ii 0)), (55, .m (.c (.bs 55 0 4))), (56, .m (ii 4)), (57, .m (ii i))]
  [(6, .live (.box k.ce)), (8, .live (.box [cu a])), (9, .live (.box [cu pa])), (10, .live (.box [ci l])), (11, .live (.box p.ce)), (12, .live (.box zK)), (14, .live (.box [cu top])), (15, .live (.box [ci lv])), (17, .live (.box [cu (k.cd * 4096)])), (18, .live (.box [cu z])), (55, .live (.box [.cl 55 [9, 18], .cl 57 [9, 17, 18], .cl 58 [11], .cl 52 [6, 14, 15, 8, 10]]))]
def nm1 (i : Nat) : Nat := if i = 2000 then 6 else if i = 2001 then 14 else if i = 2002 then 15 else if i = 2003 then 8 else 10
def nm2 (i : Nat) : Nat := if i = 2000 then 9 else 18
def nm3 (i : Nat) : Nat := if i = 2000 then 9 else if i = 2001 then 17 else 18
def nm4 (i : Nat) : Nat := 11
theorem zp3 {n : Nat} {k : Kr} (h : InvL n k) (hn : n ≤ 90000) (id a pa l : Int) (p : Pm) (ha : U a) (hp : U pa) : Ok 15 [.ag k.ce, ii id, iu a, iu pa, ii l, .ag p.ce] (.tu [.ag (zc2 k id a pa l p).1.ce, ii (zc2 k id a pa l p).2]) := by
  have hw := zma k id a l ha
  obtain ⟨R, hR⟩ : ∃ R, R = zc2 k id a pa l p := ⟨_, rfl⟩
  rw [← hR]
  unfold zc2 at hR
  by_cases c0 : (zan k id a l).2.2 ≠ 0
  · rw [if_pos c0] at hR
    generalize zan k id a l = w at *
    subst hR
    refine zad 101 Tryz.func15 rfl rfl rfl rfl ?_ GG.to
    intro W A hG
    repeat (first | (refine zah rfl ?_; first | refine zai ?_ | refine gdr (zaa rfl rfl rfl (hw) (by kernel_rfl)) ?_) | (refine hK _ ?_; clear hK K) | refine zac rfl ?_ | exact zaj (show zau _ _ _ = some _ by kernel_rfl) | refine zag rfl rfl ?_ | refine zab (fun K hK => ?_))
  rw [if_neg c0] at hR
  obtain ⟨w1, w2, w3, w4⟩ := zbw (id := id) (a := a) (l := l) h (by omega)
  have c0 : (zan k id a l).2.2 = 0 := by omega
  rw [c0] at hw
  generalize (zan k id a l).1 = top at *
  generalize (zan k id a l).2.1 = lv at *
  have b1 := h.g.bd
  have b2 := h.g.bp
  have hz := zfq l w1.1 w1.2
  have hzb := zzd l w1.1 w1.2
  have ft : 0 ≤ top ∧ top < 17592186044416 := by have := w2.1; omega
  have hml := h.ml
  have m2 := z0j pa (VaSpec.sz l) hp ⟨by omega, by omega⟩
  have m3 := z0k pa (k.cd * 4096) (VaSpec.sz l) hp ⟨by omega, by omega⟩ ⟨by omega, by omega⟩
  have m4 := z0l p
  have m1 := z0m k top lv a l ⟨h.g.s, h.g.u⟩ ft ha (by omega) (by omega) w1.1
  obtain ⟨lw, rfl⟩ := Int.eq_ofNat_of_zero_le (show 0 ≤ lv by omega)
  have hd := z05 k.cd k.cp k.sz top a l lw k.m k.pf h.g w2 ha (by omega) w1.1 w3 (by omega) _ rfl
  have hdg := zl9 k.cd k.cp k.sz a l w1.1 lw k.m k.pf top h.g w2
  have hpb := h.pb
  have hpm := h.pm
  have h2 : zb9 Tryz.prog GG 55 [spB 2000 [cu pa], spB 2001 [cu (VaSpec.sz l)]] [.c (.p 2000 0), .c (.p 2001 0)] (.m (ii (lk0 pa l))) := m2
  have h3 : zb9 Tryz.prog GG 57 [spB 2000 [cu pa], spB 2001 [cu (k.cd * 4096)], spB 2002 [cu (VaSpec.sz l)]] [.c (.p 2000 0), .c (.p 2001 0), .c (.p 2002 0)] (.m (ii (lk1 k pa l))) := m3
  have h4 : zb9 Tryz.prog GG 58 [spB 2000 p.ce] [.c (.p 2000 0)] (.m (ii (lk2 p))) := m4
  have h1 : zb9 Tryz.prog GG 52 [spB 2000 k.ce, spB 2001 [cu top], spB 2002 [ci (lw : Int)], spB 2003 [cu a], spB 2004 [ci l]] [.c (.p 2000 0), .c (.p 2001 0), .c (.p 2002 0), .c (.p 2003 0), .c (.p 2004 0)] (.m (ii (lk3 k top lw a l))) := m1
  clear m1 m2 m3 m4
  have hmk := zg9 (n := pa / 4096) (p := p) (g := decide (id = -1))
  have hpn := zn4 (k := k) (pa := pa) (l := l) hp (by omega)
  have hpk := zjt (p := p)
  generalize lk0 pa l = q0 at *
  generalize lk1 k pa l = q1 at *
  generalize lk2 p = q2 at *
  generalize lk3 k top lw a l = q3 at *
  generalize VaSpec.sz l = z at *
  have hsz : k.sz = (k.cd + k.cp) * 4096 := h.g.bz
  unfold zn3 at hR
  rw [Int.toNat_natCast] at hR
  generalize dnN k.sz k.cd a l lw k.m k.pf top = D at *
  refine zad 101 Tryz.func15 rfl rfl rfl rfl ?_ GG.to
  intro W A hG
  repeat (first | (refine zah rfl ?_; first | refine zai ?_ | refine gdr (zaa rfl rfl rfl (hw) (by kernel_rfl)) ?_ | refine gdr (zaa rfl rfl rfl (hz) (by kernel_rfl)) ?_) | (refine hK _ ?_; clear hK K) | refine zac rfl ?_ | refine zas (by kernel_rfl) (by kernel_rfl) rfl ?_ | refine zae rfl rfl ?_ | refine zaf ?_ | refine zal ?_ | refine zab (fun K hK => ?_))
  refine za3 (α := Nat) (fun i => i ≤ 4 ∧ (0 < i → q0 = 0) ∧ (1 < i → q1 = 0) ∧ (2 < i → q2 = 0) ∧ (3 < i → q3 = 0)) (fun i => z4v k id a pa l p top lw z i) (fun i => 4 - i) 0 ⟨by omega, by omega, by omega, by omega, by omega⟩ (zao _ _ ⟨by kernel_rfl, by kernel_rfl, by kernel_rfl, by kernel_rfl, by kernel_rfl, by kernel_rfl, by kernel_rfl, by kernel_rfl, by kernel_rfl, by kernel_rfl, by kernel_rfl, by kernel_rfl, by kernel_rfl, by kernel_rfl, trivial⟩ ⟨by kernel_rfl, by kernel_rfl, by kernel_rfl, by kernel_rfl, by kernel_rfl, by kernel_rfl, by kernel_rfl, by kernel_rfl, by kernel_rfl, by kernel_rfl, by kernel_rfl, trivial⟩ (by kernel_rfl)) ?_
  rintro i ⟨x0, x1, x2, x3, x4⟩
  show Aw _ _ _ _ (z4v k id a pa l p top lw z i)
  unfold z4v
  have hi : i = 0 ∨ i = 1 ∨ i = 2 ∨ i = 3 ∨ i = 4 := by omega
  rcases hi with rfl | rfl | rfl | rfl | rfl
  · by_cases e : q0 = 0
    · skip
      repeat (first | (refine zah rfl ?_; first | refine zai ?_ | refine gdr (zbn nm2 h2 rfl rfl rfl (by kernel_rfl) rfl rfl ⟨rfl, rfl, trivial⟩ (by kernel_rfl)) ?_) | (refine hK _ ?_; clear hK K) | refine zac rfl ?_ | refine zag rfl rfl ?_ | refine zae rfl rfl ?_ | refine zaf ?_ | refine zal ?_ | refine zab (fun K hK => ?_))
      exact ⟨1, ⟨by omega, by omega, by omega, by omega, by omega⟩, by omega, zao _ _ ⟨by kernel_rfl, by kernel_rfl, by kernel_rfl, by kernel_rfl, by kernel_rfl, by kernel_rfl, by kernel_rfl, by kernel_rfl, by kernel_rfl, by kernel_rfl, by kernel_rfl, by kernel_rfl, by kernel_rfl, by kernel_rfl, trivial⟩ ⟨by kernel_rfl, by kernel_rfl, by kernel_rfl, by kernel_rfl, by kernel_rfl, by kernel_rfl, by kernel_rfl, by kernel_rfl, by kernel_rfl, by kernel_rfl, by kernel_rfl, trivial⟩ (by kernel_rfl)⟩
    · rw [if_pos e] at hR
      subst hR
      repeat (first | (refine zah rfl ?_; first | refine zai ?_ | refine gdr (zbn nm2 h2 rfl rfl rfl (by kernel_rfl) rfl rfl ⟨rfl, rfl, trivial⟩ (by kernel_rfl)) ?_) | (refine hK _ ?_; clear hK K) | refine zac rfl ?_ | exact zaj (show zau _ _ _ = some _ by kernel_rfl) | refine zag rfl rfl ?_ | refine zaf ?_ | refine zal ?_ | refine zab (fun K hK => ?_))
  · by_cases e : q1 = 0
    · skip
      repeat (first | (refine zah rfl ?_; first | refine zai ?_ | refine gdr (zbn nm3 h3 rfl rfl rfl (by kernel_rfl) rfl rfl ⟨rfl, rfl, rfl, trivial⟩ (by kernel_rfl)) ?_) | (refine hK _ ?_; clear hK K) | refine zac rfl ?_ | refine zag rfl rfl ?_ | refine zae rfl rfl ?_ | refine zaf ?_ | refine zal ?_ | refine zab (fun K hK => ?_))
      exact ⟨2, ⟨by omega, by omega, by omega, by omega, by omega⟩, by omega, zao _ _ ⟨by kernel_rfl, by kernel_rfl, by kernel_rfl, by kernel_rfl, by kernel_rfl, by kernel_rfl, by kernel_rfl, by kernel_rfl, by kernel_rfl, by kernel_rfl, by kernel_rfl, by kernel_rfl, by kernel_rfl, by kernel_rfl, trivial⟩ ⟨by kernel_rfl, by kernel_rfl, by kernel_rfl, by kernel_rfl, by kernel_rfl, by kernel_rfl, by kernel_rfl, by kernel_rfl, by kernel_rfl, by kernel_rfl, by kernel_rfl, trivial⟩ (by kernel_rfl)⟩
    · rw [if_neg (show ¬ q0 ≠ 0 by omega)] at hR; rw [if_pos e] at hR
      subst hR
      repeat (first | (refine zah rfl ?_; first | refine zai ?_ | refine gdr (zbn nm3 h3 rfl rfl rfl (by kernel_rfl) rfl rfl ⟨rfl, rfl, rfl, trivial⟩ (by kernel_rfl)) ?_) | (refine hK _ ?_; clear hK K) | refine zac rfl ?_ | exact zaj (show zau _ _ _ = some _ by kernel_rfl) | refine zag rfl rfl ?_ | refine zaf ?_ | refine zal ?_ | refine zab (fun K hK => ?_))
  · by_cases e : q2 = 0
    · skip
      repeat (first | (refine zah rfl ?_; first | refine zai ?_ | refine gdr (zbn nm4 h4 rfl rfl rfl (by kernel_rfl) rfl rfl ⟨rfl, trivial⟩ (by kernel_rfl)) ?_) | (refine hK _ ?_; clear hK K) | refine zac rfl ?_ | refine zag rfl rfl ?_ | refine zae rfl rfl ?_ | refine zaf ?_ | refine zal ?_ | refine zab (fun K hK => ?_))
      exact ⟨3, ⟨by omega, by omega, by omega, by omega, by omega⟩, by omega, zao _ _ ⟨by kernel_rfl, by kernel_rfl, by kernel_rfl, by kernel_rfl, by kernel_rfl, by kernel_rfl, by kernel_rfl, by kernel_rfl, by kernel_rfl, by kernel_rfl, by kernel_rfl, by kernel_rfl, by kernel_rfl, by kernel_rfl, trivial⟩ ⟨by kernel_rfl, by kernel_rfl, by kernel_rfl, by kernel_rfl, by kernel_rfl, by kernel_rfl, by kernel_rfl, by kernel_rfl, by kernel_rfl, by kernel_rfl, by kernel_rfl, trivial⟩ (by kernel_rfl)⟩
    · rw [if_neg (show ¬ q0 ≠ 0 by omega)] at hR; rw [if_neg (show ¬ q1 ≠ 0 by omega)] at hR; rw [if_pos e] at hR
      subst hR
      repeat (first | (refine zah rfl ?_; first | refine zai ?_ | refine gdr (zbn nm4 h4 rfl rfl rfl (by kernel_rfl) rfl rfl ⟨rfl, trivial⟩ (by kernel_rfl)) ?_) | (refine hK _ ?_; clear hK K) | refine zac rfl ?_ | exact zaj (show zau _ _ _ = some _ by kernel_rfl) | refine zag rfl rfl ?_ | refine zaf ?_ | refine zal ?_ | refine zab (fun K hK => ?_))
  · by_cases e : q3 = 0
    · skip
      repeat (first | (refine zah rfl ?_; first | refine zai ?_ | refine gdr (zbn nm1 h1 rfl rfl rfl (by kernel_rfl) rfl rfl ⟨rfl, rfl, rfl, rfl, rfl, trivial⟩ (by kernel_rfl)) ?_) | (refine hK _ ?_; clear hK K) | refine zac rfl ?_ | refine zag rfl rfl ?_ | refine zae rfl rfl ?_ | refine zaf ?_ | refine zal ?_ | refine zab (fun K hK => ?_))
      exact ⟨4, ⟨by omega, by omega, by omega, by omega, by omega⟩, by omega, zao _ _ ⟨by kernel_rfl, by kernel_rfl, by kernel_rfl, by kernel_rfl, by kernel_rfl, by kernel_rfl, by kernel_rfl, by kernel_rfl, by kernel_rfl, by kernel_rfl, by kernel_rfl, by kernel_rfl, by kernel_rfl, by kernel_rfl, trivial⟩ ⟨by kernel_rfl, by kernel_rfl, by kernel_rfl, by kernel_rfl, by kernel_rfl, by kernel_rfl, by kernel_rfl, by kernel_rfl, by kernel_rfl, by kernel_rfl, by kernel_rfl, trivial⟩ (by kernel_rfl)⟩
    · rw [if_neg (show ¬ q0 ≠ 0 by omega)] at hR; rw [if_neg (show ¬ q1 ≠ 0 by omega)] at hR; rw [if_neg (show ¬ q2 ≠ 0 by omega)] at hR; rw [if_pos e] at hR
      subst hR
      repeat (first | (refine zah rfl ?_; first | refine zai ?_ | refine gdr (zbn nm1 h1 rfl rfl rfl (by kernel_rfl) rfl rfl ⟨rfl, rfl, rfl, rfl, rfl, trivial⟩ (by kernel_rfl)) ?_) | (refine hK _ ?_; clear hK K) | refine zac rfl ?_ | exact zaj (show zau _ _ _ = some _ by kernel_rfl) | refine zag rfl rfl ?_ | refine zaf ?_ | refine zal ?_ | refine zab (fun K hK => ?_))
  · have y0 := x1 (by omega)
    have y1 := x2 (by omega)
    have y2 := x3 (by omega)
    have y3 := x4 (by omega)
    rw [if_neg (by omega), if_neg (by omega), if_neg (by omega), if_neg (by omega)] at hR
    rw [← hpb, ← hpm] at hd
    obtain ⟨m2, f2, t2, e2⟩ := D
    by_cases e : e2 = 0
    · subst e
      obtain ⟨d1, d2, d3, d4⟩ := hdg rfl
      have d1 : GM k.cd k.cp k.sz m2 f2 := d1
      have d2 : Al k.cd k.cp f2 t2 := d2
      have d3 : m2.length ≤ k.m.length + lw := d3
      have hd : Ok 60 [zbt k.sz k.m, .ag [cu k.pb, ci k.pm, cu k.pf], iu top, ii lw, iu a, ii l] (.tu [zbt k.sz m2, .ag [cu k.pb, ci k.pm, cu f2], .ag (zb0 t2 l (atM k.sz m2 t2 (idx a l))), ii 0]) := hd
      have hR : R = (z17 k (m2, f2, t2, 0) a pa l p (decide (id = -1)), 0) := hR
      have hu := (hmk (hpn y1) (hpk y2)).2.1
      have hwt := zeq k.sz m2 t2 l (atM k.sz m2 t2 (idx a l)) a (mkP (pa / 4096) p (decide (id = -1))) ha hu w1.1 w1.2 ⟨by have := d2.1; omega, by have := d2.1; omega⟩ d1.s d1.u (by omega)
      generalize atM k.sz m2 t2 (idx a l) = q at *
      have hp0 := hp.1
      have hp1 := hp.2
      by_cases c5 : id = -1
      · have hmp := zq5 (pa / 4096) p true
        rw [decide_eq_true c5] at hwt hR
        subst hR
        repeat (first | (refine zah rfl ?_; first | refine zai ?_ | refine gdr (zaa rfl rfl rfl (hd) (by kernel_rfl)) ?_ | refine gdr (zaa rfl rfl rfl (hmp) (by kernel_rfl)) ?_ | refine gdr (zaa rfl rfl rfl (hwt) (by kernel_rfl)) ?_) | (refine hK _ ?_; clear hK K) | (rename_i K1 hK1; refine hK1 _ ?_; clear hK hK1; clear K) | refine zac rfl ?_ | refine zas (by kernel_rfl) (by kernel_rfl) rfl ?_ | exact zaj (show zau _ _ _ = some _ by kernel_rfl) | refine zae rfl rfl ?_ | refine zaz ?_ | refine zal ?_ | refine zab (fun K hK => ?_))
      · have hmp := zq5 (pa / 4096) p false
        rw [decide_eq_false c5] at hwt hR
        subst hR
        repeat (first | (refine zah rfl ?_; first | refine zai ?_ | refine gdr (zaa rfl rfl rfl (hd) (by kernel_rfl)) ?_ | refine gdr (zaa rfl rfl rfl (hmp) (by kernel_rfl)) ?_ | refine gdr (zaa rfl rfl rfl (hwt) (by kernel_rfl)) ?_) | (refine hK _ ?_; clear hK K) | (rename_i K1 hK1; refine hK1 _ ?_; clear hK hK1; clear K) | refine zac rfl ?_ | refine zas (by kernel_rfl) (by kernel_rfl) rfl ?_ | exact zaj (show zau _ _ _ = some _ by kernel_rfl) | refine zae rfl rfl ?_ | refine zaz ?_ | refine zal ?_ | refine zab (fun K hK => ?_))
    · rw [if_neg (show ¬ (m2, f2, t2, e2).2.2.2 = 0 from e)] at hd
      rw [if_pos (show (m2, f2, t2, e2).2.2.2 ≠ 0 from e)] at hR
      have hd : Ok 60 [zbt k.sz k.m, .ag [cu k.pb, ci k.pm, cu k.pf], iu top, ii lw, iu a, ii l] (.tu [zbt k.sz k.m, .ag [cu k.pb, ci k.pm, cu k.pf], .ag (zb0 0 0 zP), ii e2]) := hd
      have hR : R = (k, e2) := hR
      subst hR
      repeat (first | (refine zah rfl ?_; first | refine zai ?_ | refine gdr (zaa rfl rfl rfl (hd) (by kernel_rfl)) ?_) | (refine hK _ ?_; clear hK K) | (rename_i K1 hK1; refine hK1 _ ?_; clear hK hK1; clear K) | refine zac rfl ?_ | exact zaj (show zau _ _ _ = some _ by kernel_rfl) | refine zag rfl rfl ?_ | refine zae rfl rfl ?_ | refine zaz ?_ | refine zab (fun K hK => ?_))
end Go.Proofs.YtomeaibdedaldaaGreatDoor.LaG
namespace Go.Proofs.YtomeaibdedaldaaGreatDoor.LiA
open Go.RowKit Bv VaSpec Base MemL RegR Ax MemC PutC MemC3 TzC OkS SpA SpB SpC SpD SpF SpH SpI SpJ SpN SpO RfP RfQ LaA LaB LaC LaD LaE LaF LaG
open BitsC PteSpec
set_option maxRecDepth 10000
set_option maxHeartbeats 1000000
def KOk (al : Int → Prop) (lv : Int → Int) (s : Int) (p : Pte) : Prop := al s ∧ (0 ≤ lv s ∧ lv s ≤ 2) ∧ ((zat p = true ∧ zdt p (lv s) = false) ∨ (lkP p = true ∧ 1 ≤ lv s ∧ lv p.ppn = lv s - 1 ∧ al p.ppn))
structure TE (E : Int → Int → Pte) (al : Int → Prop) (sh : Int) (lv : Int → Int) : Prop where
  k : ∀ s i, (0 ≤ i ∧ i < 512) → E s i = zP ∨ KOk al lv s (E s i)
  u : ∀ s i t j, (0 ≤ i ∧ i < 512) → (0 ≤ j ∧ j < 512) → lkP (E s i) = true → lkP (E t j) = true → (E s i).ppn = (E t j).ppn → (E s i).ppn ≠ sh → s = t ∧ i = j
  s : ∀ s i, (0 ≤ i ∧ i < 512) → lkP (E s i) = true → (E s i).ppn = sh → i = 511 ∧ lv s = 2
section
variable {E E' : Int → Int → Pte} {al al' : Int → Prop} {sh : Int} {lv lv' : Int → Int}
theorem TE.sub (h : TE E al sh lv) (hs : ∀ s i, (0 ≤ i ∧ i < 512) → E' s i = zP ∨ E' s i = E s i) : TE E' al sh lv := by
  have key : ∀ s i, (0 ≤ i ∧ i < 512) → lkP (E' s i) = true → E' s i = E s i := fun s i hi hl => by
    rcases hs s i hi with e | e
    · rw [e] at hl; cases hl
    · exact e
  refine ⟨fun s i hi => ?_, fun s i t j hi hj h1 h2 h3 h4 => ?_, fun s i hi h1 h2 => ?_⟩
  · rcases hs s i hi with e | e
    · exact .inl e
    · rw [e]; exact h.k s i hi
  · have e1 := key s i hi h1
    have e2 := key t j hj h2
    rw [e1] at h1 h3 h4; rw [e2] at h2 h3
    exact h.u s i t j hi hj h1 h2 h3 h4
  · have e1 := key s i hi h1
    rw [e1] at h1 h2; exact h.s s i hi h1 h2
theorem TE.fr (h : TE E al sh lv) (hs : ∀ s i, (0 ≤ i ∧ i < 512) → E s i ≠ zP → al' s) (hp : ∀ s i, (0 ≤ i ∧ i < 512) → lkP (E s i) = true → al' (E s i).ppn) : TE E al' sh lv := by
  refine ⟨fun s i hi => ?_, h.u, h.s⟩
  by_cases e : E s i = zP
  · exact .inl e
  · rcases h.k s i hi with e2 | ⟨a, b, c⟩
    · exact absurd e2 e
    · refine .inr ⟨hs s i hi e, b, ?_⟩
      rcases c with c | ⟨c1, c2, c3, c4⟩
      · exact .inl c
      · exact .inr ⟨c1, c2, c3, hp s i hi c1⟩
theorem TE.mono (h : TE E al sh lv) (ha : ∀ s, al s → al' s) : TE E al' sh lv :=
  h.fr (fun s i hi e => by
    rcases h.k s i hi with e2 | ⟨a, _⟩
    · exact absurd e2 e
    · exact ha _ a) (fun s i hi hl => by
    rcases h.k s i hi with e2 | ⟨_, _, ⟨c, _⟩ | ⟨_, _, _, c⟩⟩
    · rw [e2] at hl; cases hl
    · have := (zbz hl).2.2; rw [c] at this; cases this
    · exact ha _ c)
theorem zdp {p : Pte} (h : zat p = true) : lkP p = false := by
  cases e : lkP p with
  | false => rfl
  | true => have := (zbz e).2.2; rw [h] at this; cases this
theorem TE.leaf (h : TE E al sh lv) {t i : Int} {p : Pte} (ht : al t) (hl : 0 ≤ lv t ∧ lv t ≤ 2) (h1 : zat p = true) (h2 : zdt p (lv t) = false) (he : ∀ s j, (0 ≤ j ∧ j < 512) → E' s j = if s = t ∧ j = i then p else E s j) : TE E' al sh lv := by
  have key : ∀ s j, (0 ≤ j ∧ j < 512) → lkP (E' s j) = true → E' s j = E s j := fun s j hj hlk => by
    rw [he s j hj] at hlk ⊢
    split
    · rename_i c; rw [if_pos c, zdp h1] at hlk; cases hlk
    · rfl
  refine ⟨fun s j hj => ?_, fun s i t j hi hj a1 a2 a3 a4 => ?_, fun s i hi a1 a2 => ?_⟩
  · rw [he s j hj]
    split
    · rename_i c; rw [c.1]; exact .inr ⟨ht, hl, .inl ⟨h1, h2⟩⟩
    · exact h.k s j hj
  · have e1 := key s i hi a1
    have e2 := key t j hj a2
    rw [e1] at a1 a3 a4; rw [e2] at a2 a3
    exact h.u s i t j hi hj a1 a2 a3 a4
  · have e1 := key s i hi a1
    rw [e1] at a1 a2; exact h.s s i hi a1 a2
def upL (lv : Int → Int) (g l : Int) : Int → Int := fun s => if s = g then l else lv s
theorem TE.link (h : TE E al sh lv) {t i g : Int} (ha : ∀ s, al s → al' s ∧ s ≠ g) (hg : al' g) (ht : al t) (hl : 1 ≤ lv t ∧ lv t ≤ 2) (hi : 0 ≤ i ∧ i < 512) (hsh : al sh) (hn : lkP (E t i) = false)
    (he : ∀ s j, (0 ≤ j ∧ j < 512) → E' s j = if s = t ∧ j = i then lnk g else E s j) : TE E' al' sh (upL lv g (lv t - 1)) := by
  have hgs : g ≠ sh := fun e => (ha _ hsh).2 e.symm
  have hgt : t ≠ g := (ha _ ht).2
  have hlv : ∀ s, al s → upL lv g (lv t - 1) s = lv s := fun s hs => if_neg (ha s hs).2
  have nog : ∀ s j, (0 ≤ j ∧ j < 512) → lkP (E s j) = true → (E s j).ppn ≠ g := fun s j hj hlk => by
    rcases h.k s j hj with e2 | ⟨_, _, ⟨c, _⟩ | ⟨_, _, _, c⟩⟩
    · rw [e2] at hlk; cases hlk
    · rw [zdp c] at hlk; cases hlk
    · exact (ha _ c).2
  refine ⟨fun s j hj => ?_, fun s a t' b ha' hb h1 h2 h3 h4 => ?_, fun s j hj h1 h2 => ?_⟩
  · rw [he s j hj]
    split
    · rename_i c
      rw [c.1]
      refine .inr ⟨(ha _ ht).1, by rw [hlv t ht]; omega, .inr ⟨rfl, by rw [hlv t ht]; exact hl.1, ?_, hg⟩⟩
      rw [hlv t ht]
      exact if_pos rfl
    · rcases h.k s j hj with e | ⟨a, b, c⟩
      · exact .inl e
      · refine .inr ⟨(ha _ a).1, by rw [hlv s a]; exact b, ?_⟩
        rw [hlv s a]
        rcases c with c | ⟨c1, c2, c3, c4⟩
        · exact .inl c
        · exact .inr ⟨c1, c2, by rw [hlv _ c4]; exact c3, (ha _ c4).1⟩
  · rw [he s a ha'] at h1 h3 h4
    rw [he t' b hb] at h2 h3
    by_cases c1 : s = t ∧ a = i
    · by_cases c2 : t' = t ∧ b = i
      · exact ⟨c1.1.trans c2.1.symm, c1.2.trans c2.2.symm⟩
      · rw [if_pos c1, if_neg c2] at h3
        rw [if_neg c2] at h2
        exact absurd h3.symm (nog t' b hb h2)
    · by_cases c2 : t' = t ∧ b = i
      · rw [if_neg c1, if_pos c2] at h3
        rw [if_neg c1] at h1
        exact absurd h3 (nog s a ha' h1)
      · rw [if_neg c1] at h1 h3 h4
        rw [if_neg c2] at h2 h3
        exact h.u s a t' b ha' hb h1 h2 h3 h4
  · rw [he s j hj] at h1 h2
    by_cases c : s = t ∧ j = i
    · rw [if_pos c] at h2
      exact absurd h2 hgs
    · rw [if_neg c] at h1 h2
      obtain ⟨a1, a2⟩ := h.s s j hj h1 h2
      refine ⟨a1, ?_⟩
      rcases h.k s j hj with e | ⟨a, _⟩
      · rw [e] at h1; cases h1
      · rw [hlv s a]; exact a2
end
theorem zn5 (A B : Int) : ∀ (xs : List (Int × Int)) (a : Int), Srt xs → MemC.look (xs.filter (zka A B)) a = if A ≤ a ∧ a < B then 0 else MemC.look xs a
  | [], a, _ => by rw [show MemC.look (([] : List (Int × Int)).filter (zka A B)) a = 0 from rfl, zl7]; split <;> rfl
  | c :: cs, a, hs => by
    have hs' := List.pairwise_cons.1 hs
    have hgt : ∀ b : Int, b ≤ c.1 → MemC.look cs b = 0 := fun b hb => zcy fun d hd => by have := hs'.1 d hd; omega
    have IH := zn5 A B cs a hs'.2
    by_cases h : zka A B c = true
    · rw [List.filter_cons, if_pos h, zcz, zcz, IH]
      unfold zka at h
      rw [Bool.or_eq_true, decide_eq_true_eq, decide_eq_true_eq] at h
      (repeat' split) <;> first | rfl | omega
    · rw [List.filter_cons, if_neg h, IH, zcz]
      unfold zka at h
      rw [Bool.or_eq_true, decide_eq_true_eq, decide_eq_true_eq] at h
      (repeat' split) <;> first | rfl | omega | (rw [hgt a (by omega)]; done) | (rw [hgt a (by omega)]; omega)
structure TI (cd cp sz : Int) (xs : List (Int × Int)) (f sh : Int) (lv : Int → Int) : Prop where
  bd : 1 ≤ cd ∧ cd ≤ 524288
  bp : 1 ≤ cp ∧ cp ≤ 64
  bz : sz = (cd + cp) * 4096
  bf : 0 ≤ f ∧ f < 2 ^ cp.toNat
  s : Srt xs
  r : ∀ c ∈ xs, (cd * 512 ≤ c.1 ∧ c.1 < (cd + cp) * 512) ∧ U c.2 ∧ c.2 ≠ 0
  e : TE (atM sz xs) (Al cd cp f) sh lv
theorem look_mem : ∀ {xs : List (Int × Int)} {c : Int × Int}, Srt xs → c ∈ xs → MemC.look xs c.1 = c.2
  | x :: xs, c, hs, hc => by
    have hs' := List.pairwise_cons.1 hs
    rw [zcz]
    rcases List.mem_cons.1 hc with rfl | hc
    · rw [if_neg (by omega), if_pos rfl]
    · rw [if_pos (hs'.1 c hc), look_mem hs'.2 hc]
section
variable {cd cp sz f sh : Int} {xs : List (Int × Int)} {lv : Int → Int}
theorem TI.mem (h : TI cd cp sz xs f sh lv) {c : Int × Int} (hc : c ∈ xs) : atM sz xs (c.1 / 512) (c.1 % 512) = zay c.2 := by
  obtain ⟨⟨a, b⟩, _⟩ := h.r c hc
  have hz := h.bz
  unfold atM zbo
  rw [if_pos (by rw [hz]; omega), show (c.1 / 512 * 4096 + c.1 % 512 * 8) / 8 = c.1 by omega, look_mem h.s hc]
theorem zze {v : Int} (hv : U v) (h : v ≠ 0) : zay v ≠ zP := fun e => h (by
  have := zhm v hv.1 hv.2
  rw [e] at this
  exact this.symm.trans (by decide))
theorem TI.gm (h : TI cd cp sz xs f sh lv) : GM cd cp sz xs f := ⟨h.bd, h.bp, h.bz, h.bf, h.s, fun c hc => by
  obtain ⟨_, hu, h0⟩ := h.r c hc
  have hk := h.e.k (c.1 / 512) (c.1 % 512) (by omega)
  rw [h.mem hc] at hk
  rcases hk with e | ⟨a, _, k⟩
  · exact absurd e (zze hu h0)
  · refine ⟨a, hu, ?_⟩
    rcases k with k | k
    · exact .inl k.1
    · exact .inr ⟨k.1, k.2.2.2⟩⟩
theorem TI.uf (h : TI cd cp sz xs f sh lv) : U f := h.gm.uf
theorem TI.u (h : TI cd cp sz xs f sh lv) : Uw xs := h.gm.u
theorem TI.put (h : TI cd cp sz xs f sh lv) {t i v : Int} {f' : Int} {lv' : Int → Int} (ht : cd ≤ t ∧ t < cd + cp) (hi : 0 ≤ i ∧ i < 512) (hv : U v) (hf : 0 ≤ f' ∧ f' < 2 ^ cp.toNat)
    (he : ∀ E', (∀ s j, (0 ≤ j ∧ j < 512) → E' s j = if s = t ∧ j = i then zay v else atM sz xs s j) → TE E' (Al cd cp f') sh lv') : TI cd cp sz (zby xs (t * 512 + i) v) f' sh lv' :=
  ⟨h.bd, h.bp, h.bz, hf, zen _ _ _ h.s, fun c hc => by
    rcases zcx _ _ _ _ hc with hc | ⟨rfl, hv0⟩
    · exact h.r c hc
    · exact ⟨⟨by show cd * 512 ≤ t * 512 + i; omega, by show t * 512 + i < (cd + cp) * 512; omega⟩, hv, hv0⟩, he _ fun s j hj => by
    by_cases hd : s * 4096 + j * 8 < sz
    · exact zg7 h.s hi hj hd
    · have hz := h.bz
      rw [if_neg (by rintro ⟨rfl, rfl⟩; omega)]
      unfold atM zbo
      rw [if_neg hd, if_neg hd]⟩
theorem zmb (hs : Srt xs) (g s j : Int) (hj : 0 ≤ j ∧ j < 512) : atM sz (TableC.zav xs g) s j = if s = g then zP else atM sz xs s j := by
  unfold atM zbo
  by_cases d : s * 4096 + j * 8 < sz
  · rw [if_pos d, if_pos d, zg6 _ _ hs, zn5 _ _ _ _ hs, show (s * 4096 + j * 8) / 8 = s * 512 + j by omega]
    by_cases c : s = g
    · rw [if_pos (show g * 512 ≤ s * 512 + j ∧ s * 512 + j < g * 512 + 512 by omega), if_pos c]
      exact zom
    · rw [if_neg (show ¬ (g * 512 ≤ s * 512 + j ∧ s * 512 + j < g * 512 + 512) by omega), if_neg c]
  · rw [if_neg d, if_neg d, zom]
    split <;> rfl
theorem TI.wipe (h : TI cd cp sz xs f sh lv) (g : Int) {f' : Int} (hf : 0 ≤ f' ∧ f' < 2 ^ cp.toNat) (he : ∀ E', (∀ s j, (0 ≤ j ∧ j < 512) → E' s j = if s = g then zP else atM sz xs s j) → TE E' (Al cd cp f') sh lv) : TI cd cp sz (TableC.zav xs g) f' sh lv :=
  ⟨h.bd, h.bp, h.bz, hf, zcd _ h.s, fun c hc => h.r c (ze5 hc), he _ fun s j hj => zmb h.s g s j hj⟩
end
end Go.Proofs.YtomeaibdedaldaaGreatDoor.LiA
namespace Go.Proofs.YtomeaibdedaldaaGreatDoor.LiB
open Go.RowKit Bv VaSpec Base MemL RegR Ax MemC PutC MemC3 TzC OkS SpA SpB SpC SpD SpF SpH SpI SpJ SpN SpO RfP RfQ LaA LaB LaC LaD LaE LaF LaG LiA
open BitsC PteSpec
set_option maxRecDepth 10000
set_option maxHeartbeats 1000000
def prt (q : Pte) (l i : Int) : Pte := { q with ppn := q.ppn + i * (VaSpec.sz (l - 1) / 4096) }
def zf6 (xs : List (Int × Int)) (g : Int) (v : Nat → Int) : Nat → List (Int × Int)
  | 0 => xs
  | n + 1 => zby (zf6 xs g v n) (g * 512 + n) (v n)
theorem zhz {xs : List (Int × Int)} {g : Int} {v : Nat → Int} (h : Srt xs) : ∀ n, Srt (zf6 xs g v n)
  | 0 => h
  | n + 1 => zen _ _ _ (zhz h n)
theorem zmc (xs : List (Int × Int)) (g : Int) (v : Nat → Int) : ∀ n, (zf6 xs g v n).length ≤ xs.length + n
  | 0 => Nat.le_refl _
  | n + 1 => by
    have := zl3 (zf6 xs g v n) (g * 512 + n) (v n)
    have := zmc xs g v n
    show (zby (zf6 xs g v n) (g * 512 + n) (v n)).length ≤ _
    omega
theorem zmd {xs : List (Int × Int)} {g : Int} {v : Nat → Int} : ∀ (n : Nat) (c : Int × Int), c ∈ zf6 xs g v n → c ∈ xs ∨ ∃ i : Nat, i < n ∧ c = (g * 512 + i, v i) ∧ v i ≠ 0
  | 0, c, h => .inl h
  | n + 1, c, h => by
    rcases zcx _ _ _ _ h with h | ⟨e, hv⟩
    · rcases zmd n c h with h | ⟨i, hi, e⟩
      · exact .inl h
      · exact .inr ⟨i, by omega, e⟩
    · exact .inr ⟨n, by omega, e, hv⟩
theorem zrf {xs : List (Int × Int)} {g : Int} {v : Nat → Int} (h : Srt xs) (a : Int) : ∀ n : Nat, MemC.look (zf6 xs g v n) a = if g * 512 ≤ a ∧ a < g * 512 + n then v (a - g * 512).toNat else MemC.look xs a
  | 0 => by rw [if_neg (by omega)]; rfl
  | n + 1 => by
    show MemC.look (zby (zf6 xs g v n) (g * 512 + n) (v n)) a = _
    rw [zl8 _ _ _ _ (zhz h n), zrf h a n]
    by_cases c : a = g * 512 + n
    · rw [if_pos c, if_pos (by omega)]
      congr 1; omega
    · rw [if_neg c]
      by_cases d : g * 512 ≤ a ∧ a < g * 512 + n
      · rw [if_pos d, if_pos (by omega)]
      · rw [if_neg d, if_neg (by omega)]
theorem z3g {sz : Int} {xs : List (Int × Int)} {g : Int} {v : Nat → Int} (h : Srt xs) (hg : g * 4096 + 4096 ≤ sz) (s j : Int) (hj : 0 ≤ j ∧ j < 512) : atM sz (zf6 xs g v 512) s j = if s = g then zay (v j.toNat) else atM sz xs s j := by
  unfold atM zbo
  by_cases d : s * 4096 + j * 8 < sz
  · rw [if_pos d, if_pos d, zrf h, show (s * 4096 + j * 8) / 8 = s * 512 + j by omega]
    by_cases c : s = g
    · subst c
      rw [if_pos rfl, if_pos (by omega), show s * 512 + j - s * 512 = j by omega]
    · rw [if_neg c, if_neg (by omega)]
  · rw [if_neg d, if_neg d, if_neg (by rintro rfl; omega)]
theorem z4w {l : Int} (h : 1 ≤ l ∧ l ≤ 2) : l = 1 ∨ l = 2 := by omega
theorem zea {q : Pte} {l i : Int} (hU : q.U) (hm : zhe q = true) (hl : 1 ≤ l ∧ l ≤ 2) (h1 : zat q = true) (h2 : zdt q l = false) (hi : 0 ≤ i ∧ i < 512) :
    (prt q l i).U ∧ zhe (prt q l i) = true ∧ zat (prt q l i) = true ∧ zdt (prt q l i) (l - 1) = false := by
  obtain ⟨v, r, w, x, u, g, a, d, rsw, ppn, high⟩ := q
  rw [zdd] at hm
  have hlk := (zbr h1).1
  unfold Pte.U at hU
  unfold zdt at h2
  simp only at hm hU h2
  split at h2
  · cases h2
  · rename_i h3
    rw [hlk] at h2
    rw [if_neg (by simp)] at h2
    have hmod : ppn % (VaSpec.sz l / 4096) = 0 := by simpa using h2
    have hlk2 : zbf (prt ⟨v, r, w, x, u, g, a, d, rsw, ppn, high⟩ l i) = false := hlk
    have hb : ∀ n, (prt ⟨v, r, w, x, u, g, a, d, rsw, ppn, high⟩ l i).ppn = n → n % (VaSpec.sz (l - 1) / 4096) = 0 → zdt (prt ⟨v, r, w, x, u, g, a, d, rsw, ppn, high⟩ l i) (l - 1) = false := fun n e hn => by
      unfold zdt
      rw [hlk2, e, hn]
      show (if (!v || w && !r || high != 0) = true then true else if (false = true) then _ else !(0 == 0)) = false
      rw [if_neg h3]
      rfl
    rcases z4w hl with rfl | rfl
    · have hmod : ppn % 512 = 0 := hmod
      have e : (prt ⟨v, r, w, x, u, g, a, d, rsw, ppn, high⟩ 1 i).ppn = ppn + i * 1 := rfl
      refine ⟨?_, ?_, h1, hb _ e (by show (ppn + i * 1) % 1 = 0; omega)⟩
      · unfold Pte.U; rw [e]; show _ ∧ (0 ≤ ppn + i * 1 ∧ _) ∧ _; refine ⟨hU.1, by omega, hU.2.2⟩
      · rw [zdd, e]; refine ⟨hm.1, by omega, hm.2.2⟩
    · have hmod : ppn % 262144 = 0 := hmod
      have e : (prt ⟨v, r, w, x, u, g, a, d, rsw, ppn, high⟩ 2 i).ppn = ppn + i * 512 := rfl
      refine ⟨?_, ?_, h1, hb _ e (by show (ppn + i * 512) % 512 = 0; omega)⟩
      · unfold Pte.U; rw [e]; show _ ∧ (0 ≤ ppn + i * 512 ∧ _) ∧ _; refine ⟨hU.1, by omega, hU.2.2⟩
      · rw [zdd, e]; refine ⟨hm.1, by omega, hm.2.2⟩
theorem zrg {q : Pte} (hU : q.U) (hm : zhe q = true) : zay (PteC.zcp q) = q := by
  unfold PteC.zcp
  rw [if_pos hm, zfz _ hU hm]
theorem TE.row {E E' : Int → Int → Pte} {al : Int → Prop} {sh : Int} {lv : Int → Int} (h : TE E al sh lv) {g : Int} {p : Int → Pte} (hg : al g) (hl : 0 ≤ lv g ∧ lv g ≤ 2) (hp : ∀ j, (0 ≤ j ∧ j < 512) → zat (p j) = true ∧ zdt (p j) (lv g) = false)
    (he : ∀ s j, (0 ≤ j ∧ j < 512) → E' s j = if s = g then p j else E s j) : TE E' al sh lv := by
  have key : ∀ s j, (0 ≤ j ∧ j < 512) → lkP (E' s j) = true → E' s j = E s j := fun s j hj hlk => by
    rw [he s j hj] at hlk ⊢
    split
    · rename_i c; rw [if_pos c, zdp (hp j hj).1] at hlk; cases hlk
    · rfl
  refine ⟨fun s j hj => ?_, fun s i t j hi hj a1 a2 a3 a4 => ?_, fun s i hi a1 a2 => ?_⟩
  · rw [he s j hj]
    split
    · rename_i c; rw [c]; exact .inr ⟨hg, hl, .inl (hp j hj)⟩
    · exact h.k s j hj
  · have e1 := key s i hi a1
    have e2 := key t j hj a2
    rw [e1] at a1 a3 a4; rw [e2] at a2 a3
    exact h.u s i t j hi hj a1 a2 a3 a4
  · have e1 := key s i hi a1
    rw [e1] at a1 a2; exact h.s s i hi a1 a2
def zko (sz : Int) (xs : List (Int × Int)) (t i l : Int) (q : Pte) (g : Int) : List (Int × Int) := za1 sz (zf6 xs g (fun j => PteC.zcp (prt q l j)) 512) t i (lnk g)
section
variable {cd cp sz f sh : Int} {xs : List (Int × Int)} {lv : Int → Int}
theorem zju {sz s i : Int} {xs : List (Int × Int)} (hu : Uw xs) : zhe (atM sz xs s i) = true := zuh _ (zgl hu _ _).1 (zgl hu _ _).2
theorem zc8 (h : TI cd cp sz xs f sh lv) (h0 : f ≠ 0) : (∀ s, Al cd cp f s → Al cd cp (zbk f (tzI f) 1 0) s ∧ s ≠ cd + tzI f) ∧ Al cd cp (zbk f (tzI f) 1 0) (cd + tzI f) ∧ (0 ≤ tzI f ∧ tzI f < cp) ∧ (0 ≤ zbk f (tzI f) 1 0 ∧ zbk f (tzI f) 1 0 < 2 ^ cp.toNat) := by
  have hb := h.bp
  obtain ⟨a1, a2⟩ := h.gm.al h0
  have t1 := zct h.uf h.bf.2 h0
  exact ⟨fun s hs => ⟨(h.gm.take h0 hs).2, (h.gm.take h0 hs).1⟩, a1, a2, ⟨(ze8 _ _ _ _).1, zgn h.uf h.bf.2 t1.1 (by omega)⟩⟩
theorem zvj (h : TI cd cp sz xs f sh lv) (h0 : f ≠ 0) {t i l : Int} {q : Pte} (ht : Al cd cp f t) (hi : 0 ≤ i ∧ i < 512) (hl : 1 ≤ l ∧ l ≤ 2) (hq : q = atM sz xs t i) (h1 : zat q = true) (h2 : zdt q l = false) (s j : Int) (hj : 0 ≤ j ∧ j < 512) :
    atM sz (zko sz xs t i l q (cd + tzI f)) s j = if s = t ∧ j = i then lnk (cd + tzI f) else if s = cd + tzI f then prt q l j else atM sz xs s j := by
  obtain ⟨a0, a1, a2, a3⟩ := zc8 h h0
  have b1 := h.bd
  have b2 := h.bp
  have bz := h.bz
  have bt := ht.1
  have hU : q.U := by rw [hq]; exact zhq h.u _ _ _
  have hm : zhe q = true := by rw [hq]; exact zju h.u
  have hn : 0 ≤ cd + tzI f ∧ cd + tzI f < 17592186044416 := by omega
  have hrow := fun s j hj => z3g (sz := sz) (v := fun j => PteC.zcp (prt q l j)) h.s (show (cd + tzI f) * 4096 + 4096 ≤ sz by omega) s j hj
  have hpr : ∀ j, (0 ≤ j ∧ j < 512) → zay (PteC.zcp (prt q l ((j.toNat : Nat) : Int))) = prt q l j := fun j hj => by
    obtain ⟨f1, f2, _, _⟩ := zea hU hm hl h1 h2 hj
    rw [show ((j.toNat : Nat) : Int) = j by omega]
    exact zrg f1 f2
  unfold zko
  rw [zd8 (zg8 hn) (by omega) hi (by omega)]
  by_cases hd : s * 4096 + j * 8 < sz
  · rw [zg7 (zhz h.s 512) hi hj hd, hrow s j hj, zf5 hn, hpr j hj]
  · have hs1 : ¬ (s = t ∧ j = i) := by rintro ⟨rfl, rfl⟩; omega
    have hs2 : s ≠ cd + tzI f := by rintro rfl; omega
    rw [if_neg hs1, if_neg hs2]
    unfold atM zbo
    rw [if_neg hd, if_neg hd]
theorem zvk (h : TI cd cp sz xs f sh lv) (h0 : f ≠ 0) {t i l : Int} {q : Pte} (ht : Al cd cp f t) (hsh : Al cd cp f sh) (hi : 0 ≤ i ∧ i < 512) (hlv : lv t = l) (hl : 1 ≤ l ∧ l ≤ 2) (hq : q = atM sz xs t i) (h1 : zat q = true) (h2 : zdt q l = false) :
    TI cd cp sz (zko sz xs t i l q (cd + tzI f)) (zbk f (tzI f) 1 0) sh (upL lv (cd + tzI f) (l - 1)) := by
  obtain ⟨a0, a1, a2, a3⟩ := zc8 h h0
  have b1 := h.bd
  have b2 := h.bp
  have bz := h.bz
  have bt := ht.1
  have hU : q.U := by rw [hq]; exact zhq h.u _ _ _
  have hm : zhe q = true := by rw [hq]; exact zju h.u
  have hn : 0 ≤ cd + tzI f ∧ cd + tzI f < 17592186044416 := by omega
  have hw : zko sz xs t i l q (cd + tzI f) = zby (zf6 xs (cd + tzI f) (fun j => PteC.zcp (prt q l j)) 512) (t * 512 + i) (PteC.zcp (lnk (cd + tzI f))) := by
    unfold zko
    rw [zd8 (zg8 hn) (by omega) hi (by omega)]
  refine ⟨h.bd, h.bp, h.bz, a3, ?_, fun c hc => ?_, ?_⟩
  · rw [hw]; exact zen _ _ _ (zhz h.s 512)
  · rw [hw] at hc
    rcases zcx _ _ _ _ hc with hc | ⟨rfl, hv⟩
    · rcases zmd _ _ hc with hc | ⟨j, hj, rfl, hv⟩
      · exact h.r c hc
      · obtain ⟨f1, f2, _, _⟩ := zea hU hm hl h1 h2 (i := (j : Int)) (by omega)
        exact ⟨⟨by show cd * 512 ≤ (cd + tzI f) * 512 + j; omega, by show (cd + tzI f) * 512 + j < (cd + cp) * 512; omega⟩, ze9 _ f1, hv⟩
    · exact ⟨⟨by show cd * 512 ≤ t * 512 + i; omega, by show t * 512 + i < (cd + cp) * 512; omega⟩, ze9 _ (zg8 hn), hv⟩
  · have hgt : cd + tzI f ≠ t := fun e => (a0 _ ht).2 e.symm
    have E1 := h.e.link (E' := fun s j => if s = t ∧ j = i then lnk (cd + tzI f) else atM sz xs s j) (g := cd + tzI f) a0 a1 ht (by omega) hi hsh (by rw [← hq]; exact zdp h1) (fun s j _ => rfl)
    rw [hlv] at E1
    have hlg : upL lv (cd + tzI f) (l - 1) (cd + tzI f) = l - 1 := if_pos rfl
    refine TE.row E1 (g := cd + tzI f) (p := fun j => prt q l j) a1 (by rw [hlg]; omega) (fun j hj => ?_) (fun s j hj => ?_)
    · obtain ⟨_, _, f3, f4⟩ := zea hU hm hl h1 h2 hj
      rw [hlg]; exact ⟨f3, f4⟩
    · rw [zvj h h0 ht hi hl hq h1 h2 s j hj]
      by_cases c : s = t ∧ j = i
      · rw [if_pos c, if_neg (by rw [c.1]; exact fun e => hgt e.symm), if_pos c]
      · rw [if_neg c]
        by_cases d : s = cd + tzI f
        · rw [if_pos d, if_pos d]
        · rw [if_neg d, if_neg d, if_neg c]
theorem zvl (sz : Int) (xs : List (Int × Int)) (t i l : Int) (q : Pte) (g : Int) : (zko sz xs t i l q g).length ≤ xs.length + 513 := by
  unfold zko
  have := zg4 sz (zf6 xs g (fun j => PteC.zcp (prt q l j)) 512) t i (lnk g)
  have := zmc xs g (fun j => PteC.zcp (prt q l j)) 512
  omega
theorem zeo (h : TI cd cp sz xs f sh lv) (addr zam : Int) (hw : 0 ≤ zam) : ∀ (l : Nat) (t : Int), Al cd cp f t → lv t = l → zam ≤ (l : Int) →
    ∃ (l' : Nat) (t' : Int), zaq sz xs addr zam l t = (t', (l' : Int)) ∧ l' ≤ l ∧ zam ≤ (l' : Int) ∧ Al cd cp f t' ∧ lv t' = (l' : Int) ∧ (zam < (l' : Int) → za2 (atM sz xs t' (idx addr (l' : Int))) (l' : Int) = false) ∧
      (∀ xs', (∀ s i, Al cd cp f s → (0 ≤ i ∧ i < 512) → zbf (atM sz xs s i) = true → atM sz xs' s i = atM sz xs s i) → zaq sz xs' addr zam l t = zaq sz xs' addr zam l' t')
  | 0, t, ht, hl, hwl => ⟨0, t, rfl, Nat.le_refl _, hwl, ht, hl, fun hh => by omega, fun _ _ => rfl⟩
  | l + 1, t, ht, hl, hwl => by
    have hi := idx_bd addr ((l + 1 : Nat) : Int)
    have hk := EOk.kinds (h.gm.at t (idx addr ((l + 1 : Nat) : Int))) (l := ((l + 1 : Nat) : Int)) (by omega)
    by_cases c1 : zam < ((l + 1 : Nat) : Int)
    · rcases hk with ⟨_, _, k3⟩ | ⟨_, _, k3⟩ | ⟨k1, k2, k3, k4, k5⟩
      · exact ⟨l + 1, t, za8 (fun _ => k3) hw, Nat.le_refl _, hwl, ht, hl, fun _ => k3, fun _ _ => rfl⟩
      · exact ⟨l + 1, t, za8 (fun _ => k3) hw, Nat.le_refl _, hwl, ht, hl, fun _ => k3, fun _ _ => rfl⟩
      · have hlk : lv (atM sz xs t (idx addr ((l + 1 : Nat) : Int))).ppn = (l : Int) := by
          rcases h.e.k t _ hi with e | ⟨_, _, ⟨c, _⟩ | ⟨_, _, c, _⟩⟩
          · rw [e] at k1; cases k1
          · rw [k2] at c; cases c
          · rw [c, hl]; omega
        obtain ⟨l', t', i1, i2, i3, i4, i5, i6, i7⟩ := zeo h addr zam hw l _ k5 hlk (by omega)
        refine ⟨l', t', (zbc c1 k3).trans i1, by omega, i3, i4, i5, i6, fun xs' hx => ?_⟩
        have e := hx t _ ht hi k4
        rw [zbc c1 (by rw [e]; exact k3), e]
        exact i7 xs' hx
    · exact ⟨l + 1, t, za8 (fun hh => absurd hh c1) hw, Nat.le_refl _, hwl, ht, hl, fun hh => absurd hh c1, fun _ _ => rfl⟩
end
def toN (sz cd addr zam top : Int) (lv : Nat) : Nat → List (Int × Int) → Int → List (Int × Int) × Int × (Int × Int) × Int
  | 0, xs, f => (xs, f, zaq sz xs addr zam lv top, 0)
  | n + 1, xs, f =>
    if (zaq sz xs addr zam lv top).2 = zam ∨ zat (atM sz xs (zaq sz xs addr zam lv top).1 (idx addr (zaq sz xs addr zam lv top).2)) = false then (xs, f, zaq sz xs addr zam lv top, 0)
    else if f = 0 then (xs, f, zaq sz xs addr zam lv top, 8)
    else toN sz cd addr zam top lv n (zko sz xs (zaq sz xs addr zam lv top).1 (idx addr (zaq sz xs addr zam lv top).2) (zaq sz xs addr zam lv top).2 (atM sz xs (zaq sz xs addr zam lv top).1 (idx addr (zaq sz xs addr zam lv top).2)) (cd + tzI f)) (zbk f (tzI f) 1 0)
section
variable {cd cp sz f sh : Int} {xs : List (Int × Int)} {lv : Int → Int}
theorem zvm (h : TI cd cp sz xs f sh lv) (h0 : f ≠ 0) (addr zam : Int) (hw : 0 ≤ zam) {l : Nat} {t : Int} (ht : Al cd cp f t) (hlv : lv t = (l + 1 : Nat)) (hl : l + 1 ≤ 2) (hlt : zam < ((l + 1 : Nat) : Int)) (h1 : zat (atM sz xs t (idx addr ((l + 1 : Nat) : Int))) = true) (h2 : zdt (atM sz xs t (idx addr ((l + 1 : Nat) : Int))) ((l + 1 : Nat) : Int) = false) :
    (∀ s i, Al cd cp f s → (0 ≤ i ∧ i < 512) → zbf (atM sz xs s i) = true → atM sz (zko sz xs t (idx addr ((l + 1 : Nat) : Int)) ((l + 1 : Nat) : Int) (atM sz xs t (idx addr ((l + 1 : Nat) : Int))) (cd + tzI f)) s i = atM sz xs s i) ∧
    zaq sz (zko sz xs t (idx addr ((l + 1 : Nat) : Int)) ((l + 1 : Nat) : Int) (atM sz xs t (idx addr ((l + 1 : Nat) : Int))) (cd + tzI f)) addr zam (l + 1) t = (cd + tzI f, (l : Int)) := by
  obtain ⟨a0, a1, a2, a3⟩ := zc8 h h0
  have hi := idx_bd addr ((l + 1 : Nat) : Int)
  have hi2 := idx_bd addr (l : Int)
  have hgt : cd + tzI f ≠ t := fun e => (a0 _ ht).2 e.symm
  have hat := fun s j hj => zvj h h0 ht hi (l := ((l + 1 : Nat) : Int)) (by omega) rfl h1 h2 s j hj
  refine ⟨fun s i hs hj hlk => ?_, ?_⟩
  · rw [hat s i hj, if_neg, if_neg (a0 s hs).2]
    rintro ⟨rfl, rfl⟩
    rw [(zbr h1).1] at hlk; cases hlk
  · have e1 := hat t _ hi
    rw [if_pos ⟨rfl, rfl⟩] at e1
    rw [zbc hlt (by rw [e1]; exact zb2 rfl (by omega)), e1]
    show zaq _ _ _ _ l (cd + tzI f) = _
    refine za8 (fun _ => ?_) hw
    have e2 := hat (cd + tzI f) _ hi2
    rw [if_neg (by rintro ⟨c, _⟩; exact hgt c), if_pos rfl] at e2
    rw [e2]
    have h3 : zat (prt (atM sz xs t (idx addr ((l + 1 : Nat) : Int))) ((l + 1 : Nat) : Int) (idx addr (l : Int))) = true := h1
    exact zil (zbr h3).1
end
end Go.Proofs.YtomeaibdedaldaaGreatDoor.LiB
namespace Go.Proofs.YtomeaibdedaldaaGreatDoor.LiC
open Go.RowKit Bv VaSpec Base MemL RegR Ax MemC PutC MemC3 TzC OkS SpA SpB SpC SpD SpF SpH SpI SpJ SpN SpO RfP RfQ LaA LaB LaC LaD LaE LaF LaG LiA LiB
open BitsC PteSpec
set_option maxRecDepth 10000
set_option maxHeartbeats 1000000
def zdu (xs : List (Int × Int)) (g : Int) : Bool := !(xs.any fun c => decide (c.1 / 512 = g))
theorem zp4 {cd cp f g : Int} (hb : 1 ≤ cp ∧ cp ≤ 64) (hf : 0 ≤ f ∧ f < 2 ^ cp.toNat) : 0 ≤ TableC2.zdk cd cp f g ∧ TableC2.zdk cd cp f g < 2 ^ cp.toNat := by
  have hu : U f := zg3 hf.1 hf.2 (by omega)
  unfold TableC2.zdk
  split
  · rename_i h
    unfold PoolC.isP PoolC.inP at h
    simp only [Bool.and_eq_true, decide_eq_true_eq] at h
    exact ⟨(ze8 _ _ _ _).1, zgn hu hf.2 (by omega) (by omega)⟩
  · exact hf
theorem zp5 {cd cp f g s : Int} (hb : 1 ≤ cp ∧ cp ≤ 64) (hf : 0 ≤ f ∧ f < 2 ^ cp.toNat) : Al cd cp (TableC2.zdk cd cp f g) s ↔ Al cd cp f s ∧ s ≠ g := by
  have hu : U f := zg3 hf.1 hf.2 (by omega)
  unfold TableC2.zdk
  split
  · rename_i h
    unfold PoolC.isP PoolC.inP at h
    simp only [Bool.and_eq_true, decide_eq_true_eq] at h
    obtain ⟨⟨h1, h2⟩, _⟩ := h
    constructor
    · rintro ⟨a, b⟩
      rw [zgo hu (by omega) (by omega) (by omega) (by omega)] at b
      split at b
      · cases b
      · rename_i c
        exact ⟨⟨a, b⟩, fun e => c (by rw [e])⟩
    · rintro ⟨⟨a, b⟩, c⟩
      refine ⟨a, ?_⟩
      rw [zgo hu (by omega) (by omega) (by omega) (by omega), if_neg (by omega)]
      exact b
  · rename_i h
    constructor
    · intro a
      refine ⟨a, fun e => h ?_⟩
      subst e
      obtain ⟨⟨a1, a2⟩, a3⟩ := a
      unfold PoolC.isP PoolC.inP
      rw [decide_eq_true (by omega), decide_eq_true (by omega), zxy _ _ (by omega), a3]; rfl
    · exact fun a => a.1
def bkN (cd cp : Int) : List Int → List (Int × Int) × Int → List (Int × Int) × Int
  | [], p => p
  | g :: l, p => bkN cd cp l (TableC.zav p.1 g, TableC2.zdk cd cp p.2 g)
structure BkP (cd cp sz : Int) (l : List Int) (p q : List (Int × Int) × Int) : Prop where
  s : Srt q.1
  m : ∀ c ∈ q.1, c ∈ p.1
  f : 0 ≤ q.2 ∧ q.2 < 2 ^ cp.toNat
  a : ∀ s, Al cd cp q.2 s ↔ Al cd cp p.2 s ∧ s ∉ l
  e : ∀ s j, (0 ≤ j ∧ j < 512) → atM sz q.1 s j = if s ∈ l then zP else atM sz p.1 s j
  n : q.1.length ≤ p.1.length
theorem zf7 (cd cp sz : Int) (hb : 1 ≤ cp ∧ cp ≤ 64) : ∀ (l : List Int) (p : List (Int × Int) × Int), Srt p.1 → (0 ≤ p.2 ∧ p.2 < 2 ^ cp.toNat) → BkP cd cp sz l p (bkN cd cp l p)
  | [], p, hs, hf => ⟨hs, fun c h => h, hf, fun s => by simp [bkN], fun s j hj => by simp [bkN], Nat.le_refl _⟩
  | g :: l, p, hs, hf => by
    have IH := zf7 cd cp sz hb l (TableC.zav p.1 g, TableC2.zdk cd cp p.2 g) (zcd _ hs) (zp4 hb hf)
    refine ⟨IH.s, fun c hc => ze5 (IH.m c hc), IH.f, fun s => ?_, fun s j hj => ?_, Nat.le_trans IH.n (zdv _ _)⟩
    · have e := IH.a s
      have e2 : Al cd cp (TableC2.zdk cd cp p.2 g) s ↔ Al cd cp p.2 s ∧ s ≠ g := zp5 hb hf
      show Al cd cp (bkN cd cp l (TableC.zav p.1 g, TableC2.zdk cd cp p.2 g)).2 s ↔ _
      rw [e]
      show Al cd cp (TableC2.zdk cd cp p.2 g) s ∧ s ∉ l ↔ _
      rw [e2, List.mem_cons]
      constructor
      · rintro ⟨⟨a, b⟩, c⟩; exact ⟨a, fun h => h.elim b c⟩
      · rintro ⟨a, b⟩; exact ⟨⟨a, fun h => b (.inl h)⟩, fun h => b (.inr h)⟩
    · show atM sz (bkN cd cp l (TableC.zav p.1 g, TableC2.zdk cd cp p.2 g)).1 s j = _
      rw [IH.e s j hj]
      show (if s ∈ l then zP else atM sz (TableC.zav p.1 g) s j) = _
      rw [zmb hs g s j hj]
      by_cases c : s ∈ l
      · rw [if_pos c, if_pos (List.mem_cons_of_mem _ c)]
      · rw [if_neg c]
        by_cases d : s = g
        · rw [if_pos d, if_pos (by rw [d]; exact List.mem_cons_self ..)]
        · rw [if_neg d, if_neg (by rw [List.mem_cons]; exact fun h => h.elim d c)]
def frN (sz : Int) (xs : List (Int × Int)) : Nat → Int → List Int
  | 0, t => [t]
  | l + 1, t => t :: (List.range 512).flatMap fun (i : Nat) => if za2 (atM sz xs t i) ((l + 1 : Nat) : Int) then frN sz xs l (atM sz xs t i).ppn else []
section
variable {cd cp sz f sh : Int} {xs : List (Int × Int)} {lv : Int → Int}
theorem zzf (h : TI cd cp sz xs f sh lv) {xs' : List (Int × Int)} {f' : Int} (hs : Srt xs') (hm : ∀ c ∈ xs', c ∈ xs) (hf : 0 ≤ f' ∧ f' < 2 ^ cp.toNat) (ha : ∀ s j, (0 ≤ j ∧ j < 512) → atM sz xs' s j = zP ∨ atM sz xs' s j = atM sz xs s j)
    (h1 : ∀ s j, (0 ≤ j ∧ j < 512) → atM sz xs' s j ≠ zP → Al cd cp f' s) (h2 : ∀ s j, (0 ≤ j ∧ j < 512) → lkP (atM sz xs' s j) = true → Al cd cp f' (atM sz xs' s j).ppn) : TI cd cp sz xs' f' sh lv :=
  ⟨h.bd, h.bp, h.bz, hf, hs, fun c hc => h.r c (hm c hc), (h.e.sub ha).fr h1 h2⟩
theorem zjv (h : TI cd cp sz xs f sh lv) {s i : Int} (hi : 0 ≤ i ∧ i < 512) {l : Int} (hl : za2 (atM sz xs s i) l = true) : lkP (atM sz xs s i) = true ∧ Al cd cp f s ∧ (1 ≤ lv s ∧ lv s ≤ 2) ∧ lv (atM sz xs s i).ppn = lv s - 1 ∧ Al cd cp f (atM sz xs s i).ppn := by
  rcases h.e.k s i hi with e | ⟨a, b, ⟨c, _⟩ | ⟨c1, c2, c3, c4⟩⟩
  · rw [e] at hl; cases hl
  · rw [zil (zbr c).1] at hl; cases hl
  · exact ⟨c1, a, ⟨c2, b.2⟩, c3, c4⟩
theorem zcv (h : TI cd cp sz xs f sh lv) {s i : Int} (hi : 0 ≤ i ∧ i < 512) (hl : lkP (atM sz xs s i) = true) : Al cd cp f s ∧ (1 ≤ lv s ∧ lv s ≤ 2) ∧ lv (atM sz xs s i).ppn = lv s - 1 ∧ Al cd cp f (atM sz xs s i).ppn := (zjv h hi (zb2 hl (Int.le_refl 1))).2
theorem zbg (h : TI cd cp sz xs f sh lv) : ∀ (l : Nat) (t : Int), Al cd cp f t → lv t = l → ∀ g ∈ frN sz xs l t, Al cd cp f g ∧ (0 ≤ lv g ∧ lv g ≤ l) ∧ (g = t ∨ ∃ s ∈ frN sz xs l t, ∃ j, (0 ≤ j ∧ j < 512) ∧ lkP (atM sz xs s j) = true ∧ (atM sz xs s j).ppn = g ∧ lv s ≤ l)
  | 0, t, ht, hl, g, hg => by
    have e : g = t := by simpa [frN] using hg
    subst e
    exact ⟨ht, by omega, .inl rfl⟩
  | l + 1, t, ht, hl, g, hg => by
    simp only [frN, List.mem_cons] at hg
    rcases hg with rfl | hg
    · exact ⟨ht, by omega, .inl rfl⟩
    · obtain ⟨i, hi, hg⟩ := List.mem_flatMap.1 hg
      have hi := List.mem_range.1 hi
      split at hg
      · rename_i hlk
        obtain ⟨k1, k2, k3, k4, k5⟩ := zjv h (by omega) hlk
        obtain ⟨r1, r2, r3⟩ := zbg h l _ k5 (by rw [k4, hl]; omega) g hg
        have mem : ∀ s, s ∈ frN sz xs l (atM sz xs t i).ppn → s ∈ frN sz xs (l + 1) t := fun s hs => by
          simp only [frN, List.mem_cons]
          exact .inr (List.mem_flatMap.2 ⟨i, List.mem_range.2 hi, by rw [if_pos hlk]; exact hs⟩)
        refine ⟨r1, by omega, .inr ?_⟩
        rcases r3 with rfl | ⟨s, hs, j, q1, q2, q3, q4⟩
        · exact ⟨t, by simp [frN], i, by omega, k1, rfl, by omega⟩
        · exact ⟨s, mem s hs, j, q1, q2, q3, by omega⟩
      · cases hg
theorem zh0 (hs : Srt xs) (hz : sz = (cd + cp) * 4096) {t i : Int} (ht : 0 ≤ t ∧ t < cd + cp) (hi : 0 ≤ i ∧ i < 512) (s j : Int) (hj : 0 ≤ j ∧ j < 512) : atM sz (zby xs (t * 512 + i) 0) s j = if s = t ∧ j = i then zP else atM sz xs s j := by
  by_cases hd : s * 4096 + j * 8 < sz
  · rw [zg7 hs hi hj hd, zom]
  · rw [if_neg (by rintro ⟨rfl, rfl⟩; omega)]
    unfold atM zbo
    rw [if_neg hd, if_neg hd]
theorem z07 (h : TI cd cp sz xs f sh lv) {t i : Int} {l : Nat} (ht : Al cd cp f t) (hlv : lv t = (l + 1 : Nat)) (hl : l + 1 ≤ 2) (hi : 0 ≤ i ∧ i < 512) (hH : ¬ (l + 1 = 2 ∧ i = 511)) (hq : lkP (atM sz xs t i) = true) :
    TI cd cp sz (zby (bkN cd cp (frN sz xs l (atM sz xs t i).ppn) (xs, f)).1 (t * 512 + i) 0) (bkN cd cp (frN sz xs l (atM sz xs t i).ppn) (xs, f)).2 sh lv ∧
    (∀ s, Al cd cp f s → (s = sh ∨ (l : Int) < lv s) → Al cd cp (bkN cd cp (frN sz xs l (atM sz xs t i).ppn) (xs, f)).2 s) := by
  have hb := zf7 cd cp sz h.bp (frN sz xs l (atM sz xs t i).ppn) (xs, f) h.s h.bf
  obtain ⟨k1, k2, k3, k4⟩ := zcv h hi hq
  have hfr := zbg h l _ k4 (by rw [k3, hlv]; omega)
  have hrs : (atM sz xs t i).ppn ≠ sh := fun e => by
    obtain ⟨a, b⟩ := h.e.s t i hi hq e
    exact hH ⟨by omega, a⟩
  have hgs : ∀ g ∈ frN sz xs l (atM sz xs t i).ppn, g ≠ sh := fun g hg e => by
    obtain ⟨_, _, r⟩ := hfr g hg
    rcases r with r | ⟨s, hs, j, q1, q2, q3, q4⟩
    · exact hrs (r.symm.trans e)
    · obtain ⟨_, b⟩ := h.e.s s j q1 q2 (q3.trans e)
      omega
  have hbt := ht.1
  have hcd := h.bd
  have hat := fun s j hj => zh0 (cd := cd) (cp := cp) (t := t) (i := i) (sz := sz) hb.s h.bz (by omega) hi s j hj
  generalize hF : frN sz xs l (atM sz xs t i).ppn = F at *
  generalize bkN cd cp F (xs, f) = r at *
  have hmem : ∀ s j, (0 ≤ j ∧ j < 512) → atM sz (zby r.1 (t * 512 + i) 0) s j ≠ zP → s ∉ F ∧ ¬ (s = t ∧ j = i) ∧ atM sz (zby r.1 (t * 512 + i) 0) s j = atM sz xs s j := fun s j hj hne => by
    rw [hat s j hj] at hne ⊢
    by_cases c : s = t ∧ j = i
    · rw [if_pos c] at hne; exact absurd rfl hne
    · rw [if_neg c] at hne ⊢
      rw [hb.e s j hj] at hne ⊢
      by_cases d : s ∈ F
      · rw [if_pos d] at hne; exact absurd rfl hne
      · rw [if_neg d]; exact ⟨d, c, rfl⟩
  refine ⟨zzf h (zen _ _ _ hb.s) (fun c hc => ?_) hb.f (fun s j hj => ?_) (fun s j hj hne => ?_) (fun s j hj hlk => ?_), fun s hs hk => ?_⟩
  · rcases zcx _ _ _ _ hc with hc | ⟨_, hv⟩
    · exact hb.m c hc
    · exact absurd rfl hv
  · by_cases c : atM sz (zby r.1 (t * 512 + i) 0) s j = zP
    · exact .inl c
    · exact .inr (hmem s j hj c).2.2
  · obtain ⟨a, _, c⟩ := hmem s j hj hne
    refine (hb.a s).2 ⟨?_, a⟩
    rcases h.e.k s j hj with e | ⟨k, _⟩
    · rw [c] at hne; exact absurd e hne
    · exact k
  · have hne : atM sz (zby r.1 (t * 512 + i) 0) s j ≠ zP := fun e => by rw [e] at hlk; cases hlk
    obtain ⟨a, b, c⟩ := hmem s j hj hne
    rw [c] at hlk ⊢
    obtain ⟨_, _, _, k⟩ := zcv h hj hlk
    refine (hb.a _).2 ⟨k, fun hin => ?_⟩
    obtain ⟨_, _, r3⟩ := hfr _ hin
    rcases r3 with e | ⟨s', hs', j', q1, q2, q3, q4⟩
    · exact b (h.e.u s j t i hj hi hlk hq e (by rw [e]; exact hrs))
    · obtain ⟨e1, e2⟩ := h.e.u s j s' j' hj q1 hlk q2 q3.symm (fun e => by
        obtain ⟨_, b⟩ := h.e.s s' j' q1 q2 (q3.trans e)
        omega)
      exact a (e1 ▸ hs')
  · refine (hb.a s).2 ⟨hs, fun hin => ?_⟩
    rcases hk with e | hk
    · exact hgs s hin e
    · have := (hfr s hin).2.1; omega
def prN (sz cd cp addr : Int) : Nat → Int → List (Int × Int) × Int → List (Int × Int) × Int
  | 0, _, p => p
  | l + 1, t, p =>
    if za2 (atM sz p.1 t (idx addr ((l + 1 : Nat) : Int))) ((l + 1 : Nat) : Int) then
      if zdu (prN sz cd cp addr l (atM sz p.1 t (idx addr ((l + 1 : Nat) : Int))).ppn p).1 (atM sz p.1 t (idx addr ((l + 1 : Nat) : Int))).ppn then
        (za1 sz (TableC.zav (prN sz cd cp addr l (atM sz p.1 t (idx addr ((l + 1 : Nat) : Int))).ppn p).1 (atM sz p.1 t (idx addr ((l + 1 : Nat) : Int))).ppn) t (idx addr ((l + 1 : Nat) : Int)) zP,
         TableC2.zdk cd cp (prN sz cd cp addr l (atM sz p.1 t (idx addr ((l + 1 : Nat) : Int))).ppn p).2 (atM sz p.1 t (idx addr ((l + 1 : Nat) : Int))).ppn)
      else prN sz cd cp addr l (atM sz p.1 t (idx addr ((l + 1 : Nat) : Int))).ppn p
    else p
theorem zme (h : TI cd cp sz xs f sh lv) {g : Int} (hg : cd ≤ g ∧ g < cd + cp) : (zdu xs g = true → ∀ j, (0 ≤ j ∧ j < 512) → zbo sz xs (g * 4096 + j * 8) = 0) ∧ (zdu xs g = false → ∃ j, (0 ≤ j ∧ j < 512) ∧ zbo sz xs (g * 4096 + j * 8) ≠ 0) := by
  have hz := h.bz
  constructor
  · intro he j hj
    unfold zbo
    split
    · refine zcy fun c hc e => ?_
      unfold zdu at he
      rw [Bool.not_eq_true'] at he
      have := List.any_eq_false.1 he c hc
      simp only [decide_eq_true_eq] at this
      omega
    · rfl
  · intro he
    unfold zdu at he
    rw [Bool.not_eq_false'] at he
    obtain ⟨c, hc, e⟩ := List.any_eq_true.1 he
    rw [decide_eq_true_eq] at e
    obtain ⟨⟨r1, r2⟩, r3, r4⟩ := h.r c hc
    refine ⟨c.1 % 512, by omega, ?_⟩
    unfold zbo
    rw [if_pos (by omega), show (g * 4096 + c.1 % 512 * 8) / 8 = c.1 by omega, look_mem h.s hc]
    exact r4
structure PrP (cd cp sz f sh : Int) (xs : List (Int × Int)) (lv : Int → Int) (l : Nat) (q : List (Int × Int) × Int) : Prop where
  t : TI cd cp sz q.1 q.2 sh lv
  m : ∀ c ∈ q.1, c ∈ xs
  n : q.1.length ≤ xs.length
  a : ∀ s, Al cd cp f s → (s = sh ∨ (l : Int) ≤ lv s) → Al cd cp q.2 s
  b : ∀ s, Al cd cp q.2 s → Al cd cp f s
  e : ∀ s j, (0 ≤ j ∧ j < 512) → atM sz q.1 s j = zP ∨ atM sz q.1 s j = atM sz xs s j
  u : ∀ s j, (0 ≤ j ∧ j < 512) → Al cd cp f s → (l : Int) < lv s → atM sz q.1 s j = atM sz xs s j
theorem zf8 (addr : Int) (h : TI cd cp sz xs f sh lv) : ∀ (l : Nat) (t : Int), l ≤ 2 → Al cd cp f t → lv t = l → (2 ≤ l → idx addr 2 ≠ 511) → PrP cd cp sz f sh xs lv l (prN sz cd cp addr l t (xs, f))
  | 0, t, _, ht, hl, _ => ⟨h, fun c hc => hc, Nat.le_refl _, fun s hs _ => hs, fun s hs => hs, fun s j _ => .inr rfl, fun s j _ _ _ => rfl⟩
  | l + 1, t, h2, ht, hl, hH => by
    have hi := idx_bd addr ((l + 1 : Nat) : Int)
    unfold prN
    split
    rotate_left
    · exact ⟨h, fun c hc => hc, Nat.le_refl _, fun s hs _ => hs, fun s hs => hs, fun s j _ => .inr rfl, fun s j _ _ _ => rfl⟩
    rename_i hlk
    have hlk : za2 (atM sz xs t (idx addr ((l + 1 : Nat) : Int))) ((l + 1 : Nat) : Int) = true := hlk
    obtain ⟨k1, k2, k3, k4, k5⟩ := zjv h hi hlk
    have hls : lv (atM sz xs t (idx addr ((l + 1 : Nat) : Int))).ppn = (l : Int) := by rw [k4, hl]; omega
    have P := zf8 addr h l _ (by omega) k5 hls (fun hh => by omega)
    have hgs : (atM sz xs t (idx addr ((l + 1 : Nat) : Int))).ppn ≠ sh := fun e => by
      obtain ⟨a, b⟩ := h.e.s t _ hi k1 e
      have e2 : l + 1 = 2 := by omega
      rw [show ((l + 1 : Nat) : Int) = 2 by omega] at a
      exact hH (by omega) a
    have hut := P.u t (idx addr ((l + 1 : Nat) : Int)) hi ht (by rw [hl]; omega)
    have hag := P.a _ k5 (.inr (by rw [hls]; omega))
    have hat := P.a t ht (.inr (by rw [hl]; omega))
    show PrP cd cp sz f sh xs lv (l + 1) (if zdu (prN sz cd cp addr l (atM sz xs t (idx addr ((l + 1 : Nat) : Int))).ppn (xs, f)).1 (atM sz xs t (idx addr ((l + 1 : Nat) : Int))).ppn = true then _ else prN sz cd cp addr l (atM sz xs t (idx addr ((l + 1 : Nat) : Int))).ppn (xs, f))
    generalize prN sz cd cp addr l (atM sz xs t (idx addr ((l + 1 : Nat) : Int))).ppn (xs, f) = r at *
    generalize idx addr ((l + 1 : Nat) : Int) = i at *
    split
    rotate_left
    · exact ⟨P.t, P.m, P.n, fun s hs hk => P.a s hs (by omega), P.b, P.e, fun s j hj hs hk => P.u s j hj hs (by omega)⟩
    rename_i hem
    have hT := P.t
    have hbt := ht.1
    have hcd := h.bd
    have hw := hT.gm.wipe
    have hz := (zme hT hag.1).1 hem
    have hzp : ∀ j, (0 ≤ j ∧ j < 512) → atM sz r.1 (atM sz xs t i).ppn j = zP := fun j hj => by unfold atM; rw [show zbo sz r.1 ((zay (zbo sz xs (t * 4096 + i * 8))).ppn * 4096 + j * 8) = 0 from hz j hj, zom]
    have hwi : za1 sz (TableC.zav r.1 (atM sz xs t i).ppn) t i zP = zby (TableC.zav r.1 (atM sz xs t i).ppn) (t * 512 + i) 0 := by
      rw [zd8 z14 (by omega) hi (by rw [h.bz]; omega), zq7]
    show PrP cd cp sz f sh xs lv (l + 1) (za1 sz (TableC.zav r.1 (atM sz xs t i).ppn) t i zP, TableC2.zdk cd cp r.2 (atM sz xs t i).ppn)
    rw [hwi]
    have hA := fun s => zp5 (cd := cd) (g := (atM sz xs t i).ppn) (s := s) h.bp hT.bf
    have hE : ∀ s j, (0 ≤ j ∧ j < 512) → atM sz (zby (TableC.zav r.1 (atM sz xs t i).ppn) (t * 512 + i) 0) s j = if s = t ∧ j = i then zP else atM sz r.1 s j := fun s j hj => by
      rw [zh0 (cd := cd) (cp := cp) (zcd _ hT.s) h.bz (by omega) hi s j hj, zmb hT.s _ s j hj]
      split
      · rfl
      · split
        · rename_i e; rw [e, hzp j hj]
        · rfl
    generalize hg : (atM sz xs t i).ppn = g at *
    have hsub : ∀ s j, (0 ≤ j ∧ j < 512) → atM sz (zby (TableC.zav r.1 g) (t * 512 + i) 0) s j ≠ zP → ¬ (s = t ∧ j = i) ∧ s ≠ g ∧ atM sz (zby (TableC.zav r.1 g) (t * 512 + i) 0) s j = atM sz r.1 s j := fun s j hj hne => by
      rw [hE s j hj] at hne ⊢
      by_cases c : s = t ∧ j = i
      · rw [if_pos c] at hne; exact absurd rfl hne
      · rw [if_neg c] at hne ⊢
        exact ⟨c, fun e => hne (by rw [e]; exact hzp j hj), rfl⟩
    have hTI : TI cd cp sz (zby (TableC.zav r.1 g) (t * 512 + i) 0) (TableC2.zdk cd cp r.2 g) sh lv := by
      refine zzf hT (zen _ _ _ (zcd _ hT.s)) (fun c hc => ?_) (zp4 h.bp hT.bf) (fun s j hj => ?_) (fun s j hj hne => ?_) (fun s j hj hl2 => ?_)
      · rcases zcx _ _ _ _ hc with hc | ⟨_, hv⟩
        · exact ze5 hc
        · exact absurd rfl hv
      · by_cases c : atM sz (zby (TableC.zav r.1 g) (t * 512 + i) 0) s j = zP
        · exact .inl c
        · exact .inr (hsub s j hj c).2.2
      · obtain ⟨_, a, c⟩ := hsub s j hj hne
        refine (hA s).2 ⟨?_, a⟩
        rcases hT.e.k s j hj with e | ⟨k, _⟩
        · rw [c] at hne; exact absurd e hne
        · exact k
      · have hne : atM sz (zby (TableC.zav r.1 g) (t * 512 + i) 0) s j ≠ zP := fun e => by rw [e] at hl2; cases hl2
        obtain ⟨b, _, c⟩ := hsub s j hj hne
        rw [c] at hl2 ⊢
        obtain ⟨_, _, _, k⟩ := zcv hT hj hl2
        refine (hA _).2 ⟨k, fun e => b ?_⟩
        exact hT.e.u s j t i hj hi hl2 (by rw [hut]; exact k1) (by rw [hut, hg]; exact e) (by rw [e]; exact hgs)
    refine ⟨hTI, fun c hc => ?_, ?_, fun s hs hk => ?_, fun s hs => P.b s ((hA s).1 hs).1, fun s j hj => ?_, fun s j hj hs hk => ?_⟩
    · rcases zcx _ _ _ _ hc with hc | ⟨_, hv⟩
      · exact P.m c (ze5 hc)
      · exact absurd rfl hv
    · have e1 := zdv r.1 g
      have e2 := P.n
      have e3 : (zby (TableC.zav r.1 g) (t * 512 + i) 0).length ≤ (TableC.zav r.1 g).length := by
        rw [zg5 _ _ (zcd _ hT.s)]; exact List.length_filter_le ..
      show (zby (TableC.zav r.1 g) (t * 512 + i) 0).length ≤ _
      omega
    · refine (hA s).2 ⟨P.a s hs (by omega), fun e => ?_⟩
      rcases hk with hk | hk
      · exact hgs (e.symm.trans hk)
      · rw [e, hls] at hk; omega
    · show atM sz (zby (TableC.zav r.1 g) (t * 512 + i) 0) s j = zP ∨ _
      rw [hE s j hj]
      split
      · exact .inl rfl
      · exact P.e s j hj
    · show atM sz (zby (TableC.zav r.1 g) (t * 512 + i) 0) s j = _
      rw [hE s j hj, if_neg (by rintro ⟨rfl, _⟩; rw [hl] at hk; omega)]
      exact P.u s j hj hs (by omega)
end
end Go.Proofs.YtomeaibdedaldaaGreatDoor.LiC
namespace Go.Proofs.YtomeaibdedaldaaGreatDoor.LiD
open Go.RowKit Bv VaSpec Base MemL RegR Ax MemC PutC MemC3 TzC OkS SpA SpB SpC SpD SpF SpH SpI SpJ SpN SpO RfP RfQ LaA LaB LaC LaD LaE LaF LaG LiA LiB LiC
open BitsC PteSpec
set_option maxRecDepth 10000
set_option maxHeartbeats 1000000
section
variable {cd cp sz f sh : Int} {xs : List (Int × Int)} {lv : Int → Int}
end
def finW (row : List (Int × Int)) (s : List (Int × Int) × Bool) : List (Int × Int) := if s.2 = false then s.1 ++ row else s.1
end Go.Proofs.YtomeaibdedaldaaGreatDoor.LiD
namespace Go.Proofs.YtomeaibdedaldaaGreatDoor.RefS
open Go.RowKit Bv VaSpec Base
def hi (f : Nat → Bool) : Nat → Nat
  | 0 => 0
  | k + 1 => 2 * hi f k + (f (63 - k)).toNat
theorem zp6 (f : Nat → Bool) (k : Nat) : hi f (k + 1) = 2 * hi f k + (f (63 - k)).toNat := rfl
theorem z4x (f : Nat → Bool) (k : Nat) : hi f k < 2 ^ k := by
  induction k with
  | zero => simp [hi]
  | succ k ih => rw [zp6]; have := Bool.toNat_le (f (63 - k)); rw [Nat.pow_succ]; omega
set_option maxHeartbeats 400000 in
set_option maxRecDepth 100000 in
theorem of_calls (f : Nat → Bool) (cs : Array Value) (w : World) (hsz : cs.size = 64) (hget : ∀ k, k < 64 → cs[k]? = some (.bool (f k))) :
    Calls Tryz.prog 181 #[.agg cs] w fun e w' => e = .returned (.int .u64 (hi f 64)) ∧ Below w.heap.size w w' := by
  have Hs := Lib.hid hsz; clear hsz
  have Hg := Lib.hid hget; clear hget
  go_enter Tryz.func181, Tryz.ntmps181
  go_wp2
  go_loop [3, 4] (fun x i => ∃ k : Nat, k ≤ 64 ∧ i = .int .i64 (63 - k) ∧ x = .int .u64 (hi f k)) (fun _ i => (intOf i + 1).toNat)
  case atStart => exact ⟨0, by omega, rfl, rfl⟩
  case round =>
    obtain ⟨k, hk, rfl, rfl⟩ := hrel
    by_cases hlt : k < 64
    · obtain ⟨j, hj⟩ : ∃ j : Nat, j = 63 - k := ⟨_, rfl⟩
      have hb := z4x f k
      have hp : 2 ^ k ≤ 2 ^ 63 := Nat.pow_le_pow_right (by decide) (by omega)
      have hb2 : (hi f k : Int) ≤ 9223372036854775807 := by omega
      clear hb hp
      have hc : (w.alloc (.cells cs 240)).cell? ⟨w.heap.size, j, none⟩ = some (.bool (f j)) := by
        rw [cell_of_row _ _ _ cs 240 (0, 0) (heap_alloc_new w _)]; exact Hg.out j (by omega)
      rw [show (63 : Int) - k = (j : Int) by omega]
      have hj2 : j < 64 := by omega
      have Hj := Lib.hid hj; clear hj
      cases hf : f j
      all_goals
        rw [hf] at hc
        go_wp2
        go_round
        case rel =>
          refine ⟨k + 1, by omega, by rw [show (j : Int) - 1 = 63 - ((k + 1 : Nat) : Int) by have := Hj.out; omega], ?_⟩
          rw [zp6, ← Hj.out, hf]; go_num
        case measure => have := Hj.out; simp [intOf]
    · obtain rfl : k = 64 := by omega
      go_wp2
      go_ret
      exact ⟨rfl, (Below.refl _ _).alloc (Nat.le_refl _) _⟩
theorem zxz (y : BitVec 64) (f : Nat → Bool) (h : ∀ j, j < 64 → f j = y.getLsbD j) : ∀ k, k ≤ 64 → hi f k = y.toNat / 2 ^ (64 - k) := by
  intro k
  induction k with
  | zero => intro _; have := y.isLt; rw [Nat.div_eq_of_lt (by simpa using this)]; rfl
  | succ k ih =>
    intro hk
    rw [zp6, ih (by omega), h _ (by omega), BitVec.getLsbD, Nat.testBit, Nat.shiftRight_eq_div_pow, Nat.and_comm, Nat.and_one_is_mod, show 64 - k = (63 - k) + 1 by omega, show 64 - (k + 1) = 63 - k by omega, Nat.pow_succ, ← Nat.div_div_eq_div_mul]
    generalize y.toNat / 2 ^ (63 - k) = q
    rcases Nat.mod_two_eq_zero_or_one q with e | e <;> rw [e] <;> simp <;> omega
theorem z3h (y : BitVec 64) (f : Nat → Bool) (h : ∀ j, j < 64 → f j = y.getLsbD j) : ((hi f 64 : Nat) : Int) = B y := by
  rw [zxz y f h 64 (by omega)]; simp [B]
def bt (x : BitVec 64) (i : Nat) : Bool := x.getLsbD i
theorem zx0 (x : BitVec 64) (j : Nat) : IntKind.u64.wrap (Int.tdiv (B (x >>> j)) 2) = B (x >>> (j + 1)) := by
  rw [show Int.tdiv (B (x >>> j)) 2 = (((x >>> j).toNat / 2 : Nat) : Int) from rfl, wrap_u64]
  unfold B
  rw [BitVec.toNat_ushiftRight, BitVec.toNat_ushiftRight, Nat.shiftRight_eq_div_pow, Nat.shiftRight_eq_div_pow, Nat.div_div_eq_div_mul, ← Nat.pow_succ]
  rw [Nat.succ_eq_add_one]
  have h1 := x.isLt
  have h2 : x.toNat / 2 ^ (j + 1) ≤ x.toNat := Nat.div_le_self _ _
  generalize x.toNat / 2 ^ (j + 1) = q at *
  omega
theorem z08 (x : BitVec 64) (j : Nat) : (Int.tmod (B (x >>> j)) 2 == 1) = bt x j := by
  unfold B bt
  rw [BitVec.toNat_ushiftRight, BitVec.getLsbD, Nat.testBit, Nat.shiftRight_eq_div_pow]
  rw [show Int.tmod ((x.toNat / 2 ^ j : Nat) : Int) 2 = ((x.toNat / 2 ^ j % 2 : Nat) : Int) from rfl]
  rw [Nat.and_comm, Nat.and_one_is_mod]
  rcases Nat.mod_two_eq_zero_or_one (x.toNat / 2 ^ j) with h | h <;> rw [h] <;> rfl
theorem z09 (x : BitVec 64) (j : Nat) : B (x >>> j) / 2 = B (x >>> (j + 1)) := by
  rw [← zx0, show Int.tdiv (B (x >>> j)) 2 = (((x >>> j).toNat / 2 : Nat) : Int) from rfl, wrap_u64]
  unfold B; have := (x >>> j).isLt; omega
theorem z3i (x : BitVec 64) (j : Nat) : (B (x >>> j) % 2 == 1) = bt x j := by
  rw [← z08]; rfl
set_option maxHeartbeats 400000 in
set_option maxRecDepth 100000 in
theorem zx1 (x : BitVec 64) (i : Int) (w : World) (h0 : 0 ≤ i) (h : i ≤ 200) :
    Calls Tryz.prog 72 #[.int .u64 (B x), .int .i64 i] w fun e w' => e = .returned (.bool (bt x i.toNat)) ∧ w' = w := by
  obtain ⟨n, rfl⟩ := Int.eq_ofNat_of_zero_le h0
  by_cases h63 : n ≤ 63
  · go_enter Tryz.func72, Tryz.ntmps72
    go_wp2
    go_loop [0, 5] (fun y k => ∃ j : Nat, j ≤ n ∧ k = .int .i64 j ∧ y = .int .u64 (B (x >>> j))) (fun _ k => n - (intOf k).toNat)
    case atStart => exact ⟨0, by omega, rfl, by simp⟩
    case round =>
      obtain ⟨j, hj, rfl, rfl⟩ := hrel
      have hb := zlt (x >>> j)
      have hb2 := z4i (x >>> j)
      by_cases hlt : j < n
      · go_wp2
        refine ⟨⟨j + 1, by omega, by go_num, by rw [z09]⟩, ?_⟩
        simp [intOf]; omega
      · obtain rfl : j = n := by omega
        have Ho := Lib.hid (z3i x j)
        go_wp2
        go_ret
        refine ⟨?_, rfl⟩
        exact congrArg (fun z => Ending.returned (.bool z)) Ho.out
  · have hf := Lib.hid (show bt x n = false by unfold bt; exact BitVec.getLsbD_of_ge _ _ (by omega))
    go_enter Tryz.func72, Tryz.ntmps72
    go_wp2
    go_ret
    refine ⟨?_, rfl⟩
    exact congrArg (fun z => Ending.returned (.bool z)) hf.out.symm
theorem zmf (x : BitVec 64) (i : Int) (w : World) (h0 : 0 ≤ i) (h : i ≤ 200) :
    Calls Tryz.prog 72 #[.int .u64 (B x), .int .i64 i] w fun e w' => e = .returned (.bool (bt x i.toNat)) ∧ Q w w' := (zx1 x i w h0 h).mono fun _ _ ⟨a, b⟩ => ⟨a, by subst b; exact Q.refl _⟩
def Arr (w : World) (b : Nat) (f : Nat → Bool) : Prop := ∃ cs, w.heap[b]? = some (Obj.cells cs 240 (0, 0)) ∧ cs.size = 64 ∧ ∀ k, k < 64 → cs[k]? = some (.bool (f k))
theorem Arr.cell {w : World} {b : Nat} {f : Nat → Bool} (h : Arr w b f) (k : Nat) (hk : k < 64) : w.cell? ⟨b, k, none⟩ = some (.bool (f k)) := by
  obtain ⟨cs, h1, _, h3⟩ := h; rw [cell_of_row _ _ _ cs 240 (0, 0) h1]; exact h3 k hk
theorem Arr.frozen {w : World} {b : Nat} {f : Nat → Bool} (h : Arr w b f) (k : Nat) : w.frozen? ⟨b, k, none⟩ = false := by
  obtain ⟨cs, h1, _, h3⟩ := h; exact frozen_of_row _ _ _ cs 240 h1
theorem Arr.drewN {w : World} {b : Nat} {f : Nat → Bool} (h : Arr w b f) (n : Nat) : Arr (w.drewN n) b f := h
theorem Arr.set {w : World} {b : Nat} {f : Nat → Bool} (h : Arr w b f) (k : Nat) (v : Bool) : Arr (w.setCell ⟨b, k, none⟩ (.bool v)) b (fun j => if j = k then v else f j) := by
  obtain ⟨cs, h1, h2, h3⟩ := h
  refine ⟨_, heap_setCell_same w b k cs 240 _ h1, by simp [h2], ?_⟩
  intro j hj
  rw [Array.getElem?_setIfInBounds]
  by_cases e : k = j
  · subst e; simp [h2, hj]
  · simp [e, Ne.symm e, h3 j hj]
theorem Arr.congr {w : World} {b : Nat} {f g : Nat → Bool} (h : Arr w b f) (e : ∀ k, k < 64 → f k = g k) : Arr w b g := by
  obtain ⟨cs, h1, h2, h3⟩ := h; exact ⟨cs, h1, h2, fun k hk => by rw [h3 k hk, e k hk]⟩
theorem Arr.zero (w : World) : Arr (w.alloc (Obj.cells #[.bool false, .bool false, .bool false, .bool false, .bool false, .bool false, .bool false, .bool false, .bool false, .bool false, .bool false, .bool false, .bool false, .bool false, .bool false, .bool false, .bool false, .bool false, .bool false, .bool false, .bool false, .bool false, .bool false, .bool false, .bool false, .bool false, .bool false, .bool false, .bool false, .bool false, .bool false, .bool false, .bool false, .bool false, .bool false, .bool false, .bool false, .bool false, .bool false, .bool false, .bool false, .bool false, .bool false, .bool false, .bool false, .bool false, .bool false, .bool false, .bool false, .bool false, .bool false, .bool false, .bool false, .bool false, .bool false, .bool false, .bool false, .bool false, .bool false, .bool false, .bool false, .bool false, .bool false, .bool false] 240)) w.heap.size (fun _ => false) := by
  refine ⟨_, heap_alloc_new w _, by rfl, ?_⟩
  intro k hk
  have : ∀ k : Fin 64, (Array.replicate 64 (Value.bool false))[k.val]? = some (.bool false) := by intro k; simp
  exact this ⟨k, hk⟩
theorem Arr.next {wr : World} {b k nd : Nat} {g : Nat → Bool} {v : Bool} (ha : Arr wr b (fun j => decide (j < k) && g j)) (e : v = g k) :
    Arr ((wr.drewN nd).setCell ⟨b, k, none⟩ (.bool v)) b (fun j => decide (j < k + 1) && g j) := by
  refine (Arr.set (w := wr.drewN nd) ha k _).congr ?_
  intro j hj
  by_cases e1 : j = k
  · subst e1; simp [e]
  · rw [if_neg e1]; by_cases e2 : j < k
    · simp [e2, show j < k + 1 by omega]
    · simp [e2, show ¬ j < k + 1 by omega]
theorem Arr.next2 {wr : World} {b k nd nd2 : Nat} {g : Nat → Bool} {u v : Bool} (ha : Arr wr b (fun j => decide (j < k) && g j)) (e : v = g k) :
    Arr ((((wr.drewN nd).setCell ⟨b, k, none⟩ (.bool u)).drewN nd2).setCell ⟨b, k, none⟩ (.bool v)) b (fun j => decide (j < k + 1) && g j) := by
  refine (Arr.set (Arr.drewN (Arr.set (w := wr.drewN nd) ha k u) nd2) k v).congr ?_
  intro j hj
  by_cases e1 : j = k
  · subst e1; simp [e]
  · rw [if_neg e1, if_neg e1]; by_cases e2 : j < k
    · simp [e2, show j < k + 1 by omega]
    · simp [e2, show ¬ j < k + 1 by omega]
theorem zha {w wr : World} (hb : Below w.heap.size w wr) (k nd : Nat) (v : Value) : Below w.heap.size w ((wr.drewN nd).setCell ⟨w.heap.size, k, none⟩ v) :=
  (hb.trans ((Q.below ⟨nd, rfl⟩).mono hb.size)).setCell (Nat.le_refl _) _
end Go.Proofs.YtomeaibdedaldaaGreatDoor.RefS
namespace Go.Proofs.YtomeaibdedaldaaGreatDoor.RefSet
open Go.RowKit Bv VaSpec Base RefS BitsC
def g1 (x v : BitVec 64) (lo : Nat) (j : Nat) : Bool := if j = lo then bt v 0 else bt x j
set_option maxHeartbeats 400000 in
set_option maxRecDepth 100000 in
theorem z1a (x v : BitVec 64) (lo : Nat) (w : World) (hlo : lo < 64) :
    Calls Tryz.prog 161 #[.int .u64 (B x), .int .i64 lo, .int .i64 1, .int .u64 (B v)] w fun e w' => e = .returned (.int .u64 (B (zs8 x lo 1 v))) ∧ Below w.heap.size w w' := by
  have hw1 : IntKind.i64.wrap ((lo : Int) + 1) = (lo : Int) + 1 := by rw [IntKind.wrap_i64]; omega
  go_enter Tryz.func161, Tryz.ntmps161
  go_wp2
  go_loopw [10] (fun i wr => ∃ k : Nat, k ≤ 64 ∧ i = .int .i64 k ∧ Arr wr w.heap.size (fun j => decide (j < k) && g1 x v lo j) ∧ Below w.heap.size w wr) (fun i _ => 64 - (intOf i).toNat)
  case atStart => exact ⟨0, by omega, rfl, (Arr.zero w).congr (by intro k _; simp), (Below.refl _ _).alloc (Nat.le_refl _) _⟩
  case round =>
    obtain ⟨k, hk, rfl, ha, hb⟩ := hrel
    by_cases hlt : k < 64
    · have hc := ha.cell k (by omega)
      have hz := ha.frozen k
      rcases Nat.lt_trichotomy k lo with hm | rfl | hm
      · go_wp2_with (go_at_call 72; (with_reducible refine (zmf _ _ _ (by omega) (by omega)).mono ?_); rintro e w' ⟨rfl, ⟨nd, rfl⟩⟩)
        refine ⟨⟨k + 1, by omega, by go_num, ha.next (by unfold g1; rw [if_neg (by omega)]), zha hb _ _ _⟩, ?_⟩
        simp [intOf]; omega
      · go_wp2_with (go_at_call 72; (with_reducible refine (zmf _ _ _ (by omega) (by omega)).mono ?_); rintro e w' ⟨rfl, ⟨nd, rfl⟩⟩)
        refine ⟨⟨k + 1, by omega, by go_num, ha.next2 (by unfold g1; rw [if_pos rfl]), zha (zha hb _ _ _) _ _ _⟩, ?_⟩
        simp [intOf]; omega
      · go_wp2_with (go_at_call 72; (with_reducible refine (zmf _ _ _ (by omega) (by omega)).mono ?_); rintro e w' ⟨rfl, ⟨nd, rfl⟩⟩)
        refine ⟨⟨k + 1, by omega, by go_num, ha.next (by unfold g1; rw [if_neg (by omega)]), zha hb _ _ _⟩, ?_⟩
        simp [intOf]; omega
    · obtain rfl : k = 64 := by omega
      obtain ⟨cs, h1, h2, h3⟩ := ha
      have Hh := Lib.hid h1; clear h1
      have Hs := Lib.hid h2; clear h2
      have H3 := Lib.hid h3; clear h3
      go_wp2_with (first | (with_reducible refine wpList_load_row rfl 240 _ rfl w.heap.size rfl 240 cs (0, 0) _ Hh.out Tryz.underlying240 rfl (by rw [Hs.out]; kernel_rfl) ?_) | (go_at_call 181; refine (of_calls _ cs _ Hs.out H3.out).mono ?_; rintro e w' ⟨rfl, bel⟩))
      go_ret
      refine ⟨?_, hb.trans (bel.mono hb.size)⟩
      show Ending.returned (.int .u64 (hi (fun j => decide (j < 64) && g1 x v lo j) 64 : Nat)) = _
      rw [z3h (zs8 x lo 1 v) _ (fun j hj => by
        rw [ze1, decide_eq_true hj]
        unfold g1
        by_cases e : j = lo
        · subst e; rw [if_pos rfl, if_pos ⟨Nat.le_refl _, by omega⟩, Nat.sub_self]; rfl
        · rw [if_neg e, if_neg (by omega)]; rfl)]
end Go.Proofs.YtomeaibdedaldaaGreatDoor.RefSet
namespace Go.Proofs.YtomeaibdedaldaaGreatDoor.RfA
open Go.RowKit Bv VaSpec Base MemL RegR Ax MemC PutC MemC3 TzC OkS SpA SpB SpC SpD IterC SpE SpF SpG SpH SpI SpJ SpK SpN RfP
open BitsC PteSpec
set_option maxRecDepth 10000
set_option maxHeartbeats 800000
theorem zgp (a i : Int) (ha : U a) (h0 : 0 ≤ i) (h : i < 64) : Ok 72 [iu a, ii i] (.m (ib (zhv a i))) :=
  zbb #[.int .u64 a, .int .i64 i] (.bool (zhv a i)) fun W _ => by
    have := RefS.zmf (X a) i W h0 (by omega)
    rw [B_X ha] at this
    refine this.mono fun e w' ⟨he, hq⟩ => ⟨?_, Q.below hq⟩
    rw [he, zd7 h0]; rfl
theorem zjw (a i v : Int) (ha : U a) (hv : U v) (h0 : 0 ≤ i) (h : i < 64) : Ok 161 [iu a, ii i, ii 1, iu v] (.m (iu (zbk a i 1 v))) := by
  obtain ⟨n, rfl⟩ := Int.eq_ofNat_of_zero_le h0
  exact zbb #[.int .u64 a, .int .i64 n, .int .i64 1, .int .u64 v] (.int .u64 (zbk a n 1 v)) fun W _ => by
    have := RefSet.z1a (X a) (X v) n W (by omega)
    rw [B_X ha, B_X hv] at this
    exact this
attribute [local irreducible] Ax.zbx
theorem zx2 (b m : Int) (hm : 0 ≤ m ∧ m ≤ 64) : Ok 100 [iu b, ii m] (.m (.ag [cu b, ci m, cu (zdm m)])) := by
  refine zad 21 Tryz.func100 rfl rfl rfl rfl ?_ GG.to
  intro W A hG
  repeat (first | (refine zah rfl ?_; first | refine zai ?_) | (refine hK _ ?_; clear hK K) | refine zac rfl ?_ | refine zaf ?_ | refine zab (fun K hK => ?_))
  refine za3 (α := Nat × Int) (fun p => (p.1 : Int) ≤ m ∧ p.2 = zdm p.1) (fun p => St.of [(1, .m (ii m)), (4, .m (.c (.p 4 0))), (5, .m (.c (.p 5 0))), (6, .m (ii p.1))] [(4, .live (.box [cu 0, ci 0, cu 0])), (5, .live (.box [cu b, ci m, cu p.2]))]) (fun p => m.toNat - p.1) (0, 0) ⟨by show ((0 : Nat) : Int) ≤ m; omega, allI_zero.symm⟩ (zao _ _ ⟨rfl, rfl, rfl, rfl, trivial⟩ ⟨rfl, rfl, trivial⟩ rfl) ?_
  rintro ⟨i, x⟩ ⟨hi0, hx0⟩
  have hi : (i : Int) ≤ m := hi0
  have hx : x = zdm i := hx0
  show Aw _ _ _ _ (St.of [(1, .m (ii m)), (4, .m (.c (.p 4 0))), (5, .m (.c (.p 5 0))), (6, .m (ii i))] [(4, .live (.box [cu 0, ci 0, cu 0])), (5, .live (.box [cu b, ci m, cu x]))])
  by_cases hlt : (i : Int) < m
  · have hs := zjw x i 1 (hx ▸ zn2 i) ⟨by omega, by omega⟩ (by omega) (by omega)
    repeat (first | (refine zah rfl ?_; first | refine zai ?_ | refine gdr (zaa rfl rfl rfl (hs) (by kernel_rfl)) ?_) | (refine hK _ ?_; clear hK K) | refine zac rfl ?_ | refine zag rfl rfl ?_ | refine zaf ?_ | refine zal ?_ | refine zab (fun K hK => ?_))
    exact ⟨(i + 1, zbk x i 1 1), ⟨by show ((i + 1 : Nat) : Int) ≤ m; omega, by show zbk x i 1 1 = zdm ((i + 1 : Nat) : Int); rw [hx, zn1 _ (by omega) (by omega)]; rfl⟩, by show m.toNat - (i + 1) < m.toNat - i; omega, zao _ _ ⟨rfl, rfl, rfl, rfl, trivial⟩ ⟨rfl, rfl, trivial⟩ rfl⟩
  · obtain rfl : m = i := by omega
    subst hx
    repeat (first | (refine zah rfl ?_; first | refine zai ?_) | (refine hK _ ?_; clear hK K) | (rename_i K1 hK1; refine hK1 _ ?_; clear hK hK1; clear K) | refine zac rfl ?_ | exact zaj (show zau _ _ _ = some _ by kernel_rfl) | refine zae rfl rfl ?_ | refine zaz ?_ | refine zab (fun K hK => ?_))
theorem zx3 (m : Int) (hm : 0 ≤ m ∧ m ≤ 64) : Ok 101 [ii m] (.m (.ag [ci m, cu (zdm m), cu 0])) := by
  refine zad 18 Tryz.func101 rfl rfl rfl rfl ?_ GG.to
  intro W A hG
  repeat (first | (refine zah rfl ?_; first | refine zai ?_) | (refine hK _ ?_; clear hK K) | refine zac rfl ?_ | refine zaf ?_ | refine zab (fun K hK => ?_))
  refine za3 (α := Nat × Int) (fun p => (p.1 : Int) ≤ m ∧ p.2 = zdm p.1) (fun p => St.of [(0, .m (ii m)), (2, .m (.c (.p 2 0))), (3, .m (.c (.p 3 0))), (4, .m (ii p.1))] [(2, .live (.box [ci 0, cu 0, cu 0])), (3, .live (.box [ci m, cu p.2, cu 0]))]) (fun p => m.toNat - p.1) (0, 0) ⟨by show ((0 : Nat) : Int) ≤ m; omega, allI_zero.symm⟩ (zao _ _ ⟨rfl, rfl, rfl, rfl, trivial⟩ ⟨rfl, rfl, trivial⟩ rfl) ?_
  rintro ⟨i, x⟩ ⟨hi0, hx0⟩
  have hi : (i : Int) ≤ m := hi0
  have hx : x = zdm i := hx0
  show Aw _ _ _ _ (St.of [(0, .m (ii m)), (2, .m (.c (.p 2 0))), (3, .m (.c (.p 3 0))), (4, .m (ii i))] [(2, .live (.box [ci 0, cu 0, cu 0])), (3, .live (.box [ci m, cu x, cu 0]))])
  by_cases hlt : (i : Int) < m
  · have hs := zjw x i 1 (hx ▸ zn2 i) ⟨by omega, by omega⟩ (by omega) (by omega)
    repeat (first | (refine zah rfl ?_; first | refine zai ?_ | refine gdr (zaa rfl rfl rfl (hs) (by kernel_rfl)) ?_) | (refine hK _ ?_; clear hK K) | refine zac rfl ?_ | refine zag rfl rfl ?_ | refine zaf ?_ | refine zal ?_ | refine zab (fun K hK => ?_))
    exact ⟨(i + 1, zbk x i 1 1), ⟨by show ((i + 1 : Nat) : Int) ≤ m; omega, by show zbk x i 1 1 = zdm ((i + 1 : Nat) : Int); rw [hx, zn1 _ (by omega) (by omega)]; rfl⟩, by show m.toNat - (i + 1) < m.toNat - i; omega, zao _ _ ⟨rfl, rfl, rfl, rfl, trivial⟩ ⟨rfl, rfl, trivial⟩ rfl⟩
  · obtain rfl : m = i := by omega
    subst hx
    repeat (first | (refine zah rfl ?_; first | refine zai ?_) | (refine hK _ ?_; clear hK K) | (rename_i K1 hK1; refine hK1 _ ?_; clear hK hK1; clear K) | refine zac rfl ?_ | exact zaj (show zau _ _ _ = some _ by kernel_rfl) | refine zae rfl rfl ?_ | refine zaz ?_ | refine zab (fun K hK => ?_))
theorem zn6 (b m f : Int) (hb : 0 ≤ b ∧ b ≤ 268435456) (hm : 0 ≤ m ∧ m ≤ 64) (hf : 0 ≤ f ∧ f < 2 ^ m.toNat) (h0 : f ≠ 0) : Ok 102 [.ag [cu b, ci m, cu f]] (.tu [.ag [cu b, ci m, cu (zbk f (tzI f) 1 0)], iu (b + tzI f), ii 0]) := by
  have hu : U f := zg3 hf.1 hf.2 (by omega)
  have ht := zct hu hf.2 h0
  refine zad 28 Tryz.func102 rfl rfl rfl rfl ?_ GG.to
  intro W A hG
  repeat (first | (refine zah rfl ?_; first | refine zai ?_) | (refine hK _ ?_; clear hK K) | refine zac rfl ?_ | refine zaf ?_ | refine zab (fun K hK => ?_))
  refine za3 (α := Nat) (fun i => (i : Int) ≤ tzI f) (fun i => St.of [(1, .m (.c (.p 1 0))), (2, .m (.c (.p 2 0))), (5, .m (ii i))] [(1, .live (.box [cu b, ci m, cu f])), (2, .live (.box [cu 0, ci 0, cu 0]))]) (fun i => m.toNat - i) 0 (by show ((0 : Nat) : Int) ≤ _; omega) (zao _ _ ⟨rfl, rfl, rfl, trivial⟩ ⟨rfl, rfl, trivial⟩ rfl) ?_
  intro i hi
  by_cases hlt : (i : Int) < tzI f
  · have hbt := zgp f i hu (by omega) (by omega)
    rw [zjs hu h0 (by omega) hlt] at hbt
    repeat (first | (refine zah rfl ?_; first | refine zai ?_ | refine gdr (zaa rfl rfl rfl (hbt) (by kernel_rfl)) ?_) | (refine hK _ ?_; clear hK K) | refine zac rfl ?_ | refine zag rfl rfl ?_ | refine zae rfl rfl ?_ | refine zaf ?_ | refine zal ?_ | refine zab (fun K hK => ?_))
    exact ⟨i + 1, by show ((i + 1 : Nat) : Int) ≤ _; omega, by omega, zao _ _ ⟨rfl, rfl, rfl, trivial⟩ ⟨rfl, rfl, trivial⟩ rfl⟩
  · have e : tzI f = i := by omega
    have hbt := zgp f i hu (by omega) (by omega)
    rw [← e, zk5 hu h0, e] at hbt
    have hs := zjw f i 0 hu ⟨by omega, by omega⟩ (by omega) (by omega)
    rw [e]
    repeat (first | (refine zah rfl ?_; first | refine zai ?_ | refine gdr (zaa rfl rfl rfl (hbt) (by kernel_rfl)) ?_ | refine gdr (zaa rfl rfl rfl (hs) (by kernel_rfl)) ?_) | (refine hK _ ?_; clear hK K) | refine zac rfl ?_ | refine zas (by kernel_rfl) (by kernel_rfl) rfl ?_ | exact zaj (show zau _ _ _ = some _ by kernel_rfl) | refine zag rfl rfl ?_ | refine zaf ?_ | refine zal ?_ | refine zab (fun K hK => ?_))
theorem zvn (b m : Int) (hm : 0 ≤ m ∧ m ≤ 64) : Ok 102 [.ag [cu b, ci m, cu 0]] (.tu [.ag [cu b, ci m, cu 0], iu 0, ii 8]) := by
  refine zad 28 Tryz.func102 rfl rfl rfl rfl ?_ GG.to
  intro W A hG
  repeat (first | (refine zah rfl ?_; first | refine zai ?_) | (refine hK _ ?_; clear hK K) | refine zac rfl ?_ | refine zaf ?_ | refine zab (fun K hK => ?_))
  refine za3 (α := Nat) (fun i => (i : Int) ≤ m) (fun i => St.of [(1, .m (.c (.p 1 0))), (2, .m (.c (.p 2 0))), (5, .m (ii i))] [(1, .live (.box [cu b, ci m, cu 0])), (2, .live (.box [cu 0, ci 0, cu 0]))]) (fun i => m.toNat - i) 0 (by show ((0 : Nat) : Int) ≤ _; omega) (zao _ _ ⟨rfl, rfl, rfl, trivial⟩ ⟨rfl, rfl, trivial⟩ rfl) ?_
  intro i hi
  by_cases hlt : (i : Int) < m
  · have hbt := zgp 0 i ⟨by omega, by omega⟩ (by omega) (by omega)
    rw [zrb i (by omega)] at hbt
    repeat (first | (refine zah rfl ?_; first | refine zai ?_ | refine gdr (zaa rfl rfl rfl (hbt) (by kernel_rfl)) ?_) | (refine hK _ ?_; clear hK K) | refine zac rfl ?_ | refine zag rfl rfl ?_ | refine zae rfl rfl ?_ | refine zaf ?_ | refine zal ?_ | refine zab (fun K hK => ?_))
    exact ⟨i + 1, by show ((i + 1 : Nat) : Int) ≤ _; omega, by omega, zao _ _ ⟨rfl, rfl, rfl, trivial⟩ ⟨rfl, rfl, trivial⟩ rfl⟩
  · skip
    repeat (first | (refine zah rfl ?_; first | refine zai ?_) | (refine hK _ ?_; clear hK K) | (rename_i K1 hK1; refine hK1 _ ?_; clear hK hK1; clear K) | refine zac rfl ?_ | exact zaj (show zau _ _ _ = some _ by kernel_rfl) | refine zae rfl rfl ?_ | refine zaz ?_ | refine zab (fun K hK => ?_))
theorem zjx (m f o : Int) (hm : 0 ≤ m ∧ m ≤ 64) (hf : 0 ≤ f ∧ f < 2 ^ m.toNat) (ho : U o) (h0 : f ≠ 0) : Ok 107 [.ag [ci m, cu f, cu o]] (.tu [.ag [ci m, cu (zgd f), cu (zge f o)], iu (tzI f + 1), ib (zhv o (tzI f)), ii 0]) := by
  have hu : U f := zg3 hf.1 hf.2 (by omega)
  have ht := zct hu hf.2 h0
  refine zad 38 Tryz.func107 rfl rfl rfl rfl ?_ GG.to
  intro W A hG
  repeat (first | (refine zah rfl ?_; first | refine zai ?_) | (refine hK _ ?_; clear hK K) | refine zac rfl ?_ | refine zaf ?_ | refine zab (fun K hK => ?_))
  refine za3 (α := Nat) (fun i => (i : Int) ≤ tzI f) (fun i => St.of [(1, .m (.c (.p 1 0))), (2, .m (.c (.p 2 0))), (6, .m (ii i))] [(1, .live (.box [ci m, cu f, cu o])), (2, .live (.box [ci 0, cu 0, cu 0]))]) (fun i => m.toNat - i) 0 (by show ((0 : Nat) : Int) ≤ _; omega) (zao _ _ ⟨rfl, rfl, rfl, trivial⟩ ⟨rfl, rfl, trivial⟩ rfl) ?_
  intro i hi
  by_cases hlt : (i : Int) < tzI f
  · have hbt := zgp f i hu (by omega) (by omega)
    rw [zjs hu h0 (by omega) hlt] at hbt
    repeat (first | (refine zah rfl ?_; first | refine zai ?_ | refine gdr (zaa rfl rfl rfl (hbt) (by kernel_rfl)) ?_) | (refine hK _ ?_; clear hK K) | refine zac rfl ?_ | refine zag rfl rfl ?_ | refine zae rfl rfl ?_ | refine zaf ?_ | refine zal ?_ | refine zab (fun K hK => ?_))
    exact ⟨i + 1, by show ((i + 1 : Nat) : Int) ≤ _; omega, by omega, zao _ _ ⟨rfl, rfl, rfl, trivial⟩ ⟨rfl, rfl, trivial⟩ rfl⟩
  · have e : tzI f = i := by omega
    have hbt := zgp f i hu (by omega) (by omega)
    rw [← e, zk5 hu h0, e] at hbt
    have hbo := zgp o i ho (by omega) (by omega)
    have hs := zjw f i 0 hu ⟨by omega, by omega⟩ (by omega) (by omega)
    have hs2 := zjw o i 1 ho ⟨by omega, by omega⟩ (by omega) (by omega)
    unfold zgd zge
    rw [e]
    repeat (first | (refine zah rfl ?_; first | refine zai ?_ | (refine zho 17 rfl ?_; refine gdr (zaa rfl rfl rfl (hbt) (by kernel_rfl)) ?_) | (refine zho 21 rfl ?_; refine gdr (zaa rfl rfl rfl (hbo) (by kernel_rfl)) ?_) | (refine zho 25 rfl ?_; refine gdr (zaa rfl rfl rfl (hs) (by kernel_rfl)) ?_) | (refine zho 30 rfl ?_; refine gdr (zaa rfl rfl rfl (hs2) (by kernel_rfl)) ?_)) | (refine hK _ ?_; clear hK K) | refine zac rfl ?_ | exact zaj (show zau _ _ _ = some _ by kernel_rfl) | refine zag rfl rfl ?_ | refine zaf ?_ | refine zal ?_ | refine zab (fun K hK => ?_))
theorem zvo (m o : Int) (hm : 0 ≤ m ∧ m ≤ 64) : Ok 107 [.ag [ci m, cu 0, cu o]] (.tu [.ag [ci m, cu 0, cu o], iu 0, ib false, ii 9]) := by
  refine zad 38 Tryz.func107 rfl rfl rfl rfl ?_ GG.to
  intro W A hG
  repeat (first | (refine zah rfl ?_; first | refine zai ?_) | (refine hK _ ?_; clear hK K) | refine zac rfl ?_ | refine zaf ?_ | refine zab (fun K hK => ?_))
  refine za3 (α := Nat) (fun i => (i : Int) ≤ m) (fun i => St.of [(1, .m (.c (.p 1 0))), (2, .m (.c (.p 2 0))), (6, .m (ii i))] [(1, .live (.box [ci m, cu 0, cu o])), (2, .live (.box [ci 0, cu 0, cu 0]))]) (fun i => m.toNat - i) 0 (by show ((0 : Nat) : Int) ≤ _; omega) (zao _ _ ⟨rfl, rfl, rfl, trivial⟩ ⟨rfl, rfl, trivial⟩ rfl) ?_
  intro i hi
  by_cases hlt : (i : Int) < m
  · have hbt := zgp 0 i ⟨by omega, by omega⟩ (by omega) (by omega)
    rw [zrb i (by omega)] at hbt
    repeat (first | (refine zah rfl ?_; first | refine zai ?_ | refine gdr (zaa rfl rfl rfl (hbt) (by kernel_rfl)) ?_) | (refine hK _ ?_; clear hK K) | refine zac rfl ?_ | refine zag rfl rfl ?_ | refine zae rfl rfl ?_ | refine zaf ?_ | refine zal ?_ | refine zab (fun K hK => ?_))
    exact ⟨i + 1, by show ((i + 1 : Nat) : Int) ≤ _; omega, by omega, zao _ _ ⟨rfl, rfl, rfl, trivial⟩ ⟨rfl, rfl, trivial⟩ rfl⟩
  · skip
    repeat (first | (refine zah rfl ?_; first | refine zai ?_) | (refine hK _ ?_; clear hK K) | (rename_i K1 hK1; refine hK1 _ ?_; clear hK hK1; clear K) | refine zac rfl ?_ | exact zaj (show zau _ _ _ = some _ by kernel_rfl) | refine zae rfl rfl ?_ | refine zaz ?_ | refine zab (fun K hK => ?_))
end Go.Proofs.YtomeaibdedaldaaGreatDoor.RfA
namespace Go.Proofs.YtomeaibdedaldaaGreatDoor.RfB
open Go.RowKit Bv VaSpec Base MemL RegR Ax MemC PutC MemC3 TzC OkS SpA SpB SpC SpD IterC SpE SpF SpG SpH SpI SpJ SpK SpN RfP RfQ RfA
open BitsC PteSpec
set_option maxRecDepth 10000
set_option maxHeartbeats 800000
attribute [local irreducible] Ax.zbx
theorem zfu (l : List (Int × Int)) (c : Int × Int) : fl (l ++ [c]) = fl l ++ [.int .u64 c.1, .int .u64 c.2] := zdi l [c]
theorem zvp {sz : Int} {l : List (Int × Int)} {n : Nat} {xs : List Value} (h1 : n = l.length) (h2 : xs = fl l) : zbt sz l = .ag [cu sz, .s n 2 xs] := by rw [h1, h2]
theorem zn7 {α β : Type} (f : β → α → β) (b : β) (l : List α) (i : Nat) (a : α) (h : l[i]? = some a) : (l.take (i + 1)).foldl f b = f ((l.take i).foldl f b) a := by
  rw [List.take_add_one, h]; simp
theorem zvq {α : Type} (f : α → Bool) (l : List α) (i : Nat) (a : α) (h : l[i]? = some a) : (l.take (i + 1)).filter f = (l.take i).filter f ++ [a].filter f := by
  rw [List.take_add_one, h]; simp
def z18 (sz p v : Int) (m : List (Int × Int)) (i : Nat) (d : Bool) (n : Nat) (xs : List Value) : St := St.of [(1, .m (iu p)), (2, .m (iu v)), (3, .m (.c (.p 3 0))), (6, .m (.c (.p 6 0))), (7, .m (.c (.o 1000))), (8, .m (ib d)), (9, .m (ii i))] [(3, .live (.box [cu sz, .s m.length 2 (fl m)])), (6, .live (.box [cu 0, .v (.slice none 0 0)])), (1000, .live (.row 204 2 n xs))]
theorem zn8 (sz : Int) (m : List (Int × Int)) (p v : Int) (hs : Srt m) (hl : m.length ≤ 1000000) : Ok 67 [zbt sz m, iu p, iu v] (.m (zbt sz (zby m p v))) := by
  have hput := z01 p v m hs
  obtain ⟨b0, hb0⟩ : ∃ b0, b0 = decide (v = 0) := ⟨_, rfl⟩
  rw [← hb0] at hput
  obtain ⟨N, hN⟩ : ∃ N, N = (zby m p v).length := ⟨_, rfl⟩
  obtain ⟨XS, hXS⟩ : ∃ XS, XS = fl (zby m p v) := ⟨_, rfl⟩
  rw [zvp (sz := sz) hN hXS]
  have hvb : v = 0 ∧ b0 = true ∨ v ≠ 0 ∧ b0 = false := by by_cases h : v = 0 <;> simp [hb0, h]
  clear hb0
  rcases hvb with ⟨hv, rfl⟩ | ⟨hv, rfl⟩
  · refine zad 64 Tryz.func67 rfl rfl rfl rfl ?_ GG.to
    intro W A hG
    repeat (first | (refine zah rfl ?_; first | refine zai ?_) | (refine hK _ ?_; clear hK K) | refine zac rfl ?_ | refine zaf ?_ | refine zab (fun K hK => ?_))
    refine za3 (α := Nat × List (Int × Int) × Bool × Nat × List Value) (fun q => q.1 ≤ m.length ∧ (q.2.1, q.2.2.1) = (m.take q.1).foldl (zcg p v) ([], true) ∧ q.2.2.2.1 = q.2.1.length ∧ q.2.2.2.2 = fl q.2.1 ∧ q.2.1.length ≤ 2 * q.1) (fun q => z18 sz p v m q.1 q.2.2.1 q.2.2.2.1 q.2.2.2.2) (fun q => m.length - q.1) (0, [], true, 0, []) ⟨Nat.zero_le _, rfl, rfl, rfl, Nat.le_refl _⟩ (Sub.trans (zhp 7 1000 204 2 rfl rfl) (zao _ _ ⟨rfl, rfl, rfl, rfl, rfl, rfl, rfl, trivial⟩ ⟨rfl, rfl, rfl, trivial⟩ (by kernel_rfl))) ?_
    rintro ⟨i, l, d, n, xs⟩ ⟨h1, h2, h3, h4, h5⟩
    have g1 : i ≤ m.length := h1
    have g2 : (l, d) = (m.take i).foldl (zcg p v) ([], true) := h2
    have g3 : n = l.length := h3
    have g4 : xs = fl l := h4
    have g5 : l.length ≤ 2 * i := h5
    show Aw _ _ _ _ (z18 sz p v m i d n xs)
    unfold z18
    by_cases hlt : i < m.length
    · obtain ⟨c, hc⟩ : ∃ c, m[i]? = some c := ⟨_, List.getElem?_eq_getElem hlt⟩
      have hx := SpL.zq9 hc
      have hf := zn7 (zcg p v) ([], true) m i c hc
      rw [← g2] at hf
      by_cases a1 : d = false ∧ p < c.1
      · obtain ⟨rfl, a1⟩ := a1
        rw [show zcg p v (l, false) c = (l ++ [(p, v), c], true) by unfold zcg; rw [if_pos ⟨rfl, a1⟩]] at hf
        repeat (first | (refine zah rfl ?_; first | refine zai ?_ | refine gdr (za9 rfl rfl rfl rfl rfl rfl rfl rfl rfl rfl rfl rfl rfl (by omega)) ?_) | (refine hK _ ?_; clear hK K) | refine zac rfl ?_ | refine zag rfl rfl ?_ | refine zaf ?_ | refine zal ?_ | refine zab (fun K hK => ?_))
        exact ⟨(i + 1, l ++ [(p, v), c], true, n + 1 + 1, xs ++ [.int .u64 p, .int .u64 v] ++ [.int .u64 c.1, .int .u64 c.2]), ⟨by show i + 1 ≤ m.length; omega, hf.symm, by show n + 1 + 1 = (l ++ [(p, v), c]).length; simp [g3], by show _ = fl (l ++ [(p, v), c]); rw [g4, zdi, List.append_assoc]; rfl, by show (l ++ [(p, v), c]).length ≤ 2 * (i + 1); simp; omega⟩, by show m.length - (i + 1) < m.length - i; omega, Sub.trans (zao [(1, .m (iu p)), (2, .m (iu v)), (3, .m (.c (.p 3 0))), (6, .m (.c (.p 6 0))), (7, .m (.c (.o 52))), (8, .m (ib true)), (9, .m (ii ((i + 1 : Nat) : Int)))] [(3, .live (.box [cu sz, .s m.length 2 (fl m)])), (6, .live (.box [cu 0, .v (.slice none 0 0)])), (52, .live (.row 204 2 (n + 1 + 1) (xs ++ [.int .u64 p, .int .u64 v] ++ [.int .u64 c.1, .int .u64 c.2])))] ⟨rfl, rfl, rfl, rfl, rfl, rfl, rfl, trivial⟩ ⟨rfl, rfl, rfl, trivial⟩ rfl) (Sub.trans (zd4 (b := 52) (b' := 1000) rfl rfl) (zao _ _ ⟨rfl, rfl, rfl, rfl, rfl, rfl, rfl, trivial⟩ ⟨rfl, rfl, rfl, trivial⟩ rfl))⟩
      · by_cases a2 : c.1 = p
        · rw [show zcg p v (l, d) c = (l, d) by unfold zcg; rw [if_neg a1, if_pos a2]] at hf
          have hd : d = true ∨ ¬ p < c.1 := by cases d <;> simp_all
          cases d
          · skip
            repeat (first | (refine zah rfl ?_; first | refine zai ?_) | (refine hK _ ?_; clear hK K) | refine zac rfl ?_ | refine zag rfl rfl ?_ | refine zae rfl rfl ?_ | refine zaf ?_ | refine zal ?_ | refine zab (fun K hK => ?_))
            exact ⟨(i + 1, l, false, n, xs), ⟨by show i + 1 ≤ m.length; omega, hf.symm, g3, g4, by show l.length ≤ 2 * (i + 1); omega⟩, by show m.length - (i + 1) < m.length - i; omega, zao _ _ ⟨rfl, rfl, rfl, rfl, rfl, rfl, rfl, trivial⟩ ⟨rfl, rfl, rfl, trivial⟩ (by kernel_rfl)⟩
          · skip
            repeat (first | (refine zah rfl ?_; first | refine zai ?_) | (refine hK _ ?_; clear hK K) | refine zac rfl ?_ | refine zag rfl rfl ?_ | refine zae rfl rfl ?_ | refine zaf ?_ | refine zal ?_ | refine zab (fun K hK => ?_))
            exact ⟨(i + 1, l, true, n, xs), ⟨by show i + 1 ≤ m.length; omega, hf.symm, g3, g4, by show l.length ≤ 2 * (i + 1); omega⟩, by show m.length - (i + 1) < m.length - i; omega, zao _ _ ⟨rfl, rfl, rfl, rfl, rfl, rfl, rfl, trivial⟩ ⟨rfl, rfl, rfl, trivial⟩ (by kernel_rfl)⟩
        · rw [show zcg p v (l, d) c = (l ++ [c], d) by unfold zcg; rw [if_neg a1, if_neg a2]] at hf
          cases d
          · have hd : ¬ p < c.1 := fun h => a1 ⟨rfl, h⟩
            repeat (first | (refine zah rfl ?_; first | refine zai ?_ | refine gdr (za9 rfl rfl rfl rfl rfl rfl rfl rfl rfl rfl rfl rfl rfl (by omega)) ?_) | (refine hK _ ?_; clear hK K) | refine zac rfl ?_ | refine zag rfl rfl ?_ | refine zae rfl rfl ?_ | refine zaf ?_ | refine zal ?_ | refine zab (fun K hK => ?_))
            exact ⟨(i + 1, l ++ [c], false, n + 1, xs ++ [.int .u64 c.1, .int .u64 c.2]), ⟨by show i + 1 ≤ m.length; omega, hf.symm, by show n + 1 = (l ++ [c]).length; simp [g3], by show _ = fl (l ++ [c]); rw [g4, zfu], by show (l ++ [c]).length ≤ 2 * (i + 1); simp; omega⟩, by show m.length - (i + 1) < m.length - i; omega, Sub.trans (zao [(1, .m (iu p)), (2, .m (iu v)), (3, .m (.c (.p 3 0))), (6, .m (.c (.p 6 0))), (7, .m (.c (.o 52))), (8, .m (ib false)), (9, .m (ii ((i + 1 : Nat) : Int)))] [(3, .live (.box [cu sz, .s m.length 2 (fl m)])), (6, .live (.box [cu 0, .v (.slice none 0 0)])), (52, .live (.row 204 2 (n + 1) (xs ++ [.int .u64 c.1, .int .u64 c.2])))] ⟨rfl, rfl, rfl, rfl, rfl, rfl, rfl, trivial⟩ ⟨rfl, rfl, rfl, trivial⟩ rfl) (Sub.trans (zd4 (b := 52) (b' := 1000) rfl rfl) (zao _ _ ⟨rfl, rfl, rfl, rfl, rfl, rfl, rfl, trivial⟩ ⟨rfl, rfl, rfl, trivial⟩ rfl))⟩
          · skip
            repeat (first | (refine zah rfl ?_; first | refine zai ?_ | refine gdr (za9 rfl rfl rfl rfl rfl rfl rfl rfl rfl rfl rfl rfl rfl (by omega)) ?_) | (refine hK _ ?_; clear hK K) | refine zac rfl ?_ | refine zag rfl rfl ?_ | refine zae rfl rfl ?_ | refine zaf ?_ | refine zal ?_ | refine zab (fun K hK => ?_))
            exact ⟨(i + 1, l ++ [c], true, n + 1, xs ++ [.int .u64 c.1, .int .u64 c.2]), ⟨by show i + 1 ≤ m.length; omega, hf.symm, by show n + 1 = (l ++ [c]).length; simp [g3], by show _ = fl (l ++ [c]); rw [g4, zfu], by show (l ++ [c]).length ≤ 2 * (i + 1); simp; omega⟩, by show m.length - (i + 1) < m.length - i; omega, Sub.trans (zao [(1, .m (iu p)), (2, .m (iu v)), (3, .m (.c (.p 3 0))), (6, .m (.c (.p 6 0))), (7, .m (.c (.o 52))), (8, .m (ib true)), (9, .m (ii ((i + 1 : Nat) : Int)))] [(3, .live (.box [cu sz, .s m.length 2 (fl m)])), (6, .live (.box [cu 0, .v (.slice none 0 0)])), (52, .live (.row 204 2 (n + 1) (xs ++ [.int .u64 c.1, .int .u64 c.2])))] ⟨rfl, rfl, rfl, rfl, rfl, rfl, rfl, trivial⟩ ⟨rfl, rfl, rfl, trivial⟩ rfl) (Sub.trans (zd4 (b := 52) (b' := 1000) rfl rfl) (zao _ _ ⟨rfl, rfl, rfl, rfl, rfl, rfl, rfl, trivial⟩ ⟨rfl, rfl, rfl, trivial⟩ rfl))⟩
    · have hi : i = m.length := by omega
      rw [hi, List.take_length] at g2
      rw [← g2] at hput
      cases d
      · have e : zby m p v = l ++ [(p, v)] := hput.symm
        obtain rfl : N = n + 1 := by rw [hN, e, g3]; simp
        obtain rfl : XS = xs ++ [.int .u64 p, .int .u64 v] := by rw [hXS, e, g4, zfu]
        repeat (first | (refine zah rfl ?_; first | refine zai ?_ | refine gdr (za9 rfl rfl rfl rfl rfl rfl rfl rfl rfl rfl rfl rfl rfl (by omega)) ?_) | (refine hK _ ?_; clear hK K) | (rename_i K1 hK1; refine hK1 _ ?_; clear hK hK1; clear K) | refine zac rfl ?_ | exact zaj (show zau _ _ _ = some _ by kernel_rfl) | refine zag rfl rfl ?_ | refine zae rfl rfl ?_ | refine zaz ?_ | refine zab (fun K hK => ?_))
      · have e : zby m p v = l := hput.symm
        obtain rfl : N = n := by rw [hN, e, g3]
        obtain rfl : XS = xs := by rw [hXS, e, g4]
        repeat (first | (refine zah rfl ?_; first | refine zai ?_) | (refine hK _ ?_; clear hK K) | (rename_i K1 hK1; refine hK1 _ ?_; clear hK hK1; clear K) | refine zac rfl ?_ | exact zaj (show zau _ _ _ = some _ by kernel_rfl) | refine zae rfl rfl ?_ | refine zaz ?_ | refine zal ?_ | refine zab (fun K hK => ?_))
  · refine zad 64 Tryz.func67 rfl rfl rfl rfl ?_ GG.to
    intro W A hG
    repeat (first | (refine zah rfl ?_; first | refine zai ?_) | (refine hK _ ?_; clear hK K) | refine zac rfl ?_ | refine zaf ?_ | refine zab (fun K hK => ?_))
    refine za3 (α := Nat × List (Int × Int) × Bool × Nat × List Value) (fun q => q.1 ≤ m.length ∧ (q.2.1, q.2.2.1) = (m.take q.1).foldl (zcg p v) ([], false) ∧ q.2.2.2.1 = q.2.1.length ∧ q.2.2.2.2 = fl q.2.1 ∧ q.2.1.length ≤ 2 * q.1) (fun q => z18 sz p v m q.1 q.2.2.1 q.2.2.2.1 q.2.2.2.2) (fun q => m.length - q.1) (0, [], false, 0, []) ⟨Nat.zero_le _, rfl, rfl, rfl, Nat.le_refl _⟩ (Sub.trans (zhp 7 1000 204 2 rfl rfl) (zao _ _ ⟨rfl, rfl, rfl, rfl, rfl, rfl, rfl, trivial⟩ ⟨rfl, rfl, rfl, trivial⟩ (by kernel_rfl))) ?_
    rintro ⟨i, l, d, n, xs⟩ ⟨h1, h2, h3, h4, h5⟩
    have g1 : i ≤ m.length := h1
    have g2 : (l, d) = (m.take i).foldl (zcg p v) ([], false) := h2
    have g3 : n = l.length := h3
    have g4 : xs = fl l := h4
    have g5 : l.length ≤ 2 * i := h5
    show Aw _ _ _ _ (z18 sz p v m i d n xs)
    unfold z18
    by_cases hlt : i < m.length
    · obtain ⟨c, hc⟩ : ∃ c, m[i]? = some c := ⟨_, List.getElem?_eq_getElem hlt⟩
      have hx := SpL.zq9 hc
      have hf := zn7 (zcg p v) ([], false) m i c hc
      rw [← g2] at hf
      by_cases a1 : d = false ∧ p < c.1
      · obtain ⟨rfl, a1⟩ := a1
        rw [show zcg p v (l, false) c = (l ++ [(p, v), c], true) by unfold zcg; rw [if_pos ⟨rfl, a1⟩]] at hf
        repeat (first | (refine zah rfl ?_; first | refine zai ?_ | refine gdr (za9 rfl rfl rfl rfl rfl rfl rfl rfl rfl rfl rfl rfl rfl (by omega)) ?_) | (refine hK _ ?_; clear hK K) | refine zac rfl ?_ | refine zag rfl rfl ?_ | refine zaf ?_ | refine zal ?_ | refine zab (fun K hK => ?_))
        exact ⟨(i + 1, l ++ [(p, v), c], true, n + 1 + 1, xs ++ [.int .u64 p, .int .u64 v] ++ [.int .u64 c.1, .int .u64 c.2]), ⟨by show i + 1 ≤ m.length; omega, hf.symm, by show n + 1 + 1 = (l ++ [(p, v), c]).length; simp [g3], by show _ = fl (l ++ [(p, v), c]); rw [g4, zdi, List.append_assoc]; rfl, by show (l ++ [(p, v), c]).length ≤ 2 * (i + 1); simp; omega⟩, by show m.length - (i + 1) < m.length - i; omega, Sub.trans (zao [(1, .m (iu p)), (2, .m (iu v)), (3, .m (.c (.p 3 0))), (6, .m (.c (.p 6 0))), (7, .m (.c (.o 52))), (8, .m (ib true)), (9, .m (ii ((i + 1 : Nat) : Int)))] [(3, .live (.box [cu sz, .s m.length 2 (fl m)])), (6, .live (.box [cu 0, .v (.slice none 0 0)])), (52, .live (.row 204 2 (n + 1 + 1) (xs ++ [.int .u64 p, .int .u64 v] ++ [.int .u64 c.1, .int .u64 c.2])))] ⟨rfl, rfl, rfl, rfl, rfl, rfl, rfl, trivial⟩ ⟨rfl, rfl, rfl, trivial⟩ rfl) (Sub.trans (zd4 (b := 52) (b' := 1000) rfl rfl) (zao _ _ ⟨rfl, rfl, rfl, rfl, rfl, rfl, rfl, trivial⟩ ⟨rfl, rfl, rfl, trivial⟩ rfl))⟩
      · by_cases a2 : c.1 = p
        · rw [show zcg p v (l, d) c = (l, d) by unfold zcg; rw [if_neg a1, if_pos a2]] at hf
          have hd : d = true ∨ ¬ p < c.1 := by cases d <;> simp_all
          cases d
          · skip
            repeat (first | (refine zah rfl ?_; first | refine zai ?_) | (refine hK _ ?_; clear hK K) | refine zac rfl ?_ | refine zag rfl rfl ?_ | refine zae rfl rfl ?_ | refine zaf ?_ | refine zal ?_ | refine zab (fun K hK => ?_))
            exact ⟨(i + 1, l, false, n, xs), ⟨by show i + 1 ≤ m.length; omega, hf.symm, g3, g4, by show l.length ≤ 2 * (i + 1); omega⟩, by show m.length - (i + 1) < m.length - i; omega, zao _ _ ⟨rfl, rfl, rfl, rfl, rfl, rfl, rfl, trivial⟩ ⟨rfl, rfl, rfl, trivial⟩ (by kernel_rfl)⟩
          · skip
            repeat (first | (refine zah rfl ?_; first | refine zai ?_) | (refine hK _ ?_; clear hK K) | refine zac rfl ?_ | refine zag rfl rfl ?_ | refine zae rfl rfl ?_ | refine zaf ?_ | refine zal ?_ | refine zab (fun K hK => ?_))
            exact ⟨(i + 1, l, true, n, xs), ⟨by show i + 1 ≤ m.length; omega, hf.symm, g3, g4, by show l.length ≤ 2 * (i + 1); omega⟩, by show m.length - (i + 1) < m.length - i; omega, zao _ _ ⟨rfl, rfl, rfl, rfl, rfl, rfl, rfl, trivial⟩ ⟨rfl, rfl, rfl, trivial⟩ (by kernel_rfl)⟩
        · rw [show zcg p v (l, d) c = (l ++ [c], d) by unfold zcg; rw [if_neg a1, if_neg a2]] at hf
          cases d
          · have hd : ¬ p < c.1 := fun h => a1 ⟨rfl, h⟩
            repeat (first | (refine zah rfl ?_; first | refine zai ?_ | refine gdr (za9 rfl rfl rfl rfl rfl rfl rfl rfl rfl rfl rfl rfl rfl (by omega)) ?_) | (refine hK _ ?_; clear hK K) | refine zac rfl ?_ | refine zag rfl rfl ?_ | refine zae rfl rfl ?_ | refine zaf ?_ | refine zal ?_ | refine zab (fun K hK => ?_))
            exact ⟨(i + 1, l ++ [c], false, n + 1, xs ++ [.int .u64 c.1, .int .u64 c.2]), ⟨by show i + 1 ≤ m.length; omega, hf.symm, by show n + 1 = (l ++ [c]).length; simp [g3], by show _ = fl (l ++ [c]); rw [g4, zfu], by show (l ++ [c]).length ≤ 2 * (i + 1); simp; omega⟩, by show m.length - (i + 1) < m.length - i; omega, Sub.trans (zao [(1, .m (iu p)), (2, .m (iu v)), (3, .m (.c (.p 3 0))), (6, .m (.c (.p 6 0))), (7, .m (.c (.o 52))), (8, .m (ib false)), (9, .m (ii ((i + 1 : Nat) : Int)))] [(3, .live (.box [cu sz, .s m.length 2 (fl m)])), (6, .live (.box [cu 0, .v (.slice none 0 0)])), (52, .live (.row 204 2 (n + 1) (xs ++ [.int .u64 c.1, .int .u64 c.2])))] ⟨rfl, rfl, rfl, rfl, rfl, rfl, rfl, trivial⟩ ⟨rfl, rfl, rfl, trivial⟩ rfl) (Sub.trans (zd4 (b := 52) (b' := 1000) rfl rfl) (zao _ _ ⟨rfl, rfl, rfl, rfl, rfl, rfl, rfl, trivial⟩ ⟨rfl, rfl, rfl, trivial⟩ rfl))⟩
          · skip
            repeat (first | (refine zah rfl ?_; first | refine zai ?_ | refine gdr (za9 rfl rfl rfl rfl rfl rfl rfl rfl rfl rfl rfl rfl rfl (by omega)) ?_) | (refine hK _ ?_; clear hK K) | refine zac rfl ?_ | refine zag rfl rfl ?_ | refine zae rfl rfl ?_ | refine zaf ?_ | refine zal ?_ | refine zab (fun K hK => ?_))
            exact ⟨(i + 1, l ++ [c], true, n + 1, xs ++ [.int .u64 c.1, .int .u64 c.2]), ⟨by show i + 1 ≤ m.length; omega, hf.symm, by show n + 1 = (l ++ [c]).length; simp [g3], by show _ = fl (l ++ [c]); rw [g4, zfu], by show (l ++ [c]).length ≤ 2 * (i + 1); simp; omega⟩, by show m.length - (i + 1) < m.length - i; omega, Sub.trans (zao [(1, .m (iu p)), (2, .m (iu v)), (3, .m (.c (.p 3 0))), (6, .m (.c (.p 6 0))), (7, .m (.c (.o 52))), (8, .m (ib true)), (9, .m (ii ((i + 1 : Nat) : Int)))] [(3, .live (.box [cu sz, .s m.length 2 (fl m)])), (6, .live (.box [cu 0, .v (.slice none 0 0)])), (52, .live (.row 204 2 (n + 1) (xs ++ [.int .u64 c.1, .int .u64 c.2])))] ⟨rfl, rfl, rfl, rfl, rfl, rfl, rfl, trivial⟩ ⟨rfl, rfl, rfl, trivial⟩ rfl) (Sub.trans (zd4 (b := 52) (b' := 1000) rfl rfl) (zao _ _ ⟨rfl, rfl, rfl, rfl, rfl, rfl, rfl, trivial⟩ ⟨rfl, rfl, rfl, trivial⟩ rfl))⟩
    · have hi : i = m.length := by omega
      rw [hi, List.take_length] at g2
      rw [← g2] at hput
      cases d
      · have e : zby m p v = l ++ [(p, v)] := hput.symm
        obtain rfl : N = n + 1 := by rw [hN, e, g3]; simp
        obtain rfl : XS = xs ++ [.int .u64 p, .int .u64 v] := by rw [hXS, e, g4, zfu]
        repeat (first | (refine zah rfl ?_; first | refine zai ?_ | refine gdr (za9 rfl rfl rfl rfl rfl rfl rfl rfl rfl rfl rfl rfl rfl (by omega)) ?_) | (refine hK _ ?_; clear hK K) | (rename_i K1 hK1; refine hK1 _ ?_; clear hK hK1; clear K) | refine zac rfl ?_ | exact zaj (show zau _ _ _ = some _ by kernel_rfl) | refine zag rfl rfl ?_ | refine zae rfl rfl ?_ | refine zaz ?_ | refine zab (fun K hK => ?_))
      · have e : zby m p v = l := hput.symm
        obtain rfl : N = n := by rw [hN, e, g3]
        obtain rfl : XS = xs := by rw [hXS, e, g4]
        repeat (first | (refine zah rfl ?_; first | refine zai ?_) | (refine hK _ ?_; clear hK K) | (rename_i K1 hK1; refine hK1 _ ?_; clear hK hK1; clear K) | refine zac rfl ?_ | exact zaj (show zau _ _ _ = some _ by kernel_rfl) | refine zae rfl rfl ?_ | refine zaz ?_ | refine zal ?_ | refine zab (fun K hK => ?_))
def z4y (sz p v : Int) (m : List (Int × Int)) (i : Nat) (n : Nat) (xs : List Value) : St := St.of [(1, .m (iu p)), (2, .m (iu v)), (3, .m (.c (.p 3 0))), (6, .m (.c (.p 6 0))), (7, .m (.c (.o 1000))), (8, .m (ii i))] [(3, .live (.box [cu sz, .s m.length 2 (fl m)])), (6, .live (.box [cu 0, .v (.slice none 0 0)])), (1000, .live (.row 204 2 n xs))]
theorem zvr (sz : Int) (m : List (Int × Int)) (f : Int) (hs : Srt m) (hl : m.length ≤ 1000000) (hf0 : 0 ≤ f ∧ f < 268436480) (hb : ∀ c ∈ m, 0 ≤ c.1 ∧ c.1 < 1099511627776) : Ok 164 [zbt sz m, iu (4096 * f), iu 4096] (.m (zbt sz (TableC.zav m f))) := by
  have hput := zg6 f m hs
  obtain ⟨N, hN⟩ : ∃ N, N = (TableC.zav m f).length := ⟨_, rfl⟩
  obtain ⟨XS, hXS⟩ : ∃ XS, XS = fl (TableC.zav m f) := ⟨_, rfl⟩
  rw [zvp (sz := sz) hN hXS]
  obtain ⟨p, hp⟩ : ∃ p, p = 4096 * f := ⟨_, rfl⟩
  obtain ⟨v, hv⟩ : ∃ v : Int, v = 4096 := ⟨_, rfl⟩
  rw [← hp]
  rw [show iu (4096 : Int) = iu v by rw [hv]]
  refine zad 49 Tryz.func164 rfl rfl rfl rfl ?_ GG.to
  intro W A hG
  repeat (first | (refine zah rfl ?_; first | refine zai ?_) | (refine hK _ ?_; clear hK K) | refine zac rfl ?_ | refine zaf ?_ | refine zab (fun K hK => ?_))
  refine za3 (α := Nat × List (Int × Int) × Nat × List Value) (fun q => q.1 ≤ m.length ∧ q.2.1 = (m.take q.1).filter (zka (f * 512) (f * 512 + 512)) ∧ q.2.2.1 = q.2.1.length ∧ q.2.2.2 = fl q.2.1) (fun q => z4y sz p v m q.1 q.2.2.1 q.2.2.2) (fun q => m.length - q.1) (0, [], 0, []) ⟨Nat.zero_le _, rfl, rfl, rfl⟩ (Sub.trans (zhp 7 1000 204 2 rfl rfl) (zao _ _ ⟨rfl, rfl, rfl, rfl, rfl, rfl, trivial⟩ ⟨rfl, rfl, rfl, trivial⟩ (by kernel_rfl))) ?_
  rintro ⟨i, l, n, xs⟩ ⟨h1, h2, h3, h4⟩
  have g1 : i ≤ m.length := h1
  have g2 : l = (m.take i).filter (zka (f * 512) (f * 512 + 512)) := h2
  have g3 : n = l.length := h3
  have g4 : xs = fl l := h4
  have g5 : l.length ≤ m.length := by rw [g2]; exact Nat.le_trans (List.length_filter_le _ _) (by rw [List.length_take]; omega)
  show Aw _ _ _ _ (z4y sz p v m i n xs)
  unfold z4y
  by_cases hlt : i < m.length
  · obtain ⟨c, hc⟩ : ∃ c, m[i]? = some c := ⟨_, List.getElem?_eq_getElem hlt⟩
    have hx := SpL.zq9 hc
    have hcb := hb c (List.mem_of_getElem? hc)
    have hf := zvq (zka (f * 512) (f * 512 + 512)) m i c hc
    rw [← g2] at hf
    by_cases a1 : c.1 < f * 512
    · rw [show [c].filter (zka (f * 512) (f * 512 + 512)) = [c] from List.filter_eq_self.2 (fun x hx => by simp at hx; subst hx; simp [zka, a1])] at hf
      repeat (first | (refine zah rfl ?_; first | refine zai ?_ | refine gdr (za9 rfl rfl rfl rfl rfl rfl rfl rfl rfl rfl rfl rfl rfl (by omega)) ?_) | (refine hK _ ?_; clear hK K) | refine zac rfl ?_ | refine zag rfl rfl ?_ | refine zaf ?_ | refine zal ?_ | refine zab (fun K hK => ?_))
      exact ⟨(i + 1, l ++ [c], n + 1, xs ++ [.int .u64 c.1, .int .u64 c.2]), ⟨by show i + 1 ≤ m.length; omega, hf.symm, by show n + 1 = (l ++ [c]).length; simp [g3], by show _ = fl (l ++ [c]); rw [g4, zfu]⟩, by show m.length - (i + 1) < m.length - i; omega, Sub.trans (zao [(1, .m (iu p)), (2, .m (iu v)), (3, .m (.c (.p 3 0))), (6, .m (.c (.p 6 0))), (7, .m (.c (.o 45))), (8, .m (ii ((i + 1 : Nat) : Int)))] [(3, .live (.box [cu sz, .s m.length 2 (fl m)])), (6, .live (.box [cu 0, .v (.slice none 0 0)])), (45, .live (.row 204 2 (n + 1) (xs ++ [.int .u64 c.1, .int .u64 c.2])))] ⟨rfl, rfl, rfl, rfl, rfl, rfl, trivial⟩ ⟨rfl, rfl, rfl, trivial⟩ rfl) (Sub.trans (zd4 (b := 45) (b' := 1000) rfl rfl) (zao _ _ ⟨rfl, rfl, rfl, rfl, rfl, rfl, trivial⟩ ⟨rfl, rfl, rfl, trivial⟩ rfl))⟩
    · by_cases a2 : f * 512 + 512 ≤ c.1
      · rw [show [c].filter (zka (f * 512) (f * 512 + 512)) = [c] from List.filter_eq_self.2 (fun x hx => by simp at hx; subst hx; simp [zka, a2])] at hf
        repeat (first | (refine zah rfl ?_; first | refine zai ?_ | refine gdr (za9 rfl rfl rfl rfl rfl rfl rfl rfl rfl rfl rfl rfl rfl (by omega)) ?_) | (refine hK _ ?_; clear hK K) | refine zac rfl ?_ | refine zag rfl rfl ?_ | refine zaf ?_ | refine zal ?_ | refine zab (fun K hK => ?_))
        exact ⟨(i + 1, l ++ [c], n + 1, xs ++ [.int .u64 c.1, .int .u64 c.2]), ⟨by show i + 1 ≤ m.length; omega, hf.symm, by show n + 1 = (l ++ [c]).length; simp [g3], by show _ = fl (l ++ [c]); rw [g4, zfu]⟩, by show m.length - (i + 1) < m.length - i; omega, Sub.trans (zao [(1, .m (iu p)), (2, .m (iu v)), (3, .m (.c (.p 3 0))), (6, .m (.c (.p 6 0))), (7, .m (.c (.o 45))), (8, .m (ii ((i + 1 : Nat) : Int)))] [(3, .live (.box [cu sz, .s m.length 2 (fl m)])), (6, .live (.box [cu 0, .v (.slice none 0 0)])), (45, .live (.row 204 2 (n + 1) (xs ++ [.int .u64 c.1, .int .u64 c.2])))] ⟨rfl, rfl, rfl, rfl, rfl, rfl, trivial⟩ ⟨rfl, rfl, rfl, trivial⟩ rfl) (Sub.trans (zd4 (b := 45) (b' := 1000) rfl rfl) (zao _ _ ⟨rfl, rfl, rfl, rfl, rfl, rfl, trivial⟩ ⟨rfl, rfl, rfl, trivial⟩ rfl))⟩
      · rw [show [c].filter (zka (f * 512) (f * 512 + 512)) = [] from List.filter_eq_nil_iff.2 (fun x hx => by simp at hx; subst hx; simp [zka]; omega), List.append_nil] at hf
        repeat (first | (refine zah rfl ?_; first | refine zai ?_) | (refine hK _ ?_; clear hK K) | refine zac rfl ?_ | refine zag rfl rfl ?_ | refine zae rfl rfl ?_ | refine zaf ?_ | refine zal ?_ | refine zab (fun K hK => ?_))
        exact ⟨(i + 1, l, n, xs), ⟨by show i + 1 ≤ m.length; omega, hf.symm, g3, g4⟩, by show m.length - (i + 1) < m.length - i; omega, zao _ _ ⟨rfl, rfl, rfl, rfl, rfl, rfl, trivial⟩ ⟨rfl, rfl, rfl, trivial⟩ (by kernel_rfl)⟩
  · have hi : i = m.length := by omega
    rw [hi, List.take_length] at g2
    rw [← g2] at hput
    obtain rfl : N = n := by rw [hN, hput, g3]
    obtain rfl : XS = xs := by rw [hXS, hput, g4]
    repeat (first | (refine zah rfl ?_; first | refine zai ?_) | (refine hK _ ?_; clear hK K) | (rename_i K1 hK1; refine hK1 _ ?_; clear hK hK1; clear K) | refine zac rfl ?_ | exact zaj (show zau _ _ _ = some _ by kernel_rfl) | refine zae rfl rfl ?_ | refine zaz ?_ | refine zab (fun K hK => ?_))
end Go.Proofs.YtomeaibdedaldaaGreatDoor.RfB
namespace Go.Proofs.YtomeaibdedaldaaGreatDoor.PteR
open Go.RowKit Bv VaSpec Base BitsC VaC PteSpec PteC
def f8 (v r w x u g a d : Bool) : Nat → Bool
  | 0 => v
  | 1 => r
  | 2 => w
  | 3 => x
  | 4 => u
  | 5 => g
  | 6 => a
  | _ => d
theorem row_low8 (v r w x u g a d : Bool) (rsw ppn high : Int) : zpp (f8 v r w x u g a d) 8 = zpn ⟨v, r, w, x, u, g, a, d, rsw, ppn, high⟩ := by
  unfold zpn; simp only [zpp, f8]; omega
end Go.Proofs.YtomeaibdedaldaaGreatDoor.PteR
namespace Go.Proofs.YtomeaibdedaldaaGreatDoor.VaR
open Go.RowKit Bv VaSpec Base BitsC VaC
end Go.Proofs.YtomeaibdedaldaaGreatDoor.VaR
namespace Go.Proofs.YtomeaibdedaldaaGreatDoor.RfC
open Go.RowKit Bv VaSpec Base MemL RegR Ax MemC PutC MemC3 TzC OkS SpA SpB SpC SpD IterC SpE SpF SpG SpH SpI SpJ SpK SpN RfP RfQ RfA RfB
open BitsC PteSpec
set_option maxRecDepth 10000
set_option maxHeartbeats 800000
attribute [local irreducible] Ax.zbx
theorem zn9 (sz : Int) (m : List (Int × Int)) (b n f : Int) (hb : 0 ≤ b ∧ b ≤ 268435456) (hm : 0 ≤ n ∧ n ≤ 64) (hf : 0 ≤ f ∧ f < 2 ^ n.toNat) (h0 : f ≠ 0) (hs : Srt m) (hl : m.length ≤ 1000000) (hc : ∀ c ∈ m, 0 ≤ c.1 ∧ c.1 < 1099511627776) :
    Ok 108 [zbt sz m, .ag [cu b, ci n, cu f]] (.tu [zbt sz (TableC.zav m (b + tzI f)), .ag [cu b, ci n, cu (zbk f (tzI f) 1 0)], iu (b + tzI f), ii 0]) := by
  have ht := zct (zg3 hf.1 hf.2 (by omega)) hf.2 h0
  have h1 := zn6 b n f hb hm hf h0
  have h2 := zvr sz m (b + tzI f) hs hl ⟨by omega, by omega⟩ hc
  refine zad 28 Tryz.func108 rfl rfl rfl rfl ?_ GG.to
  intro W A hG
  repeat (first | (refine zah rfl ?_; first | refine zai ?_ | refine gdr (zaa rfl rfl rfl (h1) (by kernel_rfl)) ?_ | refine gdr (zaa rfl rfl rfl (h2) (by kernel_rfl)) ?_) | (refine hK _ ?_; clear hK K) | refine zac rfl ?_ | refine zas (by kernel_rfl) (by kernel_rfl) rfl ?_ | exact zaj (show zau _ _ _ = some _ by kernel_rfl) | refine zae rfl rfl ?_ | refine zal ?_ | refine zab (fun K hK => ?_))
theorem zvs (sz : Int) (m : List (Int × Int)) (b n : Int) (hm : 0 ≤ n ∧ n ≤ 64) :
    Ok 108 [zbt sz m, .ag [cu b, ci n, cu 0]] (.tu [zbt sz m, .ag [cu b, ci n, cu 0], iu 0, ii 8]) := by
  have h1 := zvn b n hm
  refine zad 28 Tryz.func108 rfl rfl rfl rfl ?_ GG.to
  intro W A hG
  repeat (first | (refine zah rfl ?_; first | refine zai ?_ | refine gdr (zaa rfl rfl rfl (h1) (by kernel_rfl)) ?_) | (refine hK _ ?_; clear hK K) | refine zac rfl ?_ | refine zas (by kernel_rfl) (by kernel_rfl) rfl ?_ | exact zaj (show zau _ _ _ = some _ by kernel_rfl) | refine zag rfl rfl ?_ | refine zab (fun K hK => ?_))
theorem zs2 (f : Fe) : Ok 144 [.ag (Fe.ce f), .ag zE] (.m (ib false)) := by
  refine zad 38 Tryz.func144 rfl rfl rfl rfl ?_ GG.to
  intro W A hG
  repeat (first | (refine zah rfl ?_; first | refine zai ?_) | (refine hK _ ?_; clear hK K) | refine zac rfl ?_ | exact zaj (show zau _ _ _ = some _ by kernel_rfl) | refine zag rfl rfl ?_ | refine zab (fun K hK => ?_))
theorem zx4 (n : Nat) : zsL (n + 1) = zsL n ++ zS := by
  induction n with
  | zero => rfl
  | succ n ih =>
    have e : zsL (n + 1 + 1) = zS ++ zsL (n + 1) := rfl
    have e2 : zsL (n + 1) = zS ++ zsL n := rfl
    rw [e, ih, ← List.append_assoc, ← e2, ih]
def z4z (n : Nat) (f : Fe) (i : Nat) (xs : List Value) : St := St.of [(2, .m (.c (.p 2 0))), (3, .m (.c (.p 3 0))), (4, .m (.c (.p 4 0))), (5, .m (.c (.o 1000))), (6, .m (ii i))] [(2, .live (.box [.s n 45 (zsL n)])), (3, .live (.box (Fe.ce f))), (4, .live (.box [.v (.slice none 0 0)])), (1000, .live (.row 154 45 i xs))]
def rdoL (n : Nat) (f : Fe) (i w : Nat) (xs : List Value) : St := St.of [(2, .m (.c (.p 2 0))), (3, .m (.c (.p 3 0))), (4, .m (.c (.p 4 0))), (5, .m (.c (.o 1000))), (6, .m (ii i)), (7, .m (.c (.p 7 0))), (8, .m (ii w))] [(2, .live (.box [.s n 45 (zsL n)])), (3, .live (.box (Fe.ce f))), (4, .live (.box [.v (.slice none 0 0)])), (7, .live (.box (zS.map .v))), (1000, .live (.row 154 45 i xs))]
theorem z1b (f : Fe) (n : Nat) (hn : n ≤ 16) : Ok 81 [.ag [.s n 45 (zsL n)], .ag (Fe.ce f)] (.m (.ag [.s n 45 (zsL n)])) := by
  have hm := zs2 f
  refine zad 41 Tryz.func81 rfl rfl rfl rfl ?_ GG.to
  intro W A hG
  repeat (first | (refine zah rfl ?_; first | refine zai ?_) | (refine hK _ ?_; clear hK K) | refine zac rfl ?_ | refine zaf ?_ | refine zab (fun K hK => ?_))
  refine za3 (α := Nat × List Value) (fun q => q.1 ≤ n ∧ q.2 = zsL q.1) (fun q => z4z n f q.1 q.2) (fun q => n - q.1) (0, []) ⟨Nat.zero_le _, rfl⟩ (Sub.trans (zhp 5 1000 154 45 rfl rfl) (zao _ _ ⟨rfl, rfl, rfl, rfl, rfl, trivial⟩ ⟨rfl, rfl, rfl, rfl, trivial⟩ rfl)) ?_
  rintro ⟨i, xs⟩ ⟨h1, h2⟩
  have g1 : i ≤ n := h1
  have g2 : xs = zsL i := h2
  clear h1 h2
  show Aw _ _ _ _ (z4z n f i xs)
  unfold z4z
  by_cases hlt : i < n
  · have hx : ((zsL n).drop (i * 45)).take 45 = zS := zux n i hlt
    repeat (first | (refine zah rfl ?_; first | refine zai ?_) | (refine hK _ ?_; clear hK K) | refine zac rfl ?_ | refine zag rfl rfl ?_ | refine zaf ?_ | refine zal ?_ | refine zab (fun K hK => ?_))
    refine za3 (α := Nat) (fun w => w ≤ 4) (fun w => rdoL n f i w xs) (fun w => 4 - w) 0 (by omega) (zao _ _ ⟨rfl, rfl, rfl, rfl, rfl, rfl, rfl, trivial⟩ ⟨rfl, rfl, rfl, rfl, rfl, trivial⟩ rfl) ?_
    intro w hw
    unfold rdoL
    rcases (by omega : w = 0 ∨ w = 1 ∨ w = 2 ∨ w = 3 ∨ w = 4) with rfl | rfl | rfl | rfl | rfl
    · skip
      repeat (first | (refine zah rfl ?_; first | refine zai ?_ | refine gdr (zaa rfl rfl rfl (hm) (by kernel_rfl)) ?_) | (refine hK _ ?_; clear hK K) | refine zac rfl ?_ | refine zas (by kernel_rfl) (by kernel_rfl) rfl ?_ | refine zag rfl rfl ?_ | refine zae rfl rfl ?_ | refine zaf ?_ | refine zal ?_ | refine zab (fun K hK => ?_))
      exact ⟨1, by omega, by omega, zao _ _ ⟨rfl, rfl, rfl, rfl, rfl, rfl, rfl, trivial⟩ ⟨rfl, rfl, rfl, rfl, rfl, trivial⟩ rfl⟩
    · skip
      repeat (first | (refine zah rfl ?_; first | refine zai ?_ | refine gdr (zaa rfl rfl rfl (hm) (by kernel_rfl)) ?_) | (refine hK _ ?_; clear hK K) | refine zac rfl ?_ | refine zas (by kernel_rfl) (by kernel_rfl) rfl ?_ | refine zag rfl rfl ?_ | refine zae rfl rfl ?_ | refine zaf ?_ | refine zal ?_ | refine zab (fun K hK => ?_))
      exact ⟨2, by omega, by omega, zao _ _ ⟨rfl, rfl, rfl, rfl, rfl, rfl, rfl, trivial⟩ ⟨rfl, rfl, rfl, rfl, rfl, trivial⟩ rfl⟩
    · skip
      repeat (first | (refine zah rfl ?_; first | refine zai ?_ | refine gdr (zaa rfl rfl rfl (hm) (by kernel_rfl)) ?_) | (refine hK _ ?_; clear hK K) | refine zac rfl ?_ | refine zas (by kernel_rfl) (by kernel_rfl) rfl ?_ | refine zag rfl rfl ?_ | refine zae rfl rfl ?_ | refine zaf ?_ | refine zal ?_ | refine zab (fun K hK => ?_))
      exact ⟨3, by omega, by omega, zao _ _ ⟨rfl, rfl, rfl, rfl, rfl, rfl, rfl, trivial⟩ ⟨rfl, rfl, rfl, rfl, rfl, trivial⟩ rfl⟩
    · skip
      repeat (first | (refine zah rfl ?_; first | refine zai ?_ | refine gdr (zaa rfl rfl rfl (hm) (by kernel_rfl)) ?_) | (refine hK _ ?_; clear hK K) | refine zac rfl ?_ | refine zas (by kernel_rfl) (by kernel_rfl) rfl ?_ | refine zag rfl rfl ?_ | refine zae rfl rfl ?_ | refine zaf ?_ | refine zal ?_ | refine zab (fun K hK => ?_))
      exact ⟨4, by omega, by omega, zao _ _ ⟨rfl, rfl, rfl, rfl, rfl, rfl, rfl, trivial⟩ ⟨rfl, rfl, rfl, rfl, rfl, trivial⟩ rfl⟩
    · skip
      repeat (first | (refine zah rfl ?_; first | refine zai ?_ | refine gdr (za9 rfl rfl rfl rfl rfl rfl rfl rfl rfl rfl rfl rfl rfl (by omega)) ?_) | (refine hK _ ?_; clear hK K) | (rename_i K1 hK1; refine hK1 _ ?_; clear hK hK1; clear K) | refine zac rfl ?_ | refine zae rfl rfl ?_ | refine zaz ?_ | refine zab (fun K hK => ?_))
      exact ⟨(i + 1, xs ++ zS), ⟨by show i + 1 ≤ n; omega, by show xs ++ zS = zsL (i + 1); rw [zx4, g2]⟩, by show n - (i + 1) < n - i; omega, Sub.trans (zao [(2, .m (.c (.p 2 0))), (3, .m (.c (.p 3 0))), (4, .m (.c (.p 4 0))), (5, .m (.c (.o 38))), (6, .m (ii ((i + 1 : Nat) : Int)))] [(2, .live (.box [.s n 45 (zsL n)])), (3, .live (.box (Fe.ce f))), (4, .live (.box [.v (.slice none 0 0)])), (38, .live (.row 154 45 (i + 1) (xs ++ zS)))] ⟨rfl, rfl, rfl, rfl, rfl, trivial⟩ ⟨rfl, rfl, rfl, rfl, trivial⟩ rfl) (Sub.trans (zd4 (b := 38) (b' := 1000) rfl rfl) (zao _ _ ⟨rfl, rfl, rfl, rfl, rfl, trivial⟩ ⟨rfl, rfl, rfl, rfl, trivial⟩ rfl))⟩
  · obtain rfl : i = n := by omega
    subst g2
    repeat (first | (refine zah rfl ?_; first | refine zai ?_) | (refine hK _ ?_; clear hK K) | (rename_i K1 hK1; refine hK1 _ ?_; clear hK hK1; clear K) | refine zac rfl ?_ | exact zaj (show zau _ _ _ = some _ by kernel_rfl) | refine zae rfl rfl ?_ | refine zaz ?_ | refine zab (fun K hK => ?_))
theorem zx5 (l : List Fe) (hl : l.length ≤ 1000000) (n : Nat) (hn : n ≤ 16) : Ok 30 [.ag [.s n 45 (zsL n)], .c (.s l.length 4 (flF l))] (.m (.ag [.s n 45 (zsL n)])) := by
  refine zad 19 Tryz.func30 rfl rfl rfl rfl ?_ GG.to
  intro W A hG
  repeat (first | (refine zah rfl ?_; first | refine zai ?_) | (refine hK _ ?_; clear hK K) | refine zac rfl ?_ | refine zaf ?_ | refine zab (fun K hK => ?_))
  refine za3 (α := Nat) (fun k => k ≤ l.length) (fun k => St.of [(1, .m (.c (.s l.length 4 (flF l)))), (2, .m (.c (.p 2 0))), (4, .m (.c (.p 4 0))), (5, .m (ii k))] [(2, .live (.box [.s n 45 (zsL n)])), (4, .live (.box [.v (.slice none 0 0)]))]) (fun k => l.length - k) 0 (by omega) (zao _ _ ⟨rfl, rfl, rfl, rfl, trivial⟩ ⟨rfl, rfl, trivial⟩ rfl) ?_
  intro k hk
  by_cases hlt : k < l.length
  · obtain ⟨f, hf⟩ : ∃ f, l[k]? = some f := ⟨_, List.getElem?_eq_getElem hlt⟩
    have hx := zuz hf
    have hd := z1b f n hn
    repeat (first | (refine zah rfl ?_; first | refine zai ?_ | refine gdr (zaa rfl rfl rfl (hd) (by kernel_rfl)) ?_) | (refine hK _ ?_; clear hK K) | refine zac rfl ?_ | refine zas (by kernel_rfl) (by kernel_rfl) rfl ?_ | refine zag rfl rfl ?_ | refine zaf ?_ | refine zal ?_ | refine zab (fun K hK => ?_))
    exact ⟨k + 1, by omega, by omega, zao _ _ ⟨rfl, rfl, rfl, rfl, trivial⟩ ⟨rfl, rfl, trivial⟩ rfl⟩
  · skip
    repeat (first | (refine zah rfl ?_; first | refine zai ?_) | (refine hK _ ?_; clear hK K) | (rename_i K1 hK1; refine hK1 _ ?_; clear hK hK1; clear K) | refine zac rfl ?_ | exact zaj (show zau _ _ _ = some _ by kernel_rfl) | refine zae rfl rfl ?_ | refine zaz ?_ | refine zab (fun K hK => ?_))
end Go.Proofs.YtomeaibdedaldaaGreatDoor.RfC
namespace Go.Proofs.YtomeaibdedaldaaGreatDoor.RfD
open Go.RowKit Bv VaSpec Base MemL RegR Ax MemC PutC MemC3 TzC OkS SpA SpB SpC SpD IterC SpE SpF SpG SpH SpI SpJ SpK SpN RfP RfQ RfA RfB RfC SpO
open BitsC PteSpec
set_option maxRecDepth 10000
set_option maxHeartbeats 800000
attribute [local irreducible] Ax.zbx
theorem zvt (k : Kr) (ht : k.ts = zsL k.tn) (hn : k.tn ≤ 16) (l : List Fe) (hl : l.length ≤ 1000000) (hk : k.fs.length ≤ 1000000) : Ok 109 [.ag k.ce, .c (.s l.length 4 (flF l))] (.m (.ag (zd6 k l).ce)) := by
  rw [ce_z k ht, show (zd6 k l).ce = k.raw k.tn (zsL k.tn) k.ss.length (flS k.ss) (k.fs.length + l.length) (flF k.fs ++ flF l) from by rw [← ht]; simp [zd6, Kr.ce, Kr.raw, flF]]
  have ha := zx5 l hl k.tn hn
  refine zad 20 Tryz.func109 rfl rfl rfl rfl ?_ GG.to
  intro W A hG
  repeat (first | (refine zah rfl ?_; first | refine zai ?_ | refine gdr (zaa rfl rfl rfl (ha) (by kernel_rfl)) ?_ | refine gdr (zdz rfl rfl rfl rfl rfl rfl rfl rfl rfl rfl rfl rfl (zpr k.fs) (by omega)) ?_ | refine gdr (za9 rfl rfl rfl rfl rfl rfl rfl rfl rfl rfl rfl rfl (zpr l) (by omega)) ?_) | (refine hK _ ?_; clear hK K) | refine zac rfl ?_ | exact zaj (show zau _ _ _ = some _ by kernel_rfl) | refine zab (fun K hK => ?_))
theorem z1c (a b c : Int) (n : Nat) (h : zga a b c n = true) : Ok 44 [zl5 a b c n] (.m (.ag (zs9 a b c n).ce)) := by
  obtain ⟨ha, hb, hc, hn⟩ := zdl.1 h
  have l1 := zjq (n := b) (by omega) (by omega)
  have l2 := zl6 (n := b) (by omega) (by omega)
  have h2 := zx2 a b (by omega)
  have h3 := zx3 c (by omega)
  have h5 := zn6 a b (zdm b) (by omega) (by omega) l1 l2
  obtain ⟨i, z, hi, hz, hs, hby⟩ := TlbNewC.z2t
  obtain ⟨z', hz', hzc⟩ := zset
  obtain rfl : z' = z := by rw [hi] at hz'; exact Option.some.inj (hz'.symm.trans hz)
  have hmd := zvf n z' hzc
  have key : Ok 44 [zl5 a b c n] (.m (.ag [ci a, ci b, ci c, ci n, cu ((a + b) * 4096), .v (.slice none 0 0), .s n 45 (zsL n), cu 0, cu 0, cu 0, ci 0, cb false, cb false, ci (-1), cu a, ci b, cu (zbk (zdm b) (tzI (zdm b)) 1 0), ci c, cu (zdm c), cu 0, .v (.slice none 0 0), ci (-1), cu (a + tzI (zdm b)), .v (.slice none 0 0)])) := by
    rw [show (a + b) * 4096 = 4096 * (a + b) by omega]
    refine zad 49 Tryz.func44 rfl rfl rfl rfl ?_ GG.to
    intro W A hG
    repeat (first | (refine zah rfl ?_; first | refine zai ?_ | refine gdr (zaa rfl rfl rfl (h2) (by kernel_rfl)) ?_ | refine gdr (zaa rfl rfl rfl (h3) (by kernel_rfl)) ?_ | refine gdr (zaa rfl rfl rfl (h5) (by kernel_rfl)) ?_ | refine gdr (zkr rfl rfl rfl rfl rfl rfl rfl hi hz hs (by rw [hby]; omega) (by unfold maxLen; omega) hmd) ?_) | (refine hK _ ?_; clear hK K) | refine zac rfl ?_ | exact zaj (show zau _ _ _ = some _ by kernel_rfl) | refine zab (fun K hK => ?_))
  refine zfs key rfl (m_lt ?_)
  exact ⟨ltC.rf _, ltC.rf _, ltC.rf _, ltC.rf _, ltC.rf _, ltC.nil 2, ltC.rf _, ltC.rf _, ltC.rf _, ltC.rf _, ltC.rf _, ltC.rf _, ltC.rf _, ltC.rf _, ltC.rf _, ltC.rf _, ltC.rf _, ltC.rf _, ltC.rf _, ltC.rf _, ltC.nil 3, ltC.rf _, ltC.rf _, ltC.nil 4, trivial⟩
end Go.Proofs.YtomeaibdedaldaaGreatDoor.RfD
namespace Go.Proofs.YtomeaibdedaldaaGreatDoor.RfE
open Go.RowKit Bv VaSpec Base MemL RegR Ax MemC PutC MemC3 TzC OkS SpA SpB SpC SpD IterC SpE SpF SpG SpH SpI SpJ SpK SpN RfP RfQ RfA RfB RfC SpO RfD
open BitsC PteSpec
set_option maxRecDepth 10000
set_option maxHeartbeats 800000
attribute [local irreducible] Ax.zbx
theorem zvu (n : Int) (h : 0 ≤ n ∧ n < 17592186044416) : PteC.zcp (gP n) = 33 + 1024 * n := by
  have hm : zhe (gP n) = true := by
    unfold zhe gP
    simp; omega
  unfold PteC.zcp
  rw [if_pos hm]
  show zpn (gP n) + 0 * 256 + n * 1024 + 0 * 18014398509481984 = _
  rw [show zpn (gP n) = 33 from rfl]
  omega
theorem zp7 {n : Nat} {k : Kr} (h : Inv n k) (hp : k.pf ≠ 0) : zol k = zby (TableC.zav k.m (k.pb + tzI k.pf)) (512 * (k.pb + tzI k.pf) + 511) (33 + 1024 * k.sh) := by
  have t1 := zct h.upf h.pf.2 hp
  have h1 := h.cd
  have h2 := h.cp
  have h3 := h.pb
  have h4 := h.pm
  have h8 := h.sh
  have hP : (gP k.sh).U := ⟨by show (0 : Int) ≤ 0 ∧ (0 : Int) < _; omega, by show 0 ≤ k.sh ∧ k.sh < _; omega, by show (0 : Int) ≤ 0 ∧ (0 : Int) < _; omega⟩
  unfold zol
  rw [zq6, zd8 hP (by omega) (by omega) (by rw [h.sz]; omega), zvu _ (by omega), show (k.pb + tzI k.pf) * 512 + 511 = 512 * (k.pb + tzI k.pf) + 511 by omega]
theorem zrh {n : Nat} {k : Kr} (h : Inv n k) : ∀ c ∈ k.m, 0 ≤ c.1 ∧ c.1 < 1099511627776 := fun c hc => by
  obtain ⟨a, b, _, _⟩ := h.mc c hc
  have h1 := h.cd
  have h2 := h.cp
  constructor <;> omega
theorem zmg {n : Nat} {k : Kr} (h : Inv n k) (hn : n ≤ 100000) (h32 : k.ss.length < 32) (h0 : k.af ≠ 0) (hp0 : k.pf ≠ 0) (hown : zhv k.ao (tzI k.af) = false) :
    Ok 46 [.ag k.ce] (.tu [.ag (zbd k).ce, ii k.ss.length, ii 0]) := by
  have h1 := h.cd
  have h2 := h.cp
  have h3 := h.pb
  have h4 := h.pm
  have h5 := h.ml
  have h6 := h.ca
  have h7 := h.am
  have h8 := h.sh
  have t1 := zct h.upf h.pf.2 hp0
  have t2 := zct h.uaf h.af.2 h0
  have hw := zdv k.m (k.pb + tzI k.pf)
  have ht := zjx k.am k.af k.ao (by omega) (by rw [h.am]; exact h.af) h.uao h0
  rw [hown] at ht
  have hf := zn9 k.sz k.m k.pb k.pm k.pf (by omega) (by omega) (by rw [h.pm]; exact h.pf) hp0 h.m (by omega) (zrh h)
  have hs := zn8 k.sz (TableC.zav k.m (k.pb + tzI k.pf)) (512 * (k.pb + tzI k.pf) + 511) (33 + 1024 * k.sh) (zcd _ h.m) (by omega)
  rw [← zp7 h hp0] at hs
  rw [zf4]
  refine zad 80 Tryz.func46 rfl rfl rfl rfl ?_ GG.to
  intro W A hG
  repeat (first | (refine zah rfl ?_; first | refine zai ?_ | refine gdr (zaa rfl rfl rfl (ht) (by kernel_rfl)) ?_ | refine gdr (zaa rfl rfl rfl (hf) (by kernel_rfl)) ?_ | refine gdr (zaa rfl rfl rfl (hs) (by kernel_rfl)) ?_ | refine gdr (zdz rfl rfl rfl rfl rfl rfl rfl rfl rfl rfl rfl rfl (SpM.flS_one k.ss) (by omega)) ?_ | refine gdr (za9 rfl rfl rfl rfl rfl rfl rfl rfl rfl rfl rfl rfl rfl (by omega)) ?_) | (refine hK _ ?_; clear hK K) | refine zac rfl ?_ | exact zaj (show zau _ _ _ = some _ by kernel_rfl) | refine zae rfl rfl ?_ | refine zal ?_ | refine zab (fun K hK => ?_))
theorem zmh {n : Nat} {k : Kr} (h : Inv n k) (hn : n ≤ 100000) (h32 : k.ss.length < 32) (h0 : k.af ≠ 0) (hp0 : k.pf ≠ 0) (hown : zhv k.ao (tzI k.af) = true) :
    Ok 46 [.ag k.ce] (.tu [.ag (zd6 (zbd k) [aFe (tzI k.af + 1)]).ce, ii k.ss.length, ii 0]) := by
  have h1 := h.cd
  have h2 := h.cp
  have h3 := h.pb
  have h4 := h.pm
  have h5 := h.ml
  have h6 := h.ca
  have h7 := h.am
  have h8 := h.sh
  have h9 := h.fl
  have t1 := zct h.upf h.pf.2 hp0
  have t2 := zct h.uaf h.af.2 h0
  have hw := zdv k.m (k.pb + tzI k.pf)
  have ht := zjx k.am k.af k.ao (by omega) (by rw [h.am]; exact h.af) h.uao h0
  rw [hown] at ht
  have hf := zn9 k.sz k.m k.pb k.pm k.pf (by omega) (by omega) (by rw [h.pm]; exact h.pf) hp0 h.m (by omega) (zrh h)
  have hs := zn8 k.sz (TableC.zav k.m (k.pb + tzI k.pf)) (512 * (k.pb + tzI k.pf) + 511) (33 + 1024 * k.sh) (zcd _ h.m) (by omega)
  rw [← zp7 h hp0] at hs
  have hfe : Ok 109 [.ag (({ k with m := zol k, pf := zbk k.pf (tzI k.pf) 1 0, af := zgd k.af, ao := zge k.af k.ao } : Kr).raw k.tn k.ts (k.ss.length + 1) (flS k.ss ++ (⟨k.pb + tzI k.pf, tzI k.af + 1, true⟩ : Sp).vs) k.fs.length (flF k.fs)), .c (.s 1 4 (flF [aFe (tzI k.af + 1)]))] (.m (.ag (zd6 (zbd k) [aFe (tzI k.af + 1)]).ce)) := by
    rw [← zf4]
    exact zvt (zbd k) h.ts h.cs.2 [aFe (tzI k.af + 1)] (by simp) (by show k.fs.length ≤ _; omega)
  refine zad 80 Tryz.func46 rfl rfl rfl rfl ?_ GG.to
  intro W A hG
  repeat (first | (refine zah rfl ?_; first | refine zai ?_ | refine gdr (zaa rfl rfl rfl (ht) (by kernel_rfl)) ?_ | refine gdr (zaa rfl rfl rfl (hf) (by kernel_rfl)) ?_ | refine gdr (zaa rfl rfl rfl (hs) (by kernel_rfl)) ?_ | refine gdr (zdz rfl rfl rfl rfl rfl rfl rfl rfl rfl rfl rfl rfl (SpM.flS_one k.ss) (by omega)) ?_) | (refine hK _ ?_; clear hK K) | refine zac rfl ?_ | refine zae rfl rfl ?_ | refine zal ?_ | refine zab (fun K hK => ?_))
  refine zah rfl ?_
  refine gdr (za9 rfl rfl rfl rfl rfl rfl rfl rfl rfl rfl rfl rfl rfl (by omega)) ?_
  repeat (first | (refine zah rfl ?_; first | refine zai ?_))
  first
    | (refine hK _ ?_; clear hK K)
    | (rename_i K1 hK1; refine hK1 _ ?_; clear hK hK1; clear K)
    | (rename_i K1 hK1; refine hK1 _ ?_; clear hK1)
  refine zdr (Sub.trans (zy0 (b := 70) rfl) (zao [(1, .m (.c (.p 1 0))), (2, .m (.c (.p 2 0))), (6, .m (iu (tzI k.af + 1))), (7, .m (ib true)), (13, .m (ii k.ss.length))] [(1, .live (.box (({ k with m := zol k, pf := zbk k.pf (tzI k.pf) 1 0, af := zgd k.af, ao := zge k.af k.ao } : Kr).raw k.tn k.ts (k.ss.length + 1) (flS k.ss ++ (⟨k.pb + tzI k.pf, tzI k.af + 1, true⟩ : Sp).vs) k.fs.length (flF k.fs)))), (2, .live (.box zK))] ⟨by kernel_rfl, by kernel_rfl, by kernel_rfl, by kernel_rfl, by kernel_rfl, trivial⟩ ⟨by kernel_rfl, by kernel_rfl, trivial⟩ (by kernel_rfl))) ?_
  repeat (first | (refine zah rfl ?_; first | refine zai ?_ | refine gdr (zem (b := 76) rfl rfl rfl rfl rfl rfl (zii (by kernel_rfl) hfe)) ?_) | (refine hK _ ?_; clear hK K) | refine zac rfl ?_ | exact zaj (show zau _ _ _ = some _ by kernel_rfl) | refine zag rfl rfl ?_ | refine zab (fun K hK => ?_))
theorem zp8 {n : Nat} {k : Kr} (h : Inv n k) (hn : n ≤ 100000) : Ok 46 [.ag k.ce] (.tu [.ag (zbu k).1.ce, ii (zbu k).2.1, ii (zbu k).2.2]) := by
  have h3 := h.pb
  have h4 := h.pm
  have h5 := h.ml
  have h6 := h.sl
  have h1 := h.cd
  have h2 := h.cp
  have h7 := h.am
  have h8 := h.ca
  unfold zbu
  by_cases c1 : 32 ≤ k.ss.length
  · rw [if_pos c1]
    refine zad 80 Tryz.func46 rfl rfl rfl rfl ?_ GG.to
    intro W A hG
    repeat (first | (refine zah rfl ?_; first | refine zai ?_) | (refine hK _ ?_; clear hK K) | refine zac rfl ?_ | exact zaj (show zau _ _ _ = some _ by kernel_rfl) | refine zag rfl rfl ?_ | refine zab (fun K hK => ?_))
  rw [if_neg c1]
  by_cases c2 : k.af = 0
  · rw [if_pos c2]
    have ht : Ok 107 [.ag [ci k.am, cu k.af, cu k.ao]] (.tu [.ag [ci k.am, cu k.af, cu k.ao], iu 0, ib false, ii 9]) := by rw [c2]; exact zvo k.am k.ao (by omega)
    refine zad 80 Tryz.func46 rfl rfl rfl rfl ?_ GG.to
    intro W A hG
    repeat (first | (refine zah rfl ?_; first | refine zai ?_ | refine gdr (zaa rfl rfl rfl (ht) (by kernel_rfl)) ?_) | (refine hK _ ?_; clear hK K) | refine zac rfl ?_ | exact zaj (show zau _ _ _ = some _ by kernel_rfl) | refine zag rfl rfl ?_ | refine zae rfl rfl ?_ | refine zal ?_ | refine zab (fun K hK => ?_))
  rw [if_neg c2]
  by_cases c3 : k.pf = 0
  · rw [if_pos c3]
    have t2 := zct h.uaf h.af.2 c2
    have ht := zjx k.am k.af k.ao (by omega) (by rw [h.am]; exact h.af) h.uao c2
    have hf : Ok 108 [zbt k.sz k.m, .ag [cu k.pb, ci k.pm, cu k.pf]] (.tu [zbt k.sz k.m, .ag [cu k.pb, ci k.pm, cu k.pf], iu 0, ii 8]) := by rw [c3]; exact zvs k.sz k.m k.pb k.pm (by omega)
    refine zad 80 Tryz.func46 rfl rfl rfl rfl ?_ GG.to
    intro W A hG
    repeat (first | (refine zah rfl ?_; first | refine zai ?_ | refine gdr (zaa rfl rfl rfl (ht) (by kernel_rfl)) ?_ | refine gdr (zaa rfl rfl rfl (hf) (by kernel_rfl)) ?_) | (refine hK _ ?_; clear hK K) | refine zac rfl ?_ | exact zaj (show zau _ _ _ = some _ by kernel_rfl) | refine zag rfl rfl ?_ | refine zae rfl rfl ?_ | refine zal ?_ | refine zab (fun K hK => ?_))
  rw [if_neg c3]
  by_cases c4 : (zd0 k.ao (tzI k.af) 1 == 1) = true
  · rw [if_pos c4]
    exact zmh h hn (by omega) c2 c3 c4
  · rw [if_neg c4]
    exact zmg h hn (by omega) c2 c3 (by unfold zhv; cases e : (zd0 k.ao (tzI k.af) 1 == 1) with | false => rfl | true => exact absurd e c4)
end Go.Proofs.YtomeaibdedaldaaGreatDoor.RfE
namespace Go.Proofs.YtomeaibdedaldaaGreatDoor.RfG
open Go.RowKit Bv Base BitsC SpI RfP
def cs : Nat → (Nat → Bool) → Nat
  | 0, _ => 0
  | n + 1, f => cs n f + (f n).toNat
theorem zhb : ∀ (n : Nat) (f g : Nat → Bool), (∀ j, j < n → f j = g j) → cs n f = cs n g
  | 0, _, _, _ => rfl
  | n + 1, f, g, h => by simp only [cs]; rw [zhb n f g (fun j hj => h j (by omega)), h n (by omega)]
theorem z3j {f g : Nat → Bool} {i : Nat} (hi : f i = false) (gi : g i = true) (h : ∀ j, j ≠ i → g j = f j) : ∀ n, i < n → cs n g = cs n f + 1
  | 0, hn => by omega
  | n + 1, hn => by
    simp only [cs]
    by_cases e : i = n
    · subst e
      rw [hi, gi, zhb i g f (fun j hj => h j (by omega))]; rfl
    · rw [z3j hi gi h n (by omega), h n (fun e' => e e'.symm)]; omega
theorem zx6 : ∀ (n m : Nat), m ≤ n → cs n (fun j => decide (j < m)) = m
  | 0, m, h => by simp [cs]; omega
  | n + 1, m, h => by
    simp only [cs]
    by_cases e : m = n + 1
    · rw [zhb n _ (fun j => decide (j < n)) (fun j hj => by simp [hj]; omega), zx6 n n (Nat.le_refl _)]
      simp [e]
    · rw [zx6 n m (by omega)]; simp; omega
def cb : Nat → Nat → Nat
  | 0, _ => 0
  | f + 1, x => x % 2 + cb f (x / 2)
def M (m : Nat) : Nat → Nat
  | 0 => 0
  | k + 1 => m + 256 * M m k
def f1 (k x : Nat) : Nat := (x / 2 &&& M 85 k) + (x &&& M 85 k)
def f2 (k x : Nat) : Nat := (x / 4 &&& M 51 k) + (x &&& M 51 k)
def f3 (k x : Nat) : Nat := (x / 16 + x) &&& M 15 k
theorem d1 : ∀ a, a < 256 → ∀ c, c < 2 → (a / 2 + 128 * c) &&& 85 = a / 2 &&& 85 := by decide +kernel
theorem d2 : ∀ a, a < 256 → ∀ c, c < 4 → (a / 4 + 64 * c) &&& 51 = a / 4 &&& 51 := by decide +kernel
def g1 (a : Nat) : Nat := (a / 2 &&& 85) + (a &&& 85)
def g2 (a : Nat) : Nat := (a / 4 &&& 51) + (a &&& 51)
def g3 (a : Nat) : Nat := (a / 16 + a) % 16
theorem d3 : ∀ a, a < 256 → g1 a < 256 ∧ g2 (g1 a) < 256 ∧ g2 (g1 a) % 16 ≤ 4 ∧ g2 (g1 a) / 16 ≤ 4 ∧ g3 (g2 (g1 a)) = cb 8 a ∧ cb 8 a ≤ 8 := by decide +kernel
def h3 (k x : Nat) : Nat := f3 k (f2 k (f1 k x))
end Go.Proofs.YtomeaibdedaldaaGreatDoor.RfG
namespace Go.Proofs.YtomeaibdedaldaaGreatDoor.RfJ
open Go.RowKit Bv VaSpec Base MemL RegR Ax MemC PutC MemC3 TzC OkS SpA SpB SpC SpD IterC SpE SpF SpG SpH SpI SpJ SpK SpN RfP RfQ RfE RfG
open BitsC PteSpec
def cnt (x : Int) : Nat := cs 64 (fun j => zhv x (j : Int))
theorem zmi {x i : Int} (hx : U x) (h0 : 0 ≤ i) (h1 : i < 64) (h : zhv x i = true) : cnt (zbk x i 1 0) + 1 = cnt x := by
  obtain ⟨n, rfl⟩ := Int.eq_ofNat_of_zero_le h0
  refine (z3j (i := n) ?_ h (fun j hj => ?_) 64 (by omega)).symm
  · rw [zgo hx h0 h1 h0 h1, if_pos rfl]; rfl
  · by_cases hj2 : j < 64
    · rw [zgo hx h0 h1 (by omega) (by omega), if_neg (by omega)]
    · rw [zd7 (by omega), zd7 (by omega)]
      rw [Int.toNat_natCast, BitVec.getLsbD_of_ge _ _ (by omega), BitVec.getLsbD_of_ge _ _ (by omega)]
theorem zh1 (x i j : Int) (hx : U x) (h0 : 0 ≤ i) (h1 : i < 64) (hj : 0 ≤ j) (hj1 : j < 64) : zhv (zbk x i 1 0) j = if j = i then false else zhv x j := by
  rw [zgo hx h0 h1 hj hj1]; rfl
theorem zim (n : Int) (j : Int) (hj : 0 ≤ j) (hj1 : j < 64) (h0 : 0 ≤ n) : zhv (zdm n) j = decide (j < n) := by
  rw [zd7 hj]
  unfold zdm zd0
  rw [X_B, ze0, show (0 : Int).toNat = 0 from rfl, Nat.zero_add, zrc _ (by omega), Bool.and_true]
  by_cases h : j < n
  · rw [decide_eq_true h, decide_eq_true (by omega)]
  · rw [decide_eq_false h, decide_eq_false (by omega)]
theorem z3k {n : Int} (h0 : 1 ≤ n) (h : n ≤ 64) : tzI (zdm n) = 0 := by
  have l1 := zjq (n := n) (by omega) h
  have l2 := zl6 h0 h
  have u := zn2 n
  have t := zct u l1.2 l2
  rcases (by omega : tzI (zdm n) = 0 ∨ 0 < tzI (zdm n)) with e | e
  · exact e
  · have := zjs u l2 (Int.le_refl 0) e
    rw [zim n 0 (by omega) (by omega) (by omega), decide_eq_true (by omega)] at this
    cases this
def alv : List Sp → Nat
  | [] => 0
  | s :: l => (if s.live then 1 else 0) + alv l
theorem zp9 : ∀ (l : List Sp) (s : Sp), s.live = true → alv (l ++ [s]) = alv l + 1
  | [], s, h => by simp [alv, h]
  | x :: l, s, h => by simp only [List.cons_append, alv]; rw [zp9 l s h]; omega
theorem zvv : ∀ (xs : List (Int × Int)) (k v : Int) (c : Int × Int), c ∈ xs → c.1 ≠ k → c ∈ zby xs k v
  | [], k, v, c, h, _ => by cases h
  | x :: xs, k, v, c, h, hk => by
    simp only [zby]
    split
    · rcases List.mem_cons.1 h with rfl | h
      · simp
      · exact List.mem_cons_of_mem _ (zvv xs k v c h hk)
    · split
      · rename_i hx
        rcases List.mem_cons.1 h with rfl | h
        · exact absurd hx hk
        · split
          · exact h
          · exact List.mem_cons_of_mem _ h
      · split
        · exact h
        · exact List.mem_cons_of_mem _ h
theorem zvw : ∀ (xs : List (Int × Int)) (k v : Int), v ≠ 0 → (k, v) ∈ zby xs k v
  | [], k, v, h => by simp [zby, h]
  | x :: xs, k, v, h => by
    simp only [zby]
    split
    · exact List.mem_cons_of_mem _ (zvw xs k v h)
    · split <;> simp [h]
structure Inv2 (k : Kr) : Prop where
  sh : k.sh = k.cd
  p0 : zhv k.pf 0 = false
  lv : ∀ s ∈ k.ss, s.live = true → s.root ≠ k.cd ∧ s.asid ≤ k.ca ∧ zhv k.pf (s.root - k.cd) = false ∧ zhv k.af (s.asid - 1) = false ∧ (s.root * 512 + 511, 33 + 1024 * k.sh) ∈ k.m
  ap : ∀ (i j : Nat) (s t : Sp), k.ss[i]? = some s → k.ss[j]? = some t → i ≠ j → s.live = true → t.live = true → s.root ≠ t.root ∧ s.asid ≠ t.asid
  cl : ∀ c ∈ k.m, ∃ s ∈ k.ss, s.live = true ∧ c = (s.root * 512 + 511, 33 + 1024 * k.sh)
  np : (cnt k.pf : Int) + 1 + alv k.ss = k.cp
  na : (cnt k.af : Int) + alv k.ss = k.ca
theorem zmj {a b c : Int} {n : Nat} (h : zga a b c n = true) : Inv2 (zs9 a b c n) := by
  obtain ⟨ha, hb, hc, hn⟩ := zdl.1 h
  have tz := z3k (n := b) (by omega) (by omega)
  have e : (zs9 a b c n).pf = zbk (zdm b) 0 1 0 := by show zbk (zdm b) (tzI (zdm b)) 1 0 = _; rw [tz]
  have cb : cnt (zdm b) = b.toNat := by
    unfold cnt
    rw [zhb 64 _ (fun j => decide (j < b.toNat)) (fun j hj => by
      rw [zim b j (by omega) (by omega) (by omega)]
      by_cases h : (j : Int) < b
      · rw [decide_eq_true h, decide_eq_true (by omega)]
      · rw [decide_eq_false h, decide_eq_false (by omega)]), zx6 64 _ (by omega)]
  have cc : cnt (zdm c) = c.toNat := by
    unfold cnt
    rw [zhb 64 _ (fun j => decide (j < c.toNat)) (fun j hj => by
      rw [zim c j (by omega) (by omega) (by omega)]
      by_cases h : (j : Int) < c
      · rw [decide_eq_true h, decide_eq_true (by omega)]
      · rw [decide_eq_false h, decide_eq_false (by omega)]), zx6 64 _ (by omega)]
  have co := zmi (x := zdm b) (i := 0) (zn2 b) (by omega) (by omega) (by rw [zim b 0 (by omega) (by omega) (by omega), decide_eq_true (by omega)])
  refine ⟨by show a + tzI (zdm b) = a; rw [tz]; omega, ?_, fun s hs => (by cases hs), fun i j s t hs => (by simp [zs9] at hs), fun c hc => (by cases hc), ?_, ?_⟩
  · rw [e, zh1 _ _ _ (zn2 b) (by omega) (by omega) (by omega) (by omega), if_pos rfl]
  · rw [e]
    show (cnt (zbk (zdm b) 0 1 0) : Int) + 1 + ((0 : Nat) : Int) = b
    omega
  · show (cnt (zdm c) : Int) + ((0 : Nat) : Int) = c
    omega
end Go.Proofs.YtomeaibdedaldaaGreatDoor.RfJ
namespace Go.Proofs.YtomeaibdedaldaaGreatDoor.RfK
open Go.RowKit Bv VaSpec Base MemL RegR Ax MemC PutC MemC3 TzC OkS SpA SpB SpC SpD IterC SpE SpF SpG SpH SpI SpJ SpK SpN RfP RfQ RfE RfG RfJ
open BitsC PteSpec
theorem zqa {n : Nat} {k : Kr} (h : Inv n k) (g : Inv2 k) (ha : k.af ≠ 0) (hp : k.pf ≠ 0) : Inv2 (zbd k) := by
  have c1 := h.cp
  have c2 := h.ca
  have hcd := h.cd
  have hpb := h.pb
  have hsh := h.sh
  have t1 := zct h.upf h.pf.2 hp
  have t2 := zct h.uaf h.af.2 ha
  have low1 := zk5 h.upf hp
  have low2 := zk5 h.uaf ha
  have tn0 : tzI k.pf ≠ 0 := fun e => by rw [e, g.p0] at low1; cases low1
  have hne : ∀ s ∈ k.ss, s.live = true → s.root ≠ k.pb + tzI k.pf ∧ s.asid ≠ tzI k.af + 1 := fun s hs hl => by
    obtain ⟨_, _, b1, b2, _⟩ := g.lv s hs hl
    refine ⟨fun e => ?_, fun e => ?_⟩
    · rw [show s.root - k.cd = tzI k.pf by omega, low1] at b1; cases b1
    · rw [show s.asid - 1 = tzI k.af by omega, low2] at b2; cases b2
  have hwm : TableC.zav k.m (k.pb + tzI k.pf) = k.m := by
    rw [zg6 _ _ h.m]
    refine List.filter_eq_self.2 fun c hc => ?_
    obtain ⟨s, hs, hl, rfl⟩ := g.cl c hc
    have := (hne s hs hl).1
    simp only [zka, Bool.or_eq_true, decide_eq_true_eq]
    omega
  have hm : (zbd k).m = zby k.m (512 * (k.pb + tzI k.pf) + 511) (33 + 1024 * k.sh) := by
    show zol k = _
    rw [zp7 h hp, hwm]
  have hcells : ∀ s ∈ k.ss, s.live = true → (s.root * 512 + 511, 33 + 1024 * k.sh) ∈ (zbd k).m := fun s hs hl => by
    rw [hm]
    refine zvv _ _ _ _ (g.lv s hs hl).2.2.2.2 ?_
    have := (hne s hs hl).1
    show s.root * 512 + 511 ≠ _; omega
  have hnew : (512 * (k.pb + tzI k.pf) + 511, 33 + 1024 * k.sh) ∈ (zbd k).m := by rw [hm]; exact zvw _ _ _ (by omega)
  have hss : (zbd k).ss = k.ss ++ [⟨k.pb + tzI k.pf, tzI k.af + 1, true⟩] := rfl
  have epf : (zbd k).pf = zbk k.pf (tzI k.pf) 1 0 := rfl
  have eaf : (zbd k).af = zbk k.af (tzI k.af) 1 0 := rfl
  have n1 := zmi h.upf t1.1 (by omega) low1
  have n2 := zmi h.uaf t2.1 (by omega) low2
  refine ⟨g.sh, ?_, fun s hs hl => ?_, fun i j s t hs ht hij hl hl' => ?_, fun c hc => ?_, ?_, ?_⟩
  · rw [epf, zh1 _ _ _ h.upf t1.1 (by omega) (by omega) (by omega), if_neg (fun e => tn0 e.symm)]; exact g.p0
  · rw [hss] at hs
    rcases List.mem_append.1 hs with hs | hs
    · obtain ⟨a1, a2, a3, a4, a5⟩ := g.lv s hs hl
      obtain ⟨r1, r2⟩ := h.ss s hs hl
      refine ⟨a1, a2, ?_, ?_, hcells s hs hl⟩
      · show zhv (zbd k).pf (s.root - k.cd) = false
        rw [epf, zh1 _ _ _ h.upf t1.1 (by omega) (by omega) (by omega)]; split
        · rfl
        · exact a3
      · rw [eaf, zh1 _ _ _ h.uaf t2.1 (by omega) (by omega) (by omega)]; split
        · rfl
        · exact a4
    · rw [List.mem_singleton.1 hs]
      refine ⟨by show k.pb + tzI k.pf ≠ k.cd; omega, by show tzI k.af + 1 ≤ k.ca; omega, ?_, ?_, ?_⟩
      · show zhv (zbd k).pf (k.pb + tzI k.pf - k.cd) = false
        rw [show k.pb + tzI k.pf - k.cd = tzI k.pf by omega, epf, zh1 _ _ _ h.upf t1.1 (by omega) (by omega) (by omega), if_pos rfl]
      · show zhv (zbd k).af (tzI k.af + 1 - 1) = false
        rw [show tzI k.af + 1 - 1 = tzI k.af by omega, eaf, zh1 _ _ _ h.uaf t2.1 (by omega) (by omega) (by omega), if_pos rfl]
      · show ((k.pb + tzI k.pf) * 512 + 511, 33 + 1024 * k.sh) ∈ _
        rw [show (k.pb + tzI k.pf) * 512 + 511 = 512 * (k.pb + tzI k.pf) + 511 by omega]; exact hnew
  · rw [hss] at hs ht
    have look : ∀ (i : Nat) (s : Sp), (k.ss ++ [(⟨k.pb + tzI k.pf, tzI k.af + 1, true⟩ : Sp)])[i]? = some s → (i < k.ss.length ∧ k.ss[i]? = some s) ∨ (i = k.ss.length ∧ s = ⟨k.pb + tzI k.pf, tzI k.af + 1, true⟩) := fun i s hs => by
      by_cases hi : i < k.ss.length
      · rw [List.getElem?_append_left hi] at hs; exact .inl ⟨hi, hs⟩
      · rw [List.getElem?_append_right (by omega)] at hs
        obtain ⟨d, hd⟩ : ∃ d, d = i - k.ss.length := ⟨_, rfl⟩
        rw [← hd] at hs
        cases d with
        | zero => simp at hs; exact .inr ⟨by omega, hs.symm⟩
        | succ d => simp at hs
    rcases look i s hs with ⟨_, hs⟩ | ⟨ei, es⟩
    · rcases look j t ht with ⟨_, ht⟩ | ⟨ej, et⟩
      · exact g.ap i j s t hs ht hij hl hl'
      · rw [et]; exact hne s (List.mem_of_getElem? hs) hl
    · rcases look j t ht with ⟨_, ht⟩ | ⟨ej, et⟩
      · rw [es]
        have := hne t (List.mem_of_getElem? ht) hl'
        exact ⟨fun e => this.1 e.symm, fun e => this.2 e.symm⟩
      · omega
  · rw [hm] at hc
    rcases zcx _ _ _ _ hc with hc | ⟨rfl, _⟩
    · obtain ⟨s, hs, hl, e⟩ := g.cl c hc
      exact ⟨s, by rw [hss]; exact List.mem_append_left _ hs, hl, e⟩
    · refine ⟨⟨k.pb + tzI k.pf, tzI k.af + 1, true⟩, by rw [hss]; simp, rfl, ?_⟩
      show (512 * (k.pb + tzI k.pf) + 511, _) = ((k.pb + tzI k.pf) * 512 + 511, _)
      rw [show 512 * (k.pb + tzI k.pf) + 511 = (k.pb + tzI k.pf) * 512 + 511 by omega]; rfl
  · have := g.np
    rw [epf, hss, zp9 _ _ rfl]
    show _ = k.cp
    omega
  · have := g.na
    rw [eaf, hss, zp9 _ _ rfl]
    show _ = k.ca
    omega
theorem zc9 {n : Nat} {k : Kr} (h : Inv n k) (g : Inv2 k) : Inv2 (zbu k).1 := by
  unfold zbu
  by_cases c1 : 32 ≤ k.ss.length
  · rw [if_pos c1]; exact g
  rw [if_neg c1]
  by_cases c2 : k.af = 0
  · rw [if_pos c2]; exact g
  rw [if_neg c2]
  by_cases c3 : k.pf = 0
  · rw [if_pos c3]; exact g
  rw [if_neg c3]
  have := zqa h g c2 c3
  split
  · exact { sh := this.sh, p0 := this.p0, lv := this.lv, ap := this.ap, cl := this.cl, np := this.np, na := this.na }
  · exact this
end Go.Proofs.YtomeaibdedaldaaGreatDoor.RfK
namespace Go.Proofs.YtomeaibdedaldaaGreatDoor.LaH
open Go.RowKit Bv VaSpec Base MemL RegR Ax MemC PutC MemC3 TzC OkS SpA SpB SpC SpD SpE SpF SpG SpH SpI SpJ SpK SpN SpO RfE RfJ RfK LaA LaB LaC LaD LaE LaF LaG
open BitsC PteSpec
set_option maxRecDepth 10000
set_option maxHeartbeats 1000000
theorem zqb {n : Int} (h : 0 ≤ n ∧ n < 17592186044416) : zay (33 + 1024 * n) = gP n := by
  have hm : zhe (gP n) = true := by rw [zdd]; unfold gP; simp; omega
  have hU : (gP n).U := by unfold Pte.U gP; simp; omega
  rw [← zvu n h]
  unfold PteC.zcp
  rw [if_pos hm, zfz _ hU hm]
theorem z3l {n : Nat} {k : Kr} (h : Inv n k) (g : Inv2 k) : InvL n k := by
  have b1 := h.cd
  have b2 := h.cp
  have hsh := h.sh
  have ash : Al k.cd k.cp k.pf k.sh := ⟨hsh, by rw [g.sh, show k.cd - k.cd = 0 by omega]; exact g.p0⟩
  have ass : ∀ s ∈ k.ss, s.live = true → Al k.cd k.cp k.pf s.root := fun s hs hl => ⟨(h.ss s hs hl).1, (g.lv s hs hl).2.2.1⟩
  refine { g := ⟨h.cd, h.cp, h.sz, h.pf, h.m, fun c hc => ?_⟩, cs := h.cs, pb := h.pb, pm := h.pm, sh := ash, ts := h.ts, ml := h.ml, fl := h.fl, sl := h.sl, ss := ass }
  obtain ⟨s, hs, hl, rfl⟩ := g.cl c hc
  refine ⟨?_, (h.mc _ hc).2.2.2, ?_⟩
  · show Al k.cd k.cp k.pf ((s.root * 512 + 511) / 512)
    rw [show (s.root * 512 + 511) / 512 = s.root by omega]
    exact ass s hs hl
  · show EOk k.cd k.cp k.pf (zay (33 + 1024 * k.sh))
    rw [zqb (by omega)]
    exact .inr ⟨rfl, ash⟩
noncomputable def bgK (a b c : Int) (n : Nat) : Kr := (zbu (zbu (zs9 a b c n)).1).1
theorem z3m {a b c : Int} {n : Nat} (h : zga a b c n = true) : Inv 0 (zs9 a b c n) ∧ Inv 1 (zbu (zs9 a b c n)).1 ∧ InvL 2 (bgK a b c n) := by
  have h0 := zjr h
  have g0 := zmj h
  have h1 := zc7 h0
  have g1 := zc9 h0 g0
  exact ⟨h0, h1, z3l (zc7 h1) (zc9 h1 g1)⟩
def kr2 (m : List (Int × Int)) (pf af ao : Int) (ss : List Sp) : Kr := { cd := 4, cp := 8, ca := 2, cs := 1, sz := 49152, m := m, tn := 1, ts := zsL 1, sm := 0, sa := 0, sp := 0, priv := 0, su := false, mx := false, vic := -1, pb := 4, pm := 8, pf := pf, am := 2, af := af, ao := ao, ss := ss, now := -1, sh := 4, fs := [] }
def c0 : Kr := kr2 [] 254 3 0 []
def c1 : Kr := kr2 [(3071, 4129)] 252 2 1 [⟨5, 1, true⟩]
def c2 : Kr := kr2 [(3071, 4129), (3583, 4129)] 248 0 3 [⟨5, 1, true⟩, ⟨6, 2, true⟩]
theorem n0 : zs9 4 8 2 1 = c0 := by kernel_rfl
theorem e1 : zbu c0 = (c1, 0, 0) := by
  unfold zbu zbd zol
  rw [zq6]
  kernel_rfl
theorem e2 : zbu c1 = (c2, 1, 0) := by
  unfold zbu zbd zol
  rw [zq6]
  kernel_rfl
theorem bg2 : bgK 4 8 2 1 = c2 := by
  unfold bgK
  rw [n0, e1, e2]
theorem i2 : InvL 2 c2 := by rw [← bg2]; exact (z3m (by decide)).2.2
end Go.Proofs.YtomeaibdedaldaaGreatDoor.LaH
namespace Go.Proofs.YtomeaibdedaldaaGreatDoor.LiE
open Go.RowKit Bv VaSpec Base MemL RegR Ax MemC PutC MemC3 TzC OkS SpA SpB SpC SpD SpE SpF SpG SpH SpI SpJ SpN SpO RfP RfQ RfE RfJ LaA LaB LaC LaD LaE LaF LaG LaH LiA LiB LiC LiD
open BitsC PteSpec
set_option maxRecDepth 10000
set_option maxHeartbeats 1000000
structure InvT (n : Nat) (k : Kr) : Prop where
  l : InvL n k
  t : ∃ lv, TI k.cd k.cp k.sz k.m k.pf k.sh lv ∧ lv k.sh = 1 ∧ ∀ s ∈ k.ss, s.live = true → lv s.root = 2
theorem z3n {n l : Int} {p : Pm} {g : Bool} (hn : n % (VaSpec.sz l / 4096) = 0) (hp : zhs p = true) : zdt (mkP n p g) l = false := by
  obtain ⟨r, w, x, u⟩ := p
  revert hp
  unfold zhs zdt zbf mkP
  cases r <;> cases w <;> cases x <;> simp [hn]
section
variable {cd cp sz f sh : Int} {xs : List (Int × Int)} {lv : Int → Int}
theorem zqc (h : TI cd cp sz xs f sh lv) (h0 : f ≠ 0) {t i : Int} (ht : Al cd cp f t) (hsh : Al cd cp f sh) (hl : 1 ≤ lv t ∧ lv t ≤ 2) (hi : 0 ≤ i ∧ i < 512) (hn : zbf (atM sz xs t i) = false) :
    TI cd cp sz (za1 sz xs t i (lnk (cd + tzI f))) (zbk f (tzI f) 1 0) sh (upL lv (cd + tzI f) (lv t - 1)) := by
  obtain ⟨a0, a1, a2, a3⟩ := zc8 h h0
  have b1 := h.bd
  have b2 := h.bp
  have hnn : 0 ≤ cd + tzI f ∧ cd + tzI f < 17592186044416 := by omega
  rw [h.gm.with ht hi (zg8 hnn)]
  refine h.put ht.1 hi (ze9 _ (zg8 hnn)) a3 fun E' hE => ?_
  rw [zf5 hnn] at hE
  refine h.e.link a0 a1 ht hl hi hsh ?_ hE
  cases e : lkP (atM sz xs t i) with
  | false => rfl
  | true => rw [(zbz e).1] at hn; cases hn
theorem zx7 (addr zam : Int) (hw : 0 ≤ zam) : ∀ (l : Nat) (xs : List (Int × Int)) (f t : Int) (lv : Int → Int), TI cd cp sz xs f sh lv → Al cd cp f t → Al cd cp f sh → lv t = l → l ≤ 2 → zam ≤ (l : Int) →
    (dnN sz cd addr zam l xs f t).2.2.2 = 0 → ∃ lv', TI cd cp sz (dnN sz cd addr zam l xs f t).1 (dnN sz cd addr zam l xs f t).2.1 sh lv' ∧ lv' (dnN sz cd addr zam l xs f t).2.2.1 = zam ∧ Al cd cp (dnN sz cd addr zam l xs f t).2.1 (dnN sz cd addr zam l xs f t).2.2.1 ∧ ∀ s, Al cd cp f s → lv' s = lv s
  | 0, xs, f, t, lv, h, ht, _, hl, _, hwl, _ => ⟨lv, h, by show lv t = zam; omega, ht, fun s _ => rfl⟩
  | l + 1, xs, f, t, lv, h, ht, hsh, hl, h2, hwl, he => by
    have hi := idx_bd addr ((l + 1 : Nat) : Int)
    unfold dnN at he ⊢
    split
    · exact ⟨lv, h, by show lv t = zam; omega, ht, fun s _ => rfl⟩
    · rename_i c1
      rw [if_neg c1] at he
      split
      · rename_i c2; rw [if_pos c2] at he; cases he
      · rename_i c2
        rw [if_neg c2] at he
        have hk := h.e.k t _ hi
        split
        · rename_i c3
          rw [if_pos c3] at he
          rcases hk with e | ⟨_, _, ⟨e, _⟩ | ⟨e1, e2, e3, e4⟩⟩
          · rw [e] at c3; cases c3
          · exact absurd e c2
          · exact zx7 addr zam hw l xs f _ lv h e4 hsh (by rw [e3, hl]; omega) (by omega) (by omega) he
        · rename_i c3
          rw [if_neg c3] at he
          split
          · rename_i c4; rw [if_pos c4] at he; cases he
          · rename_i c4
            rw [if_neg c4] at he
            obtain ⟨a0, a1, a2, a3⟩ := zc8 h c4
            have hn : zbf (atM sz xs t (idx addr ((l + 1 : Nat) : Int))) = false := by
              unfold zbf
              rw [show (atM sz xs t (idx addr ((l + 1 : Nat) : Int))).v = false by simpa using c3]; rfl
            have hT := zqc h c4 ht hsh (by rw [hl]; omega) hi hn
            obtain ⟨lv', r1, r2, r3, r4⟩ := zx7 addr zam hw l _ _ _ _ hT a1 (a0 _ hsh).1 (by rw [hl]; show upL lv (cd + tzI f) _ (cd + tzI f) = _; unfold upL; rw [if_pos rfl]; omega) (by omega) (by omega) he
            refine ⟨lv', r1, r2, r3, fun s hs => (r4 s (a0 s hs).1).trans ?_⟩
            exact if_neg (a0 s hs).2
end
theorem zeb {n : Nat} {k : Kr} {id a l : Int} (h : InvL n k) (he : (zan k id a l).2.2 = 0) : ((zan k id a l).1 = k.sh ∧ (zan k id a l).2.1 = 1 ∧ id = -1) ∨ (za5 k id = true ∧ id ≠ -1 ∧ (zan k id a l).1 = (zcu k id).root ∧ (zan k id a l).2.1 = 2 ∧ idx a 2 ≠ 511) := by
  unfold zan at he ⊢
  by_cases c1 : 0 ≤ l ∧ l ≤ 2
  rotate_left
  · rw [if_pos c1] at he; cases he
  rw [if_neg (by simpa using c1)] at he ⊢
  by_cases c2 : id ≠ -1 ∧ za5 k id = false
  · rw [if_pos c2] at he; cases he
  rw [if_neg c2] at he ⊢
  by_cases c3 : zj9 a l = false
  · rw [if_pos c3] at he; cases he
  rw [if_neg c3] at he ⊢
  by_cases c4 : id = -1
  · rw [if_pos c4] at he ⊢
    by_cases c5 : idx a 2 = 511 ∧ l ≠ 2
    · rw [if_pos c5]; exact .inl ⟨rfl, rfl, c4⟩
    · rw [if_neg c5] at he; cases he
  · rw [if_neg c4] at he ⊢
    by_cases c5 : idx a 2 = 511
    · rw [if_pos c5] at he; cases he
    · rw [if_neg c5]
      have c6 : za5 k id = true := by
        cases e : za5 k id with
        | true => rfl
        | false => exact absurd ⟨c4, e⟩ c2
      exact .inr ⟨c6, c4, rfl, rfl, c5⟩
theorem zs3 {k : Kr} {id a l : Int} (he : (zan k id a l).2.2 = 0) : zj9 a l = true := by
  unfold zan at he
  split at he
  · cases he
  · split at he
    · cases he
    · split at he
      · cases he
      · rename_i c; simpa using c
theorem zvx {a l : Int} (h : zj9 a l = true) : VaSpec.base a l = a := by
  unfold zj9 off at h
  unfold VaSpec.base
  simp only [Bool.and_eq_true, beq_iff_eq] at h
  omega
theorem InvT.top {n : Nat} {k : Kr} {id a l : Int} (h : InvT n k) (he : (zan k id a l).2.2 = 0) {lv : Int → Int} (hs : lv k.sh = 1) (hr : ∀ s ∈ k.ss, s.live = true → lv s.root = 2) :
    lv (zan k id a l).1 = (zan k id a l).2.1 ∧ (2 ≤ (zan k id a l).2.1 → idx a 2 ≠ 511) := by
  rcases zeb h.l he with ⟨e1, e2, _⟩ | ⟨e1, _, e2, e3, e4⟩
  · rw [e1, e2]; exact ⟨hs, fun hh => by omega⟩
  · obtain ⟨h0, h1, h2, h3⟩ := zdw e1
    rw [e2, e3]
    exact ⟨hr _ (List.mem_of_getElem? h2) h3, fun _ => e4⟩
theorem zx8 {l : Int} (h : 0 ≤ l ∧ l ≤ 2) {pa : Int} (hp : pa % VaSpec.sz l = 0) : (pa / 4096) % (VaSpec.sz l / 4096) = 0 := by
  rcases (by omega : l = 0 ∨ l = 1 ∨ l = 2) with rfl | rfl | rfl
  · show (pa / 4096) % 1 = 0; omega
  · have hp : pa % 2097152 = 0 := hp
    show (pa / 4096) % 512 = 0; omega
  · have hp : pa % 1073741824 = 0 := hp
    show (pa / 4096) % 262144 = 0; omega
theorem ze6 {n : Nat} {k : Kr} {id a pa l : Int} {p : Pm} (h : InvT n k) (hp : U pa) : InvT (n + 3) (zc2 k id a pa l p).1 := by
  refine ⟨z06 h.l hp, ?_⟩
  obtain ⟨lv, hT, hs, hr⟩ := h.t
  unfold zc2
  split
  · exact ⟨lv, hT, hs, hr⟩
  · rename_i c0
    split
    · exact ⟨lv, hT, hs, hr⟩
    · rename_i c1
      split
      · exact ⟨lv, hT, hs, hr⟩
      · split
        · exact ⟨lv, hT, hs, hr⟩
        · rename_i c3
          split
          · exact ⟨lv, hT, hs, hr⟩
          · split
            · exact ⟨lv, hT, hs, hr⟩
            · rename_i c5
              obtain ⟨w1, w2, w3, w4⟩ := zbw (id := id) (a := a) (l := l) h.l (by omega)
              obtain ⟨z1, z2⟩ := h.top (id := id) (a := a) (l := l) (by omega) hs hr
              generalize zan k id a l = w at *
              have he : (zn3 k w.1 w.2.1 a l).2.2.2 = 0 := by omega
              obtain ⟨lv', r1, r2, r3, r4⟩ := zx7 a l w1.1 w.2.1.toNat k.m k.pf w.1 lv hT w2 h.l.sh (by omega) (by omega) (by omega) he
              have hpm := zjt (p := p) (by omega)
              have hpn := zn4 (k := k) (l := l) hp (by have := h.l.g.bd; omega) (by omega)
              have hb := zg9 (n := pa / 4096) (p := p) (g := decide (id = -1)) hpn hpm
              have hzz : 0 < VaSpec.sz l := by rcases VaSpec.lev w1.1 w1.2 with rfl | rfl | rfl <;> decide
              have hmod : pa % VaSpec.sz l = 0 := by
                have e : lk0 pa l = 0 := by omega
                unfold lk0 zfd at e
                rw [if_neg (show ¬ VaSpec.sz l = 0 by omega)] at e
                split at e
                · rename_i c; simpa using c
                · cases e
              have hbad := z3n (g := decide (id = -1)) (zx8 w1 hmod) hpm
              refine ⟨lv', ?_, (r4 _ h.l.sh).trans hs, fun s hs' hl => (r4 _ (h.l.ss s hs' hl)).trans (hr s hs' hl)⟩
              show TI k.cd k.cp k.sz (za1 k.sz (dnN k.sz k.cd a l w.2.1.toNat k.m k.pf w.1).1 (dnN k.sz k.cd a l w.2.1.toNat k.m k.pf w.1).2.2.1 (idx a l) (mkP (pa / 4096) p (decide (id = -1)))) (dnN k.sz k.cd a l w.2.1.toNat k.m k.pf w.1).2.1 k.sh lv'
              rw [r1.gm.with r3 (idx_bd a l) hb.2.1]
              refine r1.put r3.1 (idx_bd a l) (ze9 _ hb.2.1) r1.bf fun E' hE => ?_
              rw [hb.1] at hE
              exact r1.e.leaf r3 (by rw [r2]; exact w1) hb.2.2 (by rw [r2]; exact hbad) hE
structure ToP (cd cp sz f sh addr zam top : Int) (l : Nat) (xs : List (Int × Int)) (lv : Int → Int) (n : Nat) (T : List (Int × Int) × Int × (Int × Int) × Int) (lv' : Int → Int) : Prop where
  t : TI cd cp sz T.1 T.2.1 sh lv'
  a : ∀ s, Al cd cp f s → Al cd cp T.2.1 s ∧ lv' s = lv s
  n : T.1.length ≤ xs.length + 513 * n
  r : zaq sz T.1 addr zam l top = T.2.2.1
  p : ∃ l' : Nat, T.2.2.1.2 = (l' : Int) ∧ l' ≤ l ∧ zam ≤ (l' : Int) ∧ Al cd cp T.2.1 T.2.2.1.1 ∧ lv' T.2.2.1.1 = (l' : Int)
section
variable {cd cp sz sh : Int}
theorem zx9 (addr zam top : Int) (l : Nat) (hw : 0 ≤ zam) (hwl : zam ≤ (l : Int)) (hl2 : l ≤ 2) : ∀ (n : Nat) (xs : List (Int × Int)) (f : Int) (lv : Int → Int), TI cd cp sz xs f sh lv → Al cd cp f top → Al cd cp f sh → lv top = l →
    ∃ lv', ToP cd cp sz f sh addr zam top l xs lv n (toN sz cd addr zam top l n xs f) lv'
  | 0, xs, f, lv, h, ht, _, hl => by
    obtain ⟨l', t', i1, i2, i3, i4, i5, i6, _⟩ := zeo h addr zam hw l top ht hl hwl
    exact ⟨lv, h, fun s hs => ⟨hs, rfl⟩, by show xs.length ≤ _; omega, rfl, l', by show (zaq sz xs addr zam l top).2 = _; rw [i1], i2, i3, by show Al cd cp f (zaq sz xs addr zam l top).1; rw [i1]; exact i4, by show lv (zaq sz xs addr zam l top).1 = _; rw [i1]; exact i5⟩
  | n + 1, xs, f, lv, h, ht, hsh, hl => by
    obtain ⟨l', t', i1, i2, i3, i4, i5, i6, i7⟩ := zeo h addr zam hw l top ht hl hwl
    have hstop : ∀ e, ToP cd cp sz f sh addr zam top l xs lv (n + 1) (xs, f, (t', (l' : Int)), e) lv := fun e => ⟨h, fun s hs => ⟨hs, rfl⟩, by show xs.length ≤ _; omega, i1, l', rfl, i2, i3, i4, i5⟩
    unfold toN
    rw [i1]
    split
    · exact ⟨lv, hstop 0⟩
    · rename_i c
      split
      · exact ⟨lv, hstop 8⟩
      · rename_i c4
        have c1 : ¬ (l' : Int) = zam := fun e => c (.inl e)
        obtain ⟨m, rfl⟩ : ∃ m : Nat, l' = m + 1 := ⟨l' - 1, by omega⟩
        have hlf : zat (atM sz xs t' (idx addr ((m + 1 : Nat) : Int))) = true := by
          cases e : zat (atM sz xs t' (idx addr ((m + 1 : Nat) : Int))) with
          | true => rfl
          | false => exact absurd (.inr e) c
        have hi := idx_bd addr ((m + 1 : Nat) : Int)
        have hbad : zdt (atM sz xs t' (idx addr ((m + 1 : Nat) : Int))) ((m + 1 : Nat) : Int) = false := by
          rcases h.e.k t' _ hi with e | ⟨_, _, ⟨_, e⟩ | ⟨e, _⟩⟩
          · rw [e] at hlf; cases hlf
          · rw [i5] at e; exact e
          · rw [(zbz e).2.2] at hlf; cases hlf
        obtain ⟨a0, a1, a2, a3⟩ := zc8 h c4
        have hT := zvk h c4 i4 hsh hi i5 (by omega) rfl hlf hbad
        obtain ⟨lv', P⟩ := zx9 addr zam top l hw hwl hl2 n _ _ _ hT (a0 _ ht).1 (a0 _ hsh).1 ((if_neg (a0 _ ht).2).trans hl)
        have hsl := zvl sz xs t' (idx addr ((m + 1 : Nat) : Int)) ((m + 1 : Nat) : Int) (atM sz xs t' (idx addr ((m + 1 : Nat) : Int))) (cd + tzI f)
        have hPn := P.n
        refine ⟨lv', P.t, fun s hs => ⟨(P.a s (a0 s hs).1).1, (P.a s (a0 s hs).1).2.trans (if_neg (a0 s hs).2)⟩, ?_, P.r, P.p⟩
        exact Nat.le_trans hPn (by omega)
end
def zbi (sz : Int) (xs : List (Int × Int)) (l : Int) (q : Pte) (b : Int) : List Pg := if zat q then [⟨b, q.ppn * 4096, l, q.r, q.w, q.x, q.u, q.d⟩] else if zbf q then zbq sz xs (l - 1).toNat q.ppn b else []
def inR (k : Kr) (id a l : Int) : List Pg :=
  if (zan k id a l).2.2 ≠ 0 then [] else
  zbi k.sz k.m (za6 k.sz k.m a l (zan k id a l).2.1 (zan k id a l).1).2 (atM k.sz k.m (za6 k.sz k.m a l (zan k id a l).2.1 (zan k id a l).1).1 (idx a (za6 k.sz k.m a l (zan k id a l).2.1 (zan k id a l).1).2)) (VaSpec.base a (za6 k.sz k.m a l (zan k id a l).2.1 (zan k id a l).1).2)
def zc1 (id n : Int) (p : Pg) : Fe := if id = -1 then ⟨true, p.va, false, 0⟩ else ⟨true, p.va, true, n⟩
def zya (id n : Int) : Fe := if id = -1 then ⟨false, 0, false, 0⟩ else ⟨false, 0, true, n⟩
def zjy (k : Kr) (id : Int) (l : List Pg) : List Fe := if 16 < l.length then [zya id (zcu k id).asid] else l.map (zc1 id (zcu k id).asid)
theorem zri (k : Kr) (id : Int) (l : List Pg) : (zjy k id l).length ≤ 16 := by
  unfold zjy
  split
  · simp
  · rw [List.length_map]; omega
def zde (sz cd cp : Int) (T : List (Int × Int) × Int × (Int × Int) × Int) (a : Int) : List (Int × Int) × Int :=
  if zbf (atM sz T.1 T.2.2.1.1 (idx a T.2.2.1.2)) then bkN cd cp (frN sz T.1 (T.2.2.1.2 - 1).toNat (atM sz T.1 T.2.2.1.1 (idx a T.2.2.1.2)).ppn) (T.1, T.2.1) else (T.1, T.2.1)
def unM (k : Kr) (T : List (Int × Int) × Int × (Int × Int) × Int) (top at' a : Int) : List (Int × Int) × Int :=
  prN k.sz k.cd k.cp a at'.toNat top (za1 k.sz (zde k.sz k.cd k.cp T a).1 T.2.2.1.1 (idx a T.2.2.1.2) zP, (zde k.sz k.cd k.cp T a).2)
def unT (k : Kr) (top at' a l : Int) : List (Int × Int) × Int × (Int × Int) × Int := toN k.sz k.cd a l top at'.toNat at'.toNat k.m k.pf
def unK (k : Kr) (id top at' a l : Int) (T : List (Int × Int) × Int × (Int × Int) × Int) : Kr := zd6 { k with m := (unM k T top at' a).1, pf := (unM k T top at' a).2 } (zjy k id (zbi k.sz T.1 T.2.2.1.2 (atM k.sz T.1 T.2.2.1.1 (idx a T.2.2.1.2)) (VaSpec.base a T.2.2.1.2)))
def unR (k : Kr) (id a l : Int) : Kr × Int :=
  if (zan k id a l).2.2 ≠ 0 then (k, (zan k id a l).2.2)
  else if (inR k id a l).length = 0 then (k, 7)
  else if (unT k (zan k id a l).1 (zan k id a l).2.1 a l).2.2.2 ≠ 0 then (k, (unT k (zan k id a l).1 (zan k id a l).2.1 a l).2.2.2)
  else (unK k id (zan k id a l).1 (zan k id a l).2.1 a l (unT k (zan k id a l).1 (zan k id a l).2.1 a l), 0)
section
variable {cd cp sz f sh : Int} {xs : List (Int × Int)} {lv : Int → Int}
theorem zzg (cd cp : Int) : ∀ (l : List Int) (p : List (Int × Int) × Int), (bkN cd cp l p).1.length ≤ p.1.length
  | [], p => Nat.le_refl _
  | g :: l, p => Nat.le_trans (zzg cd cp l _) (zdv _ _)
theorem zoa (h : TI cd cp sz xs f sh lv) (hsh : Al cd cp f sh) {t a e : Int} {l' : Nat} (ht : Al cd cp f t) (hlv : lv t = (l' : Int)) (hl2 : l' ≤ 2) (hH : l' = 2 → idx a 2 ≠ 511) :
    TI cd cp sz (za1 sz (zde sz cd cp (xs, f, (t, (l' : Int)), e) a).1 t (idx a (l' : Int)) zP) (zde sz cd cp (xs, f, (t, (l' : Int)), e) a).2 sh lv ∧
    (∀ s, Al cd cp f s → (s = sh ∨ (l' : Int) ≤ lv s) → Al cd cp (zde sz cd cp (xs, f, (t, (l' : Int)), e) a).2 s) ∧ (za1 sz (zde sz cd cp (xs, f, (t, (l' : Int)), e) a).1 t (idx a (l' : Int)) zP).length ≤ xs.length ∧ Srt (zde sz cd cp (xs, f, (t, (l' : Int)), e) a).1 ∧ (zde sz cd cp (xs, f, (t, (l' : Int)), e) a).1.length ≤ xs.length := by
  have hi := idx_bd a (l' : Int)
  have b1 := h.bd
  have bt := ht.1
  have hz : ∀ ys : List (Int × Int), za1 sz ys t (idx a (l' : Int)) zP = zby ys (t * 512 + idx a (l' : Int)) 0 := fun ys => by
    rw [zd8 z14 (by omega) hi (by rw [h.bz]; omega), zq7]
  have hlen : ∀ ys : List (Int × Int), Srt ys → (zby ys (t * 512 + idx a (l' : Int)) 0).length ≤ ys.length := fun ys hs => by rw [zg5 _ _ hs]; exact List.length_filter_le ..
  by_cases c : zbf (atM sz xs t (idx a (l' : Int))) = true
  · have hq : lkP (atM sz xs t (idx a (l' : Int))) = true := by
      rcases h.e.k t _ hi with e | ⟨_, _, ⟨e, _⟩ | ⟨e, _⟩⟩
      · rw [e] at c; cases c
      · rw [(zbr e).1] at c; cases c
      · exact e
    obtain ⟨k1, k2, k3, k4⟩ := zcv h hi hq
    obtain ⟨m, rfl⟩ : ∃ m : Nat, l' = m + 1 := ⟨l' - 1, by omega⟩
    have e1 : zde sz cd cp (xs, f, (t, ((m + 1 : Nat) : Int)), e) a = bkN cd cp (frN sz xs m (atM sz xs t (idx a ((m + 1 : Nat) : Int))).ppn) (xs, f) := by
      unfold zde
      show (if zbf (atM sz xs t (idx a ((m + 1 : Nat) : Int))) = true then bkN cd cp (frN sz xs (((m + 1 : Nat) : Int) - 1).toNat (atM sz xs t (idx a ((m + 1 : Nat) : Int))).ppn) (xs, f) else (xs, f)) = _
      rw [if_pos c, show (((m + 1 : Nat) : Int) - 1).toNat = m by omega]
    rw [e1, hz]
    obtain ⟨r1, r2⟩ := z07 h ht hlv hl2 hi (fun hh => by
      have e2 : m + 1 = 2 := hh.1
      have e3 := hh.2
      rw [show ((m + 1 : Nat) : Int) = 2 by omega] at e3
      exact hH e2 e3) hq
    have hbl := zzg cd cp (frN sz xs m (atM sz xs t (idx a ((m + 1 : Nat) : Int))).ppn) (xs, f)
    have hbs := (zf7 cd cp sz h.bp (frN sz xs m (atM sz xs t (idx a ((m + 1 : Nat) : Int))).ppn) (xs, f) h.s h.bf).s
    exact ⟨r1, fun s hs hk => r2 s hs (by omega), Nat.le_trans (hlen _ hbs) hbl, hbs, hbl⟩
  · have e1 : zde sz cd cp (xs, f, (t, (l' : Int)), e) a = (xs, f) := by
      unfold zde
      exact if_neg c
    rw [e1, hz]
    refine ⟨h.put bt hi ⟨by omega, by omega⟩ h.bf fun E' hE => h.e.sub fun s j hj => ?_, fun s hs _ => hs, hlen _ h.s, h.s, Nat.le_refl _⟩
    rw [hE s j hj, zom]
    split
    · exact .inl rfl
    · exact .inr rfl
end
theorem zrj {n : Nat} {k : Kr} {id a l : Int} (h : InvT n k) : InvT (n + 1100) (unR k id a l).1 := by
  have hm : InvT (n + 1100) k := ⟨{ h.l with ml := by have := h.l.ml; omega, fl := by have := h.l.fl; omega }, h.t⟩
  unfold unR
  split
  · exact hm
  · rename_i c0
    split
    · exact hm
    · split
      · exact hm
      · rename_i c5
        obtain ⟨lv, hT, hs, hr⟩ := h.t
        obtain ⟨w1, w2, w3, w4⟩ := zbw (id := id) (a := a) (l := l) h.l (by omega)
        obtain ⟨z1, z2⟩ := h.top (a := a) (id := id) (l := l) (by omega) hs hr
        generalize zan k id a l = w at *
        obtain ⟨lv', P⟩ := zx9 a l w.1 w.2.1.toNat w1.1 (by omega) (by omega) w.2.1.toNat k.m k.pf lv hT w2 h.l.sh (by omega)
        show InvT (n + 1100) (unK k id w.1 w.2.1 a l (unT k w.1 w.2.1 a l))
        have P : ToP k.cd k.cp k.sz k.pf k.sh a l w.1 w.2.1.toNat k.m lv w.2.1.toNat (unT k w.1 w.2.1 a l) lv' := P
        generalize unT k w.1 w.2.1 a l = T at *
        obtain ⟨xs, f, ⟨t, lt⟩, e⟩ := T
        obtain ⟨l', e1, e2, e3, e4, e5⟩ := P.p
        have e1 : lt = (l' : Int) := e1
        subst e1
        have e4 : Al k.cd k.cp f t := e4
        have e5 : lv' t = (l' : Int) := e5
        have hPt : TI k.cd k.cp k.sz xs f k.sh lv' := P.t
        have ash := P.a _ h.l.sh
        have atop := P.a _ w2
        obtain ⟨c1, c2, c3, _, _⟩ := zoa (a := a) (e := e) hPt ash.1 e4 e5 (by omega) (fun hh => z2 (by omega))
        have hlt : lv' w.1 = w.2.1 := atop.2.trans z1
        have atop2 := c2 _ atop.1 (.inr (by rw [hlt]; omega))
        have ash2 := c2 _ ash.1 (.inl rfl)
        have Q := zf8 a c1 w.2.1.toNat w.1 (by omega) atop2 (by rw [hlt]; omega) (fun hh => z2 (by omega))
        have hroot : ∀ s ∈ k.ss, s.live = true → lv' s.root = 2 ∧ Al k.cd k.cp (unM k (xs, f, (t, (l' : Int)), e) w.1 w.2.1 a).2 s.root := fun s hs' hl => by
          have a1 := P.a _ (h.l.ss s hs' hl)
          have a2 : lv' s.root = 2 := a1.2.trans (hr s hs' hl)
          have a3 := c2 _ a1.1 (.inr (by rw [a2]; omega))
          exact ⟨a2, Q.a _ a3 (.inr (by rw [a2]; omega))⟩
        have hTI : TI k.cd k.cp k.sz (unM k (xs, f, (t, (l' : Int)), e) w.1 w.2.1 a).1 (unM k (xs, f, (t, (l' : Int)), e) w.1 w.2.1 a).2 k.sh lv' := Q.t
        have hPn : xs.length ≤ k.m.length + 513 * w.2.1.toNat := P.n
        have hml := h.l.ml
        have hfl := h.l.fl
        have hlen : (unM k (xs, f, (t, (l' : Int)), e) w.1 w.2.1 a).1.length ≤ n + 1100 := by
          have : (unM k (xs, f, (t, (l' : Int)), e) w.1 w.2.1 a).1.length ≤ (za1 k.sz (zde k.sz k.cd k.cp (xs, f, (t, (l' : Int)), e) a).1 t (idx a (l' : Int)) zP).length := Q.n
          omega
        refine ⟨{ g := hTI.gm, cs := h.l.cs, pb := h.l.pb, pm := h.l.pm, sh := Q.a _ ash2 (.inl rfl), ts := h.l.ts, ml := hlen, fl := ?_, sl := h.l.sl, ss := fun s hs' hl => (hroot s hs' hl).2 }, lv', hTI, ash.2.trans hs, fun s hs' hl => (hroot s hs' hl).1⟩
        have := zri k id (zbi k.sz xs (l' : Int) (atM k.sz xs t (idx a (l' : Int))) (VaSpec.base a (l' : Int)))
        show (k.fs ++ zjy k id (zbi k.sz xs (l' : Int) (atM k.sz xs t (idx a (l' : Int))) (VaSpec.base a (l' : Int)))).length ≤ n + 1100
        rw [List.length_append]; omega
end Go.Proofs.YtomeaibdedaldaaGreatDoor.LiE
namespace Go.Proofs.YtomeaibdedaldaaGreatDoor.LiF
open Go.RowKit Bv VaSpec Base MemL RegR Ax MemC PutC MemC3 TzC OkS SpA SpB SpC SpD SpE SpF SpG SpH SpI SpJ SpN SpO RfP RfQ RfE RfJ RfK LaA LaB LaC LaD LaE LaF LaG LaH LiA LiB LiC LiD LiE
open BitsC PteSpec
set_option maxRecDepth 10000
set_option maxHeartbeats 1000000
theorem z3o {n : Nat} {k : Kr} (h : Inv n k) (g : Inv2 k) : InvT n k := by
  have hl := z3l h g
  refine ⟨hl, fun s => if s = k.sh then 1 else 2, ⟨h.cd, h.cp, h.sz, h.pf, h.m, fun c hc => ?_, ?_⟩, if_pos rfl, fun s hs hv => ?_⟩
  · obtain ⟨s, hs, hv, rfl⟩ := g.cl c hc
    have hr := (h.ss s hs hv).1
    have hsh := h.sh
    have := h.cd
    have hu := (h.mc _ hc).2.2.2
    exact ⟨⟨by show k.cd * 512 ≤ s.root * 512 + 511; omega, by show s.root * 512 + 511 < (k.cd + k.cp) * 512; omega⟩, hu, by show 33 + 1024 * k.sh ≠ 0; omega⟩
  · have key : ∀ s i, (0 ≤ i ∧ i < 512) → atM k.sz k.m s i = zP ∨ (i = 511 ∧ s ≠ k.sh ∧ Al k.cd k.cp k.pf s ∧ atM k.sz k.m s i = gP k.sh) := fun s i hi => by
      unfold atM zbo
      split
      · rcases zp1 (xs := k.m) (k := (s * 4096 + i * 8) / 8) with e | ⟨c, hc, e1, e2⟩
        · rw [e]; exact .inl zom
        · obtain ⟨p, hp, hv, rfl⟩ := g.cl c hc
          have e1 : p.root * 512 + 511 = (s * 4096 + i * 8) / 8 := e1
          have hsh := h.sh
          have hcd := h.cd
          have hcp := h.cp
          have e3 : p.root = s := by omega
          rw [e2, show (33 + 1024 * k.sh : Int) = 33 + 1024 * k.sh from rfl, zqb (by omega)]
          exact .inr ⟨by omega, by rw [← e3, g.sh]; exact (g.lv p hp hv).1, by rw [← e3]; exact hl.ss p hp hv, rfl⟩
      · exact .inl zom
    refine ⟨fun s i hi => ?_, fun s i t j hi hj h1 h2 h3 h4 => ?_, fun s i hi h1 h2 => ?_⟩
    · rcases key s i hi with e | ⟨_, a, b, c⟩
      · exact .inl e
      · rw [c]
        refine .inr ⟨b, by dsimp only; rw [if_neg a]; omega, .inr ⟨rfl, by dsimp only; rw [if_neg a]; omega, ?_, hl.sh⟩⟩
        show (if k.sh = k.sh then (1 : Int) else 2) = (if s = k.sh then (1 : Int) else 2) - 1
        rw [if_pos rfl, if_neg a]; rfl
    · rcases key s i hi with e | ⟨_, _, _, c⟩
      · rw [e] at h1; cases h1
      · rw [c] at h4; exact absurd rfl h4
    · rcases key s i hi with e | ⟨a, b, _, c⟩
      · rw [e] at h1; cases h1
      · exact ⟨a, if_neg b⟩
  · have := (g.lv s hs hv).1
    rw [← g.sh] at this
    exact if_neg this
theorem zvy {a b c : Int} {n : Nat} (h : zga a b c n = true) : InvT 2 (bgK a b c n) := by
  have h0 := zjr h
  have g0 := zmj h
  have h1 := zc7 h0
  have g1 := zc9 h0 g0
  exact z3o (zc7 h1) (zc9 h1 g1)
theorem t2 : InvT 2 c2 := by rw [← bg2]; exact zvy (by decide)
def rr : Pm := ⟨true, false, false, false⟩
def kf (k : Kr) (fs : List Fe) : Kr := { k with fs := fs }
def dA : Kr := kr2 [(2560, 7169), (3071, 4129), (3583, 4129), (3584, 8193), (4101, 1027)] 224 0 3 [⟨5, 1, true⟩, ⟨6, 2, true⟩]
def dB : Kr := kr2 [(2559, 9217), (2560, 7169), (3071, 4129), (3583, 4129), (3584, 8193), (4101, 1027), (5119, 35)] 192 0 3 [⟨5, 1, true⟩, ⟨6, 2, true⟩]
def dC : Kr := kf (kr2 [(2559, 9217), (3071, 4129), (3583, 4129), (5119, 35)] 216 0 3 [⟨5, 1, true⟩, ⟨6, 2, true⟩]) [⟨true, 20480, true, 1⟩]
def dD : Kr := kf (kr2 [(3071, 4129), (3583, 4129)] 248 0 3 [⟨5, 1, true⟩, ⟨6, 2, true⟩]) [⟨true, 20480, true, 1⟩, ⟨true, 18446744073709547520, false, 0⟩]
theorem uA : zc2 c2 0 20480 4096 0 rr = (dA, 0) := by kernel_rfl
theorem jA : InvT 5 dA := by have := ze6 (id := 0) (a := 20480) (pa := 4096) (l := 0) (p := rr) t2 ⟨by omega, by omega⟩; rwa [uA] at this
theorem uB : zc2 dA (-1) 18446744073709547520 0 0 rr = (dB, 0) := by kernel_rfl
theorem jB : InvT 8 dB := by have := ze6 (id := -1) (a := 18446744073709547520) (pa := 0) (l := 0) (p := rr) jA ⟨by omega, by omega⟩; rwa [uB] at this
theorem uC : unR dB 0 20480 0 = (dC, 0) := by kernel_rfl
theorem jC : InvT 1108 dC := by have := zrj (id := 0) (a := 20480) (l := 0) jB; rwa [uC] at this
theorem uF : unR dC 0 20480 0 = (dC, 7) := by kernel_rfl
theorem uD : unR dC (-1) 18446744073707454464 1 = (dD, 0) := by kernel_rfl
theorem uH : unR dC 7 20480 0 = (dC, 4) := by kernel_rfl
theorem vB : inR dB 0 0 2 = [⟨20480, 4096, 0, true, false, false, false, false⟩] := by kernel_rfl
theorem vC : inR dC 0 0 2 = [] := by kernel_rfl
end Go.Proofs.YtomeaibdedaldaaGreatDoor.LiF
namespace Go.Proofs.YtomeaibdedaldaaGreatDoor.LjB
open Go.RowKit Bv VaSpec Base MemL RegR Ax MemC PutC MemC3 TzC OkS SpA SpB SpC SpF LaA IterE LaC LaD LiC
open BitsC PteSpec
set_option maxRecDepth 10000
set_option maxHeartbeats 1000000
def vI (n : Int) : Value := .int .u64 n
def vsI (l : List Int) : List Value := l.map vI
theorem zvz : ∀ l : List Int, (vsI l).all (·.oneCell') = true
  | [] => rfl
  | p :: l => by rw [show vsI (p :: l) = vI p :: vsI l from rfl, List.all_cons, zvz l]; rfl
theorem zv0 {α : Type} (E : α → List Int) : ∀ (ys : List α) (acc : Nat × List Value), ys.foldl (fun p x => (p.1 + (E x).length, p.2 ++ vsI (E x))) acc = (acc.1 + (ys.flatMap E).length, acc.2 ++ vsI (ys.flatMap E))
  | [], acc => by simp [vsI]
  | y :: ys, acc => by
    rw [List.foldl_cons, zv0 E ys, List.flatMap_cons, List.length_append]
    simp only [vsI, List.map_append, Nat.add_assoc, List.append_assoc]
theorem zrk {α : Type} (E : α → List Int) (M : Nat) (h : ∀ x, (E x).length ≤ M) : ∀ ys : List α, (ys.flatMap E).length ≤ ys.length * M
  | [] => by simp
  | y :: ys => by
    rw [List.flatMap_cons, List.length_append, List.length_cons, Nat.succ_mul]
    have := h y
    have := zrk E M h ys
    omega
theorem zmk {sz : Int} {xs : List (Int × Int)} {f : Int} (E : Nat → List Int) (h : ∀ i, nzB sz xs f i = false → E i = []) : ∀ l : List Nat, (l.filter (nzB sz xs f)).flatMap E = l.flatMap E
  | [] => rfl
  | i :: l => by
    cases e : nzB sz xs f i with
    | true => rw [List.filter_cons, e]; simp only [if_true, List.flatMap_cons]; rw [zmk E h l]
    | false => rw [List.filter_cons, e]; simp only [Bool.false_eq_true, if_false]; rw [List.flatMap_cons, h i e, zmk E h l]; rfl
def zmt (rec : Int → List Int) (p : Pte) (l : Int) : List Int := if za2 p l then rec p.ppn else []
def ts1 : List (Nat × Nat) := [(3, 3), (5, 5), (7, 7)]
def ns1 : List Nat := [3, 5, 7, 1001, 1002]
def bs1 (sz : Int) (xs : List (Int × Int)) (top lv : Int) (p : Nat × List Value) : List (Nat × Hs) := [(3, .live (.box [cu sz, .s xs.length 2 (fl xs)])), (5, .live (.box [ci lv])), (7, .live (.box [.o 1000])), (1000, .live (.row 25 1 p.1 p.2)), (1001, .live (.box [cu sz, .s xs.length 2 (fl xs)])), (1002, .live (.box [cu top]))]
theorem zk7 (sz : Int) (xs : List (Int × Int)) (top lv : Int) (rec : Int → List Int) (ht : 0 ≤ top ∧ top < 17592186044416) (h0 : 0 ≤ lv) (h2 : lv ≤ 2) (hs : Srt xs) (hu : Uw xs) (hrec : ∀ t, (rec t).length ≤ 1000)
    (hIH : 1 ≤ lv → ∀ t, (0 ≤ t ∧ t < 17592186044416) → Ok 77 [zbt sz xs, iu t, ii (lv - 1)] (.m (.c (.s (rec t).length 1 (vsI (rec t))))))
    (L : List Int) (hL : L = top :: (List.range 512).flatMap fun (i : Nat) => zmt rec (atM sz xs top i) lv) :
    Ok 77 [zbt sz xs, iu top, ii lv] (.m (.c (.s L.length 1 (vsI L)))) := by
  refine zfp 29 Tryz.func77 rfl rfl rfl ?_ GG.to
  intro W A hG
  refine zcj (fun K hK => ?_)
  repeat (first | (refine zah rfl ?_; first | refine zai ?_) | (refine hK _ ?_; clear hK K) | refine zac rfl ?_)
  refine zcj (fun K hK => ?_)
  repeat (first | (refine zah rfl ?_; first | refine zai ?_) | (refine hK _ ?_; clear hK K) | refine zac rfl ?_)
  refine zu6 ?_
  refine zcj (fun K hK => ?_)
  repeat (first | (refine zah rfl ?_; first | refine zai ?_ | refine gdr (ze4 (n1 := 1001) (n2 := 1002) rfl rfl rfl rfl rfl rfl) ?_) | (refine hK _ ?_; clear hK K) | refine zac rfl ?_)
  refine zjn ?_
  refine zjo (zao [(3, .m (.c (.p 3 0))), (5, .m (.c (.p 5 0))), (7, .m (.c (.p 7 0))), (14, .m (.c (.cl 166 [1001, 1002])))] [(3, .live (.box [cu sz, .s xs.length 2 (fl xs)])), (5, .live (.box [ci lv])), (7, .live (.box [.o 11])), (11, .live (.row 25 1 1 [.int .u64 top])), (1001, .live (.box [cu sz, .s xs.length 2 (fl xs)])), (1002, .live (.box [cu top]))]
    ⟨rfl, rfl, rfl, rfl, trivial⟩ ⟨rfl, rfl, rfl, rfl, rfl, rfl, trivial⟩ rfl) ?_
  refine zjo (zd4 (b := 11) (b' := 1000) rfl rfl) ?_
  intro a w ⟨τ0, s⟩
  have s' := zpt (ns := ns1) s (by
    intro b hb
    simp only [ns1, List.mem_cons, List.not_mem_nil, or_false] at hb
    rcases hb with rfl | rfl | rfl | rfl | rfl
    all_goals exact ⟨_, rfl⟩)
  refine zzc (β := Nat × List Value) ht hs hu rfl ts1 ns1 1001 1002 (bs1 sz xs top lv)
    (fun p x => St.of [(3, .m (.c (.p 3 0))), (5, .m (.c (.p 5 0))), (7, .m (.c (.p 7 0))), (9, .m (.c (.p 9 0)))] (bs1 sz xs top lv p ++ [(9, .live (.box (atM sz xs top x.1).ce))]))
    (fun p x => (p.1 + (zmt rec (atM sz xs top x.1) lv).length, p.2 ++ vsI (zmt rec (atM sz xs top x.1) lv))) (1, [.int .u64 top]) s' (show 14 < 29 by decide) rfl
    (by
      intro p hp
      simp only [ts1, List.mem_cons, List.not_mem_nil, or_false] at hp
      rcases hp with rfl | rfl | rfl
      all_goals exact ⟨rfl, by simp [ns1], by show _ < 29; decide⟩)
    (by
      intro b hb
      simp only [ns1, List.mem_cons, List.not_mem_nil, or_false] at hb
      rcases hb with rfl | rfl | rfl | rfl | rfl
      all_goals exact ⟨_, rfl⟩)
    ⟨rfl, rfl, rfl, rfl, rfl, rfl, trivial⟩ (by simp [ns1]) (by simp [ns1]) (fun _ => rfl) (fun _ => rfl) (fun _ => rfl) (fun _ _ => ⟨rfl, rfl, rfl, rfl, rfl, rfl, trivial⟩) (fun _ => ⟨rfl, rfl, rfl, rfl, rfl, rfl, trivial⟩)
    (by
      intro τ τ' a a' W o o' x h h'
      have := zu7 (c := 7) (b := 1000) h h' (by simp [ns1]) rfl rfl rfl rfl
      exact Prod.ext this.1 this.2)
    ?_ (fun p => p.1 ≤ 1 + 512 * 1000) ?_ ?_ ?_
  · intro W l hk o x
    repeat (first | (refine zah rfl ?_; first | refine zai ?_) | refine zac rfl ?_)
    exact zao _ _ ⟨rfl, rfl, rfl, rfl, trivial⟩ ⟨rfl, rfl, rfl, rfl, rfl, rfl, rfl, trivial⟩ rfl
  · intro pre hpre
    rw [zv0 (fun x : Ie sz xs top => zmt rec (atM sz xs top x.1) lv)]
    have := zrk (fun x : Ie sz xs top => zmt rec (atM sz xs top x.1) lv) 1000 (fun x => by unfold zmt; split <;> first | exact hrec _ | simp) pre
    have h3 : pre.length * 1000 ≤ 512 * 1000 := Nat.mul_le_mul_right _ (by omega)
    show 1 + _ ≤ 1 + 512 * 1000
    omega
  · intro W' l hk o x ho
    have hx := x.2.1
    have hU := zhq hu sz top (x.1 : Int)
    have hp := zfo (xs := xs) sz top (x.1 : Int)
    have ho : o.1 ≤ 1 + 512 * 1000 := ho
    generalize hq : atM sz xs top (x.1 : Int) = q at hU hp ⊢
    have hmv : ∀ (S' : St) (n : Nat) (vs : List Value), EqT S' [] → EqB S' [(3, .live (.box [cu sz, .s xs.length 2 (fl xs)])), (5, .live (.box [ci lv])), (7, .live (.box [.o 27])), (27, .live (.row 25 1 n vs)), (1001, .live (.box [cu sz, .s xs.length 2 (fl xs)])), (1002, .live (.box [cu top]))] → Sub (cxR (Cx.of 29 W A GG hG) W' l τ0 ns1 hk) S' (St.of (ptT []) (bs1 sz xs top lv (n, vs))) := fun S' n vs h1 h2 =>
      Sub.trans (zao [] _ h1 h2 rfl) (Sub.trans (zd4 (b := 27) (b' := 1000) rfl rfl) (zao [] _ trivial ⟨rfl, rfl, rfl, rfl, rfl, rfl, trivial⟩ rfl))
    cases hlk : za2 q lv with
    | false =>
      have hE : zmt rec q lv = [] := by unfold zmt; rw [hlk]; rfl
      rw [hE]
      repeat (first | (refine zah rfl ?_; first | refine zai ?_ | refine gdr (zaa rfl rfl rfl (hlk ▸ zif q hU lv h0 h2) rfl) ?_) | (refine hK _ ?_; clear hK K) | refine zac rfl ?_ | refine zae rfl rfl ?_ | refine zaf ?_ | refine zal ?_ | refine zab (fun K hK => ?_))
      rw [show vsI [] = [] from rfl, List.append_nil]
      exact zao _ _ trivial ⟨rfl, rfl, rfl, rfl, rfl, rfl, trivial⟩ rfl
    | true =>
      have hlv : 1 ≤ lv := by
        rcases (by omega : lv = 0 ∨ 1 ≤ lv) with rfl | h
        · unfold za2 zdt at hlk
          cases hk2 : zbf q with
          | false => rw [hk2] at hlk; cases hlk
          | true => rw [hk2] at hlk; simp at hlk
        · exact h
      have hE : zmt rec q lv = rec q.ppn := by unfold zmt; rw [hlk]; rfl
      rw [hE]
      have hi := hIH hlv q.ppn hp
      have hl := hrec q.ppn
      have ha := zvz (rec q.ppn)
      repeat (first | (refine zah rfl ?_; first | refine zai ?_ | refine gdr (zaa rfl rfl rfl (hlk ▸ zif q hU lv h0 h2) rfl) ?_ | refine gdr (zaa rfl rfl rfl (hi) rfl) ?_ | refine gdr (za9 rfl rfl rfl rfl rfl rfl rfl rfl rfl rfl rfl rfl ha (by omega)) ?_) | (refine hK _ ?_; clear hK K) | refine zac rfl ?_ | refine zas (by kernel_rfl) (by kernel_rfl) rfl ?_ | refine zag rfl rfl ?_ | refine zaf ?_ | refine zab (fun K hK => ?_))
      exact hmv _ _ _ trivial ⟨rfl, rfl, rfl, rfl, rfl, rfl, trivial⟩
  · intro D ys W hD hys hI hK
    have hfold : ys.foldl (fun (p : Nat × List Value) (x : Ie sz xs top) => (p.1 + (zmt rec (atM sz xs top x.1) lv).length, p.2 ++ vsI (zmt rec (atM sz xs top x.1) lv))) (1, [.int .u64 top]) = (L.length, vsI L) := by
      rw [zv0 (fun x : Ie sz xs top => zmt rec (atM sz xs top x.1) lv)]
      have e : top :: ys.flatMap (fun x : Ie sz xs top => zmt rec (atM sz xs top x.1) lv) = L := by
        rw [hL, ← zmk (sz := sz) (xs := xs) (f := top) _ (fun i hi => ?_), ← hys, List.flatMap_map]
        have : zbo sz xs (top * 4096 + (i : Int) * 8) = 0 := by unfold nzB at hi; simpa using hi
        unfold zmt atM
        rw [this, LaD.zom]
        rfl
      rw [← e]
      show (1 + _, [vI top] ++ _) = (_, vsI (top :: _))
      rw [List.length_cons, Nat.add_comm]; rfl
    rw [hfold] at hI
    obtain ⟨τ1, s1⟩ := hI
    have s2 : SimT (Cx.of 29 _ A GG hG) (St.of (ptT ts1) (bs1 sz xs top lv (L.length, vsI L))) τ1 a W := ⟨s1.size, s1.nodef, s1.bel, s1.tm, s1.hp, s1.own, s1.sep, s1.one, fun p hp => by cases hp⟩
    refine zk4 (t := 6) rfl (by decide) rfl s2 (Nat.le_trans s.bel.size hD) hK (fun hk hD => ?_)
    repeat (first | (refine zah rfl ?_; first | refine zai ?_) | (refine hK _ ?_; clear hK K) | refine zac rfl ?_ | refine zab (fun K hK => ?_))
    exact zaj ⟨.inr rfl, _, rfl, rfl⟩
section
variable (sz : Int) (xs : List (Int × Int)) (hs : Srt xs) (hu : Uw xs)
include hs hu
theorem zyb (t : Int) : frN sz xs 0 t = t :: (List.range 512).flatMap fun (i : Nat) => zmt (fun _ => []) (atM sz xs t i) 0 := by
  have : ((List.range 512).flatMap fun (i : Nat) => zmt (fun _ => []) (atM sz xs t i) 0) = [] := by
    rw [List.flatMap_eq_nil_iff]
    intro i _
    unfold zmt
    split <;> rfl
  rw [this]; rfl
theorem zrl (t : Int) (ht : 0 ≤ t ∧ t < 17592186044416) : Ok 77 [zbt sz xs, iu t, ii 0] (.m (.c (.s (frN sz xs 0 t).length 1 (vsI (frN sz xs 0 t))))) :=
  zk7 sz xs t 0 (fun _ => []) ht (by omega) (by omega) hs hu (fun _ => by simp) (fun h => by omega) _ (zyb sz xs hs hu t)
theorem zyc (t : Int) (ht : 0 ≤ t ∧ t < 17592186044416) : Ok 77 [zbt sz xs, iu t, ii 1] (.m (.c (.s (frN sz xs 1 t).length 1 (vsI (frN sz xs 1 t))))) :=
  zk7 sz xs t 1 (frN sz xs 0) ht (by omega) (by omega) hs hu (fun _ => by simp [frN]) (fun _ t h1 => zrl sz xs hs hu t h1) _ rfl
end
end Go.Proofs.YtomeaibdedaldaaGreatDoor.LjB
namespace Go.Proofs.YtomeaibdedaldaaGreatDoor.VaR
open Go.RowKit Bv VaSpec Base BitsC VaC
end Go.Proofs.YtomeaibdedaldaaGreatDoor.VaR
namespace Go.Proofs.YtomeaibdedaldaaGreatDoor.RlA
open Go.RowKit Bv VaSpec Base MemL RegR Ax MemC PutC MemC3 TzC OkS SpA SpB SpC SpD SpE SpF SpH SpI SpJ SpN SpO RfA RfB RfC RfD LaA LaB LaC LaD LaE
open BitsC PteSpec
set_option maxRecDepth 10000
set_option maxHeartbeats 1000000
end Go.Proofs.YtomeaibdedaldaaGreatDoor.RlA
namespace Go.Proofs.YtomeaibdedaldaaGreatDoor.RlB
open Go.RowKit Bv VaSpec Base MemL RegR Ax MemC PutC MemC3 TzC OkS SpA SpB SpC SpD SpE SpF SpH SpI SpJ SpN SpO RfA RfB RfC RfD LaA LaB LaC LaD LaE RlA
open BitsC PteSpec
set_option maxRecDepth 10000
set_option maxHeartbeats 1000000
section
variable (sz : Int) (xs : List (Int × Int)) (hs : Srt xs) (hu : Uw xs) (hn : xs.length ≤ 1000000)
include hs hu hn
end
theorem zrm {l : List Pg} {k : Nat} {p : Pg} (h : l[k]? = some p) : ((flP l).drop (k * 8)).take 8 = p.vs := zfn Pg.vs 8 (fun _ => rfl) l _ p h
end Go.Proofs.YtomeaibdedaldaaGreatDoor.RlB
namespace Go.Proofs.YtomeaibdedaldaaGreatDoor.RlC
open Go.RowKit Bv VaSpec Base MemL RegR Ax MemC PutC MemC3 TzC OkS SpA SpB SpC SpD SpE SpF SpH SpI SpJ SpN SpO RfA RfB RfC RfD LaA LaB LaC LaD LaE LaF LaG RlA RlB
open BitsC PteSpec
set_option maxRecDepth 10000
set_option maxHeartbeats 1000000
end Go.Proofs.YtomeaibdedaldaaGreatDoor.RlC
namespace Go.Proofs.YtomeaibdedaldaaGreatDoor.LkA
open Go.RowKit Bv VaSpec Base MemL RegR Ax MemC PutC MemC3 TzC OkS SpA SpB SpC SpF SpH SpI SpJ LaA LaB LaC LaD LaE LaF LaG LiA LiB LiC LiD LiE LiF SpL SpN SpO RfA RfB RfC RfD RlA RlB LjB
open BitsC PteSpec
set_option maxRecDepth 10000
set_option maxHeartbeats 1000000
end Go.Proofs.YtomeaibdedaldaaGreatDoor.LkA
