/- Texts of this claim, one behind the other: LrA, LrB, LrC, LrD. -/
import Derived.Test.YtgkodncknlankaaGreatDoorB5
import Derived.Test.YtgkodncknlankaaGreatDoorB4
/- Plain: no linked table is empty where pages are but laid; pages of a table, by their addresses; a page is refused as over just if another one meets it. -/
namespace Go.Proofs.YtgkodncknlankaaGreatDoor.LrA
open Go.RowKit Go.Proofs.YtgkodncknlankaaGreatDoor.Bv Go.Proofs.YtgkodncknlankaaGreatDoor.VaSpec Go.Proofs.YtgkodncknlankaaGreatDoor.Base Go.Proofs.YtgkodncknlankaaGreatDoor.MemL Go.Proofs.YtgkodncknlankaaGreatDoor.RegR Go.Proofs.YtgkodncknlankaaGreatDoor.Ax Go.Proofs.YtgkodncknlankaaGreatDoor.MemC Go.Proofs.YtgkodncknlankaaGreatDoor.PutC Go.Proofs.YtgkodncknlankaaGreatDoor.MemC3 Go.Proofs.YtgkodncknlankaaGreatDoor.TzC Go.Proofs.YtgkodncknlankaaGreatDoor.OkS Go.Proofs.YtgkodncknlankaaGreatDoor.SpA Go.Proofs.YtgkodncknlankaaGreatDoor.SpB Go.Proofs.YtgkodncknlankaaGreatDoor.SpC Go.Proofs.YtgkodncknlankaaGreatDoor.SpD Go.Proofs.YtgkodncknlankaaGreatDoor.SpE Go.Proofs.YtgkodncknlankaaGreatDoor.SpF Go.Proofs.YtgkodncknlankaaGreatDoor.SpG Go.Proofs.YtgkodncknlankaaGreatDoor.SpH Go.Proofs.YtgkodncknlankaaGreatDoor.SpI Go.Proofs.YtgkodncknlankaaGreatDoor.SpJ Go.Proofs.YtgkodncknlankaaGreatDoor.SpN Go.Proofs.YtgkodncknlankaaGreatDoor.SpO Go.Proofs.YtgkodncknlankaaGreatDoor.RfP Go.Proofs.YtgkodncknlankaaGreatDoor.RfQ Go.Proofs.YtgkodncknlankaaGreatDoor.RfE Go.Proofs.YtgkodncknlankaaGreatDoor.RfG Go.Proofs.YtgkodncknlankaaGreatDoor.RfJ Go.Proofs.YtgkodncknlankaaGreatDoor.RfK Go.Proofs.YtgkodncknlankaaGreatDoor.LaA Go.Proofs.YtgkodncknlankaaGreatDoor.LaB Go.Proofs.YtgkodncknlankaaGreatDoor.LaC Go.Proofs.YtgkodncknlankaaGreatDoor.LaD Go.Proofs.YtgkodncknlankaaGreatDoor.LaE Go.Proofs.YtgkodncknlankaaGreatDoor.LaF Go.Proofs.YtgkodncknlankaaGreatDoor.LaG Go.Proofs.YtgkodncknlankaaGreatDoor.LaH Go.Proofs.YtgkodncknlankaaGreatDoor.LiA Go.Proofs.YtgkodncknlankaaGreatDoor.LiB Go.Proofs.YtgkodncknlankaaGreatDoor.LiC Go.Proofs.YtgkodncknlankaaGreatDoor.LiD Go.Proofs.YtgkodncknlankaaGreatDoor.LiE Go.Proofs.YtgkodncknlankaaGreatDoor.LiF
open Go.Proofs.YtgkodncknlankaaGreatDoor.BitsC Go.Proofs.YtgkodncknlankaaGreatDoor.PteSpec
set_option linter.unusedVariables false
set_option linter.unusedSimpArgs false
set_option maxRecDepth 10000
set_option maxHeartbeats 1000000
/-! ### no linked table is empty -/
def NE (E : Int → Int → Pte) (sh : Int) : Prop := ∀ s i, (0 ≤ i ∧ i < 512) → lkP (E s i) = true → (E s i).ppn ≠ sh → ∃ j, (0 ≤ j ∧ j < 512) ∧ E (E s i).ppn j ≠ zP
def NEx (E : Int → Int → Pte) (sh g : Int) : Prop := ∀ s i, (0 ≤ i ∧ i < 512) → lkP (E s i) = true → (E s i).ppn ≠ sh → (E s i).ppn ≠ g → ∃ j, (0 ≤ j ∧ j < 512) ∧ E (E s i).ppn j ≠ zP
theorem NEx.full {E : Int → Int → Pte} {sh g i : Int} (h : NEx E sh g) (hi : 0 ≤ i ∧ i < 512) (hn : E g i ≠ zP) : NE E sh := fun s j hj h1 h2 => by
  by_cases c : (E s j).ppn = g
  · exact ⟨i, hi, by rw [c]; exact hn⟩
  · exact h s j hj h1 h2 c
theorem NE.ex {E : Int → Int → Pte} {sh : Int} (h : NE E sh) (g : Int) : NEx E sh g := fun s j hj h1 h2 _ => h s j hj h1 h2
theorem pv_nz {p : Pte} (h : p.v = true) : p ≠ zP := fun e => by rw [e] at h; cases h
section
variable {cd cp sz sh : Int}
theorem dn_ne (addr want : Int) (hw : 0 ≤ want) : ∀ (l : Nat) (xs : List (Int × Int)) (f t : Int) (lv : Int → Int), TI cd cp sz xs f sh lv → Al cd cp f t → Al cd cp f sh → lv t = l → l ≤ 2 → NEx (atM sz xs) sh t →
    (dnN sz cd addr want l xs f t).2.2.2 = 0 → NEx (atM sz (dnN sz cd addr want l xs f t).1) sh (dnN sz cd addr want l xs f t).2.2.1
  | 0, xs, f, t, lv, h, ht, _, hl, _, hx, _ => hx
  | l + 1, xs, f, t, lv, h, ht, hsh, hl, h2, hx, he => by
    have hi := idx_bd addr ((l + 1 : Nat) : Int)
    unfold dnN at he ⊢
    split
    · exact hx
    · rename_i c1
      rw [if_neg c1] at he
      split
      · rename_i c2; rw [if_pos c2] at he; cases he
      · rename_i c2
        rw [if_neg c2] at he
        have hk := h.e.k t _ hi
        split
        · rename_i c3
          rw [if_pos c3] at he
          rcases hk with e | ⟨_, _, ⟨e, _⟩ | ⟨e1, e2, e3, e4⟩⟩
          · rw [e] at c3; cases c3
          · exact absurd e c2
          · exact dn_ne addr want hw l xs f _ lv h e4 hsh (by rw [e3, hl]; omega) (by omega) ((hx.full hi (pv_nz c3)).ex _) he
        · rename_i c3
          rw [if_neg c3] at he
          split
          · rename_i c4; rw [if_pos c4] at he; cases he
          · rename_i c4
            rw [if_neg c4] at he
            obtain ⟨a0, a1, a2, a3⟩ := al_take h c4
            have b1 := h.bd
            have b2 := h.bp
            have hbt := ht.1
            have hn : linkP (atM sz xs t (idx addr ((l + 1 : Nat) : Int))) = false := by
              unfold linkP
              rw [show (atM sz xs t (idx addr ((l + 1 : Nat) : Int))).v = false by simpa using c3]; rfl
            have hnn : 0 ≤ cd + tzI f ∧ cd + tzI f < 17592186044416 := by omega
            have hT := hang_ti h c4 ht hsh (by rw [hl]; omega) hi hn
            have hat : ∀ s j, (0 ≤ j ∧ j < 512) → atM sz (withM sz xs t (idx addr ((l + 1 : Nat) : Int)) (lnk (cd + tzI f))) s j = if s = t ∧ j = idx addr ((l + 1 : Nat) : Int) then lnk (cd + tzI f) else atM sz xs s j := fun s j hj => by
              rw [h.gm.with ht hi (lnk_U hnn)]
              by_cases hd : s * 4096 + j * 8 < sz
              · rw [at_put h.s hi hj hd, lnk_back hnn]
              · have bz := h.bz
                rw [if_neg (by rintro ⟨rfl, rfl⟩; omega)]
                unfold atM wordM
                rw [if_neg hd, if_neg hd]
            refine dn_ne addr want hw l _ _ _ _ hT a1 (a0 _ hsh).1 (by rw [hl]; show upL lv (cd + tzI f) _ (cd + tzI f) = _; unfold upL; rw [if_pos rfl]; omega) (by omega) (fun s j hj q1 q2 q3 => ?_) he
            have keep : ∀ s j, (0 ≤ j ∧ j < 512) → atM sz xs s j ≠ zP → atM sz (withM sz xs t (idx addr ((l + 1 : Nat) : Int)) (lnk (cd + tzI f))) s j ≠ zP := fun s j hj hne => by
              rw [hat s j hj]
              split
              · exact pv_nz rfl
              · exact hne
            rw [hat s j hj] at q1 q2 q3 ⊢
            by_cases c : s = t ∧ j = idx addr ((l + 1 : Nat) : Int)
            · rw [if_pos c] at q3
              exact absurd rfl q3
            · rw [if_neg c] at q1 q2 q3 ⊢
              by_cases d : (atM sz xs s j).ppn = t
              · refine ⟨idx addr ((l + 1 : Nat) : Int), hi, ?_⟩
                rw [d, hat t _ hi, if_pos ⟨rfl, rfl⟩]
                exact pv_nz rfl
              · obtain ⟨j', hj', hne⟩ := hx s j hj q1 q2 d
                exact ⟨j', hj', keep _ _ hj' hne⟩
/-- frames run out only where one is left at most -/
theorem dn_cnt (addr want : Int) (hw : 0 ≤ want) : ∀ (l : Nat) (xs : List (Int × Int)) (f t : Int), (0 ≤ f ∧ f < 2 ^ cp.toNat) → cp ≤ 64 → (dnN sz cd addr want l xs f t).2.2.2 = 8 → cnt f + 1 ≤ l
  | 0, xs, f, t, _, _, he => by cases he
  | l + 1, xs, f, t, hf, hc, he => by
    have hu : U f := U_fit hf.1 hf.2 (by omega)
    unfold dnN at he
    split at he
    · cases he
    · split at he
      · cases he
      · split at he
        · have := dn_cnt addr want hw l xs f _ hf hc he; omega
        · split at he
          · rename_i c4
            subst c4
            have : cnt 0 = 0 := by decide
            omega
          · rename_i c4
            have t1 := tz_fit hu hf.2 c4
            have hb := low_at hu c4
            have := dn_cnt addr want hw l _ _ _ ⟨(setI_U _ _ _ _).1, fit_set hu hf.2 t1.1 t1.2⟩ hc he
            have := cnt_off hu t1.1 (by omega) hb
            omega
end
structure InvN (k : Kr) : Prop where
  ne : NE (atM k.sz k.m) k.sh
theorem map_ne {n : Nat} {k : Kr} {id a pa l : Int} {p : Pm} (h : InvT n k) (g : InvN k) (hp : U pa) : InvN (mapR k id a pa l p).1 := by
  obtain ⟨lv, hT, hs, hr⟩ := h.t
  unfold mapR
  split
  · exact g
  · rename_i c0
    split
    · exact g
    · rename_i c1
      split
      · exact g
      · split
        · exact g
        · rename_i c3
          split
          · exact g
          · split
            · exact g
            · rename_i c5
              obtain ⟨w1, w2, w3, w4⟩ := where_good (id := id) (a := a) (l := l) h.l (by omega)
              obtain ⟨z1, z2⟩ := h.top (id := id) (a := a) (l := l) (by omega) hs hr
              generalize whereR k id a l = w at *
              have he : (mapD k w.1 w.2.1 a l).2.2.2 = 0 := by omega
              obtain ⟨lv', r1, r2, r3, r4⟩ := dn_ti a l w1.1 w.2.1.toNat k.m k.pf w.1 lv hT w2 h.l.sh (by omega) (by omega) (by omega) he
              have hx := dn_ne a l w1.1 w.2.1.toNat k.m k.pf w.1 lv hT w2 h.l.sh (by omega) (by omega) (g.ne.ex _) he
              have hpm := lk2_may (p := p) (by omega)
              have hpn := ppn_bd (k := k) (l := l) hp (by have := h.l.g.bd; omega) (by omega)
              have hb := mkP_back (n := pa / 4096) (p := p) (g := decide (id = -1)) hpn hpm
              have hi := idx_bd a l
              have b3 := r3.1
              have hat : ∀ s j, (0 ≤ j ∧ j < 512) → atM k.sz (withM k.sz (dnN k.sz k.cd a l w.2.1.toNat k.m k.pf w.1).1 (dnN k.sz k.cd a l w.2.1.toNat k.m k.pf w.1).2.2.1 (idx a l) (mkP (pa / 4096) p (decide (id = -1)))) s j = if s = (dnN k.sz k.cd a l w.2.1.toNat k.m k.pf w.1).2.2.1 ∧ j = idx a l then mkP (pa / 4096) p (decide (id = -1)) else atM k.sz (dnN k.sz k.cd a l w.2.1.toNat k.m k.pf w.1).1 s j := fun s j hj => by
                rw [r1.gm.with r3 hi hb.2.1]
                by_cases hd : s * 4096 + j * 8 < k.sz
                · rw [at_put r1.s hi hj hd, hb.1]
                · have bz := r1.bz
                  rw [if_neg (by rintro ⟨rfl, rfl⟩; omega)]
                  unfold atM wordM
                  rw [if_neg hd, if_neg hd]
              refine ⟨?_⟩
              show NE (atM k.sz (withM k.sz (dnN k.sz k.cd a l w.2.1.toNat k.m k.pf w.1).1 (dnN k.sz k.cd a l w.2.1.toNat k.m k.pf w.1).2.2.1 (idx a l) (mkP (pa / 4096) p (decide (id = -1))))) k.sh
              generalize dnN k.sz k.cd a l w.2.1.toNat k.m k.pf w.1 = D at *
              intro s j hj q1 q2
              rw [hat s j hj] at q1 q2 ⊢
              by_cases c : s = D.2.2.1 ∧ j = idx a l
              · rw [if_pos c, leaf_lk hb.2.2] at q1; cases q1
              · rw [if_neg c] at q1 q2 ⊢
                by_cases d : (atM k.sz D.1 s j).ppn = D.2.2.1
                · exact ⟨idx a l, hi, by rw [d, hat _ _ hi, if_pos ⟨rfl, rfl⟩]; exact pv_nz rfl⟩
                · obtain ⟨j', hj', hne⟩ := hx s j hj q1 q2 d
                  refine ⟨j', hj', ?_⟩
                  rw [hat _ _ hj']
                  split
                  · exact pv_nz rfl
                  · exact hne
theorem inv_n {n : Nat} {k : Kr} (h : Inv n k) (g : Inv2 k) : InvN k := ⟨fun s i hi h1 h2 => by
  obtain ⟨lv, hT, hs, hr⟩ := (inv_t h g).t
  unfold atM wordM at h1 h2 ⊢
  split at h1
  · rename_i hlt
    rw [if_pos hlt] at h2
    rcases look_is (xs := k.m) (k := (s * 4096 + i * 8) / 8) with e | ⟨c, hc, e1, e2⟩
    · rw [e, pte0] at h1; cases h1
    · obtain ⟨p, hp, hv, rfl⟩ := g.cl c hc
      have hsh := h.sh
      have hcd := h.cd
      have hcp := h.cp
      rw [e2] at h2
      have h2 : (pteOf (33 + 1024 * k.sh)).ppn ≠ k.sh := h2
      rw [gP_back (by omega)] at h2
      exact absurd rfl h2
  · rw [pte0] at h1; cases h1⟩
theorem bg_n {a b c : Int} {n : Nat} (h : confB a b c n = true) : InvN (bgK a b c n) := by
  have h0 := new_inv h
  have g0 := new_inv2 h
  have h1 := create_inv h0
  have g1 := create_both h0 g0
  exact inv_n (create_inv h1) (create_both h1 g1)
/-! ### addresses of 39 bits -/
def m39 (a : Int) : Int := a % 549755813888
theorem m39_adr {b i l : Int} (h0 : 0 ≤ l ∧ l ≤ 2) (hi : 0 ≤ i ∧ i < 512) (hb : m39 b % (512 * VaSpec.sz l) = 0) : m39 (adr b i l) = m39 b + i * VaSpec.sz l ∧ m39 b + 512 * VaSpec.sz l ≤ 549755813888 := by
  unfold adr
  rw [IntKind.wrap_u64, IntKind.wrap_u64]
  unfold m39 at *
  rcases (by omega : l = 0 ∨ l = 1 ∨ l = 2) with rfl | rfl | rfl
  · simp only [show VaSpec.sz 0 = 4096 from rfl] at *
    omega
  · simp only [show VaSpec.sz 1 = 2097152 from rfl] at *
    omega
  · simp only [show VaSpec.sz 2 = 1073741824 from rfl] at *
    omega
theorem m39_of {a : Int} (h : m39 a % 4096 = 0) : m39 (ofv (num a)) = m39 a := by
  unfold m39 at *
  unfold ofv ext39 num
  split <;> omega
theorem idx_m39 (a l : Int) (h : 0 ≤ l ∧ l ≤ 2) : idx (m39 a) l = idx a l := by
  unfold idx m39
  rcases (by omega : l = 0 ∨ l = 1 ∨ l = 2) with rfl | rfl | rfl
  · simp only [show VaSpec.sz 0 = 4096 from rfl]; omega
  · simp only [show VaSpec.sz 1 = 2097152 from rfl]; omega
  · simp only [show VaSpec.sz 2 = 1073741824 from rfl]; omega
/-- two blocks meet -/
def meet39 (m s m' s' : Int) : Prop := m ≤ m' + s' - 1 ∧ m' ≤ m + s - 1
theorem sz_pos {l : Int} (h : 0 ≤ l ∧ l ≤ 2) : 0 < VaSpec.sz l := by
  rcases (by omega : l = 0 ∨ l = 1 ∨ l = 2) with rfl | rfl | rfl <;> decide
theorem sz_succ {l : Int} (h : 1 ≤ l ∧ l ≤ 2) : VaSpec.sz l = 512 * VaSpec.sz (l - 1) := by
  rcases (by omega : l = 1 ∨ l = 2) with rfl | rfl <;> rfl
theorem sz_dvd {l : Int} (h : 0 ≤ l ∧ l ≤ 2) {m : Int} (hm : m % VaSpec.sz l = 0) : m % 4096 = 0 := by
  rcases (by omega : l = 0 ∨ l = 1 ∨ l = 2) with rfl | rfl | rfl
  · exact hm
  · have hm : m % 2097152 = 0 := hm
    omega
  · have hm : m % 1073741824 = 0 := hm
    omega
/-- the pages of a table, entry by entry -/
theorem mem_pages (sz : Int) (xs : List (Int × Int)) (l : Nat) (t b : Int) (y : Pg) : y ∈ pagesN sz xs l t b ↔ ∃ i : Nat, i < 512 ∧ badP (atM sz xs t i) (l : Int) = false ∧
    ((leafP (atM sz xs t i) = true ∧ y = pgOf (atM sz xs t i) (adr b i l) l) ∨ (leafP (atM sz xs t i) = false ∧ ∃ m, l = m + 1 ∧ y ∈ pagesN sz xs m (atM sz xs t i).ppn (adr b i l))) := by
  have key : ∀ (rec : Int → Int → List Pg) (p : Pte) (a : Int), y ∈ entP rec p (l : Int) a ↔ badP p (l : Int) = false ∧ ((leafP p = true ∧ y = pgOf p a l) ∨ (leafP p = false ∧ y ∈ rec p.ppn a)) := fun rec p a => by
    unfold entP
    cases badP p (l : Int) <;> cases leafP p <;> simp
  cases l with
  | zero =>
    simp only [pagesN, List.mem_flatMap, List.mem_range]
    constructor
    · rintro ⟨i, hi, hy⟩
      obtain ⟨a, b | ⟨_, c⟩⟩ := (key _ _ _).1 hy
      · exact ⟨i, hi, a, .inl b⟩
      · cases c
    · rintro ⟨i, hi, a, b | ⟨_, m, e, _⟩⟩
      · exact ⟨i, hi, (key _ _ _).2 ⟨a, .inl b⟩⟩
      · omega
  | succ m =>
    simp only [pagesN, List.mem_flatMap, List.mem_range]
    constructor
    · rintro ⟨i, hi, hy⟩
      obtain ⟨a, b | ⟨c, d⟩⟩ := (key _ _ _).1 hy
      · exact ⟨i, hi, a, .inl b⟩
      · exact ⟨i, hi, a, .inr ⟨c, m, rfl, d⟩⟩
    · rintro ⟨i, hi, a, b | ⟨c, m', e, d⟩⟩
      · exact ⟨i, hi, (key _ _ _).2 ⟨a, .inl b⟩⟩
      · obtain rfl : m' = m := by omega
        exact ⟨i, hi, (key _ _ _).2 ⟨a, .inr ⟨c, d⟩⟩⟩
/-- where a table's pages lie -/
theorem pages_in (sz : Int) (xs : List (Int × Int)) : ∀ (l : Nat) (t b : Int) (y : Pg), l ≤ 2 → m39 b % (512 * VaSpec.sz l) = 0 → y ∈ pagesN sz xs l t b → (0 ≤ y.lev ∧ y.lev ≤ l) ∧ m39 b ≤ m39 y.va ∧ m39 y.va + VaSpec.sz y.lev ≤ m39 b + 512 * VaSpec.sz l ∧ m39 y.va % VaSpec.sz y.lev = 0 ∧ y.va = ofv (num y.va) := by
  intro l
  induction l with
  | zero =>
    intro t b y hl hb hy
    obtain ⟨i, hi, _, ⟨_, rfl⟩ | ⟨_, m, e, _⟩⟩ := (mem_pages _ _ _ _ _ _).1 hy
    · obtain ⟨e1, e2⟩ := m39_adr (b := b) (i := (i : Int)) (l := ((0 : Nat) : Int)) (by omega) (by omega) hb
      have hz : VaSpec.sz ((0 : Nat) : Int) = 4096 := rfl
      have e3 := m39_of (a := adr b i ((0 : Nat) : Int)) (by rw [e1, hz]; rw [hz] at hb; omega)
      refine ⟨⟨by show (0 : Int) ≤ ((0 : Nat) : Int); omega, by show ((0 : Nat) : Int) ≤ ((0 : Nat) : Int); omega⟩, ?_⟩
      show m39 b ≤ m39 (ofv (num _)) ∧ m39 (ofv (num _)) + VaSpec.sz ((0 : Nat) : Int) ≤ _ ∧ m39 (ofv (num _)) % VaSpec.sz ((0 : Nat) : Int) = 0 ∧ _
      rw [e3, e1, hz]
      rw [hz] at hb
      refine ⟨by omega, by omega, by omega, ?_⟩
      show ofv (num _) = ofv (num (ofv (num _)))
      congr 1
      unfold num ofv ext39; split <;> omega
    · omega
  | succ l IH =>
    intro t b y hl hb hy
    obtain ⟨i, hi, _, ⟨_, rfl⟩ | ⟨_, m, e, hy⟩⟩ := (mem_pages _ _ _ _ _ _).1 hy
    · obtain ⟨e1, e2⟩ := m39_adr (b := b) (i := (i : Int)) (l := ((l + 1 : Nat) : Int)) (by omega) (by omega) hb
      have hz := sz_pos (l := ((l + 1 : Nat) : Int)) (by omega)
      have hmod : (m39 b + (i : Int) * VaSpec.sz ((l + 1 : Nat) : Int)) % VaSpec.sz ((l + 1 : Nat) : Int) = 0 := by
        rcases (by omega : l = 0 ∨ l = 1) with rfl | rfl
        · have hb : m39 b % (512 * 2097152) = 0 := hb
          show (m39 b + (i : Int) * 2097152) % 2097152 = 0; omega
        · have hb : m39 b % (512 * 1073741824) = 0 := hb
          show (m39 b + (i : Int) * 1073741824) % 1073741824 = 0; omega
      have e3 := m39_of (a := adr b i ((l + 1 : Nat) : Int)) (by rw [e1]; exact sz_dvd (by omega) hmod)
      refine ⟨⟨by show (0 : Int) ≤ ((l + 1 : Nat) : Int); omega, by show ((l + 1 : Nat) : Int) ≤ ((l + 1 : Nat) : Int); omega⟩, ?_⟩
      show m39 b ≤ m39 (ofv (num _)) ∧ m39 (ofv (num _)) + VaSpec.sz ((l + 1 : Nat) : Int) ≤ _ ∧ m39 (ofv (num _)) % VaSpec.sz ((l + 1 : Nat) : Int) = 0 ∧ _
      rw [e3, e1]
      refine ⟨?_, ?_, hmod, ?_⟩
      · have : 0 ≤ (i : Int) * VaSpec.sz ((l + 1 : Nat) : Int) := Int.mul_nonneg (by omega) (by omega)
        omega
      · rcases (by omega : l = 0 ∨ l = 1) with rfl | rfl
        · show m39 b + (i : Int) * 2097152 + 2097152 ≤ m39 b + 512 * 2097152; omega
        · show m39 b + (i : Int) * 1073741824 + 1073741824 ≤ m39 b + 512 * 1073741824; omega
      · show ofv (num _) = ofv (num (ofv (num _)))
        congr 1
        unfold num ofv ext39; split <;> omega
    · obtain rfl : m = l := by omega
      obtain ⟨e1, e2⟩ := m39_adr (b := b) (i := (i : Int)) (l := ((m + 1 : Nat) : Int)) (by omega) (by omega) hb
      have hs := sz_succ (l := ((m + 1 : Nat) : Int)) (by omega)
      rw [show ((m + 1 : Nat) : Int) - 1 = (m : Int) by omega] at hs
      have hmod : (m39 b + (i : Int) * VaSpec.sz ((m + 1 : Nat) : Int)) % (512 * VaSpec.sz (m : Int)) = 0 := by
        rw [← hs]
        rcases (by omega : m = 0 ∨ m = 1) with rfl | rfl
        · have hb : m39 b % (512 * 2097152) = 0 := hb
          show (m39 b + (i : Int) * 2097152) % 2097152 = 0; omega
        · have hb : m39 b % (512 * 1073741824) = 0 := hb
          show (m39 b + (i : Int) * 1073741824) % 1073741824 = 0; omega
      obtain ⟨r1, r2, r3, r4, r5⟩ := IH _ _ y (by omega) (by rw [e1]; exact hmod) hy
      rw [e1] at r2 r3
      refine ⟨⟨r1.1, by omega⟩, ?_, ?_, r4, r5⟩
      · have : 0 ≤ (i : Int) * VaSpec.sz ((m + 1 : Nat) : Int) := Int.mul_nonneg (by omega) (by have := sz_pos (l := ((m + 1 : Nat) : Int)) (by omega); omega)
        omega
      · rw [← hs] at r3
        rcases (by omega : m = 0 ∨ m = 1) with rfl | rfl
        · have r3 : m39 y.va + VaSpec.sz y.lev ≤ m39 b + (i : Int) * 2097152 + 2097152 := r3
          show m39 y.va + VaSpec.sz y.lev ≤ m39 b + 512 * 2097152; omega
        · have r3 : m39 y.va + VaSpec.sz y.lev ≤ m39 b + (i : Int) * 1073741824 + 1073741824 := r3
          show m39 y.va + VaSpec.sz y.lev ≤ m39 b + 512 * 1073741824; omega
end Go.Proofs.YtgkodncknlankaaGreatDoor.LrA
/- Plain: a page is refused as over just if one that is listed meets it. -/
namespace Go.Proofs.YtgkodncknlankaaGreatDoor.LrB
open Go.RowKit Go.Proofs.YtgkodncknlankaaGreatDoor.Bv Go.Proofs.YtgkodncknlankaaGreatDoor.VaSpec Go.Proofs.YtgkodncknlankaaGreatDoor.Base Go.Proofs.YtgkodncknlankaaGreatDoor.MemL Go.Proofs.YtgkodncknlankaaGreatDoor.RegR Go.Proofs.YtgkodncknlankaaGreatDoor.Ax Go.Proofs.YtgkodncknlankaaGreatDoor.MemC Go.Proofs.YtgkodncknlankaaGreatDoor.PutC Go.Proofs.YtgkodncknlankaaGreatDoor.MemC3 Go.Proofs.YtgkodncknlankaaGreatDoor.TzC Go.Proofs.YtgkodncknlankaaGreatDoor.OkS Go.Proofs.YtgkodncknlankaaGreatDoor.SpA Go.Proofs.YtgkodncknlankaaGreatDoor.SpB Go.Proofs.YtgkodncknlankaaGreatDoor.SpC Go.Proofs.YtgkodncknlankaaGreatDoor.SpD Go.Proofs.YtgkodncknlankaaGreatDoor.SpE Go.Proofs.YtgkodncknlankaaGreatDoor.SpF Go.Proofs.YtgkodncknlankaaGreatDoor.SpG Go.Proofs.YtgkodncknlankaaGreatDoor.SpH Go.Proofs.YtgkodncknlankaaGreatDoor.SpI Go.Proofs.YtgkodncknlankaaGreatDoor.SpJ Go.Proofs.YtgkodncknlankaaGreatDoor.SpN Go.Proofs.YtgkodncknlankaaGreatDoor.SpO Go.Proofs.YtgkodncknlankaaGreatDoor.RfP Go.Proofs.YtgkodncknlankaaGreatDoor.RfQ Go.Proofs.YtgkodncknlankaaGreatDoor.RfE Go.Proofs.YtgkodncknlankaaGreatDoor.RfG Go.Proofs.YtgkodncknlankaaGreatDoor.RfJ Go.Proofs.YtgkodncknlankaaGreatDoor.RfK Go.Proofs.YtgkodncknlankaaGreatDoor.LaA Go.Proofs.YtgkodncknlankaaGreatDoor.LaB Go.Proofs.YtgkodncknlankaaGreatDoor.LaC Go.Proofs.YtgkodncknlankaaGreatDoor.LaD Go.Proofs.YtgkodncknlankaaGreatDoor.LaE Go.Proofs.YtgkodncknlankaaGreatDoor.LaF Go.Proofs.YtgkodncknlankaaGreatDoor.LaG Go.Proofs.YtgkodncknlankaaGreatDoor.LaH Go.Proofs.YtgkodncknlankaaGreatDoor.LiA Go.Proofs.YtgkodncknlankaaGreatDoor.LiB Go.Proofs.YtgkodncknlankaaGreatDoor.LiC Go.Proofs.YtgkodncknlankaaGreatDoor.LiD Go.Proofs.YtgkodncknlankaaGreatDoor.LiE Go.Proofs.YtgkodncknlankaaGreatDoor.LiF Go.Proofs.YtgkodncknlankaaGreatDoor.LrA
open Go.Proofs.YtgkodncknlankaaGreatDoor.BitsC Go.Proofs.YtgkodncknlankaaGreatDoor.PteSpec
set_option linter.unusedVariables false
set_option linter.unusedSimpArgs false
set_option maxRecDepth 10000
set_option maxHeartbeats 1000000
section
variable {cd cp sz f sh : Int} {xs : List (Int × Int)} {lv : Int → Int}
/-- a table that isn't empty has a page -/
theorem sub_ne (h : TI cd cp sz xs f sh lv) (hn : NE (atM sz xs) sh) : ∀ (l : Nat) (t b : Int), l ≤ 1 → lv t = l → (∃ j, (0 ≤ j ∧ j < 512) ∧ atM sz xs t j ≠ zP) → ∃ y, y ∈ pagesN sz xs l t b
  | 0, t, b, _, hl, ⟨j, hj, hne⟩ => by
    rcases h.e.k t j hj with e | ⟨_, _, ⟨e1, e2⟩ | ⟨e1, e2, _⟩⟩
    · exact absurd e hne
    · rw [show j = ((j.toNat : Nat) : Int) by omega] at e1 e2
      rw [hl] at e2
      exact ⟨_, (mem_pages _ _ _ _ _ _).2 ⟨j.toNat, by omega, e2, .inl ⟨e1, rfl⟩⟩⟩
    · omega
  | l + 1, t, b, h1, hl, ⟨j, hj, hne⟩ => by
    rcases h.e.k t j hj with e | ⟨_, _, ⟨e1, e2⟩ | ⟨e1, e2, e3, e4⟩⟩
    · exact absurd e hne
    · rw [show j = ((j.toNat : Nat) : Int) by omega] at e1 e2
      rw [hl] at e2
      exact ⟨_, (mem_pages _ _ _ _ _ _).2 ⟨j.toNat, by omega, e2, .inl ⟨e1, rfl⟩⟩⟩
    · have hns : (atM sz xs t j).ppn ≠ sh := fun e => by have := (h.e.s t j hj e1 e).2; omega
      obtain ⟨y, hy⟩ := sub_ne h hn l (atM sz xs t j).ppn (adr b j ((l + 1 : Nat) : Int)) (by omega) (by rw [e3, hl]; omega) (hn t j hj e1 hns)
      have hb : badP (atM sz xs t j) ((l + 1 : Nat) : Int) = false := by
        have := lk_links e1 (l := ((l + 1 : Nat) : Int)) (by omega)
        unfold linksP at this
        simp only [Bool.and_eq_true, Bool.not_eq_true'] at this
        exact this.2
      have hlf := (lk_link e1).2.2
      rw [show j = ((j.toNat : Nat) : Int) by omega] at hb hlf hy
      exact ⟨y, (mem_pages _ _ _ _ _ _).2 ⟨j.toNat, by omega, hb, .inr ⟨hlf, l, rfl, hy⟩⟩⟩
/-- the block of an entry -/
theorem blk {m mb l : Int} (hl : 0 ≤ l ∧ l ≤ 2) (hb : mb % (512 * VaSpec.sz l) = 0) (h0 : mb ≤ m) (h1 : m < mb + 512 * VaSpec.sz l) : mb + idx m l * VaSpec.sz l ≤ m ∧ m < mb + idx m l * VaSpec.sz l + VaSpec.sz l := by
  unfold idx
  rcases (by omega : l = 0 ∨ l = 1 ∨ l = 2) with rfl | rfl | rfl
  · simp only [show VaSpec.sz 0 = 4096 from rfl] at *; omega
  · simp only [show VaSpec.sz 1 = 2097152 from rfl] at *; omega
  · simp only [show VaSpec.sz 2 = 1073741824 from rfl] at *; omega
/-- a lesser block that begins in a greater one lies in it -/
theorem blk_in {m mb l w i : Int} (hl : 0 ≤ l ∧ l ≤ 2) (hw : 0 ≤ w ∧ w ≤ l) (hb : mb % (512 * VaSpec.sz l) = 0) (hm : m % VaSpec.sz w = 0) (h1 : m < mb + i * VaSpec.sz l + VaSpec.sz l) : m + VaSpec.sz w ≤ mb + i * VaSpec.sz l + VaSpec.sz l := by
  rcases (by omega : l = 0 ∨ l = 1 ∨ l = 2) with rfl | rfl | rfl <;> rcases (by omega : w = 0 ∨ w = 1 ∨ w = 2) with rfl | rfl | rfl
  all_goals first
    | (exfalso; omega)
    | (simp only [show VaSpec.sz 0 = 4096 from rfl, show VaSpec.sz 1 = 2097152 from rfl, show VaSpec.sz 2 = 1073741824 from rfl] at *; omega)
theorem ent_eq {mb l i j m s : Int} (hl : 0 ≤ l ∧ l ≤ 2) (h1 : mb + i * VaSpec.sz l ≤ m) (h2 : m + s ≤ mb + i * VaSpec.sz l + VaSpec.sz l) {m' s' : Int} (h3 : mb + j * VaSpec.sz l ≤ m') (h4 : m' + s' ≤ mb + j * VaSpec.sz l + VaSpec.sz l) (hm : meet39 m s m' s') : i = j := by
  unfold meet39 at hm
  rcases (by omega : l = 0 ∨ l = 1 ∨ l = 2) with rfl | rfl | rfl
  · simp only [show VaSpec.sz 0 = 4096 from rfl] at *; omega
  · simp only [show VaSpec.sz 1 = 2097152 from rfl] at *; omega
  · simp only [show VaSpec.sz 2 = 1073741824 from rfl] at *; omega
theorem meets_iff (h : TI cd cp sz xs f sh lv) (hn : NE (atM sz xs) sh) (a want : Int) (hw : 0 ≤ want) (hm : m39 a % VaSpec.sz want = 0) : ∀ (l : Nat) (t b : Int), l ≤ 2 → Al cd cp f t → lv t = l → want ≤ (l : Int) → m39 b % (512 * VaSpec.sz l) = 0 → m39 b ≤ m39 a → m39 a < m39 b + 512 * VaSpec.sz l →
    (l = 2 → ∀ i, (0 ≤ i ∧ i < 512) → lkP (atM sz xs t i) = true → (atM sz xs t i).ppn ≠ sh) →
    ((∃ y ∈ pagesN sz xs l t b, meet39 (m39 y.va) (VaSpec.sz y.lev) (m39 a) (VaSpec.sz want)) ↔ (atM sz xs (reachN sz xs a want l t).1 (idx a (reachN sz xs a want l t).2)).v = true) := by
  intro l
  induction l with
  | zero =>
    intro t b h2 ht hl hwl hb h0 h1 _
    obtain rfl : want = 0 := by omega
    have hi := idx_bd a ((0 : Nat) : Int)
    have e : reachN sz xs a 0 0 t = (t, ((0 : Nat) : Int)) := rfl
    rw [e]
    show _ ↔ (atM sz xs t (idx a ((0 : Nat) : Int))).v = true
    obtain ⟨k1, k2⟩ := blk (l := ((0 : Nat) : Int)) (by omega) hb h0 h1
    rw [idx_m39 a _ (by omega)] at k1 k2
    have k3 := blk_in (w := 0) (i := idx a ((0 : Nat) : Int)) (l := ((0 : Nat) : Int)) (by omega) (by omega) hb hm k2
    constructor
    · rintro ⟨y, hy, hme⟩
      obtain ⟨i, hi2, hbad, ⟨hlf, rfl⟩ | ⟨_, m, em, _⟩⟩ := (mem_pages _ _ _ _ _ _).1 hy
      · obtain ⟨e1, e2⟩ := m39_adr (b := b) (i := (i : Int)) (l := ((0 : Nat) : Int)) (by omega) (by omega) hb
        have hz : VaSpec.sz ((0 : Nat) : Int) = 4096 := rfl
        have e3 : m39 (pgOf (atM sz xs t i) (adr b i ((0 : Nat) : Int)) ((0 : Nat) : Int)).va = m39 b + (i : Int) * VaSpec.sz ((0 : Nat) : Int) := (m39_of (a := adr b i ((0 : Nat) : Int)) (by rw [e1, hz]; rw [hz] at hb; omega)).trans e1
        have e4 : (i : Int) = idx a ((0 : Nat) : Int) := ent_eq (l := ((0 : Nat) : Int)) (by omega) (by rw [e3]; omega) (by rw [e3]; show _ + VaSpec.sz ((0 : Nat) : Int) ≤ _; omega) k1 k3 hme
        rw [← e4]
        exact (leaf_link hlf).2
      · omega
    · intro hv
      rcases h.e.k t _ hi with e | ⟨_, _, ⟨q1, q2⟩ | ⟨q1, q2, _⟩⟩
      · rw [e] at hv; cases hv
      · obtain ⟨e1, e2⟩ := m39_adr (b := b) (i := idx a ((0 : Nat) : Int)) (l := ((0 : Nat) : Int)) (by omega) hi hb
        have hz : VaSpec.sz ((0 : Nat) : Int) = 4096 := rfl
        have e3 := (m39_of (a := adr b (idx a ((0 : Nat) : Int)) ((0 : Nat) : Int)) (by rw [e1, hz]; rw [hz] at hb; omega)).trans e1
        rw [hl] at q2
        refine ⟨pgOf (atM sz xs t (idx a ((0 : Nat) : Int))) (adr b (idx a ((0 : Nat) : Int)) ((0 : Nat) : Int)) ((0 : Nat) : Int), ?_, ?_⟩
        · rw [show idx a ((0 : Nat) : Int) = (((idx a ((0 : Nat) : Int)).toNat : Nat) : Int) by omega] at q1 q2 ⊢
          exact (mem_pages _ _ _ _ _ _).2 ⟨_, by omega, q2, .inl ⟨q1, rfl⟩⟩
        · show meet39 (m39 (ofv (num _))) (VaSpec.sz ((0 : Nat) : Int)) _ _
          rw [e3]
          exact ⟨by have := sz_pos (l := 0) (by omega); omega, by omega⟩
      · omega
  | succ l IH =>
    intro t b h2 ht hl hwl hb h0 h1 hns
    have hi := idx_bd a ((l + 1 : Nat) : Int)
    have hzp := sz_pos (l := ((l + 1 : Nat) : Int)) (by omega)
    obtain ⟨k1, k2⟩ := blk (l := ((l + 1 : Nat) : Int)) (by omega) hb h0 h1
    rw [idx_m39 a _ (by omega)] at k1 k2
    have hwp := sz_pos (l := want) (by omega)
    have k3 := blk_in (w := want) (i := idx a ((l + 1 : Nat) : Int)) (l := ((l + 1 : Nat) : Int)) (by omega) (by omega) hb hm k2
    have hs := sz_succ (l := ((l + 1 : Nat) : Int)) (by omega)
    rw [show ((l + 1 : Nat) : Int) - 1 = (l : Int) by omega] at hs
    have hmod : ∀ i : Int, (m39 b + i * VaSpec.sz ((l + 1 : Nat) : Int)) % VaSpec.sz ((l + 1 : Nat) : Int) = 0 := fun i => by
      rcases (by omega : l = 0 ∨ l = 1) with rfl | rfl
      · have hb : m39 b % (512 * 2097152) = 0 := hb
        show (m39 b + i * 2097152) % 2097152 = 0; omega
      · have hb : m39 b % (512 * 1073741824) = 0 := hb
        show (m39 b + i * 1073741824) % 1073741824 = 0; omega
    have hpg : ∀ (i : Int) (p : Pte), (0 ≤ i ∧ i < 512) → m39 (pgOf p (adr b i ((l + 1 : Nat) : Int)) ((l + 1 : Nat) : Int)).va = m39 b + i * VaSpec.sz ((l + 1 : Nat) : Int) := fun i p hi => by
      obtain ⟨e1, e2⟩ := m39_adr (b := b) (i := i) (l := ((l + 1 : Nat) : Int)) (by omega) hi hb
      exact (m39_of (a := adr b i ((l + 1 : Nat) : Int)) (by rw [e1]; exact sz_dvd (by omega) (hmod i))).trans e1
    have hsub : ∀ (i : Nat) (y : Pg) (t' : Int), i < 512 → y ∈ pagesN sz xs l t' (adr b i ((l + 1 : Nat) : Int)) → m39 b + (i : Int) * VaSpec.sz ((l + 1 : Nat) : Int) ≤ m39 y.va ∧ m39 y.va + VaSpec.sz y.lev ≤ m39 b + (i : Int) * VaSpec.sz ((l + 1 : Nat) : Int) + VaSpec.sz ((l + 1 : Nat) : Int) := fun i y t' hi hy => by
      obtain ⟨e1, e2⟩ := m39_adr (b := b) (i := (i : Int)) (l := ((l + 1 : Nat) : Int)) (by omega) (by omega) hb
      obtain ⟨_, r2, r3, _⟩ := pages_in sz xs l t' _ y (by omega) (by rw [e1, ← hs]; exact hmod i) hy
      rw [e1] at r2 r3
      rw [← hs] at r3
      exact ⟨r2, r3⟩
    have hme_i : ∀ (i : Nat) (y : Pg), i < 512 → m39 b + (i : Int) * VaSpec.sz ((l + 1 : Nat) : Int) ≤ m39 y.va → m39 y.va + VaSpec.sz y.lev ≤ m39 b + (i : Int) * VaSpec.sz ((l + 1 : Nat) : Int) + VaSpec.sz ((l + 1 : Nat) : Int) → meet39 (m39 y.va) (VaSpec.sz y.lev) (m39 a) (VaSpec.sz want) → (i : Int) = idx a ((l + 1 : Nat) : Int) := fun i y hi q1 q2 q3 =>
      ent_eq (l := ((l + 1 : Nat) : Int)) (by omega) q1 q2 k1 k3 q3
    rcases h.e.k t _ hi with e | ⟨_, _, ⟨q1, q2⟩ | ⟨q1, q2, q3, q4⟩⟩
    · -- nothing is there
      have hst : reachN sz xs a want (l + 1) t = (t, ((l + 1 : Nat) : Int)) := reachN_no (fun _ => by rw [e]; rfl) hw
      rw [hst]
      show _ ↔ (atM sz xs t (idx a ((l + 1 : Nat) : Int))).v = true
      rw [e]
      constructor
      · rintro ⟨y, hy, hme⟩
        obtain ⟨i, hi2, hbad, ⟨hlf, rfl⟩ | ⟨hlf, m, em, hy⟩⟩ := (mem_pages _ _ _ _ _ _).1 hy
        · have e3 := hpg (i : Int) (atM sz xs t i) (by omega)
          have e4 := hme_i i _ hi2 (by rw [e3]; omega) (by rw [e3]; show _ + VaSpec.sz ((l + 1 : Nat) : Int) ≤ _; omega) hme
          rw [e4, e] at hlf; cases hlf
        · obtain rfl : m = l := by omega
          obtain ⟨s1, s2⟩ := hsub i y _ hi2 hy
          have e4 := hme_i i y hi2 s1 s2 hme
          rw [e4, e] at hbad; cases hbad
      · intro hv; cases hv
    · -- a leaf
      have hst : reachN sz xs a want (l + 1) t = (t, ((l + 1 : Nat) : Int)) := reachN_no (fun _ => links_no (leaf_link q1).1) hw
      rw [hst]
      show _ ↔ (atM sz xs t (idx a ((l + 1 : Nat) : Int))).v = true
      rw [(leaf_link q1).2]
      refine ⟨fun _ => rfl, fun _ => ⟨pgOf (atM sz xs t (idx a ((l + 1 : Nat) : Int))) (adr b (idx a ((l + 1 : Nat) : Int)) ((l + 1 : Nat) : Int)) ((l + 1 : Nat) : Int), ?_, ?_⟩⟩
      · rw [hl] at q2
        rw [show idx a ((l + 1 : Nat) : Int) = (((idx a ((l + 1 : Nat) : Int)).toNat : Nat) : Int) by omega] at q1 q2 ⊢
        exact (mem_pages _ _ _ _ _ _).2 ⟨_, by omega, q2, .inl ⟨q1, rfl⟩⟩
      · show meet39 _ (VaSpec.sz ((l + 1 : Nat) : Int)) _ _
        rw [hpg _ _ hi]
        exact ⟨by omega, by omega⟩
    · -- a link
      have hlk := lk_links q1 (l := ((l + 1 : Nat) : Int)) (by omega)
      have hlf := (lk_link q1).2.2
      have hbad : badP (atM sz xs t (idx a ((l + 1 : Nat) : Int))) ((l + 1 : Nat) : Int) = false := by
        unfold linksP at hlk
        simp only [Bool.and_eq_true, Bool.not_eq_true'] at hlk
        exact hlk.2
      have hnsh : (atM sz xs t (idx a ((l + 1 : Nat) : Int))).ppn ≠ sh := by
        by_cases c : l + 1 = 2
        · exact hns c _ hi q1
        · exact fun e => by have := (h.e.s t _ hi q1 e).2; omega
      obtain ⟨e1, e2⟩ := m39_adr (b := b) (i := idx a ((l + 1 : Nat) : Int)) (l := ((l + 1 : Nat) : Int)) (by omega) hi hb
      have hmem : ∀ y, y ∈ pagesN sz xs l (atM sz xs t (idx a ((l + 1 : Nat) : Int))).ppn (adr b (idx a ((l + 1 : Nat) : Int)) ((l + 1 : Nat) : Int)) → y ∈ pagesN sz xs (l + 1) t b := fun y hy => by
        have hbad := hbad
        have hlf := hlf
        rw [show idx a ((l + 1 : Nat) : Int) = (((idx a ((l + 1 : Nat) : Int)).toNat : Nat) : Int) by omega] at hbad hlf hy
        exact (mem_pages _ _ _ _ _ _).2 ⟨_, by omega, hbad, .inr ⟨hlf, l, rfl, hy⟩⟩
      by_cases c : want < ((l + 1 : Nat) : Int)
      · rw [reachN_go c hlk]
        have I := IH (atM sz xs t (idx a ((l + 1 : Nat) : Int))).ppn (adr b (idx a ((l + 1 : Nat) : Int)) ((l + 1 : Nat) : Int)) (by omega) q4 (by rw [q3, hl]; omega) (by omega) (by rw [e1, ← hs]; exact hmod _) (by rw [e1]; exact k1) (by rw [e1, ← hs]; exact k2) (fun hh => by omega)
        rw [← I]
        constructor
        · rintro ⟨y, hy, hme⟩
          obtain ⟨i, hi2, hbad2, ⟨hlf2, rfl⟩ | ⟨hlf2, m, em, hy⟩⟩ := (mem_pages _ _ _ _ _ _).1 hy
          · have e3 := hpg (i : Int) (atM sz xs t i) (by omega)
            have e4 := hme_i i _ hi2 (by rw [e3]; omega) (by rw [e3]; show _ + VaSpec.sz ((l + 1 : Nat) : Int) ≤ _; omega) hme
            rw [e4, hlf] at hlf2; cases hlf2
          · obtain rfl : m = l := by omega
            obtain ⟨s1, s2⟩ := hsub i y _ hi2 hy
            have e4 := hme_i i y hi2 s1 s2 hme
            rw [e4] at hy
            exact ⟨y, hy, hme⟩
        · rintro ⟨y, hy, hme⟩
          exact ⟨y, hmem y hy, hme⟩
      · have hwe : want = ((l + 1 : Nat) : Int) := by omega
        have hst : reachN sz xs a want (l + 1) t = (t, ((l + 1 : Nat) : Int)) := reachN_no (fun hh => absurd hh c) hw
        rw [hst]
        show _ ↔ (atM sz xs t (idx a ((l + 1 : Nat) : Int))).v = true
        rw [(lk_link q1).2.1]
        refine ⟨fun _ => rfl, fun _ => ?_⟩
        obtain ⟨y, hy⟩ := sub_ne h hn l (atM sz xs t (idx a ((l + 1 : Nat) : Int))).ppn (adr b (idx a ((l + 1 : Nat) : Int)) ((l + 1 : Nat) : Int)) (by omega) (by rw [q3, hl]; omega) (hn t _ hi q1 hnsh)
        refine ⟨y, hmem y hy, ?_⟩
        have hy2 := hy
        rw [show adr b (idx a ((l + 1 : Nat) : Int)) ((l + 1 : Nat) : Int) = adr b (((idx a ((l + 1 : Nat) : Int)).toNat : Nat) : Int) ((l + 1 : Nat) : Int) by rw [show (((idx a ((l + 1 : Nat) : Int)).toNat : Nat) : Int) = idx a ((l + 1 : Nat) : Int) by omega]] at hy2
        obtain ⟨s1, s2⟩ := hsub _ y _ (by omega) hy2
        rw [show (((idx a ((l + 1 : Nat) : Int)).toNat : Nat) : Int) = idx a ((l + 1 : Nat) : Int) by omega] at s1 s2
        have ha : m39 a = m39 b + idx a ((l + 1 : Nat) : Int) * VaSpec.sz ((l + 1 : Nat) : Int) := by
          rw [hwe] at k3; omega
        obtain ⟨⟨y0, y1⟩, _⟩ := pages_in sz xs l _ _ y (by omega) (by rw [e1, ← hs]; exact hmod _) hy
        have := sz_pos (l := y.lev) (by omega)
        rw [hwe]
        exact ⟨by omega, by omega⟩
/-- a way is the same where the entries are that it meets -/
theorem reach_same (h : TI cd cp sz xs f sh lv) (a want : Int) (hw : 0 ≤ want) {xs' : List (Int × Int)} (hx : ∀ s, Al cd cp f s → (0 ≤ lv s ∧ lv s ≤ 2) → atM sz xs' s (idx a (lv s)) = atM sz xs s (idx a (lv s))) : ∀ (l : Nat) (t : Int), l ≤ 2 → Al cd cp f t → lv t = l →
    reachN sz xs' a want l t = reachN sz xs a want l t
  | 0, t, _, _, _ => rfl
  | l + 1, t, h2, ht, hl => by
    have hi := idx_bd a ((l + 1 : Nat) : Int)
    have e := hx t ht (by omega)
    rw [hl] at e
    by_cases c1 : want < ((l + 1 : Nat) : Int)
    · cases c : linksP (atM sz xs t (idx a ((l + 1 : Nat) : Int))) ((l + 1 : Nat) : Int) with
      | true =>
        obtain ⟨_, _, _, k4, k5⟩ := ti_kd h hi c
        rw [reachN_go c1 (by rw [e]; exact c), reachN_go c1 c, e]
        exact reach_same h a want hw hx l _ (by omega) k5 (by rw [k4, hl]; omega)
      | false =>
        rw [reachN_no (fun _ => by rw [e]; exact c) (by omega), reachN_no (fun _ => c) (by omega)]
    · rw [reachN_no (fun hh => absurd hh c1) (by omega), reachN_no (fun hh => absurd hh c1) (by omega)]
end
theorem base_mod {a l : Int} (h : 0 ≤ l ∧ l ≤ 2) (hf : fits a l = true) : m39 a % VaSpec.sz l = 0 := by
  unfold fits off at hf
  simp only [Bool.and_eq_true, beq_iff_eq] at hf
  obtain ⟨_, hf⟩ := hf
  unfold m39
  rcases (by omega : l = 0 ∨ l = 1 ∨ l = 2) with rfl | rfl | rfl
  · simp only [show VaSpec.sz 0 = 4096 from rfl] at *; omega
  · simp only [show VaSpec.sz 1 = 2097152 from rfl] at *; omega
  · simp only [show VaSpec.sz 2 = 1073741824 from rfl] at *; omega
theorem kA_m39 : m39 kA = 548682072064 := by rw [kA_eq]; decide
theorem where_idx {k : Kr} {id a l : Int} (he : (whereR k id a l).2.2 = 0) (h : id = -1) : idx a 2 = 511 := by
  unfold whereR at he
  by_cases c1 : 0 ≤ l ∧ l ≤ 2
  rotate_left
  · rw [if_pos c1] at he; cases he
  rw [if_neg (by simpa using c1)] at he
  by_cases c2 : id ≠ -1 ∧ livesB k id = false
  · rw [if_pos c2] at he; cases he
  rw [if_neg c2] at he
  by_cases c3 : fits a l = false
  · rw [if_pos c3] at he; cases he
  rw [if_neg c3, if_pos h] at he
  by_cases c5 : idx a 2 = 511 ∧ l ≠ 2
  · exact c5.1
  · rw [if_neg c5] at he; cases he
/-- a page is refused as over just if one of the list meets it -/
theorem refuse_iff {n : Nat} {k : Kr} {id a l : Int} (h : InvT n k) (g : InvN k) (he : (whereR k id a l).2.2 = 0) :
    lk3 k (whereR k id a l).1 (whereR k id a l).2.1 a l ≠ 0 ↔ ∃ y ∈ listR k id, meet39 (m39 y.va) (VaSpec.sz y.lev) (m39 a) (VaSpec.sz l) := by
  obtain ⟨lv, hT, hs, hr⟩ := h.t
  obtain ⟨w1, w2, w3, w4⟩ := where_good (id := id) (a := a) (l := l) h.l he
  have hft := where_fits he
  have hm := base_mod w1 hft
  have h3 : ∀ top at', lk3 k top at' a l ≠ 0 ↔ (atM k.sz k.m (reachI k.sz k.m a l at' top).1 (idx a (reachI k.sz k.m a l at' top).2)).v = true := fun top at' => by
    unfold lk3
    cases (atM k.sz k.m (reachI k.sz k.m a l at' top).1 (idx a (reachI k.sz k.m a l at' top).2)).v <;> simp
  rw [h3]
  rcases where_top h.l he with ⟨e1, e2, e3⟩ | ⟨e1, e2, e3, e4, e5⟩
  · have hid := where_idx he e3
    rw [e1, e2]
    have hl : listR k id = pagesN k.sz k.m 1 k.sh kA := by unfold listR; rw [if_pos e3]
    rw [hl]
    have hz : (512 : Int) * VaSpec.sz ((1 : Nat) : Int) = 1073741824 := rfl
    rw [e2] at w3
    have hr39 : 548682072064 ≤ m39 a ∧ m39 a < 548682072064 + 1073741824 := by
      unfold idx at hid
      simp only [show VaSpec.sz 2 = 1073741824 from rfl] at hid
      unfold m39; omega
    exact (meets_iff hT g.ne a l w1.1 hm 1 k.sh kA (by omega) h.l.sh hs (by omega) (by rw [hz, kA_m39]; decide) (by rw [kA_m39]; exact hr39.1) (by rw [hz, kA_m39]; exact hr39.2) (fun hh => by omega)).symm
  · rw [e3, e4]
    have hl : listR k id = pagesN k.sz (ownM k id) 2 (spAt k id).root 0 := by
      unfold listR
      rw [if_neg e2, if_neg (by rw [e1]; simp)]
    rw [hl]
    obtain ⟨h0, h1, h2, hv⟩ := lives_at e1
    have hrl := hr _ (List.mem_of_getElem? h2) hv
    have har := h.l.root e1
    have hown : ownM k id = putM k.m ((spAt k id).root * 512 + 511) 0 := rfl
    generalize (spAt k id).root = rt at *
    have b1 := hT.bd
    have bt := har.1
    have hat : ∀ s j, (0 ≤ j ∧ j < 512) → atM k.sz (putM k.m (rt * 512 + 511) 0) s j = if s = rt ∧ j = 511 then zP else atM k.sz k.m s j := fun s j hj => at_zero (cd := k.cd) (cp := k.cp) hT.s hT.bz (by omega) (by omega) s j hj
    have hTo : TI k.cd k.cp k.sz (putM k.m (rt * 512 + 511) 0) k.pf k.sh lv := hT.put bt (by omega) ⟨by omega, by omega⟩ hT.bf fun E' hE => hT.e.sub fun s j hj => by
      rw [hE s j hj, pte0]
      split
      · exact .inl rfl
      · exact .inr rfl
    have hne : NE (atM k.sz (putM k.m (rt * 512 + 511) 0)) k.sh := fun s j hj q1 q2 => by
      rw [hat s j hj] at q1 q2 ⊢
      by_cases c : s = rt ∧ j = 511
      · rw [if_pos c] at q1; cases q1
      · rw [if_neg c] at q1 q2 ⊢
        obtain ⟨j', hj', hn⟩ := g.ne s j hj q1 q2
        obtain ⟨_, r2, r3, _⟩ := lk_kd hT hj q1
        refine ⟨j', hj', ?_⟩
        rw [hat _ _ hj', if_neg]
        · exact hn
        · rintro ⟨e, _⟩
          rw [e, hrl] at r3
          omega
    have hsame := reach_same hT a l w1.1 (xs' := putM k.m (rt * 512 + 511) 0) (fun s hs2 hb => by
      rw [hat s _ (idx_bd a _), if_neg]
      rintro ⟨e, c⟩
      rw [e, hrl] at c
      exact e5 c) 2 rt (by omega) har hrl
    obtain ⟨l', t', i1, i2, i3, i4, i5, _⟩ := reach_lv hT a l w1.1 2 rt har hrl (by omega)
    have hz : (512 : Int) * VaSpec.sz ((2 : Nat) : Int) = 549755813888 := rfl
    have hr39 : 0 ≤ m39 a ∧ m39 a < 549755813888 := by unfold m39; omega
    have M := meets_iff hTo hne a l w1.1 hm 2 rt 0 (by omega) har hrl (by omega) (by rw [hz]; decide) (by rw [show m39 0 = 0 from rfl]; exact hr39.1) (by rw [hz, show m39 0 = 0 from rfl]; omega) (fun _ i hi q1 q2 => by
      rw [hat rt i hi] at q1 q2
      by_cases c : rt = rt ∧ i = 511
      · rw [if_pos c] at q1; cases q1
      · rw [if_neg c] at q1 q2
        exact c ⟨rfl, (hT.e.s rt i hi q1 q2).1⟩)
    rw [hown, M, hsame]
    show (atM k.sz k.m (reachN k.sz k.m a l 2 rt).1 (idx a (reachN k.sz k.m a l 2 rt).2)).v = true ↔ _
    rw [i1]
    show (atM k.sz k.m t' (idx a (l' : Int))).v = true ↔ (atM k.sz (putM k.m (rt * 512 + 511) 0) t' (idx a (l' : Int))).v = true
    rw [hat t' _ (idx_bd a _), if_neg]
    rintro ⟨e, c⟩
    rw [e, hrl] at i5
    rw [← i5] at c
    exact e5 c
end Go.Proofs.YtgkodncknlankaaGreatDoor.LrB
/- Plain: what laying a page answers; blocks of 64-bit addresses; the document's count of free frames. -/
namespace Go.Proofs.YtgkodncknlankaaGreatDoor.LrC
open Go.RowKit Go.Proofs.YtgkodncknlankaaGreatDoor.Bv Go.Proofs.YtgkodncknlankaaGreatDoor.VaSpec Go.Proofs.YtgkodncknlankaaGreatDoor.Base Go.Proofs.YtgkodncknlankaaGreatDoor.MemL Go.Proofs.YtgkodncknlankaaGreatDoor.RegR Go.Proofs.YtgkodncknlankaaGreatDoor.Ax Go.Proofs.YtgkodncknlankaaGreatDoor.MemC Go.Proofs.YtgkodncknlankaaGreatDoor.PutC Go.Proofs.YtgkodncknlankaaGreatDoor.MemC3 Go.Proofs.YtgkodncknlankaaGreatDoor.TzC Go.Proofs.YtgkodncknlankaaGreatDoor.OkS Go.Proofs.YtgkodncknlankaaGreatDoor.SpA Go.Proofs.YtgkodncknlankaaGreatDoor.SpB Go.Proofs.YtgkodncknlankaaGreatDoor.SpC Go.Proofs.YtgkodncknlankaaGreatDoor.SpD Go.Proofs.YtgkodncknlankaaGreatDoor.SpE Go.Proofs.YtgkodncknlankaaGreatDoor.SpF Go.Proofs.YtgkodncknlankaaGreatDoor.SpG Go.Proofs.YtgkodncknlankaaGreatDoor.SpH Go.Proofs.YtgkodncknlankaaGreatDoor.SpI Go.Proofs.YtgkodncknlankaaGreatDoor.SpJ Go.Proofs.YtgkodncknlankaaGreatDoor.SpN Go.Proofs.YtgkodncknlankaaGreatDoor.SpO Go.Proofs.YtgkodncknlankaaGreatDoor.RfP Go.Proofs.YtgkodncknlankaaGreatDoor.RfQ Go.Proofs.YtgkodncknlankaaGreatDoor.RfA Go.Proofs.YtgkodncknlankaaGreatDoor.RfE Go.Proofs.YtgkodncknlankaaGreatDoor.RfG Go.Proofs.YtgkodncknlankaaGreatDoor.RfJ Go.Proofs.YtgkodncknlankaaGreatDoor.RfK Go.Proofs.YtgkodncknlankaaGreatDoor.LaA Go.Proofs.YtgkodncknlankaaGreatDoor.LaB Go.Proofs.YtgkodncknlankaaGreatDoor.LaC Go.Proofs.YtgkodncknlankaaGreatDoor.LaD Go.Proofs.YtgkodncknlankaaGreatDoor.LaE Go.Proofs.YtgkodncknlankaaGreatDoor.LaF Go.Proofs.YtgkodncknlankaaGreatDoor.LaG Go.Proofs.YtgkodncknlankaaGreatDoor.LaH Go.Proofs.YtgkodncknlankaaGreatDoor.LiA Go.Proofs.YtgkodncknlankaaGreatDoor.LiB Go.Proofs.YtgkodncknlankaaGreatDoor.LiC Go.Proofs.YtgkodncknlankaaGreatDoor.LiD Go.Proofs.YtgkodncknlankaaGreatDoor.LiE Go.Proofs.YtgkodncknlankaaGreatDoor.LiF Go.Proofs.YtgkodncknlankaaGreatDoor.LrA Go.Proofs.YtgkodncknlankaaGreatDoor.LrB
open Go.Proofs.YtgkodncknlankaaGreatDoor.BitsC Go.Proofs.YtgkodncknlankaaGreatDoor.PteSpec
set_option linter.unusedVariables false
set_option linter.unusedSimpArgs false
set_option maxRecDepth 10000
set_option maxHeartbeats 1000000
theorem where_errs (k : Kr) (id a l : Int) : 0 ≤ (whereR k id a l).2.2 ∧ (whereR k id a l).2.2 ≤ 4 := by
  unfold whereR
  (repeat' split) <;> (constructor <;> simp)
section
variable {cd cp sz sh : Int}
/-- where nothing is, nothing is over -/
theorem dn_new (addr want : Int) (hw : 0 ≤ want) : ∀ (l : Nat) (xs : List (Int × Int)) (f t : Int) (lv : Int → Int), TI cd cp sz xs f sh lv → Al cd cp f t → Al cd cp f sh → lv t = l → l ≤ 2 → (atM sz xs t (idx addr (l : Int))).v = false →
    (dnN sz cd addr want l xs f t).2.2.2 = 0 ∨ (dnN sz cd addr want l xs f t).2.2.2 = 8
  | 0, xs, f, t, lv, h, ht, _, hl, _, hv => .inl rfl
  | l + 1, xs, f, t, lv, h, ht, hsh, hl, h2, hv => by
    have hi := idx_bd addr ((l + 1 : Nat) : Int)
    have hlf : leafP (atM sz xs t (idx addr ((l + 1 : Nat) : Int))) = false := by unfold leafP; rw [hv]; rfl
    have hn : linkP (atM sz xs t (idx addr ((l + 1 : Nat) : Int))) = false := by unfold linkP; rw [hv]; rfl
    unfold dnN
    split
    · exact .inl rfl
    · rw [if_neg (by rw [hlf]; simp), if_neg (by rw [hv]; simp)]
      split
      · exact .inr rfl
      · rename_i c4
        obtain ⟨a0, a1, a2, a3⟩ := al_take h c4
        have b1 := h.bd
        have b2 := h.bp
        have hbt := ht.1
        have hnn : 0 ≤ cd + tzI f ∧ cd + tzI f < 17592186044416 := by omega
        have hT := hang_ti h c4 ht hsh (by rw [hl]; omega) hi hn
        refine dn_new addr want hw l _ _ _ _ hT a1 (a0 _ hsh).1 (by rw [hl]; show upL lv (cd + tzI f) _ (cd + tzI f) = _; unfold upL; rw [if_pos rfl]; omega) (by omega) ?_
        have hj := idx_bd addr (l : Int)
        have hz : atM sz xs (cd + tzI f) (idx addr (l : Int)) = zP := by
          rcases h.e.k (cd + tzI f) _ hj with e | ⟨e, _⟩
          · exact e
          · exact absurd rfl (a0 _ e).2
        rw [h.gm.with ht hi (lnk_U hnn)]
        have bz := h.bz
        rw [at_put h.s hi hj (by omega), if_neg (by rintro ⟨e, _⟩; exact (a0 _ ht).2 e.symm), hz]
        rfl
end
theorem lk3_is (k : Kr) (top at' a l : Int) : (lk3 k top at' a l = 0 ∧ (atM k.sz k.m (reachI k.sz k.m a l at' top).1 (idx a (reachI k.sz k.m a l at' top).2)).v = false) ∨ lk3 k top at' a l = 6 := by
  unfold lk3
  cases (atM k.sz k.m (reachI k.sz k.m a l at' top).1 (idx a (reachI k.sz k.m a l at' top).2)).v <;> simp
theorem lk0_is (pa l : Int) : lk0 pa l = 0 ∨ lk0 pa l = 2 := by unfold lk0; split <;> simp
theorem lk1_is (k : Kr) (pa l : Int) : lk1 k pa l = 0 ∨ lk1 k pa l = 3 := by unfold lk1; split <;> simp
theorem lk2_is (p : Pm) : lk2 p = 0 ∨ lk2 p = 5 := by unfold lk2; split <;> simp
/-- what the answers say -/
theorem map_says {n : Nat} {k : Kr} {id a pa l : Int} {p : Pm} (h : InvT n k) (g : InvN k) (he : (mapR k id a pa l p).2 = 0 ∨ (mapR k id a pa l p).2 = 6 ∨ (mapR k id a pa l p).2 = 8) :
    (whereR k id a l).2.2 = 0 ∧ ((mapR k id a pa l p).2 = 6 ↔ ∃ y ∈ listR k id, meet39 (m39 y.va) (VaSpec.sz y.lev) (m39 a) (VaSpec.sz l)) ∧ ((mapR k id a pa l p).2 = 8 → cnt k.pf < 2) := by
  have hwe := where_errs k id a l
  have q0 := lk0_is pa l
  have q1 := lk1_is k pa l
  have q2 := lk2_is p
  have q3 := lk3_is k (whereR k id a l).1 (whereR k id a l).2.1 a l
  obtain ⟨lv, hT, hs, hr⟩ := h.t
  by_cases c0 : (whereR k id a l).2.2 = 0
  rotate_left
  · unfold mapR at he
    rw [if_pos c0] at he
    have he : (whereR k id a l).2.2 = 0 ∨ (whereR k id a l).2.2 = 6 ∨ (whereR k id a l).2.2 = 8 := he
    omega
  have hR := refuse_iff h g c0
  obtain ⟨w1, w2, w3, w4⟩ := where_good (id := id) (a := a) (l := l) h.l c0
  obtain ⟨z1, z2⟩ := h.top (id := id) (a := a) (l := l) c0 hs hr
  refine ⟨c0, ?_⟩
  rw [← hR]
  unfold mapR at he ⊢
  rw [if_neg (by omega)] at he ⊢
  generalize whereR k id a l = w at *
  by_cases c1 : lk0 pa l = 0
  rotate_left
  · rw [if_pos c1] at he
    have he : lk0 pa l = 0 ∨ lk0 pa l = 6 ∨ lk0 pa l = 8 := he
    omega
  rw [if_neg (by omega)] at he ⊢
  by_cases c2 : lk1 k pa l = 0
  rotate_left
  · rw [if_pos c2] at he
    have he : lk1 k pa l = 0 ∨ lk1 k pa l = 6 ∨ lk1 k pa l = 8 := he
    omega
  rw [if_neg (by omega)] at he ⊢
  by_cases c3 : lk2 p = 0
  rotate_left
  · rw [if_pos c3] at he
    have he : lk2 p = 0 ∨ lk2 p = 6 ∨ lk2 p = 8 := he
    omega
  rw [if_neg (by omega)] at he ⊢
  rcases q3 with ⟨e3, hv⟩ | e3
  · rw [if_neg (by omega)] at he ⊢
    -- nothing is in the way
    obtain ⟨lw, hlw⟩ := Int.eq_ofNat_of_zero_le (show 0 ≤ w.2.1 by omega)
    have hD : mapD k w.1 w.2.1 a l = dnN k.sz k.cd a l lw k.m k.pf w.1 := by unfold mapD; rw [hlw, Int.toNat_natCast]
    have hv2 : (atM k.sz k.m (reachN k.sz k.m a l lw w.1).1 (idx a (reachN k.sz k.m a l lw w.1).2)).v = false := by
      have e : reachI k.sz k.m a l w.2.1 w.1 = reachN k.sz k.m a l lw w.1 := by unfold reachI; rw [hlw, Int.toNat_natCast]
      rw [← e]; exact hv
    obtain ⟨l', t', i1, i2, i3, i4, i5, i6, i7⟩ := reach_spec k.cd k.cp k.sz a l w1.1 hT.gm lw w.1 w2 (by omega)
    obtain ⟨l'', t'', j1, j2, j3, j4, j5, j6, _⟩ := reach_lv hT a l w1.1 lw w.1 w2 (by omega) (by omega)
    have ee := i1.symm.trans j1
    simp only [Prod.mk.injEq] at ee
    have ht : t' = t'' := ee.1
    have hl' : l' = l'' := by omega
    subst ht hl'
    rw [i1] at hv2
    have hor := dn_new a l w1.1 l' k.m k.pf t' lv hT i4 h.l.sh j5 (by omega) hv2
    rw [← i6, ← hD] at hor
    have h68 : (mapD k w.1 w.2.1 a l).2.2.2 ≠ 6 := by omega
    constructor
    · constructor
      · intro e
        split at e
        · exact absurd e h68
        · cases e
      · intro e; omega
    · intro e
      split at e
      · rename_i c5
        have e : (mapD k w.1 w.2.1 a l).2.2.2 = 8 := e
        rw [hD] at e
        have := dn_cnt (cp := k.cp) a l w1.1 lw k.m k.pf w.1 hT.bf hT.bp.2 e
        omega
      · cases e
  · rw [if_pos (by omega)]
    refine ⟨⟨fun _ => by omega, fun _ => e3⟩, fun e => ?_⟩
    have e : lk3 k w.1 w.2.1 a l = 8 := e
    omega
/-! ### blocks of 64-bit addresses -/
def ends (a s : Int) : Int := IntKind.u64.wrap (IntKind.u64.wrap (a + s) - 1)
theorem ends_is {a s : Int} (h0 : 0 ≤ a) (h1 : 1 ≤ s) (h2 : a + s ≤ 18446744073709551616) : ends a s = a + s - 1 := by
  unfold ends
  rw [IntKind.wrap_u64, IntKind.wrap_u64]
  omega
theorem can_is {a l : Int} (hU : U a) (h : 0 ≤ l ∧ l ≤ 2) (hf : fits a l = true) : a = ofv (num a) := by
  have hm := base_mod h hf
  have hm2 := sz_dvd h hm
  unfold fits at hf
  simp only [Bool.and_eq_true] at hf
  have hv := hf.1
  obtain ⟨u0, u1⟩ := hU
  rw [← isv_ext a u0 u1] at hv
  rw [beq_iff_eq] at hv
  unfold m39 at hm2
  rw [← hv]
  unfold ofv num
  have : ext39 (a % 549755813888) / 4096 % 134217728 % 134217728 * 4096 = a % 549755813888 := by
    unfold ext39
    split <;> omega
  rw [this]
theorem meet_64 {u v su sv : Int} {lu lw : Int} (hu : u = ofv (num u)) (hv : v = ofv (num v)) (h1 : 0 ≤ lu ∧ lu ≤ 2) (h2 : 0 ≤ lw ∧ lw ≤ 2) (e1 : su = VaSpec.sz lu) (e2 : sv = VaSpec.sz lw) (m1 : m39 u % su = 0) (m2 : m39 v % sv = 0) :
    (u ≤ ends v sv ∧ v ≤ ends u su) ↔ meet39 (m39 u) su (m39 v) sv := by
  have key : ∀ (x l : Int), x = ofv (num x) → (0 ≤ l ∧ l ≤ 2) → m39 x % VaSpec.sz l = 0 → (0 ≤ x ∧ 1 ≤ VaSpec.sz l ∧ x + VaSpec.sz l ≤ 18446744073709551616) ∧ ((m39 x < 274877906944 ∧ x = m39 x ∧ m39 x + VaSpec.sz l ≤ 274877906944) ∨ (274877906944 ≤ m39 x ∧ x = m39 x + 18446743523953737728 ∧ m39 x + VaSpec.sz l ≤ 549755813888)) := fun x l hx hl hm => by
    have hb := VaC.ofv_bd (num x)
    have hz := sz_pos hl
    have e : m39 x = num x % 134217728 * 4096 := by
      unfold m39
      conv => lhs; rw [hx]
      unfold ofv ext39; split <;> omega
    have hxx : x = ext39 (m39 x) := by
      rw [e]; exact hx
    unfold ext39 at hxx
    have hr : 0 ≤ m39 x ∧ m39 x < 549755813888 := by unfold m39; omega
    split at hxx
    · rename_i c
      refine ⟨?_, .inl ⟨c, hxx, ?_⟩⟩
      all_goals
        rcases (by omega : l = 0 ∨ l = 1 ∨ l = 2) with rfl | rfl | rfl
        all_goals
          simp only [show VaSpec.sz 0 = 4096 from rfl, show VaSpec.sz 1 = 2097152 from rfl, show VaSpec.sz 2 = 1073741824 from rfl] at *
          omega
    · rename_i c
      refine ⟨?_, .inr ⟨by omega, hxx, ?_⟩⟩
      all_goals
        rcases (by omega : l = 0 ∨ l = 1 ∨ l = 2) with rfl | rfl | rfl
        all_goals
          simp only [show VaSpec.sz 0 = 4096 from rfl, show VaSpec.sz 1 = 2097152 from rfl, show VaSpec.sz 2 = 1073741824 from rfl] at *
          omega
  obtain ⟨⟨u0, u1, u2⟩, hu3⟩ := key u lu hu h1 (by rw [← e1]; exact m1)
  obtain ⟨⟨v0, v1, v2⟩, hv3⟩ := key v lw hv h2 (by rw [← e2]; exact m2)
  rw [← e1] at u1 u2 hu3
  rw [← e2] at v1 v2 hv3
  rw [ends_is v0 v1 v2, ends_is u0 u1 u2]
  unfold meet39
  omega
theorem list_in {n : Nat} {k : Kr} (h : InvT n k) (id : Int) : ∀ y ∈ listR k id, (0 ≤ y.lev ∧ y.lev ≤ 2) ∧ m39 y.va % VaSpec.sz y.lev = 0 ∧ y.va = ofv (num y.va) := fun y hy => by
  unfold listR at hy
  split at hy
  · obtain ⟨a, _, _, b, c⟩ := pages_in _ _ 1 _ _ y (by omega) (by rw [kA_m39]; decide) hy
    exact ⟨⟨a.1, by have := a.2; omega⟩, b, c⟩
  · split at hy
    · cases hy
    · obtain ⟨a, _, _, b, c⟩ := pages_in _ _ 2 _ _ y (by omega) (by decide) hy
      exact ⟨⟨a.1, by have := a.2; omega⟩, b, c⟩
def meetB (a l : Int) (y : Pg) : Bool := decide (y.va ≤ ends a (VaSpec.sz l)) && decide (a ≤ ends y.va (VaSpec.sz y.lev))
theorem meet_any {n : Nat} {k : Kr} {id a l : Int} (h : InvT n k) (hU : U a) (he : (whereR k id a l).2.2 = 0) : (∃ y ∈ listR k id, meet39 (m39 y.va) (VaSpec.sz y.lev) (m39 a) (VaSpec.sz l)) ↔ (listR k id).any (meetB a l) = true := by
  obtain ⟨w1, _⟩ := where_good (id := id) (a := a) (l := l) h.l he
  have hf := where_fits he
  have key : ∀ y ∈ listR k id, (meet39 (m39 y.va) (VaSpec.sz y.lev) (m39 a) (VaSpec.sz l) ↔ meetB a l y = true) := fun y hy => by
    obtain ⟨q1, q2, q3⟩ := list_in h id y hy
    rw [← meet_64 (u := y.va) (v := a) q3 (can_is hU w1 hf) q1 w1 rfl rfl q2 (base_mod w1 hf)]
    unfold meetB
    rw [Bool.and_eq_true, decide_eq_true_eq, decide_eq_true_eq]
  rw [List.any_eq_true]
  constructor
  · rintro ⟨y, hy, hm⟩; exact ⟨y, hy, (key y hy).1 hm⟩
  · rintro ⟨y, hy, hm⟩; exact ⟨y, hy, (key y hy).2 hm⟩
/-! ### the count of free frames -/
end Go.Proofs.YtgkodncknlankaaGreatDoor.LrC
/- The abstract walk: the law LayRefuses. -/
namespace Go.Proofs.YtgkodncknlankaaGreatDoor.LrD
open Go.RowKit Go.Proofs.YtgkodncknlankaaGreatDoor.Bv Go.Proofs.YtgkodncknlankaaGreatDoor.VaSpec Go.Proofs.YtgkodncknlankaaGreatDoor.Base Go.Proofs.YtgkodncknlankaaGreatDoor.MemL Go.Proofs.YtgkodncknlankaaGreatDoor.RegR Go.Proofs.YtgkodncknlankaaGreatDoor.Ax Go.Proofs.YtgkodncknlankaaGreatDoor.MemC Go.Proofs.YtgkodncknlankaaGreatDoor.PutC Go.Proofs.YtgkodncknlankaaGreatDoor.MemC3 Go.Proofs.YtgkodncknlankaaGreatDoor.TzC Go.Proofs.YtgkodncknlankaaGreatDoor.OkS Go.Proofs.YtgkodncknlankaaGreatDoor.SpA Go.Proofs.YtgkodncknlankaaGreatDoor.SpB Go.Proofs.YtgkodncknlankaaGreatDoor.SpC Go.Proofs.YtgkodncknlankaaGreatDoor.SpD Go.Proofs.YtgkodncknlankaaGreatDoor.SpE Go.Proofs.YtgkodncknlankaaGreatDoor.SpF Go.Proofs.YtgkodncknlankaaGreatDoor.SpG Go.Proofs.YtgkodncknlankaaGreatDoor.SpH Go.Proofs.YtgkodncknlankaaGreatDoor.SpI Go.Proofs.YtgkodncknlankaaGreatDoor.SpJ Go.Proofs.YtgkodncknlankaaGreatDoor.SpK Go.Proofs.YtgkodncknlankaaGreatDoor.SpN Go.Proofs.YtgkodncknlankaaGreatDoor.RfA Go.Proofs.YtgkodncknlankaaGreatDoor.RfD Go.Proofs.YtgkodncknlankaaGreatDoor.RfE Go.Proofs.YtgkodncknlankaaGreatDoor.RfG Go.Proofs.YtgkodncknlankaaGreatDoor.RfJ Go.Proofs.YtgkodncknlankaaGreatDoor.LaA Go.Proofs.YtgkodncknlankaaGreatDoor.LaB Go.Proofs.YtgkodncknlankaaGreatDoor.LaC Go.Proofs.YtgkodncknlankaaGreatDoor.LaD Go.Proofs.YtgkodncknlankaaGreatDoor.LaE Go.Proofs.YtgkodncknlankaaGreatDoor.LaF Go.Proofs.YtgkodncknlankaaGreatDoor.LaG Go.Proofs.YtgkodncknlankaaGreatDoor.LaH Go.Proofs.YtgkodncknlankaaGreatDoor.LaI Go.Proofs.YtgkodncknlankaaGreatDoor.LaJ Go.Proofs.YtgkodncknlankaaGreatDoor.RlA Go.Proofs.YtgkodncknlankaaGreatDoor.RlB Go.Proofs.YtgkodncknlankaaGreatDoor.RlC Go.Proofs.YtgkodncknlankaaGreatDoor.LiE Go.Proofs.YtgkodncknlankaaGreatDoor.LiF Go.Proofs.YtgkodncknlankaaGreatDoor.LrA Go.Proofs.YtgkodncknlankaaGreatDoor.LrB Go.Proofs.YtgkodncknlankaaGreatDoor.LrC
open Go.Proofs.YtgkodncknlankaaGreatDoor.BitsC Go.Proofs.YtgkodncknlankaaGreatDoor.PteSpec
set_option linter.unusedVariables false
set_option linter.unusedSimpArgs false
set_option maxRecDepth 10000
set_option maxHeartbeats 1000000
attribute [local irreducible] Go.Proofs.YtgkodncknlankaaGreatDoor.Ax.CallOk
def frH (b m f : Int) (i n : Nat) : St := St.of [(1, .m (.c (.p 1 0))), (2, .m (ii 0)), (3, .m (ii n)), (4, .m (ii i))] [(1, .live (.box [cu b, ci m, cu f]))]
theorem rfree_ok (b m f : Int) (hf : U f) : Ok 13 [.ag [cu b, ci m, cu f]] (.m (ii (cnt f))) := by
  obtain ⟨R, hR⟩ : ∃ R : Nat, R = cnt f := ⟨_, rfl⟩
  rw [← hR]
  refine callOk_of 16 Tryz.func13 rfl rfl rfl rfl ?_ GG.to
  intro W A hG
  repeat (first
    | (refine go_at rfl ?_; first
        | refine go_do (valid_mv (.inr rfl) rfl) rfl ?_
        | refine go_do (valid_box rfl rfl rfl rfl rfl rfl) rfl ?_)
    | (refine hK _ ?_; clear hK K)
    | refine aw_text rfl ?_
    | refine aw_block ?_
    | refine aw_seq_k (fun K hK => ?_))
  refine aw_loopH (α := Nat × Nat) (fun p => p.1 ≤ 64 ∧ p.2 = cs p.1 (fun j => bitB f (j : Int)) ∧ p.2 ≤ p.1) (fun p => frH b m f p.1 p.2) (fun p => 64 - p.1) (0, 0) ⟨by show 0 ≤ 64; omega, rfl, by show 0 ≤ 0; omega⟩ (sub_of _ _ ⟨by kernel_rfl, by kernel_rfl, by kernel_rfl, by kernel_rfl, trivial⟩ ⟨by kernel_rfl, trivial⟩ (by kernel_rfl)) ?_
  rintro ⟨i, n⟩ ⟨x1, x2, x3⟩
  have g1 : i ≤ 64 := x1
  have g2 : n = cs i (fun j => bitB f (j : Int)) := x2
  have g3 : n ≤ i := x3
  show Aw _ _ _ _ (frH b m f i n)
  unfold frH
  by_cases hlt : i < 64
  · have h1 := rbit_ok f (i : Int) hf (by omega) (by omega)
    cases hb : bitB f (i : Int) with
    | true =>
      rw [hb] at h1
      repeat (first
        | (refine go_at rfl ?_; first
            | refine go_do (valid_mv (.inl rfl) rfl) rfl ?_
            | (refine nxt_s 1 rfl ?_; refine go_do (valid_load_p tb rfl rfl rfl rfl rfl (by first | kernel_rfl | rfl)) (by first | kernel_rfl | rfl) ?_)
            | (refine nxt_s 1 rfl ?_; refine go_do (valid_fld_p tb rfl rfl rfl (by kernel_rfl)) rfl ?_)
            | refine go_do (valid_mv (.inr rfl) rfl) rfl ?_
            | refine go_do (valid_cmp rfl rfl rfl rfl (by first | exact .eql1 (by omega) | exact .eql0 (by omega) | exact .neq1 (by omega) | exact .neq0 (by omega) | exact .lss1 (by omega) | exact .lss0 (by omega) | exact .leq1 (by omega) | exact .leq0 (by omega) | exact .gtr1 (by omega) | exact .gtr0 (by omega) | exact .geq1 (by omega) | exact .geq0 (by omega) | constructor)) rfl ?_
            | refine go_do (valid_ar rfl rfl rfl rfl (by constructor) (by first | exact wr_u64 (by omega) (by omega) | exact wr_i64 (by omega) (by omega) | rfl)) rfl ?_
            | refine go_do (valid_call rfl rfl rfl (h1) (by kernel_rfl)) rfl ?_)
        | (refine hK _ ?_; clear hK K)
        | refine aw_text rfl ?_
        | refine aw_cond1 rfl rfl ?_
        | refine aw_block ?_
        | refine aw_skip ?_
        | refine aw_seq_k (fun K hK => ?_))
      exact ⟨(i + 1, n + 1), ⟨by show i + 1 ≤ 64; omega, by show n + 1 = cs i (fun j => bitB f (j : Int)) + (bitB f (i : Int)).toNat; rw [hb, g2]; rfl, by show n + 1 ≤ i + 1; omega⟩, by show 64 - (i + 1) < 64 - i; omega, sub_of _ _ ⟨by kernel_rfl, by kernel_rfl, by kernel_rfl, by kernel_rfl, trivial⟩ ⟨by kernel_rfl, trivial⟩ (by kernel_rfl)⟩
    | false =>
      rw [hb] at h1
      repeat (first
        | (refine go_at rfl ?_; first
            | refine go_do (valid_mv (.inl rfl) rfl) rfl ?_
            | (refine nxt_s 1 rfl ?_; refine go_do (valid_load_p tb rfl rfl rfl rfl rfl (by first | kernel_rfl | rfl)) (by first | kernel_rfl | rfl) ?_)
            | (refine nxt_s 1 rfl ?_; refine go_do (valid_fld_p tb rfl rfl rfl (by kernel_rfl)) rfl ?_)
            | refine go_do (valid_mv (.inr rfl) rfl) rfl ?_
            | refine go_do (valid_cmp rfl rfl rfl rfl (by first | exact .eql1 (by omega) | exact .eql0 (by omega) | exact .neq1 (by omega) | exact .neq0 (by omega) | exact .lss1 (by omega) | exact .lss0 (by omega) | exact .leq1 (by omega) | exact .leq0 (by omega) | exact .gtr1 (by omega) | exact .gtr0 (by omega) | exact .geq1 (by omega) | exact .geq0 (by omega) | constructor)) rfl ?_
            | refine go_do (valid_ar rfl rfl rfl rfl (by constructor) (by first | exact wr_u64 (by omega) (by omega) | exact wr_i64 (by omega) (by omega) | rfl)) rfl ?_
            | refine go_do (valid_call rfl rfl rfl (h1) (by kernel_rfl)) rfl ?_)
        | (refine hK _ ?_; clear hK K)
        | refine aw_text rfl ?_
        | refine aw_cond1 rfl rfl ?_
        | refine aw_cond0 rfl rfl ?_
        | refine aw_block ?_
        | refine aw_skip ?_
        | refine aw_seq_k (fun K hK => ?_))
      exact ⟨(i + 1, n), ⟨by show i + 1 ≤ 64; omega, by show n = cs i (fun j => bitB f (j : Int)) + (bitB f (i : Int)).toNat; rw [hb, g2]; rfl, by show n ≤ i + 1; omega⟩, by show 64 - (i + 1) < 64 - i; omega, sub_of _ _ ⟨by kernel_rfl, by kernel_rfl, by kernel_rfl, by kernel_rfl, trivial⟩ ⟨by kernel_rfl, trivial⟩ (by kernel_rfl)⟩
  · have e : i = 64 := by omega
    subst e
    have e2 : R = n := by rw [hR, g2]; rfl
    subst e2
    repeat (first
      | (refine go_at rfl ?_; first
          | refine go_do (valid_mv (.inl rfl) rfl) rfl ?_
          | refine go_do (valid_mv (.inr rfl) rfl) rfl ?_
          | refine go_do (valid_cmp rfl rfl rfl rfl (by first | exact .eql1 (by omega) | exact .eql0 (by omega) | exact .neq1 (by omega) | exact .neq0 (by omega) | exact .lss1 (by omega) | exact .lss0 (by omega) | exact .leq1 (by omega) | exact .leq0 (by omega) | exact .gtr1 (by omega) | exact .gtr0 (by omega) | exact .geq1 (by omega) | exact .geq0 (by omega) | constructor)) rfl ?_)
      | (refine hK _ ?_; clear hK K)
      | (rename_i K1 hK1; refine hK1 _ ?_; clear hK hK1; clear K)
      | refine aw_text rfl ?_
      | exact aw_ret (show resA _ _ _ = some _ by kernel_rfl)
      | refine aw_cond0 rfl rfl ?_
      | refine aw_exit ?_
      | refine aw_seq_k (fun K hK => ?_))
theorem take_any {α : Type} (f : α → Bool) (l : List α) (i : Nat) (a : α) (h : l[i]? = some a) : (l.take (i + 1)).any f = ((l.take i).any f || f a) := by
  rw [List.take_add_one, h, List.any_append]; simp
def refH (l : List Rq) (e : Rq) (i : Nat) (k : Kr) : St := St.of [(1, .m (.c (.s l.length 8 (flQ l)))), (5, .m (.c (.p 5 0))), (6, .m (ib false)), (7, .m (.c (.p 7 0))), (9, .m (ii i))] [(5, .live (.box e.ce)), (7, .live (.box k.ce))]
def refJ (e : Rq) (k : Kr) (er : Int) (L : List Pg) (z : Int) (mt : Bool) (j : Nat) : St := St.of [(5, .m (.c (.p 5 0))), (6, .m (ib false)), (7, .m (.c (.p 7 0))), (11, .m (ii er)), (12, .m (.c (.s L.length 8 (flP L)))), (13, .m (iu z)), (14, .m (ib mt)), (15, .m (ii j))] [(5, .live (.box e.ce)), (7, .live (.box k.ce))]
theorem refuses_ok (a b c d : Int) (l : List Rq) (e : Rq) (hl : ∀ x ∈ l, UQ x) (he : UQ e) : Ok 3 [confA a b c d, .c (.s l.length 8 (flQ l)), .ag e.ce] (.m (ib true)) := by
  have hm := rmay_ok a b c d
  cases hc : confB a b c d with
  | false =>
    rw [hc] at hm
    refine callOk_of 147 Tryz.func3 rfl rfl rfl rfl ?_ GG.to
    intro W A hG
    repeat (first
      | (refine go_at rfl ?_; first
          | refine go_do (valid_skip rfl) rfl ?_
          | refine go_do (valid_mv (.inl rfl) rfl) rfl ?_
          | (refine nxt_s 1 rfl ?_; refine go_do (valid_load_p tb rfl rfl rfl rfl rfl (by first | kernel_rfl | rfl)) (by first | kernel_rfl | rfl) ?_)
          | refine go_do (valid_mv (.inr rfl) rfl) rfl ?_
          | refine go_do (valid_pick rfl rfl rfl) rfl ?_
          | refine go_do (valid_box rfl rfl rfl rfl rfl rfl) rfl ?_
          | refine go_do (valid_not rfl rfl rfl) rfl ?_
          | refine go_do (valid_call rfl rfl rfl (awake_ok) (by kernel_rfl)) rfl ?_
          | refine go_do (valid_call rfl rfl rfl (hm) (by kernel_rfl)) rfl ?_)
      | (refine hK _ ?_; clear hK K)
      | refine aw_text rfl ?_
      | exact aw_ret (show resA _ _ _ = some _ by kernel_rfl)
      | refine aw_cond1 rfl rfl ?_
      | refine aw_seq_k (fun K hK => ?_))
  | true =>
    rw [hc] at hm
    by_cases hlen : 25 < l.length
    · refine callOk_of 147 Tryz.func3 rfl rfl rfl rfl ?_ GG.to
      intro W A hG
      repeat (first
        | (refine go_at rfl ?_; first
            | refine go_do (valid_mv (.inl rfl) rfl) rfl ?_
            | (refine nxt_s 1 rfl ?_; refine go_do (valid_load_p tb rfl rfl rfl rfl rfl (by first | kernel_rfl | rfl)) (by first | kernel_rfl | rfl) ?_)
            | refine go_do (valid_mv (.inr rfl) rfl) rfl ?_
            | refine go_do (valid_pick rfl rfl rfl) rfl ?_
            | refine go_do (valid_cmp rfl rfl rfl rfl (by first | exact .eql1 (by omega) | exact .eql0 (by omega) | exact .neq1 (by omega) | exact .neq0 (by omega) | exact .lss1 (by omega) | exact .lss0 (by omega) | exact .leq1 (by omega) | exact .leq0 (by omega) | exact .gtr1 (by omega) | exact .gtr0 (by omega) | exact .geq1 (by omega) | exact .geq0 (by omega) | constructor)) rfl ?_
            | refine go_do (valid_box rfl rfl rfl rfl rfl rfl) rfl ?_
            | refine go_do (valid_len_s rfl rfl rfl rfl) rfl ?_
            | refine go_do (valid_not rfl rfl rfl) rfl ?_
            | refine go_do (valid_call rfl rfl rfl (awake_ok) (by kernel_rfl)) rfl ?_
            | refine go_do (valid_call rfl rfl rfl (hm) (by kernel_rfl)) rfl ?_)
        | (refine hK _ ?_; clear hK K)
        | refine aw_text rfl ?_
        | exact aw_ret (show resA _ _ _ = some _ by kernel_rfl)
        | refine aw_cond1 rfl rfl ?_
        | refine aw_seq_k (fun K hK => ?_))
    obtain ⟨n, rfl⟩ := Int.eq_ofNat_of_zero_le (confB_iff.1 hc).2.2.2.1
    have hb := began_ok a b c n hc
    have hbi := bg_invT hc
    have hbn := bg_n hc
    generalize bgK a b c n = bk at *
    refine callOk_of 147 Tryz.func3 rfl rfl rfl rfl ?_ GG.to
    intro W A hG
    repeat (first
      | (refine go_at rfl ?_; first
          | refine go_do (valid_mv (.inl rfl) rfl) rfl ?_
          | (refine nxt_s 1 rfl ?_; refine go_do (valid_load_p tb rfl rfl rfl rfl rfl (by first | kernel_rfl | rfl)) (by first | kernel_rfl | rfl) ?_)
          | refine go_do (valid_mv (.inr rfl) rfl) rfl ?_
          | refine go_do (valid_pick rfl rfl rfl) rfl ?_
          | refine go_do (valid_extract rfl rfl rfl rfl) rfl ?_
          | refine go_do (valid_cmp rfl rfl rfl rfl (by first | exact .eql1 (by omega) | exact .eql0 (by omega) | exact .neq1 (by omega) | exact .neq0 (by omega) | exact .lss1 (by omega) | exact .lss0 (by omega) | exact .leq1 (by omega) | exact .leq0 (by omega) | exact .gtr1 (by omega) | exact .gtr0 (by omega) | exact .geq1 (by omega) | exact .geq0 (by omega) | constructor)) rfl ?_
          | refine go_do (valid_box rfl rfl rfl rfl rfl rfl) rfl ?_
          | refine go_do (valid_alloc rfl rfl rfl rfl rfl) rfl ?_
          | (refine nxt_s 1 rfl ?_; refine go_do (valid_store_p rfl rfl rfl rfl rfl rfl (by first | kernel_rfl | rfl) rfl) (by first | kernel_rfl | rfl) ?_)
          | refine go_do (valid_len_s rfl rfl rfl rfl) rfl ?_
          | refine go_do (valid_not rfl rfl rfl) rfl ?_
          | refine go_do (valid_call rfl rfl rfl (awake_ok) (by kernel_rfl)) rfl ?_
          | refine go_do (valid_call rfl rfl rfl (hm) (by kernel_rfl)) rfl ?_
          | refine go_do (valid_call rfl rfl rfl (hb) (by kernel_rfl)) rfl ?_)
      | (refine hK _ ?_; clear hK K)
      | refine aw_text rfl ?_
      | refine aw_cond0 rfl rfl ?_
      | refine aw_block ?_
      | refine aw_skip ?_
      | refine aw_seq_k (fun K hK => ?_))
    refine aw_loopH (α := Nat × Kr) (fun p => p.1 ≤ l.length ∧ InvT (2 + 3 * p.1) p.2 ∧ InvN p.2) (fun p => refH l e p.1 p.2) (fun p => l.length - p.1) (0, bk) ⟨Nat.zero_le _, hbi, hbn⟩ (sub_of _ _ ⟨by kernel_rfl, by kernel_rfl, by kernel_rfl, by kernel_rfl, by kernel_rfl, trivial⟩ ⟨by kernel_rfl, by kernel_rfl, trivial⟩ (by kernel_rfl)) ?_
    rintro ⟨i, k⟩ ⟨hi0, hk0, hn0⟩
    have hi : i ≤ l.length := hi0
    have hk : InvT (2 + 3 * i) k := hk0
    have hn : InvN k := hn0
    clear hi0 hk0 hn0
    show Aw _ _ _ _ (refH l e i k)
    unfold refH
    by_cases hlt : i < l.length
    · obtain ⟨x, hx0⟩ : ∃ x, l[i]? = some x := ⟨_, List.getElem?_eq_getElem hlt⟩
      have hx := flQ_at hx0
      have h8 := hl x (List.mem_of_getElem? hx0)
      have hd := mq_ok hk.l (by omega) x h8
      have hdi : InvT (2 + 3 * i + 3) (mq k x).1 := map_invT hk h8.2
      have hdn : InvN (mq k x).1 := map_ne hk hn h8.2
      generalize mq k x = rr at *
      repeat (first
        | (refine go_at rfl ?_; first
            | refine go_do (valid_mv (.inl rfl) rfl) rfl ?_
            | (refine nxt_s 1 rfl ?_; refine go_do (valid_load_p tb rfl rfl rfl rfl rfl (by first | kernel_rfl | rfl)) (by first | kernel_rfl | rfl) ?_)
            | refine go_do (valid_mv (.inr rfl) rfl) rfl ?_
            | refine go_do (valid_extract rfl rfl rfl rfl) rfl ?_
            | refine go_do (valid_cmp rfl rfl rfl rfl (by first | exact .eql1 (by omega) | exact .eql0 (by omega) | exact .neq1 (by omega) | exact .neq0 (by omega) | exact .lss1 (by omega) | exact .lss0 (by omega) | exact .leq1 (by omega) | exact .leq0 (by omega) | exact .gtr1 (by omega) | exact .gtr0 (by omega) | exact .geq1 (by omega) | exact .geq0 (by omega) | constructor)) rfl ?_
            | refine go_do (valid_ar rfl rfl rfl rfl (by constructor) (by first | exact wr_u64 (by omega) (by omega) | exact wr_i64 (by omega) (by omega) | rfl)) rfl ?_
            | (refine nxt_s 1 rfl ?_; refine go_do (valid_store_p rfl rfl rfl rfl rfl rfl (by first | kernel_rfl | rfl) rfl) (by first | kernel_rfl | rfl) ?_)
            | refine go_do (valid_len_s rfl rfl rfl rfl) rfl ?_
            | (refine nxt_s 3 rfl ?_; refine go_do (valid_load_q tb rfl rfl rfl rfl (by first | kernel_rfl | rfl)) rfl ?_)
            | (refine nxt_s 3 rfl ?_; refine go_do (valid_fld_q tb rfl rfl rfl rfl) rfl ?_)
            | (refine nxt_s 4 rfl ?_; refine go_do (valid_idx_s rfl rfl rfl rfl rfl rfl (by omega) (by omega) _ (by assumption)) rfl ?_)
            | refine go_do (valid_call rfl rfl rfl (hd) (by kernel_rfl)) rfl ?_)
        | (refine hK _ ?_; clear hK K)
        | refine aw_text rfl ?_
        | refine aw_any (by kernel_rfl) (by kernel_rfl) rfl ?_
        | refine aw_cond1 rfl rfl ?_
        | refine aw_block ?_
        | refine aw_skip ?_
        | refine aw_seq_k (fun K hK => ?_))
      exact ⟨(i + 1, rr.1), ⟨by show i + 1 ≤ l.length; omega, hdi, hdn⟩, by show l.length - (i + 1) < l.length - i; omega, sub_of _ _ ⟨by kernel_rfl, by kernel_rfl, by kernel_rfl, by kernel_rfl, by kernel_rfl, trivial⟩ ⟨by kernel_rfl, by kernel_rfl, trivial⟩ (by kernel_rfl)⟩
    · have hd0 := mq_ok hk.l (by omega) e he
      have hsay0 := map_says (id := e.id) (a := e.va) (pa := e.pa) (l := e.lev) (p := e.p) hk hn
      have hsay : (mq k e).2 = 0 ∨ (mq k e).2 = 6 ∨ (mq k e).2 = 8 → _ := hsay0
      clear hsay0
      have hany := meet_any (id := e.id) (a := e.va) (l := e.lev) hk he.1
      have hwg := where_good (id := e.id) (a := e.va) (l := e.lev) hk.l
      have hls := list_all hk.l (by omega) e.id
      have hli := list_in hk e.id
      have hll := listR_len k e.id
      have hfr := rfree_ok k.pb k.pm k.pf hk.l.g.uf
      have h6 : (mapR k e.id e.va e.pa e.lev e.p).2 = (mq k e).2 := rfl
      rw [h6] at hsay
      generalize mq k e = rr at *
      generalize listR k e.id = L at *
      obtain ⟨r1, er⟩ := rr
      have hd : Ok 10 [.ag k.ce, ii e.id, iu e.va, iu e.pa, ii e.lev, .ag e.p.ce] (.tu [.ag r1.ce, ii er]) := hd0
      clear hd0
      by_cases hor : er = 0 ∨ er = 6 ∨ er = 8
      rotate_left
      · skip
        repeat (first
          | (refine go_at rfl ?_; first
              | refine go_do (valid_mv (.inl rfl) rfl) rfl ?_
              | (refine nxt_s 1 rfl ?_; refine go_do (valid_load_p tb rfl rfl rfl rfl rfl (by first | kernel_rfl | rfl)) (by first | kernel_rfl | rfl) ?_)
              | (refine nxt_s 1 rfl ?_; refine go_do (valid_fld_p tb rfl rfl rfl (by kernel_rfl)) rfl ?_)
              | refine go_do (valid_mv (.inr rfl) rfl) rfl ?_
              | refine go_do (valid_pick rfl rfl rfl) rfl ?_
              | refine go_do (valid_extract rfl rfl rfl rfl) rfl ?_
              | refine go_do (valid_cmp rfl rfl rfl rfl (by first | exact .eql1 (by omega) | exact .eql0 (by omega) | exact .neq1 (by omega) | exact .neq0 (by omega) | exact .lss1 (by omega) | exact .lss0 (by omega) | exact .leq1 (by omega) | exact .leq0 (by omega) | exact .gtr1 (by omega) | exact .gtr0 (by omega) | exact .geq1 (by omega) | exact .geq0 (by omega) | constructor)) rfl ?_
              | refine go_do (valid_alloc rfl rfl rfl rfl rfl) rfl ?_
              | (refine nxt_s 1 rfl ?_; refine go_do (valid_store_p rfl rfl rfl rfl rfl rfl (by first | kernel_rfl | rfl) rfl) (by first | kernel_rfl | rfl) ?_)
              | refine go_do (valid_len_s rfl rfl rfl rfl) rfl ?_
              | refine go_do (valid_call rfl rfl rfl (hd) (by kernel_rfl)) rfl ?_)
          | (refine hK _ ?_; clear hK K)
          | (rename_i K1 hK1; refine hK1 _ ?_; clear hK hK1; clear K)
          | refine aw_text rfl ?_
          | exact aw_ret (show resA _ _ _ = some _ by kernel_rfl)
          | refine aw_cond1 rfl rfl ?_
          | refine aw_cond0 rfl rfl ?_
          | refine aw_exit ?_
          | refine aw_seq_k (fun K hK => ?_))
      obtain ⟨s1, t2, t3⟩ := hsay hor
      rw [hany s1] at t2
      obtain ⟨hlv, -⟩ := hwg s1
      have hz := rsize_ok e.lev hlv.1 hlv.2
      have s2 : er = 6 ↔ L.any (meetB e.va e.lev) = true := t2
      have s3 : er = 8 → cnt k.pf < 2 := t3
      clear t2 t3
      clear hsay hany hwg h6
      repeat (first
        | (refine go_at rfl ?_; first
            | refine go_do (valid_mv (.inl rfl) rfl) rfl ?_
            | refine go_do (valid_cmp rfl rfl rfl rfl (by first | exact .eql1 (by omega) | exact .eql0 (by omega) | exact .neq1 (by omega) | exact .neq0 (by omega) | exact .lss1 (by omega) | exact .lss0 (by omega) | exact .leq1 (by omega) | exact .leq0 (by omega) | exact .gtr1 (by omega) | exact .gtr0 (by omega) | exact .geq1 (by omega) | exact .geq0 (by omega) | constructor)) rfl ?_
            | refine go_do (valid_len_s rfl rfl rfl rfl) rfl ?_)
        | refine aw_text rfl ?_
        | refine aw_seq_k (fun K hK => ?_))
      first
        | (refine hK _ ?_; clear hK K)
        | (rename_i K1 hK1; refine hK1 _ ?_; clear hK hK1; clear K)
        | (rename_i K1 hK1; refine hK1 _ ?_; clear hK1)
      repeat (first
        | refine aw_cond0 rfl rfl ?_
        | refine aw_exit ?_)
      first
        | (refine hK _ ?_; clear hK K)
        | (rename_i K1 hK1; refine hK1 _ ?_; clear hK hK1; clear K)
        | (rename_i K1 hK1; refine hK1 _ ?_; clear hK1)
      repeat (first
        | (refine go_at rfl ?_; first
            | refine go_do (valid_mv (.inl rfl) rfl) rfl ?_
            | (refine nxt_s 1 rfl ?_; refine go_do (valid_load_p tb rfl rfl rfl rfl rfl (by first | kernel_rfl | rfl)) (by first | kernel_rfl | rfl) ?_)
            | (refine nxt_s 1 rfl ?_; refine go_do (valid_fld_p tb rfl rfl rfl (by kernel_rfl)) rfl ?_)
            | refine go_do (valid_mv (.inr rfl) rfl) rfl ?_
            | refine go_do (valid_extract rfl rfl rfl rfl) rfl ?_
            | refine go_do (valid_alloc rfl rfl rfl rfl rfl) rfl ?_
            | (refine nxt_s 1 rfl ?_; refine go_do (valid_store_p rfl rfl rfl rfl rfl rfl (by first | kernel_rfl | rfl) rfl) (by first | kernel_rfl | rfl) ?_)
            | refine go_do (valid_call rfl rfl rfl (hd) (by kernel_rfl)) rfl ?_)
        | refine aw_text rfl ?_
        | refine aw_seq_k (fun K hK => ?_))
      first
        | (refine hK _ ?_; clear hK K)
        | (rename_i K1 hK1; refine hK1 _ ?_; clear hK hK1; clear K)
        | (rename_i K1 hK1; refine hK1 _ ?_; clear hK1)
      refine aw_seq (aw_mono (Q := fun e' S' => e' = Exit.normal ∧ Sub (Cx.of 147 W A GG hG) S' (St.of [(5, .m (.c (.p 5 0))), (6, .m (ib false)), (7, .m (.c (.p 7 0))), (11, .m (ii er))] [(5, .live (.box e.ce)), (7, .live (.box k.ce))])) ?_ ?_)
      · rcases hor with e0 | e0 | e0
        · skip
          repeat (first
            | (refine go_at rfl ?_; first
                | refine go_do (valid_skip rfl) rfl ?_
                | refine go_do (valid_mv (.inl rfl) rfl) rfl ?_
                | refine go_do (valid_pick rfl rfl rfl) rfl ?_
                | refine go_do (valid_cmp rfl rfl rfl rfl (by first | exact .eql1 (by omega) | exact .eql0 (by omega) | exact .neq1 (by omega) | exact .neq0 (by omega) | exact .lss1 (by omega) | exact .lss0 (by omega) | exact .leq1 (by omega) | exact .leq0 (by omega) | exact .gtr1 (by omega) | exact .gtr0 (by omega) | exact .geq1 (by omega) | exact .geq0 (by omega) | constructor)) rfl ?_)
            | (refine hK _ ?_; clear hK K)
            | refine aw_text rfl ?_
            | refine aw_cond0 rfl rfl ?_
            | refine aw_skip ?_
            | refine aw_seq_k (fun K hK => ?_))
          exact ⟨rfl, sub_of _ _ ⟨by kernel_rfl, by kernel_rfl, by kernel_rfl, by kernel_rfl, trivial⟩ ⟨by kernel_rfl, by kernel_rfl, trivial⟩ (by kernel_rfl)⟩
        · skip
          repeat (first
            | (refine go_at rfl ?_; first
                | refine go_do (valid_skip rfl) rfl ?_
                | refine go_do (valid_mv (.inl rfl) rfl) rfl ?_
                | refine go_do (valid_pick rfl rfl rfl) rfl ?_
                | refine go_do (valid_cmp rfl rfl rfl rfl (by first | exact .eql1 (by omega) | exact .eql0 (by omega) | exact .neq1 (by omega) | exact .neq0 (by omega) | exact .lss1 (by omega) | exact .lss0 (by omega) | exact .leq1 (by omega) | exact .leq0 (by omega) | exact .gtr1 (by omega) | exact .gtr0 (by omega) | exact .geq1 (by omega) | exact .geq0 (by omega) | constructor)) rfl ?_)
            | (refine hK _ ?_; clear hK K)
            | refine aw_text rfl ?_
            | refine aw_cond0 rfl rfl ?_
            | refine aw_skip ?_
            | refine aw_seq_k (fun K hK => ?_))
          exact ⟨rfl, sub_of _ _ ⟨by kernel_rfl, by kernel_rfl, by kernel_rfl, by kernel_rfl, trivial⟩ ⟨by kernel_rfl, by kernel_rfl, trivial⟩ (by kernel_rfl)⟩
        · skip
          repeat (first
            | (refine go_at rfl ?_; first
                | refine go_do (valid_mv (.inl rfl) rfl) rfl ?_
                | refine go_do (valid_pick rfl rfl rfl) rfl ?_
                | refine go_do (valid_cmp rfl rfl rfl rfl (by first | exact .eql1 (by omega) | exact .eql0 (by omega) | exact .neq1 (by omega) | exact .neq0 (by omega) | exact .lss1 (by omega) | exact .lss0 (by omega) | exact .leq1 (by omega) | exact .leq0 (by omega) | exact .gtr1 (by omega) | exact .gtr0 (by omega) | exact .geq1 (by omega) | exact .geq0 (by omega) | constructor)) rfl ?_)
            | (refine hK _ ?_; clear hK K)
            | refine aw_text rfl ?_
            | refine aw_cond0 rfl rfl ?_
            | refine aw_skip ?_
            | refine aw_seq_k (fun K hK => ?_))
          exact ⟨rfl, sub_of _ _ ⟨by kernel_rfl, by kernel_rfl, by kernel_rfl, by kernel_rfl, trivial⟩ ⟨by kernel_rfl, by kernel_rfl, trivial⟩ (by kernel_rfl)⟩
      intro e' S' hQ
      obtain ⟨rfl, hsubS⟩ := hQ
      refine aw_sub hsubS ?_
      repeat (first
        | (refine go_at rfl ?_; first
            | (refine nxt_s 1 rfl ?_; refine go_do (valid_load_p tb rfl rfl rfl rfl rfl (by first | kernel_rfl | rfl)) (by first | kernel_rfl | rfl) ?_)
            | (refine nxt_s 1 rfl ?_; refine go_do (valid_fld_p tb rfl rfl rfl (by kernel_rfl)) rfl ?_)
            | refine go_do (valid_mv (.inr rfl) rfl) rfl ?_
            | refine go_do (valid_call rfl rfl rfl (hls) (by kernel_rfl)) rfl ?_
            | refine go_do (valid_call rfl rfl rfl (hz) (by kernel_rfl)) rfl ?_)
        | (refine hK _ ?_; clear hK K)
        | refine aw_text rfl ?_
        | refine aw_block ?_
        | refine aw_seq_k (fun K hK => ?_))
      refine aw_loopH (α := Nat) (fun j => j ≤ L.length) (fun j => refJ e k er L (VaSpec.sz e.lev) ((L.take j).any (meetB e.va e.lev)) j) (fun j => L.length - j) 0 (Nat.zero_le _) (sub_of _ _ ⟨by kernel_rfl, by kernel_rfl, by kernel_rfl, by kernel_rfl, by kernel_rfl, by kernel_rfl, by kernel_rfl, by kernel_rfl, trivial⟩ ⟨by kernel_rfl, by kernel_rfl, trivial⟩ (by kernel_rfl)) ?_
      intro j hj
      show Aw _ _ _ _ (refJ e k er L (VaSpec.sz e.lev) ((L.take j).any (meetB e.va e.lev)) j)
      unfold refJ
      by_cases hjl : j < L.length
      · obtain ⟨y, hy0⟩ : ∃ y, L[j]? = some y := ⟨_, List.getElem?_eq_getElem hjl⟩
        have hx0 := flP_at hy0
        obtain ⟨⟨l0, l2⟩, -, -⟩ := hli y (List.mem_of_getElem? hy0)
        have hzy := rsize_ok y.lev l0 l2
        have hta := take_any (meetB e.va e.lev) L j y hy0
        have hmb : meetB e.va e.lev y = (decide (y.va ≤ IntKind.u64.wrap (IntKind.u64.wrap (e.va + VaSpec.sz e.lev) - 1)) && decide (e.va ≤ IntKind.u64.wrap (IntKind.u64.wrap (y.va + VaSpec.sz y.lev) - 1))) := rfl
        have hx : ((flP L).drop (j * 8)).take 8 = [.int .u64 y.va, .int .u64 y.pa, .int .i64 y.lev, .bool y.r, .bool y.w, .bool y.x, .bool y.u, .bool y.d] := hx0
        clear hx0
        generalize VaSpec.sz e.lev = z at *
        generalize VaSpec.sz y.lev = zy at *
        generalize (L.take j).any (meetB e.va e.lev) = mt at *
        by_cases m1 : y.va ≤ IntKind.u64.wrap (IntKind.u64.wrap (e.va + z) - 1)
        · by_cases m2 : e.va ≤ IntKind.u64.wrap (IntKind.u64.wrap (y.va + zy) - 1)
          · rw [hmb, decide_eq_true m1, decide_eq_true m2, Bool.and_self, Bool.or_true] at hta
            repeat (first
              | (refine go_at rfl ?_; first
                  | refine go_do (valid_mv (.inl rfl) rfl) rfl ?_
                  | (refine nxt_s 1 rfl ?_; refine go_do (valid_load_p tb rfl rfl rfl rfl rfl (by first | kernel_rfl | rfl)) (by first | kernel_rfl | rfl) ?_)
                  | (refine nxt_s 1 rfl ?_; refine go_do (valid_fld_p tb rfl rfl rfl (by kernel_rfl)) rfl ?_)
                  | refine go_do (valid_mv (.inr rfl) rfl) rfl ?_
                  | refine go_do (valid_pick rfl rfl rfl) rfl ?_
                  | refine go_do (valid_cmp rfl rfl rfl rfl (by first | exact .eql1 (by omega) | exact .eql0 (by omega) | exact .neq1 (by omega) | exact .neq0 (by omega) | exact .lss1 (by omega) | exact .lss0 (by omega) | exact .leq1 (by omega) | exact .leq0 (by omega) | exact .gtr1 (by omega) | exact .gtr0 (by omega) | exact .geq1 (by omega) | exact .geq0 (by omega) | constructor)) rfl ?_
                  | refine go_do (valid_ar rfl rfl rfl rfl (by constructor) (by first | exact wr_u64 (by omega) (by omega) | exact wr_i64 (by omega) (by omega) | rfl)) rfl ?_
                  | refine go_do (valid_alloc rfl rfl rfl rfl rfl) rfl ?_
                  | (refine nxt_s 1 rfl ?_; refine go_do (valid_store_p rfl rfl rfl rfl rfl rfl (by first | kernel_rfl | rfl) rfl) (by first | kernel_rfl | rfl) ?_)
                  | refine go_do (valid_len_s rfl rfl rfl rfl) rfl ?_
                  | (refine nxt_s 3 rfl ?_; refine go_do (valid_load_q tb rfl rfl rfl rfl (by first | kernel_rfl | rfl)) rfl ?_)
                  | (refine nxt_s 4 rfl ?_; refine go_do (valid_idx_s rfl rfl rfl rfl rfl rfl (by omega) (by omega) _ (by assumption)) rfl ?_)
                  | refine go_do (valid_call rfl rfl rfl (hzy) (by kernel_rfl)) rfl ?_)
              | (refine hK _ ?_; clear hK K)
              | refine aw_text rfl ?_
              | refine aw_any (by kernel_rfl) (by kernel_rfl) rfl ?_
              | refine aw_cond1 rfl rfl ?_
              | refine aw_block ?_
              | refine aw_skip ?_
              | refine aw_seq_k (fun K hK => ?_))
            refine ⟨j + 1, by omega, by omega, ?_⟩
            rw [hta]
            exact sub_of _ _ ⟨by kernel_rfl, by kernel_rfl, by kernel_rfl, by kernel_rfl, by kernel_rfl, by kernel_rfl, by kernel_rfl, by kernel_rfl, trivial⟩ ⟨by kernel_rfl, by kernel_rfl, trivial⟩ (by kernel_rfl)
          · rw [hmb, decide_eq_true m1, decide_eq_false m2, Bool.and_false, Bool.or_false] at hta
            repeat (first
              | (refine go_at rfl ?_; first
                  | refine go_do (valid_mv (.inl rfl) rfl) rfl ?_
                  | (refine nxt_s 1 rfl ?_; refine go_do (valid_load_p tb rfl rfl rfl rfl rfl (by first | kernel_rfl | rfl)) (by first | kernel_rfl | rfl) ?_)
                  | (refine nxt_s 1 rfl ?_; refine go_do (valid_fld_p tb rfl rfl rfl (by kernel_rfl)) rfl ?_)
                  | refine go_do (valid_mv (.inr rfl) rfl) rfl ?_
                  | refine go_do (valid_pick rfl rfl rfl) rfl ?_
                  | refine go_do (valid_cmp rfl rfl rfl rfl (by first | exact .eql1 (by omega) | exact .eql0 (by omega) | exact .neq1 (by omega) | exact .neq0 (by omega) | exact .lss1 (by omega) | exact .lss0 (by omega) | exact .leq1 (by omega) | exact .leq0 (by omega) | exact .gtr1 (by omega) | exact .gtr0 (by omega) | exact .geq1 (by omega) | exact .geq0 (by omega) | constructor)) rfl ?_
                  | refine go_do (valid_ar rfl rfl rfl rfl (by constructor) (by first | exact wr_u64 (by omega) (by omega) | exact wr_i64 (by omega) (by omega) | rfl)) rfl ?_
                  | refine go_do (valid_alloc rfl rfl rfl rfl rfl) rfl ?_
                  | (refine nxt_s 1 rfl ?_; refine go_do (valid_store_p rfl rfl rfl rfl rfl rfl (by first | kernel_rfl | rfl) rfl) (by first | kernel_rfl | rfl) ?_)
                  | refine go_do (valid_len_s rfl rfl rfl rfl) rfl ?_
                  | (refine nxt_s 3 rfl ?_; refine go_do (valid_load_q tb rfl rfl rfl rfl (by first | kernel_rfl | rfl)) rfl ?_)
                  | (refine nxt_s 4 rfl ?_; refine go_do (valid_idx_s rfl rfl rfl rfl rfl rfl (by omega) (by omega) _ (by assumption)) rfl ?_)
                  | refine go_do (valid_call rfl rfl rfl (hzy) (by kernel_rfl)) rfl ?_)
              | (refine hK _ ?_; clear hK K)
              | refine aw_text rfl ?_
              | refine aw_any (by kernel_rfl) (by kernel_rfl) rfl ?_
              | refine aw_cond1 rfl rfl ?_
              | refine aw_cond0 rfl rfl ?_
              | refine aw_block ?_
              | refine aw_skip ?_
              | refine aw_seq_k (fun K hK => ?_))
            refine ⟨j + 1, by omega, by omega, ?_⟩
            rw [hta]
            exact sub_of _ _ ⟨by kernel_rfl, by kernel_rfl, by kernel_rfl, by kernel_rfl, by kernel_rfl, by kernel_rfl, by kernel_rfl, by kernel_rfl, trivial⟩ ⟨by kernel_rfl, by kernel_rfl, trivial⟩ (by kernel_rfl)
        · rw [hmb, decide_eq_false m1, Bool.false_and, Bool.or_false] at hta
          repeat (first
            | (refine go_at rfl ?_; first
                | refine go_do (valid_skip rfl) rfl ?_
                | refine go_do (valid_mv (.inl rfl) rfl) rfl ?_
                | (refine nxt_s 1 rfl ?_; refine go_do (valid_load_p tb rfl rfl rfl rfl rfl (by first | kernel_rfl | rfl)) (by first | kernel_rfl | rfl) ?_)
                | (refine nxt_s 1 rfl ?_; refine go_do (valid_fld_p tb rfl rfl rfl (by kernel_rfl)) rfl ?_)
                | refine go_do (valid_mv (.inr rfl) rfl) rfl ?_
                | refine go_do (valid_pick rfl rfl rfl) rfl ?_
                | refine go_do (valid_cmp rfl rfl rfl rfl (by first | exact .eql1 (by omega) | exact .eql0 (by omega) | exact .neq1 (by omega) | exact .neq0 (by omega) | exact .lss1 (by omega) | exact .lss0 (by omega) | exact .leq1 (by omega) | exact .leq0 (by omega) | exact .gtr1 (by omega) | exact .gtr0 (by omega) | exact .geq1 (by omega) | exact .geq0 (by omega) | constructor)) rfl ?_
                | refine go_do (valid_ar rfl rfl rfl rfl (by constructor) (by first | exact wr_u64 (by omega) (by omega) | exact wr_i64 (by omega) (by omega) | rfl)) rfl ?_
                | refine go_do (valid_alloc rfl rfl rfl rfl rfl) rfl ?_
                | (refine nxt_s 1 rfl ?_; refine go_do (valid_store_p rfl rfl rfl rfl rfl rfl (by first | kernel_rfl | rfl) rfl) (by first | kernel_rfl | rfl) ?_)
                | refine go_do (valid_len_s rfl rfl rfl rfl) rfl ?_
                | (refine nxt_s 3 rfl ?_; refine go_do (valid_load_q tb rfl rfl rfl rfl (by first | kernel_rfl | rfl)) rfl ?_)
                | (refine nxt_s 4 rfl ?_; refine go_do (valid_idx_s rfl rfl rfl rfl rfl rfl (by omega) (by omega) _ (by assumption)) rfl ?_))
            | (refine hK _ ?_; clear hK K)
            | refine aw_text rfl ?_
            | refine aw_any (by kernel_rfl) (by kernel_rfl) rfl ?_
            | refine aw_cond1 rfl rfl ?_
            | refine aw_cond0 rfl rfl ?_
            | refine aw_block ?_
            | refine aw_skip ?_
            | refine aw_seq_k (fun K hK => ?_))
          refine ⟨j + 1, by omega, by omega, ?_⟩
          rw [hta]
          exact sub_of _ _ ⟨by kernel_rfl, by kernel_rfl, by kernel_rfl, by kernel_rfl, by kernel_rfl, by kernel_rfl, by kernel_rfl, by kernel_rfl, trivial⟩ ⟨by kernel_rfl, by kernel_rfl, trivial⟩ (by kernel_rfl)
      · rw [List.take_of_length_le (by omega)]
        generalize L.any (meetB e.va e.lev) = mt at *
        by_cases e6 : er = 6
        · have hmt := s2.1 e6
          subst hmt
          repeat (first
            | (refine go_at rfl ?_; first
                | refine go_do (valid_skip rfl) rfl ?_
                | refine go_do (valid_mv (.inl rfl) rfl) rfl ?_
                | refine go_do (valid_mv (.inr rfl) rfl) rfl ?_
                | refine go_do (valid_pick rfl rfl rfl) rfl ?_
                | refine go_do (valid_cmp rfl rfl rfl rfl (by first | exact .eql1 (by omega) | exact .eql0 (by omega) | exact .neq1 (by omega) | exact .neq0 (by omega) | exact .lss1 (by omega) | exact .lss0 (by omega) | exact .leq1 (by omega) | exact .leq0 (by omega) | exact .gtr1 (by omega) | exact .gtr0 (by omega) | exact .geq1 (by omega) | exact .geq0 (by omega) | constructor)) rfl ?_
                | refine go_do (valid_len_s rfl rfl rfl rfl) rfl ?_
                | refine go_do (valid_eqb rfl rfl rfl rfl rfl) rfl ?_)
            | (refine hK _ ?_; clear hK K)
            | (rename_i K1 hK1; refine hK1 _ ?_; clear hK hK1; clear K)
            | refine aw_text rfl ?_
            | exact aw_ret (show resA _ _ _ = some _ by kernel_rfl)
            | refine aw_cond0 rfl rfl ?_
            | refine aw_exit ?_
            | refine aw_seq_k (fun K hK => ?_))
        · have hmt : mt = false := by
            cases mt with
            | false => rfl
            | true => exact absurd (s2.2 rfl) e6
          subst hmt
          by_cases e8 : er = 8
          · have h2 := s3 e8
            repeat (first
              | (refine go_at rfl ?_; first
                  | refine go_do (valid_mv (.inl rfl) rfl) rfl ?_
                  | (refine nxt_s 1 rfl ?_; refine go_do (valid_load_p tb rfl rfl rfl rfl rfl (by first | kernel_rfl | rfl)) (by first | kernel_rfl | rfl) ?_)
                  | (refine nxt_s 1 rfl ?_; refine go_do (valid_fld_p tb rfl rfl rfl (by kernel_rfl)) rfl ?_)
                  | refine go_do (valid_mv (.inr rfl) rfl) rfl ?_
                  | refine go_do (valid_pick rfl rfl rfl) rfl ?_
                  | refine go_do (valid_cmp rfl rfl rfl rfl (by first | exact .eql1 (by omega) | exact .eql0 (by omega) | exact .neq1 (by omega) | exact .neq0 (by omega) | exact .lss1 (by omega) | exact .lss0 (by omega) | exact .leq1 (by omega) | exact .leq0 (by omega) | exact .gtr1 (by omega) | exact .gtr0 (by omega) | exact .geq1 (by omega) | exact .geq0 (by omega) | constructor)) rfl ?_
                  | refine go_do (valid_len_s rfl rfl rfl rfl) rfl ?_
                  | refine go_do (valid_eqb rfl rfl rfl rfl rfl) rfl ?_
                  | refine go_do (valid_call rfl rfl rfl (hfr) (by kernel_rfl)) rfl ?_)
              | (refine hK _ ?_; clear hK K)
              | (rename_i K1 hK1; refine hK1 _ ?_; clear hK hK1; clear K)
              | refine aw_text rfl ?_
              | exact aw_ret (show resA _ _ _ = some _ by kernel_rfl)
              | refine aw_cond0 rfl rfl ?_
              | refine aw_exit ?_
              | refine aw_seq_k (fun K hK => ?_))
          · skip
            repeat (first
              | (refine go_at rfl ?_; first
                  | refine go_do (valid_skip rfl) rfl ?_
                  | refine go_do (valid_mv (.inl rfl) rfl) rfl ?_
                  | refine go_do (valid_mv (.inr rfl) rfl) rfl ?_
                  | refine go_do (valid_pick rfl rfl rfl) rfl ?_
                  | refine go_do (valid_cmp rfl rfl rfl rfl (by first | exact .eql1 (by omega) | exact .eql0 (by omega) | exact .neq1 (by omega) | exact .neq0 (by omega) | exact .lss1 (by omega) | exact .lss0 (by omega) | exact .leq1 (by omega) | exact .leq0 (by omega) | exact .gtr1 (by omega) | exact .gtr0 (by omega) | exact .geq1 (by omega) | exact .geq0 (by omega) | constructor)) rfl ?_
                  | refine go_do (valid_len_s rfl rfl rfl rfl) rfl ?_
                  | refine go_do (valid_eqb rfl rfl rfl rfl rfl) rfl ?_)
              | (refine hK _ ?_; clear hK K)
              | (rename_i K1 hK1; refine hK1 _ ?_; clear hK hK1; clear K)
              | refine aw_text rfl ?_
              | exact aw_ret (show resA _ _ _ = some _ by kernel_rfl)
              | refine aw_cond0 rfl rfl ?_
              | refine aw_exit ?_
              | refine aw_seq_k (fun K hK => ?_))
end Go.Proofs.YtgkodncknlankaaGreatDoor.LrD
