/- Texts of this claim, one behind the other: LjC, AxZ, LjD, AxW, LjE, LkB, LkC, LkD, LjA, LjF. -/
import Derived.Test.YtmkjfeamgknpfaaGreatDoorC5
import Derived.Test.YtmkjfeamgknpfaaGreatDoorC3
import Derived.Defers
set_option linter.unusedVariables false
set_option linter.unusedSimpArgs false
namespace Go.Proofs.YtmkjfeamgknpfaaGreatDoor.LjC
open Go.RowKit Bv VaSpec Base MemL RegR Ax MemC PutC MemC3 TzC OkS SpA SpB SpC SpF SpH SpI SpJ LaA LaB LaC LaD LaE LaF LaG LiA LiB LiC LiD LiE LiF
open BitsC PteSpec
set_option maxRecDepth 10000
set_option maxHeartbeats 1000000
def leH (sz cd cp a t l g b : Int) (q : Pte) (xs : List (Int × Int)) (f : Int) (i : Nat) (n : Int) : St := St.of [(3, .m (iu a)), (6, .m (.c (.p 6 0))), (8, .m (.c (.p 8 0))), (9, .m (.c (.p 9 0))), (10, .m (ii 0)), (11, .m (.c (.p 11 0))), (12, .m (.c (.p 12 0))), (13, .m (iu g)), (15, .m (.c (.p 15 0))), (16, .m (iu b)), (37, .m (iu i))] [(6, .live (.box (zbi t l q))), (8, .live (.box [cu 0, .v (.slice none 0 0)])), (9, .live (.box [cu 0, ci 0, cu 0])), (11, .live (.box [cu sz, .s xs.length 2 (fl xs)])), (12, .live (.box [cu cd, ci cp, cu f])), (15, .live (.box [cb q.v, cb q.r, cb q.w, cb q.x, cb q.u, cb q.g, cb q.a, cb q.d, cu q.rsw, cu n, cu q.high]))]
theorem zr1 {a i : Int} (l : Int) (hl : l = 1 ∨ l = 2) (ha : U a) (hi : 0 ≤ i ∧ i < 512) : idx (VaSpec.base a l + i * VaSpec.sz (l - 1)) (l - 1) = i ∧ U (VaSpec.base a l + i * VaSpec.sz (l - 1)) ∧ U (VaSpec.base a l) ∧ VaSpec.base a l + 512 * VaSpec.sz (l - 1) ≤ 18446744073709551616 := by
  obtain ⟨a0, a1⟩ := ha
  unfold VaSpec.base idx
  rcases hl with rfl | rfl
  · simp only [show VaSpec.sz 1 = 2097152 from rfl, show VaSpec.sz (1 - 1) = 4096 from rfl]
    exact ⟨by omega, ⟨by omega, by omega⟩, ⟨by omega, by omega⟩, by omega⟩
  · simp only [show VaSpec.sz 2 = 1073741824 from rfl, show VaSpec.sz (2 - 1) = 2097152 from rfl]
    exact ⟨by omega, ⟨by omega, by omega⟩, ⟨by omega, by omega⟩, by omega⟩
theorem z07 (cd cp sz : Int) (xs : List (Int × Int)) (t l : Int) (q : Pte) (a : Int) (hb : 0 ≤ cd ∧ cd ≤ 268435456) (hm : 0 ≤ cp ∧ cp ≤ 64) : Ok 119 [zbm sz xs, .ag [cu cd, ci cp, cu 0], .ag (zbi t l q), iu a] (.tu [zbm sz xs, .ag [cu cd, ci cp, cu 0], ii 8]) := by
  have hf := zh8 sz xs cd cp hb hm
  refine zaf 76 Tryz.func119 rfl rfl rfl rfl ?_ GG.to
  intro W A hG
  repeat (first | (refine zal rfl ?_; first | refine gdr (zaa (.inl rfl) rfl) ?_ | refine gnk 1 rfl (za2 tb rfl rfl rfl rfl rfl) ?_ | refine gdr (zaa (.inr rfl) rfl) ?_ | refine gdr (zak rfl rfl rfl rfl) ?_ | refine gdr (za6 rfl rfl rfl rfl) ?_ | refine gdr (zag rfl rfl rfl rfl rfl rfl) ?_ | refine gdr (zae rfl rfl rfl rfl rfl) ?_ | refine gnk 1 rfl (zbe rfl rfl rfl rfl rfl rfl rfl) ?_ | refine gdr (zab rfl rfl rfl (hf) (by kernel_rfl)) ?_) | (refine hK _ ?_; clear hK K) | refine zad rfl ?_ | refine za4 (by kernel_rfl) (by kernel_rfl) rfl ?_ | exact zap (show za8 _ _ _ = some _ by kernel_rfl) | refine zai rfl rfl ?_ | refine zac (fun K hK => ?_))
theorem zx4 {cd cp sz f sh : Int} {xs : List (Int × Int)} {lv : Int → Int} (h : TI cd cp sz xs f sh lv) (h0 : f ≠ 0) (hn : xs.length ≤ 100000) {t a : Int} {q : Pte} (ha : U a) (ht : Al cd cp f t) (hq : q = atM sz xs t (idx a 1)) (h1 : zbr q = true) (h2 : zej q 1 = false) :
    Ok 119 [zbm sz xs, .ag [cu cd, ci cp, cu f], .ag (zbi t 1 q), iu a] (.tu [zbm sz (zhe sz xs t (idx a 1) 1 q (cd + tzI f)), .ag [cu cd, ci cp, cu (zb9 f (tzI f) 1 0)], ii 0]) := by
  obtain ⟨a0, a1, a2, a3⟩ := zd8 h h0
  have b1 := h.bd
  have b2 := h.bp
  have bz := h.bz
  have bt := ht.1
  have hqU : q.U := by rw [hq]; exact zgw h.u _ _ _
  have hqm : zf7 q = true := by rw [hq]; exact zlh h.u
  have hf := zgo sz xs cd cp f (by omega) (by omega) h.uf h0 h.s (by omega)
  rw [h.gm.wipe h0] at hf
  have hg : 0 ≤ cd + tzI f ∧ cd + tzI f < 1099511627776 := by omega
  have hgz : (cd + tzI f) * 4096 + 4096 ≤ sz := by omega
  have hi := idx_bd a 1
  have hba := zl9 a 1 ha (by omega) (by omega)
  have hsz : Ok 66 [ii 0] (.m (iu 4096)) := zgc 0 (by omega) (by omega)
  have hsz1 : Ok 66 [ii 1] (.m (iu 2097152)) := zgc 1 (by omega) (by omega)
  have hln := zp0 (cd + tzI f)
  have hlU := zgx (n := cd + tzI f) (by omega)
  have hRs := zge (g := cd + tzI f) (v := fun j => PteC.zcc (prt q 1 j)) h.s
  have hRl := zid xs (cd + tzI f) (fun j => PteC.zcc (prt q 1 j))
  have hRm := fun i => zms (xs := xs) (g := cd + tzI f) (v := fun j => PteC.zcc (prt q 1 j)) i
  have hxu := h.u
  have hpU : ∀ i : Int, (0 ≤ i ∧ i < 512) → (prt q 1 i).U := fun i hi => (zdf hqU hqm (by omega) h1 h2 hi).1
  have hRu : ∀ i, i ≤ 512 → Uw (zer xs (cd + tzI f) (fun j => PteC.zcc (prt q 1 j)) i) := fun i hi c hc => by
    rcases hRm i c hc with hc | ⟨j, hj, rfl, _⟩
    · exact hxu c hc
    · exact ⟨⟨by show 0 ≤ (cd + tzI f) * 512 + (j : Int); omega, by show (cd + tzI f) * 512 + (j : Int) < 18446744073709551616; omega⟩, zf9 _ (hpU j (by omega))⟩
  have hfin := ze8 sz (zer xs (cd + tzI f) (fun j => PteC.zcc (prt q 1 j)) 512) t 1 q a (lnk (cd + tzI f)) ha hlU (by omega) (by omega) (by omega) (hRs 512) (hRu 512 (by omega)) (by have := hRl 512; omega)
  have hpb : 0 ≤ q.ppn ∧ q.ppn < 17592186044416 := by rw [hq]; exact zdo ..
  refine zaf 76 Tryz.func119 rfl rfl rfl rfl ?_ GG.to
  intro W A hG
  unfold zhe
  generalize hgen : cd + tzI f = g at *
  generalize zb9 f (tzI f) 1 0 = f2 at *
  repeat (first | (refine zal rfl ?_; first | refine gdr (zaa (.inl rfl) rfl) ?_ | refine gnk 1 rfl (za2 tb rfl rfl rfl rfl rfl) ?_ | refine gnx 1 rfl (zbc tb rfl rfl rfl) rfl ?_ | refine gdr (zaa (.inr rfl) rfl) ?_ | refine gdr (zak rfl rfl rfl rfl) ?_ | refine gdr (za6 rfl rfl rfl rfl) ?_ | refine gdr (zag rfl rfl rfl rfl rfl rfl) ?_ | refine gdr (zae rfl rfl rfl rfl rfl) ?_ | refine gnk 1 rfl (zbe rfl rfl rfl rfl rfl rfl rfl) ?_ | refine gdr (zab rfl rfl rfl (hf) (by kernel_rfl)) ?_ | refine gdr (zab rfl rfl rfl (hba) (by kernel_rfl)) ?_) | (refine hK _ ?_; clear hK K) | refine zad rfl ?_ | refine zah rfl rfl ?_ | refine zam ?_ | refine zao ?_ | refine zac (fun K hK => ?_))
  refine za9 (α := Nat × Int) (fun p => p.1 ≤ 512) (fun p => leH sz cd cp a t 1 g (VaSpec.base a 1) q (zer xs g (fun j => PteC.zcc (prt q 1 j)) p.1) f2 p.1 p.2) (fun p => 512 - p.1) (0, q.ppn) (by show 0 ≤ 512; omega) (zar _ _ ⟨by kernel_rfl, by kernel_rfl, by kernel_rfl, by kernel_rfl, by kernel_rfl, by kernel_rfl, by kernel_rfl, by kernel_rfl, by kernel_rfl, by kernel_rfl, by kernel_rfl, trivial⟩ ⟨by kernel_rfl, by kernel_rfl, by kernel_rfl, by kernel_rfl, by kernel_rfl, by kernel_rfl, trivial⟩ (by kernel_rfl)) ?_
  rintro ⟨i, n⟩ x1
  have g1 : i ≤ 512 := x1
  show Aw _ _ _ _ (leH sz cd cp a t 1 g (VaSpec.base a 1) q (zer xs g (fun j => PteC.zcc (prt q 1 j)) i) f2 i n)
  unfold leH
  by_cases hlt : i < 512
  · obtain ⟨e1, e2, e3, e4⟩ := zr1 (a := a) (i := (i : Int)) 1 (by omega) ha (by omega)
    have e1 : idx (VaSpec.base a 1 + (i : Int) * 4096) (1 - 1) = (i : Int) := e1
    have e2 : U (VaSpec.base a 1 + (i : Int) * 4096) := e2
    have e4 : VaSpec.base a 1 + 512 * 4096 ≤ 18446744073709551616 := e4
    have epp : q.ppn + (i : Int) * 4096 / 4096 = q.ppn + (i : Int) * 1 := by omega
    have hwt := ze8 sz (zer xs g (fun j => PteC.zcc (prt q 1 j)) i) g (1 - 1) ⟨false, false, false, false, false, false, false, false, 0, 0, 0⟩ (VaSpec.base a 1 + (i : Int) * 4096) (prt q 1 i) e2 (hpU i (by omega)) (by omega) (by omega) hg (hRs i) (hRu i g1) (by have := hRl i; omega)
    rw [e1, zen (hpU i (by omega)) hg.1 (by omega) (by omega)] at hwt
    have hrw : prt q 1 (i : Int) = ⟨q.v, q.r, q.w, q.x, q.u, q.g, q.a, q.d, q.rsw, q.ppn + (i : Int) * 4096 / 4096, q.high⟩ := by rw [epp]; rfl
    have hwt : Ok 54 [zbm sz (zer xs g (fun j => PteC.zcc (prt q 1 j)) i), .ag (zbi g (1 - 1) ⟨false, false, false, false, false, false, false, false, 0, 0, 0⟩), iu (VaSpec.base a 1 + (i : Int) * 4096), .ag (⟨q.v, q.r, q.w, q.x, q.u, q.g, q.a, q.d, q.rsw, q.ppn + (i : Int) * 4096 / 4096, q.high⟩ : Pte).ce] (.m (zbm sz (zer xs g (fun j => PteC.zcc (prt q 1 j)) (i + 1)))) := by
      rw [← hrw]; exact hwt
    obtain ⟨ys1, hys⟩ : ∃ ys1, ys1 = zer xs g (fun j => PteC.zcc (prt q 1 j)) (i + 1) := ⟨_, rfl⟩
    rw [← hys] at hwt
    generalize zer xs g (fun j => PteC.zcc (prt q 1 j)) i = ys at *
    have hb0 := e3.1
    generalize VaSpec.base a 1 = b at *
    repeat (first | (refine zal rfl ?_; first | refine gdr (zaa (.inl rfl) rfl) ?_ | refine gnk 1 rfl (za2 tb rfl rfl rfl rfl rfl) ?_ | refine gnx 1 rfl (zbc tb rfl rfl rfl) rfl ?_ | refine gdr (zaa (.inr rfl) rfl) ?_ | refine gdr (za6 rfl rfl rfl rfl) ?_ | refine gdr (gar rfl rfl rfl rfl) ?_ | refine gdr (zbs rfl rfl rfl rfl (by omega) (by omega) (by first | exact zdb (by omega) (by omega) | exact zdc (by omega) (by omega))) ?_ | refine gnk 1 rfl (zbe rfl rfl rfl rfl rfl rfl rfl) ?_ | refine gdr (zaq rfl rfl rfl rfl) ?_ | refine gdr (zab rfl rfl rfl (hsz) (by kernel_rfl)) ?_ | refine gdr (zab rfl rfl rfl (hwt) (by kernel_rfl)) ?_) | (refine hK _ ?_; clear hK K) | refine zad rfl ?_ | refine za4 (by kernel_rfl) (by kernel_rfl) rfl ?_ | refine zai rfl rfl ?_ | refine zam ?_ | refine zao ?_ | refine zac (fun K hK => ?_))
    refine ⟨(i + 1, q.ppn + (i : Int) * 4096 / 4096), by show i + 1 ≤ 512; omega, by show 512 - (i + 1) < 512 - i; omega, ?_⟩
    show Sub _ _ (leH sz cd cp a t 1 g b q (zer xs g (fun j => PteC.zcc (prt q 1 j)) (i + 1)) f2 (i + 1) (q.ppn + (i : Int) * 4096 / 4096))
    rw [← hys]
    exact zar _ _ ⟨by kernel_rfl, by kernel_rfl, by kernel_rfl, by kernel_rfl, by kernel_rfl, by kernel_rfl, by kernel_rfl, by kernel_rfl, by kernel_rfl, by kernel_rfl, by kernel_rfl, trivial⟩ ⟨by kernel_rfl, by kernel_rfl, by kernel_rfl, by kernel_rfl, by kernel_rfl, by kernel_rfl, trivial⟩ (by kernel_rfl)
  · obtain rfl : i = 512 := by omega
    generalize zer xs g (fun j => PteC.zcc (prt q 1 j)) 512 = ys at *
    repeat (first | (refine zal rfl ?_; first | refine gdr (zaa (.inl rfl) rfl) ?_ | refine gnk 1 rfl (za2 tb rfl rfl rfl rfl rfl) ?_ | refine gdr (zaa (.inr rfl) rfl) ?_ | refine gdr (za6 rfl rfl rfl rfl) ?_ | refine gnk 1 rfl (zbe rfl rfl rfl rfl rfl rfl rfl) ?_ | refine gdr (zab rfl rfl rfl (hln) (by kernel_rfl)) ?_ | refine gdr (zab rfl rfl rfl (hfin) (by kernel_rfl)) ?_) | (refine hK _ ?_; clear hK K) | (rename_i K1 hK1; refine hK1 _ ?_; clear hK hK1; clear K) | refine zad rfl ?_ | refine za4 (by kernel_rfl) (by kernel_rfl) rfl ?_ | exact zap (show za8 _ _ _ = some _ by kernel_rfl) | refine zah rfl rfl ?_ | refine zba ?_ | refine zac (fun K hK => ?_))
theorem zx5 {cd cp sz f sh : Int} {xs : List (Int × Int)} {lv : Int → Int} (h : TI cd cp sz xs f sh lv) (h0 : f ≠ 0) (hn : xs.length ≤ 100000) {t a : Int} {q : Pte} (ha : U a) (ht : Al cd cp f t) (hq : q = atM sz xs t (idx a 2)) (h1 : zbr q = true) (h2 : zej q 2 = false) :
    Ok 119 [zbm sz xs, .ag [cu cd, ci cp, cu f], .ag (zbi t 2 q), iu a] (.tu [zbm sz (zhe sz xs t (idx a 2) 2 q (cd + tzI f)), .ag [cu cd, ci cp, cu (zb9 f (tzI f) 1 0)], ii 0]) := by
  obtain ⟨a0, a1, a2, a3⟩ := zd8 h h0
  have b1 := h.bd
  have b2 := h.bp
  have bz := h.bz
  have bt := ht.1
  have hqU : q.U := by rw [hq]; exact zgw h.u _ _ _
  have hqm : zf7 q = true := by rw [hq]; exact zlh h.u
  have hf := zgo sz xs cd cp f (by omega) (by omega) h.uf h0 h.s (by omega)
  rw [h.gm.wipe h0] at hf
  have hg : 0 ≤ cd + tzI f ∧ cd + tzI f < 1099511627776 := by omega
  have hgz : (cd + tzI f) * 4096 + 4096 ≤ sz := by omega
  have hi := idx_bd a 2
  have hba := zl9 a 2 ha (by omega) (by omega)
  have hsz : Ok 66 [ii 0] (.m (iu 4096)) := zgc 0 (by omega) (by omega)
  have hsz1 : Ok 66 [ii 1] (.m (iu 2097152)) := zgc 1 (by omega) (by omega)
  have hln := zp0 (cd + tzI f)
  have hlU := zgx (n := cd + tzI f) (by omega)
  have hRs := zge (g := cd + tzI f) (v := fun j => PteC.zcc (prt q 2 j)) h.s
  have hRl := zid xs (cd + tzI f) (fun j => PteC.zcc (prt q 2 j))
  have hRm := fun i => zms (xs := xs) (g := cd + tzI f) (v := fun j => PteC.zcc (prt q 2 j)) i
  have hxu := h.u
  have hpU : ∀ i : Int, (0 ≤ i ∧ i < 512) → (prt q 2 i).U := fun i hi => (zdf hqU hqm (by omega) h1 h2 hi).1
  have hRu : ∀ i, i ≤ 512 → Uw (zer xs (cd + tzI f) (fun j => PteC.zcc (prt q 2 j)) i) := fun i hi c hc => by
    rcases hRm i c hc with hc | ⟨j, hj, rfl, _⟩
    · exact hxu c hc
    · exact ⟨⟨by show 0 ≤ (cd + tzI f) * 512 + (j : Int); omega, by show (cd + tzI f) * 512 + (j : Int) < 18446744073709551616; omega⟩, zf9 _ (hpU j (by omega))⟩
  have hfin := ze8 sz (zer xs (cd + tzI f) (fun j => PteC.zcc (prt q 2 j)) 512) t 2 q a (lnk (cd + tzI f)) ha hlU (by omega) (by omega) (by omega) (hRs 512) (hRu 512 (by omega)) (by have := hRl 512; omega)
  have hpb : 0 ≤ q.ppn ∧ q.ppn < 17592186044416 := by rw [hq]; exact zdo ..
  refine zaf 76 Tryz.func119 rfl rfl rfl rfl ?_ GG.to
  intro W A hG
  unfold zhe
  generalize hgen : cd + tzI f = g at *
  generalize zb9 f (tzI f) 1 0 = f2 at *
  repeat (first | (refine zal rfl ?_; first | refine gdr (zaa (.inl rfl) rfl) ?_ | refine gnk 1 rfl (za2 tb rfl rfl rfl rfl rfl) ?_ | refine gnx 1 rfl (zbc tb rfl rfl rfl) rfl ?_ | refine gdr (zaa (.inr rfl) rfl) ?_ | refine gdr (zak rfl rfl rfl rfl) ?_ | refine gdr (za6 rfl rfl rfl rfl) ?_ | refine gdr (zag rfl rfl rfl rfl rfl rfl) ?_ | refine gdr (zae rfl rfl rfl rfl rfl) ?_ | refine gnk 1 rfl (zbe rfl rfl rfl rfl rfl rfl rfl) ?_ | refine gdr (zab rfl rfl rfl (hf) (by kernel_rfl)) ?_ | refine gdr (zab rfl rfl rfl (hba) (by kernel_rfl)) ?_) | (refine hK _ ?_; clear hK K) | refine zad rfl ?_ | refine zah rfl rfl ?_ | refine zam ?_ | refine zao ?_ | refine zac (fun K hK => ?_))
  refine za9 (α := Nat × Int) (fun p => p.1 ≤ 512) (fun p => leH sz cd cp a t 2 g (VaSpec.base a 2) q (zer xs g (fun j => PteC.zcc (prt q 2 j)) p.1) f2 p.1 p.2) (fun p => 512 - p.1) (0, q.ppn) (by show 0 ≤ 512; omega) (zar _ _ ⟨by kernel_rfl, by kernel_rfl, by kernel_rfl, by kernel_rfl, by kernel_rfl, by kernel_rfl, by kernel_rfl, by kernel_rfl, by kernel_rfl, by kernel_rfl, by kernel_rfl, trivial⟩ ⟨by kernel_rfl, by kernel_rfl, by kernel_rfl, by kernel_rfl, by kernel_rfl, by kernel_rfl, trivial⟩ (by kernel_rfl)) ?_
  rintro ⟨i, n⟩ x1
  have g1 : i ≤ 512 := x1
  show Aw _ _ _ _ (leH sz cd cp a t 2 g (VaSpec.base a 2) q (zer xs g (fun j => PteC.zcc (prt q 2 j)) i) f2 i n)
  unfold leH
  by_cases hlt : i < 512
  · obtain ⟨e1, e2, e3, e4⟩ := zr1 (a := a) (i := (i : Int)) 2 (by omega) ha (by omega)
    have e1 : idx (VaSpec.base a 2 + (i : Int) * 2097152) (2 - 1) = (i : Int) := e1
    have e2 : U (VaSpec.base a 2 + (i : Int) * 2097152) := e2
    have e4 : VaSpec.base a 2 + 512 * 2097152 ≤ 18446744073709551616 := e4
    have epp : q.ppn + (i : Int) * 2097152 / 4096 = q.ppn + (i : Int) * 512 := by omega
    have hwt := ze8 sz (zer xs g (fun j => PteC.zcc (prt q 2 j)) i) g (2 - 1) ⟨false, false, false, false, false, false, false, false, 0, 0, 0⟩ (VaSpec.base a 2 + (i : Int) * 2097152) (prt q 2 i) e2 (hpU i (by omega)) (by omega) (by omega) hg (hRs i) (hRu i g1) (by have := hRl i; omega)
    rw [e1, zen (hpU i (by omega)) hg.1 (by omega) (by omega)] at hwt
    have hrw : prt q 2 (i : Int) = ⟨q.v, q.r, q.w, q.x, q.u, q.g, q.a, q.d, q.rsw, q.ppn + (i : Int) * 2097152 / 4096, q.high⟩ := by rw [epp]; rfl
    have hwt : Ok 54 [zbm sz (zer xs g (fun j => PteC.zcc (prt q 2 j)) i), .ag (zbi g (2 - 1) ⟨false, false, false, false, false, false, false, false, 0, 0, 0⟩), iu (VaSpec.base a 2 + (i : Int) * 2097152), .ag (⟨q.v, q.r, q.w, q.x, q.u, q.g, q.a, q.d, q.rsw, q.ppn + (i : Int) * 2097152 / 4096, q.high⟩ : Pte).ce] (.m (zbm sz (zer xs g (fun j => PteC.zcc (prt q 2 j)) (i + 1)))) := by
      rw [← hrw]; exact hwt
    obtain ⟨ys1, hys⟩ : ∃ ys1, ys1 = zer xs g (fun j => PteC.zcc (prt q 2 j)) (i + 1) := ⟨_, rfl⟩
    rw [← hys] at hwt
    generalize zer xs g (fun j => PteC.zcc (prt q 2 j)) i = ys at *
    have hb0 := e3.1
    generalize VaSpec.base a 2 = b at *
    repeat (first | (refine zal rfl ?_; first | refine gdr (zaa (.inl rfl) rfl) ?_ | refine gnk 1 rfl (za2 tb rfl rfl rfl rfl rfl) ?_ | refine gnx 1 rfl (zbc tb rfl rfl rfl) rfl ?_ | refine gdr (zaa (.inr rfl) rfl) ?_ | refine gdr (za6 rfl rfl rfl rfl) ?_ | refine gdr (gar rfl rfl rfl rfl) ?_ | refine gdr (zbs rfl rfl rfl rfl (by omega) (by omega) (by first | exact zdb (by omega) (by omega) | exact zdc (by omega) (by omega))) ?_ | refine gnk 1 rfl (zbe rfl rfl rfl rfl rfl rfl rfl) ?_ | refine gdr (zaq rfl rfl rfl rfl) ?_ | refine gdr (zab rfl rfl rfl (hsz1) (by kernel_rfl)) ?_ | refine gdr (zab rfl rfl rfl (hwt) (by kernel_rfl)) ?_) | (refine hK _ ?_; clear hK K) | refine zad rfl ?_ | refine za4 (by kernel_rfl) (by kernel_rfl) rfl ?_ | refine zai rfl rfl ?_ | refine zam ?_ | refine zao ?_ | refine zac (fun K hK => ?_))
    refine ⟨(i + 1, q.ppn + (i : Int) * 2097152 / 4096), by show i + 1 ≤ 512; omega, by show 512 - (i + 1) < 512 - i; omega, ?_⟩
    show Sub _ _ (leH sz cd cp a t 2 g b q (zer xs g (fun j => PteC.zcc (prt q 2 j)) (i + 1)) f2 (i + 1) (q.ppn + (i : Int) * 2097152 / 4096))
    rw [← hys]
    exact zar _ _ ⟨by kernel_rfl, by kernel_rfl, by kernel_rfl, by kernel_rfl, by kernel_rfl, by kernel_rfl, by kernel_rfl, by kernel_rfl, by kernel_rfl, by kernel_rfl, by kernel_rfl, trivial⟩ ⟨by kernel_rfl, by kernel_rfl, by kernel_rfl, by kernel_rfl, by kernel_rfl, by kernel_rfl, trivial⟩ (by kernel_rfl)
  · obtain rfl : i = 512 := by omega
    generalize zer xs g (fun j => PteC.zcc (prt q 2 j)) 512 = ys at *
    repeat (first | (refine zal rfl ?_; first | refine gdr (zaa (.inl rfl) rfl) ?_ | refine gnk 1 rfl (za2 tb rfl rfl rfl rfl rfl) ?_ | refine gdr (zaa (.inr rfl) rfl) ?_ | refine gdr (za6 rfl rfl rfl rfl) ?_ | refine gnk 1 rfl (zbe rfl rfl rfl rfl rfl rfl rfl) ?_ | refine gdr (zab rfl rfl rfl (hln) (by kernel_rfl)) ?_ | refine gdr (zab rfl rfl rfl (hfin) (by kernel_rfl)) ?_) | (refine hK _ ?_; clear hK K) | (rename_i K1 hK1; refine hK1 _ ?_; clear hK hK1; clear K) | refine zad rfl ?_ | refine za4 (by kernel_rfl) (by kernel_rfl) rfl ?_ | exact zap (show za8 _ _ _ = some _ by kernel_rfl) | refine zah rfl rfl ?_ | refine zba ?_ | refine zac (fun K hK => ?_))
theorem zr2 (sz cd addr zaz top : Int) (lv n : Nat) (xs : List (Int × Int)) (f : Int) : toN sz cd addr zaz top lv (n + 1) xs f = if (za3 sz xs addr zaz lv top).2 = zaz ∨ zbr (atM sz xs (za3 sz xs addr zaz lv top).1 (idx addr (za3 sz xs addr zaz lv top).2)) = false then (xs, f, za3 sz xs addr zaz lv top, 0)
    else if f = 0 then (xs, f, za3 sz xs addr zaz lv top, 8)
    else toN sz cd addr zaz top lv n (zhe sz xs (za3 sz xs addr zaz lv top).1 (idx addr (za3 sz xs addr zaz lv top).2) (za3 sz xs addr zaz lv top).2 (atM sz xs (za3 sz xs addr zaz lv top).1 (idx addr (za3 sz xs addr zaz lv top).2)) (cd + tzI f)) (zb9 f (tzI f) 1 0) := rfl
def toH (sz cd cp top lv addr zaz : Int) (xs0 : List (Int × Int)) (f0 : Int) (xs : List (Int × Int)) (f : Int) : St := St.of [(2, .m (iu top)), (3, .m (ii lv)), (4, .m (iu addr)), (5, .m (ii zaz)), (6, .m (.c (.p 6 0))), (7, .m (.c (.p 7 0))), (12, .m (.c (.p 12 0))), (13, .m (.c (.p 13 0))), (14, .m (.c (.p 14 0))), (15, .m (ii 0)), (16, .m (.c (.p 16 0))), (17, .m (.c (.p 17 0)))] [(6, .live (.box [cu sz, .s xs0.length 2 (fl xs0)])), (7, .live (.box [cu cd, ci cp, cu f0])), (12, .live (.box [cu 0, .v (.slice none 0 0)])), (13, .live (.box [cu 0, ci 0, cu 0])), (14, .live (.box (zbi 0 0 zP))), (16, .live (.box [cu sz, .s xs.length 2 (fl xs)])), (17, .live (.box [cu cd, ci cp, cu f]))]
theorem z39 {cd cp sz sh : Int} (top addr zaz : Int) (l : Nat) (xs0 : List (Int × Int)) (f0 : Int) (lv0 : Int → Int) (h : TI cd cp sz xs0 f0 sh lv0) (ht : Al cd cp f0 top) (hsh : Al cd cp f0 sh) (hlt : lv0 top = l) (ha : U addr) (hl : l ≤ 2) (hw : 0 ≤ zaz) (hwl : zaz ≤ (l : Int)) (hn : xs0.length ≤ 90000)
    (R : List (Int × Int) × Int × (Int × Int) × Int) (hR : R = toN sz cd addr zaz top l l xs0 f0) :
    Ok 49 [zbm sz xs0, .ag [cu cd, ci cp, cu f0], iu top, ii l, iu addr, ii zaz]
      (.tu (if R.2.2.2 = 0 then [zbm sz R.1, .ag [cu cd, ci cp, cu R.2.1], .ag (zga sz R.1 addr R.2.2.1), ii 0] else [zbm sz xs0, .ag [cu cd, ci cp, cu f0], .ag (zbi 0 0 zP), ii R.2.2.2])) := by
  have hcd := h.bd
  have hcp := h.bp
  obtain ⟨V, hV⟩ : ∃ V, V = (if R.2.2.2 = 0 then [zbm sz R.1, .ag [cu cd, ci cp, cu R.2.1], .ag (zga sz R.1 addr R.2.2.1), ii 0] else [zbm sz xs0, .ag [cu cd, ci cp, cu f0], .ag (zbi 0 0 zP), ii R.2.2.2]) := ⟨_, rfl⟩
  rw [← hV]
  have hcl : (zc8 (.tu V) && [zbm sz xs0, .ag [cu cd, ci cp, cu f0], iu top, ii l, iu addr, ii zaz].all zcu) = true := by
    rw [hV]; split <;> rfl
  refine zaf 60 Tryz.func49 rfl hcl rfl rfl ?_ GG.to
  intro W A hG
  repeat (first | (refine zal rfl ?_; first | refine gnk 1 rfl (za2 tb rfl rfl rfl rfl rfl) ?_ | refine gdr (zaa (.inr rfl) rfl) ?_ | refine gdr (zag rfl rfl rfl rfl rfl rfl) ?_ | refine gdr (zae rfl rfl rfl rfl rfl) ?_ | refine gnk 1 rfl (zbe rfl rfl rfl rfl rfl rfl rfl) ?_) | (refine hK _ ?_; clear hK K) | refine zad rfl ?_ | refine za4 (by kernel_rfl) (by kernel_rfl) rfl ?_ | refine zam ?_ | refine zac (fun K hK => ?_))
  obtain ⟨r0, r1, r2, r3, r4, r5, r6, _⟩ := zda h addr zaz hw l top ht hlt hwl
  refine za9 (α := Nat × List (Int × Int) × Int × (Int → Int)) (fun q => TI cd cp sz q.2.1 q.2.2.1 sh q.2.2.2 ∧ Al cd cp q.2.2.1 top ∧ Al cd cp q.2.2.1 sh ∧ q.2.2.2 top = l ∧ q.2.1.length + 513 * q.1 ≤ 100000 ∧ toN sz cd addr zaz top l q.1 q.2.1 q.2.2.1 = R ∧ (za3 sz q.2.1 addr zaz l top).2 ≤ zaz + q.1)
    (fun q => toH sz cd cp top l addr zaz xs0 f0 q.2.1 q.2.2.1) (fun q => q.1) (l, xs0, f0, lv0) ⟨h, ht, hsh, hlt, by show xs0.length + 513 * l ≤ _; omega, hR.symm, by show (za3 sz xs0 addr zaz l top).2 ≤ zaz + l; rw [r2]; show (r0 : Int) ≤ _; omega⟩ (zar _ _ ⟨by kernel_rfl, by kernel_rfl, by kernel_rfl, by kernel_rfl, by kernel_rfl, by kernel_rfl, by kernel_rfl, by kernel_rfl, by kernel_rfl, by kernel_rfl, by kernel_rfl, by kernel_rfl, trivial⟩ ⟨by kernel_rfl, by kernel_rfl, by kernel_rfl, by kernel_rfl, by kernel_rfl, by kernel_rfl, by kernel_rfl, trivial⟩ (by kernel_rfl)) ?_
  clear r2 r3 r4 r5 r6
  rintro ⟨n, xs, f, lv⟩ ⟨x1, x2, x3, x4, x5, x6, x7⟩
  have g1 : TI cd cp sz xs f sh lv := x1
  have g2 : Al cd cp f top := x2
  have g3 : Al cd cp f sh := x3
  have g4 : lv top = l := x4
  have g5 : xs.length + 513 * n ≤ 100000 := x5
  have g6 : toN sz cd addr zaz top l n xs f = R := x6
  have g7 : (za3 sz xs addr zaz l top).2 ≤ zaz + (n : Int) := x7
  clear x1 x2 x3 x4 x5 x6 x7
  show Aw _ _ _ _ (toH sz cd cp top l addr zaz xs0 f0 xs f)
  unfold toH
  obtain ⟨l', t', i1, i2, i3, i4, i5, i6, i7⟩ := zda g1 addr zaz hw l top g2 g4 hwl
  have ub := g1.u
  have bt := g2.1
  have bt' := i4.1
  have hr := zgp sz xs top (l : Int) addr zaz ⟨by omega, by omega⟩ ha (by omega) (by omega) hw g1.s ub
  rw [show zc0 sz xs addr zaz (l : Int) top = (t', (l' : Int)) by unfold zc0; rw [Int.toNat_natCast, i1]] at hr
  rw [i1] at g7
  have g7 : (l' : Int) ≤ zaz + (n : Int) := g7
  have hi := idx_bd addr (l' : Int)
  have hstop : ((l' : Int) = zaz ∨ zbr (atM sz xs t' (idx addr (l' : Int))) = false) → R = (xs, f, (t', (l' : Int)), 0) := fun hor => by
    rw [← g6]
    cases n with
    | zero => show (xs, f, za3 sz xs addr zaz l top, 0) = _; rw [i1]
    | succ n => unfold toN; rw [i1, if_pos hor]
  have hgo : ¬ ((l' : Int) = zaz ∨ zbr (atM sz xs t' (idx addr (l' : Int))) = false) → ∃ m, n = m + 1 ∧ R = if f = 0 then (xs, f, (t', (l' : Int)), 8) else toN sz cd addr zaz top l m (zhe sz xs t' (idx addr (l' : Int)) (l' : Int) (atM sz xs t' (idx addr (l' : Int))) (cd + tzI f)) (zb9 f (tzI f) 1 0) := fun hor => by
    cases n with
    | zero => exact absurd (.inl (by omega)) hor
    | succ n => exact ⟨n, rfl, by rw [← g6, zr2, i1, if_neg hor]⟩
  have h3 := ziy (atM sz xs t' (idx addr (l' : Int)))
  have hk := g1.e.k t' _ hi
  obtain ⟨q, hq⟩ : ∃ q, q = atM sz xs t' (idx addr (l' : Int)) := ⟨_, rfl⟩
  unfold zga at hr
  rw [show (t', (l' : Int)).1 = t' from rfl, show (t', (l' : Int)).2 = (l' : Int) from rfl] at hr
  by_cases c1 : (l' : Int) = zaz
  · have e := hstop (.inl c1)
    subst e
    have hV : V = [zbm sz xs, .ag [cu cd, ci cp, cu f], .ag (zbi t' (l' : Int) (atM sz xs t' (idx addr (l' : Int)))), ii 0] := hV
    rw [← hq] at hV hr h3
    subst hV
    repeat (first | (refine zal rfl ?_; first | refine gdr (zaw rfl) ?_ | refine gdr (zaa (.inl rfl) rfl) ?_ | refine gnk 1 rfl (za2 tb rfl rfl rfl rfl rfl) ?_ | refine gnx 1 rfl (zbc tb rfl rfl rfl) rfl ?_ | refine gdr (zaa (.inr rfl) rfl) ?_ | refine gdr (zaj rfl rfl rfl) ?_ | refine gdr (za6 rfl rfl rfl rfl) ?_ | refine gdr (zae rfl rfl rfl rfl rfl) ?_ | refine gnk 1 rfl (zbe rfl rfl rfl rfl rfl rfl rfl) ?_ | refine gdr (zab rfl rfl rfl (hr) (by kernel_rfl)) ?_) | (refine hK _ ?_; clear hK K) | refine zad rfl ?_ | refine za4 (by kernel_rfl) (by kernel_rfl) rfl ?_ | exact zap (show za8 _ _ _ = some _ by kernel_rfl) | refine zai rfl rfl ?_ | refine zam ?_ | refine zac (fun K hK => ?_))
  · cases hlf : zbr (atM sz xs t' (idx addr (l' : Int))) with
    | false =>
      have e := hstop (.inr hlf)
      subst e
      have hV : V = [zbm sz xs, .ag [cu cd, ci cp, cu f], .ag (zbi t' (l' : Int) (atM sz xs t' (idx addr (l' : Int)))), ii 0] := hV
      rw [hlf] at h3
      rw [← hq] at hV hr h3
      subst hV
      repeat (first | (refine zal rfl ?_; first | refine gdr (zaa (.inl rfl) rfl) ?_ | refine gnk 1 rfl (za2 tb rfl rfl rfl rfl rfl) ?_ | refine gnx 1 rfl (zbc tb rfl rfl rfl) rfl ?_ | refine gdr (zaa (.inr rfl) rfl) ?_ | refine gdr (zaj rfl rfl rfl) ?_ | refine gdr (za6 rfl rfl rfl rfl) ?_ | refine gdr (zae rfl rfl rfl rfl rfl) ?_ | refine gnk 1 rfl (zbe rfl rfl rfl rfl rfl rfl rfl) ?_ | refine gdr (zas rfl rfl rfl) ?_ | refine gdr (zab rfl rfl rfl (hr) (by kernel_rfl)) ?_ | refine gdr (zab rfl rfl rfl (h3) (by kernel_rfl)) ?_) | (refine hK _ ?_; clear hK K) | refine zad rfl ?_ | refine za4 (by kernel_rfl) (by kernel_rfl) rfl ?_ | exact zap (show za8 _ _ _ = some _ by kernel_rfl) | refine zai rfl rfl ?_ | refine zam ?_ | refine zac (fun K hK => ?_))
    | true =>
      rw [hlf] at h3
      obtain ⟨m, rfl, e⟩ := hgo (by rw [hlf]; rintro (e | e); exact c1 e; cases e)
      have hbad : zej (atM sz xs t' (idx addr (l' : Int))) (l' : Int) = false := by
        rcases hk with e | ⟨_, _, ⟨_, e⟩ | ⟨e, _⟩⟩
        · rw [e] at hlf; cases hlf
        · rw [i5] at e; exact e
        · rw [(zfa e).2.2] at hlf; cases hlf
      by_cases c4 : f = 0
      · rw [if_pos c4] at e
        subst e
        subst c4
        have hV : V = [zbm sz xs0, .ag [cu cd, ci cp, cu f0], .ag (zbi 0 0 zP), ii 8] := hV
        subst hV
        have hlo := z07 cd cp sz xs t' (l' : Int) q addr ⟨by omega, by omega⟩ ⟨by omega, by omega⟩
        rw [← hq] at hr h3
        repeat (first | (refine zal rfl ?_; first | refine gdr (zaa (.inl rfl) rfl) ?_ | refine gnk 1 rfl (za2 tb rfl rfl rfl rfl rfl) ?_ | refine gnx 1 rfl (zbc tb rfl rfl rfl) rfl ?_ | refine gdr (zaa (.inr rfl) rfl) ?_ | refine gdr (zaj rfl rfl rfl) ?_ | refine gdr (zak rfl rfl rfl rfl) ?_ | refine gdr (za6 rfl rfl rfl rfl) ?_ | refine gdr (zae rfl rfl rfl rfl rfl) ?_ | refine gnk 1 rfl (zbe rfl rfl rfl rfl rfl rfl rfl) ?_ | refine gdr (zas rfl rfl rfl) ?_ | refine gdr (zaq rfl rfl rfl rfl) ?_ | refine gdr (zab rfl rfl rfl (hr) (by kernel_rfl)) ?_ | refine gdr (zab rfl rfl rfl (h3) (by kernel_rfl)) ?_ | refine gdr (zab rfl rfl rfl (hlo) (by kernel_rfl)) ?_) | (refine hK _ ?_; clear hK K) | refine zad rfl ?_ | refine za4 (by kernel_rfl) (by kernel_rfl) rfl ?_ | exact zap (show za8 _ _ _ = some _ by kernel_rfl) | refine zai rfl rfl ?_ | refine zah rfl rfl ?_ | refine zam ?_ | refine zao ?_ | refine zac (fun K hK => ?_))
      · rw [if_neg c4] at e
        obtain ⟨a0, a1, a2, a3⟩ := zd8 g1 c4
        clear hk hgo hstop
        obtain ⟨p, rfl⟩ := Nat.exists_eq_add_one_of_ne_zero (show l' ≠ 0 from fun e => c1 (by rw [e] at i3 ⊢; exact Int.le_antisymm hw i3))
        have hT := zro g1 c4 i4 g3 hi i5 (by omega) rfl hlf hbad
        obtain ⟨s1, s2⟩ := zka g1 c4 addr zaz hw i4 i5 (by omega) (by omega) hlf hbad
        have hre := (i7 _ s1).trans s2
        have hsl := zp3 sz xs t' (idx addr ((p + 1 : Nat) : Int)) ((p + 1 : Nat) : Int) (atM sz xs t' (idx addr ((p + 1 : Nat) : Int))) (cd + tzI f)
        have hlo : Ok 119 [zbm sz xs, .ag [cu cd, ci cp, cu f], .ag (zbi t' ((p + 1 : Nat) : Int) (atM sz xs t' (idx addr ((p + 1 : Nat) : Int)))), iu addr] (.tu [zbm sz (zhe sz xs t' (idx addr ((p + 1 : Nat) : Int)) ((p + 1 : Nat) : Int) (atM sz xs t' (idx addr ((p + 1 : Nat) : Int))) (cd + tzI f)), .ag [cu cd, ci cp, cu (zb9 f (tzI f) 1 0)], ii 0]) := by
          rcases (by omega : p = 0 ∨ p = 1) with rfl | rfl
          · exact zx4 g1 c4 (by omega) ha i4 rfl hlf hbad
          · exact zx5 g1 c4 (by omega) ha i4 rfl hlf hbad
        have htop := (if_neg (a0 _ g2).2 : upL lv (cd + tzI f) (((p + 1 : Nat) : Int) - 1) top = lv top).trans g4
        generalize zhe sz xs t' (idx addr ((p + 1 : Nat) : Int)) ((p + 1 : Nat) : Int) (atM sz xs t' (idx addr ((p + 1 : Nat) : Int))) (cd + tzI f) = xs2 at *
        rw [← hq] at hr h3 hlo
        repeat (first | (refine zal rfl ?_; first | refine gdr (zaa (.inl rfl) rfl) ?_ | refine gnk 1 rfl (za2 tb rfl rfl rfl rfl rfl) ?_ | refine gnx 1 rfl (zbc tb rfl rfl rfl) rfl ?_ | refine gdr (zaa (.inr rfl) rfl) ?_ | refine gdr (zaj rfl rfl rfl) ?_ | refine gdr (zak rfl rfl rfl rfl) ?_ | refine gdr (za6 rfl rfl rfl rfl) ?_ | refine gdr (zae rfl rfl rfl rfl rfl) ?_ | refine gnk 1 rfl (zbe rfl rfl rfl rfl rfl rfl rfl) ?_ | refine gdr (zas rfl rfl rfl) ?_ | refine gdr (zab rfl rfl rfl (hr) (by kernel_rfl)) ?_ | refine gdr (zab rfl rfl rfl (h3) (by kernel_rfl)) ?_ | refine gdr (zab rfl rfl rfl (hlo) (by kernel_rfl)) ?_) | (refine hK _ ?_; clear hK K) | refine zad rfl ?_ | refine za4 (by kernel_rfl) (by kernel_rfl) rfl ?_ | refine zah rfl rfl ?_ | refine zam ?_ | refine zao ?_ | refine zac (fun K hK => ?_))
        exact ⟨(m, xs2, zb9 f (tzI f) 1 0, upL lv (cd + tzI f) (((p + 1 : Nat) : Int) - 1)), ⟨hT, (a0 _ g2).1, (a0 _ g3).1, htop, by show xs2.length + 513 * m ≤ 100000; omega, e.symm, by show (za3 sz xs2 addr zaz l top).2 ≤ zaz + (m : Int); rw [hre]; show (p : Int) ≤ _; omega⟩, by show m < m + 1; omega, zar _ _ ⟨by kernel_rfl, by kernel_rfl, by kernel_rfl, by kernel_rfl, by kernel_rfl, by kernel_rfl, by kernel_rfl, by kernel_rfl, by kernel_rfl, by kernel_rfl, by kernel_rfl, by kernel_rfl, trivial⟩ ⟨by kernel_rfl, by kernel_rfl, by kernel_rfl, by kernel_rfl, by kernel_rfl, by kernel_rfl, by kernel_rfl, trivial⟩ (by kernel_rfl)⟩
end Go.Proofs.YtmkjfeamgknpfaaGreatDoor.LjC
namespace Go.Proofs.YtmkjfeamgknpfaaGreatDoor.Ax
open Go.RowKit MemL RegR MemC MemC3 PutC LaA IterE PteSpec BitsC OkS Go
section
variable {P : Program} {X : Cx} {S : St} {τ : Nat → Value} {a : Act} {w : World}
theorem zom {G : World → Prop} {N : Nat} {W0 : World} {A : Nat → Prop} {hG : ∀ w, Below W0.heap.size W0 w → G w} {fn : Func} {m : Cm} {D : Nat} {W : World} (hres : ze7 N fn.results.toList = true) (hcl : zcu m = true) (hkb : Kept (Cx.of N W0 A G hG).K (Cx.of N W0 A G hG).W0 W) (hlt : D < W.heap.size) (hDW : W0.heap.size ≤ D) (hK : W.heap[D]? = some (.deferred (some [])))
    {S' : St} {τ' : Nat → Value} {a' : Act} {w' : World} (s : SimT (cxD (Cx.of N W0 A G hG) W D hkb hlt) S' τ' a' w') (hra : za8 P fn S' = some (.m m)) : LeavesInM Fence.wide 5 P fn a'.tmps (zpt W0 A (.m m)) a'.defers .returning w' := by
  have hK' : w'.heap[D]? = some (.deferred (some [])) := (s.bel.block D (.inr rfl)).trans hK
  let X2 : Cx := { cxD (Cx.of N W0 A G hG) W D hkb hlt with
    K := (Cx.of N W0 A G hG).K
    hK := fun g hg => Nat.lt_of_lt_of_le ((Cx.of N W0 A G hG).hK g hg) hkb.size
    hG := fun w h => hG w ((hkb.trans h).below (fun _ h => h)) }
  have s2 : SimT X2 S' τ' a' w' := ⟨s.size, s.nodef, s.bel.mono fun _ => .inl, s.tm, s.hp, fun b g hb ho => ⟨fun k => (s.own b g hb ho).1 (.inl k), (s.own b g hb ho).2⟩, s.sep, s.one, fun p hp => by cases hp⟩
  have s3 : SimT X2 S' τ' a' (w'.putObj D (.deferred none)) := zj0 s2 (grownBy_putObj' w' D (.deferred none)) (fun r e => by cases e; exact ⟨⟨_, hK', rfl⟩, fun k => by
    have : D < W0.heap.size := (Cx.of N W0 A G hG).hK D k
    omega⟩)
  have b3 : Below W0.heap.size W0 (w'.putObj D (.deferred none)) := by
    have b1 : Below W0.heap.size W0 W := hkb.below fun _ h => h
    have b2 : Below W0.heap.size W w' := s.bel.below fun _ h => .inl h
    exact (b1.trans b2).trans ((Below.refl _ _).grown (grownBy_putObj' w' D (.deferred none)) (Nat.le_trans b1.size b2.size) (fun k e => by cases e; exact hDW))
  have hrun : ∃ v, (results fn a'.tmps).run P (w'.putObj D (.deferred none)) = .ok v (w'.putObj D (.deferred none)) ∧ zpt W0 A (.m m) (.returned v) (w'.putObj D (.deferred none)) := by
    unfold za8 at hra
    split at hra
    · rename_i m' hm
      cases hra
      obtain ⟨vs', h1, h2⟩ := ze2 s3 _ _ hres hm
      obtain ⟨v, rfl⟩ : ∃ v, vs' = [v] := by
        cases vs' with
        | nil => exact h2.elim
        | cons v l => cases l with | nil => exact ⟨v, rfl⟩ | cons _ _ => exact h2.2.elim
      refine ⟨v, ?_, v, rfl, b3, (zf0 (E := ⟨_, _, τ', _⟩) (F := en0 (fun g => A g ∨ W0.heap.size ≤ g) (w'.putObj D (.deferred none))) rfl (fun g _ hg => hg) _ _ hcl h2.1 : Cm.R _ _ _)⟩
      rw [zd6, Array.mapM_eq_mapM_toList]
      simp only [Sem.run_bind, Sem.run_map, h1, Result.andThen_ok, Sem.run_pure]
      rfl
    · cases hra
    · cases hra
  obtain ⟨v, hv, hM⟩ := hrun
  rw [s.nodef]
  exact ⟨by simp, .inl ⟨_, _, rfl, run_takeDeferred hK', ⟨_, hv, hM⟩⟩⟩
theorem zqi {G : World → Prop} {N : Nat} {W0 : World} {A : Nat → Prop} {hG : ∀ w, Below W0.heap.size W0 w → G w} {fn : Func} {rest : Code} {m : Cm} {D : Nat} {W : World} (hres : ze7 N fn.results.toList = true) (hcl : zcu m = true) (hs : SimT (Cx.of N W0 A G hG) S τ a W) (hDW : W0.heap.size ≤ D) (hK : W.heap[D]? = some (.deferred (some [])))
    (h : ∀ (hk : Kept (Cx.of N W0 A G hG).K (Cx.of N W0 A G hG).W0 W) (hD : D < W.heap.size), Aw P (cxD (Cx.of N W0 A G hG) W D hk hD) rest (fun e S' => (e = .normal ∨ e = .ret) ∧ za8 P fn S' = some (.m m)) S) :
    rest.wp P (bodyPostM Fence.wide 5 P fn (zpt W0 A (.m m))) { a with defers := { target := .collected D, args := #[] } :: a.defers } W := by
  have hlt : D < W.heap.size := (Array.getElem?_eq_some_iff.1 hK).1
  have s1 := zps hs rfl ⟨_, hK, rfl⟩ hlt
  refine wp_mono (zsx rfl (h hs.bel hlt) ⟨_, s1⟩) ?_
  intro e a' w' ⟨S', ⟨he, hra⟩, τ', s⟩
  have key := zom hres hcl hs.bel hlt hDW hK s hra
  rcases he with rfl | rfl
  · exact key
  · exact key
theorem zv2 {G : World → Prop} {N : Nat} {W0 : World} {A : Nat → Prop} {hG : ∀ w, Below W0.heap.size W0 w → G w} {fn : Func} {m : Cm} {D : Nat} {W : World} {Q : Exit → Act → World → Prop} (hres : ze7 N fn.results.toList = true) (hcl : zcu m = true) (hs : SimT (Cx.of N W0 A G hG) S τ a W) (hDW : W0.heap.size ≤ D) (hK : W.heap[D]? = some (.deferred (some [])))
    (hra : za8 P fn S = some (.m m)) (hQ : ∀ a' w', LeavesInM Fence.wide 5 P fn a'.tmps (zpt W0 A (.m m)) a'.defers .returning w' → Q .ret a' w') :
    Code.ret.wp P Q { a with defers := { target := .collected D, args := #[] } :: a.defers } W := by
  have hlt : D < W.heap.size := (Array.getElem?_eq_some_iff.1 hK).1
  have s1 := zps hs rfl ⟨_, hK, rfl⟩ hlt
  exact wp_ret (hQ _ _ (zom hres hcl hs.bel hlt hDW hK s1 hra))
set_option maxHeartbeats 1000000 in
theorem z28 {X : Cx} {S : St} {τ0 : Nat → Value} {a : Act} {w : World} {t p1 p2 : Tmp} {assign body : Code} {Q : Exit → Act → World → Prop} {sz f : Int} {xs : List (Int × Int)} (hf : 0 ≤ f ∧ f < 17592186044416) (hs : Srt xs) (hu : Uw xs)
    (hdf : X.df = []) (ts : List (Nat × Nat)) (ns : List Nat) (n1 n2 : Nat) (bs : List (Nat × Hs)) (mid : Ie sz xs f → St)
    (hS : SimT (cxP X τ0 ns) S τ0 a w) (htN : t < X.N) (hcl : S.tm t = .m (.c (.cl 162 [n1, n2])))
    (hts : ∀ p ∈ ts, S.tm p.1 = .m (.c (.p p.2 0)) ∧ p.2 ∈ ns ∧ p.1 < X.N) (hns : ∀ b ∈ ns, ∃ cs, S.hp b = .live (.box cs)) (hb0 : EqB S bs) (m1 : n1 ∈ ns) (m2 : n2 ∈ ns)
    (hbs : (bs.all (fun p => (idK p.2).all (znl · bs)) && ns.all (fun b => znl b bs)) = true)
    (hn1 : look Hs.fresh bs n1 = .live (.box [.v (.int .u64 sz), .s xs.length 2 (fl xs)])) (hn2 : look Hs.fresh bs n2 = .live (.box [.v (.int .u64 f)]))
    (hmid : ∀ x, EqB (mid x) bs) (hself : EqB (St.of [] bs) bs)
    (hA : ∀ (W : World) (l : Nat) (hk : Kept X.K X.W0 W) (x : Ie sz xs f), Aw Tryz.prog (cxR X W l τ0 ns hk) assign (zkt (fun S' => Sub (cxR X W l τ0 ns hk) S' (mid x)) z3k) ((St.of (ptT ts) bs).two p1 p2 (.m (.c (.v (.int .i64 (x.1 : Int))))) (.m (.ag (atM sz xs f x.1).ce))))
    (hB : ∀ (W : World) (l : Nat) (hk : Kept X.K X.W0 W) (x : Ie sz xs f), Aw Tryz.prog (cxR X W l τ0 ns hk) body (fun e S' => e = .ret ∧ Sub (cxR X W l τ0 ns hk) S' (St.of (ptT []) bs)) (mid x))
    (hdone : ∀ (D : Nat) (W : World), w.heap.size ≤ D → (∀ i : Nat, i < 512 → nzB sz xs f i = false) → Sim (cxP X τ0 ns) (St.of (ptT ts) bs) a W → W.heap[D]? = some (.deferred (some [])) → Q .normal { a with defers := { target := .collected D, args := #[] } :: a.defers } W)
    (hstop : ∀ (D : Nat) (W : World) (x : Ie sz xs f), w.heap.size ≤ D → Sim (cxP X τ0 ns) (St.of (ptT ts) bs) a W → W.heap[D]? = some (.deferred (some [])) → Code.ret.wp Tryz.prog Q { a with defers := { target := .collected D, args := #[] } :: a.defers } W) :
    (Code.rangeFunc (.tmp t) #[p1, p2] assign body).wp Tryz.prog Q a w := by
  have hptr : ∀ b ∈ ns, ∃ g, τ0 b = .pointer (some ⟨g, 0, none⟩) := fun b hb => by
    obtain ⟨cs, e⟩ := hns b hb
    obtain ⟨g, vs, e1, _⟩ := hS.hp b _ e
    exact ⟨g, e1⟩
  obtain ⟨b1, e1⟩ := hptr n1 m1
  obtain ⟨b2, e2⟩ := hptr n2 m2
  have hval : a.eval (.tmp t) = .func (.func 162) #[] #[.pointer (some ⟨b1, 0, none⟩), .pointer (some ⟨b2, 0, none⟩)] := by
    have := hS.tm t htN
    rw [hcl] at this
    have this : a.tmps.getD t undef = .func (.func 162) #[] ([n1, n2].map τ0).toArray := this.1
    show a.tmps.getD t undef = _
    rw [this]; simp [e1, e2]
  have hts' : ∀ p ∈ ts, p.2 ∈ ns ∧ a.tmps.getD p.1 undef = τ0 p.2 ∧ ∃ g, τ0 p.2 = .pointer (some ⟨g, 0, none⟩) := fun p hp => by
    obtain ⟨q1, q2, q3⟩ := hts p hp
    have := hS.tm p.1 q3
    rw [q1] at this
    obtain ⟨_, g, r1, r2⟩ := this
    have r1 : τ0 p.2 = .pointer (some ⟨g, 0, none⟩) := r1
    exact ⟨q2, r2.trans r1.symm, g, r1⟩
  have hbs1 : (bs.all fun p => (idK p.2).all (znl · bs)) = true := by rw [Bool.and_eq_true] at hbs; exact hbs.1
  have hbs2 : (ns.all fun b => znl b bs) = true := by rw [Bool.and_eq_true] at hbs; exact hbs.2
  have hent : ∀ {S' : St} {τ' : Nat → Value} {a' : Act} {W' : World}, SimT (cxP X τ0 ns) S' τ' a' W' → EqB S' bs → Ent sz xs f b1 b2 W' := fun {S' τ' a' W'} s h => by
    have hl : ∀ n v, look Hs.fresh bs n = .live v → S'.hp n = .live v := fun n v hv => by
      rcases zl0 h n with e | e
      · rw [e] at hv; cases hv
      · rw [← e]; exact hv
    exact zyt s (hl _ _ hn1) (hl _ _ hn2) m1 m2 e1 e2
  have hE0 : Ent sz xs f b1 b2 w := hent hS hb0
  have hszW : X.W0.heap.size ≤ w.heap.size := hS.bel.size
  have hgr : ∀ (S' : St) (a' : Act), OwnFrom w.heap.size (fun (_ : Unit) W => Sim (cxP X τ0 ns) S' a' W) := fun S' a' _ W W' row ⟨τ', s⟩ hg hr => ⟨τ', zj0 s hg fun r e => ⟨(hr r e).2, fun k => by
    have := X.hK r k; have := (hr r e).1; omega⟩⟩
  have hI0 : Sim (cxP X τ0 ns) (St.of (ptT ts) bs) a w := zgq ⟨τ0, hS⟩ ts bs hb0 hbs1 hbs2 hts' hS.size hS.nodef
  refine (wpIn_wide (n := 5)).1 (wpIn_rangeFunc_ownH (w0 := w) rfl (by omega) (gf := 162) hval trivial (enters_of Tryz.func162 (by kernel_rfl) rfl)
    (zn1 4 (by omega) sz xs f b1 b2 w hE0 hf hs hu) KpE.trans (fun W l o o' _ hl ho _ => KpE.put W l o o' hl ho) (Below.refl _ _) (fun _ => rfl)
    (fun pre W => pre = [] ∧ Sim (cxP X τ0 ns) (St.of (ptT ts) bs) a W) (fun c pre W => c = .ret ∧ Nonempty (Ie sz xs f) ∧ Sim (cxP X τ0 ns) (St.of (ptT ts) bs) a W) (fun s W W' row hi hg hr => ⟨hi.1, hgr _ _ () W W' row hi.2 hg hr⟩) (fun c s W W' row hi hg hr => ⟨hi.1, hi.2.1, hgr _ _ () W W' row hi.2.2 hg hr⟩) ⟨rfl, hI0⟩
    (fun x a' W => Sim (cxP X τ0 ns) (mid x) a' W) (fun x a' _ W W' row hi hg hr => hgr _ _ () W W' row hi hg hr) ?_ ?_ ?_ ?_)
  · intro l pre x W K ⟨hp, hI⟩ hK
    obtain ⟨τ1, s1⟩ := hI
    have hk : Kept X.K X.W0 W := s1.bel
    have s2 := zuz (p1 := p1) (p2 := p2) (v1 := .m (.c (.v (.int .i64 (x.1 : Int))))) (v2 := .m (.ag (atM sz xs f x.1).ce)) (u1 := .int .i64 (x.1 : Int)) (u2 := z1p (atM sz xs f x.1)) (show (cxP X τ0 ns).df = [] from hdf) s1 rfl ⟨_, rfl, rfl, rfl, rfl, rfl, rfl, rfl, rfl, rfl, rfl, rfl, rfl, trivial⟩
    have s3 := zho (l := l) s2 hk
    have ez : (#[p1, p2].zip (z1q sz xs f x)).foldl (fun t (p, v) => t.setIfInBounds p v) a.tmps = (a.tmps.setIfInBounds p1 (.int .i64 (x.1 : Int))).setIfInBounds p2 (z1p (atM sz xs f x.1)) := by simp [z1q]
    rw [ez]
    refine wpIn_mono (hA W l hk x _ W ⟨_, s3⟩ _) ?_
    intro e a' W' ⟨S', q, s4⟩
    cases e with
    | normal =>
      obtain ⟨τ5, s5⟩ := q _ _ s4
      have s6 := zhp s5
      exact hK a' W' (zfq s5 _) ⟨s5.bel.size, fun _ => hent s6 (hmid _)⟩ ⟨hp, zgq ⟨_, s6⟩ ts _ (hmid x) hbs1 hbs2 hts' hS.size hS.nodef⟩ ⟨_, s6⟩
    | _ => exact q.elim
  · intro l pre x a' W hl hr hI ⟨τ2, s2⟩ hlen
    have hk : Kept X.K X.W0 W := s2.bel
    have s3 := zho (l := l) s2 hk
    refine wpIn_mono (hB W l hk x _ W ⟨_, s3⟩ _) ?_
    rintro e a2 W' ⟨S', ⟨rfl, q⟩, s4⟩
    obtain ⟨τ5, s5⟩ := q _ _ s4
    have s6 := zhp s5
    have hq := zj1 (S := St.of [] bs) (S' := St.of (ptT []) bs) rfl _ hself
    exact ⟨zfq s5 _, rfl, ⟨x⟩, zgq ⟨_, s6⟩ ts _ hq hbs1 hbs2 hts' hS.size hS.nodef⟩
  · intro D ys W hD hys ⟨hnil, hI⟩ hK
    refine hdone D W hD (fun i hi => ?_) hI hK
    subst hnil
    have hys : [] = (List.range 512).filter (nzB sz xs f) := hys
    cases e : nzB sz xs f i with
    | false => rfl
    | true =>
      have : i ∈ (List.range 512).filter (nzB sz xs f) := List.mem_filter.2 ⟨List.mem_range.2 hi, e⟩
      rw [← hys] at this; cases this
  · rintro D c pre W hD _ ⟨rfl, ⟨x⟩, hI⟩ hK
    exact wpIn_wide.2 (hstop D W x hD hI hK)
end
end Go.Proofs.YtmkjfeamgknpfaaGreatDoor.Ax
namespace Go.Proofs.YtmkjfeamgknpfaaGreatDoor.LjD
open Go.RowKit Bv VaSpec Base MemL RegR Ax MemC PutC MemC3 TzC OkS SpA SpB SpC SpF LaA IterE LaC LaD LiC
open BitsC PteSpec
set_option maxRecDepth 10000
set_option maxHeartbeats 1000000
def tsE : List (Nat × Nat) := [(2, 2), (4, 4)]
def nsE : List Nat := [2, 4, 1001, 1002]
def bsE (sz : Int) (xs : List (Int × Int)) (top : Int) : List (Nat × Hs) := [(2, .live (.box [cu sz, .s xs.length 2 (fl xs)])), (4, .live (.box [cb false])), (1001, .live (.box [cu sz, .s xs.length 2 (fl xs)])), (1002, .live (.box [cu top]))]
theorem zx6 (sz : Int) (xs : List (Int × Int)) (top : Int) (b : Bool) (ht : 0 ≤ top ∧ top < 17592186044416) (hs : Srt xs) (hu : Uw xs) (hb1 : (∀ i : Nat, i < 512 → nzB sz xs top i = false) → b = true) (hb0 : (∃ i : Nat, i < 512 ∧ nzB sz xs top i = true) → b = false) :
    Ok 182 [zbm sz xs, iu top] (.m (ib b)) := by
  refine zgb 10 Tryz.func182 rfl rfl rfl ?_ GG.to
  intro W A hG
  refine zds (fun K hK => ?_)
  repeat (first | (refine zal rfl ?_; first | refine gdr (zag rfl rfl rfl rfl rfl rfl) ?_ | refine gdr (zae rfl rfl rfl rfl rfl) ?_) | (refine hK _ ?_; clear hK K) | refine zad rfl ?_)
  refine zu0 ?_
  refine zds (fun K hK => ?_)
  repeat (first | (refine zal rfl ?_; first | refine gdr (zaa (.inl rfl) rfl) ?_ | refine gnk 1 rfl (za2 tb rfl rfl rfl rfl rfl) ?_ | refine gdr (zfr (n1 := 1001) (n2 := 1002) rfl rfl rfl rfl rfl rfl) ?_) | (refine hK _ ?_; clear hK K) | refine zad rfl ?_)
  refine zj2 ?_
  refine zj3 (zar [(2, .m (.c (.p 2 0))), (4, .m (.c (.p 4 0))), (7, .m (.c (.cl 162 [1001, 1002])))] (bsE sz xs top)
    ⟨rfl, rfl, rfl, trivial⟩ ⟨rfl, rfl, rfl, rfl, trivial⟩ rfl) ?_
  intro a w ⟨τ0, s⟩
  have s' := zpr (ns := nsE) s (by
    intro b hb
    simp only [nsE, List.mem_cons, List.not_mem_nil, or_false] at hb
    rcases hb with rfl | rfl | rfl | rfl
    all_goals exact ⟨_, rfl⟩)
  refine z28 ht hs hu rfl tsE nsE 1001 1002 (bsE sz xs top) (fun x => St.of [(2, .m (.c (.p 2 0))), (4, .m (.c (.p 4 0)))] (bsE sz xs top)) s' (show 7 < 10 by decide) rfl
    (by
      intro p hp
      simp only [tsE, List.mem_cons, List.not_mem_nil, or_false] at hp
      rcases hp with rfl | rfl
      all_goals exact ⟨rfl, by simp [nsE], by show _ < 10; decide⟩)
    (by
      intro b hb
      simp only [nsE, List.mem_cons, List.not_mem_nil, or_false] at hb
      rcases hb with rfl | rfl | rfl | rfl
      all_goals exact ⟨_, rfl⟩)
    ⟨rfl, rfl, rfl, rfl, trivial⟩ (by simp [nsE]) (by simp [nsE]) rfl rfl rfl (fun _ => ⟨rfl, rfl, rfl, rfl, trivial⟩) ⟨rfl, rfl, rfl, rfl, trivial⟩ ?_ ?_ ?_ ?_
  · intro W l hk x
    repeat (first | refine zao ?_)
    exact zar _ _ ⟨rfl, rfl, trivial⟩ ⟨rfl, rfl, rfl, rfl, trivial⟩ rfl
  · intro W' l hk x
    repeat (first | (refine zal rfl ?_; first | refine gnk 1 rfl (zbe rfl rfl rfl rfl rfl rfl rfl) ?_) | (refine hK _ ?_; clear hK K) | refine zad rfl ?_ | refine zam ?_ | refine zac (fun K hK => ?_))
    exact zap ⟨rfl, zar _ _ trivial ⟨rfl, rfl, rfl, rfl, trivial⟩ rfl⟩
  · intro D W hD hz hI hK
    have hb := hb1 hz
    subst hb
    obtain ⟨τ1, s1⟩ := hI
    have s2 : SimT (Cx.of 10 _ A GG hG) (St.of (ptT tsE) (bsE sz xs top)) τ1 a W := ⟨s1.size, s1.nodef, s1.bel, s1.tm, s1.hp, s1.own, s1.sep, s1.one, fun p hp => by cases hp⟩
    refine zqi rfl rfl s2 (Nat.le_trans s.bel.size hD) hK (fun hk hD => ?_)
    repeat (first | (refine zal rfl ?_; first | refine gnk 1 rfl (zbe rfl rfl rfl rfl rfl rfl rfl) ?_) | (refine hK _ ?_; clear hK K) | refine zad rfl ?_ | refine zac (fun K hK => ?_))
    exact zap ⟨.inr rfl, rfl⟩
  · intro D W x hD hI hK
    have hb := hb0 ⟨x.1, x.2.1, by have := x.2.2; unfold nzB; simpa using this⟩
    subst hb
    obtain ⟨τ1, s1⟩ := hI
    have s2 : SimT (Cx.of 10 _ A GG hG) (St.of (ptT tsE) (bsE sz xs top)) τ1 a W := ⟨s1.size, s1.nodef, s1.bel, s1.tm, s1.hp, s1.own, s1.sep, s1.one, fun p hp => by cases hp⟩
    exact zv2 rfl rfl s2 (Nat.le_trans s.bel.size hD) hK rfl (fun a' w' h => h)
theorem ztd {cd cp sz f sh : Int} {xs : List (Int × Int)} {lv : Int → Int} (h : LiA.TI cd cp sz xs f sh lv) {g : Int} (hg : cd ≤ g ∧ g < cd + cp) : Ok 182 [zbm sz xs, iu g] (.m (ib (zdl xs g))) := by
  obtain ⟨e1, e2⟩ := zrp h hg
  have b1 := h.bd
  have b2 := h.bp
  refine zx6 sz xs g _ ⟨by omega, by omega⟩ h.s h.u (fun hz => ?_) (fun ⟨i, hi, hn⟩ => ?_)
  · cases c : zdl xs g with
    | true => rfl
    | false =>
      obtain ⟨j, hj, hne⟩ := e2 c
      have := hz j.toNat (by omega)
      unfold nzB at this
      rw [show ((j.toNat : Nat) : Int) = j by omega] at this
      simp at this
      exact absurd this hne
  · cases c : zdl xs g with
    | false => rfl
    | true =>
      have := e1 c (i : Int) ⟨by omega, by omega⟩
      unfold nzB at hn
      simp at hn
      exact absurd this hn
end Go.Proofs.YtmkjfeamgknpfaaGreatDoor.LjD
namespace Go.Proofs.YtmkjfeamgknpfaaGreatDoor.Ax
open Go.RowKit MemL RegR Go
variable {P : Program} {ops : Array Oper} {X : Cx} {o : Oper} {S : St}
def CallsE (P : Program) (f : FuncId) (args : Array Value) (w : World) (R : Ending → World → Prop) : Prop := ∀ u, CallsD P f args u w fun e u' w' => u' = u ∧ R e w'
theorem CallsE.mono {f : FuncId} {args : Array Value} {w : World} {R R' : Ending → World → Prop} (h : CallsE P f args w R) (hr : ∀ e w', R e w' → R' e w') : CallsE P f args w R' := fun u => (h u).mono fun e u' w' k => ⟨k.1, hr e w' k.2⟩
theorem zon {f : FuncId} {fn : Func} {c : Code} {args : Array Value} {w : World} {R : Ending → World → Prop} (hf : P.funcs[f]? = some fn) (hb : fn.body = some c)
    (h : c.wp P (bodyPost P fn R) { tmps := args ++ Array.replicate (fn.ntmps - args.size) undef, defers := [] } w) : CallsE P f args w R := fun u => callsD_of_wp hf hb h
def zv3 (W : World) (A : Nat → Prop) (τ : Nat → Value) (bs : List Ln) (r : AV) (e : Ending) (w' : World) : Prop := ∃ v, e = .returned v ∧ Kept (fun g => g < W.heap.size ∧ ¬ zou τ bs g) W w' ∧ r.R (en0 (fun g => A g ∨ W.heap.size ≤ g) w') v ∧
      ∀ p ∈ bs, ∃ g us, τ p.1 = .pointer (some ⟨g, 0, none⟩) ∧ Bx w' g us ∧ All2 (Ce.R (en0 (fun g => A g ∨ W.heap.size ≤ g) w')) p.2.2 us.toList
def zi7 (P : Program) (G : World → Prop) (k : FuncId) (bs : List Ln) (args : List Cm) (r : AV) : Prop :=
  (zc8 r && bs.all (fun p => p.2.1.all zbw && p.2.2.all zbw)) = true ∧ (args.flatMap idM).all (fun b => bs.any (fun p => Nat.beq p.1 b)) = true ∧
  ∀ (A : Nat → Prop) (W : World) (τ : Nat → Value) (vs : Array Value), (∀ w, Kept (fun g => g < W.heap.size ∧ ¬ zou τ bs g) W w → G w) →
    (∀ p ∈ bs, ∃ g us, τ p.1 = .pointer (some ⟨g, 0, none⟩) ∧ Bx W g us ∧ All2 (Ce.R (en0 A W)) p.2.1 us.toList ∧ ¬ A g) →
    (∀ p ∈ bs, ∀ q ∈ bs, p.1 ≠ q.1 → ∀ g, occ (τ p.1) = some g → occ (τ q.1) ≠ some g) →
    All2 (Cm.R ⟨A, fun b => ∃ p ∈ bs, p.1 = b, τ, W⟩) args vs.toList → CallsE P k vs W (zv3 W A τ bs r)
theorem zln {G : World → Prop} {fn : Func} {bs : List Ln} {args : List Cm} {r : AV} (N : Nat) {A : Nat → Prop} {W : World} {τ : Nat → Value} {vs : Array Value}
    (hcl : (zc8 r && bs.all (fun p => p.2.1.all zbw && p.2.2.all zbw)) = true) (hid : (args.flatMap idM).all (fun b => bs.any (fun p => Nat.beq p.1 b)) = true) (hN : args.length + (fn.ntmps - args.length) = N)
    (hG : ∀ w, Kept (fun g => g < W.heap.size ∧ ¬ zou τ bs g) W w → G w)
    (hB : ∀ p ∈ bs, ∃ g us, τ p.1 = .pointer (some ⟨g, 0, none⟩) ∧ Bx W g us ∧ All2 (Ce.R (en0 A W)) p.2.1 us.toList ∧ ¬ A g)
    (hsep : ∀ p ∈ bs, ∀ q ∈ bs, p.1 ≠ q.1 → ∀ g, occ (τ p.1) = some g → occ (τ q.1) ≠ some g)
    (hR : All2 (Cm.R ⟨A, fun b => ∃ p ∈ bs, p.1 = b, τ, W⟩) args vs.toList) : Sim (cxW N W A G τ bs hG) (zfx bs args) { tmps := vs ++ Array.replicate (fn.ntmps - vs.size) undef, defers := [] } W := by
  simp only [Bool.and_eq_true, List.all_eq_true] at hcl
  obtain ⟨hcr, hcb⟩ := hcl
  have hlen := All2.length _ _ hR
  simp only [Array.length_toList] at hlen
  obtain ⟨τ', hτ'⟩ : ∃ τ' : Nat → Value, τ' = fun b => cond (bs.any fun p => Nat.beq p.1 b) (τ b) (.bool false) := ⟨_, rfl⟩
  have ht : ∀ p ∈ bs, τ' p.1 = τ p.1 := fun p hp => by
    rw [hτ']
    have : (bs.any fun q => Nat.beq q.1 p.1) = true := List.any_eq_true.2 ⟨p, hp, Nat.beq_refl _⟩
    simp only [this, cond]
  have hlive : ∀ b q, look .fresh (bs.map fun p => (p.1, Hs.live (.box p.2.1))) b = .live q → ∃ p ∈ bs, p.1 = b ∧ q = .box p.2.1 := fun b q hq => by
    obtain ⟨x, h1, h2, h3⟩ := look_mem _ b _ hq (fun e => by cases e)
    obtain ⟨p, hp, rfl⟩ := List.mem_map.1 h1
    exact ⟨p, hp, h2, by cases h3; rfl⟩
  have halw : ∀ g, A g → alw (cxW N W A G τ bs hG) (zfx bs args).hp τ' g := fun g hg => ⟨.inl hg, fun b ⟨q, hq⟩ ho => by
    obtain ⟨p, hp, rfl, _⟩ := hlive b q hq
    obtain ⟨g', us, e1, _, _, e4⟩ := hB p hp
    rw [ht p hp, e1] at ho
    cases ho; exact e4 hg⟩
  have hS : Sim (cxW N W A G τ bs hG) (zfx bs args) { tmps := vs ++ Array.replicate (fn.ntmps - vs.size) undef, defers := [] } W := by
    refine ⟨τ', by simp [← hN, hlen, cxW], rfl, Kept.refl _ _, fun t ht' => ?_, fun b k hk => ?_, fun b g hk ho => ?_, fun b b' g hne hk hk' ho => ?_, fun b => ?_, fun q hq => ?_⟩
    · show AV.R _ (match args[t]? with | some m => .m m | none => .m (.c (.v undef))) _
      have ht' : t < N := ht'
      by_cases hlt : t < args.length
      · obtain ⟨v, hv, hr⟩ := All2.get _ _ t _ hR (List.getElem?_eq_getElem hlt)
        rw [List.getElem?_eq_getElem hlt]
        have e : (vs ++ Array.replicate (fn.ntmps - vs.size) undef).getD t undef = v := by
          rw [Array.getD_eq_getD_getElem?, Array.getElem?_append_left (by omega)]
          simp only [Array.getElem?_toList] at hv
          rw [hv]; rfl
        rw [e]
        refine zqr (E := ⟨A, fun b => ∃ p ∈ bs, p.1 = b, τ, W⟩) (F := env (cxW N W A G τ bs hG) (zfx bs args).hp τ' W) ⟨fun b hb' => ?_, fun g _ hg => halw g hg, Nat.le_refl _, fun _ _ _ _ => rfl⟩ _ _ hr
        obtain ⟨p, hp, rfl⟩ := hb'
        refine ⟨?_, ht p hp⟩
        obtain ⟨q, q1, q2, q3⟩ := zjy (d := Hs.fresh) (bs.map fun p => (p.1, Hs.live (.box p.2.1))) (p.1, .live (.box p.2.1)) (List.mem_map.2 ⟨p, hp, rfl⟩)
        show look Hs.fresh (bs.map fun p => (p.1, Hs.live (.box p.2.1))) p.1 ≠ Hs.fresh
        rw [show look Hs.fresh (bs.map fun p => (p.1, Hs.live (.box p.2.1))) p.1 = q.2 from q3]
        obtain ⟨p', _, rfl⟩ := List.mem_map.1 q1
        intro e; cases e
      · rw [List.getElem?_eq_none (by omega)]
        show _ = undef
        rw [Array.getD_eq_getD_getElem?, Array.getElem?_append_right (by omega)]
        rw [Array.getElem?_replicate]; split <;> rfl
    · obtain ⟨p, hp, rfl, rfl⟩ := hlive b k hk
      obtain ⟨g, us, e1, e2, e3, _⟩ := hB p hp
      have := hcb p hp
      exact ⟨g, us, (ht p hp).trans e1, e2, zea (E := en0 A W) (F := env (cxW N W A G τ bs hG) (zfx bs args).hp τ' W) rfl (fun g _ hg => halw g hg) _ _ (List.all_eq_true.2 this.1) e3⟩
    · obtain ⟨q, hq⟩ := hk
      obtain ⟨p, hp, rfl, rfl⟩ := hlive b q hq
      obtain ⟨g', us, e1, e2, e3, _⟩ := hB p hp
      rw [ht p hp] at ho
      refine ⟨fun hk => hk.2 ⟨p, hp, ho⟩, ?_⟩
      rw [e1] at ho; cases ho
      exact e2.lt
    · obtain ⟨q, hq⟩ := hk
      obtain ⟨q', hq'⟩ := hk'
      obtain ⟨p, hp, rfl, rfl⟩ := hlive b q hq
      obtain ⟨p', hp', rfl, rfl⟩ := hlive b' q' hq'
      rw [ht p hp] at ho
      rw [ht p' hp']
      exact hsep p hp p' hp' hne g ho
    · have e0 : τ' b = cond (bs.any fun p => Nat.beq p.1 b) (τ b) (.bool false) := by rw [hτ']
      rw [e0]
      cases e : bs.any fun p => Nat.beq p.1 b with
      | false => rfl
      | true =>
        obtain ⟨p, hp, e'⟩ := List.any_eq_true.1 e
        obtain rfl := Nat.eq_of_beq_eq_true e'
        obtain ⟨g, us, e1, _⟩ := hB p hp
        show (τ p.1).oneCell' = true
        rw [e1]; rfl
    · obtain ⟨p, hp, rfl⟩ := List.mem_map.1 hq
      refine ⟨?_, ht p hp⟩
      obtain ⟨q, q1, q2, q3⟩ := zjy (d := Hs.fresh) (bs.map fun p => (p.1, Hs.live (.box p.2.1))) (p.1, .live (.box p.2.1)) (List.mem_map.2 ⟨p, hp, rfl⟩)
      show look Hs.fresh (bs.map fun p => (p.1, Hs.live (.box p.2.1))) p.1 ≠ Hs.fresh
      rw [show look Hs.fresh (bs.map fun p => (p.1, Hs.live (.box p.2.1))) p.1 = q.2 from q3]
      obtain ⟨p', _, rfl⟩ := List.mem_map.1 q1
      intro e; cases e
  exact hS
def z08 (N : Nat) (W : World) (A : Nat → Prop) (G : World → Prop) (τ : Nat → Value) (bs : List Ln) (hG : ∀ w, Kept (fun g => g < W.heap.size ∧ ¬ zou τ bs g) W w → G w) (ds : List Deferred) : Cx := { cxW N W A G τ bs hG with df := ds }
theorem finW {G : World → Prop} {fn : Func} {bs : List Ln} {r : AV} {N : Nat} {A : Nat → Prop} {W : World} {τ : Nat → Value} {hG : ∀ w, Kept (fun g => g < W.heap.size ∧ ¬ zou τ bs g) W w → G w} {ds : List Deferred} {S' : St} {τe : Nat → Value} {a' : Act} {w' : World}
    (hcr : zc8 r = true) (hcb : ∀ p ∈ bs, p.2.1.all zbw = true ∧ p.2.2.all zbw = true) (hres : ze7 N fn.results.toList = true) (s : SimT (z08 N W A G τ bs hG ds) S' τe a' w') (hr : za8 P fn S' = some r) (hE : EndB S' bs) : ∃ v, (results fn a'.tmps).run P w' = .ok v w' ∧ zv3 W A τ bs r (.returned v) w' := by
  have hbx : ∀ p ∈ bs, ∃ g us, τ p.1 = .pointer (some ⟨g, 0, none⟩) ∧ Bx w' g us ∧ All2 (Ce.R (en0 (fun g => A g ∨ W.heap.size ≤ g) w')) p.2.2 us.toList := fun p hp => by
    obtain ⟨cs, e1, e2⟩ := hE.mem p hp
    obtain ⟨g, us, e3, e4, e5⟩ := s.hp p.1 _ e1
    have hpin := (s.pin (p.1, τ p.1) (List.mem_map.2 ⟨p, hp, rfl⟩)).2
    have e6 := zmc s _ _ e5
    rw [e2] at e6
    have := hcb p hp
    exact ⟨g, us, by rw [← e3]; exact hpin.symm, e4, zea (E := ⟨_, _, τe, w'⟩) (F := en0 (fun g => A g ∨ W.heap.size ≤ g) w') rfl (fun g _ hg => hg) _ _ this.2 e6⟩
  unfold za8 at hr
  split at hr
  · rename_i m hm
    cases hr
    obtain ⟨vs', h1, h2⟩ := ze2 s _ _ hres hm
    obtain ⟨v, rfl⟩ : ∃ v, vs' = [v] := by
      cases vs' with
      | nil => exact h2.elim
      | cons v l => cases l with | nil => exact ⟨v, rfl⟩ | cons _ _ => exact h2.2.elim
    refine ⟨v, ?_, v, rfl, s.bel, (zf0 (E := ⟨_, _, τe, w'⟩) (F := en0 (fun g => A g ∨ W.heap.size ≤ g) w') rfl (fun g _ hg => hg) _ _ hcr h2.1 : Cm.R _ _ _), hbx⟩
    rw [zd6]
    rw [Array.mapM_eq_mapM_toList]
    simp only [Sem.run_bind, Sem.run_map, h1, Result.andThen_ok, Sem.run_pure]
    rfl
  · rename_i ms hne hm
    cases hr
    obtain ⟨vs', h1, h2⟩ := ze2 s _ _ hres hm
    have hl := All2.length _ _ h2
    have hsz : vs'.length ≠ 1 := fun e => by
      cases ms with
      | nil => simp at hl; omega
      | cons m l => cases l with
        | nil => exact hne m rfl
        | cons _ _ => simp at hl; omega
    refine ⟨.tuple vs'.toArray, ?_, _, rfl, s.bel, ⟨_, rfl, zed (E := ⟨_, _, τe, w'⟩) (F := en0 (fun g => A g ∨ W.heap.size ≤ g) w') rfl (fun g _ hg => hg) _ _ hcr h2⟩, hbx⟩
    rw [zd6]
    rw [Array.mapM_eq_mapM_toList]
    simp only [Sem.run_bind, Sem.run_map, h1, Result.andThen_ok, Sem.run_pure]
    simp [hsz]
  · cases hr
theorem zkk {G : World → Prop} {k : FuncId} {fn : Func} {c : Code} {bs : List Ln} {args : List Cm} {r : AV} (N : Nat) (hf : P.funcs[k]? = some fn) (hb : fn.body = some c) (hcl : (zc8 r && bs.all (fun p => p.2.1.all zbw && p.2.2.all zbw)) = true) (hid : (args.flatMap idM).all (fun b => bs.any (fun p => Nat.beq p.1 b)) = true)
    (hN : args.length + (fn.ntmps - args.length) = N) (hres : ze7 N fn.results.toList = true)
    (h : ∀ (W : World) (A : Nat → Prop) (τ : Nat → Value) (hG : ∀ w, Kept (fun g => g < W.heap.size ∧ ¬ zou τ bs g) W w → G w), Aw P (cxW N W A G τ bs hG) c (RetW P fn r bs) (zfx bs args)) : zi7 P G k bs args r := by
  refine ⟨hcl, hid, fun A W τ vs hG hB hsep hR => zon hf hb ?_⟩
  have hS := zln N hcl hid hN hG hB hsep hR
  simp only [Bool.and_eq_true, List.all_eq_true] at hcl
  obtain ⟨hcr, hcb⟩ := hcl
  have hcb : ∀ p ∈ bs, p.2.1.all zbw = true ∧ p.2.2.all zbw = true := fun p hp => by
    have := hcb p hp
    exact ⟨List.all_eq_true.2 this.1, List.all_eq_true.2 this.2⟩
  refine wp_mono (wpIn_wide.1 (h W A τ hG _ W hS 0)) ?_
  intro e a' w' ⟨S', q, τe, s⟩
  have key : za8 P fn S' = some r ∧ EndB S' bs → a'.defers = [] ∧ ∃ v, (results fn a'.tmps).run P w' = .ok v w' ∧ zv3 W A τ bs r (.returned v) w' := fun ⟨hr, hE⟩ => ⟨s.nodef, finW (hG := hG) (ds := []) hcr hcb hres s hr hE⟩
  cases e with
  | normal => exact key q
  | ret => exact key q
  | _ => exact q.elim
theorem zqj {G : World → Prop} {k : FuncId} {fn : Func} {c : Code} {bs : List Ln} {args : List Cm} {r : AV} (N : Nat) (hf : P.funcs[k]? = some fn) (hb : fn.body = some c) (hcl : (zc8 r && bs.all (fun p => p.2.1.all zbw && p.2.2.all zbw)) = true) (hid : (args.flatMap idM).all (fun b => bs.any (fun p => Nat.beq p.1 b)) = true)
    (hN : args.length + (fn.ntmps - args.length) = N)
    (h : ∀ (W : World) (A : Nat → Prop) (τ : Nat → Value) (hG : ∀ w, Kept (fun g => g < W.heap.size ∧ ¬ zou τ bs g) W w → G w), Aw2 P (cxW N W A G τ bs hG) c (bodyPostD P fn (zv3 W A τ bs r)) (zfx bs args)) : zde P G k bs args r :=
  ⟨hcl, hid, fun A W τ vs hG hB hsep hR => calls_of_wp_defers hf hb (h W A τ hG _ W (zln N hcl hid hN hG hB hsep hR))⟩
theorem zqk {k : FuncId} {bs : List Ln} {nm : Nat → Nat} {args : List Cm} {r : AV} {vals : Array Value} {τ : Nat → Value} {a : Act} {w : World} (hS : SimT X S τ a w) (hc : zi7 P X.G k bs args r) (hb : ∀ p ∈ bs, S.hp (nm p.1) = .live (.box p.2.1)) (hin : z2j nm bs = true)
    (hok : args.all zpp = true) (hR : All2 (Cm.R (env X S.hp τ w)) (args.map (rnM nm)) vals.toList) {d : Option Tmp} {rd : List Rd} :
    CallsE P k vals w fun e w' => ∃ v, e = .returned v ∧ SimT X (S.app d ⟨r, upB nm bs, rd⟩) τ (a.put d v) w' := by
  obtain ⟨c1, c2, hc⟩ := hc
  simp only [Bool.and_eq_true, List.all_eq_true] at c1
  obtain ⟨c1, c3⟩ := c1
  have c3 : ∀ p ∈ bs, p.2.1.all zbw = true ∧ p.2.2.all zbw = true := fun p hp => by
    have := c3 p hp
    exact ⟨List.all_eq_true.2 this.1, List.all_eq_true.2 this.2⟩
  have hinj : ∀ p ∈ bs, ∀ q ∈ bs, p.1 ≠ q.1 → nm p.1 ≠ nm q.1 := fun p hp q hq hne e => by
    have := List.all_eq_true.1 (List.all_eq_true.1 hin p hp) q hq
    rw [e, Nat.beq_refl] at this
    simp at this
    exact hne this
  have hal : ∀ p ∈ bs, zc6 S.hp (nm p.1) := fun p hp => ⟨_, hb p hp⟩
  have hlent : ∀ g, zou (fun b => τ (nm b)) bs g → ∃ b, zc6 S.hp b ∧ occ (τ b) = some g := fun g ⟨p, hp, e⟩ => ⟨_, hal p hp, e⟩
  refine (hc (alw X S.hp τ) w (fun b => τ (nm b)) vals (fun w' hk => X.hG w' (hS.bel.trans (hk.mono fun g hg => ⟨Nat.lt_of_lt_of_le (X.hK g hg) hS.bel.size, fun hl => by
      obtain ⟨b, h1, h2⟩ := hlent g hl
      exact (hS.own b g h1 h2).1 hg⟩))) (fun p hp => ?_) (fun p hp q hq hne g ho => hS.sep _ _ g (hinj p hp q hq hne) (hal p hp) (hal q hq) ho) ?_).mono ?_
  · obtain ⟨g, us, e1, e2, e3⟩ := hS.hp _ _ (hb p hp)
    exact ⟨g, us, e1, e2, zea (E := env X S.hp τ w) (F := en0 (alw X S.hp τ) w) rfl (fun _ _ h => h) _ _ (c3 p hp).1 e3, fun hA => hA.2 _ (hal p hp) (by rw [e1]; rfl)⟩
  · refine zuq (E := env X S.hp τ w) (nm := nm) (U := fun b => ∃ p ∈ bs, p.1 = b) (fun b _ => rfl) _ _ hok (fun b hb' => ?_) hR
    obtain ⟨p, hp, e⟩ := List.any_eq_true.1 (List.all_eq_true.1 c2 b hb')
    exact ⟨p, hp, Nat.eq_of_beq_eq_true e⟩
  rintro e w' ⟨v, rfl, hk, hr, hbx⟩
  refine ⟨v, rfl, ?_⟩
  have hal' : ∀ b, zc6 (upd (upB nm bs) S.hp) b → zc6 S.hp b := fun b ⟨q, hq⟩ => by
    rcases zex (nm := nm) S.hp bs b with ⟨p, h1, rfl, _⟩ | ⟨_, h2⟩
    · exact hal p h1
    · rw [h2] at hq; exact ⟨q, hq⟩
  have hbel : Kept X.K X.W0 w' := hS.bel.trans (hk.mono fun g hg => ⟨Nat.lt_of_lt_of_le (X.hK g hg) hS.bel.size, fun hl => by
      obtain ⟨b, h1, h2⟩ := hlent g hl
      exact (hS.own b g h1 h2).1 hg⟩)
  have hle : (env X S.hp τ w).le (env X (upd (upB nm bs) S.hp) τ w') := by
    refine ⟨fun i hi => ⟨?_, rfl⟩, fun g _ ha => ⟨ha.1, fun i hi => ha.2 i (hal' i hi)⟩, hk.size, fun g o hg ha => hk.cell (p := ⟨g, o, none⟩) ⟨hg, fun hl => ?_⟩⟩
    · show upd (upB nm bs) S.hp i ≠ .fresh
      rcases zex (nm := nm) S.hp bs i with ⟨p, h1, rfl, h3⟩ | ⟨_, h2⟩
      · rw [h3]; intro e; cases e
      · rw [h2]; exact hi
    · obtain ⟨b, h1, h2⟩ := hlent g hl
      exact ha.2 b h1 h2
  have hA' : ∀ g, g < w'.heap.size → (alw X S.hp τ g ∨ w.heap.size ≤ g) → alw X (upd (upB nm bs) S.hp) τ g := fun g _ hg => by
    rcases hg with hg | hg
    · exact ⟨hg.1, fun i hi => hg.2 i (hal' i hi)⟩
    · exact ⟨.inr (Nat.le_trans hS.bsz hg), fun i hi he => by have := (hS.own i g (hal' i hi) he).2; omega⟩
  refine hS.turn (u := upB nm bs) hle hbel (fun i q hq => ?_) (fun i g hi ho => ?_) (fun i j g hij hi hj ho => hS.sep i j g hij (hal' i hi) (hal' j hj) ho) hS.one ?_
  · rcases zex (nm := nm) S.hp bs i with ⟨p, h1, rfl, h3⟩ | ⟨h1, h2⟩
    · rw [h3] at hq; cases hq
      obtain ⟨g, us, e1, e2, e3⟩ := hbx p h1
      exact ⟨g, us, e1, e2, zea (E := en0 (fun g => alw X S.hp τ g ∨ w.heap.size ≤ g) w') (F := env X (upd (upB nm bs) S.hp) τ w') rfl (fun g hg h => hA' g hg h) _ _ (c3 p h1).2 e3⟩
    · rw [h2] at hq
      have hfar : ∀ g, occ (τ i) = some g → w'.heap[g]? = w.heap[g]? := fun g ho => hk.block g ⟨(hS.own i g ⟨q, hq⟩ ho).2, fun ⟨p, hp, e⟩ => hS.sep _ _ g (h1 p hp) (hal p hp) ⟨q, hq⟩ e ho⟩
      have hk' := hS.hp i q hq
      cases q with
      | box cs' =>
        obtain ⟨g', vs', x1, ⟨T', x2⟩, x3⟩ := hk'
        exact ⟨g', vs', x1, ⟨T', (hfar g' (by rw [x1]; rfl)).trans x2⟩, All2.mono (zc4 hle) _ _ x3⟩
      | row e' k' n' xs' =>
        obtain ⟨x0, x1⟩ := hk'
        refine ⟨x0, ?_⟩
        rcases x1 with x1 | ⟨g', cap, cur, y1, y2, y3, y4⟩
        · exact .inl x1
        · exact .inr ⟨g', cap, cur, y1, y2, (hfar g' (by rw [y1]; rfl)).trans y3, y4⟩
  · have := hS.own i g (hal' i hi) ho
    exact ⟨this.1, Nat.lt_of_lt_of_le this.2 hk.size⟩
  · exact zjp (E := en0 (fun g => alw X S.hp τ g ∨ w.heap.size ≤ g) w') (F := env X (upd (upB nm bs) S.hp) τ w') rfl hA' _ _ c1 hr
theorem ziq {Q : St → Prop} {Q' : Exit → Act → World → Prop} {l2 : List Nat} {n : Nat} (hQ : ∀ S a w, Q S → Sim X S a w → wpOpsIn (FX X) n P ops Q' l2 a w) (hN : ∀ o ∈ ops, ∀ t, t ∈ o.looksAt ops ∨ o.dst = some t → t < X.N) {anc : Nat → Nat → Bool} : ∀ (l : List Nat) (T : List (Nat × List Rd × List Rd)) (S : St) (a : Act) (w : World), Go P ops X Q anc l T S → Sim X S a w → wpOpsIn (FX X) n P ops Q' (l ++ l2) a w
  | [], T, S, a, w, hg, hS => hQ _ _ _ hg hS
  | i :: r, T, S, a, w, hg, hS => by
    obtain ⟨o, e, ho, hv, _, hg⟩ := hg
    rw [List.cons_append, wpOpsIn_cons]
    exact Step.wpIn ho (hv S a w (fun _ _ => rfl) (fun r _ => AgR.refl _ r) (hN o (Array.mem_of_getElem? ho)) hS) fun v w' hS' => ziq hQ hN r _ _ _ _ hg hS'
theorem zv4 {id : Nat} {l : List Oper} {rest : Code} {Q : Exit → Act → World → Prop} {R : St → Prop} {k : FuncId} {xs : Array Operand} {ts : Array TypeId} {od : Oper} (m : Nat) (hN : zkz X.N l = true) (hm : List.range l.length = List.range m ++ [m]) (ho : l[m]? = some od) (hop : od.op = .defer { callee := .value (.func k), args := xs, argTypes := ts }) (hdst : od.dst = none) (hgd : od.guard = none)
    (hr : X.rd = none) (hg : Go P l.toArray X R (fun _ _ => true) (List.range m) [] S)
    (h : ∀ S' a w, R S' → Sim X S' a w → rest.wp P Q { a with defers := { target := .fn (.func k) #[], args := xs.map a.eval } :: a.defers } w) : Aw2 P X (.seq (.region id l.toArray false) rest) Q S := fun a w hs => wp_seq (by
  have key : ∀ n, (Code.region id l.toArray false).wpIn (FX X) n P (Exit.then (rest.wp P Q) Q) a w := fun n => wpIn_region (by
    have e : List.range l.toArray.size = List.range m ++ [m] := by simpa using hm
    rw [e]
    refine ziq (Q := R) (fun S' a' w' hR hS' => ?_) (zoy hN) (List.range m) [] S a w hg hs
    rw [wpOpsIn_cons]
    unfold wpOpIn
    have ho' : l.toArray[m]? = some od := by simpa using ho
    simp only [ho']
    have hwt : Region.wanted od (yielded l.toArray a'.tmps) = true := by unfold Region.wanted; rw [hgd]
    simp only [hwt, if_true]
    refine ⟨fun f _ => trivial, ?_⟩
    have hx : FX X = Fence.wide := zh0 hr
    rw [hx]
    show od.uponIn _ _ _ _ _ _ ((od.semAt none a'.eval).run P w')
    rw [Oper.semAt_none]
    have hex : (execOp a'.eval od).run P w' = .ok (.defer { target := .fn (.func k) #[], args := xs.map a'.eval }) w' := by
      simp [execOp, hop, resolve, Deferred.ofValue, Act.eval]
    rw [hex, Oper.uponIn_defer, hdst]
    exact h S' a' w' hR hS')
  have := key 0
  rw [zh0 hr] at this
  exact wpIn_wide.1 this)
end Go.Proofs.YtmkjfeamgknpfaaGreatDoor.Ax
namespace Go.Proofs.YtmkjfeamgknpfaaGreatDoor.LjE
open Go.RowKit Bv VaSpec Base MemL RegR Ax MemC PutC MemC3 TzC OkS SpA SpB SpC SpF SpH SpI SpJ LaA LaB LaC LaD LaE LaF LaG LiA LiB LiC LiD LiE LiF LjD
open BitsC PteSpec
set_option maxRecDepth 10000
set_option maxHeartbeats 1000000
section
variable {P : Program}
theorem zql {k : FuncId} (hk : zdh P k = true) (args : Array Value) (w : World) : (invoke (.fn (.func k) #[]) args).run P w = .ok (.enter k args) w := by
  unfold zdh at hk
  split at hk
  · rename_i fn hf
    simp only [Bool.and_eq_true, Bool.not_eq_true'] at hk
    obtain ⟨h1, h2⟩ := hk
    have h2 : ¬ fn.name = "runtime.NumGoroutine" := by simpa using h2
    have h3 : ¬ fn.body = none := fun e => by rw [e] at h1; cases h1
    simp [invoke, callFunc, hf, h2, h3, mark]
  · cases hk
theorem z29 {G : World → Prop} {fn : Func} {bs bs1 : List Ln} {r r1 : AV} {N : Nat} {A : Nat → Prop} {W : World} {τ : Nat → Value} {hG : ∀ w, Kept (fun g => g < W.heap.size ∧ ¬ zou τ bs g) W w → G w} {k : FuncId} {vals : Array Value} {args : List Cm} {S' : St} {τe : Nat → Value} {a' : Act} {w' : World}
    (s : SimT (z08 N W A G τ bs hG [{ target := .fn (.func k) #[], args := vals }]) S' τe a' w') (nm : Nat → Nat) (hk : zdh P k = true) (hc : zi7 P G k bs1 args r1) (hb : ∀ p ∈ bs1, S'.hp (nm p.1) = .live (.box p.2.1)) (hin : z2j nm bs1 = true) (hok : args.all zpp = true)
    (hR : All2 (Cm.R (env (z08 N W A G τ bs hG [{ target := .fn (.func k) #[], args := vals }]) S'.hp τe w')) (args.map (rnM nm)) vals.toList)
    (hcl : (zc8 r && bs.all (fun p => p.2.1.all zbw && p.2.2.all zbw)) = true) (hres : ze7 N fn.results.toList = true) (hr : za8 P fn (S'.app none ⟨r1, upB nm bs1, []⟩) = some r) (hE : EndB (S'.app none ⟨r1, upB nm bs1, []⟩) bs) : bodyPostD P fn (zv3 W A τ bs r) .normal a' w' := by
  simp only [Bool.and_eq_true, List.all_eq_true] at hcl
  obtain ⟨hcr, hcb⟩ := hcl
  have hcb : ∀ p ∈ bs, p.2.1.all zbw = true ∧ p.2.2.all zbw = true := fun p hp => by
    have := hcb p hp
    exact ⟨List.all_eq_true.2 this.1, List.all_eq_true.2 this.2⟩
  show Leaves P fn a'.tmps _ a'.defers .returning w'
  rw [show a'.defers = [{ target := .fn (.func k) #[], args := vals }] from s.nodef]
  refine leaves_cons (by simp) (zql hk vals w') ?_
  refine ((zqk (d := none) (rd := []) s hc hb hin hok hR) .returning).mono ?_
  rintro e u w2 ⟨rfl, v, rfl, s2⟩
  exact finW hcr hcb hres s2 hr hE
end
def prC (sz cd cp addr : Int) (p : List (Int × Int) × Int) : List Ce := [cu sz, .s p.1.length 2 (fl p.1), cu cd, ci cp, cu p.2, cu addr]
section
variable {cd cp sz f sh : Int} {xs : List (Int × Int)} {lv : Int → Int}
theorem zx7 (h : TI cd cp sz xs f sh lv) (hn : xs.length ≤ 100000) (t l addr : Int) (q : Pte) (ha : U addr) (ht : cd ≤ t ∧ t < cd + cp) (l0 : 0 ≤ l) (l2 : l ≤ 2) (hg : cd ≤ q.ppn ∧ q.ppn < cd + cp) (R : List (Int × Int) × Int)
    (hR : R = if zdl xs q.ppn = true then (zbv sz (TableC.zbf xs q.ppn) t (idx addr l) zP, TableC2.zdn cd cp f q.ppn) else (xs, f)) :
    zi7 Tryz.prog GG 165 [(2000, prC sz cd cp addr (xs, f), prC sz cd cp addr R)] [.c (.p 2000 0), .ag (zbi t l q)] (.tu []) := by
  have b1 := h.bd
  have b2 := h.bp
  have he := ztd h hg
  have hb := zum sz xs cd cp f q.ppn ⟨by omega, by omega⟩ (by omega) h.uf ⟨by omega, by omega⟩ h.s (by omega)
  have hwl := zd1 xs q.ppn
  have hwu : Uw (TableC.zbf xs q.ppn) := fun c hc => h.u c (ze6 hc)
  have hw := ze8 sz (TableC.zbf xs q.ppn) t l q addr ⟨false, false, false, false, false, false, false, false, 0, 0, 0⟩ ha zyr l0 l2 ⟨by omega, by omega⟩ (zc9 _ h.s) hwu (by omega)
  have hw : Ok 54 [zbm sz (TableC.zbf xs q.ppn), .ag (zbi t l q), iu addr, .ag (⟨false, false, false, false, false, false, false, false, 0, 0, 0⟩ : Pte).ce] (.m (zbm sz (zbv sz (TableC.zbf xs q.ppn) t (idx addr l) zP))) := hw
  cases c : zdl xs q.ppn with
  | true =>
    rw [c] at he
    rw [c, if_pos rfl] at hR
    subst hR
    generalize zbv sz (TableC.zbf xs q.ppn) t (idx addr l) zP = ys at *
    generalize TableC.zbf xs q.ppn = zs at *
    generalize TableC2.zdn cd cp f q.ppn = f2 at *
    refine zkk 47 Tryz.func165 rfl rfl rfl rfl rfl ?_
    intro W A τ hG
    repeat (first | (refine zal rfl ?_; first | refine gdr (zaa (.inl rfl) rfl) ?_ | refine gnk 1 rfl (za2 tb rfl rfl rfl rfl rfl) ?_ | refine gnx 1 rfl (zbc tb rfl rfl rfl) rfl ?_ | refine gdr (zak rfl rfl rfl rfl) ?_ | refine gdr (zag rfl rfl rfl rfl rfl rfl) ?_ | refine gnk 1 rfl (zbe rfl rfl rfl rfl rfl rfl rfl) ?_ | refine gdr (zaq rfl rfl rfl rfl) ?_ | refine gdr (zcb rfl rfl rfl rfl) ?_ | refine gdr (zab rfl rfl rfl (he) (by kernel_rfl)) ?_ | refine gdr (zab rfl rfl rfl (hb) (by kernel_rfl)) ?_ | refine gdr (zab rfl rfl rfl (hw) (by kernel_rfl)) ?_) | (refine hK _ ?_; clear hK K) | refine zad rfl ?_ | refine za4 (by kernel_rfl) (by kernel_rfl) rfl ?_ | refine zai rfl rfl ?_ | refine zac (fun K hK => ?_))
    exact ⟨by kernel_rfl, ⟨_, rfl, rfl⟩, trivial⟩
  | false =>
    rw [c] at he
    rw [c, if_neg (by simp)] at hR
    subst hR
    refine zkk 47 Tryz.func165 rfl rfl rfl rfl rfl ?_
    intro W A τ hG
    repeat (first | (refine zal rfl ?_; first | refine gdr (zaa (.inl rfl) rfl) ?_ | refine gnk 1 rfl (za2 tb rfl rfl rfl rfl rfl) ?_ | refine gnx 1 rfl (zbc tb rfl rfl rfl) rfl ?_ | refine gdr (zag rfl rfl rfl rfl rfl rfl) ?_ | refine gdr (zcb rfl rfl rfl rfl) ?_ | refine gdr (zab rfl rfl rfl (he) (by kernel_rfl)) ?_) | (refine hK _ ?_; clear hK K) | refine zad rfl ?_ | refine za4 (by kernel_rfl) (by kernel_rfl) rfl ?_ | refine zah rfl rfl ?_ | refine zao ?_ | refine zac (fun K hK => ?_))
    exact ⟨by kernel_rfl, ⟨_, rfl, rfl⟩, trivial⟩
def z3a (t m addr : Int) (sz cd cp : Int) (q : Pte) (p : List (Int × Int) × Int) : St := St.of [(0, .m (.c (.p 2000 0))), (1, .m (iu t)), (2, .m (ii (m + 1))), (6, .m (.c (.p 6 0))), (29, .m (.c (.p 2000 0))), (30, .m (.ag (zbi t (m + 1) q)))] [(6, .live (.box (zbi t (m + 1) q))), (2000, .live (.box (prC sz cd cp addr p)))]
theorem z09 (addr : Int) (ha : U addr) (h : TI cd cp sz xs f sh lv) (hn : xs.length ≤ 100000) : ∀ (l : Nat) (t : Int), l ≤ 2 → Al cd cp f t → lv t = l → (2 ≤ l → idx addr 2 ≠ 511) →
    zde Tryz.prog GG 123 [(2000, prC sz cd cp addr (xs, f), prC sz cd cp addr (prN sz cd cp addr l t (xs, f)))] [.c (.p 2000 0), iu t, ii l] (.tu []) := by
  intro l
  induction l with
  | zero =>
    intro t h2 ht hl hH
    have b1 := h.bd
    have b2 := h.bp
    have bt := ht.1
    have hr := zgp sz xs t 0 addr 0 ⟨by omega, by omega⟩ ha (by omega) (by omega) (by omega) h.s h.u
    rw [show zc0 sz xs addr 0 0 t = (t, 0) from rfl] at hr
    have hr : Ok 41 [zbm sz xs, iu t, ii 0, iu addr, ii 0] (.m (.ag (zbi t 0 (atM sz xs t (idx addr 0))))) := hr
    have hU := zgw h.u sz t (idx addr 0)
    have hk := zgn (atM sz xs t (idx addr 0))
    have hbd := zh5 (atM sz xs t (idx addr 0)) hU 0 (by omega) (by omega)
    rw [show prN sz cd cp addr 0 t (xs, f) = (xs, f) from rfl]
    generalize atM sz xs t (idx addr 0) = q at *
    cases c : zbu q with
    | false =>
      rw [c] at hk
      refine zc5 38 Tryz.func123 rfl rfl rfl rfl rfl ?_
      intro W A τ hG
      repeat (first | (refine zal rfl ?_; first | refine gdr (zaw rfl) ?_ | refine gdr (zaa (.inl rfl) rfl) ?_ | refine gnk 1 rfl (za2 tb rfl rfl rfl rfl rfl) ?_ | refine gnx 1 rfl (zbc tb rfl rfl rfl) rfl ?_ | refine gdr (zaj rfl rfl rfl) ?_ | refine gdr (zae rfl rfl rfl rfl rfl) ?_ | refine gnk 1 rfl (zbe rfl rfl rfl rfl rfl rfl rfl) ?_ | refine gdr (zas rfl rfl rfl) ?_ | refine gdr (zcb rfl rfl rfl rfl) ?_ | refine gdr (zab rfl rfl rfl (hr) (by kernel_rfl)) ?_ | refine gdr (zab rfl rfl rfl (hk) (by kernel_rfl)) ?_) | (refine hK _ ?_; clear hK K) | refine zad rfl ?_ | refine za4 (by kernel_rfl) (by kernel_rfl) rfl ?_ | refine zai rfl rfl ?_ | refine zac (fun K hK => ?_) | refine zap (show za8 _ _ _ = some _ ∧ EndB _ _ from ⟨by kernel_rfl, ?_⟩))
      exact ⟨⟨_, rfl, rfl⟩, trivial⟩
    | true =>
      rw [c] at hk
      have hb2 : zej q 0 = true := by unfold zej; rw [c]; simp
      rw [hb2] at hbd
      refine zc5 38 Tryz.func123 rfl rfl rfl rfl rfl ?_
      intro W A τ hG
      repeat (first | (refine zal rfl ?_; first | refine gdr (zaa (.inl rfl) rfl) ?_ | refine gnk 1 rfl (za2 tb rfl rfl rfl rfl rfl) ?_ | refine gnx 1 rfl (zbc tb rfl rfl rfl) rfl ?_ | refine gdr (zaj rfl rfl rfl) ?_ | refine gdr (zae rfl rfl rfl rfl rfl) ?_ | refine gnk 1 rfl (zbe rfl rfl rfl rfl rfl rfl rfl) ?_ | refine gdr (zas rfl rfl rfl) ?_ | refine gdr (zcb rfl rfl rfl rfl) ?_ | refine gdr (zab rfl rfl rfl (hr) (by kernel_rfl)) ?_ | refine gdr (zab rfl rfl rfl (hk) (by kernel_rfl)) ?_ | refine gdr (zab rfl rfl rfl (hbd) (by kernel_rfl)) ?_) | (refine hK _ ?_; clear hK K) | refine zad rfl ?_ | refine za4 (by kernel_rfl) (by kernel_rfl) rfl ?_ | refine zai rfl rfl ?_ | refine zac (fun K hK => ?_) | refine zap (show za8 _ _ _ = some _ ∧ EndB _ _ from ⟨by kernel_rfl, ?_⟩))
      exact ⟨⟨_, rfl, rfl⟩, trivial⟩
  | succ m IH =>
    intro t h2 ht hl hH
    have b1 := h.bd
    have b2 := h.bp
    have bt := ht.1
    have hi := idx_bd addr ((m + 1 : Nat) : Int)
    have hr := zgp sz xs t ((m + 1 : Nat) : Int) addr ((m + 1 : Nat) : Int) ⟨by omega, by omega⟩ ha (by omega) (by omega) (by omega) h.s h.u
    rw [show zc0 sz xs addr ((m + 1 : Nat) : Int) ((m + 1 : Nat) : Int) t = (t, ((m + 1 : Nat) : Int)) from zjz (by omega) (fun hh => by omega) (by omega)] at hr
    have hr : Ok 41 [zbm sz xs, iu t, ii ((m + 1 : Nat) : Int), iu addr, ii ((m + 1 : Nat) : Int)] (.m (.ag (zbi t ((m + 1 : Nat) : Int) (atM sz xs t (idx addr ((m + 1 : Nat) : Int)))))) := hr
    have hU := zgw h.u sz t (idx addr ((m + 1 : Nat) : Int))
    have hk := zgn (atM sz xs t (idx addr ((m + 1 : Nat) : Int)))
    have hbd := zh5 (atM sz xs t (idx addr ((m + 1 : Nat) : Int))) hU ((m + 1 : Nat) : Int) (by omega) (by omega)
    cases c : zbq (atM sz xs t (idx addr ((m + 1 : Nat) : Int))) ((m + 1 : Nat) : Int) with
    | false =>
      have hnk : zbu (atM sz xs t (idx addr ((m + 1 : Nat) : Int))) = false := by
        rcases h.e.k t _ hi with e | ⟨_, _, ⟨e, _⟩ | ⟨e, _⟩⟩
        · rw [e]; rfl
        · exact (zcq e).1
        · rw [zfu e (by omega)] at c; cases c
      rw [hnk] at hk
      have hpr : prN sz cd cp addr (m + 1) t (xs, f) = (xs, f) := by unfold prN; rw [c]; rfl
      rw [hpr]
      generalize atM sz xs t (idx addr ((m + 1 : Nat) : Int)) = q at *
      refine zc5 38 Tryz.func123 rfl rfl rfl rfl rfl ?_
      intro W A τ hG
      repeat (first | (refine zal rfl ?_; first | refine gdr (zaw rfl) ?_ | refine gdr (zaa (.inl rfl) rfl) ?_ | refine gnk 1 rfl (za2 tb rfl rfl rfl rfl rfl) ?_ | refine gnx 1 rfl (zbc tb rfl rfl rfl) rfl ?_ | refine gdr (zaj rfl rfl rfl) ?_ | refine gdr (zae rfl rfl rfl rfl rfl) ?_ | refine gnk 1 rfl (zbe rfl rfl rfl rfl rfl rfl rfl) ?_ | refine gdr (zas rfl rfl rfl) ?_ | refine gdr (zcb rfl rfl rfl rfl) ?_ | refine gdr (zab rfl rfl rfl (hr) (by kernel_rfl)) ?_ | refine gdr (zab rfl rfl rfl (hk) (by kernel_rfl)) ?_) | (refine hK _ ?_; clear hK K) | refine zad rfl ?_ | refine za4 (by kernel_rfl) (by kernel_rfl) rfl ?_ | refine zai rfl rfl ?_ | refine zac (fun K hK => ?_) | refine zap (show za8 _ _ _ = some _ ∧ EndB _ _ from ⟨by kernel_rfl, ?_⟩))
      exact ⟨⟨_, rfl, rfl⟩, trivial⟩
    | true =>
      obtain ⟨k1, k2, k3, k4, k5⟩ := zp4 h hi c
      have hls : lv (atM sz xs t (idx addr ((m + 1 : Nat) : Int))).ppn = (m : Int) := by rw [k4, hl]; omega
      have hIH := IH _ (by omega) k5 hls (fun hh => by omega)
      have P := zht addr h m _ (by omega) k5 hls (fun hh => by omega)
      have hbw := zx7 P.t (Nat.le_trans P.n hn) t ((m + 1 : Nat) : Int) addr (atM sz xs t (idx addr ((m + 1 : Nat) : Int))) ha bt (by omega) (by omega) k5.1 _ rfl
      have hpr : prN sz cd cp addr (m + 1) t (xs, f) = if zdl (prN sz cd cp addr m (atM sz xs t (idx addr ((m + 1 : Nat) : Int))).ppn (xs, f)).1 (atM sz xs t (idx addr ((m + 1 : Nat) : Int))).ppn = true then (zbv sz (TableC.zbf (prN sz cd cp addr m (atM sz xs t (idx addr ((m + 1 : Nat) : Int))).ppn (xs, f)).1 (atM sz xs t (idx addr ((m + 1 : Nat) : Int))).ppn) t (idx addr ((m + 1 : Nat) : Int)) zP, TableC2.zdn cd cp (prN sz cd cp addr m (atM sz xs t (idx addr ((m + 1 : Nat) : Int))).ppn (xs, f)).2 (atM sz xs t (idx addr ((m + 1 : Nat) : Int))).ppn) else ((prN sz cd cp addr m (atM sz xs t (idx addr ((m + 1 : Nat) : Int))).ppn (xs, f)).1, (prN sz cd cp addr m (atM sz xs t (idx addr ((m + 1 : Nat) : Int))).ppn (xs, f)).2) := by
        conv => lhs; unfold prN
        rw [if_pos (show zbq (atM sz (xs, f).1 t (idx addr ((m + 1 : Nat) : Int))) ((m + 1 : Nat) : Int) = true from c)]
      rw [← hpr] at hbw
      rw [(zfa k1).1] at hk
      have hnb : zej (atM sz xs t (idx addr ((m + 1 : Nat) : Int))) ((m + 1 : Nat) : Int) = false := by
        unfold zbq at c
        simp only [Bool.and_eq_true, Bool.not_eq_true'] at c
        exact c.2
      rw [hnb] at hbd
      clear hpr P IH
      generalize prN sz cd cp addr (m + 1) t (xs, f) = p2 at *
      generalize prN sz cd cp addr m (atM sz xs t (idx addr ((m + 1 : Nat) : Int))).ppn (xs, f) = p1 at *
      generalize atM sz xs t (idx addr ((m + 1 : Nat) : Int)) = q at *
      have hIH : zde Tryz.prog GG 123 [(2000, prC sz cd cp addr (xs, f), prC sz cd cp addr p1)] [.c (.p 2000 0), iu q.ppn, ii (((m + 1 : Nat) : Int) - 1)] (.tu []) := by
        rw [show ((m + 1 : Nat) : Int) - 1 = (m : Int) by omega]; exact hIH
      have hcast : ((m + 1 : Nat) : Int) = (m : Int) + 1 := by omega
      rw [hcast] at hr hbd hIH hbw ⊢
      refine zqj 38 Tryz.func123 rfl rfl rfl rfl ?_
      intro W A τ hG
      refine zds (fun K hK => ?_)
      repeat (first | (refine zal rfl ?_; first | refine gdr (zaa (.inl rfl) rfl) ?_ | refine gnk 1 rfl (za2 tb rfl rfl rfl rfl rfl) ?_ | refine gnx 1 rfl (zbc tb rfl rfl rfl) rfl ?_ | refine gdr (zae rfl rfl rfl rfl rfl) ?_ | refine gnk 1 rfl (zbe rfl rfl rfl rfl rfl rfl rfl) ?_ | refine gdr (zcb rfl rfl rfl rfl) ?_ | refine gdr (zab rfl rfl rfl (hr) (by kernel_rfl)) ?_) | (refine hK _ ?_; clear hK K) | refine za4 (by kernel_rfl) (by kernel_rfl) rfl ?_)
      refine zds (fun K hK => ?_)
      repeat (first | (refine zal rfl ?_; first | refine gdr (zaa (.inl rfl) rfl) ?_ | refine gnk 1 rfl (za2 tb rfl rfl rfl rfl rfl) ?_ | refine gnx 1 rfl (zbc tb rfl rfl rfl) rfl ?_ | refine gdr (zaj rfl rfl rfl) ?_ | refine gdr (zas rfl rfl rfl) ?_ | refine gdr (zab rfl rfl rfl (hk) (by kernel_rfl)) ?_ | refine gdr (zab rfl rfl rfl (hbd) (by kernel_rfl)) ?_) | (refine hK _ ?_; clear hK K) | refine zad rfl ?_ | refine zah rfl rfl ?_ | refine zao ?_ | refine zac (fun K hK => ?_))
      refine zv4 (R := fun S' => Sub (cxW 38 W A GG τ _ hG) S' (z3a t m addr sz cd cp q (xs, f))) 2 (by rfl) (by rfl) (by rfl) (by rfl) (by rfl) (by rfl) (by rfl) ?_ ?_
      · skip
        repeat (first | (refine zal rfl ?_; first | refine gdr (zaa (.inl rfl) rfl) ?_ | refine gnk 1 rfl (za2 tb rfl rfl rfl rfl rfl) ?_))
        exact zar _ _ ⟨by kernel_rfl, by kernel_rfl, by kernel_rfl, by kernel_rfl, by kernel_rfl, by kernel_rfl, trivial⟩ ⟨by kernel_rfl, by kernel_rfl, trivial⟩ (by kernel_rfl)
      intro S' a w hsub hS'
      obtain ⟨τe, s⟩ := hsub a w hS'
      have hnd : a.defers = [] := s.nodef
      have e29 : Cm.R _ (.c (.p 2000 0)) (a.tmps.getD 29 undef) := s.tm 29 (by show 29 < 38; decide)
      have e30 : Cm.R _ (.ag (zbi t ((m : Int) + 1) q)) (a.tmps.getD 30 undef) := s.tm 30 (by show 30 < 38; decide)
      have ep := (s.pin (2000, τ 2000) (by simp [cxW])).2
      have hdf : ({ target := .fn (.func 165) #[], args := #[Operand.tmp 29, Operand.tmp 30].map a.eval } : Deferred) = { target := .fn (.func 165) #[], args := #[a.tmps.getD 29 undef, a.tmps.getD 30 undef] } := by simp [Act.eval]
      rw [hdf, hnd]
      generalize a.tmps.getD 29 undef = v29 at *
      generalize a.tmps.getD 30 undef = v30 at *
      have s' : SimT (z08 38 W A GG τ _ hG [{ target := .fn (.func 165) #[], args := #[v29, v30] }]) (z3a t m addr sz cd cp q (xs, f)) τe { a with defers := [{ target := .fn (.func 165) #[], args := #[v29, v30] }] } w := ⟨s.size, rfl, s.bel, s.tm, s.hp, s.own, s.sep, s.one, s.pin⟩
      refine wp_mono (zsx (Q := fun e S'' => e = .normal ∧ Sub (z08 38 W A GG τ _ hG [{ target := .fn (.func 165) #[], args := #[v29, v30] }]) S'' (St.of [] [(2000, .live (.box (prC sz cd cp addr p1)))])) rfl ?_ ⟨τe, s'⟩) ?_
      · skip
        repeat (first | (refine zal rfl ?_; first | refine gdr (zaa (.inl rfl) rfl) ?_ | refine gnk 1 rfl (za2 tb rfl rfl rfl rfl rfl) ?_ | refine gnx 1 rfl (zbc tb rfl rfl rfl) rfl ?_ | refine gdr (gar rfl rfl rfl rfl) ?_ | refine gdr (zin (fun _ => 2000) hIH rfl rfl (by kernel_rfl) rfl ⟨rfl, trivial⟩ (by kernel_rfl)) ?_) | refine zad rfl ?_)
        exact ⟨rfl, zar _ _ trivial ⟨by kernel_rfl, trivial⟩ (by kernel_rfl)⟩
      intro e a2 w2 ⟨S2, ⟨he, hs2⟩, hS2⟩
      subst he
      obtain ⟨τ2, t2⟩ := hs2 a2 w2 hS2
      have ep2 := (t2.pin (2000, τ 2000) (by simp [z08, cxW])).2
      have hin2 := (t2.pin (2000, τ 2000) (by simp [z08, cxW])).1
      refine z29 t2 (fun _ => 2000) (by kernel_rfl) hbw (by intro p hp; simp at hp; subst hp; rfl) (by kernel_rfl) (by kernel_rfl) ?_ (by kernel_rfl) (by kernel_rfl) (by kernel_rfl) ⟨⟨_, rfl, rfl⟩, trivial⟩
      obtain ⟨_, g, i1, i2⟩ := e29
      exact ⟨⟨hin2, g, by rw [← i1]; exact ep2.trans ep.symm, i2⟩, zwp _ _ (by kernel_rfl) e30, trivial⟩
end
end Go.Proofs.YtmkjfeamgknpfaaGreatDoor.LjE
namespace Go.Proofs.YtmkjfeamgknpfaaGreatDoor.LkB
open Go.RowKit Bv VaSpec Base MemL RegR Ax MemC PutC MemC3 TzC OkS SpA SpB SpC SpF SpH SpI SpJ LaA LaB LaC LaD LaE LaF LaG LiA LiB LiC LiD LiE LiF SpL SpN SpO RfA RfB RfC RfD RlA RlB LjB LkA
open BitsC PteSpec
set_option maxRecDepth 10000
set_option maxHeartbeats 1000000
section
variable {cd cp sz f sh : Int} {xs : List (Int × Int)} {lv : Int → Int}
theorem z3b (addr : Int) (h : TI cd cp sz xs f sh lv) {top : Int} {l : Nat} (h2 : l ≤ 2) (ht : Al cd cp f top) (hl : lv top = l) (hH : 2 ≤ l → idx addr 2 ≠ 511) (w : Nat) (hw : w ≤ l) : TI cd cp sz (zhx sz cd cp addr top l w (xs, f)).1 (zhx sz cd cp addr top l w (xs, f)).2 sh lv ∧ (zhx sz cd cp addr top l w (xs, f)).1.length ≤ xs.length ∧ Al cd cp (zhx sz cd cp addr top l w (xs, f)).2 top := by
  rw [zvh addr h h2 ht hl hH w hw]
  split
  · rename_i c
    obtain ⟨l', t', i1, i2, i3, i4, i5, _, _⟩ := zda h addr (w : Int) (by omega) l top ht hl (by omega)
    rw [i1] at c ⊢
    have c : (l' : Int) = (w : Int) := c
    have P := zht addr h w t' (by omega) i4 (by omega) (fun hh => hH (by omega))
    exact ⟨P.t, P.n, P.a _ ht (.inr (by rw [hl]; omega))⟩
  · exact ⟨h, Nat.le_refl _, ht⟩
def z4a (sz cd cp top addr : Int) (l : Nat) (m : List (Int × Int)) (f : Int) (w : Nat) : St := St.of [(2, .m (iu top)), (3, .m (ii l)), (4, .m (iu addr)), (5, .m (.c (.p 5 0))), (6, .m (.c (.p 6 0))), (10, .m (.c (.p 10 0))), (11, .m (.c (.p 11 0))), (12, .m (ii w))] [(5, .live (.box [cu sz, .s m.length 2 (fl m)])), (6, .live (.box [cu cd, ci cp, cu f])), (10, .live (.box [cu 0, .v (.slice none 0 0)])), (11, .live (.box [cu 0, ci 0, cu 0]))]
theorem zv5 (addr : Int) (ha : U addr) (h : TI cd cp sz xs f sh lv) (hn : xs.length ≤ 100000) (l : Nat) (top : Int) (h2 : l ≤ 2) (ht : Al cd cp f top) (hl : lv top = l) (hH : 2 ≤ l → idx addr 2 ≠ 511) :
    Ok 96 [zbm sz xs, .ag [cu cd, ci cp, cu f], iu top, ii l, iu addr] (.tu [zbm sz (prN sz cd cp addr l top (xs, f)).1, .ag [cu cd, ci cp, cu (prN sz cd cp addr l top (xs, f)).2]]) := by
  rw [← z2y addr h h2 ht hl hH]
  obtain ⟨R, hR⟩ : ∃ R, R = zhx sz cd cp addr top l l (xs, f) := ⟨_, rfl⟩
  rw [← hR]
  refine zaf 64 Tryz.func96 rfl rfl rfl rfl ?_ GG.to
  intro W A hG
  repeat (first | (refine zal rfl ?_; first | refine gdr (zaa (.inr rfl) rfl) ?_ | refine gdr (zag rfl rfl rfl rfl rfl rfl) ?_ | refine gdr (zae rfl rfl rfl rfl rfl) ?_) | (refine hK _ ?_; clear hK K) | refine zad rfl ?_ | refine zam ?_ | refine zac (fun K hK => ?_))
  refine za9 (α := Nat × List (Int × Int) × Int) (fun p => p.1 ≤ l ∧ (p.2.1, p.2.2) = zhx sz cd cp addr top l p.1 (xs, f)) (fun p => z4a sz cd cp top addr l p.2.1 p.2.2 p.1) (fun p => l - p.1) (0, xs, f) ⟨Nat.zero_le _, rfl⟩ (zar _ _ ⟨by kernel_rfl, by kernel_rfl, by kernel_rfl, by kernel_rfl, by kernel_rfl, by kernel_rfl, by kernel_rfl, by kernel_rfl, trivial⟩ ⟨by kernel_rfl, by kernel_rfl, by kernel_rfl, by kernel_rfl, trivial⟩ (by kernel_rfl)) ?_
  rintro ⟨w, m, ff⟩ ⟨x1, x2⟩
  replace x1 : w ≤ l := x1
  replace x2 : (m, ff) = zhx sz cd cp addr top l w (xs, f) := x2
  show Aw _ _ _ _ (z4a sz cd cp top addr l m ff w)
  unfold z4a
  by_cases hlt : w < l
  · obtain ⟨y1, y2, y3⟩ := z3b addr h h2 ht hl hH w x1
    have hst : zhx sz cd cp addr top l (w + 1) (xs, f) = if (za3 sz m addr ((w + 1 : Nat) : Int) l top).2 = ((w + 1 : Nat) : Int) ∧ zbu (atM sz m (za3 sz m addr ((w + 1 : Nat) : Int) l top).1 (idx addr ((w + 1 : Nat) : Int))) = true ∧ zdl m (atM sz m (za3 sz m addr ((w + 1 : Nat) : Int) l top).1 (idx addr ((w + 1 : Nat) : Int))).ppn = true
        then (zbv sz (TableC.zbf m (atM sz m (za3 sz m addr ((w + 1 : Nat) : Int) l top).1 (idx addr ((w + 1 : Nat) : Int))).ppn) (za3 sz m addr ((w + 1 : Nat) : Int) l top).1 (idx addr ((w + 1 : Nat) : Int)) zP, TableC2.zdn cd cp ff (atM sz m (za3 sz m addr ((w + 1 : Nat) : Int) l top).1 (idx addr ((w + 1 : Nat) : Int))).ppn) else (m, ff) := by
      conv => lhs; unfold zhx
      rw [← x2]
    rw [← x2] at y1 y2 y3
    replace y1 : TI cd cp sz m ff sh lv := y1
    replace y2 : m.length ≤ xs.length := y2
    replace y3 : Al cd cp ff top := y3
    have b1 := y1.bd
    have b2 := y1.bp
    have bz := y1.bz
    have bt := y3.1
    have huf := y1.uf
    have hrc := zgi sz m addr ((w + 1 : Nat) : Int) ha (by omega) y1.s y1.u (by omega) l top h2 ⟨by omega, by omega⟩
    obtain ⟨l', t', i1, i2, i3, i4, i5, i6, _⟩ := zda y1 addr ((w + 1 : Nat) : Int) (by omega) l top y3 hl (by omega)
    rw [i1] at hrc hst
    replace hrc : Ok 43 [zbm sz m, iu top, ii l, iu addr, ii ((w + 1 : Nat) : Int)] (.m (.ag (zbi t' (l' : Int) (atM sz m t' (idx addr (l' : Int)))))) := hrc
    replace hst : zhx sz cd cp addr top l (w + 1) (xs, f) = if (l' : Int) = ((w + 1 : Nat) : Int) ∧ zbu (atM sz m t' (idx addr ((w + 1 : Nat) : Int))) = true ∧ zdl m (atM sz m t' (idx addr ((w + 1 : Nat) : Int))).ppn = true
        then (zbv sz (TableC.zbf m (atM sz m t' (idx addr ((w + 1 : Nat) : Int))).ppn) t' (idx addr ((w + 1 : Nat) : Int)) zP, TableC2.zdn cd cp ff (atM sz m t' (idx addr ((w + 1 : Nat) : Int))).ppn) else (m, ff) := hst
    by_cases c1 : (l' : Int) = ((w + 1 : Nat) : Int)
    · rw [c1] at hrc
      have hi := idx_bd addr ((w + 1 : Nat) : Int)
      have hlk := zi4 (atM sz m t' (idx addr ((w + 1 : Nat) : Int)))
      have hlk1 : zbu (atM sz m t' (idx addr ((w + 1 : Nat) : Int))) = true → lkP (atM sz m t' (idx addr ((w + 1 : Nat) : Int))) = true := fun c => by
        rcases y1.e.k t' _ hi with e | ⟨_, _, ⟨e, _⟩ | ⟨e, _⟩⟩
        · rw [e] at c; cases c
        · rw [(zcq e).1] at c; cases c
        · exact e
      cases c2 : zbu (atM sz m t' (idx addr ((w + 1 : Nat) : Int))) with
      | false =>
        rw [c2] at hlk
        rw [if_neg (fun hh => by rw [c2] at hh; exact absurd hh.2.1 (by simp))] at hst
        generalize atM sz m t' (idx addr ((w + 1 : Nat) : Int)) = q at *
        clear hR hlk1 y1 i1 i6 x2
        repeat (first | (refine zal rfl ?_; first | refine gdr (zaw rfl) ?_ | refine gdr (zaa (.inl rfl) rfl) ?_ | refine gnk 1 rfl (za2 tb rfl rfl rfl rfl rfl) ?_ | refine gnx 1 rfl (zbc tb rfl rfl rfl) rfl ?_ | refine gdr (zaa (.inr rfl) rfl) ?_ | refine gdr (zaj rfl rfl rfl) ?_ | refine gdr (za6 rfl rfl rfl rfl) ?_ | refine gdr (gar rfl rfl rfl rfl) ?_ | refine gdr (zae rfl rfl rfl rfl rfl) ?_ | refine gnk 1 rfl (zbe rfl rfl rfl rfl rfl rfl rfl) ?_ | refine gdr (zas rfl rfl rfl) ?_ | refine gdr (zab rfl rfl rfl (hrc) (by kernel_rfl)) ?_ | refine gdr (zab rfl rfl rfl (hlk) (by kernel_rfl)) ?_) | (refine hK _ ?_; clear hK K) | (rename_i K1 hK1; refine hK1 _ ?_; clear hK hK1; clear K) | refine zad rfl ?_ | refine zai rfl rfl ?_ | refine zam ?_ | refine zba ?_ | refine zao ?_ | refine zac (fun K hK => ?_))
        exact ⟨(w + 1, m, ff), ⟨by show w + 1 ≤ l; omega, hst.symm⟩, by show l - (w + 1) < l - w; omega, zar _ _ ⟨by kernel_rfl, by kernel_rfl, by kernel_rfl, by kernel_rfl, by kernel_rfl, by kernel_rfl, by kernel_rfl, by kernel_rfl, trivial⟩ ⟨by kernel_rfl, by kernel_rfl, by kernel_rfl, by kernel_rfl, trivial⟩ (by kernel_rfl)⟩
      | true =>
        rw [c2] at hlk
        obtain ⟨k1, k2, k3, k4⟩ := zod y1 hi (hlk1 c2)
        have bq := k4.1
        have hem := zv0 sz m (atM sz m t' (idx addr ((w + 1 : Nat) : Int))).ppn ⟨by omega, by omega⟩ (by omega) (fun c hc => by have := (y1.r c hc).1; exact ⟨by omega, by omega⟩)
        cases c3 : zdl m (atM sz m t' (idx addr ((w + 1 : Nat) : Int))).ppn with
        | false =>
          rw [c3] at hem
          rw [if_neg (fun hh => by rw [c3] at hh; exact absurd hh.2.2 (by simp))] at hst
          generalize atM sz m t' (idx addr ((w + 1 : Nat) : Int)) = q at *
          clear hR hlk1 y1 i1 i6 x2 k1 k2 k3 k4
          repeat (first | (refine zal rfl ?_; first | refine gdr (zaa (.inl rfl) rfl) ?_ | refine gnk 1 rfl (za2 tb rfl rfl rfl rfl rfl) ?_ | refine gnx 1 rfl (zbc tb rfl rfl rfl) rfl ?_ | refine gdr (zaa (.inr rfl) rfl) ?_ | refine gdr (zaj rfl rfl rfl) ?_ | refine gdr (za6 rfl rfl rfl rfl) ?_ | refine gdr (gar rfl rfl rfl rfl) ?_ | refine gdr (zae rfl rfl rfl rfl rfl) ?_ | refine gnk 1 rfl (zbe rfl rfl rfl rfl rfl rfl rfl) ?_ | refine gdr (zas rfl rfl rfl) ?_ | refine gdr (zab rfl rfl rfl (hrc) (by kernel_rfl)) ?_ | refine gdr (zab rfl rfl rfl (hlk) (by kernel_rfl)) ?_ | refine gdr (zab rfl rfl rfl (hem) (by kernel_rfl)) ?_) | (refine hK _ ?_; clear hK K) | (rename_i K1 hK1; refine hK1 _ ?_; clear hK hK1; clear K) | refine zad rfl ?_ | refine zai rfl rfl ?_ | refine zam ?_ | refine zba ?_ | refine zao ?_ | refine zac (fun K hK => ?_))
          exact ⟨(w + 1, m, ff), ⟨by show w + 1 ≤ l; omega, hst.symm⟩, by show l - (w + 1) < l - w; omega, zar _ _ ⟨by kernel_rfl, by kernel_rfl, by kernel_rfl, by kernel_rfl, by kernel_rfl, by kernel_rfl, by kernel_rfl, by kernel_rfl, trivial⟩ ⟨by kernel_rfl, by kernel_rfl, by kernel_rfl, by kernel_rfl, trivial⟩ (by kernel_rfl)⟩
        | true =>
          rw [c3] at hem
          rw [if_pos ⟨c1, c2, c3⟩] at hst
          have bt' := i4.1
          have hbk := zrs sz m cd cp ff (atM sz m t' (idx addr ((w + 1 : Nat) : Int))).ppn ⟨by omega, by omega⟩ (by omega) huf ⟨by omega, by omega⟩ y1.s (by omega) (fun c hc => by have := (y1.r c hc).1; omega)
          have hwl := zd1 m (atM sz m t' (idx addr ((w + 1 : Nat) : Int))).ppn
          have hwt := zgu sz (TableC.zbf m (atM sz m t' (idx addr ((w + 1 : Nat) : Int))).ppn) t' ((w + 1 : Nat) : Int) (atM sz m t' (idx addr ((w + 1 : Nat) : Int))) addr ⟨false, false, false, false, false, false, false, false, 0, 0, 0⟩ ha zyr (by decide) (by omega) (by omega) ⟨by omega, by omega⟩ (zc9 _ y1.s) (by omega)
          rw [show (⟨false, false, false, false, false, false, false, false, 0, 0, 0⟩ : Pte) = zP from rfl, ← zen (sz := sz) zyr (by omega) hi (by rw [bz]; omega)] at hwt
          replace hwt : Ok 95 [zbm sz (TableC.zbf m (atM sz m t' (idx addr ((w + 1 : Nat) : Int))).ppn), .ag (zbi t' ((w + 1 : Nat) : Int) (atM sz m t' (idx addr ((w + 1 : Nat) : Int)))), iu addr, .ag (⟨false, false, false, false, false, false, false, false, 0, 0, 0⟩ : Pte).ce] (.m (zbm sz (zbv sz (TableC.zbf m (atM sz m t' (idx addr ((w + 1 : Nat) : Int))).ppn) t' (idx addr ((w + 1 : Nat) : Int)) zP))) := hwt
          generalize zbv sz (TableC.zbf m (atM sz m t' (idx addr ((w + 1 : Nat) : Int))).ppn) t' (idx addr ((w + 1 : Nat) : Int)) zP = m3 at *
          generalize TableC.zbf m (atM sz m t' (idx addr ((w + 1 : Nat) : Int))).ppn = m2 at *
          generalize TableC2.zdn cd cp ff (atM sz m t' (idx addr ((w + 1 : Nat) : Int))).ppn = f3 at *
          generalize atM sz m t' (idx addr ((w + 1 : Nat) : Int)) = q at *
          clear hR hlk1 y1 i1 i6 x2 k1 k2 k3 k4
          repeat (first | (refine zal rfl ?_; first | refine gdr (zaa (.inl rfl) rfl) ?_ | refine gnk 1 rfl (za2 tb rfl rfl rfl rfl rfl) ?_ | refine gnx 1 rfl (zbc tb rfl rfl rfl) rfl ?_ | refine gdr (zaa (.inr rfl) rfl) ?_ | refine gdr (zaj rfl rfl rfl) ?_ | refine gdr (zak rfl rfl rfl rfl) ?_ | refine gdr (za6 rfl rfl rfl rfl) ?_ | refine gdr (gar rfl rfl rfl rfl) ?_ | refine gdr (zae rfl rfl rfl rfl rfl) ?_ | refine gnk 1 rfl (zbe rfl rfl rfl rfl rfl rfl rfl) ?_ | refine gdr (zas rfl rfl rfl) ?_ | refine gdr (zaq rfl rfl rfl rfl) ?_ | refine gdr (zab rfl rfl rfl (hrc) (by kernel_rfl)) ?_ | refine gdr (zab rfl rfl rfl (hlk) (by kernel_rfl)) ?_ | refine gdr (zab rfl rfl rfl (hem) (by kernel_rfl)) ?_ | refine gdr (zab rfl rfl rfl (hbk) (by kernel_rfl)) ?_ | refine gdr (zab rfl rfl rfl (hwt) (by kernel_rfl)) ?_) | (refine hK _ ?_; clear hK K) | refine zad rfl ?_ | refine zai rfl rfl ?_ | refine zah rfl rfl ?_ | refine zam ?_ | refine zao ?_ | refine zac (fun K hK => ?_))
          exact ⟨(w + 1, m3, f3), ⟨by show w + 1 ≤ l; omega, hst.symm⟩, by show l - (w + 1) < l - w; omega, zar _ _ ⟨by kernel_rfl, by kernel_rfl, by kernel_rfl, by kernel_rfl, by kernel_rfl, by kernel_rfl, by kernel_rfl, by kernel_rfl, trivial⟩ ⟨by kernel_rfl, by kernel_rfl, by kernel_rfl, by kernel_rfl, trivial⟩ (by kernel_rfl)⟩
    · rw [if_neg (fun hh => c1 hh.1)] at hst
      generalize atM sz m t' (idx addr (l' : Int)) = q at *
      clear hR y1 i1 i6 x2
      repeat (first | (refine zal rfl ?_; first | refine gdr (zaw rfl) ?_ | refine gdr (zaa (.inl rfl) rfl) ?_ | refine gnk 1 rfl (za2 tb rfl rfl rfl rfl rfl) ?_ | refine gnx 1 rfl (zbc tb rfl rfl rfl) rfl ?_ | refine gdr (zaa (.inr rfl) rfl) ?_ | refine gdr (zaj rfl rfl rfl) ?_ | refine gdr (za6 rfl rfl rfl rfl) ?_ | refine gdr (gar rfl rfl rfl rfl) ?_ | refine gdr (zae rfl rfl rfl rfl rfl) ?_ | refine gnk 1 rfl (zbe rfl rfl rfl rfl rfl rfl rfl) ?_ | refine gdr (zab rfl rfl rfl (hrc) (by kernel_rfl)) ?_) | (refine hK _ ?_; clear hK K) | (rename_i K1 hK1; refine hK1 _ ?_; clear hK hK1; clear K) | refine zad rfl ?_ | refine zai rfl rfl ?_ | refine zam ?_ | refine zba ?_ | refine zao ?_ | refine zac (fun K hK => ?_))
      exact ⟨(w + 1, m, ff), ⟨by show w + 1 ≤ l; omega, hst.symm⟩, by show l - (w + 1) < l - w; omega, zar _ _ ⟨by kernel_rfl, by kernel_rfl, by kernel_rfl, by kernel_rfl, by kernel_rfl, by kernel_rfl, by kernel_rfl, by kernel_rfl, trivial⟩ ⟨by kernel_rfl, by kernel_rfl, by kernel_rfl, by kernel_rfl, trivial⟩ (by kernel_rfl)⟩
  · obtain rfl : w = l := by omega
    rw [← x2] at hR
    subst hR
    clear x2
    repeat (first | (refine zal rfl ?_; first | refine gdr (zaa (.inl rfl) rfl) ?_ | refine gnk 1 rfl (za2 tb rfl rfl rfl rfl rfl) ?_ | refine gdr (za6 rfl rfl rfl rfl) ?_ | refine gnk 1 rfl (zbe rfl rfl rfl rfl rfl rfl rfl) ?_) | (refine hK _ ?_; clear hK K) | (rename_i K1 hK1; refine hK1 _ ?_; clear hK hK1; clear K) | refine zad rfl ?_ | refine za4 (by kernel_rfl) (by kernel_rfl) rfl ?_ | exact zap (show za8 _ _ _ = some _ by kernel_rfl) | refine zah rfl rfl ?_ | refine zba ?_ | refine zac (fun K hK => ?_))
end
end Go.Proofs.YtmkjfeamgknpfaaGreatDoor.LkB
namespace Go.Proofs.YtmkjfeamgknpfaaGreatDoor.LkC
open Go.RowKit Bv VaSpec Base MemL RegR Ax MemC PutC MemC3 TzC OkS SpA SpB SpC SpF SpH SpI SpJ LaA LaB LaC LaD LaE LaF LaG LiA LiB LiC LiD LiE LiF SpG SpL SpN SpO RfA RfB RfC RfD RlA RlB LjB LkA LkB
open BitsC PteSpec
set_option maxRecDepth 10000
set_option maxHeartbeats 1000000
theorem zeo (xs ys : List (Int × Int)) : fl (xs ++ ys) = fl xs ++ fl ys := by unfold fl; rw [List.flatMap_append]
theorem zqm : ∀ xs : List (Int × Int), (fl xs).all (·.oneCell') = true
  | [] => rfl
  | c :: xs => by rw [show fl (c :: xs) = [.int .u64 c.1, .int .u64 c.2] ++ fl xs from rfl, List.all_append, zqm xs]; rfl
theorem zr3 (l : Int) (h0 : 0 ≤ l) (h2 : l ≤ 2) : Ok 175 [ii l] (.m (iu (VaSpec.sz l / 4096))) := by
  have h1 := zmz l h0 h2
  have hz := zn2 l h0 h2
  generalize VaSpec.sz l = z at *
  refine zaf 6 Tryz.func175 rfl rfl rfl rfl ?_ GG.to
  intro W A hG
  repeat (first | (refine zal rfl ?_; first | refine gdr (zaa (.inl rfl) rfl) ?_ | refine gdr (zaa (.inr rfl) rfl) ?_ | refine gdr (zbs rfl rfl rfl rfl (by omega) (by omega) (by first | exact zdb (by omega) (by omega) | exact zdc (by omega) (by omega))) ?_ | refine gdr (zab rfl rfl rfl (h1) (by kernel_rfl)) ?_) | (refine hK _ ?_; clear hK K) | refine zad rfl ?_ | exact zap (show za8 _ _ _ = some _ by kernel_rfl) | refine zac (fun K hK => ?_))
theorem zoo (g : Int) (v : Nat → Int) (n : Nat) : zlj g v (n + 1) = zlj g v n ++ [(g * 512 + (n : Int), v n)] := by unfold zlj; rw [List.range_succ, List.map_append]; rfl
theorem zr4 (g : Int) (v : Nat → Int) (n : Nat) : (zlj g v n).length = n := by unfold zlj; simp
def rl1 (sz cd cp a t l g : Int) (q : Pte) (xs : List (Int × Int)) (f : Int) (j n : Nat) (vs : List Value) : St := St.of [(3, .m (iu a)), (6, .m (.c (.p 6 0))), (8, .m (.c (.p 8 0))), (9, .m (.c (.p 9 0))), (10, .m (ii 0)), (11, .m (.c (.p 11 0))), (12, .m (.c (.p 12 0))), (13, .m (iu g)), (15, .m (.c (.o 1000))), (16, .m (iu j))] [(6, .live (.box (zbi t l q))), (8, .live (.box [cu 0, .v (.slice none 0 0)])), (9, .live (.box [cu 0, ci 0, cu 0])), (11, .live (.box [cu sz, .s xs.length 2 (fl xs)])), (12, .live (.box [cu cd, ci cp, cu f])), (1000, .live (.row 163 2 n vs))]
def rl2 (sz cd cp a t l g : Int) (q : Pte) (xs : List (Int × Int)) (f : Int) (vr : List Value) (d : Bool) (i n : Nat) (vs : List Value) : St := St.of [(3, .m (iu a)), (6, .m (.c (.p 6 0))), (8, .m (.c (.p 8 0))), (9, .m (.c (.p 9 0))), (10, .m (ii 0)), (11, .m (.c (.p 11 0))), (12, .m (.c (.p 12 0))), (13, .m (iu g)), (15, .m (.c (.o 1000))), (18, .m (.c (.o 1001))), (19, .m (ib d)), (20, .m (ii i))] [(6, .live (.box (zbi t l q))), (8, .live (.box [cu 0, .v (.slice none 0 0)])), (9, .live (.box [cu 0, ci 0, cu 0])), (11, .live (.box [cu sz, .s xs.length 2 (fl xs)])), (12, .live (.box [cu cd, ci cp, cu f])), (1000, .live (.row 163 2 512 vr)), (1001, .live (.row 163 2 n vs))]
theorem zv6 {cd cp sz f sh : Int} {xs : List (Int × Int)} {lv : Int → Int} (h : TI cd cp sz xs f sh lv) (h0 : f ≠ 0) (hn : xs.length ≤ 100000) {t a : Int} {q : Pte} (ha : U a) (ht : Al cd cp f t) (hq : q = atM sz xs t (idx a 1)) (h1 : zbr q = true) (h2 : zej q 1 = false) :
    Ok 147 [zbm sz xs, .ag [cu cd, ci cp, cu f], .ag (zbi t 1 q), iu a] (.tu [zbm sz (zhe sz xs t (idx a 1) 1 q (cd + tzI f)), .ag [cu cd, ci cp, cu (zb9 f (tzI f) 1 0)], ii 0]) := by
  obtain ⟨a0, a1, a2, a3⟩ := zd8 h h0
  have b1 := h.bd
  have b2 := h.bp
  have bz := h.bz
  have bt := ht.1
  have hqU : q.U := by rw [hq]; exact zgw h.u _ _ _
  have hqm : zf7 q = true := by rw [hq]; exact zlh h.u
  have hf := zgh sz xs cd cp f (by omega) (by omega) h.bf h0 h.s (by omega) (fun c hc => by have := (h.r c hc).1; omega)
  rw [h.gm.wipe h0] at hf
  have hg : 0 ≤ cd + tzI f ∧ cd + tzI f < 1099511627776 := by omega
  have hgb : cd + tzI f ≤ 524352 := by omega
  have hgz : (cd + tzI f) * 4096 + 4096 ≤ sz := by omega
  have hi := idx_bd a 1
  have hpg : Ok 175 [ii 0] (.m (iu 1)) := zr3 0 (by omega) (by omega)
  have hlU := zgx (n := cd + tzI f) (by omega)
  have hRs := zge (g := cd + tzI f) (v := fun j => PteC.zcc (prt q 1 j)) h.s
  have hRl := zid xs (cd + tzI f) (fun j => PteC.zcc (prt q 1 j))
  have hpf : ∀ i : Int, (0 ≤ i ∧ i < 512) → (prt q 1 i).U ∧ zf7 (prt q 1 i) = true := fun i hi => ⟨(zdf hqU hqm (by omega) h1 h2 hi).1, (zdf hqU hqm (by omega) h1 h2 hi).2.1⟩
  have hnz : ∀ i : Nat, i < 512 → PteC.zcc (prt q 1 (i : Int)) ≠ 0 := fun i hi => by
    obtain ⟨p1, p2, p3, _⟩ := zdf hqU hqm (by omega) h1 h2 (i := (i : Int)) ⟨by omega, by omega⟩
    refine zyw p1 p2 ?_
    unfold zbr at p3
    simp only [Bool.and_eq_true] at p3
    exact p3.1
  have hfar0 : ∀ c ∈ xs, c.1 < (cd + tzI f) * 512 ∨ (cd + tzI f) * 512 + 512 ≤ c.1 := fun c hc => by
    have := (h.gm.take h0 (h.gm.c c hc).1).1
    omega
  have hfar : ∀ c ∈ xs, c.1 < (cd + tzI f) * 512 ∨ (cd + tzI f) * 512 + 512 ≤ c.1 := hfar0
  have hrw := rowW (v := fun j => PteC.zcc (prt q 1 j)) h.s hfar hnz
  have hfin := zgu sz (zer xs (cd + tzI f) (fun j => PteC.zcc (prt q 1 j)) 512) t 1 q a (lnk (cd + tzI f)) ha hlU (zqh (n := cd + tzI f) (by omega)) (by omega) (by omega) (by omega) (hRs 512) (by have := hRl 512; omega)
  rw [← zen (sz := sz) hlU (by omega) hi (by rw [bz]; omega)] at hfin
  have hpb : 0 ≤ q.ppn ∧ q.ppn < 17592186044416 := by rw [hq]; exact zdo ..
  have hRl := hRl 512
  unfold zhe
  generalize hgen : cd + tzI f = g at *
  generalize zb9 f (tzI f) 1 0 = f2 at *
  replace hfin : Ok 95 [.ag [cu sz, .s (zer xs g (fun j => PteC.zcc (prt q 1 j)) 512).length 2 (fl (zer xs g (fun j => PteC.zcc (prt q 1 j)) 512))], .ag (zbi t 1 q), iu a, .ag (⟨true, false, false, false, false, false, false, false, 0, g, 0⟩ : Pte).ce] (.m (zbm sz (zbv sz (zer xs g (fun j => PteC.zcc (prt q 1 j)) 512) t (idx a 1) (lnk g)))) := hfin
  generalize zbv sz (zer xs g (fun j => PteC.zcc (prt q 1 j)) 512) t (idx a 1) (lnk g) = fin at *
  refine zaf 105 Tryz.func147 rfl rfl rfl rfl ?_ GG.to
  intro W A hG
  repeat (first | (refine zal rfl ?_; first | refine gdr (zaa (.inl rfl) rfl) ?_ | refine gnk 1 rfl (za2 tb rfl rfl rfl rfl rfl) ?_ | refine gdr (zaa (.inr rfl) rfl) ?_ | refine gdr (zak rfl rfl rfl rfl) ?_ | refine gdr (za6 rfl rfl rfl rfl) ?_ | refine gdr (zag rfl rfl rfl rfl rfl rfl) ?_ | refine gdr (zae rfl rfl rfl rfl rfl) ?_ | refine gnk 1 rfl (zbe rfl rfl rfl rfl rfl rfl rfl) ?_ | refine gdr (zab rfl rfl rfl (hf) (by kernel_rfl)) ?_) | (refine hK _ ?_; clear hK K) | refine zad rfl ?_ | refine zah rfl rfl ?_ | refine zam ?_ | refine zao ?_ | refine zac (fun K hK => ?_))
  refine za9 (α := Nat × Nat × List Value) (fun p => p.1 ≤ 512 ∧ p.2.1 = p.1 ∧ p.2.2 = fl (zlj g (fun j => PteC.zcc (prt q 1 j)) p.1)) (fun p => rl1 sz cd cp a t 1 g q xs f2 p.1 p.2.1 p.2.2) (fun p => 512 - p.1) (0, 0, []) ⟨by show 0 ≤ 512; omega, rfl, rfl⟩ (Sub.trans (zd7 15 1000 163 2 rfl rfl) (zar _ _ ⟨by kernel_rfl, by kernel_rfl, by kernel_rfl, by kernel_rfl, by kernel_rfl, by kernel_rfl, by kernel_rfl, by kernel_rfl, by kernel_rfl, by kernel_rfl, trivial⟩ ⟨by kernel_rfl, by kernel_rfl, by kernel_rfl, by kernel_rfl, by kernel_rfl, by kernel_rfl, trivial⟩ (by kernel_rfl))) ?_
  rintro ⟨j, n, vs⟩ ⟨x1, x2, x3⟩
  replace x1 : j ≤ 512 := x1
  replace x2 : n = j := x2
  replace x3 : vs = fl (zlj g (fun j => PteC.zcc (prt q 1 j)) j) := x3
  show Aw _ _ _ _ (rl1 sz cd cp a t 1 g q xs f2 j n vs)
  unfold rl1
  by_cases hlt : j < 512
  · obtain ⟨p1, p2⟩ := hpf (j : Int) ⟨by omega, by omega⟩
    have hpu := zqg _ p1 p2
    have hpe : prt q 1 (j : Int) = ⟨q.v, q.r, q.w, q.x, q.u, q.g, q.a, q.d, q.rsw, q.ppn + (j : Int) * 1, q.high⟩ := rfl
    have x4 : vs ++ [.int .u64 (512 * g + (j : Int)), .int .u64 (PteC.zcc (prt q 1 (j : Int)))] = fl (zlj g (fun j => PteC.zcc (prt q 1 j)) (j + 1)) := by
      rw [zoo, zeo, x3, show (512 : Int) * g = g * 512 by omega]; rfl
    replace hpu : Ok 149 [.ag (⟨q.v, q.r, q.w, q.x, q.u, q.g, q.a, q.d, q.rsw, q.ppn + (j : Int) * 1, q.high⟩ : Pte).ce] (.m (iu (PteC.zcc (prt q 1 (j : Int))))) := hpu
    generalize PteC.zcc (prt q 1 (j : Int)) = e at *
    clear hrw hfin hfar hnz hpf x3 hRs hRl hpe p1 p2 hq h1 h2
    repeat (first | (refine zal rfl ?_; first | refine gdr (zaa (.inl rfl) rfl) ?_ | refine gnk 1 rfl (za2 tb rfl rfl rfl rfl rfl) ?_ | refine gnx 1 rfl (zbc tb rfl rfl rfl) rfl ?_ | refine gdr (za6 rfl rfl rfl rfl) ?_ | refine gdr (gar rfl rfl rfl rfl) ?_ | refine gdr (zae rfl rfl rfl rfl rfl) ?_ | refine gnk 1 rfl (zbe rfl rfl rfl rfl rfl rfl rfl) ?_ | refine gdr (zaq rfl rfl rfl rfl) ?_ | refine gdr (zax rfl rfl rfl rfl rfl rfl rfl rfl rfl rfl rfl) ?_ | refine gdr (zab rfl rfl rfl (hpg) (by kernel_rfl)) ?_ | refine gdr (zab rfl rfl rfl (hpu) (by kernel_rfl)) ?_) | (refine hK _ ?_; clear hK K) | refine zad rfl ?_ | refine za4 (by kernel_rfl) (by kernel_rfl) rfl ?_ | refine zai rfl rfl ?_ | refine zam ?_ | refine zao ?_ | refine zac (fun K hK => ?_))
    refine zal rfl ?_
    refine zee (zbd rfl rfl rfl rfl rfl rfl rfl rfl rfl rfl rfl rfl rfl (by omega)) (by kernel_rfl) ?_
    repeat (first | (refine zal rfl ?_; first | refine gdr (zaa (.inl rfl) rfl) ?_ | refine gdr (zaa (.inr rfl) rfl) ?_ | refine gdr (gar rfl rfl rfl rfl) ?_) | (refine hK _ ?_; clear hK K) | refine zad rfl ?_)
    exact ⟨(j + 1, n + 1, vs ++ [.int .u64 (512 * g + (j : Int)), .int .u64 e]), ⟨by show j + 1 ≤ 512; omega, by show n + 1 = j + 1; omega, x4⟩, by show 512 - (j + 1) < 512 - j; omega, Sub.trans (zar [(3, .m (iu a)), (6, .m (.c (.p 6 0))), (8, .m (.c (.p 8 0))), (9, .m (.c (.p 9 0))), (10, .m (ii 0)), (11, .m (.c (.p 11 0))), (12, .m (.c (.p 12 0))), (13, .m (iu g)), (15, .m (.c (.o 59))), (16, .m (iu ((j + 1 : Nat) : Int)))] [(6, .live (.box (zbi t 1 q))), (8, .live (.box [cu 0, .v (.slice none 0 0)])), (9, .live (.box [cu 0, ci 0, cu 0])), (11, .live (.box [cu sz, .s xs.length 2 (fl xs)])), (12, .live (.box [cu cd, ci cp, cu f2])), (59, .live (.row 163 2 (n + 1) (vs ++ [.int .u64 (512 * g + (j : Int)), .int .u64 e])))] ⟨by kernel_rfl, by kernel_rfl, by kernel_rfl, by kernel_rfl, by kernel_rfl, by kernel_rfl, by kernel_rfl, by kernel_rfl, by kernel_rfl, by kernel_rfl, trivial⟩ ⟨by kernel_rfl, by kernel_rfl, by kernel_rfl, by kernel_rfl, by kernel_rfl, by kernel_rfl, trivial⟩ (by kernel_rfl)) (Sub.trans (zcp (b := 59) (b' := 1000) rfl rfl) (zar _ _ ⟨by kernel_rfl, by kernel_rfl, by kernel_rfl, by kernel_rfl, by kernel_rfl, by kernel_rfl, by kernel_rfl, by kernel_rfl, by kernel_rfl, by kernel_rfl, trivial⟩ ⟨by kernel_rfl, by kernel_rfl, by kernel_rfl, by kernel_rfl, by kernel_rfl, by kernel_rfl, trivial⟩ (by kernel_rfl)))⟩
  · obtain rfl : j = 512 := by omega
    obtain rfl : n = 512 := x2
    have hra : vs.all (·.oneCell') = true := by rw [x3]; exact zqm _
    generalize zer xs g (fun j => PteC.zcc (prt q 1 j)) 512 = ys at *
    have hrl := zr4 g (fun j => PteC.zcc (prt q 1 j)) 512
    generalize zlj g (fun j => PteC.zcc (prt q 1 j)) 512 = row at *
    clear hfar hnz hpf hRs hlt x1 hfar0 hq h1 h2
    generalize vs = vr at *
    have b5 : 0 ≤ g * 512 := by omega
    repeat (first | (refine zal rfl ?_; first | refine gdr (zaa (.inl rfl) rfl) ?_ | refine gdr (zaa (.inr rfl) rfl) ?_ | refine gdr (za6 rfl rfl rfl rfl) ?_) | (refine hK _ ?_; clear hK K) | (rename_i K1 hK1; refine hK1 _ ?_; clear hK hK1; clear K) | refine zad rfl ?_ | refine zah rfl rfl ?_ | refine zam ?_ | refine zba ?_ | refine zac (fun K hK => ?_))
    refine za9 (α := Nat × Bool × Nat × List Value) (fun p => p.1 ≤ xs.length ∧ p.2.1 = ((xs.take p.1).foldl (zbx (g * 512) row) ([], false)).2 ∧ p.2.2.1 = ((xs.take p.1).foldl (zbx (g * 512) row) ([], false)).1.length ∧ p.2.2.2 = fl ((xs.take p.1).foldl (zbx (g * 512) row) ([], false)).1 ∧ p.2.2.1 ≤ p.1 + 512 ∧ (p.2.1 = false → p.2.2.1 ≤ p.1)) (fun p => rl2 sz cd cp a t 1 g q xs f2 vr p.2.1 p.1 p.2.2.1 p.2.2.2) (fun p => xs.length - p.1) (0, false, 0, []) ⟨Nat.zero_le _, rfl, rfl, rfl, by show 0 ≤ 0 + 512; omega, fun _ => Nat.le_refl _⟩ (Sub.trans (zd7 18 1001 163 2 rfl rfl) (zar _ _ ⟨by kernel_rfl, by kernel_rfl, by kernel_rfl, by kernel_rfl, by kernel_rfl, by kernel_rfl, by kernel_rfl, by kernel_rfl, by kernel_rfl, by kernel_rfl, by kernel_rfl, by kernel_rfl, trivial⟩ ⟨by kernel_rfl, by kernel_rfl, by kernel_rfl, by kernel_rfl, by kernel_rfl, by kernel_rfl, by kernel_rfl, trivial⟩ (by kernel_rfl))) ?_
    rintro ⟨i, d, n, vs⟩ ⟨z1, z2, z3, z4, z5, hlen⟩
    replace z1 : i ≤ xs.length := z1
    replace z2 : d = ((xs.take i).foldl (zbx (g * 512) row) ([], false)).2 := z2
    replace z3 : n = ((xs.take i).foldl (zbx (g * 512) row) ([], false)).1.length := z3
    replace z4 : vs = fl ((xs.take i).foldl (zbx (g * 512) row) ([], false)).1 := z4
    replace z5 : n ≤ i + 512 := z5
    replace hlen : d = false → n ≤ i := hlen
    show Aw _ _ _ _ (rl2 sz cd cp a t 1 g q xs f2 vr d i n vs)
    unfold rl2
    by_cases hlt : i < xs.length
    · obtain ⟨c, hci⟩ : ∃ c, xs[i]? = some c := ⟨_, List.getElem?_eq_getElem hlt⟩
      have hx := SpL.zio hci
      have hcr := (h.r c (List.mem_of_getElem? hci)).1
      have ht : (xs.take (i + 1)).foldl (zbx (g * 512) row) ([], false) = zbx (g * 512) row ((xs.take i).foldl (zbx (g * 512) row) ([], false)) c := by rw [List.take_add_one, hci, List.foldl_append]; rfl
      generalize (xs.take i).foldl (zbx (g * 512) row) ([], false) = st at *
      obtain ⟨acc, d'⟩ := st
      replace z2 : d = d' := z2
      subst z2
      replace z3 : n = acc.length := z3
      replace z4 : vs = fl acc := z4
      cases d with
      | true =>
        have ht : (xs.take (i + 1)).foldl (zbx (g * 512) row) ([], false) = (acc ++ [c], true) := by rw [ht]; unfold zbx; rw [if_neg (fun hh => by cases hh.1)]
        have z6 : n + 1 = ((xs.take (i + 1)).foldl (zbx (g * 512) row) ([], false)).1.length := by rw [ht, z3]; simp
        have z7 : vs ++ [.int .u64 c.1, .int .u64 c.2] = fl ((xs.take (i + 1)).foldl (zbx (g * 512) row) ([], false)).1 := by rw [ht, z4, zeo]; rfl
        have z8 : true = ((xs.take (i + 1)).foldl (zbx (g * 512) row) ([], false)).2 := by rw [ht]
        clear ht z3 z4 x3 hra hrw hfin hgen hf h hlen
        repeat (first | (refine zal rfl ?_; first | refine gdr (zaw rfl) ?_ | refine gdr (zaa (.inl rfl) rfl) ?_ | refine gnk 1 rfl (za2 tb rfl rfl rfl rfl rfl) ?_ | refine gnx 1 rfl (zbc tb rfl rfl rfl) rfl ?_ | refine gdr (zaj rfl rfl rfl) ?_ | refine gdr (za6 rfl rfl rfl rfl) ?_ | refine gdr (zan rfl rfl rfl rfl) ?_ | refine gnx 3 rfl (zau tb rfl rfl rfl rfl (by first | kernel_rfl | rfl)) rfl ?_ | refine gdr (zas rfl rfl rfl) ?_ | refine gnx 4 rfl (zav rfl rfl rfl rfl rfl rfl (by omega) (by omega) _ (by assumption)) rfl ?_ | refine gdr (zax rfl rfl rfl rfl rfl rfl rfl rfl rfl rfl rfl) ?_) | (refine hK _ ?_; clear hK K) | refine zad rfl ?_ | refine zai rfl rfl ?_ | refine zah rfl rfl ?_ | refine zam ?_ | refine zao ?_ | refine zac (fun K hK => ?_))
        refine zal rfl ?_
        refine zee (zbd rfl rfl rfl rfl rfl rfl rfl rfl rfl rfl rfl rfl rfl (by omega)) (by kernel_rfl) ?_
        repeat (first | (refine zal rfl ?_; first | refine gdr (zaa (.inl rfl) rfl) ?_ | refine gdr (zaa (.inr rfl) rfl) ?_ | refine gdr (gar rfl rfl rfl rfl) ?_) | (refine hK _ ?_; clear hK K) | refine zad rfl ?_)
        exact ⟨(i + 1, true, n + 1, vs ++ [.int .u64 c.1, .int .u64 c.2]), ⟨by show i + 1 ≤ xs.length; omega, z8, z6, z7, by show n + 1 ≤ i + 1 + 512; omega, fun hh => by cases hh⟩, by show xs.length - (i + 1) < xs.length - i; omega, Sub.trans (zar [(3, .m (iu a)), (6, .m (.c (.p 6 0))), (8, .m (.c (.p 8 0))), (9, .m (.c (.p 9 0))), (10, .m (ii 0)), (11, .m (.c (.p 11 0))), (12, .m (.c (.p 12 0))), (13, .m (iu g)), (15, .m (.c (.o 1000))), (18, .m (.c (.o 90))), (19, .m (ib true)), (20, .m (ii ((i + 1 : Nat) : Int)))] [(6, .live (.box (zbi t 1 q))), (8, .live (.box [cu 0, .v (.slice none 0 0)])), (9, .live (.box [cu 0, ci 0, cu 0])), (11, .live (.box [cu sz, .s xs.length 2 (fl xs)])), (12, .live (.box [cu cd, ci cp, cu f2])), (1000, .live (.row 163 2 512 vr)), (90, .live (.row 163 2 (n + 1) (vs ++ [.int .u64 c.1, .int .u64 c.2])))] ⟨by kernel_rfl, by kernel_rfl, by kernel_rfl, by kernel_rfl, by kernel_rfl, by kernel_rfl, by kernel_rfl, by kernel_rfl, by kernel_rfl, by kernel_rfl, by kernel_rfl, by kernel_rfl, trivial⟩ ⟨by kernel_rfl, by kernel_rfl, by kernel_rfl, by kernel_rfl, by kernel_rfl, by kernel_rfl, by kernel_rfl, trivial⟩ (by kernel_rfl)) (Sub.trans (zcp (b := 90) (b' := 1001) rfl rfl) (zar _ _ ⟨by kernel_rfl, by kernel_rfl, by kernel_rfl, by kernel_rfl, by kernel_rfl, by kernel_rfl, by kernel_rfl, by kernel_rfl, by kernel_rfl, by kernel_rfl, by kernel_rfl, by kernel_rfl, trivial⟩ ⟨by kernel_rfl, by kernel_rfl, by kernel_rfl, by kernel_rfl, by kernel_rfl, by kernel_rfl, by kernel_rfl, trivial⟩ (by kernel_rfl)))⟩
      | false =>
        by_cases hge : g * 512 ≤ c.1
        · replace ht : (xs.take (i + 1)).foldl (zbx (g * 512) row) ([], false) = (acc ++ row ++ [c], true) := by rw [ht]; unfold zbx; rw [if_pos ⟨rfl, hge⟩]
          have hni := hlen rfl
          have z6 : n + 512 + 1 = ((xs.take (i + 1)).foldl (zbx (g * 512) row) ([], false)).1.length := by rw [ht, z3, List.length_append, List.length_append, hrl]; rfl
          have z7 : vs ++ vr ++ [.int .u64 c.1, .int .u64 c.2] = fl ((xs.take (i + 1)).foldl (zbx (g * 512) row) ([], false)).1 := by rw [ht, z4, zeo, zeo, x3]; rfl
          have z8 : true = ((xs.take (i + 1)).foldl (zbx (g * 512) row) ([], false)).2 := by rw [ht]
          clear ht z3 z4 x3 hrw hfin hgen hf h hlen
          repeat (first | (refine zal rfl ?_; first | refine gdr (zaa (.inl rfl) rfl) ?_ | refine gnk 1 rfl (za2 tb rfl rfl rfl rfl rfl) ?_ | refine gnx 1 rfl (zbc tb rfl rfl rfl) rfl ?_ | refine gdr (zaa (.inr rfl) rfl) ?_ | refine gdr (zaj rfl rfl rfl) ?_ | refine gdr (za6 rfl rfl rfl rfl) ?_ | refine gdr (gar rfl rfl rfl rfl) ?_ | refine gdr (zan rfl rfl rfl rfl) ?_ | refine gnx 3 rfl (zau tb rfl rfl rfl rfl (by first | kernel_rfl | rfl)) rfl ?_ | refine gnx 3 rfl (za0 tb rfl rfl rfl rfl) rfl ?_ | refine gdr (zas rfl rfl rfl) ?_ | refine gnx 4 rfl (zav rfl rfl rfl rfl rfl rfl (by omega) (by omega) _ (by assumption)) rfl ?_ | refine gdr (zax rfl rfl rfl rfl rfl rfl rfl rfl rfl rfl rfl) ?_ | refine gdr (zbd rfl rfl rfl rfl rfl rfl rfl rfl rfl rfl rfl rfl hra (by omega)) ?_) | (refine hK _ ?_; clear hK K) | refine zad rfl ?_ | refine zai rfl rfl ?_ | refine zam ?_ | refine zao ?_ | refine zac (fun K hK => ?_))
          refine zal rfl ?_
          refine zee (zbd rfl rfl rfl rfl rfl rfl rfl rfl rfl rfl rfl rfl rfl (by omega)) (by kernel_rfl) ?_
          repeat (first | (refine zal rfl ?_; first | refine gdr (zaa (.inl rfl) rfl) ?_ | refine gdr (zaa (.inr rfl) rfl) ?_ | refine gdr (gar rfl rfl rfl rfl) ?_) | (refine hK _ ?_; clear hK K) | refine zad rfl ?_)
          exact ⟨(i + 1, true, n + 512 + 1, vs ++ vr ++ [.int .u64 c.1, .int .u64 c.2]), ⟨by show i + 1 ≤ xs.length; omega, z8, z6, z7, by show n + 512 + 1 ≤ i + 1 + 512; omega, fun hh => by cases hh⟩, by show xs.length - (i + 1) < xs.length - i; omega, Sub.trans (zar [(3, .m (iu a)), (6, .m (.c (.p 6 0))), (8, .m (.c (.p 8 0))), (9, .m (.c (.p 9 0))), (10, .m (ii 0)), (11, .m (.c (.p 11 0))), (12, .m (.c (.p 12 0))), (13, .m (iu g)), (15, .m (.c (.o 1000))), (18, .m (.c (.o 90))), (19, .m (ib true)), (20, .m (ii ((i + 1 : Nat) : Int)))] [(6, .live (.box (zbi t 1 q))), (8, .live (.box [cu 0, .v (.slice none 0 0)])), (9, .live (.box [cu 0, ci 0, cu 0])), (11, .live (.box [cu sz, .s xs.length 2 (fl xs)])), (12, .live (.box [cu cd, ci cp, cu f2])), (1000, .live (.row 163 2 512 vr)), (90, .live (.row 163 2 (n + 512 + 1) (vs ++ vr ++ [.int .u64 c.1, .int .u64 c.2])))] ⟨by kernel_rfl, by kernel_rfl, by kernel_rfl, by kernel_rfl, by kernel_rfl, by kernel_rfl, by kernel_rfl, by kernel_rfl, by kernel_rfl, by kernel_rfl, by kernel_rfl, by kernel_rfl, trivial⟩ ⟨by kernel_rfl, by kernel_rfl, by kernel_rfl, by kernel_rfl, by kernel_rfl, by kernel_rfl, by kernel_rfl, trivial⟩ (by kernel_rfl)) (Sub.trans (zcp (b := 90) (b' := 1001) rfl rfl) (zar _ _ ⟨by kernel_rfl, by kernel_rfl, by kernel_rfl, by kernel_rfl, by kernel_rfl, by kernel_rfl, by kernel_rfl, by kernel_rfl, by kernel_rfl, by kernel_rfl, by kernel_rfl, by kernel_rfl, trivial⟩ ⟨by kernel_rfl, by kernel_rfl, by kernel_rfl, by kernel_rfl, by kernel_rfl, by kernel_rfl, by kernel_rfl, trivial⟩ (by kernel_rfl)))⟩
        · replace ht : (xs.take (i + 1)).foldl (zbx (g * 512) row) ([], false) = (acc ++ [c], false) := by rw [ht]; unfold zbx; rw [if_neg (fun hh => hge hh.2)]
          have hni := hlen rfl
          have z6 : n + 1 = ((xs.take (i + 1)).foldl (zbx (g * 512) row) ([], false)).1.length := by rw [ht, z3]; simp
          have z7 : vs ++ [.int .u64 c.1, .int .u64 c.2] = fl ((xs.take (i + 1)).foldl (zbx (g * 512) row) ([], false)).1 := by rw [ht, z4, zeo]; rfl
          have z8 : false = ((xs.take (i + 1)).foldl (zbx (g * 512) row) ([], false)).2 := by rw [ht]
          clear ht z3 z4 x3 hra hrw hfin hgen hf h hlen
          repeat (first | (refine zal rfl ?_; first | refine gdr (zaa (.inl rfl) rfl) ?_ | refine gnk 1 rfl (za2 tb rfl rfl rfl rfl rfl) ?_ | refine gnx 1 rfl (zbc tb rfl rfl rfl) rfl ?_ | refine gdr (zaj rfl rfl rfl) ?_ | refine gdr (za6 rfl rfl rfl rfl) ?_ | refine gdr (gar rfl rfl rfl rfl) ?_ | refine gdr (zan rfl rfl rfl rfl) ?_ | refine gnx 3 rfl (zau tb rfl rfl rfl rfl (by first | kernel_rfl | rfl)) rfl ?_ | refine gnx 3 rfl (za0 tb rfl rfl rfl rfl) rfl ?_ | refine gdr (zas rfl rfl rfl) ?_ | refine gnx 4 rfl (zav rfl rfl rfl rfl rfl rfl (by omega) (by omega) _ (by assumption)) rfl ?_ | refine gdr (zax rfl rfl rfl rfl rfl rfl rfl rfl rfl rfl rfl) ?_) | (refine hK _ ?_; clear hK K) | refine zad rfl ?_ | refine zai rfl rfl ?_ | refine zah rfl rfl ?_ | refine zam ?_ | refine zao ?_ | refine zac (fun K hK => ?_))
          refine zal rfl ?_
          refine zee (zbd rfl rfl rfl rfl rfl rfl rfl rfl rfl rfl rfl rfl rfl (by omega)) (by kernel_rfl) ?_
          repeat (first | (refine zal rfl ?_; first | refine gdr (zaa (.inl rfl) rfl) ?_ | refine gdr (zaa (.inr rfl) rfl) ?_ | refine gdr (gar rfl rfl rfl rfl) ?_) | (refine hK _ ?_; clear hK K) | refine zad rfl ?_)
          exact ⟨(i + 1, false, n + 1, vs ++ [.int .u64 c.1, .int .u64 c.2]), ⟨by show i + 1 ≤ xs.length; omega, z8, z6, z7, by show n + 1 ≤ i + 1 + 512; omega, fun hh => by show n + 1 ≤ i + 1; omega⟩, by show xs.length - (i + 1) < xs.length - i; omega, Sub.trans (zar [(3, .m (iu a)), (6, .m (.c (.p 6 0))), (8, .m (.c (.p 8 0))), (9, .m (.c (.p 9 0))), (10, .m (ii 0)), (11, .m (.c (.p 11 0))), (12, .m (.c (.p 12 0))), (13, .m (iu g)), (15, .m (.c (.o 1000))), (18, .m (.c (.o 90))), (19, .m (ib false)), (20, .m (ii ((i + 1 : Nat) : Int)))] [(6, .live (.box (zbi t 1 q))), (8, .live (.box [cu 0, .v (.slice none 0 0)])), (9, .live (.box [cu 0, ci 0, cu 0])), (11, .live (.box [cu sz, .s xs.length 2 (fl xs)])), (12, .live (.box [cu cd, ci cp, cu f2])), (1000, .live (.row 163 2 512 vr)), (90, .live (.row 163 2 (n + 1) (vs ++ [.int .u64 c.1, .int .u64 c.2])))] ⟨by kernel_rfl, by kernel_rfl, by kernel_rfl, by kernel_rfl, by kernel_rfl, by kernel_rfl, by kernel_rfl, by kernel_rfl, by kernel_rfl, by kernel_rfl, by kernel_rfl, by kernel_rfl, trivial⟩ ⟨by kernel_rfl, by kernel_rfl, by kernel_rfl, by kernel_rfl, by kernel_rfl, by kernel_rfl, by kernel_rfl, trivial⟩ (by kernel_rfl)) (Sub.trans (zcp (b := 90) (b' := 1001) rfl rfl) (zar _ _ ⟨by kernel_rfl, by kernel_rfl, by kernel_rfl, by kernel_rfl, by kernel_rfl, by kernel_rfl, by kernel_rfl, by kernel_rfl, by kernel_rfl, by kernel_rfl, by kernel_rfl, by kernel_rfl, trivial⟩ ⟨by kernel_rfl, by kernel_rfl, by kernel_rfl, by kernel_rfl, by kernel_rfl, by kernel_rfl, by kernel_rfl, trivial⟩ (by kernel_rfl)))⟩
    · obtain rfl : i = xs.length := by omega
      rw [List.take_length] at z2 z3 z4
      generalize xs.foldl (zbx (g * 512) row) ([], false) = st at *
      obtain ⟨acc, d'⟩ := st
      replace z2 : d = d' := z2
      subst z2
      replace z3 : n = acc.length := z3
      replace z4 : vs = fl acc := z4
      cases d with
      | true =>
        replace hrw : acc = ys := hrw
        rw [← hrw, ← z3, ← z4] at hfin
        clear z3 z4 x3 hra hrw hgen hf h hlen hrl hRl
        repeat (first | (refine zal rfl ?_; first | refine gdr (zaa (.inl rfl) rfl) ?_ | refine gnk 1 rfl (za2 tb rfl rfl rfl rfl rfl) ?_ | refine gnx 1 rfl (zbc tb rfl rfl rfl) rfl ?_ | refine gdr (za6 rfl rfl rfl rfl) ?_ | refine gnk 1 rfl (zbe rfl rfl rfl rfl rfl rfl rfl) ?_ | refine gdr (zan rfl rfl rfl rfl) ?_ | refine gdr (zas rfl rfl rfl) ?_ | refine gdr (zaq rfl rfl rfl rfl) ?_) | (refine hK _ ?_; clear hK K) | (rename_i K1 hK1; refine hK1 _ ?_; clear hK hK1; clear K) | refine zad rfl ?_ | refine za4 (by kernel_rfl) (by kernel_rfl) rfl ?_ | refine zah rfl rfl ?_ | refine zba ?_ | refine zao ?_ | refine zac (fun K hK => ?_))
        refine zal rfl ?_
        refine zee (zcz (b := 1001) (l := [.ag [cu sz, .o 1001], .ag (zbi t 1 q), iu a, .ag (⟨true, false, false, false, false, false, false, false, 0, g, 0⟩ : Pte).ce]) rfl rfl rfl (by kernel_rfl) rfl (by kernel_rfl) (ze4 (by kernel_rfl) hfin)) (by kernel_rfl) ?_
        repeat (first | (refine zal rfl ?_; first | refine gnk 1 rfl (za2 tb rfl rfl rfl rfl rfl) ?_ | refine gdr (zaa (.inr rfl) rfl) ?_ | refine gnk 1 rfl (zbe rfl rfl rfl rfl rfl rfl rfl) ?_) | (refine hK _ ?_; clear hK K) | exact zap (show za8 _ _ _ = some _ by kernel_rfl))
      | false =>
        have hni := hlen rfl
        replace hrw : acc ++ row = ys := hrw
        have e1 : ys.length = n + 512 := by rw [← hrw, List.length_append, hrl, z3]
        have e2 : fl ys = vs ++ vr := by rw [← hrw, zeo, z4, x3]
        rw [e1, e2] at hfin
        clear z3 z4 x3 hrw hgen hf h hlen hrl hRl e1 e2
        repeat (first | (refine zal rfl ?_; first | refine gdr (zaa (.inl rfl) rfl) ?_ | refine gnk 1 rfl (za2 tb rfl rfl rfl rfl rfl) ?_ | refine gnx 1 rfl (zbc tb rfl rfl rfl) rfl ?_ | refine gdr (zaa (.inr rfl) rfl) ?_ | refine gdr (za6 rfl rfl rfl rfl) ?_ | refine gnk 1 rfl (zbe rfl rfl rfl rfl rfl rfl rfl) ?_ | refine gdr (zan rfl rfl rfl rfl) ?_ | refine gdr (zas rfl rfl rfl) ?_ | refine gdr (zaq rfl rfl rfl rfl) ?_ | refine gdr (zbd rfl rfl rfl rfl rfl rfl rfl rfl rfl rfl rfl rfl hra (by omega)) ?_) | (refine hK _ ?_; clear hK K) | (rename_i K1 hK1; refine hK1 _ ?_; clear hK hK1; clear K) | refine zad rfl ?_ | refine za4 (by kernel_rfl) (by kernel_rfl) rfl ?_ | refine zai rfl rfl ?_ | refine zah rfl rfl ?_ | refine zba ?_ | refine zac (fun K hK => ?_))
        refine zal rfl ?_
        refine zee (zcz (b := 95) (l := [.ag [cu sz, .o 95], .ag (zbi t 1 q), iu a, .ag (⟨true, false, false, false, false, false, false, false, 0, g, 0⟩ : Pte).ce]) rfl rfl rfl (by kernel_rfl) rfl (by kernel_rfl) (ze4 (by kernel_rfl) hfin)) (by kernel_rfl) ?_
        repeat (first | (refine zal rfl ?_; first | refine gnk 1 rfl (za2 tb rfl rfl rfl rfl rfl) ?_ | refine gdr (zaa (.inr rfl) rfl) ?_ | refine gnk 1 rfl (zbe rfl rfl rfl rfl rfl rfl rfl) ?_) | (refine hK _ ?_; clear hK K) | exact zap (show za8 _ _ _ = some _ by kernel_rfl))
theorem zv7 {cd cp sz f sh : Int} {xs : List (Int × Int)} {lv : Int → Int} (h : TI cd cp sz xs f sh lv) (h0 : f ≠ 0) (hn : xs.length ≤ 100000) {t a : Int} {q : Pte} (ha : U a) (ht : Al cd cp f t) (hq : q = atM sz xs t (idx a 2)) (h1 : zbr q = true) (h2 : zej q 2 = false) :
    Ok 147 [zbm sz xs, .ag [cu cd, ci cp, cu f], .ag (zbi t 2 q), iu a] (.tu [zbm sz (zhe sz xs t (idx a 2) 2 q (cd + tzI f)), .ag [cu cd, ci cp, cu (zb9 f (tzI f) 1 0)], ii 0]) := by
  obtain ⟨a0, a1, a2, a3⟩ := zd8 h h0
  have b1 := h.bd
  have b2 := h.bp
  have bz := h.bz
  have bt := ht.1
  have hqU : q.U := by rw [hq]; exact zgw h.u _ _ _
  have hqm : zf7 q = true := by rw [hq]; exact zlh h.u
  have hf := zgh sz xs cd cp f (by omega) (by omega) h.bf h0 h.s (by omega) (fun c hc => by have := (h.r c hc).1; omega)
  rw [h.gm.wipe h0] at hf
  have hg : 0 ≤ cd + tzI f ∧ cd + tzI f < 1099511627776 := by omega
  have hgb : cd + tzI f ≤ 524352 := by omega
  have hgz : (cd + tzI f) * 4096 + 4096 ≤ sz := by omega
  have hi := idx_bd a 2
  have hpg : Ok 175 [ii 1] (.m (iu 512)) := zr3 1 (by omega) (by omega)
  have hlU := zgx (n := cd + tzI f) (by omega)
  have hRs := zge (g := cd + tzI f) (v := fun j => PteC.zcc (prt q 2 j)) h.s
  have hRl := zid xs (cd + tzI f) (fun j => PteC.zcc (prt q 2 j))
  have hpf : ∀ i : Int, (0 ≤ i ∧ i < 512) → (prt q 2 i).U ∧ zf7 (prt q 2 i) = true := fun i hi => ⟨(zdf hqU hqm (by omega) h1 h2 hi).1, (zdf hqU hqm (by omega) h1 h2 hi).2.1⟩
  have hnz : ∀ i : Nat, i < 512 → PteC.zcc (prt q 2 (i : Int)) ≠ 0 := fun i hi => by
    obtain ⟨p1, p2, p3, _⟩ := zdf hqU hqm (by omega) h1 h2 (i := (i : Int)) ⟨by omega, by omega⟩
    refine zyw p1 p2 ?_
    unfold zbr at p3
    simp only [Bool.and_eq_true] at p3
    exact p3.1
  have hfar0 : ∀ c ∈ xs, c.1 < (cd + tzI f) * 512 ∨ (cd + tzI f) * 512 + 512 ≤ c.1 := fun c hc => by
    have := (h.gm.take h0 (h.gm.c c hc).1).1
    omega
  have hfar : ∀ c ∈ xs, c.1 < (cd + tzI f) * 512 ∨ (cd + tzI f) * 512 + 512 ≤ c.1 := hfar0
  have hrw := rowW (v := fun j => PteC.zcc (prt q 2 j)) h.s hfar hnz
  have hfin := zgu sz (zer xs (cd + tzI f) (fun j => PteC.zcc (prt q 2 j)) 512) t 2 q a (lnk (cd + tzI f)) ha hlU (zqh (n := cd + tzI f) (by omega)) (by omega) (by omega) (by omega) (hRs 512) (by have := hRl 512; omega)
  rw [← zen (sz := sz) hlU (by omega) hi (by rw [bz]; omega)] at hfin
  have hpb : 0 ≤ q.ppn ∧ q.ppn < 17592186044416 := by rw [hq]; exact zdo ..
  have hRl := hRl 512
  unfold zhe
  generalize hgen : cd + tzI f = g at *
  generalize zb9 f (tzI f) 1 0 = f2 at *
  replace hfin : Ok 95 [.ag [cu sz, .s (zer xs g (fun j => PteC.zcc (prt q 2 j)) 512).length 2 (fl (zer xs g (fun j => PteC.zcc (prt q 2 j)) 512))], .ag (zbi t 2 q), iu a, .ag (⟨true, false, false, false, false, false, false, false, 0, g, 0⟩ : Pte).ce] (.m (zbm sz (zbv sz (zer xs g (fun j => PteC.zcc (prt q 2 j)) 512) t (idx a 2) (lnk g)))) := hfin
  generalize zbv sz (zer xs g (fun j => PteC.zcc (prt q 2 j)) 512) t (idx a 2) (lnk g) = fin at *
  refine zaf 105 Tryz.func147 rfl rfl rfl rfl ?_ GG.to
  intro W A hG
  repeat (first | (refine zal rfl ?_; first | refine gdr (zaa (.inl rfl) rfl) ?_ | refine gnk 1 rfl (za2 tb rfl rfl rfl rfl rfl) ?_ | refine gdr (zaa (.inr rfl) rfl) ?_ | refine gdr (zak rfl rfl rfl rfl) ?_ | refine gdr (za6 rfl rfl rfl rfl) ?_ | refine gdr (zag rfl rfl rfl rfl rfl rfl) ?_ | refine gdr (zae rfl rfl rfl rfl rfl) ?_ | refine gnk 1 rfl (zbe rfl rfl rfl rfl rfl rfl rfl) ?_ | refine gdr (zab rfl rfl rfl (hf) (by kernel_rfl)) ?_) | (refine hK _ ?_; clear hK K) | refine zad rfl ?_ | refine zah rfl rfl ?_ | refine zam ?_ | refine zao ?_ | refine zac (fun K hK => ?_))
  refine za9 (α := Nat × Nat × List Value) (fun p => p.1 ≤ 512 ∧ p.2.1 = p.1 ∧ p.2.2 = fl (zlj g (fun j => PteC.zcc (prt q 2 j)) p.1)) (fun p => rl1 sz cd cp a t 2 g q xs f2 p.1 p.2.1 p.2.2) (fun p => 512 - p.1) (0, 0, []) ⟨by show 0 ≤ 512; omega, rfl, rfl⟩ (Sub.trans (zd7 15 1000 163 2 rfl rfl) (zar _ _ ⟨by kernel_rfl, by kernel_rfl, by kernel_rfl, by kernel_rfl, by kernel_rfl, by kernel_rfl, by kernel_rfl, by kernel_rfl, by kernel_rfl, by kernel_rfl, trivial⟩ ⟨by kernel_rfl, by kernel_rfl, by kernel_rfl, by kernel_rfl, by kernel_rfl, by kernel_rfl, trivial⟩ (by kernel_rfl))) ?_
  rintro ⟨j, n, vs⟩ ⟨x1, x2, x3⟩
  replace x1 : j ≤ 512 := x1
  replace x2 : n = j := x2
  replace x3 : vs = fl (zlj g (fun j => PteC.zcc (prt q 2 j)) j) := x3
  show Aw _ _ _ _ (rl1 sz cd cp a t 2 g q xs f2 j n vs)
  unfold rl1
  by_cases hlt : j < 512
  · obtain ⟨p1, p2⟩ := hpf (j : Int) ⟨by omega, by omega⟩
    have hpu := zqg _ p1 p2
    have hpe : prt q 2 (j : Int) = ⟨q.v, q.r, q.w, q.x, q.u, q.g, q.a, q.d, q.rsw, q.ppn + (j : Int) * 512, q.high⟩ := rfl
    have x4 : vs ++ [.int .u64 (512 * g + (j : Int)), .int .u64 (PteC.zcc (prt q 2 (j : Int)))] = fl (zlj g (fun j => PteC.zcc (prt q 2 j)) (j + 1)) := by
      rw [zoo, zeo, x3, show (512 : Int) * g = g * 512 by omega]; rfl
    replace hpu : Ok 149 [.ag (⟨q.v, q.r, q.w, q.x, q.u, q.g, q.a, q.d, q.rsw, q.ppn + (j : Int) * 512, q.high⟩ : Pte).ce] (.m (iu (PteC.zcc (prt q 2 (j : Int))))) := hpu
    generalize PteC.zcc (prt q 2 (j : Int)) = e at *
    clear hrw hfin hfar hnz hpf x3 hRs hRl hpe p1 p2 hq h1 h2
    repeat (first | (refine zal rfl ?_; first | refine gdr (zaa (.inl rfl) rfl) ?_ | refine gnk 1 rfl (za2 tb rfl rfl rfl rfl rfl) ?_ | refine gnx 1 rfl (zbc tb rfl rfl rfl) rfl ?_ | refine gdr (za6 rfl rfl rfl rfl) ?_ | refine gdr (gar rfl rfl rfl rfl) ?_ | refine gdr (zae rfl rfl rfl rfl rfl) ?_ | refine gnk 1 rfl (zbe rfl rfl rfl rfl rfl rfl rfl) ?_ | refine gdr (zaq rfl rfl rfl rfl) ?_ | refine gdr (zax rfl rfl rfl rfl rfl rfl rfl rfl rfl rfl rfl) ?_ | refine gdr (zab rfl rfl rfl (hpg) (by kernel_rfl)) ?_ | refine gdr (zab rfl rfl rfl (hpu) (by kernel_rfl)) ?_) | (refine hK _ ?_; clear hK K) | refine zad rfl ?_ | refine za4 (by kernel_rfl) (by kernel_rfl) rfl ?_ | refine zai rfl rfl ?_ | refine zam ?_ | refine zao ?_ | refine zac (fun K hK => ?_))
    refine zal rfl ?_
    refine zee (zbd rfl rfl rfl rfl rfl rfl rfl rfl rfl rfl rfl rfl rfl (by omega)) (by kernel_rfl) ?_
    repeat (first | (refine zal rfl ?_; first | refine gdr (zaa (.inl rfl) rfl) ?_ | refine gdr (zaa (.inr rfl) rfl) ?_ | refine gdr (gar rfl rfl rfl rfl) ?_) | (refine hK _ ?_; clear hK K) | refine zad rfl ?_)
    exact ⟨(j + 1, n + 1, vs ++ [.int .u64 (512 * g + (j : Int)), .int .u64 e]), ⟨by show j + 1 ≤ 512; omega, by show n + 1 = j + 1; omega, x4⟩, by show 512 - (j + 1) < 512 - j; omega, Sub.trans (zar [(3, .m (iu a)), (6, .m (.c (.p 6 0))), (8, .m (.c (.p 8 0))), (9, .m (.c (.p 9 0))), (10, .m (ii 0)), (11, .m (.c (.p 11 0))), (12, .m (.c (.p 12 0))), (13, .m (iu g)), (15, .m (.c (.o 59))), (16, .m (iu ((j + 1 : Nat) : Int)))] [(6, .live (.box (zbi t 2 q))), (8, .live (.box [cu 0, .v (.slice none 0 0)])), (9, .live (.box [cu 0, ci 0, cu 0])), (11, .live (.box [cu sz, .s xs.length 2 (fl xs)])), (12, .live (.box [cu cd, ci cp, cu f2])), (59, .live (.row 163 2 (n + 1) (vs ++ [.int .u64 (512 * g + (j : Int)), .int .u64 e])))] ⟨by kernel_rfl, by kernel_rfl, by kernel_rfl, by kernel_rfl, by kernel_rfl, by kernel_rfl, by kernel_rfl, by kernel_rfl, by kernel_rfl, by kernel_rfl, trivial⟩ ⟨by kernel_rfl, by kernel_rfl, by kernel_rfl, by kernel_rfl, by kernel_rfl, by kernel_rfl, trivial⟩ (by kernel_rfl)) (Sub.trans (zcp (b := 59) (b' := 1000) rfl rfl) (zar _ _ ⟨by kernel_rfl, by kernel_rfl, by kernel_rfl, by kernel_rfl, by kernel_rfl, by kernel_rfl, by kernel_rfl, by kernel_rfl, by kernel_rfl, by kernel_rfl, trivial⟩ ⟨by kernel_rfl, by kernel_rfl, by kernel_rfl, by kernel_rfl, by kernel_rfl, by kernel_rfl, trivial⟩ (by kernel_rfl)))⟩
  · obtain rfl : j = 512 := by omega
    obtain rfl : n = 512 := x2
    have hra : vs.all (·.oneCell') = true := by rw [x3]; exact zqm _
    generalize zer xs g (fun j => PteC.zcc (prt q 2 j)) 512 = ys at *
    have hrl := zr4 g (fun j => PteC.zcc (prt q 2 j)) 512
    generalize zlj g (fun j => PteC.zcc (prt q 2 j)) 512 = row at *
    clear hfar hnz hpf hRs hlt x1 hfar0 hq h1 h2
    generalize vs = vr at *
    have b5 : 0 ≤ g * 512 := by omega
    repeat (first | (refine zal rfl ?_; first | refine gdr (zaa (.inl rfl) rfl) ?_ | refine gdr (zaa (.inr rfl) rfl) ?_ | refine gdr (za6 rfl rfl rfl rfl) ?_) | (refine hK _ ?_; clear hK K) | (rename_i K1 hK1; refine hK1 _ ?_; clear hK hK1; clear K) | refine zad rfl ?_ | refine zah rfl rfl ?_ | refine zam ?_ | refine zba ?_ | refine zac (fun K hK => ?_))
    refine za9 (α := Nat × Bool × Nat × List Value) (fun p => p.1 ≤ xs.length ∧ p.2.1 = ((xs.take p.1).foldl (zbx (g * 512) row) ([], false)).2 ∧ p.2.2.1 = ((xs.take p.1).foldl (zbx (g * 512) row) ([], false)).1.length ∧ p.2.2.2 = fl ((xs.take p.1).foldl (zbx (g * 512) row) ([], false)).1 ∧ p.2.2.1 ≤ p.1 + 512 ∧ (p.2.1 = false → p.2.2.1 ≤ p.1)) (fun p => rl2 sz cd cp a t 2 g q xs f2 vr p.2.1 p.1 p.2.2.1 p.2.2.2) (fun p => xs.length - p.1) (0, false, 0, []) ⟨Nat.zero_le _, rfl, rfl, rfl, by show 0 ≤ 0 + 512; omega, fun _ => Nat.le_refl _⟩ (Sub.trans (zd7 18 1001 163 2 rfl rfl) (zar _ _ ⟨by kernel_rfl, by kernel_rfl, by kernel_rfl, by kernel_rfl, by kernel_rfl, by kernel_rfl, by kernel_rfl, by kernel_rfl, by kernel_rfl, by kernel_rfl, by kernel_rfl, by kernel_rfl, trivial⟩ ⟨by kernel_rfl, by kernel_rfl, by kernel_rfl, by kernel_rfl, by kernel_rfl, by kernel_rfl, by kernel_rfl, trivial⟩ (by kernel_rfl))) ?_
    rintro ⟨i, d, n, vs⟩ ⟨z1, z2, z3, z4, z5, hlen⟩
    replace z1 : i ≤ xs.length := z1
    replace z2 : d = ((xs.take i).foldl (zbx (g * 512) row) ([], false)).2 := z2
    replace z3 : n = ((xs.take i).foldl (zbx (g * 512) row) ([], false)).1.length := z3
    replace z4 : vs = fl ((xs.take i).foldl (zbx (g * 512) row) ([], false)).1 := z4
    replace z5 : n ≤ i + 512 := z5
    replace hlen : d = false → n ≤ i := hlen
    show Aw _ _ _ _ (rl2 sz cd cp a t 2 g q xs f2 vr d i n vs)
    unfold rl2
    by_cases hlt : i < xs.length
    · obtain ⟨c, hci⟩ : ∃ c, xs[i]? = some c := ⟨_, List.getElem?_eq_getElem hlt⟩
      have hx := SpL.zio hci
      have hcr := (h.r c (List.mem_of_getElem? hci)).1
      have ht : (xs.take (i + 1)).foldl (zbx (g * 512) row) ([], false) = zbx (g * 512) row ((xs.take i).foldl (zbx (g * 512) row) ([], false)) c := by rw [List.take_add_one, hci, List.foldl_append]; rfl
      generalize (xs.take i).foldl (zbx (g * 512) row) ([], false) = st at *
      obtain ⟨acc, d'⟩ := st
      replace z2 : d = d' := z2
      subst z2
      replace z3 : n = acc.length := z3
      replace z4 : vs = fl acc := z4
      cases d with
      | true =>
        have ht : (xs.take (i + 1)).foldl (zbx (g * 512) row) ([], false) = (acc ++ [c], true) := by rw [ht]; unfold zbx; rw [if_neg (fun hh => by cases hh.1)]
        have z6 : n + 1 = ((xs.take (i + 1)).foldl (zbx (g * 512) row) ([], false)).1.length := by rw [ht, z3]; simp
        have z7 : vs ++ [.int .u64 c.1, .int .u64 c.2] = fl ((xs.take (i + 1)).foldl (zbx (g * 512) row) ([], false)).1 := by rw [ht, z4, zeo]; rfl
        have z8 : true = ((xs.take (i + 1)).foldl (zbx (g * 512) row) ([], false)).2 := by rw [ht]
        clear ht z3 z4 x3 hra hrw hfin hgen hf h hlen
        repeat (first | (refine zal rfl ?_; first | refine gdr (zaw rfl) ?_ | refine gdr (zaa (.inl rfl) rfl) ?_ | refine gnk 1 rfl (za2 tb rfl rfl rfl rfl rfl) ?_ | refine gnx 1 rfl (zbc tb rfl rfl rfl) rfl ?_ | refine gdr (zaj rfl rfl rfl) ?_ | refine gdr (za6 rfl rfl rfl rfl) ?_ | refine gdr (zan rfl rfl rfl rfl) ?_ | refine gnx 3 rfl (zau tb rfl rfl rfl rfl (by first | kernel_rfl | rfl)) rfl ?_ | refine gdr (zas rfl rfl rfl) ?_ | refine gnx 4 rfl (zav rfl rfl rfl rfl rfl rfl (by omega) (by omega) _ (by assumption)) rfl ?_ | refine gdr (zax rfl rfl rfl rfl rfl rfl rfl rfl rfl rfl rfl) ?_) | (refine hK _ ?_; clear hK K) | refine zad rfl ?_ | refine zai rfl rfl ?_ | refine zah rfl rfl ?_ | refine zam ?_ | refine zao ?_ | refine zac (fun K hK => ?_))
        refine zal rfl ?_
        refine zee (zbd rfl rfl rfl rfl rfl rfl rfl rfl rfl rfl rfl rfl rfl (by omega)) (by kernel_rfl) ?_
        repeat (first | (refine zal rfl ?_; first | refine gdr (zaa (.inl rfl) rfl) ?_ | refine gdr (zaa (.inr rfl) rfl) ?_ | refine gdr (gar rfl rfl rfl rfl) ?_) | (refine hK _ ?_; clear hK K) | refine zad rfl ?_)
        exact ⟨(i + 1, true, n + 1, vs ++ [.int .u64 c.1, .int .u64 c.2]), ⟨by show i + 1 ≤ xs.length; omega, z8, z6, z7, by show n + 1 ≤ i + 1 + 512; omega, fun hh => by cases hh⟩, by show xs.length - (i + 1) < xs.length - i; omega, Sub.trans (zar [(3, .m (iu a)), (6, .m (.c (.p 6 0))), (8, .m (.c (.p 8 0))), (9, .m (.c (.p 9 0))), (10, .m (ii 0)), (11, .m (.c (.p 11 0))), (12, .m (.c (.p 12 0))), (13, .m (iu g)), (15, .m (.c (.o 1000))), (18, .m (.c (.o 90))), (19, .m (ib true)), (20, .m (ii ((i + 1 : Nat) : Int)))] [(6, .live (.box (zbi t 2 q))), (8, .live (.box [cu 0, .v (.slice none 0 0)])), (9, .live (.box [cu 0, ci 0, cu 0])), (11, .live (.box [cu sz, .s xs.length 2 (fl xs)])), (12, .live (.box [cu cd, ci cp, cu f2])), (1000, .live (.row 163 2 512 vr)), (90, .live (.row 163 2 (n + 1) (vs ++ [.int .u64 c.1, .int .u64 c.2])))] ⟨by kernel_rfl, by kernel_rfl, by kernel_rfl, by kernel_rfl, by kernel_rfl, by kernel_rfl, by kernel_rfl, by kernel_rfl, by kernel_rfl, by kernel_rfl, by kernel_rfl, by kernel_rfl, trivial⟩ ⟨by kernel_rfl, by kernel_rfl, by kernel_rfl, by kernel_rfl, by kernel_rfl, by kernel_rfl, by kernel_rfl, trivial⟩ (by kernel_rfl)) (Sub.trans (zcp (b := 90) (b' := 1001) rfl rfl) (zar _ _ ⟨by kernel_rfl, by kernel_rfl, by kernel_rfl, by kernel_rfl, by kernel_rfl, by kernel_rfl, by kernel_rfl, by kernel_rfl, by kernel_rfl, by kernel_rfl, by kernel_rfl, by kernel_rfl, trivial⟩ ⟨by kernel_rfl, by kernel_rfl, by kernel_rfl, by kernel_rfl, by kernel_rfl, by kernel_rfl, by kernel_rfl, trivial⟩ (by kernel_rfl)))⟩
      | false =>
        by_cases hge : g * 512 ≤ c.1
        · replace ht : (xs.take (i + 1)).foldl (zbx (g * 512) row) ([], false) = (acc ++ row ++ [c], true) := by rw [ht]; unfold zbx; rw [if_pos ⟨rfl, hge⟩]
          have hni := hlen rfl
          have z6 : n + 512 + 1 = ((xs.take (i + 1)).foldl (zbx (g * 512) row) ([], false)).1.length := by rw [ht, z3, List.length_append, List.length_append, hrl]; rfl
          have z7 : vs ++ vr ++ [.int .u64 c.1, .int .u64 c.2] = fl ((xs.take (i + 1)).foldl (zbx (g * 512) row) ([], false)).1 := by rw [ht, z4, zeo, zeo, x3]; rfl
          have z8 : true = ((xs.take (i + 1)).foldl (zbx (g * 512) row) ([], false)).2 := by rw [ht]
          clear ht z3 z4 x3 hrw hfin hgen hf h hlen
          repeat (first | (refine zal rfl ?_; first | refine gdr (zaa (.inl rfl) rfl) ?_ | refine gnk 1 rfl (za2 tb rfl rfl rfl rfl rfl) ?_ | refine gnx 1 rfl (zbc tb rfl rfl rfl) rfl ?_ | refine gdr (zaa (.inr rfl) rfl) ?_ | refine gdr (zaj rfl rfl rfl) ?_ | refine gdr (za6 rfl rfl rfl rfl) ?_ | refine gdr (gar rfl rfl rfl rfl) ?_ | refine gdr (zan rfl rfl rfl rfl) ?_ | refine gnx 3 rfl (zau tb rfl rfl rfl rfl (by first | kernel_rfl | rfl)) rfl ?_ | refine gnx 3 rfl (za0 tb rfl rfl rfl rfl) rfl ?_ | refine gdr (zas rfl rfl rfl) ?_ | refine gnx 4 rfl (zav rfl rfl rfl rfl rfl rfl (by omega) (by omega) _ (by assumption)) rfl ?_ | refine gdr (zax rfl rfl rfl rfl rfl rfl rfl rfl rfl rfl rfl) ?_ | refine gdr (zbd rfl rfl rfl rfl rfl rfl rfl rfl rfl rfl rfl rfl hra (by omega)) ?_) | (refine hK _ ?_; clear hK K) | refine zad rfl ?_ | refine zai rfl rfl ?_ | refine zam ?_ | refine zao ?_ | refine zac (fun K hK => ?_))
          refine zal rfl ?_
          refine zee (zbd rfl rfl rfl rfl rfl rfl rfl rfl rfl rfl rfl rfl rfl (by omega)) (by kernel_rfl) ?_
          repeat (first | (refine zal rfl ?_; first | refine gdr (zaa (.inl rfl) rfl) ?_ | refine gdr (zaa (.inr rfl) rfl) ?_ | refine gdr (gar rfl rfl rfl rfl) ?_) | (refine hK _ ?_; clear hK K) | refine zad rfl ?_)
          exact ⟨(i + 1, true, n + 512 + 1, vs ++ vr ++ [.int .u64 c.1, .int .u64 c.2]), ⟨by show i + 1 ≤ xs.length; omega, z8, z6, z7, by show n + 512 + 1 ≤ i + 1 + 512; omega, fun hh => by cases hh⟩, by show xs.length - (i + 1) < xs.length - i; omega, Sub.trans (zar [(3, .m (iu a)), (6, .m (.c (.p 6 0))), (8, .m (.c (.p 8 0))), (9, .m (.c (.p 9 0))), (10, .m (ii 0)), (11, .m (.c (.p 11 0))), (12, .m (.c (.p 12 0))), (13, .m (iu g)), (15, .m (.c (.o 1000))), (18, .m (.c (.o 90))), (19, .m (ib true)), (20, .m (ii ((i + 1 : Nat) : Int)))] [(6, .live (.box (zbi t 2 q))), (8, .live (.box [cu 0, .v (.slice none 0 0)])), (9, .live (.box [cu 0, ci 0, cu 0])), (11, .live (.box [cu sz, .s xs.length 2 (fl xs)])), (12, .live (.box [cu cd, ci cp, cu f2])), (1000, .live (.row 163 2 512 vr)), (90, .live (.row 163 2 (n + 512 + 1) (vs ++ vr ++ [.int .u64 c.1, .int .u64 c.2])))] ⟨by kernel_rfl, by kernel_rfl, by kernel_rfl, by kernel_rfl, by kernel_rfl, by kernel_rfl, by kernel_rfl, by kernel_rfl, by kernel_rfl, by kernel_rfl, by kernel_rfl, by kernel_rfl, trivial⟩ ⟨by kernel_rfl, by kernel_rfl, by kernel_rfl, by kernel_rfl, by kernel_rfl, by kernel_rfl, by kernel_rfl, trivial⟩ (by kernel_rfl)) (Sub.trans (zcp (b := 90) (b' := 1001) rfl rfl) (zar _ _ ⟨by kernel_rfl, by kernel_rfl, by kernel_rfl, by kernel_rfl, by kernel_rfl, by kernel_rfl, by kernel_rfl, by kernel_rfl, by kernel_rfl, by kernel_rfl, by kernel_rfl, by kernel_rfl, trivial⟩ ⟨by kernel_rfl, by kernel_rfl, by kernel_rfl, by kernel_rfl, by kernel_rfl, by kernel_rfl, by kernel_rfl, trivial⟩ (by kernel_rfl)))⟩
        · replace ht : (xs.take (i + 1)).foldl (zbx (g * 512) row) ([], false) = (acc ++ [c], false) := by rw [ht]; unfold zbx; rw [if_neg (fun hh => hge hh.2)]
          have hni := hlen rfl
          have z6 : n + 1 = ((xs.take (i + 1)).foldl (zbx (g * 512) row) ([], false)).1.length := by rw [ht, z3]; simp
          have z7 : vs ++ [.int .u64 c.1, .int .u64 c.2] = fl ((xs.take (i + 1)).foldl (zbx (g * 512) row) ([], false)).1 := by rw [ht, z4, zeo]; rfl
          have z8 : false = ((xs.take (i + 1)).foldl (zbx (g * 512) row) ([], false)).2 := by rw [ht]
          clear ht z3 z4 x3 hra hrw hfin hgen hf h hlen
          repeat (first | (refine zal rfl ?_; first | refine gdr (zaa (.inl rfl) rfl) ?_ | refine gnk 1 rfl (za2 tb rfl rfl rfl rfl rfl) ?_ | refine gnx 1 rfl (zbc tb rfl rfl rfl) rfl ?_ | refine gdr (zaj rfl rfl rfl) ?_ | refine gdr (za6 rfl rfl rfl rfl) ?_ | refine gdr (gar rfl rfl rfl rfl) ?_ | refine gdr (zan rfl rfl rfl rfl) ?_ | refine gnx 3 rfl (zau tb rfl rfl rfl rfl (by first | kernel_rfl | rfl)) rfl ?_ | refine gnx 3 rfl (za0 tb rfl rfl rfl rfl) rfl ?_ | refine gdr (zas rfl rfl rfl) ?_ | refine gnx 4 rfl (zav rfl rfl rfl rfl rfl rfl (by omega) (by omega) _ (by assumption)) rfl ?_ | refine gdr (zax rfl rfl rfl rfl rfl rfl rfl rfl rfl rfl rfl) ?_) | (refine hK _ ?_; clear hK K) | refine zad rfl ?_ | refine zai rfl rfl ?_ | refine zah rfl rfl ?_ | refine zam ?_ | refine zao ?_ | refine zac (fun K hK => ?_))
          refine zal rfl ?_
          refine zee (zbd rfl rfl rfl rfl rfl rfl rfl rfl rfl rfl rfl rfl rfl (by omega)) (by kernel_rfl) ?_
          repeat (first | (refine zal rfl ?_; first | refine gdr (zaa (.inl rfl) rfl) ?_ | refine gdr (zaa (.inr rfl) rfl) ?_ | refine gdr (gar rfl rfl rfl rfl) ?_) | (refine hK _ ?_; clear hK K) | refine zad rfl ?_)
          exact ⟨(i + 1, false, n + 1, vs ++ [.int .u64 c.1, .int .u64 c.2]), ⟨by show i + 1 ≤ xs.length; omega, z8, z6, z7, by show n + 1 ≤ i + 1 + 512; omega, fun hh => by show n + 1 ≤ i + 1; omega⟩, by show xs.length - (i + 1) < xs.length - i; omega, Sub.trans (zar [(3, .m (iu a)), (6, .m (.c (.p 6 0))), (8, .m (.c (.p 8 0))), (9, .m (.c (.p 9 0))), (10, .m (ii 0)), (11, .m (.c (.p 11 0))), (12, .m (.c (.p 12 0))), (13, .m (iu g)), (15, .m (.c (.o 1000))), (18, .m (.c (.o 90))), (19, .m (ib false)), (20, .m (ii ((i + 1 : Nat) : Int)))] [(6, .live (.box (zbi t 2 q))), (8, .live (.box [cu 0, .v (.slice none 0 0)])), (9, .live (.box [cu 0, ci 0, cu 0])), (11, .live (.box [cu sz, .s xs.length 2 (fl xs)])), (12, .live (.box [cu cd, ci cp, cu f2])), (1000, .live (.row 163 2 512 vr)), (90, .live (.row 163 2 (n + 1) (vs ++ [.int .u64 c.1, .int .u64 c.2])))] ⟨by kernel_rfl, by kernel_rfl, by kernel_rfl, by kernel_rfl, by kernel_rfl, by kernel_rfl, by kernel_rfl, by kernel_rfl, by kernel_rfl, by kernel_rfl, by kernel_rfl, by kernel_rfl, trivial⟩ ⟨by kernel_rfl, by kernel_rfl, by kernel_rfl, by kernel_rfl, by kernel_rfl, by kernel_rfl, by kernel_rfl, trivial⟩ (by kernel_rfl)) (Sub.trans (zcp (b := 90) (b' := 1001) rfl rfl) (zar _ _ ⟨by kernel_rfl, by kernel_rfl, by kernel_rfl, by kernel_rfl, by kernel_rfl, by kernel_rfl, by kernel_rfl, by kernel_rfl, by kernel_rfl, by kernel_rfl, by kernel_rfl, by kernel_rfl, trivial⟩ ⟨by kernel_rfl, by kernel_rfl, by kernel_rfl, by kernel_rfl, by kernel_rfl, by kernel_rfl, by kernel_rfl, trivial⟩ (by kernel_rfl)))⟩
    · obtain rfl : i = xs.length := by omega
      rw [List.take_length] at z2 z3 z4
      generalize xs.foldl (zbx (g * 512) row) ([], false) = st at *
      obtain ⟨acc, d'⟩ := st
      replace z2 : d = d' := z2
      subst z2
      replace z3 : n = acc.length := z3
      replace z4 : vs = fl acc := z4
      cases d with
      | true =>
        replace hrw : acc = ys := hrw
        rw [← hrw, ← z3, ← z4] at hfin
        clear z3 z4 x3 hra hrw hgen hf h hlen hrl hRl
        repeat (first | (refine zal rfl ?_; first | refine gdr (zaa (.inl rfl) rfl) ?_ | refine gnk 1 rfl (za2 tb rfl rfl rfl rfl rfl) ?_ | refine gnx 1 rfl (zbc tb rfl rfl rfl) rfl ?_ | refine gdr (za6 rfl rfl rfl rfl) ?_ | refine gnk 1 rfl (zbe rfl rfl rfl rfl rfl rfl rfl) ?_ | refine gdr (zan rfl rfl rfl rfl) ?_ | refine gdr (zas rfl rfl rfl) ?_ | refine gdr (zaq rfl rfl rfl rfl) ?_) | (refine hK _ ?_; clear hK K) | (rename_i K1 hK1; refine hK1 _ ?_; clear hK hK1; clear K) | refine zad rfl ?_ | refine za4 (by kernel_rfl) (by kernel_rfl) rfl ?_ | refine zah rfl rfl ?_ | refine zba ?_ | refine zao ?_ | refine zac (fun K hK => ?_))
        refine zal rfl ?_
        refine zee (zcz (b := 1001) (l := [.ag [cu sz, .o 1001], .ag (zbi t 2 q), iu a, .ag (⟨true, false, false, false, false, false, false, false, 0, g, 0⟩ : Pte).ce]) rfl rfl rfl (by kernel_rfl) rfl (by kernel_rfl) (ze4 (by kernel_rfl) hfin)) (by kernel_rfl) ?_
        repeat (first | (refine zal rfl ?_; first | refine gnk 1 rfl (za2 tb rfl rfl rfl rfl rfl) ?_ | refine gdr (zaa (.inr rfl) rfl) ?_ | refine gnk 1 rfl (zbe rfl rfl rfl rfl rfl rfl rfl) ?_) | (refine hK _ ?_; clear hK K) | exact zap (show za8 _ _ _ = some _ by kernel_rfl))
      | false =>
        have hni := hlen rfl
        replace hrw : acc ++ row = ys := hrw
        have e1 : ys.length = n + 512 := by rw [← hrw, List.length_append, hrl, z3]
        have e2 : fl ys = vs ++ vr := by rw [← hrw, zeo, z4, x3]
        rw [e1, e2] at hfin
        clear z3 z4 x3 hrw hgen hf h hlen hrl hRl e1 e2
        repeat (first | (refine zal rfl ?_; first | refine gdr (zaa (.inl rfl) rfl) ?_ | refine gnk 1 rfl (za2 tb rfl rfl rfl rfl rfl) ?_ | refine gnx 1 rfl (zbc tb rfl rfl rfl) rfl ?_ | refine gdr (zaa (.inr rfl) rfl) ?_ | refine gdr (za6 rfl rfl rfl rfl) ?_ | refine gnk 1 rfl (zbe rfl rfl rfl rfl rfl rfl rfl) ?_ | refine gdr (zan rfl rfl rfl rfl) ?_ | refine gdr (zas rfl rfl rfl) ?_ | refine gdr (zaq rfl rfl rfl rfl) ?_ | refine gdr (zbd rfl rfl rfl rfl rfl rfl rfl rfl rfl rfl rfl rfl hra (by omega)) ?_) | (refine hK _ ?_; clear hK K) | (rename_i K1 hK1; refine hK1 _ ?_; clear hK hK1; clear K) | refine zad rfl ?_ | refine za4 (by kernel_rfl) (by kernel_rfl) rfl ?_ | refine zai rfl rfl ?_ | refine zah rfl rfl ?_ | refine zba ?_ | refine zac (fun K hK => ?_))
        refine zal rfl ?_
        refine zee (zcz (b := 95) (l := [.ag [cu sz, .o 95], .ag (zbi t 2 q), iu a, .ag (⟨true, false, false, false, false, false, false, false, 0, g, 0⟩ : Pte).ce]) rfl rfl rfl (by kernel_rfl) rfl (by kernel_rfl) (ze4 (by kernel_rfl) hfin)) (by kernel_rfl) ?_
        repeat (first | (refine zal rfl ?_; first | refine gnk 1 rfl (za2 tb rfl rfl rfl rfl rfl) ?_ | refine gdr (zaa (.inr rfl) rfl) ?_ | refine gnk 1 rfl (zbe rfl rfl rfl rfl rfl rfl rfl) ?_) | (refine hK _ ?_; clear hK K) | exact zap (show za8 _ _ _ = some _ by kernel_rfl))
end Go.Proofs.YtmkjfeamgknpfaaGreatDoor.LkC
namespace Go.Proofs.YtmkjfeamgknpfaaGreatDoor.LkD
open Go.RowKit Bv VaSpec Base MemL RegR Ax MemC PutC MemC3 TzC OkS SpA SpB SpC SpF SpH SpI SpJ LaA LaB LaC LaD LaE LaF LaG LiA LiB LiC LiD LiE LiF SpL SpN SpO RfA RfB RfC RfD RlA RlB LjB LjC LkA LkB LkC
open BitsC PteSpec
set_option maxRecDepth 10000
set_option maxHeartbeats 1000000
theorem zx8 (cd cp sz : Int) (xs : List (Int × Int)) (t l : Int) (q : Pte) (a : Int) (hm : 0 ≤ cp ∧ cp ≤ 64) : Ok 147 [zbm sz xs, .ag [cu cd, ci cp, cu 0], .ag (zbi t l q), iu a] (.tu [zbm sz xs, .ag [cu cd, ci cp, cu 0], ii 8]) := by
  have hf := zkg sz xs cd cp hm
  refine zaf 105 Tryz.func147 rfl rfl rfl rfl ?_ GG.to
  intro W A hG
  repeat (first | (refine zal rfl ?_; first | refine gdr (zaa (.inl rfl) rfl) ?_ | refine gnk 1 rfl (za2 tb rfl rfl rfl rfl rfl) ?_ | refine gdr (zaa (.inr rfl) rfl) ?_ | refine gdr (zak rfl rfl rfl rfl) ?_ | refine gdr (za6 rfl rfl rfl rfl) ?_ | refine gdr (zag rfl rfl rfl rfl rfl rfl) ?_ | refine gdr (zae rfl rfl rfl rfl rfl) ?_ | refine gnk 1 rfl (zbe rfl rfl rfl rfl rfl rfl rfl) ?_ | refine gdr (zab rfl rfl rfl (hf) (by kernel_rfl)) ?_) | (refine hK _ ?_; clear hK K) | refine zad rfl ?_ | refine za4 (by kernel_rfl) (by kernel_rfl) rfl ?_ | exact zap (show za8 _ _ _ = some _ by kernel_rfl) | refine zai rfl rfl ?_ | refine zac (fun K hK => ?_))
def z4b (sz cd cp top lv addr zaz : Int) (xs0 : List (Int × Int)) (f0 : Int) (xs : List (Int × Int)) (f : Int) : St := St.of [(2, .m (iu top)), (3, .m (ii lv)), (4, .m (iu addr)), (5, .m (ii zaz)), (6, .m (.c (.p 6 0))), (7, .m (.c (.p 7 0))), (12, .m (.c (.p 12 0))), (13, .m (.c (.p 13 0))), (14, .m (.c (.p 14 0))), (15, .m (ii 0)), (16, .m (.c (.p 16 0))), (17, .m (.c (.p 17 0)))] [(6, .live (.box [cu sz, .s xs0.length 2 (fl xs0)])), (7, .live (.box [cu cd, ci cp, cu f0])), (12, .live (.box [cu 0, .v (.slice none 0 0)])), (13, .live (.box [cu 0, ci 0, cu 0])), (14, .live (.box (zbi 0 0 zP))), (16, .live (.box [cu sz, .s xs.length 2 (fl xs)])), (17, .live (.box [cu cd, ci cp, cu f]))]
theorem z3c {cd cp sz sh : Int} (top addr zaz : Int) (l : Nat) (xs0 : List (Int × Int)) (f0 : Int) (lv0 : Int → Int) (h : TI cd cp sz xs0 f0 sh lv0) (ht : Al cd cp f0 top) (hsh : Al cd cp f0 sh) (hlt : lv0 top = l) (ha : U addr) (hl : l ≤ 2) (hw : 0 ≤ zaz) (hwl : zaz ≤ (l : Int)) (hn : xs0.length ≤ 90000)
    (R : List (Int × Int) × Int × (Int × Int) × Int) (hR : R = toN sz cd addr zaz top l l xs0 f0) :
    Ok 91 [zbm sz xs0, .ag [cu cd, ci cp, cu f0], iu top, ii l, iu addr, ii zaz]
      (.tu (if R.2.2.2 = 0 then [zbm sz R.1, .ag [cu cd, ci cp, cu R.2.1], .ag (zga sz R.1 addr R.2.2.1), ii 0] else [zbm sz xs0, .ag [cu cd, ci cp, cu f0], .ag (zbi 0 0 zP), ii R.2.2.2])) := by
  have hcd := h.bd
  have hcp := h.bp
  obtain ⟨V, hV⟩ : ∃ V, V = (if R.2.2.2 = 0 then [zbm sz R.1, .ag [cu cd, ci cp, cu R.2.1], .ag (zga sz R.1 addr R.2.2.1), ii 0] else [zbm sz xs0, .ag [cu cd, ci cp, cu f0], .ag (zbi 0 0 zP), ii R.2.2.2]) := ⟨_, rfl⟩
  rw [← hV]
  have hcl : (zc8 (.tu V) && [zbm sz xs0, .ag [cu cd, ci cp, cu f0], iu top, ii l, iu addr, ii zaz].all zcu) = true := by
    rw [hV]; split <;> rfl
  refine zaf 60 Tryz.func91 rfl hcl rfl rfl ?_ GG.to
  intro W A hG
  repeat (first | (refine zal rfl ?_; first | refine gnk 1 rfl (za2 tb rfl rfl rfl rfl rfl) ?_ | refine gdr (zaa (.inr rfl) rfl) ?_ | refine gdr (zag rfl rfl rfl rfl rfl rfl) ?_ | refine gdr (zae rfl rfl rfl rfl rfl) ?_ | refine gnk 1 rfl (zbe rfl rfl rfl rfl rfl rfl rfl) ?_) | (refine hK _ ?_; clear hK K) | refine zad rfl ?_ | refine zam ?_ | refine zac (fun K hK => ?_))
  obtain ⟨r0, r1, r2, r3, r4, r5, r6, _⟩ := zda h addr zaz hw l top ht hlt hwl
  refine za9 (α := Nat × List (Int × Int) × Int × (Int → Int)) (fun q => TI cd cp sz q.2.1 q.2.2.1 sh q.2.2.2 ∧ Al cd cp q.2.2.1 top ∧ Al cd cp q.2.2.1 sh ∧ q.2.2.2 top = l ∧ q.2.1.length + 513 * q.1 ≤ 100000 ∧ toN sz cd addr zaz top l q.1 q.2.1 q.2.2.1 = R ∧ (za3 sz q.2.1 addr zaz l top).2 ≤ zaz + q.1)
    (fun q => z4b sz cd cp top l addr zaz xs0 f0 q.2.1 q.2.2.1) (fun q => q.1) (l, xs0, f0, lv0) ⟨h, ht, hsh, hlt, by show xs0.length + 513 * l ≤ _; omega, hR.symm, by show (za3 sz xs0 addr zaz l top).2 ≤ zaz + l; rw [r2]; show (r0 : Int) ≤ _; omega⟩ (zar _ _ ⟨by kernel_rfl, by kernel_rfl, by kernel_rfl, by kernel_rfl, by kernel_rfl, by kernel_rfl, by kernel_rfl, by kernel_rfl, by kernel_rfl, by kernel_rfl, by kernel_rfl, by kernel_rfl, trivial⟩ ⟨by kernel_rfl, by kernel_rfl, by kernel_rfl, by kernel_rfl, by kernel_rfl, by kernel_rfl, by kernel_rfl, trivial⟩ (by kernel_rfl)) ?_
  clear r2 r3 r4 r5 r6
  rintro ⟨n, xs, f, lv⟩ ⟨x1, x2, x3, x4, x5, x6, x7⟩
  have g1 : TI cd cp sz xs f sh lv := x1
  have g2 : Al cd cp f top := x2
  have g3 : Al cd cp f sh := x3
  have g4 : lv top = l := x4
  have g5 : xs.length + 513 * n ≤ 100000 := x5
  have g6 : toN sz cd addr zaz top l n xs f = R := x6
  have g7 : (za3 sz xs addr zaz l top).2 ≤ zaz + (n : Int) := x7
  clear x1 x2 x3 x4 x5 x6 x7
  show Aw _ _ _ _ (z4b sz cd cp top l addr zaz xs0 f0 xs f)
  unfold z4b
  obtain ⟨l', t', i1, i2, i3, i4, i5, i6, i7⟩ := zda g1 addr zaz hw l top g2 g4 hwl
  have ub := g1.u
  have bt := g2.1
  have bt' := i4.1
  have hr := zgi sz xs addr zaz ha hw g1.s ub (by omega) l top hl ⟨by omega, by omega⟩
  rw [i1] at hr
  rw [i1] at g7
  have g7 : (l' : Int) ≤ zaz + (n : Int) := g7
  have hi := idx_bd addr (l' : Int)
  have hstop : ((l' : Int) = zaz ∨ zbr (atM sz xs t' (idx addr (l' : Int))) = false) → R = (xs, f, (t', (l' : Int)), 0) := fun hor => by
    rw [← g6]
    cases n with
    | zero => show (xs, f, za3 sz xs addr zaz l top, 0) = _; rw [i1]
    | succ n => unfold toN; rw [i1, if_pos hor]
  have hgo : ¬ ((l' : Int) = zaz ∨ zbr (atM sz xs t' (idx addr (l' : Int))) = false) → ∃ m, n = m + 1 ∧ R = if f = 0 then (xs, f, (t', (l' : Int)), 8) else toN sz cd addr zaz top l m (zhe sz xs t' (idx addr (l' : Int)) (l' : Int) (atM sz xs t' (idx addr (l' : Int))) (cd + tzI f)) (zb9 f (tzI f) 1 0) := fun hor => by
    cases n with
    | zero => exact absurd (.inl (by omega)) hor
    | succ n => exact ⟨n, rfl, by rw [← g6, zr2, i1, if_neg hor]⟩
  have h3 := zi6 (atM sz xs t' (idx addr (l' : Int)))
  have hk := g1.e.k t' _ hi
  obtain ⟨q, hq⟩ : ∃ q, q = atM sz xs t' (idx addr (l' : Int)) := ⟨_, rfl⟩
  unfold zga at hr
  rw [show (t', (l' : Int)).1 = t' from rfl, show (t', (l' : Int)).2 = (l' : Int) from rfl] at hr
  by_cases c1 : (l' : Int) = zaz
  · have e := hstop (.inl c1)
    subst e
    have hV : V = [zbm sz xs, .ag [cu cd, ci cp, cu f], .ag (zbi t' (l' : Int) (atM sz xs t' (idx addr (l' : Int)))), ii 0] := hV
    rw [← hq] at hV hr h3
    subst hV
    repeat (first | (refine zal rfl ?_; first | refine gdr (zaw rfl) ?_ | refine gdr (zaa (.inl rfl) rfl) ?_ | refine gnk 1 rfl (za2 tb rfl rfl rfl rfl rfl) ?_ | refine gnx 1 rfl (zbc tb rfl rfl rfl) rfl ?_ | refine gdr (zaa (.inr rfl) rfl) ?_ | refine gdr (zaj rfl rfl rfl) ?_ | refine gdr (za6 rfl rfl rfl rfl) ?_ | refine gdr (zae rfl rfl rfl rfl rfl) ?_ | refine gnk 1 rfl (zbe rfl rfl rfl rfl rfl rfl rfl) ?_ | refine gdr (zab rfl rfl rfl (hr) (by kernel_rfl)) ?_) | (refine hK _ ?_; clear hK K) | refine zad rfl ?_ | refine za4 (by kernel_rfl) (by kernel_rfl) rfl ?_ | exact zap (show za8 _ _ _ = some _ by kernel_rfl) | refine zai rfl rfl ?_ | refine zam ?_ | refine zac (fun K hK => ?_))
  · cases hlf : zbr (atM sz xs t' (idx addr (l' : Int))) with
    | false =>
      have e := hstop (.inr hlf)
      subst e
      have hV : V = [zbm sz xs, .ag [cu cd, ci cp, cu f], .ag (zbi t' (l' : Int) (atM sz xs t' (idx addr (l' : Int)))), ii 0] := hV
      rw [hlf] at h3
      rw [← hq] at hV hr h3
      subst hV
      repeat (first | (refine zal rfl ?_; first | refine gdr (zaa (.inl rfl) rfl) ?_ | refine gnk 1 rfl (za2 tb rfl rfl rfl rfl rfl) ?_ | refine gnx 1 rfl (zbc tb rfl rfl rfl) rfl ?_ | refine gdr (zaa (.inr rfl) rfl) ?_ | refine gdr (zaj rfl rfl rfl) ?_ | refine gdr (za6 rfl rfl rfl rfl) ?_ | refine gdr (zae rfl rfl rfl rfl rfl) ?_ | refine gnk 1 rfl (zbe rfl rfl rfl rfl rfl rfl rfl) ?_ | refine gdr (zas rfl rfl rfl) ?_ | refine gdr (zab rfl rfl rfl (hr) (by kernel_rfl)) ?_ | refine gdr (zab rfl rfl rfl (h3) (by kernel_rfl)) ?_) | (refine hK _ ?_; clear hK K) | refine zad rfl ?_ | refine za4 (by kernel_rfl) (by kernel_rfl) rfl ?_ | exact zap (show za8 _ _ _ = some _ by kernel_rfl) | refine zai rfl rfl ?_ | refine zam ?_ | refine zac (fun K hK => ?_))
    | true =>
      rw [hlf] at h3
      obtain ⟨m, rfl, e⟩ := hgo (by rw [hlf]; rintro (e | e); exact c1 e; cases e)
      have hbad : zej (atM sz xs t' (idx addr (l' : Int))) (l' : Int) = false := by
        rcases hk with e | ⟨_, _, ⟨_, e⟩ | ⟨e, _⟩⟩
        · rw [e] at hlf; cases hlf
        · rw [i5] at e; exact e
        · rw [(zfa e).2.2] at hlf; cases hlf
      by_cases c4 : f = 0
      · rw [if_pos c4] at e
        subst e
        subst c4
        have hV : V = [zbm sz xs0, .ag [cu cd, ci cp, cu f0], .ag (zbi 0 0 zP), ii 8] := hV
        subst hV
        have hlo := zx8 cd cp sz xs t' (l' : Int) q addr ⟨by omega, by omega⟩
        rw [← hq] at hr h3
        repeat (first | (refine zal rfl ?_; first | refine gdr (zaa (.inl rfl) rfl) ?_ | refine gnk 1 rfl (za2 tb rfl rfl rfl rfl rfl) ?_ | refine gnx 1 rfl (zbc tb rfl rfl rfl) rfl ?_ | refine gdr (zaa (.inr rfl) rfl) ?_ | refine gdr (zaj rfl rfl rfl) ?_ | refine gdr (zak rfl rfl rfl rfl) ?_ | refine gdr (za6 rfl rfl rfl rfl) ?_ | refine gdr (zae rfl rfl rfl rfl rfl) ?_ | refine gnk 1 rfl (zbe rfl rfl rfl rfl rfl rfl rfl) ?_ | refine gdr (zas rfl rfl rfl) ?_ | refine gdr (zaq rfl rfl rfl rfl) ?_ | refine gdr (zab rfl rfl rfl (hr) (by kernel_rfl)) ?_ | refine gdr (zab rfl rfl rfl (h3) (by kernel_rfl)) ?_ | refine gdr (zab rfl rfl rfl (hlo) (by kernel_rfl)) ?_) | (refine hK _ ?_; clear hK K) | refine zad rfl ?_ | refine za4 (by kernel_rfl) (by kernel_rfl) rfl ?_ | exact zap (show za8 _ _ _ = some _ by kernel_rfl) | refine zai rfl rfl ?_ | refine zah rfl rfl ?_ | refine zam ?_ | refine zao ?_ | refine zac (fun K hK => ?_))
      · rw [if_neg c4] at e
        obtain ⟨a0, a1, a2, a3⟩ := zd8 g1 c4
        clear hk hgo hstop
        obtain ⟨p, rfl⟩ := Nat.exists_eq_add_one_of_ne_zero (show l' ≠ 0 from fun e => c1 (by rw [e] at i3 ⊢; exact Int.le_antisymm hw i3))
        have hT := zro g1 c4 i4 g3 hi i5 (by omega) rfl hlf hbad
        obtain ⟨s1, s2⟩ := zka g1 c4 addr zaz hw i4 i5 (by omega) (by omega) hlf hbad
        have hre := (i7 _ s1).trans s2
        have hsl := zp3 sz xs t' (idx addr ((p + 1 : Nat) : Int)) ((p + 1 : Nat) : Int) (atM sz xs t' (idx addr ((p + 1 : Nat) : Int))) (cd + tzI f)
        have hlo : Ok 147 [zbm sz xs, .ag [cu cd, ci cp, cu f], .ag (zbi t' ((p + 1 : Nat) : Int) (atM sz xs t' (idx addr ((p + 1 : Nat) : Int)))), iu addr] (.tu [zbm sz (zhe sz xs t' (idx addr ((p + 1 : Nat) : Int)) ((p + 1 : Nat) : Int) (atM sz xs t' (idx addr ((p + 1 : Nat) : Int))) (cd + tzI f)), .ag [cu cd, ci cp, cu (zb9 f (tzI f) 1 0)], ii 0]) := by
          rcases (by omega : p = 0 ∨ p = 1) with rfl | rfl
          · exact zv6 g1 c4 (by omega) ha i4 rfl hlf hbad
          · exact zv7 g1 c4 (by omega) ha i4 rfl hlf hbad
        have htop := (if_neg (a0 _ g2).2 : upL lv (cd + tzI f) (((p + 1 : Nat) : Int) - 1) top = lv top).trans g4
        generalize zhe sz xs t' (idx addr ((p + 1 : Nat) : Int)) ((p + 1 : Nat) : Int) (atM sz xs t' (idx addr ((p + 1 : Nat) : Int))) (cd + tzI f) = xs2 at *
        rw [← hq] at hr h3 hlo
        repeat (first | (refine zal rfl ?_; first | refine gdr (zaa (.inl rfl) rfl) ?_ | refine gnk 1 rfl (za2 tb rfl rfl rfl rfl rfl) ?_ | refine gnx 1 rfl (zbc tb rfl rfl rfl) rfl ?_ | refine gdr (zaa (.inr rfl) rfl) ?_ | refine gdr (zaj rfl rfl rfl) ?_ | refine gdr (zak rfl rfl rfl rfl) ?_ | refine gdr (za6 rfl rfl rfl rfl) ?_ | refine gdr (zae rfl rfl rfl rfl rfl) ?_ | refine gnk 1 rfl (zbe rfl rfl rfl rfl rfl rfl rfl) ?_ | refine gdr (zas rfl rfl rfl) ?_ | refine gdr (zab rfl rfl rfl (hr) (by kernel_rfl)) ?_ | refine gdr (zab rfl rfl rfl (h3) (by kernel_rfl)) ?_ | refine gdr (zab rfl rfl rfl (hlo) (by kernel_rfl)) ?_) | (refine hK _ ?_; clear hK K) | refine zad rfl ?_ | refine zah rfl rfl ?_ | refine zam ?_ | refine zao ?_ | refine zac (fun K hK => ?_))
        exact ⟨(m, xs2, zb9 f (tzI f) 1 0, upL lv (cd + tzI f) (((p + 1 : Nat) : Int) - 1)), ⟨hT, (a0 _ g2).1, (a0 _ g3).1, htop, by show xs2.length + 513 * m ≤ 100000; omega, e.symm, by show (za3 sz xs2 addr zaz l top).2 ≤ zaz + (m : Int); rw [hre]; show (p : Int) ≤ _; omega⟩, by show m < m + 1; omega, zar _ _ ⟨by kernel_rfl, by kernel_rfl, by kernel_rfl, by kernel_rfl, by kernel_rfl, by kernel_rfl, by kernel_rfl, by kernel_rfl, by kernel_rfl, by kernel_rfl, by kernel_rfl, by kernel_rfl, trivial⟩ ⟨by kernel_rfl, by kernel_rfl, by kernel_rfl, by kernel_rfl, by kernel_rfl, by kernel_rfl, by kernel_rfl, trivial⟩ (by kernel_rfl)⟩
end Go.Proofs.YtmkjfeamgknpfaaGreatDoor.LkD
namespace Go.Proofs.YtmkjfeamgknpfaaGreatDoor.LjA
open Go.RowKit Bv VaSpec Base MemL RegR Ax MemC PutC MemC3 TzC OkS SpA SpB SpC SpD SpE SpF SpG SpH SpI SpJ SpK SpN SpO RfA RfB RfC RfD RlA RlB LaA LaB LaC LaD LaE LaF LaG LaH LiA LiB LiC LiD LiE LiF
open BitsC PteSpec
set_option maxRecDepth 10000
set_option maxHeartbeats 1000000
theorem zx9 (a : Int) : Ok 45 [iu a] (.m (.ag [cb true, cu a, cb false, cu 0])) := by
  refine zaf 5 Tryz.func45 rfl rfl rfl rfl ?_ GG.to
  intro W A hG
  repeat (first | (refine zal rfl ?_; first | refine gdr (zaa (.inl rfl) rfl) ?_ | refine gdr (zae rfl rfl rfl rfl rfl) ?_ | refine gnk 1 rfl (zbe rfl rfl rfl rfl rfl rfl rfl) ?_ | refine gdr (zaq rfl rfl rfl rfl) ?_) | (refine hK _ ?_; clear hK K) | refine zad rfl ?_ | exact zap (show za8 _ _ _ = some _ by kernel_rfl) | refine zac (fun K hK => ?_))
theorem z3d (n a : Int) : Ok 47 [iu n, iu a] (.m (.ag [cb true, cu a, cb true, cu n])) := by
  refine zaf 8 Tryz.func47 rfl rfl rfl rfl ?_ GG.to
  intro W A hG
  repeat (first | (refine zal rfl ?_; first | refine gdr (zaa (.inl rfl) rfl) ?_ | refine gdr (zae rfl rfl rfl rfl rfl) ?_ | refine gnk 1 rfl (zbe rfl rfl rfl rfl rfl rfl rfl) ?_ | refine gdr (zaq rfl rfl rfl rfl) ?_) | (refine hK _ ?_; clear hK K) | refine zad rfl ?_ | exact zap (show za8 _ _ _ = some _ by kernel_rfl) | refine zac (fun K hK => ?_))
theorem z1a (n a : Int) : zde Tryz.prog GG 46 [spB 2000 [cu n]] [iu a, .c (.p 2000 0)] (.m (.ag [cb true, cu a, cb true, cu n])) := by
  refine zc5 7 Tryz.func46 rfl rfl rfl rfl rfl ?_
  intro W A τ hG
  repeat (first | (refine zal rfl ?_; first | refine gdr (zaa (.inl rfl) rfl) ?_ | refine gnk 1 rfl (za2 tb rfl rfl rfl rfl rfl) ?_ | refine gdr (zae rfl rfl rfl rfl rfl) ?_ | refine gnk 1 rfl (zbe rfl rfl rfl rfl rfl rfl rfl) ?_ | refine gdr (zab rfl rfl rfl (z3d n a) rfl) ?_) | (refine hK _ ?_; clear hK K) | refine zad rfl ?_ | refine zac (fun K hK => ?_) | refine zap (show za8 _ _ _ = some _ ∧ EndB _ _ from ⟨by kernel_rfl, ?_⟩))
  exact ⟨⟨_, rfl, rfl⟩, trivial⟩
theorem zop {a l : Int} (ha : U a) (l0 : 0 ≤ l) (l2 : l ≤ 2) : U (VaSpec.base a l) := by
  obtain ⟨a0, a1⟩ := ha
  unfold VaSpec.base
  rcases (by omega : l = 0 ∨ l = 1 ∨ l = 2) with rfl | rfl | rfl
  · simp only [show VaSpec.sz 0 = 4096 from rfl]; exact ⟨by omega, by omega⟩
  · simp only [show VaSpec.sz 1 = 2097152 from rfl]; exact ⟨by omega, by omega⟩
  · simp only [show VaSpec.sz 2 = 1073741824 from rfl]; exact ⟨by omega, by omega⟩
theorem zoq (sz : Int) (xs : List (Int × Int)) (t l : Int) (q : Pte) (a : Int) (ha : U a) (hs : Srt xs) (hu : Uw xs) (hq : 0 ≤ q.ppn ∧ q.ppn < 17592186044416) (l0 : 0 ≤ l) (l2 : l ≤ 2) (hl : zbu q = true → 1 ≤ l) :
    Ok 40 [zbm sz xs, .ag (zbi t l q), iu a] (.m (.c (.s (zbn sz xs l q (VaSpec.base a l)).length 8 (flP (zbn sz xs l q (VaSpec.base a l)))))) := by
  have hbU : U (VaSpec.base a l) := zop ha l0 l2
  have h1 := ziy q
  have h2 := zgn q
  have h3 := zra q
  have h5 := zl9 a l ha l0 l2
  cases hlf : zbr q with
  | true =>
    have e : zbn sz xs l q (VaSpec.base a l) = [⟨VaSpec.base a l, q.ppn * 4096, l, q.r, q.w, q.x, q.u, q.d⟩] := by unfold zbn; rw [hlf]; rfl
    rw [e, zme]
    rw [hlf] at h1
    refine zaf 45 Tryz.func40 rfl rfl rfl rfl ?_ GG.to
    intro W A hG
    repeat (first | (refine zal rfl ?_; first | refine gdr (zaa (.inl rfl) rfl) ?_ | refine gnk 1 rfl (za2 tb rfl rfl rfl rfl rfl) ?_ | refine gnx 1 rfl (zbc tb rfl rfl rfl) rfl ?_ | refine gdr (zaa (.inr rfl) rfl) ?_ | refine gdr (gar rfl rfl rfl rfl) ?_ | refine gdr (zag rfl rfl rfl rfl rfl rfl) ?_ | refine gdr (zaq rfl rfl rfl rfl) ?_ | refine gdr (zax rfl rfl rfl rfl rfl rfl rfl rfl rfl rfl rfl) ?_ | refine gdr (zab rfl rfl rfl (h1) (by kernel_rfl)) ?_ | refine gdr (zab rfl rfl rfl (h3) (by kernel_rfl)) ?_ | refine gdr (zab rfl rfl rfl (h5) (by kernel_rfl)) ?_) | (refine hK _ ?_; clear hK K) | refine zad rfl ?_ | refine za4 (by kernel_rfl) (by kernel_rfl) rfl ?_ | exact zap (show za8 _ _ _ = some _ by kernel_rfl) | refine zai rfl rfl ?_ | refine zam ?_ | refine zac (fun K hK => ?_))
  | false =>
    rw [hlf] at h1
    cases hlk : zbu q with
    | true =>
      rw [hlk] at h2
      have e : zbn sz xs l q (VaSpec.base a l) = zd4 sz xs (l - 1).toNat q.ppn (VaSpec.base a l) := by unfold zbn; rw [hlf, hlk]; rfl
      rw [e]
      rcases (by have := hl hlk; omega : l = 1 ∨ l = 2) with rfl | rfl
      · have h4 := zvb sz xs hs hu q.ppn (VaSpec.base a 1) hq hbU
        rw [show ((1 : Int) - 1).toNat = 0 by decide]
        refine zaf 45 Tryz.func40 rfl rfl rfl rfl ?_ GG.to
        intro W A hG
        repeat (first | (refine zal rfl ?_; first | refine gdr (zaa (.inl rfl) rfl) ?_ | refine gnk 1 rfl (za2 tb rfl rfl rfl rfl rfl) ?_ | refine gnx 1 rfl (zbc tb rfl rfl rfl) rfl ?_ | refine gdr (zaa (.inr rfl) rfl) ?_ | refine gdr (gar rfl rfl rfl rfl) ?_ | refine gdr (zag rfl rfl rfl rfl rfl rfl) ?_ | refine gdr (zab rfl rfl rfl (h1) (by kernel_rfl)) ?_ | refine gdr (zab rfl rfl rfl (h2) (by kernel_rfl)) ?_ | refine gdr (zab rfl rfl rfl (h4) (by kernel_rfl)) ?_ | refine gdr (zab rfl rfl rfl (h5) (by kernel_rfl)) ?_) | (refine hK _ ?_; clear hK K) | refine zad rfl ?_ | refine za4 (by kernel_rfl) (by kernel_rfl) rfl ?_ | exact zap (show za8 _ _ _ = some _ by kernel_rfl) | refine zai rfl rfl ?_ | refine zah rfl rfl ?_ | refine zam ?_ | refine zac (fun K hK => ?_))
      · have h4 := z0p sz xs hs hu q.ppn (VaSpec.base a 2) hq hbU
        rw [show ((2 : Int) - 1).toNat = 1 by decide]
        refine zaf 45 Tryz.func40 rfl rfl rfl rfl ?_ GG.to
        intro W A hG
        repeat (first | (refine zal rfl ?_; first | refine gdr (zaa (.inl rfl) rfl) ?_ | refine gnk 1 rfl (za2 tb rfl rfl rfl rfl rfl) ?_ | refine gnx 1 rfl (zbc tb rfl rfl rfl) rfl ?_ | refine gdr (zaa (.inr rfl) rfl) ?_ | refine gdr (gar rfl rfl rfl rfl) ?_ | refine gdr (zag rfl rfl rfl rfl rfl rfl) ?_ | refine gdr (zab rfl rfl rfl (h1) (by kernel_rfl)) ?_ | refine gdr (zab rfl rfl rfl (h2) (by kernel_rfl)) ?_ | refine gdr (zab rfl rfl rfl (h4) (by kernel_rfl)) ?_ | refine gdr (zab rfl rfl rfl (h5) (by kernel_rfl)) ?_) | (refine hK _ ?_; clear hK K) | refine zad rfl ?_ | refine za4 (by kernel_rfl) (by kernel_rfl) rfl ?_ | exact zap (show za8 _ _ _ = some _ by kernel_rfl) | refine zai rfl rfl ?_ | refine zah rfl rfl ?_ | refine zam ?_ | refine zac (fun K hK => ?_))
    | false =>
      rw [hlk] at h2
      have e : zbn sz xs l q (VaSpec.base a l) = [] := by unfold zbn; rw [hlf, hlk]; rfl
      rw [e]
      refine zey (r := .m (.c (.v (.slice none 0 0)))) ?_ rfl (zmp 8)
      refine zaf 45 Tryz.func40 rfl rfl rfl rfl ?_ GG.to
      intro W A hG
      repeat (first | (refine zal rfl ?_; first | refine gnk 1 rfl (za2 tb rfl rfl rfl rfl rfl) ?_ | refine gnx 1 rfl (zbc tb rfl rfl rfl) rfl ?_ | refine gdr (zaa (.inr rfl) rfl) ?_ | refine gdr (zag rfl rfl rfl rfl rfl rfl) ?_ | refine gdr (zab rfl rfl rfl (h1) (by kernel_rfl)) ?_ | refine gdr (zab rfl rfl rfl (h2) (by kernel_rfl)) ?_) | (refine hK _ ?_; clear hK K) | refine zad rfl ?_ | exact zap (show za8 _ _ _ = some _ by kernel_rfl) | refine zah rfl rfl ?_ | refine zam ?_ | refine zao ?_ | refine zac (fun K hK => ?_))
theorem zor (sz : Int) (xs : List (Int × Int)) (t l : Int) (q : Pte) (a : Int) (ha : U a) (hs : Srt xs) (hu : Uw xs) (hn : xs.length ≤ 1000000) (hq : 0 ≤ q.ppn ∧ q.ppn < 17592186044416) (l0 : 0 ≤ l) (l2 : l ≤ 2) (hl : zbu q = true → 1 ≤ l) :
    Ok 44 [zbm sz xs, .ag (zbi t l q), iu a] (.m (.c (.s (zbn sz xs l q (a)).length 8 (flP (zbn sz xs l q (a)))))) := by
  have hbU : U (a) := by exact ha
  have h1 := zi6 q
  have h2 := zi4 q
  have h3 := zry q
  cases hlf : zbr q with
  | true =>
    have e : zbn sz xs l q (a) = [⟨a, 4096 * q.ppn, l, q.r, q.w, q.x, q.u, q.d⟩] := by unfold zbn; rw [hlf]; rw [Int.mul_comm]; rfl
    rw [e, zme]
    rw [hlf] at h1
    refine zaf 37 Tryz.func44 rfl rfl rfl rfl ?_ GG.to
    intro W A hG
    repeat (first | (refine zal rfl ?_; first | refine gdr (zaa (.inl rfl) rfl) ?_ | refine gnk 1 rfl (za2 tb rfl rfl rfl rfl rfl) ?_ | refine gnx 1 rfl (zbc tb rfl rfl rfl) rfl ?_ | refine gdr (zaa (.inr rfl) rfl) ?_ | refine gdr (gar rfl rfl rfl rfl) ?_ | refine gdr (zag rfl rfl rfl rfl rfl rfl) ?_ | refine gdr (zaq rfl rfl rfl rfl) ?_ | refine gdr (zax rfl rfl rfl rfl rfl rfl rfl rfl rfl rfl rfl) ?_ | refine gdr (zab rfl rfl rfl (h1) (by kernel_rfl)) ?_ | refine gdr (zab rfl rfl rfl (h3) (by kernel_rfl)) ?_) | (refine hK _ ?_; clear hK K) | refine zad rfl ?_ | refine za4 (by kernel_rfl) (by kernel_rfl) rfl ?_ | exact zap (show za8 _ _ _ = some _ by kernel_rfl) | refine zai rfl rfl ?_ | refine zac (fun K hK => ?_))
  | false =>
    rw [hlf] at h1
    cases hlk : zbu q with
    | true =>
      rw [hlk] at h2
      have e : zbn sz xs l q (a) = zd4 sz xs (l - 1).toNat q.ppn (a) := by unfold zbn; rw [hlf, hlk]; rfl
      rw [e]
      rcases (by have := hl hlk; omega : l = 1 ∨ l = 2) with rfl | rfl
      · have h4 := zr0 sz xs hs hu hn q.ppn (a) hq hbU
        rw [show ((1 : Int) - 1).toNat = 0 by decide]
        refine zaf 37 Tryz.func44 rfl rfl rfl rfl ?_ GG.to
        intro W A hG
        repeat (first | (refine zal rfl ?_; first | refine gdr (zaa (.inl rfl) rfl) ?_ | refine gnk 1 rfl (za2 tb rfl rfl rfl rfl rfl) ?_ | refine gnx 1 rfl (zbc tb rfl rfl rfl) rfl ?_ | refine gdr (zaa (.inr rfl) rfl) ?_ | refine gdr (gar rfl rfl rfl rfl) ?_ | refine gdr (zag rfl rfl rfl rfl rfl rfl) ?_ | refine gdr (zab rfl rfl rfl (h1) (by kernel_rfl)) ?_ | refine gdr (zab rfl rfl rfl (h2) (by kernel_rfl)) ?_ | refine gdr (zab rfl rfl rfl (h4) (by kernel_rfl)) ?_) | (refine hK _ ?_; clear hK K) | refine zad rfl ?_ | exact zap (show za8 _ _ _ = some _ by kernel_rfl) | refine zai rfl rfl ?_ | refine zah rfl rfl ?_ | refine zao ?_ | refine zac (fun K hK => ?_))
      · have h4 := zx1 sz xs hs hu hn q.ppn (a) hq hbU
        rw [show ((2 : Int) - 1).toNat = 1 by decide]
        refine zaf 37 Tryz.func44 rfl rfl rfl rfl ?_ GG.to
        intro W A hG
        repeat (first | (refine zal rfl ?_; first | refine gdr (zaa (.inl rfl) rfl) ?_ | refine gnk 1 rfl (za2 tb rfl rfl rfl rfl rfl) ?_ | refine gnx 1 rfl (zbc tb rfl rfl rfl) rfl ?_ | refine gdr (zaa (.inr rfl) rfl) ?_ | refine gdr (gar rfl rfl rfl rfl) ?_ | refine gdr (zag rfl rfl rfl rfl rfl rfl) ?_ | refine gdr (zab rfl rfl rfl (h1) (by kernel_rfl)) ?_ | refine gdr (zab rfl rfl rfl (h2) (by kernel_rfl)) ?_ | refine gdr (zab rfl rfl rfl (h4) (by kernel_rfl)) ?_) | (refine hK _ ?_; clear hK K) | refine zad rfl ?_ | exact zap (show za8 _ _ _ = some _ by kernel_rfl) | refine zai rfl rfl ?_ | refine zah rfl rfl ?_ | refine zao ?_ | refine zac (fun K hK => ?_))
    | false =>
      rw [hlk] at h2
      have e : zbn sz xs l q (a) = [] := by unfold zbn; rw [hlf, hlk]; rfl
      rw [e]
      refine zey (r := .m (.c (.v (.slice none 0 0)))) ?_ rfl (zmp 8)
      refine zaf 37 Tryz.func44 rfl rfl rfl rfl ?_ GG.to
      intro W A hG
      repeat (first | (refine zal rfl ?_; first | refine gnk 1 rfl (za2 tb rfl rfl rfl rfl rfl) ?_ | refine gnx 1 rfl (zbc tb rfl rfl rfl) rfl ?_ | refine gdr (zaa (.inr rfl) rfl) ?_ | refine gdr (zag rfl rfl rfl rfl rfl rfl) ?_ | refine gdr (zab rfl rfl rfl (h1) (by kernel_rfl)) ?_ | refine gdr (zab rfl rfl rfl (h2) (by kernel_rfl)) ?_) | (refine hK _ ?_; clear hK K) | refine zad rfl ?_ | exact zap (show za8 _ _ _ = some _ by kernel_rfl) | refine zah rfl rfl ?_ | refine zao ?_ | refine zac (fun K hK => ?_))
theorem zqn {n : Nat} {k : Kr} {id a l : Int} (h : InvT n k) (he : (za1 k id a l).2.2 = 0) : ∃ (l' : Nat) (t' : Int), zc0 k.sz k.m a l (za1 k id a l).2.1 (za1 k id a l).1 = (t', (l' : Int)) ∧ l' ≤ 2 ∧ l ≤ (l' : Int) ∧ Al k.cd k.cp k.pf t' ∧ (zbu (atM k.sz k.m t' (idx a (l' : Int))) = true → 1 ≤ (l' : Int)) := by
  obtain ⟨lv, hT, hs, hr⟩ := h.t
  obtain ⟨w1, w2, w3, w4⟩ := zcx (id := id) (a := a) (l := l) h.l he
  obtain ⟨z1, _⟩ := h.top (id := id) (a := a) (l := l) he hs hr
  generalize za1 k id a l = w at *
  obtain ⟨l', t', i1, i2, i3, i4, i5, i6, _⟩ := zda hT a l w1.1 w.2.1.toNat w.1 w2 (by omega) (by omega)
  refine ⟨l', t', i1, by omega, i3, i4, fun hlk => ?_⟩
  rcases hT.e.k t' _ (idx_bd a (l' : Int)) with e | ⟨_, _, ⟨e, _⟩ | ⟨_, e, _⟩⟩
  · rw [e] at hlk; cases hlk
  · rw [(zcq e).1] at hlk; cases hlk
  · omega
theorem zr5 {n : Nat} {k : Kr} (h : InvT n k) (hn : n ≤ 90000) (id a l : Int) (ha : U a) : Ok 15 [.ag k.ce, ii id, iu a, ii l] (.m (.c (.s (inR k id a l).length 8 (flP (inR k id a l))))) := by
  have hw := zmo k id a l ha
  unfold inR
  by_cases c0 : (za1 k id a l).2.2 = 0
  rotate_left
  · rw [if_pos c0]
    generalize za1 k id a l = w at *
    refine zey (r := .m (.c (.v (.slice none 0 0)))) ?_ rfl (zmp 8)
    refine zaf 34 Tryz.func15 rfl rfl rfl rfl ?_ GG.to
    intro W A hG
    repeat (first | (refine zal rfl ?_; first | refine gdr (zaa (.inl rfl) rfl) ?_ | refine gnk 1 rfl (za2 tb rfl rfl rfl rfl rfl) ?_ | refine gdr (zaa (.inr rfl) rfl) ?_ | refine gdr (zak rfl rfl rfl rfl) ?_ | refine gdr (za6 rfl rfl rfl rfl) ?_ | refine gdr (zag rfl rfl rfl rfl rfl rfl) ?_ | refine gdr (zab rfl rfl rfl (hw) (by kernel_rfl)) ?_) | (refine hK _ ?_; clear hK K) | refine zad rfl ?_ | exact zap (show za8 _ _ _ = some _ by kernel_rfl) | refine zai rfl rfl ?_ | refine zac (fun K hK => ?_))
  rw [if_neg (by omega)]
  obtain ⟨w1, w2, w3, w4⟩ := zcx (id := id) (a := a) (l := l) h.l c0
  obtain ⟨l', t', e1, e2, e3, e4, e5⟩ := zqn (id := id) (a := a) (l := l) h c0
  rw [c0] at hw
  have b1 := h.l.g.bd
  have b2 := h.l.g.bp
  have f1 := w2.1
  have hre := zgp k.sz k.m (za1 k id a l).1 (za1 k id a l).2.1 a l ⟨by omega, by omega⟩ ha (by omega) (by omega) w1.1 h.l.g.s h.l.g.u
  rw [e1] at hre ⊢
  have hre : Ok 41 [zbm k.sz k.m, iu (za1 k id a l).1, ii (za1 k id a l).2.1, iu a, ii l] (.m (.ag (zbi t' (l' : Int) (atM k.sz k.m t' (idx a (l' : Int)))))) := hre
  have hun := zoq k.sz k.m t' (l' : Int) (atM k.sz k.m t' (idx a (l' : Int))) a ha h.l.g.s h.l.g.u (zdo ..) (by omega) (by omega) e5
  show Ok _ _ (.m (.c (.s (zbn k.sz k.m (l' : Int) (atM k.sz k.m t' (idx a (l' : Int))) (VaSpec.base a (l' : Int))).length 8 (flP (zbn k.sz k.m (l' : Int) (atM k.sz k.m t' (idx a (l' : Int))) (VaSpec.base a (l' : Int)))))))
  generalize zbn k.sz k.m (l' : Int) (atM k.sz k.m t' (idx a (l' : Int))) (VaSpec.base a (l' : Int)) = U0 at *
  generalize atM k.sz k.m t' (idx a (l' : Int)) = q at *
  generalize (za1 k id a l).1 = top at *
  generalize (za1 k id a l).2.1 = lv at *
  refine zaf 34 Tryz.func15 rfl rfl rfl rfl ?_ GG.to
  intro W A hG
  repeat (first | (refine zal rfl ?_; first | refine gdr (zaa (.inl rfl) rfl) ?_ | refine gnk 1 rfl (za2 tb rfl rfl rfl rfl rfl) ?_ | refine gnx 1 rfl (zbc tb rfl rfl rfl) rfl ?_ | refine gdr (zaa (.inr rfl) rfl) ?_ | refine gdr (zak rfl rfl rfl rfl) ?_ | refine gdr (za6 rfl rfl rfl rfl) ?_ | refine gdr (zag rfl rfl rfl rfl rfl rfl) ?_ | refine gdr (zab rfl rfl rfl (hw) (by kernel_rfl)) ?_ | refine gdr (zab rfl rfl rfl (hre) (by kernel_rfl)) ?_ | refine gdr (zab rfl rfl rfl (hun) (by kernel_rfl)) ?_) | (refine hK _ ?_; clear hK K) | refine zad rfl ?_ | refine za4 (by kernel_rfl) (by kernel_rfl) rfl ?_ | exact zap (show za8 _ _ _ = some _ by kernel_rfl) | refine zah rfl rfl ?_ | refine zao ?_ | refine zac (fun K hK => ?_))
def z4c (k : Kr) (a t l : Int) (q : Pte) (i : Int) : St := St.of [(2, .m (iu a)), (4, .m (.c (.p 4 0))), (8, .m (.c (.v (.slice none 0 0)))), (12, .m (.c (.p 12 0))), (13, .m (iu (VaSpec.sz i))), (14, .m (ii i))] [(4, .live (.box k.ce)), (12, .live (.box (zbi t l q)))]
theorem zv8 {n : Nat} {k : Kr} (h : InvT n k) (hn : n ≤ 90000) (id a l : Int) (ha : U a) : Ok 16 [.ag k.ce, ii id, iu a, ii l] (.m (.c (.s (inR k id a l).length 8 (flP (inR k id a l))))) := by
  have hw := zkh k id a l ha
  have hml := h.l.ml
  unfold inR
  by_cases c0 : (za1 k id a l).2.2 = 0
  rotate_left
  · rw [if_pos c0]
    generalize za1 k id a l = w at *
    refine zey (r := .m (.c (.v (.slice none 0 0)))) ?_ rfl (zmp 8)
    refine zaf 50 Tryz.func16 rfl rfl rfl rfl ?_ GG.to
    intro W A hG
    repeat (first | (refine zal rfl ?_; first | refine gdr (zaa (.inl rfl) rfl) ?_ | refine gnk 1 rfl (za2 tb rfl rfl rfl rfl rfl) ?_ | refine gdr (zaa (.inr rfl) rfl) ?_ | refine gdr (zak rfl rfl rfl rfl) ?_ | refine gdr (za6 rfl rfl rfl rfl) ?_ | refine gdr (zag rfl rfl rfl rfl rfl rfl) ?_ | refine gdr (zab rfl rfl rfl (hw) (by kernel_rfl)) ?_) | (refine hK _ ?_; clear hK K) | refine zad rfl ?_ | exact zap (show za8 _ _ _ = some _ by kernel_rfl) | refine zai rfl rfl ?_ | refine zac (fun K hK => ?_))
  rw [if_neg (by omega)]
  obtain ⟨w1, w2, w3, w4⟩ := zcx (id := id) (a := a) (l := l) h.l c0
  obtain ⟨l', t', e1, e2, e3, e4, e5⟩ := zqn (id := id) (a := a) (l := l) h c0
  rw [c0] at hw
  have b1 := h.l.g.bd
  have b2 := h.l.g.bp
  have f1 := w2.1
  obtain ⟨lw, hlw⟩ := Int.eq_ofNat_of_zero_le (show 0 ≤ (za1 k id a l).2.1 by omega)
  have hre0 := zgi k.sz k.m a l ha w1.1 h.l.g.s h.l.g.u (by omega) lw (za1 k id a l).1 (by omega) ⟨by omega, by omega⟩
  rw [← hlw] at hre0
  have e1' : za3 k.sz k.m a l lw (za1 k id a l).1 = (t', (l' : Int)) := by rw [← e1]; unfold zc0; rw [hlw, Int.toNat_natCast]
  rw [e1'] at hre0
  rw [e1]
  have hre : Ok 43 [zbm k.sz k.m, iu (za1 k id a l).1, ii (za1 k id a l).2.1, iu a, ii l] (.m (.ag (zbi t' (l' : Int) (atM k.sz k.m t' (idx a (l' : Int)))))) := hre0
  clear hre0
  have hbU := zop (l := (l' : Int)) ha (by omega) (by omega)
  have hun := zor k.sz k.m t' (l' : Int) (atM k.sz k.m t' (idx a (l' : Int))) (VaSpec.base a (l' : Int)) hbU h.l.g.s h.l.g.u (by omega) (zdo ..) (by omega) (by omega) e5
  show Ok _ _ (.m (.c (.s (zbn k.sz k.m (l' : Int) (atM k.sz k.m t' (idx a (l' : Int))) (VaSpec.base a (l' : Int))).length 8 (flP (zbn k.sz k.m (l' : Int) (atM k.sz k.m t' (idx a (l' : Int))) (VaSpec.base a (l' : Int)))))))
  have hbe : VaSpec.base a (l' : Int) = a - a % VaSpec.sz (l' : Int) := rfl
  generalize zbn k.sz k.m (l' : Int) (atM k.sz k.m t' (idx a (l' : Int))) (VaSpec.base a (l' : Int)) = U0 at *
  generalize atM k.sz k.m t' (idx a (l' : Int)) = q at *
  generalize (za1 k id a l).1 = top at *
  generalize (za1 k id a l).2.1 = lv at *
  rw [hbe] at hun hbU
  have ha0 := ha.1
  have ha1 := ha.2
  have hu0 := hbU.1
  have hu1 := hbU.2
  refine zaf 50 Tryz.func16 rfl rfl rfl rfl ?_ GG.to
  intro W A hG
  repeat (first | (refine zal rfl ?_; first | refine gdr (zaa (.inl rfl) rfl) ?_ | refine gnk 1 rfl (za2 tb rfl rfl rfl rfl rfl) ?_ | refine gnx 1 rfl (zbc tb rfl rfl rfl) rfl ?_ | refine gdr (zaa (.inr rfl) rfl) ?_ | refine gdr (zak rfl rfl rfl rfl) ?_ | refine gdr (za6 rfl rfl rfl rfl) ?_ | refine gdr (zag rfl rfl rfl rfl rfl rfl) ?_ | refine gdr (zae rfl rfl rfl rfl rfl) ?_ | refine gnk 1 rfl (zbe rfl rfl rfl rfl rfl rfl rfl) ?_ | refine gdr (zab rfl rfl rfl (hw) (by kernel_rfl)) ?_ | refine gdr (zab rfl rfl rfl (hre) (by kernel_rfl)) ?_) | (refine hK _ ?_; clear hK K) | refine zad rfl ?_ | refine zah rfl rfl ?_ | refine zam ?_ | refine zao ?_ | refine zac (fun K hK => ?_))
  refine za9 (α := Nat) (fun i => i ≤ l') (fun i => z4c k a t' (l' : Int) q (i : Int)) (fun i => l' - i) 0 (by omega) (zar _ _ ⟨by kernel_rfl, by kernel_rfl, by kernel_rfl, by kernel_rfl, by kernel_rfl, by kernel_rfl, trivial⟩ ⟨by kernel_rfl, by kernel_rfl, trivial⟩ (by kernel_rfl)) ?_
  intro i hi
  show Aw _ _ _ _ (z4c k a t' (l' : Int) q (i : Int))
  unfold z4c
  by_cases hlt : i < l'
  · rcases (by omega : i = 0 ∨ i = 1) with rfl | rfl
    · skip
      repeat (first | (refine zal rfl ?_; first | refine gdr (zaa (.inl rfl) rfl) ?_ | refine gnk 1 rfl (za2 tb rfl rfl rfl rfl rfl) ?_ | refine gnx 1 rfl (zbc tb rfl rfl rfl) rfl ?_ | refine gdr (zaa (.inr rfl) rfl) ?_ | refine gdr (za6 rfl rfl rfl rfl) ?_ | refine gdr (gar rfl rfl rfl rfl) ?_) | (refine hK _ ?_; clear hK K) | refine zad rfl ?_ | refine zai rfl rfl ?_ | refine zam ?_ | refine zao ?_ | refine zac (fun K hK => ?_))
      exact ⟨1, by omega, by omega, zar _ _ ⟨by kernel_rfl, by kernel_rfl, by kernel_rfl, by kernel_rfl, by kernel_rfl, by kernel_rfl, trivial⟩ ⟨by kernel_rfl, by kernel_rfl, trivial⟩ (by kernel_rfl)⟩
    · skip
      repeat (first | (refine zal rfl ?_; first | refine gdr (zaa (.inl rfl) rfl) ?_ | refine gnk 1 rfl (za2 tb rfl rfl rfl rfl rfl) ?_ | refine gnx 1 rfl (zbc tb rfl rfl rfl) rfl ?_ | refine gdr (zaa (.inr rfl) rfl) ?_ | refine gdr (za6 rfl rfl rfl rfl) ?_ | refine gdr (gar rfl rfl rfl rfl) ?_) | (refine hK _ ?_; clear hK K) | refine zad rfl ?_ | refine zai rfl rfl ?_ | refine zam ?_ | refine zao ?_ | refine zac (fun K hK => ?_))
      exact ⟨2, by omega, by omega, zar _ _ ⟨by kernel_rfl, by kernel_rfl, by kernel_rfl, by kernel_rfl, by kernel_rfl, by kernel_rfl, trivial⟩ ⟨by kernel_rfl, by kernel_rfl, trivial⟩ (by kernel_rfl)⟩
  · obtain rfl : i = l' := by omega
    have hzp := VaSpec.zk2 (i : Int)
    generalize VaSpec.sz (i : Int) = z at *
    repeat (first | (refine zal rfl ?_; first | refine gdr (zaa (.inl rfl) rfl) ?_ | refine gnk 1 rfl (za2 tb rfl rfl rfl rfl rfl) ?_ | refine gnx 1 rfl (zbc tb rfl rfl rfl) rfl ?_ | refine gdr (zaa (.inr rfl) rfl) ?_ | refine gdr (za6 rfl rfl rfl rfl) ?_ | refine gdr (gar rfl rfl rfl rfl) ?_ | refine gdr (zb1 rfl rfl rfl rfl (by omega) (by omega)) ?_ | refine gdr (zab rfl rfl rfl (hun) (by kernel_rfl)) ?_) | (refine hK _ ?_; clear hK K) | (rename_i K1 hK1; refine hK1 _ ?_; clear hK hK1; clear K) | refine zad rfl ?_ | refine za4 (by kernel_rfl) (by kernel_rfl) rfl ?_ | exact zap (show za8 _ _ _ = some _ by kernel_rfl) | refine zah rfl rfl ?_ | refine zba ?_ | refine zac (fun K hK => ?_))
def z1b (k : Kr) (id n : Int) (l : List Pg) (i m : Nat) (vs : List Value) : St := St.of [(6, .m (.c (.v (.slice none 0 0)))), (7, .m (.c (.v (.func (.func 45) #[] #[])))), (10, .m (.c (.o 1000))), (30, .m (.c (.s l.length 8 (flP l)))), (31, .m (ii l.length)), (32, .m (ii i))] [(1000, .live (.row 80 4 m vs))]
theorem z1c (k : Kr) (id : Int) (l : List Pg) (hid : id = -1) (hl : l.length ≤ 134217728) : Ok 17 [.ag k.ce, ii id, .c (.s l.length 8 (flP l))] (.m (.c (.s (zfl k id l).length 4 (flF (zfl k id l))))) := by
  by_cases c : 16 < l.length
  · have e : zfl k id l = [⟨false, 0, false, 0⟩] := by unfold zfl ztc; rw [if_pos c, if_pos hid]
    rw [e]
    refine zaf 45 Tryz.func17 rfl rfl rfl rfl ?_ GG.to
    intro W A hG
    repeat (first | (refine zal rfl ?_; first | refine gdr (zaa (.inl rfl) rfl) ?_ | refine gnk 1 rfl (za2 tb rfl rfl rfl rfl rfl) ?_ | refine gdr (zaa (.inr rfl) rfl) ?_ | refine gdr (za6 rfl rfl rfl rfl) ?_ | refine gdr (zag rfl rfl rfl rfl rfl rfl) ?_ | refine gdr (zae rfl rfl rfl rfl rfl) ?_ | refine gnk 1 rfl (zbe rfl rfl rfl rfl rfl rfl rfl) ?_ | refine gdr (zan rfl rfl rfl rfl) ?_ | refine gdr (zaq rfl rfl rfl rfl) ?_ | refine gdr (zax rfl rfl rfl rfl rfl rfl rfl rfl rfl rfl rfl) ?_) | (refine hK _ ?_; clear hK K) | refine zad rfl ?_ | exact zap (show za8 _ _ _ = some _ by kernel_rfl) | refine zai rfl rfl ?_ | refine zah rfl rfl ?_ | refine zao ?_ | refine zac (fun K hK => ?_))
  · have e : zfl k id l = l.map (zb8 id (zct k id).asid) := by unfold zfl; rw [if_neg c]
    rw [e]
    obtain ⟨N, hN⟩ : ∃ N, N = (l.map (zb8 id (zct k id).asid)).length := ⟨_, rfl⟩
    obtain ⟨XS, hXS⟩ : ∃ XS, XS = flF (l.map (zb8 id (zct k id).asid)) := ⟨_, rfl⟩
    rw [← hN, ← hXS]
    refine zaf 45 Tryz.func17 rfl rfl rfl rfl ?_ GG.to
    intro W A hG
    repeat (first | (refine zal rfl ?_; first | refine gdr (zaa (.inl rfl) rfl) ?_ | refine gdr (zaa (.inr rfl) rfl) ?_ | refine gdr (za6 rfl rfl rfl rfl) ?_ | refine gdr (zag rfl rfl rfl rfl rfl rfl) ?_ | refine gdr (zae rfl rfl rfl rfl rfl) ?_ | refine gnk 1 rfl (zbe rfl rfl rfl rfl rfl rfl rfl) ?_ | refine gdr (zan rfl rfl rfl rfl) ?_ | refine gdr (zaq rfl rfl rfl rfl) ?_) | (refine hK _ ?_; clear hK K) | refine zad rfl ?_ | refine zah rfl rfl ?_ | refine zam ?_ | refine zao ?_ | refine zac (fun K hK => ?_))
    refine za9 (α := Nat × Nat × List Value) (fun q => q.1 ≤ l.length ∧ q.2.1 = ((l.take q.1).map (zb8 id (zct k id).asid)).length ∧ q.2.2 = flF ((l.take q.1).map (zb8 id (zct k id).asid))) (fun q => z1b k id (zct k id).asid l q.1 q.2.1 q.2.2) (fun q => l.length - q.1) (0, 0, []) ⟨Nat.zero_le _, rfl, rfl⟩ (Sub.trans (zd7 10 1000 80 4 rfl rfl) (zar _ _ ⟨by kernel_rfl, by kernel_rfl, by kernel_rfl, by kernel_rfl, by kernel_rfl, by kernel_rfl, trivial⟩ ⟨by kernel_rfl, trivial⟩ (by kernel_rfl))) ?_
    rintro ⟨i, m, vs⟩ ⟨x1, x2, x3⟩
    have g1 : i ≤ l.length := x1
    have g2 : m = ((l.take i).map (zb8 id (zct k id).asid)).length := x2
    have g3 : vs = flF ((l.take i).map (zb8 id (zct k id).asid)) := x3
    show Aw _ _ _ _ (z1b k id (zct k id).asid l i m vs)
    unfold z1b
    by_cases hlt : i < l.length
    · obtain ⟨p, hp⟩ : ∃ p, l[i]? = some p := ⟨_, List.getElem?_eq_getElem hlt⟩
      have hx : ((flP l).drop (i * 8)).take 8 = [.int .u64 p.va, .int .u64 p.pa, .int .i64 p.lev, .bool p.r, .bool p.w, .bool p.x, .bool p.u, .bool p.d] := zok hp
      have hm : m ≤ i := by rw [g2, List.length_map, List.length_take]; omega
      have et : (l.take (i + 1)).map (zb8 id (zct k id).asid) = (l.take i).map (zb8 id (zct k id).asid) ++ [(⟨true, p.va, false, 0⟩ : Fe)] := by
        rw [List.take_add_one, hp, List.map_append]
        show _ ++ [zb8 id (zct k id).asid p] = _
        unfold zb8
        rw [if_pos hid]
      have hn1 : m + 1 = ((l.take (i + 1)).map (zb8 id (zct k id).asid)).length := by rw [et, List.length_append, ← g2]; rfl
      have hv1 : vs ++ ((⟨true, p.va, false, 0⟩ : Fe)).vs = flF ((l.take (i + 1)).map (zb8 id (zct k id).asid)) := by
        rw [et, g3]
        unfold flF
        rw [List.flatMap_append]
        simp
      clear g2 g3 x2 x3 hN hXS
      repeat (first | (refine zal rfl ?_; first | refine gdr (zaa (.inl rfl) rfl) ?_ | refine gnk 1 rfl (za2 tb rfl rfl rfl rfl rfl) ?_ | refine gnx 1 rfl (zbc tb rfl rfl rfl) rfl ?_ | refine gdr (za6 rfl rfl rfl rfl) ?_ | refine gdr (zae rfl rfl rfl rfl rfl) ?_ | refine gnk 1 rfl (zbe rfl rfl rfl rfl rfl rfl rfl) ?_ | refine gnx 3 rfl (zau tb rfl rfl rfl rfl (by first | kernel_rfl | rfl)) rfl ?_ | refine gnx 4 rfl (zav rfl rfl rfl rfl rfl rfl (by omega) (by omega) _ (by assumption)) rfl ?_ | refine gdr (zax rfl rfl rfl rfl rfl rfl rfl rfl rfl rfl rfl) ?_ | refine gdr (zf3 rfl rfl rfl rfl (zx9 p.va) rfl) ?_) | (refine hK _ ?_; clear hK K) | refine zad rfl ?_ | refine zai rfl rfl ?_ | refine zam ?_ | refine zao ?_ | refine zac (fun K hK => ?_))
      refine zal rfl ?_
      refine zee (zbd rfl rfl rfl rfl rfl rfl rfl rfl rfl rfl rfl rfl rfl (by omega)) (by kernel_rfl) ?_
      repeat (first | (refine zal rfl ?_; first | refine gdr (zaa (.inl rfl) rfl) ?_ | refine gdr (zaa (.inr rfl) rfl) ?_ | refine gdr (gar rfl rfl rfl rfl) ?_) | (refine hK _ ?_; clear hK K) | refine zad rfl ?_)
      exact ⟨(i + 1, m + 1, vs ++ ((⟨true, p.va, false, 0⟩ : Fe)).vs), ⟨by show i + 1 ≤ l.length; omega, hn1, hv1⟩, by show l.length - (i + 1) < l.length - i; omega, Sub.trans (zar [(6, .m (.c (.v (.slice none 0 0)))), (7, .m (.c (.v (.func (.func 45) #[] #[])))), (10, .m (.c (.o 42))), (30, .m (.c (.s l.length 8 (flP l)))), (31, .m (ii l.length)), (32, .m (ii ((i + 1 : Nat) : Int)))] [(42, .live (.row 80 4 (m + 1) (vs ++ (⟨true, p.va, false, 0⟩ : Fe).vs)))] ⟨by kernel_rfl, by kernel_rfl, by kernel_rfl, by kernel_rfl, by kernel_rfl, by kernel_rfl, trivial⟩ ⟨by kernel_rfl, trivial⟩ (by kernel_rfl)) (Sub.trans (zcp (b := 42) (b' := 1000) rfl rfl) (zar _ _ ⟨by kernel_rfl, by kernel_rfl, by kernel_rfl, by kernel_rfl, by kernel_rfl, by kernel_rfl, trivial⟩ ⟨by kernel_rfl, trivial⟩ (by kernel_rfl)))⟩
    · have ei : i = l.length := by omega
      rw [ei, List.take_length] at g2 g3
      obtain rfl : N = m := by rw [hN, g2]
      obtain rfl : XS = vs := by rw [hXS, g3]
      repeat (first | (refine zal rfl ?_; first | refine gdr (zaa (.inl rfl) rfl) ?_ | refine gdr (zaa (.inr rfl) rfl) ?_ | refine gdr (za6 rfl rfl rfl rfl) ?_) | (refine hK _ ?_; clear hK K) | (rename_i K1 hK1; refine hK1 _ ?_; clear hK hK1; clear K) | refine zad rfl ?_ | exact zap (show za8 _ _ _ = some _ by kernel_rfl) | refine zah rfl rfl ?_ | refine zba ?_ | refine zac (fun K hK => ?_))
def z1d (k : Kr) (id n : Int) (l : List Pg) (i m : Nat) (vs : List Value) : St := St.of [(6, .m (.c (.v (.slice none 0 0)))), (7, .m (.c (.cl 46 [9]))), (10, .m (.c (.o 1000))), (30, .m (.c (.s l.length 8 (flP l)))), (31, .m (ii l.length)), (32, .m (ii i))] [(9, .live (.box [cu n])), (1000, .live (.row 80 4 m vs))]
theorem zv9 (k : Kr) (id : Int) (l : List Pg) (hid : id ≠ -1) (hlv : zb2 k id = true) (hl : l.length ≤ 134217728) : Ok 17 [.ag k.ce, ii id, .c (.s l.length 8 (flP l))] (.m (.c (.s (zfl k id l).length 4 (flF (zfl k id l))))) := by
  obtain ⟨y0, y1, y2, y3⟩ := zft hlv
  have hxs := zld y2
  by_cases c : 16 < l.length
  · have e : zfl k id l = [⟨false, 0, true, (zct k id).asid⟩] := by unfold zfl ztc; rw [if_pos c, if_neg hid]
    rw [e]
    refine zaf 45 Tryz.func17 rfl rfl rfl rfl ?_ GG.to
    intro W A hG
    repeat (first | (refine zal rfl ?_; first | refine gdr (zaa (.inl rfl) rfl) ?_ | refine gnk 1 rfl (za2 tb rfl rfl rfl rfl rfl) ?_ | refine gnx 1 rfl (zbc tb rfl rfl rfl) rfl ?_ | refine gdr (zaa (.inr rfl) rfl) ?_ | refine gdr (za6 rfl rfl rfl rfl) ?_ | refine gdr (zag rfl rfl rfl rfl rfl rfl) ?_ | refine gdr (zae rfl rfl rfl rfl rfl) ?_ | refine gnk 1 rfl (zbe rfl rfl rfl rfl rfl rfl rfl) ?_ | refine gdr (zan rfl rfl rfl rfl) ?_ | refine gnx 3 rfl (zau tb rfl rfl rfl rfl (by first | kernel_rfl | rfl)) rfl ?_ | refine gnx 3 rfl (za0 tb rfl rfl rfl rfl) rfl ?_ | refine gdr (zaq rfl rfl rfl rfl) ?_ | refine gnx 4 rfl (zav rfl rfl rfl rfl rfl rfl (by omega) (by omega) _ (by assumption)) rfl ?_ | refine gdr (zax rfl rfl rfl rfl rfl rfl rfl rfl rfl rfl rfl) ?_ | refine gdr (zcm rfl rfl rfl) ?_ | refine gdr (zab rfl rfl rfl (zma (zct k id).asid) (by kernel_rfl)) ?_) | (refine hK _ ?_; clear hK K) | refine zad rfl ?_ | exact zap (show za8 _ _ _ = some _ by kernel_rfl) | refine zai rfl rfl ?_ | refine zac (fun K hK => ?_))
  · have e : zfl k id l = l.map (zb8 id (zct k id).asid) := by unfold zfl; rw [if_neg c]
    rw [e]
    obtain ⟨N, hN⟩ : ∃ N, N = (l.map (zb8 id (zct k id).asid)).length := ⟨_, rfl⟩
    obtain ⟨XS, hXS⟩ : ∃ XS, XS = flF (l.map (zb8 id (zct k id).asid)) := ⟨_, rfl⟩
    rw [← hN, ← hXS]
    refine zaf 45 Tryz.func17 rfl rfl rfl rfl ?_ GG.to
    intro W A hG
    repeat (first | (refine zal rfl ?_; first | refine gdr (zaa (.inl rfl) rfl) ?_ | refine gnk 1 rfl (za2 tb rfl rfl rfl rfl rfl) ?_ | refine gnx 1 rfl (zbc tb rfl rfl rfl) rfl ?_ | refine gdr (zaa (.inr rfl) rfl) ?_ | refine gdr (za6 rfl rfl rfl rfl) ?_ | refine gdr (zag rfl rfl rfl rfl rfl rfl) ?_ | refine gdr (zae rfl rfl rfl rfl rfl) ?_ | refine gnk 1 rfl (zbe rfl rfl rfl rfl rfl rfl rfl) ?_ | refine gdr (zan rfl rfl rfl rfl) ?_ | refine gnx 3 rfl (zau tb rfl rfl rfl rfl (by first | kernel_rfl | rfl)) rfl ?_ | refine gnx 3 rfl (za0 tb rfl rfl rfl rfl) rfl ?_ | refine gdr (zaq rfl rfl rfl rfl) ?_ | refine gnx 4 rfl (zav rfl rfl rfl rfl rfl rfl (by omega) (by omega) _ (by assumption)) rfl ?_ | refine gdr (zcm rfl rfl rfl) ?_ | refine gdr (zab rfl rfl rfl (zma (zct k id).asid) (by kernel_rfl)) ?_) | (refine hK _ ?_; clear hK K) | refine zad rfl ?_ | refine zai rfl rfl ?_ | refine zah rfl rfl ?_ | refine zam ?_ | refine zao ?_ | refine zac (fun K hK => ?_))
    refine za9 (α := Nat × Nat × List Value) (fun q => q.1 ≤ l.length ∧ q.2.1 = ((l.take q.1).map (zb8 id (zct k id).asid)).length ∧ q.2.2 = flF ((l.take q.1).map (zb8 id (zct k id).asid))) (fun q => z1d k id (zct k id).asid l q.1 q.2.1 q.2.2) (fun q => l.length - q.1) (0, 0, []) ⟨Nat.zero_le _, rfl, rfl⟩ (Sub.trans (zd7 10 1000 80 4 rfl rfl) (zar _ _ ⟨by kernel_rfl, by kernel_rfl, by kernel_rfl, by kernel_rfl, by kernel_rfl, by kernel_rfl, trivial⟩ ⟨by kernel_rfl, by kernel_rfl, trivial⟩ (by kernel_rfl))) ?_
    rintro ⟨i, m, vs⟩ ⟨x1, x2, x3⟩
    have g1 : i ≤ l.length := x1
    have g2 : m = ((l.take i).map (zb8 id (zct k id).asid)).length := x2
    have g3 : vs = flF ((l.take i).map (zb8 id (zct k id).asid)) := x3
    show Aw _ _ _ _ (z1d k id (zct k id).asid l i m vs)
    unfold z1d
    by_cases hlt : i < l.length
    · obtain ⟨p, hp⟩ : ∃ p, l[i]? = some p := ⟨_, List.getElem?_eq_getElem hlt⟩
      have hx : ((flP l).drop (i * 8)).take 8 = [.int .u64 p.va, .int .u64 p.pa, .int .i64 p.lev, .bool p.r, .bool p.w, .bool p.x, .bool p.u, .bool p.d] := zok hp
      have hm : m ≤ i := by rw [g2, List.length_map, List.length_take]; omega
      have et : (l.take (i + 1)).map (zb8 id (zct k id).asid) = (l.take i).map (zb8 id (zct k id).asid) ++ [(⟨true, p.va, true, (zct k id).asid⟩ : Fe)] := by
        rw [List.take_add_one, hp, List.map_append]
        show _ ++ [zb8 id (zct k id).asid p] = _
        unfold zb8
        rw [if_neg hid]
      have hn1 : m + 1 = ((l.take (i + 1)).map (zb8 id (zct k id).asid)).length := by rw [et, List.length_append, ← g2]; rfl
      have hv1 : vs ++ ((⟨true, p.va, true, (zct k id).asid⟩ : Fe)).vs = flF ((l.take (i + 1)).map (zb8 id (zct k id).asid)) := by
        rw [et, g3]
        unfold flF
        rw [List.flatMap_append]
        simp
      clear g2 g3 x2 x3 hN hXS
      repeat (first | (refine zal rfl ?_; first | refine gdr (zaa (.inl rfl) rfl) ?_ | refine gnk 1 rfl (za2 tb rfl rfl rfl rfl rfl) ?_ | refine gnx 1 rfl (zbc tb rfl rfl rfl) rfl ?_ | refine gdr (za6 rfl rfl rfl rfl) ?_ | refine gdr (zae rfl rfl rfl rfl rfl) ?_ | refine gnk 1 rfl (zbe rfl rfl rfl rfl rfl rfl rfl) ?_ | refine gnx 3 rfl (zau tb rfl rfl rfl rfl (by first | kernel_rfl | rfl)) rfl ?_ | refine gnx 4 rfl (zav rfl rfl rfl rfl rfl rfl (by omega) (by omega) _ (by assumption)) rfl ?_ | refine gdr (zax rfl rfl rfl rfl rfl rfl rfl rfl rfl rfl rfl) ?_ | refine gdr (zcg (fun _ => 9) (z1a (zct k id).asid p.va) rfl rfl rfl (by kernel_rfl) rfl rfl ⟨rfl, trivial⟩ (by kernel_rfl)) ?_) | (refine hK _ ?_; clear hK K) | refine zad rfl ?_ | refine zai rfl rfl ?_ | refine zam ?_ | refine zao ?_ | refine zac (fun K hK => ?_))
      refine zal rfl ?_
      refine zee (zbd rfl rfl rfl rfl rfl rfl rfl rfl rfl rfl rfl rfl rfl (by omega)) (by kernel_rfl) ?_
      repeat (first | (refine zal rfl ?_; first | refine gdr (zaa (.inl rfl) rfl) ?_ | refine gdr (zaa (.inr rfl) rfl) ?_ | refine gdr (gar rfl rfl rfl rfl) ?_) | (refine hK _ ?_; clear hK K) | refine zad rfl ?_)
      exact ⟨(i + 1, m + 1, vs ++ ((⟨true, p.va, true, (zct k id).asid⟩ : Fe)).vs), ⟨by show i + 1 ≤ l.length; omega, hn1, hv1⟩, by show l.length - (i + 1) < l.length - i; omega, Sub.trans (zar [(6, .m (.c (.v (.slice none 0 0)))), (7, .m (.c (.cl 46 [9]))), (10, .m (.c (.o 42))), (30, .m (.c (.s l.length 8 (flP l)))), (31, .m (ii l.length)), (32, .m (ii ((i + 1 : Nat) : Int)))] [(9, .live (.box [cu (zct k id).asid])), (42, .live (.row 80 4 (m + 1) (vs ++ (⟨true, p.va, true, (zct k id).asid⟩ : Fe).vs)))] ⟨by kernel_rfl, by kernel_rfl, by kernel_rfl, by kernel_rfl, by kernel_rfl, by kernel_rfl, trivial⟩ ⟨by kernel_rfl, by kernel_rfl, trivial⟩ (by kernel_rfl)) (Sub.trans (zcp (b := 42) (b' := 1000) rfl rfl) (zar _ _ ⟨by kernel_rfl, by kernel_rfl, by kernel_rfl, by kernel_rfl, by kernel_rfl, by kernel_rfl, trivial⟩ ⟨by kernel_rfl, by kernel_rfl, trivial⟩ (by kernel_rfl)))⟩
    · have ei : i = l.length := by omega
      rw [ei, List.take_length] at g2 g3
      obtain rfl : N = m := by rw [hN, g2]
      obtain rfl : XS = vs := by rw [hXS, g3]
      repeat (first | (refine zal rfl ?_; first | refine gdr (zaa (.inl rfl) rfl) ?_ | refine gdr (zaa (.inr rfl) rfl) ?_ | refine gdr (za6 rfl rfl rfl rfl) ?_) | (refine hK _ ?_; clear hK K) | (rename_i K1 hK1; refine hK1 _ ?_; clear hK hK1; clear K) | refine zad rfl ?_ | exact zap (show za8 _ _ _ = some _ by kernel_rfl) | refine zah rfl rfl ?_ | refine zba ?_ | refine zac (fun K hK => ?_))
def z1e (k : Kr) (id n : Int) (l : List Pg) (i m : Nat) (vs : List Value) : St := St.of [(1, .m (ii id)), (2, .m (.c (.s l.length 8 (flP l)))), (3, .m (.c (.p 3 0))), (6, .m (.c (.v (.slice none 0 0)))), (7, .m (.c (.o 1000))), (8, .m (ii i))] [(3, .live (.box k.ce)), (1000, .live (.row 80 4 m vs))]
theorem z1f (k : Kr) (id : Int) (l : List Pg) (hid : id = -1) (hl : l.length ≤ 134217728) : Ok 19 [.ag k.ce, ii id, .c (.s l.length 8 (flP l))] (.m (.c (.s (zfl k id l).length 4 (flF (zfl k id l))))) := by
  by_cases c : 16 < l.length
  · have e : zfl k id l = [⟨false, 0, false, 0⟩] := by unfold zfl ztc; rw [if_pos c, if_pos hid]
    rw [e]
    refine zaf 57 Tryz.func19 rfl rfl rfl rfl ?_ GG.to
    intro W A hG
    repeat (first | (refine zal rfl ?_; first | refine gdr (zaa (.inl rfl) rfl) ?_ | refine gdr (zaa (.inr rfl) rfl) ?_ | refine gdr (zaj rfl rfl rfl) ?_ | refine gdr (za6 rfl rfl rfl rfl) ?_ | refine gdr (zag rfl rfl rfl rfl rfl rfl) ?_ | refine gdr (zan rfl rfl rfl rfl) ?_ | refine gdr (zaq rfl rfl rfl rfl) ?_ | refine gdr (zax rfl rfl rfl rfl rfl rfl rfl rfl rfl rfl rfl) ?_) | (refine hK _ ?_; clear hK K) | refine zad rfl ?_ | exact zap (show za8 _ _ _ = some _ by kernel_rfl) | refine zai rfl rfl ?_ | refine zac (fun K hK => ?_))
  · have e : zfl k id l = l.map (zb8 id (zct k id).asid) := by unfold zfl; rw [if_neg c]
    rw [e]
    obtain ⟨N, hN⟩ : ∃ N, N = (l.map (zb8 id (zct k id).asid)).length := ⟨_, rfl⟩
    obtain ⟨XS, hXS⟩ : ∃ XS, XS = flF (l.map (zb8 id (zct k id).asid)) := ⟨_, rfl⟩
    rw [← hN, ← hXS]
    refine zaf 57 Tryz.func19 rfl rfl rfl rfl ?_ GG.to
    intro W A hG
    repeat (first | (refine zal rfl ?_; first | refine gdr (zaw rfl) ?_ | refine gdr (zaa (.inl rfl) rfl) ?_ | refine gdr (zaa (.inr rfl) rfl) ?_ | refine gdr (zaj rfl rfl rfl) ?_ | refine gdr (za6 rfl rfl rfl rfl) ?_ | refine gdr (zag rfl rfl rfl rfl rfl rfl) ?_ | refine gdr (zan rfl rfl rfl rfl) ?_) | (refine hK _ ?_; clear hK K) | refine zad rfl ?_ | refine zah rfl rfl ?_ | refine zam ?_ | refine zao ?_ | refine zac (fun K hK => ?_))
    refine za9 (α := Nat × Nat × List Value) (fun q => q.1 ≤ l.length ∧ q.2.1 = ((l.take q.1).map (zb8 id (zct k id).asid)).length ∧ q.2.2 = flF ((l.take q.1).map (zb8 id (zct k id).asid))) (fun q => z1e k id (zct k id).asid l q.1 q.2.1 q.2.2) (fun q => l.length - q.1) (0, 0, []) ⟨Nat.zero_le _, rfl, rfl⟩ (Sub.trans (zd7 7 1000 80 4 rfl rfl) (zar _ _ ⟨by kernel_rfl, by kernel_rfl, by kernel_rfl, by kernel_rfl, by kernel_rfl, by kernel_rfl, trivial⟩ ⟨by kernel_rfl, by kernel_rfl, trivial⟩ (by kernel_rfl))) ?_
    rintro ⟨i, m, vs⟩ ⟨x1, x2, x3⟩
    have g1 : i ≤ l.length := x1
    have g2 : m = ((l.take i).map (zb8 id (zct k id).asid)).length := x2
    have g3 : vs = flF ((l.take i).map (zb8 id (zct k id).asid)) := x3
    show Aw _ _ _ _ (z1e k id (zct k id).asid l i m vs)
    unfold z1e
    by_cases hlt : i < l.length
    · obtain ⟨p, hp⟩ : ∃ p, l[i]? = some p := ⟨_, List.getElem?_eq_getElem hlt⟩
      have hx : ((flP l).drop (i * 8)).take 8 = [.int .u64 p.va, .int .u64 p.pa, .int .i64 p.lev, .bool p.r, .bool p.w, .bool p.x, .bool p.u, .bool p.d] := zok hp
      have hm : m ≤ i := by rw [g2, List.length_map, List.length_take]; omega
      have et : (l.take (i + 1)).map (zb8 id (zct k id).asid) = (l.take i).map (zb8 id (zct k id).asid) ++ [(⟨true, p.va, false, 0⟩ : Fe)] := by
        rw [List.take_add_one, hp, List.map_append]
        show _ ++ [zb8 id (zct k id).asid p] = _
        unfold zb8
        rw [if_pos hid]
      have hn1 : m + 1 = ((l.take (i + 1)).map (zb8 id (zct k id).asid)).length := by rw [et, List.length_append, ← g2]; rfl
      have hv1 : vs ++ ((⟨true, p.va, false, 0⟩ : Fe)).vs = flF ((l.take (i + 1)).map (zb8 id (zct k id).asid)) := by
        rw [et, g3]
        unfold flF
        rw [List.flatMap_append]
        simp
      clear g2 g3 x2 x3 hN hXS
      repeat (first | (refine zal rfl ?_; first | refine gdr (zaa (.inl rfl) rfl) ?_ | refine gnk 1 rfl (za2 tb rfl rfl rfl rfl rfl) ?_ | refine gdr (za6 rfl rfl rfl rfl) ?_ | refine gdr (zae rfl rfl rfl rfl rfl) ?_ | refine gnk 1 rfl (zbe rfl rfl rfl rfl rfl rfl rfl) ?_ | refine gdr (zan rfl rfl rfl rfl) ?_ | refine gnx 3 rfl (zau tb rfl rfl rfl rfl (by first | kernel_rfl | rfl)) rfl ?_ | refine gnx 3 rfl (za0 tb rfl rfl rfl rfl) rfl ?_ | refine gdr (zaq rfl rfl rfl rfl) ?_ | refine gnx 4 rfl (zav rfl rfl rfl rfl rfl rfl (by omega) (by omega) _ (by assumption)) rfl ?_ | refine gdr (zax rfl rfl rfl rfl rfl rfl rfl rfl rfl rfl rfl) ?_) | (refine hK _ ?_; clear hK K) | refine zad rfl ?_ | refine zai rfl rfl ?_ | refine zah rfl rfl ?_ | refine zam ?_ | refine zao ?_ | refine zac (fun K hK => ?_))
      refine zal rfl ?_
      refine zee (zbd rfl rfl rfl rfl rfl rfl rfl rfl rfl rfl rfl rfl rfl (by omega)) (by kernel_rfl) ?_
      repeat (first | (refine zal rfl ?_; first | refine gdr (zaa (.inl rfl) rfl) ?_ | refine gdr (zaa (.inr rfl) rfl) ?_ | refine gdr (gar rfl rfl rfl rfl) ?_) | (refine hK _ ?_; clear hK K) | refine zad rfl ?_)
      exact ⟨(i + 1, m + 1, vs ++ ((⟨true, p.va, false, 0⟩ : Fe)).vs), ⟨by show i + 1 ≤ l.length; omega, hn1, hv1⟩, by show l.length - (i + 1) < l.length - i; omega, Sub.trans (zar [(1, .m (ii id)), (2, .m (.c (.s l.length 8 (flP l)))), (3, .m (.c (.p 3 0))), (6, .m (.c (.v (.slice none 0 0)))), (7, .m (.c (.o 55))), (8, .m (ii ((i + 1 : Nat) : Int)))] [(3, .live (.box k.ce)), (55, .live (.row 80 4 (m + 1) (vs ++ (⟨true, p.va, false, 0⟩ : Fe).vs)))] ⟨by kernel_rfl, by kernel_rfl, by kernel_rfl, by kernel_rfl, by kernel_rfl, by kernel_rfl, trivial⟩ ⟨by kernel_rfl, by kernel_rfl, trivial⟩ (by kernel_rfl)) (Sub.trans (zcp (b := 55) (b' := 1000) rfl rfl) (zar _ _ ⟨by kernel_rfl, by kernel_rfl, by kernel_rfl, by kernel_rfl, by kernel_rfl, by kernel_rfl, trivial⟩ ⟨by kernel_rfl, by kernel_rfl, trivial⟩ (by kernel_rfl)))⟩
    · have ei : i = l.length := by omega
      rw [ei, List.take_length] at g2 g3
      obtain rfl : N = m := by rw [hN, g2]
      obtain rfl : XS = vs := by rw [hXS, g3]
      repeat (first | (refine zal rfl ?_; first | refine gdr (zaa (.inl rfl) rfl) ?_ | refine gdr (zaa (.inr rfl) rfl) ?_ | refine gdr (za6 rfl rfl rfl rfl) ?_ | refine gdr (zan rfl rfl rfl rfl) ?_) | (refine hK _ ?_; clear hK K) | (rename_i K1 hK1; refine hK1 _ ?_; clear hK hK1; clear K) | refine zad rfl ?_ | exact zap (show za8 _ _ _ = some _ by kernel_rfl) | refine zah rfl rfl ?_ | refine zba ?_ | refine zac (fun K hK => ?_))
def z1g (k : Kr) (id n : Int) (l : List Pg) (i m : Nat) (vs : List Value) : St := St.of [(1, .m (ii id)), (2, .m (.c (.s l.length 8 (flP l)))), (3, .m (.c (.p 3 0))), (6, .m (.c (.v (.slice none 0 0)))), (7, .m (.c (.o 1000))), (8, .m (ii i))] [(3, .live (.box k.ce)), (1000, .live (.row 80 4 m vs))]
theorem z1h (k : Kr) (id : Int) (l : List Pg) (hid : id ≠ -1) (hlv : zb2 k id = true) (hl : l.length ≤ 134217728) : Ok 19 [.ag k.ce, ii id, .c (.s l.length 8 (flP l))] (.m (.c (.s (zfl k id l).length 4 (flF (zfl k id l))))) := by
  obtain ⟨y0, y1, y2, y3⟩ := zft hlv
  have hxs := zld y2
  by_cases c : 16 < l.length
  · have e : zfl k id l = [⟨false, 0, true, (zct k id).asid⟩] := by unfold zfl ztc; rw [if_pos c, if_neg hid]
    rw [e]
    refine zaf 57 Tryz.func19 rfl rfl rfl rfl ?_ GG.to
    intro W A hG
    repeat (first | (refine zal rfl ?_; first | refine gdr (zaa (.inl rfl) rfl) ?_ | refine gnk 1 rfl (za2 tb rfl rfl rfl rfl rfl) ?_ | refine gnx 1 rfl (zbc tb rfl rfl rfl) rfl ?_ | refine gdr (zaa (.inr rfl) rfl) ?_ | refine gdr (zaj rfl rfl rfl) ?_ | refine gdr (za6 rfl rfl rfl rfl) ?_ | refine gdr (zag rfl rfl rfl rfl rfl rfl) ?_ | refine gdr (zan rfl rfl rfl rfl) ?_ | refine gnx 3 rfl (zau tb rfl rfl rfl rfl (by first | kernel_rfl | rfl)) rfl ?_ | refine gnx 3 rfl (za0 tb rfl rfl rfl rfl) rfl ?_ | refine gdr (zaq rfl rfl rfl rfl) ?_ | refine gnx 4 rfl (zav rfl rfl rfl rfl rfl rfl (by omega) (by omega) _ (by assumption)) rfl ?_ | refine gdr (zax rfl rfl rfl rfl rfl rfl rfl rfl rfl rfl rfl) ?_) | (refine hK _ ?_; clear hK K) | refine zad rfl ?_ | exact zap (show za8 _ _ _ = some _ by kernel_rfl) | refine zai rfl rfl ?_ | refine zah rfl rfl ?_ | refine zao ?_ | refine zac (fun K hK => ?_))
  · have e : zfl k id l = l.map (zb8 id (zct k id).asid) := by unfold zfl; rw [if_neg c]
    rw [e]
    obtain ⟨N, hN⟩ : ∃ N, N = (l.map (zb8 id (zct k id).asid)).length := ⟨_, rfl⟩
    obtain ⟨XS, hXS⟩ : ∃ XS, XS = flF (l.map (zb8 id (zct k id).asid)) := ⟨_, rfl⟩
    rw [← hN, ← hXS]
    refine zaf 57 Tryz.func19 rfl rfl rfl rfl ?_ GG.to
    intro W A hG
    repeat (first | (refine zal rfl ?_; first | refine gdr (zaw rfl) ?_ | refine gdr (zaa (.inl rfl) rfl) ?_ | refine gdr (zaa (.inr rfl) rfl) ?_ | refine gdr (zaj rfl rfl rfl) ?_ | refine gdr (za6 rfl rfl rfl rfl) ?_ | refine gdr (zag rfl rfl rfl rfl rfl rfl) ?_ | refine gdr (zan rfl rfl rfl rfl) ?_) | (refine hK _ ?_; clear hK K) | refine zad rfl ?_ | refine zah rfl rfl ?_ | refine zam ?_ | refine zao ?_ | refine zac (fun K hK => ?_))
    refine za9 (α := Nat × Nat × List Value) (fun q => q.1 ≤ l.length ∧ q.2.1 = ((l.take q.1).map (zb8 id (zct k id).asid)).length ∧ q.2.2 = flF ((l.take q.1).map (zb8 id (zct k id).asid))) (fun q => z1g k id (zct k id).asid l q.1 q.2.1 q.2.2) (fun q => l.length - q.1) (0, 0, []) ⟨Nat.zero_le _, rfl, rfl⟩ (Sub.trans (zd7 7 1000 80 4 rfl rfl) (zar _ _ ⟨by kernel_rfl, by kernel_rfl, by kernel_rfl, by kernel_rfl, by kernel_rfl, by kernel_rfl, trivial⟩ ⟨by kernel_rfl, by kernel_rfl, trivial⟩ (by kernel_rfl))) ?_
    rintro ⟨i, m, vs⟩ ⟨x1, x2, x3⟩
    have g1 : i ≤ l.length := x1
    have g2 : m = ((l.take i).map (zb8 id (zct k id).asid)).length := x2
    have g3 : vs = flF ((l.take i).map (zb8 id (zct k id).asid)) := x3
    show Aw _ _ _ _ (z1g k id (zct k id).asid l i m vs)
    unfold z1g
    by_cases hlt : i < l.length
    · obtain ⟨p, hp⟩ : ∃ p, l[i]? = some p := ⟨_, List.getElem?_eq_getElem hlt⟩
      have hx : ((flP l).drop (i * 8)).take 8 = [.int .u64 p.va, .int .u64 p.pa, .int .i64 p.lev, .bool p.r, .bool p.w, .bool p.x, .bool p.u, .bool p.d] := zok hp
      have hm : m ≤ i := by rw [g2, List.length_map, List.length_take]; omega
      have et : (l.take (i + 1)).map (zb8 id (zct k id).asid) = (l.take i).map (zb8 id (zct k id).asid) ++ [(⟨true, p.va, true, (zct k id).asid⟩ : Fe)] := by
        rw [List.take_add_one, hp, List.map_append]
        show _ ++ [zb8 id (zct k id).asid p] = _
        unfold zb8
        rw [if_neg hid]
      have hn1 : m + 1 = ((l.take (i + 1)).map (zb8 id (zct k id).asid)).length := by rw [et, List.length_append, ← g2]; rfl
      have hv1 : vs ++ ((⟨true, p.va, true, (zct k id).asid⟩ : Fe)).vs = flF ((l.take (i + 1)).map (zb8 id (zct k id).asid)) := by
        rw [et, g3]
        unfold flF
        rw [List.flatMap_append]
        simp
      clear g2 g3 x2 x3 hN hXS
      repeat (first | (refine zal rfl ?_; first | refine gdr (zaa (.inl rfl) rfl) ?_ | refine gnk 1 rfl (za2 tb rfl rfl rfl rfl rfl) ?_ | refine gnx 1 rfl (zbc tb rfl rfl rfl) rfl ?_ | refine gdr (za6 rfl rfl rfl rfl) ?_ | refine gdr (zae rfl rfl rfl rfl rfl) ?_ | refine gnk 1 rfl (zbe rfl rfl rfl rfl rfl rfl rfl) ?_ | refine gdr (zan rfl rfl rfl rfl) ?_ | refine gnx 3 rfl (zau tb rfl rfl rfl rfl (by first | kernel_rfl | rfl)) rfl ?_ | refine gnx 3 rfl (za0 tb rfl rfl rfl rfl) rfl ?_ | refine gdr (zaq rfl rfl rfl rfl) ?_ | refine gnx 4 rfl (zav rfl rfl rfl rfl rfl rfl (by omega) (by omega) _ (by assumption)) rfl ?_ | refine gdr (zax rfl rfl rfl rfl rfl rfl rfl rfl rfl rfl rfl) ?_) | (refine hK _ ?_; clear hK K) | refine zad rfl ?_ | refine zai rfl rfl ?_ | refine zam ?_ | refine zao ?_ | refine zac (fun K hK => ?_))
      refine zal rfl ?_
      refine zee (zbd rfl rfl rfl rfl rfl rfl rfl rfl rfl rfl rfl rfl rfl (by omega)) (by kernel_rfl) ?_
      repeat (first | (refine zal rfl ?_; first | refine gdr (zaa (.inl rfl) rfl) ?_ | refine gdr (zaa (.inr rfl) rfl) ?_ | refine gdr (gar rfl rfl rfl rfl) ?_) | (refine hK _ ?_; clear hK K) | refine zad rfl ?_)
      exact ⟨(i + 1, m + 1, vs ++ ((⟨true, p.va, true, (zct k id).asid⟩ : Fe)).vs), ⟨by show i + 1 ≤ l.length; omega, hn1, hv1⟩, by show l.length - (i + 1) < l.length - i; omega, Sub.trans (zar [(1, .m (ii id)), (2, .m (.c (.s l.length 8 (flP l)))), (3, .m (.c (.p 3 0))), (6, .m (.c (.v (.slice none 0 0)))), (7, .m (.c (.o 55))), (8, .m (ii ((i + 1 : Nat) : Int)))] [(3, .live (.box k.ce)), (55, .live (.row 80 4 (m + 1) (vs ++ (⟨true, p.va, true, (zct k id).asid⟩ : Fe).vs)))] ⟨by kernel_rfl, by kernel_rfl, by kernel_rfl, by kernel_rfl, by kernel_rfl, by kernel_rfl, trivial⟩ ⟨by kernel_rfl, by kernel_rfl, trivial⟩ (by kernel_rfl)) (Sub.trans (zcp (b := 55) (b' := 1000) rfl rfl) (zar _ _ ⟨by kernel_rfl, by kernel_rfl, by kernel_rfl, by kernel_rfl, by kernel_rfl, by kernel_rfl, trivial⟩ ⟨by kernel_rfl, by kernel_rfl, trivial⟩ (by kernel_rfl)))⟩
    · have ei : i = l.length := by omega
      rw [ei, List.take_length] at g2 g3
      obtain rfl : N = m := by rw [hN, g2]
      obtain rfl : XS = vs := by rw [hXS, g3]
      repeat (first | (refine zal rfl ?_; first | refine gdr (zaa (.inl rfl) rfl) ?_ | refine gdr (zaa (.inr rfl) rfl) ?_ | refine gdr (za6 rfl rfl rfl rfl) ?_ | refine gdr (zan rfl rfl rfl rfl) ?_) | (refine hK _ ?_; clear hK K) | (rename_i K1 hK1; refine hK1 _ ?_; clear hK hK1; clear K) | refine zad rfl ?_ | exact zap (show za8 _ _ _ = some _ by kernel_rfl) | refine zah rfl rfl ?_ | refine zba ?_ | refine zac (fun K hK => ?_))
end Go.Proofs.YtmkjfeamgknpfaaGreatDoor.LjA
namespace Go.Proofs.YtmkjfeamgknpfaaGreatDoor.LjF
open Go.RowKit Bv VaSpec Base MemL RegR Ax MemC PutC MemC3 TzC OkS SpA SpB SpC SpF SpH SpI SpJ LaA LaB LaC LaD LaE LaF LaG LiA LiB LiC LiD LiE LiF SpE SpG SpO LjA LjB LjC LjD LjE LiF
open BitsC PteSpec
set_option maxRecDepth 10000
set_option maxHeartbeats 1000000
section
variable {cd cp sz f sh : Int} {xs : List (Int × Int)} {lv : Int → Int}
theorem zya (addr : Int) (ha : U addr) (h : TI cd cp sz xs f sh lv) (hn : xs.length ≤ 100000) (l : Nat) (t : Int) (h2 : l ≤ 2) (ht : Al cd cp f t) (hl : lv t = l) (hH : 2 ≤ l → idx addr 2 ≠ 511) :
    Ok 53 [zbm sz xs, .ag [cu cd, ci cp, cu f], iu t, ii l, iu addr] (.tu [zbm sz (prN sz cd cp addr l t (xs, f)).1, .ag [cu cd, ci cp, cu (prN sz cd cp addr l t (xs, f)).2]]) := by
  have hf := z09 addr ha h hn l t h2 ht hl hH
  generalize prN sz cd cp addr l t (xs, f) = p at *
  have hf : zde Tryz.prog GG 123 [(2000, [cu sz, .s xs.length 2 (fl xs), cu cd, ci cp, cu f, cu addr], [cu sz, .s p.1.length 2 (fl p.1), cu cd, ci cp, cu p.2, cu addr])] [.c (.p 2000 0), iu t, ii l] (.tu []) := hf
  refine zaf 30 Tryz.func53 rfl rfl rfl rfl ?_ GG.to
  intro W A hG
  repeat (first | (refine zal rfl ?_; first | refine gdr (zaa (.inl rfl) rfl) ?_ | refine gnk 1 rfl (za2 tb rfl rfl rfl rfl rfl) ?_ | refine gnx 1 rfl (zbc tb rfl rfl rfl) rfl ?_ | refine gdr (zaa (.inr rfl) rfl) ?_ | refine gdr (zag rfl rfl rfl rfl rfl rfl) ?_ | refine gdr (zae rfl rfl rfl rfl rfl) ?_ | refine gnk 1 rfl (zbe rfl rfl rfl rfl rfl rfl rfl) ?_ | refine gdr (zaq rfl rfl rfl rfl) ?_ | refine gdr (zcb rfl rfl rfl rfl) ?_ | refine gdr (zin (fun _ => 17) hf rfl rfl (by kernel_rfl) rfl ⟨rfl, trivial⟩ (by kernel_rfl)) ?_) | (refine hK _ ?_; clear hK K) | refine zad rfl ?_ | refine za4 (by kernel_rfl) (by kernel_rfl) rfl ?_ | exact zap (show za8 _ _ _ = some _ by kernel_rfl) | refine zac (fun K hK => ?_))
theorem zwa (h : TI cd cp sz xs f sh lv) {t i : Int} (hi : 0 ≤ i ∧ i < 512) (c : zbu (atM sz xs t i) = true) : 1 ≤ lv t := by
  rcases h.e.k t i hi with e | ⟨_, _, ⟨e, _⟩ | ⟨e, _⟩⟩
  · rw [e] at c; cases c
  · rw [(zcq e).1] at c; cases c
  · exact (zod h hi e).2.1.1
end
theorem z3e (n : Int) : U (ofv n) := by
  unfold ofv zo7
  split <;> exact ⟨by omega, by omega⟩
theorem zm1 (sz : Int) (xs : List (Int × Int)) (l : Int) (q : Pte) (b : Int) (hb : U b) (l2 : l ≤ 2) : (zbn sz xs l q b).length ≤ 262144 ∧ ∀ y ∈ zbn sz xs l q b, U y.va := by
  have hpv : ∀ (m : Nat) (t b : Int), U b → ∀ y ∈ zd4 sz xs m t b, U y.va := by
    intro m
    induction m with
    | zero =>
      intro t b hb y hy
      obtain ⟨i, _, hy⟩ := List.mem_flatMap.1 hy
      unfold zg2 at hy
      split at hy
      · cases hy
      · split at hy
        · rw [List.mem_singleton.1 hy]; exact z3e _
        · cases hy
    | succ m IH =>
      intro t b hb y hy
      obtain ⟨i, _, hy⟩ := List.mem_flatMap.1 hy
      unfold zg2 at hy
      split at hy
      · cases hy
      · split at hy
        · rw [List.mem_singleton.1 hy]; exact z3e _
        · exact IH _ _ (zz1 _ _ _) y hy
  unfold zbn
  split
  · exact ⟨by simp, fun y hy => by rw [List.mem_singleton.1 hy]; exact hb⟩
  · split
    · refine ⟨?_, hpv _ _ _ hb⟩
      rcases (by omega : (l - 1).toNat = 0 ∨ (l - 1).toNat = 1) with e | e
      · rw [e]; have := zgt sz xs q.ppn b; omega
      · rw [e]; exact zs1 sz xs q.ppn b
    · exact ⟨by simp, fun y hy => by cases hy⟩
theorem zy3 (k : Kr) (id : Int) (l : List Pg) (h : ∀ y ∈ l, U y.va) : ∀ f ∈ zfl k id l, U f.ad := by
  intro f hf
  unfold zfl at hf
  split at hf
  · rw [List.mem_singleton.1 hf]; unfold ztc; split <;> exact ⟨by show (0 : Int) ≤ 0; decide, by show (0 : Int) < 18446744073709551616; decide⟩
  · obtain ⟨y, hy, rfl⟩ := List.mem_map.1 hf
    unfold zb8
    split <;> exact h y hy
theorem zwb (sz : Int) (xs : List (Int × Int)) (l : Nat) (t : Int) (h : l ≤ 1) : (frN sz xs l t).length ≤ 513 := by
  rcases (by omega : l = 0 ∨ l = 1) with rfl | rfl
  · simp [frN]
  · unfold frN
    rw [List.length_cons, List.length_flatMap]
    have : ∀ is : List Nat, (is.map fun (i : Nat) => (if zbq (atM sz xs t i) ((0 + 1 : Nat) : Int) then frN sz xs 0 (atM sz xs t i).ppn else []).length).sum ≤ is.length := by
      intro is
      induction is with
      | nil => exact Nat.le_refl _
      | cons i is IH =>
        rw [List.map_cons, List.sum_cons, List.length_cons]
        have : (if zbq (atM sz xs t i) ((0 + 1 : Nat) : Int) then frN sz xs 0 (atM sz xs t i).ppn else []).length ≤ 1 := by
          split
          · simp [frN]
          · simp
        omega
    have := this (List.range 512)
    rw [List.length_range] at this
    exact Nat.add_le_add_right this 1
def unH (k : Kr) (id a l top lw t l' : Int) (q : Pte) (PL : List Pg) (L : List Int) (m : List (Int × Int)) (f : Int) (i : Nat) : St := St.of [(1, .m (ii id)), (2, .m (iu a)), (3, .m (ii l)), (4, .m (.c (.p 4 0))), (8, .m (.c (.p 8 0))), (10, .m (iu top)), (11, .m (ii lw)), (13, .m (.c (.p 13 0))), (14, .m (.c (.p 14 0))), (15, .m (.c (.p 15 0))), (16, .m (.c (.s PL.length 8 (flP PL)))), (72, .m (.c (.s L.length 1 (vsI L)))), (73, .m (ii L.length)), (74, .m (ii i))]
  [(4, .live (.box k.ce)), (8, .live (.box zK)), (13, .live (.box [cu k.sz, .s m.length 2 (fl m)])), (14, .live (.box [cu k.pb, ci k.pm, cu f])), (15, .live (.box (zbi t l' q)))]
theorem zgj {n : Nat} {k : Kr} (h : InvT n k) (hn : n ≤ 88000) (id a l : Int) (ha : U a) : Ok 21 [.ag k.ce, ii id, iu a, ii l] (.tu [.ag (unR k id a l).1.ce, ii (unR k id a l).2]) := by
  have hw := zmo k id a l ha
  have hin := zr5 h (by omega) id a l ha
  obtain ⟨R, hR⟩ : ∃ R, R = unR k id a l := ⟨_, rfl⟩
  rw [← hR]
  unfold unR at hR
  by_cases c0 : (za1 k id a l).2.2 ≠ 0
  · rw [if_pos c0] at hR
    generalize za1 k id a l = w at *
    subst hR
    refine zaf 107 Tryz.func21 rfl rfl rfl rfl ?_ GG.to
    intro W A hG
    repeat (first | (refine zal rfl ?_; first | refine gdr (zaa (.inl rfl) rfl) ?_ | refine gnk 1 rfl (za2 tb rfl rfl rfl rfl rfl) ?_ | refine gdr (zaa (.inr rfl) rfl) ?_ | refine gdr (zak rfl rfl rfl rfl) ?_ | refine gdr (za6 rfl rfl rfl rfl) ?_ | refine gdr (zag rfl rfl rfl rfl rfl rfl) ?_ | refine gdr (zae rfl rfl rfl rfl rfl) ?_ | refine gnk 1 rfl (zbe rfl rfl rfl rfl rfl rfl rfl) ?_ | refine gdr (zab rfl rfl rfl (hw) (by kernel_rfl)) ?_) | (refine hK _ ?_; clear hK K) | refine zad rfl ?_ | exact zap (show za8 _ _ _ = some _ by kernel_rfl) | refine zai rfl rfl ?_ | refine zac (fun K hK => ?_))
  rw [if_neg c0] at hR
  replace c0 : (za1 k id a l).2.2 = 0 := by omega
  obtain ⟨lv, hT, hs, hr⟩ := h.t
  obtain ⟨w1, w2, w3, w4⟩ := zcx (id := id) (a := a) (l := l) h.l c0
  obtain ⟨z1, z2⟩ := h.top (a := a) (id := id) (l := l) c0 hs hr
  have hlive : id = -1 ∨ (id ≠ -1 ∧ zb2 k id = true) := by
    rcases zki h.l c0 with ⟨_, _, e⟩ | ⟨e1, e2, _⟩
    · exact .inl e
    · exact .inr ⟨e2, e1⟩
  rw [c0] at hw
  generalize (za1 k id a l).1 = top at *
  generalize (za1 k id a l).2.1 = lw at *
  have b1 := hT.bd
  have b2 := hT.bp
  have bt := w2.1
  have hml := h.l.ml
  have hfl := h.l.fl
  have hpb := h.l.pb
  have hpm := h.l.pm
  by_cases c1 : (inR k id a l).length = 0
  · rw [if_pos c1] at hR
    rw [List.length_eq_zero_iff.1 c1] at hin
    clear c1
    subst hR
    refine zaf 107 Tryz.func21 rfl rfl rfl rfl ?_ GG.to
    intro W A hG
    repeat (first | (refine zal rfl ?_; first | refine gdr (zaa (.inl rfl) rfl) ?_ | refine gnk 1 rfl (za2 tb rfl rfl rfl rfl rfl) ?_ | refine gdr (zaa (.inr rfl) rfl) ?_ | refine gdr (zak rfl rfl rfl rfl) ?_ | refine gdr (za6 rfl rfl rfl rfl) ?_ | refine gdr (zag rfl rfl rfl rfl rfl rfl) ?_ | refine gdr (zae rfl rfl rfl rfl rfl) ?_ | refine gnk 1 rfl (zbe rfl rfl rfl rfl rfl rfl rfl) ?_ | refine gdr (zan rfl rfl rfl rfl) ?_ | refine gdr (zab rfl rfl rfl (hw) (by kernel_rfl)) ?_ | refine gdr (zab rfl rfl rfl (hin) (by kernel_rfl)) ?_) | (refine hK _ ?_; clear hK K) | refine zad rfl ?_ | exact zap (show za8 _ _ _ = some _ by kernel_rfl) | refine zai rfl rfl ?_ | refine zah rfl rfl ?_ | refine zao ?_ | refine zac (fun K hK => ?_))
  rw [if_neg c1] at hR
  generalize inR k id a l = IL at *
  obtain ⟨m, rfl⟩ := Int.eq_ofNat_of_zero_le (show 0 ≤ lw by omega)
  have hto := z39 top a l m k.m k.pf lv hT w2 h.l.sh z1 ha (by omega) w1.1 w3 (by omega) _ rfl
  obtain ⟨lv', P⟩ := zxx a l top m w1.1 w3 (by omega) m k.m k.pf lv hT w2 h.l.sh z1
  unfold unT at hR
  rw [Int.toNat_natCast] at hR
  have hKe : ∀ T, unK k id top (m : Int) a l T = unK k id top (m : Int) a l T := fun _ => rfl
  generalize toN k.sz k.cd a l top m m k.m k.pf = T at *
  obtain ⟨xs, f, ⟨t, lt⟩, e⟩ := T
  obtain ⟨l', e1, e2, e3, e4, e5⟩ := P.p
  replace e1 : lt = (l' : Int) := e1
  subst e1
  have y4 : Al k.cd k.cp f t := e4
  have y5 : lv' t = (l' : Int) := e5
  by_cases c5 : e ≠ 0
  · rw [if_pos c5] at hR
    rw [if_neg (show ¬ (xs, f, (t, (l' : Int)), e).2.2.2 = 0 from c5)] at hto
    replace hto : Ok 49 [zbm k.sz k.m, .ag [cu k.cd, ci k.cp, cu k.pf], iu top, ii m, iu a, ii l] (.tu [zbm k.sz k.m, .ag [cu k.cd, ci k.cp, cu k.pf], .ag (zbi 0 0 zP), ii e]) := hto
    rw [← hpb, ← hpm] at hto
    replace hR : R = (k, e) := hR
    subst hR
    refine zaf 107 Tryz.func21 rfl rfl rfl rfl ?_ GG.to
    intro W A hG
    repeat (first | (refine zal rfl ?_; first | refine gdr (zaa (.inl rfl) rfl) ?_ | refine gnk 1 rfl (za2 tb rfl rfl rfl rfl rfl) ?_ | refine gnx 1 rfl (zbc tb rfl rfl rfl) rfl ?_ | refine gdr (zaa (.inr rfl) rfl) ?_ | refine gdr (zak rfl rfl rfl rfl) ?_ | refine gdr (za6 rfl rfl rfl rfl) ?_ | refine gdr (zag rfl rfl rfl rfl rfl rfl) ?_ | refine gdr (zae rfl rfl rfl rfl rfl) ?_ | refine gnk 1 rfl (zbe rfl rfl rfl rfl rfl rfl rfl) ?_ | refine gdr (zan rfl rfl rfl rfl) ?_ | refine gdr (zab rfl rfl rfl (hw) (by kernel_rfl)) ?_ | refine gdr (zab rfl rfl rfl (hin) (by kernel_rfl)) ?_ | refine gdr (zab rfl rfl rfl (hto) (by kernel_rfl)) ?_) | (refine hK _ ?_; clear hK K) | refine zad rfl ?_ | exact zap (show za8 _ _ _ = some _ by kernel_rfl) | refine zai rfl rfl ?_ | refine zah rfl rfl ?_ | refine zao ?_ | refine zac (fun K hK => ?_))
  rw [if_neg c5] at hR
  obtain rfl : e = 0 := by omega
  rw [if_pos (show (xs, f, (t, (l' : Int)), (0 : Int)).2.2.2 = 0 from rfl)] at hto
  replace hto : Ok 49 [zbm k.sz k.m, .ag [cu k.cd, ci k.cp, cu k.pf], iu top, ii m, iu a, ii l] (.tu [zbm k.sz xs, .ag [cu k.cd, ci k.cp, cu f], .ag (zbi t (l' : Int) (atM k.sz xs t (idx a (l' : Int)))), ii 0]) := hto
  have hPt : TI k.cd k.cp k.sz xs f k.sh lv' := P.t
  have ash := P.a _ h.l.sh
  have atop := P.a _ w2
  have hi := idx_bd a (l' : Int)
  have bt' := y4.1
  have hxl : xs.length ≤ k.m.length + 513 * m := P.n
  obtain ⟨c2, c3, c4, c6, c7⟩ := zvw (a := a) (e := 0) (t := t) (xs := xs) (f := f) (lv := lv') hPt ash.1 y4 y5 (by omega) (fun hh => z2 (by omega))
  have hlt : lv' top = (m : Int) := atop.2.trans z1
  have atop2 := c3 _ atop.1 (.inr (by rw [hlt]; omega))
  have hq := zgw hPt.u k.sz t (idx a (l' : Int))
  have hqp := zdo (xs := xs) k.sz t (idx a (l' : Int))
  have hpl := zoq k.sz xs t (l' : Int) (atM k.sz xs t (idx a (l' : Int))) a ha hPt.s hPt.u hqp (by omega) (by omega) (fun c => by have := zwa hPt hi c; omega)
  have hub := zm1 k.sz xs (l' : Int) (atM k.sz xs t (idx a (l' : Int))) (VaSpec.base a (l' : Int)) (zop ha (by omega) (by omega)) (by omega)
  have hU2 : Uw (zfj k.sz k.cd k.cp (xs, f, (t, (l' : Int)), (0 : Int)) a).1 := fun c hc => by
    unfold zfj at hc
    split at hc
    · exact hPt.u c ((zhs k.cd k.cp k.sz hPt.bp _ (xs, f) hPt.s hPt.bf).m c hc)
    · exact hPt.u c hc
  have hwt := ze8 k.sz (zfj k.sz k.cd k.cp (xs, f, (t, (l' : Int)), (0 : Int)) a).1 t (l' : Int) (atM k.sz xs t (idx a (l' : Int))) a ⟨false, false, false, false, false, false, false, false, 0, 0, 0⟩ ha zyr (by omega) (by omega) ⟨by omega, by omega⟩ c6 hU2 (by omega)
  replace hwt : Ok 54 [zbm k.sz (zfj k.sz k.cd k.cp (xs, f, (t, (l' : Int)), (0 : Int)) a).1, .ag (zbi t (l' : Int) (atM k.sz xs t (idx a (l' : Int)))), iu a, .ag (⟨false, false, false, false, false, false, false, false, 0, 0, 0⟩ : Pte).ce] (.m (zbm k.sz (zbv k.sz (zfj k.sz k.cd k.cp (xs, f, (t, (l' : Int)), (0 : Int)) a).1 t (idx a (l' : Int)) zP))) := hwt
  have hpr := zya a ha c2 (by omega) m top (by omega) atop2 hlt (fun hh => z2 (by omega))
  have hK : R = (zeq { k with m := (prN k.sz k.cd k.cp a m top (zbv k.sz (zfj k.sz k.cd k.cp (xs, f, (t, (l' : Int)), (0 : Int)) a).1 t (idx a (l' : Int)) zP, (zfj k.sz k.cd k.cp (xs, f, (t, (l' : Int)), (0 : Int)) a).2)).1, pf := (prN k.sz k.cd k.cp a m top (zbv k.sz (zfj k.sz k.cd k.cp (xs, f, (t, (l' : Int)), (0 : Int)) a).1 t (idx a (l' : Int)) zP, (zfj k.sz k.cd k.cp (xs, f, (t, (l' : Int)), (0 : Int)) a).2)).2 } (zfl k id (zbn k.sz xs (l' : Int) (atM k.sz xs t (idx a (l' : Int))) (VaSpec.base a (l' : Int)))), 0) := by
    rw [hR]
    unfold unK unM
    rw [Int.toNat_natCast]
  have hfb := zmx k id (zbn k.sz xs (l' : Int) (atM k.sz xs t (idx a (l' : Int))) (VaSpec.base a (l' : Int)))
  have hfU := zy3 k id _ hub.2
  generalize prN k.sz k.cd k.cp a m top (zbv k.sz (zfj k.sz k.cd k.cp (xs, f, (t, (l' : Int)), (0 : Int)) a).1 t (idx a (l' : Int)) zP, (zfj k.sz k.cd k.cp (xs, f, (t, (l' : Int)), (0 : Int)) a).2) = p4 at *
  obtain ⟨m4, f4⟩ := p4
  have hfe : Ok 17 [.ag ({ k with m := m4, pf := f4 } : Kr).ce, ii id, .c (.s (zbn k.sz xs (l' : Int) (atM k.sz xs t (idx a (l' : Int))) (VaSpec.base a (l' : Int))).length 8 (flP (zbn k.sz xs (l' : Int) (atM k.sz xs t (idx a (l' : Int))) (VaSpec.base a (l' : Int)))))] (.m (.c (.s (zfl k id (zbn k.sz xs (l' : Int) (atM k.sz xs t (idx a (l' : Int))) (VaSpec.base a (l' : Int)))).length 4 (flF (zfl k id (zbn k.sz xs (l' : Int) (atM k.sz xs t (idx a (l' : Int))) (VaSpec.base a (l' : Int)))))))) := by
    rcases hlive with e | ⟨e, e'⟩
    · exact z1c { k with m := m4, pf := f4 } id _ e (by omega)
    · exact zv9 { k with m := m4, pf := f4 } id _ e e' (by omega)
  have hsf := zny { k with m := m4, pf := f4 } h.l.ts h.l.cs.2 (zfl k id (zbn k.sz xs (l' : Int) (atM k.sz xs t (idx a (l' : Int))) (VaSpec.base a (l' : Int)))) hfU (by omega) (by show k.fs.length ≤ _; omega)
  generalize zfl k id (zbn k.sz xs (l' : Int) (atM k.sz xs t (idx a (l' : Int))) (VaSpec.base a (l' : Int))) = FL at *
  generalize zbn k.sz xs (l' : Int) (atM k.sz xs t (idx a (l' : Int))) (VaSpec.base a (l' : Int)) = PL at *
  have hlk := zgn (atM k.sz xs t (idx a (l' : Int)))
  have hlk1 : zbu (atM k.sz xs t (idx a (l' : Int))) = true → lkP (atM k.sz xs t (idx a (l' : Int))) = true := fun c => by
    rcases hPt.e.k t _ hi with e | ⟨_, _, ⟨e, _⟩ | ⟨e, _⟩⟩
    · rw [e] at c; cases c
    · rw [(zcq e).1] at c; cases c
    · exact e
  have hcut : zfj k.sz k.cd k.cp (xs, f, (t, (l' : Int)), (0 : Int)) a = if zbu (atM k.sz xs t (idx a (l' : Int))) then bkN k.cd k.cp (frN k.sz xs ((l' : Int) - 1).toNat (atM k.sz xs t (idx a (l' : Int))).ppn) (xs, f) else (xs, f) := rfl
  clear hub hfb hfU hR c0 P
  generalize zbv k.sz (zfj k.sz k.cd k.cp (xs, f, (t, (l' : Int)), (0 : Int)) a).1 t (idx a (l' : Int)) zP = m3 at *
  generalize zfj k.sz k.cd k.cp (xs, f, (t, (l' : Int)), (0 : Int)) a = P2 at *
  cases c : zbu (atM k.sz xs t (idx a (l' : Int))) with
  | false =>
    rw [c] at hlk hcut
    rw [if_neg (by simp)] at hcut
    subst hcut
    generalize atM k.sz xs t (idx a (l' : Int)) = q at *
    rw [← hpb, ← hpm] at hto hpr
    subst hK
    refine zaf 107 Tryz.func21 rfl rfl rfl rfl ?_ GG.to
    intro W A hG
    repeat (first | (refine zal rfl ?_; first | refine gdr (zaa (.inl rfl) rfl) ?_ | refine gnk 1 rfl (za2 tb rfl rfl rfl rfl rfl) ?_ | refine gnx 1 rfl (zbc tb rfl rfl rfl) rfl ?_ | refine gdr (zaa (.inr rfl) rfl) ?_ | refine gdr (zak rfl rfl rfl rfl) ?_ | refine gdr (za6 rfl rfl rfl rfl) ?_ | refine gdr (zag rfl rfl rfl rfl rfl rfl) ?_ | refine gdr (zae rfl rfl rfl rfl rfl) ?_ | refine gnk 1 rfl (zbe rfl rfl rfl rfl rfl rfl rfl) ?_ | refine gdr (zan rfl rfl rfl rfl) ?_ | refine gdr (zaq rfl rfl rfl rfl) ?_ | refine gdr (zab rfl rfl rfl (hw) (by kernel_rfl)) ?_ | refine gdr (zab rfl rfl rfl (hin) (by kernel_rfl)) ?_ | refine gdr (zab rfl rfl rfl (hto) (by kernel_rfl)) ?_ | refine gdr (zab rfl rfl rfl (hpl) (by kernel_rfl)) ?_ | refine gdr (zab rfl rfl rfl (hlk) (by kernel_rfl)) ?_ | refine gdr (zab rfl rfl rfl (hwt) (by kernel_rfl)) ?_ | refine gdr (zab rfl rfl rfl (hpr) (by kernel_rfl)) ?_ | refine gdr (zab rfl rfl rfl (hfe) (by kernel_rfl)) ?_ | refine gdr (zab rfl rfl rfl (hsf) (by kernel_rfl)) ?_) | (refine hK _ ?_; clear hK K) | refine zad rfl ?_ | refine za4 (by kernel_rfl) (by kernel_rfl) rfl ?_ | exact zap (show za8 _ _ _ = some _ by kernel_rfl) | refine zah rfl rfl ?_ | refine zao ?_ | refine zac (fun K hK => ?_))
  | true =>
    obtain ⟨k1, k2, k3, k4⟩ := zod hPt hi (hlk1 c)
    rw [c] at hlk hcut
    rw [if_pos rfl] at hcut
    have hl12 : l' = 1 ∨ l' = 2 := by omega
    have hfr : Ok 51 [zbm k.sz xs, iu (atM k.sz xs t (idx a (l' : Int))).ppn, ii ((l' : Int) - 1)] (.m (.c (.s (frN k.sz xs ((l' : Int) - 1).toNat (atM k.sz xs t (idx a (l' : Int))).ppn).length 1 (vsI (frN k.sz xs ((l' : Int) - 1).toNat (atM k.sz xs t (idx a (l' : Int))).ppn))))) := by
      clear hwt hpr hfe hsf hcut hto hpl hin hw hlk c c2 c3 c4 c6 c7 k1 k4 hi hlk1 hqp hq y5 e5 e4 e2 e3
      have hqp := zdo (xs := xs) k.sz t (idx a (l' : Int))
      generalize atM k.sz xs t (idx a (l' : Int)) = q at *
      rcases hl12 with rfl | rfl
      · exact zrx k.sz xs hPt.s hPt.u q.ppn hqp
      · exact zxy k.sz xs hPt.s hPt.u q.ppn hqp
    have hLl := zwb k.sz xs ((l' : Int) - 1).toNat (atM k.sz xs t (idx a (l' : Int))).ppn (by omega)
    have hLb : ∀ g ∈ frN k.sz xs ((l' : Int) - 1).toNat (atM k.sz xs t (idx a (l' : Int))).ppn, 0 ≤ g ∧ g < 1099511627776 := fun g hg => by
      have := (zi3 hPt ((l' : Int) - 1).toNat _ k4 (by omega) g hg).1.1
      omega
    generalize frN k.sz xs ((l' : Int) - 1).toNat (atM k.sz xs t (idx a (l' : Int))).ppn = L at *
    have hxs := hPt.s
    have hxf := hPt.bf
    generalize atM k.sz xs t (idx a (l' : Int)) = q at *
    subst hK
    have hto' := hto
    have hpr' := hpr
    rw [← hpb, ← hpm] at hto' hpr'
    have b1p : 1 ≤ k.pb ∧ k.pb ≤ 524288 := by omega
    have b2p : 1 ≤ k.pm ∧ k.pm ≤ 64 := by omega
    clear hto hpr
    have hl0 : 1 ≤ (l' : Int) := by omega
    have hl2 : (l' : Int) ≤ 2 := by omega
    clear hl12 hlk1 k1 k2 k3 k4 c2 c3 c4 hPt y4 y5 e2 e3 e4 e5 hT hs hr hlive w2 atop atop2 ash hfl hlt z1 z2
    generalize (l' : Int) = li at *
    refine zaf 107 Tryz.func21 rfl rfl rfl rfl ?_ GG.to
    intro W A hG
    repeat (first | (refine zal rfl ?_; first | refine gdr (zaa (.inl rfl) rfl) ?_ | refine gnk 1 rfl (za2 tb rfl rfl rfl rfl rfl) ?_ | refine gnx 1 rfl (zbc tb rfl rfl rfl) rfl ?_ | refine gdr (zaa (.inr rfl) rfl) ?_ | refine gdr (zak rfl rfl rfl rfl) ?_ | refine gdr (za6 rfl rfl rfl rfl) ?_ | refine gdr (gar rfl rfl rfl rfl) ?_ | refine gdr (zag rfl rfl rfl rfl rfl rfl) ?_ | refine gdr (zae rfl rfl rfl rfl rfl) ?_ | refine gnk 1 rfl (zbe rfl rfl rfl rfl rfl rfl rfl) ?_ | refine gdr (zan rfl rfl rfl rfl) ?_ | refine gdr (zab rfl rfl rfl (hw) (by kernel_rfl)) ?_ | refine gdr (zab rfl rfl rfl (hin) (by kernel_rfl)) ?_ | refine gdr (zab rfl rfl rfl (hto') (by kernel_rfl)) ?_ | refine gdr (zab rfl rfl rfl (hpl) (by kernel_rfl)) ?_ | refine gdr (zab rfl rfl rfl (hlk) (by kernel_rfl)) ?_ | refine gdr (zab rfl rfl rfl (hfr) (by kernel_rfl)) ?_) | (refine hK _ ?_; clear hK K) | refine zad rfl ?_ | refine zai rfl rfl ?_ | refine zah rfl rfl ?_ | refine zam ?_ | refine zao ?_ | refine zac (fun K hK => ?_))
    refine za9 (α := Nat × List (Int × Int) × Int) (fun p => p.1 ≤ L.length ∧ bkN k.cd k.cp (L.drop p.1) (p.2.1, p.2.2) = P2 ∧ Srt p.2.1 ∧ p.2.1.length ≤ xs.length ∧ (0 ≤ p.2.2 ∧ p.2.2 < 2 ^ k.cp.toNat)) (fun p => unH k id a l top m t li q PL L p.2.1 p.2.2 p.1) (fun p => L.length - p.1) (0, xs, f) ⟨Nat.zero_le _, hcut.symm, hxs, Nat.le_refl _, hxf⟩ (zar _ _ ⟨by kernel_rfl, by kernel_rfl, by kernel_rfl, by kernel_rfl, by kernel_rfl, by kernel_rfl, by kernel_rfl, by kernel_rfl, by kernel_rfl, by kernel_rfl, by kernel_rfl, by kernel_rfl, by kernel_rfl, by kernel_rfl, trivial⟩ ⟨by kernel_rfl, by kernel_rfl, by kernel_rfl, by kernel_rfl, by kernel_rfl, trivial⟩ (by kernel_rfl)) ?_
    rintro ⟨i, mm, ff⟩ ⟨x1, x2, x3, x4, x5⟩
    have g1 : i ≤ L.length := x1
    have g2 : bkN k.cd k.cp (L.drop i) (mm, ff) = P2 := x2
    have g3 : Srt mm := x3
    have g4 : mm.length ≤ xs.length := x4
    have g5 : 0 ≤ ff ∧ ff < 2 ^ k.cp.toNat := x5
    clear x1 x2 x3 x4 x5
    show Aw _ _ _ _ (unH k id a l top m t li q PL L mm ff i)
    unfold unH
    by_cases hlt : i < L.length
    · have hgm := hLb _ (List.getElem_mem hlt)
      have hd0 : L.drop i = L[i] :: L.drop (i + 1) := List.drop_eq_getElem_cons hlt
      have hx : ((vsI L).drop (i * 1)).take 1 = [.int .u64 L[i]] := by rw [Nat.mul_one]; unfold vsI; rw [← List.map_drop, hd0]; rfl
      have hd := hd0
      rw [hd] at g2
      have hbk := zum k.sz mm k.cd k.cp ff L[i] ⟨by omega, by omega⟩ (by omega) (zia g5.1 g5.2 (by omega)) hgm g3 (by omega)
      clear hd hd0
      generalize L[i] = g at *
      replace g2 : bkN k.cd k.cp (L.drop (i + 1)) (TableC.zbf mm g, TableC2.zdn k.cd k.cp ff g) = P2 := g2
      have hws := zc9 g g3
      have hwl := zd1 mm g
      have hgb := zmt (cd := k.cd) (g := g) b2 g5
      generalize TableC.zbf mm g = m5 at *
      generalize TableC2.zdn k.cd k.cp ff g = f5 at *
      rw [← hpb, ← hpm] at hbk
      repeat (first | (refine zal rfl ?_; first | refine gdr (zaa (.inl rfl) rfl) ?_ | refine gnk 1 rfl (za2 tb rfl rfl rfl rfl rfl) ?_ | refine gdr (zaa (.inr rfl) rfl) ?_ | refine gdr (zak rfl rfl rfl rfl) ?_ | refine gdr (za6 rfl rfl rfl rfl) ?_ | refine gdr (gar rfl rfl rfl rfl) ?_ | refine gnk 1 rfl (zbe rfl rfl rfl rfl rfl rfl rfl) ?_ | refine gnx 3 rfl (zau tb rfl rfl rfl rfl (by first | kernel_rfl | rfl)) rfl ?_ | refine gnx 4 rfl (zav rfl rfl rfl rfl rfl rfl (by omega) (by omega) _ (by assumption)) rfl ?_ | refine gdr (zab rfl rfl rfl (hbk) (by kernel_rfl)) ?_) | (refine hK _ ?_; clear hK K) | refine zad rfl ?_ | refine zai rfl rfl ?_ | refine zam ?_ | refine zao ?_ | refine zac (fun K hK => ?_))
      exact ⟨(i + 1, m5, f5), ⟨by show i + 1 ≤ L.length; omega, g2, hws, by show m5.length ≤ _; omega, hgb⟩, by show L.length - (i + 1) < L.length - i; omega, zar _ _ ⟨by kernel_rfl, by kernel_rfl, by kernel_rfl, by kernel_rfl, by kernel_rfl, by kernel_rfl, by kernel_rfl, by kernel_rfl, by kernel_rfl, by kernel_rfl, by kernel_rfl, by kernel_rfl, by kernel_rfl, by kernel_rfl, trivial⟩ ⟨by kernel_rfl, by kernel_rfl, by kernel_rfl, by kernel_rfl, by kernel_rfl, trivial⟩ (by kernel_rfl)⟩
    · have ei : i = L.length := by omega
      rw [ei, List.drop_length] at g2
      replace g2 : (mm, ff) = P2 := g2
      subst g2
      repeat (first | (refine zal rfl ?_; first | refine gdr (zaa (.inl rfl) rfl) ?_ | refine gnk 1 rfl (za2 tb rfl rfl rfl rfl rfl) ?_ | refine gnx 1 rfl (zbc tb rfl rfl rfl) rfl ?_ | refine gdr (zaa (.inr rfl) rfl) ?_ | refine gdr (zak rfl rfl rfl rfl) ?_ | refine gdr (za6 rfl rfl rfl rfl) ?_ | refine gnk 1 rfl (zbe rfl rfl rfl rfl rfl rfl rfl) ?_ | refine gdr (zaq rfl rfl rfl rfl) ?_ | refine gdr (zab rfl rfl rfl (hwt) (by kernel_rfl)) ?_ | refine gdr (zab rfl rfl rfl (hpr') (by kernel_rfl)) ?_ | refine gdr (zab rfl rfl rfl (hfe) (by kernel_rfl)) ?_ | refine gdr (zab rfl rfl rfl (hsf) (by kernel_rfl)) ?_) | (refine hK _ ?_; clear hK K) | (rename_i K1 hK1; refine hK1 _ ?_; clear hK hK1; clear K) | refine zad rfl ?_ | refine za4 (by kernel_rfl) (by kernel_rfl) rfl ?_ | exact zap (show za8 _ _ _ = some _ by kernel_rfl) | refine zah rfl rfl ?_ | refine zba ?_ | refine zac (fun K hK => ?_))
end Go.Proofs.YtmkjfeamgknpfaaGreatDoor.LjF
