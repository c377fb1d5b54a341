/- Texts of this claim, one behind the other: LjC, AxZ, LjD, AxW, LjE, LkB, LkC, LkD, LjA, LjF, LkE, LaI, LkF, LaJ, LkG, Open, Laid, LrA, LrB, LrC, LmA, LmB, LmE, LnA, LnB. -/
import Derived.Test.YtomeaibdedaldaaGreatDoorP4
import Derived.Test.YtomeaibdedaldaaGreatDoorP3
import Derived.Defers
import Derived.Test.YtomeaibdedaldaaGreatDoorP2
import Derived.ProofKit
import Derived.Carry
import Derived.ChangeOld
import Derived.ChangeArms
import Derived.WideShapes
import Derived.Test.YtomeaibdedaldaaGreatDoorRows
import Derived.LaidMore
import Derived.Lib.LaidTab
import Derived.SevenTiedAt
import Derived.LaidHandle
import Derived.Deep.SlicePairs
set_option linter.unusedVariables false
set_option linter.unusedSimpArgs false
namespace Go.Proofs.YtomeaibdedaldaaGreatDoor.LjC
open Go.RowKit Bv VaSpec Base MemL RegR Ax MemC PutC MemC3 TzC OkS SpA SpB SpC SpF SpH SpI SpJ LaA LaB LaC LaD LaE LaF LaG LiA LiB LiC LiD LiE LiF
open BitsC PteSpec
set_option maxRecDepth 10000
set_option maxHeartbeats 1000000
def leH (sz cd cp a t l g b : Int) (q : Pte) (xs : List (Int × Int)) (f : Int) (i : Nat) (n : Int) : St := St.of [(3, .m (iu a)), (6, .m (.c (.p 6 0))), (8, .m (.c (.p 8 0))), (9, .m (.c (.p 9 0))), (10, .m (ii 0)), (11, .m (.c (.p 11 0))), (12, .m (.c (.p 12 0))), (13, .m (iu g)), (15, .m (.c (.p 15 0))), (16, .m (iu b)), (37, .m (iu i))] [(6, .live (.box (zb0 t l q))), (8, .live (.box [cu 0, .v (.slice none 0 0)])), (9, .live (.box [cu 0, ci 0, cu 0])), (11, .live (.box [cu sz, .s xs.length 2 (fl xs)])), (12, .live (.box [cu cd, ci cp, cu f])), (15, .live (.box [cb q.v, cb q.r, cb q.w, cb q.x, cb q.u, cb q.g, cb q.a, cb q.d, cu q.rsw, cu n, cu q.high]))]
theorem zrn {a i : Int} (l : Int) (hl : l = 1 ∨ l = 2) (ha : U a) (hi : 0 ≤ i ∧ i < 512) : idx (VaSpec.base a l + i * VaSpec.sz (l - 1)) (l - 1) = i ∧ U (VaSpec.base a l + i * VaSpec.sz (l - 1)) ∧ U (VaSpec.base a l) ∧ VaSpec.base a l + 512 * VaSpec.sz (l - 1) ≤ 18446744073709551616 := by
  obtain ⟨a0, a1⟩ := ha
  unfold VaSpec.base idx
  rcases hl with rfl | rfl
  · simp only [show VaSpec.sz 1 = 2097152 from rfl, show VaSpec.sz (1 - 1) = 4096 from rfl]
    exact ⟨by omega, ⟨by omega, by omega⟩, ⟨by omega, by omega⟩, by omega⟩
  · simp only [show VaSpec.sz 2 = 1073741824 from rfl, show VaSpec.sz (2 - 1) = 2097152 from rfl]
    exact ⟨by omega, ⟨by omega, by omega⟩, ⟨by omega, by omega⟩, by omega⟩
theorem z1d (cd cp sz : Int) (xs : List (Int × Int)) (t l : Int) (q : Pte) (a : Int) (hb : 0 ≤ cd ∧ cd ≤ 268435456) (hm : 0 ≤ cp ∧ cp ≤ 64) : Ok 138 [zbt sz xs, .ag [cu cd, ci cp, cu 0], .ag (zb0 t l q), iu a] (.tu [zbt sz xs, .ag [cu cd, ci cp, cu 0], ii 8]) := by
  have hf := zht sz xs cd cp hb hm
  refine zad 76 Tryz.func138 rfl rfl rfl rfl ?_ GG.to
  intro W A hG
  repeat (first | (refine zah rfl ?_; first | refine zai ?_ | refine gdr (zaa rfl rfl rfl (hf) (by kernel_rfl)) ?_) | (refine hK _ ?_; clear hK K) | refine zac rfl ?_ | refine zas (by kernel_rfl) (by kernel_rfl) rfl ?_ | exact zaj (show zau _ _ _ = some _ by kernel_rfl) | refine zag rfl rfl ?_ | refine zab (fun K hK => ?_))
theorem zyd {cd cp sz f sh : Int} {xs : List (Int × Int)} {lv : Int → Int} (h : TI cd cp sz xs f sh lv) (h0 : f ≠ 0) (hn : xs.length ≤ 100000) {t a : Int} {q : Pte} (ha : U a) (ht : Al cd cp f t) (hq : q = atM sz xs t (idx a 1)) (h1 : zat q = true) (h2 : zdt q 1 = false) :
    Ok 138 [zbt sz xs, .ag [cu cd, ci cp, cu f], .ag (zb0 t 1 q), iu a] (.tu [zbt sz (zko sz xs t (idx a 1) 1 q (cd + tzI f)), .ag [cu cd, ci cp, cu (zbk f (tzI f) 1 0)], ii 0]) := by
  obtain ⟨a0, a1, a2, a3⟩ := zc8 h h0
  have b1 := h.bd
  have b2 := h.bp
  have bz := h.bz
  have bt := ht.1
  have hqU : q.U := by rw [hq]; exact zhq h.u _ _ _
  have hqm : zhe q = true := by rw [hq]; exact zju h.u
  have hf := zf1 sz xs cd cp f (by omega) (by omega) h.uf h0 h.s (by omega)
  rw [h.gm.wipe h0] at hf
  have hg : 0 ≤ cd + tzI f ∧ cd + tzI f < 1099511627776 := by omega
  have hgz : (cd + tzI f) * 4096 + 4096 ≤ sz := by omega
  have hi := idx_bd a 1
  have hba := zlx a 1 ha (by omega) (by omega)
  have hsz : Ok 51 [ii 0] (.m (iu 4096)) := zfq 0 (by omega) (by omega)
  have hsz1 : Ok 51 [ii 1] (.m (iu 2097152)) := zfq 1 (by omega) (by omega)
  have hln := zp2 (cd + tzI f)
  have hlU := zg8 (n := cd + tzI f) (by omega)
  have hRs := zhz (g := cd + tzI f) (v := fun j => PteC.zcp (prt q 1 j)) h.s
  have hRl := zmc xs (cd + tzI f) (fun j => PteC.zcp (prt q 1 j))
  have hRm := fun i => zmd (xs := xs) (g := cd + tzI f) (v := fun j => PteC.zcp (prt q 1 j)) i
  have hxu := h.u
  have hpU : ∀ i : Int, (0 ≤ i ∧ i < 512) → (prt q 1 i).U := fun i hi => (zea hqU hqm (by omega) h1 h2 hi).1
  have hRu : ∀ i, i ≤ 512 → Uw (zf6 xs (cd + tzI f) (fun j => PteC.zcp (prt q 1 j)) i) := fun i hi c hc => by
    rcases hRm i c hc with hc | ⟨j, hj, rfl, _⟩
    · exact hxu c hc
    · exact ⟨⟨by show 0 ≤ (cd + tzI f) * 512 + (j : Int); omega, by show (cd + tzI f) * 512 + (j : Int) < 18446744073709551616; omega⟩, ze9 _ (hpU j (by omega))⟩
  have hfin := zeq sz (zf6 xs (cd + tzI f) (fun j => PteC.zcp (prt q 1 j)) 512) t 1 q a (lnk (cd + tzI f)) ha hlU (by omega) (by omega) (by omega) (hRs 512) (hRu 512 (by omega)) (by have := hRl 512; omega)
  have hpb : 0 ≤ q.ppn ∧ q.ppn < 17592186044416 := by rw [hq]; exact zfo ..
  refine zad 76 Tryz.func138 rfl rfl rfl rfl ?_ GG.to
  intro W A hG
  unfold zko
  generalize hgen : cd + tzI f = g at *
  generalize zbk f (tzI f) 1 0 = f2 at *
  repeat (first | (refine zah rfl ?_; first | refine zai ?_ | refine gdr (zaa rfl rfl rfl (hf) (by kernel_rfl)) ?_ | refine gdr (zaa rfl rfl rfl (hba) (by kernel_rfl)) ?_) | (refine hK _ ?_; clear hK K) | refine zac rfl ?_ | refine zae rfl rfl ?_ | refine zaf ?_ | refine zal ?_ | refine zab (fun K hK => ?_))
  refine za3 (α := Nat × Int) (fun p => p.1 ≤ 512) (fun p => leH sz cd cp a t 1 g (VaSpec.base a 1) q (zf6 xs g (fun j => PteC.zcp (prt q 1 j)) p.1) f2 p.1 p.2) (fun p => 512 - p.1) (0, q.ppn) (by show 0 ≤ 512; omega) (zao _ _ ⟨by kernel_rfl, by kernel_rfl, by kernel_rfl, by kernel_rfl, by kernel_rfl, by kernel_rfl, by kernel_rfl, by kernel_rfl, by kernel_rfl, by kernel_rfl, by kernel_rfl, trivial⟩ ⟨by kernel_rfl, by kernel_rfl, by kernel_rfl, by kernel_rfl, by kernel_rfl, by kernel_rfl, trivial⟩ (by kernel_rfl)) ?_
  rintro ⟨i, n⟩ x1
  have g1 : i ≤ 512 := x1
  show Aw _ _ _ _ (leH sz cd cp a t 1 g (VaSpec.base a 1) q (zf6 xs g (fun j => PteC.zcp (prt q 1 j)) i) f2 i n)
  unfold leH
  by_cases hlt : i < 512
  · obtain ⟨e1, e2, e3, e4⟩ := zrn (a := a) (i := (i : Int)) 1 (by omega) ha (by omega)
    have e1 : idx (VaSpec.base a 1 + (i : Int) * 4096) (1 - 1) = (i : Int) := e1
    have e2 : U (VaSpec.base a 1 + (i : Int) * 4096) := e2
    have e4 : VaSpec.base a 1 + 512 * 4096 ≤ 18446744073709551616 := e4
    have epp : q.ppn + (i : Int) * 4096 / 4096 = q.ppn + (i : Int) * 1 := by omega
    have hwt := zeq sz (zf6 xs g (fun j => PteC.zcp (prt q 1 j)) i) g (1 - 1) ⟨false, false, false, false, false, false, false, false, 0, 0, 0⟩ (VaSpec.base a 1 + (i : Int) * 4096) (prt q 1 i) e2 (hpU i (by omega)) (by omega) (by omega) hg (hRs i) (hRu i g1) (by have := hRl i; omega)
    rw [e1, zd8 (hpU i (by omega)) hg.1 (by omega) (by omega)] at hwt
    have hrw : prt q 1 (i : Int) = ⟨q.v, q.r, q.w, q.x, q.u, q.g, q.a, q.d, q.rsw, q.ppn + (i : Int) * 4096 / 4096, q.high⟩ := by rw [epp]; rfl
    have hwt : Ok 49 [zbt sz (zf6 xs g (fun j => PteC.zcp (prt q 1 j)) i), .ag (zb0 g (1 - 1) ⟨false, false, false, false, false, false, false, false, 0, 0, 0⟩), iu (VaSpec.base a 1 + (i : Int) * 4096), .ag (⟨q.v, q.r, q.w, q.x, q.u, q.g, q.a, q.d, q.rsw, q.ppn + (i : Int) * 4096 / 4096, q.high⟩ : Pte).ce] (.m (zbt sz (zf6 xs g (fun j => PteC.zcp (prt q 1 j)) (i + 1)))) := by
      rw [← hrw]; exact hwt
    obtain ⟨ys1, hys⟩ : ∃ ys1, ys1 = zf6 xs g (fun j => PteC.zcp (prt q 1 j)) (i + 1) := ⟨_, rfl⟩
    rw [← hys] at hwt
    generalize zf6 xs g (fun j => PteC.zcp (prt q 1 j)) i = ys at *
    have hb0 := e3.1
    generalize VaSpec.base a 1 = b at *
    repeat (first | (refine zah rfl ?_; first | refine zai ?_ | refine gdr (zaa rfl rfl rfl (hsz) (by kernel_rfl)) ?_ | refine gdr (zaa rfl rfl rfl (hwt) (by kernel_rfl)) ?_) | (refine hK _ ?_; clear hK K) | refine zac rfl ?_ | refine zas (by kernel_rfl) (by kernel_rfl) rfl ?_ | refine zag rfl rfl ?_ | refine zaf ?_ | refine zal ?_ | refine zab (fun K hK => ?_))
    refine ⟨(i + 1, q.ppn + (i : Int) * 4096 / 4096), by show i + 1 ≤ 512; omega, by show 512 - (i + 1) < 512 - i; omega, ?_⟩
    show Sub _ _ (leH sz cd cp a t 1 g b q (zf6 xs g (fun j => PteC.zcp (prt q 1 j)) (i + 1)) f2 (i + 1) (q.ppn + (i : Int) * 4096 / 4096))
    rw [← hys]
    exact zao _ _ ⟨by kernel_rfl, by kernel_rfl, by kernel_rfl, by kernel_rfl, by kernel_rfl, by kernel_rfl, by kernel_rfl, by kernel_rfl, by kernel_rfl, by kernel_rfl, by kernel_rfl, trivial⟩ ⟨by kernel_rfl, by kernel_rfl, by kernel_rfl, by kernel_rfl, by kernel_rfl, by kernel_rfl, trivial⟩ (by kernel_rfl)
  · obtain rfl : i = 512 := by omega
    generalize zf6 xs g (fun j => PteC.zcp (prt q 1 j)) 512 = ys at *
    repeat (first | (refine zah rfl ?_; first | refine zai ?_ | refine gdr (zaa rfl rfl rfl (hln) (by kernel_rfl)) ?_ | refine gdr (zaa rfl rfl rfl (hfin) (by kernel_rfl)) ?_) | (refine hK _ ?_; clear hK K) | (rename_i K1 hK1; refine hK1 _ ?_; clear hK hK1; clear K) | refine zac rfl ?_ | refine zas (by kernel_rfl) (by kernel_rfl) rfl ?_ | exact zaj (show zau _ _ _ = some _ by kernel_rfl) | refine zae rfl rfl ?_ | refine zaz ?_ | refine zab (fun K hK => ?_))
theorem zye {cd cp sz f sh : Int} {xs : List (Int × Int)} {lv : Int → Int} (h : TI cd cp sz xs f sh lv) (h0 : f ≠ 0) (hn : xs.length ≤ 100000) {t a : Int} {q : Pte} (ha : U a) (ht : Al cd cp f t) (hq : q = atM sz xs t (idx a 2)) (h1 : zat q = true) (h2 : zdt q 2 = false) :
    Ok 138 [zbt sz xs, .ag [cu cd, ci cp, cu f], .ag (zb0 t 2 q), iu a] (.tu [zbt sz (zko sz xs t (idx a 2) 2 q (cd + tzI f)), .ag [cu cd, ci cp, cu (zbk f (tzI f) 1 0)], ii 0]) := by
  obtain ⟨a0, a1, a2, a3⟩ := zc8 h h0
  have b1 := h.bd
  have b2 := h.bp
  have bz := h.bz
  have bt := ht.1
  have hqU : q.U := by rw [hq]; exact zhq h.u _ _ _
  have hqm : zhe q = true := by rw [hq]; exact zju h.u
  have hf := zf1 sz xs cd cp f (by omega) (by omega) h.uf h0 h.s (by omega)
  rw [h.gm.wipe h0] at hf
  have hg : 0 ≤ cd + tzI f ∧ cd + tzI f < 1099511627776 := by omega
  have hgz : (cd + tzI f) * 4096 + 4096 ≤ sz := by omega
  have hi := idx_bd a 2
  have hba := zlx a 2 ha (by omega) (by omega)
  have hsz : Ok 51 [ii 0] (.m (iu 4096)) := zfq 0 (by omega) (by omega)
  have hsz1 : Ok 51 [ii 1] (.m (iu 2097152)) := zfq 1 (by omega) (by omega)
  have hln := zp2 (cd + tzI f)
  have hlU := zg8 (n := cd + tzI f) (by omega)
  have hRs := zhz (g := cd + tzI f) (v := fun j => PteC.zcp (prt q 2 j)) h.s
  have hRl := zmc xs (cd + tzI f) (fun j => PteC.zcp (prt q 2 j))
  have hRm := fun i => zmd (xs := xs) (g := cd + tzI f) (v := fun j => PteC.zcp (prt q 2 j)) i
  have hxu := h.u
  have hpU : ∀ i : Int, (0 ≤ i ∧ i < 512) → (prt q 2 i).U := fun i hi => (zea hqU hqm (by omega) h1 h2 hi).1
  have hRu : ∀ i, i ≤ 512 → Uw (zf6 xs (cd + tzI f) (fun j => PteC.zcp (prt q 2 j)) i) := fun i hi c hc => by
    rcases hRm i c hc with hc | ⟨j, hj, rfl, _⟩
    · exact hxu c hc
    · exact ⟨⟨by show 0 ≤ (cd + tzI f) * 512 + (j : Int); omega, by show (cd + tzI f) * 512 + (j : Int) < 18446744073709551616; omega⟩, ze9 _ (hpU j (by omega))⟩
  have hfin := zeq sz (zf6 xs (cd + tzI f) (fun j => PteC.zcp (prt q 2 j)) 512) t 2 q a (lnk (cd + tzI f)) ha hlU (by omega) (by omega) (by omega) (hRs 512) (hRu 512 (by omega)) (by have := hRl 512; omega)
  have hpb : 0 ≤ q.ppn ∧ q.ppn < 17592186044416 := by rw [hq]; exact zfo ..
  refine zad 76 Tryz.func138 rfl rfl rfl rfl ?_ GG.to
  intro W A hG
  unfold zko
  generalize hgen : cd + tzI f = g at *
  generalize zbk f (tzI f) 1 0 = f2 at *
  repeat (first | (refine zah rfl ?_; first | refine zai ?_ | refine gdr (zaa rfl rfl rfl (hf) (by kernel_rfl)) ?_ | refine gdr (zaa rfl rfl rfl (hba) (by kernel_rfl)) ?_) | (refine hK _ ?_; clear hK K) | refine zac rfl ?_ | refine zae rfl rfl ?_ | refine zaf ?_ | refine zal ?_ | refine zab (fun K hK => ?_))
  refine za3 (α := Nat × Int) (fun p => p.1 ≤ 512) (fun p => leH sz cd cp a t 2 g (VaSpec.base a 2) q (zf6 xs g (fun j => PteC.zcp (prt q 2 j)) p.1) f2 p.1 p.2) (fun p => 512 - p.1) (0, q.ppn) (by show 0 ≤ 512; omega) (zao _ _ ⟨by kernel_rfl, by kernel_rfl, by kernel_rfl, by kernel_rfl, by kernel_rfl, by kernel_rfl, by kernel_rfl, by kernel_rfl, by kernel_rfl, by kernel_rfl, by kernel_rfl, trivial⟩ ⟨by kernel_rfl, by kernel_rfl, by kernel_rfl, by kernel_rfl, by kernel_rfl, by kernel_rfl, trivial⟩ (by kernel_rfl)) ?_
  rintro ⟨i, n⟩ x1
  have g1 : i ≤ 512 := x1
  show Aw _ _ _ _ (leH sz cd cp a t 2 g (VaSpec.base a 2) q (zf6 xs g (fun j => PteC.zcp (prt q 2 j)) i) f2 i n)
  unfold leH
  by_cases hlt : i < 512
  · obtain ⟨e1, e2, e3, e4⟩ := zrn (a := a) (i := (i : Int)) 2 (by omega) ha (by omega)
    have e1 : idx (VaSpec.base a 2 + (i : Int) * 2097152) (2 - 1) = (i : Int) := e1
    have e2 : U (VaSpec.base a 2 + (i : Int) * 2097152) := e2
    have e4 : VaSpec.base a 2 + 512 * 2097152 ≤ 18446744073709551616 := e4
    have epp : q.ppn + (i : Int) * 2097152 / 4096 = q.ppn + (i : Int) * 512 := by omega
    have hwt := zeq sz (zf6 xs g (fun j => PteC.zcp (prt q 2 j)) i) g (2 - 1) ⟨false, false, false, false, false, false, false, false, 0, 0, 0⟩ (VaSpec.base a 2 + (i : Int) * 2097152) (prt q 2 i) e2 (hpU i (by omega)) (by omega) (by omega) hg (hRs i) (hRu i g1) (by have := hRl i; omega)
    rw [e1, zd8 (hpU i (by omega)) hg.1 (by omega) (by omega)] at hwt
    have hrw : prt q 2 (i : Int) = ⟨q.v, q.r, q.w, q.x, q.u, q.g, q.a, q.d, q.rsw, q.ppn + (i : Int) * 2097152 / 4096, q.high⟩ := by rw [epp]; rfl
    have hwt : Ok 49 [zbt sz (zf6 xs g (fun j => PteC.zcp (prt q 2 j)) i), .ag (zb0 g (2 - 1) ⟨false, false, false, false, false, false, false, false, 0, 0, 0⟩), iu (VaSpec.base a 2 + (i : Int) * 2097152), .ag (⟨q.v, q.r, q.w, q.x, q.u, q.g, q.a, q.d, q.rsw, q.ppn + (i : Int) * 2097152 / 4096, q.high⟩ : Pte).ce] (.m (zbt sz (zf6 xs g (fun j => PteC.zcp (prt q 2 j)) (i + 1)))) := by
      rw [← hrw]; exact hwt
    obtain ⟨ys1, hys⟩ : ∃ ys1, ys1 = zf6 xs g (fun j => PteC.zcp (prt q 2 j)) (i + 1) := ⟨_, rfl⟩
    rw [← hys] at hwt
    generalize zf6 xs g (fun j => PteC.zcp (prt q 2 j)) i = ys at *
    have hb0 := e3.1
    generalize VaSpec.base a 2 = b at *
    repeat (first | (refine zah rfl ?_; first | refine zai ?_ | refine gdr (zaa rfl rfl rfl (hsz1) (by kernel_rfl)) ?_ | refine gdr (zaa rfl rfl rfl (hwt) (by kernel_rfl)) ?_) | (refine hK _ ?_; clear hK K) | refine zac rfl ?_ | refine zas (by kernel_rfl) (by kernel_rfl) rfl ?_ | refine zag rfl rfl ?_ | refine zaf ?_ | refine zal ?_ | refine zab (fun K hK => ?_))
    refine ⟨(i + 1, q.ppn + (i : Int) * 2097152 / 4096), by show i + 1 ≤ 512; omega, by show 512 - (i + 1) < 512 - i; omega, ?_⟩
    show Sub _ _ (leH sz cd cp a t 2 g b q (zf6 xs g (fun j => PteC.zcp (prt q 2 j)) (i + 1)) f2 (i + 1) (q.ppn + (i : Int) * 2097152 / 4096))
    rw [← hys]
    exact zao _ _ ⟨by kernel_rfl, by kernel_rfl, by kernel_rfl, by kernel_rfl, by kernel_rfl, by kernel_rfl, by kernel_rfl, by kernel_rfl, by kernel_rfl, by kernel_rfl, by kernel_rfl, trivial⟩ ⟨by kernel_rfl, by kernel_rfl, by kernel_rfl, by kernel_rfl, by kernel_rfl, by kernel_rfl, trivial⟩ (by kernel_rfl)
  · obtain rfl : i = 512 := by omega
    generalize zf6 xs g (fun j => PteC.zcp (prt q 2 j)) 512 = ys at *
    repeat (first | (refine zah rfl ?_; first | refine zai ?_ | refine gdr (zaa rfl rfl rfl (hln) (by kernel_rfl)) ?_ | refine gdr (zaa rfl rfl rfl (hfin) (by kernel_rfl)) ?_) | (refine hK _ ?_; clear hK K) | (rename_i K1 hK1; refine hK1 _ ?_; clear hK hK1; clear K) | refine zac rfl ?_ | refine zas (by kernel_rfl) (by kernel_rfl) rfl ?_ | exact zaj (show zau _ _ _ = some _ by kernel_rfl) | refine zae rfl rfl ?_ | refine zaz ?_ | refine zab (fun K hK => ?_))
theorem zyf (sz cd addr zam top : Int) (lv n : Nat) (xs : List (Int × Int)) (f : Int) : toN sz cd addr zam top lv (n + 1) xs f = if (zaq sz xs addr zam lv top).2 = zam ∨ zat (atM sz xs (zaq sz xs addr zam lv top).1 (idx addr (zaq sz xs addr zam lv top).2)) = false then (xs, f, zaq sz xs addr zam lv top, 0)
    else if f = 0 then (xs, f, zaq sz xs addr zam lv top, 8)
    else toN sz cd addr zam top lv n (zko sz xs (zaq sz xs addr zam lv top).1 (idx addr (zaq sz xs addr zam lv top).2) (zaq sz xs addr zam lv top).2 (atM sz xs (zaq sz xs addr zam lv top).1 (idx addr (zaq sz xs addr zam lv top).2)) (cd + tzI f)) (zbk f (tzI f) 1 0) := rfl
def toH (sz cd cp top lv addr zam : Int) (xs0 : List (Int × Int)) (f0 : Int) (xs : List (Int × Int)) (f : Int) : St := St.of [(2, .m (iu top)), (3, .m (ii lv)), (4, .m (iu addr)), (5, .m (ii zam)), (6, .m (.c (.p 6 0))), (7, .m (.c (.p 7 0))), (12, .m (.c (.p 12 0))), (13, .m (.c (.p 13 0))), (14, .m (.c (.p 14 0))), (15, .m (ii 0)), (16, .m (.c (.p 16 0))), (17, .m (.c (.p 17 0)))] [(6, .live (.box [cu sz, .s xs0.length 2 (fl xs0)])), (7, .live (.box [cu cd, ci cp, cu f0])), (12, .live (.box [cu 0, .v (.slice none 0 0)])), (13, .live (.box [cu 0, ci 0, cu 0])), (14, .live (.box (zb0 0 0 zP))), (16, .live (.box [cu sz, .s xs.length 2 (fl xs)])), (17, .live (.box [cu cd, ci cp, cu f]))]
theorem z40 {cd cp sz sh : Int} (top addr zam : Int) (l : Nat) (xs0 : List (Int × Int)) (f0 : Int) (lv0 : Int → Int) (h : TI cd cp sz xs0 f0 sh lv0) (ht : Al cd cp f0 top) (hsh : Al cd cp f0 sh) (hlt : lv0 top = l) (ha : U addr) (hl : l ≤ 2) (hw : 0 ≤ zam) (hwl : zam ≤ (l : Int)) (hn : xs0.length ≤ 90000)
    (R : List (Int × Int) × Int × (Int × Int) × Int) (hR : R = toN sz cd addr zam top l l xs0 f0) :
    Ok 74 [zbt sz xs0, .ag [cu cd, ci cp, cu f0], iu top, ii l, iu addr, ii zam]
      (.tu (if R.2.2.2 = 0 then [zbt sz R.1, .ag [cu cd, ci cp, cu R.2.1], .ag (zps sz R.1 addr R.2.2.1), ii 0] else [zbt sz xs0, .ag [cu cd, ci cp, cu f0], .ag (zb0 0 0 zP), ii R.2.2.2])) := by
  have hcd := h.bd
  have hcp := h.bp
  obtain ⟨V, hV⟩ : ∃ V, V = (if R.2.2.2 = 0 then [zbt sz R.1, .ag [cu cd, ci cp, cu R.2.1], .ag (zps sz R.1 addr R.2.2.1), ii 0] else [zbt sz xs0, .ag [cu cd, ci cp, cu f0], .ag (zb0 0 0 zP), ii R.2.2.2]) := ⟨_, rfl⟩
  rw [← hV]
  have hcl : (zce (.tu V) && [zbt sz xs0, .ag [cu cd, ci cp, cu f0], iu top, ii l, iu addr, ii zam].all zb7) = true := by
    rw [hV]; split <;> rfl
  refine zad 60 Tryz.func74 rfl hcl rfl rfl ?_ GG.to
  intro W A hG
  repeat (first | (refine zah rfl ?_; first | refine zai ?_) | (refine hK _ ?_; clear hK K) | refine zac rfl ?_ | refine zas (by kernel_rfl) (by kernel_rfl) rfl ?_ | refine zaf ?_ | refine zab (fun K hK => ?_))
  obtain ⟨r0, r1, r2, r3, r4, r5, r6, _⟩ := zeo h addr zam hw l top ht hlt hwl
  refine za3 (α := Nat × List (Int × Int) × Int × (Int → Int)) (fun q => TI cd cp sz q.2.1 q.2.2.1 sh q.2.2.2 ∧ Al cd cp q.2.2.1 top ∧ Al cd cp q.2.2.1 sh ∧ q.2.2.2 top = l ∧ q.2.1.length + 513 * q.1 ≤ 100000 ∧ toN sz cd addr zam top l q.1 q.2.1 q.2.2.1 = R ∧ (zaq sz q.2.1 addr zam l top).2 ≤ zam + q.1)
    (fun q => toH sz cd cp top l addr zam xs0 f0 q.2.1 q.2.2.1) (fun q => q.1) (l, xs0, f0, lv0) ⟨h, ht, hsh, hlt, by show xs0.length + 513 * l ≤ _; omega, hR.symm, by show (zaq sz xs0 addr zam l top).2 ≤ zam + l; rw [r2]; show (r0 : Int) ≤ _; omega⟩ (zao _ _ ⟨by kernel_rfl, by kernel_rfl, by kernel_rfl, by kernel_rfl, by kernel_rfl, by kernel_rfl, by kernel_rfl, by kernel_rfl, by kernel_rfl, by kernel_rfl, by kernel_rfl, by kernel_rfl, trivial⟩ ⟨by kernel_rfl, by kernel_rfl, by kernel_rfl, by kernel_rfl, by kernel_rfl, by kernel_rfl, by kernel_rfl, trivial⟩ (by kernel_rfl)) ?_
  clear r2 r3 r4 r5 r6
  rintro ⟨n, xs, f, lv⟩ ⟨x1, x2, x3, x4, x5, x6, x7⟩
  have g1 : TI cd cp sz xs f sh lv := x1
  have g2 : Al cd cp f top := x2
  have g3 : Al cd cp f sh := x3
  have g4 : lv top = l := x4
  have g5 : xs.length + 513 * n ≤ 100000 := x5
  have g6 : toN sz cd addr zam top l n xs f = R := x6
  have g7 : (zaq sz xs addr zam l top).2 ≤ zam + (n : Int) := x7
  clear x1 x2 x3 x4 x5 x6 x7
  show Aw _ _ _ _ (toH sz cd cp top l addr zam xs0 f0 xs f)
  unfold toH
  obtain ⟨l', t', i1, i2, i3, i4, i5, i6, i7⟩ := zeo g1 addr zam hw l top g2 g4 hwl
  have ub := g1.u
  have bt := g2.1
  have bt' := i4.1
  have hr := zf2 sz xs top (l : Int) addr zam ⟨by omega, by omega⟩ ha (by omega) (by omega) hw g1.s ub
  rw [show za6 sz xs addr zam (l : Int) top = (t', (l' : Int)) by unfold za6; rw [Int.toNat_natCast, i1]] at hr
  rw [i1] at g7
  have g7 : (l' : Int) ≤ zam + (n : Int) := g7
  have hi := idx_bd addr (l' : Int)
  have hstop : ((l' : Int) = zam ∨ zat (atM sz xs t' (idx addr (l' : Int))) = false) → R = (xs, f, (t', (l' : Int)), 0) := fun hor => by
    rw [← g6]
    cases n with
    | zero => show (xs, f, zaq sz xs addr zam l top, 0) = _; rw [i1]
    | succ n => unfold toN; rw [i1, if_pos hor]
  have hgo : ¬ ((l' : Int) = zam ∨ zat (atM sz xs t' (idx addr (l' : Int))) = false) → ∃ m, n = m + 1 ∧ R = if f = 0 then (xs, f, (t', (l' : Int)), 8) else toN sz cd addr zam top l m (zko sz xs t' (idx addr (l' : Int)) (l' : Int) (atM sz xs t' (idx addr (l' : Int))) (cd + tzI f)) (zbk f (tzI f) 1 0) := fun hor => by
    cases n with
    | zero => exact absurd (.inl (by omega)) hor
    | succ n => exact ⟨n, rfl, by rw [← g6, zyf, i1, if_neg hor]⟩
  have h3 := zih (atM sz xs t' (idx addr (l' : Int)))
  have hk := g1.e.k t' _ hi
  obtain ⟨q, hq⟩ : ∃ q, q = atM sz xs t' (idx addr (l' : Int)) := ⟨_, rfl⟩
  unfold zps at hr
  rw [show (t', (l' : Int)).1 = t' from rfl, show (t', (l' : Int)).2 = (l' : Int) from rfl] at hr
  by_cases c1 : (l' : Int) = zam
  · have e := hstop (.inl c1)
    subst e
    have hV : V = [zbt sz xs, .ag [cu cd, ci cp, cu f], .ag (zb0 t' (l' : Int) (atM sz xs t' (idx addr (l' : Int)))), ii 0] := hV
    rw [← hq] at hV hr h3
    subst hV
    repeat (first | (refine zah rfl ?_; first | refine zai ?_ | refine gdr (zaa rfl rfl rfl (hr) (by kernel_rfl)) ?_) | (refine hK _ ?_; clear hK K) | refine zac rfl ?_ | refine zas (by kernel_rfl) (by kernel_rfl) rfl ?_ | exact zaj (show zau _ _ _ = some _ by kernel_rfl) | refine zag rfl rfl ?_ | refine zaf ?_ | refine zab (fun K hK => ?_))
  · cases hlf : zat (atM sz xs t' (idx addr (l' : Int))) with
    | false =>
      have e := hstop (.inr hlf)
      subst e
      have hV : V = [zbt sz xs, .ag [cu cd, ci cp, cu f], .ag (zb0 t' (l' : Int) (atM sz xs t' (idx addr (l' : Int)))), ii 0] := hV
      rw [hlf] at h3
      rw [← hq] at hV hr h3
      subst hV
      repeat (first | (refine zah rfl ?_; first | refine zai ?_ | refine gdr (zaa rfl rfl rfl (hr) (by kernel_rfl)) ?_ | refine gdr (zaa rfl rfl rfl (h3) (by kernel_rfl)) ?_) | (refine hK _ ?_; clear hK K) | refine zac rfl ?_ | refine zas (by kernel_rfl) (by kernel_rfl) rfl ?_ | exact zaj (show zau _ _ _ = some _ by kernel_rfl) | refine zag rfl rfl ?_ | refine zaf ?_ | refine zab (fun K hK => ?_))
    | true =>
      rw [hlf] at h3
      obtain ⟨m, rfl, e⟩ := hgo (by rw [hlf]; rintro (e | e); exact c1 e; cases e)
      have hbad : zdt (atM sz xs t' (idx addr (l' : Int))) (l' : Int) = false := by
        rcases hk with e | ⟨_, _, ⟨_, e⟩ | ⟨e, _⟩⟩
        · rw [e] at hlf; cases hlf
        · rw [i5] at e; exact e
        · rw [(zbz e).2.2] at hlf; cases hlf
      by_cases c4 : f = 0
      · rw [if_pos c4] at e
        subst e
        subst c4
        have hV : V = [zbt sz xs0, .ag [cu cd, ci cp, cu f0], .ag (zb0 0 0 zP), ii 8] := hV
        subst hV
        have hlo := z1d cd cp sz xs t' (l' : Int) q addr ⟨by omega, by omega⟩ ⟨by omega, by omega⟩
        rw [← hq] at hr h3
        repeat (first | (refine zah rfl ?_; first | refine zai ?_ | refine gdr (zaa rfl rfl rfl (hr) (by kernel_rfl)) ?_ | refine gdr (zaa rfl rfl rfl (h3) (by kernel_rfl)) ?_ | refine gdr (zaa rfl rfl rfl (hlo) (by kernel_rfl)) ?_) | (refine hK _ ?_; clear hK K) | refine zac rfl ?_ | refine zas (by kernel_rfl) (by kernel_rfl) rfl ?_ | exact zaj (show zau _ _ _ = some _ by kernel_rfl) | refine zag rfl rfl ?_ | refine zae rfl rfl ?_ | refine zaf ?_ | refine zal ?_ | refine zab (fun K hK => ?_))
      · rw [if_neg c4] at e
        obtain ⟨a0, a1, a2, a3⟩ := zc8 g1 c4
        clear hk hgo hstop
        obtain ⟨p, rfl⟩ := Nat.exists_eq_add_one_of_ne_zero (show l' ≠ 0 from fun e => c1 (by rw [e] at i3 ⊢; exact Int.le_antisymm hw i3))
        have hT := zvk g1 c4 i4 g3 hi i5 (by omega) rfl hlf hbad
        obtain ⟨s1, s2⟩ := zvm g1 c4 addr zam hw i4 i5 (by omega) (by omega) hlf hbad
        have hre := (i7 _ s1).trans s2
        have hsl := zvl sz xs t' (idx addr ((p + 1 : Nat) : Int)) ((p + 1 : Nat) : Int) (atM sz xs t' (idx addr ((p + 1 : Nat) : Int))) (cd + tzI f)
        have hlo : Ok 138 [zbt sz xs, .ag [cu cd, ci cp, cu f], .ag (zb0 t' ((p + 1 : Nat) : Int) (atM sz xs t' (idx addr ((p + 1 : Nat) : Int)))), iu addr] (.tu [zbt sz (zko sz xs t' (idx addr ((p + 1 : Nat) : Int)) ((p + 1 : Nat) : Int) (atM sz xs t' (idx addr ((p + 1 : Nat) : Int))) (cd + tzI f)), .ag [cu cd, ci cp, cu (zbk f (tzI f) 1 0)], ii 0]) := by
          rcases (by omega : p = 0 ∨ p = 1) with rfl | rfl
          · exact zyd g1 c4 (by omega) ha i4 rfl hlf hbad
          · exact zye g1 c4 (by omega) ha i4 rfl hlf hbad
        have htop := (if_neg (a0 _ g2).2 : upL lv (cd + tzI f) (((p + 1 : Nat) : Int) - 1) top = lv top).trans g4
        generalize zko sz xs t' (idx addr ((p + 1 : Nat) : Int)) ((p + 1 : Nat) : Int) (atM sz xs t' (idx addr ((p + 1 : Nat) : Int))) (cd + tzI f) = xs2 at *
        rw [← hq] at hr h3 hlo
        repeat (first | (refine zah rfl ?_; first | refine zai ?_ | refine gdr (zaa rfl rfl rfl (hr) (by kernel_rfl)) ?_ | refine gdr (zaa rfl rfl rfl (h3) (by kernel_rfl)) ?_ | refine gdr (zaa rfl rfl rfl (hlo) (by kernel_rfl)) ?_) | (refine hK _ ?_; clear hK K) | refine zac rfl ?_ | refine zas (by kernel_rfl) (by kernel_rfl) rfl ?_ | refine zae rfl rfl ?_ | refine zaf ?_ | refine zal ?_ | refine zab (fun K hK => ?_))
        exact ⟨(m, xs2, zbk f (tzI f) 1 0, upL lv (cd + tzI f) (((p + 1 : Nat) : Int) - 1)), ⟨hT, (a0 _ g2).1, (a0 _ g3).1, htop, by show xs2.length + 513 * m ≤ 100000; omega, e.symm, by show (zaq sz xs2 addr zam l top).2 ≤ zam + (m : Int); rw [hre]; show (p : Int) ≤ _; omega⟩, by show m < m + 1; omega, zao _ _ ⟨by kernel_rfl, by kernel_rfl, by kernel_rfl, by kernel_rfl, by kernel_rfl, by kernel_rfl, by kernel_rfl, by kernel_rfl, by kernel_rfl, by kernel_rfl, by kernel_rfl, by kernel_rfl, trivial⟩ ⟨by kernel_rfl, by kernel_rfl, by kernel_rfl, by kernel_rfl, by kernel_rfl, by kernel_rfl, by kernel_rfl, trivial⟩ (by kernel_rfl)⟩
end Go.Proofs.YtomeaibdedaldaaGreatDoor.LjC
namespace Go.Proofs.YtomeaibdedaldaaGreatDoor.Ax
open Go.RowKit MemL RegR MemC MemC3 PutC LaA IterE PteSpec BitsC OkS Go
section
variable {P : Program} {X : Cx} {S : St} {τ : Nat → Value} {a : Act} {w : World}
theorem zob {G : World → Prop} {N : Nat} {W0 : World} {A : Nat → Prop} {hG : ∀ w, Below W0.heap.size W0 w → G w} {fn : Func} {m : Cm} {D : Nat} {W : World} (hres : zep N fn.results.toList = true) (hcl : zb7 m = true) (hkb : Kept (Cx.of N W0 A G hG).K (Cx.of N W0 A G hG).W0 W) (hlt : D < W.heap.size) (hDW : W0.heap.size ≤ D) (hK : W.heap[D]? = some (.deferred (some [])))
    {S' : St} {τ' : Nat → Value} {a' : Act} {w' : World} (s : SimT (cxD (Cx.of N W0 A G hG) W D hkb hlt) S' τ' a' w') (hra : zau P fn S' = some (.m m)) : LeavesInM Fence.wide 5 P fn a'.tmps (zpv W0 A (.m m)) a'.defers .returning w' := by
  have hK' : w'.heap[D]? = some (.deferred (some [])) := (s.bel.block D (.inr rfl)).trans hK
  let X2 : Cx := { cxD (Cx.of N W0 A G hG) W D hkb hlt with
    K := (Cx.of N W0 A G hG).K
    hK := fun g hg => Nat.lt_of_lt_of_le ((Cx.of N W0 A G hG).hK g hg) hkb.size
    hG := fun w h => hG w ((hkb.trans h).below (fun _ h => h)) }
  have s2 : SimT X2 S' τ' a' w' := ⟨s.size, s.nodef, s.bel.mono fun _ => .inl, s.tm, s.hp, fun b g hb ho => ⟨fun k => (s.own b g hb ho).1 (.inl k), (s.own b g hb ho).2⟩, s.sep, s.one, fun p hp => by cases hp⟩
  have s3 : SimT X2 S' τ' a' (w'.putObj D (.deferred none)) := zjl s2 (grownBy_putObj' w' D (.deferred none)) (fun r e => by cases e; exact ⟨⟨_, hK', rfl⟩, fun k => by
    have : D < W0.heap.size := (Cx.of N W0 A G hG).hK D k
    omega⟩)
  have b3 : Below W0.heap.size W0 (w'.putObj D (.deferred none)) := by
    have b1 : Below W0.heap.size W0 W := hkb.below fun _ h => h
    have b2 : Below W0.heap.size W w' := s.bel.below fun _ h => .inl h
    exact (b1.trans b2).trans ((Below.refl _ _).grown (grownBy_putObj' w' D (.deferred none)) (Nat.le_trans b1.size b2.size) (fun k e => by cases e; exact hDW))
  have hrun : ∃ v, (results fn a'.tmps).run P (w'.putObj D (.deferred none)) = .ok v (w'.putObj D (.deferred none)) ∧ zpv W0 A (.m m) (.returned v) (w'.putObj D (.deferred none)) := by
    unfold zau at hra
    split at hra
    · rename_i m' hm
      cases hra
      obtain ⟨vs', h1, h2⟩ := zel s3 _ _ hres hm
      obtain ⟨v, rfl⟩ : ∃ v, vs' = [v] := by
        cases vs' with
        | nil => exact h2.elim
        | cons v l => cases l with | nil => exact ⟨v, rfl⟩ | cons _ _ => exact h2.2.elim
      refine ⟨v, ?_, v, rfl, b3, (zfg (E := ⟨_, _, τ', _⟩) (F := en0 (fun g => A g ∨ W0.heap.size ≤ g) (w'.putObj D (.deferred none))) rfl (fun g _ hg => hg) _ _ hcl h2.1 : Cm.R _ _ _)⟩
      rw [zc4, Array.mapM_eq_mapM_toList]
      simp only [Sem.run_bind, Sem.run_map, h1, Result.andThen_ok, Sem.run_pure]
      rfl
    · cases hra
    · cases hra
  obtain ⟨v, hv, hM⟩ := hrun
  rw [s.nodef]
  exact ⟨by simp, .inl ⟨_, _, rfl, run_takeDeferred hK', ⟨_, hv, hM⟩⟩⟩
theorem zqd {G : World → Prop} {N : Nat} {W0 : World} {A : Nat → Prop} {hG : ∀ w, Below W0.heap.size W0 w → G w} {fn : Func} {rest : Code} {m : Cm} {D : Nat} {W : World} (hres : zep N fn.results.toList = true) (hcl : zb7 m = true) (hs : SimT (Cx.of N W0 A G hG) S τ a W) (hDW : W0.heap.size ≤ D) (hK : W.heap[D]? = some (.deferred (some [])))
    (h : ∀ (hk : Kept (Cx.of N W0 A G hG).K (Cx.of N W0 A G hG).W0 W) (hD : D < W.heap.size), Aw P (cxD (Cx.of N W0 A G hG) W D hk hD) rest (fun e S' => (e = .normal ∨ e = .ret) ∧ zau P fn S' = some (.m m)) S) :
    rest.wp P (bodyPostM Fence.wide 5 P fn (zpv W0 A (.m m))) { a with defers := { target := .collected D, args := #[] } :: a.defers } W := by
  have hlt : D < W.heap.size := (Array.getElem?_eq_some_iff.1 hK).1
  have s1 := zpu hs rfl ⟨_, hK, rfl⟩ hlt
  refine wp_mono (zst rfl (h hs.bel hlt) ⟨_, s1⟩) ?_
  intro e a' w' ⟨S', ⟨he, hra⟩, τ', s⟩
  have key := zob hres hcl hs.bel hlt hDW hK s hra
  rcases he with rfl | rfl
  · exact key
  · exact key
theorem zv1 {G : World → Prop} {N : Nat} {W0 : World} {A : Nat → Prop} {hG : ∀ w, Below W0.heap.size W0 w → G w} {fn : Func} {m : Cm} {D : Nat} {W : World} {Q : Exit → Act → World → Prop} (hres : zep N fn.results.toList = true) (hcl : zb7 m = true) (hs : SimT (Cx.of N W0 A G hG) S τ a W) (hDW : W0.heap.size ≤ D) (hK : W.heap[D]? = some (.deferred (some [])))
    (hra : zau P fn S = some (.m m)) (hQ : ∀ a' w', LeavesInM Fence.wide 5 P fn a'.tmps (zpv W0 A (.m m)) a'.defers .returning w' → Q .ret a' w') :
    Code.ret.wp P Q { a with defers := { target := .collected D, args := #[] } :: a.defers } W := by
  have hlt : D < W.heap.size := (Array.getElem?_eq_some_iff.1 hK).1
  have s1 := zpu hs rfl ⟨_, hK, rfl⟩ hlt
  exact wp_ret (hQ _ _ (zob hres hcl hs.bel hlt hDW hK s1 hra))
set_option maxHeartbeats 1000000 in
theorem z3p {X : Cx} {S : St} {τ0 : Nat → Value} {a : Act} {w : World} {t p1 p2 : Tmp} {assign body : Code} {Q : Exit → Act → World → Prop} {sz f : Int} {xs : List (Int × Int)} (hf : 0 ≤ f ∧ f < 17592186044416) (hs : Srt xs) (hu : Uw xs)
    (hdf : X.df = []) (ts : List (Nat × Nat)) (ns : List Nat) (n1 n2 : Nat) (bs : List (Nat × Hs)) (mid : Ie sz xs f → St)
    (hS : SimT (cxP X τ0 ns) S τ0 a w) (htN : t < X.N) (hcl : S.tm t = .m (.c (.cl 166 [n1, n2])))
    (hts : ∀ p ∈ ts, S.tm p.1 = .m (.c (.p p.2 0)) ∧ p.2 ∈ ns ∧ p.1 < X.N) (hns : ∀ b ∈ ns, ∃ cs, S.hp b = .live (.box cs)) (hb0 : EqB S bs) (m1 : n1 ∈ ns) (m2 : n2 ∈ ns)
    (hbs : (bs.all (fun p => (idK p.2).all (znf · bs)) && ns.all (fun b => znf b bs)) = true)
    (hn1 : look Hs.fresh bs n1 = .live (.box [.v (.int .u64 sz), .s xs.length 2 (fl xs)])) (hn2 : look Hs.fresh bs n2 = .live (.box [.v (.int .u64 f)]))
    (hmid : ∀ x, EqB (mid x) bs) (hself : EqB (St.of [] bs) bs)
    (hA : ∀ (W : World) (l : Nat) (hk : Kept X.K X.W0 W) (x : Ie sz xs f), Aw Tryz.prog (cxR X W l τ0 ns hk) assign (zkg (fun S' => Sub (cxR X W l τ0 ns hk) S' (mid x)) z4a) ((St.of (ptT ts) bs).two p1 p2 (.m (.c (.v (.int .i64 (x.1 : Int))))) (.m (.ag (atM sz xs f x.1).ce))))
    (hB : ∀ (W : World) (l : Nat) (hk : Kept X.K X.W0 W) (x : Ie sz xs f), Aw Tryz.prog (cxR X W l τ0 ns hk) body (fun e S' => e = .ret ∧ Sub (cxR X W l τ0 ns hk) S' (St.of (ptT []) bs)) (mid x))
    (hdone : ∀ (D : Nat) (W : World), w.heap.size ≤ D → (∀ i : Nat, i < 512 → nzB sz xs f i = false) → Sim (cxP X τ0 ns) (St.of (ptT ts) bs) a W → W.heap[D]? = some (.deferred (some [])) → Q .normal { a with defers := { target := .collected D, args := #[] } :: a.defers } W)
    (hstop : ∀ (D : Nat) (W : World) (x : Ie sz xs f), w.heap.size ≤ D → Sim (cxP X τ0 ns) (St.of (ptT ts) bs) a W → W.heap[D]? = some (.deferred (some [])) → Code.ret.wp Tryz.prog Q { a with defers := { target := .collected D, args := #[] } :: a.defers } W) :
    (Code.rangeFunc (.tmp t) #[p1, p2] assign body).wp Tryz.prog Q a w := by
  have hptr : ∀ b ∈ ns, ∃ g, τ0 b = .pointer (some ⟨g, 0, none⟩) := fun b hb => by
    obtain ⟨cs, e⟩ := hns b hb
    obtain ⟨g, vs, e1, _⟩ := hS.hp b _ e
    exact ⟨g, e1⟩
  obtain ⟨b1, e1⟩ := hptr n1 m1
  obtain ⟨b2, e2⟩ := hptr n2 m2
  have hval : a.eval (.tmp t) = .func (.func 166) #[] #[.pointer (some ⟨b1, 0, none⟩), .pointer (some ⟨b2, 0, none⟩)] := by
    have := hS.tm t htN
    rw [hcl] at this
    have this : a.tmps.getD t undef = .func (.func 166) #[] ([n1, n2].map τ0).toArray := this.1
    show a.tmps.getD t undef = _
    rw [this]; simp [e1, e2]
  have hts' : ∀ p ∈ ts, p.2 ∈ ns ∧ a.tmps.getD p.1 undef = τ0 p.2 ∧ ∃ g, τ0 p.2 = .pointer (some ⟨g, 0, none⟩) := fun p hp => by
    obtain ⟨q1, q2, q3⟩ := hts p hp
    have := hS.tm p.1 q3
    rw [q1] at this
    obtain ⟨_, g, r1, r2⟩ := this
    have r1 : τ0 p.2 = .pointer (some ⟨g, 0, none⟩) := r1
    exact ⟨q2, r2.trans r1.symm, g, r1⟩
  have hbs1 : (bs.all fun p => (idK p.2).all (znf · bs)) = true := by rw [Bool.and_eq_true] at hbs; exact hbs.1
  have hbs2 : (ns.all fun b => znf b bs) = true := by rw [Bool.and_eq_true] at hbs; exact hbs.2
  have hent : ∀ {S' : St} {τ' : Nat → Value} {a' : Act} {W' : World}, SimT (cxP X τ0 ns) S' τ' a' W' → EqB S' bs → Ent sz xs f b1 b2 W' := fun {S' τ' a' W'} s h => by
    have hl : ∀ n v, look Hs.fresh bs n = .live v → S'.hp n = .live v := fun n v hv => by
      rcases zlr h n with e | e
      · rw [e] at hv; cases hv
      · rw [← e]; exact hv
    exact zzb s (hl _ _ hn1) (hl _ _ hn2) m1 m2 e1 e2
  have hE0 : Ent sz xs f b1 b2 w := hent hS hb0
  have hszW : X.W0.heap.size ≤ w.heap.size := hS.bel.size
  have hgr : ∀ (S' : St) (a' : Act), OwnFrom w.heap.size (fun (_ : Unit) W => Sim (cxP X τ0 ns) S' a' W) := fun S' a' _ W W' row ⟨τ', s⟩ hg hr => ⟨τ', zjl s hg fun r e => ⟨(hr r e).2, fun k => by
    have := X.hK r k; have := (hr r e).1; omega⟩⟩
  have hI0 : Sim (cxP X τ0 ns) (St.of (ptT ts) bs) a w := zf3 ⟨τ0, hS⟩ ts bs hb0 hbs1 hbs2 hts' hS.size hS.nodef
  refine (wpIn_wide (n := 5)).1 (wpIn_rangeFunc_ownH (w0 := w) rfl (by omega) (gf := 166) hval trivial (enters_of Tryz.func166 (by kernel_rfl) rfl)
    (znx 4 (by omega) sz xs f b1 b2 w hE0 hf hs hu) KpE.trans (fun W l o o' _ hl ho _ => KpE.put W l o o' hl ho) (Below.refl _ _) (fun _ => rfl)
    (fun pre W => pre = [] ∧ Sim (cxP X τ0 ns) (St.of (ptT ts) bs) a W) (fun c pre W => c = .ret ∧ Nonempty (Ie sz xs f) ∧ Sim (cxP X τ0 ns) (St.of (ptT ts) bs) a W) (fun s W W' row hi hg hr => ⟨hi.1, hgr _ _ () W W' row hi.2 hg hr⟩) (fun c s W W' row hi hg hr => ⟨hi.1, hi.2.1, hgr _ _ () W W' row hi.2.2 hg hr⟩) ⟨rfl, hI0⟩
    (fun x a' W => Sim (cxP X τ0 ns) (mid x) a' W) (fun x a' _ W W' row hi hg hr => hgr _ _ () W W' row hi hg hr) ?_ ?_ ?_ ?_)
  · intro l pre x W K ⟨hp, hI⟩ hK
    obtain ⟨τ1, s1⟩ := hI
    have hk : Kept X.K X.W0 W := s1.bel
    have s2 := zu5 (p1 := p1) (p2 := p2) (v1 := .m (.c (.v (.int .i64 (x.1 : Int))))) (v2 := .m (.ag (atM sz xs f x.1).ce)) (u1 := .int .i64 (x.1 : Int)) (u2 := z15 (atM sz xs f x.1)) (show (cxP X τ0 ns).df = [] from hdf) s1 rfl ⟨_, rfl, rfl, rfl, rfl, rfl, rfl, rfl, rfl, rfl, rfl, rfl, rfl, trivial⟩
    have s3 := zg1 (l := l) s2 hk
    have ez : (#[p1, p2].zip (z16 sz xs f x)).foldl (fun t (p, v) => t.setIfInBounds p v) a.tmps = (a.tmps.setIfInBounds p1 (.int .i64 (x.1 : Int))).setIfInBounds p2 (z15 (atM sz xs f x.1)) := by simp [z16]
    rw [ez]
    refine wpIn_mono (hA W l hk x _ W ⟨_, s3⟩ _) ?_
    intro e a' W' ⟨S', q, s4⟩
    cases e with
    | normal =>
      obtain ⟨τ5, s5⟩ := q _ _ s4
      have s6 := zg2 s5
      exact hK a' W' (ze3 s5 _) ⟨s5.bel.size, fun _ => hent s6 (hmid _)⟩ ⟨hp, zf3 ⟨_, s6⟩ ts _ (hmid x) hbs1 hbs2 hts' hS.size hS.nodef⟩ ⟨_, s6⟩
    | _ => exact q.elim
  · intro l pre x a' W hl hr hI ⟨τ2, s2⟩ hlen
    have hk : Kept X.K X.W0 W := s2.bel
    have s3 := zg1 (l := l) s2 hk
    refine wpIn_mono (hB W l hk x _ W ⟨_, s3⟩ _) ?_
    rintro e a2 W' ⟨S', ⟨rfl, q⟩, s4⟩
    obtain ⟨τ5, s5⟩ := q _ _ s4
    have s6 := zg2 s5
    have hq := zjm (S := St.of [] bs) (S' := St.of (ptT []) bs) rfl _ hself
    exact ⟨ze3 s5 _, rfl, ⟨x⟩, zf3 ⟨_, s6⟩ ts _ hq hbs1 hbs2 hts' hS.size hS.nodef⟩
  · intro D ys W hD hys ⟨hnil, hI⟩ hK
    refine hdone D W hD (fun i hi => ?_) hI hK
    subst hnil
    have hys : [] = (List.range 512).filter (nzB sz xs f) := hys
    cases e : nzB sz xs f i with
    | false => rfl
    | true =>
      have : i ∈ (List.range 512).filter (nzB sz xs f) := List.mem_filter.2 ⟨List.mem_range.2 hi, e⟩
      rw [← hys] at this; cases this
  · rintro D c pre W hD _ ⟨rfl, ⟨x⟩, hI⟩ hK
    exact wpIn_wide.2 (hstop D W x hD hI hK)
end
end Go.Proofs.YtomeaibdedaldaaGreatDoor.Ax
namespace Go.Proofs.YtomeaibdedaldaaGreatDoor.LjD
open Go.RowKit Bv VaSpec Base MemL RegR Ax MemC PutC MemC3 TzC OkS SpA SpB SpC SpF LaA IterE LaC LaD LiC
open BitsC PteSpec
set_option maxRecDepth 10000
set_option maxHeartbeats 1000000
def tsE : List (Nat × Nat) := [(2, 2), (4, 4)]
def nsE : List Nat := [2, 4, 1001, 1002]
def bsE (sz : Int) (xs : List (Int × Int)) (top : Int) : List (Nat × Hs) := [(2, .live (.box [cu sz, .s xs.length 2 (fl xs)])), (4, .live (.box [cb false])), (1001, .live (.box [cu sz, .s xs.length 2 (fl xs)])), (1002, .live (.box [cu top]))]
theorem zyg (sz : Int) (xs : List (Int × Int)) (top : Int) (b : Bool) (ht : 0 ≤ top ∧ top < 17592186044416) (hs : Srt xs) (hu : Uw xs) (hb1 : (∀ i : Nat, i < 512 → nzB sz xs top i = false) → b = true) (hb0 : (∃ i : Nat, i < 512 ∧ nzB sz xs top i = true) → b = false) :
    Ok 193 [zbt sz xs, iu top] (.m (ib b)) := by
  refine zfp 10 Tryz.func193 rfl rfl rfl ?_ GG.to
  intro W A hG
  refine zcj (fun K hK => ?_)
  repeat (first | (refine zah rfl ?_; first | refine zai ?_) | (refine hK _ ?_; clear hK K) | refine zac rfl ?_)
  refine zu6 ?_
  refine zcj (fun K hK => ?_)
  repeat (first | (refine zah rfl ?_; first | refine zai ?_ | refine gdr (ze4 (n1 := 1001) (n2 := 1002) rfl rfl rfl rfl rfl rfl) ?_) | (refine hK _ ?_; clear hK K) | refine zac rfl ?_)
  refine zjn ?_
  refine zjo (zao [(2, .m (.c (.p 2 0))), (4, .m (.c (.p 4 0))), (7, .m (.c (.cl 166 [1001, 1002])))] (bsE sz xs top)
    ⟨rfl, rfl, rfl, trivial⟩ ⟨rfl, rfl, rfl, rfl, trivial⟩ rfl) ?_
  intro a w ⟨τ0, s⟩
  have s' := zpt (ns := nsE) s (by
    intro b hb
    simp only [nsE, List.mem_cons, List.not_mem_nil, or_false] at hb
    rcases hb with rfl | rfl | rfl | rfl
    all_goals exact ⟨_, rfl⟩)
  refine z3p ht hs hu rfl tsE nsE 1001 1002 (bsE sz xs top) (fun x => St.of [(2, .m (.c (.p 2 0))), (4, .m (.c (.p 4 0)))] (bsE sz xs top)) s' (show 7 < 10 by decide) rfl
    (by
      intro p hp
      simp only [tsE, List.mem_cons, List.not_mem_nil, or_false] at hp
      rcases hp with rfl | rfl
      all_goals exact ⟨rfl, by simp [nsE], by show _ < 10; decide⟩)
    (by
      intro b hb
      simp only [nsE, List.mem_cons, List.not_mem_nil, or_false] at hb
      rcases hb with rfl | rfl | rfl | rfl
      all_goals exact ⟨_, rfl⟩)
    ⟨rfl, rfl, rfl, rfl, trivial⟩ (by simp [nsE]) (by simp [nsE]) rfl rfl rfl (fun _ => ⟨rfl, rfl, rfl, rfl, trivial⟩) ⟨rfl, rfl, rfl, rfl, trivial⟩ ?_ ?_ ?_ ?_
  · intro W l hk x
    repeat (first | refine zal ?_)
    exact zao _ _ ⟨rfl, rfl, trivial⟩ ⟨rfl, rfl, rfl, rfl, trivial⟩ rfl
  · intro W' l hk x
    repeat (first | (refine zah rfl ?_; first | refine zai ?_) | (refine hK _ ?_; clear hK K) | refine zac rfl ?_ | refine zaf ?_ | refine zab (fun K hK => ?_))
    exact zaj ⟨rfl, zao _ _ trivial ⟨rfl, rfl, rfl, rfl, trivial⟩ rfl⟩
  · intro D W hD hz hI hK
    have hb := hb1 hz
    subst hb
    obtain ⟨τ1, s1⟩ := hI
    have s2 : SimT (Cx.of 10 _ A GG hG) (St.of (ptT tsE) (bsE sz xs top)) τ1 a W := ⟨s1.size, s1.nodef, s1.bel, s1.tm, s1.hp, s1.own, s1.sep, s1.one, fun p hp => by cases hp⟩
    refine zqd rfl rfl s2 (Nat.le_trans s.bel.size hD) hK (fun hk hD => ?_)
    repeat (first | (refine zah rfl ?_; first | refine zai ?_) | (refine hK _ ?_; clear hK K) | refine zac rfl ?_ | refine zab (fun K hK => ?_))
    exact zaj ⟨.inr rfl, rfl⟩
  · intro D W x hD hI hK
    have hb := hb0 ⟨x.1, x.2.1, by have := x.2.2; unfold nzB; simpa using this⟩
    subst hb
    obtain ⟨τ1, s1⟩ := hI
    have s2 : SimT (Cx.of 10 _ A GG hG) (St.of (ptT tsE) (bsE sz xs top)) τ1 a W := ⟨s1.size, s1.nodef, s1.bel, s1.tm, s1.hp, s1.own, s1.sep, s1.one, fun p hp => by cases hp⟩
    exact zv1 rfl rfl s2 (Nat.le_trans s.bel.size hD) hK rfl (fun a' w' h => h)
theorem zs4 {cd cp sz f sh : Int} {xs : List (Int × Int)} {lv : Int → Int} (h : LiA.TI cd cp sz xs f sh lv) {g : Int} (hg : cd ≤ g ∧ g < cd + cp) : Ok 193 [zbt sz xs, iu g] (.m (ib (zdu xs g))) := by
  obtain ⟨e1, e2⟩ := zme h hg
  have b1 := h.bd
  have b2 := h.bp
  refine zyg sz xs g _ ⟨by omega, by omega⟩ h.s h.u (fun hz => ?_) (fun ⟨i, hi, hn⟩ => ?_)
  · cases c : zdu xs g with
    | true => rfl
    | false =>
      obtain ⟨j, hj, hne⟩ := e2 c
      have := hz j.toNat (by omega)
      unfold nzB at this
      rw [show ((j.toNat : Nat) : Int) = j by omega] at this
      simp at this
      exact absurd this hne
  · cases c : zdu xs g with
    | false => rfl
    | true =>
      have := e1 c (i : Int) ⟨by omega, by omega⟩
      unfold nzB at hn
      simp at hn
      exact absurd this hn
end Go.Proofs.YtomeaibdedaldaaGreatDoor.LjD
namespace Go.Proofs.YtomeaibdedaldaaGreatDoor.Ax
open Go.RowKit MemL RegR Go
variable {P : Program} {ops : Array Oper} {X : Cx} {o : Oper} {S : St}
def CallsE (P : Program) (f : FuncId) (args : Array Value) (w : World) (R : Ending → World → Prop) : Prop := ∀ u, CallsD P f args u w fun e u' w' => u' = u ∧ R e w'
theorem CallsE.mono {f : FuncId} {args : Array Value} {w : World} {R R' : Ending → World → Prop} (h : CallsE P f args w R) (hr : ∀ e w', R e w' → R' e w') : CallsE P f args w R' := fun u => (h u).mono fun e u' w' k => ⟨k.1, hr e w' k.2⟩
theorem zoc {f : FuncId} {fn : Func} {c : Code} {args : Array Value} {w : World} {R : Ending → World → Prop} (hf : P.funcs[f]? = some fn) (hb : fn.body = some c)
    (h : c.wp P (bodyPost P fn R) { tmps := args ++ Array.replicate (fn.ntmps - args.size) undef, defers := [] } w) : CallsE P f args w R := fun u => callsD_of_wp hf hb h
def zv2 (W : World) (A : Nat → Prop) (τ : Nat → Value) (bs : List Ln) (r : AV) (e : Ending) (w' : World) : Prop := ∃ v, e = .returned v ∧ Kept (fun g => g < W.heap.size ∧ ¬ zok τ bs g) W w' ∧ r.R (en0 (fun g => A g ∨ W.heap.size ≤ g) w') v ∧
      ∀ p ∈ bs, ∃ g us, τ p.1 = .pointer (some ⟨g, 0, none⟩) ∧ Bx w' g us ∧ All2 (Ce.R (en0 (fun g => A g ∨ W.heap.size ≤ g) w')) p.2.2 us.toList
def zin (P : Program) (G : World → Prop) (k : FuncId) (bs : List Ln) (args : List Cm) (r : AV) : Prop :=
  (zce r && bs.all (fun p => p.2.1.all zba && p.2.2.all zba)) = true ∧ (args.flatMap idM).all (fun b => bs.any (fun p => Nat.beq p.1 b)) = true ∧
  ∀ (A : Nat → Prop) (W : World) (τ : Nat → Value) (vs : Array Value), (∀ w, Kept (fun g => g < W.heap.size ∧ ¬ zok τ bs g) W w → G w) →
    (∀ p ∈ bs, ∃ g us, τ p.1 = .pointer (some ⟨g, 0, none⟩) ∧ Bx W g us ∧ All2 (Ce.R (en0 A W)) p.2.1 us.toList ∧ ¬ A g) →
    (∀ p ∈ bs, ∀ q ∈ bs, p.1 ≠ q.1 → ∀ g, occ (τ p.1) = some g → occ (τ q.1) ≠ some g) →
    All2 (Cm.R ⟨A, fun b => ∃ p ∈ bs, p.1 = b, τ, W⟩) args vs.toList → CallsE P k vs W (zv2 W A τ bs r)
theorem zk8 {G : World → Prop} {fn : Func} {bs : List Ln} {args : List Cm} {r : AV} (N : Nat) {A : Nat → Prop} {W : World} {τ : Nat → Value} {vs : Array Value}
    (hcl : (zce r && bs.all (fun p => p.2.1.all zba && p.2.2.all zba)) = true) (hid : (args.flatMap idM).all (fun b => bs.any (fun p => Nat.beq p.1 b)) = true) (hN : args.length + (fn.ntmps - args.length) = N)
    (hG : ∀ w, Kept (fun g => g < W.heap.size ∧ ¬ zok τ bs g) W w → G w)
    (hB : ∀ p ∈ bs, ∃ g us, τ p.1 = .pointer (some ⟨g, 0, none⟩) ∧ Bx W g us ∧ All2 (Ce.R (en0 A W)) p.2.1 us.toList ∧ ¬ A g)
    (hsep : ∀ p ∈ bs, ∀ q ∈ bs, p.1 ≠ q.1 → ∀ g, occ (τ p.1) = some g → occ (τ q.1) ≠ some g)
    (hR : All2 (Cm.R ⟨A, fun b => ∃ p ∈ bs, p.1 = b, τ, W⟩) args vs.toList) : Sim (cxW N W A G τ bs hG) (zfa bs args) { tmps := vs ++ Array.replicate (fn.ntmps - vs.size) undef, defers := [] } W := by
  simp only [Bool.and_eq_true, List.all_eq_true] at hcl
  obtain ⟨hcr, hcb⟩ := hcl
  have hlen := All2.length _ _ hR
  simp only [Array.length_toList] at hlen
  obtain ⟨τ', hτ'⟩ : ∃ τ' : Nat → Value, τ' = fun b => cond (bs.any fun p => Nat.beq p.1 b) (τ b) (.bool false) := ⟨_, rfl⟩
  have ht : ∀ p ∈ bs, τ' p.1 = τ p.1 := fun p hp => by
    rw [hτ']
    have : (bs.any fun q => Nat.beq q.1 p.1) = true := List.any_eq_true.2 ⟨p, hp, Nat.beq_refl _⟩
    simp only [this, cond]
  have hlive : ∀ b q, look .fresh (bs.map fun p => (p.1, Hs.live (.box p.2.1))) b = .live q → ∃ p ∈ bs, p.1 = b ∧ q = .box p.2.1 := fun b q hq => by
    obtain ⟨x, h1, h2, h3⟩ := look_mem _ b _ hq (fun e => by cases e)
    obtain ⟨p, hp, rfl⟩ := List.mem_map.1 h1
    exact ⟨p, hp, h2, by cases h3; rfl⟩
  have halw : ∀ g, A g → alw (cxW N W A G τ bs hG) (zfa bs args).hp τ' g := fun g hg => ⟨.inl hg, fun b ⟨q, hq⟩ ho => by
    obtain ⟨p, hp, rfl, _⟩ := hlive b q hq
    obtain ⟨g', us, e1, _, _, e4⟩ := hB p hp
    rw [ht p hp, e1] at ho
    cases ho; exact e4 hg⟩
  have hS : Sim (cxW N W A G τ bs hG) (zfa bs args) { tmps := vs ++ Array.replicate (fn.ntmps - vs.size) undef, defers := [] } W := by
    refine ⟨τ', by simp [← hN, hlen, cxW], rfl, Kept.refl _ _, fun t ht' => ?_, fun b k hk => ?_, fun b g hk ho => ?_, fun b b' g hne hk hk' ho => ?_, fun b => ?_, fun q hq => ?_⟩
    · show AV.R _ (match args[t]? with | some m => .m m | none => .m (.c (.v undef))) _
      have ht' : t < N := ht'
      by_cases hlt : t < args.length
      · obtain ⟨v, hv, hr⟩ := All2.get _ _ t _ hR (List.getElem?_eq_getElem hlt)
        rw [List.getElem?_eq_getElem hlt]
        have e : (vs ++ Array.replicate (fn.ntmps - vs.size) undef).getD t undef = v := by
          rw [Array.getD_eq_getD_getElem?, Array.getElem?_append_left (by omega)]
          simp only [Array.getElem?_toList] at hv
          rw [hv]; rfl
        rw [e]
        refine zqm (E := ⟨A, fun b => ∃ p ∈ bs, p.1 = b, τ, W⟩) (F := env (cxW N W A G τ bs hG) (zfa bs args).hp τ' W) ⟨fun b hb' => ?_, fun g _ hg => halw g hg, Nat.le_refl _, fun _ _ _ _ => rfl⟩ _ _ hr
        obtain ⟨p, hp, rfl⟩ := hb'
        refine ⟨?_, ht p hp⟩
        obtain ⟨q, q1, q2, q3⟩ := zjj (d := Hs.fresh) (bs.map fun p => (p.1, Hs.live (.box p.2.1))) (p.1, .live (.box p.2.1)) (List.mem_map.2 ⟨p, hp, rfl⟩)
        show look Hs.fresh (bs.map fun p => (p.1, Hs.live (.box p.2.1))) p.1 ≠ Hs.fresh
        rw [show look Hs.fresh (bs.map fun p => (p.1, Hs.live (.box p.2.1))) p.1 = q.2 from q3]
        obtain ⟨p', _, rfl⟩ := List.mem_map.1 q1
        intro e; cases e
      · rw [List.getElem?_eq_none (by omega)]
        show _ = undef
        rw [Array.getD_eq_getD_getElem?, Array.getElem?_append_right (by omega)]
        rw [Array.getElem?_replicate]; split <;> rfl
    · obtain ⟨p, hp, rfl, rfl⟩ := hlive b k hk
      obtain ⟨g, us, e1, e2, e3, _⟩ := hB p hp
      have := hcb p hp
      exact ⟨g, us, (ht p hp).trans e1, e2, zdc (E := en0 A W) (F := env (cxW N W A G τ bs hG) (zfa bs args).hp τ' W) rfl (fun g _ hg => halw g hg) _ _ (List.all_eq_true.2 this.1) e3⟩
    · obtain ⟨q, hq⟩ := hk
      obtain ⟨p, hp, rfl, rfl⟩ := hlive b q hq
      obtain ⟨g', us, e1, e2, e3, _⟩ := hB p hp
      rw [ht p hp] at ho
      refine ⟨fun hk => hk.2 ⟨p, hp, ho⟩, ?_⟩
      rw [e1] at ho; cases ho
      exact e2.lt
    · obtain ⟨q, hq⟩ := hk
      obtain ⟨q', hq'⟩ := hk'
      obtain ⟨p, hp, rfl, rfl⟩ := hlive b q hq
      obtain ⟨p', hp', rfl, rfl⟩ := hlive b' q' hq'
      rw [ht p hp] at ho
      rw [ht p' hp']
      exact hsep p hp p' hp' hne g ho
    · have e0 : τ' b = cond (bs.any fun p => Nat.beq p.1 b) (τ b) (.bool false) := by rw [hτ']
      rw [e0]
      cases e : bs.any fun p => Nat.beq p.1 b with
      | false => rfl
      | true =>
        obtain ⟨p, hp, e'⟩ := List.any_eq_true.1 e
        obtain rfl := Nat.eq_of_beq_eq_true e'
        obtain ⟨g, us, e1, _⟩ := hB p hp
        show (τ p.1).oneCell' = true
        rw [e1]; rfl
    · obtain ⟨p, hp, rfl⟩ := List.mem_map.1 hq
      refine ⟨?_, ht p hp⟩
      obtain ⟨q, q1, q2, q3⟩ := zjj (d := Hs.fresh) (bs.map fun p => (p.1, Hs.live (.box p.2.1))) (p.1, .live (.box p.2.1)) (List.mem_map.2 ⟨p, hp, rfl⟩)
      show look Hs.fresh (bs.map fun p => (p.1, Hs.live (.box p.2.1))) p.1 ≠ Hs.fresh
      rw [show look Hs.fresh (bs.map fun p => (p.1, Hs.live (.box p.2.1))) p.1 = q.2 from q3]
      obtain ⟨p', _, rfl⟩ := List.mem_map.1 q1
      intro e; cases e
  exact hS
def z1e (N : Nat) (W : World) (A : Nat → Prop) (G : World → Prop) (τ : Nat → Value) (bs : List Ln) (hG : ∀ w, Kept (fun g => g < W.heap.size ∧ ¬ zok τ bs g) W w → G w) (ds : List Deferred) : Cx := { cxW N W A G τ bs hG with df := ds }
theorem finW {G : World → Prop} {fn : Func} {bs : List Ln} {r : AV} {N : Nat} {A : Nat → Prop} {W : World} {τ : Nat → Value} {hG : ∀ w, Kept (fun g => g < W.heap.size ∧ ¬ zok τ bs g) W w → G w} {ds : List Deferred} {S' : St} {τe : Nat → Value} {a' : Act} {w' : World}
    (hcr : zce r = true) (hcb : ∀ p ∈ bs, p.2.1.all zba = true ∧ p.2.2.all zba = true) (hres : zep N fn.results.toList = true) (s : SimT (z1e N W A G τ bs hG ds) S' τe a' w') (hr : zau P fn S' = some r) (hE : EndB S' bs) : ∃ v, (results fn a'.tmps).run P w' = .ok v w' ∧ zv2 W A τ bs r (.returned v) w' := by
  have hbx : ∀ p ∈ bs, ∃ g us, τ p.1 = .pointer (some ⟨g, 0, none⟩) ∧ Bx w' g us ∧ All2 (Ce.R (en0 (fun g => A g ∨ W.heap.size ≤ g) w')) p.2.2 us.toList := fun p hp => by
    obtain ⟨cs, e1, e2⟩ := hE.mem p hp
    obtain ⟨g, us, e3, e4, e5⟩ := s.hp p.1 _ e1
    have hpin := (s.pin (p.1, τ p.1) (List.mem_map.2 ⟨p, hp, rfl⟩)).2
    have e6 := zl0 s _ _ e5
    rw [e2] at e6
    have := hcb p hp
    exact ⟨g, us, by rw [← e3]; exact hpin.symm, e4, zdc (E := ⟨_, _, τe, w'⟩) (F := en0 (fun g => A g ∨ W.heap.size ≤ g) w') rfl (fun g _ hg => hg) _ _ this.2 e6⟩
  unfold zau at hr
  split at hr
  · rename_i m hm
    cases hr
    obtain ⟨vs', h1, h2⟩ := zel s _ _ hres hm
    obtain ⟨v, rfl⟩ : ∃ v, vs' = [v] := by
      cases vs' with
      | nil => exact h2.elim
      | cons v l => cases l with | nil => exact ⟨v, rfl⟩ | cons _ _ => exact h2.2.elim
    refine ⟨v, ?_, v, rfl, s.bel, (zfg (E := ⟨_, _, τe, w'⟩) (F := en0 (fun g => A g ∨ W.heap.size ≤ g) w') rfl (fun g _ hg => hg) _ _ hcr h2.1 : Cm.R _ _ _), hbx⟩
    rw [zc4]
    rw [Array.mapM_eq_mapM_toList]
    simp only [Sem.run_bind, Sem.run_map, h1, Result.andThen_ok, Sem.run_pure]
    rfl
  · rename_i ms hne hm
    cases hr
    obtain ⟨vs', h1, h2⟩ := zel s _ _ hres hm
    have hl := All2.length _ _ h2
    have hsz : vs'.length ≠ 1 := fun e => by
      cases ms with
      | nil => simp at hl; omega
      | cons m l => cases l with
        | nil => exact hne m rfl
        | cons _ _ => simp at hl; omega
    refine ⟨.tuple vs'.toArray, ?_, _, rfl, s.bel, ⟨_, rfl, zdg (E := ⟨_, _, τe, w'⟩) (F := en0 (fun g => A g ∨ W.heap.size ≤ g) w') rfl (fun g _ hg => hg) _ _ hcr h2⟩, hbx⟩
    rw [zc4]
    rw [Array.mapM_eq_mapM_toList]
    simp only [Sem.run_bind, Sem.run_map, h1, Result.andThen_ok, Sem.run_pure]
    simp [hsz]
  · cases hr
theorem zjz {G : World → Prop} {k : FuncId} {fn : Func} {c : Code} {bs : List Ln} {args : List Cm} {r : AV} (N : Nat) (hf : P.funcs[k]? = some fn) (hb : fn.body = some c) (hcl : (zce r && bs.all (fun p => p.2.1.all zba && p.2.2.all zba)) = true) (hid : (args.flatMap idM).all (fun b => bs.any (fun p => Nat.beq p.1 b)) = true)
    (hN : args.length + (fn.ntmps - args.length) = N) (hres : zep N fn.results.toList = true)
    (h : ∀ (W : World) (A : Nat → Prop) (τ : Nat → Value) (hG : ∀ w, Kept (fun g => g < W.heap.size ∧ ¬ zok τ bs g) W w → G w), Aw P (cxW N W A G τ bs hG) c (RetW P fn r bs) (zfa bs args)) : zin P G k bs args r := by
  refine ⟨hcl, hid, fun A W τ vs hG hB hsep hR => zoc hf hb ?_⟩
  have hS := zk8 N hcl hid hN hG hB hsep hR
  simp only [Bool.and_eq_true, List.all_eq_true] at hcl
  obtain ⟨hcr, hcb⟩ := hcl
  have hcb : ∀ p ∈ bs, p.2.1.all zba = true ∧ p.2.2.all zba = true := fun p hp => by
    have := hcb p hp
    exact ⟨List.all_eq_true.2 this.1, List.all_eq_true.2 this.2⟩
  refine wp_mono (wpIn_wide.1 (h W A τ hG _ W hS 0)) ?_
  intro e a' w' ⟨S', q, τe, s⟩
  have key : zau P fn S' = some r ∧ EndB S' bs → a'.defers = [] ∧ ∃ v, (results fn a'.tmps).run P w' = .ok v w' ∧ zv2 W A τ bs r (.returned v) w' := fun ⟨hr, hE⟩ => ⟨s.nodef, finW (hG := hG) (ds := []) hcr hcb hres s hr hE⟩
  cases e with
  | normal => exact key q
  | ret => exact key q
  | _ => exact q.elim
theorem zqe {G : World → Prop} {k : FuncId} {fn : Func} {c : Code} {bs : List Ln} {args : List Cm} {r : AV} (N : Nat) (hf : P.funcs[k]? = some fn) (hb : fn.body = some c) (hcl : (zce r && bs.all (fun p => p.2.1.all zba && p.2.2.all zba)) = true) (hid : (args.flatMap idM).all (fun b => bs.any (fun p => Nat.beq p.1 b)) = true)
    (hN : args.length + (fn.ntmps - args.length) = N)
    (h : ∀ (W : World) (A : Nat → Prop) (τ : Nat → Value) (hG : ∀ w, Kept (fun g => g < W.heap.size ∧ ¬ zok τ bs g) W w → G w), Aw2 P (cxW N W A G τ bs hG) c (bodyPostD P fn (zv2 W A τ bs r)) (zfa bs args)) : zb9 P G k bs args r :=
  ⟨hcl, hid, fun A W τ vs hG hB hsep hR => calls_of_wp_defers hf hb (h W A τ hG _ W (zk8 N hcl hid hN hG hB hsep hR))⟩
theorem zqf {k : FuncId} {bs : List Ln} {nm : Nat → Nat} {args : List Cm} {r : AV} {vals : Array Value} {τ : Nat → Value} {a : Act} {w : World} (hS : SimT X S τ a w) (hc : zin P X.G k bs args r) (hb : ∀ p ∈ bs, S.hp (nm p.1) = .live (.box p.2.1)) (hin : z24 nm bs = true)
    (hok : args.all zpq = true) (hR : All2 (Cm.R (env X S.hp τ w)) (args.map (rnM nm)) vals.toList) {d : Option Tmp} {rd : List Rd} :
    CallsE P k vals w fun e w' => ∃ v, e = .returned v ∧ SimT X (S.app d ⟨r, upB nm bs, rd⟩) τ (a.put d v) w' := by
  obtain ⟨c1, c2, hc⟩ := hc
  simp only [Bool.and_eq_true, List.all_eq_true] at c1
  obtain ⟨c1, c3⟩ := c1
  have c3 : ∀ p ∈ bs, p.2.1.all zba = true ∧ p.2.2.all zba = true := fun p hp => by
    have := c3 p hp
    exact ⟨List.all_eq_true.2 this.1, List.all_eq_true.2 this.2⟩
  have hinj : ∀ p ∈ bs, ∀ q ∈ bs, p.1 ≠ q.1 → nm p.1 ≠ nm q.1 := fun p hp q hq hne e => by
    have := List.all_eq_true.1 (List.all_eq_true.1 hin p hp) q hq
    rw [e, Nat.beq_refl] at this
    simp at this
    exact hne this
  have hal : ∀ p ∈ bs, zb5 S.hp (nm p.1) := fun p hp => ⟨_, hb p hp⟩
  have hlent : ∀ g, zok (fun b => τ (nm b)) bs g → ∃ b, zb5 S.hp b ∧ occ (τ b) = some g := fun g ⟨p, hp, e⟩ => ⟨_, hal p hp, e⟩
  refine (hc (alw X S.hp τ) w (fun b => τ (nm b)) vals (fun w' hk => X.hG w' (hS.bel.trans (hk.mono fun g hg => ⟨Nat.lt_of_lt_of_le (X.hK g hg) hS.bel.size, fun hl => by
      obtain ⟨b, h1, h2⟩ := hlent g hl
      exact (hS.own b g h1 h2).1 hg⟩))) (fun p hp => ?_) (fun p hp q hq hne g ho => hS.sep _ _ g (hinj p hp q hq hne) (hal p hp) (hal q hq) ho) ?_).mono ?_
  · obtain ⟨g, us, e1, e2, e3⟩ := hS.hp _ _ (hb p hp)
    exact ⟨g, us, e1, e2, zdc (E := env X S.hp τ w) (F := en0 (alw X S.hp τ) w) rfl (fun _ _ h => h) _ _ (c3 p hp).1 e3, fun hA => hA.2 _ (hal p hp) (by rw [e1]; rfl)⟩
  · refine zuu (E := env X S.hp τ w) (nm := nm) (U := fun b => ∃ p ∈ bs, p.1 = b) (fun b _ => rfl) _ _ hok (fun b hb' => ?_) hR
    obtain ⟨p, hp, e⟩ := List.any_eq_true.1 (List.all_eq_true.1 c2 b hb')
    exact ⟨p, hp, Nat.eq_of_beq_eq_true e⟩
  rintro e w' ⟨v, rfl, hk, hr, hbx⟩
  refine ⟨v, rfl, ?_⟩
  have hal' : ∀ b, zb5 (upd (upB nm bs) S.hp) b → zb5 S.hp b := fun b ⟨q, hq⟩ => by
    rcases zd5 (nm := nm) S.hp bs b with ⟨p, h1, rfl, _⟩ | ⟨_, h2⟩
    · exact hal p h1
    · rw [h2] at hq; exact ⟨q, hq⟩
  have hbel : Kept X.K X.W0 w' := hS.bel.trans (hk.mono fun g hg => ⟨Nat.lt_of_lt_of_le (X.hK g hg) hS.bel.size, fun hl => by
      obtain ⟨b, h1, h2⟩ := hlent g hl
      exact (hS.own b g h1 h2).1 hg⟩)
  have hle : (env X S.hp τ w).le (env X (upd (upB nm bs) S.hp) τ w') := by
    refine ⟨fun i hi => ⟨?_, rfl⟩, fun g _ ha => ⟨ha.1, fun i hi => ha.2 i (hal' i hi)⟩, hk.size, fun g o hg ha => hk.cell (p := ⟨g, o, none⟩) ⟨hg, fun hl => ?_⟩⟩
    · show upd (upB nm bs) S.hp i ≠ .fresh
      rcases zd5 (nm := nm) S.hp bs i with ⟨p, h1, rfl, h3⟩ | ⟨_, h2⟩
      · rw [h3]; intro e; cases e
      · rw [h2]; exact hi
    · obtain ⟨b, h1, h2⟩ := hlent g hl
      exact ha.2 b h1 h2
  have hA' : ∀ g, g < w'.heap.size → (alw X S.hp τ g ∨ w.heap.size ≤ g) → alw X (upd (upB nm bs) S.hp) τ g := fun g _ hg => by
    rcases hg with hg | hg
    · exact ⟨hg.1, fun i hi => hg.2 i (hal' i hi)⟩
    · exact ⟨.inr (Nat.le_trans hS.bsz hg), fun i hi he => by have := (hS.own i g (hal' i hi) he).2; omega⟩
  refine hS.turn (u := upB nm bs) hle hbel (fun i q hq => ?_) (fun i g hi ho => ?_) (fun i j g hij hi hj ho => hS.sep i j g hij (hal' i hi) (hal' j hj) ho) hS.one ?_
  · rcases zd5 (nm := nm) S.hp bs i with ⟨p, h1, rfl, h3⟩ | ⟨h1, h2⟩
    · rw [h3] at hq; cases hq
      obtain ⟨g, us, e1, e2, e3⟩ := hbx p h1
      exact ⟨g, us, e1, e2, zdc (E := en0 (fun g => alw X S.hp τ g ∨ w.heap.size ≤ g) w') (F := env X (upd (upB nm bs) S.hp) τ w') rfl (fun g hg h => hA' g hg h) _ _ (c3 p h1).2 e3⟩
    · rw [h2] at hq
      have hfar : ∀ g, occ (τ i) = some g → w'.heap[g]? = w.heap[g]? := fun g ho => hk.block g ⟨(hS.own i g ⟨q, hq⟩ ho).2, fun ⟨p, hp, e⟩ => hS.sep _ _ g (h1 p hp) (hal p hp) ⟨q, hq⟩ e ho⟩
      have hk' := hS.hp i q hq
      cases q with
      | box cs' =>
        obtain ⟨g', vs', x1, ⟨T', x2⟩, x3⟩ := hk'
        exact ⟨g', vs', x1, ⟨T', (hfar g' (by rw [x1]; rfl)).trans x2⟩, All2.mono (zb3 hle) _ _ x3⟩
      | row e' k' n' xs' =>
        obtain ⟨x0, x1⟩ := hk'
        refine ⟨x0, ?_⟩
        rcases x1 with x1 | ⟨g', cap, cur, y1, y2, y3, y4⟩
        · exact .inl x1
        · exact .inr ⟨g', cap, cur, y1, y2, (hfar g' (by rw [y1]; rfl)).trans y3, y4⟩
  · have := hS.own i g (hal' i hi) ho
    exact ⟨this.1, Nat.lt_of_lt_of_le this.2 hk.size⟩
  · exact zi9 (E := en0 (fun g => alw X S.hp τ g ∨ w.heap.size ≤ g) w') (F := env X (upd (upB nm bs) S.hp) τ w') rfl hA' _ _ c1 hr
theorem zh9 {Q : St → Prop} {Q' : Exit → Act → World → Prop} {l2 : List Nat} {n : Nat} (hQ : ∀ S a w, Q S → Sim X S a w → wpOpsIn (FX X) n P ops Q' l2 a w) (hN : ∀ o ∈ ops, ∀ t, t ∈ o.looksAt ops ∨ o.dst = some t → t < X.N) {anc : Nat → Nat → Bool} : ∀ (l : List Nat) (T : List (Nat × List Rd × List Rd)) (S : St) (a : Act) (w : World), Go P ops X Q anc l T S → Sim X S a w → wpOpsIn (FX X) n P ops Q' (l ++ l2) a w
  | [], T, S, a, w, hg, hS => hQ _ _ _ hg hS
  | i :: r, T, S, a, w, hg, hS => by
    obtain ⟨o, e, ho, hv, _, hg⟩ := hg
    rw [List.cons_append, wpOpsIn_cons]
    exact Step.wpIn ho (hv S a w (fun _ _ => rfl) (fun r _ => AgR.refl _ r) (hN o (Array.mem_of_getElem? ho)) hS) fun v w' hS' => zh9 hQ hN r _ _ _ _ hg hS'
theorem zv3 {id : Nat} {l : List Oper} {rest : Code} {Q : Exit → Act → World → Prop} {R : St → Prop} {k : FuncId} {xs : Array Operand} {ts : Array TypeId} {od : Oper} (m : Nat) (hN : zkq X.N l = true) (hm : List.range l.length = List.range m ++ [m]) (ho : l[m]? = some od) (hop : od.op = .defer { callee := .value (.func k), args := xs, argTypes := ts }) (hdst : od.dst = none) (hgd : od.guard = none)
    (hr : X.rd = none) (hg : Go P l.toArray X R (fun _ _ => true) (List.range m) [] S)
    (h : ∀ S' a w, R S' → Sim X S' a w → rest.wp P Q { a with defers := { target := .fn (.func k) #[], args := xs.map a.eval } :: a.defers } w) : Aw2 P X (.seq (.region id l.toArray false) rest) Q S := fun a w hs => wp_seq (by
  have key : ∀ n, (Code.region id l.toArray false).wpIn (FX X) n P (Exit.then (rest.wp P Q) Q) a w := fun n => wpIn_region (by
    have e : List.range l.toArray.size = List.range m ++ [m] := by simpa using hm
    rw [e]
    refine zh9 (Q := R) (fun S' a' w' hR hS' => ?_) (zop hN) (List.range m) [] S a w hg hs
    rw [wpOpsIn_cons]
    unfold wpOpIn
    have ho' : l.toArray[m]? = some od := by simpa using ho
    simp only [ho']
    have hwt : Region.wanted od (yielded l.toArray a'.tmps) = true := by unfold Region.wanted; rw [hgd]
    simp only [hwt, if_true]
    refine ⟨fun f _ => trivial, ?_⟩
    have hx : FX X = Fence.wide := zhh hr
    rw [hx]
    show od.uponIn _ _ _ _ _ _ ((od.semAt none a'.eval).run P w')
    rw [Oper.semAt_none]
    have hex : (execOp a'.eval od).run P w' = .ok (.defer { target := .fn (.func k) #[], args := xs.map a'.eval }) w' := by
      simp [execOp, hop, resolve, Deferred.ofValue, Act.eval]
    rw [hex, Oper.uponIn_defer, hdst]
    exact h S' a' w' hR hS')
  have := key 0
  rw [zhh hr] at this
  exact wpIn_wide.1 this)
end Go.Proofs.YtomeaibdedaldaaGreatDoor.Ax
namespace Go.Proofs.YtomeaibdedaldaaGreatDoor.LjE
open Go.RowKit Bv VaSpec Base MemL RegR Ax MemC PutC MemC3 TzC OkS SpA SpB SpC SpF SpH SpI SpJ LaA LaB LaC LaD LaE LaF LaG LiA LiB LiC LiD LiE LiF LjD
open BitsC PteSpec
set_option maxRecDepth 10000
set_option maxHeartbeats 1000000
section
variable {P : Program}
theorem zqg {k : FuncId} (hk : zcb P k = true) (args : Array Value) (w : World) : (invoke (.fn (.func k) #[]) args).run P w = .ok (.enter k args) w := by
  unfold zcb at hk
  split at hk
  · rename_i fn hf
    simp only [Bool.and_eq_true, Bool.not_eq_true'] at hk
    obtain ⟨h1, h2⟩ := hk
    have h2 : ¬ fn.name = "runtime.NumGoroutine" := by simpa using h2
    have h3 : ¬ fn.body = none := fun e => by rw [e] at h1; cases h1
    simp [invoke, callFunc, hf, h2, h3, mark]
  · cases hk
theorem z3q {G : World → Prop} {fn : Func} {bs bs1 : List Ln} {r r1 : AV} {N : Nat} {A : Nat → Prop} {W : World} {τ : Nat → Value} {hG : ∀ w, Kept (fun g => g < W.heap.size ∧ ¬ zok τ bs g) W w → G w} {k : FuncId} {vals : Array Value} {args : List Cm} {S' : St} {τe : Nat → Value} {a' : Act} {w' : World}
    (s : SimT (z1e N W A G τ bs hG [{ target := .fn (.func k) #[], args := vals }]) S' τe a' w') (nm : Nat → Nat) (hk : zcb P k = true) (hc : zin P G k bs1 args r1) (hb : ∀ p ∈ bs1, S'.hp (nm p.1) = .live (.box p.2.1)) (hin : z24 nm bs1 = true) (hok : args.all zpq = true)
    (hR : All2 (Cm.R (env (z1e N W A G τ bs hG [{ target := .fn (.func k) #[], args := vals }]) S'.hp τe w')) (args.map (rnM nm)) vals.toList)
    (hcl : (zce r && bs.all (fun p => p.2.1.all zba && p.2.2.all zba)) = true) (hres : zep N fn.results.toList = true) (hr : zau P fn (S'.app none ⟨r1, upB nm bs1, []⟩) = some r) (hE : EndB (S'.app none ⟨r1, upB nm bs1, []⟩) bs) : bodyPostD P fn (zv2 W A τ bs r) .normal a' w' := by
  simp only [Bool.and_eq_true, List.all_eq_true] at hcl
  obtain ⟨hcr, hcb⟩ := hcl
  have hcb : ∀ p ∈ bs, p.2.1.all zba = true ∧ p.2.2.all zba = true := fun p hp => by
    have := hcb p hp
    exact ⟨List.all_eq_true.2 this.1, List.all_eq_true.2 this.2⟩
  show Leaves P fn a'.tmps _ a'.defers .returning w'
  rw [show a'.defers = [{ target := .fn (.func k) #[], args := vals }] from s.nodef]
  refine leaves_cons (by simp) (zqg hk vals w') ?_
  refine ((zqf (d := none) (rd := []) s hc hb hin hok hR) .returning).mono ?_
  rintro e u w2 ⟨rfl, v, rfl, s2⟩
  exact finW hcr hcb hres s2 hr hE
end
def prC (sz cd cp addr : Int) (p : List (Int × Int) × Int) : List Ce := [cu sz, .s p.1.length 2 (fl p.1), cu cd, ci cp, cu p.2, cu addr]
section
variable {cd cp sz f sh : Int} {xs : List (Int × Int)} {lv : Int → Int}
theorem zyh (h : TI cd cp sz xs f sh lv) (hn : xs.length ≤ 100000) (t l addr : Int) (q : Pte) (ha : U addr) (ht : cd ≤ t ∧ t < cd + cp) (l0 : 0 ≤ l) (l2 : l ≤ 2) (hg : cd ≤ q.ppn ∧ q.ppn < cd + cp) (R : List (Int × Int) × Int)
    (hR : R = if zdu xs q.ppn = true then (za1 sz (TableC.zav xs q.ppn) t (idx addr l) zP, TableC2.zdk cd cp f q.ppn) else (xs, f)) :
    zin Tryz.prog GG 177 [(2000, prC sz cd cp addr (xs, f), prC sz cd cp addr R)] [.c (.p 2000 0), .ag (zb0 t l q)] (.tu []) := by
  have b1 := h.bd
  have b2 := h.bp
  have he := zs4 h hg
  have hb := zup sz xs cd cp f q.ppn ⟨by omega, by omega⟩ (by omega) h.uf ⟨by omega, by omega⟩ h.s (by omega)
  have hwl := zdv xs q.ppn
  have hwu : Uw (TableC.zav xs q.ppn) := fun c hc => h.u c (ze5 hc)
  have hw := zeq sz (TableC.zav xs q.ppn) t l q addr ⟨false, false, false, false, false, false, false, false, 0, 0, 0⟩ ha z14 l0 l2 ⟨by omega, by omega⟩ (zcd _ h.s) hwu (by omega)
  have hw : Ok 49 [zbt sz (TableC.zav xs q.ppn), .ag (zb0 t l q), iu addr, .ag (⟨false, false, false, false, false, false, false, false, 0, 0, 0⟩ : Pte).ce] (.m (zbt sz (za1 sz (TableC.zav xs q.ppn) t (idx addr l) zP))) := hw
  cases c : zdu xs q.ppn with
  | true =>
    rw [c] at he
    rw [c, if_pos rfl] at hR
    subst hR
    generalize za1 sz (TableC.zav xs q.ppn) t (idx addr l) zP = ys at *
    generalize TableC.zav xs q.ppn = zs at *
    generalize TableC2.zdk cd cp f q.ppn = f2 at *
    refine zjz 47 Tryz.func177 rfl rfl rfl rfl rfl ?_
    intro W A τ hG
    repeat (first | (refine zah rfl ?_; first | refine zai ?_ | refine gdr (zaa rfl rfl rfl (he) (by kernel_rfl)) ?_ | refine gdr (zaa rfl rfl rfl (hb) (by kernel_rfl)) ?_ | refine gdr (zaa rfl rfl rfl (hw) (by kernel_rfl)) ?_) | (refine hK _ ?_; clear hK K) | refine zac rfl ?_ | refine zas (by kernel_rfl) (by kernel_rfl) rfl ?_ | refine zag rfl rfl ?_ | refine zab (fun K hK => ?_))
    exact ⟨by kernel_rfl, ⟨_, rfl, rfl⟩, trivial⟩
  | false =>
    rw [c] at he
    rw [c, if_neg (by simp)] at hR
    subst hR
    refine zjz 47 Tryz.func177 rfl rfl rfl rfl rfl ?_
    intro W A τ hG
    repeat (first | (refine zah rfl ?_; first | refine zai ?_ | refine gdr (zaa rfl rfl rfl (he) (by kernel_rfl)) ?_) | (refine hK _ ?_; clear hK K) | refine zac rfl ?_ | refine zas (by kernel_rfl) (by kernel_rfl) rfl ?_ | refine zae rfl rfl ?_ | refine zal ?_ | refine zab (fun K hK => ?_))
    exact ⟨by kernel_rfl, ⟨_, rfl, rfl⟩, trivial⟩
def z3r (t m addr : Int) (sz cd cp : Int) (q : Pte) (p : List (Int × Int) × Int) : St := St.of [(0, .m (.c (.p 2000 0))), (1, .m (iu t)), (2, .m (ii (m + 1))), (6, .m (.c (.p 6 0))), (29, .m (.c (.p 2000 0))), (30, .m (.ag (zb0 t (m + 1) q)))] [(6, .live (.box (zb0 t (m + 1) q))), (2000, .live (.box (prC sz cd cp addr p)))]
theorem z1f (addr : Int) (ha : U addr) (h : TI cd cp sz xs f sh lv) (hn : xs.length ≤ 100000) : ∀ (l : Nat) (t : Int), l ≤ 2 → Al cd cp f t → lv t = l → (2 ≤ l → idx addr 2 ≠ 511) →
    zb9 Tryz.prog GG 142 [(2000, prC sz cd cp addr (xs, f), prC sz cd cp addr (prN sz cd cp addr l t (xs, f)))] [.c (.p 2000 0), iu t, ii l] (.tu []) := by
  intro l
  induction l with
  | zero =>
    intro t h2 ht hl hH
    have b1 := h.bd
    have b2 := h.bp
    have bt := ht.1
    have hr := zf2 sz xs t 0 addr 0 ⟨by omega, by omega⟩ ha (by omega) (by omega) (by omega) h.s h.u
    rw [show za6 sz xs addr 0 0 t = (t, 0) from rfl] at hr
    have hr : Ok 53 [zbt sz xs, iu t, ii 0, iu addr, ii 0] (.m (.ag (zb0 t 0 (atM sz xs t (idx addr 0))))) := hr
    have hU := zhq h.u sz t (idx addr 0)
    have hk := zf0 (atM sz xs t (idx addr 0))
    have hbd := zhn (atM sz xs t (idx addr 0)) hU 0 (by omega) (by omega)
    rw [show prN sz cd cp addr 0 t (xs, f) = (xs, f) from rfl]
    generalize atM sz xs t (idx addr 0) = q at *
    cases c : zbf q with
    | false =>
      rw [c] at hk
      refine zb4 38 Tryz.func142 rfl rfl rfl rfl rfl ?_
      intro W A τ hG
      repeat (first | (refine zah rfl ?_; first | refine zai ?_ | refine gdr (zaa rfl rfl rfl (hr) (by kernel_rfl)) ?_ | refine gdr (zaa rfl rfl rfl (hk) (by kernel_rfl)) ?_) | (refine hK _ ?_; clear hK K) | refine zac rfl ?_ | refine zas (by kernel_rfl) (by kernel_rfl) rfl ?_ | refine zag rfl rfl ?_ | refine zab (fun K hK => ?_) | refine zaj (show zau _ _ _ = some _ ∧ EndB _ _ from ⟨by kernel_rfl, ?_⟩))
      exact ⟨⟨_, rfl, rfl⟩, trivial⟩
    | true =>
      rw [c] at hk
      have hb2 : zdt q 0 = true := by unfold zdt; rw [c]; simp
      rw [hb2] at hbd
      refine zb4 38 Tryz.func142 rfl rfl rfl rfl rfl ?_
      intro W A τ hG
      repeat (first | (refine zah rfl ?_; first | refine zai ?_ | refine gdr (zaa rfl rfl rfl (hr) (by kernel_rfl)) ?_ | refine gdr (zaa rfl rfl rfl (hk) (by kernel_rfl)) ?_ | refine gdr (zaa rfl rfl rfl (hbd) (by kernel_rfl)) ?_) | (refine hK _ ?_; clear hK K) | refine zac rfl ?_ | refine zas (by kernel_rfl) (by kernel_rfl) rfl ?_ | refine zag rfl rfl ?_ | refine zab (fun K hK => ?_) | refine zaj (show zau _ _ _ = some _ ∧ EndB _ _ from ⟨by kernel_rfl, ?_⟩))
      exact ⟨⟨_, rfl, rfl⟩, trivial⟩
  | succ m IH =>
    intro t h2 ht hl hH
    have b1 := h.bd
    have b2 := h.bp
    have bt := ht.1
    have hi := idx_bd addr ((m + 1 : Nat) : Int)
    have hr := zf2 sz xs t ((m + 1 : Nat) : Int) addr ((m + 1 : Nat) : Int) ⟨by omega, by omega⟩ ha (by omega) (by omega) (by omega) h.s h.u
    rw [show za6 sz xs addr ((m + 1 : Nat) : Int) ((m + 1 : Nat) : Int) t = (t, ((m + 1 : Nat) : Int)) from zjk (by omega) (fun hh => by omega) (by omega)] at hr
    have hr : Ok 53 [zbt sz xs, iu t, ii ((m + 1 : Nat) : Int), iu addr, ii ((m + 1 : Nat) : Int)] (.m (.ag (zb0 t ((m + 1 : Nat) : Int) (atM sz xs t (idx addr ((m + 1 : Nat) : Int)))))) := hr
    have hU := zhq h.u sz t (idx addr ((m + 1 : Nat) : Int))
    have hk := zf0 (atM sz xs t (idx addr ((m + 1 : Nat) : Int)))
    have hbd := zhn (atM sz xs t (idx addr ((m + 1 : Nat) : Int))) hU ((m + 1 : Nat) : Int) (by omega) (by omega)
    cases c : za2 (atM sz xs t (idx addr ((m + 1 : Nat) : Int))) ((m + 1 : Nat) : Int) with
    | false =>
      have hnk : zbf (atM sz xs t (idx addr ((m + 1 : Nat) : Int))) = false := by
        rcases h.e.k t _ hi with e | ⟨_, _, ⟨e, _⟩ | ⟨e, _⟩⟩
        · rw [e]; rfl
        · exact (zbr e).1
        · rw [zb2 e (by omega)] at c; cases c
      rw [hnk] at hk
      have hpr : prN sz cd cp addr (m + 1) t (xs, f) = (xs, f) := by unfold prN; rw [c]; rfl
      rw [hpr]
      generalize atM sz xs t (idx addr ((m + 1 : Nat) : Int)) = q at *
      refine zb4 38 Tryz.func142 rfl rfl rfl rfl rfl ?_
      intro W A τ hG
      repeat (first | (refine zah rfl ?_; first | refine zai ?_ | refine gdr (zaa rfl rfl rfl (hr) (by kernel_rfl)) ?_ | refine gdr (zaa rfl rfl rfl (hk) (by kernel_rfl)) ?_) | (refine hK _ ?_; clear hK K) | refine zac rfl ?_ | refine zas (by kernel_rfl) (by kernel_rfl) rfl ?_ | refine zag rfl rfl ?_ | refine zab (fun K hK => ?_) | refine zaj (show zau _ _ _ = some _ ∧ EndB _ _ from ⟨by kernel_rfl, ?_⟩))
      exact ⟨⟨_, rfl, rfl⟩, trivial⟩
    | true =>
      obtain ⟨k1, k2, k3, k4, k5⟩ := zjv h hi c
      have hls : lv (atM sz xs t (idx addr ((m + 1 : Nat) : Int))).ppn = (m : Int) := by rw [k4, hl]; omega
      have hIH := IH _ (by omega) k5 hls (fun hh => by omega)
      have P := zf8 addr h m _ (by omega) k5 hls (fun hh => by omega)
      have hbw := zyh P.t (Nat.le_trans P.n hn) t ((m + 1 : Nat) : Int) addr (atM sz xs t (idx addr ((m + 1 : Nat) : Int))) ha bt (by omega) (by omega) k5.1 _ rfl
      have hpr : prN sz cd cp addr (m + 1) t (xs, f) = if zdu (prN sz cd cp addr m (atM sz xs t (idx addr ((m + 1 : Nat) : Int))).ppn (xs, f)).1 (atM sz xs t (idx addr ((m + 1 : Nat) : Int))).ppn = true then (za1 sz (TableC.zav (prN sz cd cp addr m (atM sz xs t (idx addr ((m + 1 : Nat) : Int))).ppn (xs, f)).1 (atM sz xs t (idx addr ((m + 1 : Nat) : Int))).ppn) t (idx addr ((m + 1 : Nat) : Int)) zP, TableC2.zdk cd cp (prN sz cd cp addr m (atM sz xs t (idx addr ((m + 1 : Nat) : Int))).ppn (xs, f)).2 (atM sz xs t (idx addr ((m + 1 : Nat) : Int))).ppn) else ((prN sz cd cp addr m (atM sz xs t (idx addr ((m + 1 : Nat) : Int))).ppn (xs, f)).1, (prN sz cd cp addr m (atM sz xs t (idx addr ((m + 1 : Nat) : Int))).ppn (xs, f)).2) := by
        conv => lhs; unfold prN
        rw [if_pos (show za2 (atM sz (xs, f).1 t (idx addr ((m + 1 : Nat) : Int))) ((m + 1 : Nat) : Int) = true from c)]
      rw [← hpr] at hbw
      rw [(zbz k1).1] at hk
      have hnb : zdt (atM sz xs t (idx addr ((m + 1 : Nat) : Int))) ((m + 1 : Nat) : Int) = false := by
        unfold za2 at c
        simp only [Bool.and_eq_true, Bool.not_eq_true'] at c
        exact c.2
      rw [hnb] at hbd
      clear hpr P IH
      generalize prN sz cd cp addr (m + 1) t (xs, f) = p2 at *
      generalize prN sz cd cp addr m (atM sz xs t (idx addr ((m + 1 : Nat) : Int))).ppn (xs, f) = p1 at *
      generalize atM sz xs t (idx addr ((m + 1 : Nat) : Int)) = q at *
      have hIH : zb9 Tryz.prog GG 142 [(2000, prC sz cd cp addr (xs, f), prC sz cd cp addr p1)] [.c (.p 2000 0), iu q.ppn, ii (((m + 1 : Nat) : Int) - 1)] (.tu []) := by
        rw [show ((m + 1 : Nat) : Int) - 1 = (m : Int) by omega]; exact hIH
      have hcast : ((m + 1 : Nat) : Int) = (m : Int) + 1 := by omega
      rw [hcast] at hr hbd hIH hbw ⊢
      refine zqe 38 Tryz.func142 rfl rfl rfl rfl ?_
      intro W A τ hG
      refine zcj (fun K hK => ?_)
      repeat (first | (refine zah rfl ?_; first | refine zai ?_ | refine gdr (zaa rfl rfl rfl (hr) (by kernel_rfl)) ?_) | (refine hK _ ?_; clear hK K) | refine zas (by kernel_rfl) (by kernel_rfl) rfl ?_)
      refine zcj (fun K hK => ?_)
      repeat (first | (refine zah rfl ?_; first | refine zai ?_ | refine gdr (zaa rfl rfl rfl (hk) (by kernel_rfl)) ?_ | refine gdr (zaa rfl rfl rfl (hbd) (by kernel_rfl)) ?_) | (refine hK _ ?_; clear hK K) | refine zac rfl ?_ | refine zae rfl rfl ?_ | refine zal ?_ | refine zab (fun K hK => ?_))
      refine zv3 (R := fun S' => Sub (cxW 38 W A GG τ _ hG) S' (z3r t m addr sz cd cp q (xs, f))) 2 (by rfl) (by rfl) (by rfl) (by rfl) (by rfl) (by rfl) (by rfl) ?_ ?_
      · skip
        repeat (first | (refine zah rfl ?_; first | refine zai ?_))
        exact zao _ _ ⟨by kernel_rfl, by kernel_rfl, by kernel_rfl, by kernel_rfl, by kernel_rfl, by kernel_rfl, trivial⟩ ⟨by kernel_rfl, by kernel_rfl, trivial⟩ (by kernel_rfl)
      intro S' a w hsub hS'
      obtain ⟨τe, s⟩ := hsub a w hS'
      have hnd : a.defers = [] := s.nodef
      have e29 : Cm.R _ (.c (.p 2000 0)) (a.tmps.getD 29 undef) := s.tm 29 (by show 29 < 38; decide)
      have e30 : Cm.R _ (.ag (zb0 t ((m : Int) + 1) q)) (a.tmps.getD 30 undef) := s.tm 30 (by show 30 < 38; decide)
      have ep := (s.pin (2000, τ 2000) (by simp [cxW])).2
      have hdf : ({ target := .fn (.func 177) #[], args := #[Operand.tmp 29, Operand.tmp 30].map a.eval } : Deferred) = { target := .fn (.func 177) #[], args := #[a.tmps.getD 29 undef, a.tmps.getD 30 undef] } := by simp [Act.eval]
      rw [hdf, hnd]
      generalize a.tmps.getD 29 undef = v29 at *
      generalize a.tmps.getD 30 undef = v30 at *
      have s' : SimT (z1e 38 W A GG τ _ hG [{ target := .fn (.func 177) #[], args := #[v29, v30] }]) (z3r t m addr sz cd cp q (xs, f)) τe { a with defers := [{ target := .fn (.func 177) #[], args := #[v29, v30] }] } w := ⟨s.size, rfl, s.bel, s.tm, s.hp, s.own, s.sep, s.one, s.pin⟩
      refine wp_mono (zst (Q := fun e S'' => e = .normal ∧ Sub (z1e 38 W A GG τ _ hG [{ target := .fn (.func 177) #[], args := #[v29, v30] }]) S'' (St.of [] [(2000, .live (.box (prC sz cd cp addr p1)))])) rfl ?_ ⟨τe, s'⟩) ?_
      · skip
        repeat (first | (refine zah rfl ?_; first | refine zai ?_ | refine gdr (zh8 (fun _ => 2000) hIH rfl rfl (by kernel_rfl) rfl ⟨rfl, trivial⟩ (by kernel_rfl)) ?_) | refine zac rfl ?_)
        exact ⟨rfl, zao _ _ trivial ⟨by kernel_rfl, trivial⟩ (by kernel_rfl)⟩
      intro e a2 w2 ⟨S2, ⟨he, hs2⟩, hS2⟩
      subst he
      obtain ⟨τ2, t2⟩ := hs2 a2 w2 hS2
      have ep2 := (t2.pin (2000, τ 2000) (by simp [z1e, cxW])).2
      have hin2 := (t2.pin (2000, τ 2000) (by simp [z1e, cxW])).1
      refine z3q t2 (fun _ => 2000) (by kernel_rfl) hbw (by intro p hp; simp at hp; subst hp; rfl) (by kernel_rfl) (by kernel_rfl) ?_ (by kernel_rfl) (by kernel_rfl) (by kernel_rfl) ⟨⟨_, rfl, rfl⟩, trivial⟩
      obtain ⟨_, g, i1, i2⟩ := e29
      exact ⟨⟨hin2, g, by rw [← i1]; exact ep2.trans ep.symm, i2⟩, zwz _ _ (by kernel_rfl) e30, trivial⟩
end
end Go.Proofs.YtomeaibdedaldaaGreatDoor.LjE
namespace Go.Proofs.YtomeaibdedaldaaGreatDoor.LkB
open Go.RowKit Bv VaSpec Base MemL RegR Ax MemC PutC MemC3 TzC OkS SpA SpB SpC SpF SpH SpI SpJ LaA LaB LaC LaD LaE LaF LaG LiA LiB LiC LiD LiE LiF SpL SpN SpO RfA RfB RfC RfD RlA RlB LjB LkA
open BitsC PteSpec
set_option maxRecDepth 10000
set_option maxHeartbeats 1000000
section
variable {cd cp sz f sh : Int} {xs : List (Int × Int)} {lv : Int → Int}
end
end Go.Proofs.YtomeaibdedaldaaGreatDoor.LkB
namespace Go.Proofs.YtomeaibdedaldaaGreatDoor.LkC
open Go.RowKit Bv VaSpec Base MemL RegR Ax MemC PutC MemC3 TzC OkS SpA SpB SpC SpF SpH SpI SpJ LaA LaB LaC LaD LaE LaF LaG LiA LiB LiC LiD LiE LiF SpG SpL SpN SpO RfA RfB RfC RfD RlA RlB LjB LkA LkB
open BitsC PteSpec
set_option maxRecDepth 10000
set_option maxHeartbeats 1000000
end Go.Proofs.YtomeaibdedaldaaGreatDoor.LkC
namespace Go.Proofs.YtomeaibdedaldaaGreatDoor.LkD
open Go.RowKit Bv VaSpec Base MemL RegR Ax MemC PutC MemC3 TzC OkS SpA SpB SpC SpF SpH SpI SpJ LaA LaB LaC LaD LaE LaF LaG LiA LiB LiC LiD LiE LiF SpL SpN SpO RfA RfB RfC RfD RlA RlB LjB LjC LkA LkB LkC
open BitsC PteSpec
set_option maxRecDepth 10000
set_option maxHeartbeats 1000000
end Go.Proofs.YtomeaibdedaldaaGreatDoor.LkD
namespace Go.Proofs.YtomeaibdedaldaaGreatDoor.LjA
open Go.RowKit Bv VaSpec Base MemL RegR Ax MemC PutC MemC3 TzC OkS SpA SpB SpC SpD SpE SpF SpG SpH SpI SpJ SpK SpN SpO RfA RfB RfC RfD RlA RlB LaA LaB LaC LaD LaE LaF LaG LaH LiA LiB LiC LiD LiE LiF
open BitsC PteSpec
set_option maxRecDepth 10000
set_option maxHeartbeats 1000000
theorem zyi (a : Int) : Ok 135 [iu a] (.m (.ag [cb true, cu a, cb false, cu 0])) := by
  refine zad 5 Tryz.func135 rfl rfl rfl rfl ?_ GG.to
  intro W A hG
  repeat (first | (refine zah rfl ?_; first | refine zai ?_) | (refine hK _ ?_; clear hK K) | refine zac rfl ?_ | exact zaj (show zau _ _ _ = some _ by kernel_rfl) | refine zab (fun K hK => ?_))
theorem z3s (n a : Int) : Ok 137 [iu n, iu a] (.m (.ag [cb true, cu a, cb true, cu n])) := by
  refine zad 8 Tryz.func137 rfl rfl rfl rfl ?_ GG.to
  intro W A hG
  repeat (first | (refine zah rfl ?_; first | refine zai ?_) | (refine hK _ ?_; clear hK K) | refine zac rfl ?_ | exact zaj (show zau _ _ _ = some _ by kernel_rfl) | refine zab (fun K hK => ?_))
theorem z1g (n a : Int) : zb9 Tryz.prog GG 136 [spB 2000 [cu n]] [iu a, .c (.p 2000 0)] (.m (.ag [cb true, cu a, cb true, cu n])) := by
  refine zb4 7 Tryz.func136 rfl rfl rfl rfl rfl ?_
  intro W A τ hG
  repeat (first | (refine zah rfl ?_; first | refine zai ?_ | refine gdr (zaa rfl rfl rfl (z3s n a) rfl) ?_) | (refine hK _ ?_; clear hK K) | refine zac rfl ?_ | refine zab (fun K hK => ?_) | refine zaj (show zau _ _ _ = some _ ∧ EndB _ _ from ⟨by kernel_rfl, ?_⟩))
  exact ⟨⟨_, rfl, rfl⟩, trivial⟩
theorem zro {a l : Int} (ha : U a) (l0 : 0 ≤ l) (l2 : l ≤ 2) : U (VaSpec.base a l) := by
  obtain ⟨a0, a1⟩ := ha
  unfold VaSpec.base
  rcases (by omega : l = 0 ∨ l = 1 ∨ l = 2) with rfl | rfl | rfl
  · simp only [show VaSpec.sz 0 = 4096 from rfl]; exact ⟨by omega, by omega⟩
  · simp only [show VaSpec.sz 1 = 2097152 from rfl]; exact ⟨by omega, by omega⟩
  · simp only [show VaSpec.sz 2 = 1073741824 from rfl]; exact ⟨by omega, by omega⟩
theorem zod (sz : Int) (xs : List (Int × Int)) (t l : Int) (q : Pte) (a : Int) (ha : U a) (hs : Srt xs) (hu : Uw xs) (hq : 0 ≤ q.ppn ∧ q.ppn < 17592186044416) (l0 : 0 ≤ l) (l2 : l ≤ 2) (hl : zbf q = true → 1 ≤ l) :
    Ok 75 [zbt sz xs, .ag (zb0 t l q), iu a] (.m (.c (.s (zbi sz xs l q (VaSpec.base a l)).length 8 (flP (zbi sz xs l q (VaSpec.base a l)))))) := by
  have hbU : U (VaSpec.base a l) := zro ha l0 l2
  have h1 := zih q
  have h2 := zf0 q
  have h3 := zq4 q
  have h5 := zlx a l ha l0 l2
  cases hlf : zat q with
  | true =>
    have e : zbi sz xs l q (VaSpec.base a l) = [⟨VaSpec.base a l, q.ppn * 4096, l, q.r, q.w, q.x, q.u, q.d⟩] := by unfold zbi; rw [hlf]; rfl
    rw [e, zu8]
    rw [hlf] at h1
    refine zad 45 Tryz.func75 rfl rfl rfl rfl ?_ GG.to
    intro W A hG
    repeat (first | (refine zah rfl ?_; first | refine zai ?_ | refine gdr (zaa rfl rfl rfl (h1) (by kernel_rfl)) ?_ | refine gdr (zaa rfl rfl rfl (h3) (by kernel_rfl)) ?_ | refine gdr (zaa rfl rfl rfl (h5) (by kernel_rfl)) ?_) | (refine hK _ ?_; clear hK K) | refine zac rfl ?_ | refine zas (by kernel_rfl) (by kernel_rfl) rfl ?_ | exact zaj (show zau _ _ _ = some _ by kernel_rfl) | refine zag rfl rfl ?_ | refine zaf ?_ | refine zab (fun K hK => ?_))
  | false =>
    rw [hlf] at h1
    cases hlk : zbf q with
    | true =>
      rw [hlk] at h2
      have e : zbi sz xs l q (VaSpec.base a l) = zbq sz xs (l - 1).toNat q.ppn (VaSpec.base a l) := by unfold zbi; rw [hlf, hlk]; rfl
      rw [e]
      rcases (by have := hl hlk; omega : l = 1 ∨ l = 2) with rfl | rfl
      · have h4 := zvh sz xs hs hu q.ppn (VaSpec.base a 1) hq hbU
        rw [show ((1 : Int) - 1).toNat = 0 by decide]
        refine zad 45 Tryz.func75 rfl rfl rfl rfl ?_ GG.to
        intro W A hG
        repeat (first | (refine zah rfl ?_; first | refine zai ?_ | refine gdr (zaa rfl rfl rfl (h1) (by kernel_rfl)) ?_ | refine gdr (zaa rfl rfl rfl (h2) (by kernel_rfl)) ?_ | refine gdr (zaa rfl rfl rfl (h4) (by kernel_rfl)) ?_ | refine gdr (zaa rfl rfl rfl (h5) (by kernel_rfl)) ?_) | (refine hK _ ?_; clear hK K) | refine zac rfl ?_ | refine zas (by kernel_rfl) (by kernel_rfl) rfl ?_ | exact zaj (show zau _ _ _ = some _ by kernel_rfl) | refine zag rfl rfl ?_ | refine zae rfl rfl ?_ | refine zaf ?_ | refine zab (fun K hK => ?_))
      · have h4 := z03 sz xs hs hu q.ppn (VaSpec.base a 2) hq hbU
        rw [show ((2 : Int) - 1).toNat = 1 by decide]
        refine zad 45 Tryz.func75 rfl rfl rfl rfl ?_ GG.to
        intro W A hG
        repeat (first | (refine zah rfl ?_; first | refine zai ?_ | refine gdr (zaa rfl rfl rfl (h1) (by kernel_rfl)) ?_ | refine gdr (zaa rfl rfl rfl (h2) (by kernel_rfl)) ?_ | refine gdr (zaa rfl rfl rfl (h4) (by kernel_rfl)) ?_ | refine gdr (zaa rfl rfl rfl (h5) (by kernel_rfl)) ?_) | (refine hK _ ?_; clear hK K) | refine zac rfl ?_ | refine zas (by kernel_rfl) (by kernel_rfl) rfl ?_ | exact zaj (show zau _ _ _ = some _ by kernel_rfl) | refine zag rfl rfl ?_ | refine zae rfl rfl ?_ | refine zaf ?_ | refine zab (fun K hK => ?_))
    | false =>
      rw [hlk] at h2
      have e : zbi sz xs l q (VaSpec.base a l) = [] := by unfold zbi; rw [hlf, hlk]; rfl
      rw [e]
      refine zfs (r := .m (.c (.v (.slice none 0 0)))) ?_ rfl (zvi 8)
      refine zad 45 Tryz.func75 rfl rfl rfl rfl ?_ GG.to
      intro W A hG
      repeat (first | (refine zah rfl ?_; first | refine zai ?_ | refine gdr (zaa rfl rfl rfl (h1) (by kernel_rfl)) ?_ | refine gdr (zaa rfl rfl rfl (h2) (by kernel_rfl)) ?_) | (refine hK _ ?_; clear hK K) | refine zac rfl ?_ | exact zaj (show zau _ _ _ = some _ by kernel_rfl) | refine zae rfl rfl ?_ | refine zaf ?_ | refine zal ?_ | refine zab (fun K hK => ?_))
theorem zqh {n : Nat} {k : Kr} {id a l : Int} (h : InvT n k) (he : (zan k id a l).2.2 = 0) : ∃ (l' : Nat) (t' : Int), za6 k.sz k.m a l (zan k id a l).2.1 (zan k id a l).1 = (t', (l' : Int)) ∧ l' ≤ 2 ∧ l ≤ (l' : Int) ∧ Al k.cd k.cp k.pf t' ∧ (zbf (atM k.sz k.m t' (idx a (l' : Int))) = true → 1 ≤ (l' : Int)) := by
  obtain ⟨lv, hT, hs, hr⟩ := h.t
  obtain ⟨w1, w2, w3, w4⟩ := zbw (id := id) (a := a) (l := l) h.l he
  obtain ⟨z1, _⟩ := h.top (id := id) (a := a) (l := l) he hs hr
  generalize zan k id a l = w at *
  obtain ⟨l', t', i1, i2, i3, i4, i5, i6, _⟩ := zeo hT a l w1.1 w.2.1.toNat w.1 w2 (by omega) (by omega)
  refine ⟨l', t', i1, by omega, i3, i4, fun hlk => ?_⟩
  rcases hT.e.k t' _ (idx_bd a (l' : Int)) with e | ⟨_, _, ⟨e, _⟩ | ⟨_, e, _⟩⟩
  · rw [e] at hlk; cases hlk
  · rw [(zbr e).1] at hlk; cases hlk
  · omega
theorem zrp {n : Nat} {k : Kr} (h : InvT n k) (hn : n ≤ 90000) (id a l : Int) (ha : U a) : Ok 33 [.ag k.ce, ii id, iu a, ii l] (.m (.c (.s (inR k id a l).length 8 (flP (inR k id a l))))) := by
  have hw := zma k id a l ha
  unfold inR
  by_cases c0 : (zan k id a l).2.2 = 0
  rotate_left
  · rw [if_pos c0]
    generalize zan k id a l = w at *
    refine zfs (r := .m (.c (.v (.slice none 0 0)))) ?_ rfl (zvi 8)
    refine zad 34 Tryz.func33 rfl rfl rfl rfl ?_ GG.to
    intro W A hG
    repeat (first | (refine zah rfl ?_; first | refine zai ?_ | refine gdr (zaa rfl rfl rfl (hw) (by kernel_rfl)) ?_) | (refine hK _ ?_; clear hK K) | refine zac rfl ?_ | exact zaj (show zau _ _ _ = some _ by kernel_rfl) | refine zag rfl rfl ?_ | refine zab (fun K hK => ?_))
  rw [if_neg (by omega)]
  obtain ⟨w1, w2, w3, w4⟩ := zbw (id := id) (a := a) (l := l) h.l c0
  obtain ⟨l', t', e1, e2, e3, e4, e5⟩ := zqh (id := id) (a := a) (l := l) h c0
  rw [c0] at hw
  have b1 := h.l.g.bd
  have b2 := h.l.g.bp
  have f1 := w2.1
  have hre := zf2 k.sz k.m (zan k id a l).1 (zan k id a l).2.1 a l ⟨by omega, by omega⟩ ha (by omega) (by omega) w1.1 h.l.g.s h.l.g.u
  rw [e1] at hre ⊢
  have hre : Ok 53 [zbt k.sz k.m, iu (zan k id a l).1, ii (zan k id a l).2.1, iu a, ii l] (.m (.ag (zb0 t' (l' : Int) (atM k.sz k.m t' (idx a (l' : Int)))))) := hre
  have hun := zod k.sz k.m t' (l' : Int) (atM k.sz k.m t' (idx a (l' : Int))) a ha h.l.g.s h.l.g.u (zfo ..) (by omega) (by omega) e5
  show Ok _ _ (.m (.c (.s (zbi k.sz k.m (l' : Int) (atM k.sz k.m t' (idx a (l' : Int))) (VaSpec.base a (l' : Int))).length 8 (flP (zbi k.sz k.m (l' : Int) (atM k.sz k.m t' (idx a (l' : Int))) (VaSpec.base a (l' : Int)))))))
  generalize zbi k.sz k.m (l' : Int) (atM k.sz k.m t' (idx a (l' : Int))) (VaSpec.base a (l' : Int)) = U0 at *
  generalize atM k.sz k.m t' (idx a (l' : Int)) = q at *
  generalize (zan k id a l).1 = top at *
  generalize (zan k id a l).2.1 = lv at *
  refine zad 34 Tryz.func33 rfl rfl rfl rfl ?_ GG.to
  intro W A hG
  repeat (first | (refine zah rfl ?_; first | refine zai ?_ | refine gdr (zaa rfl rfl rfl (hw) (by kernel_rfl)) ?_ | refine gdr (zaa rfl rfl rfl (hre) (by kernel_rfl)) ?_ | refine gdr (zaa rfl rfl rfl (hun) (by kernel_rfl)) ?_) | (refine hK _ ?_; clear hK K) | refine zac rfl ?_ | refine zas (by kernel_rfl) (by kernel_rfl) rfl ?_ | exact zaj (show zau _ _ _ = some _ by kernel_rfl) | refine zae rfl rfl ?_ | refine zal ?_ | refine zab (fun K hK => ?_))
def z1h (k : Kr) (id n : Int) (l : List Pg) (i m : Nat) (vs : List Value) : St := St.of [(6, .m (.c (.v (.slice none 0 0)))), (7, .m (.c (.v (.func (.func 135) #[] #[])))), (10, .m (.c (.o 1000))), (30, .m (.c (.s l.length 8 (flP l)))), (31, .m (ii l.length)), (32, .m (ii i))] [(1000, .live (.row 141 4 m vs))]
theorem z1i (k : Kr) (id : Int) (l : List Pg) (hid : id = -1) (hl : l.length ≤ 134217728) : Ok 73 [.ag k.ce, ii id, .c (.s l.length 8 (flP l))] (.m (.c (.s (zjy k id l).length 4 (flF (zjy k id l))))) := by
  by_cases c : 16 < l.length
  · have e : zjy k id l = [⟨false, 0, false, 0⟩] := by unfold zjy zya; rw [if_pos c, if_pos hid]
    rw [e]
    refine zad 45 Tryz.func73 rfl rfl rfl rfl ?_ GG.to
    intro W A hG
    repeat (first | (refine zah rfl ?_; first | refine zai ?_) | (refine hK _ ?_; clear hK K) | refine zac rfl ?_ | exact zaj (show zau _ _ _ = some _ by kernel_rfl) | refine zag rfl rfl ?_ | refine zae rfl rfl ?_ | refine zal ?_ | refine zab (fun K hK => ?_))
  · have e : zjy k id l = l.map (zc1 id (zcu k id).asid) := by unfold zjy; rw [if_neg c]
    rw [e]
    obtain ⟨N, hN⟩ : ∃ N, N = (l.map (zc1 id (zcu k id).asid)).length := ⟨_, rfl⟩
    obtain ⟨XS, hXS⟩ : ∃ XS, XS = flF (l.map (zc1 id (zcu k id).asid)) := ⟨_, rfl⟩
    rw [← hN, ← hXS]
    refine zad 45 Tryz.func73 rfl rfl rfl rfl ?_ GG.to
    intro W A hG
    repeat (first | (refine zah rfl ?_; first | refine zai ?_) | (refine hK _ ?_; clear hK K) | refine zac rfl ?_ | refine zae rfl rfl ?_ | refine zaf ?_ | refine zal ?_ | refine zab (fun K hK => ?_))
    refine za3 (α := Nat × Nat × List Value) (fun q => q.1 ≤ l.length ∧ q.2.1 = ((l.take q.1).map (zc1 id (zcu k id).asid)).length ∧ q.2.2 = flF ((l.take q.1).map (zc1 id (zcu k id).asid))) (fun q => z1h k id (zcu k id).asid l q.1 q.2.1 q.2.2) (fun q => l.length - q.1) (0, 0, []) ⟨Nat.zero_le _, rfl, rfl⟩ (Sub.trans (zhp 10 1000 141 4 rfl rfl) (zao _ _ ⟨by kernel_rfl, by kernel_rfl, by kernel_rfl, by kernel_rfl, by kernel_rfl, by kernel_rfl, trivial⟩ ⟨by kernel_rfl, trivial⟩ (by kernel_rfl))) ?_
    rintro ⟨i, m, vs⟩ ⟨x1, x2, x3⟩
    have g1 : i ≤ l.length := x1
    have g2 : m = ((l.take i).map (zc1 id (zcu k id).asid)).length := x2
    have g3 : vs = flF ((l.take i).map (zc1 id (zcu k id).asid)) := x3
    show Aw _ _ _ _ (z1h k id (zcu k id).asid l i m vs)
    unfold z1h
    by_cases hlt : i < l.length
    · obtain ⟨p, hp⟩ : ∃ p, l[i]? = some p := ⟨_, List.getElem?_eq_getElem hlt⟩
      have hx : ((flP l).drop (i * 8)).take 8 = [.int .u64 p.va, .int .u64 p.pa, .int .i64 p.lev, .bool p.r, .bool p.w, .bool p.x, .bool p.u, .bool p.d] := zrm hp
      have hm : m ≤ i := by rw [g2, List.length_map, List.length_take]; omega
      have et : (l.take (i + 1)).map (zc1 id (zcu k id).asid) = (l.take i).map (zc1 id (zcu k id).asid) ++ [(⟨true, p.va, false, 0⟩ : Fe)] := by
        rw [List.take_add_one, hp, List.map_append]
        show _ ++ [zc1 id (zcu k id).asid p] = _
        unfold zc1
        rw [if_pos hid]
      have hn1 : m + 1 = ((l.take (i + 1)).map (zc1 id (zcu k id).asid)).length := by rw [et, List.length_append, ← g2]; rfl
      have hv1 : vs ++ ((⟨true, p.va, false, 0⟩ : Fe)).vs = flF ((l.take (i + 1)).map (zc1 id (zcu k id).asid)) := by
        rw [et, g3]
        unfold flF
        rw [List.flatMap_append]
        simp
      clear g2 g3 x2 x3 hN hXS
      repeat (first | (refine zah rfl ?_; first | refine zai ?_ | refine gdr (zfj rfl rfl rfl rfl (zyi p.va) rfl) ?_) | (refine hK _ ?_; clear hK K) | refine zac rfl ?_ | refine zag rfl rfl ?_ | refine zaf ?_ | refine zal ?_ | refine zab (fun K hK => ?_))
      refine zah rfl ?_
      refine zlp (za9 rfl rfl rfl rfl rfl rfl rfl rfl rfl rfl rfl rfl rfl (by omega)) (by kernel_rfl) ?_
      repeat (first | (refine zah rfl ?_; first | refine zai ?_) | (refine hK _ ?_; clear hK K) | refine zac rfl ?_)
      exact ⟨(i + 1, m + 1, vs ++ ((⟨true, p.va, false, 0⟩ : Fe)).vs), ⟨by show i + 1 ≤ l.length; omega, hn1, hv1⟩, by show l.length - (i + 1) < l.length - i; omega, Sub.trans (zao [(6, .m (.c (.v (.slice none 0 0)))), (7, .m (.c (.v (.func (.func 135) #[] #[])))), (10, .m (.c (.o 42))), (30, .m (.c (.s l.length 8 (flP l)))), (31, .m (ii l.length)), (32, .m (ii ((i + 1 : Nat) : Int)))] [(42, .live (.row 141 4 (m + 1) (vs ++ (⟨true, p.va, false, 0⟩ : Fe).vs)))] ⟨by kernel_rfl, by kernel_rfl, by kernel_rfl, by kernel_rfl, by kernel_rfl, by kernel_rfl, trivial⟩ ⟨by kernel_rfl, trivial⟩ (by kernel_rfl)) (Sub.trans (zd4 (b := 42) (b' := 1000) rfl rfl) (zao _ _ ⟨by kernel_rfl, by kernel_rfl, by kernel_rfl, by kernel_rfl, by kernel_rfl, by kernel_rfl, trivial⟩ ⟨by kernel_rfl, trivial⟩ (by kernel_rfl)))⟩
    · have ei : i = l.length := by omega
      rw [ei, List.take_length] at g2 g3
      obtain rfl : N = m := by rw [hN, g2]
      obtain rfl : XS = vs := by rw [hXS, g3]
      repeat (first | (refine zah rfl ?_; first | refine zai ?_) | (refine hK _ ?_; clear hK K) | (rename_i K1 hK1; refine hK1 _ ?_; clear hK hK1; clear K) | refine zac rfl ?_ | exact zaj (show zau _ _ _ = some _ by kernel_rfl) | refine zae rfl rfl ?_ | refine zaz ?_ | refine zab (fun K hK => ?_))
def z1j (k : Kr) (id n : Int) (l : List Pg) (i m : Nat) (vs : List Value) : St := St.of [(6, .m (.c (.v (.slice none 0 0)))), (7, .m (.c (.cl 136 [9]))), (10, .m (.c (.o 1000))), (30, .m (.c (.s l.length 8 (flP l)))), (31, .m (ii l.length)), (32, .m (ii i))] [(9, .live (.box [cu n])), (1000, .live (.row 141 4 m vs))]
theorem zv4 (k : Kr) (id : Int) (l : List Pg) (hid : id ≠ -1) (hlv : za5 k id = true) (hl : l.length ≤ 134217728) : Ok 73 [.ag k.ce, ii id, .c (.s l.length 8 (flP l))] (.m (.c (.s (zjy k id l).length 4 (flF (zjy k id l))))) := by
  obtain ⟨y0, y1, y2, y3⟩ := zdw hlv
  have hxs := zur y2
  by_cases c : 16 < l.length
  · have e : zjy k id l = [⟨false, 0, true, (zcu k id).asid⟩] := by unfold zjy zya; rw [if_pos c, if_neg hid]
    rw [e]
    refine zad 45 Tryz.func73 rfl rfl rfl rfl ?_ GG.to
    intro W A hG
    repeat (first | (refine zah rfl ?_; first | refine zai ?_ | refine gdr (zaa rfl rfl rfl (zly (zcu k id).asid) (by kernel_rfl)) ?_) | (refine hK _ ?_; clear hK K) | refine zac rfl ?_ | exact zaj (show zau _ _ _ = some _ by kernel_rfl) | refine zag rfl rfl ?_ | refine zab (fun K hK => ?_))
  · have e : zjy k id l = l.map (zc1 id (zcu k id).asid) := by unfold zjy; rw [if_neg c]
    rw [e]
    obtain ⟨N, hN⟩ : ∃ N, N = (l.map (zc1 id (zcu k id).asid)).length := ⟨_, rfl⟩
    obtain ⟨XS, hXS⟩ : ∃ XS, XS = flF (l.map (zc1 id (zcu k id).asid)) := ⟨_, rfl⟩
    rw [← hN, ← hXS]
    refine zad 45 Tryz.func73 rfl rfl rfl rfl ?_ GG.to
    intro W A hG
    repeat (first | (refine zah rfl ?_; first | refine zai ?_ | refine gdr (zaa rfl rfl rfl (zly (zcu k id).asid) (by kernel_rfl)) ?_) | (refine hK _ ?_; clear hK K) | refine zac rfl ?_ | refine zag rfl rfl ?_ | refine zae rfl rfl ?_ | refine zaf ?_ | refine zal ?_ | refine zab (fun K hK => ?_))
    refine za3 (α := Nat × Nat × List Value) (fun q => q.1 ≤ l.length ∧ q.2.1 = ((l.take q.1).map (zc1 id (zcu k id).asid)).length ∧ q.2.2 = flF ((l.take q.1).map (zc1 id (zcu k id).asid))) (fun q => z1j k id (zcu k id).asid l q.1 q.2.1 q.2.2) (fun q => l.length - q.1) (0, 0, []) ⟨Nat.zero_le _, rfl, rfl⟩ (Sub.trans (zhp 10 1000 141 4 rfl rfl) (zao _ _ ⟨by kernel_rfl, by kernel_rfl, by kernel_rfl, by kernel_rfl, by kernel_rfl, by kernel_rfl, trivial⟩ ⟨by kernel_rfl, by kernel_rfl, trivial⟩ (by kernel_rfl))) ?_
    rintro ⟨i, m, vs⟩ ⟨x1, x2, x3⟩
    have g1 : i ≤ l.length := x1
    have g2 : m = ((l.take i).map (zc1 id (zcu k id).asid)).length := x2
    have g3 : vs = flF ((l.take i).map (zc1 id (zcu k id).asid)) := x3
    show Aw _ _ _ _ (z1j k id (zcu k id).asid l i m vs)
    unfold z1j
    by_cases hlt : i < l.length
    · obtain ⟨p, hp⟩ : ∃ p, l[i]? = some p := ⟨_, List.getElem?_eq_getElem hlt⟩
      have hx : ((flP l).drop (i * 8)).take 8 = [.int .u64 p.va, .int .u64 p.pa, .int .i64 p.lev, .bool p.r, .bool p.w, .bool p.x, .bool p.u, .bool p.d] := zrm hp
      have hm : m ≤ i := by rw [g2, List.length_map, List.length_take]; omega
      have et : (l.take (i + 1)).map (zc1 id (zcu k id).asid) = (l.take i).map (zc1 id (zcu k id).asid) ++ [(⟨true, p.va, true, (zcu k id).asid⟩ : Fe)] := by
        rw [List.take_add_one, hp, List.map_append]
        show _ ++ [zc1 id (zcu k id).asid p] = _
        unfold zc1
        rw [if_neg hid]
      have hn1 : m + 1 = ((l.take (i + 1)).map (zc1 id (zcu k id).asid)).length := by rw [et, List.length_append, ← g2]; rfl
      have hv1 : vs ++ ((⟨true, p.va, true, (zcu k id).asid⟩ : Fe)).vs = flF ((l.take (i + 1)).map (zc1 id (zcu k id).asid)) := by
        rw [et, g3]
        unfold flF
        rw [List.flatMap_append]
        simp
      clear g2 g3 x2 x3 hN hXS
      repeat (first | (refine zah rfl ?_; first | refine zai ?_ | refine gdr (zbn (fun _ => 9) (z1g (zcu k id).asid p.va) rfl rfl rfl (by kernel_rfl) rfl rfl ⟨rfl, trivial⟩ (by kernel_rfl)) ?_) | (refine hK _ ?_; clear hK K) | refine zac rfl ?_ | refine zag rfl rfl ?_ | refine zaf ?_ | refine zal ?_ | refine zab (fun K hK => ?_))
      refine zah rfl ?_
      refine zlp (za9 rfl rfl rfl rfl rfl rfl rfl rfl rfl rfl rfl rfl rfl (by omega)) (by kernel_rfl) ?_
      repeat (first | (refine zah rfl ?_; first | refine zai ?_) | (refine hK _ ?_; clear hK K) | refine zac rfl ?_)
      exact ⟨(i + 1, m + 1, vs ++ ((⟨true, p.va, true, (zcu k id).asid⟩ : Fe)).vs), ⟨by show i + 1 ≤ l.length; omega, hn1, hv1⟩, by show l.length - (i + 1) < l.length - i; omega, Sub.trans (zao [(6, .m (.c (.v (.slice none 0 0)))), (7, .m (.c (.cl 136 [9]))), (10, .m (.c (.o 42))), (30, .m (.c (.s l.length 8 (flP l)))), (31, .m (ii l.length)), (32, .m (ii ((i + 1 : Nat) : Int)))] [(9, .live (.box [cu (zcu k id).asid])), (42, .live (.row 141 4 (m + 1) (vs ++ (⟨true, p.va, true, (zcu k id).asid⟩ : Fe).vs)))] ⟨by kernel_rfl, by kernel_rfl, by kernel_rfl, by kernel_rfl, by kernel_rfl, by kernel_rfl, trivial⟩ ⟨by kernel_rfl, by kernel_rfl, trivial⟩ (by kernel_rfl)) (Sub.trans (zd4 (b := 42) (b' := 1000) rfl rfl) (zao _ _ ⟨by kernel_rfl, by kernel_rfl, by kernel_rfl, by kernel_rfl, by kernel_rfl, by kernel_rfl, trivial⟩ ⟨by kernel_rfl, by kernel_rfl, trivial⟩ (by kernel_rfl)))⟩
    · have ei : i = l.length := by omega
      rw [ei, List.take_length] at g2 g3
      obtain rfl : N = m := by rw [hN, g2]
      obtain rfl : XS = vs := by rw [hXS, g3]
      repeat (first | (refine zah rfl ?_; first | refine zai ?_) | (refine hK _ ?_; clear hK K) | (rename_i K1 hK1; refine hK1 _ ?_; clear hK hK1; clear K) | refine zac rfl ?_ | exact zaj (show zau _ _ _ = some _ by kernel_rfl) | refine zae rfl rfl ?_ | refine zaz ?_ | refine zab (fun K hK => ?_))
end Go.Proofs.YtomeaibdedaldaaGreatDoor.LjA
namespace Go.Proofs.YtomeaibdedaldaaGreatDoor.LjF
open Go.RowKit Bv VaSpec Base MemL RegR Ax MemC PutC MemC3 TzC OkS SpA SpB SpC SpF SpH SpI SpJ LaA LaB LaC LaD LaE LaF LaG LiA LiB LiC LiD LiE LiF SpE SpG SpO LjA LjB LjC LjD LjE LiF
open BitsC PteSpec
set_option maxRecDepth 10000
set_option maxHeartbeats 1000000
section
variable {cd cp sz f sh : Int} {xs : List (Int × Int)} {lv : Int → Int}
theorem zyj (addr : Int) (ha : U addr) (h : TI cd cp sz xs f sh lv) (hn : xs.length ≤ 100000) (l : Nat) (t : Int) (h2 : l ≤ 2) (ht : Al cd cp f t) (hl : lv t = l) (hH : 2 ≤ l → idx addr 2 ≠ 511) :
    Ok 79 [zbt sz xs, .ag [cu cd, ci cp, cu f], iu t, ii l, iu addr] (.tu [zbt sz (prN sz cd cp addr l t (xs, f)).1, .ag [cu cd, ci cp, cu (prN sz cd cp addr l t (xs, f)).2]]) := by
  have hf := z1f addr ha h hn l t h2 ht hl hH
  generalize prN sz cd cp addr l t (xs, f) = p at *
  have hf : zb9 Tryz.prog GG 142 [(2000, [cu sz, .s xs.length 2 (fl xs), cu cd, ci cp, cu f, cu addr], [cu sz, .s p.1.length 2 (fl p.1), cu cd, ci cp, cu p.2, cu addr])] [.c (.p 2000 0), iu t, ii l] (.tu []) := hf
  refine zad 30 Tryz.func79 rfl rfl rfl rfl ?_ GG.to
  intro W A hG
  repeat (first | (refine zah rfl ?_; first | refine zai ?_ | refine gdr (zh8 (fun _ => 17) hf rfl rfl (by kernel_rfl) rfl ⟨rfl, trivial⟩ (by kernel_rfl)) ?_) | (refine hK _ ?_; clear hK K) | refine zac rfl ?_ | refine zas (by kernel_rfl) (by kernel_rfl) rfl ?_ | exact zaj (show zau _ _ _ = some _ by kernel_rfl) | refine zab (fun K hK => ?_))
theorem z1k (h : TI cd cp sz xs f sh lv) {t i : Int} (hi : 0 ≤ i ∧ i < 512) (c : zbf (atM sz xs t i) = true) : 1 ≤ lv t := by
  rcases h.e.k t i hi with e | ⟨_, _, ⟨e, _⟩ | ⟨e, _⟩⟩
  · rw [e] at c; cases c
  · rw [(zbr e).1] at c; cases c
  · exact (zcv h hi e).2.1.1
end
theorem z3t (n : Int) : U (ofv n) := by
  unfold ofv zjd
  split <;> exact ⟨by omega, by omega⟩
theorem zml (sz : Int) (xs : List (Int × Int)) (l : Int) (q : Pte) (b : Int) (hb : U b) (l2 : l ≤ 2) : (zbi sz xs l q b).length ≤ 262144 ∧ ∀ y ∈ zbi sz xs l q b, U y.va := by
  have hpv : ∀ (m : Nat) (t b : Int), U b → ∀ y ∈ zbq sz xs m t b, U y.va := by
    intro m
    induction m with
    | zero =>
      intro t b hb y hy
      obtain ⟨i, _, hy⟩ := List.mem_flatMap.1 hy
      unfold zfr at hy
      split at hy
      · cases hy
      · split at hy
        · rw [List.mem_singleton.1 hy]; exact z3t _
        · cases hy
    | succ m IH =>
      intro t b hb y hy
      obtain ⟨i, _, hy⟩ := List.mem_flatMap.1 hy
      unfold zfr at hy
      split at hy
      · cases hy
      · split at hy
        · rw [List.mem_singleton.1 hy]; exact z3t _
        · exact IH _ _ (z3b _ _ _) y hy
  unfold zbi
  split
  · exact ⟨by simp, fun y hy => by rw [List.mem_singleton.1 hy]; exact hb⟩
  · split
    · refine ⟨?_, hpv _ _ _ hb⟩
      rcases (by omega : (l - 1).toNat = 0 ∨ (l - 1).toNat = 1) with e | e
      · rw [e]; have := zhx sz xs q.ppn b; omega
      · rw [e]; exact zsy sz xs q.ppn b
    · exact ⟨by simp, fun y hy => by cases hy⟩
theorem z3u (k : Kr) (id : Int) (l : List Pg) (h : ∀ y ∈ l, U y.va) : ∀ f ∈ zjy k id l, U f.ad := by
  intro f hf
  unfold zjy at hf
  split at hf
  · rw [List.mem_singleton.1 hf]; unfold zya; split <;> exact ⟨by show (0 : Int) ≤ 0; decide, by show (0 : Int) < 18446744073709551616; decide⟩
  · obtain ⟨y, hy, rfl⟩ := List.mem_map.1 hf
    unfold zc1
    split <;> exact h y hy
theorem z1l (sz : Int) (xs : List (Int × Int)) (l : Nat) (t : Int) (h : l ≤ 1) : (frN sz xs l t).length ≤ 513 := by
  rcases (by omega : l = 0 ∨ l = 1) with rfl | rfl
  · simp [frN]
  · unfold frN
    rw [List.length_cons, List.length_flatMap]
    have : ∀ is : List Nat, (is.map fun (i : Nat) => (if za2 (atM sz xs t i) ((0 + 1 : Nat) : Int) then frN sz xs 0 (atM sz xs t i).ppn else []).length).sum ≤ is.length := by
      intro is
      induction is with
      | nil => exact Nat.le_refl _
      | cons i is IH =>
        rw [List.map_cons, List.sum_cons, List.length_cons]
        have : (if za2 (atM sz xs t i) ((0 + 1 : Nat) : Int) then frN sz xs 0 (atM sz xs t i).ppn else []).length ≤ 1 := by
          split
          · simp [frN]
          · simp
        omega
    have := this (List.range 512)
    rw [List.length_range] at this
    exact Nat.add_le_add_right this 1
def unH (k : Kr) (id a l top lw t l' : Int) (q : Pte) (PL : List Pg) (L : List Int) (m : List (Int × Int)) (f : Int) (i : Nat) : St := St.of [(1, .m (ii id)), (2, .m (iu a)), (3, .m (ii l)), (4, .m (.c (.p 4 0))), (8, .m (.c (.p 8 0))), (10, .m (iu top)), (11, .m (ii lw)), (13, .m (.c (.p 13 0))), (14, .m (.c (.p 14 0))), (15, .m (.c (.p 15 0))), (16, .m (.c (.s PL.length 8 (flP PL)))), (72, .m (.c (.s L.length 1 (vsI L)))), (73, .m (ii L.length)), (74, .m (ii i))]
  [(4, .live (.box k.ce)), (8, .live (.box zK)), (13, .live (.box [cu k.sz, .s m.length 2 (fl m)])), (14, .live (.box [cu k.pb, ci k.pm, cu f])), (15, .live (.box (zb0 t l' q)))]
theorem zec {n : Nat} {k : Kr} (h : InvT n k) (hn : n ≤ 88000) (id a l : Int) (ha : U a) : Ok 27 [.ag k.ce, ii id, iu a, ii l] (.tu [.ag (unR k id a l).1.ce, ii (unR k id a l).2]) := by
  have hw := zma k id a l ha
  have hin := zrp h (by omega) id a l ha
  obtain ⟨R, hR⟩ : ∃ R, R = unR k id a l := ⟨_, rfl⟩
  rw [← hR]
  unfold unR at hR
  by_cases c0 : (zan k id a l).2.2 ≠ 0
  · rw [if_pos c0] at hR
    generalize zan k id a l = w at *
    subst hR
    refine zad 107 Tryz.func27 rfl rfl rfl rfl ?_ GG.to
    intro W A hG
    repeat (first | (refine zah rfl ?_; first | refine zai ?_ | refine gdr (zaa rfl rfl rfl (hw) (by kernel_rfl)) ?_) | (refine hK _ ?_; clear hK K) | refine zac rfl ?_ | exact zaj (show zau _ _ _ = some _ by kernel_rfl) | refine zag rfl rfl ?_ | refine zab (fun K hK => ?_))
  rw [if_neg c0] at hR
  replace c0 : (zan k id a l).2.2 = 0 := by omega
  obtain ⟨lv, hT, hs, hr⟩ := h.t
  obtain ⟨w1, w2, w3, w4⟩ := zbw (id := id) (a := a) (l := l) h.l c0
  obtain ⟨z1, z2⟩ := h.top (a := a) (id := id) (l := l) c0 hs hr
  have hlive : id = -1 ∨ (id ≠ -1 ∧ za5 k id = true) := by
    rcases zeb h.l c0 with ⟨_, _, e⟩ | ⟨e1, e2, _⟩
    · exact .inl e
    · exact .inr ⟨e2, e1⟩
  rw [c0] at hw
  generalize (zan k id a l).1 = top at *
  generalize (zan k id a l).2.1 = lw at *
  have b1 := hT.bd
  have b2 := hT.bp
  have bt := w2.1
  have hml := h.l.ml
  have hfl := h.l.fl
  have hpb := h.l.pb
  have hpm := h.l.pm
  by_cases c1 : (inR k id a l).length = 0
  · rw [if_pos c1] at hR
    rw [List.length_eq_zero_iff.1 c1] at hin
    clear c1
    subst hR
    refine zad 107 Tryz.func27 rfl rfl rfl rfl ?_ GG.to
    intro W A hG
    repeat (first | (refine zah rfl ?_; first | refine zai ?_ | refine gdr (zaa rfl rfl rfl (hw) (by kernel_rfl)) ?_ | refine gdr (zaa rfl rfl rfl (hin) (by kernel_rfl)) ?_) | (refine hK _ ?_; clear hK K) | refine zac rfl ?_ | exact zaj (show zau _ _ _ = some _ by kernel_rfl) | refine zag rfl rfl ?_ | refine zae rfl rfl ?_ | refine zal ?_ | refine zab (fun K hK => ?_))
  rw [if_neg c1] at hR
  generalize inR k id a l = IL at *
  obtain ⟨m, rfl⟩ := Int.eq_ofNat_of_zero_le (show 0 ≤ lw by omega)
  have hto := z40 top a l m k.m k.pf lv hT w2 h.l.sh z1 ha (by omega) w1.1 w3 (by omega) _ rfl
  obtain ⟨lv', P⟩ := zx9 a l top m w1.1 w3 (by omega) m k.m k.pf lv hT w2 h.l.sh z1
  unfold unT at hR
  rw [Int.toNat_natCast] at hR
  have hKe : ∀ T, unK k id top (m : Int) a l T = unK k id top (m : Int) a l T := fun _ => rfl
  generalize toN k.sz k.cd a l top m m k.m k.pf = T at *
  obtain ⟨xs, f, ⟨t, lt⟩, e⟩ := T
  obtain ⟨l', e1, e2, e3, e4, e5⟩ := P.p
  replace e1 : lt = (l' : Int) := e1
  subst e1
  have y4 : Al k.cd k.cp f t := e4
  have y5 : lv' t = (l' : Int) := e5
  by_cases c5 : e ≠ 0
  · rw [if_pos c5] at hR
    rw [if_neg (show ¬ (xs, f, (t, (l' : Int)), e).2.2.2 = 0 from c5)] at hto
    replace hto : Ok 74 [zbt k.sz k.m, .ag [cu k.cd, ci k.cp, cu k.pf], iu top, ii m, iu a, ii l] (.tu [zbt k.sz k.m, .ag [cu k.cd, ci k.cp, cu k.pf], .ag (zb0 0 0 zP), ii e]) := hto
    rw [← hpb, ← hpm] at hto
    replace hR : R = (k, e) := hR
    subst hR
    refine zad 107 Tryz.func27 rfl rfl rfl rfl ?_ GG.to
    intro W A hG
    repeat (first | (refine zah rfl ?_; first | refine zai ?_ | refine gdr (zaa rfl rfl rfl (hw) (by kernel_rfl)) ?_ | refine gdr (zaa rfl rfl rfl (hin) (by kernel_rfl)) ?_ | refine gdr (zaa rfl rfl rfl (hto) (by kernel_rfl)) ?_) | (refine hK _ ?_; clear hK K) | refine zac rfl ?_ | exact zaj (show zau _ _ _ = some _ by kernel_rfl) | refine zag rfl rfl ?_ | refine zae rfl rfl ?_ | refine zal ?_ | refine zab (fun K hK => ?_))
  rw [if_neg c5] at hR
  obtain rfl : e = 0 := by omega
  rw [if_pos (show (xs, f, (t, (l' : Int)), (0 : Int)).2.2.2 = 0 from rfl)] at hto
  replace hto : Ok 74 [zbt k.sz k.m, .ag [cu k.cd, ci k.cp, cu k.pf], iu top, ii m, iu a, ii l] (.tu [zbt k.sz xs, .ag [cu k.cd, ci k.cp, cu f], .ag (zb0 t (l' : Int) (atM k.sz xs t (idx a (l' : Int)))), ii 0]) := hto
  have hPt : TI k.cd k.cp k.sz xs f k.sh lv' := P.t
  have ash := P.a _ h.l.sh
  have atop := P.a _ w2
  have hi := idx_bd a (l' : Int)
  have bt' := y4.1
  have hxl : xs.length ≤ k.m.length + 513 * m := P.n
  obtain ⟨c2, c3, c4, c6, c7⟩ := zoa (a := a) (e := 0) (t := t) (xs := xs) (f := f) (lv := lv') hPt ash.1 y4 y5 (by omega) (fun hh => z2 (by omega))
  have hlt : lv' top = (m : Int) := atop.2.trans z1
  have atop2 := c3 _ atop.1 (.inr (by rw [hlt]; omega))
  have hq := zhq hPt.u k.sz t (idx a (l' : Int))
  have hqp := zfo (xs := xs) k.sz t (idx a (l' : Int))
  have hpl := zod k.sz xs t (l' : Int) (atM k.sz xs t (idx a (l' : Int))) a ha hPt.s hPt.u hqp (by omega) (by omega) (fun c => by have := z1k hPt hi c; omega)
  have hub := zml k.sz xs (l' : Int) (atM k.sz xs t (idx a (l' : Int))) (VaSpec.base a (l' : Int)) (zro ha (by omega) (by omega)) (by omega)
  have hU2 : Uw (zde k.sz k.cd k.cp (xs, f, (t, (l' : Int)), (0 : Int)) a).1 := fun c hc => by
    unfold zde at hc
    split at hc
    · exact hPt.u c ((zf7 k.cd k.cp k.sz hPt.bp _ (xs, f) hPt.s hPt.bf).m c hc)
    · exact hPt.u c hc
  have hwt := zeq k.sz (zde k.sz k.cd k.cp (xs, f, (t, (l' : Int)), (0 : Int)) a).1 t (l' : Int) (atM k.sz xs t (idx a (l' : Int))) a ⟨false, false, false, false, false, false, false, false, 0, 0, 0⟩ ha z14 (by omega) (by omega) ⟨by omega, by omega⟩ c6 hU2 (by omega)
  replace hwt : Ok 49 [zbt k.sz (zde k.sz k.cd k.cp (xs, f, (t, (l' : Int)), (0 : Int)) a).1, .ag (zb0 t (l' : Int) (atM k.sz xs t (idx a (l' : Int)))), iu a, .ag (⟨false, false, false, false, false, false, false, false, 0, 0, 0⟩ : Pte).ce] (.m (zbt k.sz (za1 k.sz (zde k.sz k.cd k.cp (xs, f, (t, (l' : Int)), (0 : Int)) a).1 t (idx a (l' : Int)) zP))) := hwt
  have hpr := zyj a ha c2 (by omega) m top (by omega) atop2 hlt (fun hh => z2 (by omega))
  have hK : R = (zd6 { k with m := (prN k.sz k.cd k.cp a m top (za1 k.sz (zde k.sz k.cd k.cp (xs, f, (t, (l' : Int)), (0 : Int)) a).1 t (idx a (l' : Int)) zP, (zde k.sz k.cd k.cp (xs, f, (t, (l' : Int)), (0 : Int)) a).2)).1, pf := (prN k.sz k.cd k.cp a m top (za1 k.sz (zde k.sz k.cd k.cp (xs, f, (t, (l' : Int)), (0 : Int)) a).1 t (idx a (l' : Int)) zP, (zde k.sz k.cd k.cp (xs, f, (t, (l' : Int)), (0 : Int)) a).2)).2 } (zjy k id (zbi k.sz xs (l' : Int) (atM k.sz xs t (idx a (l' : Int))) (VaSpec.base a (l' : Int)))), 0) := by
    rw [hR]
    unfold unK unM
    rw [Int.toNat_natCast]
  have hfb := zri k id (zbi k.sz xs (l' : Int) (atM k.sz xs t (idx a (l' : Int))) (VaSpec.base a (l' : Int)))
  have hfU := z3u k id _ hub.2
  generalize prN k.sz k.cd k.cp a m top (za1 k.sz (zde k.sz k.cd k.cp (xs, f, (t, (l' : Int)), (0 : Int)) a).1 t (idx a (l' : Int)) zP, (zde k.sz k.cd k.cp (xs, f, (t, (l' : Int)), (0 : Int)) a).2) = p4 at *
  obtain ⟨m4, f4⟩ := p4
  have hfe : Ok 73 [.ag ({ k with m := m4, pf := f4 } : Kr).ce, ii id, .c (.s (zbi k.sz xs (l' : Int) (atM k.sz xs t (idx a (l' : Int))) (VaSpec.base a (l' : Int))).length 8 (flP (zbi k.sz xs (l' : Int) (atM k.sz xs t (idx a (l' : Int))) (VaSpec.base a (l' : Int)))))] (.m (.c (.s (zjy k id (zbi k.sz xs (l' : Int) (atM k.sz xs t (idx a (l' : Int))) (VaSpec.base a (l' : Int)))).length 4 (flF (zjy k id (zbi k.sz xs (l' : Int) (atM k.sz xs t (idx a (l' : Int))) (VaSpec.base a (l' : Int)))))))) := by
    rcases hlive with e | ⟨e, e'⟩
    · exact z1i { k with m := m4, pf := f4 } id _ e (by omega)
    · exact zv4 { k with m := m4, pf := f4 } id _ e e' (by omega)
  have hsf := znu { k with m := m4, pf := f4 } h.l.ts h.l.cs.2 (zjy k id (zbi k.sz xs (l' : Int) (atM k.sz xs t (idx a (l' : Int))) (VaSpec.base a (l' : Int)))) hfU (by omega) (by show k.fs.length ≤ _; omega)
  generalize zjy k id (zbi k.sz xs (l' : Int) (atM k.sz xs t (idx a (l' : Int))) (VaSpec.base a (l' : Int))) = FL at *
  generalize zbi k.sz xs (l' : Int) (atM k.sz xs t (idx a (l' : Int))) (VaSpec.base a (l' : Int)) = PL at *
  have hlk := zf0 (atM k.sz xs t (idx a (l' : Int)))
  have hlk1 : zbf (atM k.sz xs t (idx a (l' : Int))) = true → lkP (atM k.sz xs t (idx a (l' : Int))) = true := fun c => by
    rcases hPt.e.k t _ hi with e | ⟨_, _, ⟨e, _⟩ | ⟨e, _⟩⟩
    · rw [e] at c; cases c
    · rw [(zbr e).1] at c; cases c
    · exact e
  have hcut : zde k.sz k.cd k.cp (xs, f, (t, (l' : Int)), (0 : Int)) a = if zbf (atM k.sz xs t (idx a (l' : Int))) then bkN k.cd k.cp (frN k.sz xs ((l' : Int) - 1).toNat (atM k.sz xs t (idx a (l' : Int))).ppn) (xs, f) else (xs, f) := rfl
  clear hub hfb hfU hR c0 P
  generalize za1 k.sz (zde k.sz k.cd k.cp (xs, f, (t, (l' : Int)), (0 : Int)) a).1 t (idx a (l' : Int)) zP = m3 at *
  generalize zde k.sz k.cd k.cp (xs, f, (t, (l' : Int)), (0 : Int)) a = P2 at *
  cases c : zbf (atM k.sz xs t (idx a (l' : Int))) with
  | false =>
    rw [c] at hlk hcut
    rw [if_neg (by simp)] at hcut
    subst hcut
    generalize atM k.sz xs t (idx a (l' : Int)) = q at *
    rw [← hpb, ← hpm] at hto hpr
    subst hK
    refine zad 107 Tryz.func27 rfl rfl rfl rfl ?_ GG.to
    intro W A hG
    repeat (first | (refine zah rfl ?_; first | refine zai ?_ | refine gdr (zaa rfl rfl rfl (hw) (by kernel_rfl)) ?_ | refine gdr (zaa rfl rfl rfl (hin) (by kernel_rfl)) ?_ | refine gdr (zaa rfl rfl rfl (hto) (by kernel_rfl)) ?_ | refine gdr (zaa rfl rfl rfl (hpl) (by kernel_rfl)) ?_ | refine gdr (zaa rfl rfl rfl (hlk) (by kernel_rfl)) ?_ | refine gdr (zaa rfl rfl rfl (hwt) (by kernel_rfl)) ?_ | refine gdr (zaa rfl rfl rfl (hpr) (by kernel_rfl)) ?_ | refine gdr (zaa rfl rfl rfl (hfe) (by kernel_rfl)) ?_ | refine gdr (zaa rfl rfl rfl (hsf) (by kernel_rfl)) ?_) | (refine hK _ ?_; clear hK K) | refine zac rfl ?_ | refine zas (by kernel_rfl) (by kernel_rfl) rfl ?_ | exact zaj (show zau _ _ _ = some _ by kernel_rfl) | refine zae rfl rfl ?_ | refine zal ?_ | refine zab (fun K hK => ?_))
  | true =>
    obtain ⟨k1, k2, k3, k4⟩ := zcv hPt hi (hlk1 c)
    rw [c] at hlk hcut
    rw [if_pos rfl] at hcut
    have hl12 : l' = 1 ∨ l' = 2 := by omega
    have hfr : Ok 77 [zbt k.sz xs, iu (atM k.sz xs t (idx a (l' : Int))).ppn, ii ((l' : Int) - 1)] (.m (.c (.s (frN k.sz xs ((l' : Int) - 1).toNat (atM k.sz xs t (idx a (l' : Int))).ppn).length 1 (vsI (frN k.sz xs ((l' : Int) - 1).toNat (atM k.sz xs t (idx a (l' : Int))).ppn))))) := by
      clear hwt hpr hfe hsf hcut hto hpl hin hw hlk c c2 c3 c4 c6 c7 k1 k4 hi hlk1 hqp hq y5 e5 e4 e2 e3
      have hqp := zfo (xs := xs) k.sz t (idx a (l' : Int))
      generalize atM k.sz xs t (idx a (l' : Int)) = q at *
      rcases hl12 with rfl | rfl
      · exact zrl k.sz xs hPt.s hPt.u q.ppn hqp
      · exact zyc k.sz xs hPt.s hPt.u q.ppn hqp
    have hLl := z1l k.sz xs ((l' : Int) - 1).toNat (atM k.sz xs t (idx a (l' : Int))).ppn (by omega)
    have hLb : ∀ g ∈ frN k.sz xs ((l' : Int) - 1).toNat (atM k.sz xs t (idx a (l' : Int))).ppn, 0 ≤ g ∧ g < 1099511627776 := fun g hg => by
      have := (zbg hPt ((l' : Int) - 1).toNat _ k4 (by omega) g hg).1.1
      omega
    generalize frN k.sz xs ((l' : Int) - 1).toNat (atM k.sz xs t (idx a (l' : Int))).ppn = L at *
    have hxs := hPt.s
    have hxf := hPt.bf
    generalize atM k.sz xs t (idx a (l' : Int)) = q at *
    subst hK
    have hto' := hto
    have hpr' := hpr
    rw [← hpb, ← hpm] at hto' hpr'
    have b1p : 1 ≤ k.pb ∧ k.pb ≤ 524288 := by omega
    have b2p : 1 ≤ k.pm ∧ k.pm ≤ 64 := by omega
    clear hto hpr
    have hl0 : 1 ≤ (l' : Int) := by omega
    have hl2 : (l' : Int) ≤ 2 := by omega
    clear hl12 hlk1 k1 k2 k3 k4 c2 c3 c4 hPt y4 y5 e2 e3 e4 e5 hT hs hr hlive w2 atop atop2 ash hfl hlt z1 z2
    generalize (l' : Int) = li at *
    refine zad 107 Tryz.func27 rfl rfl rfl rfl ?_ GG.to
    intro W A hG
    repeat (first | (refine zah rfl ?_; first | refine zai ?_ | refine gdr (zaa rfl rfl rfl (hw) (by kernel_rfl)) ?_ | refine gdr (zaa rfl rfl rfl (hin) (by kernel_rfl)) ?_ | refine gdr (zaa rfl rfl rfl (hto') (by kernel_rfl)) ?_ | refine gdr (zaa rfl rfl rfl (hpl) (by kernel_rfl)) ?_ | refine gdr (zaa rfl rfl rfl (hlk) (by kernel_rfl)) ?_ | refine gdr (zaa rfl rfl rfl (hfr) (by kernel_rfl)) ?_) | (refine hK _ ?_; clear hK K) | refine zac rfl ?_ | refine zag rfl rfl ?_ | refine zae rfl rfl ?_ | refine zaf ?_ | refine zal ?_ | refine zab (fun K hK => ?_))
    refine za3 (α := Nat × List (Int × Int) × Int) (fun p => p.1 ≤ L.length ∧ bkN k.cd k.cp (L.drop p.1) (p.2.1, p.2.2) = P2 ∧ Srt p.2.1 ∧ p.2.1.length ≤ xs.length ∧ (0 ≤ p.2.2 ∧ p.2.2 < 2 ^ k.cp.toNat)) (fun p => unH k id a l top m t li q PL L p.2.1 p.2.2 p.1) (fun p => L.length - p.1) (0, xs, f) ⟨Nat.zero_le _, hcut.symm, hxs, Nat.le_refl _, hxf⟩ (zao _ _ ⟨by kernel_rfl, by kernel_rfl, by kernel_rfl, by kernel_rfl, by kernel_rfl, by kernel_rfl, by kernel_rfl, by kernel_rfl, by kernel_rfl, by kernel_rfl, by kernel_rfl, by kernel_rfl, by kernel_rfl, by kernel_rfl, trivial⟩ ⟨by kernel_rfl, by kernel_rfl, by kernel_rfl, by kernel_rfl, by kernel_rfl, trivial⟩ (by kernel_rfl)) ?_
    rintro ⟨i, mm, ff⟩ ⟨x1, x2, x3, x4, x5⟩
    have g1 : i ≤ L.length := x1
    have g2 : bkN k.cd k.cp (L.drop i) (mm, ff) = P2 := x2
    have g3 : Srt mm := x3
    have g4 : mm.length ≤ xs.length := x4
    have g5 : 0 ≤ ff ∧ ff < 2 ^ k.cp.toNat := x5
    clear x1 x2 x3 x4 x5
    show Aw _ _ _ _ (unH k id a l top m t li q PL L mm ff i)
    unfold unH
    by_cases hlt : i < L.length
    · have hgm := hLb _ (List.getElem_mem hlt)
      have hd0 : L.drop i = L[i] :: L.drop (i + 1) := List.drop_eq_getElem_cons hlt
      have hx : ((vsI L).drop (i * 1)).take 1 = [.int .u64 L[i]] := by rw [Nat.mul_one]; unfold vsI; rw [← List.map_drop, hd0]; rfl
      have hd := hd0
      rw [hd] at g2
      have hbk := zup k.sz mm k.cd k.cp ff L[i] ⟨by omega, by omega⟩ (by omega) (zg3 g5.1 g5.2 (by omega)) hgm g3 (by omega)
      clear hd hd0
      generalize L[i] = g at *
      replace g2 : bkN k.cd k.cp (L.drop (i + 1)) (TableC.zav mm g, TableC2.zdk k.cd k.cp ff g) = P2 := g2
      have hws := zcd g g3
      have hwl := zdv mm g
      have hgb := zp4 (cd := k.cd) (g := g) b2 g5
      generalize TableC.zav mm g = m5 at *
      generalize TableC2.zdk k.cd k.cp ff g = f5 at *
      rw [← hpb, ← hpm] at hbk
      repeat (first | (refine zah rfl ?_; first | refine zai ?_ | refine gdr (zaa rfl rfl rfl (hbk) (by kernel_rfl)) ?_) | (refine hK _ ?_; clear hK K) | refine zac rfl ?_ | refine zag rfl rfl ?_ | refine zaf ?_ | refine zal ?_ | refine zab (fun K hK => ?_))
      exact ⟨(i + 1, m5, f5), ⟨by show i + 1 ≤ L.length; omega, g2, hws, by show m5.length ≤ _; omega, hgb⟩, by show L.length - (i + 1) < L.length - i; omega, zao _ _ ⟨by kernel_rfl, by kernel_rfl, by kernel_rfl, by kernel_rfl, by kernel_rfl, by kernel_rfl, by kernel_rfl, by kernel_rfl, by kernel_rfl, by kernel_rfl, by kernel_rfl, by kernel_rfl, by kernel_rfl, by kernel_rfl, trivial⟩ ⟨by kernel_rfl, by kernel_rfl, by kernel_rfl, by kernel_rfl, by kernel_rfl, trivial⟩ (by kernel_rfl)⟩
    · have ei : i = L.length := by omega
      rw [ei, List.drop_length] at g2
      replace g2 : (mm, ff) = P2 := g2
      subst g2
      repeat (first | (refine zah rfl ?_; first | refine zai ?_ | refine gdr (zaa rfl rfl rfl (hwt) (by kernel_rfl)) ?_ | refine gdr (zaa rfl rfl rfl (hpr') (by kernel_rfl)) ?_ | refine gdr (zaa rfl rfl rfl (hfe) (by kernel_rfl)) ?_ | refine gdr (zaa rfl rfl rfl (hsf) (by kernel_rfl)) ?_) | (refine hK _ ?_; clear hK K) | (rename_i K1 hK1; refine hK1 _ ?_; clear hK hK1; clear K) | refine zac rfl ?_ | refine zas (by kernel_rfl) (by kernel_rfl) rfl ?_ | exact zaj (show zau _ _ _ = some _ by kernel_rfl) | refine zae rfl rfl ?_ | refine zaz ?_ | refine zab (fun K hK => ?_))
end Go.Proofs.YtomeaibdedaldaaGreatDoor.LjF
namespace Go.Proofs.YtomeaibdedaldaaGreatDoor.LkE
open Go.RowKit Bv VaSpec Base MemL RegR Ax MemC PutC MemC3 TzC OkS SpA SpB SpC SpF SpH SpI SpJ LaA LaB LaC LaD LaE LaF LaG LiA LiB LiC LiD LiE LiF SpE SpG SpO SpL SpN RfA RfB RfC RfD RlA RlB LjA LjB LjC LjD LjE LjF LiF LkA LkB LkC LkD
open BitsC PteSpec
set_option maxRecDepth 10000
set_option maxHeartbeats 1000000
end Go.Proofs.YtomeaibdedaldaaGreatDoor.LkE
namespace Go.Proofs.YtomeaibdedaldaaGreatDoor.LaI
open Go.RowKit Bv VaSpec Base MemL RegR Ax MemC PutC MemC3 TzC OkS SpA SpB SpC SpD SpE SpF SpG SpH SpI SpJ SpK SpN RfD RfE RfJ RfK LaA LaB LaC LaD LaE LaF LaG LaH RlB RlC
open BitsC PteSpec
set_option maxRecDepth 10000
set_option maxHeartbeats 1000000
attribute [local irreducible] Ax.zbx
noncomputable def bgI (a b c : Int) (n : Nat) : Nat → Kr
  | 0 => zs9 a b c n
  | i + 1 => (zbu (bgI a b c n i)).1
def bgH (k : Kr) (i : Nat) : St := St.of [(2, .m (.c (.p 2 0))), (3, .m (.c (.p 3 0))), (4, .m (.c (.p 4 0))), (6, .m (.c (.p 6 0))), (7, .m (ii i))] [(2, .live (.box zK)), (3, .live (.box zK)), (4, .live (.box k.ce)), (6, .live (.box k.ce))]
theorem zv5 {a b c : Int} {n : Nat} (h : zga a b c n = true) : ∀ i, Inv i (bgI a b c n i)
  | 0 => zjr h
  | i + 1 => zc7 (zv5 h i)
end Go.Proofs.YtomeaibdedaldaaGreatDoor.LaI
namespace Go.Proofs.YtomeaibdedaldaaGreatDoor.LkF
open Go.RowKit Bv VaSpec Base MemL RegR Ax MemC PutC MemC3 TzC OkS SpA SpB SpC SpF SpH SpI SpJ LaA LaB LaC LaD LaE LaF LaG LiA LiB LiC LiD LiE LiF SpE SpG SpK SpO SpL SpN RfA RfB RfC RfD RfE RfJ RfK RlA RlB RlC LaH LaI LjA LjB LjF LiF LkE
open BitsC PteSpec
set_option maxRecDepth 10000
set_option maxHeartbeats 1000000
attribute [local irreducible] Ax.zbx
theorem zoe (a b c : Int) (n : Nat) (h : zga a b c n = true) : Ok 25 [zl5 a b c n] (.tu [.ag (bgK a b c n).ce, .ag (bgK a b c n).ce]) := by
  have hn := z0z a b c n h
  have hr := z1c a b c n h
  refine zad 33 Tryz.func25 rfl rfl rfl rfl ?_ GG.to
  intro W A hG
  repeat (first | (refine zah rfl ?_; first | refine zai ?_ | refine gdr (zaa rfl rfl rfl (hn) (by kernel_rfl)) ?_ | refine gdr (zaa rfl rfl rfl (hr) (by kernel_rfl)) ?_) | (refine hK _ ?_; clear hK K) | refine zac rfl ?_ | refine zaf ?_ | refine zab (fun K hK => ?_))
  refine za3 (α := Nat) (fun i => i ≤ 2) (fun i => bgH (bgI a b c n i) i) (fun i => 2 - i) 0 (by omega) (zao _ _ ⟨by kernel_rfl, by kernel_rfl, by kernel_rfl, by kernel_rfl, by kernel_rfl, trivial⟩ ⟨by kernel_rfl, by kernel_rfl, by kernel_rfl, by kernel_rfl, trivial⟩ (by kernel_rfl)) ?_
  intro i hi
  show Aw _ _ _ _ (bgH (bgI a b c n i) i)
  unfold bgH
  by_cases hlt : i < 2
  · have hk := zv5 h i
    have hc := zsx hk (by omega)
    have hd := zp8 hk (by omega)
    have e : bgI a b c n (i + 1) = (zbu (bgI a b c n i)).1 := rfl
    generalize zbu (bgI a b c n i) = rr at *
    repeat (first | (refine zah rfl ?_; first | refine zai ?_ | refine gdr (zaa rfl rfl rfl (hc) (by kernel_rfl)) ?_ | refine gdr (zaa rfl rfl rfl (hd) (by kernel_rfl)) ?_) | (refine hK _ ?_; clear hK K) | refine zac rfl ?_ | refine zag rfl rfl ?_ | refine zaf ?_ | refine zal ?_ | refine zab (fun K hK => ?_))
    refine ⟨i + 1, by omega, by omega, ?_⟩
    rw [e]
    exact zao _ _ ⟨by kernel_rfl, by kernel_rfl, by kernel_rfl, by kernel_rfl, by kernel_rfl, trivial⟩ ⟨by kernel_rfl, by kernel_rfl, by kernel_rfl, by kernel_rfl, trivial⟩ (by kernel_rfl)
  · obtain rfl : i = 2 := by omega
    rw [show bgI a b c n 2 = bgK a b c n from rfl]
    repeat (first | (refine zah rfl ?_; first | refine zai ?_) | (refine hK _ ?_; clear hK K) | (rename_i K1 hK1; refine hK1 _ ?_; clear hK hK1; clear K) | refine zac rfl ?_ | refine zas (by kernel_rfl) (by kernel_rfl) rfl ?_ | exact zaj (show zau _ _ _ = some _ by kernel_rfl) | refine zae rfl rfl ?_ | refine zaz ?_ | refine zab (fun K hK => ?_))
structure Dd where
  lift : Bool
  id : Int
  va : Int
  pa : Int
  lev : Int
  p : Pm
def Dd.ce (d : Dd) : List Ce := [cb d.lift, ci d.id, cu d.va, cu d.pa, ci d.lev] ++ d.p.ce
def Dd.vs (d : Dd) : List Value := [.bool d.lift, .int .i64 d.id, .int .u64 d.va, .int .u64 d.pa, .int .i64 d.lev, .bool d.p.r, .bool d.p.w, .bool d.p.x, .bool d.p.u]
def UD (d : Dd) : Prop := U d.va ∧ U d.pa
def ddR (k : Kr) (d : Dd) : Kr × Int := if d.lift then unR k d.id d.va d.lev else zc2 k d.id d.va d.pa d.lev d.p
theorem z1m {n : Nat} {k : Kr} {d : Dd} (h : InvT n k) (hd : UD d) : InvT (n + 1100) (ddR k d).1 := by
  unfold ddR
  split
  · exact zrj h
  · have hm := ze6 (id := d.id) (a := d.va) (pa := d.pa) (l := d.lev) (p := d.p) h hd.2
    exact ⟨{ hm.l with ml := by have := hm.l.ml; omega, fl := by have := hm.l.fl; omega }, hm.t⟩
theorem z41 {n : Nat} {k : Kr} {d : Dd} (h : InvT n k) (hn : n ≤ 88000) (hd : UD d) : Ok 26 [.ag k.ce, .ag d.ce] (.tu [.ag (ddR k d).1.ce, ii (ddR k d).2]) := by
  obtain ⟨b, id, va, pa, lev, p⟩ := d
  obtain ⟨h1, h2⟩ := hd
  obtain ⟨R, hR⟩ : ∃ R, R = ddR k ⟨b, id, va, pa, lev, p⟩ := ⟨_, rfl⟩
  rw [← hR]
  unfold Dd.ce
  cases b with
  | true =>
    have hu := zec h hn id va lev h1
    replace hR : R = unR k id va lev := hR
    rw [← hR] at hu
    refine zad 32 Tryz.func26 rfl rfl rfl rfl ?_ GG.to
    intro W A hG
    repeat (first | (refine zah rfl ?_; first | refine zai ?_ | refine gdr (zaa rfl rfl rfl (hu) (by kernel_rfl)) ?_) | (refine hK _ ?_; clear hK K) | refine zac rfl ?_ | exact zaj (show zau _ _ _ = some _ by kernel_rfl) | refine zag rfl rfl ?_ | refine zab (fun K hK => ?_))
  | false =>
    have hu := zp3 h.l (by omega) id va pa lev p h1 h2
    replace hR : R = zc2 k id va pa lev p := hR
    rw [← hR] at hu
    refine zad 32 Tryz.func26 rfl rfl rfl rfl ?_ GG.to
    intro W A hG
    repeat (first | (refine zah rfl ?_; first | refine zai ?_ | refine gdr (zaa rfl rfl rfl (hu) (by kernel_rfl)) ?_) | (refine hK _ ?_; clear hK K) | refine zac rfl ?_ | exact zaj (show zau _ _ _ = some _ by kernel_rfl) | refine zae rfl rfl ?_ | refine zal ?_ | refine zab (fun K hK => ?_))
set_option maxHeartbeats 8000000 in
theorem zj0 : Ok 23 [] (.m (ib true)) := by
  have hN : Ok 25 [zl5 4 8 2 1] (.tu [.ag c2.ce, .ag c2.ce]) := by rw [← bg2]; exact zoe 4 8 2 1 (by decide)
  have hA := zp3 t2.l (by omega) 0 20480 4096 0 rr ⟨by omega, by omega⟩ ⟨by omega, by omega⟩
  rw [uA] at hA
  have hB := zp3 jA.l (by omega) (-1) 18446744073709547520 0 0 rr ⟨by omega, by omega⟩ ⟨by omega, by omega⟩
  rw [uB] at hB
  have hC := zec jB (by omega) 0 20480 0 ⟨by omega, by omega⟩
  rw [uC] at hC
  have hF := zec jC (by omega) 0 20480 0 ⟨by omega, by omega⟩
  rw [uF] at hF
  have hD := zec jC (by omega) (-1) 18446744073707454464 1 ⟨by omega, by omega⟩
  rw [uD] at hD
  have hH := zec jC (by omega) 7 20480 0 ⟨by omega, by omega⟩
  rw [uH] at hH
  have hI1 := zrp jB (by omega) 0 0 2 ⟨by omega, by omega⟩
  rw [vB] at hI1
  have hI1 : Ok 33 [.ag dB.ce, ii 0, iu 0, ii 2] (.m (.c (.s 1 8 (flP [⟨20480, 4096, 0, true, false, false, false, false⟩])))) := hI1
  have hI2 := zrp jC (by omega) 0 0 2 ⟨by omega, by omega⟩
  rw [vC] at hI2
  have hI2 : Ok 33 [.ag dC.ce, ii 0, iu 0, ii 2] (.m (.c (.s 0 8 []))) := hI2
  have hS := zra [⟨true, 20480, true, 1⟩] (by decide)
  have hZ := zv4 c2 1 (List.replicate 17 ⟨0, 0, 0, false, false, false, false, false⟩) (by decide) (by decide) (by decide)
  have hx : ((flF dD.fs).drop ((1 : Int).toNat * 4)).take 4 = [.bool true, .int .u64 18446744073709547520, .bool false, .int .u64 0] := rfl
  have he : ∀ w, (Op.equalIn 10000 141 (.agg #[.bool true, .int .u64 18446744073709547520, .bool false, .int .u64 0]) (.agg #[.bool true, .int .u64 18446744073709547520, .bool false, .int .u64 0])).run Tryz.prog w = .ok true w := fun w => by rw [zq8]; simp
  have hp : ∀ w, (Op.equalIn 10000 39 (.agg #[.int .u64 4, .int .i64 8, .int .u64 248]) (.agg #[.int .u64 4, .int .i64 8, .int .u64 248])).run Tryz.prog w = .ok true w := fun w => by rw [PoolC4.zud 9998]; rfl
  refine zad 115 Tryz.func23 rfl rfl rfl rfl ?_ GG.to
  intro W A hG
  repeat (first | (refine zah rfl ?_; first | refine zai ?_) | refine zac rfl ?_ | refine zab (fun K hK => ?_))
  first
    | (refine hK _ ?_; clear hK K)
    | (rename_i K1 hK1; refine hK1 _ ?_; clear hK hK1; clear K)
    | (rename_i K1 hK1; refine hK1 _ ?_; clear hK1)
  repeat (first | (refine zah rfl ?_; first | refine zai ?_ | refine gdr (zaa rfl rfl rfl (hN) (by kernel_rfl)) ?_) | refine zac rfl ?_ | refine zab (fun K hK => ?_))
  first
    | (refine hK _ ?_; clear hK K)
    | (rename_i K1 hK1; refine hK1 _ ?_; clear hK hK1; clear K)
    | (rename_i K1 hK1; refine hK1 _ ?_; clear hK1)
  refine zdr (zao [(1, .m (.c (.p 1 0)))] [(1, .live (.box c2.ce))] ⟨by kernel_rfl, trivial⟩ ⟨by kernel_rfl, trivial⟩ (by kernel_rfl)) ?_
  repeat (first | (refine zah rfl ?_; first | refine zai ?_) | refine zac rfl ?_ | refine zab (fun K hK => ?_))
  first
    | (refine hK _ ?_; clear hK K)
    | (rename_i K1 hK1; refine hK1 _ ?_; clear hK hK1; clear K)
    | (rename_i K1 hK1; refine hK1 _ ?_; clear hK1)
  refine zdr (zao [(1, .m (.c (.p 1 0))), (3, .m (.c (.p 3 0)))] [(1, .live (.box c2.ce)), (3, .live (.box rr.ce))] ⟨by kernel_rfl, by kernel_rfl, trivial⟩ ⟨by kernel_rfl, by kernel_rfl, trivial⟩ (by kernel_rfl)) ?_
  repeat (first | (refine zah rfl ?_; first | refine zai ?_ | refine gdr (zaa rfl rfl rfl (hA) (by kernel_rfl)) ?_) | refine zac rfl ?_ | refine zab (fun K hK => ?_))
  first
    | (refine hK _ ?_; clear hK K)
    | (rename_i K1 hK1; refine hK1 _ ?_; clear hK hK1; clear K)
    | (rename_i K1 hK1; refine hK1 _ ?_; clear hK1)
  refine zdr (zao [(1, .m (.c (.p 1 0))), (3, .m (.c (.p 3 0))), (4, .m (.c (.p 4 0)))] [(1, .live (.box c2.ce)), (3, .live (.box rr.ce)), (4, .live (.box dA.ce))] ⟨by kernel_rfl, by kernel_rfl, by kernel_rfl, trivial⟩ ⟨by kernel_rfl, by kernel_rfl, by kernel_rfl, trivial⟩ (by kernel_rfl)) ?_
  repeat (first | (refine zah rfl ?_; first | refine zai ?_ | refine gdr (zaa rfl rfl rfl (hB) (by kernel_rfl)) ?_) | refine zac rfl ?_ | refine zab (fun K hK => ?_))
  first
    | (refine hK _ ?_; clear hK K)
    | (rename_i K1 hK1; refine hK1 _ ?_; clear hK hK1; clear K)
    | (rename_i K1 hK1; refine hK1 _ ?_; clear hK1)
  refine zdr (zao [(1, .m (.c (.p 1 0))), (3, .m (.c (.p 3 0))), (4, .m (.c (.p 4 0))), (6, .m (.c (.p 6 0)))] [(1, .live (.box c2.ce)), (3, .live (.box rr.ce)), (4, .live (.box dA.ce)), (6, .live (.box dB.ce))] ⟨by kernel_rfl, by kernel_rfl, by kernel_rfl, by kernel_rfl, trivial⟩ ⟨by kernel_rfl, by kernel_rfl, by kernel_rfl, by kernel_rfl, trivial⟩ (by kernel_rfl)) ?_
  repeat (first | (refine zah rfl ?_; first | refine zai ?_ | refine gdr (zaa rfl rfl rfl (hC) (by kernel_rfl)) ?_) | refine zac rfl ?_ | refine zab (fun K hK => ?_))
  first
    | (refine hK _ ?_; clear hK K)
    | (rename_i K1 hK1; refine hK1 _ ?_; clear hK hK1; clear K)
    | (rename_i K1 hK1; refine hK1 _ ?_; clear hK1)
  refine zdr (zao [(1, .m (.c (.p 1 0))), (3, .m (.c (.p 3 0))), (4, .m (.c (.p 4 0))), (6, .m (.c (.p 6 0))), (8, .m (.c (.p 8 0))), (9, .m (ii 0))] [(1, .live (.box c2.ce)), (3, .live (.box rr.ce)), (4, .live (.box dA.ce)), (6, .live (.box dB.ce)), (8, .live (.box dC.ce))] ⟨by kernel_rfl, by kernel_rfl, by kernel_rfl, by kernel_rfl, by kernel_rfl, by kernel_rfl, trivial⟩ ⟨by kernel_rfl, by kernel_rfl, by kernel_rfl, by kernel_rfl, by kernel_rfl, trivial⟩ (by kernel_rfl)) ?_
  repeat (first | (refine zah rfl ?_; first | refine zai ?_ | refine gdr (zaa rfl rfl rfl (hF) (by kernel_rfl)) ?_) | refine zac rfl ?_ | refine zab (fun K hK => ?_))
  first
    | (refine hK _ ?_; clear hK K)
    | (rename_i K1 hK1; refine hK1 _ ?_; clear hK hK1; clear K)
    | (rename_i K1 hK1; refine hK1 _ ?_; clear hK1)
  refine zdr (zao [(1, .m (.c (.p 1 0))), (3, .m (.c (.p 3 0))), (4, .m (.c (.p 4 0))), (6, .m (.c (.p 6 0))), (8, .m (.c (.p 8 0))), (9, .m (ii 0)), (11, .m (ii 7))] [(1, .live (.box c2.ce)), (3, .live (.box rr.ce)), (4, .live (.box dA.ce)), (6, .live (.box dB.ce)), (8, .live (.box dC.ce))] ⟨by kernel_rfl, by kernel_rfl, by kernel_rfl, by kernel_rfl, by kernel_rfl, by kernel_rfl, by kernel_rfl, trivial⟩ ⟨by kernel_rfl, by kernel_rfl, by kernel_rfl, by kernel_rfl, by kernel_rfl, trivial⟩ (by kernel_rfl)) ?_
  repeat (first | (refine zah rfl ?_; first | refine zai ?_ | refine gdr (zaa rfl rfl rfl (hD) (by kernel_rfl)) ?_) | refine zac rfl ?_ | refine zab (fun K hK => ?_))
  first
    | (refine hK _ ?_; clear hK K)
    | (rename_i K1 hK1; refine hK1 _ ?_; clear hK hK1; clear K)
    | (rename_i K1 hK1; refine hK1 _ ?_; clear hK1)
  refine zdr (zao [(1, .m (.c (.p 1 0))), (3, .m (.c (.p 3 0))), (4, .m (.c (.p 4 0))), (6, .m (.c (.p 6 0))), (8, .m (.c (.p 8 0))), (9, .m (ii 0)), (11, .m (ii 7)), (12, .m (.c (.p 12 0))), (13, .m (ii 0))] [(1, .live (.box c2.ce)), (3, .live (.box rr.ce)), (4, .live (.box dA.ce)), (6, .live (.box dB.ce)), (8, .live (.box dC.ce)), (12, .live (.box dD.ce))] ⟨by kernel_rfl, by kernel_rfl, by kernel_rfl, by kernel_rfl, by kernel_rfl, by kernel_rfl, by kernel_rfl, by kernel_rfl, by kernel_rfl, trivial⟩ ⟨by kernel_rfl, by kernel_rfl, by kernel_rfl, by kernel_rfl, by kernel_rfl, by kernel_rfl, trivial⟩ (by kernel_rfl)) ?_
  repeat (first | (refine zah rfl ?_; first | refine zai ?_ | refine gdr (zaa rfl rfl rfl (hH) (by kernel_rfl)) ?_) | refine zac rfl ?_ | refine zab (fun K hK => ?_))
  first
    | (refine hK _ ?_; clear hK K)
    | (rename_i K1 hK1; refine hK1 _ ?_; clear hK hK1; clear K)
    | (rename_i K1 hK1; refine hK1 _ ?_; clear hK1)
  refine zdr (zao [(1, .m (.c (.p 1 0))), (3, .m (.c (.p 3 0))), (4, .m (.c (.p 4 0))), (6, .m (.c (.p 6 0))), (8, .m (.c (.p 8 0))), (9, .m (ii 0)), (11, .m (ii 7)), (12, .m (.c (.p 12 0))), (13, .m (ii 0)), (15, .m (ii 4))] [(1, .live (.box c2.ce)), (3, .live (.box rr.ce)), (4, .live (.box dA.ce)), (6, .live (.box dB.ce)), (8, .live (.box dC.ce)), (12, .live (.box dD.ce))] ⟨by kernel_rfl, by kernel_rfl, by kernel_rfl, by kernel_rfl, by kernel_rfl, by kernel_rfl, by kernel_rfl, by kernel_rfl, by kernel_rfl, by kernel_rfl, trivial⟩ ⟨by kernel_rfl, by kernel_rfl, by kernel_rfl, by kernel_rfl, by kernel_rfl, by kernel_rfl, trivial⟩ (by kernel_rfl)) ?_
  repeat (first | (refine zah rfl ?_; first | refine zai ?_) | refine zas (by kernel_rfl) (by kernel_rfl) rfl ?_ | refine zab (fun K hK => ?_))
  refine zah rfl ?_
  refine zlp (zem (b := 60) (l := [.c (.s dC.fs.length 4 (flF dC.fs)), .c (.o 60)]) rfl rfl rfl (by kernel_rfl) rfl (by kernel_rfl) (zii (by kernel_rfl) hS)) (by kernel_rfl) ?_
  repeat (first | (refine zah rfl ?_; first | refine zai ?_ | (refine zho 98 rfl ?_; refine gdr (zaa rfl rfl rfl (hI1) (by kernel_rfl)) ?_) | (refine zho 104 rfl ?_; refine gdr (zaa rfl rfl rfl (hI2) (by kernel_rfl)) ?_) | refine gdr (zkr (n := 17) rfl rfl rfl rfl rfl rfl rfl rfl rfl rfl (by decide) (by decide) rfl) ?_ | refine gdr (zez rfl rfl rfl rfl rfl rfl (by decide) (by decide) _ hx) ?_ | refine gdr (zdh (us := [.bool true, .int .u64 18446744073709547520, .bool false, .int .u64 0]) (vs := [.bool true, .int .u64 18446744073709547520, .bool false, .int .u64 0]) he (by kernel_rfl) rfl rfl rfl rfl) ?_ | refine gdr (zdh (us := [.int .u64 4, .int .i64 8, .int .u64 248]) (vs := [.int .u64 4, .int .i64 8, .int .u64 248]) hp (by kernel_rfl) rfl rfl rfl rfl) ?_))
  refine zah rfl ?_
  refine zlp (zem (b := 110) (l := [.ag c2.ce, ii 1, .c (.o 110)]) rfl rfl rfl (by kernel_rfl) rfl (by kernel_rfl) (zii (by kernel_rfl) hZ)) (by kernel_rfl) ?_
  repeat (first | (refine zah rfl ?_; first | refine zai ?_) | (refine hK _ ?_; clear hK K) | exact zaj (show zau _ _ _ = some _ by kernel_rfl))
end Go.Proofs.YtomeaibdedaldaaGreatDoor.LkF
namespace Go.Proofs.YtomeaibdedaldaaGreatDoor.LaJ
open Go.RowKit Bv VaSpec Base MemL RegR Ax MemC PutC MemC3 TzC OkS SpA SpB SpC SpD SpE SpF SpG SpH SpI SpJ SpK SpN RfD RfE LaA LaB LaC LaD LaE LaF LaG LaH LaI RlB RlC
open BitsC PteSpec
set_option maxRecDepth 10000
set_option maxHeartbeats 1000000
attribute [local irreducible] Ax.zbx
structure Rq where
  id : Int
  va : Int
  pa : Int
  lev : Int
  p : Pm
deriving DecidableEq
def Rq.ce (q : Rq) : List Ce := [ci q.id, cu q.va, cu q.pa, ci q.lev, cb q.p.r, cb q.p.w, cb q.p.x, cb q.p.u]
def Rq.vs (q : Rq) : List Value := [.int .i64 q.id, .int .u64 q.va, .int .u64 q.pa, .int .i64 q.lev, .bool q.p.r, .bool q.p.w, .bool q.p.x, .bool q.p.u]
end Go.Proofs.YtomeaibdedaldaaGreatDoor.LaJ
namespace Go.Proofs.YtomeaibdedaldaaGreatDoor.LkG
open Go.RowKit Bv VaSpec Base MemL RegR Ax MemC PutC MemC3 TzC OkS SpA SpB SpC SpF SpH SpI SpJ LaA LaB LaC LaD LaE LaF LaG LiA LiB LiC LiD LiE LiF SpE SpG SpK SpO SpL SpN RfA RfB RfC RfD RfE RfJ RfK RlA RlB RlC LaH LaI LaJ LjA LjB LjF LiF LkE LkF
open BitsC PteSpec
set_option maxRecDepth 10000
set_option maxHeartbeats 1000000
attribute [local irreducible] Ax.zbx
def zyk (l : List Dd) : List Value := l.flatMap Dd.vs
theorem z1n {l : List Dd} {k : Nat} {d : Dd} (h : l[k]? = some d) : ((zyk l).drop (k * 9)).take 9 = [.bool d.lift, .int .i64 d.id, .int .u64 d.va, .int .u64 d.pa, .int .i64 d.lev, .bool d.p.r, .bool d.p.w, .bool d.p.x, .bool d.p.u] := zfn Dd.vs 9 (fun _ => rfl) l _ d h
theorem z1o {n : Nat} {k : Kr} (h : InvT n k) (id a l : Int) (ha : U a) : (inR k id a l).length ≤ 134217728 := by
  unfold inR
  by_cases c : (zan k id a l).2.2 = 0
  · rw [if_neg (by omega)]
    obtain ⟨l', t', e, h2, _⟩ := zqh (id := id) (a := a) (l := l) h c
    rw [e]
    exact Nat.le_trans (zml k.sz k.m _ _ _ (zro ha (by omega) (by omega)) (by show (l' : Int) ≤ 2; omega)).1 (by omega)
  · rw [if_pos c]; simp
end Go.Proofs.YtomeaibdedaldaaGreatDoor.LkG
namespace Go.Proofs.YtomeaibdedaldaaGreatDoor.Open
open Go.RowKit Go.WideShapes Go.ChangeShapes Base
set_option maxRecDepth 10000
section
variable {H : Type} {enc : TypeId × Value → H} {P : Program}
theorem keepAll (hl : laidOutB P = true) {W W' : World} (hb : Below W.heap.size W W') : ∀ {ts : List TypeId} {vs : List Value} {ds : List (DataW H)} {ps : List MemPlace},
    (ts.all fun t => P.readableRec t && decide (t < P.types.size)) = true → DataW.TrodAll enc P W 0 (fun _ => true) true ts vs ds ps → DataW.TrodAll enc P W' 0 (fun b => decide (b < W.heap.size)) true ts vs ds ps
  | [], [], [], _, _, h => h
  | t :: ts, v :: vs, d :: ds, ps, ht, ⟨a, b, h1, h2, e⟩ => by
    simp only [List.all_cons, Bool.and_eq_true, decide_eq_true_eq] at ht
    have h1' := h1
    obtain ⟨n, hn⟩ := h1
    exact ⟨a, b, Below.trod hl ht.1.1 ht.1.2 h1' hb (fun x hx => DataW.trod_lt n t _ _ hn x hx), keepAll hl hb ht.2 h2, e⟩
end
section
variable {H : Type} {enc : TypeId × Value → H} {W : World} {base b0 : Nat} {sp : Nat → Bool} {held : Bool} {n : Nat} {r : Reach}
theorem zfv {c : Value} {x : Option (DataW H × List MemPlace)} {y : DataW H × List MemPlace} (h : DataW.trod enc Tryz.prog W base sp held n 4 [c] = x) (hx : x = some y) : ∃ b, c = .bool b := by
  rw [hx] at h
  obtain ⟨b, e, _⟩ := DataW.trod_bool Tryz.underlying4 h
  exact ⟨b, by simpa using e⟩
theorem zrq {c : Value} {x : Option (DataW H × List MemPlace)} {y : DataW H × List MemPlace} (h : DataW.trod enc Tryz.prog W base sp held n 25 [c] = x) (hx : x = some y) : ∃ a, c = .int .u64 a ∧ U a := by
  rw [hx] at h
  obtain ⟨b, e, _, wf⟩ := DataW.trod_int Tryz.underlying25 h
  exact ⟨b, by simpa using e, U.of wf⟩
theorem zf9 {c : Value} {x : Option (DataW H × List MemPlace)} {y : DataW H × List MemPlace} (h : DataW.trod enc Tryz.prog W base sp held n 3 [c] = x) (hx : x = some y) : ∃ a, c = .int .i64 a ∧ (-9223372036854775808 ≤ a ∧ a ≤ 9223372036854775807) := by
  rw [hx] at h
  obtain ⟨b, e, _, wf⟩ := DataW.trod_int Tryz.underlying3 h
  refine ⟨b, by simpa using e, ?_⟩
  simp [Lit.wf, IntKind.min, IntKind.max, IntKind.bits, IntKind.signed] at wf; omega
theorem zc0 {α : Type} {xs : List α} {m i : Nat} (h : xs.length = m) (hi : i < m) : ∃ y, xs[i]? = some y := ⟨xs[i]'(by omega), List.getElem?_eq_getElem _⟩
end
end Go.Proofs.YtomeaibdedaldaaGreatDoor.Open
namespace Go.Proofs.YtomeaibdedaldaaGreatDoor.Laid
open Go.ChangeShapes Go.WideShapes Go.ChangeAt Go.RowKit Ax OkS LaC LaB Bv Base SpA LkF LkG MemL
set_option maxRecDepth 10000
def laidS : List (String × DataW Unit) := [("atlas/va.sizes", Rows.laid_atlas_va_sizes), ("math/bits.deBruijn64tab", Rows.laid_math_bits_deBruijn64tab), ("atlas/fence.asks", Rows.laid_atlas_fence_asks)]
theorem g_sizes : Tryz.prog.globalNamed "atlas/va.sizes" = some 0 := by kernel_rfl
theorem g_tab : Tryz.prog.globalNamed "math/bits.deBruijn64tab" = some 1 := by kernel_rfl
theorem g_asks : Tryz.prog.globalNamed "atlas/fence.asks" = some 2 := by kernel_rfl
theorem t_sizes : (Tryz.prog.globals[0]?).map (·.type) = some 201 := by kernel_rfl
theorem t_tab : (Tryz.prog.globals[1]?).map (·.type) = some 242 := by kernel_rfl
theorem t_asks : (Tryz.prog.globals[2]?).map (·.type) = some 261 := by kernel_rfl
theorem gg_of_laid {W : World} (h : laidMetH Tryz.prog laidS W) : GG W := by
  have hp := (show laidMet Tryz.prog _ W ∧ handlesMet Tryz.prog _ W from h).1
  obtain ⟨ps, ⟨g1, t1, cs1, f1, p1, q1, hg1, ht1, hv1, hd1, hr, _⟩, _, _⟩ := hp
  obtain ⟨g2, t2, cs2, f2, p2, q2, hg2, ht2, hv2, hd2, _, _⟩ := hr
  obtain rfl := Option.some.inj (g_sizes.symm.trans hg1)
  obtain rfl := Option.some.inj (t_sizes.symm.trans ht1)
  obtain rfl := Option.some.inj (g_tab.symm.trans hg2)
  obtain rfl := Option.some.inj (t_tab.symm.trans ht2)
  have e1 := Lib.cells_of_tab (k := .u64) (zs := [4096, 2097152, 1073741824]) Tryz.underlying201 Tryz.underlying25 (by kernel_rfl) (by kernel_rfl) hd1
  have e2 := Lib.cells_of_tab (k := .u8) (zs := List.map (fun n : Nat => (n : Int)) Lib.deBruijn64tab) Tryz.underlying242 Tryz.underlying5 (by kernel_rfl) (by kernel_rfl) hd2
  obtain ⟨g, t, cs, fuel, p, hg, ht, hv, hd⟩ := h.funcs (n := "atlas/fence.asks") (List.mem_cons_of_mem _ (List.mem_cons_of_mem _ (List.mem_cons_self ..)))
  obtain rfl := Option.some.inj (g_asks.symm.trans hg)
  obtain rfl := Option.some.inj (t_asks.symm.trans ht)
  have hd' : DataW.trod (funcToken Tryz.prog) Tryz.prog W 0 (fun _ => true) true fuel 261 cs.toList = some (.slice [.held [40, 97, 116, 108, 97, 115, 47, 102, 101, 110, 99, 101, 46, 102, 111, 114, 109, 41, 46, 97, 100, 100, 114], .held [40, 97, 116, 108, 97, 115, 47, 102, 101, 110, 99, 101, 46, 102, 111, 114, 109, 41, 46, 97, 115, 105, 100]] [], p) := hd
  obtain ⟨a, cap, hcs, _, hel⟩ := open_row Tryz.underlying261 (by kernel_rfl) hd'
  obtain ⟨v0, n0, q0, hc0, hr0⟩ := hel 0 _ rfl
  obtain ⟨v1, n1, q1', hc1, hr1⟩ := hel 1 _ rfl
  obtain rfl := func_of_trod (f0 := 223) Tryz.underlying262 (by kernel_rfl) hr0
  obtain rfl := func_of_trod (f0 := 225) Tryz.underlying262 (by kernel_rfl) hr1
  obtain ⟨b, off, spot⟩ := a
  have hspot : spot = none := by simpa [Addr.add] using World.cell?_spot hc0
  subst hspot
  have c1 : ∀ i, W.cell? ⟨0, i, none⟩ = cs1[i]? := fun i => by simpa using World.var?_cell hg1 hv1 i
  have c2 : ∀ i, W.cell? ⟨1, i, none⟩ = cs2[i]? := fun i => by simpa using World.var?_cell hg2 hv2 i
  have c3 : ∀ i, W.cell? ⟨2, i, none⟩ = cs[i]? := fun i => by simpa using World.var?_cell hg hv i
  refine ⟨⟨?_, ?_, ?_⟩, fun j hj => ?_, b, off, cap, ?_, by simpa [Addr.add, z13] using hc0, by simpa [Addr.add, z13] using hc1⟩
  · rw [c1, ← Array.getElem?_toList, e1]; rfl
  · rw [c1, ← Array.getElem?_toList, e1]; rfl
  · rw [c1, ← Array.getElem?_toList, e1]; rfl
  · rw [c2, ← Array.getElem?_toList, e2]
    simp [List.getD, hj]
  · rw [c3, ← Array.getElem?_toList, hcs]; rfl
section
variable {H : Type} {enc : TypeId × Value → H} {W : World} {base b0 : Nat} {sp : Nat → Bool} {held : Bool} {n : Nat} {r : Reach}
theorem open_conf {v : Value} {d : DataW H} {p : List MemPlace} (hv : Value.okWide Tryz.prog W r b0 23 v) (h : DataW.Trod enc Tryz.prog W base sp held 23 v d p) :
    ∃ x0 x1 x2 x3, v = .agg #[.int .i64 x0, .int .i64 x1, .int .i64 x2, .int .i64 x3] := by
  obtain ⟨⟨l⟩, rfl, hsz⟩ := okWide_struct Tryz.underlying23 hv
  rw [show Tryz.prog.cellsOf 23 = 4 by kernel_rfl] at hsz
  obtain ⟨fuel, hf⟩ := h
  obtain ⟨xs, n, _, _, _, hlen, hfd⟩ := DataW.trod_struct Tryz.underlying23 hf
  match l, hsz with
  | [c0, c1, c2, c3], _ =>
    have g := fun i f (e : _ = some f) => hfd i f e
    have k4 : Tryz.prog.cellsOf 3 = 1 := by kernel_rfl
    have hl : xs.length = 4 := hlen
    have h0 : DataW.trod enc Tryz.prog W base sp held n 3 [c0] = xs[0]? := by have := g 0 _ rfl; simpa [Value.cells, k4] using this
    obtain ⟨y0, q0⟩ := Open.zc0 hl (show 0 < 4 by decide)
    obtain ⟨x0, rfl, _⟩ := Open.zf9 (c := c0) h0 q0
    have h1 : DataW.trod enc Tryz.prog W base sp held n 3 [c1] = xs[1]? := by have := g 1 _ rfl; simpa [Value.cells, k4] using this
    obtain ⟨y1, q1⟩ := Open.zc0 hl (show 1 < 4 by decide)
    obtain ⟨x1, rfl, _⟩ := Open.zf9 (c := c1) h1 q1
    have h2 : DataW.trod enc Tryz.prog W base sp held n 3 [c2] = xs[2]? := by have := g 2 _ rfl; simpa [Value.cells, k4] using this
    obtain ⟨y2, q2⟩ := Open.zc0 hl (show 2 < 4 by decide)
    obtain ⟨x2, rfl, _⟩ := Open.zf9 (c := c2) h2 q2
    have h3 : DataW.trod enc Tryz.prog W base sp held n 3 [c3] = xs[3]? := by have := g 3 _ rfl; simpa [Value.cells, k4] using this
    obtain ⟨y3, q3⟩ := Open.zc0 hl (show 3 < 4 by decide)
    obtain ⟨x3, rfl, _⟩ := Open.zf9 (c := c3) h3 q3
    exact ⟨x0, x1, x2, x3, rfl⟩
theorem addk (b off k : Nat) : (⟨b, off, none⟩ : Addr).add k = ⟨b, off + k, none⟩ := by
  unfold Addr.add; split
  · rename_i h; subst h; rfl
  · rfl
theorem zrr {cs : List Value} {y : DataW H × List MemPlace} (hsz : cs.length = 9) (hf : DataW.trod enc Tryz.prog W base sp held n 79 cs = some y) : ∃ q : Dd, cs = q.vs ∧ UD q := by
  obtain ⟨xs, n, _, _, _, hlen, hfd⟩ := DataW.trod_struct Tryz.underlying79 hf
  match cs, hsz with
  | [c0, c1, c2, c3, c4, c5, c6, c7, c8], _ =>
    have g := fun i f (e : _ = some f) => hfd i f e
    have k_int : Tryz.prog.cellsOf 3 = 1 := by kernel_rfl
    have k_u64 : Tryz.prog.cellsOf 25 = 1 := by kernel_rfl
    have k_bool : Tryz.prog.cellsOf 4 = 1 := by kernel_rfl
    have k_perm : Tryz.prog.cellsOf 49 = 4 := by kernel_rfl
    have hl : xs.length = 6 := hlen
    have h0 : DataW.trod enc Tryz.prog W base sp held n 4 [c0] = xs[0]? := by have := g 0 _ rfl; simpa [Value.cells, k_int, k_u64, k_bool, k_perm] using this
    obtain ⟨y0, q0⟩ := Open.zc0 hl (show 0 < 6 by decide)
    obtain ⟨x0, rfl⟩ := Open.zfv (c := c0) h0 q0
    have h1 : DataW.trod enc Tryz.prog W base sp held n 3 [c1] = xs[1]? := by have := g 1 _ rfl; simpa [Value.cells, k_int, k_u64, k_bool, k_perm] using this
    obtain ⟨y1, q1⟩ := Open.zc0 hl (show 1 < 6 by decide)
    obtain ⟨x1, rfl, _⟩ := Open.zf9 (c := c1) h1 q1
    have h2 : DataW.trod enc Tryz.prog W base sp held n 25 [c2] = xs[2]? := by have := g 2 _ rfl; simpa [Value.cells, k_int, k_u64, k_bool, k_perm] using this
    obtain ⟨y2, q2⟩ := Open.zc0 hl (show 2 < 6 by decide)
    obtain ⟨x2, rfl, u2⟩ := Open.zrq (c := c2) h2 q2
    have h3 : DataW.trod enc Tryz.prog W base sp held n 25 [c3] = xs[3]? := by have := g 3 _ rfl; simpa [Value.cells, k_int, k_u64, k_bool, k_perm] using this
    obtain ⟨y3, q3⟩ := Open.zc0 hl (show 3 < 6 by decide)
    obtain ⟨x3, rfl, u3⟩ := Open.zrq (c := c3) h3 q3
    have h4 : DataW.trod enc Tryz.prog W base sp held n 3 [c4] = xs[4]? := by have := g 4 _ rfl; simpa [Value.cells, k_int, k_u64, k_bool, k_perm] using this
    obtain ⟨y4, q4⟩ := Open.zc0 hl (show 4 < 6 by decide)
    obtain ⟨x4, rfl, _⟩ := Open.zf9 (c := c4) h4 q4
    have h5 : DataW.trod enc Tryz.prog W base sp held n 49 [c5, c6, c7, c8] = xs[5]? := by have := g 5 _ rfl; simpa [Value.cells, k_int, k_u64, k_bool, k_perm] using this
    obtain ⟨y5, q5⟩ := Open.zc0 hl (show 5 < 6 by decide)
    rw [q5] at h5
    obtain ⟨zs, m, _, _, _, hlen2, hfd2⟩ := DataW.trod_struct Tryz.underlying49 h5
    have g2 := fun i f (e : _ = some f) => hfd2 i f e
    have hl2 : zs.length = 4 := hlen2
    have p0 : DataW.trod enc Tryz.prog W base sp held m 4 [c5] = zs[0]? := by have := g2 0 _ rfl; simpa [Value.cells, k_bool] using this
    obtain ⟨z0, w0⟩ := Open.zc0 hl2 (show 0 < 4 by decide)
    obtain ⟨b0, rfl⟩ := Open.zfv (c := c5) p0 w0
    have p1 : DataW.trod enc Tryz.prog W base sp held m 4 [c6] = zs[1]? := by have := g2 1 _ rfl; simpa [Value.cells, k_bool] using this
    obtain ⟨z1, w1⟩ := Open.zc0 hl2 (show 1 < 4 by decide)
    obtain ⟨b1, rfl⟩ := Open.zfv (c := c6) p1 w1
    have p2 : DataW.trod enc Tryz.prog W base sp held m 4 [c7] = zs[2]? := by have := g2 2 _ rfl; simpa [Value.cells, k_bool] using this
    obtain ⟨z2, w2⟩ := Open.zc0 hl2 (show 2 < 4 by decide)
    obtain ⟨b2, rfl⟩ := Open.zfv (c := c7) p2 w2
    have p3 : DataW.trod enc Tryz.prog W base sp held m 4 [c8] = zs[3]? := by have := g2 3 _ rfl; simpa [Value.cells, k_bool] using this
    obtain ⟨z3, w3⟩ := Open.zc0 hl2 (show 3 < 4 by decide)
    obtain ⟨b3, rfl⟩ := Open.zfv (c := c8) p3 w3
    exact ⟨⟨x0, x1, x2, x3, x4, ⟨b0, b1, b2, b3⟩⟩, rfl, u2, u3⟩
theorem open_dd {v : Value} {d : DataW H} {p : List MemPlace} (hv : Value.okWide Tryz.prog W r b0 79 v) (h : DataW.Trod enc Tryz.prog W base sp held 79 v d p) :
    ∃ q : Dd, v = .agg #[.bool q.lift, .int .i64 q.id, .int .u64 q.va, .int .u64 q.pa, .int .i64 q.lev, .bool q.p.r, .bool q.p.w, .bool q.p.x, .bool q.p.u] ∧ UD q := by
  obtain ⟨⟨l⟩, rfl, hsz⟩ := okWide_struct Tryz.underlying79 hv
  rw [show Tryz.prog.cellsOf 79 = 9 by kernel_rfl] at hsz
  obtain ⟨fuel, hf⟩ := h
  obtain ⟨q, e, hq⟩ := zrr (cs := l) hsz hf
  exact ⟨q, by rw [e]; rfl, hq⟩
theorem zyl (l : List Dd) : (zyk l).length = l.length * 9 := by
  induction l with
  | nil => rfl
  | cons c l ih => show ((_ :: _ :: _ :: _ :: _ :: _ :: _ :: _ :: _ :: zyk l).length) = _; simp only [List.length_cons, ih]; omega
theorem zrs : ∀ (l : List Dd) (i j : Nat) (q : Dd), l[i]? = some q → j < 9 → (zyk l)[i * 9 + j]? = q.vs[j]?
  | [], i, j, q, h, _ => by simp at h
  | x :: l, 0, j, q, h, hj => by
    simp at h; subst h
    show (x.vs ++ zyk l)[0 * 9 + j]? = _
    rw [Nat.zero_mul, Nat.zero_add, List.getElem?_append_left (by show j < 9; exact hj)]
  | x :: l, i + 1, j, q, h, hj => by
    have := zrs l i j q (by simpa using h) hj
    show (x.vs ++ zyk l)[(i + 1) * 9 + j]? = _
    rw [List.getElem?_append_right (by show 9 ≤ _; omega), show (i + 1) * 9 + j - x.vs.length = i * 9 + j by show (i + 1) * 9 + j - 9 = _; omega]
    exact this
theorem open_dds {v : Value} {d : DataW H} {p : List MemPlace} (hv : Value.okWide Tryz.prog W r b0 77 v) (h : DataW.Trod enc Tryz.prog W base (fun _ => true) held 77 v d p) :
    ∃ l : List Dd, (∀ x ∈ l, UD x) ∧ Ce.R (en0 (fun _ => True) W) (.s l.length 9 (zyk l)) v := by
  obtain ⟨a, len, cap, rfl⟩ := okWide_slice Tryz.underlying77 hv
  obtain ⟨fuel, hf⟩ := h
  have hf : DataW.trod enc Tryz.prog W base (fun _ => true) held fuel 77 [.slice a len cap] = some (d, p) := hf
  have ke : Tryz.prog.cellsOf 79 = 9 := by kernel_rfl
  rcases Deep.open_slice Tryz.underlying77 hf with ⟨e, _⟩ | ⟨a', len', cap', m, k, D, Pl, e, _, hl, hm, hmm, _, hx⟩
  · simp only [List.cons.injEq, and_true] at e
    refine ⟨[], fun x hx => (by cases hx), ?_⟩
    rw [e]
    exact ⟨⟨rfl, .inl ⟨rfl, rfl⟩⟩, fun a l c e => by cases e⟩
  · simp only [List.cons.injEq, and_true, Value.slice.injEq] at e
    obtain ⟨rfl, rfl, rfl⟩ := e
    have hok : Cell.ok Tryz.prog W r b0 77 (.slice (some a') len cap) := by
      have hv := hv
      unfold Value.okWide at hv
      rw [Tryz.underlying77] at hv
      unfold Cell.okWide at hv
      rw [Tryz.underlying77] at hv
      exact hv
    unfold Cell.ok at hok
    rw [Tryz.underlying77] at hok
    obtain ⟨_, _, _, hsp, row, cells, hsh, _⟩ := hok
    obtain ⟨b, off, spot⟩ := a'
    have hsp : spot = none := hsp
    subst hsp
    have hb : b < W.heap.size := by
      rcases Nat.lt_or_ge b W.heap.size with h | h
      · exact h
      · have hsh : W.shape? b = some (row, cells) := hsh
        unfold World.shape? at hsh
        rw [Array.getElem?_eq_none h] at hsh
        cases hsh
    have ku : ∀ i, i < len → ∃ q : Dd, (∀ j, j < 9 → W.cell? ⟨b, off + (i * 9 + j), none⟩ = q.vs[j]?) ∧ UD q := fun i hi => by
      obtain ⟨cs, g1, g2⟩ := hx i (by rw [hmm]; simp; omega)
      rw [ke] at g1
      obtain ⟨_, hlen, hcell⟩ := World.cells?_some g1
      obtain ⟨q, rfl, hq⟩ := zrr hlen g2
      refine ⟨q, fun j hj => ?_, hq⟩
      have e0 := hcell j (by omega)
      rw [addk, addk] at e0
      rw [← e0, Nat.add_assoc]
    haveI : Inhabited Dd := ⟨⟨false, 0, 0, 0, 0, ⟨false, false, false, false⟩⟩⟩
    obtain ⟨f, hf⟩ := Deep.choose_lt (α := Dd) (p := fun i q => (∀ j, j < 9 → W.cell? ⟨b, off + (i * 9 + j), none⟩ = q.vs[j]?) ∧ UD q) ku
    have hlen : ((List.range len).map f).length = len := by simp
    refine ⟨(List.range len).map f, fun x hx => ?_, ⟨by rw [zyl], .inr ⟨b, off, cap, by rw [hlen], hb, by rw [hlen]; exact hl, hm, fun i hi => ?_⟩⟩, fun _ _ _ _ => trivial⟩
    · obtain ⟨i, hi, rfl⟩ := List.mem_map.1 hx
      exact (hf i (List.mem_range.1 hi)).2
    · rw [hlen] at hi
      have hi2 : i / 9 < len := by omega
      obtain ⟨e0, _⟩ := hf (i / 9) hi2
      have hg := zrs ((List.range len).map f) (i / 9) (i % 9) (f (i / 9)) (by simp [hi2]) (by omega)
      have e1 := e0 (i % 9) (by omega)
      rw [show i / 9 * 9 + i % 9 = i by omega] at hg e1
      rw [hg]; exact e1
end
end Go.Proofs.YtomeaibdedaldaaGreatDoor.Laid
namespace Go.Proofs.YtomeaibdedaldaaGreatDoor.LrA
open Go.RowKit Bv VaSpec Base MemL RegR Ax MemC PutC MemC3 TzC OkS SpA SpB SpC SpD SpE SpF SpG SpH SpI SpJ SpN SpO RfP RfQ RfE RfG RfJ RfK LaA LaB LaC LaD LaE LaF LaG LaH LiA LiB LiC LiD LiE LiF
open BitsC PteSpec
set_option maxRecDepth 10000
set_option maxHeartbeats 1000000
def NE (E : Int → Int → Pte) (sh : Int) : Prop := ∀ s i, (0 ≤ i ∧ i < 512) → lkP (E s i) = true → (E s i).ppn ≠ sh → ∃ j, (0 ≤ j ∧ j < 512) ∧ E (E s i).ppn j ≠ zP
def NEx (E : Int → Int → Pte) (sh g : Int) : Prop := ∀ s i, (0 ≤ i ∧ i < 512) → lkP (E s i) = true → (E s i).ppn ≠ sh → (E s i).ppn ≠ g → ∃ j, (0 ≤ j ∧ j < 512) ∧ E (E s i).ppn j ≠ zP
theorem NEx.full {E : Int → Int → Pte} {sh g i : Int} (h : NEx E sh g) (hi : 0 ≤ i ∧ i < 512) (hn : E g i ≠ zP) : NE E sh := fun s j hj h1 h2 => by
  by_cases c : (E s j).ppn = g
  · exact ⟨i, hi, by rw [c]; exact hn⟩
  · exact h s j hj h1 h2 c
theorem NE.ex {E : Int → Int → Pte} {sh : Int} (h : NE E sh) (g : Int) : NEx E sh g := fun s j hj h1 h2 _ => h s j hj h1 h2
theorem zs5 {p : Pte} (h : p.v = true) : p ≠ zP := fun e => by rw [e] at h; cases h
section
variable {cd cp sz sh : Int}
theorem z1p (addr zam : Int) (hw : 0 ≤ zam) : ∀ (l : Nat) (xs : List (Int × Int)) (f t : Int) (lv : Int → Int), TI cd cp sz xs f sh lv → Al cd cp f t → Al cd cp f sh → lv t = l → l ≤ 2 → NEx (atM sz xs) sh t →
    (dnN sz cd addr zam l xs f t).2.2.2 = 0 → NEx (atM sz (dnN sz cd addr zam l xs f t).1) sh (dnN sz cd addr zam l xs f t).2.2.1
  | 0, xs, f, t, lv, h, ht, _, hl, _, hx, _ => hx
  | l + 1, xs, f, t, lv, h, ht, hsh, hl, h2, hx, he => by
    have hi := idx_bd addr ((l + 1 : Nat) : Int)
    unfold dnN at he ⊢
    split
    · exact hx
    · rename_i c1
      rw [if_neg c1] at he
      split
      · rename_i c2; rw [if_pos c2] at he; cases he
      · rename_i c2
        rw [if_neg c2] at he
        have hk := h.e.k t _ hi
        split
        · rename_i c3
          rw [if_pos c3] at he
          rcases hk with e | ⟨_, _, ⟨e, _⟩ | ⟨e1, e2, e3, e4⟩⟩
          · rw [e] at c3; cases c3
          · exact absurd e c2
          · exact z1p addr zam hw l xs f _ lv h e4 hsh (by rw [e3, hl]; omega) (by omega) ((hx.full hi (zs5 c3)).ex _) he
        · rename_i c3
          rw [if_neg c3] at he
          split
          · rename_i c4; rw [if_pos c4] at he; cases he
          · rename_i c4
            rw [if_neg c4] at he
            obtain ⟨a0, a1, a2, a3⟩ := zc8 h c4
            have b1 := h.bd
            have b2 := h.bp
            have hbt := ht.1
            have hn : zbf (atM sz xs t (idx addr ((l + 1 : Nat) : Int))) = false := by
              unfold zbf
              rw [show (atM sz xs t (idx addr ((l + 1 : Nat) : Int))).v = false by simpa using c3]; rfl
            have hnn : 0 ≤ cd + tzI f ∧ cd + tzI f < 17592186044416 := by omega
            have hT := zqc h c4 ht hsh (by rw [hl]; omega) hi hn
            have hat : ∀ s j, (0 ≤ j ∧ j < 512) → atM sz (za1 sz xs t (idx addr ((l + 1 : Nat) : Int)) (lnk (cd + tzI f))) s j = if s = t ∧ j = idx addr ((l + 1 : Nat) : Int) then lnk (cd + tzI f) else atM sz xs s j := fun s j hj => by
              rw [h.gm.with ht hi (zg8 hnn)]
              by_cases hd : s * 4096 + j * 8 < sz
              · rw [zg7 h.s hi hj hd, zf5 hnn]
              · have bz := h.bz
                rw [if_neg (by rintro ⟨rfl, rfl⟩; omega)]
                unfold atM zbo
                rw [if_neg hd, if_neg hd]
            refine z1p addr zam hw l _ _ _ _ hT a1 (a0 _ hsh).1 (by rw [hl]; show upL lv (cd + tzI f) _ (cd + tzI f) = _; unfold upL; rw [if_pos rfl]; omega) (by omega) (fun s j hj q1 q2 q3 => ?_) he
            have keep : ∀ s j, (0 ≤ j ∧ j < 512) → atM sz xs s j ≠ zP → atM sz (za1 sz xs t (idx addr ((l + 1 : Nat) : Int)) (lnk (cd + tzI f))) s j ≠ zP := fun s j hj hne => by
              rw [hat s j hj]
              split
              · exact zs5 rfl
              · exact hne
            rw [hat s j hj] at q1 q2 q3 ⊢
            by_cases c : s = t ∧ j = idx addr ((l + 1 : Nat) : Int)
            · rw [if_pos c] at q3
              exact absurd rfl q3
            · rw [if_neg c] at q1 q2 q3 ⊢
              by_cases d : (atM sz xs s j).ppn = t
              · refine ⟨idx addr ((l + 1 : Nat) : Int), hi, ?_⟩
                rw [d, hat t _ hi, if_pos ⟨rfl, rfl⟩]
                exact zs5 rfl
              · obtain ⟨j', hj', hne⟩ := hx s j hj q1 q2 d
                exact ⟨j', hj', keep _ _ hj' hne⟩
end
structure InvN (k : Kr) : Prop where
  ne : NE (atM k.sz k.m) k.sh
theorem z3v {n : Nat} {k : Kr} {id a pa l : Int} {p : Pm} (h : InvT n k) (g : InvN k) (hp : U pa) : InvN (zc2 k id a pa l p).1 := by
  obtain ⟨lv, hT, hs, hr⟩ := h.t
  unfold zc2
  split
  · exact g
  · rename_i c0
    split
    · exact g
    · rename_i c1
      split
      · exact g
      · split
        · exact g
        · rename_i c3
          split
          · exact g
          · split
            · exact g
            · rename_i c5
              obtain ⟨w1, w2, w3, w4⟩ := zbw (id := id) (a := a) (l := l) h.l (by omega)
              obtain ⟨z1, z2⟩ := h.top (id := id) (a := a) (l := l) (by omega) hs hr
              generalize zan k id a l = w at *
              have he : (zn3 k w.1 w.2.1 a l).2.2.2 = 0 := by omega
              obtain ⟨lv', r1, r2, r3, r4⟩ := zx7 a l w1.1 w.2.1.toNat k.m k.pf w.1 lv hT w2 h.l.sh (by omega) (by omega) (by omega) he
              have hx := z1p a l w1.1 w.2.1.toNat k.m k.pf w.1 lv hT w2 h.l.sh (by omega) (by omega) (g.ne.ex _) he
              have hpm := zjt (p := p) (by omega)
              have hpn := zn4 (k := k) (l := l) hp (by have := h.l.g.bd; omega) (by omega)
              have hb := zg9 (n := pa / 4096) (p := p) (g := decide (id = -1)) hpn hpm
              have hi := idx_bd a l
              have b3 := r3.1
              have hat : ∀ s j, (0 ≤ j ∧ j < 512) → atM k.sz (za1 k.sz (dnN k.sz k.cd a l w.2.1.toNat k.m k.pf w.1).1 (dnN k.sz k.cd a l w.2.1.toNat k.m k.pf w.1).2.2.1 (idx a l) (mkP (pa / 4096) p (decide (id = -1)))) s j = if s = (dnN k.sz k.cd a l w.2.1.toNat k.m k.pf w.1).2.2.1 ∧ j = idx a l then mkP (pa / 4096) p (decide (id = -1)) else atM k.sz (dnN k.sz k.cd a l w.2.1.toNat k.m k.pf w.1).1 s j := fun s j hj => by
                rw [r1.gm.with r3 hi hb.2.1]
                by_cases hd : s * 4096 + j * 8 < k.sz
                · rw [zg7 r1.s hi hj hd, hb.1]
                · have bz := r1.bz
                  rw [if_neg (by rintro ⟨rfl, rfl⟩; omega)]
                  unfold atM zbo
                  rw [if_neg hd, if_neg hd]
              refine ⟨?_⟩
              show NE (atM k.sz (za1 k.sz (dnN k.sz k.cd a l w.2.1.toNat k.m k.pf w.1).1 (dnN k.sz k.cd a l w.2.1.toNat k.m k.pf w.1).2.2.1 (idx a l) (mkP (pa / 4096) p (decide (id = -1))))) k.sh
              generalize dnN k.sz k.cd a l w.2.1.toNat k.m k.pf w.1 = D at *
              intro s j hj q1 q2
              rw [hat s j hj] at q1 q2 ⊢
              by_cases c : s = D.2.2.1 ∧ j = idx a l
              · rw [if_pos c, zdp hb.2.2] at q1; cases q1
              · rw [if_neg c] at q1 q2 ⊢
                by_cases d : (atM k.sz D.1 s j).ppn = D.2.2.1
                · exact ⟨idx a l, hi, by rw [d, hat _ _ hi, if_pos ⟨rfl, rfl⟩]; exact zs5 rfl⟩
                · obtain ⟨j', hj', hne⟩ := hx s j hj q1 q2 d
                  refine ⟨j', hj', ?_⟩
                  rw [hat _ _ hj']
                  split
                  · exact zs5 rfl
                  · exact hne
theorem z42 {n : Nat} {k : Kr} (h : Inv n k) (g : Inv2 k) : InvN k := ⟨fun s i hi h1 h2 => by
  obtain ⟨lv, hT, hs, hr⟩ := (z3o h g).t
  unfold atM zbo at h1 h2 ⊢
  split at h1
  · rename_i hlt
    rw [if_pos hlt] at h2
    rcases zp1 (xs := k.m) (k := (s * 4096 + i * 8) / 8) with e | ⟨c, hc, e1, e2⟩
    · rw [e, zom] at h1; cases h1
    · obtain ⟨p, hp, hv, rfl⟩ := g.cl c hc
      have hsh := h.sh
      have hcd := h.cd
      have hcp := h.cp
      rw [e2] at h2
      have h2 : (zay (33 + 1024 * k.sh)).ppn ≠ k.sh := h2
      rw [zqb (by omega)] at h2
      exact absurd rfl h2
  · rw [zom] at h1; cases h1⟩
theorem bg_n {a b c : Int} {n : Nat} (h : zga a b c n = true) : InvN (bgK a b c n) := by
  have h0 := zjr h
  have g0 := zmj h
  have h1 := zc7 h0
  have g1 := zc9 h0 g0
  exact z42 (zc7 h1) (zc9 h1 g1)
def m39 (a : Int) : Int := a % 549755813888
theorem zed {b i l : Int} (h0 : 0 ≤ l ∧ l ≤ 2) (hi : 0 ≤ i ∧ i < 512) (hb : m39 b % (512 * VaSpec.sz l) = 0) : m39 (adr b i l) = m39 b + i * VaSpec.sz l ∧ m39 b + 512 * VaSpec.sz l ≤ 549755813888 := by
  unfold adr
  rw [IntKind.wrap_u64, IntKind.wrap_u64]
  unfold m39 at *
  rcases (by omega : l = 0 ∨ l = 1 ∨ l = 2) with rfl | rfl | rfl
  · simp only [show VaSpec.sz 0 = 4096 from rfl] at *
    omega
  · simp only [show VaSpec.sz 1 = 2097152 from rfl] at *
    omega
  · simp only [show VaSpec.sz 2 = 1073741824 from rfl] at *
    omega
theorem zj1 {a : Int} (h : m39 a % 4096 = 0) : m39 (ofv (num a)) = m39 a := by
  unfold m39 at *
  unfold ofv zjd num
  split <;> omega
theorem zqi (a l : Int) (h : 0 ≤ l ∧ l ≤ 2) : idx (m39 a) l = idx a l := by
  unfold idx m39
  rcases (by omega : l = 0 ∨ l = 1 ∨ l = 2) with rfl | rfl | rfl
  · simp only [show VaSpec.sz 0 = 4096 from rfl]; omega
  · simp only [show VaSpec.sz 1 = 2097152 from rfl]; omega
  · simp only [show VaSpec.sz 2 = 1073741824 from rfl]; omega
theorem sz_pos {l : Int} (h : 0 ≤ l ∧ l ≤ 2) : 0 < VaSpec.sz l := by
  rcases (by omega : l = 0 ∨ l = 1 ∨ l = 2) with rfl | rfl | rfl <;> decide
theorem zgq {l : Int} (h : 1 ≤ l ∧ l ≤ 2) : VaSpec.sz l = 512 * VaSpec.sz (l - 1) := by
  rcases (by omega : l = 1 ∨ l = 2) with rfl | rfl <;> rfl
theorem zk9 {l : Int} (h : 0 ≤ l ∧ l ≤ 2) {m : Int} (hm : m % VaSpec.sz l = 0) : m % 4096 = 0 := by
  rcases (by omega : l = 0 ∨ l = 1 ∨ l = 2) with rfl | rfl | rfl
  · exact hm
  · have hm : m % 2097152 = 0 := hm
    omega
  · have hm : m % 1073741824 = 0 := hm
    omega
theorem zck (sz : Int) (xs : List (Int × Int)) (l : Nat) (t b : Int) (y : Pg) : y ∈ zbq sz xs l t b ↔ ∃ i : Nat, i < 512 ∧ zdt (atM sz xs t i) (l : Int) = false ∧
    ((zat (atM sz xs t i) = true ∧ y = zwp (atM sz xs t i) (adr b i l) l) ∨ (zat (atM sz xs t i) = false ∧ ∃ m, l = m + 1 ∧ y ∈ zbq sz xs m (atM sz xs t i).ppn (adr b i l))) := by
  have key : ∀ (rec : Int → Int → List Pg) (p : Pte) (a : Int), y ∈ zfr rec p (l : Int) a ↔ zdt p (l : Int) = false ∧ ((zat p = true ∧ y = zwp p a l) ∨ (zat p = false ∧ y ∈ rec p.ppn a)) := fun rec p a => by
    unfold zfr
    cases zdt p (l : Int) <;> cases zat p <;> simp
  cases l with
  | zero =>
    simp only [zbq, List.mem_flatMap, List.mem_range]
    constructor
    · rintro ⟨i, hi, hy⟩
      obtain ⟨a, b | ⟨_, c⟩⟩ := (key _ _ _).1 hy
      · exact ⟨i, hi, a, .inl b⟩
      · cases c
    · rintro ⟨i, hi, a, b | ⟨_, m, e, _⟩⟩
      · exact ⟨i, hi, (key _ _ _).2 ⟨a, .inl b⟩⟩
      · omega
  | succ m =>
    simp only [zbq, List.mem_flatMap, List.mem_range]
    constructor
    · rintro ⟨i, hi, hy⟩
      obtain ⟨a, b | ⟨c, d⟩⟩ := (key _ _ _).1 hy
      · exact ⟨i, hi, a, .inl b⟩
      · exact ⟨i, hi, a, .inr ⟨c, m, rfl, d⟩⟩
    · rintro ⟨i, hi, a, b | ⟨c, m', e, d⟩⟩
      · exact ⟨i, hi, (key _ _ _).2 ⟨a, .inl b⟩⟩
      · obtain rfl : m' = m := by omega
        exact ⟨i, hi, (key _ _ _).2 ⟨a, .inr ⟨c, d⟩⟩⟩
theorem zhc (sz : Int) (xs : List (Int × Int)) : ∀ (l : Nat) (t b : Int) (y : Pg), l ≤ 2 → m39 b % (512 * VaSpec.sz l) = 0 → y ∈ zbq sz xs l t b → (0 ≤ y.lev ∧ y.lev ≤ l) ∧ m39 b ≤ m39 y.va ∧ m39 y.va + VaSpec.sz y.lev ≤ m39 b + 512 * VaSpec.sz l ∧ m39 y.va % VaSpec.sz y.lev = 0 ∧ y.va = ofv (num y.va) := by
  intro l
  induction l with
  | zero =>
    intro t b y hl hb hy
    obtain ⟨i, hi, _, ⟨_, rfl⟩ | ⟨_, m, e, _⟩⟩ := (zck _ _ _ _ _ _).1 hy
    · obtain ⟨e1, e2⟩ := zed (b := b) (i := (i : Int)) (l := ((0 : Nat) : Int)) (by omega) (by omega) hb
      have hz : VaSpec.sz ((0 : Nat) : Int) = 4096 := rfl
      have e3 := zj1 (a := adr b i ((0 : Nat) : Int)) (by rw [e1, hz]; rw [hz] at hb; omega)
      refine ⟨⟨by show (0 : Int) ≤ ((0 : Nat) : Int); omega, by show ((0 : Nat) : Int) ≤ ((0 : Nat) : Int); omega⟩, ?_⟩
      show m39 b ≤ m39 (ofv (num _)) ∧ m39 (ofv (num _)) + VaSpec.sz ((0 : Nat) : Int) ≤ _ ∧ m39 (ofv (num _)) % VaSpec.sz ((0 : Nat) : Int) = 0 ∧ _
      rw [e3, e1, hz]
      rw [hz] at hb
      refine ⟨by omega, by omega, by omega, ?_⟩
      show ofv (num _) = ofv (num (ofv (num _)))
      congr 1
      unfold num ofv zjd; split <;> omega
    · omega
  | succ l IH =>
    intro t b y hl hb hy
    obtain ⟨i, hi, _, ⟨_, rfl⟩ | ⟨_, m, e, hy⟩⟩ := (zck _ _ _ _ _ _).1 hy
    · obtain ⟨e1, e2⟩ := zed (b := b) (i := (i : Int)) (l := ((l + 1 : Nat) : Int)) (by omega) (by omega) hb
      have hz := sz_pos (l := ((l + 1 : Nat) : Int)) (by omega)
      have hmod : (m39 b + (i : Int) * VaSpec.sz ((l + 1 : Nat) : Int)) % VaSpec.sz ((l + 1 : Nat) : Int) = 0 := by
        rcases (by omega : l = 0 ∨ l = 1) with rfl | rfl
        · have hb : m39 b % (512 * 2097152) = 0 := hb
          show (m39 b + (i : Int) * 2097152) % 2097152 = 0; omega
        · have hb : m39 b % (512 * 1073741824) = 0 := hb
          show (m39 b + (i : Int) * 1073741824) % 1073741824 = 0; omega
      have e3 := zj1 (a := adr b i ((l + 1 : Nat) : Int)) (by rw [e1]; exact zk9 (by omega) hmod)
      refine ⟨⟨by show (0 : Int) ≤ ((l + 1 : Nat) : Int); omega, by show ((l + 1 : Nat) : Int) ≤ ((l + 1 : Nat) : Int); omega⟩, ?_⟩
      show m39 b ≤ m39 (ofv (num _)) ∧ m39 (ofv (num _)) + VaSpec.sz ((l + 1 : Nat) : Int) ≤ _ ∧ m39 (ofv (num _)) % VaSpec.sz ((l + 1 : Nat) : Int) = 0 ∧ _
      rw [e3, e1]
      refine ⟨?_, ?_, hmod, ?_⟩
      · have : 0 ≤ (i : Int) * VaSpec.sz ((l + 1 : Nat) : Int) := Int.mul_nonneg (by omega) (by omega)
        omega
      · rcases (by omega : l = 0 ∨ l = 1) with rfl | rfl
        · show m39 b + (i : Int) * 2097152 + 2097152 ≤ m39 b + 512 * 2097152; omega
        · show m39 b + (i : Int) * 1073741824 + 1073741824 ≤ m39 b + 512 * 1073741824; omega
      · show ofv (num _) = ofv (num (ofv (num _)))
        congr 1
        unfold num ofv zjd; split <;> omega
    · obtain rfl : m = l := by omega
      obtain ⟨e1, e2⟩ := zed (b := b) (i := (i : Int)) (l := ((m + 1 : Nat) : Int)) (by omega) (by omega) hb
      have hs := zgq (l := ((m + 1 : Nat) : Int)) (by omega)
      rw [show ((m + 1 : Nat) : Int) - 1 = (m : Int) by omega] at hs
      have hmod : (m39 b + (i : Int) * VaSpec.sz ((m + 1 : Nat) : Int)) % (512 * VaSpec.sz (m : Int)) = 0 := by
        rw [← hs]
        rcases (by omega : m = 0 ∨ m = 1) with rfl | rfl
        · have hb : m39 b % (512 * 2097152) = 0 := hb
          show (m39 b + (i : Int) * 2097152) % 2097152 = 0; omega
        · have hb : m39 b % (512 * 1073741824) = 0 := hb
          show (m39 b + (i : Int) * 1073741824) % 1073741824 = 0; omega
      obtain ⟨r1, r2, r3, r4, r5⟩ := IH _ _ y (by omega) (by rw [e1]; exact hmod) hy
      rw [e1] at r2 r3
      refine ⟨⟨r1.1, by omega⟩, ?_, ?_, r4, r5⟩
      · have : 0 ≤ (i : Int) * VaSpec.sz ((m + 1 : Nat) : Int) := Int.mul_nonneg (by omega) (by have := sz_pos (l := ((m + 1 : Nat) : Int)) (by omega); omega)
        omega
      · rw [← hs] at r3
        rcases (by omega : m = 0 ∨ m = 1) with rfl | rfl
        · have r3 : m39 y.va + VaSpec.sz y.lev ≤ m39 b + (i : Int) * 2097152 + 2097152 := r3
          show m39 y.va + VaSpec.sz y.lev ≤ m39 b + 512 * 2097152; omega
        · have r3 : m39 y.va + VaSpec.sz y.lev ≤ m39 b + (i : Int) * 1073741824 + 1073741824 := r3
          show m39 y.va + VaSpec.sz y.lev ≤ m39 b + 512 * 1073741824; omega
end Go.Proofs.YtomeaibdedaldaaGreatDoor.LrA
namespace Go.Proofs.YtomeaibdedaldaaGreatDoor.LrB
open Go.RowKit Bv VaSpec Base MemL RegR Ax MemC PutC MemC3 TzC OkS SpA SpB SpC SpD SpE SpF SpG SpH SpI SpJ SpN SpO RfP RfQ RfE RfG RfJ RfK LaA LaB LaC LaD LaE LaF LaG LaH LiA LiB LiC LiD LiE LiF LrA
open BitsC PteSpec
set_option maxRecDepth 10000
set_option maxHeartbeats 1000000
section
variable {cd cp sz f sh : Int} {xs : List (Int × Int)} {lv : Int → Int}
theorem blk {m mb l : Int} (hl : 0 ≤ l ∧ l ≤ 2) (hb : mb % (512 * VaSpec.sz l) = 0) (h0 : mb ≤ m) (h1 : m < mb + 512 * VaSpec.sz l) : mb + idx m l * VaSpec.sz l ≤ m ∧ m < mb + idx m l * VaSpec.sz l + VaSpec.sz l := by
  unfold idx
  rcases (by omega : l = 0 ∨ l = 1 ∨ l = 2) with rfl | rfl | rfl
  · simp only [show VaSpec.sz 0 = 4096 from rfl] at *; omega
  · simp only [show VaSpec.sz 1 = 2097152 from rfl] at *; omega
  · simp only [show VaSpec.sz 2 = 1073741824 from rfl] at *; omega
end
theorem zym {a l : Int} (h : 0 ≤ l ∧ l ≤ 2) (hf : zj9 a l = true) : m39 a % VaSpec.sz l = 0 := by
  unfold zj9 off at hf
  simp only [Bool.and_eq_true, beq_iff_eq] at hf
  obtain ⟨_, hf⟩ := hf
  unfold m39
  rcases (by omega : l = 0 ∨ l = 1 ∨ l = 2) with rfl | rfl | rfl
  · simp only [show VaSpec.sz 0 = 4096 from rfl] at *; omega
  · simp only [show VaSpec.sz 1 = 2097152 from rfl] at *; omega
  · simp only [show VaSpec.sz 2 = 1073741824 from rfl] at *; omega
theorem zv6 {k : Kr} {id a l : Int} (he : (zan k id a l).2.2 = 0) (h : id = -1) : idx a 2 = 511 := by
  unfold zan at he
  by_cases c1 : 0 ≤ l ∧ l ≤ 2
  rotate_left
  · rw [if_pos c1] at he; cases he
  rw [if_neg (by simpa using c1)] at he
  by_cases c2 : id ≠ -1 ∧ za5 k id = false
  · rw [if_pos c2] at he; cases he
  rw [if_neg c2] at he
  by_cases c3 : zj9 a l = false
  · rw [if_pos c3] at he; cases he
  rw [if_neg c3, if_pos h] at he
  by_cases c5 : idx a 2 = 511 ∧ l ≠ 2
  · exact c5.1
  · rw [if_neg c5] at he; cases he
end Go.Proofs.YtomeaibdedaldaaGreatDoor.LrB
namespace Go.Proofs.YtomeaibdedaldaaGreatDoor.LrC
open Go.RowKit Bv VaSpec Base MemL RegR Ax MemC PutC MemC3 TzC OkS SpA SpB SpC SpD SpE SpF SpG SpH SpI SpJ SpN SpO RfP RfQ RfA RfE RfG RfJ RfK LaA LaB LaC LaD LaE LaF LaG LaH LiA LiB LiC LiD LiE LiF LrA LrB
open BitsC PteSpec
set_option maxRecDepth 10000
set_option maxHeartbeats 1000000
section
variable {cd cp sz sh : Int}
end
theorem z3w (k : Kr) (top at' a l : Int) : (lk3 k top at' a l = 0 ∧ (atM k.sz k.m (za6 k.sz k.m a l at' top).1 (idx a (za6 k.sz k.m a l at' top).2)).v = false) ∨ lk3 k top at' a l = 6 := by
  unfold lk3
  cases (atM k.sz k.m (za6 k.sz k.m a l at' top).1 (idx a (za6 k.sz k.m a l at' top).2)).v <;> simp
def ends (a s : Int) : Int := IntKind.u64.wrap (IntKind.u64.wrap (a + s) - 1)
end Go.Proofs.YtomeaibdedaldaaGreatDoor.LrC
namespace Go.Proofs.YtomeaibdedaldaaGreatDoor.LmA
open Go.RowKit Bv VaSpec Base MemL RegR Ax MemC PutC MemC3 TzC OkS SpA SpB SpC SpF SpH SpI SpJ LaA LaB LaC LaD LaE LaF LaG LiA LiB LiC LiD LiE LiF LrA LrB LrC LjA LjF LkE
open BitsC PteSpec
set_option maxRecDepth 10000
set_option maxHeartbeats 1000000
def zee (q : Pte) (p : Pm) : Pte := { q with r := p.r, w := p.w, x := p.x, u := p.u }
def z3x (sz : Int) (xs : List (Int × Int)) (t i : Int) (p : Pm) : List (Int × Int) := za1 sz xs t i (zee (atM sz xs t i) p)
theorem zj2 {q : Pte} {p : Pm} {l : Int} (hU : q.U) (hm : zhe q = true) (hp : zhs p = true) (h1 : zat q = true) (h2 : zdt q l = false) :
    (zee q p).U ∧ zhe (zee q p) = true ∧ zat (zee q p) = true ∧ zdt (zee q p) l = false := by
  obtain ⟨v, r, w, x, u, g, a, d, rsw, ppn, high⟩ := q
  obtain ⟨pr, pw, px, pu⟩ := p
  refine ⟨hU, hm, ?_, ?_⟩
  · revert hp h1
    unfold zat zee zhs
    cases v <;> cases pr <;> cases pw <;> cases px <;> simp
  · revert hp h1 h2
    unfold zat zhs zdt zbf zee
    simp only
    generalize (high != 0) = e1
    generalize (ppn % (VaSpec.sz l / 4096) == 0) = e2
    generalize (l == 0 || a || d || u) = e3
    generalize (l == 0 || a || d || pu) = e4
    cases v <;> cases r <;> cases w <;> cases x <;> cases pr <;> cases pw <;> cases px <;> cases e1 <;> cases e2 <;> simp
theorem zrt : ∀ (xs : List (Int × Int)) (a v : Int), MemC.look xs a ≠ 0 → (zby xs a v).length ≤ xs.length
  | [], a, v, h => absurd (zl7 a) h
  | c :: cs, a, v, h => by
    rw [zcz] at h
    unfold zby
    by_cases c1 : c.1 < a
    · rw [if_pos c1] at h ⊢
      have := zrt cs a v h
      show (zby cs a v).length + 1 ≤ cs.length + 1
      omega
    · rw [if_neg c1] at h ⊢
      by_cases c2 : c.1 = a
      · rw [if_pos c2]
        split
        · show cs.length ≤ cs.length + 1; omega
        · exact Nat.le_refl _
      · rw [if_neg c2] at h; exact absurd rfl h
section
variable {cd cp sz f sh : Int} {xs : List (Int × Int)} {lv : Int → Int}
theorem zmm (h : TI cd cp sz xs f sh lv) {t i : Int} (hi : 0 ≤ i ∧ i < 512) (h1 : zat (atM sz xs t i) = true) : Al cd cp f t ∧ (0 ≤ lv t ∧ lv t ≤ 2) ∧ zdt (atM sz xs t i) (lv t) = false := by
  rcases h.e.k t i hi with e | ⟨a, b, ⟨_, e⟩ | ⟨e, _⟩⟩
  · rw [e] at h1; cases h1
  · exact ⟨a, b, e⟩
  · have := (zbz e).2.2; rw [h1] at this; cases this
theorem z1q (h : TI cd cp sz xs f sh lv) {t i : Int} {p : Pm} (hi : 0 ≤ i ∧ i < 512) (h1 : zat (atM sz xs t i) = true) (hp : zhs p = true) :
    TI cd cp sz (z3x sz xs t i p) f sh lv ∧ (∀ s j, (0 ≤ j ∧ j < 512) → atM sz (z3x sz xs t i p) s j = if s = t ∧ j = i then zee (atM sz xs t i) p else atM sz xs s j) ∧ (z3x sz xs t i p).length ≤ xs.length := by
  obtain ⟨ht, hl, h2⟩ := zmm h hi h1
  have b1 := h.bd
  have bz := h.bz
  have bt := ht.1
  obtain ⟨p1, p2, p3, p4⟩ := zj2 (p := p) (zhq h.u sz t i) (zju h.u) hp h1 h2
  have e : z3x sz xs t i p = zby xs (t * 512 + i) (PteC.zcp (zee (atM sz xs t i) p)) := zd8 p1 (by omega) hi (by rw [bz]; omega)
  rw [e]
  have hb := zrg p1 p2
  have hE : ∀ s j, (0 ≤ j ∧ j < 512) → atM sz (zby xs (t * 512 + i) (PteC.zcp (zee (atM sz xs t i) p))) s j = if s = t ∧ j = i then zee (atM sz xs t i) p else atM sz xs s j := fun s j hj => by
    by_cases hd : s * 4096 + j * 8 < sz
    · rw [zg7 h.s hi hj hd, hb]
    · rw [if_neg (by rintro ⟨rfl, rfl⟩; omega)]
      unfold atM zbo
      rw [if_neg hd, if_neg hd]
  refine ⟨h.put bt hi (ze9 _ p1) h.bf fun E' hE' => ?_, hE, zrt _ _ _ fun e0 => ?_⟩
  · rw [hb] at hE'
    exact h.e.leaf ht hl p3 p4 hE'
  · have : atM sz xs t i = zP := by
      unfold atM zbo
      rw [if_pos (by rw [bz]; omega), show (t * 4096 + i * 8) / 8 = t * 512 + i by omega, e0, zom]
    rw [this] at h1; cases h1
def Shp (sz : Int) (p : Pm) (xs xs' : List (Int × Int)) : Prop := ∀ s j, (0 ≤ j ∧ j < 512) → atM sz xs' s j = atM sz xs s j ∨ (zat (atM sz xs s j) = true ∧ zat (atM sz xs' s j) = true ∧ atM sz xs' s j = zee (atM sz xs s j) p)
theorem Shp.refl (sz : Int) (p : Pm) (xs : List (Int × Int)) : Shp sz p xs xs := fun _ _ _ => .inl rfl
theorem zqj (q : Pte) (p : Pm) : zee (zee q p) p = zee q p := rfl
theorem Shp.trans {sz : Int} {p : Pm} {a b c : List (Int × Int)} (h : Shp sz p a b) (g : Shp sz p b c) : Shp sz p a c := fun s j hj => by
  rcases h s j hj with e | ⟨e1, e2, e3⟩ <;> rcases g s j hj with e' | ⟨e1', e2', e3'⟩
  · exact .inl (e'.trans e)
  · rw [e] at e1' e3'; exact .inr ⟨e1', e2', e3'⟩
  · rw [e'] ; exact .inr ⟨e1, e2, e3⟩
  · exact .inr ⟨e1, e2', by rw [e3', e3, zqj]⟩
theorem Shp.leaf {sz : Int} {p : Pm} {a b : List (Int × Int)} (h : Shp sz p a b) {s j : Int} (hj : 0 ≤ j ∧ j < 512) (hl : zat (atM sz a s j) = true) : zat (atM sz b s j) = true := by
  rcases h s j hj with e | ⟨_, e, _⟩
  · rw [e]; exact hl
  · exact e
theorem zj3 {v b i l : Int} (h0 : 0 ≤ l ∧ l ≤ 2) (hi : 0 ≤ i ∧ i < 512) (hb : m39 b % (512 * VaSpec.sz l) = 0) (h1 : m39 b + i * VaSpec.sz l ≤ m39 v) (h2 : m39 v < m39 b + i * VaSpec.sz l + VaSpec.sz l) : idx v l = i := by
  rw [← zqi v l h0]
  unfold idx
  rcases (by omega : l = 0 ∨ l = 1 ∨ l = 2) with rfl | rfl | rfl
  · simp only [show VaSpec.sz 0 = 4096 from rfl] at *; omega
  · simp only [show VaSpec.sz 1 = 2097152 from rfl] at *; omega
  · simp only [show VaSpec.sz 2 = 1073741824 from rfl] at *; omega
theorem zv7 (h : TI cd cp sz xs f sh lv) : ∀ (l : Nat) (t b : Int) (y : Pg), l ≤ 2 → Al cd cp f t → lv t = l → m39 b % (512 * VaSpec.sz l) = 0 → y ∈ zbq sz xs l t b →
    ∃ t', zaq sz xs y.va y.lev l t = (t', y.lev) ∧ (0 ≤ y.lev ∧ y.lev ≤ l) ∧ zat (atM sz xs t' (idx y.va y.lev)) = true := by
  intro l
  induction l with
  | zero =>
    intro t b y h2 ht hl hb hy
    obtain ⟨i, hi, c0, ⟨c1, rfl⟩ | ⟨_, m, e, _⟩⟩ := (zck _ _ _ _ _ _).1 hy
    · obtain ⟨e1, e2⟩ := zed (b := b) (i := (i : Int)) (l := ((0 : Nat) : Int)) (by omega) (by omega) hb
      have hz : VaSpec.sz ((0 : Nat) : Int) = 4096 := rfl
      have e3 := zj1 (a := adr b i ((0 : Nat) : Int)) (by rw [e1, hz]; rw [hz] at hb; omega)
      have hix : idx (ofv (num (adr b i ((0 : Nat) : Int)))) ((0 : Nat) : Int) = (i : Int) := zj3 (by omega) (by omega) hb (by rw [e3, e1]; omega) (by rw [e3, e1, hz]; omega)
      refine ⟨t, rfl, ⟨Int.le_refl 0, Int.le_refl 0⟩, ?_⟩
      show zat (atM sz xs t (idx (ofv (num (adr b i ((0 : Nat) : Int)))) ((0 : Nat) : Int))) = true
      rw [hix]; exact c1
    · omega
  | succ m ih =>
    intro t b y h2 ht hl hb hy
    obtain ⟨i, hi, c0, ⟨c1, rfl⟩ | ⟨c1, m', e, hy'⟩⟩ := (zck _ _ _ _ _ _).1 hy
    · obtain ⟨e1, e2⟩ := zed (b := b) (i := (i : Int)) (l := ((m + 1 : Nat) : Int)) (by omega) (by omega) hb
      have hsp := sz_pos (l := ((m + 1 : Nat) : Int)) (by omega)
      have hdv : m39 (adr b i ((m + 1 : Nat) : Int)) % VaSpec.sz ((m + 1 : Nat) : Int) = 0 := by
        rw [e1]
        rcases (by omega : m = 0 ∨ m = 1) with rfl | rfl
        · have hz : VaSpec.sz ((0 + 1 : Nat) : Int) = 2097152 := rfl
          rw [hz] at hb ⊢; omega
        · have hz : VaSpec.sz ((1 + 1 : Nat) : Int) = 1073741824 := rfl
          rw [hz] at hb ⊢; omega
      have e3 := zj1 (a := adr b i ((m + 1 : Nat) : Int)) (zk9 (l := ((m + 1 : Nat) : Int)) (by omega) hdv)
      have hix : idx (ofv (num (adr b i ((m + 1 : Nat) : Int)))) ((m + 1 : Nat) : Int) = (i : Int) := zj3 (by omega) (by omega) hb (by rw [e3, e1]; omega) (by rw [e3, e1]; omega)
      refine ⟨t, ?_, ⟨by show (0 : Int) ≤ ((m + 1 : Nat) : Int); omega, by show ((m + 1 : Nat) : Int) ≤ ((m + 1 : Nat) : Int); omega⟩, ?_⟩
      · exact za8 (fun hh => absurd hh (by show ¬ ((m + 1 : Nat) : Int) < ((m + 1 : Nat) : Int); omega)) (by show (0 : Int) ≤ ((m + 1 : Nat) : Int); omega)
      · show zat (atM sz xs t (idx (ofv (num (adr b i ((m + 1 : Nat) : Int)))) ((m + 1 : Nat) : Int))) = true
        rw [hix]; exact c1
    · obtain rfl : m' = m := by omega
      have hi' : (0 : Int) ≤ (i : Int) ∧ (i : Int) < 512 := by omega
      have hlk : lkP (atM sz xs t i) = true := by
        rcases h.e.k t i hi' with e | ⟨_, _, ⟨e, _⟩ | ⟨e, _⟩⟩
        · rw [e] at c0; cases c0
        · rw [e] at c1; cases c1
        · exact e
      obtain ⟨k1, k2, k3, k4⟩ := zcv h hi' hlk
      obtain ⟨e1, e2⟩ := zed (b := b) (i := (i : Int)) (l := ((m' + 1 : Nat) : Int)) (by omega) (by omega) hb
      have hss := zgq (l := ((m' + 1 : Nat) : Int)) (by omega)
      have hsm : VaSpec.sz (((m' + 1 : Nat) : Int) - 1) = VaSpec.sz (m' : Int) := by rw [show ((m' + 1 : Nat) : Int) - 1 = (m' : Int) by omega]
      rw [hsm] at hss
      have hdv : m39 (adr b i ((m' + 1 : Nat) : Int)) % (512 * VaSpec.sz (m' : Int)) = 0 := by
        rw [e1, ← hss]
        rcases (by omega : m' = 0 ∨ m' = 1) with rfl | rfl
        · have hz : VaSpec.sz ((0 + 1 : Nat) : Int) = 2097152 := rfl
          rw [hz] at hb ⊢; omega
        · have hz : VaSpec.sz ((1 + 1 : Nat) : Int) = 1073741824 := rfl
          rw [hz] at hb ⊢; omega
      obtain ⟨q1, q2, q3, q4, q5⟩ := zhc sz xs m' (atM sz xs t i).ppn (adr b i ((m' + 1 : Nat) : Int)) y (by omega) hdv hy'
      have hsp := sz_pos (l := y.lev) (by omega)
      have hix : idx y.va ((m' + 1 : Nat) : Int) = (i : Int) := zj3 (by omega) hi' hb (by rw [← e1]; exact q2) (by rw [hss] at e1 ⊢; omega)
      obtain ⟨t', r1, r2, r3⟩ := ih (atM sz xs t i).ppn (adr b i ((m' + 1 : Nat) : Int)) y (by omega) k4 (by rw [k3, hl]; omega) hdv hy'
      refine ⟨t', ?_, ⟨r2.1, by omega⟩, r3⟩
      rw [zbc (by omega) (by rw [hix]; exact zb2 hlk (by omega)), hix]
      exact r1
structure Pnt (cd cp sz f sh : Int) (lv : Int → Int) (p : Pm) (xs xs' : List (Int × Int)) : Prop where
  t : TI cd cp sz xs' f sh lv
  s : Shp sz p xs xs'
  n : xs'.length ≤ xs.length
theorem Pnt.go {xs' : List (Int × Int)} {p : Pm} (h : TI cd cp sz xs f sh lv) (hp : zhs p = true) (g : Pnt cd cp sz f sh lv p xs xs') {t i : Int} (hi : 0 ≤ i ∧ i < 512) (h1 : zat (atM sz xs t i) = true) : Pnt cd cp sz f sh lv p xs (z3x sz xs' t i p) := by
  have h2 := g.s.leaf hi h1
  obtain ⟨r1, r2, r3⟩ := z1q g.t hi h2 hp
  obtain ⟨_, _, hbad⟩ := zmm g.t hi h2
  refine ⟨r1, g.s.trans fun s j hj => ?_, Nat.le_trans r3 g.n⟩
  rw [r2 s j hj]
  split
  · rename_i c
    obtain ⟨rfl, rfl⟩ := c
    exact .inr ⟨h2, (zj2 (p := p) (zhq g.t.u sz _ _) (zju g.t.u) hp h2 hbad).2.2.1, rfl⟩
  · exact .inl rfl
end
end Go.Proofs.YtomeaibdedaldaaGreatDoor.LmA
namespace Go.Proofs.YtomeaibdedaldaaGreatDoor.LmB
open Go.RowKit Bv VaSpec Base MemL RegR Ax MemC PutC MemC3 TzC OkS SpA SpB SpC SpF SpH SpI SpJ LaA LaB LaC LaD LaE LaF LaG LiA LiB LiC LiD LiE LiF LjA RlA RlB
open BitsC PteSpec
set_option maxRecDepth 10000
set_option maxHeartbeats 1000000
theorem b3 (a b : Bool) : a = false ∨ (a = true ∧ b = true) ∨ (a = true ∧ b = false) := by cases a <;> cases b <;> simp
end Go.Proofs.YtomeaibdedaldaaGreatDoor.LmB
namespace Go.Proofs.YtomeaibdedaldaaGreatDoor.LmE
open Go.RowKit Bv VaSpec Base MemL RegR Ax MemC PutC MemC3 TzC OkS SpA SpB SpC SpD SpE SpF SpN SpO SpG SpH SpI SpJ LaA LaB LaC LaD LaE LaF LaG LiA LiB LiC LiD LiE LiF LrA LrB LrC LjA LjF LkE LmA LmB
open BitsC PteSpec
set_option maxRecDepth 10000
set_option maxHeartbeats 1000000
section
variable {cd cp sz sh : Int}
end
theorem z43 {n : Nat} {k : Kr} {id a l : Int} (h : InvT n k) (c0 : (zan k id a l).2.2 = 0) (c1 : (inR k id a l).length ≠ 0) :
    zat (atM k.sz k.m (za6 k.sz k.m a l (zan k id a l).2.1 (zan k id a l).1).1 (idx a (za6 k.sz k.m a l (zan k id a l).2.1 (zan k id a l).1).2)) = true ∨ lkP (atM k.sz k.m (za6 k.sz k.m a l (zan k id a l).2.1 (zan k id a l).1).1 (idx a (za6 k.sz k.m a l (zan k id a l).2.1 (zan k id a l).1).2)) = true := by
  obtain ⟨lv, hT, _, _⟩ := h.t
  unfold inR at c1
  rw [if_neg (by omega)] at c1
  unfold zbi at c1
  generalize za6 k.sz k.m a l (zan k id a l).2.1 (zan k id a l).1 = r at *
  cases e1 : zat (atM k.sz k.m r.1 (idx a r.2)) with
  | true => exact .inl rfl
  | false =>
    rw [e1, if_neg (by simp)] at c1
    cases e2 : zbf (atM k.sz k.m r.1 (idx a r.2)) with
    | false => rw [e2, if_neg (by simp)] at c1; exact absurd rfl c1
    | true =>
      rcases hT.e.k r.1 _ (idx_bd a r.2) with e | ⟨_, _, ⟨e, _⟩ | ⟨e, _⟩⟩
      · rw [e] at e2; cases e2
      · rw [e1] at e; cases e
      · exact .inr e
theorem z3y {a : Int} {m : Nat} (h2 : m ≤ 1) (h : m39 a % VaSpec.sz ((m + 1 : Nat) : Int) = 0) : m39 a % (512 * VaSpec.sz (m : Int)) = 0 := by
  have := zgq (l := ((m + 1 : Nat) : Int)) (by omega)
  rw [show ((m + 1 : Nat) : Int) - 1 = (m : Int) by omega] at this
  rw [← this]; exact h
end Go.Proofs.YtomeaibdedaldaaGreatDoor.LmE
namespace Go.Proofs.YtomeaibdedaldaaGreatDoor.LnA
open Go.RowKit Bv VaSpec Base MemL RegR Ax MemC PutC MemC3 TzC OkS SpA SpB SpC SpD SpE SpF SpN SpO SpG SpH SpI SpJ LaA LaB LaC LaD LaE LaF LaG LiA LiB LiC LiD LiE LiF LrA LrB LrC LjA LjF LkE LmA LmB LmE
open BitsC PteSpec
set_option maxRecDepth 10000
set_option maxHeartbeats 1000000
theorem zru : ∀ (xs ys : List (Int × Int)), Srt xs → Srt ys → (∀ c ∈ xs, c.2 ≠ 0) → (∀ c ∈ ys, c.2 ≠ 0) → (∀ a, MemC.look xs a = MemC.look ys a) → xs = ys
  | [], [], _, _, _, _, _ => rfl
  | [], d :: ys, _, hs, _, h0, he => absurd ((look_mem hs (List.mem_cons_self ..)).symm.trans (he d.1).symm) (h0 d (List.mem_cons_self ..))
  | c :: xs, [], hs, _, h0, _, he => absurd ((look_mem hs (List.mem_cons_self ..)).symm.trans (he c.1)) (h0 c (List.mem_cons_self ..))
  | c :: xs, d :: ys, hs, gs, h0, g0, he => by
    have hs' := List.pairwise_cons.1 hs
    have gs' := List.pairwise_cons.1 gs
    have e1 := he c.1
    have e2 := he d.1
    rw [look_mem hs (List.mem_cons_self ..)] at e1
    rw [look_mem gs (List.mem_cons_self ..)] at e2
    have n1 := h0 c (List.mem_cons_self ..)
    have n2 := g0 d (List.mem_cons_self ..)
    by_cases h1 : c.1 < d.1
    · rw [zcy fun z hz => by
        rcases List.mem_cons.1 hz with rfl | hz
        · omega
        · have := gs'.1 z hz; omega] at e1
      exact absurd e1 n1
    by_cases h2 : d.1 < c.1
    · rw [zcy fun z hz => by
        rcases List.mem_cons.1 hz with rfl | hz
        · omega
        · have := hs'.1 z hz; omega] at e2
      exact absurd e2.symm n2
    have h3 : c.1 = d.1 := by omega
    rw [← h3, look_mem hs (List.mem_cons_self ..)] at e2
    have hcd : c = d := Prod.ext h3 e2
    subst hcd
    congr 1
    refine zru xs ys hs'.2 gs'.2 (fun z hz => h0 z (List.mem_cons_of_mem _ hz)) (fun z hz => g0 z (List.mem_cons_of_mem _ hz)) fun a => ?_
    by_cases h4 : c.1 < a
    · have := he a
      rw [zcz, zcz, if_pos h4, if_pos h4] at this
      exact this
    · rw [zcy fun z hz => by have := hs'.1 z hz; omega, zcy fun z hz => by have := gs'.1 z hz; omega]
theorem z1r {u v : Int} (hu : U u) (hv : U v) (h : zay u = zay v) : u = v := by
  rw [← zhm u hu.1 hu.2, h, zhm v hv.1 hv.2]
theorem z3z {cd cp sz f sh f' sh' : Int} {xs ys : List (Int × Int)} {lv lv' : Int → Int} (h : TI cd cp sz xs f sh lv) (g : TI cd cp sz ys f' sh' lv') (he : ∀ s j, (0 ≤ j ∧ j < 512) → atM sz xs s j = atM sz ys s j) : xs = ys := by
  refine zru _ _ h.s g.s (fun c hc => (h.r c hc).2.2) (fun c hc => (g.r c hc).2.2) fun a => ?_
  by_cases ha : cd * 512 ≤ a ∧ a < (cd + cp) * 512
  · have e := he (a / 512) (a % 512) (by omega)
    have bz := h.bz
    unfold atM zbo at e
    rw [if_pos (by omega), if_pos (by omega), show (a / 512 * 4096 + a % 512 * 8) / 8 = a by omega] at e
    exact z1r (zu1 h.u a) (zu1 g.u a) e
  · rw [zcy fun c hc e => ha (by rw [← e]; exact (h.r c hc).1), zcy fun c hc e => ha (by rw [← e]; exact (g.r c hc).1)]
theorem zdq (sz : Int) (xs : List (Int × Int)) (l : Nat) (t : Int) : t ∈ frN sz xs l t := by
  cases l <;> simp [frN]
theorem zmn (sz : Int) (xs : List (Int × Int)) (addr zam : Int) (hw : 0 ≤ zam) : ∀ (l : Nat) (t : Int), (zaq sz xs addr zam l t).1 ∈ frN sz xs l t
  | 0, t => zdq _ _ _ _
  | l + 1, t => by
    have hi := idx_bd addr ((l + 1 : Nat) : Int)
    by_cases c1 : zam < ((l + 1 : Nat) : Int)
    · cases c : za2 (atM sz xs t (idx addr ((l + 1 : Nat) : Int))) ((l + 1 : Nat) : Int) with
      | true =>
        rw [zbc c1 c]
        have IH := zmn sz xs addr zam hw l (atM sz xs t (idx addr ((l + 1 : Nat) : Int))).ppn
        simp only [frN, List.mem_cons]
        refine .inr (List.mem_flatMap.2 ⟨(idx addr ((l + 1 : Nat) : Int)).toNat, List.mem_range.2 (by omega), ?_⟩)
        rw [show (((idx addr ((l + 1 : Nat) : Int)).toNat : Nat) : Int) = idx addr ((l + 1 : Nat) : Int) by omega, if_pos c]
        exact IH
      | false =>
        rw [za8 (fun _ => c) hw]; exact zdq _ _ _ _
    · rw [za8 (fun hh => absurd hh c1) hw]; exact zdq _ _ _ _
section
variable {cd cp sz f sh : Int} {xs : List (Int × Int)} {lv : Int → Int}
theorem zzh (h : TI cd cp sz xs f sh lv) {t a e : Int} {l' : Nat} (ht : Al cd cp f t) (s j : Int) (hj : 0 ≤ j ∧ j < 512) :
    atM sz (za1 sz (zde sz cd cp (xs, f, (t, (l' : Int)), e) a).1 t (idx a (l' : Int)) zP) s j = if s = t ∧ j = idx a (l' : Int) then zP else if zbf (atM sz xs t (idx a (l' : Int))) = true ∧ s ∈ frN sz xs ((l' : Int) - 1).toNat (atM sz xs t (idx a (l' : Int))).ppn then zP else atM sz xs s j := by
  have hi := idx_bd a (l' : Int)
  have b1 := h.bd
  have bt := ht.1
  have hz : ∀ ys : List (Int × Int), za1 sz ys t (idx a (l' : Int)) zP = zby ys (t * 512 + idx a (l' : Int)) 0 := fun ys => by
    rw [zd8 z14 (by omega) hi (by rw [h.bz]; omega), zq7]
  rw [hz]
  by_cases c : zbf (atM sz xs t (idx a (l' : Int))) = true
  · have e1 : zde sz cd cp (xs, f, (t, (l' : Int)), e) a = bkN cd cp (frN sz xs ((l' : Int) - 1).toNat (atM sz xs t (idx a (l' : Int))).ppn) (xs, f) := if_pos c
    rw [e1]
    have hb := zf7 cd cp sz h.bp (frN sz xs ((l' : Int) - 1).toNat (atM sz xs t (idx a (l' : Int))).ppn) (xs, f) h.s h.bf
    rw [zh0 (cd := cd) (cp := cp) hb.s h.bz (by omega) hi s j hj, hb.e s j hj]
    split
    · rfl
    · by_cases d : s ∈ frN sz xs ((l' : Int) - 1).toNat (atM sz xs t (idx a (l' : Int))).ppn
      · rw [if_pos d, if_pos ⟨c, d⟩]
      · rw [if_neg d, if_neg fun hh => d hh.2]
  · have e1 : zde sz cd cp (xs, f, (t, (l' : Int)), e) a = (xs, f) := if_neg c
    rw [e1, zh0 (cd := cd) (cp := cp) h.s h.bz (by omega) hi s j hj, if_neg (fun hh : _ ∧ _ => c hh.1)]
end
theorem zv8 {sz cd addr zam top f : Int} {xs : List (Int × Int)} {l : Nat} (h : (zaq sz xs addr zam l top).2 = zam ∨ zat (atM sz xs (zaq sz xs addr zam l top).1 (idx addr (zaq sz xs addr zam l top).2)) = false) : ∀ n : Nat, toN sz cd addr zam top l n xs f = (xs, f, zaq sz xs addr zam l top, 0)
  | 0 => rfl
  | n + 1 => by unfold toN; rw [if_pos h]
section
variable {cd cp sz sh : Int}
end
section
variable {cd cp sz f sh : Int} {xs xs' : List (Int × Int)} {lv : Int → Int}
end
end Go.Proofs.YtomeaibdedaldaaGreatDoor.LnA
namespace Go.Proofs.YtomeaibdedaldaaGreatDoor.LnB
open Go.RowKit Bv VaSpec Base MemL RegR Ax MemC PutC MemC3 TzC OkS SpA SpB SpC SpD SpE SpF SpN SpO SpG SpH SpI SpJ LaA LaB LaC LaD LaE LaF LaG LiA LiB LiC LiD LiE LiF LrA LrB LrC LjA LjF LkE LmA LmB LmE LnA
open BitsC PteSpec RfE RfG RfJ RfK LaH RfA RfP RfQ
set_option maxRecDepth 10000
set_option maxHeartbeats 1000000
inductive Tr where
  | no
  | lf (p : Pte)
  | tb (f : Int → Tr)
def upd (f : Int → Tr) (i : Int) (r : Tr) : Int → Tr := fun j => if j = i then r else f j
theorem zgf (f : Int → Tr) (i : Int) (r : Tr) : upd f i r i = r := if_pos rfl
theorem zfw (f : Int → Tr) {i j : Int} (r : Tr) (h : j ≠ i) : upd f i r j = f j := if_neg h
theorem zmo (f : Int → Tr) (i : Int) (r s : Tr) : upd (upd f i r) i s = upd f i s := by
  funext j; unfold upd; split <;> rfl
theorem upd_comm (f : Int → Tr) {i j : Int} (r s : Tr) (h : i ≠ j) : upd (upd f i r) j s = upd (upd f j s) i r := by
  funext x; unfold upd
  by_cases h1 : x = i
  · rw [if_neg (by omega), if_pos h1, if_pos h1]
  · rw [if_neg h1]
    split <;> rfl
def zmu : Tr → Int → Tr
  | .tb f => f
  | _ => fun _ => .no
def z1s : Tr → Bool
  | .no => true
  | _ => false
def z19 : Tr → Bool
  | .lf _ => true
  | _ => false
def zh2 (a zam : Int) (q : Pte) : Nat → Tr → Option Tr
  | 0, tr => if z1s tr then some (.lf q) else none
  | l + 1, tr => if zam = ((l + 1 : Nat) : Int) then (if z1s tr then some (.lf q) else none)
    else if z19 tr then none
    else (zh2 a zam q l (zmu tr (idx a (l : Int)))).map fun r => .tb (upd (zmu tr) (idx a (l : Int)) r)
def zer (a zam : Int) (q : Pte) (l : Nat) (f : Int → Tr) : Option (Int → Tr) := (zh2 a zam q l (f (idx a (l : Int)))).map fun r => upd f (idx a (l : Int)) r
theorem zfb {a zam : Int} {q : Pte} {l : Nat} {tr : Tr} (h : zam ≠ ((l + 1 : Nat) : Int)) (hl : z19 tr = false) : zh2 a zam q (l + 1) tr = (zer a zam q l (zmu tr)).map .tb := by
  unfold zer
  show (if zam = ((l + 1 : Nat) : Int) then _ else if z19 tr = true then none else _) = _
  rw [if_neg h, hl, if_neg (by simp)]
  cases zh2 a zam q l (zmu tr (idx a (l : Int))) <;> rfl
theorem zia {a zam : Int} {q : Pte} {l : Nat} {tr : Tr} (h : zam = (l : Int)) : zh2 a zam q l tr = if z1s tr then some (.lf q) else none := by
  cases l with
  | zero => rfl
  | succ l => exact if_pos h
theorem zla {a zam : Int} {q p : Pte} {l : Nat} : zh2 a zam q l (.lf p) = none := by
  cases l with
  | zero => rfl
  | succ l =>
    show (if zam = ((l + 1 : Nat) : Int) then _ else _) = _
    split <;> rfl
theorem zrv {a zam : Int} {q : Pte} {l : Nat} {tr r : Tr} (h : zh2 a zam q l tr = some r) : z1s r = false := by
  cases l with
  | zero =>
    unfold zh2 at h
    split at h
    · simp only [Option.some.injEq] at h; subst h; rfl
    · cases h
  | succ l =>
    unfold zh2 at h
    split at h
    · split at h
      · simp only [Option.some.injEq] at h; subst h; rfl
      · cases h
    · split at h
      · cases h
      · obtain ⟨x, _, rfl⟩ := Option.map_eq_some_iff.1 h; rfl
theorem zyn (a w : Int) (q : Pte) (a' w' : Int) (q' : Pte) : ∀ (l : Nat) (tr A B : Tr), zh2 a w q l tr = some A → zh2 a' w' q' l A = some B → ∃ C, zh2 a' w' q' l tr = some C ∧ zh2 a w q l C = some B := by
  intro l
  induction l with
  | zero =>
    intro tr A B h1 h2
    have hA := zrv h1
    unfold zh2 at h2
    rw [hA, if_neg (by simp)] at h2
    cases h2
  | succ l ih =>
    intro tr A B h1 h2
    have hA := zrv h1
    by_cases w1 : w = ((l + 1 : Nat) : Int)
    · rw [zia w1] at h1
      split at h1
      · simp only [Option.some.injEq] at h1; subst h1
        rw [zla] at h2; cases h2
      · cases h1
    by_cases w2 : w' = ((l + 1 : Nat) : Int)
    · rw [zia w2, hA, if_neg (by simp)] at h2; cases h2
    have l1 : z19 tr = false := by
      cases tr with
      | lf p => rw [zla] at h1; cases h1
      | no => rfl
      | tb f => rfl
    rw [zfb w1 l1] at h1
    obtain ⟨F, hF, rfl⟩ := Option.map_eq_some_iff.1 h1
    rw [zfb w2 rfl] at h2
    obtain ⟨G, hG, rfl⟩ := Option.map_eq_some_iff.1 h2
    have hG : zer a' w' q' l F = some G := hG
    rw [zfb w2 l1]
    unfold zer at hF hG
    obtain ⟨r, hr, rfl⟩ := Option.map_eq_some_iff.1 hF
    obtain ⟨s, hs, rfl⟩ := Option.map_eq_some_iff.1 hG
    by_cases e : idx a' (l : Int) = idx a (l : Int)
    · rw [e, zgf] at hs
      obtain ⟨c, hc, hb⟩ := ih _ _ _ hr hs
      refine ⟨.tb (upd (zmu tr) (idx a (l : Int)) c), ?_, ?_⟩
      · unfold zer; rw [e, hc]; rfl
      · rw [zfb w1 rfl]
        unfold zer
        show ((zh2 a w q l (upd (zmu tr) (idx a (l : Int)) c (idx a (l : Int)))).map _).map _ = _
        rw [zgf, hb]
        show some (Tr.tb (upd (upd (zmu tr) (idx a (l : Int)) c) (idx a (l : Int)) s)) = some (Tr.tb (upd (upd (zmu tr) (idx a (l : Int)) r) (idx a' (l : Int)) s))
        rw [e, zmo, zmo]
    · rw [zfw _ _ e] at hs
      refine ⟨.tb (upd (zmu tr) (idx a' (l : Int)) s), ?_, ?_⟩
      · unfold zer; rw [hs]; rfl
      · rw [zfb w1 rfl]
        unfold zer
        show ((zh2 a w q l (upd (zmu tr) (idx a' (l : Int)) s (idx a (l : Int)))).map _).map _ = _
        rw [zfw _ _ (fun hh => e hh.symm), hr]
        show some (Tr.tb (upd (upd (zmu tr) (idx a' (l : Int)) s) (idx a (l : Int)) r)) = some (Tr.tb (upd (upd (zmu tr) (idx a (l : Int)) r) (idx a' (l : Int)) s))
        rw [upd_comm _ _ _ e]
theorem zv9 {a w : Int} {q : Pte} {a' w' : Int} {q' : Pte} {l : Nat} {F A B : Int → Tr} (h1 : zer a w q l F = some A) (h2 : zer a' w' q' l A = some B) : ∃ C, zer a' w' q' l F = some C ∧ zer a w q l C = some B := by
  unfold zer at *
  obtain ⟨r, hr, rfl⟩ := Option.map_eq_some_iff.1 h1
  obtain ⟨s, hs, rfl⟩ := Option.map_eq_some_iff.1 h2
  by_cases e : idx a' (l : Int) = idx a (l : Int)
  · rw [e, zgf] at hs
    obtain ⟨c, hc, hb⟩ := zyn a w q a' w' q' l _ _ _ hr hs
    refine ⟨upd F (idx a (l : Int)) c, by rw [e, hc]; rfl, ?_⟩
    rw [zgf, hb]
    show some (upd (upd F (idx a (l : Int)) c) (idx a (l : Int)) s) = some (upd (upd F (idx a (l : Int)) r) (idx a' (l : Int)) s)
    rw [e, zmo, zmo]
  · rw [zfw _ _ e] at hs
    refine ⟨upd F (idx a' (l : Int)) s, by rw [hs]; rfl, ?_⟩
    rw [zfw _ _ (fun hh => e hh.symm), hr]
    show some (upd (upd F (idx a' (l : Int)) s) (idx a (l : Int)) r) = some (upd (upd F (idx a (l : Int)) r) (idx a' (l : Int)) s)
    rw [upd_comm _ _ _ e]
theorem zwa (a w : Int) (q q' : Pte) : ∀ (l : Nat) (tr A : Tr), zh2 a w q l tr = some A → zh2 a w q' l A = none := by
  intro l
  induction l with
  | zero =>
    intro tr A h1
    have hA := zrv h1
    unfold zh2
    rw [hA, if_neg (by simp)]
  | succ l ih =>
    intro tr A h1
    have hA := zrv h1
    by_cases w1 : w = ((l + 1 : Nat) : Int)
    · rw [zia w1, hA, if_neg (by simp)]
    have l1 : z19 tr = false := by
      cases tr with
      | lf p => rw [zla] at h1; cases h1
      | no => rfl
      | tb f => rfl
    rw [zfb w1 l1] at h1
    obtain ⟨F, hF, rfl⟩ := Option.map_eq_some_iff.1 h1
    unfold zer at hF
    obtain ⟨r, hr, rfl⟩ := Option.map_eq_some_iff.1 hF
    rw [zfb w1 rfl]
    unfold zer
    show ((zh2 a w q' l (upd (zmu tr) (idx a (l : Int)) r (idx a (l : Int)))).map _).map _ = _
    rw [zgf, ih _ _ hr]
    rfl
theorem zs6 {a w : Int} {q q' : Pte} {l : Nat} {F A : Int → Tr} (h1 : zer a w q l F = some A) : zer a w q' l A = none := by
  unfold zer at *
  obtain ⟨r, hr, rfl⟩ := Option.map_eq_some_iff.1 h1
  rw [zgf, zwa a w q q' l _ _ hr]
  rfl
def zta (f : Int → Nat) : Nat → Nat
  | 0 => 0
  | n + 1 => zta f n + f (n : Int)
theorem zrw {f g : Int → Nat} : ∀ (n : Nat), (∀ i : Nat, i < n → f i = g i) → zta f n = zta g n
  | 0, _ => rfl
  | n + 1, h => by
    show zta f n + f n = zta g n + g n
    rw [zrw n fun i hi => h i (by omega), h n (by omega)]
theorem zrx {f g : Int → Nat} {i : Int} : ∀ (n : Nat), (0 ≤ i ∧ i < n) → (∀ j, j ≠ i → g j = f j) → zta g n + f i = zta f n + g i
  | 0, hi, _ => by omega
  | n + 1, hi, h => by
    show zta g n + g n + f i = zta f n + f n + g i
    by_cases e : i = (n : Int)
    · subst e
      rw [zrw n fun j hj => h j (by omega)]
      omega
    · have := zrx (f := f) (g := g) n (by omega) h
      have := h n (fun hh => e hh.symm)
      omega
theorem zof : ∀ (n : Nat), zta (fun _ => 0) n = 0
  | 0 => rfl
  | n + 1 => zof n
def zmp : Tr → Nat
  | .tb f => 1 + zta (fun i => zmp (f i)) 512
  | _ => 0
def zib (f : Int → Tr) : Nat := zta (fun i => zmp (f i)) 512
theorem ze7 (f : Int → Tr) (i : Int) (r : Tr) (hi : 0 ≤ i ∧ i < 512) : zib (upd f i r) + zmp (f i) = zib f + zmp r := by
  unfold zib
  have := zrx (f := fun j => zmp (f j)) (g := fun j => zmp (upd f i r j)) (i := i) 512 (by omega) (fun j hj => by show zmp (upd f i r j) = _; rw [zfw _ _ hj])
  have e : zmp (upd f i r i) = zmp r := by rw [zgf]
  simp only [e] at this
  exact this
theorem z1t : zib (fun _ => Tr.no) = 0 := zof 512
noncomputable def z1u (sz : Int) (xs : List (Int × Int)) : Nat → Pte → Tr
  | 0, p => if zat p then .lf p else .no
  | l + 1, p => if zat p then .lf p else if za2 p ((l + 1 : Nat) : Int) then .tb (fun j => if 0 ≤ j ∧ j < 512 then z1u sz xs l (atM sz xs p.ppn j) else .no) else .no
noncomputable def zda (sz : Int) (xs : List (Int × Int)) (l : Nat) (t : Int) : Int → Tr := fun j => if 0 ≤ j ∧ j < 512 then z1u sz xs l (atM sz xs t j) else .no
theorem zef {sz : Int} {xs : List (Int × Int)} {l : Nat} {t j : Int} (hj : 0 ≤ j ∧ j < 512) : zda sz xs l t j = z1u sz xs l (atM sz xs t j) := if_pos hj
theorem zeg {sz : Int} {xs : List (Int × Int)} {l : Nat} {p : Pte} (h : zat p = true) : z1u sz xs l p = .lf p := by
  cases l with
  | zero => exact if_pos h
  | succ l => exact if_pos h
theorem zeh {sz : Int} {xs : List (Int × Int)} {l : Nat} {p : Pte} (h : lkP p = true) : z1u sz xs (l + 1) p = .tb (zda sz xs l p.ppn) := by
  show (if zat p = true then _ else if za2 p ((l + 1 : Nat) : Int) = true then _ else _) = _
  rw [(zbz h).2.2, if_neg (by simp), if_pos (zb2 h (by omega))]
  rfl
theorem zfx {sz : Int} {xs : List (Int × Int)} {l : Nat} : z1u sz xs l zP = .no := by
  cases l with
  | zero => rfl
  | succ l => rfl
theorem zio {sz : Int} {xs xs' : List (Int × Int)} : ∀ (l : Nat) (t : Int), (∀ s ∈ frN sz xs l t, ∀ j, (0 ≤ j ∧ j < 512) → atM sz xs' s j = atM sz xs s j) → zda sz xs' l t = zda sz xs l t
  | 0, t, h => by
    funext j
    unfold zda
    split
    · rename_i hj
      rw [h t (zdq _ _ _ _) j hj]
      rfl
    · rfl
  | l + 1, t, h => by
    funext j
    unfold zda
    split
    · rename_i hj
      rw [h t (zdq _ _ _ _) j hj]
      show (if zat (atM sz xs t j) = true then _ else if za2 (atM sz xs t j) ((l + 1 : Nat) : Int) = true then Tr.tb (zda sz xs' l (atM sz xs t j).ppn) else _) = (if zat (atM sz xs t j) = true then _ else if za2 (atM sz xs t j) ((l + 1 : Nat) : Int) = true then Tr.tb (zda sz xs l (atM sz xs t j).ppn) else _)
      cases c : za2 (atM sz xs t j) ((l + 1 : Nat) : Int) with
      | false => rfl
      | true =>
        rw [zio l (atM sz xs t j).ppn fun s hs j' hj' => h s (by
          simp only [frN, List.mem_cons]
          refine .inr (List.mem_flatMap.2 ⟨j.toNat, List.mem_range.2 (by omega), ?_⟩)
          rw [show ((j.toNat : Nat) : Int) = j by omega, if_pos c]
          exact hs) j' hj']
    · rfl
section
variable {cd cp sz f sh : Int} {xs : List (Int × Int)} {lv : Int → Int}
theorem zyo (h : TI cd cp sz xs f sh lv) {l1 l2 : Nat} {t1 t2 : Int} (a1 : Al cd cp f t1) (a2 : Al cd cp f t2) (e1 : lv t1 = l1) (e2 : lv t2 = l2) (hl : l2 ≤ l1) (hns : ∀ g ∈ frN sz xs l2 t2, g ≠ t2 → g ≠ sh) : ∀ (d : Nat) (g : Int), lv t2 - lv g ≤ d → g ∈ frN sz xs l1 t1 → g ∈ frN sz xs l2 t2 → t2 ∈ frN sz xs l1 t1
  | 0, g, hd, h1, h2 => by
    obtain ⟨_, q2, q3⟩ := zbg h l2 t2 a2 e2 g h2
    rcases q3 with rfl | ⟨s, hs, j, p1, p2, p3, p4⟩
    · exact h1
    · obtain ⟨_, _, r, _⟩ := zcv h p1 p2
      rw [p3] at r
      omega
  | d + 1, g, hd, h1, h2 => by
    obtain ⟨_, q2, q3⟩ := zbg h l2 t2 a2 e2 g h2
    obtain ⟨_, _, v3⟩ := zbg h l1 t1 a1 e1 g h1
    by_cases hg : g = t2
    · rw [← hg]; exact h1
    rcases q3 with e | ⟨s, hs, j, p1, p2, p3, p4⟩
    · exact absurd e hg
    obtain ⟨_, _, r, _⟩ := zcv h p1 p2
    rw [p3] at r
    rcases v3 with e | ⟨s', hs', j', p1', p2', p3', p4'⟩
    · rw [e] at r; omega
    · obtain ⟨u1, u2⟩ := h.e.u s j s' j' p1 p1' p2 p2' (p3.trans p3'.symm) (by rw [p3]; exact hns g h2 hg)
      subst u1
      exact zyo h a1 a2 e1 e2 hl hns d s (by omega) hs' hs
theorem zwb (h : TI cd cp sz xs f sh lv) {l : Nat} {t : Int} (ha : Al cd cp f t) (e : lv t = l) (hl : l ≤ 1) : ∀ g ∈ frN sz xs l t, g ≠ t → g ≠ sh := fun g hg hne hs => by
  obtain ⟨_, _, q3⟩ := zbg h l t ha e g hg
  rcases q3 with e | ⟨s, hs', j, p1, p2, p3, p4⟩
  · exact hne e
  · have := (h.e.s s j p1 p2 (p3.trans hs)).2
    omega
theorem zwc (h : TI cd cp sz xs f sh lv) {l : Nat} {t i j g : Int} (ht : lv t = (l + 1 : Nat)) (h2 : l ≤ 1) (hi : 0 ≤ i ∧ i < 512) (hj : 0 ≤ j ∧ j < 512) (k1 : lkP (atM sz xs t i) = true) (k2 : lkP (atM sz xs t j) = true) (hns : (atM sz xs t i).ppn ≠ sh ∨ (atM sz xs t j).ppn ≠ sh) (g1 : g ∈ frN sz xs l (atM sz xs t i).ppn) (g2 : g ∈ frN sz xs l (atM sz xs t j).ppn) : i = j := by
  obtain ⟨_, _, r1, a1⟩ := zcv h hi k1
  obtain ⟨_, _, r2, a2⟩ := zcv h hj k2
  have e1 : lv (atM sz xs t i).ppn = l := by rw [r1, ht]; omega
  have e2 : lv (atM sz xs t j).ppn = l := by rw [r2, ht]; omega
  obtain ⟨_, q2, _⟩ := zbg h l _ a2 e2 g g2
  have hm := zyo h a1 a2 e1 e2 (Nat.le_refl _) (zwb h a2 e2 h2) l g (by omega) g1 g2
  obtain ⟨_, _, v⟩ := zbg h l _ a1 e1 _ hm
  rcases v with e | ⟨s, _, j', p1, p2, p3, p4⟩
  · rcases hns with hns | hns
    · exact (h.e.u t i t j hi hj k1 k2 e.symm hns).2
    · exact (h.e.u t j t i hj hi k2 k1 e hns).2.symm
  · obtain ⟨_, _, r, _⟩ := zcv h p1 p2
    rw [p3] at r
    omega
end
def pgsE : Nat → Int → Tr → List Pg
  | 0, b, tr => match tr with
    | .lf p => [zwp p b 0]
    | _ => []
  | l + 1, b, tr => match tr with
    | .lf p => [zwp p b ((l + 1 : Nat) : Int)]
    | .tb f => (List.range 512).flatMap fun (i : Nat) => pgsE l (adr b i (l : Int)) (f i)
    | .no => []
def z4b (l : Nat) (b : Int) (f : Int → Tr) : List Pg := (List.range 512).flatMap fun (i : Nat) => pgsE l (adr b i (l : Int)) (f i)
theorem zog {α β : Type} {l : List α} {f g : α → List β} (h : ∀ x ∈ l, f x = g x) : l.flatMap f = l.flatMap g := by
  rw [List.flatMap_def, List.flatMap_def, List.map_congr_left h]
section
variable {cd cp sz f sh : Int} {xs : List (Int × Int)} {lv : Int → Int}
theorem zj4 (h : TI cd cp sz xs f sh lv) : ∀ (l : Nat) (t b : Int), lv t = l → zbq sz xs l t b = z4b l b (zda sz xs l t)
  | 0, t, b, hl => by
    show (List.range 512).flatMap _ = (List.range 512).flatMap _
    refine zog fun i hi => ?_
    have hi := List.mem_range.1 hi
    have hi' : (0 : Int) ≤ (i : Int) ∧ (i : Int) < 512 := by omega
    rw [zef hi']
    rcases h.e.k t i hi' with e | ⟨_, _, ⟨e1, e2⟩ | ⟨e1, e2, _⟩⟩
    · rw [e]; rfl
    · rw [hl] at e2
      rw [zeg e1]
      unfold zfr
      rw [show zdt (atM sz xs t i) 0 = false from e2, e1]
      rfl
    · omega
  | l + 1, t, b, hl => by
    show (List.range 512).flatMap _ = (List.range 512).flatMap _
    refine zog fun i hi => ?_
    have hi := List.mem_range.1 hi
    have hi' : (0 : Int) ≤ (i : Int) ∧ (i : Int) < 512 := by omega
    rw [zef hi']
    rcases h.e.k t i hi' with e | ⟨_, _, ⟨e1, e2⟩ | ⟨e1, e2, e3, _⟩⟩
    · rw [e, zfx]; rfl
    · rw [hl] at e2
      rw [zeg e1]
      unfold zfr
      rw [e2, e1]
      rfl
    · have hb : zdt (atM sz xs t i) ((l + 1 : Nat) : Int) = false := by
        have := zb2 e1 (l := ((l + 1 : Nat) : Int)) (by omega)
        unfold za2 at this
        simp only [Bool.and_eq_true, Bool.not_eq_true'] at this
        exact this.2
      rw [zeh e1]
      unfold zfr
      rw [hb, (zbz e1).2.2]
      show zbq sz xs l (atM sz xs t i).ppn (adr b i ((l + 1 : Nat) : Int)) = z4b l (adr b i ((l + 1 : Nat) : Int)) (zda sz xs l (atM sz xs t i).ppn)
      exact zj4 h l _ _ (by rw [e3, hl]; omega)
theorem ziq (h : TI cd cp sz xs f sh lv) {l : Nat} {t i : Int} (ht : Al cd cp f t) (hl : lv t = l) (hi : 0 ≤ i ∧ i < 512) {xs' : List (Int × Int)} {r : Tr} (C : Int → Prop) (h1 : z1u sz xs' l (atM sz xs' t i) = r)
    (h2 : ∀ s j, (0 ≤ j ∧ j < 512) → Al cd cp f s → ¬ (s = t ∧ j = i) → ¬ C s → atM sz xs' s j = atM sz xs s j) (h3 : ¬ C t)
    (h4 : ∀ m, l = m + 1 → ∀ j, (0 ≤ j ∧ j < 512) → j ≠ i → lkP (atM sz xs t j) = true → ∀ g ∈ frN sz xs m (atM sz xs t j).ppn, ¬ C g) : zda sz xs' l t = upd (zda sz xs l t) i r := by
  funext j
  by_cases hj : 0 ≤ j ∧ j < 512
  · rw [zef hj]
    by_cases c : j = i
    · subst c; rw [h1, zgf]
    · rw [zfw _ _ c, zef hj, h2 t j hj ht (fun hh => c hh.2) h3]
      cases l with
      | zero => rfl
      | succ m =>
        rcases h.e.k t j hj with e | ⟨_, _, ⟨e1, e2⟩ | ⟨e1, e2, e3, e4⟩⟩
        · rw [e, zfx, zfx]
        · rw [zeg e1, zeg e1]
        · have e5 : lv (atM sz xs t j).ppn = m := by rw [e3, hl]; omega
          rw [zeh e1, zeh e1, zio m (atM sz xs t j).ppn fun s hs j' hj' => h2 s j' hj' (zbg h m _ e4 e5 s hs).1 (fun hh => by
            have := (zbg h m _ e4 e5 s hs).2.1
            rw [hh.1, hl] at this
            omega) (h4 m rfl j hj c e1 s hs)]
  · have : j ≠ i := fun e => hj (e ▸ hi)
    rw [zfw _ _ this]
    unfold zda
    rw [if_neg hj, if_neg hj]
theorem zwd (h : TI cd cp sz xs f sh lv) {t i : Int} {p : Pte} (ht : Al cd cp f t) (hi : 0 ≤ i ∧ i < 512) (hp : p.U) (hb : zay (PteC.zcp p) = p) (s j : Int) (hj : 0 ≤ j ∧ j < 512) : atM sz (za1 sz xs t i p) s j = if s = t ∧ j = i then p else atM sz xs s j := by
  have bt := ht.1
  have bz := h.bz
  rw [h.gm.with ht hi hp]
  by_cases hd : s * 4096 + j * 8 < sz
  · rw [zg7 h.s hi hj hd, hb]
  · rw [if_neg (by rintro ⟨rfl, rfl⟩; omega)]
    unfold atM zbo
    rw [if_neg hd, if_neg hd]
def chg (sz : Int) (xs : List (Int × Int)) (a : Int) (l : Nat) (t s : Int) : Prop := ∃ m, l = m + 1 ∧ lkP (atM sz xs t (idx a (l : Int))) = true ∧ s ∈ frN sz xs m (atM sz xs t (idx a (l : Int))).ppn
theorem zry (a zam : Int) (q : Pte) (hw : 0 ≤ zam) : ∀ (l : Nat), zam ≤ (l : Int) → ∃ A, zh2 a zam q l .no = some A
  | 0, _ => ⟨_, rfl⟩
  | l + 1, h => by
    by_cases c : zam = ((l + 1 : Nat) : Int)
    · exact ⟨_, zia c⟩
    · obtain ⟨A, hA⟩ := zry a zam q hw l (by omega)
      refine ⟨.tb (upd (zmu .no) (idx a (l : Int)) A), ?_⟩
      rw [zfb c rfl]
      unfold zer
      show ((zh2 a zam q l .no).map _).map _ = _
      rw [hA]; rfl
theorem zwe (h : TI cd cp sz xs f sh lv) (a zam : Int) (q : Pte) (hw : 0 ≤ zam) : ∀ (l : Nat) (t : Int), zam ≤ (l : Int) → lv t = l → (zer a zam q l (zda sz xs l t) = none ↔ (atM sz xs (zaq sz xs a zam l t).1 (idx a (zaq sz xs a zam l t).2)).v = true) := by
  have hnone : ∀ (l : Nat) (F : Int → Tr), zer a zam q l F = none ↔ zh2 a zam q l (F (idx a (l : Int))) = none := fun l F => by
    unfold zer
    rw [Option.map_eq_none_iff]
  intro l
  induction l with
  | zero =>
    intro t hwl hl
    have hi := idx_bd a ((0 : Nat) : Int)
    rw [hnone, zef hi]
    show _ ↔ (atM sz xs t (idx a ((0 : Nat) : Int))).v = true
    rw [zia (by omega)]
    rcases h.e.k t _ hi with e | ⟨_, _, ⟨e1, e2⟩ | ⟨e1, e2, _⟩⟩
    · rw [e]; exact ⟨fun hh => (by cases hh), fun hh => (by cases hh)⟩
    · rw [zeg e1, (zbr e1).2]; exact ⟨fun _ => rfl, fun _ => rfl⟩
    · omega
  | succ l ih =>
    intro t hwl hl
    have hi := idx_bd a ((l + 1 : Nat) : Int)
    rw [hnone, zef hi]
    by_cases c : zam = ((l + 1 : Nat) : Int)
    · rw [za8 (fun hh => by omega) hw]
      show _ ↔ (atM sz xs t (idx a ((l + 1 : Nat) : Int))).v = true
      rw [zia c]
      rcases h.e.k t _ hi with e | ⟨_, _, ⟨e1, e2⟩ | ⟨e1, e2, _⟩⟩
      · rw [e, zfx]; exact ⟨fun hh => (by cases hh), fun hh => (by cases hh)⟩
      · rw [zeg e1, (zbr e1).2]; exact ⟨fun _ => rfl, fun _ => rfl⟩
      · rw [zeh e1, (zbz e1).2.1]; exact ⟨fun _ => rfl, fun _ => rfl⟩
    · rcases h.e.k t _ hi with e | ⟨_, _, ⟨e1, e2⟩ | ⟨e1, e2, e3, e4⟩⟩
      · rw [za8 (fun _ => by rw [e]; rfl) hw]
        show _ ↔ (atM sz xs t (idx a ((l + 1 : Nat) : Int))).v = true
        rw [e, zfx]
        obtain ⟨A, hA⟩ := zry a zam q hw (l + 1) hwl
        rw [hA]
        exact ⟨fun hh => (by cases hh), fun hh => (by cases hh)⟩
      · rw [za8 (fun _ => zil (zbr e1).1) hw]
        show _ ↔ (atM sz xs t (idx a ((l + 1 : Nat) : Int))).v = true
        rw [zeg e1, (zbr e1).2, zla]; exact ⟨fun _ => rfl, fun _ => rfl⟩
      · rw [zbc (by omega) (zb2 e1 (by omega)), zeh e1, zfb c rfl, Option.map_eq_none_iff]
        exact ih _ (by omega) (by rw [e3, hl]; omega)
theorem z1v (sz : Int) (ys : List (Int × Int)) (l : Nat) (g : Int) (hz : ∀ j, (0 ≤ j ∧ j < 512) → atM sz ys g j = zP) : ∀ s ∈ frN sz ys l g, s = g := fun s hs => by
  cases l with
  | zero => simpa [frN] using hs
  | succ m =>
    simp only [frN, List.mem_cons] at hs
    rcases hs with e | hs
    · exact e
    · obtain ⟨i, hi, hs⟩ := List.mem_flatMap.1 hs
      have hi := List.mem_range.1 hi
      rw [hz i (by omega), if_neg (by unfold za2 zbf zP; simp)] at hs
      cases hs
end
section
variable {cd cp sz sh : Int}
theorem z30 (addr zam : Int) (q : Pte) (hw : 0 ≤ zam) (hqU : q.U) (hqb : zay (PteC.zcp q) = q) (hql : zat q = true) : ∀ (l : Nat) (xs : List (Int × Int)) (f t : Int) (lv : Int → Int), TI cd cp sz xs f sh lv → Al cd cp f t → Al cd cp f sh → lv t = l → l ≤ 2 → zam ≤ (l : Int) → (l = 2 → idx addr 2 ≠ 511) → ∀ A, zer addr zam q l (zda sz xs l t) = some A →
    ((dnN sz cd addr zam l xs f t).2.2.2 = 0 ∧ zda sz (za1 sz (dnN sz cd addr zam l xs f t).1 (dnN sz cd addr zam l xs f t).2.2.1 (idx addr zam) q) l t = A ∧ cnt (dnN sz cd addr zam l xs f t).2.1 + zib A = cnt f + zib (zda sz xs l t) ∧
      (∀ s j, (0 ≤ j ∧ j < 512) → Al cd cp f s → ¬ (s = t ∧ j = idx addr (l : Int)) → ¬ chg sz xs addr l t s → atM sz (za1 sz (dnN sz cd addr zam l xs f t).1 (dnN sz cd addr zam l xs f t).2.2.1 (idx addr zam) q) s j = atM sz xs s j)) ∨
    ((dnN sz cd addr zam l xs f t).2.2.2 = 8 ∧ cnt f + zib (zda sz xs l t) < zib A) := by
  -- a leaf is put into this table
  have base : ∀ (l : Nat) (xs : List (Int × Int)) (f t : Int) (lv : Int → Int), TI cd cp sz xs f sh lv → Al cd cp f t → lv t = l → zam = (l : Int) → ∀ A, zer addr zam q l (zda sz xs l t) = some A →
      zda sz (za1 sz xs t (idx addr zam) q) l t = A ∧ cnt f + zib A = cnt f + zib (zda sz xs l t) ∧ (∀ s j, (0 ≤ j ∧ j < 512) → Al cd cp f s → ¬ (s = t ∧ j = idx addr (l : Int)) → ¬ chg sz xs addr l t s → atM sz (za1 sz xs t (idx addr zam) q) s j = atM sz xs s j) := fun l xs f t lv h ht hl hwl A hA => by
    have hi := idx_bd addr (l : Int)
    have hat := fun s j hj => zwd h ht (i := idx addr zam) (by rw [hwl]; exact hi) hqU hqb s j hj
    rw [hwl] at hat ⊢
    unfold zer at hA
    rw [zia hwl] at hA
    cases c : z1s (zda sz xs l t (idx addr (l : Int))) with
    | false => rw [c, if_neg (by simp)] at hA; cases hA
    | true =>
      rw [c, if_pos rfl] at hA
      simp only [Option.map_some, Option.some.injEq] at hA
      subst hA
      refine ⟨ziq h ht hl hi (fun _ => False) ?_ (fun s j hj _ hn _ => by rw [hat s j hj, if_neg hn]) (fun hh => hh) (fun _ _ _ _ _ _ _ _ hh => hh), ?_, fun s j hj _ hn _ => by rw [hat s j hj, if_neg hn]⟩
      · rw [hat t _ hi, if_pos ⟨rfl, rfl⟩, zeg hql]
      · have := ze7 (zda sz xs l t) (idx addr (l : Int)) (.lf q) hi
        have e0 : zmp (zda sz xs l t (idx addr (l : Int))) = 0 := by
          revert c
          cases zda sz xs l t (idx addr (l : Int)) <;> intro c
          · rfl
          · rfl
          · cases c
        have e1 : zmp (.lf q) = 0 := rfl
        omega
  intro l
  induction l with
  | zero =>
    intro xs f t lv h ht hsh hl h2 hwl hH A hA
    exact .inl ⟨rfl, base 0 xs f t lv h ht hl (by omega) A hA⟩
  | succ l ih =>
    intro xs f t lv h ht hsh hl h2 hwl hH A hA
    have hi := idx_bd addr ((l + 1 : Nat) : Int)
    by_cases c1 : ((l + 1 : Nat) : Int) ≤ zam
    · have e0 : dnN sz cd addr zam (l + 1) xs f t = (xs, f, t, 0) := by unfold dnN; rw [if_pos c1]
      rw [e0]
      exact .inl ⟨rfl, base (l + 1) xs f t lv h ht hl (by omega) A hA⟩
    have cw : zam ≠ ((l + 1 : Nat) : Int) := by omega
    have hA0 := hA
    unfold zer at hA
    obtain ⟨r, hr, rfl⟩ := Option.map_eq_some_iff.1 hA
    rw [zef hi] at hr
    rcases h.e.k t _ hi with e | ⟨_, _, ⟨e1, e2⟩ | ⟨e1, e2, e3, e4⟩⟩
    · -- nothing is there
      rw [e, zfx, zfb cw rfl] at hr
      obtain ⟨A', hA', rfl⟩ := Option.map_eq_some_iff.1 hr
      have hA' : zer addr zam q l (fun _ => .no) = some A' := hA'
      have hcu := ze7 (zda sz xs (l + 1) t) (idx addr ((l + 1 : Nat) : Int)) (.tb A') hi
      rw [zef hi, e, zfx] at hcu
      have hc0 : zmp .no = 0 := rfl
      have hc1 : zmp (.tb A') = 1 + zib A' := rfl
      by_cases c4 : f = 0
      · subst c4
        have e0 : dnN sz cd addr zam (l + 1) xs 0 t = (xs, 0, t, 8) := by unfold dnN; rw [if_neg c1, e, if_neg (by unfold zat zP; simp), if_neg (by unfold zP; simp), if_pos rfl]
        rw [e0]
        have : cnt 0 = 0 := by decide
        exact .inr ⟨rfl, by omega⟩
      · have hD : dnN sz cd addr zam (l + 1) xs f t = dnN sz cd addr zam l (za1 sz xs t (idx addr ((l + 1 : Nat) : Int)) (lnk (cd + tzI f))) (zbk f (tzI f) 1 0) (cd + tzI f) := by
          conv => lhs; unfold dnN
          rw [if_neg c1, e, if_neg (by unfold zat zP; simp), if_neg (by unfold zP; simp), if_neg c4]
        rw [hD]
        obtain ⟨a0, a1, a2, a3⟩ := zc8 h c4
        have b1 := h.bd
        have b2 := h.bp
        have hbt := ht.1
        have hnn : 0 ≤ cd + tzI f ∧ cd + tzI f < 17592186044416 := by omega
        have hT := zqc h c4 ht hsh (by rw [hl]; omega) hi (by rw [e]; rfl)
        have hat := fun s j hj => zwd h ht hi (zg8 hnn) (zf5 hnn) s j hj
        have hz : ∀ j, (0 ≤ j ∧ j < 512) → atM sz (za1 sz xs t (idx addr ((l + 1 : Nat) : Int)) (lnk (cd + tzI f))) (cd + tzI f) j = zP := fun j hj => by
          rw [hat _ j hj, if_neg (by rintro ⟨e, _⟩; exact (a0 _ ht).2 e.symm)]
          rcases h.e.k (cd + tzI f) j hj with e | ⟨e, _⟩
          · exact e
          · exact absurd rfl (a0 _ e).2
        have hS : zda sz (za1 sz xs t (idx addr ((l + 1 : Nat) : Int)) (lnk (cd + tzI f))) l (cd + tzI f) = fun _ => .no := by
          funext j
          unfold zda
          split
          · rename_i hj; rw [hz j hj, zfx]
          · rfl
        have t1 := zct h.uf h.bf.2 c4
        have hco := zmi h.uf t1.1 (by omega) (zk5 h.uf c4)
        have hup : upL lv (cd + tzI f) (lv t - 1) (cd + tzI f) = (l : Int) := by unfold upL; rw [if_pos rfl, hl]; omega
        have I := ih _ _ _ _ hT a1 (a0 _ hsh).1 hup (by omega) (by omega) (fun hh => by omega) A' (by rw [hS]; exact hA')
        rw [hS, z1t] at I
        have hz0 := z1v sz _ l _ hz
        generalize hys : za1 sz xs t (idx addr ((l + 1 : Nat) : Int)) (lnk (cd + tzI f)) = ys at *
        rcases I with ⟨I1, I2, I3, I4⟩ | ⟨I1, I2⟩
        · refine .inl ⟨I1, ?_, by omega, ?_⟩
          · generalize za1 sz (dnN sz cd addr zam l ys (zbk f (tzI f) 1 0) (cd + tzI f)).1 (dnN sz cd addr zam l ys (zbk f (tzI f) 1 0) (cd + tzI f)).2.2.1 (idx addr zam) q = zs at *
            have key : ∀ s j, (0 ≤ j ∧ j < 512) → Al cd cp f s → atM sz zs s j = atM sz ys s j := fun s j hj hs => I4 s j hj (a0 s hs).1 (fun hh => (a0 s hs).2 hh.1) (by
              rintro ⟨m, em, k1, k2⟩
              rw [hz _ (idx_bd addr _)] at k1; cases k1)
            refine ziq h ht hl hi (fun _ => False) ?_ (fun s j hj hs hn _ => by rw [key s j hj hs, hat s j hj, if_neg hn]) (fun hh => hh) (fun _ _ _ _ _ _ _ _ hh => hh)
            rw [key t _ hi ht, hat t _ hi, if_pos ⟨rfl, rfl⟩, zeh rfl]
            show Tr.tb (zda sz zs l (cd + tzI f)) = _
            rw [I2]
          · intro s j hj hs hn _
            rw [I4 s j hj (a0 s hs).1 (fun hh => (a0 s hs).2 hh.1) (by
              rintro ⟨m, em, k1, k2⟩
              rw [hz _ (idx_bd addr _)] at k1; cases k1), hat s j hj, if_neg hn]
        · exact .inr ⟨I1, by omega⟩
    · rw [zeg e1, zla] at hr; cases hr
    · -- a link
      have e5 : lv (atM sz xs t (idx addr ((l + 1 : Nat) : Int))).ppn = (l : Int) := by rw [e3, hl]; omega
      rw [zeh e1, zfb cw rfl] at hr
      obtain ⟨A', hA', rfl⟩ := Option.map_eq_some_iff.1 hr
      have hA' : zer addr zam q l (zda sz xs l (atM sz xs t (idx addr ((l + 1 : Nat) : Int))).ppn) = some A' := hA'
      have hcu := ze7 (zda sz xs (l + 1) t) (idx addr ((l + 1 : Nat) : Int)) (.tb A') hi
      rw [zef hi, zeh e1] at hcu
      have hc0 : zmp (.tb (zda sz xs l (atM sz xs t (idx addr ((l + 1 : Nat) : Int))).ppn)) = 1 + zib (zda sz xs l (atM sz xs t (idx addr ((l + 1 : Nat) : Int))).ppn) := rfl
      have hc1 : zmp (.tb A') = 1 + zib A' := rfl
      have hD : dnN sz cd addr zam (l + 1) xs f t = dnN sz cd addr zam l xs f (atM sz xs t (idx addr ((l + 1 : Nat) : Int))).ppn := by
        conv => lhs; unfold dnN
        rw [if_neg c1, (zbz e1).2.2, if_neg (by simp), if_pos (zbz e1).2.1]
      rw [hD]
      have hns : (atM sz xs t (idx addr ((l + 1 : Nat) : Int))).ppn ≠ sh := fun ee => by
        obtain ⟨b1, b2⟩ := h.e.s t _ hi e1 ee
        have : l + 1 = 2 := by omega
        rw [show ((l + 1 : Nat) : Int) = 2 by omega] at b1
        exact hH this b1
      rcases ih xs f _ lv h e4 hsh e5 (by omega) (by omega) (fun hh => by omega) A' hA' with ⟨I1, I2, I3, I4⟩ | ⟨I1, I2⟩
      · have hfp := zbg h l _ e4 e5
        have htn : t ∉ frN sz xs l (atM sz xs t (idx addr ((l + 1 : Nat) : Int))).ppn := fun hh => by have := (hfp t hh).2.1; omega
        have chin : ∀ s, chg sz xs addr l (atM sz xs t (idx addr ((l + 1 : Nat) : Int))).ppn s → s ∈ frN sz xs l (atM sz xs t (idx addr ((l + 1 : Nat) : Int))).ppn := by
          rintro s ⟨m, rfl, k1, k2⟩
          have hj := idx_bd addr ((m + 1 : Nat) : Int)
          simp only [frN, List.mem_cons]
          refine .inr (List.mem_flatMap.2 ⟨(idx addr ((m + 1 : Nat) : Int)).toNat, List.mem_range.2 (by omega), ?_⟩)
          rw [show (((idx addr ((m + 1 : Nat) : Int)).toNat : Nat) : Int) = idx addr ((m + 1 : Nat) : Int) by omega, if_pos (zb2 k1 (by omega))]
          exact k2
        have out : ∀ s j, (0 ≤ j ∧ j < 512) → Al cd cp f s → s ∉ frN sz xs l (atM sz xs t (idx addr ((l + 1 : Nat) : Int))).ppn → atM sz (za1 sz (dnN sz cd addr zam l xs f (atM sz xs t (idx addr ((l + 1 : Nat) : Int))).ppn).1 (dnN sz cd addr zam l xs f (atM sz xs t (idx addr ((l + 1 : Nat) : Int))).ppn).2.2.1 (idx addr zam) q) s j = atM sz xs s j := fun s j hj hs hn =>
          I4 s j hj hs (fun hh => hn (by rw [hh.1]; exact zdq _ _ _ _)) (fun hh => hn (chin s hh))
        generalize za1 sz (dnN sz cd addr zam l xs f (atM sz xs t (idx addr ((l + 1 : Nat) : Int))).ppn).1 (dnN sz cd addr zam l xs f (atM sz xs t (idx addr ((l + 1 : Nat) : Int))).ppn).2.2.1 (idx addr zam) q = zs at *
        refine .inl ⟨I1, ?_, by omega, fun s j hj hs hn hc => out s j hj hs fun hh => hc ⟨l, rfl, e1, hh⟩⟩
        refine ziq h ht hl hi (fun s => s ∈ frN sz xs l (atM sz xs t (idx addr ((l + 1 : Nat) : Int))).ppn) ?_ (fun s j hj hs _ hn => out s j hj hs hn) htn ?_
        · rw [out t _ hi ht htn, zeh e1, I2]
        · intro m em j hj hne hlk g hg hin
          obtain rfl : m = l := by omega
          exact hne (zwc h hl (by omega) hj hi hlk e1 (.inr hns) hg hin)
      · exact .inr ⟨I1, by omega⟩
end
end Go.Proofs.YtomeaibdedaldaaGreatDoor.LnB
