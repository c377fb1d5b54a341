/- Texts of this claim, one behind the other: SpO, LaE, LaF, LaG, RefS, RefSet, RfA, RfB, PteR, VaR, RfC, RfD, RfE, RfG, RfJ, RfK, LaH, VaR3, RlA, RlB, RlC, LaI, LaJ, Open, Laid, LiA, LiB, LiC, LiD. -/
import Derived.Test.YtomeaibdedaldaaGreatDoorV3
import Derived.Test.YtomeaibdedaldaaGreatDoorV2
import Derived.OwnWalk
import Derived.ProofKit
import Derived.Carry
import Derived.ChangeOld
import Derived.ChangeArms
import Derived.WideShapes
import Derived.Test.YtomeaibdedaldaaGreatDoorRows
import Derived.LaidMore
import Derived.Lib.LaidTab
import Derived.SevenTiedAt
import Derived.LaidHandle
import Derived.Deep.SlicePairs
set_option linter.unusedVariables false
set_option linter.unusedSimpArgs false
namespace Go.Proofs.YtomeaibdedaldaaGreatDoor.SpO
open Go.RowKit Bv VaSpec Base MemL RegR Ax MemC PutC MemC3 TzC OkS SpA SpB SpC SpD IterC SpE SpF SpG SpH SpI SpJ SpK SpN
open BitsC PteSpec
set_option maxRecDepth 10000
set_option maxHeartbeats 800000
def kr (m : List (Int × Int)) (sm sa sp pf af ao : Int) (ss : List Sp) (now : Int) (fs : List Fe) : Kr := { cd := 4, cp := 4, ca := 1, cs := 1, sz := 32768, m := m, tn := 1, ts := zsL 1, sm := sm, sa := sa, sp := sp, priv := 0, su := false, mx := false, vic := -1, pb := 4, pm := 4, pf := pf, am := 1, af := af, ao := ao, ss := ss, now := now, sh := 4, fs := fs }
def k0 : Kr := kr [] 0 0 0 14 1 0 [] (-1) []
def kAa : Kr := kr [(3071, 4129)] 0 0 0 12 0 1 [⟨5, 1, true⟩] (-1) []
def kB : Kr := kr [(3071, 4129)] 8 1 5 12 0 1 [⟨5, 1, true⟩] 0 []
theorem n0 : zoc 4 4 1 1 = k0 := by kernel_rfl
theorem i0 : Inv 0 k0 := by rw [← n0]; exact zhn (by decide)
theorem eA : zbh k0 = (kAa, 0, 0) := by
  unfold zbh zbg znq
  rw [zkk]
  kernel_rfl
theorem iA : Inv 1 kAa := by have := zb3 i0; rwa [eA] at this
theorem eB : zpo kAa 0 = (kB, 0) := by kernel_rfl
theorem iB : Inv 1 kB := by have := z3r (id := 0) iA; rwa [eB] at this
def zao (k : Kr) (id a l : Int) : Int × Int × Int :=
  if ¬ (0 ≤ l ∧ l ≤ 2) then (0, 0, 1)
  else if id ≠ -1 ∧ za5 k id = false then (0, 0, 4)
  else if zhw a l = false then (0, 0, 2)
  else if id = -1 then (if idx a 2 = 511 ∧ l ≠ 2 then (k.sh, 1, 0) else (0, 0, 3))
  else if idx a 2 = 511 then (0, 0, 3) else ((zfc k id).root, 2, 0)
theorem zxs (k : Kr) (id a l : Int) (ha : U a) : Ok 50 [.ag k.ce, ii id, iu a, ii l] (.tu [iu (zao k id a l).1, ii (zao k id a l).2.1, ii (zao k id a l).2.2]) := by
  unfold zao
  by_cases c1 : 0 ≤ l ∧ l ≤ 2
  rotate_left
  · rw [if_pos c1]
    have w0 := zjf c1
    by_cases c0 : id = -1
    · refine zah 55 Tryz.func50 rfl rfl rfl rfl ?_ GG.to
      intro W A hG
      repeat (first | (refine zaj rfl ?_; first | refine zak ?_ | refine gdr (zaa rfl rfl rfl (w0) (by kernel_rfl)) ?_) | (refine hK _ ?_; clear hK K) | refine zac rfl ?_ | exact zaf (show zav _ _ _ = some _ by kernel_rfl) | refine zag rfl rfl ?_ | refine zad ?_ | refine zab (fun K hK => ?_))
    · refine zah 55 Tryz.func50 rfl rfl rfl rfl ?_ GG.to
      intro W A hG
      repeat (first | (refine zaj rfl ?_; first | refine zak ?_ | refine gdr (zaa rfl rfl rfl (w0) (by kernel_rfl)) ?_) | (refine hK _ ?_; clear hK K) | refine zac rfl ?_ | exact zaf (show zav _ _ _ = some _ by kernel_rfl) | refine zag rfl rfl ?_ | refine zad ?_ | refine zab (fun K hK => ?_))
  rw [if_neg (by simpa using c1)]
  have w1 := zdy c1
  have hi := zki a 2 ha (by omega) (by omega)
  have hl := zw8 k id
  have hf := zw2 a l ha c1.1 c1.2
  by_cases c0 : id = -1
  · rw [if_neg (by simp [c0])]
    by_cases c2 : zhw a l = false
    · rw [if_pos c2]
      rw [c2] at hf
      refine zah 55 Tryz.func50 rfl rfl rfl rfl ?_ GG.to
      intro W A hG
      repeat (first | (refine zaj rfl ?_; first | refine zak ?_ | refine gdr (zaa rfl rfl rfl (w1) (by kernel_rfl)) ?_ | refine gdr (zaa rfl rfl rfl (hf) (by kernel_rfl)) ?_) | (refine hK _ ?_; clear hK K) | refine zac rfl ?_ | exact zaf (show zav _ _ _ = some _ by kernel_rfl) | refine zag rfl rfl ?_ | refine zae rfl rfl ?_ | refine zad ?_ | refine zab (fun K hK => ?_))
    rw [if_neg c2, if_pos c0]
    rw [show zhw a l = true by simpa using c2] at hf
    by_cases c3 : idx a 2 = 511
    · by_cases c4 : l = 2
      · rw [if_neg (by simp [c4])]
        refine zah 55 Tryz.func50 rfl rfl rfl rfl ?_ GG.to
        intro W A hG
        repeat (first | (refine zaj rfl ?_; first | refine zak ?_ | refine gdr (zaa rfl rfl rfl (w1) (by kernel_rfl)) ?_ | refine gdr (zaa rfl rfl rfl (hf) (by kernel_rfl)) ?_ | refine gdr (zaa rfl rfl rfl (hi) (by kernel_rfl)) ?_) | (refine hK _ ?_; clear hK K) | refine zac rfl ?_ | exact zaf (show zav _ _ _ = some _ by kernel_rfl) | refine zag rfl rfl ?_ | refine zae rfl rfl ?_ | refine zad ?_ | refine zab (fun K hK => ?_))
      · rw [if_pos ⟨c3, c4⟩]
        refine zah 55 Tryz.func50 rfl rfl rfl rfl ?_ GG.to
        intro W A hG
        repeat (first | (refine zaj rfl ?_; first | refine zak ?_ | refine gdr (zaa rfl rfl rfl (w1) (by kernel_rfl)) ?_ | refine gdr (zaa rfl rfl rfl (hf) (by kernel_rfl)) ?_ | refine gdr (zaa rfl rfl rfl (hi) (by kernel_rfl)) ?_) | (refine hK _ ?_; clear hK K) | refine zac rfl ?_ | exact zaf (show zav _ _ _ = some _ by kernel_rfl) | refine zag rfl rfl ?_ | refine zae rfl rfl ?_ | refine zad ?_ | refine zab (fun K hK => ?_))
    · rw [if_neg (by simp [c3])]
      refine zah 55 Tryz.func50 rfl rfl rfl rfl ?_ GG.to
      intro W A hG
      repeat (first | (refine zaj rfl ?_; first | refine zak ?_ | refine gdr (zaa rfl rfl rfl (w1) (by kernel_rfl)) ?_ | refine gdr (zaa rfl rfl rfl (hf) (by kernel_rfl)) ?_ | refine gdr (zaa rfl rfl rfl (hi) (by kernel_rfl)) ?_) | (refine hK _ ?_; clear hK K) | refine zac rfl ?_ | exact zaf (show zav _ _ _ = some _ by kernel_rfl) | refine zag rfl rfl ?_ | refine zae rfl rfl ?_ | refine zad ?_ | refine zab (fun K hK => ?_))
  · by_cases c5 : za5 k id = false
    · rw [if_pos ⟨c0, c5⟩]
      rw [c5] at hl
      refine zah 55 Tryz.func50 rfl rfl rfl rfl ?_ GG.to
      intro W A hG
      repeat (first | (refine zaj rfl ?_; first | refine zak ?_ | refine gdr (zaa rfl rfl rfl (w1) (by kernel_rfl)) ?_ | refine gdr (zaa rfl rfl rfl (hl) (by kernel_rfl)) ?_) | (refine hK _ ?_; clear hK K) | refine zac rfl ?_ | exact zaf (show zav _ _ _ = some _ by kernel_rfl) | refine zag rfl rfl ?_ | refine zae rfl rfl ?_ | refine zad ?_ | refine zab (fun K hK => ?_))
    rw [if_neg (by simp [c5])]
    have c5 : za5 k id = true := by simpa using c5
    rw [c5] at hl
    obtain ⟨y0, y1, y2, y3⟩ := zdd c5
    have hx := zqn y2
    by_cases c2 : zhw a l = false
    · rw [if_pos c2]
      rw [c2] at hf
      refine zah 55 Tryz.func50 rfl rfl rfl rfl ?_ GG.to
      intro W A hG
      repeat (first | (refine zaj rfl ?_; first | refine zak ?_ | refine gdr (zaa rfl rfl rfl (w1) (by kernel_rfl)) ?_ | refine gdr (zaa rfl rfl rfl (hl) (by kernel_rfl)) ?_ | refine gdr (zaa rfl rfl rfl (hf) (by kernel_rfl)) ?_) | (refine hK _ ?_; clear hK K) | refine zac rfl ?_ | exact zaf (show zav _ _ _ = some _ by kernel_rfl) | refine zag rfl rfl ?_ | refine zae rfl rfl ?_ | refine zad ?_ | refine zab (fun K hK => ?_))
    rw [if_neg c2, if_neg c0]
    rw [show zhw a l = true by simpa using c2] at hf
    by_cases c3 : idx a 2 = 511
    · rw [if_pos c3]
      refine zah 55 Tryz.func50 rfl rfl rfl rfl ?_ GG.to
      intro W A hG
      repeat (first | (refine zaj rfl ?_; first | refine zak ?_ | refine gdr (zaa rfl rfl rfl (w1) (by kernel_rfl)) ?_ | refine gdr (zaa rfl rfl rfl (hl) (by kernel_rfl)) ?_ | refine gdr (zaa rfl rfl rfl (hf) (by kernel_rfl)) ?_ | refine gdr (zaa rfl rfl rfl (hi) (by kernel_rfl)) ?_) | (refine hK _ ?_; clear hK K) | refine zac rfl ?_ | exact zaf (show zav _ _ _ = some _ by kernel_rfl) | refine zag rfl rfl ?_ | refine zae rfl rfl ?_ | refine zad ?_ | refine zab (fun K hK => ?_))
    · rw [if_neg c3]
      refine zah 55 Tryz.func50 rfl rfl rfl rfl ?_ GG.to
      intro W A hG
      repeat (first | (refine zaj rfl ?_; first | refine zak ?_ | refine gdr (zaa rfl rfl rfl (w1) (by kernel_rfl)) ?_ | refine gdr (zaa rfl rfl rfl (hl) (by kernel_rfl)) ?_ | refine gdr (zaa rfl rfl rfl (hf) (by kernel_rfl)) ?_ | refine gdr (zaa rfl rfl rfl (hi) (by kernel_rfl)) ?_) | (refine hK _ ?_; clear hK K) | refine zac rfl ?_ | exact zaf (show zav _ _ _ = some _ by kernel_rfl) | refine zae rfl rfl ?_ | refine zad ?_ | refine zai ?_ | refine zab (fun K hK => ?_))
end Go.Proofs.YtomeaibdedaldaaGreatDoor.SpO
namespace Go.Proofs.YtomeaibdedaldaaGreatDoor.LaE
open Go.RowKit Bv VaSpec Base MemL RegR Ax MemC PutC MemC3 TzC OkS SpA SpB SpC SpF SpH SpI SpJ SpN SpO LaA LaB LaC LaD
open BitsC PteSpec
set_option maxRecDepth 10000
set_option maxHeartbeats 1000000
theorem z1j (n : Int) : Ok 126 [iu n] (.m (.ag (lnk n).ce)) := by
  refine zah 5 Tryz.func126 rfl rfl rfl rfl ?_ GG.to
  intro W A hG
  repeat (first | (refine zaj rfl ?_; first | refine zak ?_) | (refine hK _ ?_; clear hK K) | refine zac rfl ?_ | exact zaf (show zav _ _ _ = some _ by kernel_rfl) | refine zab (fun K hK => ?_))
def dnH (sz cd cp top lv addr zam : Int) (xs0 : List (Int × Int)) (f0 : Int) (xs : List (Int × Int)) (f : Int) : St := St.of [(2, .m (iu top)), (3, .m (ii lv)), (4, .m (iu addr)), (5, .m (ii zam)), (6, .m (.c (.p 6 0))), (7, .m (.c (.p 7 0))), (12, .m (.c (.p 12 0))), (13, .m (.c (.p 13 0))), (14, .m (.c (.p 14 0))), (15, .m (ii 0)), (16, .m (.c (.p 16 0))), (17, .m (.c (.p 17 0)))]
  [(6, .live (.box [cu sz, .s xs0.length 2 (fl xs0)])), (7, .live (.box [cu cd, ci cp, cu f0])), (12, .live (.box [cu 0, .v (.slice none 0 0)])), (13, .live (.box [cu 0, ci 0, cu 0])), (14, .live (.box (zgc 0 0 zP))), (16, .live (.box [cu sz, .s xs.length 2 (fl xs)])), (17, .live (.box [cu cd, ci cp, cu f]))]
theorem z1k (cd cp sz top addr zam : Int) (lv : Nat) (xs0 : List (Int × Int)) (f0 : Int) (h : GM cd cp sz xs0 f0) (ht : Al cd cp f0 top) (ha : U addr) (hl : lv ≤ 2) (hw : 0 ≤ zam) (hwl : zam ≤ (lv : Int)) (hn : xs0.length ≤ 100000)
    (D : List (Int × Int) × Int × Int × Int) (hD : D = dnN sz cd addr zam lv xs0 f0 top) :
    Ok 60 [zb2 sz xs0, .ag [cu cd, ci cp, cu f0], iu top, ii lv, iu addr, ii zam]
      (.tu (if D.2.2.2 = 0 then [zb2 sz D.1, .ag [cu cd, ci cp, cu D.2.1], .ag (zxe sz D.1 addr (D.2.2.1, zam)), ii 0] else [zb2 sz xs0, .ag [cu cd, ci cp, cu f0], .ag (zgc 0 0 zP), ii D.2.2.2])) := by
  have hcd := h.bd
  have hcp := h.bp
  obtain ⟨R, hR⟩ : ∃ R, R = (if D.2.2.2 = 0 then [zb2 sz D.1, .ag [cu cd, ci cp, cu D.2.1], .ag (zxe sz D.1 addr (D.2.2.1, zam)), ii 0] else [zb2 sz xs0, .ag [cu cd, ci cp, cu f0], .ag (zgc 0 0 zP), ii D.2.2.2]) := ⟨_, rfl⟩
  rw [← hR]
  have hcl : (zek (.tu R) && [zb2 sz xs0, .ag [cu cd, ci cp, cu f0], iu top, ii lv, iu addr, ii zam].all zcq) = true := by
    rw [hR]; split <;> rfl
  refine zah 67 Tryz.func60 rfl hcl rfl rfl ?_ GG.to
  intro W A hG
  repeat (first | (refine zaj rfl ?_; first | refine zak ?_) | (refine hK _ ?_; clear hK K) | refine zac rfl ?_ | refine zas (by kernel_rfl) (by kernel_rfl) rfl ?_ | refine zad ?_ | refine zab (fun K hK => ?_))
  refine za3 (α := List (Int × Int) × Int × Nat × Int) (fun q => GM cd cp sz q.1 q.2.1 ∧ q.2.2.1 ≤ 2 ∧ zam ≤ (q.2.2.1 : Int) ∧ Al cd cp q.2.1 q.2.2.2 ∧ Al cd cp q.2.1 top ∧ q.1.length + q.2.2.1 ≤ 100002 ∧ dnN sz cd addr zam q.2.2.1 q.1 q.2.1 q.2.2.2 = D ∧ zat sz q.1 addr zam lv top = zat sz q.1 addr zam q.2.2.1 q.2.2.2)
    (fun q => dnH sz cd cp top lv addr zam xs0 f0 q.1 q.2.1) (fun q => q.2.2.1) (xs0, f0, lv, top) ⟨h, hl, hwl, ht, ht, by show xs0.length + lv ≤ _; omega, hD.symm, rfl⟩ (sbq _ _) ?_
  rintro ⟨xs, f, l, t⟩ ⟨x1, x2, x3, x4, x5, x6, x7, x8⟩
  have g1 : GM cd cp sz xs f := x1
  have g2 : l ≤ 2 := x2
  have g3 : zam ≤ (l : Int) := x3
  have g4 : Al cd cp f t := x4
  have g5 : Al cd cp f top := x5
  have g6 : xs.length + l ≤ 100002 := x6
  have g7 : dnN sz cd addr zam l xs f t = D := x7
  have g8 : zat sz xs addr zam lv top = zat sz xs addr zam l t := x8
  show Aw _ _ _ _ (dnH sz cd cp top lv addr zam xs0 f0 xs f)
  unfold dnH
  obtain ⟨l', t', i1, i2, i3, i4, i5, i6, -⟩ := zfv cd cp sz addr zam hw g1 l t g4 g3
  obtain ⟨l0', l1', l2', -, -, -, -, -, l7'⟩ := zfv cd cp sz addr zam hw g1 lv top g5 hwl
  obtain ⟨e1, e2⟩ : t' = l1' ∧ l' = l0' := by
    have := l2'.symm.trans (g8.trans i1)
    simp only [Prod.mk.injEq] at this
    exact ⟨this.1.symm, by omega⟩
  subst e1 e2
  have ub := g1.u
  have hr := zqq sz xs top lv addr zam ⟨by have := g5.1; omega, by have := g5.1; omega⟩ ha (by omega) (by omega) hw g1.s ub
  rw [show za6 sz xs addr zam lv top = (t', (l' : Int)) by unfold za6; rw [Int.toNat_natCast, g8, i1]] at hr
  have hi := idx_bd addr (l' : Int)
  have bt := i4.1
  rw [i6] at g7
  clear i1 i6
  obtain ⟨q, hq⟩ : ∃ q, q = atM sz xs t' (idx addr (l' : Int)) := ⟨_, rfl⟩
  unfold zxe at hr
  rw [show (t', (l' : Int)).1 = t' from rfl, show (t', (l' : Int)).2 = (l' : Int) from rfl, ← hq] at hr
  repeat (first | (refine zaj rfl ?_; first | refine zak ?_ | refine gdr (zaa rfl rfl rfl (hr) (by kernel_rfl)) ?_) | refine zac rfl ?_ | refine zad ?_ | refine zab (fun K hK => ?_))
  first
    | (refine hK _ ?_; clear hK K)
    | (rename_i K1 hK1; refine hK1 _ ?_; clear hK hK1; clear K)
    | (rename_i K1 hK1; refine hK1 _ ?_; clear hK1)
  refine zci (sbq [(2, .m (iu top)), (3, .m (ii lv)), (4, .m (iu addr)), (5, .m (ii zam)), (6, .m (.c (.p 6 0))), (7, .m (.c (.p 7 0))), (12, .m (.c (.p 12 0))), (13, .m (.c (.p 13 0))), (14, .m (.c (.p 14 0))), (15, .m (ii 0)), (16, .m (.c (.p 16 0))), (17, .m (.c (.p 17 0))), (18, .m (.c (.p 18 0)))] [(6, .live (.box [cu sz, .s xs0.length 2 (fl xs0)])), (7, .live (.box [cu cd, ci cp, cu f0])), (12, .live (.box [cu 0, .v (.slice none 0 0)])), (13, .live (.box [cu 0, ci 0, cu 0])), (14, .live (.box (zgc 0 0 zP))), (16, .live (.box [cu sz, .s xs.length 2 (fl xs)])), (17, .live (.box [cu cd, ci cp, cu f])), (18, .live (.box (zgc t' ((l' : Nat) : Int) q)))]) ?_
  by_cases c1 : (l' : Int) = zam
  · have e : D = (xs, f, t', 0) := by
      rw [← g7]
      cases l' with
      | zero => rfl
      | succ m => unfold dnN; rw [if_pos (by omega)]
    subst e
    have hR : R = [zb2 sz xs, .ag [cu cd, ci cp, cu f], .ag (zgc t' zam (atM sz xs t' (idx addr zam))), ii 0] := hR
    rw [← c1, ← hq] at hR
    subst hR
    repeat (first | (refine zaj rfl ?_; first | refine zak ?_) | (refine hK _ ?_; clear hK K) | refine zac rfl ?_ | refine zas (by kernel_rfl) (by kernel_rfl) rfl ?_ | exact zaf (show zav _ _ _ = some _ by kernel_rfl) | refine zag rfl rfl ?_ | refine zad ?_ | refine zab (fun K hK => ?_))
  · obtain ⟨m, rfl⟩ : ∃ m : Nat, l' = m + 1 := ⟨l' - 1, by omega⟩
    have hlk := i5 (by omega)
    rw [← hq] at hlk
    have hk := EOk.kinds (g1.at t' (idx addr ((m + 1 : Nat) : Int))) (l := ((m + 1 : Nat) : Int)) (by omega)
    rw [← hq, hlk] at hk
    unfold dnN at g7
    rw [if_neg (by omega), ← hq] at g7
    cases hv : q.v with
    | true =>
      have hlf : zaz q = true := by
        rcases hk with ⟨k1, _⟩ | ⟨_, k2, _⟩ | ⟨_, _, k3, _⟩
        · rw [k1] at hv; cases hv
        · exact k2
        · cases k3
      rw [if_pos hlf] at g7
      subst g7
      have hR : R = [zb2 sz xs0, .ag [cu cd, ci cp, cu f0], .ag (zgc 0 0 zP), ii 6] := hR
      subst hR
      obtain ⟨q0, q1, q2, q3, q4, q5, q6, q7, q8, q9, q10⟩ := q
      have hv : q0 = true := hv
      subst hv
      repeat (first | (refine zaj rfl ?_; first | refine zak ?_) | (refine hK _ ?_; clear hK K) | refine zac rfl ?_ | refine zas (by kernel_rfl) (by kernel_rfl) rfl ?_ | exact zaf (show zav _ _ _ = some _ by kernel_rfl) | refine zag rfl rfl ?_ | refine zae rfl rfl ?_ | refine zad ?_ | refine zab (fun K hK => ?_))
    | false =>
      have hlf : zaz q = false := by unfold zaz; rw [hv]; rfl
      rw [hlf, hv, if_neg (by simp), if_neg (by simp)] at g7
      obtain ⟨q0, q1, q2, q3, q4, q5, q6, q7, q8, q9, q10⟩ := q
      have hv' : q0 = false := hv
      subst hv'
      by_cases c4 : f = 0
      · rw [if_pos c4] at g7
        subst g7
        have hR : R = [zb2 sz xs0, .ag [cu cd, ci cp, cu f0], .ag (zgc 0 0 zP), ii 8] := hR
        subst hR
        subst c4
        have hf := zkj sz xs cd cp (by omega) (by omega)
        repeat (first | (refine zaj rfl ?_; first | refine zak ?_ | refine gdr (zaa rfl rfl rfl (hf) (by kernel_rfl)) ?_) | (refine hK _ ?_; clear hK K) | refine zac rfl ?_ | refine zas (by kernel_rfl) (by kernel_rfl) rfl ?_ | exact zaf (show zav _ _ _ = some _ by kernel_rfl) | refine zag rfl rfl ?_ | refine zae rfl rfl ?_ | refine zad ?_ | refine zai ?_ | refine zab (fun K hK => ?_))
      · rw [if_neg c4] at g7
        have hf := zia sz xs cd cp f (by omega) (by omega) g1.uf c4 g1.s (by omega)
        rw [g1.wipe c4] at hf
        obtain ⟨a1, a2⟩ := g1.al c4
        have hfr : 0 ≤ cd + tzI f ∧ cd + tzI f < 17592186044416 := by omega
        have hln := z1j (cd + tzI f)
        have hwt := zja sz xs t' ((m + 1 : Nat) : Int) ⟨false, q1, q2, q3, q4, q5, q6, q7, q8, q9, q10⟩ addr (lnk (cd + tzI f)) ha (zhp hfr) (by omega) (by omega) (by omega) g1.s ub (by omega)
        have hgm := g1.hang c4 i4 hi
        have hln2 := zgt sz xs t' (idx addr ((m + 1 : Nat) : Int)) (lnk (cd + tzI f))
        have hre : zat sz (za7 sz xs t' (idx addr ((m + 1 : Nat) : Int)) (lnk (cd + tzI f))) addr zam lv top = zat sz (za7 sz xs t' (idx addr ((m + 1 : Nat) : Int)) (lnk (cd + tzI f))) addr zam m (cd + tzI f) := by
          rw [l7' _ (zsl g1 c4 i4 hi (by rw [← hq]))]
          exact zsm hw g1 c4 i4 (by omega)
        revert hf hln hwt hgm hln2 hre g7
        generalize za7 sz xs t' (idx addr ((m + 1 : Nat) : Int)) (lnk (cd + tzI f)) = xs2
        intro g7 hf hln hwt hgm hln2 hre
        repeat (first | (refine zaj rfl ?_; first | refine zak ?_ | refine gdr (zaa rfl rfl rfl (hf) (by kernel_rfl)) ?_ | refine gdr (zaa rfl rfl rfl (hln) (by kernel_rfl)) ?_ | refine gdr (zaa rfl rfl rfl (hwt) (by kernel_rfl)) ?_) | (refine hK _ ?_; clear hK K) | refine zac rfl ?_ | refine zas (by kernel_rfl) (by kernel_rfl) rfl ?_ | refine zae rfl rfl ?_ | refine zad ?_ | refine zai ?_ | refine zab (fun K hK => ?_))
        exact ⟨(xs2, zbw f (tzI f) 1 0, m, cd + tzI f), ⟨hgm, by show m ≤ 2; omega, by show zam ≤ (m : Int); omega, a1, (g1.take c4 g5).2, by show xs2.length + m ≤ 100002; omega, g7, hre⟩, by show m < l; omega, sbq _ _⟩
end Go.Proofs.YtomeaibdedaldaaGreatDoor.LaE
namespace Go.Proofs.YtomeaibdedaldaaGreatDoor.LaF
open Go.RowKit Bv VaSpec Base MemL RegR Ax MemC PutC MemC3 TzC OkS SpA SpB SpC SpD SpF SpH SpI SpJ SpN SpO LaA LaB LaC LaD LaE
open BitsC PteSpec
set_option maxRecDepth 10000
set_option maxHeartbeats 1000000
structure InvL (n : Nat) (k : Kr) : Prop where
  g : GM k.cd k.cp k.sz k.m k.pf
  cs : k.cs = k.tn ∧ k.tn ≤ 16
  pb : k.pb = k.cd
  pm : k.pm = k.cp
  sh : Al k.cd k.cp k.pf k.sh
  ts : k.ts = zsL k.tn
  ml : k.m.length ≤ n
  fl : k.fs.length ≤ n
  sl : k.ss.length ≤ 32
  ss : ∀ s ∈ k.ss, s.live = true → Al k.cd k.cp k.pf s.root
theorem z3u {n : Nat} {k : Kr} {s : Int} (h : InvL n k) (ha : Al k.cd k.cp k.pf s) : 0 ≤ s ∧ s < 1099511627776 := by
  have := h.g.bd; have := h.g.bp; have := ha.1; omega
theorem InvL.root {n : Nat} {k : Kr} (h : InvL n k) {id : Int} (hl : za5 k id = true) : Al k.cd k.cp k.pf (zfc k id).root := by
  obtain ⟨h0, h1, h2, h3⟩ := zdd hl
  exact h.ss _ (List.mem_of_getElem? h2) h3
def zxt (k : Kr) (id : Int) : List (Int × Int) := zbq k.m ((zfc k id).root * 512 + 511) 0
noncomputable def zcf (k : Kr) (id : Int) : List Pg := if id = -1 then zbf k.sz k.m 1 k.sh kA else if za5 k id = false then [] else zbf k.sz (zxt k id) 2 (zfc k id).root 0
theorem z3v {n : Nat} {k : Kr} (h : InvL n k) (id : Int) : Srt (zxt k id) ∧ Uw (zxt k id) := by
  refine ⟨zdr _ _ _ h.g.s, fun c hc => ?_⟩
  rcases zcn _ _ _ _ hc with hc | ⟨_, hv⟩
  · exact h.g.u c hc
  · exact absurd rfl hv
theorem z1l (k : Nat) : AV.lt (.m (.c (.v (.slice none 0 0)))) (.m (.c (.s 0 k []))) := fun E v h => ltC.nil k E v h
theorem zfx {n : Nat} {k : Kr} (h : InvL n k) (hn : n ≤ 100000) (id : Int) : Ok 14 [.ag k.ce, ii id] (.m (.c (.s (zcf k id).length 8 (flP (zcf k id))))) := by
  have hml := h.ml
  have hof : Ok 47 [iu 133955584] (.m (iu kA)) := by rw [zsg]; exact z0d _ ⟨by omega, by omega⟩
  unfold zcf
  by_cases c0 : id = -1
  · rw [if_pos c0]
    have f := z3u h h.sh
    have hp := zu7 k.sz k.m h.g.s h.g.u k.sh kA ⟨by omega, by omega⟩ z4v
    subst c0
    refine zah 53 Tryz.func14 rfl rfl rfl rfl ?_ GG.to
    intro W A hG
    repeat (first | (refine zaj rfl ?_; first | refine zak ?_ | refine gdr (zaa rfl rfl rfl (hof) (by kernel_rfl)) ?_ | refine gdr (zaa rfl rfl rfl (hp) (by kernel_rfl)) ?_) | (refine hK _ ?_; clear hK K) | refine zac rfl ?_ | exact zaf (show zav _ _ _ = some _ by kernel_rfl) | refine zag rfl rfl ?_ | refine zad ?_ | refine zab (fun K hK => ?_))
  · rw [if_neg c0]
    by_cases c1 : za5 k id = false
    · rw [if_pos c1]
      refine zgu (r := .m (.c (.v (.slice none 0 0)))) ?_ rfl (z1l 8)
      by_cases c2 : id < 0
      · refine zah 53 Tryz.func14 rfl rfl rfl rfl ?_ GG.to
        intro W A hG
        repeat (first | (refine zaj rfl ?_; first | refine zak ?_ | refine gdr (zaa rfl rfl rfl (hof) (by kernel_rfl)) ?_) | (refine hK _ ?_; clear hK K) | refine zac rfl ?_ | exact zaf (show zav _ _ _ = some _ by kernel_rfl) | refine zag rfl rfl ?_ | refine zae rfl rfl ?_ | refine zad ?_ | refine zab (fun K hK => ?_))
      by_cases c3 : id < k.ss.length
      · obtain ⟨s, hs⟩ : ∃ s, k.ss[id.toNat]? = some s := ⟨_, List.getElem?_eq_getElem (by omega)⟩
        have hx := zqn hs
        have hlv : s.live = false := by
          have : za5 k id = s.live := by simp [za5, show 0 ≤ id by omega, hs]
          rw [← this]; exact c1
        rw [hlv] at hx
        refine zah 53 Tryz.func14 rfl rfl rfl rfl ?_ GG.to
        intro W A hG
        repeat (first | (refine zaj rfl ?_; first | refine zak ?_ | refine gdr (zaa rfl rfl rfl (hof) (by kernel_rfl)) ?_) | (refine hK _ ?_; clear hK K) | refine zac rfl ?_ | exact zaf (show zav _ _ _ = some _ by kernel_rfl) | refine zag rfl rfl ?_ | refine zae rfl rfl ?_ | refine zad ?_ | refine zab (fun K hK => ?_))
      · refine zah 53 Tryz.func14 rfl rfl rfl rfl ?_ GG.to
        intro W A hG
        repeat (first | (refine zaj rfl ?_; first | refine zak ?_ | refine gdr (zaa rfl rfl rfl (hof) (by kernel_rfl)) ?_) | (refine hK _ ?_; clear hK K) | refine zac rfl ?_ | exact zaf (show zav _ _ _ = some _ by kernel_rfl) | refine zag rfl rfl ?_ | refine zae rfl rfl ?_ | refine zad ?_ | refine zab (fun K hK => ?_))
    · rw [if_neg c1]
      have c1 : za5 k id = true := by simpa using c1
      obtain ⟨y0, y1, y2, y3⟩ := zdd c1
      have hx := zqn y2
      rw [y3] at hx
      have hrt := h.root c1
      have f := z3u h hrt
      have hw0 := zja k.sz k.m (zfc k id).root 2 ⟨false, false, false, false, false, false, false, false, 0, 0, 0⟩ kA zP z4v z2o (by omega) (by omega) f h.g.s h.g.u (by omega)
      rw [zkk, h.g.with hrt (by omega) z2o, znt] at hw0
      have ho := z3v h id
      have hp := z1h k.sz (zxt k id) ho.1 ho.2 (zfc k id).root 0 ⟨by omega, by omega⟩ ⟨by omega, by omega⟩
      have hw : Ok 49 [zb2 k.sz k.m, .ag (zgc (zfc k id).root 2 ⟨false, false, false, false, false, false, false, false, 0, 0, 0⟩), iu kA, .ag zP.ce] (.m (zb2 k.sz (zxt k id))) := hw0
      clear hw0
      revert hw hp hx
      generalize zxt k id = om
      generalize zfc k id = sp
      intro hx hp hw
      refine zah 53 Tryz.func14 rfl rfl rfl rfl ?_ GG.to
      intro W A hG
      repeat (first | (refine zaj rfl ?_; first | refine zak ?_ | refine gdr (zaa rfl rfl rfl (hof) (by kernel_rfl)) ?_ | refine gdr (zaa rfl rfl rfl (hw) (by kernel_rfl)) ?_ | refine gdr (zaa rfl rfl rfl (hp) (by kernel_rfl)) ?_) | (refine hK _ ?_; clear hK K) | refine zac rfl ?_ | exact zaf (show zav _ _ _ = some _ by kernel_rfl) | refine zae rfl rfl ?_ | refine zad ?_ | refine zai ?_ | refine zab (fun K hK => ?_))
end Go.Proofs.YtomeaibdedaldaaGreatDoor.LaF
namespace Go.Proofs.YtomeaibdedaldaaGreatDoor.LaG
open Go.RowKit Bv VaSpec Base MemL RegR Ax MemC PutC MemC3 TzC OkS SpA SpB SpC SpD SpE SpF SpH SpI SpJ SpN SpO LaA LaB LaC LaD LaE LaF
open BitsC PteSpec
set_option maxRecDepth 10000
set_option maxHeartbeats 1000000
theorem zbt {n : Nat} {k : Kr} {id a l : Int} (h : InvL n k) (he : (zao k id a l).2.2 = 0) : (0 ≤ l ∧ l ≤ 2) ∧ Al k.cd k.cp k.pf (zao k id a l).1 ∧ l ≤ (zao k id a l).2.1 ∧ (1 ≤ (zao k id a l).2.1 ∧ (zao k id a l).2.1 ≤ 2) := by
  unfold zao at he ⊢
  by_cases c1 : 0 ≤ l ∧ l ≤ 2
  rotate_left
  · rw [if_pos c1] at he; cases he
  rw [if_neg (by simpa using c1)] at he ⊢
  by_cases c2 : id ≠ -1 ∧ za5 k id = false
  · rw [if_pos c2] at he; cases he
  rw [if_neg c2] at he ⊢
  by_cases c3 : zhw a l = false
  · rw [if_pos c3] at he; cases he
  rw [if_neg c3] at he ⊢
  by_cases c4 : id = -1
  · rw [if_pos c4] at he ⊢
    by_cases c5 : idx a 2 = 511 ∧ l ≠ 2
    · rw [if_pos c5]
      exact ⟨c1, h.sh, by show l ≤ 1; omega, by show (1 : Int) ≤ 1; omega, by show (1 : Int) ≤ 2; omega⟩
    · rw [if_neg c5] at he; cases he
  · rw [if_neg c4] at he ⊢
    by_cases c5 : idx a 2 = 511
    · rw [if_pos c5] at he; cases he
    · rw [if_neg c5]
      have c6 : za5 k id = true := by
        cases e : za5 k id with
        | true => rfl
        | false => exact absurd ⟨c4, e⟩ c2
      exact ⟨c1, h.root c6, by show l ≤ 2; omega, by show (1 : Int) ≤ 2; omega, by show (2 : Int) ≤ 2; omega⟩
def lk0 (pa l : Int) : Int := if zem pa (VaSpec.sz l) then 0 else 2
def lk1 (k : Kr) (pa l : Int) : Int := if inD pa (k.cd * 4096) (VaSpec.sz l) then 0 else 3
def lk2 (p : Pm) : Int := if zhk p then 0 else 5
def lk3 (k : Kr) (top lv a l : Int) : Int := if !(atM k.sz k.m (za6 k.sz k.m a l lv top).1 (idx a (za6 k.sz k.m a l lv top).2)).v then 0 else 6
def zko (k : Kr) (top lv a l : Int) : List (Int × Int) × Int × Int × Int := dnN k.sz k.cd a l lv.toNat k.m k.pf top
def z2p (k : Kr) (D : List (Int × Int) × Int × Int × Int) (a pa l : Int) (p : Pm) (g : Bool) : Kr := { k with m := za7 k.sz D.1 D.2.2.1 (idx a l) (mkP (pa / 4096) p g), pf := D.2.1 }
def zb6 (k : Kr) (id a pa l : Int) (p : Pm) : Kr × Int :=
  if (zao k id a l).2.2 ≠ 0 then (k, (zao k id a l).2.2)
  else if lk0 pa l ≠ 0 then (k, lk0 pa l)
  else if lk1 k pa l ≠ 0 then (k, lk1 k pa l)
  else if lk2 p ≠ 0 then (k, lk2 p)
  else if lk3 k (zao k id a l).1 (zao k id a l).2.1 a l ≠ 0 then (k, lk3 k (zao k id a l).1 (zao k id a l).2.1 a l)
  else if (zko k (zao k id a l).1 (zao k id a l).2.1 a l).2.2.2 ≠ 0 then (k, (zko k (zao k id a l).1 (zao k id a l).2.1 a l).2.2.2)
  else (z2p k (zko k (zao k id a l).1 (zao k id a l).2.1 a l) a pa l p (decide (id = -1)), 0)
theorem zhq {p : Pm} (h : lk2 p = 0) : zhk p = true := by
  unfold lk2 at h
  split at h
  · assumption
  · cases h
theorem zji {k : Kr} {pa l : Int} (h : U pa) (hd : k.cd ≤ 524288) (hq : lk1 k pa l = 0) : 0 ≤ pa / 4096 ∧ pa / 4096 < 17592186044416 := by
  obtain ⟨h0, h1⟩ := h
  unfold lk1 inD at hq
  split at hq
  · rename_i h2
    simp only [Bool.and_eq_true, decide_eq_true_eq] at h2
    omega
  · cases hq
theorem zpr {n : Nat} {k : Kr} {id a pa l : Int} {p : Pm} (h : InvL n k) (hp : U pa) : InvL (n + 3) (zb6 k id a pa l p).1 := by
  have hm : InvL (n + 3) k := { h with ml := by have := h.ml; omega, fl := by have := h.fl; omega }
  unfold zb6
  split
  · exact hm
  · rename_i c0
    split
    · exact hm
    · split
      · exact hm
      · split
        · exact hm
        · rename_i c3
          split
          · exact hm
          · split
            · exact hm
            · rename_i c5
              obtain ⟨w1, w2, w3, w4⟩ := zbt (id := id) (a := a) (l := l) h (by omega)
              generalize zao k id a l = w at *
              have he : (zko k w.1 w.2.1 a l).2.2.2 = 0 := by omega
              obtain ⟨d1, d2, d3, d4⟩ := zlz k.cd k.cp k.sz a l w1.1 w.2.1.toNat k.m k.pf w.1 h.g w2 he
              have hb := zfw (n := pa / 4096) (p := p) (g := decide (id = -1)) (zji (k := k) (l := l) hp (by have := h.g.bd; omega) (by omega)) (zhq (by omega))
              have hw := d1.with (i := idx a l) d2 (idx_bd a l) hb.2.1
              have hle := zgt k.sz (zko k w.1 w.2.1 a l).1 (zko k w.1 w.2.1 a l).2.2.1 (idx a l) (mkP (pa / 4096) p (decide (id = -1)))
              have hml := h.ml
              refine { g := ?_, cs := h.cs, pb := h.pb, pm := h.pm, sh := d4 _ h.sh, ts := h.ts, ml := ?_, fl := by have := h.fl; show k.fs.length ≤ n + 3; omega, sl := h.sl, ss := fun s hs hl => d4 _ (h.ss s hs hl) }
              · show GM k.cd k.cp k.sz (za7 k.sz (dnN k.sz k.cd a l w.2.1.toNat k.m k.pf w.1).1 (dnN k.sz k.cd a l w.2.1.toNat k.m k.pf w.1).2.2.1 (idx a l) (mkP (pa / 4096) p (decide (id = -1)))) (dnN k.sz k.cd a l w.2.1.toNat k.m k.pf w.1).2.1
                rw [hw]
                exact d1.put d2 (idx_bd a l) (zf4 _ hb.2.1) fun _ => by rw [hb.1]; exact .inl hb.2.2
              · show (za7 k.sz (zko k w.1 w.2.1 a l).1 (zko k w.1 w.2.1 a l).2.2.1 (idx a l) (mkP (pa / 4096) p (decide (id = -1)))).length ≤ n + 3
                have d3' : (zko k w.1 w.2.1 a l).1.length ≤ k.m.length + w.2.1.toNat := d3
                omega
def z5k (k : Kr) (id a pa l : Int) (p : Pm) (top lv z : Int) (i : Nat) : St := St.of [(1, .m (ii id)), (6, .m (.c (.p 6 0))), (8, .m (.c (.p 8 0))), (9, .m (.c (.p 9 0))), (10, .m (.c (.p 10 0))), (11, .m (.c (.p 11 0))), (12, .m (.c (.p 12 0))), (13, .m (ii 0)), (14, .m (.c (.p 14 0))), (15, .m (.c (.p 15 0))), (16, .m (ii 0)), (55, .m (.c (.bs 55 0 4))), (56, .m (ii 4)), (57, .m (ii i))]
  [(6, .live (.box k.ce)), (8, .live (.box [cu a])), (9, .live (.box [cu pa])), (10, .live (.box [ci l])), (11, .live (.box p.ce)), (12, .live (.box zK)), (14, .live (.box [cu top])), (15, .live (.box [ci lv])), (17, .live (.box [cu (k.cd * 4096)])), (18, .live (.box [cu z])), (55, .live (.box [.cl 55 [9, 18], .cl 57 [9, 17, 18], .cl 58 [11], .cl 52 [6, 14, 15, 8, 10]]))]
def nm1 (i : Nat) : Nat := if i = 2000 then 6 else if i = 2001 then 14 else if i = 2002 then 15 else if i = 2003 then 8 else 10
def nm2 (i : Nat) : Nat := if i = 2000 then 9 else 18
def nm3 (i : Nat) : Nat := if i = 2000 then 9 else if i = 2001 then 17 else 18
def nm4 (i : Nat) : Nat := 11
theorem zgf {n : Nat} {k : Kr} (h : InvL n k) (hn : n ≤ 90000) (id a pa l : Int) (p : Pm) (ha : U a) (hp : U pa) : Ok 15 [.ag k.ce, ii id, iu a, iu pa, ii l, .ag p.ce] (.tu [.ag (zb6 k id a pa l p).1.ce, ii (zb6 k id a pa l p).2]) := by
  have hw := zxs k id a l ha
  obtain ⟨R, hR⟩ : ∃ R, R = zb6 k id a pa l p := ⟨_, rfl⟩
  rw [← hR]
  unfold zb6 at hR
  by_cases c0 : (zao k id a l).2.2 ≠ 0
  · rw [if_pos c0] at hR
    generalize zao k id a l = w at *
    subst hR
    refine zah 101 Tryz.func15 rfl rfl rfl rfl ?_ GG.to
    intro W A hG
    repeat (first | (refine zaj rfl ?_; first | refine zak ?_ | refine gdr (zaa rfl rfl rfl (hw) (by kernel_rfl)) ?_) | (refine hK _ ?_; clear hK K) | refine zac rfl ?_ | exact zaf (show zav _ _ _ = some _ by kernel_rfl) | refine zag rfl rfl ?_ | refine zab (fun K hK => ?_))
  rw [if_neg c0] at hR
  obtain ⟨w1, w2, w3, w4⟩ := zbt (id := id) (a := a) (l := l) h (by omega)
  have c0 : (zao k id a l).2.2 = 0 := by omega
  rw [c0] at hw
  generalize (zao k id a l).1 = top at *
  generalize (zao k id a l).2.1 = lv at *
  have b1 := h.g.bd
  have b2 := h.g.bp
  have hz := zln l w1.1 w1.2
  have hzb := zy0 l w1.1 w1.2
  have ft : 0 ≤ top ∧ top < 17592186044416 := by have := w2.1; omega
  have hml := h.ml
  have m2 := z0w pa (VaSpec.sz l) hp ⟨by omega, by omega⟩
  have m3 := z0x pa (k.cd * 4096) (VaSpec.sz l) hp ⟨by omega, by omega⟩ ⟨by omega, by omega⟩
  have m4 := z0y p
  have m1 := z0z k top lv a l ⟨h.g.s, h.g.u⟩ ft ha (by omega) (by omega) w1.1
  obtain ⟨lw, rfl⟩ := Int.eq_ofNat_of_zero_le (show 0 ≤ lv by omega)
  have hd := z1k k.cd k.cp k.sz top a l lw k.m k.pf h.g w2 ha (by omega) w1.1 w3 (by omega) _ rfl
  have hdg := zlz k.cd k.cp k.sz a l w1.1 lw k.m k.pf top h.g w2
  have hpb := h.pb
  have hpm := h.pm
  have h2 : zdx Tryz.prog GG 55 [spB 2000 [cu pa], spB 2001 [cu (VaSpec.sz l)]] [.c (.p 2000 0), .c (.p 2001 0)] (.m (ii (lk0 pa l))) := m2
  have h3 : zdx Tryz.prog GG 57 [spB 2000 [cu pa], spB 2001 [cu (k.cd * 4096)], spB 2002 [cu (VaSpec.sz l)]] [.c (.p 2000 0), .c (.p 2001 0), .c (.p 2002 0)] (.m (ii (lk1 k pa l))) := m3
  have h4 : zdx Tryz.prog GG 58 [spB 2000 p.ce] [.c (.p 2000 0)] (.m (ii (lk2 p))) := m4
  have h1 : zdx Tryz.prog GG 52 [spB 2000 k.ce, spB 2001 [cu top], spB 2002 [ci (lw : Int)], spB 2003 [cu a], spB 2004 [ci l]] [.c (.p 2000 0), .c (.p 2001 0), .c (.p 2002 0), .c (.p 2003 0), .c (.p 2004 0)] (.m (ii (lk3 k top lw a l))) := m1
  clear m1 m2 m3 m4
  have hmk := zfw (n := pa / 4096) (p := p) (g := decide (id = -1))
  have hpn := zji (k := k) (pa := pa) (l := l) hp (by omega)
  have hpk := zhq (p := p)
  generalize lk0 pa l = q0 at *
  generalize lk1 k pa l = q1 at *
  generalize lk2 p = q2 at *
  generalize lk3 k top lw a l = q3 at *
  generalize VaSpec.sz l = z at *
  have hsz : k.sz = (k.cd + k.cp) * 4096 := h.g.bz
  unfold zko at hR
  rw [Int.toNat_natCast] at hR
  generalize dnN k.sz k.cd a l lw k.m k.pf top = D at *
  refine zah 101 Tryz.func15 rfl rfl rfl rfl ?_ GG.to
  intro W A hG
  repeat (first | (refine zaj rfl ?_; first | refine zak ?_ | refine gdr (zaa rfl rfl rfl (hw) (by kernel_rfl)) ?_ | refine gdr (zaa rfl rfl rfl (hz) (by kernel_rfl)) ?_) | (refine hK _ ?_; clear hK K) | refine zac rfl ?_ | refine zas (by kernel_rfl) (by kernel_rfl) rfl ?_ | refine zae rfl rfl ?_ | refine zad ?_ | refine zai ?_ | refine zab (fun K hK => ?_))
  refine za3 (α := Nat) (fun i => i ≤ 4 ∧ (0 < i → q0 = 0) ∧ (1 < i → q1 = 0) ∧ (2 < i → q2 = 0) ∧ (3 < i → q3 = 0)) (fun i => z5k k id a pa l p top lw z i) (fun i => 4 - i) 0 ⟨by omega, by omega, by omega, by omega, by omega⟩ (sbq _ _) ?_
  rintro i ⟨x0, x1, x2, x3, x4⟩
  show Aw _ _ _ _ (z5k k id a pa l p top lw z i)
  unfold z5k
  have hi : i = 0 ∨ i = 1 ∨ i = 2 ∨ i = 3 ∨ i = 4 := by omega
  rcases hi with rfl | rfl | rfl | rfl | rfl
  · by_cases e : q0 = 0
    · skip
      repeat (first | (refine zaj rfl ?_; first | refine zak ?_ | refine gdr (zbx nm2 h2 rfl rfl rfl (by kernel_rfl) rfl rfl ⟨rfl, rfl, trivial⟩ (by kernel_rfl)) ?_) | (refine hK _ ?_; clear hK K) | refine zac rfl ?_ | refine zag rfl rfl ?_ | refine zae rfl rfl ?_ | refine zad ?_ | refine zai ?_ | refine zab (fun K hK => ?_))
      exact ⟨1, ⟨by omega, by omega, by omega, by omega, by omega⟩, by omega, sbq _ _⟩
    · rw [if_pos e] at hR
      subst hR
      repeat (first | (refine zaj rfl ?_; first | refine zak ?_ | refine gdr (zbx nm2 h2 rfl rfl rfl (by kernel_rfl) rfl rfl ⟨rfl, rfl, trivial⟩ (by kernel_rfl)) ?_) | (refine hK _ ?_; clear hK K) | refine zac rfl ?_ | exact zaf (show zav _ _ _ = some _ by kernel_rfl) | refine zag rfl rfl ?_ | refine zad ?_ | refine zai ?_ | refine zab (fun K hK => ?_))
  · by_cases e : q1 = 0
    · skip
      repeat (first | (refine zaj rfl ?_; first | refine zak ?_ | refine gdr (zbx nm3 h3 rfl rfl rfl (by kernel_rfl) rfl rfl ⟨rfl, rfl, rfl, trivial⟩ (by kernel_rfl)) ?_) | (refine hK _ ?_; clear hK K) | refine zac rfl ?_ | refine zag rfl rfl ?_ | refine zae rfl rfl ?_ | refine zad ?_ | refine zai ?_ | refine zab (fun K hK => ?_))
      exact ⟨2, ⟨by omega, by omega, by omega, by omega, by omega⟩, by omega, sbq _ _⟩
    · rw [if_neg (show ¬ q0 ≠ 0 by omega)] at hR; rw [if_pos e] at hR
      subst hR
      repeat (first | (refine zaj rfl ?_; first | refine zak ?_ | refine gdr (zbx nm3 h3 rfl rfl rfl (by kernel_rfl) rfl rfl ⟨rfl, rfl, rfl, trivial⟩ (by kernel_rfl)) ?_) | (refine hK _ ?_; clear hK K) | refine zac rfl ?_ | exact zaf (show zav _ _ _ = some _ by kernel_rfl) | refine zag rfl rfl ?_ | refine zad ?_ | refine zai ?_ | refine zab (fun K hK => ?_))
  · by_cases e : q2 = 0
    · skip
      repeat (first | (refine zaj rfl ?_; first | refine zak ?_ | refine gdr (zbx nm4 h4 rfl rfl rfl (by kernel_rfl) rfl rfl ⟨rfl, trivial⟩ (by kernel_rfl)) ?_) | (refine hK _ ?_; clear hK K) | refine zac rfl ?_ | refine zag rfl rfl ?_ | refine zae rfl rfl ?_ | refine zad ?_ | refine zai ?_ | refine zab (fun K hK => ?_))
      exact ⟨3, ⟨by omega, by omega, by omega, by omega, by omega⟩, by omega, sbq _ _⟩
    · rw [if_neg (show ¬ q0 ≠ 0 by omega)] at hR; rw [if_neg (show ¬ q1 ≠ 0 by omega)] at hR; rw [if_pos e] at hR
      subst hR
      repeat (first | (refine zaj rfl ?_; first | refine zak ?_ | refine gdr (zbx nm4 h4 rfl rfl rfl (by kernel_rfl) rfl rfl ⟨rfl, trivial⟩ (by kernel_rfl)) ?_) | (refine hK _ ?_; clear hK K) | refine zac rfl ?_ | exact zaf (show zav _ _ _ = some _ by kernel_rfl) | refine zag rfl rfl ?_ | refine zad ?_ | refine zai ?_ | refine zab (fun K hK => ?_))
  · by_cases e : q3 = 0
    · skip
      repeat (first | (refine zaj rfl ?_; first | refine zak ?_ | refine gdr (zbx nm1 h1 rfl rfl rfl (by kernel_rfl) rfl rfl ⟨rfl, rfl, rfl, rfl, rfl, trivial⟩ (by kernel_rfl)) ?_) | (refine hK _ ?_; clear hK K) | refine zac rfl ?_ | refine zag rfl rfl ?_ | refine zae rfl rfl ?_ | refine zad ?_ | refine zai ?_ | refine zab (fun K hK => ?_))
      exact ⟨4, ⟨by omega, by omega, by omega, by omega, by omega⟩, by omega, sbq _ _⟩
    · rw [if_neg (show ¬ q0 ≠ 0 by omega)] at hR; rw [if_neg (show ¬ q1 ≠ 0 by omega)] at hR; rw [if_neg (show ¬ q2 ≠ 0 by omega)] at hR; rw [if_pos e] at hR
      subst hR
      repeat (first | (refine zaj rfl ?_; first | refine zak ?_ | refine gdr (zbx nm1 h1 rfl rfl rfl (by kernel_rfl) rfl rfl ⟨rfl, rfl, rfl, rfl, rfl, trivial⟩ (by kernel_rfl)) ?_) | (refine hK _ ?_; clear hK K) | refine zac rfl ?_ | exact zaf (show zav _ _ _ = some _ by kernel_rfl) | refine zag rfl rfl ?_ | refine zad ?_ | refine zai ?_ | refine zab (fun K hK => ?_))
  · have y0 := x1 (by omega)
    have y1 := x2 (by omega)
    have y2 := x3 (by omega)
    have y3 := x4 (by omega)
    rw [if_neg (by omega), if_neg (by omega), if_neg (by omega), if_neg (by omega)] at hR
    rw [← hpb, ← hpm] at hd
    obtain ⟨m2, f2, t2, e2⟩ := D
    by_cases e : e2 = 0
    · subst e
      obtain ⟨d1, d2, d3, d4⟩ := hdg rfl
      have d1 : GM k.cd k.cp k.sz m2 f2 := d1
      have d2 : Al k.cd k.cp f2 t2 := d2
      have d3 : m2.length ≤ k.m.length + lw := d3
      have hd : Ok 60 [zb2 k.sz k.m, .ag [cu k.pb, ci k.pm, cu k.pf], iu top, ii lw, iu a, ii l] (.tu [zb2 k.sz m2, .ag [cu k.pb, ci k.pm, cu f2], .ag (zgc t2 l (atM k.sz m2 t2 (idx a l))), ii 0]) := hd
      have hR : R = (z2p k (m2, f2, t2, 0) a pa l p (decide (id = -1)), 0) := hR
      have hu := (hmk (hpn y1) (hpk y2)).2.1
      have hwt := zja k.sz m2 t2 l (atM k.sz m2 t2 (idx a l)) a (mkP (pa / 4096) p (decide (id = -1))) ha hu w1.1 w1.2 ⟨by have := d2.1; omega, by have := d2.1; omega⟩ d1.s d1.u (by omega)
      generalize atM k.sz m2 t2 (idx a l) = q at *
      have hp0 := hp.1
      have hp1 := hp.2
      by_cases c5 : id = -1
      · have hmp := zqt (pa / 4096) p true
        rw [decide_eq_true c5] at hwt hR
        subst hR
        repeat (first | (refine zaj rfl ?_; first | refine zak ?_ | refine gdr (zaa rfl rfl rfl (hd) (by kernel_rfl)) ?_ | refine gdr (zaa rfl rfl rfl (hmp) (by kernel_rfl)) ?_ | refine gdr (zaa rfl rfl rfl (hwt) (by kernel_rfl)) ?_) | (refine hK _ ?_; clear hK K) | (rename_i K1 hK1; refine hK1 _ ?_; clear hK hK1; clear K) | refine zac rfl ?_ | refine zas (by kernel_rfl) (by kernel_rfl) rfl ?_ | exact zaf (show zav _ _ _ = some _ by kernel_rfl) | refine zae rfl rfl ?_ | refine zan ?_ | refine zai ?_ | refine zab (fun K hK => ?_))
      · have hmp := zqt (pa / 4096) p false
        rw [decide_eq_false c5] at hwt hR
        subst hR
        repeat (first | (refine zaj rfl ?_; first | refine zak ?_ | refine gdr (zaa rfl rfl rfl (hd) (by kernel_rfl)) ?_ | refine gdr (zaa rfl rfl rfl (hmp) (by kernel_rfl)) ?_ | refine gdr (zaa rfl rfl rfl (hwt) (by kernel_rfl)) ?_) | (refine hK _ ?_; clear hK K) | (rename_i K1 hK1; refine hK1 _ ?_; clear hK hK1; clear K) | refine zac rfl ?_ | refine zas (by kernel_rfl) (by kernel_rfl) rfl ?_ | exact zaf (show zav _ _ _ = some _ by kernel_rfl) | refine zae rfl rfl ?_ | refine zan ?_ | refine zai ?_ | refine zab (fun K hK => ?_))
    · rw [if_neg (show ¬ (m2, f2, t2, e2).2.2.2 = 0 from e)] at hd
      rw [if_pos (show (m2, f2, t2, e2).2.2.2 ≠ 0 from e)] at hR
      have hd : Ok 60 [zb2 k.sz k.m, .ag [cu k.pb, ci k.pm, cu k.pf], iu top, ii lw, iu a, ii l] (.tu [zb2 k.sz k.m, .ag [cu k.pb, ci k.pm, cu k.pf], .ag (zgc 0 0 zP), ii e2]) := hd
      have hR : R = (k, e2) := hR
      subst hR
      repeat (first | (refine zaj rfl ?_; first | refine zak ?_ | refine gdr (zaa rfl rfl rfl (hd) (by kernel_rfl)) ?_) | (refine hK _ ?_; clear hK K) | (rename_i K1 hK1; refine hK1 _ ?_; clear hK hK1; clear K) | refine zac rfl ?_ | exact zaf (show zav _ _ _ = some _ by kernel_rfl) | refine zag rfl rfl ?_ | refine zae rfl rfl ?_ | refine zan ?_ | refine zab (fun K hK => ?_))
end Go.Proofs.YtomeaibdedaldaaGreatDoor.LaG
namespace Go.Proofs.YtomeaibdedaldaaGreatDoor.RefS
open Go.RowKit Bv VaSpec Base
def hi (f : Nat → Bool) : Nat → Nat
  | 0 => 0
  | k + 1 => 2 * hi f k + (f (63 - k)).toNat
theorem zps (f : Nat → Bool) (k : Nat) : hi f (k + 1) = 2 * hi f k + (f (63 - k)).toNat := rfl
theorem z5l (f : Nat → Bool) (k : Nat) : hi f k < 2 ^ k := by
  induction k with
  | zero => simp [hi]
  | succ k ih => rw [zps]; have := Bool.toNat_le (f (63 - k)); rw [Nat.pow_succ]; omega
set_option maxHeartbeats 400000 in
set_option maxRecDepth 100000 in
theorem of_calls (f : Nat → Bool) (cs : Array Value) (w : World) (hsz : cs.size = 64) (hget : ∀ k, k < 64 → cs[k]? = some (.bool (f k))) :
    Calls Tryz.prog 181 #[.agg cs] w fun e w' => e = .returned (.int .u64 (hi f 64)) ∧ Below w.heap.size w w' := by
  have Hs := Lib.hid hsz; clear hsz
  have Hg := Lib.hid hget; clear hget
  go_enter Tryz.func181, Tryz.ntmps181
  go_wp2
  go_loop [3, 4] (fun x i => ∃ k : Nat, k ≤ 64 ∧ i = .int .i64 (63 - k) ∧ x = .int .u64 (hi f k)) (fun _ i => (intOf i + 1).toNat)
  case atStart => exact ⟨0, by omega, rfl, rfl⟩
  case round =>
    obtain ⟨k, hk, rfl, rfl⟩ := hrel
    by_cases hlt : k < 64
    · obtain ⟨j, hj⟩ : ∃ j : Nat, j = 63 - k := ⟨_, rfl⟩
      have hb := z5l f k
      have hp : 2 ^ k ≤ 2 ^ 63 := Nat.pow_le_pow_right (by decide) (by omega)
      have hb2 : (hi f k : Int) ≤ 9223372036854775807 := by omega
      clear hb hp
      have hc : (w.alloc (.cells cs 240)).cell? ⟨w.heap.size, j, none⟩ = some (.bool (f j)) := by
        rw [cell_of_row _ _ _ cs 240 (0, 0) (heap_alloc_new w _)]; exact Hg.out j (by omega)
      rw [show (63 : Int) - k = (j : Int) by omega]
      have hj2 : j < 64 := by omega
      have Hj := Lib.hid hj; clear hj
      cases hf : f j
      all_goals
        rw [hf] at hc
        go_wp2
        go_round
        case rel =>
          refine ⟨k + 1, by omega, by rw [show (j : Int) - 1 = 63 - ((k + 1 : Nat) : Int) by have := Hj.out; omega], ?_⟩
          rw [zps, ← Hj.out, hf]; go_num
        case measure => have := Hj.out; simp [intOf]
    · obtain rfl : k = 64 := by omega
      go_wp2
      go_ret
      exact ⟨rfl, (Below.refl _ _).alloc (Nat.le_refl _) _⟩
theorem zxu (y : BitVec 64) (f : Nat → Bool) (h : ∀ j, j < 64 → f j = y.getLsbD j) : ∀ k, k ≤ 64 → hi f k = y.toNat / 2 ^ (64 - k) := by
  intro k
  induction k with
  | zero => intro _; have := y.isLt; rw [Nat.div_eq_of_lt (by simpa using this)]; rfl
  | succ k ih =>
    intro hk
    rw [zps, ih (by omega), h _ (by omega), BitVec.getLsbD, Nat.testBit, Nat.shiftRight_eq_div_pow, Nat.and_comm, Nat.and_one_is_mod, show 64 - k = (63 - k) + 1 by omega, show 64 - (k + 1) = 63 - k by omega, Nat.pow_succ, ← Nat.div_div_eq_div_mul]
    generalize y.toNat / 2 ^ (63 - k) = q
    rcases Nat.mod_two_eq_zero_or_one q with e | e <;> rw [e] <;> simp <;> omega
theorem z3w (y : BitVec 64) (f : Nat → Bool) (h : ∀ j, j < 64 → f j = y.getLsbD j) : ((hi f 64 : Nat) : Int) = B y := by
  rw [zxu y f h 64 (by omega)]; simp [B]
def bt (x : BitVec 64) (i : Nat) : Bool := x.getLsbD i
theorem zxv (x : BitVec 64) (j : Nat) : IntKind.u64.wrap (Int.tdiv (B (x >>> j)) 2) = B (x >>> (j + 1)) := by
  rw [show Int.tdiv (B (x >>> j)) 2 = (((x >>> j).toNat / 2 : Nat) : Int) from rfl, wrap_u64]
  unfold B
  rw [BitVec.toNat_ushiftRight, BitVec.toNat_ushiftRight, Nat.shiftRight_eq_div_pow, Nat.shiftRight_eq_div_pow, Nat.div_div_eq_div_mul, ← Nat.pow_succ]
  rw [Nat.succ_eq_add_one]
  have h1 := x.isLt
  have h2 : x.toNat / 2 ^ (j + 1) ≤ x.toNat := Nat.div_le_self _ _
  generalize x.toNat / 2 ^ (j + 1) = q at *
  omega
theorem z1m (x : BitVec 64) (j : Nat) : (Int.tmod (B (x >>> j)) 2 == 1) = bt x j := by
  unfold B bt
  rw [BitVec.toNat_ushiftRight, BitVec.getLsbD, Nat.testBit, Nat.shiftRight_eq_div_pow]
  rw [show Int.tmod ((x.toNat / 2 ^ j : Nat) : Int) 2 = ((x.toNat / 2 ^ j % 2 : Nat) : Int) from rfl]
  rw [Nat.and_comm, Nat.and_one_is_mod]
  rcases Nat.mod_two_eq_zero_or_one (x.toNat / 2 ^ j) with h | h <;> rw [h] <;> rfl
theorem z1n (x : BitVec 64) (j : Nat) : B (x >>> j) / 2 = B (x >>> (j + 1)) := by
  rw [← zxv, show Int.tdiv (B (x >>> j)) 2 = (((x >>> j).toNat / 2 : Nat) : Int) from rfl, wrap_u64]
  unfold B; have := (x >>> j).isLt; omega
theorem z3x (x : BitVec 64) (j : Nat) : (B (x >>> j) % 2 == 1) = bt x j := by
  rw [← z1m]; rfl
set_option maxHeartbeats 400000 in
set_option maxRecDepth 100000 in
theorem zqx (x : BitVec 64) (i : Int) (w : World) (h0 : 0 ≤ i) (h : i ≤ 200) :
    Calls Tryz.prog 72 #[.int .u64 (B x), .int .i64 i] w fun e w' => e = .returned (.bool (bt x i.toNat)) ∧ w' = w := by
  obtain ⟨n, rfl⟩ := Int.eq_ofNat_of_zero_le h0
  by_cases h63 : n ≤ 63
  · go_enter Tryz.func72, Tryz.ntmps72
    go_wp2
    go_loop [0, 5] (fun y k => ∃ j : Nat, j ≤ n ∧ k = .int .i64 j ∧ y = .int .u64 (B (x >>> j))) (fun _ k => n - (intOf k).toNat)
    case atStart => exact ⟨0, by omega, rfl, by simp⟩
    case round =>
      obtain ⟨j, hj, rfl, rfl⟩ := hrel
      have hb := zle (x >>> j)
      have hb2 := z46 (x >>> j)
      by_cases hlt : j < n
      · go_wp2
        refine ⟨⟨j + 1, by omega, by go_num, by rw [z1n]⟩, ?_⟩
        simp [intOf]; omega
      · obtain rfl : j = n := by omega
        have Ho := Lib.hid (z3x x j)
        go_wp2
        go_ret
        refine ⟨?_, rfl⟩
        exact congrArg (fun z => Ending.returned (.bool z)) Ho.out
  · have hf := Lib.hid (show bt x n = false by unfold bt; exact BitVec.getLsbD_of_ge _ _ (by omega))
    go_enter Tryz.func72, Tryz.ntmps72
    go_wp2
    go_ret
    refine ⟨?_, rfl⟩
    exact congrArg (fun z => Ending.returned (.bool z)) hf.out.symm
theorem zl0 (x : BitVec 64) (i : Int) (w : World) (h0 : 0 ≤ i) (h : i ≤ 200) :
    Calls Tryz.prog 72 #[.int .u64 (B x), .int .i64 i] w fun e w' => e = .returned (.bool (bt x i.toNat)) ∧ Q w w' := (zqx x i w h0 h).mono fun _ _ ⟨a, b⟩ => ⟨a, by subst b; exact Q.refl _⟩
def Arr (w : World) (b : Nat) (f : Nat → Bool) : Prop := ∃ cs, w.heap[b]? = some (Obj.cells cs 240 (0, 0)) ∧ cs.size = 64 ∧ ∀ k, k < 64 → cs[k]? = some (.bool (f k))
theorem Arr.cell {w : World} {b : Nat} {f : Nat → Bool} (h : Arr w b f) (k : Nat) (hk : k < 64) : w.cell? ⟨b, k, none⟩ = some (.bool (f k)) := by
  obtain ⟨cs, h1, _, h3⟩ := h; rw [cell_of_row _ _ _ cs 240 (0, 0) h1]; exact h3 k hk
theorem Arr.frozen {w : World} {b : Nat} {f : Nat → Bool} (h : Arr w b f) (k : Nat) : w.frozen? ⟨b, k, none⟩ = false := by
  obtain ⟨cs, h1, _, h3⟩ := h; exact frozen_of_row _ _ _ cs 240 h1
theorem Arr.drewN {w : World} {b : Nat} {f : Nat → Bool} (h : Arr w b f) (n : Nat) : Arr (w.drewN n) b f := h
theorem Arr.set {w : World} {b : Nat} {f : Nat → Bool} (h : Arr w b f) (k : Nat) (v : Bool) : Arr (w.setCell ⟨b, k, none⟩ (.bool v)) b (fun j => if j = k then v else f j) := by
  obtain ⟨cs, h1, h2, h3⟩ := h
  refine ⟨_, heap_setCell_same w b k cs 240 _ h1, by simp [h2], ?_⟩
  intro j hj
  rw [Array.getElem?_setIfInBounds]
  by_cases e : k = j
  · subst e; simp [h2, hj]
  · simp [e, Ne.symm e, h3 j hj]
theorem Arr.congr {w : World} {b : Nat} {f g : Nat → Bool} (h : Arr w b f) (e : ∀ k, k < 64 → f k = g k) : Arr w b g := by
  obtain ⟨cs, h1, h2, h3⟩ := h; exact ⟨cs, h1, h2, fun k hk => by rw [h3 k hk, e k hk]⟩
theorem Arr.zero (w : World) : Arr (w.alloc (Obj.cells #[.bool false, .bool false, .bool false, .bool false, .bool false, .bool false, .bool false, .bool false, .bool false, .bool false, .bool false, .bool false, .bool false, .bool false, .bool false, .bool false, .bool false, .bool false, .bool false, .bool false, .bool false, .bool false, .bool false, .bool false, .bool false, .bool false, .bool false, .bool false, .bool false, .bool false, .bool false, .bool false, .bool false, .bool false, .bool false, .bool false, .bool false, .bool false, .bool false, .bool false, .bool false, .bool false, .bool false, .bool false, .bool false, .bool false, .bool false, .bool false, .bool false, .bool false, .bool false, .bool false, .bool false, .bool false, .bool false, .bool false, .bool false, .bool false, .bool false, .bool false, .bool false, .bool false, .bool false, .bool false] 240)) w.heap.size (fun _ => false) := by
  refine ⟨_, heap_alloc_new w _, by rfl, ?_⟩
  intro k hk
  have : ∀ k : Fin 64, (Array.replicate 64 (Value.bool false))[k.val]? = some (.bool false) := by intro k; simp
  exact this ⟨k, hk⟩
theorem Arr.next {wr : World} {b k nd : Nat} {g : Nat → Bool} {v : Bool} (ha : Arr wr b (fun j => decide (j < k) && g j)) (e : v = g k) :
    Arr ((wr.drewN nd).setCell ⟨b, k, none⟩ (.bool v)) b (fun j => decide (j < k + 1) && g j) := by
  refine (Arr.set (w := wr.drewN nd) ha k _).congr ?_
  intro j hj
  by_cases e1 : j = k
  · subst e1; simp [e]
  · rw [if_neg e1]; by_cases e2 : j < k
    · simp [e2, show j < k + 1 by omega]
    · simp [e2, show ¬ j < k + 1 by omega]
theorem Arr.next2 {wr : World} {b k nd nd2 : Nat} {g : Nat → Bool} {u v : Bool} (ha : Arr wr b (fun j => decide (j < k) && g j)) (e : v = g k) :
    Arr ((((wr.drewN nd).setCell ⟨b, k, none⟩ (.bool u)).drewN nd2).setCell ⟨b, k, none⟩ (.bool v)) b (fun j => decide (j < k + 1) && g j) := by
  refine (Arr.set (Arr.drewN (Arr.set (w := wr.drewN nd) ha k u) nd2) k v).congr ?_
  intro j hj
  by_cases e1 : j = k
  · subst e1; simp [e]
  · rw [if_neg e1, if_neg e1]; by_cases e2 : j < k
    · simp [e2, show j < k + 1 by omega]
    · simp [e2, show ¬ j < k + 1 by omega]
theorem zgy {w wr : World} (hb : Below w.heap.size w wr) (k nd : Nat) (v : Value) : Below w.heap.size w ((wr.drewN nd).setCell ⟨w.heap.size, k, none⟩ v) :=
  (hb.trans ((Q.below ⟨nd, rfl⟩).mono hb.size)).setCell (Nat.le_refl _) _
end Go.Proofs.YtomeaibdedaldaaGreatDoor.RefS
namespace Go.Proofs.YtomeaibdedaldaaGreatDoor.RefSet
open Go.RowKit Bv VaSpec Base RefS BitsC
def g1 (x v : BitVec 64) (lo : Nat) (j : Nat) : Bool := if j = lo then bt v 0 else bt x j
set_option maxHeartbeats 400000 in
set_option maxRecDepth 100000 in
theorem z1o (x v : BitVec 64) (lo : Nat) (w : World) (hlo : lo < 64) :
    Calls Tryz.prog 161 #[.int .u64 (B x), .int .i64 lo, .int .i64 1, .int .u64 (B v)] w fun e w' => e = .returned (.int .u64 (B (zsx x lo 1 v))) ∧ Below w.heap.size w w' := by
  have hw1 : IntKind.i64.wrap ((lo : Int) + 1) = (lo : Int) + 1 := by rw [IntKind.wrap_i64]; omega
  go_enter Tryz.func161, Tryz.ntmps161
  go_wp2
  go_loopw [10] (fun i wr => ∃ k : Nat, k ≤ 64 ∧ i = .int .i64 k ∧ Arr wr w.heap.size (fun j => decide (j < k) && g1 x v lo j) ∧ Below w.heap.size w wr) (fun i _ => 64 - (intOf i).toNat)
  case atStart => exact ⟨0, by omega, rfl, (Arr.zero w).congr (by intro k _; simp), (Below.refl _ _).alloc (Nat.le_refl _) _⟩
  case round =>
    obtain ⟨k, hk, rfl, ha, hb⟩ := hrel
    by_cases hlt : k < 64
    · have hc := ha.cell k (by omega)
      have hz := ha.frozen k
      rcases Nat.lt_trichotomy k lo with hm | rfl | hm
      · go_wp2_with (go_at_call 72; (with_reducible refine (zl0 _ _ _ (by omega) (by omega)).mono ?_); rintro e w' ⟨rfl, ⟨nd, rfl⟩⟩)
        refine ⟨⟨k + 1, by omega, by go_num, ha.next (by unfold g1; rw [if_neg (by omega)]), zgy hb _ _ _⟩, ?_⟩
        simp [intOf]; omega
      · go_wp2_with (go_at_call 72; (with_reducible refine (zl0 _ _ _ (by omega) (by omega)).mono ?_); rintro e w' ⟨rfl, ⟨nd, rfl⟩⟩)
        refine ⟨⟨k + 1, by omega, by go_num, ha.next2 (by unfold g1; rw [if_pos rfl]), zgy (zgy hb _ _ _) _ _ _⟩, ?_⟩
        simp [intOf]; omega
      · go_wp2_with (go_at_call 72; (with_reducible refine (zl0 _ _ _ (by omega) (by omega)).mono ?_); rintro e w' ⟨rfl, ⟨nd, rfl⟩⟩)
        refine ⟨⟨k + 1, by omega, by go_num, ha.next (by unfold g1; rw [if_neg (by omega)]), zgy hb _ _ _⟩, ?_⟩
        simp [intOf]; omega
    · obtain rfl : k = 64 := by omega
      obtain ⟨cs, h1, h2, h3⟩ := ha
      have Hh := Lib.hid h1; clear h1
      have Hs := Lib.hid h2; clear h2
      have H3 := Lib.hid h3; clear h3
      go_wp2_with (first | (with_reducible refine wpList_load_row rfl 240 _ rfl w.heap.size rfl 240 cs (0, 0) _ Hh.out Tryz.underlying240 rfl (by rw [Hs.out]; kernel_rfl) ?_) | (go_at_call 181; refine (of_calls _ cs _ Hs.out H3.out).mono ?_; rintro e w' ⟨rfl, bel⟩))
      go_ret
      refine ⟨?_, hb.trans (bel.mono hb.size)⟩
      show Ending.returned (.int .u64 (hi (fun j => decide (j < 64) && g1 x v lo j) 64 : Nat)) = _
      rw [z3w (zsx x lo 1 v) _ (fun j hj => by
        rw [zel, decide_eq_true hj]
        unfold g1
        by_cases e : j = lo
        · subst e; rw [if_pos rfl, if_pos ⟨Nat.le_refl _, by omega⟩, Nat.sub_self]; rfl
        · rw [if_neg e, if_neg (by omega)]; rfl)]
end Go.Proofs.YtomeaibdedaldaaGreatDoor.RefSet
namespace Go.Proofs.YtomeaibdedaldaaGreatDoor.RfA
open Go.RowKit Bv VaSpec Base MemL RegR Ax MemC PutC MemC3 TzC OkS SpA SpB SpC SpD IterC SpE SpF SpG SpH SpI SpJ SpK SpN RfP
open BitsC PteSpec
set_option maxRecDepth 10000
set_option maxHeartbeats 800000
theorem zer (a i : Int) (ha : U a) (h0 : 0 ≤ i) (h : i < 64) : Ok 72 [iu a, ii i] (.m (ib (zeo a i))) :=
  za9 #[.int .u64 a, .int .i64 i] (.bool (zeo a i)) fun W _ => by
    have := RefS.zl0 (X a) i W h0 (by omega)
    rw [B_X ha] at this
    refine this.mono fun e w' ⟨he, hq⟩ => ⟨?_, Q.below hq⟩
    rw [he, zdm h0]; rfl
theorem zjj (a i v : Int) (ha : U a) (hv : U v) (h0 : 0 ≤ i) (h : i < 64) : Ok 161 [iu a, ii i, ii 1, iu v] (.m (iu (zbw a i 1 v))) := by
  obtain ⟨n, rfl⟩ := Int.eq_ofNat_of_zero_le h0
  exact za9 #[.int .u64 a, .int .i64 n, .int .i64 1, .int .u64 v] (.int .u64 (zbw a n 1 v)) fun W _ => by
    have := RefSet.z1o (X a) (X v) n W (by omega)
    rw [B_X ha, B_X hv] at this
    exact this
attribute [local irreducible] Ax.zbn
theorem zxw (b m : Int) (hm : 0 ≤ m ∧ m ≤ 64) : Ok 100 [iu b, ii m] (.m (.ag [cu b, ci m, cu (zcu m)])) := by
  refine zah 21 Tryz.func100 rfl rfl rfl rfl ?_ GG.to
  intro W A hG
  repeat (first | (refine zaj rfl ?_; first | refine zak ?_) | (refine hK _ ?_; clear hK K) | refine zac rfl ?_ | refine zad ?_ | refine zab (fun K hK => ?_))
  refine za3 (α := Nat × Int) (fun p => (p.1 : Int) ≤ m ∧ p.2 = zcu p.1) (fun p => St.of [(1, .m (ii m)), (4, .m (.c (.p 4 0))), (5, .m (.c (.p 5 0))), (6, .m (ii p.1))] [(4, .live (.box [cu 0, ci 0, cu 0])), (5, .live (.box [cu b, ci m, cu p.2]))]) (fun p => m.toNat - p.1) (0, 0) ⟨by show ((0 : Nat) : Int) ≤ m; omega, allI_zero.symm⟩ (zax _ _ ⟨rfl, rfl, rfl, rfl, trivial⟩ ⟨rfl, rfl, trivial⟩ rfl) ?_
  rintro ⟨i, x⟩ ⟨hi0, hx0⟩
  have hi : (i : Int) ≤ m := hi0
  have hx : x = zcu i := hx0
  show Aw _ _ _ _ (St.of [(1, .m (ii m)), (4, .m (.c (.p 4 0))), (5, .m (.c (.p 5 0))), (6, .m (ii i))] [(4, .live (.box [cu 0, ci 0, cu 0])), (5, .live (.box [cu b, ci m, cu x]))])
  by_cases hlt : (i : Int) < m
  · have hs := zjj x i 1 (hx ▸ znw i) ⟨by omega, by omega⟩ (by omega) (by omega)
    repeat (first | (refine zaj rfl ?_; first | refine zak ?_ | refine gdr (zaa rfl rfl rfl (hs) (by kernel_rfl)) ?_) | (refine hK _ ?_; clear hK K) | refine zac rfl ?_ | refine zag rfl rfl ?_ | refine zad ?_ | refine zai ?_ | refine zab (fun K hK => ?_))
    exact ⟨(i + 1, zbw x i 1 1), ⟨by show ((i + 1 : Nat) : Int) ≤ m; omega, by show zbw x i 1 1 = zcu ((i + 1 : Nat) : Int); rw [hx, znv _ (by omega) (by omega)]; rfl⟩, by show m.toNat - (i + 1) < m.toNat - i; omega, zax _ _ ⟨rfl, rfl, rfl, rfl, trivial⟩ ⟨rfl, rfl, trivial⟩ rfl⟩
  · obtain rfl : m = i := by omega
    subst hx
    repeat (first | (refine zaj rfl ?_; first | refine zak ?_) | (refine hK _ ?_; clear hK K) | (rename_i K1 hK1; refine hK1 _ ?_; clear hK hK1; clear K) | refine zac rfl ?_ | exact zaf (show zav _ _ _ = some _ by kernel_rfl) | refine zae rfl rfl ?_ | refine zan ?_ | refine zab (fun K hK => ?_))
theorem zxx (m : Int) (hm : 0 ≤ m ∧ m ≤ 64) : Ok 101 [ii m] (.m (.ag [ci m, cu (zcu m), cu 0])) := by
  refine zah 18 Tryz.func101 rfl rfl rfl rfl ?_ GG.to
  intro W A hG
  repeat (first | (refine zaj rfl ?_; first | refine zak ?_) | (refine hK _ ?_; clear hK K) | refine zac rfl ?_ | refine zad ?_ | refine zab (fun K hK => ?_))
  refine za3 (α := Nat × Int) (fun p => (p.1 : Int) ≤ m ∧ p.2 = zcu p.1) (fun p => St.of [(0, .m (ii m)), (2, .m (.c (.p 2 0))), (3, .m (.c (.p 3 0))), (4, .m (ii p.1))] [(2, .live (.box [ci 0, cu 0, cu 0])), (3, .live (.box [ci m, cu p.2, cu 0]))]) (fun p => m.toNat - p.1) (0, 0) ⟨by show ((0 : Nat) : Int) ≤ m; omega, allI_zero.symm⟩ (zax _ _ ⟨rfl, rfl, rfl, rfl, trivial⟩ ⟨rfl, rfl, trivial⟩ rfl) ?_
  rintro ⟨i, x⟩ ⟨hi0, hx0⟩
  have hi : (i : Int) ≤ m := hi0
  have hx : x = zcu i := hx0
  show Aw _ _ _ _ (St.of [(0, .m (ii m)), (2, .m (.c (.p 2 0))), (3, .m (.c (.p 3 0))), (4, .m (ii i))] [(2, .live (.box [ci 0, cu 0, cu 0])), (3, .live (.box [ci m, cu x, cu 0]))])
  by_cases hlt : (i : Int) < m
  · have hs := zjj x i 1 (hx ▸ znw i) ⟨by omega, by omega⟩ (by omega) (by omega)
    repeat (first | (refine zaj rfl ?_; first | refine zak ?_ | refine gdr (zaa rfl rfl rfl (hs) (by kernel_rfl)) ?_) | (refine hK _ ?_; clear hK K) | refine zac rfl ?_ | refine zag rfl rfl ?_ | refine zad ?_ | refine zai ?_ | refine zab (fun K hK => ?_))
    exact ⟨(i + 1, zbw x i 1 1), ⟨by show ((i + 1 : Nat) : Int) ≤ m; omega, by show zbw x i 1 1 = zcu ((i + 1 : Nat) : Int); rw [hx, znv _ (by omega) (by omega)]; rfl⟩, by show m.toNat - (i + 1) < m.toNat - i; omega, zax _ _ ⟨rfl, rfl, rfl, rfl, trivial⟩ ⟨rfl, rfl, trivial⟩ rfl⟩
  · obtain rfl : m = i := by omega
    subst hx
    repeat (first | (refine zaj rfl ?_; first | refine zak ?_) | (refine hK _ ?_; clear hK K) | (rename_i K1 hK1; refine hK1 _ ?_; clear hK hK1; clear K) | refine zac rfl ?_ | exact zaf (show zav _ _ _ = some _ by kernel_rfl) | refine zae rfl rfl ?_ | refine zan ?_ | refine zab (fun K hK => ?_))
theorem znx (b m f : Int) (hb : 0 ≤ b ∧ b ≤ 268435456) (hm : 0 ≤ m ∧ m ≤ 64) (hf : 0 ≤ f ∧ f < 2 ^ m.toNat) (h0 : f ≠ 0) : Ok 102 [.ag [cu b, ci m, cu f]] (.tu [.ag [cu b, ci m, cu (zbw f (tzI f) 1 0)], iu (b + tzI f), ii 0]) := by
  have hu : U f := zgs hf.1 hf.2 (by omega)
  have ht := zcl hu hf.2 h0
  refine zah 28 Tryz.func102 rfl rfl rfl rfl ?_ GG.to
  intro W A hG
  repeat (first | (refine zaj rfl ?_; first | refine zak ?_) | (refine hK _ ?_; clear hK K) | refine zac rfl ?_ | refine zad ?_ | refine zab (fun K hK => ?_))
  refine za3 (α := Nat) (fun i => (i : Int) ≤ tzI f) (fun i => St.of [(1, .m (.c (.p 1 0))), (2, .m (.c (.p 2 0))), (5, .m (ii i))] [(1, .live (.box [cu b, ci m, cu f])), (2, .live (.box [cu 0, ci 0, cu 0]))]) (fun i => m.toNat - i) 0 (by show ((0 : Nat) : Int) ≤ _; omega) (zax _ _ ⟨rfl, rfl, rfl, trivial⟩ ⟨rfl, rfl, trivial⟩ rfl) ?_
  intro i hi
  by_cases hlt : (i : Int) < tzI f
  · have hbt := zer f i hu (by omega) (by omega)
    rw [zjh hu h0 (by omega) hlt] at hbt
    repeat (first | (refine zaj rfl ?_; first | refine zak ?_ | refine gdr (zaa rfl rfl rfl (hbt) (by kernel_rfl)) ?_) | (refine hK _ ?_; clear hK K) | refine zac rfl ?_ | refine zag rfl rfl ?_ | refine zae rfl rfl ?_ | refine zad ?_ | refine zai ?_ | refine zab (fun K hK => ?_))
    exact ⟨i + 1, by show ((i + 1 : Nat) : Int) ≤ _; omega, by omega, zax _ _ ⟨rfl, rfl, rfl, trivial⟩ ⟨rfl, rfl, trivial⟩ rfl⟩
  · have e : tzI f = i := by omega
    have hbt := zer f i hu (by omega) (by omega)
    rw [← e, zkl hu h0, e] at hbt
    have hs := zjj f i 0 hu ⟨by omega, by omega⟩ (by omega) (by omega)
    rw [e]
    repeat (first | (refine zaj rfl ?_; first | refine zak ?_ | refine gdr (zaa rfl rfl rfl (hbt) (by kernel_rfl)) ?_ | refine gdr (zaa rfl rfl rfl (hs) (by kernel_rfl)) ?_) | (refine hK _ ?_; clear hK K) | refine zac rfl ?_ | refine zas (by kernel_rfl) (by kernel_rfl) rfl ?_ | exact zaf (show zav _ _ _ = some _ by kernel_rfl) | refine zag rfl rfl ?_ | refine zad ?_ | refine zai ?_ | refine zab (fun K hK => ?_))
theorem zu8 (b m : Int) (hm : 0 ≤ m ∧ m ≤ 64) : Ok 102 [.ag [cu b, ci m, cu 0]] (.tu [.ag [cu b, ci m, cu 0], iu 0, ii 8]) := by
  refine zah 28 Tryz.func102 rfl rfl rfl rfl ?_ GG.to
  intro W A hG
  repeat (first | (refine zaj rfl ?_; first | refine zak ?_) | (refine hK _ ?_; clear hK K) | refine zac rfl ?_ | refine zad ?_ | refine zab (fun K hK => ?_))
  refine za3 (α := Nat) (fun i => (i : Int) ≤ m) (fun i => St.of [(1, .m (.c (.p 1 0))), (2, .m (.c (.p 2 0))), (5, .m (ii i))] [(1, .live (.box [cu b, ci m, cu 0])), (2, .live (.box [cu 0, ci 0, cu 0]))]) (fun i => m.toNat - i) 0 (by show ((0 : Nat) : Int) ≤ _; omega) (zax _ _ ⟨rfl, rfl, rfl, trivial⟩ ⟨rfl, rfl, trivial⟩ rfl) ?_
  intro i hi
  by_cases hlt : (i : Int) < m
  · have hbt := zer 0 i ⟨by omega, by omega⟩ (by omega) (by omega)
    rw [zqu i (by omega)] at hbt
    repeat (first | (refine zaj rfl ?_; first | refine zak ?_ | refine gdr (zaa rfl rfl rfl (hbt) (by kernel_rfl)) ?_) | (refine hK _ ?_; clear hK K) | refine zac rfl ?_ | refine zag rfl rfl ?_ | refine zae rfl rfl ?_ | refine zad ?_ | refine zai ?_ | refine zab (fun K hK => ?_))
    exact ⟨i + 1, by show ((i + 1 : Nat) : Int) ≤ _; omega, by omega, zax _ _ ⟨rfl, rfl, rfl, trivial⟩ ⟨rfl, rfl, trivial⟩ rfl⟩
  · skip
    repeat (first | (refine zaj rfl ?_; first | refine zak ?_) | (refine hK _ ?_; clear hK K) | (rename_i K1 hK1; refine hK1 _ ?_; clear hK hK1; clear K) | refine zac rfl ?_ | exact zaf (show zav _ _ _ = some _ by kernel_rfl) | refine zae rfl rfl ?_ | refine zan ?_ | refine zab (fun K hK => ?_))
theorem zjk (m f o : Int) (hm : 0 ≤ m ∧ m ≤ 64) (hf : 0 ≤ f ∧ f < 2 ^ m.toNat) (ho : U o) (h0 : f ≠ 0) : Ok 107 [.ag [ci m, cu f, cu o]] (.tu [.ag [ci m, cu (zf5 f), cu (zf6 f o)], iu (tzI f + 1), ib (zeo o (tzI f)), ii 0]) := by
  have hu : U f := zgs hf.1 hf.2 (by omega)
  have ht := zcl hu hf.2 h0
  refine zah 38 Tryz.func107 rfl rfl rfl rfl ?_ GG.to
  intro W A hG
  repeat (first | (refine zaj rfl ?_; first | refine zak ?_) | (refine hK _ ?_; clear hK K) | refine zac rfl ?_ | refine zad ?_ | refine zab (fun K hK => ?_))
  refine za3 (α := Nat) (fun i => (i : Int) ≤ tzI f) (fun i => St.of [(1, .m (.c (.p 1 0))), (2, .m (.c (.p 2 0))), (6, .m (ii i))] [(1, .live (.box [ci m, cu f, cu o])), (2, .live (.box [ci 0, cu 0, cu 0]))]) (fun i => m.toNat - i) 0 (by show ((0 : Nat) : Int) ≤ _; omega) (zax _ _ ⟨rfl, rfl, rfl, trivial⟩ ⟨rfl, rfl, trivial⟩ rfl) ?_
  intro i hi
  by_cases hlt : (i : Int) < tzI f
  · have hbt := zer f i hu (by omega) (by omega)
    rw [zjh hu h0 (by omega) hlt] at hbt
    repeat (first | (refine zaj rfl ?_; first | refine zak ?_ | refine gdr (zaa rfl rfl rfl (hbt) (by kernel_rfl)) ?_) | (refine hK _ ?_; clear hK K) | refine zac rfl ?_ | refine zag rfl rfl ?_ | refine zae rfl rfl ?_ | refine zad ?_ | refine zai ?_ | refine zab (fun K hK => ?_))
    exact ⟨i + 1, by show ((i + 1 : Nat) : Int) ≤ _; omega, by omega, zax _ _ ⟨rfl, rfl, rfl, trivial⟩ ⟨rfl, rfl, trivial⟩ rfl⟩
  · have e : tzI f = i := by omega
    have hbt := zer f i hu (by omega) (by omega)
    rw [← e, zkl hu h0, e] at hbt
    have hbo := zer o i ho (by omega) (by omega)
    have hs := zjj f i 0 hu ⟨by omega, by omega⟩ (by omega) (by omega)
    have hs2 := zjj o i 1 ho ⟨by omega, by omega⟩ (by omega) (by omega)
    unfold zf5 zf6
    rw [e]
    repeat (first | (refine zaj rfl ?_; first | refine zak ?_ | (refine zhi 17 rfl ?_; refine gdr (zaa rfl rfl rfl (hbt) (by kernel_rfl)) ?_) | (refine zhi 21 rfl ?_; refine gdr (zaa rfl rfl rfl (hbo) (by kernel_rfl)) ?_) | (refine zhi 25 rfl ?_; refine gdr (zaa rfl rfl rfl (hs) (by kernel_rfl)) ?_) | (refine zhi 30 rfl ?_; refine gdr (zaa rfl rfl rfl (hs2) (by kernel_rfl)) ?_)) | (refine hK _ ?_; clear hK K) | refine zac rfl ?_ | exact zaf (show zav _ _ _ = some _ by kernel_rfl) | refine zag rfl rfl ?_ | refine zad ?_ | refine zai ?_ | refine zab (fun K hK => ?_))
theorem zu9 (m o : Int) (hm : 0 ≤ m ∧ m ≤ 64) : Ok 107 [.ag [ci m, cu 0, cu o]] (.tu [.ag [ci m, cu 0, cu o], iu 0, ib false, ii 9]) := by
  refine zah 38 Tryz.func107 rfl rfl rfl rfl ?_ GG.to
  intro W A hG
  repeat (first | (refine zaj rfl ?_; first | refine zak ?_) | (refine hK _ ?_; clear hK K) | refine zac rfl ?_ | refine zad ?_ | refine zab (fun K hK => ?_))
  refine za3 (α := Nat) (fun i => (i : Int) ≤ m) (fun i => St.of [(1, .m (.c (.p 1 0))), (2, .m (.c (.p 2 0))), (6, .m (ii i))] [(1, .live (.box [ci m, cu 0, cu o])), (2, .live (.box [ci 0, cu 0, cu 0]))]) (fun i => m.toNat - i) 0 (by show ((0 : Nat) : Int) ≤ _; omega) (zax _ _ ⟨rfl, rfl, rfl, trivial⟩ ⟨rfl, rfl, trivial⟩ rfl) ?_
  intro i hi
  by_cases hlt : (i : Int) < m
  · have hbt := zer 0 i ⟨by omega, by omega⟩ (by omega) (by omega)
    rw [zqu i (by omega)] at hbt
    repeat (first | (refine zaj rfl ?_; first | refine zak ?_ | refine gdr (zaa rfl rfl rfl (hbt) (by kernel_rfl)) ?_) | (refine hK _ ?_; clear hK K) | refine zac rfl ?_ | refine zag rfl rfl ?_ | refine zae rfl rfl ?_ | refine zad ?_ | refine zai ?_ | refine zab (fun K hK => ?_))
    exact ⟨i + 1, by show ((i + 1 : Nat) : Int) ≤ _; omega, by omega, zax _ _ ⟨rfl, rfl, rfl, trivial⟩ ⟨rfl, rfl, trivial⟩ rfl⟩
  · skip
    repeat (first | (refine zaj rfl ?_; first | refine zak ?_) | (refine hK _ ?_; clear hK K) | (rename_i K1 hK1; refine hK1 _ ?_; clear hK hK1; clear K) | refine zac rfl ?_ | exact zaf (show zav _ _ _ = some _ by kernel_rfl) | refine zae rfl rfl ?_ | refine zan ?_ | refine zab (fun K hK => ?_))
theorem z1p (b m f n : Int) (hb : 0 ≤ b ∧ b ≤ 268435456) (hm : 0 ≤ m ∧ m ≤ 64) (hf : U f) (hn : U n) : Ok 68 [.ag [cu b, ci m, cu f], iu n] (.m (ib (PoolC.isP b m f n))) := by
  by_cases hin : b ≤ n ∧ n - b < m
  · rw [show PoolC.isP b m f n = !zeo f (n - b) by
      unfold PoolC.isP PoolC.inP
      rw [decide_eq_true hin.1, decide_eq_true hin.2, zlt _ _ (by omega)]; rfl]
    refine zah 24 Tryz.func68 rfl rfl rfl rfl ?_ GG.to
    intro W A hG
    repeat (first | (refine zaj rfl ?_; first | refine zak ?_) | (refine hK _ ?_; clear hK K) | (rename_i K1 hK1; refine hK1 _ ?_; clear hK hK1; clear K) | (rename_i K1 hK1; refine hK1 _ ?_; clear hK1) | refine zac rfl ?_ | refine zas (by kernel_rfl) (by kernel_rfl) rfl ?_ | exact zaf (show zav _ _ _ = some _ by kernel_rfl) | refine zag rfl rfl ?_ | refine zae rfl rfl ?_ | refine zad ?_ | refine zan ?_ | refine zai ?_ | refine zab (fun K hK => ?_) | refine zap ?_ | refine zau ?_ | refine zaf (show zav _ _ _ = some _ ∧ EndB _ _ from ⟨by kernel_rfl, ?_⟩))
    refine za3 (α := Nat) (fun i => (i : Int) ≤ n - b) (fun i => St.of [(1, .m (iu n)), (2, .m (.c (.p 2 0))), (5, .m (ii i))] [(2, .live (.box [cu b, ci m, cu f]))]) (fun i => m.toNat - i) 0 (by show ((0 : Nat) : Int) ≤ _; omega) (zax _ _ ⟨rfl, rfl, rfl, trivial⟩ ⟨rfl, trivial⟩ rfl) ?_
    intro i hi
    by_cases hlt : (i : Int) < n - b
    · skip
      repeat (first | (refine zaj rfl ?_; first | refine zak ?_) | (refine hK _ ?_; clear hK K) | (rename_i K1 hK1; refine hK1 _ ?_; clear hK hK1; clear K) | (rename_i K1 hK1; refine hK1 _ ?_; clear hK1) | refine zac rfl ?_ | refine zas (by kernel_rfl) (by kernel_rfl) rfl ?_ | exact zaf (show zav _ _ _ = some _ by kernel_rfl) | refine zag rfl rfl ?_ | refine zae rfl rfl ?_ | refine zad ?_ | refine zan ?_ | refine zai ?_ | refine zab (fun K hK => ?_) | refine zap ?_ | refine zau ?_ | refine zaf (show zav _ _ _ = some _ ∧ EndB _ _ from ⟨by kernel_rfl, ?_⟩))
      exact ⟨i + 1, by show ((i + 1 : Nat) : Int) ≤ _; omega, by omega, zax _ _ ⟨rfl, rfl, rfl, trivial⟩ ⟨rfl, trivial⟩ rfl⟩
    · have e : n - b = i := by omega
      have hbt := zer f i hf (by omega) (by omega)
      rw [e]
      repeat (first | (refine zaj rfl ?_; first | refine zak ?_ | refine gdr (zaa rfl rfl rfl (hbt) (by kernel_rfl)) ?_) | (refine hK _ ?_; clear hK K) | (rename_i K1 hK1; refine hK1 _ ?_; clear hK hK1; clear K) | (rename_i K1 hK1; refine hK1 _ ?_; clear hK1) | refine zac rfl ?_ | refine zas (by kernel_rfl) (by kernel_rfl) rfl ?_ | exact zaf (show zav _ _ _ = some _ by kernel_rfl) | refine zag rfl rfl ?_ | refine zae rfl rfl ?_ | refine zad ?_ | refine zan ?_ | refine zai ?_ | refine zab (fun K hK => ?_) | refine zap ?_ | refine zau ?_ | refine zaf (show zav _ _ _ = some _ ∧ EndB _ _ from ⟨by kernel_rfl, ?_⟩))
  · rw [show PoolC.isP b m f n = false by
      unfold PoolC.isP PoolC.inP
      by_cases h1 : b ≤ n
      · rw [decide_eq_false (show ¬ n - b < m by omega), Bool.and_false, Bool.false_and]
      · rw [decide_eq_false h1, Bool.false_and, Bool.false_and]]
    refine zah 24 Tryz.func68 rfl rfl rfl rfl ?_ GG.to
    intro W A hG
    repeat (first | (refine zaj rfl ?_; first | refine zak ?_) | (refine hK _ ?_; clear hK K) | (rename_i K1 hK1; refine hK1 _ ?_; clear hK hK1; clear K) | (rename_i K1 hK1; refine hK1 _ ?_; clear hK1) | refine zac rfl ?_ | refine zas (by kernel_rfl) (by kernel_rfl) rfl ?_ | exact zaf (show zav _ _ _ = some _ by kernel_rfl) | refine zag rfl rfl ?_ | refine zae rfl rfl ?_ | refine zad ?_ | refine zan ?_ | refine zai ?_ | refine zab (fun K hK => ?_) | refine zap ?_ | refine zau ?_ | refine zaf (show zav _ _ _ = some _ ∧ EndB _ _ from ⟨by kernel_rfl, ?_⟩))
    refine za3 (α := Nat) (fun i => (i : Int) ≤ m) (fun i => St.of [(1, .m (iu n)), (2, .m (.c (.p 2 0))), (5, .m (ii i))] [(2, .live (.box [cu b, ci m, cu f]))]) (fun i => m.toNat - i) 0 (by show ((0 : Nat) : Int) ≤ _; omega) (zax _ _ ⟨rfl, rfl, rfl, trivial⟩ ⟨rfl, trivial⟩ rfl) ?_
    intro i hi
    by_cases hlt : (i : Int) < m
    · skip
      repeat (first | (refine zaj rfl ?_; first | refine zak ?_) | (refine hK _ ?_; clear hK K) | (rename_i K1 hK1; refine hK1 _ ?_; clear hK hK1; clear K) | (rename_i K1 hK1; refine hK1 _ ?_; clear hK1) | refine zac rfl ?_ | refine zas (by kernel_rfl) (by kernel_rfl) rfl ?_ | exact zaf (show zav _ _ _ = some _ by kernel_rfl) | refine zag rfl rfl ?_ | refine zae rfl rfl ?_ | refine zad ?_ | refine zan ?_ | refine zai ?_ | refine zab (fun K hK => ?_) | refine zap ?_ | refine zau ?_ | refine zaf (show zav _ _ _ = some _ ∧ EndB _ _ from ⟨by kernel_rfl, ?_⟩))
      exact ⟨i + 1, by show ((i + 1 : Nat) : Int) ≤ _; omega, by omega, zax _ _ ⟨rfl, rfl, rfl, trivial⟩ ⟨rfl, trivial⟩ rfl⟩
    · skip
      repeat (first | (refine zaj rfl ?_; first | refine zak ?_) | (refine hK _ ?_; clear hK K) | (rename_i K1 hK1; refine hK1 _ ?_; clear hK hK1; clear K) | (rename_i K1 hK1; refine hK1 _ ?_; clear hK1) | refine zac rfl ?_ | refine zas (by kernel_rfl) (by kernel_rfl) rfl ?_ | exact zaf (show zav _ _ _ = some _ by kernel_rfl) | refine zag rfl rfl ?_ | refine zae rfl rfl ?_ | refine zad ?_ | refine zan ?_ | refine zai ?_ | refine zab (fun K hK => ?_) | refine zap ?_ | refine zau ?_ | refine zaf (show zav _ _ _ = some _ ∧ EndB _ _ from ⟨by kernel_rfl, ?_⟩))
end Go.Proofs.YtomeaibdedaldaaGreatDoor.RfA
namespace Go.Proofs.YtomeaibdedaldaaGreatDoor.RfB
open Go.RowKit Bv VaSpec Base MemL RegR Ax MemC PutC MemC3 TzC OkS SpA SpB SpC SpD IterC SpE SpF SpG SpH SpI SpJ SpK SpN RfP RfQ RfA
open BitsC PteSpec
set_option maxRecDepth 10000
set_option maxHeartbeats 800000
attribute [local irreducible] Ax.zbn
theorem zfe (l : List (Int × Int)) (c : Int × Int) : fl (l ++ [c]) = fl l ++ [.int .u64 c.1, .int .u64 c.2] := zdg l [c]
theorem zva {sz : Int} {l : List (Int × Int)} {n : Nat} {xs : List Value} (h1 : n = l.length) (h2 : xs = fl l) : zb2 sz l = .ag [cu sz, .s n 2 xs] := by rw [h1, h2]
theorem zny {α β : Type} (f : β → α → β) (b : β) (l : List α) (i : Nat) (a : α) (h : l[i]? = some a) : (l.take (i + 1)).foldl f b = f ((l.take i).foldl f b) a := by
  rw [List.take_add_one, h]; simp
theorem zvb {α : Type} (f : α → Bool) (l : List α) (i : Nat) (a : α) (h : l[i]? = some a) : (l.take (i + 1)).filter f = (l.take i).filter f ++ [a].filter f := by
  rw [List.take_add_one, h]; simp
def z2q (sz p v : Int) (m : List (Int × Int)) (i : Nat) (d : Bool) (n : Nat) (xs : List Value) : St := St.of [(1, .m (iu p)), (2, .m (iu v)), (3, .m (.c (.p 3 0))), (6, .m (.c (.p 6 0))), (7, .m (.c (.o 1000))), (8, .m (ib d)), (9, .m (ii i))] [(3, .live (.box [cu sz, .s m.length 2 (fl m)])), (6, .live (.box [cu 0, .v (.slice none 0 0)])), (1000, .live (.row 204 2 n xs))]
theorem zjl (sz : Int) (m : List (Int × Int)) (p v : Int) (hs : Srt m) (hl : m.length ≤ 1000000) : Ok 67 [zb2 sz m, iu p, iu v] (.m (zb2 sz (zbq m p v))) := by
  have hput := z1e p v m hs
  obtain ⟨b0, hb0⟩ : ∃ b0, b0 = decide (v = 0) := ⟨_, rfl⟩
  rw [← hb0] at hput
  obtain ⟨N, hN⟩ : ∃ N, N = (zbq m p v).length := ⟨_, rfl⟩
  obtain ⟨XS, hXS⟩ : ∃ XS, XS = fl (zbq m p v) := ⟨_, rfl⟩
  rw [zva (sz := sz) hN hXS]
  have hvb : v = 0 ∧ b0 = true ∨ v ≠ 0 ∧ b0 = false := by by_cases h : v = 0 <;> simp [hb0, h]
  clear hb0
  rcases hvb with ⟨hv, rfl⟩ | ⟨hv, rfl⟩
  · refine zah 64 Tryz.func67 rfl rfl rfl rfl ?_ GG.to
    intro W A hG
    repeat (first | (refine zaj rfl ?_; first | refine zak ?_) | (refine hK _ ?_; clear hK K) | refine zac rfl ?_ | refine zad ?_ | refine zab (fun K hK => ?_))
    refine za3 (α := Nat × List (Int × Int) × Bool × Nat × List Value) (fun q => q.1 ≤ m.length ∧ (q.2.1, q.2.2.1) = (m.take q.1).foldl (zce p v) ([], true) ∧ q.2.2.2.1 = q.2.1.length ∧ q.2.2.2.2 = fl q.2.1 ∧ q.2.1.length ≤ 2 * q.1) (fun q => z2q sz p v m q.1 q.2.2.1 q.2.2.2.1 q.2.2.2.2) (fun q => m.length - q.1) (0, [], true, 0, []) ⟨Nat.zero_le _, rfl, rfl, rfl, Nat.le_refl _⟩ (Sub.trans (zlk 7 1000 204 2 rfl rfl) (zax _ _ ⟨rfl, rfl, rfl, rfl, rfl, rfl, rfl, trivial⟩ ⟨rfl, rfl, rfl, trivial⟩ (by kernel_rfl))) ?_
    rintro ⟨i, l, d, n, xs⟩ ⟨h1, h2, h3, h4, h5⟩
    have g1 : i ≤ m.length := h1
    have g2 : (l, d) = (m.take i).foldl (zce p v) ([], true) := h2
    have g3 : n = l.length := h3
    have g4 : xs = fl l := h4
    have g5 : l.length ≤ 2 * i := h5
    show Aw _ _ _ _ (z2q sz p v m i d n xs)
    unfold z2q
    by_cases hlt : i < m.length
    · obtain ⟨c, hc⟩ : ∃ c, m[i]? = some c := ⟨_, List.getElem?_eq_getElem hlt⟩
      have hx := SpL.znu hc
      have hf := zny (zce p v) ([], true) m i c hc
      rw [← g2] at hf
      by_cases a1 : d = false ∧ p < c.1
      · obtain ⟨rfl, a1⟩ := a1
        rw [show zce p v (l, false) c = (l ++ [(p, v), c], true) by unfold zce; rw [if_pos ⟨rfl, a1⟩]] at hf
        repeat (first | (refine zaj rfl ?_; first | refine zak ?_ | refine gdr (zbl rfl rfl rfl rfl rfl rfl rfl rfl rfl rfl rfl rfl rfl (by omega)) ?_) | (refine hK _ ?_; clear hK K) | refine zac rfl ?_ | refine zag rfl rfl ?_ | refine zad ?_ | refine zai ?_ | refine zab (fun K hK => ?_))
        exact ⟨(i + 1, l ++ [(p, v), c], true, n + 1 + 1, xs ++ [.int .u64 p, .int .u64 v] ++ [.int .u64 c.1, .int .u64 c.2]), ⟨by show i + 1 ≤ m.length; omega, hf.symm, by show n + 1 + 1 = (l ++ [(p, v), c]).length; simp [g3], by show _ = fl (l ++ [(p, v), c]); rw [g4, zdg, List.append_assoc]; rfl, by show (l ++ [(p, v), c]).length ≤ 2 * (i + 1); simp; omega⟩, by show m.length - (i + 1) < m.length - i; omega, Sub.trans (zax [(1, .m (iu p)), (2, .m (iu v)), (3, .m (.c (.p 3 0))), (6, .m (.c (.p 6 0))), (7, .m (.c (.o 52))), (8, .m (ib true)), (9, .m (ii ((i + 1 : Nat) : Int)))] [(3, .live (.box [cu sz, .s m.length 2 (fl m)])), (6, .live (.box [cu 0, .v (.slice none 0 0)])), (52, .live (.row 204 2 (n + 1 + 1) (xs ++ [.int .u64 p, .int .u64 v] ++ [.int .u64 c.1, .int .u64 c.2])))] ⟨rfl, rfl, rfl, rfl, rfl, rfl, rfl, trivial⟩ ⟨rfl, rfl, rfl, trivial⟩ rfl) (Sub.trans (ze9 (b := 52) (b' := 1000) rfl rfl) (zax _ _ ⟨rfl, rfl, rfl, rfl, rfl, rfl, rfl, trivial⟩ ⟨rfl, rfl, rfl, trivial⟩ rfl))⟩
      · by_cases a2 : c.1 = p
        · rw [show zce p v (l, d) c = (l, d) by unfold zce; rw [if_neg a1, if_pos a2]] at hf
          have hd : d = true ∨ ¬ p < c.1 := by cases d <;> simp_all
          cases d
          · skip
            repeat (first | (refine zaj rfl ?_; first | refine zak ?_) | (refine hK _ ?_; clear hK K) | refine zac rfl ?_ | refine zag rfl rfl ?_ | refine zae rfl rfl ?_ | refine zad ?_ | refine zai ?_ | refine zab (fun K hK => ?_))
            exact ⟨(i + 1, l, false, n, xs), ⟨by show i + 1 ≤ m.length; omega, hf.symm, g3, g4, by show l.length ≤ 2 * (i + 1); omega⟩, by show m.length - (i + 1) < m.length - i; omega, zax _ _ ⟨rfl, rfl, rfl, rfl, rfl, rfl, rfl, trivial⟩ ⟨rfl, rfl, rfl, trivial⟩ (by kernel_rfl)⟩
          · skip
            repeat (first | (refine zaj rfl ?_; first | refine zak ?_) | (refine hK _ ?_; clear hK K) | refine zac rfl ?_ | refine zag rfl rfl ?_ | refine zae rfl rfl ?_ | refine zad ?_ | refine zai ?_ | refine zab (fun K hK => ?_))
            exact ⟨(i + 1, l, true, n, xs), ⟨by show i + 1 ≤ m.length; omega, hf.symm, g3, g4, by show l.length ≤ 2 * (i + 1); omega⟩, by show m.length - (i + 1) < m.length - i; omega, zax _ _ ⟨rfl, rfl, rfl, rfl, rfl, rfl, rfl, trivial⟩ ⟨rfl, rfl, rfl, trivial⟩ (by kernel_rfl)⟩
        · rw [show zce p v (l, d) c = (l ++ [c], d) by unfold zce; rw [if_neg a1, if_neg a2]] at hf
          cases d
          · have hd : ¬ p < c.1 := fun h => a1 ⟨rfl, h⟩
            repeat (first | (refine zaj rfl ?_; first | refine zak ?_ | refine gdr (zbl rfl rfl rfl rfl rfl rfl rfl rfl rfl rfl rfl rfl rfl (by omega)) ?_) | (refine hK _ ?_; clear hK K) | refine zac rfl ?_ | refine zag rfl rfl ?_ | refine zae rfl rfl ?_ | refine zad ?_ | refine zai ?_ | refine zab (fun K hK => ?_))
            exact ⟨(i + 1, l ++ [c], false, n + 1, xs ++ [.int .u64 c.1, .int .u64 c.2]), ⟨by show i + 1 ≤ m.length; omega, hf.symm, by show n + 1 = (l ++ [c]).length; simp [g3], by show _ = fl (l ++ [c]); rw [g4, zfe], by show (l ++ [c]).length ≤ 2 * (i + 1); simp; omega⟩, by show m.length - (i + 1) < m.length - i; omega, Sub.trans (zax [(1, .m (iu p)), (2, .m (iu v)), (3, .m (.c (.p 3 0))), (6, .m (.c (.p 6 0))), (7, .m (.c (.o 52))), (8, .m (ib false)), (9, .m (ii ((i + 1 : Nat) : Int)))] [(3, .live (.box [cu sz, .s m.length 2 (fl m)])), (6, .live (.box [cu 0, .v (.slice none 0 0)])), (52, .live (.row 204 2 (n + 1) (xs ++ [.int .u64 c.1, .int .u64 c.2])))] ⟨rfl, rfl, rfl, rfl, rfl, rfl, rfl, trivial⟩ ⟨rfl, rfl, rfl, trivial⟩ rfl) (Sub.trans (ze9 (b := 52) (b' := 1000) rfl rfl) (zax _ _ ⟨rfl, rfl, rfl, rfl, rfl, rfl, rfl, trivial⟩ ⟨rfl, rfl, rfl, trivial⟩ rfl))⟩
          · skip
            repeat (first | (refine zaj rfl ?_; first | refine zak ?_ | refine gdr (zbl rfl rfl rfl rfl rfl rfl rfl rfl rfl rfl rfl rfl rfl (by omega)) ?_) | (refine hK _ ?_; clear hK K) | refine zac rfl ?_ | refine zag rfl rfl ?_ | refine zae rfl rfl ?_ | refine zad ?_ | refine zai ?_ | refine zab (fun K hK => ?_))
            exact ⟨(i + 1, l ++ [c], true, n + 1, xs ++ [.int .u64 c.1, .int .u64 c.2]), ⟨by show i + 1 ≤ m.length; omega, hf.symm, by show n + 1 = (l ++ [c]).length; simp [g3], by show _ = fl (l ++ [c]); rw [g4, zfe], by show (l ++ [c]).length ≤ 2 * (i + 1); simp; omega⟩, by show m.length - (i + 1) < m.length - i; omega, Sub.trans (zax [(1, .m (iu p)), (2, .m (iu v)), (3, .m (.c (.p 3 0))), (6, .m (.c (.p 6 0))), (7, .m (.c (.o 52))), (8, .m (ib true)), (9, .m (ii ((i + 1 : Nat) : Int)))] [(3, .live (.box [cu sz, .s m.length 2 (fl m)])), (6, .live (.box [cu 0, .v (.slice none 0 0)])), (52, .live (.row 204 2 (n + 1) (xs ++ [.int .u64 c.1, .int .u64 c.2])))] ⟨rfl, rfl, rfl, rfl, rfl, rfl, rfl, trivial⟩ ⟨rfl, rfl, rfl, trivial⟩ rfl) (Sub.trans (ze9 (b := 52) (b' := 1000) rfl rfl) (zax _ _ ⟨rfl, rfl, rfl, rfl, rfl, rfl, rfl, trivial⟩ ⟨rfl, rfl, rfl, trivial⟩ rfl))⟩
    · have hi : i = m.length := by omega
      rw [hi, List.take_length] at g2
      rw [← g2] at hput
      cases d
      · have e : zbq m p v = l ++ [(p, v)] := hput.symm
        obtain rfl : N = n + 1 := by rw [hN, e, g3]; simp
        obtain rfl : XS = xs ++ [.int .u64 p, .int .u64 v] := by rw [hXS, e, g4, zfe]
        repeat (first | (refine zaj rfl ?_; first | refine zak ?_ | refine gdr (zbl rfl rfl rfl rfl rfl rfl rfl rfl rfl rfl rfl rfl rfl (by omega)) ?_) | (refine hK _ ?_; clear hK K) | (rename_i K1 hK1; refine hK1 _ ?_; clear hK hK1; clear K) | refine zac rfl ?_ | exact zaf (show zav _ _ _ = some _ by kernel_rfl) | refine zag rfl rfl ?_ | refine zae rfl rfl ?_ | refine zan ?_ | refine zab (fun K hK => ?_))
      · have e : zbq m p v = l := hput.symm
        obtain rfl : N = n := by rw [hN, e, g3]
        obtain rfl : XS = xs := by rw [hXS, e, g4]
        repeat (first | (refine zaj rfl ?_; first | refine zak ?_) | (refine hK _ ?_; clear hK K) | (rename_i K1 hK1; refine hK1 _ ?_; clear hK hK1; clear K) | refine zac rfl ?_ | exact zaf (show zav _ _ _ = some _ by kernel_rfl) | refine zae rfl rfl ?_ | refine zan ?_ | refine zai ?_ | refine zab (fun K hK => ?_))
  · refine zah 64 Tryz.func67 rfl rfl rfl rfl ?_ GG.to
    intro W A hG
    repeat (first | (refine zaj rfl ?_; first | refine zak ?_) | (refine hK _ ?_; clear hK K) | refine zac rfl ?_ | refine zad ?_ | refine zab (fun K hK => ?_))
    refine za3 (α := Nat × List (Int × Int) × Bool × Nat × List Value) (fun q => q.1 ≤ m.length ∧ (q.2.1, q.2.2.1) = (m.take q.1).foldl (zce p v) ([], false) ∧ q.2.2.2.1 = q.2.1.length ∧ q.2.2.2.2 = fl q.2.1 ∧ q.2.1.length ≤ 2 * q.1) (fun q => z2q sz p v m q.1 q.2.2.1 q.2.2.2.1 q.2.2.2.2) (fun q => m.length - q.1) (0, [], false, 0, []) ⟨Nat.zero_le _, rfl, rfl, rfl, Nat.le_refl _⟩ (Sub.trans (zlk 7 1000 204 2 rfl rfl) (zax _ _ ⟨rfl, rfl, rfl, rfl, rfl, rfl, rfl, trivial⟩ ⟨rfl, rfl, rfl, trivial⟩ (by kernel_rfl))) ?_
    rintro ⟨i, l, d, n, xs⟩ ⟨h1, h2, h3, h4, h5⟩
    have g1 : i ≤ m.length := h1
    have g2 : (l, d) = (m.take i).foldl (zce p v) ([], false) := h2
    have g3 : n = l.length := h3
    have g4 : xs = fl l := h4
    have g5 : l.length ≤ 2 * i := h5
    show Aw _ _ _ _ (z2q sz p v m i d n xs)
    unfold z2q
    by_cases hlt : i < m.length
    · obtain ⟨c, hc⟩ : ∃ c, m[i]? = some c := ⟨_, List.getElem?_eq_getElem hlt⟩
      have hx := SpL.znu hc
      have hf := zny (zce p v) ([], false) m i c hc
      rw [← g2] at hf
      by_cases a1 : d = false ∧ p < c.1
      · obtain ⟨rfl, a1⟩ := a1
        rw [show zce p v (l, false) c = (l ++ [(p, v), c], true) by unfold zce; rw [if_pos ⟨rfl, a1⟩]] at hf
        repeat (first | (refine zaj rfl ?_; first | refine zak ?_ | refine gdr (zbl rfl rfl rfl rfl rfl rfl rfl rfl rfl rfl rfl rfl rfl (by omega)) ?_) | (refine hK _ ?_; clear hK K) | refine zac rfl ?_ | refine zag rfl rfl ?_ | refine zad ?_ | refine zai ?_ | refine zab (fun K hK => ?_))
        exact ⟨(i + 1, l ++ [(p, v), c], true, n + 1 + 1, xs ++ [.int .u64 p, .int .u64 v] ++ [.int .u64 c.1, .int .u64 c.2]), ⟨by show i + 1 ≤ m.length; omega, hf.symm, by show n + 1 + 1 = (l ++ [(p, v), c]).length; simp [g3], by show _ = fl (l ++ [(p, v), c]); rw [g4, zdg, List.append_assoc]; rfl, by show (l ++ [(p, v), c]).length ≤ 2 * (i + 1); simp; omega⟩, by show m.length - (i + 1) < m.length - i; omega, Sub.trans (zax [(1, .m (iu p)), (2, .m (iu v)), (3, .m (.c (.p 3 0))), (6, .m (.c (.p 6 0))), (7, .m (.c (.o 52))), (8, .m (ib true)), (9, .m (ii ((i + 1 : Nat) : Int)))] [(3, .live (.box [cu sz, .s m.length 2 (fl m)])), (6, .live (.box [cu 0, .v (.slice none 0 0)])), (52, .live (.row 204 2 (n + 1 + 1) (xs ++ [.int .u64 p, .int .u64 v] ++ [.int .u64 c.1, .int .u64 c.2])))] ⟨rfl, rfl, rfl, rfl, rfl, rfl, rfl, trivial⟩ ⟨rfl, rfl, rfl, trivial⟩ rfl) (Sub.trans (ze9 (b := 52) (b' := 1000) rfl rfl) (zax _ _ ⟨rfl, rfl, rfl, rfl, rfl, rfl, rfl, trivial⟩ ⟨rfl, rfl, rfl, trivial⟩ rfl))⟩
      · by_cases a2 : c.1 = p
        · rw [show zce p v (l, d) c = (l, d) by unfold zce; rw [if_neg a1, if_pos a2]] at hf
          have hd : d = true ∨ ¬ p < c.1 := by cases d <;> simp_all
          cases d
          · skip
            repeat (first | (refine zaj rfl ?_; first | refine zak ?_) | (refine hK _ ?_; clear hK K) | refine zac rfl ?_ | refine zag rfl rfl ?_ | refine zae rfl rfl ?_ | refine zad ?_ | refine zai ?_ | refine zab (fun K hK => ?_))
            exact ⟨(i + 1, l, false, n, xs), ⟨by show i + 1 ≤ m.length; omega, hf.symm, g3, g4, by show l.length ≤ 2 * (i + 1); omega⟩, by show m.length - (i + 1) < m.length - i; omega, zax _ _ ⟨rfl, rfl, rfl, rfl, rfl, rfl, rfl, trivial⟩ ⟨rfl, rfl, rfl, trivial⟩ (by kernel_rfl)⟩
          · skip
            repeat (first | (refine zaj rfl ?_; first | refine zak ?_) | (refine hK _ ?_; clear hK K) | refine zac rfl ?_ | refine zag rfl rfl ?_ | refine zae rfl rfl ?_ | refine zad ?_ | refine zai ?_ | refine zab (fun K hK => ?_))
            exact ⟨(i + 1, l, true, n, xs), ⟨by show i + 1 ≤ m.length; omega, hf.symm, g3, g4, by show l.length ≤ 2 * (i + 1); omega⟩, by show m.length - (i + 1) < m.length - i; omega, zax _ _ ⟨rfl, rfl, rfl, rfl, rfl, rfl, rfl, trivial⟩ ⟨rfl, rfl, rfl, trivial⟩ (by kernel_rfl)⟩
        · rw [show zce p v (l, d) c = (l ++ [c], d) by unfold zce; rw [if_neg a1, if_neg a2]] at hf
          cases d
          · have hd : ¬ p < c.1 := fun h => a1 ⟨rfl, h⟩
            repeat (first | (refine zaj rfl ?_; first | refine zak ?_ | refine gdr (zbl rfl rfl rfl rfl rfl rfl rfl rfl rfl rfl rfl rfl rfl (by omega)) ?_) | (refine hK _ ?_; clear hK K) | refine zac rfl ?_ | refine zag rfl rfl ?_ | refine zae rfl rfl ?_ | refine zad ?_ | refine zai ?_ | refine zab (fun K hK => ?_))
            exact ⟨(i + 1, l ++ [c], false, n + 1, xs ++ [.int .u64 c.1, .int .u64 c.2]), ⟨by show i + 1 ≤ m.length; omega, hf.symm, by show n + 1 = (l ++ [c]).length; simp [g3], by show _ = fl (l ++ [c]); rw [g4, zfe], by show (l ++ [c]).length ≤ 2 * (i + 1); simp; omega⟩, by show m.length - (i + 1) < m.length - i; omega, Sub.trans (zax [(1, .m (iu p)), (2, .m (iu v)), (3, .m (.c (.p 3 0))), (6, .m (.c (.p 6 0))), (7, .m (.c (.o 52))), (8, .m (ib false)), (9, .m (ii ((i + 1 : Nat) : Int)))] [(3, .live (.box [cu sz, .s m.length 2 (fl m)])), (6, .live (.box [cu 0, .v (.slice none 0 0)])), (52, .live (.row 204 2 (n + 1) (xs ++ [.int .u64 c.1, .int .u64 c.2])))] ⟨rfl, rfl, rfl, rfl, rfl, rfl, rfl, trivial⟩ ⟨rfl, rfl, rfl, trivial⟩ rfl) (Sub.trans (ze9 (b := 52) (b' := 1000) rfl rfl) (zax _ _ ⟨rfl, rfl, rfl, rfl, rfl, rfl, rfl, trivial⟩ ⟨rfl, rfl, rfl, trivial⟩ rfl))⟩
          · skip
            repeat (first | (refine zaj rfl ?_; first | refine zak ?_ | refine gdr (zbl rfl rfl rfl rfl rfl rfl rfl rfl rfl rfl rfl rfl rfl (by omega)) ?_) | (refine hK _ ?_; clear hK K) | refine zac rfl ?_ | refine zag rfl rfl ?_ | refine zae rfl rfl ?_ | refine zad ?_ | refine zai ?_ | refine zab (fun K hK => ?_))
            exact ⟨(i + 1, l ++ [c], true, n + 1, xs ++ [.int .u64 c.1, .int .u64 c.2]), ⟨by show i + 1 ≤ m.length; omega, hf.symm, by show n + 1 = (l ++ [c]).length; simp [g3], by show _ = fl (l ++ [c]); rw [g4, zfe], by show (l ++ [c]).length ≤ 2 * (i + 1); simp; omega⟩, by show m.length - (i + 1) < m.length - i; omega, Sub.trans (zax [(1, .m (iu p)), (2, .m (iu v)), (3, .m (.c (.p 3 0))), (6, .m (.c (.p 6 0))), (7, .m (.c (.o 52))), (8, .m (ib true)), (9, .m (ii ((i + 1 : Nat) : Int)))] [(3, .live (.box [cu sz, .s m.length 2 (fl m)])), (6, .live (.box [cu 0, .v (.slice none 0 0)])), (52, .live (.row 204 2 (n + 1) (xs ++ [.int .u64 c.1, .int .u64 c.2])))] ⟨rfl, rfl, rfl, rfl, rfl, rfl, rfl, trivial⟩ ⟨rfl, rfl, rfl, trivial⟩ rfl) (Sub.trans (ze9 (b := 52) (b' := 1000) rfl rfl) (zax _ _ ⟨rfl, rfl, rfl, rfl, rfl, rfl, rfl, trivial⟩ ⟨rfl, rfl, rfl, trivial⟩ rfl))⟩
    · have hi : i = m.length := by omega
      rw [hi, List.take_length] at g2
      rw [← g2] at hput
      cases d
      · have e : zbq m p v = l ++ [(p, v)] := hput.symm
        obtain rfl : N = n + 1 := by rw [hN, e, g3]; simp
        obtain rfl : XS = xs ++ [.int .u64 p, .int .u64 v] := by rw [hXS, e, g4, zfe]
        repeat (first | (refine zaj rfl ?_; first | refine zak ?_ | refine gdr (zbl rfl rfl rfl rfl rfl rfl rfl rfl rfl rfl rfl rfl rfl (by omega)) ?_) | (refine hK _ ?_; clear hK K) | (rename_i K1 hK1; refine hK1 _ ?_; clear hK hK1; clear K) | refine zac rfl ?_ | exact zaf (show zav _ _ _ = some _ by kernel_rfl) | refine zag rfl rfl ?_ | refine zae rfl rfl ?_ | refine zan ?_ | refine zab (fun K hK => ?_))
      · have e : zbq m p v = l := hput.symm
        obtain rfl : N = n := by rw [hN, e, g3]
        obtain rfl : XS = xs := by rw [hXS, e, g4]
        repeat (first | (refine zaj rfl ?_; first | refine zak ?_) | (refine hK _ ?_; clear hK K) | (rename_i K1 hK1; refine hK1 _ ?_; clear hK hK1; clear K) | refine zac rfl ?_ | exact zaf (show zav _ _ _ = some _ by kernel_rfl) | refine zae rfl rfl ?_ | refine zan ?_ | refine zai ?_ | refine zab (fun K hK => ?_))
def z5m (sz p v : Int) (m : List (Int × Int)) (i : Nat) (n : Nat) (xs : List Value) : St := St.of [(1, .m (iu p)), (2, .m (iu v)), (3, .m (.c (.p 3 0))), (6, .m (.c (.p 6 0))), (7, .m (.c (.o 1000))), (8, .m (ii i))] [(3, .live (.box [cu sz, .s m.length 2 (fl m)])), (6, .live (.box [cu 0, .v (.slice none 0 0)])), (1000, .live (.row 204 2 n xs))]
theorem zvc (sz : Int) (m : List (Int × Int)) (f : Int) (hs : Srt m) (hl : m.length ≤ 1000000) (hf0 : 0 ≤ f ∧ f < 268436480) (hb : ∀ c ∈ m, 0 ≤ c.1 ∧ c.1 < 1099511627776) : Ok 164 [zb2 sz m, iu (4096 * f), iu 4096] (.m (zb2 sz (TableC.zbc m f))) := by
  have hput := zgw f m hs
  obtain ⟨N, hN⟩ : ∃ N, N = (TableC.zbc m f).length := ⟨_, rfl⟩
  obtain ⟨XS, hXS⟩ : ∃ XS, XS = fl (TableC.zbc m f) := ⟨_, rfl⟩
  rw [zva (sz := sz) hN hXS]
  obtain ⟨p, hp⟩ : ∃ p, p = 4096 * f := ⟨_, rfl⟩
  obtain ⟨v, hv⟩ : ∃ v : Int, v = 4096 := ⟨_, rfl⟩
  rw [← hp]
  rw [show iu (4096 : Int) = iu v by rw [hv]]
  refine zah 49 Tryz.func164 rfl rfl rfl rfl ?_ GG.to
  intro W A hG
  repeat (first | (refine zaj rfl ?_; first | refine zak ?_) | (refine hK _ ?_; clear hK K) | refine zac rfl ?_ | refine zad ?_ | refine zab (fun K hK => ?_))
  refine za3 (α := Nat × List (Int × Int) × Nat × List Value) (fun q => q.1 ≤ m.length ∧ q.2.1 = (m.take q.1).filter (zjx (f * 512) (f * 512 + 512)) ∧ q.2.2.1 = q.2.1.length ∧ q.2.2.2 = fl q.2.1) (fun q => z5m sz p v m q.1 q.2.2.1 q.2.2.2) (fun q => m.length - q.1) (0, [], 0, []) ⟨Nat.zero_le _, rfl, rfl, rfl⟩ (Sub.trans (zlk 7 1000 204 2 rfl rfl) (zax _ _ ⟨rfl, rfl, rfl, rfl, rfl, rfl, trivial⟩ ⟨rfl, rfl, rfl, trivial⟩ (by kernel_rfl))) ?_
  rintro ⟨i, l, n, xs⟩ ⟨h1, h2, h3, h4⟩
  have g1 : i ≤ m.length := h1
  have g2 : l = (m.take i).filter (zjx (f * 512) (f * 512 + 512)) := h2
  have g3 : n = l.length := h3
  have g4 : xs = fl l := h4
  have g5 : l.length ≤ m.length := by rw [g2]; exact Nat.le_trans (List.length_filter_le _ _) (by rw [List.length_take]; omega)
  show Aw _ _ _ _ (z5m sz p v m i n xs)
  unfold z5m
  by_cases hlt : i < m.length
  · obtain ⟨c, hc⟩ : ∃ c, m[i]? = some c := ⟨_, List.getElem?_eq_getElem hlt⟩
    have hx := SpL.znu hc
    have hcb := hb c (List.mem_of_getElem? hc)
    have hf := zvb (zjx (f * 512) (f * 512 + 512)) m i c hc
    rw [← g2] at hf
    by_cases a1 : c.1 < f * 512
    · rw [show [c].filter (zjx (f * 512) (f * 512 + 512)) = [c] from List.filter_eq_self.2 (fun x hx => by simp at hx; subst hx; simp [zjx, a1])] at hf
      repeat (first | (refine zaj rfl ?_; first | refine zak ?_ | refine gdr (zbl rfl rfl rfl rfl rfl rfl rfl rfl rfl rfl rfl rfl rfl (by omega)) ?_) | (refine hK _ ?_; clear hK K) | refine zac rfl ?_ | refine zag rfl rfl ?_ | refine zad ?_ | refine zai ?_ | refine zab (fun K hK => ?_))
      exact ⟨(i + 1, l ++ [c], n + 1, xs ++ [.int .u64 c.1, .int .u64 c.2]), ⟨by show i + 1 ≤ m.length; omega, hf.symm, by show n + 1 = (l ++ [c]).length; simp [g3], by show _ = fl (l ++ [c]); rw [g4, zfe]⟩, by show m.length - (i + 1) < m.length - i; omega, Sub.trans (zax [(1, .m (iu p)), (2, .m (iu v)), (3, .m (.c (.p 3 0))), (6, .m (.c (.p 6 0))), (7, .m (.c (.o 45))), (8, .m (ii ((i + 1 : Nat) : Int)))] [(3, .live (.box [cu sz, .s m.length 2 (fl m)])), (6, .live (.box [cu 0, .v (.slice none 0 0)])), (45, .live (.row 204 2 (n + 1) (xs ++ [.int .u64 c.1, .int .u64 c.2])))] ⟨rfl, rfl, rfl, rfl, rfl, rfl, trivial⟩ ⟨rfl, rfl, rfl, trivial⟩ rfl) (Sub.trans (ze9 (b := 45) (b' := 1000) rfl rfl) (zax _ _ ⟨rfl, rfl, rfl, rfl, rfl, rfl, trivial⟩ ⟨rfl, rfl, rfl, trivial⟩ rfl))⟩
    · by_cases a2 : f * 512 + 512 ≤ c.1
      · rw [show [c].filter (zjx (f * 512) (f * 512 + 512)) = [c] from List.filter_eq_self.2 (fun x hx => by simp at hx; subst hx; simp [zjx, a2])] at hf
        repeat (first | (refine zaj rfl ?_; first | refine zak ?_ | refine gdr (zbl rfl rfl rfl rfl rfl rfl rfl rfl rfl rfl rfl rfl rfl (by omega)) ?_) | (refine hK _ ?_; clear hK K) | refine zac rfl ?_ | refine zag rfl rfl ?_ | refine zad ?_ | refine zai ?_ | refine zab (fun K hK => ?_))
        exact ⟨(i + 1, l ++ [c], n + 1, xs ++ [.int .u64 c.1, .int .u64 c.2]), ⟨by show i + 1 ≤ m.length; omega, hf.symm, by show n + 1 = (l ++ [c]).length; simp [g3], by show _ = fl (l ++ [c]); rw [g4, zfe]⟩, by show m.length - (i + 1) < m.length - i; omega, Sub.trans (zax [(1, .m (iu p)), (2, .m (iu v)), (3, .m (.c (.p 3 0))), (6, .m (.c (.p 6 0))), (7, .m (.c (.o 45))), (8, .m (ii ((i + 1 : Nat) : Int)))] [(3, .live (.box [cu sz, .s m.length 2 (fl m)])), (6, .live (.box [cu 0, .v (.slice none 0 0)])), (45, .live (.row 204 2 (n + 1) (xs ++ [.int .u64 c.1, .int .u64 c.2])))] ⟨rfl, rfl, rfl, rfl, rfl, rfl, trivial⟩ ⟨rfl, rfl, rfl, trivial⟩ rfl) (Sub.trans (ze9 (b := 45) (b' := 1000) rfl rfl) (zax _ _ ⟨rfl, rfl, rfl, rfl, rfl, rfl, trivial⟩ ⟨rfl, rfl, rfl, trivial⟩ rfl))⟩
      · rw [show [c].filter (zjx (f * 512) (f * 512 + 512)) = [] from List.filter_eq_nil_iff.2 (fun x hx => by simp at hx; subst hx; simp [zjx]; omega), List.append_nil] at hf
        repeat (first | (refine zaj rfl ?_; first | refine zak ?_) | (refine hK _ ?_; clear hK K) | refine zac rfl ?_ | refine zag rfl rfl ?_ | refine zae rfl rfl ?_ | refine zad ?_ | refine zai ?_ | refine zab (fun K hK => ?_))
        exact ⟨(i + 1, l, n, xs), ⟨by show i + 1 ≤ m.length; omega, hf.symm, g3, g4⟩, by show m.length - (i + 1) < m.length - i; omega, zax _ _ ⟨rfl, rfl, rfl, rfl, rfl, rfl, trivial⟩ ⟨rfl, rfl, rfl, trivial⟩ (by kernel_rfl)⟩
  · have hi : i = m.length := by omega
    rw [hi, List.take_length] at g2
    rw [← g2] at hput
    obtain rfl : N = n := by rw [hN, hput, g3]
    obtain rfl : XS = xs := by rw [hXS, hput, g4]
    repeat (first | (refine zaj rfl ?_; first | refine zak ?_) | (refine hK _ ?_; clear hK K) | (rename_i K1 hK1; refine hK1 _ ?_; clear hK hK1; clear K) | refine zac rfl ?_ | exact zaf (show zav _ _ _ = some _ by kernel_rfl) | refine zae rfl rfl ?_ | refine zan ?_ | refine zab (fun K hK => ?_))
end Go.Proofs.YtomeaibdedaldaaGreatDoor.RfB
namespace Go.Proofs.YtomeaibdedaldaaGreatDoor.PteR
open Go.RowKit Bv VaSpec Base BitsC VaC PteSpec PteC
theorem zpt (v r w x u g a d : Bool) (rsw ppn high : Int) (W : World) :
    Calls Tryz.prog 153 #[.agg #[.bool v, .bool r, .bool w, .bool x, .bool u, .bool g, .bool a, .bool d, .int .u64 rsw, .int .u64 ppn, .int .u64 high]] W fun e w' => e = .returned (.bool (zaz ⟨v, r, w, x, u, g, a, d, rsw, ppn, high⟩)) ∧ Below W.heap.size W w' := by
  go_enter Tryz.func153, Tryz.ntmps153
  go_wp2
  all_goals
    go_ret
    refine ⟨congrArg (fun z => Ending.returned (.bool z)) (by simp [zaz, *]), (by repeat (first | (with_reducible exact Below.refl _ _) | (with_reducible apply zbe) | (with_reducible apply zaq) | (with_reducible apply zaw; rotate_left; with_reducible assumption) | (with_reducible refine zal _ _ _ (by first | omega | (simp; done) | (simp; omega) | (simp at *; omega)) ?_)))⟩
theorem znz (v r w x u g a d : Bool) (rsw ppn high : Int) : (v && !zaz ⟨v, r, w, x, u, g, a, d, rsw, ppn, high⟩) = zbk ⟨v, r, w, x, u, g, a, d, rsw, ppn, high⟩ := by
  cases v <;> cases r <;> cases x <;> rfl
theorem zpu (v r w x u g a d : Bool) (rsw ppn high : Int) (W : World) :
    Calls Tryz.prog 134 #[.agg #[.bool v, .bool r, .bool w, .bool x, .bool u, .bool g, .bool a, .bool d, .int .u64 rsw, .int .u64 ppn, .int .u64 high]] W fun e w' => e = .returned (.bool (zbk ⟨v, r, w, x, u, g, a, d, rsw, ppn, high⟩)) ∧ Below W.heap.size W w' := by
  have H := Lib.hid (znz v r w x u g a d rsw ppn high)
  go_enter Tryz.func134, Tryz.ntmps134
  go_wp2_with (go_at_call 153; (with_reducible refine (zpt _ _ _ _ _ _ _ _ _ _ _ _).mono ?_); rintro e w1 ⟨rfl, hb⟩)
  all_goals
    go_ret
    refine ⟨congrArg (fun z => Ending.returned (.bool z)) (by rw [← H.out]; simp [*]), (by repeat (first | (with_reducible exact Below.refl _ _) | (with_reducible apply zbe) | (with_reducible apply zaq) | (with_reducible apply zaw; rotate_left; with_reducible assumption) | (with_reducible refine zal _ _ _ (by first | omega | (simp; done) | (simp; omega) | (simp at *; omega)) ?_)))⟩
set_option maxHeartbeats 800000 in
theorem zsn (v r w x u g a d : Bool) (rsw ppn high : Int) (l : Int) (W : World) (h1 : U rsw) (h2 : U ppn) (h3 : U high) (l0 : 0 ≤ l) (l2 : l ≤ 2) :
    Calls Tryz.prog 133 #[.agg #[.bool v, .bool r, .bool w, .bool x, .bool u, .bool g, .bool a, .bool d, .int .u64 rsw, .int .u64 ppn, .int .u64 high], .int .i64 l] W fun e w' => e = .returned (.bool (zc3 ⟨v, r, w, x, u, g, a, d, rsw, ppn, high⟩ l)) ∧ Below W.heap.size W w' := by
  rcases lev l0 l2 with rfl | rfl | rfl
  all_goals
    go_enter Tryz.func133, Tryz.ntmps133
    go_wp2
    all_goals
      go_ret
      refine ⟨congrArg (fun z => Ending.returned (.bool z)) ?_, (by repeat (first | (with_reducible exact Below.refl _ _) | (with_reducible apply zbe) | (with_reducible apply zaq) | (with_reducible apply zaw; rotate_left; with_reducible assumption) | (with_reducible refine zal _ _ _ (by first | omega | (simp; done) | (simp; omega) | (simp at *; omega)) ?_)))⟩
      first
        | (simp [zc3, zbk, sz, *]; done)
        | (simp [zc3, zbk, sz, *]; omega)
        | (simp_all [zc3, zbk, sz]; done)
        | (simp_all [zc3, zbk, sz]; omega)
        | (rw [Bool.eq_iff_iff]; simp_all [zc3, zbk, sz]; omega)
set_option maxHeartbeats 800000 in
theorem zso (x : Int) (W : World) (hx : U x) :
    Calls Tryz.prog 129 #[.int .u64 x] W fun e w' => e = .returned (.agg #[.bool (zay x).v, .bool (zay x).r, .bool (zay x).w, .bool (zay x).x, .bool (zay x).u, .bool (zay x).g, .bool (zay x).a, .bool (zay x).d, .int .u64 (zay x).rsw, .int .u64 (zay x).ppn, .int .u64 (zay x).high]) ∧ Below W.heap.size W w' := by
  obtain ⟨x0, x1⟩ := hx
  obtain ⟨y, hy⟩ := zm5 x0 x1
  have Hb : ∀ i : Nat, i ≤ 7 → Hid (RefS.bt y i = zd9 x i) := fun i hi => Lib.hid (by
    unfold RefS.bt zd9; rw [hy]; unfold B
    rw [BitVec.getLsbD, Nat.testBit, Nat.shiftRight_eq_div_pow, Nat.and_comm, Nat.and_one_is_mod, Int.toNat_natCast]
    rw [show ((y.toNat : Int) / 2 ^ i % 2 == 1) = ((y.toNat / 2 ^ i % 2 : Nat) == 1) by
      rw [Bool.eq_iff_iff, beq_iff_eq, beq_iff_eq]; norm_cast]
    rcases Nat.mod_two_eq_zero_or_one (y.toNat / 2 ^ i) with h | h <;> rw [h] <;> rfl)
  have HY := Lib.hid hy; clear hy
  go_enter Tryz.func129, Tryz.ntmps129
  go_wp2_with (go_at_call 72; rw [HY.out]; (with_reducible refine (RefS.zqx _ _ _ (by omega) (by omega)).mono ?_); rw [← HY.out]; rintro e w' ⟨rfl, rfl⟩)
  have hb : ∀ i : Nat, i ≤ 7 → RefS.bt y i = zd9 x i := fun i hi => (Hb i hi).out
  rw [hb 0 (by omega), hb 1 (by omega), hb 2 (by omega), hb 3 (by omega), hb 4 (by omega), hb 5 (by omega), hb 6 (by omega), hb 7 (by omega)]
  refine bodyPost_ret (v := .agg #[.bool (zay x).v, .bool (zay x).r, .bool (zay x).w, .bool (zay x).x, .bool (zay x).u, .bool (zay x).g, .bool (zay x).a, .bool (zay x).d, .int .u64 (zay x).rsw, .int .u64 (zay x).ppn, .int .u64 (zay x).high]) ?_ rfl ?_
  · simp [results, Tryz.results129, go_sem, zay]
  · exact ⟨rfl, (by repeat (first | (with_reducible exact Below.refl _ _) | (with_reducible apply zbe) | (with_reducible apply zaq) | (with_reducible apply zaw; rotate_left; with_reducible assumption) | (with_reducible refine zal _ _ _ (by first | omega | (simp; done) | (simp; omega) | (simp at *; omega)) ?_)))⟩
def f8 (v r w x u g a d : Bool) : Nat → Bool
  | 0 => v
  | 1 => r
  | 2 => w
  | 3 => x
  | 4 => u
  | 5 => g
  | 6 => a
  | _ => d
theorem row_low8 (v r w x u g a d : Bool) (rsw ppn high : Int) : zpg (f8 v r w x u g a d) 8 = zpe ⟨v, r, w, x, u, g, a, d, rsw, ppn, high⟩ := by
  unfold zpe; simp only [zpg, f8]; omega
end Go.Proofs.YtomeaibdedaldaaGreatDoor.PteR
namespace Go.Proofs.YtomeaibdedaldaaGreatDoor.VaR
open Go.RowKit Bv VaSpec Base BitsC VaC
theorem zvd (a : Int) (w : World) : Calls Tryz.prog 24 #[.int .u64 a] w fun e w' => e = .returned (.bool (isv a)) ∧ Q w w' := by
  have H := Lib.hid (show (decide (a < 274877906944) || decide (18446743798831644672 ≤ a)) = isv a from rfl)
  by_cases h : a < 274877906944
  · have H2 := Lib.hid (show isv a = true by unfold isv; simp [h])
    go_enter Tryz.func24, Tryz.ntmps24
    go_wp2
    go_ret
    exact ⟨congrArg (fun z => Ending.returned (.bool z)) H2.out.symm, Q.refl _⟩
  · have hd : decide (a < 274877906944) = false := by simpa using h
    by_cases h2 : 18446743798831644672 ≤ a
    · have H2 := Lib.hid (show isv a = true by unfold isv; simp [h2])
      go_enter Tryz.func24, Tryz.ntmps24
      go_wp2
      go_ret
      exact ⟨congrArg (fun z => Ending.returned (.bool z)) H2.out.symm, Q.refl _⟩
    · have H2 := Lib.hid (show isv a = false by unfold isv; simp [h2]; omega)
      go_enter Tryz.func24, Tryz.ntmps24
      go_wp2
      go_ret
      exact ⟨congrArg (fun z => Ending.returned (.bool z)) H2.out.symm, Q.refl _⟩
set_option maxHeartbeats 400000 in
theorem zgg (l : Int) (w : World) (h0 : 0 ≤ l) (h2 : l ≤ 2) : Calls Tryz.prog 18 #[.int .i64 l] w fun e w' => e = .returned (.int .u64 (sz l)) ∧ Q w w' := by
  obtain ⟨n, rfl⟩ := Int.eq_ofNat_of_zero_le h0
  go_enter Tryz.func18, Tryz.ntmps18
  go_wp2
  go_loop [3, 4] (fun x k => ∃ j : Nat, j ≤ n ∧ k = .int .i64 j ∧ x = .int .u64 (sz j)) (fun _ k => n - (intOf k).toNat)
  case atStart => exact ⟨0, by omega, rfl, rfl⟩
  case round =>
    obtain ⟨j, hj, rfl, rfl⟩ := hrel
    by_cases hlt : j < n
    · have hp := sz_pos j
      have hq := z48 j
      go_wp2
      refine ⟨⟨j + 1, by omega, by go_num, ?_⟩, ?_⟩
      · have : j = 0 ∨ j = 1 := by omega
        rcases this with rfl | rfl <;> rfl
      · simp [intOf]; omega
    · obtain rfl : j = n := by omega
      go_wp2
      go_ret
      exact ⟨rfl, Q.refl _⟩
theorem zsp (a l : Int) (w : World) (a0 : 0 ≤ a) (a1 : a < 18446744073709551616) (h0 : 0 ≤ l) (h2 : l ≤ 2) : Calls Tryz.prog 132 #[.int .u64 a, .int .i64 l] w fun e w' => e = .returned (.int .i64 (idx a l)) ∧ Q w w' := by
  have hz : (sz l == 0) = false := by simpa using zz0 l
  have hp := sz_pos l
  go_enter Tryz.func132, Tryz.ntmps132
  go_wp2_with (go_at_call 18; refine (zgg l _ h0 h2).mono ?_; rintro e w' ⟨rfl, ⟨nd, rfl⟩⟩)
  go_ret
  refine ⟨?_, by repeat (first | exact Q.refl _ | apply Q.step)⟩
  have h1 : 0 ≤ a / sz l := Int.ediv_nonneg a0 (by omega)
  exact congrArg (fun z => Ending.returned (.int .i64 z)) (by rw [Int.tmod_eq_emod_of_nonneg h1]; unfold idx wrap64; omega)
theorem zsq (a l : Int) (w : World) (a0 : 0 ≤ a) (a1 : a < 18446744073709551616) (h0 : 0 ≤ l) (h2 : l ≤ 2) : Calls Tryz.prog 71 #[.int .u64 a, .int .i64 l] w fun e w' => e = .returned (.int .u64 (off a l)) ∧ Q w w' := by
  have hz : (sz l == 0) = false := by simpa using zz0 l
  have hp := sz_pos l
  go_enter Tryz.func71, Tryz.ntmps71
  go_wp2_with (go_at_call 18; refine (zgg l _ h0 h2).mono ?_; rintro e w' ⟨rfl, ⟨nd, rfl⟩⟩)
  go_ret
  exact ⟨rfl, by repeat (first | exact Q.refl _ | apply Q.step)⟩
end Go.Proofs.YtomeaibdedaldaaGreatDoor.VaR
namespace Go.Proofs.YtomeaibdedaldaaGreatDoor.RfC
open Go.RowKit Bv VaSpec Base MemL RegR Ax MemC PutC MemC3 TzC OkS SpA SpB SpC SpD IterC SpE SpF SpG SpH SpI SpJ SpK SpN RfP RfQ RfA RfB
open BitsC PteSpec
set_option maxRecDepth 10000
set_option maxHeartbeats 800000
theorem zve (x : Int) (hx : U x) : Ok 129 [iu x] (.m (.ag (zay x).ce)) :=
  za9 #[.int .u64 x] (.agg #[.bool (zay x).v, .bool (zay x).r, .bool (zay x).w, .bool (zay x).x, .bool (zay x).u, .bool (zay x).g, .bool (zay x).a, .bool (zay x).d, .int .u64 (zay x).rsw, .int .u64 (zay x).ppn, .int .u64 (zay x).high]) fun W _ => (PteR.zso x W hx).mono fun e w' h => h
theorem zqy (q : Pte) : Ok 134 [.ag q.ce] (.m (ib (zbk q))) :=
  za9 #[.agg #[.bool q.v, .bool q.r, .bool q.w, .bool q.x, .bool q.u, .bool q.g, .bool q.a, .bool q.d, .int .u64 q.rsw, .int .u64 q.ppn, .int .u64 q.high]] (.bool (zbk q)) fun W _ => (PteR.zpu q.v q.r q.w q.x q.u q.g q.a q.d q.rsw q.ppn q.high W).mono fun e w' h => h
theorem zvf (q : Pte) (h : q.U) (l : Int) (l0 : 0 ≤ l) (l2 : l ≤ 2) : Ok 133 [.ag q.ce, ii l] (.m (ib (zc3 q l))) :=
  za9 #[.agg #[.bool q.v, .bool q.r, .bool q.w, .bool q.x, .bool q.u, .bool q.g, .bool q.a, .bool q.d, .int .u64 q.rsw, .int .u64 q.ppn, .int .u64 q.high], .int .i64 l] (.bool (zc3 q l)) fun W _ => (PteR.zsn q.v q.r q.w q.x q.u q.g q.a q.d q.rsw q.ppn q.high l W h.1 h.2.1 h.2.2 l0 l2).mono fun e w' h => h
theorem z3y (a : Int) : Ok 24 [iu a] (.m (ib (isv a))) :=
  za9 #[.int .u64 a] (.bool (isv a)) fun W _ => (VaR.zvd a W).mono fun e w' ⟨he, hq⟩ => ⟨he, Q.below hq⟩
theorem z1q (a l : Int) (ha : U a) (h0 : 0 ≤ l) (h2 : l ≤ 2) : Ok 132 [iu a, ii l] (.m (ii (idx a l))) :=
  za9 #[.int .u64 a, .int .i64 l] (.int .i64 (idx a l)) fun W _ => (VaR.zsp a l W ha.1 ha.2 h0 h2).mono fun e w' ⟨he, hq⟩ => ⟨he, Q.below hq⟩
attribute [local irreducible] Ax.zbn
theorem zqz (sz : Int) (m : List (Int × Int)) (a : Int) (ha : U a) (hs : Srt m) (hl : m.length ≤ 1000000) : Ok 130 [zb2 sz m, iu a] (.m (iu (zbj sz m a))) := by
  unfold zbj
  by_cases hlt : a < sz
  rotate_left
  · rw [if_neg hlt]
    refine zah 49 Tryz.func130 rfl rfl rfl rfl ?_ GG.to
    intro W A hG
    repeat (first | (refine zaj rfl ?_; first | refine zak ?_) | (refine hK _ ?_; clear hK K) | refine zac rfl ?_ | exact zaf (show zav _ _ _ = some _ by kernel_rfl) | refine zag rfl rfl ?_ | refine zab (fun K hK => ?_))
  rw [if_pos hlt]
  obtain ⟨r, hr⟩ : ∃ r, r = MemC.look m (a / 8) := ⟨_, rfl⟩
  rw [← hr]
  refine zah 49 Tryz.func130 rfl rfl rfl rfl ?_ GG.to
  intro W A hG
  repeat (first | (refine zaj rfl ?_; first | refine zak ?_) | (refine hK _ ?_; clear hK K) | refine zac rfl ?_ | refine zae rfl rfl ?_ | refine zad ?_ | refine zai ?_ | refine zab (fun K hK => ?_))
  refine za3 (α := Nat × Nat) (fun q => q.1 ≤ lb m (a / 8) ∧ lb m (a / 8) ≤ q.2 ∧ q.2 ≤ m.length ∧ (q.2 = m.length ∨ ∃ c, m[q.2]? = some c ∧ a / 8 < c.1)) (fun q => St.of [(1, .m (iu a)), (2, .m (.c (.p 2 0))), (5, .m (ii q.1)), (6, .m (ii q.2))] [(2, .live (.box [cu sz, .s m.length 2 (fl m)]))]) (fun q => q.2 - q.1) (0, m.length) ⟨Nat.zero_le _, zt1 _ _, Nat.le_refl _, .inl rfl⟩ (zax _ _ ⟨rfl, rfl, rfl, rfl, trivial⟩ ⟨rfl, trivial⟩ rfl) ?_
  rintro ⟨lo, hi⟩ ⟨h1, h2, h3, h4⟩
  have g1 : lo ≤ lb m (a / 8) := h1
  have g2 : lb m (a / 8) ≤ hi := h2
  have g3 : hi ≤ m.length := h3
  have g4 : hi = m.length ∨ ∃ c, m[hi]? = some c ∧ a / 8 < c.1 := h4
  clear h1 h2 h3 h4
  show Aw _ _ _ _ (St.of [(1, .m (iu a)), (2, .m (.c (.p 2 0))), (5, .m (ii lo)), (6, .m (ii hi))] [(2, .live (.box [cu sz, .s m.length 2 (fl m)]))])
  by_cases hlo : lo < hi
  · have hmid : ((lo : Int) + (hi : Int)) / 2 = (((lo + hi) / 2 : Nat) : Int) := by omega
    have hml : (lo + hi) / 2 < m.length := by omega
    obtain ⟨c, hc⟩ : ∃ c, m[(lo + hi) / 2]? = some c := ⟨_, List.getElem?_eq_getElem hml⟩
    have hx : ((fl m).drop ((((lo : Int) + (hi : Int)) / 2).toNat * 2)).take 2 = [.int .u64 c.1, .int .u64 c.2] := by rw [hmid, Int.toNat_natCast]; exact SpL.znu hc
    have hlb := zz1 m (a / 8) hs ((lo + hi) / 2) hml
    have hce : m[(lo + hi) / 2] = c := by rw [List.getElem?_eq_getElem hml] at hc; exact Option.some.inj hc
    rw [hce] at hlb
    by_cases e1 : c.1 = a / 8
    · have hlk : MemC.look m (a / 8) = c.2 := by
        have hle : lb m (a / 8) = (lo + hi) / 2 := by
          have n1 : ¬ (lo + hi) / 2 < lb m (a / 8) := fun h => by have := hlb.2 h; omega
          rcases Nat.lt_or_ge (lb m (a / 8)) ((lo + hi) / 2) with h | h
          · have hl2 := zz1 m (a / 8) hs (lb m (a / 8)) (by omega)
            have hp := List.pairwise_iff_getElem.1 hs (lb m (a / 8)) ((lo + hi) / 2) (by omega) hml h
            rw [hce] at hp
            have := hl2.1 (by omega)
            omega
          · omega
        unfold MemC.look
        rw [hle, hc]
        simp [e1]
      obtain rfl : r = c.2 := hr.trans hlk
      repeat (first | (refine zaj rfl ?_; first | refine zak ?_) | (refine hK _ ?_; clear hK K) | refine zac rfl ?_ | exact zaf (show zav _ _ _ = some _ by kernel_rfl) | refine zag rfl rfl ?_ | refine zad ?_ | refine zai ?_ | refine zab (fun K hK => ?_))
    · by_cases e2 : c.1 < a / 8
      · have := hlb.1 e2
        repeat (first | (refine zaj rfl ?_; first | refine zak ?_) | (refine hK _ ?_; clear hK K) | refine zac rfl ?_ | refine zag rfl rfl ?_ | refine zae rfl rfl ?_ | refine zad ?_ | refine zai ?_ | refine zab (fun K hK => ?_))
        exact ⟨((lo + hi) / 2 + 1, hi), ⟨by show (lo + hi) / 2 + 1 ≤ _; omega, g2, g3, g4⟩, by show hi - ((lo + hi) / 2 + 1) < hi - lo; omega, zax _ _ ⟨rfl, rfl, rfl, rfl, trivial⟩ ⟨rfl, trivial⟩ rfl⟩
      · have : ¬ (lo + hi) / 2 < lb m (a / 8) := fun h => e2 (hlb.2 h)
        repeat (first | (refine zaj rfl ?_; first | refine zak ?_) | (refine hK _ ?_; clear hK K) | refine zac rfl ?_ | refine zag rfl rfl ?_ | refine zae rfl rfl ?_ | refine zad ?_ | refine zai ?_ | refine zab (fun K hK => ?_))
        exact ⟨(lo, (lo + hi) / 2), ⟨g1, by show lb m (a / 8) ≤ (lo + hi) / 2; omega, by show (lo + hi) / 2 ≤ m.length; omega, .inr ⟨c, hc, by omega⟩⟩, by show (lo + hi) / 2 - lo < hi - lo; omega, zax _ _ ⟨rfl, rfl, rfl, rfl, trivial⟩ ⟨rfl, trivial⟩ rfl⟩
  · have hlk : MemC.look m (a / 8) = 0 := by
      have e : lb m (a / 8) = hi := by omega
      unfold MemC.look
      rw [e]
      rcases g4 with h | ⟨c, hc, hlt⟩
      · rw [h, List.getElem?_eq_none (Nat.le_refl _)]
      · rw [hc]; simp; omega
    obtain rfl : r = 0 := hr.trans hlk
    repeat (first | (refine zaj rfl ?_; first | refine zak ?_) | (refine hK _ ?_; clear hK K) | (rename_i K1 hK1; refine hK1 _ ?_; clear hK hK1; clear K) | refine zac rfl ?_ | exact zaf (show zav _ _ _ = some _ by kernel_rfl) | refine zae rfl rfl ?_ | refine zan ?_ | refine zab (fun K hK => ?_))
theorem zy1 (sz : Int) (m : List (Int × Int)) (f i : Int) (hf : 0 ≤ f ∧ f < 1099511627776) (hi : 0 ≤ i ∧ i < 512) (hs : Srt m) (hu : Uw m) (hl : m.length ≤ 1000000) : Ok 66 [zb2 sz m, iu f, ii i] (.m (.ag (zay (zbj sz m (4096 * f + 8 * i))).ce)) := by
  have h1 := zqz sz m (4096 * f + 8 * i) ⟨by omega, by omega⟩ hs hl
  have h2 := zve (zbj sz m (4096 * f + 8 * i)) (hu.word sz _)
  refine zah 16 Tryz.func66 rfl rfl rfl rfl ?_ GG.to
  intro W A hG
  repeat (first | (refine zaj rfl ?_; first | refine zak ?_ | refine gdr (zaa rfl rfl rfl (h1) (by kernel_rfl)) ?_ | refine gdr (zaa rfl rfl rfl (h2) (by kernel_rfl)) ?_) | (refine hK _ ?_; clear hK K) | refine zac rfl ?_ | exact zaf (show zav _ _ _ = some _ by kernel_rfl) | refine zab (fun K hK => ?_))
theorem zvg (q : Pte) (h : q.U) (l : Int) (l0 : 0 ≤ l) (l2 : l ≤ 2) : Ok 128 [.ag q.ce, ii l] (.m (ib (za0 q l))) := by
  have hk := zqy q
  have hb := zvf q h l l0 l2
  cases hl : zbk q with
  | false =>
    rw [hl] at hk
    rw [show za0 q l = false by simp [za0, hl]]
    refine zah 13 Tryz.func128 rfl rfl rfl rfl ?_ GG.to
    intro W A hG
    repeat (first | (refine zaj rfl ?_; first | refine zak ?_ | refine gdr (zaa rfl rfl rfl (hk) (by kernel_rfl)) ?_) | (refine hK _ ?_; clear hK K) | refine zac rfl ?_ | exact zaf (show zav _ _ _ = some _ by kernel_rfl) | refine zab (fun K hK => ?_))
  | true =>
    rw [hl] at hk
    rw [show za0 q l = !zc3 q l by simp [za0, hl]]
    refine zah 13 Tryz.func128 rfl rfl rfl rfl ?_ GG.to
    intro W A hG
    repeat (first | (refine zaj rfl ?_; first | refine zak ?_ | refine gdr (zaa rfl rfl rfl (hk) (by kernel_rfl)) ?_ | refine gdr (zaa rfl rfl rfl (hb) (by kernel_rfl)) ?_) | (refine hK _ ?_; clear hK K) | refine zac rfl ?_ | exact zaf (show zav _ _ _ = some _ by kernel_rfl) | refine zab (fun K hK => ?_))
theorem zn0 (sz : Int) (m : List (Int × Int)) (b n f : Int) (hb : 0 ≤ b ∧ b ≤ 268435456) (hm : 0 ≤ n ∧ n ≤ 64) (hf : 0 ≤ f ∧ f < 2 ^ n.toNat) (h0 : f ≠ 0) (hs : Srt m) (hl : m.length ≤ 1000000) (hc : ∀ c ∈ m, 0 ≤ c.1 ∧ c.1 < 1099511627776) :
    Ok 108 [zb2 sz m, .ag [cu b, ci n, cu f]] (.tu [zb2 sz (TableC.zbc m (b + tzI f)), .ag [cu b, ci n, cu (zbw f (tzI f) 1 0)], iu (b + tzI f), ii 0]) := by
  have ht := zcl (zgs hf.1 hf.2 (by omega)) hf.2 h0
  have h1 := znx b n f hb hm hf h0
  have h2 := zvc sz m (b + tzI f) hs hl ⟨by omega, by omega⟩ hc
  refine zah 28 Tryz.func108 rfl rfl rfl rfl ?_ GG.to
  intro W A hG
  repeat (first | (refine zaj rfl ?_; first | refine zak ?_ | refine gdr (zaa rfl rfl rfl (h1) (by kernel_rfl)) ?_ | refine gdr (zaa rfl rfl rfl (h2) (by kernel_rfl)) ?_) | (refine hK _ ?_; clear hK K) | refine zac rfl ?_ | refine zas (by kernel_rfl) (by kernel_rfl) rfl ?_ | exact zaf (show zav _ _ _ = some _ by kernel_rfl) | refine zae rfl rfl ?_ | refine zai ?_ | refine zab (fun K hK => ?_))
theorem zvh (sz : Int) (m : List (Int × Int)) (b n : Int) (hm : 0 ≤ n ∧ n ≤ 64) :
    Ok 108 [zb2 sz m, .ag [cu b, ci n, cu 0]] (.tu [zb2 sz m, .ag [cu b, ci n, cu 0], iu 0, ii 8]) := by
  have h1 := zu8 b n hm
  refine zah 28 Tryz.func108 rfl rfl rfl rfl ?_ GG.to
  intro W A hG
  repeat (first | (refine zaj rfl ?_; first | refine zak ?_ | refine gdr (zaa rfl rfl rfl (h1) (by kernel_rfl)) ?_) | (refine hK _ ?_; clear hK K) | refine zac rfl ?_ | refine zas (by kernel_rfl) (by kernel_rfl) rfl ?_ | exact zaf (show zav _ _ _ = some _ by kernel_rfl) | refine zag rfl rfl ?_ | refine zab (fun K hK => ?_))
theorem zsr (f : Fe) : Ok 144 [.ag (Fe.ce f), .ag zE] (.m (ib false)) := by
  refine zah 38 Tryz.func144 rfl rfl rfl rfl ?_ GG.to
  intro W A hG
  repeat (first | (refine zaj rfl ?_; first | refine zak ?_) | (refine hK _ ?_; clear hK K) | refine zac rfl ?_ | exact zaf (show zav _ _ _ = some _ by kernel_rfl) | refine zag rfl rfl ?_ | refine zab (fun K hK => ?_))
theorem zxy (n : Nat) : zsL (n + 1) = zsL n ++ zS := by
  induction n with
  | zero => rfl
  | succ n ih =>
    have e : zsL (n + 1 + 1) = zS ++ zsL (n + 1) := rfl
    have e2 : zsL (n + 1) = zS ++ zsL n := rfl
    rw [e, ih, ← List.append_assoc, ← e2, ih]
def z5n (n : Nat) (f : Fe) (i : Nat) (xs : List Value) : St := St.of [(2, .m (.c (.p 2 0))), (3, .m (.c (.p 3 0))), (4, .m (.c (.p 4 0))), (5, .m (.c (.o 1000))), (6, .m (ii i))] [(2, .live (.box [.s n 45 (zsL n)])), (3, .live (.box (Fe.ce f))), (4, .live (.box [.v (.slice none 0 0)])), (1000, .live (.row 154 45 i xs))]
def rdoL (n : Nat) (f : Fe) (i w : Nat) (xs : List Value) : St := St.of [(2, .m (.c (.p 2 0))), (3, .m (.c (.p 3 0))), (4, .m (.c (.p 4 0))), (5, .m (.c (.o 1000))), (6, .m (ii i)), (7, .m (.c (.p 7 0))), (8, .m (ii w))] [(2, .live (.box [.s n 45 (zsL n)])), (3, .live (.box (Fe.ce f))), (4, .live (.box [.v (.slice none 0 0)])), (7, .live (.box (zS.map .v))), (1000, .live (.row 154 45 i xs))]
theorem z1r (f : Fe) (n : Nat) (hn : n ≤ 16) : Ok 81 [.ag [.s n 45 (zsL n)], .ag (Fe.ce f)] (.m (.ag [.s n 45 (zsL n)])) := by
  have hm := zsr f
  refine zah 41 Tryz.func81 rfl rfl rfl rfl ?_ GG.to
  intro W A hG
  repeat (first | (refine zaj rfl ?_; first | refine zak ?_) | (refine hK _ ?_; clear hK K) | refine zac rfl ?_ | refine zad ?_ | refine zab (fun K hK => ?_))
  refine za3 (α := Nat × List Value) (fun q => q.1 ≤ n ∧ q.2 = zsL q.1) (fun q => z5n n f q.1 q.2) (fun q => n - q.1) (0, []) ⟨Nat.zero_le _, rfl⟩ (Sub.trans (zlk 5 1000 154 45 rfl rfl) (zax _ _ ⟨rfl, rfl, rfl, rfl, rfl, trivial⟩ ⟨rfl, rfl, rfl, rfl, trivial⟩ rfl)) ?_
  rintro ⟨i, xs⟩ ⟨h1, h2⟩
  have g1 : i ≤ n := h1
  have g2 : xs = zsL i := h2
  clear h1 h2
  show Aw _ _ _ _ (z5n n f i xs)
  unfold z5n
  by_cases hlt : i < n
  · have hx : ((zsL n).drop (i * 45)).take 45 = zS := zul n i hlt
    repeat (first | (refine zaj rfl ?_; first | refine zak ?_) | (refine hK _ ?_; clear hK K) | refine zac rfl ?_ | refine zag rfl rfl ?_ | refine zad ?_ | refine zai ?_ | refine zab (fun K hK => ?_))
    refine za3 (α := Nat) (fun w => w ≤ 4) (fun w => rdoL n f i w xs) (fun w => 4 - w) 0 (by omega) (zax _ _ ⟨rfl, rfl, rfl, rfl, rfl, rfl, rfl, trivial⟩ ⟨rfl, rfl, rfl, rfl, rfl, trivial⟩ rfl) ?_
    intro w hw
    unfold rdoL
    rcases (by omega : w = 0 ∨ w = 1 ∨ w = 2 ∨ w = 3 ∨ w = 4) with rfl | rfl | rfl | rfl | rfl
    · skip
      repeat (first | (refine zaj rfl ?_; first | refine zak ?_ | refine gdr (zaa rfl rfl rfl (hm) (by kernel_rfl)) ?_) | (refine hK _ ?_; clear hK K) | refine zac rfl ?_ | refine zas (by kernel_rfl) (by kernel_rfl) rfl ?_ | refine zag rfl rfl ?_ | refine zae rfl rfl ?_ | refine zad ?_ | refine zai ?_ | refine zab (fun K hK => ?_))
      exact ⟨1, by omega, by omega, zax _ _ ⟨rfl, rfl, rfl, rfl, rfl, rfl, rfl, trivial⟩ ⟨rfl, rfl, rfl, rfl, rfl, trivial⟩ rfl⟩
    · skip
      repeat (first | (refine zaj rfl ?_; first | refine zak ?_ | refine gdr (zaa rfl rfl rfl (hm) (by kernel_rfl)) ?_) | (refine hK _ ?_; clear hK K) | refine zac rfl ?_ | refine zas (by kernel_rfl) (by kernel_rfl) rfl ?_ | refine zag rfl rfl ?_ | refine zae rfl rfl ?_ | refine zad ?_ | refine zai ?_ | refine zab (fun K hK => ?_))
      exact ⟨2, by omega, by omega, zax _ _ ⟨rfl, rfl, rfl, rfl, rfl, rfl, rfl, trivial⟩ ⟨rfl, rfl, rfl, rfl, rfl, trivial⟩ rfl⟩
    · skip
      repeat (first | (refine zaj rfl ?_; first | refine zak ?_ | refine gdr (zaa rfl rfl rfl (hm) (by kernel_rfl)) ?_) | (refine hK _ ?_; clear hK K) | refine zac rfl ?_ | refine zas (by kernel_rfl) (by kernel_rfl) rfl ?_ | refine zag rfl rfl ?_ | refine zae rfl rfl ?_ | refine zad ?_ | refine zai ?_ | refine zab (fun K hK => ?_))
      exact ⟨3, by omega, by omega, zax _ _ ⟨rfl, rfl, rfl, rfl, rfl, rfl, rfl, trivial⟩ ⟨rfl, rfl, rfl, rfl, rfl, trivial⟩ rfl⟩
    · skip
      repeat (first | (refine zaj rfl ?_; first | refine zak ?_ | refine gdr (zaa rfl rfl rfl (hm) (by kernel_rfl)) ?_) | (refine hK _ ?_; clear hK K) | refine zac rfl ?_ | refine zas (by kernel_rfl) (by kernel_rfl) rfl ?_ | refine zag rfl rfl ?_ | refine zae rfl rfl ?_ | refine zad ?_ | refine zai ?_ | refine zab (fun K hK => ?_))
      exact ⟨4, by omega, by omega, zax _ _ ⟨rfl, rfl, rfl, rfl, rfl, rfl, rfl, trivial⟩ ⟨rfl, rfl, rfl, rfl, rfl, trivial⟩ rfl⟩
    · skip
      repeat (first | (refine zaj rfl ?_; first | refine zak ?_ | refine gdr (zbl rfl rfl rfl rfl rfl rfl rfl rfl rfl rfl rfl rfl rfl (by omega)) ?_) | (refine hK _ ?_; clear hK K) | (rename_i K1 hK1; refine hK1 _ ?_; clear hK hK1; clear K) | refine zac rfl ?_ | refine zae rfl rfl ?_ | refine zan ?_ | refine zab (fun K hK => ?_))
      exact ⟨(i + 1, xs ++ zS), ⟨by show i + 1 ≤ n; omega, by show xs ++ zS = zsL (i + 1); rw [zxy, g2]⟩, by show n - (i + 1) < n - i; omega, Sub.trans (zax [(2, .m (.c (.p 2 0))), (3, .m (.c (.p 3 0))), (4, .m (.c (.p 4 0))), (5, .m (.c (.o 38))), (6, .m (ii ((i + 1 : Nat) : Int)))] [(2, .live (.box [.s n 45 (zsL n)])), (3, .live (.box (Fe.ce f))), (4, .live (.box [.v (.slice none 0 0)])), (38, .live (.row 154 45 (i + 1) (xs ++ zS)))] ⟨rfl, rfl, rfl, rfl, rfl, trivial⟩ ⟨rfl, rfl, rfl, rfl, trivial⟩ rfl) (Sub.trans (ze9 (b := 38) (b' := 1000) rfl rfl) (zax _ _ ⟨rfl, rfl, rfl, rfl, rfl, trivial⟩ ⟨rfl, rfl, rfl, rfl, trivial⟩ rfl))⟩
  · obtain rfl : i = n := by omega
    subst g2
    repeat (first | (refine zaj rfl ?_; first | refine zak ?_) | (refine hK _ ?_; clear hK K) | (rename_i K1 hK1; refine hK1 _ ?_; clear hK hK1; clear K) | refine zac rfl ?_ | exact zaf (show zav _ _ _ = some _ by kernel_rfl) | refine zae rfl rfl ?_ | refine zan ?_ | refine zab (fun K hK => ?_))
theorem zxz (l : List Fe) (hl : l.length ≤ 1000000) (n : Nat) (hn : n ≤ 16) : Ok 30 [.ag [.s n 45 (zsL n)], .c (.s l.length 4 (flF l))] (.m (.ag [.s n 45 (zsL n)])) := by
  refine zah 19 Tryz.func30 rfl rfl rfl rfl ?_ GG.to
  intro W A hG
  repeat (first | (refine zaj rfl ?_; first | refine zak ?_) | (refine hK _ ?_; clear hK K) | refine zac rfl ?_ | refine zad ?_ | refine zab (fun K hK => ?_))
  refine za3 (α := Nat) (fun k => k ≤ l.length) (fun k => St.of [(1, .m (.c (.s l.length 4 (flF l)))), (2, .m (.c (.p 2 0))), (4, .m (.c (.p 4 0))), (5, .m (ii k))] [(2, .live (.box [.s n 45 (zsL n)])), (4, .live (.box [.v (.slice none 0 0)]))]) (fun k => l.length - k) 0 (by omega) (zax _ _ ⟨rfl, rfl, rfl, rfl, trivial⟩ ⟨rfl, rfl, trivial⟩ rfl) ?_
  intro k hk
  by_cases hlt : k < l.length
  · obtain ⟨f, hf⟩ : ∃ f, l[k]? = some f := ⟨_, List.getElem?_eq_getElem hlt⟩
    have hx := zun hf
    have hd := z1r f n hn
    repeat (first | (refine zaj rfl ?_; first | refine zak ?_ | refine gdr (zaa rfl rfl rfl (hd) (by kernel_rfl)) ?_) | (refine hK _ ?_; clear hK K) | refine zac rfl ?_ | refine zas (by kernel_rfl) (by kernel_rfl) rfl ?_ | refine zag rfl rfl ?_ | refine zad ?_ | refine zai ?_ | refine zab (fun K hK => ?_))
    exact ⟨k + 1, by omega, by omega, zax _ _ ⟨rfl, rfl, rfl, rfl, trivial⟩ ⟨rfl, rfl, trivial⟩ rfl⟩
  · skip
    repeat (first | (refine zaj rfl ?_; first | refine zak ?_) | (refine hK _ ?_; clear hK K) | (rename_i K1 hK1; refine hK1 _ ?_; clear hK hK1; clear K) | refine zac rfl ?_ | exact zaf (show zav _ _ _ = some _ by kernel_rfl) | refine zae rfl rfl ?_ | refine zan ?_ | refine zab (fun K hK => ?_))
end Go.Proofs.YtomeaibdedaldaaGreatDoor.RfC
namespace Go.Proofs.YtomeaibdedaldaaGreatDoor.RfD
open Go.RowKit Bv VaSpec Base MemL RegR Ax MemC PutC MemC3 TzC OkS SpA SpB SpC SpD IterC SpE SpF SpG SpH SpI SpJ SpK SpN RfP RfQ RfA RfB RfC SpO
open BitsC PteSpec
set_option maxRecDepth 10000
set_option maxHeartbeats 800000
attribute [local irreducible] Ax.zbn
theorem zvi (k : Kr) (ht : k.ts = zsL k.tn) (hn : k.tn ≤ 16) (l : List Fe) (hl : l.length ≤ 1000000) (hk : k.fs.length ≤ 1000000) : Ok 109 [.ag k.ce, .c (.s l.length 4 (flF l))] (.m (.ag (zd3 k l).ce)) := by
  rw [ce_z k ht, show (zd3 k l).ce = k.raw k.tn (zsL k.tn) k.ss.length (flS k.ss) (k.fs.length + l.length) (flF k.fs ++ flF l) from by rw [← ht]; simp [zd3, Kr.ce, Kr.raw, flF]]
  have ha := zxz l hl k.tn hn
  refine zah 20 Tryz.func109 rfl rfl rfl rfl ?_ GG.to
  intro W A hG
  repeat (first | (refine zaj rfl ?_; first | refine zak ?_ | refine gdr (zaa rfl rfl rfl (ha) (by kernel_rfl)) ?_ | refine gdr (zc5 rfl rfl rfl rfl rfl rfl rfl rfl rfl rfl rfl rfl (zpj k.fs) (by omega)) ?_ | refine gdr (zbl rfl rfl rfl rfl rfl rfl rfl rfl rfl rfl rfl rfl (zpj l) (by omega)) ?_) | (refine hK _ ?_; clear hK K) | refine zac rfl ?_ | exact zaf (show zav _ _ _ = some _ by kernel_rfl) | refine zab (fun K hK => ?_))
theorem z1s (a b c : Int) (n : Nat) (h : zez a b c n = true) : Ok 44 [zlr a b c n] (.m (.ag (zoc a b c n).ce)) := by
  obtain ⟨ha, hb, hc, hn⟩ := zcz.1 h
  have l1 := zjg (n := b) (by omega) (by omega)
  have l2 := zls (n := b) (by omega) (by omega)
  have h2 := zxw a b (by omega)
  have h3 := zxx c (by omega)
  have h5 := znx a b (zcu b) (by omega) (by omega) l1 l2
  obtain ⟨i, z, hi, hz, hs, hby⟩ := TlbNewC.z27
  obtain ⟨z', hz', hzc⟩ := zset
  obtain rfl : z' = z := by rw [hi] at hz'; exact Option.some.inj (hz'.symm.trans hz)
  have hmd := zu5 n z' hzc
  have key : Ok 44 [zlr a b c n] (.m (.ag [ci a, ci b, ci c, ci n, cu ((a + b) * 4096), .v (.slice none 0 0), .s n 45 (zsL n), cu 0, cu 0, cu 0, ci 0, cb false, cb false, ci (-1), cu a, ci b, cu (zbw (zcu b) (tzI (zcu b)) 1 0), ci c, cu (zcu c), cu 0, .v (.slice none 0 0), ci (-1), cu (a + tzI (zcu b)), .v (.slice none 0 0)])) := by
    rw [show (a + b) * 4096 = 4096 * (a + b) by omega]
    refine zah 49 Tryz.func44 rfl rfl rfl rfl ?_ GG.to
    intro W A hG
    repeat (first | (refine zaj rfl ?_; first | refine zak ?_ | refine gdr (zaa rfl rfl rfl (h2) (by kernel_rfl)) ?_ | refine gdr (zaa rfl rfl rfl (h3) (by kernel_rfl)) ?_ | refine gdr (zaa rfl rfl rfl (h5) (by kernel_rfl)) ?_ | refine gdr (zrw rfl rfl rfl rfl rfl rfl rfl hi hz hs (by rw [hby]; omega) (by unfold maxLen; omega) hmd) ?_) | (refine hK _ ?_; clear hK K) | refine zac rfl ?_ | exact zaf (show zav _ _ _ = some _ by kernel_rfl) | refine zab (fun K hK => ?_))
  refine zgu key rfl (m_lt ?_)
  exact ⟨ltC.rf _, ltC.rf _, ltC.rf _, ltC.rf _, ltC.rf _, ltC.nil 2, ltC.rf _, ltC.rf _, ltC.rf _, ltC.rf _, ltC.rf _, ltC.rf _, ltC.rf _, ltC.rf _, ltC.rf _, ltC.rf _, ltC.rf _, ltC.rf _, ltC.rf _, ltC.rf _, ltC.nil 3, ltC.rf _, ltC.rf _, ltC.nil 4, trivial⟩
end Go.Proofs.YtomeaibdedaldaaGreatDoor.RfD
namespace Go.Proofs.YtomeaibdedaldaaGreatDoor.RfE
open Go.RowKit Bv VaSpec Base MemL RegR Ax MemC PutC MemC3 TzC OkS SpA SpB SpC SpD IterC SpE SpF SpG SpH SpI SpJ SpK SpN RfP RfQ RfA RfB RfC SpO RfD
open BitsC PteSpec
set_option maxRecDepth 10000
set_option maxHeartbeats 800000
attribute [local irreducible] Ax.zbn
theorem zvj (n : Int) (h : 0 ≤ n ∧ n < 17592186044416) : PteC.ze7 (gP n) = 33 + 1024 * n := by
  have hm : zh4 (gP n) = true := by
    unfold zh4 gP
    simp; omega
  unfold PteC.ze7
  rw [if_pos hm]
  show zpe (gP n) + 0 * 256 + n * 1024 + 0 * 18014398509481984 = _
  rw [show zpe (gP n) = 33 from rfl]
  omega
theorem zpv {n : Nat} {k : Kr} (h : Inv n k) (hp : k.pf ≠ 0) : znq k = zbq (TableC.zbc k.m (k.pb + tzI k.pf)) (512 * (k.pb + tzI k.pf) + 511) (33 + 1024 * k.sh) := by
  have t1 := zcl h.upf h.pf.2 hp
  have h1 := h.cd
  have h2 := h.cp
  have h3 := h.pb
  have h4 := h.pm
  have h8 := h.sh
  have hP : (gP k.sh).U := ⟨by show (0 : Int) ≤ 0 ∧ (0 : Int) < _; omega, by show 0 ≤ k.sh ∧ k.sh < _; omega, by show (0 : Int) ≤ 0 ∧ (0 : Int) < _; omega⟩
  unfold znq
  rw [zkk, zep hP (by omega) (by omega) (by rw [h.sz]; omega), zvj _ (by omega), show (k.pb + tzI k.pf) * 512 + 511 = 512 * (k.pb + tzI k.pf) + 511 by omega]
theorem zq0 {n : Nat} {k : Kr} (h : Inv n k) : ∀ c ∈ k.m, 0 ≤ c.1 ∧ c.1 < 1099511627776 := fun c hc => by
  obtain ⟨a, b, _, _⟩ := h.mc c hc
  have h1 := h.cd
  have h2 := h.cp
  constructor <;> omega
theorem zl1 {n : Nat} {k : Kr} (h : Inv n k) (hn : n ≤ 100000) (h32 : k.ss.length < 32) (h0 : k.af ≠ 0) (hp0 : k.pf ≠ 0) (hown : zeo k.ao (tzI k.af) = false) :
    Ok 46 [.ag k.ce] (.tu [.ag (zbg k).ce, ii k.ss.length, ii 0]) := by
  have h1 := h.cd
  have h2 := h.cp
  have h3 := h.pb
  have h4 := h.pm
  have h5 := h.ml
  have h6 := h.ca
  have h7 := h.am
  have h8 := h.sh
  have t1 := zcl h.upf h.pf.2 hp0
  have t2 := zcl h.uaf h.af.2 h0
  have hw := zen k.m (k.pb + tzI k.pf)
  have ht := zjk k.am k.af k.ao (by omega) (by rw [h.am]; exact h.af) h.uao h0
  rw [hown] at ht
  have hf := zn0 k.sz k.m k.pb k.pm k.pf (by omega) (by omega) (by rw [h.pm]; exact h.pf) hp0 h.m (by omega) (zq0 h)
  have hs := zjl k.sz (TableC.zbc k.m (k.pb + tzI k.pf)) (512 * (k.pb + tzI k.pf) + 511) (33 + 1024 * k.sh) (zcx _ h.m) (by omega)
  rw [← zpv h hp0] at hs
  rw [zfs]
  refine zah 80 Tryz.func46 rfl rfl rfl rfl ?_ GG.to
  intro W A hG
  repeat (first | (refine zaj rfl ?_; first | refine zak ?_ | refine gdr (zaa rfl rfl rfl (ht) (by kernel_rfl)) ?_ | refine gdr (zaa rfl rfl rfl (hf) (by kernel_rfl)) ?_ | refine gdr (zaa rfl rfl rfl (hs) (by kernel_rfl)) ?_ | refine gdr (zc5 rfl rfl rfl rfl rfl rfl rfl rfl rfl rfl rfl rfl (SpM.flS_one k.ss) (by omega)) ?_ | refine gdr (zbl rfl rfl rfl rfl rfl rfl rfl rfl rfl rfl rfl rfl rfl (by omega)) ?_) | (refine hK _ ?_; clear hK K) | refine zac rfl ?_ | exact zaf (show zav _ _ _ = some _ by kernel_rfl) | refine zae rfl rfl ?_ | refine zai ?_ | refine zab (fun K hK => ?_))
theorem zl2 {n : Nat} {k : Kr} (h : Inv n k) (hn : n ≤ 100000) (h32 : k.ss.length < 32) (h0 : k.af ≠ 0) (hp0 : k.pf ≠ 0) (hown : zeo k.ao (tzI k.af) = true) :
    Ok 46 [.ag k.ce] (.tu [.ag (zd3 (zbg k) [aFe (tzI k.af + 1)]).ce, ii k.ss.length, ii 0]) := by
  have h1 := h.cd
  have h2 := h.cp
  have h3 := h.pb
  have h4 := h.pm
  have h5 := h.ml
  have h6 := h.ca
  have h7 := h.am
  have h8 := h.sh
  have h9 := h.fl
  have t1 := zcl h.upf h.pf.2 hp0
  have t2 := zcl h.uaf h.af.2 h0
  have hw := zen k.m (k.pb + tzI k.pf)
  have ht := zjk k.am k.af k.ao (by omega) (by rw [h.am]; exact h.af) h.uao h0
  rw [hown] at ht
  have hf := zn0 k.sz k.m k.pb k.pm k.pf (by omega) (by omega) (by rw [h.pm]; exact h.pf) hp0 h.m (by omega) (zq0 h)
  have hs := zjl k.sz (TableC.zbc k.m (k.pb + tzI k.pf)) (512 * (k.pb + tzI k.pf) + 511) (33 + 1024 * k.sh) (zcx _ h.m) (by omega)
  rw [← zpv h hp0] at hs
  have hfe : Ok 109 [.ag (({ k with m := znq k, pf := zbw k.pf (tzI k.pf) 1 0, af := zf5 k.af, ao := zf6 k.af k.ao } : Kr).raw k.tn k.ts (k.ss.length + 1) (flS k.ss ++ (⟨k.pb + tzI k.pf, tzI k.af + 1, true⟩ : Sp).vs) k.fs.length (flF k.fs)), .c (.s 1 4 (flF [aFe (tzI k.af + 1)]))] (.m (.ag (zd3 (zbg k) [aFe (tzI k.af + 1)]).ce)) := by
    rw [← zfs]
    exact zvi (zbg k) h.ts h.cs.2 [aFe (tzI k.af + 1)] (by simp) (by show k.fs.length ≤ _; omega)
  refine zah 80 Tryz.func46 rfl rfl rfl rfl ?_ GG.to
  intro W A hG
  repeat (first | (refine zaj rfl ?_; first | refine zak ?_ | refine gdr (zaa rfl rfl rfl (ht) (by kernel_rfl)) ?_ | refine gdr (zaa rfl rfl rfl (hf) (by kernel_rfl)) ?_ | refine gdr (zaa rfl rfl rfl (hs) (by kernel_rfl)) ?_ | refine gdr (zc5 rfl rfl rfl rfl rfl rfl rfl rfl rfl rfl rfl rfl (SpM.flS_one k.ss) (by omega)) ?_) | (refine hK _ ?_; clear hK K) | refine zac rfl ?_ | refine zae rfl rfl ?_ | refine zai ?_ | refine zab (fun K hK => ?_))
  refine zaj rfl ?_
  refine gdr (zbl rfl rfl rfl rfl rfl rfl rfl rfl rfl rfl rfl rfl rfl (by omega)) ?_
  repeat (first | (refine zaj rfl ?_; first | refine zak ?_))
  first
    | (refine hK _ ?_; clear hK K)
    | (rename_i K1 hK1; refine hK1 _ ?_; clear hK hK1; clear K)
    | (rename_i K1 hK1; refine hK1 _ ?_; clear hK1)
  refine zci (Sub.trans (zyo (b := 70) rfl) (sbq [(1, .m (.c (.p 1 0))), (2, .m (.c (.p 2 0))), (6, .m (iu (tzI k.af + 1))), (7, .m (ib true)), (13, .m (ii k.ss.length))] [(1, .live (.box (({ k with m := znq k, pf := zbw k.pf (tzI k.pf) 1 0, af := zf5 k.af, ao := zf6 k.af k.ao } : Kr).raw k.tn k.ts (k.ss.length + 1) (flS k.ss ++ (⟨k.pb + tzI k.pf, tzI k.af + 1, true⟩ : Sp).vs) k.fs.length (flF k.fs)))), (2, .live (.box zK))])) ?_
  repeat (first | (refine zaj rfl ?_; first | refine zak ?_ | refine gdr (ze8 (b := 76) rfl rfl rfl rfl rfl rfl (zlp (by kernel_rfl) hfe)) ?_) | (refine hK _ ?_; clear hK K) | refine zac rfl ?_ | exact zaf (show zav _ _ _ = some _ by kernel_rfl) | refine zag rfl rfl ?_ | refine zab (fun K hK => ?_))
theorem zpw {n : Nat} {k : Kr} (h : Inv n k) (hn : n ≤ 100000) : Ok 46 [.ag k.ce] (.tu [.ag (zbh k).1.ce, ii (zbh k).2.1, ii (zbh k).2.2]) := by
  have h3 := h.pb
  have h4 := h.pm
  have h5 := h.ml
  have h6 := h.sl
  have h1 := h.cd
  have h2 := h.cp
  have h7 := h.am
  have h8 := h.ca
  unfold zbh
  by_cases c1 : 32 ≤ k.ss.length
  · rw [if_pos c1]
    refine zah 80 Tryz.func46 rfl rfl rfl rfl ?_ GG.to
    intro W A hG
    repeat (first | (refine zaj rfl ?_; first | refine zak ?_) | (refine hK _ ?_; clear hK K) | refine zac rfl ?_ | exact zaf (show zav _ _ _ = some _ by kernel_rfl) | refine zag rfl rfl ?_ | refine zab (fun K hK => ?_))
  rw [if_neg c1]
  by_cases c2 : k.af = 0
  · rw [if_pos c2]
    have ht : Ok 107 [.ag [ci k.am, cu k.af, cu k.ao]] (.tu [.ag [ci k.am, cu k.af, cu k.ao], iu 0, ib false, ii 9]) := by rw [c2]; exact zu9 k.am k.ao (by omega)
    refine zah 80 Tryz.func46 rfl rfl rfl rfl ?_ GG.to
    intro W A hG
    repeat (first | (refine zaj rfl ?_; first | refine zak ?_ | refine gdr (zaa rfl rfl rfl (ht) (by kernel_rfl)) ?_) | (refine hK _ ?_; clear hK K) | refine zac rfl ?_ | exact zaf (show zav _ _ _ = some _ by kernel_rfl) | refine zag rfl rfl ?_ | refine zae rfl rfl ?_ | refine zai ?_ | refine zab (fun K hK => ?_))
  rw [if_neg c2]
  by_cases c3 : k.pf = 0
  · rw [if_pos c3]
    have t2 := zcl h.uaf h.af.2 c2
    have ht := zjk k.am k.af k.ao (by omega) (by rw [h.am]; exact h.af) h.uao c2
    have hf : Ok 108 [zb2 k.sz k.m, .ag [cu k.pb, ci k.pm, cu k.pf]] (.tu [zb2 k.sz k.m, .ag [cu k.pb, ci k.pm, cu k.pf], iu 0, ii 8]) := by rw [c3]; exact zvh k.sz k.m k.pb k.pm (by omega)
    refine zah 80 Tryz.func46 rfl rfl rfl rfl ?_ GG.to
    intro W A hG
    repeat (first | (refine zaj rfl ?_; first | refine zak ?_ | refine gdr (zaa rfl rfl rfl (ht) (by kernel_rfl)) ?_ | refine gdr (zaa rfl rfl rfl (hf) (by kernel_rfl)) ?_) | (refine hK _ ?_; clear hK K) | refine zac rfl ?_ | exact zaf (show zav _ _ _ = some _ by kernel_rfl) | refine zag rfl rfl ?_ | refine zae rfl rfl ?_ | refine zai ?_ | refine zab (fun K hK => ?_))
  rw [if_neg c3]
  by_cases c4 : (zdo k.ao (tzI k.af) 1 == 1) = true
  · rw [if_pos c4]
    exact zl2 h hn (by omega) c2 c3 c4
  · rw [if_neg c4]
    exact zl1 h hn (by omega) c2 c3 (by unfold zeo; cases e : (zdo k.ao (tzI k.af) 1 == 1) with | false => rfl | true => exact absurd e c4)
end Go.Proofs.YtomeaibdedaldaaGreatDoor.RfE
namespace Go.Proofs.YtomeaibdedaldaaGreatDoor.RfG
open Go.RowKit Bv Base BitsC SpI RfP
def cs : Nat → (Nat → Bool) → Nat
  | 0, _ => 0
  | n + 1, f => cs n f + (f n).toNat
theorem zgz : ∀ (n : Nat) (f g : Nat → Bool), (∀ j, j < n → f j = g j) → cs n f = cs n g
  | 0, _, _, _ => rfl
  | n + 1, f, g, h => by simp only [cs]; rw [zgz n f g (fun j hj => h j (by omega)), h n (by omega)]
theorem z3z {f g : Nat → Bool} {i : Nat} (hi : f i = false) (gi : g i = true) (h : ∀ j, j ≠ i → g j = f j) : ∀ n, i < n → cs n g = cs n f + 1
  | 0, hn => by omega
  | n + 1, hn => by
    simp only [cs]
    by_cases e : i = n
    · subst e
      rw [hi, gi, zgz i g f (fun j hj => h j (by omega))]; rfl
    · rw [z3z hi gi h n (by omega), h n (fun e' => e e'.symm)]; omega
theorem zx0 : ∀ (n m : Nat), m ≤ n → cs n (fun j => decide (j < m)) = m
  | 0, m, h => by simp [cs]; omega
  | n + 1, m, h => by
    simp only [cs]
    by_cases e : m = n + 1
    · rw [zgz n _ (fun j => decide (j < n)) (fun j hj => by simp [hj]; omega), zx0 n n (Nat.le_refl _)]
      simp [e]
    · rw [zx0 n m (by omega)]; simp; omega
def cb : Nat → Nat → Nat
  | 0, _ => 0
  | f + 1, x => x % 2 + cb f (x / 2)
def M (m : Nat) : Nat → Nat
  | 0 => 0
  | k + 1 => m + 256 * M m k
def f1 (k x : Nat) : Nat := (x / 2 &&& M 85 k) + (x &&& M 85 k)
def f2 (k x : Nat) : Nat := (x / 4 &&& M 51 k) + (x &&& M 51 k)
def f3 (k x : Nat) : Nat := (x / 16 + x) &&& M 15 k
theorem d1 : ∀ a, a < 256 → ∀ c, c < 2 → (a / 2 + 128 * c) &&& 85 = a / 2 &&& 85 := by decide +kernel
theorem d2 : ∀ a, a < 256 → ∀ c, c < 4 → (a / 4 + 64 * c) &&& 51 = a / 4 &&& 51 := by decide +kernel
def g1 (a : Nat) : Nat := (a / 2 &&& 85) + (a &&& 85)
def g2 (a : Nat) : Nat := (a / 4 &&& 51) + (a &&& 51)
def g3 (a : Nat) : Nat := (a / 16 + a) % 16
theorem d3 : ∀ a, a < 256 → g1 a < 256 ∧ g2 (g1 a) < 256 ∧ g2 (g1 a) % 16 ≤ 4 ∧ g2 (g1 a) / 16 ≤ 4 ∧ g3 (g2 (g1 a)) = cb 8 a ∧ cb 8 a ≤ 8 := by decide +kernel
def h3 (k x : Nat) : Nat := f3 k (f2 k (f1 k x))
end Go.Proofs.YtomeaibdedaldaaGreatDoor.RfG
namespace Go.Proofs.YtomeaibdedaldaaGreatDoor.RfJ
open Go.RowKit Bv VaSpec Base MemL RegR Ax MemC PutC MemC3 TzC OkS SpA SpB SpC SpD IterC SpE SpF SpG SpH SpI SpJ SpK SpN RfP RfQ RfE RfG
open BitsC PteSpec
def cnt (x : Int) : Nat := cs 64 (fun j => zeo x (j : Int))
theorem zl3 {x i : Int} (hx : U x) (h0 : 0 ≤ i) (h1 : i < 64) (h : zeo x i = true) : cnt (zbw x i 1 0) + 1 = cnt x := by
  obtain ⟨n, rfl⟩ := Int.eq_ofNat_of_zero_le h0
  refine (z3z (i := n) ?_ h (fun j hj => ?_) 64 (by omega)).symm
  · rw [zfb hx h0 h1 h0 h1, if_pos rfl]; rfl
  · by_cases hj2 : j < 64
    · rw [zfb hx h0 h1 (by omega) (by omega), if_neg (by omega)]
    · rw [zdm (by omega), zdm (by omega)]
      rw [Int.toNat_natCast, BitVec.getLsbD_of_ge _ _ (by omega), BitVec.getLsbD_of_ge _ _ (by omega)]
theorem zhr (x i j : Int) (hx : U x) (h0 : 0 ≤ i) (h1 : i < 64) (hj : 0 ≤ j) (hj1 : j < 64) : zeo (zbw x i 1 0) j = if j = i then false else zeo x j := by
  rw [zfb hx h0 h1 hj hj1]; rfl
theorem zif (n : Int) (j : Int) (hj : 0 ≤ j) (hj1 : j < 64) (h0 : 0 ≤ n) : zeo (zcu n) j = decide (j < n) := by
  rw [zdm hj]
  unfold zcu zdo
  rw [X_B, zfp, show (0 : Int).toNat = 0 from rfl, Nat.zero_add, zqv _ (by omega), Bool.and_true]
  by_cases h : j < n
  · rw [decide_eq_true h, decide_eq_true (by omega)]
  · rw [decide_eq_false h, decide_eq_false (by omega)]
theorem z30 {n : Int} (h0 : 1 ≤ n) (h : n ≤ 64) : tzI (zcu n) = 0 := by
  have l1 := zjg (n := n) (by omega) h
  have l2 := zls h0 h
  have u := znw n
  have t := zcl u l1.2 l2
  rcases (by omega : tzI (zcu n) = 0 ∨ 0 < tzI (zcu n)) with e | e
  · exact e
  · have := zjh u l2 (Int.le_refl 0) e
    rw [zif n 0 (by omega) (by omega) (by omega), decide_eq_true (by omega)] at this
    cases this
def alv : List Sp → Nat
  | [] => 0
  | s :: l => (if s.live then 1 else 0) + alv l
theorem zpx : ∀ (l : List Sp) (s : Sp), s.live = true → alv (l ++ [s]) = alv l + 1
  | [], s, h => by simp [alv, h]
  | x :: l, s, h => by simp only [List.cons_append, alv]; rw [zpx l s h]; omega
theorem zvk : ∀ (xs : List (Int × Int)) (k v : Int) (c : Int × Int), c ∈ xs → c.1 ≠ k → c ∈ zbq xs k v
  | [], k, v, c, h, _ => by cases h
  | x :: xs, k, v, c, h, hk => by
    simp only [zbq]
    split
    · rcases List.mem_cons.1 h with rfl | h
      · simp
      · exact List.mem_cons_of_mem _ (zvk xs k v c h hk)
    · split
      · rename_i hx
        rcases List.mem_cons.1 h with rfl | h
        · exact absurd hx hk
        · split
          · exact h
          · exact List.mem_cons_of_mem _ h
      · split
        · exact h
        · exact List.mem_cons_of_mem _ h
theorem zvl : ∀ (xs : List (Int × Int)) (k v : Int), v ≠ 0 → (k, v) ∈ zbq xs k v
  | [], k, v, h => by simp [zbq, h]
  | x :: xs, k, v, h => by
    simp only [zbq]
    split
    · exact List.mem_cons_of_mem _ (zvl xs k v h)
    · split <;> simp [h]
structure Inv2 (k : Kr) : Prop where
  sh : k.sh = k.cd
  p0 : zeo k.pf 0 = false
  lv : ∀ s ∈ k.ss, s.live = true → s.root ≠ k.cd ∧ s.asid ≤ k.ca ∧ zeo k.pf (s.root - k.cd) = false ∧ zeo k.af (s.asid - 1) = false ∧ (s.root * 512 + 511, 33 + 1024 * k.sh) ∈ k.m
  ap : ∀ (i j : Nat) (s t : Sp), k.ss[i]? = some s → k.ss[j]? = some t → i ≠ j → s.live = true → t.live = true → s.root ≠ t.root ∧ s.asid ≠ t.asid
  cl : ∀ c ∈ k.m, ∃ s ∈ k.ss, s.live = true ∧ c = (s.root * 512 + 511, 33 + 1024 * k.sh)
  np : (cnt k.pf : Int) + 1 + alv k.ss = k.cp
  na : (cnt k.af : Int) + alv k.ss = k.ca
theorem zig {a b c : Int} {n : Nat} (h : zez a b c n = true) : Inv2 (zoc a b c n) := by
  obtain ⟨ha, hb, hc, hn⟩ := zcz.1 h
  have tz := z30 (n := b) (by omega) (by omega)
  have e : (zoc a b c n).pf = zbw (zcu b) 0 1 0 := by show zbw (zcu b) (tzI (zcu b)) 1 0 = _; rw [tz]
  have cb : cnt (zcu b) = b.toNat := by
    unfold cnt
    rw [zgz 64 _ (fun j => decide (j < b.toNat)) (fun j hj => by
      rw [zif b j (by omega) (by omega) (by omega)]
      by_cases h : (j : Int) < b
      · rw [decide_eq_true h, decide_eq_true (by omega)]
      · rw [decide_eq_false h, decide_eq_false (by omega)]), zx0 64 _ (by omega)]
  have cc : cnt (zcu c) = c.toNat := by
    unfold cnt
    rw [zgz 64 _ (fun j => decide (j < c.toNat)) (fun j hj => by
      rw [zif c j (by omega) (by omega) (by omega)]
      by_cases h : (j : Int) < c
      · rw [decide_eq_true h, decide_eq_true (by omega)]
      · rw [decide_eq_false h, decide_eq_false (by omega)]), zx0 64 _ (by omega)]
  have co := zl3 (x := zcu b) (i := 0) (znw b) (by omega) (by omega) (by rw [zif b 0 (by omega) (by omega) (by omega), decide_eq_true (by omega)])
  refine ⟨by show a + tzI (zcu b) = a; rw [tz]; omega, ?_, fun s hs => (by cases hs), fun i j s t hs => (by simp [zoc] at hs), fun c hc => (by cases hc), ?_, ?_⟩
  · rw [e, zhr _ _ _ (znw b) (by omega) (by omega) (by omega) (by omega), if_pos rfl]
  · rw [e]
    show (cnt (zbw (zcu b) 0 1 0) : Int) + 1 + ((0 : Nat) : Int) = b
    omega
  · show (cnt (zcu c) : Int) + ((0 : Nat) : Int) = c
    omega
end Go.Proofs.YtomeaibdedaldaaGreatDoor.RfJ
namespace Go.Proofs.YtomeaibdedaldaaGreatDoor.RfK
open Go.RowKit Bv VaSpec Base MemL RegR Ax MemC PutC MemC3 TzC OkS SpA SpB SpC SpD IterC SpE SpF SpG SpH SpI SpJ SpK SpN RfP RfQ RfE RfG RfJ
open BitsC PteSpec
theorem zpy {n : Nat} {k : Kr} (h : Inv n k) (g : Inv2 k) (ha : k.af ≠ 0) (hp : k.pf ≠ 0) : Inv2 (zbg k) := by
  have c1 := h.cp
  have c2 := h.ca
  have hcd := h.cd
  have hpb := h.pb
  have hsh := h.sh
  have t1 := zcl h.upf h.pf.2 hp
  have t2 := zcl h.uaf h.af.2 ha
  have low1 := zkl h.upf hp
  have low2 := zkl h.uaf ha
  have tn0 : tzI k.pf ≠ 0 := fun e => by rw [e, g.p0] at low1; cases low1
  have hne : ∀ s ∈ k.ss, s.live = true → s.root ≠ k.pb + tzI k.pf ∧ s.asid ≠ tzI k.af + 1 := fun s hs hl => by
    obtain ⟨_, _, b1, b2, _⟩ := g.lv s hs hl
    refine ⟨fun e => ?_, fun e => ?_⟩
    · rw [show s.root - k.cd = tzI k.pf by omega, low1] at b1; cases b1
    · rw [show s.asid - 1 = tzI k.af by omega, low2] at b2; cases b2
  have hwm : TableC.zbc k.m (k.pb + tzI k.pf) = k.m := by
    rw [zgw _ _ h.m]
    refine List.filter_eq_self.2 fun c hc => ?_
    obtain ⟨s, hs, hl, rfl⟩ := g.cl c hc
    have := (hne s hs hl).1
    simp only [zjx, Bool.or_eq_true, decide_eq_true_eq]
    omega
  have hm : (zbg k).m = zbq k.m (512 * (k.pb + tzI k.pf) + 511) (33 + 1024 * k.sh) := by
    show znq k = _
    rw [zpv h hp, hwm]
  have hcells : ∀ s ∈ k.ss, s.live = true → (s.root * 512 + 511, 33 + 1024 * k.sh) ∈ (zbg k).m := fun s hs hl => by
    rw [hm]
    refine zvk _ _ _ _ (g.lv s hs hl).2.2.2.2 ?_
    have := (hne s hs hl).1
    show s.root * 512 + 511 ≠ _; omega
  have hnew : (512 * (k.pb + tzI k.pf) + 511, 33 + 1024 * k.sh) ∈ (zbg k).m := by rw [hm]; exact zvl _ _ _ (by omega)
  have hss : (zbg k).ss = k.ss ++ [⟨k.pb + tzI k.pf, tzI k.af + 1, true⟩] := rfl
  have epf : (zbg k).pf = zbw k.pf (tzI k.pf) 1 0 := rfl
  have eaf : (zbg k).af = zbw k.af (tzI k.af) 1 0 := rfl
  have n1 := zl3 h.upf t1.1 (by omega) low1
  have n2 := zl3 h.uaf t2.1 (by omega) low2
  refine ⟨g.sh, ?_, fun s hs hl => ?_, fun i j s t hs ht hij hl hl' => ?_, fun c hc => ?_, ?_, ?_⟩
  · rw [epf, zhr _ _ _ h.upf t1.1 (by omega) (by omega) (by omega), if_neg (fun e => tn0 e.symm)]; exact g.p0
  · rw [hss] at hs
    rcases List.mem_append.1 hs with hs | hs
    · obtain ⟨a1, a2, a3, a4, a5⟩ := g.lv s hs hl
      obtain ⟨r1, r2⟩ := h.ss s hs hl
      refine ⟨a1, a2, ?_, ?_, hcells s hs hl⟩
      · show zeo (zbg k).pf (s.root - k.cd) = false
        rw [epf, zhr _ _ _ h.upf t1.1 (by omega) (by omega) (by omega)]; split
        · rfl
        · exact a3
      · rw [eaf, zhr _ _ _ h.uaf t2.1 (by omega) (by omega) (by omega)]; split
        · rfl
        · exact a4
    · rw [List.mem_singleton.1 hs]
      refine ⟨by show k.pb + tzI k.pf ≠ k.cd; omega, by show tzI k.af + 1 ≤ k.ca; omega, ?_, ?_, ?_⟩
      · show zeo (zbg k).pf (k.pb + tzI k.pf - k.cd) = false
        rw [show k.pb + tzI k.pf - k.cd = tzI k.pf by omega, epf, zhr _ _ _ h.upf t1.1 (by omega) (by omega) (by omega), if_pos rfl]
      · show zeo (zbg k).af (tzI k.af + 1 - 1) = false
        rw [show tzI k.af + 1 - 1 = tzI k.af by omega, eaf, zhr _ _ _ h.uaf t2.1 (by omega) (by omega) (by omega), if_pos rfl]
      · show ((k.pb + tzI k.pf) * 512 + 511, 33 + 1024 * k.sh) ∈ _
        rw [show (k.pb + tzI k.pf) * 512 + 511 = 512 * (k.pb + tzI k.pf) + 511 by omega]; exact hnew
  · rw [hss] at hs ht
    have look : ∀ (i : Nat) (s : Sp), (k.ss ++ [(⟨k.pb + tzI k.pf, tzI k.af + 1, true⟩ : Sp)])[i]? = some s → (i < k.ss.length ∧ k.ss[i]? = some s) ∨ (i = k.ss.length ∧ s = ⟨k.pb + tzI k.pf, tzI k.af + 1, true⟩) := fun i s hs => by
      by_cases hi : i < k.ss.length
      · rw [List.getElem?_append_left hi] at hs; exact .inl ⟨hi, hs⟩
      · rw [List.getElem?_append_right (by omega)] at hs
        obtain ⟨d, hd⟩ : ∃ d, d = i - k.ss.length := ⟨_, rfl⟩
        rw [← hd] at hs
        cases d with
        | zero => simp at hs; exact .inr ⟨by omega, hs.symm⟩
        | succ d => simp at hs
    rcases look i s hs with ⟨_, hs⟩ | ⟨ei, es⟩
    · rcases look j t ht with ⟨_, ht⟩ | ⟨ej, et⟩
      · exact g.ap i j s t hs ht hij hl hl'
      · rw [et]; exact hne s (List.mem_of_getElem? hs) hl
    · rcases look j t ht with ⟨_, ht⟩ | ⟨ej, et⟩
      · rw [es]
        have := hne t (List.mem_of_getElem? ht) hl'
        exact ⟨fun e => this.1 e.symm, fun e => this.2 e.symm⟩
      · omega
  · rw [hm] at hc
    rcases zcn _ _ _ _ hc with hc | ⟨rfl, _⟩
    · obtain ⟨s, hs, hl, e⟩ := g.cl c hc
      exact ⟨s, by rw [hss]; exact List.mem_append_left _ hs, hl, e⟩
    · refine ⟨⟨k.pb + tzI k.pf, tzI k.af + 1, true⟩, by rw [hss]; simp, rfl, ?_⟩
      show (512 * (k.pb + tzI k.pf) + 511, _) = ((k.pb + tzI k.pf) * 512 + 511, _)
      rw [show 512 * (k.pb + tzI k.pf) + 511 = (k.pb + tzI k.pf) * 512 + 511 by omega]; rfl
  · have := g.np
    rw [epf, hss, zpx _ _ rfl]
    show _ = k.cp
    omega
  · have := g.na
    rw [eaf, hss, zpx _ _ rfl]
    show _ = k.ca
    omega
theorem zb8 {n : Nat} {k : Kr} (h : Inv n k) (g : Inv2 k) : Inv2 (zbh k).1 := by
  unfold zbh
  by_cases c1 : 32 ≤ k.ss.length
  · rw [if_pos c1]; exact g
  rw [if_neg c1]
  by_cases c2 : k.af = 0
  · rw [if_pos c2]; exact g
  rw [if_neg c2]
  by_cases c3 : k.pf = 0
  · rw [if_pos c3]; exact g
  rw [if_neg c3]
  have := zpy h g c2 c3
  split
  · exact { sh := this.sh, p0 := this.p0, lv := this.lv, ap := this.ap, cl := this.cl, np := this.np, na := this.na }
  · exact this
end Go.Proofs.YtomeaibdedaldaaGreatDoor.RfK
namespace Go.Proofs.YtomeaibdedaldaaGreatDoor.LaH
open Go.RowKit Bv VaSpec Base MemL RegR Ax MemC PutC MemC3 TzC OkS SpA SpB SpC SpD SpE SpF SpG SpH SpI SpJ SpK SpN SpO RfE RfJ RfK LaA LaB LaC LaD LaE LaF LaG
open BitsC PteSpec
set_option maxRecDepth 10000
set_option maxHeartbeats 1000000
theorem zjm {n : Int} (h : 0 ≤ n ∧ n < 17592186044416) : zay (33 + 1024 * n) = gP n := by
  have hm : zh4 (gP n) = true := by rw [zdc]; unfold gP; simp; omega
  have hU : (gP n).U := by unfold Pte.U gP; simp; omega
  rw [← zvj n h]
  unfold PteC.ze7
  rw [if_pos hm, zfq _ hU hm]
theorem z31 {n : Nat} {k : Kr} (h : Inv n k) (g : Inv2 k) : InvL n k := by
  have b1 := h.cd
  have b2 := h.cp
  have hsh := h.sh
  have ash : Al k.cd k.cp k.pf k.sh := ⟨hsh, by rw [g.sh, show k.cd - k.cd = 0 by omega]; exact g.p0⟩
  have ass : ∀ s ∈ k.ss, s.live = true → Al k.cd k.cp k.pf s.root := fun s hs hl => ⟨(h.ss s hs hl).1, (g.lv s hs hl).2.2.1⟩
  refine { g := ⟨h.cd, h.cp, h.sz, h.pf, h.m, fun c hc => ?_⟩, cs := h.cs, pb := h.pb, pm := h.pm, sh := ash, ts := h.ts, ml := h.ml, fl := h.fl, sl := h.sl, ss := ass }
  obtain ⟨s, hs, hl, rfl⟩ := g.cl c hc
  refine ⟨?_, (h.mc _ hc).2.2.2, ?_⟩
  · show Al k.cd k.cp k.pf ((s.root * 512 + 511) / 512)
    rw [show (s.root * 512 + 511) / 512 = s.root by omega]
    exact ass s hs hl
  · show EOk k.cd k.cp k.pf (zay (33 + 1024 * k.sh))
    rw [zjm (by omega)]
    exact .inr ⟨rfl, ash⟩
noncomputable def bgK (a b c : Int) (n : Nat) : Kr := (zbh (zbh (zoc a b c n)).1).1
theorem z32 {a b c : Int} {n : Nat} (h : zez a b c n = true) : Inv 0 (zoc a b c n) ∧ Inv 1 (zbh (zoc a b c n)).1 ∧ InvL 2 (bgK a b c n) := by
  have h0 := zhn h
  have g0 := zig h
  have h1 := zb3 h0
  have g1 := zb8 h0 g0
  exact ⟨h0, h1, z31 (zb3 h1) (zb8 h1 g1)⟩
def kr2 (m : List (Int × Int)) (pf af ao : Int) (ss : List Sp) : Kr := { cd := 4, cp := 8, ca := 2, cs := 1, sz := 49152, m := m, tn := 1, ts := zsL 1, sm := 0, sa := 0, sp := 0, priv := 0, su := false, mx := false, vic := -1, pb := 4, pm := 8, pf := pf, am := 2, af := af, ao := ao, ss := ss, now := -1, sh := 4, fs := [] }
def c0 : Kr := kr2 [] 254 3 0 []
def c1 : Kr := kr2 [(3071, 4129)] 252 2 1 [⟨5, 1, true⟩]
def c2 : Kr := kr2 [(3071, 4129), (3583, 4129)] 248 0 3 [⟨5, 1, true⟩, ⟨6, 2, true⟩]
def cA : Kr := kr2 [(2560, 7169), (3071, 4129), (3583, 4129), (3584, 8193), (4101, 1031)] 224 0 3 [⟨5, 1, true⟩, ⟨6, 2, true⟩]
def cB : Kr := kr2 [(2559, 9217), (2560, 7169), (3071, 4129), (3583, 4129), (3584, 8193), (4101, 1031), (5119, 39)] 192 0 3 [⟨5, 1, true⟩, ⟨6, 2, true⟩]
theorem n0 : zoc 4 8 2 1 = c0 := by kernel_rfl
theorem e1 : zbh c0 = (c1, 0, 0) := by
  unfold zbh zbg znq
  rw [zkk]
  kernel_rfl
theorem e2 : zbh c1 = (c2, 1, 0) := by
  unfold zbh zbg znq
  rw [zkk]
  kernel_rfl
theorem bg2 : bgK 4 8 2 1 = c2 := by
  unfold bgK
  rw [n0, e1, e2]
theorem i2 : InvL 2 c2 := by rw [← bg2]; exact (z32 (by decide)).2.2
def rw2 : Pm := ⟨true, true, false, false⟩
theorem mA : zb6 c2 0 20480 4096 0 rw2 = (cA, 0) := by kernel_rfl
theorem iA : InvL 5 cA := by have := zpr (id := 0) (a := 20480) (pa := 4096) (l := 0) (p := rw2) i2 ⟨by omega, by omega⟩; rwa [mA] at this
theorem mF : zb6 cA 0 20480 0 0 rw2 = (cA, 6) := by kernel_rfl
theorem mG : zb6 cA 1 20480 16384 0 rw2 = (cA, 3) := by kernel_rfl
theorem mH : zb6 cA 1 20480 0 0 ⟨false, true, false, false⟩ = (cA, 5) := by kernel_rfl
theorem mI : zb6 cA (-1) 18446744073709547520 0 0 rw2 = (cB, 0) := by kernel_rfl
theorem iB : InvL 8 cB := by have := zpr (id := -1) (a := 18446744073709547520) (pa := 0) (l := 0) (p := rw2) iA ⟨by omega, by omega⟩; rwa [mI] at this
theorem mJ : zb6 c2 0 1073762304 0 0 ⟨false, false, false, false⟩ = (c2, 5) := by kernel_rfl
theorem lA : zcf cB 0 = [⟨20480, 4096, 0, true, true, false, false, false⟩] := by
  unfold zcf
  rw [if_neg (by decide), if_neg (by decide)]
  kernel_rfl
theorem lB : zcf cB (-1) = [⟨18446744073709547520, 0, 0, true, true, false, false, false⟩] := by
  unfold zcf
  rw [if_pos rfl, zsg]
  kernel_rfl
theorem lC : zcf cB 1 = [] := by
  unfold zcf
  rw [if_neg (by decide), if_neg (by decide)]
  kernel_rfl
theorem lD : zcf cB 9 = [] := by
  unfold zcf
  rw [if_neg (by decide), if_pos (by decide)]
end Go.Proofs.YtomeaibdedaldaaGreatDoor.LaH
namespace Go.Proofs.YtomeaibdedaldaaGreatDoor.VaR
open Go.RowKit Bv VaSpec Base BitsC VaC
end Go.Proofs.YtomeaibdedaldaaGreatDoor.VaR
namespace Go.Proofs.YtomeaibdedaldaaGreatDoor.RlA
open Go.RowKit Bv VaSpec Base MemL RegR Ax MemC PutC MemC3 TzC OkS SpA SpB SpC SpD SpE SpF SpH SpI SpJ SpN SpO RfA RfB RfC RfD LaA LaB LaC LaD LaE
open BitsC PteSpec
set_option maxRecDepth 10000
set_option maxHeartbeats 1000000
theorem zx1 (l : Int) (h0 : 0 ≤ l) (h2 : l ≤ 2) : Ok 18 [ii l] (.m (iu (VaSpec.sz l))) :=
  za9 #[.int .i64 l] (.int .u64 (VaSpec.sz l)) fun W _ => (VaR.zgg l W h0 h2).mono fun e w' ⟨he, hq⟩ => ⟨he, Q.below hq⟩
end Go.Proofs.YtomeaibdedaldaaGreatDoor.RlA
namespace Go.Proofs.YtomeaibdedaldaaGreatDoor.RlB
open Go.RowKit Bv VaSpec Base MemL RegR Ax MemC PutC MemC3 TzC OkS SpA SpB SpC SpD SpE SpF SpH SpI SpJ SpN SpO RfA RfB RfC RfD LaA LaB LaC LaD LaE RlA
open BitsC PteSpec
set_option maxRecDepth 10000
set_option maxHeartbeats 1000000
section
variable (sz : Int) (xs : List (Int × Int)) (hs : Srt xs) (hu : Uw xs) (hn : xs.length ≤ 1000000)
include hs hu hn
end
theorem zy2 {l : List Pg} {k : Nat} {p : Pg} (h : l[k]? = some p) : ((flP l).drop (k * 8)).take 8 = p.vs := zd7 Pg.vs 8 (fun _ => rfl) l _ p h
theorem zvm (w : World) (x0 x1 x2 y0 y1 y2 : Int) (r w' x u d r' w'' x' u' d' : Bool) :
    (Op.equalIn 10000 60 (.agg #[.int .u64 x0, .int .u64 x1, .int .i64 x2, .bool r, .bool w', .bool x, .bool u, .bool d]) (.agg #[.int .u64 y0, .int .u64 y1, .int .i64 y2, .bool r', .bool w'', .bool x', .bool u', .bool d'])).run Tryz.prog w = .ok (x0 == y0 && (x1 == y1 && (x2 == y2 && ((r == r' && (w' == w'' && (x == x' && (u == u' && true)))) && (d == d' && true))))) w := by
  refine PoolC4.zck Tryz.underlying60 (by kernel_rfl) ?_
  refine PoolC4.zar (by rfl) (by go_simp; rfl) (by go_simp; rfl) (by go_simp) ?_
  refine PoolC4.zar (by rfl) (by go_simp; rfl) (by go_simp; rfl) (by go_simp) ?_
  refine PoolC4.zar (by rfl) (by go_simp; rfl) (by go_simp; rfl) (by go_simp) ?_
  refine PoolC4.zar (a := .agg #[.bool r, .bool w', .bool x, .bool u]) (b := .agg #[.bool r', .bool w'', .bool x', .bool u']) (by rfl) (by go_simp) (by go_simp) ?_ ?_
  · refine PoolC4.zck Tryz.underlying49 (by kernel_rfl) ?_
    refine PoolC4.zar (by rfl) (by go_simp; rfl) (by go_simp; rfl) (by go_simp) ?_
    refine PoolC4.zar (by rfl) (by go_simp; rfl) (by go_simp; rfl) (by go_simp) ?_
    refine PoolC4.zar (by rfl) (by go_simp; rfl) (by go_simp; rfl) (by go_simp) ?_
    exact PoolC4.zar (by rfl) (by go_simp; rfl) (by go_simp; rfl) (by go_simp) PoolC4.zb1
  · exact PoolC4.zar (by rfl) (by go_simp; rfl) (by go_simp; rfl) (by go_simp) PoolC4.zb1
end Go.Proofs.YtomeaibdedaldaaGreatDoor.RlB
namespace Go.Proofs.YtomeaibdedaldaaGreatDoor.RlC
open Go.RowKit Bv VaSpec Base MemL RegR Ax MemC PutC MemC3 TzC OkS SpA SpB SpC SpD SpE SpF SpH SpI SpJ SpN SpO RfA RfB RfC RfD LaA LaB LaC LaD LaE LaF LaG RlA RlB
open BitsC PteSpec
set_option maxRecDepth 10000
set_option maxHeartbeats 1000000
theorem zn1 (k : Kr) (id : Int) : (zcf k id).length ≤ 134217728 := by
  unfold zcf
  split
  · exact Nat.le_trans (zho ..) (by omega)
  · split
    · simp
    · exact zsk ..
end Go.Proofs.YtomeaibdedaldaaGreatDoor.RlC
namespace Go.Proofs.YtomeaibdedaldaaGreatDoor.LaI
open Go.RowKit Bv VaSpec Base MemL RegR Ax MemC PutC MemC3 TzC OkS SpA SpB SpC SpD SpE SpF SpG SpH SpI SpJ SpK SpN RfD RfE RfJ RfK LaA LaB LaC LaD LaE LaF LaG LaH RlB RlC
open BitsC PteSpec
set_option maxRecDepth 10000
set_option maxHeartbeats 1000000
attribute [local irreducible] Ax.zbn
noncomputable def bgI (a b c : Int) (n : Nat) : Nat → Kr
  | 0 => zoc a b c n
  | i + 1 => (zbh (bgI a b c n i)).1
def bgH (k : Kr) (i : Nat) : St := St.of [(2, .m (.c (.p 2 0))), (3, .m (.c (.p 3 0))), (4, .m (.c (.p 4 0))), (6, .m (.c (.p 6 0))), (7, .m (ii i))] [(2, .live (.box zK)), (3, .live (.box zK)), (4, .live (.box k.ce)), (6, .live (.box k.ce))]
theorem zvn {a b c : Int} {n : Nat} (h : zez a b c n = true) : ∀ i, Inv i (bgI a b c n i)
  | 0 => zhn h
  | i + 1 => zb3 (zvn h i)
theorem zq1 (a b c : Int) (n : Nat) (h : zez a b c n = true) : Ok 13 [zlr a b c n] (.tu [.ag (bgK a b c n).ce, .ag (bgK a b c n).ce]) := by
  have hn := z1c a b c n h
  have hr := z1s a b c n h
  refine zah 33 Tryz.func13 rfl rfl rfl rfl ?_ GG.to
  intro W A hG
  repeat (first | (refine zaj rfl ?_; first | refine zak ?_ | refine gdr (zaa rfl rfl rfl (hn) (by kernel_rfl)) ?_ | refine gdr (zaa rfl rfl rfl (hr) (by kernel_rfl)) ?_) | (refine hK _ ?_; clear hK K) | refine zac rfl ?_ | refine zad ?_ | refine zab (fun K hK => ?_))
  refine za3 (α := Nat) (fun i => i ≤ 2) (fun i => bgH (bgI a b c n i) i) (fun i => 2 - i) 0 (by omega) (sbq _ _) ?_
  intro i hi
  show Aw _ _ _ _ (bgH (bgI a b c n i) i)
  unfold bgH
  by_cases hlt : i < 2
  · have hk := zvn h i
    have hc := zsj hk (by omega)
    have hd := zpw hk (by omega)
    have e : bgI a b c n (i + 1) = (zbh (bgI a b c n i)).1 := rfl
    generalize zbh (bgI a b c n i) = rr at *
    repeat (first | (refine zaj rfl ?_; first | refine zak ?_ | refine gdr (zaa rfl rfl rfl (hc) (by kernel_rfl)) ?_ | refine gdr (zaa rfl rfl rfl (hd) (by kernel_rfl)) ?_) | (refine hK _ ?_; clear hK K) | refine zac rfl ?_ | refine zag rfl rfl ?_ | refine zad ?_ | refine zai ?_ | refine zab (fun K hK => ?_))
    refine ⟨i + 1, by omega, by omega, ?_⟩
    rw [e]
    exact sbq _ _
  · obtain rfl : i = 2 := by omega
    rw [show bgI a b c n 2 = bgK a b c n from rfl]
    repeat (first | (refine zaj rfl ?_; first | refine zak ?_) | (refine hK _ ?_; clear hK K) | (rename_i K1 hK1; refine hK1 _ ?_; clear hK hK1; clear K) | refine zac rfl ?_ | refine zas (by kernel_rfl) (by kernel_rfl) rfl ?_ | exact zaf (show zav _ _ _ = some _ by kernel_rfl) | refine zae rfl rfl ?_ | refine zan ?_ | refine zab (fun K hK => ?_))
theorem zl4 : Ok 11 [] (.m (ib true)) := by
  have hN : Ok 13 [zlr 4 8 2 1] (.tu [.ag c2.ce, .ag c2.ce]) := by rw [← bg2]; exact zq1 4 8 2 1 (by decide)
  have hA := zgf i2 (by omega) 0 20480 4096 0 rw2 ⟨by omega, by omega⟩ ⟨by omega, by omega⟩
  rw [mA] at hA
  have hF := zgf iA (by omega) 0 20480 0 0 rw2 ⟨by omega, by omega⟩ ⟨by omega, by omega⟩
  rw [mF] at hF
  have hG2 := zgf iA (by omega) 1 20480 16384 0 rw2 ⟨by omega, by omega⟩ ⟨by omega, by omega⟩
  rw [mG] at hG2
  have hH := zgf iA (by omega) 1 20480 0 0 ⟨false, true, false, false⟩ ⟨by omega, by omega⟩ ⟨by omega, by omega⟩
  rw [mH] at hH
  have hI := zgf iA (by omega) (-1) 18446744073709547520 0 0 rw2 ⟨by omega, by omega⟩ ⟨by omega, by omega⟩
  rw [mI] at hI
  have hJ := zgf i2 (by omega) 0 1073762304 0 0 ⟨false, false, false, false⟩ ⟨by omega, by omega⟩ ⟨by omega, by omega⟩
  rw [mJ] at hJ
  have hL := zfx iB (by omega) 0
  rw [lA] at hL
  have hM := zfx iB (by omega) (-1)
  rw [lB] at hM
  have hO := zfx iB (by omega) 1
  rw [lC] at hO
  have hP := zfx iB (by omega) 9
  rw [lD] at hP
  have hx : ((flP [⟨20480, 4096, 0, true, true, false, false, false⟩]).drop ((0 : Int).toNat * 8)).take 8 = [.int .u64 20480, .int .u64 4096, .int .i64 0, .bool true, .bool true, .bool false, .bool false, .bool false] := rfl
  have hy : ((flP [⟨18446744073709547520, 0, 0, true, true, false, false, false⟩]).drop ((0 : Int).toNat * 8)).take 8 = [.int .u64 18446744073709547520, .int .u64 0, .int .i64 0, .bool true, .bool true, .bool false, .bool false, .bool false] := rfl
  have he : ∀ w, (Op.equalIn 10000 60 (.agg #[.int .u64 20480, .int .u64 4096, .int .i64 0, .bool true, .bool true, .bool false, .bool false, .bool false]) (.agg #[.int .u64 20480, .int .u64 4096, .int .i64 0, .bool true, .bool true, .bool false, .bool false, .bool false])).run Tryz.prog w = .ok true w := fun w => by rw [zvm]; simp
  refine zah 129 Tryz.func11 rfl rfl rfl rfl ?_ GG.to
  intro W A hG
  repeat (first | (refine zaj rfl ?_; first | refine zak ?_) | refine zac rfl ?_ | refine zab (fun K hK => ?_))
  first
    | (refine hK _ ?_; clear hK K)
    | (rename_i K1 hK1; refine hK1 _ ?_; clear hK hK1; clear K)
    | (rename_i K1 hK1; refine hK1 _ ?_; clear hK1)
  repeat (first | (refine zaj rfl ?_; first | refine zak ?_ | refine gdr (zaa rfl rfl rfl (hN) (by kernel_rfl)) ?_) | refine zac rfl ?_ | refine zab (fun K hK => ?_))
  first
    | (refine hK _ ?_; clear hK K)
    | (rename_i K1 hK1; refine hK1 _ ?_; clear hK hK1; clear K)
    | (rename_i K1 hK1; refine hK1 _ ?_; clear hK1)
  refine zci (sbq [(1, .m (.c (.p 1 0)))] [(1, .live (.box c2.ce))]) ?_
  repeat (first | (refine zaj rfl ?_; first | refine zak ?_) | refine zac rfl ?_ | refine zab (fun K hK => ?_))
  first
    | (refine hK _ ?_; clear hK K)
    | (rename_i K1 hK1; refine hK1 _ ?_; clear hK hK1; clear K)
    | (rename_i K1 hK1; refine hK1 _ ?_; clear hK1)
  refine zci (sbq [(1, .m (.c (.p 1 0))), (3, .m (.c (.p 3 0)))] [(1, .live (.box c2.ce)), (3, .live (.box rw2.ce))]) ?_
  repeat (first | (refine zaj rfl ?_; first | refine zak ?_ | refine gdr (zaa rfl rfl rfl (hA) (by kernel_rfl)) ?_) | refine zac rfl ?_ | refine zab (fun K hK => ?_))
  first
    | (refine hK _ ?_; clear hK K)
    | (rename_i K1 hK1; refine hK1 _ ?_; clear hK hK1; clear K)
    | (rename_i K1 hK1; refine hK1 _ ?_; clear hK1)
  refine zci (sbq [(1, .m (.c (.p 1 0))), (3, .m (.c (.p 3 0))), (4, .m (.c (.p 4 0))), (5, .m (ii 0))] [(1, .live (.box c2.ce)), (3, .live (.box rw2.ce)), (4, .live (.box cA.ce))]) ?_
  repeat (first | (refine zaj rfl ?_; first | refine zak ?_ | refine gdr (zaa rfl rfl rfl (hF) (by kernel_rfl)) ?_) | refine zac rfl ?_ | refine zab (fun K hK => ?_))
  first
    | (refine hK _ ?_; clear hK K)
    | (rename_i K1 hK1; refine hK1 _ ?_; clear hK hK1; clear K)
    | (rename_i K1 hK1; refine hK1 _ ?_; clear hK1)
  refine zci (sbq [(1, .m (.c (.p 1 0))), (3, .m (.c (.p 3 0))), (4, .m (.c (.p 4 0))), (5, .m (ii 0)), (7, .m (ii 6))] [(1, .live (.box c2.ce)), (3, .live (.box rw2.ce)), (4, .live (.box cA.ce))]) ?_
  repeat (first | (refine zaj rfl ?_; first | refine zak ?_ | refine gdr (zaa rfl rfl rfl (hG2) (by kernel_rfl)) ?_) | refine zac rfl ?_ | refine zab (fun K hK => ?_))
  first
    | (refine hK _ ?_; clear hK K)
    | (rename_i K1 hK1; refine hK1 _ ?_; clear hK hK1; clear K)
    | (rename_i K1 hK1; refine hK1 _ ?_; clear hK1)
  refine zci (sbq [(1, .m (.c (.p 1 0))), (3, .m (.c (.p 3 0))), (4, .m (.c (.p 4 0))), (5, .m (ii 0)), (7, .m (ii 6)), (9, .m (ii 3))] [(1, .live (.box c2.ce)), (3, .live (.box rw2.ce)), (4, .live (.box cA.ce))]) ?_
  repeat (first | (refine zaj rfl ?_; first | refine zak ?_ | refine gdr (zaa rfl rfl rfl (hH) (by kernel_rfl)) ?_) | refine zac rfl ?_ | refine zab (fun K hK => ?_))
  first
    | (refine hK _ ?_; clear hK K)
    | (rename_i K1 hK1; refine hK1 _ ?_; clear hK hK1; clear K)
    | (rename_i K1 hK1; refine hK1 _ ?_; clear hK1)
  refine zci (sbq [(1, .m (.c (.p 1 0))), (3, .m (.c (.p 3 0))), (4, .m (.c (.p 4 0))), (5, .m (ii 0)), (7, .m (ii 6)), (9, .m (ii 3)), (11, .m (ii 5))] [(1, .live (.box c2.ce)), (3, .live (.box rw2.ce)), (4, .live (.box cA.ce))]) ?_
  repeat (first | (refine zaj rfl ?_; first | refine zak ?_ | refine gdr (zaa rfl rfl rfl (hI) (by kernel_rfl)) ?_) | refine zac rfl ?_ | refine zab (fun K hK => ?_))
  first
    | (refine hK _ ?_; clear hK K)
    | (rename_i K1 hK1; refine hK1 _ ?_; clear hK hK1; clear K)
    | (rename_i K1 hK1; refine hK1 _ ?_; clear hK1)
  refine zci (sbq [(1, .m (.c (.p 1 0))), (3, .m (.c (.p 3 0))), (4, .m (.c (.p 4 0))), (5, .m (ii 0)), (7, .m (ii 6)), (9, .m (ii 3)), (11, .m (ii 5)), (12, .m (.c (.p 12 0))), (13, .m (ii 0))] [(1, .live (.box c2.ce)), (3, .live (.box rw2.ce)), (4, .live (.box cA.ce)), (12, .live (.box cB.ce))]) ?_
  repeat (first | (refine zaj rfl ?_; first | refine zak ?_ | refine gdr (zaa rfl rfl rfl (hJ) (by kernel_rfl)) ?_) | refine zac rfl ?_ | refine zab (fun K hK => ?_))
  first
    | (refine hK _ ?_; clear hK K)
    | (rename_i K1 hK1; refine hK1 _ ?_; clear hK hK1; clear K)
    | (rename_i K1 hK1; refine hK1 _ ?_; clear hK1)
  refine zci (sbq [(1, .m (.c (.p 1 0))), (3, .m (.c (.p 3 0))), (4, .m (.c (.p 4 0))), (5, .m (ii 0)), (7, .m (ii 6)), (9, .m (ii 3)), (11, .m (ii 5)), (12, .m (.c (.p 12 0))), (13, .m (ii 0)), (15, .m (ii 5))] [(1, .live (.box c2.ce)), (3, .live (.box rw2.ce)), (4, .live (.box cA.ce)), (12, .live (.box cB.ce))]) ?_
  repeat (first | (refine zaj rfl ?_; first | refine zak ?_ | refine gdr (zaa rfl rfl rfl (hL) (by kernel_rfl)) ?_) | refine zac rfl ?_ | refine zab (fun K hK => ?_))
  first
    | (refine hK _ ?_; clear hK K)
    | (rename_i K1 hK1; refine hK1 _ ?_; clear hK hK1; clear K)
    | (rename_i K1 hK1; refine hK1 _ ?_; clear hK1)
  refine zci (sbq [(1, .m (.c (.p 1 0))), (3, .m (.c (.p 3 0))), (4, .m (.c (.p 4 0))), (5, .m (ii 0)), (7, .m (ii 6)), (9, .m (ii 3)), (11, .m (ii 5)), (12, .m (.c (.p 12 0))), (13, .m (ii 0)), (15, .m (ii 5)), (16, .m (.c (.s 1 8 (flP [⟨20480, 4096, 0, true, true, false, false, false⟩]))))] [(1, .live (.box c2.ce)), (3, .live (.box rw2.ce)), (4, .live (.box cA.ce)), (12, .live (.box cB.ce))]) ?_
  repeat (first | (refine zaj rfl ?_; first | refine zak ?_ | refine gdr (zaa rfl rfl rfl (hM) (by kernel_rfl)) ?_) | refine zac rfl ?_ | refine zab (fun K hK => ?_))
  first
    | (refine hK _ ?_; clear hK K)
    | (rename_i K1 hK1; refine hK1 _ ?_; clear hK hK1; clear K)
    | (rename_i K1 hK1; refine hK1 _ ?_; clear hK1)
  refine zci (sbq [(1, .m (.c (.p 1 0))), (3, .m (.c (.p 3 0))), (4, .m (.c (.p 4 0))), (5, .m (ii 0)), (7, .m (ii 6)), (9, .m (ii 3)), (11, .m (ii 5)), (12, .m (.c (.p 12 0))), (13, .m (ii 0)), (15, .m (ii 5)), (16, .m (.c (.s 1 8 (flP [⟨20480, 4096, 0, true, true, false, false, false⟩])))), (17, .m (.c (.s 1 8 (flP [⟨18446744073709547520, 0, 0, true, true, false, false, false⟩]))))] [(1, .live (.box c2.ce)), (3, .live (.box rw2.ce)), (4, .live (.box cA.ce)), (12, .live (.box cB.ce))]) ?_
  repeat (first | (refine zaj rfl ?_; first | refine zak ?_ | (refine zhi 113 rfl ?_; refine gdr (zaa rfl rfl rfl (hO) (by kernel_rfl)) ?_) | (refine zhi 119 rfl ?_; refine gdr (zaa rfl rfl rfl (hP) (by kernel_rfl)) ?_) | refine gdr (zcj (us := [.int .u64 20480, .int .u64 4096, .int .i64 0, .bool true, .bool true, .bool false, .bool false, .bool false]) (vs := [.int .u64 20480, .int .u64 4096, .int .i64 0, .bool true, .bool true, .bool false, .bool false, .bool false]) he (by kernel_rfl) rfl rfl rfl rfl) ?_) | (refine hK _ ?_; clear hK K) | refine zas (by kernel_rfl) (by kernel_rfl) rfl ?_ | exact zaf (show zav _ _ _ = some _ by kernel_rfl) | refine zab (fun K hK => ?_))
end Go.Proofs.YtomeaibdedaldaaGreatDoor.LaI
namespace Go.Proofs.YtomeaibdedaldaaGreatDoor.LaJ
open Go.RowKit Bv VaSpec Base MemL RegR Ax MemC PutC MemC3 TzC OkS SpA SpB SpC SpD SpE SpF SpG SpH SpI SpJ SpK SpN RfD RfE LaA LaB LaC LaD LaE LaF LaG LaH LaI RlB RlC
open BitsC PteSpec
set_option maxRecDepth 10000
set_option maxHeartbeats 1000000
attribute [local irreducible] Ax.zbn
structure Rq where
  id : Int
  va : Int
  pa : Int
  lev : Int
  p : Pm
deriving DecidableEq
def Rq.ce (q : Rq) : List Ce := [ci q.id, cu q.va, cu q.pa, ci q.lev, cb q.p.r, cb q.p.w, cb q.p.x, cb q.p.u]
def Rq.vs (q : Rq) : List Value := [.int .i64 q.id, .int .u64 q.va, .int .u64 q.pa, .int .i64 q.lev, .bool q.p.r, .bool q.p.w, .bool q.p.x, .bool q.p.u]
def UQ (q : Rq) : Prop := U q.va ∧ U q.pa
def flQ (l : List Rq) : List Value := l.flatMap Rq.vs
theorem z33 {l : List Rq} {k : Nat} {q : Rq} (h : l[k]? = some q) : ((flQ l).drop (k * 8)).take 8 = [.int .i64 q.id, .int .u64 q.va, .int .u64 q.pa, .int .i64 q.lev, .bool q.p.r, .bool q.p.w, .bool q.p.x, .bool q.p.u] := zd7 Rq.vs 8 (fun _ => rfl) l _ q h
def mq (k : Kr) (q : Rq) : Kr × Int := zb6 k q.id q.va q.pa q.lev q.p
theorem z5o {n : Nat} {k : Kr} (h : InvL n k) (hn : n ≤ 90000) (q : Rq) (hq : UQ q) : Ok 15 [.ag k.ce, ii q.id, iu q.va, iu q.pa, ii q.lev, .ag q.p.ce] (.tu [.ag (mq k q).1.ce, ii (mq k q).2]) := zgf h hn q.id q.va q.pa q.lev q.p hq.1 hq.2
end Go.Proofs.YtomeaibdedaldaaGreatDoor.LaJ
namespace Go.Proofs.YtomeaibdedaldaaGreatDoor.Open
open Go.RowKit Go.WideShapes Go.ChangeShapes Base
set_option maxRecDepth 10000
section
variable {H : Type} {enc : TypeId × Value → H} {P : Program}
theorem keepAll (hl : laidOutB P = true) {W W' : World} (hb : Below W.heap.size W W') : ∀ {ts : List TypeId} {vs : List Value} {ds : List (DataW H)} {ps : List MemPlace},
    (ts.all fun t => P.readableRec t && decide (t < P.types.size)) = true → DataW.TrodAll enc P W 0 (fun _ => true) true ts vs ds ps → DataW.TrodAll enc P W' 0 (fun b => decide (b < W.heap.size)) true ts vs ds ps
  | [], [], [], _, _, h => h
  | t :: ts, v :: vs, d :: ds, ps, ht, ⟨a, b, h1, h2, e⟩ => by
    simp only [List.all_cons, Bool.and_eq_true, decide_eq_true_eq] at ht
    have h1' := h1
    obtain ⟨n, hn⟩ := h1
    exact ⟨a, b, Below.trod hl ht.1.1 ht.1.2 h1' hb (fun x hx => DataW.trod_lt n t _ _ hn x hx), keepAll hl hb ht.2 h2, e⟩
end
section
variable {H : Type} {enc : TypeId × Value → H} {W : World} {base b0 : Nat} {sp : Nat → Bool} {held : Bool} {n : Nat} {r : Reach}
theorem zg0 {c : Value} {x : Option (DataW H × List MemPlace)} {y : DataW H × List MemPlace} (h : DataW.trod enc Tryz.prog W base sp held n 4 [c] = x) (hx : x = some y) : ∃ b, c = .bool b := by
  rw [hx] at h
  obtain ⟨b, e, _⟩ := DataW.trod_bool Tryz.underlying4 h
  exact ⟨b, by simpa using e⟩
theorem zq2 {c : Value} {x : Option (DataW H × List MemPlace)} {y : DataW H × List MemPlace} (h : DataW.trod enc Tryz.prog W base sp held n 25 [c] = x) (hx : x = some y) : ∃ a, c = .int .u64 a ∧ U a := by
  rw [hx] at h
  obtain ⟨b, e, _, wf⟩ := DataW.trod_int Tryz.underlying25 h
  exact ⟨b, by simpa using e, U.of wf⟩
theorem zfy {c : Value} {x : Option (DataW H × List MemPlace)} {y : DataW H × List MemPlace} (h : DataW.trod enc Tryz.prog W base sp held n 3 [c] = x) (hx : x = some y) : ∃ a, c = .int .i64 a ∧ (-9223372036854775808 ≤ a ∧ a ≤ 9223372036854775807) := by
  rw [hx] at h
  obtain ⟨b, e, _, wf⟩ := DataW.trod_int Tryz.underlying3 h
  refine ⟨b, by simpa using e, ?_⟩
  simp [Lit.wf, IntKind.min, IntKind.max, IntKind.bits, IntKind.signed] at wf; omega
theorem zc7 {α : Type} {xs : List α} {m i : Nat} (h : xs.length = m) (hi : i < m) : ∃ y, xs[i]? = some y := ⟨xs[i]'(by omega), List.getElem?_eq_getElem _⟩
end
end Go.Proofs.YtomeaibdedaldaaGreatDoor.Open
namespace Go.Proofs.YtomeaibdedaldaaGreatDoor.Laid
open Go.ChangeShapes Go.WideShapes Go.ChangeAt Go.RowKit Ax OkS LaJ MemL Bv Base SpA
set_option maxRecDepth 10000
def laidS : List (String × DataW Unit) := [("atlas/va.sizes", Rows.laid_atlas_va_sizes), ("math/bits.deBruijn64tab", Rows.laid_math_bits_deBruijn64tab), ("atlas/fence.asks", Rows.laid_atlas_fence_asks)]
theorem g_sizes : Tryz.prog.globalNamed "atlas/va.sizes" = some 0 := by kernel_rfl
theorem g_tab : Tryz.prog.globalNamed "math/bits.deBruijn64tab" = some 1 := by kernel_rfl
theorem g_asks : Tryz.prog.globalNamed "atlas/fence.asks" = some 2 := by kernel_rfl
theorem t_sizes : (Tryz.prog.globals[0]?).map (·.type) = some 201 := by kernel_rfl
theorem t_tab : (Tryz.prog.globals[1]?).map (·.type) = some 242 := by kernel_rfl
theorem t_asks : (Tryz.prog.globals[2]?).map (·.type) = some 261 := by kernel_rfl
theorem gg_of_laid {W : World} (h : laidMetH Tryz.prog laidS W) : GG W := by
  have hp := (show laidMet Tryz.prog _ W ∧ handlesMet Tryz.prog _ W from h).1
  obtain ⟨ps, ⟨g1, t1, cs1, f1, p1, q1, hg1, ht1, hv1, hd1, hr, _⟩, _, _⟩ := hp
  obtain ⟨g2, t2, cs2, f2, p2, q2, hg2, ht2, hv2, hd2, _, _⟩ := hr
  obtain rfl := Option.some.inj (g_sizes.symm.trans hg1)
  obtain rfl := Option.some.inj (t_sizes.symm.trans ht1)
  obtain rfl := Option.some.inj (g_tab.symm.trans hg2)
  obtain rfl := Option.some.inj (t_tab.symm.trans ht2)
  have e1 := Lib.cells_of_tab (k := .u64) (zs := [4096, 2097152, 1073741824]) Tryz.underlying201 Tryz.underlying25 (by kernel_rfl) (by kernel_rfl) hd1
  have e2 := Lib.cells_of_tab (k := .u8) (zs := List.map (fun n : Nat => (n : Int)) Lib.deBruijn64tab) Tryz.underlying242 Tryz.underlying5 (by kernel_rfl) (by kernel_rfl) hd2
  obtain ⟨g, t, cs, fuel, p, hg, ht, hv, hd⟩ := h.funcs (n := "atlas/fence.asks") (List.mem_cons_of_mem _ (List.mem_cons_of_mem _ (List.mem_cons_self ..)))
  obtain rfl := Option.some.inj (g_asks.symm.trans hg)
  obtain rfl := Option.some.inj (t_asks.symm.trans ht)
  have hd' : DataW.trod (funcToken Tryz.prog) Tryz.prog W 0 (fun _ => true) true fuel 261 cs.toList = some (.slice [.held [40, 97, 116, 108, 97, 115, 47, 102, 101, 110, 99, 101, 46, 102, 111, 114, 109, 41, 46, 97, 100, 100, 114], .held [40, 97, 116, 108, 97, 115, 47, 102, 101, 110, 99, 101, 46, 102, 111, 114, 109, 41, 46, 97, 115, 105, 100]] [], p) := hd
  obtain ⟨a, cap, hcs, _, hel⟩ := open_row Tryz.underlying261 (by kernel_rfl) hd'
  obtain ⟨v0, n0, q0, hc0, hr0⟩ := hel 0 _ rfl
  obtain ⟨v1, n1, q1', hc1, hr1⟩ := hel 1 _ rfl
  obtain rfl := func_of_trod (f0 := 223) Tryz.underlying262 (by kernel_rfl) hr0
  obtain rfl := func_of_trod (f0 := 225) Tryz.underlying262 (by kernel_rfl) hr1
  obtain ⟨b, off, spot⟩ := a
  have hspot : spot = none := by simpa [Addr.add] using World.cell?_spot hc0
  subst hspot
  have c1 : ∀ i, W.cell? ⟨0, i, none⟩ = cs1[i]? := fun i => by simpa using World.var?_cell hg1 hv1 i
  have c2 : ∀ i, W.cell? ⟨1, i, none⟩ = cs2[i]? := fun i => by simpa using World.var?_cell hg2 hv2 i
  have c3 : ∀ i, W.cell? ⟨2, i, none⟩ = cs[i]? := fun i => by simpa using World.var?_cell hg hv i
  refine ⟨⟨?_, ?_, ?_⟩, fun j hj => ?_, b, off, cap, ?_, by simpa [Addr.add, z2n] using hc0, by simpa [Addr.add, z2n] using hc1⟩
  · rw [c1, ← Array.getElem?_toList, e1]; rfl
  · rw [c1, ← Array.getElem?_toList, e1]; rfl
  · rw [c1, ← Array.getElem?_toList, e1]; rfl
  · rw [c2, ← Array.getElem?_toList, e2]
    simp [List.getD, hj]
  · rw [c3, ← Array.getElem?_toList, hcs]; rfl
section
variable {H : Type} {enc : TypeId × Value → H} {W : World} {base b0 : Nat} {sp : Nat → Bool} {held : Bool} {n : Nat} {r : Reach}
theorem open_conf {v : Value} {d : DataW H} {p : List MemPlace} (hv : Value.okWide Tryz.prog W r b0 23 v) (h : DataW.Trod enc Tryz.prog W base sp held 23 v d p) :
    ∃ x0 x1 x2 x3, v = .agg #[.int .i64 x0, .int .i64 x1, .int .i64 x2, .int .i64 x3] := by
  obtain ⟨⟨l⟩, rfl, hsz⟩ := okWide_struct Tryz.underlying23 hv
  rw [show Tryz.prog.cellsOf 23 = 4 by kernel_rfl] at hsz
  obtain ⟨fuel, hf⟩ := h
  obtain ⟨xs, n, _, _, _, hlen, hfd⟩ := DataW.trod_struct Tryz.underlying23 hf
  match l, hsz with
  | [c0, c1, c2, c3], _ =>
    have g := fun i f (e : _ = some f) => hfd i f e
    have k4 : Tryz.prog.cellsOf 3 = 1 := by kernel_rfl
    have hl : xs.length = 4 := hlen
    have h0 : DataW.trod enc Tryz.prog W base sp held n 3 [c0] = xs[0]? := by have := g 0 _ rfl; simpa [Value.cells, k4] using this
    obtain ⟨y0, q0⟩ := Open.zc7 hl (show 0 < 4 by decide)
    obtain ⟨x0, rfl, _⟩ := Open.zfy (c := c0) h0 q0
    have h1 : DataW.trod enc Tryz.prog W base sp held n 3 [c1] = xs[1]? := by have := g 1 _ rfl; simpa [Value.cells, k4] using this
    obtain ⟨y1, q1⟩ := Open.zc7 hl (show 1 < 4 by decide)
    obtain ⟨x1, rfl, _⟩ := Open.zfy (c := c1) h1 q1
    have h2 : DataW.trod enc Tryz.prog W base sp held n 3 [c2] = xs[2]? := by have := g 2 _ rfl; simpa [Value.cells, k4] using this
    obtain ⟨y2, q2⟩ := Open.zc7 hl (show 2 < 4 by decide)
    obtain ⟨x2, rfl, _⟩ := Open.zfy (c := c2) h2 q2
    have h3 : DataW.trod enc Tryz.prog W base sp held n 3 [c3] = xs[3]? := by have := g 3 _ rfl; simpa [Value.cells, k4] using this
    obtain ⟨y3, q3⟩ := Open.zc7 hl (show 3 < 4 by decide)
    obtain ⟨x3, rfl, _⟩ := Open.zfy (c := c3) h3 q3
    exact ⟨x0, x1, x2, x3, rfl⟩
theorem addk (b off k : Nat) : (⟨b, off, none⟩ : Addr).add k = ⟨b, off + k, none⟩ := by
  unfold Addr.add; split
  · rename_i h; subst h; rfl
  · rfl
theorem zx2 {cs : List Value} {y : DataW H × List MemPlace} (hsz : cs.length = 8) (hf : DataW.trod enc Tryz.prog W base sp held n 51 cs = some y) : ∃ q : Rq, cs = q.vs ∧ UQ q := by
  obtain ⟨xs, n, _, _, _, hlen, hfd⟩ := DataW.trod_struct Tryz.underlying51 hf
  match cs, hsz with
  | [c0, c1, c2, c3, c4, c5, c6, c7], _ =>
    have g := fun i f (e : _ = some f) => hfd i f e
    have k1 : Tryz.prog.cellsOf 3 = 1 := by kernel_rfl
    have k64 : Tryz.prog.cellsOf 25 = 1 := by kernel_rfl
    have kb : Tryz.prog.cellsOf 4 = 1 := by kernel_rfl
    have kp : Tryz.prog.cellsOf 49 = 4 := by kernel_rfl
    have hl : xs.length = 5 := hlen
    have h0 : DataW.trod enc Tryz.prog W base sp held n 3 [c0] = xs[0]? := by have := g 0 _ rfl; simpa [k1, k64, kp] using this
    obtain ⟨y0, q0⟩ := Open.zc7 hl (show 0 < 5 by decide)
    obtain ⟨x0, rfl, _⟩ := Open.zfy (c := c0) h0 q0
    have h1 : DataW.trod enc Tryz.prog W base sp held n 25 [c1] = xs[1]? := by have := g 1 _ rfl; simpa [k1, k64, kp] using this
    obtain ⟨y1, q1⟩ := Open.zc7 hl (show 1 < 5 by decide)
    obtain ⟨x1, rfl, u1⟩ := Open.zq2 (c := c1) h1 q1
    have h2 : DataW.trod enc Tryz.prog W base sp held n 25 [c2] = xs[2]? := by have := g 2 _ rfl; simpa [k1, k64, kp] using this
    obtain ⟨y2, q2⟩ := Open.zc7 hl (show 2 < 5 by decide)
    obtain ⟨x2, rfl, u2⟩ := Open.zq2 (c := c2) h2 q2
    have h3 : DataW.trod enc Tryz.prog W base sp held n 3 [c3] = xs[3]? := by have := g 3 _ rfl; simpa [k1, k64, kp] using this
    obtain ⟨y3, q3⟩ := Open.zc7 hl (show 3 < 5 by decide)
    obtain ⟨x3, rfl, _⟩ := Open.zfy (c := c3) h3 q3
    have h4 : DataW.trod enc Tryz.prog W base sp held n 49 [c4, c5, c6, c7] = xs[4]? := by have := g 4 _ rfl; simpa [k1, k64, kp] using this
    obtain ⟨y4, q4⟩ := Open.zc7 hl (show 4 < 5 by decide)
    rw [q4] at h4
    obtain ⟨zs, m, _, _, _, hlen2, hfd2⟩ := DataW.trod_struct Tryz.underlying49 h4
    have g2 := fun i f (e : _ = some f) => hfd2 i f e
    have hl2 : zs.length = 4 := hlen2
    have p0 : DataW.trod enc Tryz.prog W base sp held m 4 [c4] = zs[0]? := by have := g2 0 _ rfl; simpa [kb] using this
    obtain ⟨z0, w0⟩ := Open.zc7 hl2 (show 0 < 4 by decide)
    obtain ⟨b0, rfl⟩ := Open.zg0 (c := c4) p0 w0
    have p1 : DataW.trod enc Tryz.prog W base sp held m 4 [c5] = zs[1]? := by have := g2 1 _ rfl; simpa [kb] using this
    obtain ⟨z1, w1⟩ := Open.zc7 hl2 (show 1 < 4 by decide)
    obtain ⟨b1, rfl⟩ := Open.zg0 (c := c5) p1 w1
    have p2 : DataW.trod enc Tryz.prog W base sp held m 4 [c6] = zs[2]? := by have := g2 2 _ rfl; simpa [kb] using this
    obtain ⟨z2, w2⟩ := Open.zc7 hl2 (show 2 < 4 by decide)
    obtain ⟨b2, rfl⟩ := Open.zg0 (c := c6) p2 w2
    have p3 : DataW.trod enc Tryz.prog W base sp held m 4 [c7] = zs[3]? := by have := g2 3 _ rfl; simpa [kb] using this
    obtain ⟨z3, w3⟩ := Open.zc7 hl2 (show 3 < 4 by decide)
    obtain ⟨b3, rfl⟩ := Open.zg0 (c := c7) p3 w3
    exact ⟨⟨x0, x1, x2, x3, ⟨b0, b1, b2, b3⟩⟩, rfl, u1, u2⟩
theorem z1t (l : List Rq) : (flQ l).length = l.length * 8 := by
  induction l with
  | nil => rfl
  | cons c l ih => show ((_ :: _ :: _ :: _ :: _ :: _ :: _ :: _ :: flQ l).length) = _; simp only [List.length_cons, ih]; omega
theorem zvo : ∀ (l : List Rq) (i j : Nat) (q : Rq), l[i]? = some q → j < 8 → (flQ l)[i * 8 + j]? = q.vs[j]?
  | [], i, j, q, h, _ => by simp at h
  | x :: l, 0, j, q, h, hj => by
    simp at h; subst h
    show (x.vs ++ flQ l)[0 * 8 + j]? = _
    rw [Nat.zero_mul, Nat.zero_add, List.getElem?_append_left (by show j < 8; exact hj)]
  | x :: l, i + 1, j, q, h, hj => by
    have := zvo l i j q (by simpa using h) hj
    show (x.vs ++ flQ l)[(i + 1) * 8 + j]? = _
    rw [List.getElem?_append_right (by show 8 ≤ _; omega), show (i + 1) * 8 + j - x.vs.length = i * 8 + j by show (i + 1) * 8 + j - 8 = _; omega]
    exact this
theorem open_rqs {v : Value} {d : DataW H} {p : List MemPlace} (hv : Value.okWide Tryz.prog W r b0 24 v) (h : DataW.Trod enc Tryz.prog W base (fun _ => true) held 24 v d p) :
    ∃ l : List Rq, (∀ x ∈ l, UQ x) ∧ Ce.R (en0 (fun _ => True) W) (.s l.length 8 (flQ l)) v := by
  obtain ⟨a, len, cap, rfl⟩ := okWide_slice Tryz.underlying24 hv
  obtain ⟨fuel, hf⟩ := h
  have hf : DataW.trod enc Tryz.prog W base (fun _ => true) held fuel 24 [.slice a len cap] = some (d, p) := hf
  have ke : Tryz.prog.cellsOf 51 = 8 := by kernel_rfl
  rcases Deep.open_slice Tryz.underlying24 hf with ⟨e, _⟩ | ⟨a', len', cap', m, k, D, Pl, e, _, hl, hm, hmm, _, hx⟩
  · simp only [List.cons.injEq, and_true] at e
    refine ⟨[], fun x hx => (by cases hx), ?_⟩
    rw [e]
    exact ⟨⟨rfl, .inl ⟨rfl, rfl⟩⟩, fun a l c e => by cases e⟩
  · simp only [List.cons.injEq, and_true, Value.slice.injEq] at e
    obtain ⟨rfl, rfl, rfl⟩ := e
    have hok : Cell.ok Tryz.prog W r b0 24 (.slice (some a') len cap) := by
      have hv := hv
      unfold Value.okWide at hv
      rw [Tryz.underlying24] at hv
      unfold Cell.okWide at hv
      rw [Tryz.underlying24] at hv
      exact hv
    unfold Cell.ok at hok
    rw [Tryz.underlying24] at hok
    obtain ⟨_, _, _, hsp, row, cells, hsh, _⟩ := hok
    obtain ⟨b, off, spot⟩ := a'
    have hsp : spot = none := hsp
    subst hsp
    have hb : b < W.heap.size := by
      rcases Nat.lt_or_ge b W.heap.size with h | h
      · exact h
      · have hsh : W.shape? b = some (row, cells) := hsh
        unfold World.shape? at hsh
        rw [Array.getElem?_eq_none h] at hsh
        cases hsh
    have ku : ∀ i, i < len → ∃ q : Rq, (∀ j, j < 8 → W.cell? ⟨b, off + (i * 8 + j), none⟩ = q.vs[j]?) ∧ UQ q := fun i hi => by
      obtain ⟨cs, g1, g2⟩ := hx i (by rw [hmm]; simp; omega)
      rw [ke] at g1
      obtain ⟨_, hlen, hcell⟩ := World.cells?_some g1
      obtain ⟨q, rfl, hq⟩ := zx2 hlen g2
      refine ⟨q, fun j hj => ?_, hq⟩
      have e0 := hcell j (by omega)
      rw [addk, addk] at e0
      rw [← e0, Nat.add_assoc]
    haveI : Inhabited Rq := ⟨⟨0, 0, 0, 0, ⟨false, false, false, false⟩⟩⟩
    obtain ⟨f, hf⟩ := Deep.choose_lt (α := Rq) (p := fun i q => (∀ j, j < 8 → W.cell? ⟨b, off + (i * 8 + j), none⟩ = q.vs[j]?) ∧ UQ q) ku
    have hlen : ((List.range len).map f).length = len := by simp
    refine ⟨(List.range len).map f, fun x hx => ?_, ⟨by rw [z1t], .inr ⟨b, off, cap, by rw [hlen], hb, by rw [hlen]; exact hl, hm, fun i hi => ?_⟩⟩, fun _ _ _ _ => trivial⟩
    · obtain ⟨i, hi, rfl⟩ := List.mem_map.1 hx
      exact (hf i (List.mem_range.1 hi)).2
    · rw [hlen] at hi
      have hi2 : i / 8 < len := by omega
      obtain ⟨e0, _⟩ := hf (i / 8) hi2
      have hg := zvo ((List.range len).map f) (i / 8) (i % 8) (f (i / 8)) (by simp [hi2]) (by omega)
      have e1 := e0 (i % 8) (by omega)
      rw [show i / 8 * 8 + i % 8 = i by omega] at hg e1
      rw [hg]; exact e1
end
theorem u64_of {a : Int} (wf : (Lit.int .u64 a).wf = true) : U a := by
  simp [Lit.wf, IntKind.min, IntKind.max, IntKind.bits, IntKind.signed] at wf; exact ⟨by omega, by omega⟩
end Go.Proofs.YtomeaibdedaldaaGreatDoor.Laid
namespace Go.Proofs.YtomeaibdedaldaaGreatDoor.LiA
open Go.RowKit Bv VaSpec Base MemL RegR Ax MemC PutC MemC3 TzC OkS SpA SpB SpC SpD SpF SpH SpI SpJ SpN SpO RfP RfQ LaA LaB LaC LaD LaE LaF LaG
open BitsC PteSpec
set_option maxRecDepth 10000
set_option maxHeartbeats 1000000
def KOk (al : Int → Prop) (lv : Int → Int) (s : Int) (p : Pte) : Prop := al s ∧ (0 ≤ lv s ∧ lv s ≤ 2) ∧ ((zaz p = true ∧ zc3 p (lv s) = false) ∨ (lkP p = true ∧ 1 ≤ lv s ∧ lv p.ppn = lv s - 1 ∧ al p.ppn))
structure TE (E : Int → Int → Pte) (al : Int → Prop) (sh : Int) (lv : Int → Int) : Prop where
  k : ∀ s i, (0 ≤ i ∧ i < 512) → E s i = zP ∨ KOk al lv s (E s i)
  u : ∀ s i t j, (0 ≤ i ∧ i < 512) → (0 ≤ j ∧ j < 512) → lkP (E s i) = true → lkP (E t j) = true → (E s i).ppn = (E t j).ppn → (E s i).ppn ≠ sh → s = t ∧ i = j
  s : ∀ s i, (0 ≤ i ∧ i < 512) → lkP (E s i) = true → (E s i).ppn = sh → i = 511 ∧ lv s = 2
section
variable {E E' : Int → Int → Pte} {al al' : Int → Prop} {sh : Int} {lv lv' : Int → Int}
theorem TE.sub (h : TE E al sh lv) (hs : ∀ s i, (0 ≤ i ∧ i < 512) → E' s i = zP ∨ E' s i = E s i) : TE E' al sh lv := by
  have key : ∀ s i, (0 ≤ i ∧ i < 512) → lkP (E' s i) = true → E' s i = E s i := fun s i hi hl => by
    rcases hs s i hi with e | e
    · rw [e] at hl; cases hl
    · exact e
  refine ⟨fun s i hi => ?_, fun s i t j hi hj h1 h2 h3 h4 => ?_, fun s i hi h1 h2 => ?_⟩
  · rcases hs s i hi with e | e
    · exact .inl e
    · rw [e]; exact h.k s i hi
  · have e1 := key s i hi h1
    have e2 := key t j hj h2
    rw [e1] at h1 h3 h4; rw [e2] at h2 h3
    exact h.u s i t j hi hj h1 h2 h3 h4
  · have e1 := key s i hi h1
    rw [e1] at h1 h2; exact h.s s i hi h1 h2
theorem TE.fr (h : TE E al sh lv) (hs : ∀ s i, (0 ≤ i ∧ i < 512) → E s i ≠ zP → al' s) (hp : ∀ s i, (0 ≤ i ∧ i < 512) → lkP (E s i) = true → al' (E s i).ppn) : TE E al' sh lv := by
  refine ⟨fun s i hi => ?_, h.u, h.s⟩
  by_cases e : E s i = zP
  · exact .inl e
  · rcases h.k s i hi with e2 | ⟨a, b, c⟩
    · exact absurd e2 e
    · refine .inr ⟨hs s i hi e, b, ?_⟩
      rcases c with c | ⟨c1, c2, c3, c4⟩
      · exact .inl c
      · exact .inr ⟨c1, c2, c3, hp s i hi c1⟩
theorem TE.mono (h : TE E al sh lv) (ha : ∀ s, al s → al' s) : TE E al' sh lv :=
  h.fr (fun s i hi e => by
    rcases h.k s i hi with e2 | ⟨a, _⟩
    · exact absurd e2 e
    · exact ha _ a) (fun s i hi hl => by
    rcases h.k s i hi with e2 | ⟨_, _, ⟨c, _⟩ | ⟨_, _, _, c⟩⟩
    · rw [e2] at hl; cases hl
    · have := (zbs hl).2.2; rw [c] at this; cases this
    · exact ha _ c)
theorem zc8 {p : Pte} (h : zaz p = true) : lkP p = false := by
  cases e : lkP p with
  | false => rfl
  | true => have := (zbs e).2.2; rw [h] at this; cases this
theorem TE.leaf (h : TE E al sh lv) {t i : Int} {p : Pte} (ht : al t) (hl : 0 ≤ lv t ∧ lv t ≤ 2) (h1 : zaz p = true) (h2 : zc3 p (lv t) = false) (he : ∀ s j, (0 ≤ j ∧ j < 512) → E' s j = if s = t ∧ j = i then p else E s j) : TE E' al sh lv := by
  have key : ∀ s j, (0 ≤ j ∧ j < 512) → lkP (E' s j) = true → E' s j = E s j := fun s j hj hlk => by
    rw [he s j hj] at hlk ⊢
    split
    · rename_i c; rw [if_pos c, zc8 h1] at hlk; cases hlk
    · rfl
  refine ⟨fun s j hj => ?_, fun s i t j hi hj a1 a2 a3 a4 => ?_, fun s i hi a1 a2 => ?_⟩
  · rw [he s j hj]
    split
    · rename_i c; rw [c.1]; exact .inr ⟨ht, hl, .inl ⟨h1, h2⟩⟩
    · exact h.k s j hj
  · have e1 := key s i hi a1
    have e2 := key t j hj a2
    rw [e1] at a1 a3 a4; rw [e2] at a2 a3
    exact h.u s i t j hi hj a1 a2 a3 a4
  · have e1 := key s i hi a1
    rw [e1] at a1 a2; exact h.s s i hi a1 a2
def upL (lv : Int → Int) (g l : Int) : Int → Int := fun s => if s = g then l else lv s
theorem TE.link (h : TE E al sh lv) {t i g : Int} (ha : ∀ s, al s → al' s ∧ s ≠ g) (hg : al' g) (ht : al t) (hl : 1 ≤ lv t ∧ lv t ≤ 2) (hi : 0 ≤ i ∧ i < 512) (hsh : al sh) (hn : lkP (E t i) = false)
    (he : ∀ s j, (0 ≤ j ∧ j < 512) → E' s j = if s = t ∧ j = i then lnk g else E s j) : TE E' al' sh (upL lv g (lv t - 1)) := by
  have hgs : g ≠ sh := fun e => (ha _ hsh).2 e.symm
  have hgt : t ≠ g := (ha _ ht).2
  have hlv : ∀ s, al s → upL lv g (lv t - 1) s = lv s := fun s hs => if_neg (ha s hs).2
  have nog : ∀ s j, (0 ≤ j ∧ j < 512) → lkP (E s j) = true → (E s j).ppn ≠ g := fun s j hj hlk => by
    rcases h.k s j hj with e2 | ⟨_, _, ⟨c, _⟩ | ⟨_, _, _, c⟩⟩
    · rw [e2] at hlk; cases hlk
    · rw [zc8 c] at hlk; cases hlk
    · exact (ha _ c).2
  refine ⟨fun s j hj => ?_, fun s a t' b ha' hb h1 h2 h3 h4 => ?_, fun s j hj h1 h2 => ?_⟩
  · rw [he s j hj]
    split
    · rename_i c
      rw [c.1]
      refine .inr ⟨(ha _ ht).1, by rw [hlv t ht]; omega, .inr ⟨rfl, by rw [hlv t ht]; exact hl.1, ?_, hg⟩⟩
      rw [hlv t ht]
      exact if_pos rfl
    · rcases h.k s j hj with e | ⟨a, b, c⟩
      · exact .inl e
      · refine .inr ⟨(ha _ a).1, by rw [hlv s a]; exact b, ?_⟩
        rw [hlv s a]
        rcases c with c | ⟨c1, c2, c3, c4⟩
        · exact .inl c
        · exact .inr ⟨c1, c2, by rw [hlv _ c4]; exact c3, (ha _ c4).1⟩
  · rw [he s a ha'] at h1 h3 h4
    rw [he t' b hb] at h2 h3
    by_cases c1 : s = t ∧ a = i
    · by_cases c2 : t' = t ∧ b = i
      · exact ⟨c1.1.trans c2.1.symm, c1.2.trans c2.2.symm⟩
      · rw [if_pos c1, if_neg c2] at h3
        rw [if_neg c2] at h2
        exact absurd h3.symm (nog t' b hb h2)
    · by_cases c2 : t' = t ∧ b = i
      · rw [if_neg c1, if_pos c2] at h3
        rw [if_neg c1] at h1
        exact absurd h3 (nog s a ha' h1)
      · rw [if_neg c1] at h1 h3 h4
        rw [if_neg c2] at h2 h3
        exact h.u s a t' b ha' hb h1 h2 h3 h4
  · rw [he s j hj] at h1 h2
    by_cases c : s = t ∧ j = i
    · rw [if_pos c] at h2
      exact absurd h2 hgs
    · rw [if_neg c] at h1 h2
      obtain ⟨a1, a2⟩ := h.s s j hj h1 h2
      refine ⟨a1, ?_⟩
      rcases h.k s j hj with e | ⟨a, _⟩
      · rw [e] at h1; cases h1
      · rw [hlv s a]; exact a2
end
theorem zn2 (A B : Int) : ∀ (xs : List (Int × Int)) (a : Int), Srt xs → MemC.look (xs.filter (zjx A B)) a = if A ≤ a ∧ a < B then 0 else MemC.look xs a
  | [], a, _ => by rw [show MemC.look (([] : List (Int × Int)).filter (zjx A B)) a = 0 from rfl, zlv]; split <;> rfl
  | c :: cs, a, hs => by
    have hs' := List.pairwise_cons.1 hs
    have hgt : ∀ b : Int, b ≤ c.1 → MemC.look cs b = 0 := fun b hb => zcy fun d hd => by have := hs'.1 d hd; omega
    have IH := zn2 A B cs a hs'.2
    by_cases h : zjx A B c = true
    · rw [List.filter_cons, if_pos h, zc0, zc0, IH]
      unfold zjx at h
      rw [Bool.or_eq_true, decide_eq_true_eq, decide_eq_true_eq] at h
      (repeat' split) <;> first | rfl | omega
    · rw [List.filter_cons, if_neg h, IH, zc0]
      unfold zjx at h
      rw [Bool.or_eq_true, decide_eq_true_eq, decide_eq_true_eq] at h
      (repeat' split) <;> first | rfl | omega | (rw [hgt a (by omega)]; done) | (rw [hgt a (by omega)]; omega)
structure TI (cd cp sz : Int) (xs : List (Int × Int)) (f sh : Int) (lv : Int → Int) : Prop where
  bd : 1 ≤ cd ∧ cd ≤ 524288
  bp : 1 ≤ cp ∧ cp ≤ 64
  bz : sz = (cd + cp) * 4096
  bf : 0 ≤ f ∧ f < 2 ^ cp.toNat
  s : Srt xs
  r : ∀ c ∈ xs, (cd * 512 ≤ c.1 ∧ c.1 < (cd + cp) * 512) ∧ U c.2 ∧ c.2 ≠ 0
  e : TE (atM sz xs) (Al cd cp f) sh lv
theorem look_mem : ∀ {xs : List (Int × Int)} {c : Int × Int}, Srt xs → c ∈ xs → MemC.look xs c.1 = c.2
  | x :: xs, c, hs, hc => by
    have hs' := List.pairwise_cons.1 hs
    rw [zc0]
    rcases List.mem_cons.1 hc with rfl | hc
    · rw [if_neg (by omega), if_pos rfl]
    · rw [if_pos (hs'.1 c hc), look_mem hs'.2 hc]
section
variable {cd cp sz f sh : Int} {xs : List (Int × Int)} {lv : Int → Int}
theorem TI.mem (h : TI cd cp sz xs f sh lv) {c : Int × Int} (hc : c ∈ xs) : atM sz xs (c.1 / 512) (c.1 % 512) = zay c.2 := by
  obtain ⟨⟨a, b⟩, _⟩ := h.r c hc
  have hz := h.bz
  unfold atM zbj
  rw [if_pos (by rw [hz]; omega), show (c.1 / 512 * 4096 + c.1 % 512 * 8) / 8 = c.1 by omega, look_mem h.s hc]
theorem zy3 {v : Int} (hv : U v) (h : v ≠ 0) : zay v ≠ zP := fun e => h (by
  have := zhg v hv.1 hv.2
  rw [e] at this
  exact this.symm.trans (by decide))
theorem TI.gm (h : TI cd cp sz xs f sh lv) : GM cd cp sz xs f := ⟨h.bd, h.bp, h.bz, h.bf, h.s, fun c hc => by
  obtain ⟨_, hu, h0⟩ := h.r c hc
  have hk := h.e.k (c.1 / 512) (c.1 % 512) (by omega)
  rw [h.mem hc] at hk
  rcases hk with e | ⟨a, _, k⟩
  · exact absurd e (zy3 hu h0)
  · refine ⟨a, hu, ?_⟩
    rcases k with k | k
    · exact .inl k.1
    · exact .inr ⟨k.1, k.2.2.2⟩⟩
theorem TI.uf (h : TI cd cp sz xs f sh lv) : U f := h.gm.uf
theorem TI.u (h : TI cd cp sz xs f sh lv) : Uw xs := h.gm.u
theorem TI.put (h : TI cd cp sz xs f sh lv) {t i v : Int} {f' : Int} {lv' : Int → Int} (ht : cd ≤ t ∧ t < cd + cp) (hi : 0 ≤ i ∧ i < 512) (hv : U v) (hf : 0 ≤ f' ∧ f' < 2 ^ cp.toNat)
    (he : ∀ E', (∀ s j, (0 ≤ j ∧ j < 512) → E' s j = if s = t ∧ j = i then zay v else atM sz xs s j) → TE E' (Al cd cp f') sh lv') : TI cd cp sz (zbq xs (t * 512 + i) v) f' sh lv' :=
  ⟨h.bd, h.bp, h.bz, hf, zdr _ _ _ h.s, fun c hc => by
    rcases zcn _ _ _ _ hc with hc | ⟨rfl, hv0⟩
    · exact h.r c hc
    · exact ⟨⟨by show cd * 512 ≤ t * 512 + i; omega, by show t * 512 + i < (cd + cp) * 512; omega⟩, hv, hv0⟩, he _ fun s j hj => by
    by_cases hd : s * 4096 + j * 8 < sz
    · exact zgx h.s hi hj hd
    · have hz := h.bz
      rw [if_neg (by rintro ⟨rfl, rfl⟩; omega)]
      unfold atM zbj
      rw [if_neg hd, if_neg hd]⟩
theorem zl5 (hs : Srt xs) (g s j : Int) (hj : 0 ≤ j ∧ j < 512) : atM sz (TableC.zbc xs g) s j = if s = g then zP else atM sz xs s j := by
  unfold atM zbj
  by_cases d : s * 4096 + j * 8 < sz
  · rw [if_pos d, if_pos d, zgw _ _ hs, zn2 _ _ _ _ hs, show (s * 4096 + j * 8) / 8 = s * 512 + j by omega]
    by_cases c : s = g
    · rw [if_pos (show g * 512 ≤ s * 512 + j ∧ s * 512 + j < g * 512 + 512 by omega), if_pos c]
      exact zly
    · rw [if_neg (show ¬ (g * 512 ≤ s * 512 + j ∧ s * 512 + j < g * 512 + 512) by omega), if_neg c]
  · rw [if_neg d, if_neg d, zly]
    split <;> rfl
theorem TI.wipe (h : TI cd cp sz xs f sh lv) (g : Int) {f' : Int} (hf : 0 ≤ f' ∧ f' < 2 ^ cp.toNat) (he : ∀ E', (∀ s j, (0 ≤ j ∧ j < 512) → E' s j = if s = g then zP else atM sz xs s j) → TE E' (Al cd cp f') sh lv) : TI cd cp sz (TableC.zbc xs g) f' sh lv :=
  ⟨h.bd, h.bp, h.bz, hf, zcx _ h.s, fun c hc => h.r c (zft hc), he _ fun s j hj => zl5 h.s g s j hj⟩
end
end Go.Proofs.YtomeaibdedaldaaGreatDoor.LiA
namespace Go.Proofs.YtomeaibdedaldaaGreatDoor.LiB
open Go.RowKit Bv VaSpec Base MemL RegR Ax MemC PutC MemC3 TzC OkS SpA SpB SpC SpD SpF SpH SpI SpJ SpN SpO RfP RfQ LaA LaB LaC LaD LaE LaF LaG LiA
open BitsC PteSpec
set_option maxRecDepth 10000
set_option maxHeartbeats 1000000
def prt (q : Pte) (l i : Int) : Pte := { q with ppn := q.ppn + i * (VaSpec.sz (l - 1) / 4096) }
def zsy (xs : List (Int × Int)) (g : Int) (v : Nat → Int) : Nat → List (Int × Int)
  | 0 => xs
  | n + 1 => zbq (zsy xs g v n) (g * 512 + n) (v n)
theorem zl6 {xs : List (Int × Int)} {g : Int} {v : Nat → Int} (h : Srt xs) : ∀ n, Srt (zsy xs g v n)
  | 0 => h
  | n + 1 => zdr _ _ _ (zl6 h n)
theorem zvp (xs : List (Int × Int)) (g : Int) (v : Nat → Int) : ∀ n, (zsy xs g v n).length ≤ xs.length + n
  | 0 => Nat.le_refl _
  | n + 1 => by
    have := zic (zsy xs g v n) (g * 512 + n) (v n)
    have := zvp xs g v n
    show (zbq (zsy xs g v n) (g * 512 + n) (v n)).length ≤ _
    omega
theorem zvq {xs : List (Int × Int)} {g : Int} {v : Nat → Int} : ∀ (n : Nat) (c : Int × Int), c ∈ zsy xs g v n → c ∈ xs ∨ ∃ i : Nat, i < n ∧ c = (g * 512 + i, v i) ∧ v i ≠ 0
  | 0, c, h => .inl h
  | n + 1, c, h => by
    rcases zcn _ _ _ _ h with h | ⟨e, hv⟩
    · rcases zvq n c h with h | ⟨i, hi, e⟩
      · exact .inl h
      · exact .inr ⟨i, by omega, e⟩
    · exact .inr ⟨n, by omega, e, hv⟩
theorem zq3 {xs : List (Int × Int)} {g : Int} {v : Nat → Int} (h : Srt xs) (a : Int) : ∀ n : Nat, MemC.look (zsy xs g v n) a = if g * 512 ≤ a ∧ a < g * 512 + n then v (a - g * 512).toNat else MemC.look xs a
  | 0 => by rw [if_neg (by omega)]; rfl
  | n + 1 => by
    show MemC.look (zbq (zsy xs g v n) (g * 512 + n) (v n)) a = _
    rw [zlw _ _ _ _ (zl6 h n), zq3 h a n]
    by_cases c : a = g * 512 + n
    · rw [if_pos c, if_pos (by omega)]
      congr 1; omega
    · rw [if_neg c]
      by_cases d : g * 512 ≤ a ∧ a < g * 512 + n
      · rw [if_pos d, if_pos (by omega)]
      · rw [if_neg d, if_neg (by omega)]
theorem z34 {sz : Int} {xs : List (Int × Int)} {g : Int} {v : Nat → Int} (h : Srt xs) (hg : g * 4096 + 4096 ≤ sz) (s j : Int) (hj : 0 ≤ j ∧ j < 512) : atM sz (zsy xs g v 512) s j = if s = g then zay (v j.toNat) else atM sz xs s j := by
  unfold atM zbj
  by_cases d : s * 4096 + j * 8 < sz
  · rw [if_pos d, if_pos d, zq3 h, show (s * 4096 + j * 8) / 8 = s * 512 + j by omega]
    by_cases c : s = g
    · subst c
      rw [if_pos rfl, if_pos (by omega), show s * 512 + j - s * 512 = j by omega]
    · rw [if_neg c, if_neg (by omega)]
  · rw [if_neg d, if_neg d, if_neg (by rintro rfl; omega)]
theorem z5p {l : Int} (h : 1 ≤ l ∧ l ≤ 2) : l = 1 ∨ l = 2 := by omega
theorem zjn {q : Pte} {l i : Int} (hU : q.U) (hm : zh4 q = true) (hl : 1 ≤ l ∧ l ≤ 2) (h1 : zaz q = true) (h2 : zc3 q l = false) (hi : 0 ≤ i ∧ i < 512) :
    (prt q l i).U ∧ zh4 (prt q l i) = true ∧ zaz (prt q l i) = true ∧ zc3 (prt q l i) (l - 1) = false := by
  obtain ⟨v, r, w, x, u, g, a, d, rsw, ppn, high⟩ := q
  rw [zdc] at hm
  have hlk := (zbp h1).1
  unfold Pte.U at hU
  unfold zc3 at h2
  simp only at hm hU h2
  split at h2
  · cases h2
  · rename_i h3
    rw [hlk] at h2
    rw [if_neg (by simp)] at h2
    have hmod : ppn % (VaSpec.sz l / 4096) = 0 := by simpa using h2
    have hlk2 : zbk (prt ⟨v, r, w, x, u, g, a, d, rsw, ppn, high⟩ l i) = false := hlk
    have hb : ∀ n, (prt ⟨v, r, w, x, u, g, a, d, rsw, ppn, high⟩ l i).ppn = n → n % (VaSpec.sz (l - 1) / 4096) = 0 → zc3 (prt ⟨v, r, w, x, u, g, a, d, rsw, ppn, high⟩ l i) (l - 1) = false := fun n e hn => by
      unfold zc3
      rw [hlk2, e, hn]
      show (if (!v || w && !r || high != 0) = true then true else if (false = true) then _ else !(0 == 0)) = false
      rw [if_neg h3]
      rfl
    rcases z5p hl with rfl | rfl
    · have hmod : ppn % 512 = 0 := hmod
      have e : (prt ⟨v, r, w, x, u, g, a, d, rsw, ppn, high⟩ 1 i).ppn = ppn + i * 1 := rfl
      refine ⟨?_, ?_, h1, hb _ e (by show (ppn + i * 1) % 1 = 0; omega)⟩
      · unfold Pte.U; rw [e]; show _ ∧ (0 ≤ ppn + i * 1 ∧ _) ∧ _; refine ⟨hU.1, by omega, hU.2.2⟩
      · rw [zdc, e]; refine ⟨hm.1, by omega, hm.2.2⟩
    · have hmod : ppn % 262144 = 0 := hmod
      have e : (prt ⟨v, r, w, x, u, g, a, d, rsw, ppn, high⟩ 2 i).ppn = ppn + i * 512 := rfl
      refine ⟨?_, ?_, h1, hb _ e (by show (ppn + i * 512) % 512 = 0; omega)⟩
      · unfold Pte.U; rw [e]; show _ ∧ (0 ≤ ppn + i * 512 ∧ _) ∧ _; refine ⟨hU.1, by omega, hU.2.2⟩
      · rw [zdc, e]; refine ⟨hm.1, by omega, hm.2.2⟩
theorem zq4 {q : Pte} (hU : q.U) (hm : zh4 q = true) : zay (PteC.ze7 q) = q := by
  unfold PteC.ze7
  rw [if_pos hm, zfq _ hU hm]
theorem TE.row {E E' : Int → Int → Pte} {al : Int → Prop} {sh : Int} {lv : Int → Int} (h : TE E al sh lv) {g : Int} {p : Int → Pte} (hg : al g) (hl : 0 ≤ lv g ∧ lv g ≤ 2) (hp : ∀ j, (0 ≤ j ∧ j < 512) → zaz (p j) = true ∧ zc3 (p j) (lv g) = false)
    (he : ∀ s j, (0 ≤ j ∧ j < 512) → E' s j = if s = g then p j else E s j) : TE E' al sh lv := by
  have key : ∀ s j, (0 ≤ j ∧ j < 512) → lkP (E' s j) = true → E' s j = E s j := fun s j hj hlk => by
    rw [he s j hj] at hlk ⊢
    split
    · rename_i c; rw [if_pos c, zc8 (hp j hj).1] at hlk; cases hlk
    · rfl
  refine ⟨fun s j hj => ?_, fun s i t j hi hj a1 a2 a3 a4 => ?_, fun s i hi a1 a2 => ?_⟩
  · rw [he s j hj]
    split
    · rename_i c; rw [c]; exact .inr ⟨hg, hl, .inl (hp j hj)⟩
    · exact h.k s j hj
  · have e1 := key s i hi a1
    have e2 := key t j hj a2
    rw [e1] at a1 a3 a4; rw [e2] at a2 a3
    exact h.u s i t j hi hj a1 a2 a3 a4
  · have e1 := key s i hi a1
    rw [e1] at a1 a2; exact h.s s i hi a1 a2
def zy4 (sz : Int) (xs : List (Int × Int)) (t i l : Int) (q : Pte) (g : Int) : List (Int × Int) := za7 sz (zsy xs g (fun j => PteC.ze7 (prt q l j)) 512) t i (lnk g)
section
variable {cd cp sz f sh : Int} {xs : List (Int × Int)} {lv : Int → Int}
theorem zq5 {sz s i : Int} {xs : List (Int × Int)} (hu : Uw xs) : zh4 (atM sz xs s i) = true := zt8 _ (zfa hu _ _).1 (zfa hu _ _).2
theorem zff (h : TI cd cp sz xs f sh lv) (h0 : f ≠ 0) : (∀ s, Al cd cp f s → Al cd cp (zbw f (tzI f) 1 0) s ∧ s ≠ cd + tzI f) ∧ Al cd cp (zbw f (tzI f) 1 0) (cd + tzI f) ∧ (0 ≤ tzI f ∧ tzI f < cp) ∧ (0 ≤ zbw f (tzI f) 1 0 ∧ zbw f (tzI f) 1 0 < 2 ^ cp.toNat) := by
  have hb := h.bp
  obtain ⟨a1, a2⟩ := h.gm.al h0
  have t1 := zcl h.uf h.bf.2 h0
  exact ⟨fun s hs => ⟨(h.gm.take h0 hs).2, (h.gm.take h0 hs).1⟩, a1, a2, ⟨(zex _ _ _ _).1, zge h.uf h.bf.2 t1.1 (by omega)⟩⟩
theorem z35 (h : TI cd cp sz xs f sh lv) (h0 : f ≠ 0) {t i l : Int} {q : Pte} (ht : Al cd cp f t) (hi : 0 ≤ i ∧ i < 512) (hl : 1 ≤ l ∧ l ≤ 2) (hq : q = atM sz xs t i) (h1 : zaz q = true) (h2 : zc3 q l = false) (s j : Int) (hj : 0 ≤ j ∧ j < 512) :
    atM sz (zy4 sz xs t i l q (cd + tzI f)) s j = if s = t ∧ j = i then lnk (cd + tzI f) else if s = cd + tzI f then prt q l j else atM sz xs s j := by
  obtain ⟨a0, a1, a2, a3⟩ := zff h h0
  have b1 := h.bd
  have b2 := h.bp
  have bz := h.bz
  have bt := ht.1
  have hU : q.U := by rw [hq]; exact znj h.u _ _ _
  have hm : zh4 q = true := by rw [hq]; exact zq5 h.u
  have hn : 0 ≤ cd + tzI f ∧ cd + tzI f < 17592186044416 := by omega
  have hrow := fun s j hj => z34 (sz := sz) (v := fun j => PteC.ze7 (prt q l j)) h.s (show (cd + tzI f) * 4096 + 4096 ≤ sz by omega) s j hj
  have hpr : ∀ j, (0 ≤ j ∧ j < 512) → zay (PteC.ze7 (prt q l ((j.toNat : Nat) : Int))) = prt q l j := fun j hj => by
    obtain ⟨f1, f2, _, _⟩ := zjn hU hm hl h1 h2 hj
    rw [show ((j.toNat : Nat) : Int) = j by omega]
    exact zq4 f1 f2
  unfold zy4
  rw [zep (zhp hn) (by omega) hi (by omega)]
  by_cases hd : s * 4096 + j * 8 < sz
  · rw [zgx (zl6 h.s 512) hi hj hd, hrow s j hj, zeq hn, hpr j hj]
  · have hs1 : ¬ (s = t ∧ j = i) := by rintro ⟨rfl, rfl⟩; omega
    have hs2 : s ≠ cd + tzI f := by rintro rfl; omega
    rw [if_neg hs1, if_neg hs2]
    unfold atM zbj
    rw [if_neg hd, if_neg hd]
theorem z36 (h : TI cd cp sz xs f sh lv) (h0 : f ≠ 0) {t i l : Int} {q : Pte} (ht : Al cd cp f t) (hsh : Al cd cp f sh) (hi : 0 ≤ i ∧ i < 512) (hlv : lv t = l) (hl : 1 ≤ l ∧ l ≤ 2) (hq : q = atM sz xs t i) (h1 : zaz q = true) (h2 : zc3 q l = false) :
    TI cd cp sz (zy4 sz xs t i l q (cd + tzI f)) (zbw f (tzI f) 1 0) sh (upL lv (cd + tzI f) (l - 1)) := by
  obtain ⟨a0, a1, a2, a3⟩ := zff h h0
  have b1 := h.bd
  have b2 := h.bp
  have bz := h.bz
  have bt := ht.1
  have hU : q.U := by rw [hq]; exact znj h.u _ _ _
  have hm : zh4 q = true := by rw [hq]; exact zq5 h.u
  have hn : 0 ≤ cd + tzI f ∧ cd + tzI f < 17592186044416 := by omega
  have hw : zy4 sz xs t i l q (cd + tzI f) = zbq (zsy xs (cd + tzI f) (fun j => PteC.ze7 (prt q l j)) 512) (t * 512 + i) (PteC.ze7 (lnk (cd + tzI f))) := by
    unfold zy4
    rw [zep (zhp hn) (by omega) hi (by omega)]
  refine ⟨h.bd, h.bp, h.bz, a3, ?_, fun c hc => ?_, ?_⟩
  · rw [hw]; exact zdr _ _ _ (zl6 h.s 512)
  · rw [hw] at hc
    rcases zcn _ _ _ _ hc with hc | ⟨rfl, hv⟩
    · rcases zvq _ _ hc with hc | ⟨j, hj, rfl, hv⟩
      · exact h.r c hc
      · obtain ⟨f1, f2, _, _⟩ := zjn hU hm hl h1 h2 (i := (j : Int)) (by omega)
        exact ⟨⟨by show cd * 512 ≤ (cd + tzI f) * 512 + j; omega, by show (cd + tzI f) * 512 + j < (cd + cp) * 512; omega⟩, zf4 _ f1, hv⟩
    · exact ⟨⟨by show cd * 512 ≤ t * 512 + i; omega, by show t * 512 + i < (cd + cp) * 512; omega⟩, zf4 _ (zhp hn), hv⟩
  · have hgt : cd + tzI f ≠ t := fun e => (a0 _ ht).2 e.symm
    have E1 := h.e.link (E' := fun s j => if s = t ∧ j = i then lnk (cd + tzI f) else atM sz xs s j) (g := cd + tzI f) a0 a1 ht (by omega) hi hsh (by rw [← hq]; exact zc8 h1) (fun s j _ => rfl)
    rw [hlv] at E1
    have hlg : upL lv (cd + tzI f) (l - 1) (cd + tzI f) = l - 1 := if_pos rfl
    refine TE.row E1 (g := cd + tzI f) (p := fun j => prt q l j) a1 (by rw [hlg]; omega) (fun j hj => ?_) (fun s j hj => ?_)
    · obtain ⟨_, _, f3, f4⟩ := zjn hU hm hl h1 h2 hj
      rw [hlg]; exact ⟨f3, f4⟩
    · rw [z35 h h0 ht hi hl hq h1 h2 s j hj]
      by_cases c : s = t ∧ j = i
      · rw [if_pos c, if_neg (by rw [c.1]; exact fun e => hgt e.symm), if_pos c]
      · rw [if_neg c]
        by_cases d : s = cd + tzI f
        · rw [if_pos d, if_pos d]
        · rw [if_neg d, if_neg d, if_neg c]
theorem z1u (sz : Int) (xs : List (Int × Int)) (t i l : Int) (q : Pte) (g : Int) : (zy4 sz xs t i l q g).length ≤ xs.length + 513 := by
  unfold zy4
  have := zgt sz (zsy xs g (fun j => PteC.ze7 (prt q l j)) 512) t i (lnk g)
  have := zvp xs g (fun j => PteC.ze7 (prt q l j)) 512
  omega
theorem zfz (h : TI cd cp sz xs f sh lv) (addr zam : Int) (hw : 0 ≤ zam) : ∀ (l : Nat) (t : Int), Al cd cp f t → lv t = l → zam ≤ (l : Int) →
    ∃ (l' : Nat) (t' : Int), zat sz xs addr zam l t = (t', (l' : Int)) ∧ l' ≤ l ∧ zam ≤ (l' : Int) ∧ Al cd cp f t' ∧ lv t' = (l' : Int) ∧ (zam < (l' : Int) → za0 (atM sz xs t' (idx addr (l' : Int))) (l' : Int) = false) ∧
      (∀ xs', (∀ s i, Al cd cp f s → (0 ≤ i ∧ i < 512) → zbk (atM sz xs s i) = true → atM sz xs' s i = atM sz xs s i) → zat sz xs' addr zam l t = zat sz xs' addr zam l' t')
  | 0, t, ht, hl, hwl => ⟨0, t, rfl, Nat.le_refl _, hwl, ht, hl, fun hh => by omega, fun _ _ => rfl⟩
  | l + 1, t, ht, hl, hwl => by
    have hi := idx_bd addr ((l + 1 : Nat) : Int)
    have hk := EOk.kinds (h.gm.at t (idx addr ((l + 1 : Nat) : Int))) (l := ((l + 1 : Nat) : Int)) (by omega)
    by_cases c1 : zam < ((l + 1 : Nat) : Int)
    · rcases hk with ⟨_, _, k3⟩ | ⟨_, _, k3⟩ | ⟨k1, k2, k3, k4, k5⟩
      · exact ⟨l + 1, t, za1 (fun _ => k3) hw, Nat.le_refl _, hwl, ht, hl, fun _ => k3, fun _ _ => rfl⟩
      · exact ⟨l + 1, t, za1 (fun _ => k3) hw, Nat.le_refl _, hwl, ht, hl, fun _ => k3, fun _ _ => rfl⟩
      · have hlk : lv (atM sz xs t (idx addr ((l + 1 : Nat) : Int))).ppn = (l : Int) := by
          rcases h.e.k t _ hi with e | ⟨_, _, ⟨c, _⟩ | ⟨_, _, c, _⟩⟩
          · rw [e] at k1; cases k1
          · rw [k2] at c; cases c
          · rw [c, hl]; omega
        obtain ⟨l', t', i1, i2, i3, i4, i5, i6, i7⟩ := zfz h addr zam hw l _ k5 hlk (by omega)
        refine ⟨l', t', (zba c1 k3).trans i1, by omega, i3, i4, i5, i6, fun xs' hx => ?_⟩
        have e := hx t _ ht hi k4
        rw [zba c1 (by rw [e]; exact k3), e]
        exact i7 xs' hx
    · exact ⟨l + 1, t, za1 (fun hh => absurd hh c1) hw, Nat.le_refl _, hwl, ht, hl, fun hh => absurd hh c1, fun _ _ => rfl⟩
end
def toN (sz cd addr zam top : Int) (lv : Nat) : Nat → List (Int × Int) → Int → List (Int × Int) × Int × (Int × Int) × Int
  | 0, xs, f => (xs, f, zat sz xs addr zam lv top, 0)
  | n + 1, xs, f =>
    if (zat sz xs addr zam lv top).2 = zam ∨ zaz (atM sz xs (zat sz xs addr zam lv top).1 (idx addr (zat sz xs addr zam lv top).2)) = false then (xs, f, zat sz xs addr zam lv top, 0)
    else if f = 0 then (xs, f, zat sz xs addr zam lv top, 8)
    else toN sz cd addr zam top lv n (zy4 sz xs (zat sz xs addr zam lv top).1 (idx addr (zat sz xs addr zam lv top).2) (zat sz xs addr zam lv top).2 (atM sz xs (zat sz xs addr zam lv top).1 (idx addr (zat sz xs addr zam lv top).2)) (cd + tzI f)) (zbw f (tzI f) 1 0)
section
variable {cd cp sz f sh : Int} {xs : List (Int × Int)} {lv : Int → Int}
end
end Go.Proofs.YtomeaibdedaldaaGreatDoor.LiB
namespace Go.Proofs.YtomeaibdedaldaaGreatDoor.LiC
open Go.RowKit Bv VaSpec Base MemL RegR Ax MemC PutC MemC3 TzC OkS SpA SpB SpC SpD SpF SpH SpI SpJ SpN SpO RfP RfQ LaA LaB LaC LaD LaE LaF LaG LiA LiB
open BitsC PteSpec
set_option maxRecDepth 10000
set_option maxHeartbeats 1000000
def zf7 (xs : List (Int × Int)) (g : Int) : Bool := !(xs.any fun c => decide (c.1 / 512 = g))
theorem zvr {cd cp f g : Int} (hb : 1 ≤ cp ∧ cp ≤ 64) (hf : 0 ≤ f ∧ f < 2 ^ cp.toNat) : 0 ≤ TableC2.zf1 cd cp f g ∧ TableC2.zf1 cd cp f g < 2 ^ cp.toNat := by
  have hu : U f := zgs hf.1 hf.2 (by omega)
  unfold TableC2.zf1
  split
  · rename_i h
    unfold PoolC.isP PoolC.inP at h
    simp only [Bool.and_eq_true, decide_eq_true_eq] at h
    exact ⟨(zex _ _ _ _).1, zge hu hf.2 (by omega) (by omega)⟩
  · exact hf
theorem zpz {cd cp f g s : Int} (hb : 1 ≤ cp ∧ cp ≤ 64) (hf : 0 ≤ f ∧ f < 2 ^ cp.toNat) : Al cd cp (TableC2.zf1 cd cp f g) s ↔ Al cd cp f s ∧ s ≠ g := by
  have hu : U f := zgs hf.1 hf.2 (by omega)
  unfold TableC2.zf1
  split
  · rename_i h
    unfold PoolC.isP PoolC.inP at h
    simp only [Bool.and_eq_true, decide_eq_true_eq] at h
    obtain ⟨⟨h1, h2⟩, _⟩ := h
    constructor
    · rintro ⟨a, b⟩
      rw [zfb hu (by omega) (by omega) (by omega) (by omega)] at b
      split at b
      · cases b
      · rename_i c
        exact ⟨⟨a, b⟩, fun e => c (by rw [e])⟩
    · rintro ⟨⟨a, b⟩, c⟩
      refine ⟨a, ?_⟩
      rw [zfb hu (by omega) (by omega) (by omega) (by omega), if_neg (by omega)]
      exact b
  · rename_i h
    constructor
    · intro a
      refine ⟨a, fun e => h ?_⟩
      subst e
      obtain ⟨⟨a1, a2⟩, a3⟩ := a
      unfold PoolC.isP PoolC.inP
      rw [decide_eq_true (by omega), decide_eq_true (by omega), zlt _ _ (by omega), a3]; rfl
    · exact fun a => a.1
def bkN (cd cp : Int) : List Int → List (Int × Int) × Int → List (Int × Int) × Int
  | [], p => p
  | g :: l, p => bkN cd cp l (TableC.zbc p.1 g, TableC2.zf1 cd cp p.2 g)
structure BkP (cd cp sz : Int) (l : List Int) (p q : List (Int × Int) × Int) : Prop where
  s : Srt q.1
  m : ∀ c ∈ q.1, c ∈ p.1
  f : 0 ≤ q.2 ∧ q.2 < 2 ^ cp.toNat
  a : ∀ s, Al cd cp q.2 s ↔ Al cd cp p.2 s ∧ s ∉ l
  e : ∀ s j, (0 ≤ j ∧ j < 512) → atM sz q.1 s j = if s ∈ l then zP else atM sz p.1 s j
  n : q.1.length ≤ p.1.length
theorem zg1 (cd cp sz : Int) (hb : 1 ≤ cp ∧ cp ≤ 64) : ∀ (l : List Int) (p : List (Int × Int) × Int), Srt p.1 → (0 ≤ p.2 ∧ p.2 < 2 ^ cp.toNat) → BkP cd cp sz l p (bkN cd cp l p)
  | [], p, hs, hf => ⟨hs, fun c h => h, hf, fun s => by simp [bkN], fun s j hj => by simp [bkN], Nat.le_refl _⟩
  | g :: l, p, hs, hf => by
    have IH := zg1 cd cp sz hb l (TableC.zbc p.1 g, TableC2.zf1 cd cp p.2 g) (zcx _ hs) (zvr hb hf)
    refine ⟨IH.s, fun c hc => zft (IH.m c hc), IH.f, fun s => ?_, fun s j hj => ?_, Nat.le_trans IH.n (zen _ _)⟩
    · have e := IH.a s
      have e2 : Al cd cp (TableC2.zf1 cd cp p.2 g) s ↔ Al cd cp p.2 s ∧ s ≠ g := zpz hb hf
      show Al cd cp (bkN cd cp l (TableC.zbc p.1 g, TableC2.zf1 cd cp p.2 g)).2 s ↔ _
      rw [e]
      show Al cd cp (TableC2.zf1 cd cp p.2 g) s ∧ s ∉ l ↔ _
      rw [e2, List.mem_cons]
      constructor
      · rintro ⟨⟨a, b⟩, c⟩; exact ⟨a, fun h => h.elim b c⟩
      · rintro ⟨a, b⟩; exact ⟨⟨a, fun h => b (.inl h)⟩, fun h => b (.inr h)⟩
    · show atM sz (bkN cd cp l (TableC.zbc p.1 g, TableC2.zf1 cd cp p.2 g)).1 s j = _
      rw [IH.e s j hj]
      show (if s ∈ l then zP else atM sz (TableC.zbc p.1 g) s j) = _
      rw [zl5 hs g s j hj]
      by_cases c : s ∈ l
      · rw [if_pos c, if_pos (List.mem_cons_of_mem _ c)]
      · rw [if_neg c]
        by_cases d : s = g
        · rw [if_pos d, if_pos (by rw [d]; exact List.mem_cons_self ..)]
        · rw [if_neg d, if_neg (by rw [List.mem_cons]; exact fun h => h.elim d c)]
def frN (sz : Int) (xs : List (Int × Int)) : Nat → Int → List Int
  | 0, t => [t]
  | l + 1, t => t :: (List.range 512).flatMap fun (i : Nat) => if za0 (atM sz xs t i) ((l + 1 : Nat) : Int) then frN sz xs l (atM sz xs t i).ppn else []
section
variable {cd cp sz f sh : Int} {xs : List (Int × Int)} {lv : Int → Int}
theorem zy5 (h : TI cd cp sz xs f sh lv) {xs' : List (Int × Int)} {f' : Int} (hs : Srt xs') (hm : ∀ c ∈ xs', c ∈ xs) (hf : 0 ≤ f' ∧ f' < 2 ^ cp.toNat) (ha : ∀ s j, (0 ≤ j ∧ j < 512) → atM sz xs' s j = zP ∨ atM sz xs' s j = atM sz xs s j)
    (h1 : ∀ s j, (0 ≤ j ∧ j < 512) → atM sz xs' s j ≠ zP → Al cd cp f' s) (h2 : ∀ s j, (0 ≤ j ∧ j < 512) → lkP (atM sz xs' s j) = true → Al cd cp f' (atM sz xs' s j).ppn) : TI cd cp sz xs' f' sh lv :=
  ⟨h.bd, h.bp, h.bz, hf, hs, fun c hc => h.r c (hm c hc), (h.e.sub ha).fr h1 h2⟩
theorem zg2 (h : TI cd cp sz xs f sh lv) {s i : Int} (hi : 0 ≤ i ∧ i < 512) {l : Int} (hl : za0 (atM sz xs s i) l = true) : lkP (atM sz xs s i) = true ∧ Al cd cp f s ∧ (1 ≤ lv s ∧ lv s ≤ 2) ∧ lv (atM sz xs s i).ppn = lv s - 1 ∧ Al cd cp f (atM sz xs s i).ppn := by
  rcases h.e.k s i hi with e | ⟨a, b, ⟨c, _⟩ | ⟨c1, c2, c3, c4⟩⟩
  · rw [e] at hl; cases hl
  · rw [zfu (zbp c).1] at hl; cases hl
  · exact ⟨c1, a, ⟨c2, b.2⟩, c3, c4⟩
theorem zbz (h : TI cd cp sz xs f sh lv) {s i : Int} (hi : 0 ≤ i ∧ i < 512) (hl : lkP (atM sz xs s i) = true) : Al cd cp f s ∧ (1 ≤ lv s ∧ lv s ≤ 2) ∧ lv (atM sz xs s i).ppn = lv s - 1 ∧ Al cd cp f (atM sz xs s i).ppn := (zg2 h hi (zbo hl (Int.le_refl 1))).2
theorem zbb (h : TI cd cp sz xs f sh lv) : ∀ (l : Nat) (t : Int), Al cd cp f t → lv t = l → ∀ g ∈ frN sz xs l t, Al cd cp f g ∧ (0 ≤ lv g ∧ lv g ≤ l) ∧ (g = t ∨ ∃ s ∈ frN sz xs l t, ∃ j, (0 ≤ j ∧ j < 512) ∧ lkP (atM sz xs s j) = true ∧ (atM sz xs s j).ppn = g ∧ lv s ≤ l)
  | 0, t, ht, hl, g, hg => by
    have e : g = t := by simpa [frN] using hg
    subst e
    exact ⟨ht, by omega, .inl rfl⟩
  | l + 1, t, ht, hl, g, hg => by
    simp only [frN, List.mem_cons] at hg
    rcases hg with rfl | hg
    · exact ⟨ht, by omega, .inl rfl⟩
    · obtain ⟨i, hi, hg⟩ := List.mem_flatMap.1 hg
      have hi := List.mem_range.1 hi
      split at hg
      · rename_i hlk
        obtain ⟨k1, k2, k3, k4, k5⟩ := zg2 h (by omega) hlk
        obtain ⟨r1, r2, r3⟩ := zbb h l _ k5 (by rw [k4, hl]; omega) g hg
        have mem : ∀ s, s ∈ frN sz xs l (atM sz xs t i).ppn → s ∈ frN sz xs (l + 1) t := fun s hs => by
          simp only [frN, List.mem_cons]
          exact .inr (List.mem_flatMap.2 ⟨i, List.mem_range.2 hi, by rw [if_pos hlk]; exact hs⟩)
        refine ⟨r1, by omega, .inr ?_⟩
        rcases r3 with rfl | ⟨s, hs, j, q1, q2, q3, q4⟩
        · exact ⟨t, by simp [frN], i, by omega, k1, rfl, by omega⟩
        · exact ⟨s, mem s hs, j, q1, q2, q3, by omega⟩
      · cases hg
theorem zfg (hs : Srt xs) (hz : sz = (cd + cp) * 4096) {t i : Int} (ht : 0 ≤ t ∧ t < cd + cp) (hi : 0 ≤ i ∧ i < 512) (s j : Int) (hj : 0 ≤ j ∧ j < 512) : atM sz (zbq xs (t * 512 + i) 0) s j = if s = t ∧ j = i then zP else atM sz xs s j := by
  by_cases hd : s * 4096 + j * 8 < sz
  · rw [zgx hs hi hj hd, zly]
  · rw [if_neg (by rintro ⟨rfl, rfl⟩; omega)]
    unfold atM zbj
    rw [if_neg hd, if_neg hd]
theorem z1v (h : TI cd cp sz xs f sh lv) {t i : Int} {l : Nat} (ht : Al cd cp f t) (hlv : lv t = (l + 1 : Nat)) (hl : l + 1 ≤ 2) (hi : 0 ≤ i ∧ i < 512) (hH : ¬ (l + 1 = 2 ∧ i = 511)) (hq : lkP (atM sz xs t i) = true) :
    TI cd cp sz (zbq (bkN cd cp (frN sz xs l (atM sz xs t i).ppn) (xs, f)).1 (t * 512 + i) 0) (bkN cd cp (frN sz xs l (atM sz xs t i).ppn) (xs, f)).2 sh lv ∧
    (∀ s, Al cd cp f s → (s = sh ∨ (l : Int) < lv s) → Al cd cp (bkN cd cp (frN sz xs l (atM sz xs t i).ppn) (xs, f)).2 s) := by
  have hb := zg1 cd cp sz h.bp (frN sz xs l (atM sz xs t i).ppn) (xs, f) h.s h.bf
  obtain ⟨k1, k2, k3, k4⟩ := zbz h hi hq
  have hfr := zbb h l _ k4 (by rw [k3, hlv]; omega)
  have hrs : (atM sz xs t i).ppn ≠ sh := fun e => by
    obtain ⟨a, b⟩ := h.e.s t i hi hq e
    exact hH ⟨by omega, a⟩
  have hgs : ∀ g ∈ frN sz xs l (atM sz xs t i).ppn, g ≠ sh := fun g hg e => by
    obtain ⟨_, _, r⟩ := hfr g hg
    rcases r with r | ⟨s, hs, j, q1, q2, q3, q4⟩
    · exact hrs (r.symm.trans e)
    · obtain ⟨_, b⟩ := h.e.s s j q1 q2 (q3.trans e)
      omega
  have hbt := ht.1
  have hcd := h.bd
  have hat := fun s j hj => zfg (cd := cd) (cp := cp) (t := t) (i := i) (sz := sz) hb.s h.bz (by omega) hi s j hj
  generalize hF : frN sz xs l (atM sz xs t i).ppn = F at *
  generalize bkN cd cp F (xs, f) = r at *
  have hmem : ∀ s j, (0 ≤ j ∧ j < 512) → atM sz (zbq r.1 (t * 512 + i) 0) s j ≠ zP → s ∉ F ∧ ¬ (s = t ∧ j = i) ∧ atM sz (zbq r.1 (t * 512 + i) 0) s j = atM sz xs s j := fun s j hj hne => by
    rw [hat s j hj] at hne ⊢
    by_cases c : s = t ∧ j = i
    · rw [if_pos c] at hne; exact absurd rfl hne
    · rw [if_neg c] at hne ⊢
      rw [hb.e s j hj] at hne ⊢
      by_cases d : s ∈ F
      · rw [if_pos d] at hne; exact absurd rfl hne
      · rw [if_neg d]; exact ⟨d, c, rfl⟩
  refine ⟨zy5 h (zdr _ _ _ hb.s) (fun c hc => ?_) hb.f (fun s j hj => ?_) (fun s j hj hne => ?_) (fun s j hj hlk => ?_), fun s hs hk => ?_⟩
  · rcases zcn _ _ _ _ hc with hc | ⟨_, hv⟩
    · exact hb.m c hc
    · exact absurd rfl hv
  · by_cases c : atM sz (zbq r.1 (t * 512 + i) 0) s j = zP
    · exact .inl c
    · exact .inr (hmem s j hj c).2.2
  · obtain ⟨a, _, c⟩ := hmem s j hj hne
    refine (hb.a s).2 ⟨?_, a⟩
    rcases h.e.k s j hj with e | ⟨k, _⟩
    · rw [c] at hne; exact absurd e hne
    · exact k
  · have hne : atM sz (zbq r.1 (t * 512 + i) 0) s j ≠ zP := fun e => by rw [e] at hlk; cases hlk
    obtain ⟨a, b, c⟩ := hmem s j hj hne
    rw [c] at hlk ⊢
    obtain ⟨_, _, _, k⟩ := zbz h hj hlk
    refine (hb.a _).2 ⟨k, fun hin => ?_⟩
    obtain ⟨_, _, r3⟩ := hfr _ hin
    rcases r3 with e | ⟨s', hs', j', q1, q2, q3, q4⟩
    · exact b (h.e.u s j t i hj hi hlk hq e (by rw [e]; exact hrs))
    · obtain ⟨e1, e2⟩ := h.e.u s j s' j' hj q1 hlk q2 q3.symm (fun e => by
        obtain ⟨_, b⟩ := h.e.s s' j' q1 q2 (q3.trans e)
        omega)
      exact a (e1 ▸ hs')
  · refine (hb.a s).2 ⟨hs, fun hin => ?_⟩
    rcases hk with e | hk
    · exact hgs s hin e
    · have := (hfr s hin).2.1; omega
def prN (sz cd cp addr : Int) : Nat → Int → List (Int × Int) × Int → List (Int × Int) × Int
  | 0, _, p => p
  | l + 1, t, p =>
    if za0 (atM sz p.1 t (idx addr ((l + 1 : Nat) : Int))) ((l + 1 : Nat) : Int) then
      if zf7 (prN sz cd cp addr l (atM sz p.1 t (idx addr ((l + 1 : Nat) : Int))).ppn p).1 (atM sz p.1 t (idx addr ((l + 1 : Nat) : Int))).ppn then
        (za7 sz (TableC.zbc (prN sz cd cp addr l (atM sz p.1 t (idx addr ((l + 1 : Nat) : Int))).ppn p).1 (atM sz p.1 t (idx addr ((l + 1 : Nat) : Int))).ppn) t (idx addr ((l + 1 : Nat) : Int)) zP,
         TableC2.zf1 cd cp (prN sz cd cp addr l (atM sz p.1 t (idx addr ((l + 1 : Nat) : Int))).ppn p).2 (atM sz p.1 t (idx addr ((l + 1 : Nat) : Int))).ppn)
      else prN sz cd cp addr l (atM sz p.1 t (idx addr ((l + 1 : Nat) : Int))).ppn p
    else p
theorem zq6 (h : TI cd cp sz xs f sh lv) {g : Int} (hg : cd ≤ g ∧ g < cd + cp) : (zf7 xs g = true → ∀ j, (0 ≤ j ∧ j < 512) → zbj sz xs (g * 4096 + j * 8) = 0) ∧ (zf7 xs g = false → ∃ j, (0 ≤ j ∧ j < 512) ∧ zbj sz xs (g * 4096 + j * 8) ≠ 0) := by
  have hz := h.bz
  constructor
  · intro he j hj
    unfold zbj
    split
    · refine zcy fun c hc e => ?_
      unfold zf7 at he
      rw [Bool.not_eq_true'] at he
      have := List.any_eq_false.1 he c hc
      simp only [decide_eq_true_eq] at this
      omega
    · rfl
  · intro he
    unfold zf7 at he
    rw [Bool.not_eq_false'] at he
    obtain ⟨c, hc, e⟩ := List.any_eq_true.1 he
    rw [decide_eq_true_eq] at e
    obtain ⟨⟨r1, r2⟩, r3, r4⟩ := h.r c hc
    refine ⟨c.1 % 512, by omega, ?_⟩
    unfold zbj
    rw [if_pos (by omega), show (g * 4096 + c.1 % 512 * 8) / 8 = c.1 by omega, look_mem h.s hc]
    exact r4
structure PrP (cd cp sz f sh : Int) (xs : List (Int × Int)) (lv : Int → Int) (l : Nat) (q : List (Int × Int) × Int) : Prop where
  t : TI cd cp sz q.1 q.2 sh lv
  m : ∀ c ∈ q.1, c ∈ xs
  n : q.1.length ≤ xs.length
  a : ∀ s, Al cd cp f s → (s = sh ∨ (l : Int) ≤ lv s) → Al cd cp q.2 s
  b : ∀ s, Al cd cp q.2 s → Al cd cp f s
  e : ∀ s j, (0 ≤ j ∧ j < 512) → atM sz q.1 s j = zP ∨ atM sz q.1 s j = atM sz xs s j
  u : ∀ s j, (0 ≤ j ∧ j < 512) → Al cd cp f s → (l : Int) < lv s → atM sz q.1 s j = atM sz xs s j
theorem zg3 (addr : Int) (h : TI cd cp sz xs f sh lv) : ∀ (l : Nat) (t : Int), l ≤ 2 → Al cd cp f t → lv t = l → (2 ≤ l → idx addr 2 ≠ 511) → PrP cd cp sz f sh xs lv l (prN sz cd cp addr l t (xs, f))
  | 0, t, _, ht, hl, _ => ⟨h, fun c hc => hc, Nat.le_refl _, fun s hs _ => hs, fun s hs => hs, fun s j _ => .inr rfl, fun s j _ _ _ => rfl⟩
  | l + 1, t, h2, ht, hl, hH => by
    have hi := idx_bd addr ((l + 1 : Nat) : Int)
    unfold prN
    split
    rotate_left
    · exact ⟨h, fun c hc => hc, Nat.le_refl _, fun s hs _ => hs, fun s hs => hs, fun s j _ => .inr rfl, fun s j _ _ _ => rfl⟩
    rename_i hlk
    have hlk : za0 (atM sz xs t (idx addr ((l + 1 : Nat) : Int))) ((l + 1 : Nat) : Int) = true := hlk
    obtain ⟨k1, k2, k3, k4, k5⟩ := zg2 h hi hlk
    have hls : lv (atM sz xs t (idx addr ((l + 1 : Nat) : Int))).ppn = (l : Int) := by rw [k4, hl]; omega
    have P := zg3 addr h l _ (by omega) k5 hls (fun hh => by omega)
    have hgs : (atM sz xs t (idx addr ((l + 1 : Nat) : Int))).ppn ≠ sh := fun e => by
      obtain ⟨a, b⟩ := h.e.s t _ hi k1 e
      have e2 : l + 1 = 2 := by omega
      rw [show ((l + 1 : Nat) : Int) = 2 by omega] at a
      exact hH (by omega) a
    have hut := P.u t (idx addr ((l + 1 : Nat) : Int)) hi ht (by rw [hl]; omega)
    have hag := P.a _ k5 (.inr (by rw [hls]; omega))
    have hat := P.a t ht (.inr (by rw [hl]; omega))
    show PrP cd cp sz f sh xs lv (l + 1) (if zf7 (prN sz cd cp addr l (atM sz xs t (idx addr ((l + 1 : Nat) : Int))).ppn (xs, f)).1 (atM sz xs t (idx addr ((l + 1 : Nat) : Int))).ppn = true then _ else prN sz cd cp addr l (atM sz xs t (idx addr ((l + 1 : Nat) : Int))).ppn (xs, f))
    generalize prN sz cd cp addr l (atM sz xs t (idx addr ((l + 1 : Nat) : Int))).ppn (xs, f) = r at *
    generalize idx addr ((l + 1 : Nat) : Int) = i at *
    split
    rotate_left
    · exact ⟨P.t, P.m, P.n, fun s hs hk => P.a s hs (by omega), P.b, P.e, fun s j hj hs hk => P.u s j hj hs (by omega)⟩
    rename_i hem
    have hT := P.t
    have hbt := ht.1
    have hcd := h.bd
    have hw := hT.gm.wipe
    have hz := (zq6 hT hag.1).1 hem
    have hzp : ∀ j, (0 ≤ j ∧ j < 512) → atM sz r.1 (atM sz xs t i).ppn j = zP := fun j hj => by unfold atM; rw [show zbj sz r.1 ((zay (zbj sz xs (t * 4096 + i * 8))).ppn * 4096 + j * 8) = 0 from hz j hj, zly]
    have hwi : za7 sz (TableC.zbc r.1 (atM sz xs t i).ppn) t i zP = zbq (TableC.zbc r.1 (atM sz xs t i).ppn) (t * 512 + i) 0 := by
      rw [zep z2o (by omega) hi (by rw [h.bz]; omega), znt]
    show PrP cd cp sz f sh xs lv (l + 1) (za7 sz (TableC.zbc r.1 (atM sz xs t i).ppn) t i zP, TableC2.zf1 cd cp r.2 (atM sz xs t i).ppn)
    rw [hwi]
    have hA := fun s => zpz (cd := cd) (g := (atM sz xs t i).ppn) (s := s) h.bp hT.bf
    have hE : ∀ s j, (0 ≤ j ∧ j < 512) → atM sz (zbq (TableC.zbc r.1 (atM sz xs t i).ppn) (t * 512 + i) 0) s j = if s = t ∧ j = i then zP else atM sz r.1 s j := fun s j hj => by
      rw [zfg (cd := cd) (cp := cp) (zcx _ hT.s) h.bz (by omega) hi s j hj, zl5 hT.s _ s j hj]
      split
      · rfl
      · split
        · rename_i e; rw [e, hzp j hj]
        · rfl
    generalize hg : (atM sz xs t i).ppn = g at *
    have hsub : ∀ s j, (0 ≤ j ∧ j < 512) → atM sz (zbq (TableC.zbc r.1 g) (t * 512 + i) 0) s j ≠ zP → ¬ (s = t ∧ j = i) ∧ s ≠ g ∧ atM sz (zbq (TableC.zbc r.1 g) (t * 512 + i) 0) s j = atM sz r.1 s j := fun s j hj hne => by
      rw [hE s j hj] at hne ⊢
      by_cases c : s = t ∧ j = i
      · rw [if_pos c] at hne; exact absurd rfl hne
      · rw [if_neg c] at hne ⊢
        exact ⟨c, fun e => hne (by rw [e]; exact hzp j hj), rfl⟩
    have hTI : TI cd cp sz (zbq (TableC.zbc r.1 g) (t * 512 + i) 0) (TableC2.zf1 cd cp r.2 g) sh lv := by
      refine zy5 hT (zdr _ _ _ (zcx _ hT.s)) (fun c hc => ?_) (zvr h.bp hT.bf) (fun s j hj => ?_) (fun s j hj hne => ?_) (fun s j hj hl2 => ?_)
      · rcases zcn _ _ _ _ hc with hc | ⟨_, hv⟩
        · exact zft hc
        · exact absurd rfl hv
      · by_cases c : atM sz (zbq (TableC.zbc r.1 g) (t * 512 + i) 0) s j = zP
        · exact .inl c
        · exact .inr (hsub s j hj c).2.2
      · obtain ⟨_, a, c⟩ := hsub s j hj hne
        refine (hA s).2 ⟨?_, a⟩
        rcases hT.e.k s j hj with e | ⟨k, _⟩
        · rw [c] at hne; exact absurd e hne
        · exact k
      · have hne : atM sz (zbq (TableC.zbc r.1 g) (t * 512 + i) 0) s j ≠ zP := fun e => by rw [e] at hl2; cases hl2
        obtain ⟨b, _, c⟩ := hsub s j hj hne
        rw [c] at hl2 ⊢
        obtain ⟨_, _, _, k⟩ := zbz hT hj hl2
        refine (hA _).2 ⟨k, fun e => b ?_⟩
        exact hT.e.u s j t i hj hi hl2 (by rw [hut]; exact k1) (by rw [hut, hg]; exact e) (by rw [e]; exact hgs)
    refine ⟨hTI, fun c hc => ?_, ?_, fun s hs hk => ?_, fun s hs => P.b s ((hA s).1 hs).1, fun s j hj => ?_, fun s j hj hs hk => ?_⟩
    · rcases zcn _ _ _ _ hc with hc | ⟨_, hv⟩
      · exact P.m c (zft hc)
      · exact absurd rfl hv
    · have e1 := zen r.1 g
      have e2 := P.n
      have e3 : (zbq (TableC.zbc r.1 g) (t * 512 + i) 0).length ≤ (TableC.zbc r.1 g).length := by
        rw [zgv _ _ (zcx _ hT.s)]; exact List.length_filter_le ..
      show (zbq (TableC.zbc r.1 g) (t * 512 + i) 0).length ≤ _
      omega
    · refine (hA s).2 ⟨P.a s hs (by omega), fun e => ?_⟩
      rcases hk with hk | hk
      · exact hgs (e.symm.trans hk)
      · rw [e, hls] at hk; omega
    · show atM sz (zbq (TableC.zbc r.1 g) (t * 512 + i) 0) s j = zP ∨ _
      rw [hE s j hj]
      split
      · exact .inl rfl
      · exact P.e s j hj
    · show atM sz (zbq (TableC.zbc r.1 g) (t * 512 + i) 0) s j = _
      rw [hE s j hj, if_neg (by rintro ⟨rfl, _⟩; rw [hl] at hk; omega)]
      exact P.u s j hj hs (by omega)
end
end Go.Proofs.YtomeaibdedaldaaGreatDoor.LiC
namespace Go.Proofs.YtomeaibdedaldaaGreatDoor.LiD
open Go.RowKit Bv VaSpec Base MemL RegR Ax MemC PutC MemC3 TzC OkS SpA SpB SpC SpD SpF SpH SpI SpJ SpN SpO RfP RfQ LaA LaB LaC LaD LaE LaF LaG LiA LiB LiC
open BitsC PteSpec
set_option maxRecDepth 10000
set_option maxHeartbeats 1000000
section
variable {cd cp sz f sh : Int} {xs : List (Int × Int)} {lv : Int → Int}
end
end Go.Proofs.YtomeaibdedaldaaGreatDoor.LiD
