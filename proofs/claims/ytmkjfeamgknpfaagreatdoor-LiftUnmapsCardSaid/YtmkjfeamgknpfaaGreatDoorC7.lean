/- Texts of this claim, one behind the other: LkE, LaI, LkF, LaJ, LkG, Open, Laid. -/
import Derived.Test.YtmkjfeamgknpfaaGreatDoorC6
import Derived.Test.YtmkjfeamgknpfaaGreatDoorC5
import Derived.Test.YtmkjfeamgknpfaaGreatDoorC2
import Derived.ProofKit
import Derived.Carry
import Derived.ChangeOld
import Derived.ChangeArms
import Derived.WideShapes
import Derived.Test.YtmkjfeamgknpfaaGreatDoorRows
import Derived.LaidMore
import Derived.Lib.LaidTab
import Derived.SevenTiedAt
import Derived.LaidHandle
import Derived.Deep.SlicePairs
set_option linter.unusedVariables false
set_option linter.unusedSimpArgs false
namespace Go.Proofs.YtmkjfeamgknpfaaGreatDoor.LkE
open Go.RowKit Bv VaSpec Base MemL RegR Ax MemC PutC MemC3 TzC OkS SpA SpB SpC SpF SpH SpI SpJ LaA LaB LaC LaD LaE LaF LaG LiA LiB LiC LiD LiE LiF SpE SpG SpO SpL SpN RfA RfB RfC RfD RlA RlB LjA LjB LjC LjD LjE LjF LiF LkA LkB LkC LkD
open BitsC PteSpec
set_option maxRecDepth 10000
set_option maxHeartbeats 1000000
theorem z3f {n : Nat} {k : Kr} {id a l : Int} (h : InvT n k) (c0 : (za1 k id a l).2.2 = 0) (c1 : (inR k id a l).length ≠ 0) (c5 : (unT k (za1 k id a l).1 (za1 k id a l).2.1 a l).2.2.2 = 0) : (unT k (za1 k id a l).1 (za1 k id a l).2.1 a l).2.2.1.2 = l := by
  obtain ⟨lv, hT, hs, hr⟩ := h.t
  obtain ⟨w1, w2, w3, w4⟩ := zcx (id := id) (a := a) (l := l) h.l c0
  obtain ⟨z1, z2⟩ := h.top (a := a) (id := id) (l := l) c0 hs hr
  unfold inR at c1
  rw [if_neg (by omega)] at c1
  generalize za1 k id a l = w at *
  obtain ⟨l', t', i1, i2, i3, i4, i5, i6, _⟩ := zda hT a l w1.1 w.2.1.toNat w.1 w2 (by omega) (by omega)
  rw [show zc0 k.sz k.m a l w.2.1 w.1 = (t', (l' : Int)) from i1] at c1
  replace c1 : (zbn k.sz k.m (l' : Int) (atM k.sz k.m t' (idx a (l' : Int))) (VaSpec.base a (l' : Int))).length ≠ 0 := c1
  refine zyz a l w.1 w.2.1.toNat w1.1 (by omega) (by omega) w.2.1.toNat k.m k.pf lv hT w2 h.l.sh (by omega) ?_ ?_ c5
  · rw [i1]; show (l' : Int) ≤ _; omega
  · rw [i1]
    show (l' : Int) = l ∨ zbr (atM k.sz k.m t' (idx a (l' : Int))) = true
    by_cases e : (l' : Int) = l
    · exact .inl e
    · refine .inr ?_
      have hnl := i6 (by omega)
      cases hlf : zbr (atM k.sz k.m t' (idx a (l' : Int))) with
      | true => rfl
      | false =>
        exfalso
        refine c1 ?_
        have hk : zbu (atM k.sz k.m t' (idx a (l' : Int))) = false := by
          rcases hT.e.k t' _ (idx_bd a (l' : Int)) with e | ⟨_, _, ⟨e, _⟩ | ⟨e, _⟩⟩
          · rw [e]; rfl
          · exact (zcq e).1
          · rw [zfu e (by omega)] at hnl; cases hnl
        unfold zbn
        rw [hlf, hk]
        rfl
def z4d (k : Kr) (id a l top lw t l' : Int) (q : Pte) (PL : List Pg) (L : List Int) (m : List (Int × Int)) (f : Int) (i : Nat) : St := St.of [(1, .m (ii id)), (2, .m (iu a)), (3, .m (ii l)), (4, .m (.c (.p 4 0))), (8, .m (.c (.p 8 0))), (10, .m (iu top)), (11, .m (ii lw)), (13, .m (.c (.p 13 0))), (14, .m (.c (.p 14 0))), (15, .m (.c (.p 15 0))), (17, .m (.c (.s PL.length 8 (flP PL)))), (18, .m (.c (.s L.length 1 (vsI L)))), (19, .m (ii i))]
  [(4, .live (.box k.ce)), (8, .live (.box zK)), (13, .live (.box [cu k.sz, .s m.length 2 (fl m)])), (14, .live (.box [cu k.pb, ci k.pm, cu f])), (15, .live (.box (zbi t l' q)))]
theorem zte {n : Nat} {k : Kr} (h : InvT n k) (hn : n ≤ 88000) (id a l : Int) (ha : U a) : Ok 35 [.ag k.ce, ii id, iu a, ii l] (.tu [.ag (unR k id a l).1.ce, ii (unR k id a l).2]) := by
  have hw := zkh k id a l ha
  have hin := zv8 h (by omega) id a l ha
  obtain ⟨R, hR⟩ : ∃ R, R = unR k id a l := ⟨_, rfl⟩
  rw [← hR]
  unfold unR at hR
  by_cases c0 : (za1 k id a l).2.2 ≠ 0
  · rw [if_pos c0] at hR
    generalize za1 k id a l = w at *
    subst hR
    refine zaf 116 Tryz.func35 rfl rfl rfl rfl ?_ GG.to
    intro W A hG
    repeat (first | (refine zal rfl ?_; first | refine gdr (zaa (.inl rfl) rfl) ?_ | refine gnk 1 rfl (za2 tb rfl rfl rfl rfl rfl) ?_ | refine gdr (zaa (.inr rfl) rfl) ?_ | refine gdr (zak rfl rfl rfl rfl) ?_ | refine gdr (za6 rfl rfl rfl rfl) ?_ | refine gdr (zag rfl rfl rfl rfl rfl rfl) ?_ | refine gdr (zae rfl rfl rfl rfl rfl) ?_ | refine gnk 1 rfl (zbe rfl rfl rfl rfl rfl rfl rfl) ?_ | refine gdr (zab rfl rfl rfl (hw) (by kernel_rfl)) ?_) | (refine hK _ ?_; clear hK K) | refine zad rfl ?_ | exact zap (show za8 _ _ _ = some _ by kernel_rfl) | refine zai rfl rfl ?_ | refine zac (fun K hK => ?_))
  rw [if_neg c0] at hR
  replace c0 : (za1 k id a l).2.2 = 0 := by omega
  obtain ⟨lv, hT, hs, hr⟩ := h.t
  obtain ⟨w1, w2, w3, w4⟩ := zcx (id := id) (a := a) (l := l) h.l c0
  obtain ⟨z1, z2⟩ := h.top (a := a) (id := id) (l := l) c0 hs hr
  have hlive : id = -1 ∨ (id ≠ -1 ∧ zb2 k id = true) := by
    rcases zki h.l c0 with ⟨_, _, e⟩ | ⟨e1, e2, _⟩
    · exact .inl e
    · exact .inr ⟨e2, e1⟩
  have hlev := z3f h c0
  have hfb0 := zvv (ztb c0)
  rw [c0] at hw
  generalize (za1 k id a l).1 = top at *
  generalize (za1 k id a l).2.1 = lw at *
  have b1 := hT.bd
  have b2 := hT.bp
  have bt := w2.1
  have hml := h.l.ml
  have hfl := h.l.fl
  have hpb := h.l.pb
  have hpm := h.l.pm
  by_cases c1 : (inR k id a l).length = 0
  · rw [if_pos c1] at hR
    rw [List.length_eq_zero_iff.1 c1] at hin
    clear c1
    subst hR
    refine zaf 116 Tryz.func35 rfl rfl rfl rfl ?_ GG.to
    intro W A hG
    repeat (first | (refine zal rfl ?_; first | refine gdr (zaa (.inl rfl) rfl) ?_ | refine gnk 1 rfl (za2 tb rfl rfl rfl rfl rfl) ?_ | refine gdr (zaa (.inr rfl) rfl) ?_ | refine gdr (zak rfl rfl rfl rfl) ?_ | refine gdr (za6 rfl rfl rfl rfl) ?_ | refine gdr (zag rfl rfl rfl rfl rfl rfl) ?_ | refine gdr (zae rfl rfl rfl rfl rfl) ?_ | refine gnk 1 rfl (zbe rfl rfl rfl rfl rfl rfl rfl) ?_ | refine gdr (zan rfl rfl rfl rfl) ?_ | refine gdr (zab rfl rfl rfl (hw) (by kernel_rfl)) ?_ | refine gdr (zab rfl rfl rfl (hin) (by kernel_rfl)) ?_) | (refine hK _ ?_; clear hK K) | refine zad rfl ?_ | exact zap (show za8 _ _ _ = some _ by kernel_rfl) | refine zai rfl rfl ?_ | refine zah rfl rfl ?_ | refine zao ?_ | refine zac (fun K hK => ?_))
  rw [if_neg c1] at hR
  replace hlev := hlev c1
  generalize inR k id a l = IL at *
  obtain ⟨m, rfl⟩ := Int.eq_ofNat_of_zero_le (show 0 ≤ lw by omega)
  have hto := z3c top a l m k.m k.pf lv hT w2 h.l.sh z1 ha (by omega) w1.1 w3 (by omega) _ rfl
  obtain ⟨lv', P⟩ := zxx a l top m w1.1 w3 (by omega) m k.m k.pf lv hT w2 h.l.sh z1
  unfold unT at hR hlev
  rw [Int.toNat_natCast] at hR hlev
  have hKe : ∀ T, unK k id top (m : Int) a l T = unK k id top (m : Int) a l T := fun _ => rfl
  generalize toN k.sz k.cd a l top m m k.m k.pf = T at *
  obtain ⟨xs, f, ⟨t, lt⟩, e⟩ := T
  obtain ⟨l', e1, e2, e3, e4, e5⟩ := P.p
  replace e1 : lt = (l' : Int) := e1
  subst e1
  have y4 : Al k.cd k.cp f t := e4
  have y5 : lv' t = (l' : Int) := e5
  by_cases c5 : e ≠ 0
  · rw [if_pos c5] at hR
    rw [if_neg (show ¬ (xs, f, (t, (l' : Int)), e).2.2.2 = 0 from c5)] at hto
    replace hto : Ok 91 [zbm k.sz k.m, .ag [cu k.cd, ci k.cp, cu k.pf], iu top, ii m, iu a, ii l] (.tu [zbm k.sz k.m, .ag [cu k.cd, ci k.cp, cu k.pf], .ag (zbi 0 0 zP), ii e]) := hto
    rw [← hpb, ← hpm] at hto
    replace hR : R = (k, e) := hR
    subst hR
    refine zaf 116 Tryz.func35 rfl rfl rfl rfl ?_ GG.to
    intro W A hG
    repeat (first | (refine zal rfl ?_; first | refine gdr (zaa (.inl rfl) rfl) ?_ | refine gnk 1 rfl (za2 tb rfl rfl rfl rfl rfl) ?_ | refine gnx 1 rfl (zbc tb rfl rfl rfl) rfl ?_ | refine gdr (zaa (.inr rfl) rfl) ?_ | refine gdr (zak rfl rfl rfl rfl) ?_ | refine gdr (za6 rfl rfl rfl rfl) ?_ | refine gdr (zag rfl rfl rfl rfl rfl rfl) ?_ | refine gdr (zae rfl rfl rfl rfl rfl) ?_ | refine gnk 1 rfl (zbe rfl rfl rfl rfl rfl rfl rfl) ?_ | refine gdr (zan rfl rfl rfl rfl) ?_ | refine gdr (zab rfl rfl rfl (hw) (by kernel_rfl)) ?_ | refine gdr (zab rfl rfl rfl (hin) (by kernel_rfl)) ?_ | refine gdr (zab rfl rfl rfl (hto) (by kernel_rfl)) ?_) | (refine hK _ ?_; clear hK K) | refine zad rfl ?_ | exact zap (show za8 _ _ _ = some _ by kernel_rfl) | refine zai rfl rfl ?_ | refine zah rfl rfl ?_ | refine zao ?_ | refine zac (fun K hK => ?_))
  rw [if_neg c5] at hR
  obtain rfl : e = 0 := by omega
  have hll : (l' : Int) = l := hlev rfl
  clear hlev
  rw [if_pos (show (xs, f, (t, (l' : Int)), (0 : Int)).2.2.2 = 0 from rfl)] at hto
  replace hto : Ok 91 [zbm k.sz k.m, .ag [cu k.cd, ci k.cp, cu k.pf], iu top, ii m, iu a, ii l] (.tu [zbm k.sz xs, .ag [cu k.cd, ci k.cp, cu f], .ag (zbi t (l' : Int) (atM k.sz xs t (idx a (l' : Int)))), ii 0]) := hto
  have hPt : TI k.cd k.cp k.sz xs f k.sh lv' := P.t
  have ash := P.a _ h.l.sh
  have atop := P.a _ w2
  have hi := idx_bd a (l' : Int)
  have bt' := y4.1
  have hxl : xs.length ≤ k.m.length + 513 * m := P.n
  obtain ⟨c2, c3, c4, c6, c7⟩ := zvw (a := a) (e := 0) (t := t) (xs := xs) (f := f) (lv := lv') hPt ash.1 y4 y5 (by omega) (fun hh => z2 (by omega))
  have hlt : lv' top = (m : Int) := atop.2.trans z1
  have atop2 := c3 _ atop.1 (.inr (by rw [hlt]; omega))
  have hq := zgw hPt.u k.sz t (idx a (l' : Int))
  have hqp := zdo (xs := xs) k.sz t (idx a (l' : Int))
  have hpl := zor k.sz xs t (l' : Int) (atM k.sz xs t (idx a (l' : Int))) a ha hPt.s hPt.u (by omega) hqp (by omega) (by omega) (fun c => by have := zwa hPt hi c; omega)
  replace hpl : Ok 44 [zbm k.sz xs, .ag (zbi t (l' : Int) (atM k.sz xs t (idx a (l' : Int)))), iu a] (.m (.c (.s (zbn k.sz xs (l' : Int) (atM k.sz xs t (idx a (l' : Int))) (VaSpec.base a (l' : Int))).length 8 (flP (zbn k.sz xs (l' : Int) (atM k.sz xs t (idx a (l' : Int))) (VaSpec.base a (l' : Int))))))) := by
    rw [hll, hfb0, ← hll]; exact hpl
  have hub := zm1 k.sz xs (l' : Int) (atM k.sz xs t (idx a (l' : Int))) (VaSpec.base a (l' : Int)) (zop ha (by omega) (by omega)) (by omega)
  have hU2 : Uw (zfj k.sz k.cd k.cp (xs, f, (t, (l' : Int)), (0 : Int)) a).1 := fun c hc => by
    unfold zfj at hc
    split at hc
    · exact hPt.u c ((zhs k.cd k.cp k.sz hPt.bp _ (xs, f) hPt.s hPt.bf).m c hc)
    · exact hPt.u c hc
  have hbz := hPt.bz
  have hwt := zgu k.sz (zfj k.sz k.cd k.cp (xs, f, (t, (l' : Int)), (0 : Int)) a).1 t (l' : Int) (atM k.sz xs t (idx a (l' : Int))) a ⟨false, false, false, false, false, false, false, false, 0, 0, 0⟩ ha zyr (by decide) (by omega) (by omega) ⟨by omega, by omega⟩ c6 (by omega)
  rw [show (⟨false, false, false, false, false, false, false, false, 0, 0, 0⟩ : Pte) = zP from rfl, ← zen (sz := k.sz) zyr (by omega) hi (by rw [hbz]; omega)] at hwt
  replace hwt : Ok 95 [zbm k.sz (zfj k.sz k.cd k.cp (xs, f, (t, (l' : Int)), (0 : Int)) a).1, .ag (zbi t (l' : Int) (atM k.sz xs t (idx a (l' : Int)))), iu a, .ag (⟨false, false, false, false, false, false, false, false, 0, 0, 0⟩ : Pte).ce] (.m (zbm k.sz (zbv k.sz (zfj k.sz k.cd k.cp (xs, f, (t, (l' : Int)), (0 : Int)) a).1 t (idx a (l' : Int)) zP))) := hwt
  have hpr := zv5 a ha c2 (by omega) m top (by omega) atop2 hlt (fun hh => z2 (by omega))
  have hK : R = (zeq { k with m := (prN k.sz k.cd k.cp a m top (zbv k.sz (zfj k.sz k.cd k.cp (xs, f, (t, (l' : Int)), (0 : Int)) a).1 t (idx a (l' : Int)) zP, (zfj k.sz k.cd k.cp (xs, f, (t, (l' : Int)), (0 : Int)) a).2)).1, pf := (prN k.sz k.cd k.cp a m top (zbv k.sz (zfj k.sz k.cd k.cp (xs, f, (t, (l' : Int)), (0 : Int)) a).1 t (idx a (l' : Int)) zP, (zfj k.sz k.cd k.cp (xs, f, (t, (l' : Int)), (0 : Int)) a).2)).2 } (zfl k id (zbn k.sz xs (l' : Int) (atM k.sz xs t (idx a (l' : Int))) (VaSpec.base a (l' : Int)))), 0) := by
    rw [hR]
    unfold unK unM
    rw [Int.toNat_natCast]
  have hfb := zmx k id (zbn k.sz xs (l' : Int) (atM k.sz xs t (idx a (l' : Int))) (VaSpec.base a (l' : Int)))
  have hfU := zy3 k id _ hub.2
  generalize prN k.sz k.cd k.cp a m top (zbv k.sz (zfj k.sz k.cd k.cp (xs, f, (t, (l' : Int)), (0 : Int)) a).1 t (idx a (l' : Int)) zP, (zfj k.sz k.cd k.cp (xs, f, (t, (l' : Int)), (0 : Int)) a).2) = p4 at *
  obtain ⟨m4, f4⟩ := p4
  have hfe : Ok 19 [.ag ({ k with m := m4, pf := f4 } : Kr).ce, ii id, .c (.s (zbn k.sz xs (l' : Int) (atM k.sz xs t (idx a (l' : Int))) (VaSpec.base a (l' : Int))).length 8 (flP (zbn k.sz xs (l' : Int) (atM k.sz xs t (idx a (l' : Int))) (VaSpec.base a (l' : Int)))))] (.m (.c (.s (zfl k id (zbn k.sz xs (l' : Int) (atM k.sz xs t (idx a (l' : Int))) (VaSpec.base a (l' : Int)))).length 4 (flF (zfl k id (zbn k.sz xs (l' : Int) (atM k.sz xs t (idx a (l' : Int))) (VaSpec.base a (l' : Int)))))))) := by
    rcases hlive with e | ⟨e, e'⟩
    · exact z1f { k with m := m4, pf := f4 } id _ e (by omega)
    · exact z1h { k with m := m4, pf := f4 } id _ e e' (by omega)
  have hsf := zoj { k with m := m4, pf := f4 } h.l.ts h.l.cs.2 (zfl k id (zbn k.sz xs (l' : Int) (atM k.sz xs t (idx a (l' : Int))) (VaSpec.base a (l' : Int)))) (by omega) (by show k.fs.length ≤ _; omega)
  generalize zfl k id (zbn k.sz xs (l' : Int) (atM k.sz xs t (idx a (l' : Int))) (VaSpec.base a (l' : Int))) = FL at *
  generalize zbn k.sz xs (l' : Int) (atM k.sz xs t (idx a (l' : Int))) (VaSpec.base a (l' : Int)) = PL at *
  have hlk := zi4 (atM k.sz xs t (idx a (l' : Int)))
  have hlk1 : zbu (atM k.sz xs t (idx a (l' : Int))) = true → lkP (atM k.sz xs t (idx a (l' : Int))) = true := fun c => by
    rcases hPt.e.k t _ hi with e | ⟨_, _, ⟨e, _⟩ | ⟨e, _⟩⟩
    · rw [e] at c; cases c
    · rw [(zcq e).1] at c; cases c
    · exact e
  have hcut : zfj k.sz k.cd k.cp (xs, f, (t, (l' : Int)), (0 : Int)) a = if zbu (atM k.sz xs t (idx a (l' : Int))) then bkN k.cd k.cp (frN k.sz xs ((l' : Int) - 1).toNat (atM k.sz xs t (idx a (l' : Int))).ppn) (xs, f) else (xs, f) := rfl
  clear hub hfb hfU hR c0 P
  generalize zbv k.sz (zfj k.sz k.cd k.cp (xs, f, (t, (l' : Int)), (0 : Int)) a).1 t (idx a (l' : Int)) zP = m3 at *
  generalize zfj k.sz k.cd k.cp (xs, f, (t, (l' : Int)), (0 : Int)) a = P2 at *
  cases c : zbu (atM k.sz xs t (idx a (l' : Int))) with
  | false =>
    rw [c] at hlk hcut
    rw [if_neg (by simp)] at hcut
    subst hcut
    generalize atM k.sz xs t (idx a (l' : Int)) = q at *
    rw [← hpb, ← hpm] at hto hpr
    subst hK
    refine zaf 116 Tryz.func35 rfl rfl rfl rfl ?_ GG.to
    intro W A hG
    repeat (first | (refine zal rfl ?_; first | refine gdr (zaa (.inl rfl) rfl) ?_ | refine gnk 1 rfl (za2 tb rfl rfl rfl rfl rfl) ?_ | refine gnx 1 rfl (zbc tb rfl rfl rfl) rfl ?_ | refine gdr (zaa (.inr rfl) rfl) ?_ | refine gdr (zak rfl rfl rfl rfl) ?_ | refine gdr (za6 rfl rfl rfl rfl) ?_ | refine gdr (zag rfl rfl rfl rfl rfl rfl) ?_ | refine gdr (zae rfl rfl rfl rfl rfl) ?_ | refine gnk 1 rfl (zbe rfl rfl rfl rfl rfl rfl rfl) ?_ | refine gdr (zan rfl rfl rfl rfl) ?_ | refine gdr (zaq rfl rfl rfl rfl) ?_ | refine gdr (zab rfl rfl rfl (hw) (by kernel_rfl)) ?_ | refine gdr (zab rfl rfl rfl (hin) (by kernel_rfl)) ?_ | refine gdr (zab rfl rfl rfl (hto) (by kernel_rfl)) ?_ | refine gdr (zab rfl rfl rfl (hpl) (by kernel_rfl)) ?_ | refine gdr (zab rfl rfl rfl (hlk) (by kernel_rfl)) ?_ | refine gdr (zab rfl rfl rfl (hwt) (by kernel_rfl)) ?_ | refine gdr (zab rfl rfl rfl (hpr) (by kernel_rfl)) ?_ | refine gdr (zab rfl rfl rfl (hfe) (by kernel_rfl)) ?_ | refine gdr (zab rfl rfl rfl (hsf) (by kernel_rfl)) ?_) | (refine hK _ ?_; clear hK K) | refine zad rfl ?_ | refine za4 (by kernel_rfl) (by kernel_rfl) rfl ?_ | exact zap (show za8 _ _ _ = some _ by kernel_rfl) | refine zah rfl rfl ?_ | refine zao ?_ | refine zac (fun K hK => ?_))
  | true =>
    obtain ⟨k1, k2, k3, k4⟩ := zod hPt hi (hlk1 c)
    rw [c] at hlk hcut
    rw [if_pos rfl] at hcut
    have hl12 : l' = 1 ∨ l' = 2 := by omega
    have hfr : Ok 93 [zbm k.sz xs, iu (atM k.sz xs t (idx a (l' : Int))).ppn, ii ((l' : Int) - 1)] (.m (.c (.s (frN k.sz xs ((l' : Int) - 1).toNat (atM k.sz xs t (idx a (l' : Int))).ppn).length 1 (vsI (frN k.sz xs ((l' : Int) - 1).toNat (atM k.sz xs t (idx a (l' : Int))).ppn))))) := by
      clear hwt hpr hfe hsf hcut hto hpl hin hw hlk c c2 c3 c4 c6 c7 k1 k4 hi hlk1 hqp hq y5 e5 e4 e2 e3
      have hqp := zdo (xs := xs) k.sz t (idx a (l' : Int))
      generalize atM k.sz xs t (idx a (l' : Int)) = q at *
      rcases hl12 with rfl | rfl
      · exact zol k.sz xs hPt.s hPt.u (by omega) q.ppn hqp
      · exact zv1 k.sz xs hPt.s hPt.u (by omega) q.ppn hqp
    have hLl := zwb k.sz xs ((l' : Int) - 1).toNat (atM k.sz xs t (idx a (l' : Int))).ppn (by omega)
    have hLb : ∀ g ∈ frN k.sz xs ((l' : Int) - 1).toNat (atM k.sz xs t (idx a (l' : Int))).ppn, 0 ≤ g ∧ g < 268436480 := fun g hg => by
      have := (zi3 hPt ((l' : Int) - 1).toNat _ k4 (by omega) g hg).1.1
      omega
    generalize frN k.sz xs ((l' : Int) - 1).toNat (atM k.sz xs t (idx a (l' : Int))).ppn = L at *
    have hxs := hPt.s
    have hxf := hPt.bf
    have hxr : ∀ c ∈ xs, 0 ≤ c.1 ∧ c.1 < 1099511627776 := fun c hc => by have := (hPt.r c hc).1; omega
    generalize atM k.sz xs t (idx a (l' : Int)) = q at *
    subst hK
    have hto' := hto
    have hpr' := hpr
    rw [← hpb, ← hpm] at hto' hpr'
    have b1p : 1 ≤ k.pb ∧ k.pb ≤ 524288 := by omega
    have b2p : 1 ≤ k.pm ∧ k.pm ≤ 64 := by omega
    clear hto hpr
    have hl0 : 1 ≤ (l' : Int) := by omega
    have hl2 : (l' : Int) ≤ 2 := by omega
    clear hl12 hlk1 k1 k2 k3 k4 c2 c3 c4 hPt y4 y5 e2 e3 e4 e5 hT hs hr hlive w2 atop atop2 ash hfl hlt z1 z2
    generalize (l' : Int) = li at *
    refine zaf 116 Tryz.func35 rfl rfl rfl rfl ?_ GG.to
    intro W A hG
    repeat (first | (refine zal rfl ?_; first | refine gdr (zaa (.inl rfl) rfl) ?_ | refine gnk 1 rfl (za2 tb rfl rfl rfl rfl rfl) ?_ | refine gnx 1 rfl (zbc tb rfl rfl rfl) rfl ?_ | refine gdr (zaa (.inr rfl) rfl) ?_ | refine gdr (zak rfl rfl rfl rfl) ?_ | refine gdr (za6 rfl rfl rfl rfl) ?_ | refine gdr (gar rfl rfl rfl rfl) ?_ | refine gdr (zag rfl rfl rfl rfl rfl rfl) ?_ | refine gdr (zae rfl rfl rfl rfl rfl) ?_ | refine gnk 1 rfl (zbe rfl rfl rfl rfl rfl rfl rfl) ?_ | refine gdr (zan rfl rfl rfl rfl) ?_ | refine gdr (zab rfl rfl rfl (hw) (by kernel_rfl)) ?_ | refine gdr (zab rfl rfl rfl (hin) (by kernel_rfl)) ?_ | refine gdr (zab rfl rfl rfl (hto') (by kernel_rfl)) ?_ | refine gdr (zab rfl rfl rfl (hpl) (by kernel_rfl)) ?_ | refine gdr (zab rfl rfl rfl (hlk) (by kernel_rfl)) ?_ | refine gdr (zab rfl rfl rfl (hfr) (by kernel_rfl)) ?_) | (refine hK _ ?_; clear hK K) | refine zad rfl ?_ | refine zai rfl rfl ?_ | refine zah rfl rfl ?_ | refine zam ?_ | refine zao ?_ | refine zac (fun K hK => ?_))
    refine za9 (α := Nat × List (Int × Int) × Int) (fun p => p.1 ≤ L.length ∧ bkN k.cd k.cp (L.drop p.1) (p.2.1, p.2.2) = P2 ∧ Srt p.2.1 ∧ p.2.1.length ≤ xs.length ∧ (0 ≤ p.2.2 ∧ p.2.2 < 2 ^ k.cp.toNat) ∧ ∀ c ∈ p.2.1, 0 ≤ c.1 ∧ c.1 < 1099511627776) (fun p => z4d k id a l top m t li q PL L p.2.1 p.2.2 p.1) (fun p => L.length - p.1) (0, xs, f) ⟨Nat.zero_le _, hcut.symm, hxs, Nat.le_refl _, hxf, hxr⟩ (zar _ _ ⟨by kernel_rfl, by kernel_rfl, by kernel_rfl, by kernel_rfl, by kernel_rfl, by kernel_rfl, by kernel_rfl, by kernel_rfl, by kernel_rfl, by kernel_rfl, by kernel_rfl, by kernel_rfl, by kernel_rfl, trivial⟩ ⟨by kernel_rfl, by kernel_rfl, by kernel_rfl, by kernel_rfl, by kernel_rfl, trivial⟩ (by kernel_rfl)) ?_
    rintro ⟨i, mm, ff⟩ ⟨x1, x2, x3, x4, x5, g6⟩
    have g1 : i ≤ L.length := x1
    have g2 : bkN k.cd k.cp (L.drop i) (mm, ff) = P2 := x2
    have g3 : Srt mm := x3
    have g4 : mm.length ≤ xs.length := x4
    replace g6 : ∀ c ∈ mm, 0 ≤ c.1 ∧ c.1 < 1099511627776 := g6
    have g5 : 0 ≤ ff ∧ ff < 2 ^ k.cp.toNat := x5
    clear x1 x2 x3 x4 x5
    show Aw _ _ _ _ (z4d k id a l top m t li q PL L mm ff i)
    unfold z4d
    by_cases hlt : i < L.length
    · have hgm := hLb _ (List.getElem_mem hlt)
      have hd0 : L.drop i = L[i] :: L.drop (i + 1) := List.drop_eq_getElem_cons hlt
      have hx : ((vsI L).drop (i * 1)).take 1 = [.int .u64 L[i]] := by rw [Nat.mul_one]; unfold vsI; rw [← List.map_drop, hd0]; rfl
      have hd := hd0
      rw [hd] at g2
      have hbk := zrs k.sz mm k.cd k.cp ff L[i] ⟨by omega, by omega⟩ (by omega) (zia g5.1 g5.2 (by omega)) hgm g3 (by omega) g6
      clear hd hd0
      generalize L[i] = g at *
      replace g2 : bkN k.cd k.cp (L.drop (i + 1)) (TableC.zbf mm g, TableC2.zdn k.cd k.cp ff g) = P2 := g2
      have hws := zc9 g g3
      have hwm : ∀ c ∈ TableC.zbf mm g, 0 ≤ c.1 ∧ c.1 < 1099511627776 := fun c hc => g6 c (ze6 hc)
      have hwl := zd1 mm g
      have hgb := zmt (cd := k.cd) (g := g) b2 g5
      generalize TableC.zbf mm g = m5 at *
      generalize TableC2.zdn k.cd k.cp ff g = f5 at *
      rw [← hpb, ← hpm] at hbk
      repeat (first | (refine zal rfl ?_; first | refine gdr (zaa (.inl rfl) rfl) ?_ | refine gnk 1 rfl (za2 tb rfl rfl rfl rfl rfl) ?_ | refine gdr (zaa (.inr rfl) rfl) ?_ | refine gdr (zak rfl rfl rfl rfl) ?_ | refine gdr (za6 rfl rfl rfl rfl) ?_ | refine gdr (gar rfl rfl rfl rfl) ?_ | refine gdr (zae rfl rfl rfl rfl rfl) ?_ | refine gnk 1 rfl (zbe rfl rfl rfl rfl rfl rfl rfl) ?_ | refine gdr (zan rfl rfl rfl rfl) ?_ | refine gnx 3 rfl (zau tb rfl rfl rfl rfl (by first | kernel_rfl | rfl)) rfl ?_ | refine gnx 4 rfl (zav rfl rfl rfl rfl rfl rfl (by omega) (by omega) _ (by assumption)) rfl ?_ | refine gdr (zab rfl rfl rfl (hbk) (by kernel_rfl)) ?_) | (refine hK _ ?_; clear hK K) | refine zad rfl ?_ | refine za4 (by kernel_rfl) (by kernel_rfl) rfl ?_ | refine zai rfl rfl ?_ | refine zam ?_ | refine zao ?_ | refine zac (fun K hK => ?_))
      exact ⟨(i + 1, m5, f5), ⟨by show i + 1 ≤ L.length; omega, g2, hws, by show m5.length ≤ _; omega, hgb, hwm⟩, by show L.length - (i + 1) < L.length - i; omega, zar _ _ ⟨by kernel_rfl, by kernel_rfl, by kernel_rfl, by kernel_rfl, by kernel_rfl, by kernel_rfl, by kernel_rfl, by kernel_rfl, by kernel_rfl, by kernel_rfl, by kernel_rfl, by kernel_rfl, by kernel_rfl, trivial⟩ ⟨by kernel_rfl, by kernel_rfl, by kernel_rfl, by kernel_rfl, by kernel_rfl, trivial⟩ (by kernel_rfl)⟩
    · have ei : i = L.length := by omega
      rw [ei, List.drop_length] at g2
      replace g2 : (mm, ff) = P2 := g2
      subst g2
      repeat (first | (refine zal rfl ?_; first | refine gdr (zaa (.inl rfl) rfl) ?_ | refine gnk 1 rfl (za2 tb rfl rfl rfl rfl rfl) ?_ | refine gnx 1 rfl (zbc tb rfl rfl rfl) rfl ?_ | refine gdr (zaa (.inr rfl) rfl) ?_ | refine gdr (zak rfl rfl rfl rfl) ?_ | refine gdr (za6 rfl rfl rfl rfl) ?_ | refine gnk 1 rfl (zbe rfl rfl rfl rfl rfl rfl rfl) ?_ | refine gdr (zan rfl rfl rfl rfl) ?_ | refine gdr (zaq rfl rfl rfl rfl) ?_ | refine gdr (zab rfl rfl rfl (hwt) (by kernel_rfl)) ?_ | refine gdr (zab rfl rfl rfl (hpr') (by kernel_rfl)) ?_ | refine gdr (zab rfl rfl rfl (hfe) (by kernel_rfl)) ?_ | refine gdr (zab rfl rfl rfl (hsf) (by kernel_rfl)) ?_) | (refine hK _ ?_; clear hK K) | (rename_i K1 hK1; refine hK1 _ ?_; clear hK hK1; clear K) | refine zad rfl ?_ | refine za4 (by kernel_rfl) (by kernel_rfl) rfl ?_ | exact zap (show za8 _ _ _ = some _ by kernel_rfl) | refine zah rfl rfl ?_ | refine zba ?_ | refine zac (fun K hK => ?_))
end Go.Proofs.YtmkjfeamgknpfaaGreatDoor.LkE
namespace Go.Proofs.YtmkjfeamgknpfaaGreatDoor.LaI
open Go.RowKit Bv VaSpec Base MemL RegR Ax MemC PutC MemC3 TzC OkS SpA SpB SpC SpD SpE SpF SpG SpH SpI SpJ SpK SpN RfD RfE RfJ RfK LaA LaB LaC LaD LaE LaF LaG LaH RlB RlC
open BitsC PteSpec
set_option maxRecDepth 10000
set_option maxHeartbeats 1000000
attribute [local irreducible] Ax.zcs
noncomputable def bgI (a b c : Int) (n : Nat) : Nat → Kr
  | 0 => ztg a b c n
  | i + 1 => (zck (bgI a b c n i)).1
def bgH (k : Kr) (i : Nat) : St := St.of [(2, .m (.c (.p 2 0))), (3, .m (.c (.p 3 0))), (4, .m (.c (.p 4 0))), (6, .m (.c (.p 6 0))), (7, .m (ii i))] [(2, .live (.box zK)), (3, .live (.box zK)), (4, .live (.box k.ce)), (6, .live (.box k.ce))]
theorem zwc {a b c : Int} {n : Nat} (h : zhc a b c n = true) : ∀ i, Inv i (bgI a b c n i)
  | 0 => zml h
  | i + 1 => zfh (zwc h i)
end Go.Proofs.YtmkjfeamgknpfaaGreatDoor.LaI
namespace Go.Proofs.YtmkjfeamgknpfaaGreatDoor.LkF
open Go.RowKit Bv VaSpec Base MemL RegR Ax MemC PutC MemC3 TzC OkS SpA SpB SpC SpF SpH SpI SpJ LaA LaB LaC LaD LaE LaF LaG LiA LiB LiC LiD LiE LiF SpE SpG SpK SpO SpL SpN RfA RfB RfC RfD RfE RfJ RfK RlA RlB RlC LaH LaI LjA LjB LjF LiF LkE
open BitsC PteSpec
set_option maxRecDepth 10000
set_option maxHeartbeats 1000000
attribute [local irreducible] Ax.zcs
theorem zos (a b c : Int) (n : Nat) (h : zhc a b c n = true) : Ok 10 [zmj a b c n] (.tu [.ag (bgK a b c n).ce, .ag (bgK a b c n).ce]) := by
  have hn := z0l a b c n h
  have hr := z00 a b c n h
  refine zaf 33 Tryz.func10 rfl rfl rfl rfl ?_ GG.to
  intro W A hG
  repeat (first | (refine zal rfl ?_; first | refine gdr (zaa (.inl rfl) rfl) ?_ | refine gnk 1 rfl (za2 tb rfl rfl rfl rfl rfl) ?_ | refine gdr (zaa (.inr rfl) rfl) ?_ | refine gdr (zak rfl rfl rfl rfl) ?_ | refine gdr (zag rfl rfl rfl rfl rfl rfl) ?_ | refine gdr (zae rfl rfl rfl rfl rfl) ?_ | refine gnk 1 rfl (zbe rfl rfl rfl rfl rfl rfl rfl) ?_ | refine gdr (zab rfl rfl rfl (hn) (by kernel_rfl)) ?_ | refine gdr (zab rfl rfl rfl (hr) (by kernel_rfl)) ?_) | (refine hK _ ?_; clear hK K) | refine zad rfl ?_ | refine zam ?_ | refine zac (fun K hK => ?_))
  refine za9 (α := Nat) (fun i => i ≤ 2) (fun i => bgH (bgI a b c n i) i) (fun i => 2 - i) 0 (by omega) (zar _ _ ⟨by kernel_rfl, by kernel_rfl, by kernel_rfl, by kernel_rfl, by kernel_rfl, trivial⟩ ⟨by kernel_rfl, by kernel_rfl, by kernel_rfl, by kernel_rfl, trivial⟩ (by kernel_rfl)) ?_
  intro i hi
  show Aw _ _ _ _ (bgH (bgI a b c n i) i)
  unfold bgH
  by_cases hlt : i < 2
  · have hk := zwc h i
    have hc := zs0 hk (by omega)
    have hd := zqb hk (by omega)
    have e : bgI a b c n (i + 1) = (zck (bgI a b c n i)).1 := rfl
    generalize zck (bgI a b c n i) = rr at *
    repeat (first | (refine zal rfl ?_; first | refine gdr (zaa (.inl rfl) rfl) ?_ | refine gnk 1 rfl (za2 tb rfl rfl rfl rfl rfl) ?_ | refine gdr (zaa (.inr rfl) rfl) ?_ | refine gdr (zak rfl rfl rfl rfl) ?_ | refine gdr (za6 rfl rfl rfl rfl) ?_ | refine gdr (gar rfl rfl rfl rfl) ?_ | refine gnk 1 rfl (zbe rfl rfl rfl rfl rfl rfl rfl) ?_ | refine gdr (zab rfl rfl rfl (hc) (by kernel_rfl)) ?_ | refine gdr (zab rfl rfl rfl (hd) (by kernel_rfl)) ?_) | (refine hK _ ?_; clear hK K) | refine zad rfl ?_ | refine zai rfl rfl ?_ | refine zam ?_ | refine zao ?_ | refine zac (fun K hK => ?_))
    refine ⟨i + 1, by omega, by omega, ?_⟩
    rw [e]
    exact zar _ _ ⟨by kernel_rfl, by kernel_rfl, by kernel_rfl, by kernel_rfl, by kernel_rfl, trivial⟩ ⟨by kernel_rfl, by kernel_rfl, by kernel_rfl, by kernel_rfl, trivial⟩ (by kernel_rfl)
  · obtain rfl : i = 2 := by omega
    rw [show bgI a b c n 2 = bgK a b c n from rfl]
    repeat (first | (refine zal rfl ?_; first | refine gdr (zaa (.inl rfl) rfl) ?_ | refine gnk 1 rfl (za2 tb rfl rfl rfl rfl rfl) ?_ | refine gdr (za6 rfl rfl rfl rfl) ?_ | refine gnk 1 rfl (zbe rfl rfl rfl rfl rfl rfl rfl) ?_) | (refine hK _ ?_; clear hK K) | (rename_i K1 hK1; refine hK1 _ ?_; clear hK hK1; clear K) | refine zad rfl ?_ | refine za4 (by kernel_rfl) (by kernel_rfl) rfl ?_ | exact zap (show za8 _ _ _ = some _ by kernel_rfl) | refine zah rfl rfl ?_ | refine zba ?_ | refine zac (fun K hK => ?_))
structure Dd where
  lift : Bool
  id : Int
  va : Int
  pa : Int
  lev : Int
  p : Pm
def Dd.ce (d : Dd) : List Ce := [cb d.lift, ci d.id, cu d.va, cu d.pa, ci d.lev] ++ d.p.ce
def Dd.vs (d : Dd) : List Value := [.bool d.lift, .int .i64 d.id, .int .u64 d.va, .int .u64 d.pa, .int .i64 d.lev, .bool d.p.r, .bool d.p.w, .bool d.p.x, .bool d.p.u]
def UD (d : Dd) : Prop := U d.va ∧ U d.pa
def ddR (k : Kr) (d : Dd) : Kr × Int := if d.lift then unR k d.id d.va d.lev else zob k d.id d.va d.pa d.lev d.p
theorem z1i {n : Nat} {k : Kr} {d : Dd} (h : InvT n k) (hd : UD d) : InvT (n + 1100) (ddR k d).1 := by
  unfold ddR
  split
  · exact zy1 h
  · have hm := zmw (id := d.id) (a := d.va) (pa := d.pa) (l := d.lev) (p := d.p) h hd.2
    exact ⟨{ hm.l with ml := by have := hm.l.ml; omega, fl := by have := hm.l.fl; omega }, hm.t⟩
theorem z4e {n : Nat} {k : Kr} {d : Dd} (h : InvT n k) (hn : n ≤ 88000) (hd : UD d) : Ok 11 [.ag k.ce, .ag d.ce] (.tu [.ag (ddR k d).1.ce, ii (ddR k d).2]) := by
  obtain ⟨b, id, va, pa, lev, p⟩ := d
  obtain ⟨h1, h2⟩ := hd
  obtain ⟨R, hR⟩ : ∃ R, R = ddR k ⟨b, id, va, pa, lev, p⟩ := ⟨_, rfl⟩
  rw [← hR]
  unfold Dd.ce
  cases b with
  | true =>
    have hu := zgj h hn id va lev h1
    replace hR : R = unR k id va lev := hR
    rw [← hR] at hu
    refine zaf 32 Tryz.func11 rfl rfl rfl rfl ?_ GG.to
    intro W A hG
    repeat (first | (refine zal rfl ?_; first | refine gnk 1 rfl (za2 tb rfl rfl rfl rfl rfl) ?_ | refine gnx 1 rfl (zbc tb rfl rfl rfl) rfl ?_ | refine gdr (zaa (.inr rfl) rfl) ?_ | refine gdr (zak rfl rfl rfl rfl) ?_ | refine gdr (zag rfl rfl rfl rfl rfl rfl) ?_ | refine gdr (zae rfl rfl rfl rfl rfl) ?_ | refine gnk 1 rfl (zbe rfl rfl rfl rfl rfl rfl rfl) ?_ | refine gdr (zab rfl rfl rfl (hu) (by kernel_rfl)) ?_) | (refine hK _ ?_; clear hK K) | refine zad rfl ?_ | exact zap (show za8 _ _ _ = some _ by kernel_rfl) | refine zai rfl rfl ?_ | refine zac (fun K hK => ?_))
  | false =>
    have hu := zp1 h.l (by omega) id va pa lev p h1 h2
    replace hR : R = zob k id va pa lev p := hR
    rw [← hR] at hu
    refine zaf 32 Tryz.func11 rfl rfl rfl rfl ?_ GG.to
    intro W A hG
    repeat (first | (refine zal rfl ?_; first | refine gnk 1 rfl (za2 tb rfl rfl rfl rfl rfl) ?_ | refine gnx 1 rfl (zbc tb rfl rfl rfl) rfl ?_ | refine gdr (zaa (.inr rfl) rfl) ?_ | refine gdr (zak rfl rfl rfl rfl) ?_ | refine gdr (zag rfl rfl rfl rfl rfl rfl) ?_ | refine gdr (zae rfl rfl rfl rfl rfl) ?_ | refine gnk 1 rfl (zbe rfl rfl rfl rfl rfl rfl rfl) ?_ | refine gdr (zab rfl rfl rfl (hu) (by kernel_rfl)) ?_) | (refine hK _ ?_; clear hK K) | refine zad rfl ?_ | exact zap (show za8 _ _ _ = some _ by kernel_rfl) | refine zah rfl rfl ?_ | refine zao ?_ | refine zac (fun K hK => ?_))
theorem z1j {n : Nat} {k : Kr} {d : Dd} (h : InvT n k) (hn : n ≤ 88000) (hd : UD d) : Ok 12 [.ag k.ce, .ag d.ce] (.tu [.ag (ddR k d).1.ce, ii (ddR k d).2]) := by
  obtain ⟨b, id, va, pa, lev, p⟩ := d
  obtain ⟨h1, h2⟩ := hd
  obtain ⟨R, hR⟩ : ∃ R, R = ddR k ⟨b, id, va, pa, lev, p⟩ := ⟨_, rfl⟩
  rw [← hR]
  unfold Dd.ce
  cases b with
  | true =>
    have hu := zte h hn id va lev h1
    replace hR : R = unR k id va lev := hR
    rw [← hR] at hu
    refine zaf 32 Tryz.func12 rfl rfl rfl rfl ?_ GG.to
    intro W A hG
    repeat (first | (refine zal rfl ?_; first | refine gnk 1 rfl (za2 tb rfl rfl rfl rfl rfl) ?_ | refine gnx 1 rfl (zbc tb rfl rfl rfl) rfl ?_ | refine gdr (zaa (.inr rfl) rfl) ?_ | refine gdr (zak rfl rfl rfl rfl) ?_ | refine gdr (zag rfl rfl rfl rfl rfl rfl) ?_ | refine gdr (zae rfl rfl rfl rfl rfl) ?_ | refine gnk 1 rfl (zbe rfl rfl rfl rfl rfl rfl rfl) ?_ | refine gdr (zab rfl rfl rfl (hu) (by kernel_rfl)) ?_) | (refine hK _ ?_; clear hK K) | refine zad rfl ?_ | exact zap (show za8 _ _ _ = some _ by kernel_rfl) | refine zai rfl rfl ?_ | refine zac (fun K hK => ?_))
  | false =>
    have hu := zx3 h.l (by omega) id va pa lev p h1 h2
    replace hR : R = zob k id va pa lev p := hR
    rw [← hR] at hu
    refine zaf 32 Tryz.func12 rfl rfl rfl rfl ?_ GG.to
    intro W A hG
    repeat (first | (refine zal rfl ?_; first | refine gnk 1 rfl (za2 tb rfl rfl rfl rfl rfl) ?_ | refine gnx 1 rfl (zbc tb rfl rfl rfl) rfl ?_ | refine gdr (zaa (.inr rfl) rfl) ?_ | refine gdr (zak rfl rfl rfl rfl) ?_ | refine gdr (zag rfl rfl rfl rfl rfl rfl) ?_ | refine gdr (zae rfl rfl rfl rfl rfl) ?_ | refine gnk 1 rfl (zbe rfl rfl rfl rfl rfl rfl rfl) ?_ | refine gdr (zab rfl rfl rfl (hu) (by kernel_rfl)) ?_) | (refine hK _ ?_; clear hK K) | refine zad rfl ?_ | exact zap (show za8 _ _ _ = some _ by kernel_rfl) | refine zah rfl rfl ?_ | refine zao ?_ | refine zac (fun K hK => ?_))
set_option maxHeartbeats 8000000 in
theorem zkl : Ok 8 [] (.m (ib true)) := by
  have hN : Ok 10 [zmj 4 8 2 1] (.tu [.ag c2.ce, .ag c2.ce]) := by rw [← bg2]; exact zos 4 8 2 1 (by decide)
  have hA := zp1 t2.l (by omega) 0 20480 4096 0 rr ⟨by omega, by omega⟩ ⟨by omega, by omega⟩
  rw [uA] at hA
  have hB := zp1 jA.l (by omega) (-1) 18446744073709547520 0 0 rr ⟨by omega, by omega⟩ ⟨by omega, by omega⟩
  rw [uB] at hB
  have hC := zgj jB (by omega) 0 20480 0 ⟨by omega, by omega⟩
  rw [uC] at hC
  have hF := zgj jC (by omega) 0 20480 0 ⟨by omega, by omega⟩
  rw [uF] at hF
  have hD := zgj jC (by omega) (-1) 18446744073707454464 1 ⟨by omega, by omega⟩
  rw [uD] at hD
  have hH := zgj jC (by omega) 7 20480 0 ⟨by omega, by omega⟩
  rw [uH] at hH
  have hI1 := zr5 jB (by omega) 0 0 2 ⟨by omega, by omega⟩
  rw [vB] at hI1
  have hI1 : Ok 15 [.ag dB.ce, ii 0, iu 0, ii 2] (.m (.c (.s 1 8 (flP [⟨20480, 4096, 0, true, false, false, false, false⟩])))) := hI1
  have hI2 := zr5 jC (by omega) 0 0 2 ⟨by omega, by omega⟩
  rw [vC] at hI2
  have hI2 : Ok 15 [.ag dC.ce, ii 0, iu 0, ii 2] (.m (.c (.s 0 8 []))) := hI2
  have hS := zre [⟨true, 20480, true, 1⟩] (by decide)
  have hZ := zv9 c2 1 (List.replicate 17 ⟨0, 0, 0, false, false, false, false, false⟩) (by decide) (by decide) (by decide)
  have hx : ((flF dD.fs).drop ((1 : Int).toNat * 4)).take 4 = [.bool true, .int .u64 18446744073709547520, .bool false, .int .u64 0] := rfl
  have he : ∀ w, (Op.equalIn 10000 80 (.agg #[.bool true, .int .u64 18446744073709547520, .bool false, .int .u64 0]) (.agg #[.bool true, .int .u64 18446744073709547520, .bool false, .int .u64 0])).run Tryz.prog w = .ok true w := fun w => by rw [zrd]; simp
  have hp : ∀ w, (Op.equalIn 10000 39 (.agg #[.int .u64 4, .int .i64 8, .int .u64 248]) (.agg #[.int .u64 4, .int .i64 8, .int .u64 248])).run Tryz.prog w = .ok true w := fun w => by rw [PoolC4.zub 9998]; rfl
  refine zaf 115 Tryz.func8 rfl rfl rfl rfl ?_ GG.to
  intro W A hG
  repeat (first | (refine zal rfl ?_; first | refine gdr (zaa (.inr rfl) rfl) ?_) | refine zad rfl ?_ | refine zac (fun K hK => ?_))
  first
    | (refine hK _ ?_; clear hK K)
    | (rename_i K1 hK1; refine hK1 _ ?_; clear hK hK1; clear K)
    | (rename_i K1 hK1; refine hK1 _ ?_; clear hK1)
  repeat (first | (refine zal rfl ?_; first | refine gdr (zaa (.inl rfl) rfl) ?_ | refine gdr (zak rfl rfl rfl rfl) ?_ | refine gdr (zae rfl rfl rfl rfl rfl) ?_ | refine gnk 1 rfl (zbe rfl rfl rfl rfl rfl rfl rfl) ?_ | refine gdr (zaq rfl rfl rfl rfl) ?_ | refine gdr (zab rfl rfl rfl (hN) (by kernel_rfl)) ?_) | refine zad rfl ?_ | refine zac (fun K hK => ?_))
  first
    | (refine hK _ ?_; clear hK K)
    | (rename_i K1 hK1; refine hK1 _ ?_; clear hK hK1; clear K)
    | (rename_i K1 hK1; refine hK1 _ ?_; clear hK1)
  refine ze3 (zar [(1, .m (.c (.p 1 0)))] [(1, .live (.box c2.ce))] ⟨by kernel_rfl, trivial⟩ ⟨by kernel_rfl, trivial⟩ (by kernel_rfl)) ?_
  repeat (first | (refine zal rfl ?_; first | refine gdr (zae rfl rfl rfl rfl rfl) ?_ | refine gnk 1 rfl (zbe rfl rfl rfl rfl rfl rfl rfl) ?_ | refine gdr (zaq rfl rfl rfl rfl) ?_) | refine zad rfl ?_ | refine zac (fun K hK => ?_))
  first
    | (refine hK _ ?_; clear hK K)
    | (rename_i K1 hK1; refine hK1 _ ?_; clear hK hK1; clear K)
    | (rename_i K1 hK1; refine hK1 _ ?_; clear hK1)
  refine ze3 (zar [(1, .m (.c (.p 1 0))), (3, .m (.c (.p 3 0)))] [(1, .live (.box c2.ce)), (3, .live (.box rr.ce))] ⟨by kernel_rfl, by kernel_rfl, trivial⟩ ⟨by kernel_rfl, by kernel_rfl, trivial⟩ (by kernel_rfl)) ?_
  repeat (first | (refine zal rfl ?_; first | refine gdr (zaa (.inl rfl) rfl) ?_ | refine gnk 1 rfl (za2 tb rfl rfl rfl rfl rfl) ?_ | refine gdr (zaa (.inr rfl) rfl) ?_ | refine gdr (zak rfl rfl rfl rfl) ?_ | refine gdr (zae rfl rfl rfl rfl rfl) ?_ | refine gnk 1 rfl (zbe rfl rfl rfl rfl rfl rfl rfl) ?_ | refine gdr (zab rfl rfl rfl (hA) (by kernel_rfl)) ?_) | refine zad rfl ?_ | refine zac (fun K hK => ?_))
  first
    | (refine hK _ ?_; clear hK K)
    | (rename_i K1 hK1; refine hK1 _ ?_; clear hK hK1; clear K)
    | (rename_i K1 hK1; refine hK1 _ ?_; clear hK1)
  refine ze3 (zar [(1, .m (.c (.p 1 0))), (3, .m (.c (.p 3 0))), (4, .m (.c (.p 4 0)))] [(1, .live (.box c2.ce)), (3, .live (.box rr.ce)), (4, .live (.box dA.ce))] ⟨by kernel_rfl, by kernel_rfl, by kernel_rfl, trivial⟩ ⟨by kernel_rfl, by kernel_rfl, by kernel_rfl, trivial⟩ (by kernel_rfl)) ?_
  repeat (first | (refine zal rfl ?_; first | refine gdr (zaa (.inl rfl) rfl) ?_ | refine gnk 1 rfl (za2 tb rfl rfl rfl rfl rfl) ?_ | refine gdr (zaa (.inr rfl) rfl) ?_ | refine gdr (zak rfl rfl rfl rfl) ?_ | refine gdr (zae rfl rfl rfl rfl rfl) ?_ | refine gnk 1 rfl (zbe rfl rfl rfl rfl rfl rfl rfl) ?_ | refine gdr (zab rfl rfl rfl (hB) (by kernel_rfl)) ?_) | refine zad rfl ?_ | refine zac (fun K hK => ?_))
  first
    | (refine hK _ ?_; clear hK K)
    | (rename_i K1 hK1; refine hK1 _ ?_; clear hK hK1; clear K)
    | (rename_i K1 hK1; refine hK1 _ ?_; clear hK1)
  refine ze3 (zar [(1, .m (.c (.p 1 0))), (3, .m (.c (.p 3 0))), (4, .m (.c (.p 4 0))), (6, .m (.c (.p 6 0)))] [(1, .live (.box c2.ce)), (3, .live (.box rr.ce)), (4, .live (.box dA.ce)), (6, .live (.box dB.ce))] ⟨by kernel_rfl, by kernel_rfl, by kernel_rfl, by kernel_rfl, trivial⟩ ⟨by kernel_rfl, by kernel_rfl, by kernel_rfl, by kernel_rfl, trivial⟩ (by kernel_rfl)) ?_
  repeat (first | (refine zal rfl ?_; first | refine gdr (zaa (.inl rfl) rfl) ?_ | refine gnk 1 rfl (za2 tb rfl rfl rfl rfl rfl) ?_ | refine gdr (zaa (.inr rfl) rfl) ?_ | refine gdr (zak rfl rfl rfl rfl) ?_ | refine gdr (zae rfl rfl rfl rfl rfl) ?_ | refine gnk 1 rfl (zbe rfl rfl rfl rfl rfl rfl rfl) ?_ | refine gdr (zab rfl rfl rfl (hC) (by kernel_rfl)) ?_) | refine zad rfl ?_ | refine zac (fun K hK => ?_))
  first
    | (refine hK _ ?_; clear hK K)
    | (rename_i K1 hK1; refine hK1 _ ?_; clear hK hK1; clear K)
    | (rename_i K1 hK1; refine hK1 _ ?_; clear hK1)
  refine ze3 (zar [(1, .m (.c (.p 1 0))), (3, .m (.c (.p 3 0))), (4, .m (.c (.p 4 0))), (6, .m (.c (.p 6 0))), (8, .m (.c (.p 8 0))), (9, .m (ii 0))] [(1, .live (.box c2.ce)), (3, .live (.box rr.ce)), (4, .live (.box dA.ce)), (6, .live (.box dB.ce)), (8, .live (.box dC.ce))] ⟨by kernel_rfl, by kernel_rfl, by kernel_rfl, by kernel_rfl, by kernel_rfl, by kernel_rfl, trivial⟩ ⟨by kernel_rfl, by kernel_rfl, by kernel_rfl, by kernel_rfl, by kernel_rfl, trivial⟩ (by kernel_rfl)) ?_
  repeat (first | (refine zal rfl ?_; first | refine gdr (zaa (.inl rfl) rfl) ?_ | refine gnk 1 rfl (za2 tb rfl rfl rfl rfl rfl) ?_ | refine gdr (zaa (.inr rfl) rfl) ?_ | refine gdr (zak rfl rfl rfl rfl) ?_ | refine gdr (zae rfl rfl rfl rfl rfl) ?_ | refine gnk 1 rfl (zbe rfl rfl rfl rfl rfl rfl rfl) ?_ | refine gdr (zab rfl rfl rfl (hF) (by kernel_rfl)) ?_) | refine zad rfl ?_ | refine zac (fun K hK => ?_))
  first
    | (refine hK _ ?_; clear hK K)
    | (rename_i K1 hK1; refine hK1 _ ?_; clear hK hK1; clear K)
    | (rename_i K1 hK1; refine hK1 _ ?_; clear hK1)
  refine ze3 (zar [(1, .m (.c (.p 1 0))), (3, .m (.c (.p 3 0))), (4, .m (.c (.p 4 0))), (6, .m (.c (.p 6 0))), (8, .m (.c (.p 8 0))), (9, .m (ii 0)), (11, .m (ii 7))] [(1, .live (.box c2.ce)), (3, .live (.box rr.ce)), (4, .live (.box dA.ce)), (6, .live (.box dB.ce)), (8, .live (.box dC.ce))] ⟨by kernel_rfl, by kernel_rfl, by kernel_rfl, by kernel_rfl, by kernel_rfl, by kernel_rfl, by kernel_rfl, trivial⟩ ⟨by kernel_rfl, by kernel_rfl, by kernel_rfl, by kernel_rfl, by kernel_rfl, trivial⟩ (by kernel_rfl)) ?_
  repeat (first | (refine zal rfl ?_; first | refine gdr (zaa (.inl rfl) rfl) ?_ | refine gnk 1 rfl (za2 tb rfl rfl rfl rfl rfl) ?_ | refine gdr (zaa (.inr rfl) rfl) ?_ | refine gdr (zak rfl rfl rfl rfl) ?_ | refine gdr (zae rfl rfl rfl rfl rfl) ?_ | refine gnk 1 rfl (zbe rfl rfl rfl rfl rfl rfl rfl) ?_ | refine gdr (zab rfl rfl rfl (hD) (by kernel_rfl)) ?_) | refine zad rfl ?_ | refine zac (fun K hK => ?_))
  first
    | (refine hK _ ?_; clear hK K)
    | (rename_i K1 hK1; refine hK1 _ ?_; clear hK hK1; clear K)
    | (rename_i K1 hK1; refine hK1 _ ?_; clear hK1)
  refine ze3 (zar [(1, .m (.c (.p 1 0))), (3, .m (.c (.p 3 0))), (4, .m (.c (.p 4 0))), (6, .m (.c (.p 6 0))), (8, .m (.c (.p 8 0))), (9, .m (ii 0)), (11, .m (ii 7)), (12, .m (.c (.p 12 0))), (13, .m (ii 0))] [(1, .live (.box c2.ce)), (3, .live (.box rr.ce)), (4, .live (.box dA.ce)), (6, .live (.box dB.ce)), (8, .live (.box dC.ce)), (12, .live (.box dD.ce))] ⟨by kernel_rfl, by kernel_rfl, by kernel_rfl, by kernel_rfl, by kernel_rfl, by kernel_rfl, by kernel_rfl, by kernel_rfl, by kernel_rfl, trivial⟩ ⟨by kernel_rfl, by kernel_rfl, by kernel_rfl, by kernel_rfl, by kernel_rfl, by kernel_rfl, trivial⟩ (by kernel_rfl)) ?_
  repeat (first | (refine zal rfl ?_; first | refine gdr (zaa (.inl rfl) rfl) ?_ | refine gnk 1 rfl (za2 tb rfl rfl rfl rfl rfl) ?_ | refine gdr (zaa (.inr rfl) rfl) ?_ | refine gdr (zak rfl rfl rfl rfl) ?_ | refine gdr (zae rfl rfl rfl rfl rfl) ?_ | refine gnk 1 rfl (zbe rfl rfl rfl rfl rfl rfl rfl) ?_ | refine gdr (zab rfl rfl rfl (hH) (by kernel_rfl)) ?_) | refine zad rfl ?_ | refine zac (fun K hK => ?_))
  first
    | (refine hK _ ?_; clear hK K)
    | (rename_i K1 hK1; refine hK1 _ ?_; clear hK hK1; clear K)
    | (rename_i K1 hK1; refine hK1 _ ?_; clear hK1)
  refine ze3 (zar [(1, .m (.c (.p 1 0))), (3, .m (.c (.p 3 0))), (4, .m (.c (.p 4 0))), (6, .m (.c (.p 6 0))), (8, .m (.c (.p 8 0))), (9, .m (ii 0)), (11, .m (ii 7)), (12, .m (.c (.p 12 0))), (13, .m (ii 0)), (15, .m (ii 4))] [(1, .live (.box c2.ce)), (3, .live (.box rr.ce)), (4, .live (.box dA.ce)), (6, .live (.box dB.ce)), (8, .live (.box dC.ce)), (12, .live (.box dD.ce))] ⟨by kernel_rfl, by kernel_rfl, by kernel_rfl, by kernel_rfl, by kernel_rfl, by kernel_rfl, by kernel_rfl, by kernel_rfl, by kernel_rfl, by kernel_rfl, trivial⟩ ⟨by kernel_rfl, by kernel_rfl, by kernel_rfl, by kernel_rfl, by kernel_rfl, by kernel_rfl, trivial⟩ (by kernel_rfl)) ?_
  repeat (first | (refine zal rfl ?_; first | refine gdr (zaa (.inl rfl) rfl) ?_ | refine gnk 1 rfl (za2 tb rfl rfl rfl rfl rfl) ?_ | refine gnx 1 rfl (zbc tb rfl rfl rfl) rfl ?_ | refine gdr (za6 rfl rfl rfl rfl) ?_ | refine gdr (zaq rfl rfl rfl rfl) ?_ | refine gdr (zax rfl rfl rfl rfl rfl rfl rfl rfl rfl rfl rfl) ?_) | refine za4 (by kernel_rfl) (by kernel_rfl) rfl ?_ | refine zac (fun K hK => ?_))
  refine zal rfl ?_
  refine zee (zcz (b := 60) (l := [.c (.s dC.fs.length 4 (flF dC.fs)), .c (.o 60)]) rfl rfl rfl (by kernel_rfl) rfl (by kernel_rfl) (ze4 (by kernel_rfl) hS)) (by kernel_rfl) ?_
  repeat (first | (refine zal rfl ?_; first | refine gdr (zaa (.inl rfl) rfl) ?_ | refine gnk 1 rfl (za2 tb rfl rfl rfl rfl rfl) ?_ | refine gnx 1 rfl (zbc tb rfl rfl rfl) rfl ?_ | refine gdr (zaj rfl rfl rfl) ?_ | refine gdr (za6 rfl rfl rfl rfl) ?_ | refine gdr (zan rfl rfl rfl rfl) ?_ | refine gnx 3 rfl (zau tb rfl rfl rfl rfl (by first | kernel_rfl | rfl)) rfl ?_ | refine gdr (zaq rfl rfl rfl rfl) ?_ | (refine zh6 98 rfl ?_; refine gdr (zab rfl rfl rfl (hI1) (by kernel_rfl)) ?_) | (refine zh6 104 rfl ?_; refine gdr (zab rfl rfl rfl (hI2) (by kernel_rfl)) ?_) | refine gdr (zk0 (n := 17) rfl rfl rfl rfl rfl rfl rfl rfl rfl rfl (by decide) (by decide) rfl) ?_ | refine gdr (zav rfl rfl rfl rfl rfl rfl (by decide) (by decide) _ hx) ?_ | refine gdr (zef (us := [.bool true, .int .u64 18446744073709547520, .bool false, .int .u64 0]) (vs := [.bool true, .int .u64 18446744073709547520, .bool false, .int .u64 0]) he (by kernel_rfl) rfl rfl rfl rfl) ?_ | refine gdr (zef (us := [.int .u64 4, .int .i64 8, .int .u64 248]) (vs := [.int .u64 4, .int .i64 8, .int .u64 248]) hp (by kernel_rfl) rfl rfl rfl rfl) ?_))
  refine zal rfl ?_
  refine zee (zcz (b := 110) (l := [.ag c2.ce, ii 1, .c (.o 110)]) rfl rfl rfl (by kernel_rfl) rfl (by kernel_rfl) (ze4 (by kernel_rfl) hZ)) (by kernel_rfl) ?_
  repeat (first | (refine zal rfl ?_; first | refine gdr (zaa (.inr rfl) rfl) ?_ | refine gdr (zaj rfl rfl rfl) ?_ | refine gdr (za6 rfl rfl rfl rfl) ?_ | refine gdr (zan rfl rfl rfl rfl) ?_) | (refine hK _ ?_; clear hK K) | exact zap (show za8 _ _ _ = some _ by kernel_rfl))
end Go.Proofs.YtmkjfeamgknpfaaGreatDoor.LkF
namespace Go.Proofs.YtmkjfeamgknpfaaGreatDoor.LaJ
open Go.RowKit Bv VaSpec Base MemL RegR Ax MemC PutC MemC3 TzC OkS SpA SpB SpC SpD SpE SpF SpG SpH SpI SpJ SpK SpN RfD RfE LaA LaB LaC LaD LaE LaF LaG LaH LaI RlB RlC
open BitsC PteSpec
set_option maxRecDepth 10000
set_option maxHeartbeats 1000000
attribute [local irreducible] Ax.zcs
structure Rq where
  id : Int
  va : Int
  pa : Int
  lev : Int
  p : Pm
deriving DecidableEq
def Rq.ce (q : Rq) : List Ce := [ci q.id, cu q.va, cu q.pa, ci q.lev, cb q.p.r, cb q.p.w, cb q.p.x, cb q.p.u]
def Rq.vs (q : Rq) : List Value := [.int .i64 q.id, .int .u64 q.va, .int .u64 q.pa, .int .i64 q.lev, .bool q.p.r, .bool q.p.w, .bool q.p.x, .bool q.p.u]
theorem z3g {n : Nat} {k : Kr} (h : InvL n k) (hn : n ≤ 100000) : Ok 13 [.ag k.ce, .ag k.ce] (.m (ib true)) ∧ Ok 20 [.ag k.ce] (.m (.ag k.ce)) := by
  have b1 := h.ml
  have b2 := h.fl
  have b3 := h.sl
  exact ⟨SpM.z0e k h.ts h.cs.2 (by omega) (by omega) (by omega), SpM.zu8 k h.ts h.cs.2 (by omega) (by omega) (by omega)⟩
end Go.Proofs.YtmkjfeamgknpfaaGreatDoor.LaJ
namespace Go.Proofs.YtmkjfeamgknpfaaGreatDoor.LkG
open Go.RowKit Bv VaSpec Base MemL RegR Ax MemC PutC MemC3 TzC OkS SpA SpB SpC SpF SpH SpI SpJ LaA LaB LaC LaD LaE LaF LaG LiA LiB LiC LiD LiE LiF SpE SpG SpK SpO SpL SpN RfA RfB RfC RfD RfE RfJ RfK RlA RlB RlC LaH LaI LaJ LjA LjB LjF LiF LkE LkF
open BitsC PteSpec
set_option maxRecDepth 10000
set_option maxHeartbeats 1000000
attribute [local irreducible] Ax.zcs
def zyb (l : List Dd) : List Value := l.flatMap Dd.vs
theorem z1k {l : List Dd} {k : Nat} {d : Dd} (h : l[k]? = some d) : ((zyb l).drop (k * 9)).take 9 = [.bool d.lift, .int .i64 d.id, .int .u64 d.va, .int .u64 d.pa, .int .i64 d.lev, .bool d.p.r, .bool d.p.w, .bool d.p.x, .bool d.p.u] := zf8 Dd.vs 9 (fun _ => rfl) l _ d h
theorem z1l {n : Nat} {k : Kr} (h : InvT n k) (id a l : Int) (ha : U a) : (inR k id a l).length ≤ 134217728 := by
  unfold inR
  by_cases c : (za1 k id a l).2.2 = 0
  · rw [if_neg (by omega)]
    obtain ⟨l', t', e, h2, _⟩ := zqn (id := id) (a := a) (l := l) h c
    rw [e]
    exact Nat.le_trans (zm1 k.sz k.m _ _ _ (zop ha (by omega) (by omega)) (by show (l' : Int) ≤ 2; omega)).1 (by omega)
  · rw [if_pos c]; simp
def zqo (l : List Dd) (id va lv : Int) (i : Nat) (k : Kr) : St := St.of [(1, .m (.c (.s l.length 9 (zyb l)))), (2, .m (ii id)), (3, .m (iu va)), (4, .m (ii lv)), (10, .m (ib false)), (11, .m (.c (.p 11 0))), (12, .m (.c (.p 12 0))), (13, .m (ii i))] [(11, .live (.box k.ce)), (12, .live (.box k.ce))]
theorem lifts3_ok (a b c d : Int) (l : List Dd) (id va lv : Int) (hl : ∀ x ∈ l, UD x) (hva : U va) : Ok 3 [zmj a b c d, .c (.s l.length 9 (zyb l)), ii id, iu va, ii lv] (.m (ib true)) := by
  have hm := z0f a b c d
  cases hc : zhc a b c d with
  | false =>
    rw [hc] at hm
    refine zaf 82 Tryz.func3 rfl rfl rfl rfl ?_ GG.to
    intro W A hG
    repeat (first | (refine zal rfl ?_; first | refine gdr (zaw rfl) ?_ | refine gdr (zaa (.inl rfl) rfl) ?_ | refine gnk 1 rfl (za2 tb rfl rfl rfl rfl rfl) ?_ | refine gdr (zaa (.inr rfl) rfl) ?_ | refine gdr (zaj rfl rfl rfl) ?_ | refine gdr (zag rfl rfl rfl rfl rfl rfl) ?_ | refine gdr (zas rfl rfl rfl) ?_ | refine gdr (zab rfl rfl rfl (zkl) (by kernel_rfl)) ?_ | refine gdr (zab rfl rfl rfl (hm) (by kernel_rfl)) ?_) | (refine hK _ ?_; clear hK K) | refine zad rfl ?_ | exact zap (show za8 _ _ _ = some _ by kernel_rfl) | refine zai rfl rfl ?_ | refine zac (fun K hK => ?_))
  | true =>
    rw [hc] at hm
    by_cases hlen : 30 < l.length
    · refine zaf 82 Tryz.func3 rfl rfl rfl rfl ?_ GG.to
      intro W A hG
      repeat (first | (refine zal rfl ?_; first | refine gdr (zaa (.inl rfl) rfl) ?_ | refine gnk 1 rfl (za2 tb rfl rfl rfl rfl rfl) ?_ | refine gdr (zaa (.inr rfl) rfl) ?_ | refine gdr (zaj rfl rfl rfl) ?_ | refine gdr (za6 rfl rfl rfl rfl) ?_ | refine gdr (zag rfl rfl rfl rfl rfl rfl) ?_ | refine gdr (zan rfl rfl rfl rfl) ?_ | refine gdr (zas rfl rfl rfl) ?_ | refine gdr (zab rfl rfl rfl (zkl) (by kernel_rfl)) ?_ | refine gdr (zab rfl rfl rfl (hm) (by kernel_rfl)) ?_) | (refine hK _ ?_; clear hK K) | refine zad rfl ?_ | exact zap (show za8 _ _ _ = some _ by kernel_rfl) | refine zai rfl rfl ?_ | refine zac (fun K hK => ?_))
    obtain ⟨n, rfl⟩ := Int.eq_ofNat_of_zero_le (zek.1 hc).2.2.2.1
    have hb := zos a b c n hc
    have hbi := zvx hc
    generalize bgK a b c n = bk at *
    refine zaf 82 Tryz.func3 rfl rfl rfl rfl ?_ GG.to
    intro W A hG
    repeat (first | (refine zal rfl ?_; first | refine gdr (zaa (.inl rfl) rfl) ?_ | refine gnk 1 rfl (za2 tb rfl rfl rfl rfl rfl) ?_ | refine gdr (zaa (.inr rfl) rfl) ?_ | refine gdr (zaj rfl rfl rfl) ?_ | refine gdr (zak rfl rfl rfl rfl) ?_ | refine gdr (za6 rfl rfl rfl rfl) ?_ | refine gdr (zag rfl rfl rfl rfl rfl rfl) ?_ | refine gdr (zae rfl rfl rfl rfl rfl) ?_ | refine gnk 1 rfl (zbe rfl rfl rfl rfl rfl rfl rfl) ?_ | refine gdr (zan rfl rfl rfl rfl) ?_ | refine gdr (zas rfl rfl rfl) ?_ | refine gdr (zab rfl rfl rfl (zkl) (by kernel_rfl)) ?_ | refine gdr (zab rfl rfl rfl (hm) (by kernel_rfl)) ?_ | refine gdr (zab rfl rfl rfl (hb) (by kernel_rfl)) ?_) | (refine hK _ ?_; clear hK K) | refine zad rfl ?_ | refine zah rfl rfl ?_ | refine zam ?_ | refine zao ?_ | refine zac (fun K hK => ?_))
    refine za9 (α := Nat × Kr) (fun p => p.1 ≤ l.length ∧ InvT (2 + 1100 * p.1) p.2) (fun p => zqo l id va lv p.1 p.2) (fun p => l.length - p.1) (0, bk) ⟨Nat.zero_le _, hbi⟩ (zar _ _ ⟨by kernel_rfl, by kernel_rfl, by kernel_rfl, by kernel_rfl, by kernel_rfl, by kernel_rfl, by kernel_rfl, by kernel_rfl, trivial⟩ ⟨by kernel_rfl, by kernel_rfl, trivial⟩ (by kernel_rfl)) ?_
    rintro ⟨i, k⟩ ⟨hi0, hk0⟩
    have hi : i ≤ l.length := hi0
    have hk : InvT (2 + 1100 * i) k := hk0
    show Aw _ _ _ _ (zqo l id va lv i k)
    unfold zqo
    by_cases hlt : i < l.length
    · obtain ⟨x, hx0⟩ : ∃ x, l[i]? = some x := ⟨_, List.getElem?_eq_getElem hlt⟩
      have hx := z1k hx0
      have h8 := hl x (List.mem_of_getElem? hx0)
      have hd := z4e hk (by omega) h8
      have hdi := z1i hk h8
      have hd2 := z1j hk (by omega) h8
      generalize ddR k x = rr at *
      obtain ⟨hsm, -⟩ := z3g hdi.l (by omega)
      repeat (first | (refine zal rfl ?_; first | refine gdr (zaa (.inl rfl) rfl) ?_ | refine gnk 1 rfl (za2 tb rfl rfl rfl rfl rfl) ?_ | refine gdr (zaa (.inr rfl) rfl) ?_ | refine gdr (zaj rfl rfl rfl) ?_ | refine gdr (zak rfl rfl rfl rfl) ?_ | refine gdr (za6 rfl rfl rfl rfl) ?_ | refine gdr (gar rfl rfl rfl rfl) ?_ | refine gdr (zae rfl rfl rfl rfl rfl) ?_ | refine gnk 1 rfl (zbe rfl rfl rfl rfl rfl rfl rfl) ?_ | refine gdr (zan rfl rfl rfl rfl) ?_ | refine gnx 3 rfl (zau tb rfl rfl rfl rfl (by first | kernel_rfl | rfl)) rfl ?_ | refine gdr (zas rfl rfl rfl) ?_ | refine gnx 4 rfl (zav rfl rfl rfl rfl rfl rfl (by omega) (by omega) _ (by assumption)) rfl ?_ | refine gdr (zab rfl rfl rfl (hd) (by kernel_rfl)) ?_ | refine gdr (zab rfl rfl rfl (hd2) (by kernel_rfl)) ?_ | refine gdr (zab rfl rfl rfl (hsm) (by kernel_rfl)) ?_) | (refine hK _ ?_; clear hK K) | refine zad rfl ?_ | refine za4 (by kernel_rfl) (by kernel_rfl) rfl ?_ | refine zai rfl rfl ?_ | refine zah rfl rfl ?_ | refine zam ?_ | refine zao ?_ | refine zac (fun K hK => ?_))
      exact ⟨(i + 1, rr.1), ⟨by show i + 1 ≤ l.length; omega, hdi⟩, by show l.length - (i + 1) < l.length - i; omega, zar _ _ ⟨by kernel_rfl, by kernel_rfl, by kernel_rfl, by kernel_rfl, by kernel_rfl, by kernel_rfl, by kernel_rfl, by kernel_rfl, trivial⟩ ⟨by kernel_rfl, by kernel_rfl, trivial⟩ (by kernel_rfl)⟩
    · have h1 := zr5 hk (by omega) id va lv hva
      have h2 := zv8 hk (by omega) id va lv hva
      have h3 := zx2 (inR k id va lv) (z1l hk id va lv hva)
      generalize inR k id va lv = ll at *
      repeat (first | (refine zal rfl ?_; first | refine gdr (zaa (.inl rfl) rfl) ?_ | refine gnk 1 rfl (za2 tb rfl rfl rfl rfl rfl) ?_ | refine gdr (zaa (.inr rfl) rfl) ?_ | refine gdr (za6 rfl rfl rfl rfl) ?_ | refine gdr (zan rfl rfl rfl rfl) ?_ | refine gdr (zab rfl rfl rfl (h1) (by kernel_rfl)) ?_ | refine gdr (zab rfl rfl rfl (h2) (by kernel_rfl)) ?_ | refine gdr (zab rfl rfl rfl (h3) (by kernel_rfl)) ?_) | (refine hK _ ?_; clear hK K) | (rename_i K1 hK1; refine hK1 _ ?_; clear hK hK1; clear K) | refine zad rfl ?_ | refine za4 (by kernel_rfl) (by kernel_rfl) rfl ?_ | exact zap (show za8 _ _ _ = some _ by kernel_rfl) | refine zah rfl rfl ?_ | refine zba ?_ | refine zac (fun K hK => ?_))
end Go.Proofs.YtmkjfeamgknpfaaGreatDoor.LkG
namespace Go.Proofs.YtmkjfeamgknpfaaGreatDoor.Open
open Go.RowKit Go.WideShapes Go.ChangeShapes Base
set_option maxRecDepth 10000
section
variable {H : Type} {enc : TypeId × Value → H} {P : Program}
theorem keepAll (hl : laidOutB P = true) {W W' : World} (hb : Below W.heap.size W W') : ∀ {ts : List TypeId} {vs : List Value} {ds : List (DataW H)} {ps : List MemPlace},
    (ts.all fun t => P.readableRec t && decide (t < P.types.size)) = true → DataW.TrodAll enc P W 0 (fun _ => true) true ts vs ds ps → DataW.TrodAll enc P W' 0 (fun b => decide (b < W.heap.size)) true ts vs ds ps
  | [], [], [], _, _, h => h
  | t :: ts, v :: vs, d :: ds, ps, ht, ⟨a, b, h1, h2, e⟩ => by
    simp only [List.all_cons, Bool.and_eq_true, decide_eq_true_eq] at ht
    have h1' := h1
    obtain ⟨n, hn⟩ := h1
    exact ⟨a, b, Below.trod hl ht.1.1 ht.1.2 h1' hb (fun x hx => DataW.trod_lt n t _ _ hn x hx), keepAll hl hb ht.2 h2, e⟩
end
section
variable {H : Type} {enc : TypeId × Value → H} {W : World} {base b0 : Nat} {sp : Nat → Bool} {held : Bool} {n : Nat} {r : Reach}
theorem zgk {c : Value} {x : Option (DataW H × List MemPlace)} {y : DataW H × List MemPlace} (h : DataW.trod enc Tryz.prog W base sp held n 4 [c] = x) (hx : x = some y) : ∃ b, c = .bool b := by
  rw [hx] at h
  obtain ⟨b, e, _⟩ := DataW.trod_bool Tryz.underlying4 h
  exact ⟨b, by simpa using e⟩
theorem zr6 {c : Value} {x : Option (DataW H × List MemPlace)} {y : DataW H × List MemPlace} (h : DataW.trod enc Tryz.prog W base sp held n 25 [c] = x) (hx : x = some y) : ∃ a, c = .int .u64 a ∧ U a := by
  rw [hx] at h
  obtain ⟨b, e, _, wf⟩ := DataW.trod_int Tryz.underlying25 h
  exact ⟨b, by simpa using e, U.of wf⟩
theorem zgv {c : Value} {x : Option (DataW H × List MemPlace)} {y : DataW H × List MemPlace} (h : DataW.trod enc Tryz.prog W base sp held n 3 [c] = x) (hx : x = some y) : ∃ a, c = .int .i64 a ∧ (-9223372036854775808 ≤ a ∧ a ≤ 9223372036854775807) := by
  rw [hx] at h
  obtain ⟨b, e, _, wf⟩ := DataW.trod_int Tryz.underlying3 h
  refine ⟨b, by simpa using e, ?_⟩
  simp [Lit.wf, IntKind.min, IntKind.max, IntKind.bits, IntKind.signed] at wf; omega
theorem zd3 {α : Type} {xs : List α} {m i : Nat} (h : xs.length = m) (hi : i < m) : ∃ y, xs[i]? = some y := ⟨xs[i]'(by omega), List.getElem?_eq_getElem _⟩
end
end Go.Proofs.YtmkjfeamgknpfaaGreatDoor.Open
namespace Go.Proofs.YtmkjfeamgknpfaaGreatDoor.Laid
open Go.ChangeShapes Go.WideShapes Go.ChangeAt Go.RowKit Ax OkS LaC LaB Bv Base SpA LkF LkG MemL
set_option maxRecDepth 10000
def laidS : List (String × DataW Unit) := [("atlas/va.sizes", Rows.laid_atlas_va_sizes), ("math/bits.deBruijn64tab", Rows.laid_math_bits_deBruijn64tab), ("atlas/fence.asks", Rows.laid_atlas_fence_asks)]
theorem g_sizes : Tryz.prog.globalNamed "atlas/va.sizes" = some 0 := by kernel_rfl
theorem g_tab : Tryz.prog.globalNamed "math/bits.deBruijn64tab" = some 1 := by kernel_rfl
theorem g_asks : Tryz.prog.globalNamed "atlas/fence.asks" = some 2 := by kernel_rfl
theorem t_sizes : (Tryz.prog.globals[0]?).map (·.type) = some 192 := by kernel_rfl
theorem t_tab : (Tryz.prog.globals[1]?).map (·.type) = some 225 := by kernel_rfl
theorem t_asks : (Tryz.prog.globals[2]?).map (·.type) = some 244 := by kernel_rfl
theorem gg_of_laid {W : World} (h : laidMetH Tryz.prog laidS W) : GG W := by
  have hp := (show laidMet Tryz.prog _ W ∧ handlesMet Tryz.prog _ W from h).1
  obtain ⟨ps, ⟨g1, t1, cs1, f1, p1, q1, hg1, ht1, hv1, hd1, hr, _⟩, _, _⟩ := hp
  obtain ⟨g2, t2, cs2, f2, p2, q2, hg2, ht2, hv2, hd2, _, _⟩ := hr
  obtain rfl := Option.some.inj (g_sizes.symm.trans hg1)
  obtain rfl := Option.some.inj (t_sizes.symm.trans ht1)
  obtain rfl := Option.some.inj (g_tab.symm.trans hg2)
  obtain rfl := Option.some.inj (t_tab.symm.trans ht2)
  have e1 := Lib.cells_of_tab (k := .u64) (zs := [4096, 2097152, 1073741824]) Tryz.underlying192 Tryz.underlying25 (by kernel_rfl) (by kernel_rfl) hd1
  have e2 := Lib.cells_of_tab (k := .u8) (zs := List.map (fun n : Nat => (n : Int)) Lib.deBruijn64tab) Tryz.underlying225 Tryz.underlying5 (by kernel_rfl) (by kernel_rfl) hd2
  obtain ⟨g, t, cs, fuel, p, hg, ht, hv, hd⟩ := h.funcs (n := "atlas/fence.asks") (List.mem_cons_of_mem _ (List.mem_cons_of_mem _ (List.mem_cons_self ..)))
  obtain rfl := Option.some.inj (g_asks.symm.trans hg)
  obtain rfl := Option.some.inj (t_asks.symm.trans ht)
  have hd' : DataW.trod (funcToken Tryz.prog) Tryz.prog W 0 (fun _ => true) true fuel 244 cs.toList = some (.slice [.held [40, 97, 116, 108, 97, 115, 47, 102, 101, 110, 99, 101, 46, 102, 111, 114, 109, 41, 46, 97, 100, 100, 114], .held [40, 97, 116, 108, 97, 115, 47, 102, 101, 110, 99, 101, 46, 102, 111, 114, 109, 41, 46, 97, 115, 105, 100]] [], p) := hd
  obtain ⟨a, cap, hcs, _, hel⟩ := open_row Tryz.underlying244 (by kernel_rfl) hd'
  obtain ⟨v0, n0, q0, hc0, hr0⟩ := hel 0 _ rfl
  obtain ⟨v1, n1, q1', hc1, hr1⟩ := hel 1 _ rfl
  obtain rfl := func_of_trod (f0 := 220) Tryz.underlying245 (by kernel_rfl) hr0
  obtain rfl := func_of_trod (f0 := 222) Tryz.underlying245 (by kernel_rfl) hr1
  obtain ⟨b, off, spot⟩ := a
  have hspot : spot = none := by simpa [Addr.add] using World.cell?_spot hc0
  subst hspot
  have c1 : ∀ i, W.cell? ⟨0, i, none⟩ = cs1[i]? := fun i => by simpa using World.var?_cell hg1 hv1 i
  have c2 : ∀ i, W.cell? ⟨1, i, none⟩ = cs2[i]? := fun i => by simpa using World.var?_cell hg2 hv2 i
  have c3 : ∀ i, W.cell? ⟨2, i, none⟩ = cs[i]? := fun i => by simpa using World.var?_cell hg hv i
  refine ⟨⟨?_, ?_, ?_⟩, fun j hj => ?_, b, off, cap, ?_, by simpa [Addr.add, z1o] using hc0, by simpa [Addr.add, z1o] using hc1⟩
  · rw [c1, ← Array.getElem?_toList, e1]; rfl
  · rw [c1, ← Array.getElem?_toList, e1]; rfl
  · rw [c1, ← Array.getElem?_toList, e1]; rfl
  · rw [c2, ← Array.getElem?_toList, e2]
    simp [List.getD, hj]
  · rw [c3, ← Array.getElem?_toList, hcs]; rfl
section
variable {H : Type} {enc : TypeId × Value → H} {W : World} {base b0 : Nat} {sp : Nat → Bool} {held : Bool} {n : Nat} {r : Reach}
theorem open_conf {v : Value} {d : DataW H} {p : List MemPlace} (hv : Value.okWide Tryz.prog W r b0 23 v) (h : DataW.Trod enc Tryz.prog W base sp held 23 v d p) :
    ∃ x0 x1 x2 x3, v = .agg #[.int .i64 x0, .int .i64 x1, .int .i64 x2, .int .i64 x3] := by
  obtain ⟨⟨l⟩, rfl, hsz⟩ := okWide_struct Tryz.underlying23 hv
  rw [show Tryz.prog.cellsOf 23 = 4 by kernel_rfl] at hsz
  obtain ⟨fuel, hf⟩ := h
  obtain ⟨xs, n, _, _, _, hlen, hfd⟩ := DataW.trod_struct Tryz.underlying23 hf
  match l, hsz with
  | [c0, c1, c2, c3], _ =>
    have g := fun i f (e : _ = some f) => hfd i f e
    have k4 : Tryz.prog.cellsOf 3 = 1 := by kernel_rfl
    have hl : xs.length = 4 := hlen
    have h0 : DataW.trod enc Tryz.prog W base sp held n 3 [c0] = xs[0]? := by have := g 0 _ rfl; simpa [Value.cells, k4] using this
    obtain ⟨y0, q0⟩ := Open.zd3 hl (show 0 < 4 by decide)
    obtain ⟨x0, rfl, _⟩ := Open.zgv (c := c0) h0 q0
    have h1 : DataW.trod enc Tryz.prog W base sp held n 3 [c1] = xs[1]? := by have := g 1 _ rfl; simpa [Value.cells, k4] using this
    obtain ⟨y1, q1⟩ := Open.zd3 hl (show 1 < 4 by decide)
    obtain ⟨x1, rfl, _⟩ := Open.zgv (c := c1) h1 q1
    have h2 : DataW.trod enc Tryz.prog W base sp held n 3 [c2] = xs[2]? := by have := g 2 _ rfl; simpa [Value.cells, k4] using this
    obtain ⟨y2, q2⟩ := Open.zd3 hl (show 2 < 4 by decide)
    obtain ⟨x2, rfl, _⟩ := Open.zgv (c := c2) h2 q2
    have h3 : DataW.trod enc Tryz.prog W base sp held n 3 [c3] = xs[3]? := by have := g 3 _ rfl; simpa [Value.cells, k4] using this
    obtain ⟨y3, q3⟩ := Open.zd3 hl (show 3 < 4 by decide)
    obtain ⟨x3, rfl, _⟩ := Open.zgv (c := c3) h3 q3
    exact ⟨x0, x1, x2, x3, rfl⟩
theorem addk (b off k : Nat) : (⟨b, off, none⟩ : Addr).add k = ⟨b, off + k, none⟩ := by
  unfold Addr.add; split
  · rename_i h; subst h; rfl
  · rfl
theorem zyc {cs : List Value} {y : DataW H × List MemPlace} (hsz : cs.length = 9) (hf : DataW.trod enc Tryz.prog W base sp held n 54 cs = some y) : ∃ q : Dd, cs = q.vs ∧ UD q := by
  obtain ⟨xs, n, _, _, _, hlen, hfd⟩ := DataW.trod_struct Tryz.underlying54 hf
  match cs, hsz with
  | [c0, c1, c2, c3, c4, c5, c6, c7, c8], _ =>
    have g := fun i f (e : _ = some f) => hfd i f e
    have k_int : Tryz.prog.cellsOf 3 = 1 := by kernel_rfl
    have k_u64 : Tryz.prog.cellsOf 25 = 1 := by kernel_rfl
    have k_bool : Tryz.prog.cellsOf 4 = 1 := by kernel_rfl
    have k_perm : Tryz.prog.cellsOf 52 = 4 := by kernel_rfl
    have hl : xs.length = 6 := hlen
    have h0 : DataW.trod enc Tryz.prog W base sp held n 4 [c0] = xs[0]? := by have := g 0 _ rfl; simpa [Value.cells, k_int, k_u64, k_bool, k_perm] using this
    obtain ⟨y0, q0⟩ := Open.zd3 hl (show 0 < 6 by decide)
    obtain ⟨x0, rfl⟩ := Open.zgk (c := c0) h0 q0
    have h1 : DataW.trod enc Tryz.prog W base sp held n 3 [c1] = xs[1]? := by have := g 1 _ rfl; simpa [Value.cells, k_int, k_u64, k_bool, k_perm] using this
    obtain ⟨y1, q1⟩ := Open.zd3 hl (show 1 < 6 by decide)
    obtain ⟨x1, rfl, _⟩ := Open.zgv (c := c1) h1 q1
    have h2 : DataW.trod enc Tryz.prog W base sp held n 25 [c2] = xs[2]? := by have := g 2 _ rfl; simpa [Value.cells, k_int, k_u64, k_bool, k_perm] using this
    obtain ⟨y2, q2⟩ := Open.zd3 hl (show 2 < 6 by decide)
    obtain ⟨x2, rfl, u2⟩ := Open.zr6 (c := c2) h2 q2
    have h3 : DataW.trod enc Tryz.prog W base sp held n 25 [c3] = xs[3]? := by have := g 3 _ rfl; simpa [Value.cells, k_int, k_u64, k_bool, k_perm] using this
    obtain ⟨y3, q3⟩ := Open.zd3 hl (show 3 < 6 by decide)
    obtain ⟨x3, rfl, u3⟩ := Open.zr6 (c := c3) h3 q3
    have h4 : DataW.trod enc Tryz.prog W base sp held n 3 [c4] = xs[4]? := by have := g 4 _ rfl; simpa [Value.cells, k_int, k_u64, k_bool, k_perm] using this
    obtain ⟨y4, q4⟩ := Open.zd3 hl (show 4 < 6 by decide)
    obtain ⟨x4, rfl, _⟩ := Open.zgv (c := c4) h4 q4
    have h5 : DataW.trod enc Tryz.prog W base sp held n 52 [c5, c6, c7, c8] = xs[5]? := by have := g 5 _ rfl; simpa [Value.cells, k_int, k_u64, k_bool, k_perm] using this
    obtain ⟨y5, q5⟩ := Open.zd3 hl (show 5 < 6 by decide)
    rw [q5] at h5
    obtain ⟨zs, m, _, _, _, hlen2, hfd2⟩ := DataW.trod_struct Tryz.underlying52 h5
    have g2 := fun i f (e : _ = some f) => hfd2 i f e
    have hl2 : zs.length = 4 := hlen2
    have p0 : DataW.trod enc Tryz.prog W base sp held m 4 [c5] = zs[0]? := by have := g2 0 _ rfl; simpa [Value.cells, k_bool] using this
    obtain ⟨z0, w0⟩ := Open.zd3 hl2 (show 0 < 4 by decide)
    obtain ⟨b0, rfl⟩ := Open.zgk (c := c5) p0 w0
    have p1 : DataW.trod enc Tryz.prog W base sp held m 4 [c6] = zs[1]? := by have := g2 1 _ rfl; simpa [Value.cells, k_bool] using this
    obtain ⟨z1, w1⟩ := Open.zd3 hl2 (show 1 < 4 by decide)
    obtain ⟨b1, rfl⟩ := Open.zgk (c := c6) p1 w1
    have p2 : DataW.trod enc Tryz.prog W base sp held m 4 [c7] = zs[2]? := by have := g2 2 _ rfl; simpa [Value.cells, k_bool] using this
    obtain ⟨z2, w2⟩ := Open.zd3 hl2 (show 2 < 4 by decide)
    obtain ⟨b2, rfl⟩ := Open.zgk (c := c7) p2 w2
    have p3 : DataW.trod enc Tryz.prog W base sp held m 4 [c8] = zs[3]? := by have := g2 3 _ rfl; simpa [Value.cells, k_bool] using this
    obtain ⟨z3, w3⟩ := Open.zd3 hl2 (show 3 < 4 by decide)
    obtain ⟨b3, rfl⟩ := Open.zgk (c := c8) p3 w3
    exact ⟨⟨x0, x1, x2, x3, x4, ⟨b0, b1, b2, b3⟩⟩, rfl, u2, u3⟩
theorem zyd (l : List Dd) : (zyb l).length = l.length * 9 := by
  induction l with
  | nil => rfl
  | cons c l ih => show ((_ :: _ :: _ :: _ :: _ :: _ :: _ :: _ :: _ :: zyb l).length) = _; simp only [List.length_cons, ih]; omega
theorem zr7 : ∀ (l : List Dd) (i j : Nat) (q : Dd), l[i]? = some q → j < 9 → (zyb l)[i * 9 + j]? = q.vs[j]?
  | [], i, j, q, h, _ => by simp at h
  | x :: l, 0, j, q, h, hj => by
    simp at h; subst h
    show (x.vs ++ zyb l)[0 * 9 + j]? = _
    rw [Nat.zero_mul, Nat.zero_add, List.getElem?_append_left (by show j < 9; exact hj)]
  | x :: l, i + 1, j, q, h, hj => by
    have := zr7 l i j q (by simpa using h) hj
    show (x.vs ++ zyb l)[(i + 1) * 9 + j]? = _
    rw [List.getElem?_append_right (by show 9 ≤ _; omega), show (i + 1) * 9 + j - x.vs.length = i * 9 + j by show (i + 1) * 9 + j - 9 = _; omega]
    exact this
theorem open_dds {v : Value} {d : DataW H} {p : List MemPlace} (hv : Value.okWide Tryz.prog W r b0 24 v) (h : DataW.Trod enc Tryz.prog W base (fun _ => true) held 24 v d p) :
    ∃ l : List Dd, (∀ x ∈ l, UD x) ∧ Ce.R (en0 (fun _ => True) W) (.s l.length 9 (zyb l)) v := by
  obtain ⟨a, len, cap, rfl⟩ := okWide_slice Tryz.underlying24 hv
  obtain ⟨fuel, hf⟩ := h
  have hf : DataW.trod enc Tryz.prog W base (fun _ => true) held fuel 24 [.slice a len cap] = some (d, p) := hf
  have ke : Tryz.prog.cellsOf 54 = 9 := by kernel_rfl
  rcases Deep.open_slice Tryz.underlying24 hf with ⟨e, _⟩ | ⟨a', len', cap', m, k, D, Pl, e, _, hl, hm, hmm, _, hx⟩
  · simp only [List.cons.injEq, and_true] at e
    refine ⟨[], fun x hx => (by cases hx), ?_⟩
    rw [e]
    exact ⟨⟨rfl, .inl ⟨rfl, rfl⟩⟩, fun a l c e => by cases e⟩
  · simp only [List.cons.injEq, and_true, Value.slice.injEq] at e
    obtain ⟨rfl, rfl, rfl⟩ := e
    have hok : Cell.ok Tryz.prog W r b0 24 (.slice (some a') len cap) := by
      have hv := hv
      unfold Value.okWide at hv
      rw [Tryz.underlying24] at hv
      unfold Cell.okWide at hv
      rw [Tryz.underlying24] at hv
      exact hv
    unfold Cell.ok at hok
    rw [Tryz.underlying24] at hok
    obtain ⟨_, _, _, hsp, row, cells, hsh, _⟩ := hok
    obtain ⟨b, off, spot⟩ := a'
    have hsp : spot = none := hsp
    subst hsp
    have hb : b < W.heap.size := by
      rcases Nat.lt_or_ge b W.heap.size with h | h
      · exact h
      · have hsh : W.shape? b = some (row, cells) := hsh
        unfold World.shape? at hsh
        rw [Array.getElem?_eq_none h] at hsh
        cases hsh
    have ku : ∀ i, i < len → ∃ q : Dd, (∀ j, j < 9 → W.cell? ⟨b, off + (i * 9 + j), none⟩ = q.vs[j]?) ∧ UD q := fun i hi => by
      obtain ⟨cs, g1, g2⟩ := hx i (by rw [hmm]; simp; omega)
      rw [ke] at g1
      obtain ⟨_, hlen, hcell⟩ := World.cells?_some g1
      obtain ⟨q, rfl, hq⟩ := zyc hlen g2
      refine ⟨q, fun j hj => ?_, hq⟩
      have e0 := hcell j (by omega)
      rw [addk, addk] at e0
      rw [← e0, Nat.add_assoc]
    haveI : Inhabited Dd := ⟨⟨false, 0, 0, 0, 0, ⟨false, false, false, false⟩⟩⟩
    obtain ⟨f, hf⟩ := Deep.choose_lt (α := Dd) (p := fun i q => (∀ j, j < 9 → W.cell? ⟨b, off + (i * 9 + j), none⟩ = q.vs[j]?) ∧ UD q) ku
    have hlen : ((List.range len).map f).length = len := by simp
    refine ⟨(List.range len).map f, fun x hx => ?_, ⟨by rw [zyd], .inr ⟨b, off, cap, by rw [hlen], hb, by rw [hlen]; exact hl, hm, fun i hi => ?_⟩⟩, fun _ _ _ _ => trivial⟩
    · obtain ⟨i, hi, rfl⟩ := List.mem_map.1 hx
      exact (hf i (List.mem_range.1 hi)).2
    · rw [hlen] at hi
      have hi2 : i / 9 < len := by omega
      obtain ⟨e0, _⟩ := hf (i / 9) hi2
      have hg := zr7 ((List.range len).map f) (i / 9) (i % 9) (f (i / 9)) (by simp [hi2]) (by omega)
      have e1 := e0 (i % 9) (by omega)
      rw [show i / 9 * 9 + i % 9 = i by omega] at hg e1
      rw [hg]; exact e1
theorem u64_of {a : Int} (wf : (Lit.int .u64 a).wf = true) : U a := by
  simp [Lit.wf, IntKind.min, IntKind.max, IntKind.bits, IntKind.signed] at wf; exact ⟨by omega, by omega⟩
end
end Go.Proofs.YtmkjfeamgknpfaaGreatDoor.Laid
