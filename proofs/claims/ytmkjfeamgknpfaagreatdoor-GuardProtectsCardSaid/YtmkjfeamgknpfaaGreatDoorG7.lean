/- Texts of this claim, one behind the other: LmG, LaI, LmH, LaJ, LmI, Open, Laid. -/
import Derived.Test.YtmkjfeamgknpfaaGreatDoorG6
import Derived.Test.YtmkjfeamgknpfaaGreatDoorG5
import Derived.Test.YtmkjfeamgknpfaaGreatDoorG2
import Derived.ProofKit
import Derived.Carry
import Derived.ChangeOld
import Derived.ChangeArms
import Derived.WideShapes
import Derived.Test.YtmkjfeamgknpfaaGreatDoorRows
import Derived.LaidMore
import Derived.Lib.LaidTab
import Derived.SevenTiedAt
import Derived.LaidHandle
import Derived.Deep.SlicePairs
set_option linter.unusedVariables false
set_option linter.unusedSimpArgs false
namespace Go.Proofs.YtmkjfeamgknpfaaGreatDoor.LmG
open Go.RowKit Bv VaSpec Base MemL RegR Ax MemC PutC MemC3 TzC OkS SpA SpB SpC SpF SpH SpI SpJ LaA LaB LaC LaD LaE LaF LaG LiA LiB LiC LiD LiE LiF SpD SpE SpG SpK SpN SpO RfD RlA RlB RlC LrA LrB LrC LjA LjB LjC LjF LkD LkE LmA LmB LmC LmD LmE LmF
open BitsC PteSpec
set_option maxRecDepth 10000
set_option maxHeartbeats 4000000
attribute [local irreducible] Ax.zb0
theorem zdl {n : Nat} {k : Kr} (h : InvT n k) (hn : n ≤ 88000) (id a l : Int) (p : Pm) (ha : U a) : Ok 29 [.ag k.ce, ii id, iu a, ii l, .ag [cb p.r, cb p.w, cb p.x, cb p.u]] (.tu [.ag (prR k id a l p).1.ce, ii (prR k id a l p).2]) := by
  have hw := ziu k id a l ha
  have hin := z0q h (by omega) id a l ha
  have hmay : Ok 64 [.ag [cb p.r, cb p.w, cb p.x, cb p.u]] (.m (ib (zc2 p))) := zwd p
  obtain ⟨R, hR⟩ : ∃ R, R = prR k id a l p := ⟨_, rfl⟩
  rw [← hR]
  unfold prR at hR
  by_cases c0 : (zas k id a l).2.2 ≠ 0
  · rw [if_pos c0] at hR
    generalize zas k id a l = w at *
    subst hR
    refine zad 89 Tryz.func29 rfl rfl rfl rfl ?_ GG.to
    intro W A hG
    repeat (first | (refine zaj rfl ?_; first | refine zak ?_ | refine gdr (zaa rfl rfl rfl (hw) (by kernel_rfl)) ?_) | (refine hK _ ?_; clear hK K) | refine zac rfl ?_ | exact zah (show zar _ _ _ = some _ by kernel_rfl) | refine zaf rfl rfl ?_ | refine zag ?_ | refine zab (fun K hK => ?_))
  rw [if_neg c0] at hR
  replace c0 : (zas k id a l).2.2 = 0 := by omega
  obtain ⟨lv, hT, hs, hr⟩ := h.t
  obtain ⟨w1, w2, w3, w4⟩ := zbt (id := id) (a := a) (l := l) h.l c0
  obtain ⟨z1, z2⟩ := h.top (a := a) (id := id) (l := l) c0 hs hr
  have hlive : id = -1 ∨ (id ≠ -1 ∧ zbd k id = true) := by
    rcases zfy h.l c0 with ⟨_, _, e⟩ | ⟨e1, e2, _⟩
    · exact .inl e
    · exact .inr ⟨e2, e1⟩
  have hlev := zsx h c0
  have hlf := z27 h c0
  have hfb0 := zkf (zd5 c0)
  have hbm := zm9 w1 (zd5 c0)
  rw [c0] at hw
  generalize (zas k id a l).1 = top at *
  generalize (zas k id a l).2.1 = lw at *
  have b1 := hT.bd
  have b2 := hT.bp
  have bt := w2.1
  have hml := h.l.ml
  have hfl := h.l.fl
  have hpb := h.l.pb
  have hpm := h.l.pm
  by_cases cp : zc2 p = false
  · rw [if_pos cp] at hR
    rw [cp] at hmay
    subst hR
    refine zad 89 Tryz.func29 rfl rfl rfl rfl ?_ GG.to
    intro W A hG
    repeat (first | (refine zaj rfl ?_; first | refine zak ?_ | refine gdr (zaa rfl rfl rfl (hw) (by kernel_rfl)) ?_ | refine gdr (zaa rfl rfl rfl (hmay) (by kernel_rfl)) ?_) | (refine hK _ ?_; clear hK K) | refine zac rfl ?_ | exact zah (show zar _ _ _ = some _ by kernel_rfl) | refine zaf rfl rfl ?_ | refine zae rfl rfl ?_ | refine zag ?_ | refine zab (fun K hK => ?_))
  rw [if_neg cp] at hR
  replace cp : zc2 p = true := by simpa using cp
  rw [cp] at hmay
  by_cases c1 : (inR k id a l).length = 0
  · rw [if_pos c1] at hR
    rw [List.length_eq_zero_iff.1 c1] at hin
    clear c1
    subst hR
    refine zad 89 Tryz.func29 rfl rfl rfl rfl ?_ GG.to
    intro W A hG
    repeat (first | (refine zaj rfl ?_; first | refine zak ?_ | refine gdr (zaa rfl rfl rfl (hw) (by kernel_rfl)) ?_ | refine gdr (zaa rfl rfl rfl (hmay) (by kernel_rfl)) ?_ | refine gdr (zaa rfl rfl rfl (hin) (by kernel_rfl)) ?_) | (refine hK _ ?_; clear hK K) | refine zac rfl ?_ | exact zah (show zar _ _ _ = some _ by kernel_rfl) | refine zaf rfl rfl ?_ | refine zae rfl rfl ?_ | refine zag ?_ | refine zab (fun K hK => ?_))
  rw [if_neg c1] at hR
  replace hlev := hlev c1
  replace hlf := hlf c1
  generalize inR k id a l = IL at *
  obtain ⟨m, rfl⟩ := Int.eq_ofNat_of_zero_le (show 0 ≤ lw by omega)
  unfold zbs at hlf
  rw [Int.toNat_natCast] at hlf
  have hto := z42 top a l m k.m k.pf lv hT w2 h.l.sh z1 ha (by omega) w1.1 w3 (by omega) _ rfl
  have htl := zz0 a l top m w1.1 w3 (by omega) m k.m k.pf lv hT w2 h.l.sh z1 hlf
  obtain ⟨lv', P⟩ := zq1 a l top m w1.1 w3 (by omega) m k.m k.pf lv hT w2 h.l.sh z1
  unfold unT at hR hlev
  rw [Int.toNat_natCast] at hR hlev
  generalize toN k.sz k.cd a l top m m k.m k.pf = T at *
  obtain ⟨xs, f, ⟨t, lt⟩, e⟩ := T
  obtain ⟨l', e1, e2, e3, e4, e5⟩ := P.p
  replace e1 : lt = (l' : Int) := e1
  subst e1
  have y4 : Al k.cd k.cp f t := e4
  have y5 : lv' t = (l' : Int) := e5
  by_cases c5 : e ≠ 0
  · rw [if_pos c5] at hR
    rw [if_neg (show ¬ (xs, f, (t, (l' : Int)), e).2.2.2 = 0 from c5)] at hto
    replace hto : Ok 49 [za6 k.sz k.m, .ag [cu k.cd, ci k.cp, cu k.pf], iu top, ii m, iu a, ii l] (.tu [za6 k.sz k.m, .ag [cu k.cd, ci k.cp, cu k.pf], .ag (za3 0 0 zP), ii e]) := hto
    rw [← hpb, ← hpm] at hto
    replace hR : R = (k, e) := hR
    subst hR
    refine zad 89 Tryz.func29 rfl rfl rfl rfl ?_ GG.to
    intro W A hG
    repeat (first | (refine zaj rfl ?_; first | refine zak ?_ | refine gdr (zaa rfl rfl rfl (hw) (by kernel_rfl)) ?_ | refine gdr (zaa rfl rfl rfl (hmay) (by kernel_rfl)) ?_ | refine gdr (zaa rfl rfl rfl (hin) (by kernel_rfl)) ?_ | refine gdr (zaa rfl rfl rfl (hto) (by kernel_rfl)) ?_) | (refine hK _ ?_; clear hK K) | refine zac rfl ?_ | exact zah (show zar _ _ _ = some _ by kernel_rfl) | refine zaf rfl rfl ?_ | refine zae rfl rfl ?_ | refine zag ?_ | refine zai ?_ | refine zab (fun K hK => ?_))
  rw [if_neg c5] at hR
  obtain rfl : e = 0 := by omega
  have hll : (l' : Int) = l := hlev rfl
  replace htl : za2 (atM k.sz xs t (idx a (l' : Int))) = true ∨ lkP (atM k.sz xs t (idx a (l' : Int))) = true := htl rfl
  clear hlev hlf
  rw [if_pos (show (xs, f, (t, (l' : Int)), (0 : Int)).2.2.2 = 0 from rfl)] at hto
  replace hto : Ok 49 [za6 k.sz k.m, .ag [cu k.cd, ci k.cp, cu k.pf], iu top, ii m, iu a, ii l] (.tu [za6 k.sz xs, .ag [cu k.cd, ci k.cp, cu f], .ag (za3 t (l' : Int) (atM k.sz xs t (idx a (l' : Int)))), ii 0]) := hto
  have hPt : TI k.cd k.cp k.sz xs f k.sh lv' := P.t
  have hi := idx_bd a (l' : Int)
  have hxl : xs.length ≤ k.m.length + 513 * m := P.n
  have hqp := zch (xs := xs) k.sz t (idx a (l' : Int))
  have hbl : VaSpec.base a (l' : Int) = a := by rw [hll]; exact hfb0
  have hub := ziz k.sz xs (l' : Int) (atM k.sz xs t (idx a (l' : Int))) a ha (by omega)
  replace hR : R = (zda { k with m := prM k.sz (xs, f, (t, (l' : Int)), (0 : Int)) a p, pf := f } (zdp k id (zbm (zax k.sz xs (l' : Int) (atM k.sz xs t (idx a (l' : Int))) a) p)), 0) := hR
  have hpr : prM k.sz (xs, f, (t, (l' : Int)), (0 : Int)) a p = if za2 (atM k.sz xs t (idx a (l' : Int))) then zln k.sz xs t (idx a (l' : Int)) p else zne k.sz ((l' : Int) - 1).toNat (atM k.sz xs t (idx a (l' : Int))).ppn p (zbg k.sz xs ((l' : Int) - 1).toNat (atM k.sz xs t (idx a (l' : Int))).ppn a) xs := rfl
  have hls := zhi (zax k.sz xs (l' : Int) (atM k.sz xs t (idx a (l' : Int))) a) p (by omega)
  have hlen : (zbm (zax k.sz xs (l' : Int) (atM k.sz xs t (idx a (l' : Int))) a) p).length ≤ 262144 := Nat.le_trans (List.length_filter_le ..) hub.1
  have hfb := zgb k id (zbm (zax k.sz xs (l' : Int) (atM k.sz xs t (idx a (l' : Int))) a) p)
  have hfU := zsw k id (zbm (zax k.sz xs (l' : Int) (atM k.sz xs t (idx a (l' : Int))) a) p) (fun y hy => hub.2 y (List.mem_filter.1 hy).1)
  have hfe : ∀ m4, Ok 17 [.ag ({ k with m := m4, pf := f } : Kr).ce, ii id, .c (.s (zbm (zax k.sz xs (l' : Int) (atM k.sz xs t (idx a (l' : Int))) a) p).length 8 (flP (zbm (zax k.sz xs (l' : Int) (atM k.sz xs t (idx a (l' : Int))) a) p)))] (.m (.c (.s (zdp k id (zbm (zax k.sz xs (l' : Int) (atM k.sz xs t (idx a (l' : Int))) a) p)).length 4 (flF (zdp k id (zbm (zax k.sz xs (l' : Int) (atM k.sz xs t (idx a (l' : Int))) a) p)))))) := fun m4 => by
    rcases hlive with e | ⟨e, e'⟩
    · exact zxi { k with m := m4, pf := f } id _ e (by omega)
    · exact zxj { k with m := m4, pf := f } id _ e e' (by omega)
  have hsf := fun m4 => zju { k with m := m4, pf := f } h.l.ts h.l.cs.2 (zdp k id (zbm (zax k.sz xs (l' : Int) (atM k.sz xs t (idx a (l' : Int))) a) p)) hfU (by omega) (by show k.fs.length ≤ _; omega)
  rcases htl with h1 | h1
  · rw [if_pos h1] at hpr
    have hPL : zax k.sz xs (l' : Int) (atM k.sz xs t (idx a (l' : Int))) a = [⟨VaSpec.base a (l' : Int), (atM k.sz xs t (idx a (l' : Int))).ppn * 4096, (l' : Int), (atM k.sz xs t (idx a (l' : Int))).r, (atM k.sz xs t (idx a (l' : Int))).w, (atM k.sz xs t (idx a (l' : Int))).x, (atM k.sz xs t (idx a (l' : Int))).u, (atM k.sz xs t (idx a (l' : Int))).d⟩] := by unfold zax; rw [if_pos h1, hbl]
    have hun := zxs hPt (by omega) (t := t) ha cp (l' : Int) (by omega) (by omega) h1 _ rfl _ rfl
    rw [← hpr] at hun
    replace hun : zbv Tryz.prog GG 65 [(2000, pcC k.sz xs p, pcC k.sz (prM k.sz (xs, f, (t, (l' : Int)), (0 : Int)) a p) p)] [.c (.p 2000 0), .ag (za3 t (l' : Int) (atM k.sz xs t (idx a (l' : Int)))), iu a] (.m (.c (.s (zax k.sz xs (l' : Int) (atM k.sz xs t (idx a (l' : Int))) a).length 8 (flP (zax k.sz xs (l' : Int) (atM k.sz xs t (idx a (l' : Int))) a))))) := by rw [hPL]; exact hun
    clear hPL
    clear hpr hub hfb hfU hlen
    generalize prM k.sz (xs, f, (t, (l' : Int)), (0 : Int)) a p = m4 at *
    generalize zdp k id (zbm (zax k.sz xs (l' : Int) (atM k.sz xs t (idx a (l' : Int))) a) p) = FL at *
    generalize zbm (zax k.sz xs (l' : Int) (atM k.sz xs t (idx a (l' : Int))) a) p = LL at *
    generalize zax k.sz xs (l' : Int) (atM k.sz xs t (idx a (l' : Int))) a = PL at *
    generalize atM k.sz xs t (idx a (l' : Int)) = q at *
    rw [← hpb, ← hpm] at hto
    replace hfe := hfe m4
    replace hsf := hsf m4
    subst hR
    refine zad 89 Tryz.func29 rfl rfl rfl rfl ?_ GG.to
    intro W A hG
    repeat (first | (refine zaj rfl ?_; first | refine zak ?_ | refine gdr (zaa rfl rfl rfl (hw) (by kernel_rfl)) ?_ | refine gdr (zaa rfl rfl rfl (hmay) (by kernel_rfl)) ?_ | refine gdr (zaa rfl rfl rfl (hin) (by kernel_rfl)) ?_ | refine gdr (zaa rfl rfl rfl (hto) (by kernel_rfl)) ?_ | refine gdr (zeh (fun _ => 69) hun rfl rfl (by kernel_rfl) rfl ⟨rfl, trivial⟩ (by kernel_rfl)) ?_ | refine gdr (zaa rfl rfl rfl (hls) (by kernel_rfl)) ?_ | refine gdr (zaa rfl rfl rfl (hfe) (by kernel_rfl)) ?_ | refine gdr (zaa rfl rfl rfl (hsf) (by kernel_rfl)) ?_) | (refine hK _ ?_; clear hK K) | refine zac rfl ?_ | refine zam (by kernel_rfl) (by kernel_rfl) rfl ?_ | exact zah (show zar _ _ _ = some _ by kernel_rfl) | refine zae rfl rfl ?_ | refine zag ?_ | refine zai ?_ | refine zab (fun K hK => ?_))
  · obtain ⟨k1, k2, k3, k4⟩ := zig hPt hi h1
    have hnl : za2 (atM k.sz xs t (idx a (l' : Int))) = false := (zco h1).2.2
    have hkl : zbc (atM k.sz xs t (idx a (l' : Int))) = true := (zco h1).1
    obtain ⟨mm, rfl⟩ : ∃ mm : Nat, l' = mm + 1 := ⟨l' - 1, by omega⟩
    have e9 : (((mm + 1 : Nat) : Int) - 1).toNat = mm := by omega
    rw [if_neg (by rw [hnl]; simp), e9] at hpr
    have hPL : zax k.sz xs ((mm + 1 : Nat) : Int) (atM k.sz xs t (idx a ((mm + 1 : Nat) : Int))) a = zbg k.sz xs mm (atM k.sz xs t (idx a ((mm + 1 : Nat) : Int))).ppn a := by unfold zax; rw [if_neg (by rw [hnl]; simp), if_pos hkl, e9]
    have hbm2 : m39 a % (512 * VaSpec.sz (mm : Int)) = 0 := zxu (by omega) (by rw [hll]; exact hbm)
    have hpg : Ok 58 [za6 k.sz xs, iu (atM k.sz xs t (idx a ((mm + 1 : Nat) : Int))).ppn, ii mm, iu a] (.m (.c (.s (zax k.sz xs ((mm + 1 : Nat) : Int) (atM k.sz xs t (idx a ((mm + 1 : Nat) : Int))) a).length 8 (flP (zax k.sz xs ((mm + 1 : Nat) : Int) (atM k.sz xs t (idx a ((mm + 1 : Nat) : Int))) a))))) := by
      rw [hPL]
      rcases (by omega : mm = 0 ∨ mm = 1) with rfl | rfl
      · exact zqm k.sz xs hPt.s hPt.u _ _ hqp ha
      · exact zmt k.sz xs hPt.s hPt.u _ _ hqp ha
    have k5 : lv' (atM k.sz xs t (idx a ((mm + 1 : Nat) : Int))).ppn = (mm : Int) := by rw [k3, y5]; omega
    have hun := zxt hPt (by omega) (t := t) ha cp mm (by omega) (atM k.sz xs t (idx a ((mm + 1 : Nat) : Int))) hqp hnl a hbl.symm ha hbm2 k4 k5 _ hPL (by omega) hub.2 hpg _ rfl
    replace hun : zbv Tryz.prog GG 65 [(2000, pcC k.sz xs p, pcC k.sz (prM k.sz (xs, f, (t, ((mm + 1 : Nat) : Int)), (0 : Int)) a p) p)] [.c (.p 2000 0), .ag (za3 t ((mm + 1 : Nat) : Int) (atM k.sz xs t (idx a ((mm + 1 : Nat) : Int)))), iu a] (.m (.c (.s (zax k.sz xs ((mm + 1 : Nat) : Int) (atM k.sz xs t (idx a ((mm + 1 : Nat) : Int))) a).length 8 (flP (zax k.sz xs ((mm + 1 : Nat) : Int) (atM k.sz xs t (idx a ((mm + 1 : Nat) : Int))) a))))) := by rw [hpr, ← hPL]; exact hun
    clear hPL hpg hnl hkl h1 k1 k2 k3 k4 k5
    clear hpr hub hfb hfU hlen
    generalize prM k.sz (xs, f, (t, ((mm + 1 : Nat) : Int)), (0 : Int)) a p = m4 at *
    generalize zdp k id (zbm (zax k.sz xs ((mm + 1 : Nat) : Int) (atM k.sz xs t (idx a ((mm + 1 : Nat) : Int))) a) p) = FL at *
    generalize zbm (zax k.sz xs ((mm + 1 : Nat) : Int) (atM k.sz xs t (idx a ((mm + 1 : Nat) : Int))) a) p = LL at *
    generalize zax k.sz xs ((mm + 1 : Nat) : Int) (atM k.sz xs t (idx a ((mm + 1 : Nat) : Int))) a = PL at *
    generalize atM k.sz xs t (idx a ((mm + 1 : Nat) : Int)) = q at *
    rw [← hpb, ← hpm] at hto
    replace hfe := hfe m4
    replace hsf := hsf m4
    subst hR
    refine zad 89 Tryz.func29 rfl rfl rfl rfl ?_ GG.to
    intro W A hG
    repeat (first | (refine zaj rfl ?_; first | refine zak ?_ | refine gdr (zaa rfl rfl rfl (hw) (by kernel_rfl)) ?_ | refine gdr (zaa rfl rfl rfl (hmay) (by kernel_rfl)) ?_ | refine gdr (zaa rfl rfl rfl (hin) (by kernel_rfl)) ?_ | refine gdr (zaa rfl rfl rfl (hto) (by kernel_rfl)) ?_ | refine gdr (zeh (fun _ => 69) hun rfl rfl (by kernel_rfl) rfl ⟨rfl, trivial⟩ (by kernel_rfl)) ?_ | refine gdr (zaa rfl rfl rfl (hls) (by kernel_rfl)) ?_ | refine gdr (zaa rfl rfl rfl (hfe) (by kernel_rfl)) ?_ | refine gdr (zaa rfl rfl rfl (hsf) (by kernel_rfl)) ?_) | (refine hK _ ?_; clear hK K) | refine zac rfl ?_ | refine zam (by kernel_rfl) (by kernel_rfl) rfl ?_ | exact zah (show zar _ _ _ = some _ by kernel_rfl) | refine zae rfl rfl ?_ | refine zag ?_ | refine zai ?_ | refine zab (fun K hK => ?_))
theorem zo7 {n : Nat} {k : Kr} (h : InvT n k) (hn : n ≤ 88000) (id a l : Int) (p : Pm) (ha : U a) : Ok 56 [.ag k.ce, ii id, iu a, ii l, .ag [cb p.r, cb p.w, cb p.x, cb p.u]] (.tu [.ag (prR k id a l p).1.ce, ii (prR k id a l p).2]) := by
  have hw := zhe k id a l ha
  have hin := zxh h (by omega) id a l ha
  have hmay : Ok 98 [.ag [cb p.r, cb p.w, cb p.x, cb p.u]] (.m (ib (zc2 p))) := zso p
  obtain ⟨R, hR⟩ : ∃ R, R = prR k id a l p := ⟨_, rfl⟩
  rw [← hR]
  unfold prR at hR
  by_cases c0 : (zas k id a l).2.2 ≠ 0
  · rw [if_pos c0] at hR
    generalize zas k id a l = w at *
    subst hR
    refine zad 83 Tryz.func56 rfl rfl rfl rfl ?_ GG.to
    intro W A hG
    repeat (first | (refine zaj rfl ?_; first | refine zak ?_ | refine gdr (zaa rfl rfl rfl (hw) (by kernel_rfl)) ?_) | (refine hK _ ?_; clear hK K) | refine zac rfl ?_ | exact zah (show zar _ _ _ = some _ by kernel_rfl) | refine zaf rfl rfl ?_ | refine zab (fun K hK => ?_))
  rw [if_neg c0] at hR
  replace c0 : (zas k id a l).2.2 = 0 := by omega
  obtain ⟨lv, hT, hs, hr⟩ := h.t
  obtain ⟨w1, w2, w3, w4⟩ := zbt (id := id) (a := a) (l := l) h.l c0
  obtain ⟨z1, z2⟩ := h.top (a := a) (id := id) (l := l) c0 hs hr
  have hlive : id = -1 ∨ (id ≠ -1 ∧ zbd k id = true) := by
    rcases zfy h.l c0 with ⟨_, _, e⟩ | ⟨e1, e2, _⟩
    · exact .inl e
    · exact .inr ⟨e2, e1⟩
  have hlev := zsx h c0
  have hlf := z27 h c0
  have hfb0 := zkf (zd5 c0)
  have hbm := zm9 w1 (zd5 c0)
  rw [c0] at hw
  generalize (zas k id a l).1 = top at *
  generalize (zas k id a l).2.1 = lw at *
  have b1 := hT.bd
  have b2 := hT.bp
  have bt := w2.1
  have hml := h.l.ml
  have hfl := h.l.fl
  have hpb := h.l.pb
  have hpm := h.l.pm
  by_cases cp : zc2 p = false
  · rw [if_pos cp] at hR
    rw [cp] at hmay
    subst hR
    refine zad 83 Tryz.func56 rfl rfl rfl rfl ?_ GG.to
    intro W A hG
    repeat (first | (refine zaj rfl ?_; first | refine zak ?_ | refine gdr (zaa rfl rfl rfl (hw) (by kernel_rfl)) ?_ | refine gdr (zaa rfl rfl rfl (hmay) (by kernel_rfl)) ?_) | (refine hK _ ?_; clear hK K) | refine zac rfl ?_ | exact zah (show zar _ _ _ = some _ by kernel_rfl) | refine zaf rfl rfl ?_ | refine zae rfl rfl ?_ | refine zai ?_ | refine zab (fun K hK => ?_))
  rw [if_neg cp] at hR
  replace cp : zc2 p = true := by simpa using cp
  rw [cp] at hmay
  by_cases c1 : (inR k id a l).length = 0
  · rw [if_pos c1] at hR
    rw [List.length_eq_zero_iff.1 c1] at hin
    clear c1
    subst hR
    refine zad 83 Tryz.func56 rfl rfl rfl rfl ?_ GG.to
    intro W A hG
    repeat (first | (refine zaj rfl ?_; first | refine zak ?_ | refine gdr (zaa rfl rfl rfl (hw) (by kernel_rfl)) ?_ | refine gdr (zaa rfl rfl rfl (hmay) (by kernel_rfl)) ?_ | refine gdr (zaa rfl rfl rfl (hin) (by kernel_rfl)) ?_) | (refine hK _ ?_; clear hK K) | refine zac rfl ?_ | exact zah (show zar _ _ _ = some _ by kernel_rfl) | refine zaf rfl rfl ?_ | refine zae rfl rfl ?_ | refine zai ?_ | refine zab (fun K hK => ?_))
  rw [if_neg c1] at hR
  replace hlev := hlev c1
  replace hlf := hlf c1
  generalize inR k id a l = IL at *
  obtain ⟨m, rfl⟩ := Int.eq_ofNat_of_zero_le (show 0 ≤ lw by omega)
  unfold zbs at hlf
  rw [Int.toNat_natCast] at hlf
  have hto := z0p top a l m k.m k.pf lv hT w2 h.l.sh z1 ha (by omega) w1.1 w3 (by omega) _ rfl
  have htl := zz0 a l top m w1.1 w3 (by omega) m k.m k.pf lv hT w2 h.l.sh z1 hlf
  obtain ⟨lv', P⟩ := zq1 a l top m w1.1 w3 (by omega) m k.m k.pf lv hT w2 h.l.sh z1
  unfold unT at hR hlev
  rw [Int.toNat_natCast] at hR hlev
  generalize toN k.sz k.cd a l top m m k.m k.pf = T at *
  obtain ⟨xs, f, ⟨t, lt⟩, e⟩ := T
  obtain ⟨l', e1, e2, e3, e4, e5⟩ := P.p
  replace e1 : lt = (l' : Int) := e1
  subst e1
  have y4 : Al k.cd k.cp f t := e4
  have y5 : lv' t = (l' : Int) := e5
  by_cases c5 : e ≠ 0
  · rw [if_pos c5] at hR
    rw [if_neg (show ¬ (xs, f, (t, (l' : Int)), e).2.2.2 = 0 from c5)] at hto
    replace hto : Ok 91 [za6 k.sz k.m, .ag [cu k.cd, ci k.cp, cu k.pf], iu top, ii m, iu a, ii l] (.tu [za6 k.sz k.m, .ag [cu k.cd, ci k.cp, cu k.pf], .ag (za3 0 0 zP), ii e]) := hto
    rw [← hpb, ← hpm] at hto
    replace hR : R = (k, e) := hR
    subst hR
    refine zad 83 Tryz.func56 rfl rfl rfl rfl ?_ GG.to
    intro W A hG
    repeat (first | (refine zaj rfl ?_; first | refine zak ?_ | refine gdr (zaa rfl rfl rfl (hw) (by kernel_rfl)) ?_ | refine gdr (zaa rfl rfl rfl (hmay) (by kernel_rfl)) ?_ | refine gdr (zaa rfl rfl rfl (hin) (by kernel_rfl)) ?_ | refine gdr (zaa rfl rfl rfl (hto) (by kernel_rfl)) ?_) | (refine hK _ ?_; clear hK K) | refine zac rfl ?_ | exact zah (show zar _ _ _ = some _ by kernel_rfl) | refine zaf rfl rfl ?_ | refine zae rfl rfl ?_ | refine zai ?_ | refine zab (fun K hK => ?_))
  rw [if_neg c5] at hR
  obtain rfl : e = 0 := by omega
  have hll : (l' : Int) = l := hlev rfl
  replace htl : za2 (atM k.sz xs t (idx a (l' : Int))) = true ∨ lkP (atM k.sz xs t (idx a (l' : Int))) = true := htl rfl
  clear hlev hlf
  rw [if_pos (show (xs, f, (t, (l' : Int)), (0 : Int)).2.2.2 = 0 from rfl)] at hto
  replace hto : Ok 91 [za6 k.sz k.m, .ag [cu k.cd, ci k.cp, cu k.pf], iu top, ii m, iu a, ii l] (.tu [za6 k.sz xs, .ag [cu k.cd, ci k.cp, cu f], .ag (za3 t (l' : Int) (atM k.sz xs t (idx a (l' : Int)))), ii 0]) := hto
  have hPt : TI k.cd k.cp k.sz xs f k.sh lv' := P.t
  have hi := idx_bd a (l' : Int)
  have hxl : xs.length ≤ k.m.length + 513 * m := P.n
  have hqp := zch (xs := xs) k.sz t (idx a (l' : Int))
  have hbl : VaSpec.base a (l' : Int) = a := by rw [hll]; exact hfb0
  have hub := ziz k.sz xs (l' : Int) (atM k.sz xs t (idx a (l' : Int))) a ha (by omega)
  replace hR : R = (zda { k with m := prM k.sz (xs, f, (t, (l' : Int)), (0 : Int)) a p, pf := f } (zdp k id (zbm (zax k.sz xs (l' : Int) (atM k.sz xs t (idx a (l' : Int))) a) p)), 0) := hR
  have hpr : prM k.sz (xs, f, (t, (l' : Int)), (0 : Int)) a p = if za2 (atM k.sz xs t (idx a (l' : Int))) then zln k.sz xs t (idx a (l' : Int)) p else zne k.sz ((l' : Int) - 1).toNat (atM k.sz xs t (idx a (l' : Int))).ppn p (zbg k.sz xs ((l' : Int) - 1).toNat (atM k.sz xs t (idx a (l' : Int))).ppn a) xs := rfl
  have hls := zlq (zax k.sz xs (l' : Int) (atM k.sz xs t (idx a (l' : Int))) a) p (by omega)
  have hlen : (zbm (zax k.sz xs (l' : Int) (atM k.sz xs t (idx a (l' : Int))) a) p).length ≤ 262144 := Nat.le_trans (List.length_filter_le ..) hub.1
  have hfb := zgb k id (zbm (zax k.sz xs (l' : Int) (atM k.sz xs t (idx a (l' : Int))) a) p)
  have hfU := zsw k id (zbm (zax k.sz xs (l' : Int) (atM k.sz xs t (idx a (l' : Int))) a) p) (fun y hy => hub.2 y (List.mem_filter.1 hy).1)
  have hfe : ∀ m4, Ok 19 [.ag ({ k with m := m4, pf := f } : Kr).ce, ii id, .c (.s (zbm (zax k.sz xs (l' : Int) (atM k.sz xs t (idx a (l' : Int))) a) p).length 8 (flP (zbm (zax k.sz xs (l' : Int) (atM k.sz xs t (idx a (l' : Int))) a) p)))] (.m (.c (.s (zdp k id (zbm (zax k.sz xs (l' : Int) (atM k.sz xs t (idx a (l' : Int))) a) p)).length 4 (flF (zdp k id (zbm (zax k.sz xs (l' : Int) (atM k.sz xs t (idx a (l' : Int))) a) p)))))) := fun m4 => by
    rcases hlive with e | ⟨e, e'⟩
    · exact zxk { k with m := m4, pf := f } id _ e (by omega)
    · exact zxl { k with m := m4, pf := f } id _ e e' (by omega)
  have hsf := fun m4 => zke { k with m := m4, pf := f } h.l.ts h.l.cs.2 (zdp k id (zbm (zax k.sz xs (l' : Int) (atM k.sz xs t (idx a (l' : Int))) a) p)) (by omega) (by show k.fs.length ≤ _; omega)
  have hun := zki k.sz xs t (l' : Int) (atM k.sz xs t (idx a (l' : Int))) a ha hPt.s hPt.u (by omega) hqp (by omega) (by omega) (fun c => by have := zrb hPt hi c; omega)
  rcases htl with h1 | h1
  · rw [if_pos h1] at hpr
    have hpa := zlp hPt (by omega) (t := t) ha cp (l' : Int) (by omega) (by omega) h1 _ rfl _ rfl
    rw [← hpr] at hpa
    clear hpr hub hfb hfU hlen
    generalize prM k.sz (xs, f, (t, (l' : Int)), (0 : Int)) a p = m4 at *
    generalize zdp k id (zbm (zax k.sz xs (l' : Int) (atM k.sz xs t (idx a (l' : Int))) a) p) = FL at *
    generalize zbm (zax k.sz xs (l' : Int) (atM k.sz xs t (idx a (l' : Int))) a) p = LL at *
    generalize zax k.sz xs (l' : Int) (atM k.sz xs t (idx a (l' : Int))) a = PL at *
    generalize atM k.sz xs t (idx a (l' : Int)) = q at *
    rw [← hpb, ← hpm] at hto
    replace hfe := hfe m4
    replace hsf := hsf m4
    subst hR
    refine zad 83 Tryz.func56 rfl rfl rfl rfl ?_ GG.to
    intro W A hG
    repeat (first | (refine zaj rfl ?_; first | refine zak ?_ | refine gdr (zaa rfl rfl rfl (hw) (by kernel_rfl)) ?_ | refine gdr (zaa rfl rfl rfl (hmay) (by kernel_rfl)) ?_ | refine gdr (zaa rfl rfl rfl (hin) (by kernel_rfl)) ?_ | refine gdr (zaa rfl rfl rfl (hto) (by kernel_rfl)) ?_ | refine gdr (zaa rfl rfl rfl (hun) (by kernel_rfl)) ?_ | refine gdr (zaa rfl rfl rfl (hpa) (by kernel_rfl)) ?_ | refine gdr (zaa rfl rfl rfl (hls) (by kernel_rfl)) ?_ | refine gdr (zaa rfl rfl rfl (hfe) (by kernel_rfl)) ?_ | refine gdr (zaa rfl rfl rfl (hsf) (by kernel_rfl)) ?_) | (refine hK _ ?_; clear hK K) | refine zac rfl ?_ | refine zam (by kernel_rfl) (by kernel_rfl) rfl ?_ | exact zah (show zar _ _ _ = some _ by kernel_rfl) | refine zae rfl rfl ?_ | refine zai ?_ | refine zab (fun K hK => ?_))
  · obtain ⟨k1, k2, k3, k4⟩ := zig hPt hi h1
    have hnl : za2 (atM k.sz xs t (idx a (l' : Int))) = false := (zco h1).2.2
    have hkl : zbc (atM k.sz xs t (idx a (l' : Int))) = true := (zco h1).1
    obtain ⟨mm, rfl⟩ : ∃ mm : Nat, l' = mm + 1 := ⟨l' - 1, by omega⟩
    have e9 : (((mm + 1 : Nat) : Int) - 1).toNat = mm := by omega
    rw [if_neg (by rw [hnl]; simp), e9] at hpr
    have hPL : zax k.sz xs ((mm + 1 : Nat) : Int) (atM k.sz xs t (idx a ((mm + 1 : Nat) : Int))) a = zbg k.sz xs mm (atM k.sz xs t (idx a ((mm + 1 : Nat) : Int))).ppn a := by unfold zax; rw [if_neg (by rw [hnl]; simp), if_pos hkl, e9]
    have hbm2 : m39 a % (512 * VaSpec.sz (mm : Int)) = 0 := zxu (by omega) (by rw [hll]; exact hbm)
    have hpg : Ok 118 [za6 k.sz xs, iu (atM k.sz xs t (idx a ((mm + 1 : Nat) : Int))).ppn, ii mm, iu a] (.m (.c (.s (zax k.sz xs ((mm + 1 : Nat) : Int) (atM k.sz xs t (idx a ((mm + 1 : Nat) : Int))) a).length 8 (flP (zax k.sz xs ((mm + 1 : Nat) : Int) (atM k.sz xs t (idx a ((mm + 1 : Nat) : Int))) a))))) := by
      rw [hPL]
      rcases (by omega : mm = 0 ∨ mm = 1) with rfl | rfl
      · exact zm8 k.sz xs hPt.s hPt.u (by omega) _ _ hqp ha
      · exact zsp k.sz xs hPt.s hPt.u (by omega) _ _ hqp ha
    have k5 : lv' (atM k.sz xs t (idx a ((mm + 1 : Nat) : Int))).ppn = (mm : Int) := by rw [k3, y5]; omega
    have hpa := zue hPt (by omega) (t := t) ha cp mm (by omega) (atM k.sz xs t (idx a ((mm + 1 : Nat) : Int))) hqp hnl hbm2 k4 k5 _ hPL (by omega) hub.2 hpg _ rfl
    rw [hPL, ← hpr] at hpa
    clear hPL hpg hnl hkl h1 k1 k2 k3 k4 k5
    clear hpr hub hfb hfU hlen
    generalize prM k.sz (xs, f, (t, ((mm + 1 : Nat) : Int)), (0 : Int)) a p = m4 at *
    generalize zdp k id (zbm (zax k.sz xs ((mm + 1 : Nat) : Int) (atM k.sz xs t (idx a ((mm + 1 : Nat) : Int))) a) p) = FL at *
    generalize zbm (zax k.sz xs ((mm + 1 : Nat) : Int) (atM k.sz xs t (idx a ((mm + 1 : Nat) : Int))) a) p = LL at *
    generalize zax k.sz xs ((mm + 1 : Nat) : Int) (atM k.sz xs t (idx a ((mm + 1 : Nat) : Int))) a = PL at *
    generalize atM k.sz xs t (idx a ((mm + 1 : Nat) : Int)) = q at *
    rw [← hpb, ← hpm] at hto
    replace hfe := hfe m4
    replace hsf := hsf m4
    subst hR
    refine zad 83 Tryz.func56 rfl rfl rfl rfl ?_ GG.to
    intro W A hG
    repeat (first | (refine zaj rfl ?_; first | refine zak ?_ | refine gdr (zaa rfl rfl rfl (hw) (by kernel_rfl)) ?_ | refine gdr (zaa rfl rfl rfl (hmay) (by kernel_rfl)) ?_ | refine gdr (zaa rfl rfl rfl (hin) (by kernel_rfl)) ?_ | refine gdr (zaa rfl rfl rfl (hto) (by kernel_rfl)) ?_ | refine gdr (zaa rfl rfl rfl (hun) (by kernel_rfl)) ?_ | refine gdr (zaa rfl rfl rfl (hpa) (by kernel_rfl)) ?_ | refine gdr (zaa rfl rfl rfl (hls) (by kernel_rfl)) ?_ | refine gdr (zaa rfl rfl rfl (hfe) (by kernel_rfl)) ?_ | refine gdr (zaa rfl rfl rfl (hsf) (by kernel_rfl)) ?_) | (refine hK _ ?_; clear hK K) | refine zac rfl ?_ | refine zam (by kernel_rfl) (by kernel_rfl) rfl ?_ | exact zah (show zar _ _ _ = some _ by kernel_rfl) | refine zae rfl rfl ?_ | refine zai ?_ | refine zab (fun K hK => ?_))
end Go.Proofs.YtmkjfeamgknpfaaGreatDoor.LmG
namespace Go.Proofs.YtmkjfeamgknpfaaGreatDoor.LaI
open Go.RowKit Bv VaSpec Base MemL RegR Ax MemC PutC MemC3 TzC OkS SpA SpB SpC SpD SpE SpF SpG SpH SpI SpJ SpK SpN RfD RfE RfJ RfK LaA LaB LaC LaD LaE LaF LaG LaH RlB RlC
open BitsC PteSpec
set_option maxRecDepth 10000
set_option maxHeartbeats 1000000
attribute [local irreducible] Ax.zb0
noncomputable def bgI (a b c : Int) (n : Nat) : Nat → Kr
  | 0 => zug a b c n
  | i + 1 => (zb6 (bgI a b c n i)).1
def bgH (k : Kr) (i : Nat) : St := St.of [(2, .m (.c (.p 2 0))), (3, .m (.c (.p 3 0))), (4, .m (.c (.p 4 0))), (6, .m (.c (.p 6 0))), (7, .m (ii i))] [(2, .live (.box zK)), (3, .live (.box zK)), (4, .live (.box k.ce)), (6, .live (.box k.ce))]
theorem zxy {a b c : Int} {n : Nat} (h : zge a b c n = true) : ∀ i, Inv i (bgI a b c n i)
  | 0 => zmr h
  | i + 1 => zet (zxy h i)
end Go.Proofs.YtmkjfeamgknpfaaGreatDoor.LaI
namespace Go.Proofs.YtmkjfeamgknpfaaGreatDoor.LmH
open Go.RowKit Bv VaSpec Base MemL RegR Ax MemC PutC MemC3 TzC OkS SpA SpB SpC SpF SpH SpI SpJ LaA LaB LaC LaD LaE LaF LaG LiA LiB LiC LiD LiE LiF SpE SpG SpK SpO SpL SpN RfA RfB RfC RfD RfE RfJ RfK RlA RlB RlC LaH LaI LjA LjB LjF LiF LkE LmA LmB LmE LmF LmG
open BitsC PteSpec
set_option maxRecDepth 10000
set_option maxHeartbeats 1000000
attribute [local irreducible] Ax.zb0
theorem zkl (a b c : Int) (n : Nat) (h : zge a b c n = true) : Ok 23 [zkz a b c n] (.tu [.ag (bgK a b c n).ce, .ag (bgK a b c n).ce]) := by
  have hn := z2a a b c n h
  have hr := z2p a b c n h
  refine zad 33 Tryz.func23 rfl rfl rfl rfl ?_ GG.to
  intro W A hG
  repeat (first | (refine zaj rfl ?_; first | refine zak ?_ | refine gdr (zaa rfl rfl rfl (hn) (by kernel_rfl)) ?_ | refine gdr (zaa rfl rfl rfl (hr) (by kernel_rfl)) ?_) | (refine hK _ ?_; clear hK K) | refine zac rfl ?_ | refine zag ?_ | refine zab (fun K hK => ?_))
  refine zay (α := Nat) (fun i => i ≤ 2) (fun i => bgH (bgI a b c n i) i) (fun i => 2 - i) 0 (by omega) (zao _ _ ⟨by kernel_rfl, by kernel_rfl, by kernel_rfl, by kernel_rfl, by kernel_rfl, trivial⟩ ⟨by kernel_rfl, by kernel_rfl, by kernel_rfl, by kernel_rfl, trivial⟩ (by kernel_rfl)) ?_
  intro i hi
  show Aw _ _ _ _ (bgH (bgI a b c n i) i)
  unfold bgH
  by_cases hlt : i < 2
  · have hk := zxy h i
    have hc := zt0 hk (by omega)
    have hd := zqx hk (by omega)
    have e : bgI a b c n (i + 1) = (zb6 (bgI a b c n i)).1 := rfl
    generalize zb6 (bgI a b c n i) = rr at *
    repeat (first | (refine zaj rfl ?_; first | refine zak ?_ | refine gdr (zaa rfl rfl rfl (hc) (by kernel_rfl)) ?_ | refine gdr (zaa rfl rfl rfl (hd) (by kernel_rfl)) ?_) | (refine hK _ ?_; clear hK K) | refine zac rfl ?_ | refine zaf rfl rfl ?_ | refine zag ?_ | refine zai ?_ | refine zab (fun K hK => ?_))
    refine ⟨i + 1, by omega, by omega, ?_⟩
    rw [e]
    exact zao _ _ ⟨by kernel_rfl, by kernel_rfl, by kernel_rfl, by kernel_rfl, by kernel_rfl, trivial⟩ ⟨by kernel_rfl, by kernel_rfl, by kernel_rfl, by kernel_rfl, trivial⟩ (by kernel_rfl)
  · obtain rfl : i = 2 := by omega
    rw [show bgI a b c n 2 = bgK a b c n from rfl]
    repeat (first | (refine zaj rfl ?_; first | refine zak ?_) | (refine hK _ ?_; clear hK K) | (rename_i K1 hK1; refine hK1 _ ?_; clear hK hK1; clear K) | refine zac rfl ?_ | refine zam (by kernel_rfl) (by kernel_rfl) rfl ?_ | exact zah (show zar _ _ _ = some _ by kernel_rfl) | refine zae rfl rfl ?_ | refine zal ?_ | refine zab (fun K hK => ?_))
structure Dg where
  k : Int
  id : Int
  va : Int
  pa : Int
  lev : Int
  p : Pm
def Dg.ce (d : Dg) : List Ce := [i8 d.k, ci d.id, cu d.va, cu d.pa, ci d.lev] ++ d.p.ce
def Dg.vs (d : Dg) : List Value := [.int .u8 d.k, .int .i64 d.id, .int .u64 d.va, .int .u64 d.pa, .int .i64 d.lev, .bool d.p.r, .bool d.p.w, .bool d.p.x, .bool d.p.u]
def UG (d : Dg) : Prop := (0 ≤ d.k ∧ d.k < 256) ∧ U d.va ∧ U d.pa
def dgR (k : Kr) (d : Dg) : Kr × Int := if d.k % 3 = 1 then unR k d.id d.va d.lev else if d.k % 3 = 2 then prR k d.id d.va d.lev d.p else zpb k d.id d.va d.pa d.lev d.p
theorem zxz {n : Nat} {k : Kr} {d : Dg} (h : InvT n k) (hd : UG d) : InvT (n + 1100) (dgR k d).1 := by
  unfold dgR
  split
  · exact z40 h
  · split
    · exact z0s h
    · have hm := zsi (id := d.id) (a := d.va) (pa := d.pa) (l := d.lev) (p := d.p) h hd.2.2
      exact ⟨{ hm.l with ml := by have := hm.l.ml; omega, fl := by have := hm.l.fl; omega }, hm.t⟩
theorem z0t {n : Nat} {k : Kr} {d : Dg} (h : InvT n k) (hn : n ≤ 88000) (hd : UG d) : Ok 24 [.ag k.ce, .ag d.ce] (.tu [.ag (dgR k d).1.ce, ii (dgR k d).2]) := by
  obtain ⟨kd, id, va, pa, lev, p⟩ := d
  obtain ⟨⟨h0, h9⟩, h1, h2⟩ := hd
  replace h0 : 0 ≤ kd := h0
  replace h9 : kd < 256 := h9
  obtain ⟨R, hR⟩ : ∃ R, R = dgR k ⟨kd, id, va, pa, lev, p⟩ := ⟨_, rfl⟩
  rw [← hR]
  unfold Dg.ce
  unfold dgR at hR
  by_cases c1 : kd % 3 = 1
  · have hu := zxn h hn id va lev h1
    rw [if_pos c1] at hR
    replace hR : R = unR k id va lev := hR
    rw [← hR] at hu
    refine zad 50 Tryz.func24 rfl rfl rfl rfl ?_ GG.to
    intro W A hG
    repeat (first | (refine zaj rfl ?_; first | refine zak ?_ | refine gdr (zaa rfl rfl rfl (hu) (by kernel_rfl)) ?_) | (refine hK _ ?_; clear hK K) | refine zac rfl ?_ | exact zah (show zar _ _ _ = some _ by kernel_rfl) | refine zaf rfl rfl ?_ | refine zab (fun K hK => ?_))
  rw [if_neg c1] at hR
  by_cases c2 : kd % 3 = 2
  · have hu := zdl h hn id va lev p h1
    rw [if_pos c2] at hR
    replace hR : R = prR k id va lev p := hR
    rw [← hR] at hu
    refine zad 50 Tryz.func24 rfl rfl rfl rfl ?_ GG.to
    intro W A hG
    repeat (first | (refine zaj rfl ?_; first | refine zak ?_ | refine gdr (zaa rfl rfl rfl (hu) (by kernel_rfl)) ?_) | (refine hK _ ?_; clear hK K) | refine zac rfl ?_ | exact zah (show zar _ _ _ = some _ by kernel_rfl) | refine zaf rfl rfl ?_ | refine zae rfl rfl ?_ | refine zai ?_ | refine zab (fun K hK => ?_))
  rw [if_neg c2] at hR
  have hu := zwo h.l (by omega) id va pa lev p h1 h2
  replace hR : R = zpb k id va pa lev p := hR
  rw [← hR] at hu
  refine zad 50 Tryz.func24 rfl rfl rfl rfl ?_ GG.to
  intro W A hG
  repeat (first | (refine zaj rfl ?_; first | refine zak ?_ | refine gdr (zaa rfl rfl rfl (hu) (by kernel_rfl)) ?_) | (refine hK _ ?_; clear hK K) | refine zac rfl ?_ | exact zah (show zar _ _ _ = some _ by kernel_rfl) | refine zae rfl rfl ?_ | refine zai ?_ | refine zab (fun K hK => ?_))
theorem zz1 {n : Nat} {k : Kr} {d : Dg} (h : InvT n k) (hn : n ≤ 88000) (hd : UG d) : Ok 25 [.ag k.ce, .ag d.ce] (.tu [.ag (dgR k d).1.ce, ii (dgR k d).2]) := by
  obtain ⟨kd, id, va, pa, lev, p⟩ := d
  obtain ⟨⟨h0, h9⟩, h1, h2⟩ := hd
  replace h0 : 0 ≤ kd := h0
  replace h9 : kd < 256 := h9
  obtain ⟨R, hR⟩ : ∃ R, R = dgR k ⟨kd, id, va, pa, lev, p⟩ := ⟨_, rfl⟩
  rw [← hR]
  unfold Dg.ce
  unfold dgR at hR
  by_cases c1 : kd % 3 = 1
  · have hu := zud h hn id va lev h1
    rw [if_pos c1] at hR
    replace hR : R = unR k id va lev := hR
    rw [← hR] at hu
    refine zad 50 Tryz.func25 rfl rfl rfl rfl ?_ GG.to
    intro W A hG
    repeat (first | (refine zaj rfl ?_; first | refine zak ?_ | refine gdr (zaa rfl rfl rfl (hu) (by kernel_rfl)) ?_) | (refine hK _ ?_; clear hK K) | refine zac rfl ?_ | exact zah (show zar _ _ _ = some _ by kernel_rfl) | refine zaf rfl rfl ?_ | refine zab (fun K hK => ?_))
  rw [if_neg c1] at hR
  by_cases c2 : kd % 3 = 2
  · have hu := zo7 h hn id va lev p h1
    rw [if_pos c2] at hR
    replace hR : R = prR k id va lev p := hR
    rw [← hR] at hu
    refine zad 50 Tryz.func25 rfl rfl rfl rfl ?_ GG.to
    intro W A hG
    repeat (first | (refine zaj rfl ?_; first | refine zak ?_ | refine gdr (zaa rfl rfl rfl (hu) (by kernel_rfl)) ?_) | (refine hK _ ?_; clear hK K) | refine zac rfl ?_ | exact zah (show zar _ _ _ = some _ by kernel_rfl) | refine zaf rfl rfl ?_ | refine zae rfl rfl ?_ | refine zai ?_ | refine zab (fun K hK => ?_))
  rw [if_neg c2] at hR
  have hu := zzp h.l (by omega) id va pa lev p h1 h2
  replace hR : R = zpb k id va pa lev p := hR
  rw [← hR] at hu
  refine zad 50 Tryz.func25 rfl rfl rfl rfl ?_ GG.to
  intro W A hG
  repeat (first | (refine zaj rfl ?_; first | refine zak ?_ | refine gdr (zaa rfl rfl rfl (hu) (by kernel_rfl)) ?_) | (refine hK _ ?_; clear hK K) | refine zac rfl ?_ | exact zah (show zar _ _ _ = some _ by kernel_rfl) | refine zae rfl rfl ?_ | refine zai ?_ | refine zab (fun K hK => ?_))
def gB : Kr := kf dA [⟨true, 20480, true, 1⟩]
def gC : Kr := kf cA [⟨true, 20480, true, 1⟩]
def pz : Pm := ⟨false, false, false, false⟩
theorem gP1 : prR cA 0 20480 0 rr = (gB, 0) := by kernel_rfl
theorem gP2 : prR gB 0 0 1 rw2 = (gC, 0) := by kernel_rfl
theorem gP3 : prR gB 0 24576 0 rr = (gB, 7) := by kernel_rfl
theorem gP4 : prR gB 0 24576 0 pz = (gB, 5) := by kernel_rfl
theorem gA : InvT 5 cA := by have := zsi (id := 0) (a := 20480) (pa := 4096) (l := 0) (p := rw2) t2 ⟨by omega, by omega⟩; rwa [mA] at this
theorem gBi : InvT 1105 gB := by have := z0s (id := 0) (a := 20480) (l := 0) (p := rr) gA; rwa [gP1] at this
theorem gL : zeu gB 0 = [⟨20480, 4096, 0, true, false, false, false, false⟩] := by
  unfold zeu
  rw [if_neg (by decide), if_neg (by decide)]
  kernel_rfl
set_option maxHeartbeats 8000000 in
theorem zex : Ok 22 [] (.m (ib true)) := by
  have hN : Ok 23 [zkz 4 8 2 1] (.tu [.ag c2.ce, .ag c2.ce]) := by rw [← bg2]; exact zkl 4 8 2 1 (by decide)
  have hA := zwo t2.l (by omega) 0 20480 4096 0 rw2 ⟨by omega, by omega⟩ ⟨by omega, by omega⟩
  rw [mA] at hA
  have hB := zdl gA (by omega) 0 20480 0 rr ⟨by omega, by omega⟩
  rw [gP1] at hB
  have hC := zdl gBi (by omega) 0 0 1 rw2 ⟨by omega, by omega⟩
  rw [gP2] at hC
  have hF := zdl gBi (by omega) 0 24576 0 rr ⟨by omega, by omega⟩
  rw [gP3] at hF
  have hD := zdl gBi (by omega) 0 24576 0 pz ⟨by omega, by omega⟩
  rw [gP4] at hD
  have hL := zmx gBi.l (by omega) 0
  rw [gL] at hL
  replace hL : Ok 26 [.ag gB.ce, ii 0] (.m (.c (.s 1 8 (flP [⟨20480, 4096, 0, true, false, false, false, false⟩])))) := hL
  have hS := zr4 [⟨true, 20480, true, 1⟩] (by decide)
  have hZ := zhi [⟨0, 0, 0, true, true, false, false, false⟩, ⟨0, 0, 0, true, false, false, false, false⟩] rr (by decide)
  rw [show zbm [⟨0, 0, 0, true, true, false, false, false⟩, ⟨0, 0, 0, true, false, false, false, false⟩] rr = [⟨0, 0, 0, true, true, false, false, false⟩] from by kernel_rfl] at hZ
  replace hZ : Ok 27 [.c (.s 2 8 (flP [⟨0, 0, 0, true, true, false, false, false⟩, ⟨0, 0, 0, true, false, false, false, false⟩])), .ag [cb true, cb false, cb false, cb false]] (.m (.c (.s 1 8 (flP [⟨0, 0, 0, true, true, false, false, false⟩])))) := hZ
  have hx : ((flP [⟨20480, 4096, 0, true, false, false, false, false⟩]).drop ((0 : Int).toNat * 8)).take 8 = [.int .u64 20480, .int .u64 4096, .int .i64 0, .bool true, .bool false, .bool false, .bool false, .bool false] := rfl
  have he : ∀ w, (Op.equalIn 10000 52 (.agg #[.bool true, .bool false, .bool false, .bool false]) (.agg #[.bool true, .bool false, .bool false, .bool false])).run Tryz.prog w = .ok true w := fun w => by kernel_rfl
  refine zad 113 Tryz.func22 rfl rfl rfl rfl ?_ GG.to
  intro W A hG
  repeat (first | (refine zaj rfl ?_; first | refine zak ?_) | refine zac rfl ?_ | refine zab (fun K hK => ?_))
  first
    | (refine hK _ ?_; clear hK K)
    | (rename_i K1 hK1; refine hK1 _ ?_; clear hK hK1; clear K)
    | (rename_i K1 hK1; refine hK1 _ ?_; clear hK1)
  repeat (first | (refine zaj rfl ?_; first | refine zak ?_ | refine gdr (zaa rfl rfl rfl (hN) (by kernel_rfl)) ?_) | refine zac rfl ?_ | refine zab (fun K hK => ?_))
  first
    | (refine hK _ ?_; clear hK K)
    | (rename_i K1 hK1; refine hK1 _ ?_; clear hK hK1; clear K)
    | (rename_i K1 hK1; refine hK1 _ ?_; clear hK1)
  refine zd6 (zao [(1, .m (.c (.p 1 0)))] [(1, .live (.box c2.ce))] ⟨by kernel_rfl, trivial⟩ ⟨by kernel_rfl, trivial⟩ (by kernel_rfl)) ?_
  repeat (first | (refine zaj rfl ?_; first | refine zak ?_) | refine zac rfl ?_ | refine zab (fun K hK => ?_))
  first
    | (refine hK _ ?_; clear hK K)
    | (rename_i K1 hK1; refine hK1 _ ?_; clear hK hK1; clear K)
    | (rename_i K1 hK1; refine hK1 _ ?_; clear hK1)
  refine zd6 (zao [(1, .m (.c (.p 1 0))), (3, .m (.c (.p 3 0)))] [(1, .live (.box c2.ce)), (3, .live (.box rw2.ce))] ⟨by kernel_rfl, by kernel_rfl, trivial⟩ ⟨by kernel_rfl, by kernel_rfl, trivial⟩ (by kernel_rfl)) ?_
  repeat (first | (refine zaj rfl ?_; first | refine zak ?_) | refine zac rfl ?_ | refine zab (fun K hK => ?_))
  first
    | (refine hK _ ?_; clear hK K)
    | (rename_i K1 hK1; refine hK1 _ ?_; clear hK hK1; clear K)
    | (rename_i K1 hK1; refine hK1 _ ?_; clear hK1)
  refine zd6 (zao [(1, .m (.c (.p 1 0))), (3, .m (.c (.p 3 0))), (4, .m (.c (.p 4 0)))] [(1, .live (.box c2.ce)), (3, .live (.box rw2.ce)), (4, .live (.box rr.ce))] ⟨by kernel_rfl, by kernel_rfl, by kernel_rfl, trivial⟩ ⟨by kernel_rfl, by kernel_rfl, by kernel_rfl, trivial⟩ (by kernel_rfl)) ?_
  repeat (first | (refine zaj rfl ?_; first | refine zak ?_ | refine gdr (zaa rfl rfl rfl (hA) (by kernel_rfl)) ?_) | refine zac rfl ?_ | refine zab (fun K hK => ?_))
  first
    | (refine hK _ ?_; clear hK K)
    | (rename_i K1 hK1; refine hK1 _ ?_; clear hK hK1; clear K)
    | (rename_i K1 hK1; refine hK1 _ ?_; clear hK1)
  refine zd6 (zao [(1, .m (.c (.p 1 0))), (3, .m (.c (.p 3 0))), (4, .m (.c (.p 4 0))), (5, .m (.c (.p 5 0)))] [(1, .live (.box c2.ce)), (3, .live (.box rw2.ce)), (4, .live (.box rr.ce)), (5, .live (.box cA.ce))] ⟨by kernel_rfl, by kernel_rfl, by kernel_rfl, by kernel_rfl, trivial⟩ ⟨by kernel_rfl, by kernel_rfl, by kernel_rfl, by kernel_rfl, trivial⟩ (by kernel_rfl)) ?_
  repeat (first | (refine zaj rfl ?_; first | refine zak ?_ | refine gdr (zaa rfl rfl rfl (hB) (by kernel_rfl)) ?_) | refine zac rfl ?_ | refine zab (fun K hK => ?_))
  first
    | (refine hK _ ?_; clear hK K)
    | (rename_i K1 hK1; refine hK1 _ ?_; clear hK hK1; clear K)
    | (rename_i K1 hK1; refine hK1 _ ?_; clear hK1)
  refine zd6 (zao [(1, .m (.c (.p 1 0))), (3, .m (.c (.p 3 0))), (4, .m (.c (.p 4 0))), (5, .m (.c (.p 5 0))), (7, .m (.c (.p 7 0))), (8, .m (ii 0))] [(1, .live (.box c2.ce)), (3, .live (.box rw2.ce)), (4, .live (.box rr.ce)), (5, .live (.box cA.ce)), (7, .live (.box gB.ce))] ⟨by kernel_rfl, by kernel_rfl, by kernel_rfl, by kernel_rfl, by kernel_rfl, by kernel_rfl, trivial⟩ ⟨by kernel_rfl, by kernel_rfl, by kernel_rfl, by kernel_rfl, by kernel_rfl, trivial⟩ (by kernel_rfl)) ?_
  repeat (first | (refine zaj rfl ?_; first | refine zak ?_ | refine gdr (zaa rfl rfl rfl (hC) (by kernel_rfl)) ?_) | refine zac rfl ?_ | refine zab (fun K hK => ?_))
  first
    | (refine hK _ ?_; clear hK K)
    | (rename_i K1 hK1; refine hK1 _ ?_; clear hK hK1; clear K)
    | (rename_i K1 hK1; refine hK1 _ ?_; clear hK1)
  refine zd6 (zao [(1, .m (.c (.p 1 0))), (3, .m (.c (.p 3 0))), (4, .m (.c (.p 4 0))), (5, .m (.c (.p 5 0))), (7, .m (.c (.p 7 0))), (8, .m (ii 0)), (9, .m (.c (.p 9 0))), (10, .m (ii 0))] [(1, .live (.box c2.ce)), (3, .live (.box rw2.ce)), (4, .live (.box rr.ce)), (5, .live (.box cA.ce)), (7, .live (.box gB.ce)), (9, .live (.box gC.ce))] ⟨by kernel_rfl, by kernel_rfl, by kernel_rfl, by kernel_rfl, by kernel_rfl, by kernel_rfl, by kernel_rfl, by kernel_rfl, trivial⟩ ⟨by kernel_rfl, by kernel_rfl, by kernel_rfl, by kernel_rfl, by kernel_rfl, by kernel_rfl, trivial⟩ (by kernel_rfl)) ?_
  repeat (first | (refine zaj rfl ?_; first | refine zak ?_ | refine gdr (zaa rfl rfl rfl (hF) (by kernel_rfl)) ?_) | refine zac rfl ?_ | refine zab (fun K hK => ?_))
  first
    | (refine hK _ ?_; clear hK K)
    | (rename_i K1 hK1; refine hK1 _ ?_; clear hK hK1; clear K)
    | (rename_i K1 hK1; refine hK1 _ ?_; clear hK1)
  refine zd6 (zao [(1, .m (.c (.p 1 0))), (3, .m (.c (.p 3 0))), (4, .m (.c (.p 4 0))), (5, .m (.c (.p 5 0))), (7, .m (.c (.p 7 0))), (8, .m (ii 0)), (9, .m (.c (.p 9 0))), (10, .m (ii 0)), (12, .m (ii 7))] [(1, .live (.box c2.ce)), (3, .live (.box rw2.ce)), (4, .live (.box rr.ce)), (5, .live (.box cA.ce)), (7, .live (.box gB.ce)), (9, .live (.box gC.ce))] ⟨by kernel_rfl, by kernel_rfl, by kernel_rfl, by kernel_rfl, by kernel_rfl, by kernel_rfl, by kernel_rfl, by kernel_rfl, by kernel_rfl, trivial⟩ ⟨by kernel_rfl, by kernel_rfl, by kernel_rfl, by kernel_rfl, by kernel_rfl, by kernel_rfl, trivial⟩ (by kernel_rfl)) ?_
  repeat (first | (refine zaj rfl ?_; first | refine zak ?_ | refine gdr (zaa rfl rfl rfl (hD) (by kernel_rfl)) ?_) | refine zac rfl ?_ | refine zab (fun K hK => ?_))
  first
    | (refine hK _ ?_; clear hK K)
    | (rename_i K1 hK1; refine hK1 _ ?_; clear hK hK1; clear K)
    | (rename_i K1 hK1; refine hK1 _ ?_; clear hK1)
  refine zd6 (zao [(1, .m (.c (.p 1 0))), (3, .m (.c (.p 3 0))), (4, .m (.c (.p 4 0))), (5, .m (.c (.p 5 0))), (7, .m (.c (.p 7 0))), (8, .m (ii 0)), (9, .m (.c (.p 9 0))), (10, .m (ii 0)), (12, .m (ii 7)), (14, .m (ii 5))] [(1, .live (.box c2.ce)), (3, .live (.box rw2.ce)), (4, .live (.box rr.ce)), (5, .live (.box cA.ce)), (7, .live (.box gB.ce)), (9, .live (.box gC.ce))] ⟨by kernel_rfl, by kernel_rfl, by kernel_rfl, by kernel_rfl, by kernel_rfl, by kernel_rfl, by kernel_rfl, by kernel_rfl, by kernel_rfl, by kernel_rfl, trivial⟩ ⟨by kernel_rfl, by kernel_rfl, by kernel_rfl, by kernel_rfl, by kernel_rfl, by kernel_rfl, trivial⟩ (by kernel_rfl)) ?_
  repeat (first | (refine zaj rfl ?_; first | refine zak ?_ | refine gdr (zaa rfl rfl rfl (hL) (by kernel_rfl)) ?_) | refine zac rfl ?_ | refine zab (fun K hK => ?_))
  first
    | (refine hK _ ?_; clear hK K)
    | (rename_i K1 hK1; refine hK1 _ ?_; clear hK hK1; clear K)
    | (rename_i K1 hK1; refine hK1 _ ?_; clear hK1)
  refine zd6 (zao [(1, .m (.c (.p 1 0))), (3, .m (.c (.p 3 0))), (4, .m (.c (.p 4 0))), (5, .m (.c (.p 5 0))), (7, .m (.c (.p 7 0))), (8, .m (ii 0)), (9, .m (.c (.p 9 0))), (10, .m (ii 0)), (12, .m (ii 7)), (14, .m (ii 5)), (15, .m (.c (.s 1 8 (flP [⟨20480, 4096, 0, true, false, false, false, false⟩]))))] [(1, .live (.box c2.ce)), (3, .live (.box rw2.ce)), (4, .live (.box rr.ce)), (5, .live (.box cA.ce)), (7, .live (.box gB.ce)), (9, .live (.box gC.ce))] ⟨by kernel_rfl, by kernel_rfl, by kernel_rfl, by kernel_rfl, by kernel_rfl, by kernel_rfl, by kernel_rfl, by kernel_rfl, by kernel_rfl, by kernel_rfl, by kernel_rfl, trivial⟩ ⟨by kernel_rfl, by kernel_rfl, by kernel_rfl, by kernel_rfl, by kernel_rfl, by kernel_rfl, trivial⟩ (by kernel_rfl)) ?_
  repeat (first | (refine zaj rfl ?_; first | refine zak ?_) | refine zam (by kernel_rfl) (by kernel_rfl) rfl ?_ | refine zab (fun K hK => ?_))
  refine zaj rfl ?_
  refine zdg (zb8 (b := 61) (l := [.c (.s gB.fs.length 4 (flF gB.fs)), .c (.o 61)]) rfl rfl rfl (by kernel_rfl) rfl (by kernel_rfl) (zdo (by kernel_rfl) hS)) (by kernel_rfl) ?_
  repeat (first | (refine zaj rfl ?_; first | refine zak ?_ | refine gdr (zd7 (us := [.bool true, .bool false, .bool false, .bool false]) (vs := [.bool true, .bool false, .bool false, .bool false]) he (by kernel_rfl) rfl rfl rfl rfl) ?_))
  refine zaj rfl ?_
  refine zdg (zb8 (b := 107) (l := [.c (.o 107), .ag [cb true, cb false, cb false, cb false]]) rfl rfl rfl (by kernel_rfl) rfl (by kernel_rfl) (zdo (by kernel_rfl) hZ)) (by kernel_rfl) ?_
  repeat (first | (refine zaj rfl ?_; first | refine zak ?_) | (refine hK _ ?_; clear hK K) | exact zah (show zar _ _ _ = some _ by kernel_rfl))
end Go.Proofs.YtmkjfeamgknpfaaGreatDoor.LmH
namespace Go.Proofs.YtmkjfeamgknpfaaGreatDoor.LaJ
open Go.RowKit Bv VaSpec Base MemL RegR Ax MemC PutC MemC3 TzC OkS SpA SpB SpC SpD SpE SpF SpG SpH SpI SpJ SpK SpN RfD RfE LaA LaB LaC LaD LaE LaF LaG LaH LaI RlB RlC
open BitsC PteSpec
set_option maxRecDepth 10000
set_option maxHeartbeats 1000000
attribute [local irreducible] Ax.zb0
structure Rq where
  id : Int
  va : Int
  pa : Int
  lev : Int
  p : Pm
deriving DecidableEq
def Rq.ce (q : Rq) : List Ce := [ci q.id, cu q.va, cu q.pa, ci q.lev, cb q.p.r, cb q.p.w, cb q.p.x, cb q.p.u]
def Rq.vs (q : Rq) : List Value := [.int .i64 q.id, .int .u64 q.va, .int .u64 q.pa, .int .i64 q.lev, .bool q.p.r, .bool q.p.w, .bool q.p.x, .bool q.p.u]
theorem z0u {n : Nat} {k : Kr} (h : InvL n k) (hn : n ≤ 100000) : Ok 13 [.ag k.ce, .ag k.ce] (.m (ib true)) ∧ Ok 20 [.ag k.ce] (.m (.ag k.ce)) := by
  have b1 := h.ml
  have b2 := h.fl
  have b3 := h.sl
  exact ⟨SpM.z14 k h.ts h.cs.2 (by omega) (by omega) (by omega), SpM.zwj k h.ts h.cs.2 (by omega) (by omega) (by omega)⟩
end Go.Proofs.YtmkjfeamgknpfaaGreatDoor.LaJ
namespace Go.Proofs.YtmkjfeamgknpfaaGreatDoor.LmI
open Go.RowKit Bv VaSpec Base MemL RegR Ax MemC PutC MemC3 TzC OkS SpA SpB SpC SpF SpH SpI SpJ LaA LaB LaC LaD LaE LaF LaG LiA LiB LiC LiD LiE LiF SpE SpG SpK SpO SpL SpN RfA RfB RfC RfD RfE RfJ RfK RlA RlB RlC LaH LaI LaJ LjA LjB LjF LiF LkE LmA LmB LmE LmF LmG LmH
open BitsC PteSpec
set_option maxRecDepth 10000
set_option maxHeartbeats 1000000
attribute [local irreducible] Ax.zb0
section
attribute [local semireducible] Ax.zb0
theorem znb {P : Program} {ops : Array Oper} {X : Cx} {o : Oper} {S : St} {k : FuncId} {xs : Array Operand} {ts : Array TypeId} {l : List Cm} {r : AV} (ho : o.op = .call { callee := .value (.func k), args := xs, argTypes := ts }) (hw : zau ops S o = true) (hk : zb3 P k = true) (hl : zif S xs.toList = some l) (hc : zb0 P X.G k (l.map (zgz S.hp)) r) : za8 P ops X o S ⟨.m (.c .any), [], (l.flatMap idM).map .all⟩ := fun S2 a w h1 h2 h3 ⟨τ, hS⟩ => by
  refine .inl ⟨zbo hw h1 h3 hS, ?_⟩
  rw [zfz ho hk]
  obtain ⟨c1, c2, hc⟩ := hc
  have hR := ze0 (S := S) (E := env X S2.hp τ w) (a := a) xs.toList l hl (fun x hx => by
    have hm : x ∈ o.op.operands := by rw [ho]; simp [Op.operands, Call.operands]; exact .inr (by simpa using hx)
    rw [← zca h1 hm]; exact hS.ev x (fun t e => h3 t (.inl (zbn (e ▸ hm)))))
  have hsh : l.map (zgz S2.hp) = l.map (zgz S.hp) := List.map_congr_left fun m hm => zk1 fun b hb => h2 (.all b) (by simp [Ef.foot]; exact ⟨m, hm, hb⟩)
  have hR1 := znz hS _ _ hR
  rw [hsh] at hR1
  have hR' := zc6 (F := en0 (fun g => X.A0 g ∨ X.base ≤ g) w) (E := ⟨fun g => X.A0 g ∨ X.base ≤ g, fun b => S2.hp b ≠ .fresh, τ, w⟩) rfl (fun _ _ h => h) _ _ c2 hR1
  refine (hc (fun g => X.A0 g ∨ X.base ≤ g) w (xs.map a.eval) (X.hG w hS.bel) (by simpa using hR')).mono ?_
  rintro e w' ⟨v, rfl, hb, hr⟩
  exact ⟨v, rfl, τ, hS.below hb trivial⟩
end
def zx0 (l : List Dg) : List Value := l.flatMap Dg.vs
theorem zx1 {l : List Dg} {k : Nat} {d : Dg} (h : l[k]? = some d) : ((zx0 l).drop (k * 9)).take 9 = [.int .u8 d.k, .int .i64 d.id, .int .u64 d.va, .int .u64 d.pa, .int .i64 d.lev, .bool d.p.r, .bool d.p.w, .bool d.p.x, .bool d.p.u] := zfo Dg.vs 9 (fun _ => rfl) l _ d h
def zrf (l : List Dg) (e : Dg) (i : Nat) (k : Kr) : St := St.of [(1, .m (.c (.s l.length 9 (zx0 l)))), (5, .m (.c (.p 5 0))), (6, .m (ib false)), (7, .m (.c (.p 7 0))), (9, .m (ii i))] [(5, .live (.box e.ce)), (7, .live (.box k.ce))]
theorem keeps4_ok (a b c d : Int) (l : List Dg) (e : Dg) (hl : ∀ x ∈ l, UG x) (he : UG e) : Ok 7 [zkz a b c d, .c (.s l.length 9 (zx0 l)), .ag e.ce] (.m (ib true)) := by
  have hm := zwk a b c d
  cases hc : zge a b c d with
  | false =>
    rw [hc] at hm
    refine zad 75 Tryz.func7 rfl rfl rfl rfl ?_ GG.to
    intro W A hG
    repeat (first | (refine zaj rfl ?_; first | refine zak ?_ | refine gdr (zaa rfl rfl rfl (zex) (by kernel_rfl)) ?_ | refine gdr (zaa rfl rfl rfl (hm) (by kernel_rfl)) ?_) | (refine hK _ ?_; clear hK K) | refine zac rfl ?_ | exact zah (show zar _ _ _ = some _ by kernel_rfl) | refine zaf rfl rfl ?_ | refine zab (fun K hK => ?_))
  | true =>
    rw [hc] at hm
    by_cases hlen : 15 < l.length
    · refine zad 75 Tryz.func7 rfl rfl rfl rfl ?_ GG.to
      intro W A hG
      repeat (first | (refine zaj rfl ?_; first | refine zak ?_ | refine gdr (zaa rfl rfl rfl (zex) (by kernel_rfl)) ?_ | refine gdr (zaa rfl rfl rfl (hm) (by kernel_rfl)) ?_) | (refine hK _ ?_; clear hK K) | refine zac rfl ?_ | exact zah (show zar _ _ _ = some _ by kernel_rfl) | refine zaf rfl rfl ?_ | refine zab (fun K hK => ?_))
    obtain ⟨n, rfl⟩ := Int.eq_ofNat_of_zero_le (zde.1 hc).2.2.2.1
    have hb := zkl a b c n hc
    have hbi := zq2 hc
    generalize bgK a b c n = bk at *
    refine zad 75 Tryz.func7 rfl rfl rfl rfl ?_ GG.to
    intro W A hG
    repeat (first | (refine zaj rfl ?_; first | refine zak ?_ | refine gdr (zaa rfl rfl rfl (zex) (by kernel_rfl)) ?_ | refine gdr (zaa rfl rfl rfl (hm) (by kernel_rfl)) ?_ | refine gdr (zaa rfl rfl rfl (hb) (by kernel_rfl)) ?_) | (refine hK _ ?_; clear hK K) | refine zac rfl ?_ | refine zae rfl rfl ?_ | refine zag ?_ | refine zai ?_ | refine zab (fun K hK => ?_))
    refine zay (α := Nat × Kr) (fun w => w.1 ≤ l.length ∧ InvT (2 + 1100 * w.1) w.2) (fun w => zrf l e w.1 w.2) (fun w => l.length - w.1) (0, bk) ⟨Nat.zero_le _, hbi⟩ (zao _ _ ⟨by kernel_rfl, by kernel_rfl, by kernel_rfl, by kernel_rfl, by kernel_rfl, trivial⟩ ⟨by kernel_rfl, by kernel_rfl, trivial⟩ (by kernel_rfl)) ?_
    rintro ⟨i, k⟩ ⟨hi0, hk0⟩
    have hi : i ≤ l.length := hi0
    have hk : InvT (2 + 1100 * i) k := hk0
    show Aw _ _ _ _ (zrf l e i k)
    unfold zrf
    by_cases hlt : i < l.length
    · obtain ⟨x, hx0⟩ : ∃ x, l[i]? = some x := ⟨_, List.getElem?_eq_getElem hlt⟩
      have hx := zx1 hx0
      have h8 := hl x (List.mem_of_getElem? hx0)
      have hd := z0t hk (by omega) h8
      have hdi := zxz hk h8
      generalize dgR k x = rr at *
      repeat (first | (refine zaj rfl ?_; first | refine zak ?_ | refine gdr (zaa rfl rfl rfl (hd) (by kernel_rfl)) ?_) | (refine hK _ ?_; clear hK K) | refine zac rfl ?_ | refine zam (by kernel_rfl) (by kernel_rfl) rfl ?_ | refine zaf rfl rfl ?_ | refine zag ?_ | refine zai ?_ | refine zab (fun K hK => ?_))
      exact ⟨(i + 1, rr.1), ⟨by show i + 1 ≤ l.length; omega, hdi⟩, by show l.length - (i + 1) < l.length - i; omega, zao _ _ ⟨by kernel_rfl, by kernel_rfl, by kernel_rfl, by kernel_rfl, by kernel_rfl, trivial⟩ ⟨by kernel_rfl, by kernel_rfl, trivial⟩ (by kernel_rfl)⟩
    · have hd := zdl hk (by omega) e.id e.va e.lev e.p he.2.1
      obtain ⟨hsm, hcp⟩ := z0u hk.l (by omega)
      have hls := zmx hk.l (by omega) 0
      have hll := zoz k 0
      have hsp := zsq (zeu k 0) hll
      have hle := zhi (zeu k 0) e.p hll
      generalize prR k e.id e.va e.lev e.p = rr at *
      generalize zbm (zeu k 0) e.p = LL at *
      generalize zeu k 0 = ll at *
      repeat (first | (refine zaj rfl ?_; first | refine zak ?_ | refine gdr (zaa rfl rfl rfl (hcp) (by kernel_rfl)) ?_ | refine gdr (zaa rfl rfl rfl (hd) (by kernel_rfl)) ?_ | refine gdr (zaa rfl rfl rfl (hls) (by kernel_rfl)) ?_ | refine gdr (zcb rfl rfl rfl rfl rfl rfl rfl rfl rfl rfl rfl rfl (zmm ll) (by omega)) ?_) | (refine hK _ ?_; clear hK K) | (rename_i K1 hK1; refine hK1 _ ?_; clear hK hK1; clear K) | refine zac rfl ?_ | refine zae rfl rfl ?_ | refine zal ?_ | refine zab (fun K hK => ?_))
      refine zaj rfl ?_
      refine zdg (znb (l := [.c (.o 62), .ag [cb e.p.r, cb e.p.w, cb e.p.x, cb e.p.u]]) rfl rfl rfl (by kernel_rfl) (zdo (by kernel_rfl) hle)) (by kernel_rfl) ?_
      repeat (first | (refine zaj rfl ?_; first | refine zak ?_ | refine gdr (zaa rfl rfl rfl (hsm) (by kernel_rfl)) ?_) | (refine hK _ ?_; clear hK K) | refine zac rfl ?_ | refine zab (fun K hK => ?_))
      refine zaj rfl ?_
      refine zdg (zb8 (b := 62) (l := [.c (.o 62), .c (.s ll.length 8 (flP ll))]) rfl rfl rfl (by kernel_rfl) rfl (by kernel_rfl) (zdo (by kernel_rfl) hsp)) (by kernel_rfl) ?_
      repeat (first | (refine zaj rfl ?_; first | refine zak ?_) | (refine hK _ ?_; clear hK K) | exact zah (show zar _ _ _ = some _ by kernel_rfl))
def zrg (l : List Dg) (p : Pm) (i : Nat) (k : Kr) : St := St.of [(1, .m (.c (.s l.length 9 (zx0 l)))), (5, .m (.c (.p 5 0))), (6, .m (ib false)), (7, .m (.c (.p 7 0))), (8, .m (.c (.p 8 0))), (9, .m (ii i))] [(5, .live (.box [cb p.r, cb p.w, cb p.x, cb p.u])), (7, .live (.box k.ce)), (8, .live (.box k.ce))]
theorem prots4_ok (a b c d : Int) (l : List Dg) (p : Pm) (hl : ∀ x ∈ l, UG x) : Ok 6 [zkz a b c d, .c (.s l.length 9 (zx0 l)), .ag [cb p.r, cb p.w, cb p.x, cb p.u]] (.m (ib true)) := by
  have hm := zwk a b c d
  cases hc : zge a b c d with
  | false =>
    rw [hc] at hm
    refine zad 77 Tryz.func6 rfl rfl rfl rfl ?_ GG.to
    intro W A hG
    repeat (first | (refine zaj rfl ?_; first | refine zak ?_ | refine gdr (zaa rfl rfl rfl (zex) (by kernel_rfl)) ?_ | refine gdr (zaa rfl rfl rfl (hm) (by kernel_rfl)) ?_) | (refine hK _ ?_; clear hK K) | refine zac rfl ?_ | exact zah (show zar _ _ _ = some _ by kernel_rfl) | refine zaf rfl rfl ?_ | refine zab (fun K hK => ?_))
  | true =>
    rw [hc] at hm
    by_cases hlen : 25 < l.length
    · refine zad 77 Tryz.func6 rfl rfl rfl rfl ?_ GG.to
      intro W A hG
      repeat (first | (refine zaj rfl ?_; first | refine zak ?_ | refine gdr (zaa rfl rfl rfl (zex) (by kernel_rfl)) ?_ | refine gdr (zaa rfl rfl rfl (hm) (by kernel_rfl)) ?_) | (refine hK _ ?_; clear hK K) | refine zac rfl ?_ | exact zah (show zar _ _ _ = some _ by kernel_rfl) | refine zaf rfl rfl ?_ | refine zab (fun K hK => ?_))
    obtain ⟨n, rfl⟩ := Int.eq_ofNat_of_zero_le (zde.1 hc).2.2.2.1
    have hb := zkl a b c n hc
    have hbi := zq2 hc
    generalize bgK a b c n = bk at *
    refine zad 77 Tryz.func6 rfl rfl rfl rfl ?_ GG.to
    intro W A hG
    repeat (first | (refine zaj rfl ?_; first | refine zak ?_ | refine gdr (zaa rfl rfl rfl (zex) (by kernel_rfl)) ?_ | refine gdr (zaa rfl rfl rfl (hm) (by kernel_rfl)) ?_ | refine gdr (zaa rfl rfl rfl (hb) (by kernel_rfl)) ?_) | (refine hK _ ?_; clear hK K) | refine zac rfl ?_ | refine zae rfl rfl ?_ | refine zag ?_ | refine zai ?_ | refine zab (fun K hK => ?_))
    refine zay (α := Nat × Kr) (fun w => w.1 ≤ l.length ∧ InvT (2 + 1100 * w.1) w.2) (fun w => zrg l p w.1 w.2) (fun w => l.length - w.1) (0, bk) ⟨Nat.zero_le _, hbi⟩ (zao _ _ ⟨by kernel_rfl, by kernel_rfl, by kernel_rfl, by kernel_rfl, by kernel_rfl, by kernel_rfl, trivial⟩ ⟨by kernel_rfl, by kernel_rfl, by kernel_rfl, trivial⟩ (by kernel_rfl)) ?_
    rintro ⟨i, k⟩ ⟨hi0, hk0⟩
    have hi : i ≤ l.length := hi0
    have hk : InvT (2 + 1100 * i) k := hk0
    show Aw _ _ _ _ (zrg l p i k)
    unfold zrg
    by_cases hlt : i < l.length
    · obtain ⟨x, hx0⟩ : ∃ x, l[i]? = some x := ⟨_, List.getElem?_eq_getElem hlt⟩
      have hx := zx1 hx0
      have h8 := hl x (List.mem_of_getElem? hx0)
      have hd := z0t hk (by omega) h8
      have hdi := zxz hk h8
      have hd2 := zz1 hk (by omega) h8
      generalize dgR k x = rr at *
      obtain ⟨hsm, -⟩ := z0u hdi.l (by omega)
      repeat (first | (refine zaj rfl ?_; first | refine zak ?_ | refine gdr (zaa rfl rfl rfl (hd) (by kernel_rfl)) ?_ | refine gdr (zaa rfl rfl rfl (hd2) (by kernel_rfl)) ?_ | refine gdr (zaa rfl rfl rfl (hsm) (by kernel_rfl)) ?_) | (refine hK _ ?_; clear hK K) | refine zac rfl ?_ | refine zam (by kernel_rfl) (by kernel_rfl) rfl ?_ | refine zaf rfl rfl ?_ | refine zae rfl rfl ?_ | refine zag ?_ | refine zai ?_ | refine zab (fun K hK => ?_))
      exact ⟨(i + 1, rr.1), ⟨by show i + 1 ≤ l.length; omega, hdi⟩, by show l.length - (i + 1) < l.length - i; omega, zao _ _ ⟨by kernel_rfl, by kernel_rfl, by kernel_rfl, by kernel_rfl, by kernel_rfl, by kernel_rfl, trivial⟩ ⟨by kernel_rfl, by kernel_rfl, by kernel_rfl, trivial⟩ (by kernel_rfl)⟩
    · have hls := zmx hk.l (by omega) 0
      have hll := zoz k 0
      have h1 := zhi (zeu k 0) p hll
      have h2 := zlq (zeu k 0) p hll
      replace h2 : Ok 28 [.c (.s (zeu k 0).length 8 (flP (zeu k 0))), .ag [cb p.r, cb p.w, cb p.x, cb p.u]] (.m (.c (.s (zbm (zeu k 0) p).length 8 (flP (zbm (zeu k 0) p))))) := h2
      have h3 := zsq (zbm (zeu k 0) p) (Nat.le_trans (List.length_filter_le ..) hll)
      generalize zbm (zeu k 0) p = LL at *
      generalize zeu k 0 = ll at *
      repeat (first | (refine zaj rfl ?_; first | refine zak ?_ | refine gdr (zaa rfl rfl rfl (hls) (by kernel_rfl)) ?_ | refine gdr (zaa rfl rfl rfl (h1) (by kernel_rfl)) ?_ | refine gdr (zaa rfl rfl rfl (h2) (by kernel_rfl)) ?_ | refine gdr (zaa rfl rfl rfl (h3) (by kernel_rfl)) ?_) | (refine hK _ ?_; clear hK K) | (rename_i K1 hK1; refine hK1 _ ?_; clear hK hK1; clear K) | refine zac rfl ?_ | refine zam (by kernel_rfl) (by kernel_rfl) rfl ?_ | exact zah (show zar _ _ _ = some _ by kernel_rfl) | refine zae rfl rfl ?_ | refine zal ?_ | refine zab (fun K hK => ?_))
end Go.Proofs.YtmkjfeamgknpfaaGreatDoor.LmI
namespace Go.Proofs.YtmkjfeamgknpfaaGreatDoor.Open
open Go.RowKit Go.WideShapes Go.ChangeShapes Base
set_option maxRecDepth 10000
section
variable {H : Type} {enc : TypeId × Value → H} {P : Program}
theorem keepAll (hl : laidOutB P = true) {W W' : World} (hb : Below W.heap.size W W') : ∀ {ts : List TypeId} {vs : List Value} {ds : List (DataW H)} {ps : List MemPlace},
    (ts.all fun t => P.readableRec t && decide (t < P.types.size)) = true → DataW.TrodAll enc P W 0 (fun _ => true) true ts vs ds ps → DataW.TrodAll enc P W' 0 (fun b => decide (b < W.heap.size)) true ts vs ds ps
  | [], [], [], _, _, h => h
  | t :: ts, v :: vs, d :: ds, ps, ht, ⟨a, b, h1, h2, e⟩ => by
    simp only [List.all_cons, Bool.and_eq_true, decide_eq_true_eq] at ht
    have h1' := h1
    obtain ⟨n, hn⟩ := h1
    exact ⟨a, b, Below.trod hl ht.1.1 ht.1.2 h1' hb (fun x hx => DataW.trod_lt n t _ _ hn x hx), keepAll hl hb ht.2 h2, e⟩
end
section
variable {H : Type} {enc : TypeId × Value → H} {W : World} {base b0 : Nat} {sp : Nat → Bool} {held : Bool} {n : Nat} {r : Reach}
theorem zdv {c : Value} {x : Option (DataW H × List MemPlace)} {y : DataW H × List MemPlace} (h : DataW.trod enc Tryz.prog W base sp held n 4 [c] = x) (hx : x = some y) : ∃ b, c = .bool b := by
  rw [hx] at h
  obtain ⟨b, e, _⟩ := DataW.trod_bool Tryz.underlying4 h
  exact ⟨b, by simpa using e⟩
theorem zs2 {c : Value} {x : Option (DataW H × List MemPlace)} {y : DataW H × List MemPlace} (h : DataW.trod enc Tryz.prog W base sp held n 25 [c] = x) (hx : x = some y) : ∃ a, c = .int .u64 a ∧ U a := by
  rw [hx] at h
  obtain ⟨b, e, _, wf⟩ := DataW.trod_int Tryz.underlying25 h
  exact ⟨b, by simpa using e, U.of wf⟩
theorem zgd {c : Value} {x : Option (DataW H × List MemPlace)} {y : DataW H × List MemPlace} (h : DataW.trod enc Tryz.prog W base sp held n 3 [c] = x) (hx : x = some y) : ∃ a, c = .int .i64 a ∧ (-9223372036854775808 ≤ a ∧ a ≤ 9223372036854775807) := by
  rw [hx] at h
  obtain ⟨b, e, _, wf⟩ := DataW.trod_int Tryz.underlying3 h
  refine ⟨b, by simpa using e, ?_⟩
  simp [Lit.wf, IntKind.min, IntKind.max, IntKind.bits, IntKind.signed] at wf; omega
theorem zcm {α : Type} {xs : List α} {m i : Nat} (h : xs.length = m) (hi : i < m) : ∃ y, xs[i]? = some y := ⟨xs[i]'(by omega), List.getElem?_eq_getElem _⟩
end
end Go.Proofs.YtmkjfeamgknpfaaGreatDoor.Open
namespace Go.Proofs.YtmkjfeamgknpfaaGreatDoor.Laid
open Go.ChangeShapes Go.WideShapes Go.ChangeAt Go.RowKit Ax OkS LaC LaB Bv Base SpA LmH LmI SpN MemL
set_option maxRecDepth 10000
def laidS : List (String × DataW Unit) := [("atlas/va.sizes", Rows.laid_atlas_va_sizes), ("math/bits.deBruijn64tab", Rows.laid_math_bits_deBruijn64tab), ("atlas/fence.asks", Rows.laid_atlas_fence_asks)]
theorem g_sizes : Tryz.prog.globalNamed "atlas/va.sizes" = some 0 := by kernel_rfl
theorem g_tab : Tryz.prog.globalNamed "math/bits.deBruijn64tab" = some 1 := by kernel_rfl
theorem g_asks : Tryz.prog.globalNamed "atlas/fence.asks" = some 2 := by kernel_rfl
theorem t_sizes : (Tryz.prog.globals[0]?).map (·.type) = some 192 := by kernel_rfl
theorem t_tab : (Tryz.prog.globals[1]?).map (·.type) = some 225 := by kernel_rfl
theorem t_asks : (Tryz.prog.globals[2]?).map (·.type) = some 244 := by kernel_rfl
theorem gg_of_laid {W : World} (h : laidMetH Tryz.prog laidS W) : GG W := by
  have hp := (show laidMet Tryz.prog _ W ∧ handlesMet Tryz.prog _ W from h).1
  obtain ⟨ps, ⟨g1, t1, cs1, f1, p1, q1, hg1, ht1, hv1, hd1, hr, _⟩, _, _⟩ := hp
  obtain ⟨g2, t2, cs2, f2, p2, q2, hg2, ht2, hv2, hd2, _, _⟩ := hr
  obtain rfl := Option.some.inj (g_sizes.symm.trans hg1)
  obtain rfl := Option.some.inj (t_sizes.symm.trans ht1)
  obtain rfl := Option.some.inj (g_tab.symm.trans hg2)
  obtain rfl := Option.some.inj (t_tab.symm.trans ht2)
  have e1 := Lib.cells_of_tab (k := .u64) (zs := [4096, 2097152, 1073741824]) Tryz.underlying192 Tryz.underlying25 (by kernel_rfl) (by kernel_rfl) hd1
  have e2 := Lib.cells_of_tab (k := .u8) (zs := List.map (fun n : Nat => (n : Int)) Lib.deBruijn64tab) Tryz.underlying225 Tryz.underlying5 (by kernel_rfl) (by kernel_rfl) hd2
  obtain ⟨g, t, cs, fuel, p, hg, ht, hv, hd⟩ := h.funcs (n := "atlas/fence.asks") (List.mem_cons_of_mem _ (List.mem_cons_of_mem _ (List.mem_cons_self ..)))
  obtain rfl := Option.some.inj (g_asks.symm.trans hg)
  obtain rfl := Option.some.inj (t_asks.symm.trans ht)
  have hd' : DataW.trod (funcToken Tryz.prog) Tryz.prog W 0 (fun _ => true) true fuel 244 cs.toList = some (.slice [.held [40, 97, 116, 108, 97, 115, 47, 102, 101, 110, 99, 101, 46, 102, 111, 114, 109, 41, 46, 97, 100, 100, 114], .held [40, 97, 116, 108, 97, 115, 47, 102, 101, 110, 99, 101, 46, 102, 111, 114, 109, 41, 46, 97, 115, 105, 100]] [], p) := hd
  obtain ⟨a, cap, hcs, _, hel⟩ := open_row Tryz.underlying244 (by kernel_rfl) hd'
  obtain ⟨v0, n0, q0, hc0, hr0⟩ := hel 0 _ rfl
  obtain ⟨v1, n1, q1', hc1, hr1⟩ := hel 1 _ rfl
  obtain rfl := func_of_trod (f0 := 220) Tryz.underlying245 (by kernel_rfl) hr0
  obtain rfl := func_of_trod (f0 := 222) Tryz.underlying245 (by kernel_rfl) hr1
  obtain ⟨b, off, spot⟩ := a
  have hspot : spot = none := by simpa [Addr.add] using World.cell?_spot hc0
  subst hspot
  have c1 : ∀ i, W.cell? ⟨0, i, none⟩ = cs1[i]? := fun i => by simpa using World.var?_cell hg1 hv1 i
  have c2 : ∀ i, W.cell? ⟨1, i, none⟩ = cs2[i]? := fun i => by simpa using World.var?_cell hg2 hv2 i
  have c3 : ∀ i, W.cell? ⟨2, i, none⟩ = cs[i]? := fun i => by simpa using World.var?_cell hg hv i
  refine ⟨⟨?_, ?_, ?_⟩, fun j hj => ?_, b, off, cap, ?_, by simpa [Addr.add, z3d] using hc0, by simpa [Addr.add, z3d] using hc1⟩
  · rw [c1, ← Array.getElem?_toList, e1]; rfl
  · rw [c1, ← Array.getElem?_toList, e1]; rfl
  · rw [c1, ← Array.getElem?_toList, e1]; rfl
  · rw [c2, ← Array.getElem?_toList, e2]
    simp [List.getD, hj]
  · rw [c3, ← Array.getElem?_toList, hcs]; rfl
section
variable {H : Type} {enc : TypeId × Value → H} {W : World} {base b0 : Nat} {sp : Nat → Bool} {held : Bool} {n : Nat} {r : Reach}
theorem z3b {c : Value} {x : Option (DataW H × List MemPlace)} {y : DataW H × List MemPlace} (h : DataW.trod enc Tryz.prog W base sp held n 5 [c] = x) (hx : x = some y) : ∃ a, c = .int .u8 a ∧ (0 ≤ a ∧ a < 256) := by
  rw [hx] at h
  obtain ⟨b, e, _, wf⟩ := DataW.trod_int Tryz.underlying5 h
  refine ⟨b, by simpa using e, ?_⟩
  simp [Lit.wf, IntKind.min, IntKind.max, IntKind.bits, IntKind.signed] at wf; omega
theorem open_conf {v : Value} {d : DataW H} {p : List MemPlace} (hv : Value.okWide Tryz.prog W r b0 23 v) (h : DataW.Trod enc Tryz.prog W base sp held 23 v d p) :
    ∃ x0 x1 x2 x3, v = .agg #[.int .i64 x0, .int .i64 x1, .int .i64 x2, .int .i64 x3] := by
  obtain ⟨⟨l⟩, rfl, hsz⟩ := okWide_struct Tryz.underlying23 hv
  rw [show Tryz.prog.cellsOf 23 = 4 by kernel_rfl] at hsz
  obtain ⟨fuel, hf⟩ := h
  obtain ⟨xs, n, _, _, _, hlen, hfd⟩ := DataW.trod_struct Tryz.underlying23 hf
  match l, hsz with
  | [c0, c1, c2, c3], _ =>
    have g := fun i f (e : _ = some f) => hfd i f e
    have k4 : Tryz.prog.cellsOf 3 = 1 := by kernel_rfl
    have hl : xs.length = 4 := hlen
    have h0 : DataW.trod enc Tryz.prog W base sp held n 3 [c0] = xs[0]? := by have := g 0 _ rfl; simpa [Value.cells, k4] using this
    obtain ⟨y0, q0⟩ := Open.zcm hl (show 0 < 4 by decide)
    obtain ⟨x0, rfl, _⟩ := Open.zgd (c := c0) h0 q0
    have h1 : DataW.trod enc Tryz.prog W base sp held n 3 [c1] = xs[1]? := by have := g 1 _ rfl; simpa [Value.cells, k4] using this
    obtain ⟨y1, q1⟩ := Open.zcm hl (show 1 < 4 by decide)
    obtain ⟨x1, rfl, _⟩ := Open.zgd (c := c1) h1 q1
    have h2 : DataW.trod enc Tryz.prog W base sp held n 3 [c2] = xs[2]? := by have := g 2 _ rfl; simpa [Value.cells, k4] using this
    obtain ⟨y2, q2⟩ := Open.zcm hl (show 2 < 4 by decide)
    obtain ⟨x2, rfl, _⟩ := Open.zgd (c := c2) h2 q2
    have h3 : DataW.trod enc Tryz.prog W base sp held n 3 [c3] = xs[3]? := by have := g 3 _ rfl; simpa [Value.cells, k4] using this
    obtain ⟨y3, q3⟩ := Open.zcm hl (show 3 < 4 by decide)
    obtain ⟨x3, rfl, _⟩ := Open.zgd (c := c3) h3 q3
    exact ⟨x0, x1, x2, x3, rfl⟩
theorem addk (b off k : Nat) : (⟨b, off, none⟩ : Addr).add k = ⟨b, off + k, none⟩ := by
  unfold Addr.add; split
  · rename_i h; subst h; rfl
  · rfl
theorem zs3 {cs : List Value} {y : DataW H × List MemPlace} (hsz : cs.length = 9) (hf : DataW.trod enc Tryz.prog W base sp held n 71 cs = some y) : ∃ q : Dg, cs = q.vs ∧ UG q := by
  obtain ⟨xs, n, _, _, _, hlen, hfd⟩ := DataW.trod_struct Tryz.underlying71 hf
  match cs, hsz with
  | [c0, c1, c2, c3, c4, c5, c6, c7, c8], _ =>
    have g := fun i f (e : _ = some f) => hfd i f e
    have k_int : Tryz.prog.cellsOf 3 = 1 := by kernel_rfl
    have k_u64 : Tryz.prog.cellsOf 25 = 1 := by kernel_rfl
    have k_u8 : Tryz.prog.cellsOf 5 = 1 := by kernel_rfl
    have k_bool : Tryz.prog.cellsOf 4 = 1 := by kernel_rfl
    have k_perm : Tryz.prog.cellsOf 52 = 4 := by kernel_rfl
    have hl : xs.length = 6 := hlen
    have h0 : DataW.trod enc Tryz.prog W base sp held n 5 [c0] = xs[0]? := by have := g 0 _ rfl; simpa [Value.cells, k_int, k_u64, k_u8, k_bool, k_perm] using this
    obtain ⟨y0, q0⟩ := Open.zcm hl (show 0 < 6 by decide)
    obtain ⟨x0, rfl, u0⟩ := z3b (c := c0) h0 q0
    have h1 : DataW.trod enc Tryz.prog W base sp held n 3 [c1] = xs[1]? := by have := g 1 _ rfl; simpa [Value.cells, k_int, k_u64, k_u8, k_bool, k_perm] using this
    obtain ⟨y1, q1⟩ := Open.zcm hl (show 1 < 6 by decide)
    obtain ⟨x1, rfl, _⟩ := Open.zgd (c := c1) h1 q1
    have h2 : DataW.trod enc Tryz.prog W base sp held n 25 [c2] = xs[2]? := by have := g 2 _ rfl; simpa [Value.cells, k_int, k_u64, k_u8, k_bool, k_perm] using this
    obtain ⟨y2, q2⟩ := Open.zcm hl (show 2 < 6 by decide)
    obtain ⟨x2, rfl, u2⟩ := Open.zs2 (c := c2) h2 q2
    have h3 : DataW.trod enc Tryz.prog W base sp held n 25 [c3] = xs[3]? := by have := g 3 _ rfl; simpa [Value.cells, k_int, k_u64, k_u8, k_bool, k_perm] using this
    obtain ⟨y3, q3⟩ := Open.zcm hl (show 3 < 6 by decide)
    obtain ⟨x3, rfl, u3⟩ := Open.zs2 (c := c3) h3 q3
    have h4 : DataW.trod enc Tryz.prog W base sp held n 3 [c4] = xs[4]? := by have := g 4 _ rfl; simpa [Value.cells, k_int, k_u64, k_u8, k_bool, k_perm] using this
    obtain ⟨y4, q4⟩ := Open.zcm hl (show 4 < 6 by decide)
    obtain ⟨x4, rfl, _⟩ := Open.zgd (c := c4) h4 q4
    have h5 : DataW.trod enc Tryz.prog W base sp held n 52 [c5, c6, c7, c8] = xs[5]? := by have := g 5 _ rfl; simpa [Value.cells, k_int, k_u64, k_u8, k_bool, k_perm] using this
    obtain ⟨y5, q5⟩ := Open.zcm hl (show 5 < 6 by decide)
    rw [q5] at h5
    obtain ⟨zs, m, _, _, _, hlen2, hfd2⟩ := DataW.trod_struct Tryz.underlying52 h5
    have g2 := fun i f (e : _ = some f) => hfd2 i f e
    have hl2 : zs.length = 4 := hlen2
    have p0 : DataW.trod enc Tryz.prog W base sp held m 4 [c5] = zs[0]? := by have := g2 0 _ rfl; simpa [Value.cells, k_bool] using this
    obtain ⟨z0, w0⟩ := Open.zcm hl2 (show 0 < 4 by decide)
    obtain ⟨b0, rfl⟩ := Open.zdv (c := c5) p0 w0
    have p1 : DataW.trod enc Tryz.prog W base sp held m 4 [c6] = zs[1]? := by have := g2 1 _ rfl; simpa [Value.cells, k_bool] using this
    obtain ⟨z1, w1⟩ := Open.zcm hl2 (show 1 < 4 by decide)
    obtain ⟨b1, rfl⟩ := Open.zdv (c := c6) p1 w1
    have p2 : DataW.trod enc Tryz.prog W base sp held m 4 [c7] = zs[2]? := by have := g2 2 _ rfl; simpa [Value.cells, k_bool] using this
    obtain ⟨z2, w2⟩ := Open.zcm hl2 (show 2 < 4 by decide)
    obtain ⟨b2, rfl⟩ := Open.zdv (c := c7) p2 w2
    have p3 : DataW.trod enc Tryz.prog W base sp held m 4 [c8] = zs[3]? := by have := g2 3 _ rfl; simpa [Value.cells, k_bool] using this
    obtain ⟨z3, w3⟩ := Open.zcm hl2 (show 3 < 4 by decide)
    obtain ⟨b3, rfl⟩ := Open.zdv (c := c8) p3 w3
    exact ⟨⟨x0, x1, x2, x3, x4, ⟨b0, b1, b2, b3⟩⟩, rfl, u0, u2, u3⟩
theorem open_dg {v : Value} {d : DataW H} {p : List MemPlace} (hv : Value.okWide Tryz.prog W r b0 71 v) (h : DataW.Trod enc Tryz.prog W base sp held 71 v d p) :
    ∃ q : Dg, v = .agg #[.int .u8 q.k, .int .i64 q.id, .int .u64 q.va, .int .u64 q.pa, .int .i64 q.lev, .bool q.p.r, .bool q.p.w, .bool q.p.x, .bool q.p.u] ∧ UG q := by
  obtain ⟨⟨l⟩, rfl, hsz⟩ := okWide_struct Tryz.underlying71 hv
  rw [show Tryz.prog.cellsOf 71 = 9 by kernel_rfl] at hsz
  obtain ⟨fuel, hf⟩ := h
  obtain ⟨q, e, hq⟩ := zs3 (cs := l) hsz hf
  exact ⟨q, by rw [e]; rfl, hq⟩
theorem zz2 (l : List Dg) : (zx0 l).length = l.length * 9 := by
  induction l with
  | nil => rfl
  | cons c l ih => show ((_ :: _ :: _ :: _ :: _ :: _ :: _ :: _ :: _ :: zx0 l).length) = _; simp only [List.length_cons, ih]; omega
theorem zs4 : ∀ (l : List Dg) (i j : Nat) (q : Dg), l[i]? = some q → j < 9 → (zx0 l)[i * 9 + j]? = q.vs[j]?
  | [], i, j, q, h, _ => by simp at h
  | x :: l, 0, j, q, h, hj => by
    simp at h; subst h
    show (x.vs ++ zx0 l)[0 * 9 + j]? = _
    rw [Nat.zero_mul, Nat.zero_add, List.getElem?_append_left (by show j < 9; exact hj)]
  | x :: l, i + 1, j, q, h, hj => by
    have := zs4 l i j q (by simpa using h) hj
    show (x.vs ++ zx0 l)[(i + 1) * 9 + j]? = _
    rw [List.getElem?_append_right (by show 9 ≤ _; omega), show (i + 1) * 9 + j - x.vs.length = i * 9 + j by show (i + 1) * 9 + j - 9 = _; omega]
    exact this
theorem open_dgs {v : Value} {d : DataW H} {p : List MemPlace} (hv : Value.okWide Tryz.prog W r b0 68 v) (h : DataW.Trod enc Tryz.prog W base (fun _ => true) held 68 v d p) :
    ∃ l : List Dg, (∀ x ∈ l, UG x) ∧ Ce.R (en0 (fun _ => True) W) (.s l.length 9 (zx0 l)) v := by
  obtain ⟨a, len, cap, rfl⟩ := okWide_slice Tryz.underlying68 hv
  obtain ⟨fuel, hf⟩ := h
  have hf : DataW.trod enc Tryz.prog W base (fun _ => true) held fuel 68 [.slice a len cap] = some (d, p) := hf
  have ke : Tryz.prog.cellsOf 71 = 9 := by kernel_rfl
  rcases Deep.open_slice Tryz.underlying68 hf with ⟨e, _⟩ | ⟨a', len', cap', m, k, D, Pl, e, _, hl, hm, hmm, _, hx⟩
  · simp only [List.cons.injEq, and_true] at e
    refine ⟨[], fun x hx => (by cases hx), ?_⟩
    rw [e]
    exact ⟨⟨rfl, .inl ⟨rfl, rfl⟩⟩, fun a l c e => by cases e⟩
  · simp only [List.cons.injEq, and_true, Value.slice.injEq] at e
    obtain ⟨rfl, rfl, rfl⟩ := e
    have hok : Cell.ok Tryz.prog W r b0 68 (.slice (some a') len cap) := by
      have hv := hv
      unfold Value.okWide at hv
      rw [Tryz.underlying68] at hv
      unfold Cell.okWide at hv
      rw [Tryz.underlying68] at hv
      exact hv
    unfold Cell.ok at hok
    rw [Tryz.underlying68] at hok
    obtain ⟨_, _, _, hsp, row, cells, hsh, _⟩ := hok
    obtain ⟨b, off, spot⟩ := a'
    have hsp : spot = none := hsp
    subst hsp
    have hb : b < W.heap.size := by
      rcases Nat.lt_or_ge b W.heap.size with h | h
      · exact h
      · have hsh : W.shape? b = some (row, cells) := hsh
        unfold World.shape? at hsh
        rw [Array.getElem?_eq_none h] at hsh
        cases hsh
    have ku : ∀ i, i < len → ∃ q : Dg, (∀ j, j < 9 → W.cell? ⟨b, off + (i * 9 + j), none⟩ = q.vs[j]?) ∧ UG q := fun i hi => by
      obtain ⟨cs, g1, g2⟩ := hx i (by rw [hmm]; simp; omega)
      rw [ke] at g1
      obtain ⟨_, hlen, hcell⟩ := World.cells?_some g1
      obtain ⟨q, rfl, hq⟩ := zs3 hlen g2
      refine ⟨q, fun j hj => ?_, hq⟩
      have e0 := hcell j (by omega)
      rw [addk, addk] at e0
      rw [← e0, Nat.add_assoc]
    haveI : Inhabited Dg := ⟨⟨0, 0, 0, 0, 0, ⟨false, false, false, false⟩⟩⟩
    obtain ⟨f, hf⟩ := Deep.choose_lt (α := Dg) (p := fun i q => (∀ j, j < 9 → W.cell? ⟨b, off + (i * 9 + j), none⟩ = q.vs[j]?) ∧ UG q) ku
    have hlen : ((List.range len).map f).length = len := by simp
    refine ⟨(List.range len).map f, fun x hx => ?_, ⟨by rw [zz2], .inr ⟨b, off, cap, by rw [hlen], hb, by rw [hlen]; exact hl, hm, fun i hi => ?_⟩⟩, fun _ _ _ _ => trivial⟩
    · obtain ⟨i, hi, rfl⟩ := List.mem_map.1 hx
      exact (hf i (List.mem_range.1 hi)).2
    · rw [hlen] at hi
      have hi2 : i / 9 < len := by omega
      obtain ⟨e0, _⟩ := hf (i / 9) hi2
      have hg := zs4 ((List.range len).map f) (i / 9) (i % 9) (f (i / 9)) (by simp [hi2]) (by omega)
      have e1 := e0 (i % 9) (by omega)
      rw [show i / 9 * 9 + i % 9 = i by omega] at hg e1
      rw [hg]; exact e1
theorem open_pm {v : Value} {d : DataW H} {p : List MemPlace} (hv : Value.okWide Tryz.prog W r b0 52 v) (h : DataW.Trod enc Tryz.prog W base sp held 52 v d p) :
    ∃ q : Pm, v = .agg #[.bool q.r, .bool q.w, .bool q.x, .bool q.u] ∧ True := by
  obtain ⟨⟨l⟩, rfl, hsz⟩ := okWide_struct Tryz.underlying52 hv
  rw [show Tryz.prog.cellsOf 52 = 4 by kernel_rfl] at hsz
  obtain ⟨fuel, hf⟩ := h
  obtain ⟨zs, m, _, _, _, hlen2, hfd2⟩ := DataW.trod_struct Tryz.underlying52 hf
  match l, hsz with
  | [c0, c1, c2, c3], _ =>
    have k_bool : Tryz.prog.cellsOf 4 = 1 := by kernel_rfl
    have g2 := fun i f (e : _ = some f) => hfd2 i f e
    have hl2 : zs.length = 4 := hlen2
    have p0 : DataW.trod enc Tryz.prog W base sp held m 4 [c0] = zs[0]? := by have := g2 0 _ rfl; simpa [Value.cells, k_bool] using this
    obtain ⟨z0, w0⟩ := Open.zcm hl2 (show 0 < 4 by decide)
    obtain ⟨b0, rfl⟩ := Open.zdv (c := c0) p0 w0
    have p1 : DataW.trod enc Tryz.prog W base sp held m 4 [c1] = zs[1]? := by have := g2 1 _ rfl; simpa [Value.cells, k_bool] using this
    obtain ⟨z1, w1⟩ := Open.zcm hl2 (show 1 < 4 by decide)
    obtain ⟨b1, rfl⟩ := Open.zdv (c := c1) p1 w1
    have p2 : DataW.trod enc Tryz.prog W base sp held m 4 [c2] = zs[2]? := by have := g2 2 _ rfl; simpa [Value.cells, k_bool] using this
    obtain ⟨z2, w2⟩ := Open.zcm hl2 (show 2 < 4 by decide)
    obtain ⟨b2, rfl⟩ := Open.zdv (c := c2) p2 w2
    have p3 : DataW.trod enc Tryz.prog W base sp held m 4 [c3] = zs[3]? := by have := g2 3 _ rfl; simpa [Value.cells, k_bool] using this
    obtain ⟨z3, w3⟩ := Open.zcm hl2 (show 3 < 4 by decide)
    obtain ⟨b3, rfl⟩ := Open.zdv (c := c3) p3 w3
    exact ⟨⟨b0, b1, b2, b3⟩, rfl, trivial⟩
end
end Go.Proofs.YtmkjfeamgknpfaaGreatDoor.Laid
