/- Texts of this claim, one behind the other: LaF, LaG, RefS, RefSet, RfA, RfB, PteR, VaR, RfC, RfD, RfE, RfG, RfJ, RfK, LaH, VaR3, RlA, RlB, RlC, LaI, LaJ, Open, Laid, LiA, LiB, LiC, LiD, LiE, LiF, LjB, LkA, LjC, AxZ, LjD, AxW, LjE, LkB, LkC, LkD, LjA, LjF, LkE, LrA, LrB, LrC, LmA, LmB, LmE, LnA, LnB. -/
import Derived.Test.YtomeaibdedaldaaGreatDoorT3
import Derived.Test.YtomeaibdedaldaaGreatDoorT2
import Derived.OwnWalk
import Derived.ProofKit
import Derived.Carry
import Derived.ChangeOld
import Derived.ChangeArms
import Derived.WideShapes
import Derived.Test.YtomeaibdedaldaaGreatDoorRows
import Derived.LaidMore
import Derived.Lib.LaidTab
import Derived.SevenTiedAt
import Derived.LaidHandle
import Derived.Deep.SlicePairs
import Derived.Defers
set_option linter.unusedVariables false
set_option linter.unusedSimpArgs false
set_option linter.unusedSectionVars false
namespace Go.Proofs.YtomeaibdedaldaaGreatDoor.LaF
open Go.RowKit Bv VaSpec Base MemL RegR Ax MemC PutC MemC3 TzC OkS SpA SpB SpC SpD SpF SpH SpI SpJ SpN SpO LaA LaB LaC LaD LaE
open BitsC PteSpec
set_option maxRecDepth 10000
set_option maxHeartbeats 1000000
structure InvL (n : Nat) (k : Kr) : Prop where
  g : GM k.cd k.cp k.sz k.m k.pf
  cs : k.cs = k.tn ∧ k.tn ≤ 16
  pb : k.pb = k.cd
  pm : k.pm = k.cp
  sh : Al k.cd k.cp k.pf k.sh
  ts : k.ts = zsL k.tn
  ml : k.m.length ≤ n
  fl : k.fs.length ≤ n
  sl : k.ss.length ≤ 32
  ss : ∀ s ∈ k.ss, s.live = true → Al k.cd k.cp k.pf s.root
theorem zy5 {n : Nat} {k : Kr} {s : Int} (h : InvL n k) (ha : Al k.cd k.cp k.pf s) : 0 ≤ s ∧ s < 1099511627776 := by
  have := h.g.bd; have := h.g.bp; have := ha.1; omega
theorem InvL.root {n : Nat} {k : Kr} (h : InvL n k) {id : Int} (hl : zav k id = true) : Al k.cd k.cp k.pf (zfo k id).root := by
  obtain ⟨h0, h1, h2, h3⟩ := zcw hl
  exact h.ss _ (List.mem_of_getElem? h2) h3
def zxg (k : Kr) (id : Int) : List (Int × Int) := zb2 k.m ((zfo k id).root * 512 + 511) 0
noncomputable def zbv (k : Kr) (id : Int) : List Pg := if id = -1 then zcc k.sz k.m 1 k.sh kA else if zav k id = false then [] else zcc k.sz (zxg k id) 2 (zfo k id).root 0
theorem zy6 {n : Nat} {k : Kr} (h : InvL n k) (id : Int) : Srt (zxg k id) ∧ Uw (zxg k id) := by
  refine ⟨zff _ _ _ h.g.s, fun c hc => ?_⟩
  rcases zdw _ _ _ _ hc with hc | ⟨_, hv⟩
  · exact h.g.u c hc
  · exact absurd rfl hv
theorem zxh (k : Nat) : AV.lt (.m (.c (.v (.slice none 0 0)))) (.m (.c (.s 0 k []))) := fun E v h => ltC.nil k E v h
theorem zeo {n : Nat} {k : Kr} (h : InvL n k) (hn : n ≤ 100000) (id : Int) : Ok 14 [.ag k.ce, ii id] (.m (.c (.s (zbv k id).length 8 (flP (zbv k id))))) := by
  have hml := h.ml
  have hof : Ok 47 [iu 133955584] (.m (iu kA)) := by rw [zr0]; exact zwc _ ⟨by omega, by omega⟩
  unfold zbv
  by_cases c0 : id = -1
  · rw [if_pos c0]
    have f := zy5 h h.sh
    have hp := zsj k.sz k.m h.g.s h.g.u k.sh kA ⟨by omega, by omega⟩ zzp
    subst c0
    refine zad 53 Tryz.func14 rfl rfl rfl rfl ?_ GG.to
    intro W A hG
    repeat (first | (refine zah rfl ?_; first | refine zai ?_ | refine gdr (zaa rfl rfl rfl (hof) (by kernel_rfl)) ?_ | refine gdr (zaa rfl rfl rfl (hp) (by kernel_rfl)) ?_) | (refine hK _ ?_; clear hK K) | refine zac rfl ?_ | exact zaj (show zaw _ _ _ = some _ by kernel_rfl) | refine zaf rfl rfl ?_ | refine zae ?_ | refine zab (fun K hK => ?_))
  · rw [if_neg c0]
    by_cases c1 : zav k id = false
    · rw [if_pos c1]
      refine zfg (r := .m (.c (.v (.slice none 0 0)))) ?_ rfl (zxh 8)
      by_cases c2 : id < 0
      · refine zad 53 Tryz.func14 rfl rfl rfl rfl ?_ GG.to
        intro W A hG
        repeat (first | (refine zah rfl ?_; first | refine zai ?_ | refine gdr (zaa rfl rfl rfl (hof) (by kernel_rfl)) ?_) | (refine hK _ ?_; clear hK K) | refine zac rfl ?_ | exact zaj (show zaw _ _ _ = some _ by kernel_rfl) | refine zaf rfl rfl ?_ | refine zag rfl rfl ?_ | refine zae ?_ | refine zab (fun K hK => ?_))
      by_cases c3 : id < k.ss.length
      · obtain ⟨s, hs⟩ : ∃ s, k.ss[id.toNat]? = some s := ⟨_, List.getElem?_eq_getElem (by omega)⟩
        have hx := zoe hs
        have hlv : s.live = false := by
          have : zav k id = s.live := by simp [zav, show 0 ≤ id by omega, hs]
          rw [← this]; exact c1
        rw [hlv] at hx
        refine zad 53 Tryz.func14 rfl rfl rfl rfl ?_ GG.to
        intro W A hG
        repeat (first | (refine zah rfl ?_; first | refine zai ?_ | refine gdr (zaa rfl rfl rfl (hof) (by kernel_rfl)) ?_) | (refine hK _ ?_; clear hK K) | refine zac rfl ?_ | exact zaj (show zaw _ _ _ = some _ by kernel_rfl) | refine zaf rfl rfl ?_ | refine zag rfl rfl ?_ | refine zae ?_ | refine zab (fun K hK => ?_))
      · refine zad 53 Tryz.func14 rfl rfl rfl rfl ?_ GG.to
        intro W A hG
        repeat (first | (refine zah rfl ?_; first | refine zai ?_ | refine gdr (zaa rfl rfl rfl (hof) (by kernel_rfl)) ?_) | (refine hK _ ?_; clear hK K) | refine zac rfl ?_ | exact zaj (show zaw _ _ _ = some _ by kernel_rfl) | refine zaf rfl rfl ?_ | refine zag rfl rfl ?_ | refine zae ?_ | refine zab (fun K hK => ?_))
    · rw [if_neg c1]
      have c1 : zav k id = true := by simpa using c1
      obtain ⟨y0, y1, y2, y3⟩ := zcw c1
      have hx := zoe y2
      rw [y3] at hx
      have hrt := h.root c1
      have f := zy5 h hrt
      have hw0 := zhp k.sz k.m (zfo k id).root 2 ⟨false, false, false, false, false, false, false, false, 0, 0, 0⟩ kA zP zzp zP_U (by omega) (by omega) f h.g.s h.g.u (by omega)
      rw [zix, h.g.with hrt (by omega) zP_U, zy2] at hw0
      have ho := zy6 h id
      have hp := zxc k.sz (zxg k id) ho.1 ho.2 (zfo k id).root 0 ⟨by omega, by omega⟩ ⟨by omega, by omega⟩
      have hw : Ok 49 [zc0 k.sz k.m, .ag (ze2 (zfo k id).root 2 ⟨false, false, false, false, false, false, false, false, 0, 0, 0⟩), iu kA, .ag zP.ce] (.m (zc0 k.sz (zxg k id))) := hw0
      clear hw0
      revert hw hp hx
      generalize zxg k id = om
      generalize zfo k id = sp
      intro hx hp hw
      refine zad 53 Tryz.func14 rfl rfl rfl rfl ?_ GG.to
      intro W A hG
      repeat (first | (refine zah rfl ?_; first | refine zai ?_ | refine gdr (zaa rfl rfl rfl (hof) (by kernel_rfl)) ?_ | refine gdr (zaa rfl rfl rfl (hw) (by kernel_rfl)) ?_ | refine gdr (zaa rfl rfl rfl (hp) (by kernel_rfl)) ?_) | (refine hK _ ?_; clear hK K) | refine zac rfl ?_ | exact zaj (show zaw _ _ _ = some _ by kernel_rfl) | refine zag rfl rfl ?_ | refine zae ?_ | refine zal ?_ | refine zab (fun K hK => ?_))
end Go.Proofs.YtomeaibdedaldaaGreatDoor.LaF
namespace Go.Proofs.YtomeaibdedaldaaGreatDoor.LaG
open Go.RowKit Bv VaSpec Base MemL RegR Ax MemC PutC MemC3 TzC OkS SpA SpB SpC SpD SpE SpF SpH SpI SpJ SpN SpO LaA LaB LaC LaD LaE LaF
open BitsC PteSpec
set_option maxRecDepth 10000
set_option maxHeartbeats 1000000
theorem zep {n : Nat} {k : Kr} {id a l : Int} (h : InvL n k) (he : (zat k id a l).2.2 = 0) : (0 ≤ l ∧ l ≤ 2) ∧ Al k.cd k.cp k.pf (zat k id a l).1 ∧ l ≤ (zat k id a l).2.1 ∧ (1 ≤ (zat k id a l).2.1 ∧ (zat k id a l).2.1 ≤ 2) := by
  unfold zat at he ⊢
  by_cases c1 : 0 ≤ l ∧ l ≤ 2
  rotate_left
  · rw [if_pos c1] at he; cases he
  rw [if_neg (by simpa using c1)] at he ⊢
  by_cases c2 : id ≠ -1 ∧ zav k id = false
  · rw [if_pos c2] at he; cases he
  rw [if_neg c2] at he ⊢
  by_cases c3 : zre a l = false
  · rw [if_pos c3] at he; cases he
  rw [if_neg c3] at he ⊢
  by_cases c4 : id = -1
  · rw [if_pos c4] at he ⊢
    by_cases c5 : idx a 2 = 511 ∧ l ≠ 2
    · rw [if_pos c5]
      exact ⟨c1, h.sh, by show l ≤ 1; omega, by show (1 : Int) ≤ 1; omega, by show (1 : Int) ≤ 2; omega⟩
    · rw [if_neg c5] at he; cases he
  · rw [if_neg c4] at he ⊢
    by_cases c5 : idx a 2 = 511
    · rw [if_pos c5] at he; cases he
    · rw [if_neg c5]
      have c6 : zav k id = true := by
        cases e : zav k id with
        | true => rfl
        | false => exact absurd ⟨c4, e⟩ c2
      exact ⟨c1, h.root c6, by show l ≤ 2; omega, by show (1 : Int) ≤ 2; omega, by show (2 : Int) ≤ 2; omega⟩
def lk0 (pa l : Int) : Int := if zd2 pa (VaSpec.sz l) then 0 else 2
def lk1 (k : Kr) (pa l : Int) : Int := if inD pa (k.cd * 4096) (VaSpec.sz l) then 0 else 3
def lk2 (p : Pm) : Int := if zf2 p then 0 else 5
def lk3 (k : Kr) (top lv a l : Int) : Int := if !(atM k.sz k.m (zbq k.sz k.m a l lv top).1 (idx a (zbq k.sz k.m a l lv top).2)).v then 0 else 6
def zl6 (k : Kr) (top lv a l : Int) : List (Int × Int) × Int × Int × Int := dnN k.sz k.cd a l lv.toNat k.m k.pf top
def zxz (k : Kr) (D : List (Int × Int) × Int × Int × Int) (a pa l : Int) (p : Pm) (g : Bool) : Kr := { k with m := zbg k.sz D.1 D.2.2.1 (idx a l) (mkP (pa / 4096) p g), pf := D.2.1 }
def zcb (k : Kr) (id a pa l : Int) (p : Pm) : Kr × Int :=
  if (zat k id a l).2.2 ≠ 0 then (k, (zat k id a l).2.2)
  else if lk0 pa l ≠ 0 then (k, lk0 pa l)
  else if lk1 k pa l ≠ 0 then (k, lk1 k pa l)
  else if lk2 p ≠ 0 then (k, lk2 p)
  else if lk3 k (zat k id a l).1 (zat k id a l).2.1 a l ≠ 0 then (k, lk3 k (zat k id a l).1 (zat k id a l).2.1 a l)
  else if (zl6 k (zat k id a l).1 (zat k id a l).2.1 a l).2.2.2 ≠ 0 then (k, (zl6 k (zat k id a l).1 (zat k id a l).2.1 a l).2.2.2)
  else (zxz k (zl6 k (zat k id a l).1 (zat k id a l).2.1 a l) a pa l p (decide (id = -1)), 0)
theorem zj6 {p : Pm} (h : lk2 p = 0) : zf2 p = true := by
  unfold lk2 at h
  split at h
  · assumption
  · cases h
theorem zor {k : Kr} {pa l : Int} (h : U pa) (hd : k.cd ≤ 524288) (hq : lk1 k pa l = 0) : 0 ≤ pa / 4096 ∧ pa / 4096 < 17592186044416 := by
  obtain ⟨h0, h1⟩ := h
  unfold lk1 inD at hq
  split at hq
  · rename_i h2
    simp only [Bool.and_eq_true, decide_eq_true_eq] at h2
    omega
  · cases hq
theorem znl {n : Nat} {k : Kr} {id a pa l : Int} {p : Pm} (h : InvL n k) (hp : U pa) : InvL (n + 3) (zcb k id a pa l p).1 := by
  have hm : InvL (n + 3) k := { h with ml := by have := h.ml; omega, fl := by have := h.fl; omega }
  unfold zcb
  split
  · exact hm
  · rename_i c0
    split
    · exact hm
    · split
      · exact hm
      · split
        · exact hm
        · rename_i c3
          split
          · exact hm
          · split
            · exact hm
            · rename_i c5
              obtain ⟨w1, w2, w3, w4⟩ := zep (id := id) (a := a) (l := l) h (by omega)
              generalize zat k id a l = w at *
              have he : (zl6 k w.1 w.2.1 a l).2.2.2 = 0 := by omega
              obtain ⟨d1, d2, d3, d4⟩ := zj5 k.cd k.cp k.sz a l w1.1 w.2.1.toNat k.m k.pf w.1 h.g w2 he
              have hb := zgu (n := pa / 4096) (p := p) (g := decide (id = -1)) (zor (k := k) (l := l) hp (by have := h.g.bd; omega) (by omega)) (zj6 (by omega))
              have hw := d1.with (i := idx a l) d2 (idx_bd a l) hb.2.1
              have hle := zgr k.sz (zl6 k w.1 w.2.1 a l).1 (zl6 k w.1 w.2.1 a l).2.2.1 (idx a l) (mkP (pa / 4096) p (decide (id = -1)))
              have hml := h.ml
              refine { g := ?_, cs := h.cs, pb := h.pb, pm := h.pm, sh := d4 _ h.sh, ts := h.ts, ml := ?_, fl := by have := h.fl; show k.fs.length ≤ n + 3; omega, sl := h.sl, ss := fun s hs hl => d4 _ (h.ss s hs hl) }
              · show GM k.cd k.cp k.sz (zbg k.sz (dnN k.sz k.cd a l w.2.1.toNat k.m k.pf w.1).1 (dnN k.sz k.cd a l w.2.1.toNat k.m k.pf w.1).2.2.1 (idx a l) (mkP (pa / 4096) p (decide (id = -1)))) (dnN k.sz k.cd a l w.2.1.toNat k.m k.pf w.1).2.1
                rw [hw]
                exact d1.put d2 (idx_bd a l) (zge _ hb.2.1) fun _ => by rw [hb.1]; exact .inl hb.2.2
              · show (zbg k.sz (zl6 k w.1 w.2.1 a l).1 (zl6 k w.1 w.2.1 a l).2.2.1 (idx a l) (mkP (pa / 4096) p (decide (id = -1)))).length ≤ n + 3
                have d3' : (zl6 k w.1 w.2.1 a l).1.length ≤ k.m.length + w.2.1.toNat := d3
                omega
def z0f (k : Kr) (id a pa l : Int) (p : Pm) (top lv z : Int) (i : Nat) : St := St.of [(1, .m (ii id)), (6, .m (.c (.p 6 0))), (8, .m (.c (.p 8 0))), (9, .m (.c (.p 9 0))), (10, .m (.c (.p 10 0))), (11, .m (.c (.p 11 0))), (12, .m (.c (.p 12 0))), (13, .m (ii 0)), (14, .m (.c (.p 14 0))), (15, .m (.c (.p 15 0))), (16, .m (ii 0)), (55, .m (.c (.bs 55 0 4))), (56, .m (ii 4)), (57, .m (ii i))]
  [(6, .live (.box k.ce)), (8, .live (.box [cu a])), (9, .live (.box [cu pa])), (10, .live (.box [ci l])), (11, .live (.box p.ce)), (12, .live (.box zK)), (14, .live (.box [cu top])), (15, .live (.box [ci lv])), (17, .live (.box [cu (k.cd * 4096)])), (18, .live (.box [cu z])), (55, .live (.box [.cl 55 [9, 18], .cl 57 [9, 17, 18], .cl 58 [11], .cl 52 [6, 14, 15, 8, 10]]))]
def nm1 (i : Nat) : Nat := if i = 2000 then 6 else if i = 2001 then 14 else if i = 2002 then 15 else if i = 2003 then 8 else 10
def nm2 (i : Nat) : Nat := if i = 2000 then 9 else 18
def nm3 (i : Nat) : Nat := if i = 2000 then 9 else if i = 2001 then 17 else 18
def nm4 (i : Nat) : Nat := 11
theorem ze4 {n : Nat} {k : Kr} (h : InvL n k) (hn : n ≤ 90000) (id a pa l : Int) (p : Pm) (ha : U a) (hp : U pa) : Ok 15 [.ag k.ce, ii id, iu a, iu pa, ii l, .ag p.ce] (.tu [.ag (zcb k id a pa l p).1.ce, ii (zcb k id a pa l p).2]) := by
  have hw := zup k id a l ha
  obtain ⟨R, hR⟩ : ∃ R, R = zcb k id a pa l p := ⟨_, rfl⟩
  rw [← hR]
  unfold zcb at hR
  by_cases c0 : (zat k id a l).2.2 ≠ 0
  · rw [if_pos c0] at hR
    generalize zat k id a l = w at *
    subst hR
    refine zad 101 Tryz.func15 rfl rfl rfl rfl ?_ GG.to
    intro W A hG
    repeat (first | (refine zah rfl ?_; first | refine zai ?_ | refine gdr (zaa rfl rfl rfl (hw) (by kernel_rfl)) ?_) | (refine hK _ ?_; clear hK K) | refine zac rfl ?_ | exact zaj (show zaw _ _ _ = some _ by kernel_rfl) | refine zaf rfl rfl ?_ | refine zab (fun K hK => ?_))
  rw [if_neg c0] at hR
  obtain ⟨w1, w2, w3, w4⟩ := zep (id := id) (a := a) (l := l) h (by omega)
  have c0 : (zat k id a l).2.2 = 0 := by omega
  rw [c0] at hw
  generalize (zat k id a l).1 = top at *
  generalize (zat k id a l).2.1 = lv at *
  have b1 := h.g.bd
  have b2 := h.g.bp
  have hz := zjv l w1.1 w1.2
  have hzb := zvo l w1.1 w1.2
  have ft : 0 ≤ top ∧ top < 17592186044416 := by have := w2.1; omega
  have hml := h.ml
  have m2 := zwv pa (VaSpec.sz l) hp ⟨by omega, by omega⟩
  have m3 := zww pa (k.cd * 4096) (VaSpec.sz l) hp ⟨by omega, by omega⟩ ⟨by omega, by omega⟩
  have m4 := zwx p
  have m1 := zwy k top lv a l ⟨h.g.s, h.g.u⟩ ft ha (by omega) (by omega) w1.1
  obtain ⟨lw, rfl⟩ := Int.eq_ofNat_of_zero_le (show 0 ≤ lv by omega)
  have hd := zxf k.cd k.cp k.sz top a l lw k.m k.pf h.g w2 ha (by omega) w1.1 w3 (by omega) _ rfl
  have hdg := zj5 k.cd k.cp k.sz a l w1.1 lw k.m k.pf top h.g w2
  have hpb := h.pb
  have hpm := h.pm
  have h2 : zc5 Tryz.prog GG 55 [spB 2000 [cu pa], spB 2001 [cu (VaSpec.sz l)]] [.c (.p 2000 0), .c (.p 2001 0)] (.m (ii (lk0 pa l))) := m2
  have h3 : zc5 Tryz.prog GG 57 [spB 2000 [cu pa], spB 2001 [cu (k.cd * 4096)], spB 2002 [cu (VaSpec.sz l)]] [.c (.p 2000 0), .c (.p 2001 0), .c (.p 2002 0)] (.m (ii (lk1 k pa l))) := m3
  have h4 : zc5 Tryz.prog GG 58 [spB 2000 p.ce] [.c (.p 2000 0)] (.m (ii (lk2 p))) := m4
  have h1 : zc5 Tryz.prog GG 52 [spB 2000 k.ce, spB 2001 [cu top], spB 2002 [ci (lw : Int)], spB 2003 [cu a], spB 2004 [ci l]] [.c (.p 2000 0), .c (.p 2001 0), .c (.p 2002 0), .c (.p 2003 0), .c (.p 2004 0)] (.m (ii (lk3 k top lw a l))) := m1
  clear m1 m2 m3 m4
  have hmk := zgu (n := pa / 4096) (p := p) (g := decide (id = -1))
  have hpn := zor (k := k) (pa := pa) (l := l) hp (by omega)
  have hpk := zj6 (p := p)
  generalize lk0 pa l = q0 at *
  generalize lk1 k pa l = q1 at *
  generalize lk2 p = q2 at *
  generalize lk3 k top lw a l = q3 at *
  generalize VaSpec.sz l = z at *
  have hsz : k.sz = (k.cd + k.cp) * 4096 := h.g.bz
  unfold zl6 at hR
  rw [Int.toNat_natCast] at hR
  generalize dnN k.sz k.cd a l lw k.m k.pf top = D at *
  refine zad 101 Tryz.func15 rfl rfl rfl rfl ?_ GG.to
  intro W A hG
  repeat (first | (refine zah rfl ?_; first | refine zai ?_ | refine gdr (zaa rfl rfl rfl (hw) (by kernel_rfl)) ?_ | refine gdr (zaa rfl rfl rfl (hz) (by kernel_rfl)) ?_) | (refine hK _ ?_; clear hK K) | refine zac rfl ?_ | refine zay (by kernel_rfl) (by kernel_rfl) rfl ?_ | refine zag rfl rfl ?_ | refine zae ?_ | refine zal ?_ | refine zab (fun K hK => ?_))
  refine za1 (α := Nat) (fun i => i ≤ 4 ∧ (0 < i → q0 = 0) ∧ (1 < i → q1 = 0) ∧ (2 < i → q2 = 0) ∧ (3 < i → q3 = 0)) (fun i => z0f k id a pa l p top lw z i) (fun i => 4 - i) 0 ⟨by omega, by omega, by omega, by omega, by omega⟩ (zan _ _ ⟨by kernel_rfl, by kernel_rfl, by kernel_rfl, by kernel_rfl, by kernel_rfl, by kernel_rfl, by kernel_rfl, by kernel_rfl, by kernel_rfl, by kernel_rfl, by kernel_rfl, by kernel_rfl, by kernel_rfl, by kernel_rfl, trivial⟩ ⟨by kernel_rfl, by kernel_rfl, by kernel_rfl, by kernel_rfl, by kernel_rfl, by kernel_rfl, by kernel_rfl, by kernel_rfl, by kernel_rfl, by kernel_rfl, by kernel_rfl, trivial⟩ (by kernel_rfl)) ?_
  rintro i ⟨x0, x1, x2, x3, x4⟩
  show Aw _ _ _ _ (z0f k id a pa l p top lw z i)
  unfold z0f
  have hi : i = 0 ∨ i = 1 ∨ i = 2 ∨ i = 3 ∨ i = 4 := by omega
  rcases hi with rfl | rfl | rfl | rfl | rfl
  · by_cases e : q0 = 0
    · skip
      repeat (first | (refine zah rfl ?_; first | refine zai ?_ | refine gdr (zbd nm2 h2 rfl rfl rfl (by kernel_rfl) rfl rfl ⟨rfl, rfl, trivial⟩ (by kernel_rfl)) ?_) | (refine hK _ ?_; clear hK K) | refine zac rfl ?_ | refine zaf rfl rfl ?_ | refine zag rfl rfl ?_ | refine zae ?_ | refine zal ?_ | refine zab (fun K hK => ?_))
      exact ⟨1, ⟨by omega, by omega, by omega, by omega, by omega⟩, by omega, zan _ _ ⟨by kernel_rfl, by kernel_rfl, by kernel_rfl, by kernel_rfl, by kernel_rfl, by kernel_rfl, by kernel_rfl, by kernel_rfl, by kernel_rfl, by kernel_rfl, by kernel_rfl, by kernel_rfl, by kernel_rfl, by kernel_rfl, trivial⟩ ⟨by kernel_rfl, by kernel_rfl, by kernel_rfl, by kernel_rfl, by kernel_rfl, by kernel_rfl, by kernel_rfl, by kernel_rfl, by kernel_rfl, by kernel_rfl, by kernel_rfl, trivial⟩ (by kernel_rfl)⟩
    · rw [if_pos e] at hR
      subst hR
      repeat (first | (refine zah rfl ?_; first | refine zai ?_ | refine gdr (zbd nm2 h2 rfl rfl rfl (by kernel_rfl) rfl rfl ⟨rfl, rfl, trivial⟩ (by kernel_rfl)) ?_) | (refine hK _ ?_; clear hK K) | refine zac rfl ?_ | exact zaj (show zaw _ _ _ = some _ by kernel_rfl) | refine zaf rfl rfl ?_ | refine zae ?_ | refine zal ?_ | refine zab (fun K hK => ?_))
  · by_cases e : q1 = 0
    · skip
      repeat (first | (refine zah rfl ?_; first | refine zai ?_ | refine gdr (zbd nm3 h3 rfl rfl rfl (by kernel_rfl) rfl rfl ⟨rfl, rfl, rfl, trivial⟩ (by kernel_rfl)) ?_) | (refine hK _ ?_; clear hK K) | refine zac rfl ?_ | refine zaf rfl rfl ?_ | refine zag rfl rfl ?_ | refine zae ?_ | refine zal ?_ | refine zab (fun K hK => ?_))
      exact ⟨2, ⟨by omega, by omega, by omega, by omega, by omega⟩, by omega, zan _ _ ⟨by kernel_rfl, by kernel_rfl, by kernel_rfl, by kernel_rfl, by kernel_rfl, by kernel_rfl, by kernel_rfl, by kernel_rfl, by kernel_rfl, by kernel_rfl, by kernel_rfl, by kernel_rfl, by kernel_rfl, by kernel_rfl, trivial⟩ ⟨by kernel_rfl, by kernel_rfl, by kernel_rfl, by kernel_rfl, by kernel_rfl, by kernel_rfl, by kernel_rfl, by kernel_rfl, by kernel_rfl, by kernel_rfl, by kernel_rfl, trivial⟩ (by kernel_rfl)⟩
    · rw [if_neg (show ¬ q0 ≠ 0 by omega)] at hR; rw [if_pos e] at hR
      subst hR
      repeat (first | (refine zah rfl ?_; first | refine zai ?_ | refine gdr (zbd nm3 h3 rfl rfl rfl (by kernel_rfl) rfl rfl ⟨rfl, rfl, rfl, trivial⟩ (by kernel_rfl)) ?_) | (refine hK _ ?_; clear hK K) | refine zac rfl ?_ | exact zaj (show zaw _ _ _ = some _ by kernel_rfl) | refine zaf rfl rfl ?_ | refine zae ?_ | refine zal ?_ | refine zab (fun K hK => ?_))
  · by_cases e : q2 = 0
    · skip
      repeat (first | (refine zah rfl ?_; first | refine zai ?_ | refine gdr (zbd nm4 h4 rfl rfl rfl (by kernel_rfl) rfl rfl ⟨rfl, trivial⟩ (by kernel_rfl)) ?_) | (refine hK _ ?_; clear hK K) | refine zac rfl ?_ | refine zaf rfl rfl ?_ | refine zag rfl rfl ?_ | refine zae ?_ | refine zal ?_ | refine zab (fun K hK => ?_))
      exact ⟨3, ⟨by omega, by omega, by omega, by omega, by omega⟩, by omega, zan _ _ ⟨by kernel_rfl, by kernel_rfl, by kernel_rfl, by kernel_rfl, by kernel_rfl, by kernel_rfl, by kernel_rfl, by kernel_rfl, by kernel_rfl, by kernel_rfl, by kernel_rfl, by kernel_rfl, by kernel_rfl, by kernel_rfl, trivial⟩ ⟨by kernel_rfl, by kernel_rfl, by kernel_rfl, by kernel_rfl, by kernel_rfl, by kernel_rfl, by kernel_rfl, by kernel_rfl, by kernel_rfl, by kernel_rfl, by kernel_rfl, trivial⟩ (by kernel_rfl)⟩
    · rw [if_neg (show ¬ q0 ≠ 0 by omega)] at hR; rw [if_neg (show ¬ q1 ≠ 0 by omega)] at hR; rw [if_pos e] at hR
      subst hR
      repeat (first | (refine zah rfl ?_; first | refine zai ?_ | refine gdr (zbd nm4 h4 rfl rfl rfl (by kernel_rfl) rfl rfl ⟨rfl, trivial⟩ (by kernel_rfl)) ?_) | (refine hK _ ?_; clear hK K) | refine zac rfl ?_ | exact zaj (show zaw _ _ _ = some _ by kernel_rfl) | refine zaf rfl rfl ?_ | refine zae ?_ | refine zal ?_ | refine zab (fun K hK => ?_))
  · by_cases e : q3 = 0
    · skip
      repeat (first | (refine zah rfl ?_; first | refine zai ?_ | refine gdr (zbd nm1 h1 rfl rfl rfl (by kernel_rfl) rfl rfl ⟨rfl, rfl, rfl, rfl, rfl, trivial⟩ (by kernel_rfl)) ?_) | (refine hK _ ?_; clear hK K) | refine zac rfl ?_ | refine zaf rfl rfl ?_ | refine zag rfl rfl ?_ | refine zae ?_ | refine zal ?_ | refine zab (fun K hK => ?_))
      exact ⟨4, ⟨by omega, by omega, by omega, by omega, by omega⟩, by omega, zan _ _ ⟨by kernel_rfl, by kernel_rfl, by kernel_rfl, by kernel_rfl, by kernel_rfl, by kernel_rfl, by kernel_rfl, by kernel_rfl, by kernel_rfl, by kernel_rfl, by kernel_rfl, by kernel_rfl, by kernel_rfl, by kernel_rfl, trivial⟩ ⟨by kernel_rfl, by kernel_rfl, by kernel_rfl, by kernel_rfl, by kernel_rfl, by kernel_rfl, by kernel_rfl, by kernel_rfl, by kernel_rfl, by kernel_rfl, by kernel_rfl, trivial⟩ (by kernel_rfl)⟩
    · rw [if_neg (show ¬ q0 ≠ 0 by omega)] at hR; rw [if_neg (show ¬ q1 ≠ 0 by omega)] at hR; rw [if_neg (show ¬ q2 ≠ 0 by omega)] at hR; rw [if_pos e] at hR
      subst hR
      repeat (first | (refine zah rfl ?_; first | refine zai ?_ | refine gdr (zbd nm1 h1 rfl rfl rfl (by kernel_rfl) rfl rfl ⟨rfl, rfl, rfl, rfl, rfl, trivial⟩ (by kernel_rfl)) ?_) | (refine hK _ ?_; clear hK K) | refine zac rfl ?_ | exact zaj (show zaw _ _ _ = some _ by kernel_rfl) | refine zaf rfl rfl ?_ | refine zae ?_ | refine zal ?_ | refine zab (fun K hK => ?_))
  · have y0 := x1 (by omega)
    have y1 := x2 (by omega)
    have y2 := x3 (by omega)
    have y3 := x4 (by omega)
    rw [if_neg (by omega), if_neg (by omega), if_neg (by omega), if_neg (by omega)] at hR
    rw [← hpb, ← hpm] at hd
    obtain ⟨m2, f2, t2, e2⟩ := D
    by_cases e : e2 = 0
    · subst e
      obtain ⟨d1, d2, d3, d4⟩ := hdg rfl
      have d1 : GM k.cd k.cp k.sz m2 f2 := d1
      have d2 : Al k.cd k.cp f2 t2 := d2
      have d3 : m2.length ≤ k.m.length + lw := d3
      have hd : Ok 60 [zc0 k.sz k.m, .ag [cu k.pb, ci k.pm, cu k.pf], iu top, ii lw, iu a, ii l] (.tu [zc0 k.sz m2, .ag [cu k.pb, ci k.pm, cu f2], .ag (ze2 t2 l (atM k.sz m2 t2 (idx a l))), ii 0]) := hd
      have hR : R = (zxz k (m2, f2, t2, 0) a pa l p (decide (id = -1)), 0) := hR
      have hu := (hmk (hpn y1) (hpk y2)).2.1
      have hwt := zhp k.sz m2 t2 l (atM k.sz m2 t2 (idx a l)) a (mkP (pa / 4096) p (decide (id = -1))) ha hu w1.1 w1.2 ⟨by have := d2.1; omega, by have := d2.1; omega⟩ d1.s d1.u (by omega)
      generalize atM k.sz m2 t2 (idx a l) = q at *
      have hp0 := hp.1
      have hp1 := hp.2
      by_cases c5 : id = -1
      · have hmp := zok (pa / 4096) p true
        rw [decide_eq_true c5] at hwt hR
        subst hR
        repeat (first | (refine zah rfl ?_; first | refine zai ?_ | refine gdr (zaa rfl rfl rfl (hd) (by kernel_rfl)) ?_ | refine gdr (zaa rfl rfl rfl (hmp) (by kernel_rfl)) ?_ | refine gdr (zaa rfl rfl rfl (hwt) (by kernel_rfl)) ?_) | (refine hK _ ?_; clear hK K) | (rename_i K1 hK1; refine hK1 _ ?_; clear hK hK1; clear K) | refine zac rfl ?_ | refine zay (by kernel_rfl) (by kernel_rfl) rfl ?_ | exact zaj (show zaw _ _ _ = some _ by kernel_rfl) | refine zag rfl rfl ?_ | refine zau ?_ | refine zal ?_ | refine zab (fun K hK => ?_))
      · have hmp := zok (pa / 4096) p false
        rw [decide_eq_false c5] at hwt hR
        subst hR
        repeat (first | (refine zah rfl ?_; first | refine zai ?_ | refine gdr (zaa rfl rfl rfl (hd) (by kernel_rfl)) ?_ | refine gdr (zaa rfl rfl rfl (hmp) (by kernel_rfl)) ?_ | refine gdr (zaa rfl rfl rfl (hwt) (by kernel_rfl)) ?_) | (refine hK _ ?_; clear hK K) | (rename_i K1 hK1; refine hK1 _ ?_; clear hK hK1; clear K) | refine zac rfl ?_ | refine zay (by kernel_rfl) (by kernel_rfl) rfl ?_ | exact zaj (show zaw _ _ _ = some _ by kernel_rfl) | refine zag rfl rfl ?_ | refine zau ?_ | refine zal ?_ | refine zab (fun K hK => ?_))
    · rw [if_neg (show ¬ (m2, f2, t2, e2).2.2.2 = 0 from e)] at hd
      rw [if_pos (show (m2, f2, t2, e2).2.2.2 ≠ 0 from e)] at hR
      have hd : Ok 60 [zc0 k.sz k.m, .ag [cu k.pb, ci k.pm, cu k.pf], iu top, ii lw, iu a, ii l] (.tu [zc0 k.sz k.m, .ag [cu k.pb, ci k.pm, cu k.pf], .ag (ze2 0 0 zP), ii e2]) := hd
      have hR : R = (k, e2) := hR
      subst hR
      repeat (first | (refine zah rfl ?_; first | refine zai ?_ | refine gdr (zaa rfl rfl rfl (hd) (by kernel_rfl)) ?_) | (refine hK _ ?_; clear hK K) | (rename_i K1 hK1; refine hK1 _ ?_; clear hK hK1; clear K) | refine zac rfl ?_ | exact zaj (show zaw _ _ _ = some _ by kernel_rfl) | refine zaf rfl rfl ?_ | refine zag rfl rfl ?_ | refine zau ?_ | refine zab (fun K hK => ?_))
end Go.Proofs.YtomeaibdedaldaaGreatDoor.LaG
namespace Go.Proofs.YtomeaibdedaldaaGreatDoor.RefS
open Go.RowKit Bv VaSpec Base
def hi (f : Nat → Bool) : Nat → Nat
  | 0 => 0
  | k + 1 => 2 * hi f k + (f (63 - k)).toNat
theorem znm (f : Nat → Bool) (k : Nat) : hi f (k + 1) = 2 * hi f k + (f (63 - k)).toNat := rfl
theorem z0g (f : Nat → Bool) (k : Nat) : hi f k < 2 ^ k := by
  induction k with
  | zero => simp [hi]
  | succ k ih => rw [znm]; have := Bool.toNat_le (f (63 - k)); rw [Nat.pow_succ]; omega
set_option maxHeartbeats 400000 in
set_option maxRecDepth 100000 in
theorem of_calls (f : Nat → Bool) (cs : Array Value) (w : World) (hsz : cs.size = 64) (hget : ∀ k, k < 64 → cs[k]? = some (.bool (f k))) :
    Calls Tryz.prog 181 #[.agg cs] w fun e w' => e = .returned (.int .u64 (hi f 64)) ∧ Below w.heap.size w w' := by
  have Hs := Lib.hid hsz; clear hsz
  have Hg := Lib.hid hget; clear hget
  go_enter Tryz.func181, Tryz.ntmps181
  go_wp2
  go_loop [3, 4] (fun x i => ∃ k : Nat, k ≤ 64 ∧ i = .int .i64 (63 - k) ∧ x = .int .u64 (hi f k)) (fun _ i => (intOf i + 1).toNat)
  case atStart => exact ⟨0, by omega, rfl, rfl⟩
  case round =>
    obtain ⟨k, hk, rfl, rfl⟩ := hrel
    by_cases hlt : k < 64
    · obtain ⟨j, hj⟩ : ∃ j : Nat, j = 63 - k := ⟨_, rfl⟩
      have hb := z0g f k
      have hp : 2 ^ k ≤ 2 ^ 63 := Nat.pow_le_pow_right (by decide) (by omega)
      have hb2 : (hi f k : Int) ≤ 9223372036854775807 := by omega
      clear hb hp
      have hc : (w.alloc (.cells cs 240)).cell? ⟨w.heap.size, j, none⟩ = some (.bool (f j)) := by
        rw [cell_of_row _ _ _ cs 240 (0, 0) (heap_alloc_new w _)]; exact Hg.out j (by omega)
      rw [show (63 : Int) - k = (j : Int) by omega]
      have hj2 : j < 64 := by omega
      have Hj := Lib.hid hj; clear hj
      cases hf : f j
      all_goals
        rw [hf] at hc
        go_wp2
        go_round
        case rel =>
          refine ⟨k + 1, by omega, by rw [show (j : Int) - 1 = 63 - ((k + 1 : Nat) : Int) by have := Hj.out; omega], ?_⟩
          rw [znm, ← Hj.out, hf]; go_num
        case measure => have := Hj.out; simp [intOf]
    · obtain rfl : k = 64 := by omega
      go_wp2
      go_ret
      exact ⟨rfl, (Below.refl _ _).alloc (Nat.le_refl _) _⟩
theorem zuq (y : BitVec 64) (f : Nat → Bool) (h : ∀ j, j < 64 → f j = y.getLsbD j) : ∀ k, k ≤ 64 → hi f k = y.toNat / 2 ^ (64 - k) := by
  intro k
  induction k with
  | zero => intro _; have := y.isLt; rw [Nat.div_eq_of_lt (by simpa using this)]; rfl
  | succ k ih =>
    intro hk
    rw [znm, ih (by omega), h _ (by omega), BitVec.getLsbD, Nat.testBit, Nat.shiftRight_eq_div_pow, Nat.and_comm, Nat.and_one_is_mod, show 64 - k = (63 - k) + 1 by omega, show 64 - (k + 1) = 63 - k by omega, Nat.pow_succ, ← Nat.div_div_eq_div_mul]
    generalize y.toNat / 2 ^ (63 - k) = q
    rcases Nat.mod_two_eq_zero_or_one q with e | e <;> rw [e] <;> simp <;> omega
theorem zy7 (y : BitVec 64) (f : Nat → Bool) (h : ∀ j, j < 64 → f j = y.getLsbD j) : ((hi f 64 : Nat) : Int) = B y := by
  rw [zuq y f h 64 (by omega)]; simp [B]
def bt (x : BitVec 64) (i : Nat) : Bool := x.getLsbD i
theorem zur (x : BitVec 64) (j : Nat) : IntKind.u64.wrap (Int.tdiv (B (x >>> j)) 2) = B (x >>> (j + 1)) := by
  rw [show Int.tdiv (B (x >>> j)) 2 = (((x >>> j).toNat / 2 : Nat) : Int) from rfl, wrap_u64]
  unfold B
  rw [BitVec.toNat_ushiftRight, BitVec.toNat_ushiftRight, Nat.shiftRight_eq_div_pow, Nat.shiftRight_eq_div_pow, Nat.div_div_eq_div_mul, ← Nat.pow_succ]
  rw [Nat.succ_eq_add_one]
  have h1 := x.isLt
  have h2 : x.toNat / 2 ^ (j + 1) ≤ x.toNat := Nat.div_le_self _ _
  generalize x.toNat / 2 ^ (j + 1) = q at *
  omega
theorem zxi (x : BitVec 64) (j : Nat) : (Int.tmod (B (x >>> j)) 2 == 1) = bt x j := by
  unfold B bt
  rw [BitVec.toNat_ushiftRight, BitVec.getLsbD, Nat.testBit, Nat.shiftRight_eq_div_pow]
  rw [show Int.tmod ((x.toNat / 2 ^ j : Nat) : Int) 2 = ((x.toNat / 2 ^ j % 2 : Nat) : Int) from rfl]
  rw [Nat.and_comm, Nat.and_one_is_mod]
  rcases Nat.mod_two_eq_zero_or_one (x.toNat / 2 ^ j) with h | h <;> rw [h] <;> rfl
theorem zxj (x : BitVec 64) (j : Nat) : B (x >>> j) / 2 = B (x >>> (j + 1)) := by
  rw [← zur, show Int.tdiv (B (x >>> j)) 2 = (((x >>> j).toNat / 2 : Nat) : Int) from rfl, wrap_u64]
  unfold B; have := (x >>> j).isLt; omega
theorem zy8 (x : BitVec 64) (j : Nat) : (B (x >>> j) % 2 == 1) = bt x j := by
  rw [← zxi]; rfl
set_option maxHeartbeats 400000 in
set_option maxRecDepth 100000 in
theorem zus (x : BitVec 64) (i : Int) (w : World) (h0 : 0 ≤ i) (h : i ≤ 200) :
    Calls Tryz.prog 72 #[.int .u64 (B x), .int .i64 i] w fun e w' => e = .returned (.bool (bt x i.toNat)) ∧ w' = w := by
  obtain ⟨n, rfl⟩ := Int.eq_ofNat_of_zero_le h0
  by_cases h63 : n ≤ 63
  · go_enter Tryz.func72, Tryz.ntmps72
    go_wp2
    go_loop [0, 5] (fun y k => ∃ j : Nat, j ≤ n ∧ k = .int .i64 j ∧ y = .int .u64 (B (x >>> j))) (fun _ k => n - (intOf k).toNat)
    case atStart => exact ⟨0, by omega, rfl, by simp⟩
    case round =>
      obtain ⟨j, hj, rfl, rfl⟩ := hrel
      have hb := zjn (x >>> j)
      have hb2 := zz1 (x >>> j)
      by_cases hlt : j < n
      · go_wp2
        refine ⟨⟨j + 1, by omega, by go_num, by rw [zxj]⟩, ?_⟩
        simp [intOf]; omega
      · obtain rfl : j = n := by omega
        have Ho := Lib.hid (zy8 x j)
        go_wp2
        go_ret
        refine ⟨?_, rfl⟩
        exact congrArg (fun z => Ending.returned (.bool z)) Ho.out
  · have hf := Lib.hid (show bt x n = false by unfold bt; exact BitVec.getLsbD_of_ge _ _ (by omega))
    go_enter Tryz.func72, Tryz.ntmps72
    go_wp2
    go_ret
    refine ⟨?_, rfl⟩
    exact congrArg (fun z => Ending.returned (.bool z)) hf.out.symm
theorem zj7 (x : BitVec 64) (i : Int) (w : World) (h0 : 0 ≤ i) (h : i ≤ 200) :
    Calls Tryz.prog 72 #[.int .u64 (B x), .int .i64 i] w fun e w' => e = .returned (.bool (bt x i.toNat)) ∧ Q w w' := (zus x i w h0 h).mono fun _ _ ⟨a, b⟩ => ⟨a, by subst b; exact Q.refl _⟩
def Arr (w : World) (b : Nat) (f : Nat → Bool) : Prop := ∃ cs, w.heap[b]? = some (Obj.cells cs 240 (0, 0)) ∧ cs.size = 64 ∧ ∀ k, k < 64 → cs[k]? = some (.bool (f k))
theorem Arr.cell {w : World} {b : Nat} {f : Nat → Bool} (h : Arr w b f) (k : Nat) (hk : k < 64) : w.cell? ⟨b, k, none⟩ = some (.bool (f k)) := by
  obtain ⟨cs, h1, _, h3⟩ := h; rw [cell_of_row _ _ _ cs 240 (0, 0) h1]; exact h3 k hk
theorem Arr.frozen {w : World} {b : Nat} {f : Nat → Bool} (h : Arr w b f) (k : Nat) : w.frozen? ⟨b, k, none⟩ = false := by
  obtain ⟨cs, h1, _, h3⟩ := h; exact frozen_of_row _ _ _ cs 240 h1
theorem Arr.drewN {w : World} {b : Nat} {f : Nat → Bool} (h : Arr w b f) (n : Nat) : Arr (w.drewN n) b f := h
theorem Arr.set {w : World} {b : Nat} {f : Nat → Bool} (h : Arr w b f) (k : Nat) (v : Bool) : Arr (w.setCell ⟨b, k, none⟩ (.bool v)) b (fun j => if j = k then v else f j) := by
  obtain ⟨cs, h1, h2, h3⟩ := h
  refine ⟨_, heap_setCell_same w b k cs 240 _ h1, by simp [h2], ?_⟩
  intro j hj
  rw [Array.getElem?_setIfInBounds]
  by_cases e : k = j
  · subst e; simp [h2, hj]
  · simp [e, Ne.symm e, h3 j hj]
theorem Arr.congr {w : World} {b : Nat} {f g : Nat → Bool} (h : Arr w b f) (e : ∀ k, k < 64 → f k = g k) : Arr w b g := by
  obtain ⟨cs, h1, h2, h3⟩ := h; exact ⟨cs, h1, h2, fun k hk => by rw [h3 k hk, e k hk]⟩
theorem Arr.zero (w : World) : Arr (w.alloc (Obj.cells #[.bool false, .bool false, .bool false, .bool false, .bool false, .bool false, .bool false, .bool false, .bool false, .bool false, .bool false, .bool false, .bool false, .bool false, .bool false, .bool false, .bool false, .bool false, .bool false, .bool false, .bool false, .bool false, .bool false, .bool false, .bool false, .bool false, .bool false, .bool false, .bool false, .bool false, .bool false, .bool false, .bool false, .bool false, .bool false, .bool false, .bool false, .bool false, .bool false, .bool false, .bool false, .bool false, .bool false, .bool false, .bool false, .bool false, .bool false, .bool false, .bool false, .bool false, .bool false, .bool false, .bool false, .bool false, .bool false, .bool false, .bool false, .bool false, .bool false, .bool false, .bool false, .bool false, .bool false, .bool false] 240)) w.heap.size (fun _ => false) := by
  refine ⟨_, heap_alloc_new w _, by rfl, ?_⟩
  intro k hk
  have : ∀ k : Fin 64, (Array.replicate 64 (Value.bool false))[k.val]? = some (.bool false) := by intro k; simp
  exact this ⟨k, hk⟩
theorem Arr.next {wr : World} {b k nd : Nat} {g : Nat → Bool} {v : Bool} (ha : Arr wr b (fun j => decide (j < k) && g j)) (e : v = g k) :
    Arr ((wr.drewN nd).setCell ⟨b, k, none⟩ (.bool v)) b (fun j => decide (j < k + 1) && g j) := by
  refine (Arr.set (w := wr.drewN nd) ha k _).congr ?_
  intro j hj
  by_cases e1 : j = k
  · subst e1; simp [e]
  · rw [if_neg e1]; by_cases e2 : j < k
    · simp [e2, show j < k + 1 by omega]
    · simp [e2, show ¬ j < k + 1 by omega]
theorem Arr.next2 {wr : World} {b k nd nd2 : Nat} {g : Nat → Bool} {u v : Bool} (ha : Arr wr b (fun j => decide (j < k) && g j)) (e : v = g k) :
    Arr ((((wr.drewN nd).setCell ⟨b, k, none⟩ (.bool u)).drewN nd2).setCell ⟨b, k, none⟩ (.bool v)) b (fun j => decide (j < k + 1) && g j) := by
  refine (Arr.set (Arr.drewN (Arr.set (w := wr.drewN nd) ha k u) nd2) k v).congr ?_
  intro j hj
  by_cases e1 : j = k
  · subst e1; simp [e]
  · rw [if_neg e1, if_neg e1]; by_cases e2 : j < k
    · simp [e2, show j < k + 1 by omega]
    · simp [e2, show ¬ j < k + 1 by omega]
theorem zfi {w wr : World} (hb : Below w.heap.size w wr) (k nd : Nat) (v : Value) : Below w.heap.size w ((wr.drewN nd).setCell ⟨w.heap.size, k, none⟩ v) :=
  (hb.trans ((Q.below ⟨nd, rfl⟩).mono hb.size)).setCell (Nat.le_refl _) _
end Go.Proofs.YtomeaibdedaldaaGreatDoor.RefS
namespace Go.Proofs.YtomeaibdedaldaaGreatDoor.RefSet
open Go.RowKit Bv VaSpec Base RefS BitsC
def g1 (x v : BitVec 64) (lo : Nat) (j : Nat) : Bool := if j = lo then bt v 0 else bt x j
set_option maxHeartbeats 400000 in
set_option maxRecDepth 100000 in
theorem zxk (x v : BitVec 64) (lo : Nat) (w : World) (hlo : lo < 64) :
    Calls Tryz.prog 161 #[.int .u64 (B x), .int .i64 lo, .int .i64 1, .int .u64 (B v)] w fun e w' => e = .returned (.int .u64 (B (zp9 x lo 1 v))) ∧ Below w.heap.size w w' := by
  have hw1 : IntKind.i64.wrap ((lo : Int) + 1) = (lo : Int) + 1 := by rw [IntKind.wrap_i64]; omega
  go_enter Tryz.func161, Tryz.ntmps161
  go_wp2
  go_loopw [10] (fun i wr => ∃ k : Nat, k ≤ 64 ∧ i = .int .i64 k ∧ Arr wr w.heap.size (fun j => decide (j < k) && g1 x v lo j) ∧ Below w.heap.size w wr) (fun i _ => 64 - (intOf i).toNat)
  case atStart => exact ⟨0, by omega, rfl, (Arr.zero w).congr (by intro k _; simp), (Below.refl _ _).alloc (Nat.le_refl _) _⟩
  case round =>
    obtain ⟨k, hk, rfl, ha, hb⟩ := hrel
    by_cases hlt : k < 64
    · have hc := ha.cell k (by omega)
      have hz := ha.frozen k
      rcases Nat.lt_trichotomy k lo with hm | rfl | hm
      · go_wp2_with (go_at_call 72; (with_reducible refine (zj7 _ _ _ (by omega) (by omega)).mono ?_); rintro e w' ⟨rfl, ⟨nd, rfl⟩⟩)
        refine ⟨⟨k + 1, by omega, by go_num, ha.next (by unfold g1; rw [if_neg (by omega)]), zfi hb _ _ _⟩, ?_⟩
        simp [intOf]; omega
      · go_wp2_with (go_at_call 72; (with_reducible refine (zj7 _ _ _ (by omega) (by omega)).mono ?_); rintro e w' ⟨rfl, ⟨nd, rfl⟩⟩)
        refine ⟨⟨k + 1, by omega, by go_num, ha.next2 (by unfold g1; rw [if_pos rfl]), zfi (zfi hb _ _ _) _ _ _⟩, ?_⟩
        simp [intOf]; omega
      · go_wp2_with (go_at_call 72; (with_reducible refine (zj7 _ _ _ (by omega) (by omega)).mono ?_); rintro e w' ⟨rfl, ⟨nd, rfl⟩⟩)
        refine ⟨⟨k + 1, by omega, by go_num, ha.next (by unfold g1; rw [if_neg (by omega)]), zfi hb _ _ _⟩, ?_⟩
        simp [intOf]; omega
    · obtain rfl : k = 64 := by omega
      obtain ⟨cs, h1, h2, h3⟩ := ha
      have Hh := Lib.hid h1; clear h1
      have Hs := Lib.hid h2; clear h2
      have H3 := Lib.hid h3; clear h3
      go_wp2_with (first | (with_reducible refine wpList_load_row rfl 240 _ rfl w.heap.size rfl 240 cs (0, 0) _ Hh.out Tryz.underlying240 rfl (by rw [Hs.out]; kernel_rfl) ?_) | (go_at_call 181; refine (of_calls _ cs _ Hs.out H3.out).mono ?_; rintro e w' ⟨rfl, bel⟩))
      go_ret
      refine ⟨?_, hb.trans (bel.mono hb.size)⟩
      show Ending.returned (.int .u64 (hi (fun j => decide (j < 64) && g1 x v lo j) 64 : Nat)) = _
      rw [zy7 (zp9 x lo 1 v) _ (fun j hj => by
        rw [zdt, decide_eq_true hj]
        unfold g1
        by_cases e : j = lo
        · subst e; rw [if_pos rfl, if_pos ⟨Nat.le_refl _, by omega⟩, Nat.sub_self]; rfl
        · rw [if_neg e, if_neg (by omega)]; rfl)]
end Go.Proofs.YtomeaibdedaldaaGreatDoor.RefSet
namespace Go.Proofs.YtomeaibdedaldaaGreatDoor.RfA
open Go.RowKit Bv VaSpec Base MemL RegR Ax MemC PutC MemC3 TzC OkS SpA SpB SpC SpD IterC SpE SpF SpG SpH SpI SpJ SpK SpN RfP
open BitsC PteSpec
set_option maxRecDepth 10000
set_option maxHeartbeats 800000
theorem zee (a i : Int) (ha : U a) (h0 : 0 ≤ i) (h : i < 64) : Ok 72 [iu a, ii i] (.m (ib (zew a i))) :=
  za2 #[.int .u64 a, .int .i64 i] (.bool (zew a i)) fun W _ => by
    have := RefS.zj7 (X a) i W h0 (by omega)
    rw [B_X ha] at this
    refine this.mono fun e w' ⟨he, hq⟩ => ⟨?_, Q.below hq⟩
    rw [he, zdx h0]; rfl
theorem zhz (a i v : Int) (ha : U a) (hv : U v) (h0 : 0 ≤ i) (h : i < 64) : Ok 161 [iu a, ii i, ii 1, iu v] (.m (iu (zbj a i 1 v))) := by
  obtain ⟨n, rfl⟩ := Int.eq_ofNat_of_zero_le h0
  exact za2 #[.int .u64 a, .int .i64 n, .int .i64 1, .int .u64 v] (.int .u64 (zbj a n 1 v)) fun W _ => by
    have := RefSet.zxk (X a) (X v) n W (by omega)
    rw [B_X ha, B_X hv] at this
    exact this
attribute [local irreducible] Ax.zbh
theorem zut (b m : Int) (hm : 0 ≤ m ∧ m ≤ 64) : Ok 100 [iu b, ii m] (.m (.ag [cu b, ci m, cu (zcp m)])) := by
  refine zad 21 Tryz.func100 rfl rfl rfl rfl ?_ GG.to
  intro W A hG
  repeat (first | (refine zah rfl ?_; first | refine zai ?_) | (refine hK _ ?_; clear hK K) | refine zac rfl ?_ | refine zae ?_ | refine zab (fun K hK => ?_))
  refine za1 (α := Nat × Int) (fun p => (p.1 : Int) ≤ m ∧ p.2 = zcp p.1) (fun p => St.of [(1, .m (ii m)), (4, .m (.c (.p 4 0))), (5, .m (.c (.p 5 0))), (6, .m (ii p.1))] [(4, .live (.box [cu 0, ci 0, cu 0])), (5, .live (.box [cu b, ci m, cu p.2]))]) (fun p => m.toNat - p.1) (0, 0) ⟨by show ((0 : Nat) : Int) ≤ m; omega, allI_zero.symm⟩ (zan _ _ ⟨rfl, rfl, rfl, rfl, trivial⟩ ⟨rfl, rfl, trivial⟩ rfl) ?_
  rintro ⟨i, x⟩ ⟨hi0, hx0⟩
  have hi : (i : Int) ≤ m := hi0
  have hx : x = zcp i := hx0
  show Aw _ _ _ _ (St.of [(1, .m (ii m)), (4, .m (.c (.p 4 0))), (5, .m (.c (.p 5 0))), (6, .m (ii i))] [(4, .live (.box [cu 0, ci 0, cu 0])), (5, .live (.box [cu b, ci m, cu x]))])
  by_cases hlt : (i : Int) < m
  · have hs := zhz x i 1 (hx ▸ zlv i) ⟨by omega, by omega⟩ (by omega) (by omega)
    repeat (first | (refine zah rfl ?_; first | refine zai ?_ | refine gdr (zaa rfl rfl rfl (hs) (by kernel_rfl)) ?_) | (refine hK _ ?_; clear hK K) | refine zac rfl ?_ | refine zaf rfl rfl ?_ | refine zae ?_ | refine zal ?_ | refine zab (fun K hK => ?_))
    exact ⟨(i + 1, zbj x i 1 1), ⟨by show ((i + 1 : Nat) : Int) ≤ m; omega, by show zbj x i 1 1 = zcp ((i + 1 : Nat) : Int); rw [hx, zlu _ (by omega) (by omega)]; rfl⟩, by show m.toNat - (i + 1) < m.toNat - i; omega, zan _ _ ⟨rfl, rfl, rfl, rfl, trivial⟩ ⟨rfl, rfl, trivial⟩ rfl⟩
  · obtain rfl : m = i := by omega
    subst hx
    repeat (first | (refine zah rfl ?_; first | refine zai ?_) | (refine hK _ ?_; clear hK K) | (rename_i K1 hK1; refine hK1 _ ?_; clear hK hK1; clear K) | refine zac rfl ?_ | exact zaj (show zaw _ _ _ = some _ by kernel_rfl) | refine zag rfl rfl ?_ | refine zau ?_ | refine zab (fun K hK => ?_))
theorem zuu (m : Int) (hm : 0 ≤ m ∧ m ≤ 64) : Ok 101 [ii m] (.m (.ag [ci m, cu (zcp m), cu 0])) := by
  refine zad 18 Tryz.func101 rfl rfl rfl rfl ?_ GG.to
  intro W A hG
  repeat (first | (refine zah rfl ?_; first | refine zai ?_) | (refine hK _ ?_; clear hK K) | refine zac rfl ?_ | refine zae ?_ | refine zab (fun K hK => ?_))
  refine za1 (α := Nat × Int) (fun p => (p.1 : Int) ≤ m ∧ p.2 = zcp p.1) (fun p => St.of [(0, .m (ii m)), (2, .m (.c (.p 2 0))), (3, .m (.c (.p 3 0))), (4, .m (ii p.1))] [(2, .live (.box [ci 0, cu 0, cu 0])), (3, .live (.box [ci m, cu p.2, cu 0]))]) (fun p => m.toNat - p.1) (0, 0) ⟨by show ((0 : Nat) : Int) ≤ m; omega, allI_zero.symm⟩ (zan _ _ ⟨rfl, rfl, rfl, rfl, trivial⟩ ⟨rfl, rfl, trivial⟩ rfl) ?_
  rintro ⟨i, x⟩ ⟨hi0, hx0⟩
  have hi : (i : Int) ≤ m := hi0
  have hx : x = zcp i := hx0
  show Aw _ _ _ _ (St.of [(0, .m (ii m)), (2, .m (.c (.p 2 0))), (3, .m (.c (.p 3 0))), (4, .m (ii i))] [(2, .live (.box [ci 0, cu 0, cu 0])), (3, .live (.box [ci m, cu x, cu 0]))])
  by_cases hlt : (i : Int) < m
  · have hs := zhz x i 1 (hx ▸ zlv i) ⟨by omega, by omega⟩ (by omega) (by omega)
    repeat (first | (refine zah rfl ?_; first | refine zai ?_ | refine gdr (zaa rfl rfl rfl (hs) (by kernel_rfl)) ?_) | (refine hK _ ?_; clear hK K) | refine zac rfl ?_ | refine zaf rfl rfl ?_ | refine zae ?_ | refine zal ?_ | refine zab (fun K hK => ?_))
    exact ⟨(i + 1, zbj x i 1 1), ⟨by show ((i + 1 : Nat) : Int) ≤ m; omega, by show zbj x i 1 1 = zcp ((i + 1 : Nat) : Int); rw [hx, zlu _ (by omega) (by omega)]; rfl⟩, by show m.toNat - (i + 1) < m.toNat - i; omega, zan _ _ ⟨rfl, rfl, rfl, rfl, trivial⟩ ⟨rfl, rfl, trivial⟩ rfl⟩
  · obtain rfl : m = i := by omega
    subst hx
    repeat (first | (refine zah rfl ?_; first | refine zai ?_) | (refine hK _ ?_; clear hK K) | (rename_i K1 hK1; refine hK1 _ ?_; clear hK hK1; clear K) | refine zac rfl ?_ | exact zaj (show zaw _ _ _ = some _ by kernel_rfl) | refine zag rfl rfl ?_ | refine zau ?_ | refine zab (fun K hK => ?_))
theorem zly (b m f : Int) (hb : 0 ≤ b ∧ b ≤ 268435456) (hm : 0 ≤ m ∧ m ≤ 64) (hf : 0 ≤ f ∧ f < 2 ^ m.toNat) (h0 : f ≠ 0) : Ok 102 [.ag [cu b, ci m, cu f]] (.tu [.ag [cu b, ci m, cu (zbj f (tzI f) 1 0)], iu (b + tzI f), ii 0]) := by
  have hu : U f := zjz hf.1 hf.2 (by omega)
  have ht := zb7 hu hf.2 h0
  refine zad 28 Tryz.func102 rfl rfl rfl rfl ?_ GG.to
  intro W A hG
  repeat (first | (refine zah rfl ?_; first | refine zai ?_) | (refine hK _ ?_; clear hK K) | refine zac rfl ?_ | refine zae ?_ | refine zab (fun K hK => ?_))
  refine za1 (α := Nat) (fun i => (i : Int) ≤ tzI f) (fun i => St.of [(1, .m (.c (.p 1 0))), (2, .m (.c (.p 2 0))), (5, .m (ii i))] [(1, .live (.box [cu b, ci m, cu f])), (2, .live (.box [cu 0, ci 0, cu 0]))]) (fun i => m.toNat - i) 0 (by show ((0 : Nat) : Int) ≤ _; omega) (zan _ _ ⟨rfl, rfl, rfl, trivial⟩ ⟨rfl, rfl, trivial⟩ rfl) ?_
  intro i hi
  by_cases hlt : (i : Int) < tzI f
  · have hbt := zee f i hu (by omega) (by omega)
    rw [zhy hu h0 (by omega) hlt] at hbt
    repeat (first | (refine zah rfl ?_; first | refine zai ?_ | refine gdr (zaa rfl rfl rfl (hbt) (by kernel_rfl)) ?_) | (refine hK _ ?_; clear hK K) | refine zac rfl ?_ | refine zaf rfl rfl ?_ | refine zag rfl rfl ?_ | refine zae ?_ | refine zal ?_ | refine zab (fun K hK => ?_))
    exact ⟨i + 1, by show ((i + 1 : Nat) : Int) ≤ _; omega, by omega, zan _ _ ⟨rfl, rfl, rfl, trivial⟩ ⟨rfl, rfl, trivial⟩ rfl⟩
  · have e : tzI f = i := by omega
    have hbt := zee f i hu (by omega) (by omega)
    rw [← e, ziy hu h0, e] at hbt
    have hs := zhz f i 0 hu ⟨by omega, by omega⟩ (by omega) (by omega)
    rw [e]
    repeat (first | (refine zah rfl ?_; first | refine zai ?_ | refine gdr (zaa rfl rfl rfl (hbt) (by kernel_rfl)) ?_ | refine gdr (zaa rfl rfl rfl (hs) (by kernel_rfl)) ?_) | (refine hK _ ?_; clear hK K) | refine zac rfl ?_ | refine zay (by kernel_rfl) (by kernel_rfl) rfl ?_ | exact zaj (show zaw _ _ _ = some _ by kernel_rfl) | refine zaf rfl rfl ?_ | refine zae ?_ | refine zal ?_ | refine zab (fun K hK => ?_))
theorem zsl (b m : Int) (hm : 0 ≤ m ∧ m ≤ 64) : Ok 102 [.ag [cu b, ci m, cu 0]] (.tu [.ag [cu b, ci m, cu 0], iu 0, ii 8]) := by
  refine zad 28 Tryz.func102 rfl rfl rfl rfl ?_ GG.to
  intro W A hG
  repeat (first | (refine zah rfl ?_; first | refine zai ?_) | (refine hK _ ?_; clear hK K) | refine zac rfl ?_ | refine zae ?_ | refine zab (fun K hK => ?_))
  refine za1 (α := Nat) (fun i => (i : Int) ≤ m) (fun i => St.of [(1, .m (.c (.p 1 0))), (2, .m (.c (.p 2 0))), (5, .m (ii i))] [(1, .live (.box [cu b, ci m, cu 0])), (2, .live (.box [cu 0, ci 0, cu 0]))]) (fun i => m.toNat - i) 0 (by show ((0 : Nat) : Int) ≤ _; omega) (zan _ _ ⟨rfl, rfl, rfl, trivial⟩ ⟨rfl, rfl, trivial⟩ rfl) ?_
  intro i hi
  by_cases hlt : (i : Int) < m
  · have hbt := zee 0 i ⟨by omega, by omega⟩ (by omega) (by omega)
    rw [zon i (by omega)] at hbt
    repeat (first | (refine zah rfl ?_; first | refine zai ?_ | refine gdr (zaa rfl rfl rfl (hbt) (by kernel_rfl)) ?_) | (refine hK _ ?_; clear hK K) | refine zac rfl ?_ | refine zaf rfl rfl ?_ | refine zag rfl rfl ?_ | refine zae ?_ | refine zal ?_ | refine zab (fun K hK => ?_))
    exact ⟨i + 1, by show ((i + 1 : Nat) : Int) ≤ _; omega, by omega, zan _ _ ⟨rfl, rfl, rfl, trivial⟩ ⟨rfl, rfl, trivial⟩ rfl⟩
  · skip
    repeat (first | (refine zah rfl ?_; first | refine zai ?_) | (refine hK _ ?_; clear hK K) | (rename_i K1 hK1; refine hK1 _ ?_; clear hK hK1; clear K) | refine zac rfl ?_ | exact zaj (show zaw _ _ _ = some _ by kernel_rfl) | refine zag rfl rfl ?_ | refine zau ?_ | refine zab (fun K hK => ?_))
theorem zh0 (m f o : Int) (hm : 0 ≤ m ∧ m ≤ 64) (hf : 0 ≤ f ∧ f < 2 ^ m.toNat) (ho : U o) (h0 : f ≠ 0) : Ok 107 [.ag [ci m, cu f, cu o]] (.tu [.ag [ci m, cu (zeu f), cu (zev f o)], iu (tzI f + 1), ib (zew o (tzI f)), ii 0]) := by
  have hu : U f := zjz hf.1 hf.2 (by omega)
  have ht := zb7 hu hf.2 h0
  refine zad 38 Tryz.func107 rfl rfl rfl rfl ?_ GG.to
  intro W A hG
  repeat (first | (refine zah rfl ?_; first | refine zai ?_) | (refine hK _ ?_; clear hK K) | refine zac rfl ?_ | refine zae ?_ | refine zab (fun K hK => ?_))
  refine za1 (α := Nat) (fun i => (i : Int) ≤ tzI f) (fun i => St.of [(1, .m (.c (.p 1 0))), (2, .m (.c (.p 2 0))), (6, .m (ii i))] [(1, .live (.box [ci m, cu f, cu o])), (2, .live (.box [ci 0, cu 0, cu 0]))]) (fun i => m.toNat - i) 0 (by show ((0 : Nat) : Int) ≤ _; omega) (zan _ _ ⟨rfl, rfl, rfl, trivial⟩ ⟨rfl, rfl, trivial⟩ rfl) ?_
  intro i hi
  by_cases hlt : (i : Int) < tzI f
  · have hbt := zee f i hu (by omega) (by omega)
    rw [zhy hu h0 (by omega) hlt] at hbt
    repeat (first | (refine zah rfl ?_; first | refine zai ?_ | refine gdr (zaa rfl rfl rfl (hbt) (by kernel_rfl)) ?_) | (refine hK _ ?_; clear hK K) | refine zac rfl ?_ | refine zaf rfl rfl ?_ | refine zag rfl rfl ?_ | refine zae ?_ | refine zal ?_ | refine zab (fun K hK => ?_))
    exact ⟨i + 1, by show ((i + 1 : Nat) : Int) ≤ _; omega, by omega, zan _ _ ⟨rfl, rfl, rfl, trivial⟩ ⟨rfl, rfl, trivial⟩ rfl⟩
  · have e : tzI f = i := by omega
    have hbt := zee f i hu (by omega) (by omega)
    rw [← e, ziy hu h0, e] at hbt
    have hbo := zee o i ho (by omega) (by omega)
    have hs := zhz f i 0 hu ⟨by omega, by omega⟩ (by omega) (by omega)
    have hs2 := zhz o i 1 ho ⟨by omega, by omega⟩ (by omega) (by omega)
    unfold zeu zev
    rw [e]
    repeat (first | (refine zah rfl ?_; first | refine zai ?_ | (refine zct 17 rfl ?_; refine gdr (zaa rfl rfl rfl (hbt) (by kernel_rfl)) ?_) | (refine zct 21 rfl ?_; refine gdr (zaa rfl rfl rfl (hbo) (by kernel_rfl)) ?_) | (refine zct 25 rfl ?_; refine gdr (zaa rfl rfl rfl (hs) (by kernel_rfl)) ?_) | (refine zct 30 rfl ?_; refine gdr (zaa rfl rfl rfl (hs2) (by kernel_rfl)) ?_)) | (refine hK _ ?_; clear hK K) | refine zac rfl ?_ | exact zaj (show zaw _ _ _ = some _ by kernel_rfl) | refine zaf rfl rfl ?_ | refine zae ?_ | refine zal ?_ | refine zab (fun K hK => ?_))
theorem zsm (m o : Int) (hm : 0 ≤ m ∧ m ≤ 64) : Ok 107 [.ag [ci m, cu 0, cu o]] (.tu [.ag [ci m, cu 0, cu o], iu 0, ib false, ii 9]) := by
  refine zad 38 Tryz.func107 rfl rfl rfl rfl ?_ GG.to
  intro W A hG
  repeat (first | (refine zah rfl ?_; first | refine zai ?_) | (refine hK _ ?_; clear hK K) | refine zac rfl ?_ | refine zae ?_ | refine zab (fun K hK => ?_))
  refine za1 (α := Nat) (fun i => (i : Int) ≤ m) (fun i => St.of [(1, .m (.c (.p 1 0))), (2, .m (.c (.p 2 0))), (6, .m (ii i))] [(1, .live (.box [ci m, cu 0, cu o])), (2, .live (.box [ci 0, cu 0, cu 0]))]) (fun i => m.toNat - i) 0 (by show ((0 : Nat) : Int) ≤ _; omega) (zan _ _ ⟨rfl, rfl, rfl, trivial⟩ ⟨rfl, rfl, trivial⟩ rfl) ?_
  intro i hi
  by_cases hlt : (i : Int) < m
  · have hbt := zee 0 i ⟨by omega, by omega⟩ (by omega) (by omega)
    rw [zon i (by omega)] at hbt
    repeat (first | (refine zah rfl ?_; first | refine zai ?_ | refine gdr (zaa rfl rfl rfl (hbt) (by kernel_rfl)) ?_) | (refine hK _ ?_; clear hK K) | refine zac rfl ?_ | refine zaf rfl rfl ?_ | refine zag rfl rfl ?_ | refine zae ?_ | refine zal ?_ | refine zab (fun K hK => ?_))
    exact ⟨i + 1, by show ((i + 1 : Nat) : Int) ≤ _; omega, by omega, zan _ _ ⟨rfl, rfl, rfl, trivial⟩ ⟨rfl, rfl, trivial⟩ rfl⟩
  · skip
    repeat (first | (refine zah rfl ?_; first | refine zai ?_) | (refine hK _ ?_; clear hK K) | (rename_i K1 hK1; refine hK1 _ ?_; clear hK hK1; clear K) | refine zac rfl ?_ | exact zaj (show zaw _ _ _ = some _ by kernel_rfl) | refine zag rfl rfl ?_ | refine zau ?_ | refine zab (fun K hK => ?_))
end Go.Proofs.YtomeaibdedaldaaGreatDoor.RfA
namespace Go.Proofs.YtomeaibdedaldaaGreatDoor.RfB
open Go.RowKit Bv VaSpec Base MemL RegR Ax MemC PutC MemC3 TzC OkS SpA SpB SpC SpD IterC SpE SpF SpG SpH SpI SpJ SpK SpN RfP RfQ RfA
open BitsC PteSpec
set_option maxRecDepth 10000
set_option maxHeartbeats 800000
attribute [local irreducible] Ax.zbh
theorem zef (l : List (Int × Int)) (c : Int × Int) : fl (l ++ [c]) = fl l ++ [.int .u64 c.1, .int .u64 c.2] := zcl l [c]
theorem zsn {sz : Int} {l : List (Int × Int)} {n : Nat} {xs : List Value} (h1 : n = l.length) (h2 : xs = fl l) : zc0 sz l = .ag [cu sz, .s n 2 xs] := by rw [h1, h2]
theorem zlz {α β : Type} (f : β → α → β) (b : β) (l : List α) (i : Nat) (a : α) (h : l[i]? = some a) : (l.take (i + 1)).foldl f b = f ((l.take i).foldl f b) a := by
  rw [List.take_add_one, h]; simp
theorem zso {α : Type} (f : α → Bool) (l : List α) (i : Nat) (a : α) (h : l[i]? = some a) : (l.take (i + 1)).filter f = (l.take i).filter f ++ [a].filter f := by
  rw [List.take_add_one, h]; simp
def zx0 (sz p v : Int) (m : List (Int × Int)) (i : Nat) (d : Bool) (n : Nat) (xs : List Value) : St := St.of [(1, .m (iu p)), (2, .m (iu v)), (3, .m (.c (.p 3 0))), (6, .m (.c (.p 6 0))), (7, .m (.c (.o 1000))), (8, .m (ib d)), (9, .m (ii i))] [(3, .live (.box [cu sz, .s m.length 2 (fl m)])), (6, .live (.box [cu 0, .v (.slice none 0 0)])), (1000, .live (.row 204 2 n xs))]
theorem zl0 (sz : Int) (m : List (Int × Int)) (p v : Int) (hs : Srt m) (hl : m.length ≤ 1000000) : Ok 67 [zc0 sz m, iu p, iu v] (.m (zc0 sz (zb2 m p v))) := by
  have hput := zw9 p v m hs
  obtain ⟨b0, hb0⟩ : ∃ b0, b0 = decide (v = 0) := ⟨_, rfl⟩
  rw [← hb0] at hput
  obtain ⟨N, hN⟩ : ∃ N, N = (zb2 m p v).length := ⟨_, rfl⟩
  obtain ⟨XS, hXS⟩ : ∃ XS, XS = fl (zb2 m p v) := ⟨_, rfl⟩
  rw [zsn (sz := sz) hN hXS]
  have hvb : v = 0 ∧ b0 = true ∨ v ≠ 0 ∧ b0 = false := by by_cases h : v = 0 <;> simp [hb0, h]
  clear hb0
  rcases hvb with ⟨hv, rfl⟩ | ⟨hv, rfl⟩
  · refine zad 64 Tryz.func67 rfl rfl rfl rfl ?_ GG.to
    intro W A hG
    repeat (first | (refine zah rfl ?_; first | refine zai ?_) | (refine hK _ ?_; clear hK K) | refine zac rfl ?_ | refine zae ?_ | refine zab (fun K hK => ?_))
    refine za1 (α := Nat × List (Int × Int) × Bool × Nat × List Value) (fun q => q.1 ≤ m.length ∧ (q.2.1, q.2.2.1) = (m.take q.1).foldl (zbu p v) ([], true) ∧ q.2.2.2.1 = q.2.1.length ∧ q.2.2.2.2 = fl q.2.1 ∧ q.2.1.length ≤ 2 * q.1) (fun q => zx0 sz p v m q.1 q.2.2.1 q.2.2.2.1 q.2.2.2.2) (fun q => m.length - q.1) (0, [], true, 0, []) ⟨Nat.zero_le _, rfl, rfl, rfl, Nat.le_refl _⟩ (Sub.trans (zjs 7 1000 204 2 rfl rfl) (zan _ _ ⟨rfl, rfl, rfl, rfl, rfl, rfl, rfl, trivial⟩ ⟨rfl, rfl, rfl, trivial⟩ (by kernel_rfl))) ?_
    rintro ⟨i, l, d, n, xs⟩ ⟨h1, h2, h3, h4, h5⟩
    have g1 : i ≤ m.length := h1
    have g2 : (l, d) = (m.take i).foldl (zbu p v) ([], true) := h2
    have g3 : n = l.length := h3
    have g4 : xs = fl l := h4
    have g5 : l.length ≤ 2 * i := h5
    show Aw _ _ _ _ (zx0 sz p v m i d n xs)
    unfold zx0
    by_cases hlt : i < m.length
    · obtain ⟨c, hc⟩ : ∃ c, m[i]? = some c := ⟨_, List.getElem?_eq_getElem hlt⟩
      have hx := SpL.zsg hc
      have hf := zlz (zbu p v) ([], true) m i c hc
      rw [← g2] at hf
      by_cases a1 : d = false ∧ p < c.1
      · obtain ⟨rfl, a1⟩ := a1
        rw [show zbu p v (l, false) c = (l ++ [(p, v), c], true) by unfold zbu; rw [if_pos ⟨rfl, a1⟩]] at hf
        repeat (first | (refine zah rfl ?_; first | refine zai ?_ | refine gdr (za4 rfl rfl rfl rfl rfl rfl rfl rfl rfl rfl rfl rfl rfl (by omega)) ?_) | (refine hK _ ?_; clear hK K) | refine zac rfl ?_ | refine zaf rfl rfl ?_ | refine zae ?_ | refine zal ?_ | refine zab (fun K hK => ?_))
        exact ⟨(i + 1, l ++ [(p, v), c], true, n + 1 + 1, xs ++ [.int .u64 p, .int .u64 v] ++ [.int .u64 c.1, .int .u64 c.2]), ⟨by show i + 1 ≤ m.length; omega, hf.symm, by show n + 1 + 1 = (l ++ [(p, v), c]).length; simp [g3], by show _ = fl (l ++ [(p, v), c]); rw [g4, zcl, List.append_assoc]; rfl, by show (l ++ [(p, v), c]).length ≤ 2 * (i + 1); simp; omega⟩, by show m.length - (i + 1) < m.length - i; omega, Sub.trans (zan [(1, .m (iu p)), (2, .m (iu v)), (3, .m (.c (.p 3 0))), (6, .m (.c (.p 6 0))), (7, .m (.c (.o 52))), (8, .m (ib true)), (9, .m (ii ((i + 1 : Nat) : Int)))] [(3, .live (.box [cu sz, .s m.length 2 (fl m)])), (6, .live (.box [cu 0, .v (.slice none 0 0)])), (52, .live (.row 204 2 (n + 1 + 1) (xs ++ [.int .u64 p, .int .u64 v] ++ [.int .u64 c.1, .int .u64 c.2])))] ⟨rfl, rfl, rfl, rfl, rfl, rfl, rfl, trivial⟩ ⟨rfl, rfl, rfl, trivial⟩ rfl) (Sub.trans (zeb (b := 52) (b' := 1000) rfl rfl) (zan _ _ ⟨rfl, rfl, rfl, rfl, rfl, rfl, rfl, trivial⟩ ⟨rfl, rfl, rfl, trivial⟩ rfl))⟩
      · by_cases a2 : c.1 = p
        · rw [show zbu p v (l, d) c = (l, d) by unfold zbu; rw [if_neg a1, if_pos a2]] at hf
          have hd : d = true ∨ ¬ p < c.1 := by cases d <;> simp_all
          cases d
          · skip
            repeat (first | (refine zah rfl ?_; first | refine zai ?_) | (refine hK _ ?_; clear hK K) | refine zac rfl ?_ | refine zaf rfl rfl ?_ | refine zag rfl rfl ?_ | refine zae ?_ | refine zal ?_ | refine zab (fun K hK => ?_))
            exact ⟨(i + 1, l, false, n, xs), ⟨by show i + 1 ≤ m.length; omega, hf.symm, g3, g4, by show l.length ≤ 2 * (i + 1); omega⟩, by show m.length - (i + 1) < m.length - i; omega, zan _ _ ⟨rfl, rfl, rfl, rfl, rfl, rfl, rfl, trivial⟩ ⟨rfl, rfl, rfl, trivial⟩ (by kernel_rfl)⟩
          · skip
            repeat (first | (refine zah rfl ?_; first | refine zai ?_) | (refine hK _ ?_; clear hK K) | refine zac rfl ?_ | refine zaf rfl rfl ?_ | refine zag rfl rfl ?_ | refine zae ?_ | refine zal ?_ | refine zab (fun K hK => ?_))
            exact ⟨(i + 1, l, true, n, xs), ⟨by show i + 1 ≤ m.length; omega, hf.symm, g3, g4, by show l.length ≤ 2 * (i + 1); omega⟩, by show m.length - (i + 1) < m.length - i; omega, zan _ _ ⟨rfl, rfl, rfl, rfl, rfl, rfl, rfl, trivial⟩ ⟨rfl, rfl, rfl, trivial⟩ (by kernel_rfl)⟩
        · rw [show zbu p v (l, d) c = (l ++ [c], d) by unfold zbu; rw [if_neg a1, if_neg a2]] at hf
          cases d
          · have hd : ¬ p < c.1 := fun h => a1 ⟨rfl, h⟩
            repeat (first | (refine zah rfl ?_; first | refine zai ?_ | refine gdr (za4 rfl rfl rfl rfl rfl rfl rfl rfl rfl rfl rfl rfl rfl (by omega)) ?_) | (refine hK _ ?_; clear hK K) | refine zac rfl ?_ | refine zaf rfl rfl ?_ | refine zag rfl rfl ?_ | refine zae ?_ | refine zal ?_ | refine zab (fun K hK => ?_))
            exact ⟨(i + 1, l ++ [c], false, n + 1, xs ++ [.int .u64 c.1, .int .u64 c.2]), ⟨by show i + 1 ≤ m.length; omega, hf.symm, by show n + 1 = (l ++ [c]).length; simp [g3], by show _ = fl (l ++ [c]); rw [g4, zef], by show (l ++ [c]).length ≤ 2 * (i + 1); simp; omega⟩, by show m.length - (i + 1) < m.length - i; omega, Sub.trans (zan [(1, .m (iu p)), (2, .m (iu v)), (3, .m (.c (.p 3 0))), (6, .m (.c (.p 6 0))), (7, .m (.c (.o 52))), (8, .m (ib false)), (9, .m (ii ((i + 1 : Nat) : Int)))] [(3, .live (.box [cu sz, .s m.length 2 (fl m)])), (6, .live (.box [cu 0, .v (.slice none 0 0)])), (52, .live (.row 204 2 (n + 1) (xs ++ [.int .u64 c.1, .int .u64 c.2])))] ⟨rfl, rfl, rfl, rfl, rfl, rfl, rfl, trivial⟩ ⟨rfl, rfl, rfl, trivial⟩ rfl) (Sub.trans (zeb (b := 52) (b' := 1000) rfl rfl) (zan _ _ ⟨rfl, rfl, rfl, rfl, rfl, rfl, rfl, trivial⟩ ⟨rfl, rfl, rfl, trivial⟩ rfl))⟩
          · skip
            repeat (first | (refine zah rfl ?_; first | refine zai ?_ | refine gdr (za4 rfl rfl rfl rfl rfl rfl rfl rfl rfl rfl rfl rfl rfl (by omega)) ?_) | (refine hK _ ?_; clear hK K) | refine zac rfl ?_ | refine zaf rfl rfl ?_ | refine zag rfl rfl ?_ | refine zae ?_ | refine zal ?_ | refine zab (fun K hK => ?_))
            exact ⟨(i + 1, l ++ [c], true, n + 1, xs ++ [.int .u64 c.1, .int .u64 c.2]), ⟨by show i + 1 ≤ m.length; omega, hf.symm, by show n + 1 = (l ++ [c]).length; simp [g3], by show _ = fl (l ++ [c]); rw [g4, zef], by show (l ++ [c]).length ≤ 2 * (i + 1); simp; omega⟩, by show m.length - (i + 1) < m.length - i; omega, Sub.trans (zan [(1, .m (iu p)), (2, .m (iu v)), (3, .m (.c (.p 3 0))), (6, .m (.c (.p 6 0))), (7, .m (.c (.o 52))), (8, .m (ib true)), (9, .m (ii ((i + 1 : Nat) : Int)))] [(3, .live (.box [cu sz, .s m.length 2 (fl m)])), (6, .live (.box [cu 0, .v (.slice none 0 0)])), (52, .live (.row 204 2 (n + 1) (xs ++ [.int .u64 c.1, .int .u64 c.2])))] ⟨rfl, rfl, rfl, rfl, rfl, rfl, rfl, trivial⟩ ⟨rfl, rfl, rfl, trivial⟩ rfl) (Sub.trans (zeb (b := 52) (b' := 1000) rfl rfl) (zan _ _ ⟨rfl, rfl, rfl, rfl, rfl, rfl, rfl, trivial⟩ ⟨rfl, rfl, rfl, trivial⟩ rfl))⟩
    · have hi : i = m.length := by omega
      rw [hi, List.take_length] at g2
      rw [← g2] at hput
      cases d
      · have e : zb2 m p v = l ++ [(p, v)] := hput.symm
        obtain rfl : N = n + 1 := by rw [hN, e, g3]; simp
        obtain rfl : XS = xs ++ [.int .u64 p, .int .u64 v] := by rw [hXS, e, g4, zef]
        repeat (first | (refine zah rfl ?_; first | refine zai ?_ | refine gdr (za4 rfl rfl rfl rfl rfl rfl rfl rfl rfl rfl rfl rfl rfl (by omega)) ?_) | (refine hK _ ?_; clear hK K) | (rename_i K1 hK1; refine hK1 _ ?_; clear hK hK1; clear K) | refine zac rfl ?_ | exact zaj (show zaw _ _ _ = some _ by kernel_rfl) | refine zaf rfl rfl ?_ | refine zag rfl rfl ?_ | refine zau ?_ | refine zab (fun K hK => ?_))
      · have e : zb2 m p v = l := hput.symm
        obtain rfl : N = n := by rw [hN, e, g3]
        obtain rfl : XS = xs := by rw [hXS, e, g4]
        repeat (first | (refine zah rfl ?_; first | refine zai ?_) | (refine hK _ ?_; clear hK K) | (rename_i K1 hK1; refine hK1 _ ?_; clear hK hK1; clear K) | refine zac rfl ?_ | exact zaj (show zaw _ _ _ = some _ by kernel_rfl) | refine zag rfl rfl ?_ | refine zau ?_ | refine zal ?_ | refine zab (fun K hK => ?_))
  · refine zad 64 Tryz.func67 rfl rfl rfl rfl ?_ GG.to
    intro W A hG
    repeat (first | (refine zah rfl ?_; first | refine zai ?_) | (refine hK _ ?_; clear hK K) | refine zac rfl ?_ | refine zae ?_ | refine zab (fun K hK => ?_))
    refine za1 (α := Nat × List (Int × Int) × Bool × Nat × List Value) (fun q => q.1 ≤ m.length ∧ (q.2.1, q.2.2.1) = (m.take q.1).foldl (zbu p v) ([], false) ∧ q.2.2.2.1 = q.2.1.length ∧ q.2.2.2.2 = fl q.2.1 ∧ q.2.1.length ≤ 2 * q.1) (fun q => zx0 sz p v m q.1 q.2.2.1 q.2.2.2.1 q.2.2.2.2) (fun q => m.length - q.1) (0, [], false, 0, []) ⟨Nat.zero_le _, rfl, rfl, rfl, Nat.le_refl _⟩ (Sub.trans (zjs 7 1000 204 2 rfl rfl) (zan _ _ ⟨rfl, rfl, rfl, rfl, rfl, rfl, rfl, trivial⟩ ⟨rfl, rfl, rfl, trivial⟩ (by kernel_rfl))) ?_
    rintro ⟨i, l, d, n, xs⟩ ⟨h1, h2, h3, h4, h5⟩
    have g1 : i ≤ m.length := h1
    have g2 : (l, d) = (m.take i).foldl (zbu p v) ([], false) := h2
    have g3 : n = l.length := h3
    have g4 : xs = fl l := h4
    have g5 : l.length ≤ 2 * i := h5
    show Aw _ _ _ _ (zx0 sz p v m i d n xs)
    unfold zx0
    by_cases hlt : i < m.length
    · obtain ⟨c, hc⟩ : ∃ c, m[i]? = some c := ⟨_, List.getElem?_eq_getElem hlt⟩
      have hx := SpL.zsg hc
      have hf := zlz (zbu p v) ([], false) m i c hc
      rw [← g2] at hf
      by_cases a1 : d = false ∧ p < c.1
      · obtain ⟨rfl, a1⟩ := a1
        rw [show zbu p v (l, false) c = (l ++ [(p, v), c], true) by unfold zbu; rw [if_pos ⟨rfl, a1⟩]] at hf
        repeat (first | (refine zah rfl ?_; first | refine zai ?_ | refine gdr (za4 rfl rfl rfl rfl rfl rfl rfl rfl rfl rfl rfl rfl rfl (by omega)) ?_) | (refine hK _ ?_; clear hK K) | refine zac rfl ?_ | refine zaf rfl rfl ?_ | refine zae ?_ | refine zal ?_ | refine zab (fun K hK => ?_))
        exact ⟨(i + 1, l ++ [(p, v), c], true, n + 1 + 1, xs ++ [.int .u64 p, .int .u64 v] ++ [.int .u64 c.1, .int .u64 c.2]), ⟨by show i + 1 ≤ m.length; omega, hf.symm, by show n + 1 + 1 = (l ++ [(p, v), c]).length; simp [g3], by show _ = fl (l ++ [(p, v), c]); rw [g4, zcl, List.append_assoc]; rfl, by show (l ++ [(p, v), c]).length ≤ 2 * (i + 1); simp; omega⟩, by show m.length - (i + 1) < m.length - i; omega, Sub.trans (zan [(1, .m (iu p)), (2, .m (iu v)), (3, .m (.c (.p 3 0))), (6, .m (.c (.p 6 0))), (7, .m (.c (.o 52))), (8, .m (ib true)), (9, .m (ii ((i + 1 : Nat) : Int)))] [(3, .live (.box [cu sz, .s m.length 2 (fl m)])), (6, .live (.box [cu 0, .v (.slice none 0 0)])), (52, .live (.row 204 2 (n + 1 + 1) (xs ++ [.int .u64 p, .int .u64 v] ++ [.int .u64 c.1, .int .u64 c.2])))] ⟨rfl, rfl, rfl, rfl, rfl, rfl, rfl, trivial⟩ ⟨rfl, rfl, rfl, trivial⟩ rfl) (Sub.trans (zeb (b := 52) (b' := 1000) rfl rfl) (zan _ _ ⟨rfl, rfl, rfl, rfl, rfl, rfl, rfl, trivial⟩ ⟨rfl, rfl, rfl, trivial⟩ rfl))⟩
      · by_cases a2 : c.1 = p
        · rw [show zbu p v (l, d) c = (l, d) by unfold zbu; rw [if_neg a1, if_pos a2]] at hf
          have hd : d = true ∨ ¬ p < c.1 := by cases d <;> simp_all
          cases d
          · skip
            repeat (first | (refine zah rfl ?_; first | refine zai ?_) | (refine hK _ ?_; clear hK K) | refine zac rfl ?_ | refine zaf rfl rfl ?_ | refine zag rfl rfl ?_ | refine zae ?_ | refine zal ?_ | refine zab (fun K hK => ?_))
            exact ⟨(i + 1, l, false, n, xs), ⟨by show i + 1 ≤ m.length; omega, hf.symm, g3, g4, by show l.length ≤ 2 * (i + 1); omega⟩, by show m.length - (i + 1) < m.length - i; omega, zan _ _ ⟨rfl, rfl, rfl, rfl, rfl, rfl, rfl, trivial⟩ ⟨rfl, rfl, rfl, trivial⟩ (by kernel_rfl)⟩
          · skip
            repeat (first | (refine zah rfl ?_; first | refine zai ?_) | (refine hK _ ?_; clear hK K) | refine zac rfl ?_ | refine zaf rfl rfl ?_ | refine zag rfl rfl ?_ | refine zae ?_ | refine zal ?_ | refine zab (fun K hK => ?_))
            exact ⟨(i + 1, l, true, n, xs), ⟨by show i + 1 ≤ m.length; omega, hf.symm, g3, g4, by show l.length ≤ 2 * (i + 1); omega⟩, by show m.length - (i + 1) < m.length - i; omega, zan _ _ ⟨rfl, rfl, rfl, rfl, rfl, rfl, rfl, trivial⟩ ⟨rfl, rfl, rfl, trivial⟩ (by kernel_rfl)⟩
        · rw [show zbu p v (l, d) c = (l ++ [c], d) by unfold zbu; rw [if_neg a1, if_neg a2]] at hf
          cases d
          · have hd : ¬ p < c.1 := fun h => a1 ⟨rfl, h⟩
            repeat (first | (refine zah rfl ?_; first | refine zai ?_ | refine gdr (za4 rfl rfl rfl rfl rfl rfl rfl rfl rfl rfl rfl rfl rfl (by omega)) ?_) | (refine hK _ ?_; clear hK K) | refine zac rfl ?_ | refine zaf rfl rfl ?_ | refine zag rfl rfl ?_ | refine zae ?_ | refine zal ?_ | refine zab (fun K hK => ?_))
            exact ⟨(i + 1, l ++ [c], false, n + 1, xs ++ [.int .u64 c.1, .int .u64 c.2]), ⟨by show i + 1 ≤ m.length; omega, hf.symm, by show n + 1 = (l ++ [c]).length; simp [g3], by show _ = fl (l ++ [c]); rw [g4, zef], by show (l ++ [c]).length ≤ 2 * (i + 1); simp; omega⟩, by show m.length - (i + 1) < m.length - i; omega, Sub.trans (zan [(1, .m (iu p)), (2, .m (iu v)), (3, .m (.c (.p 3 0))), (6, .m (.c (.p 6 0))), (7, .m (.c (.o 52))), (8, .m (ib false)), (9, .m (ii ((i + 1 : Nat) : Int)))] [(3, .live (.box [cu sz, .s m.length 2 (fl m)])), (6, .live (.box [cu 0, .v (.slice none 0 0)])), (52, .live (.row 204 2 (n + 1) (xs ++ [.int .u64 c.1, .int .u64 c.2])))] ⟨rfl, rfl, rfl, rfl, rfl, rfl, rfl, trivial⟩ ⟨rfl, rfl, rfl, trivial⟩ rfl) (Sub.trans (zeb (b := 52) (b' := 1000) rfl rfl) (zan _ _ ⟨rfl, rfl, rfl, rfl, rfl, rfl, rfl, trivial⟩ ⟨rfl, rfl, rfl, trivial⟩ rfl))⟩
          · skip
            repeat (first | (refine zah rfl ?_; first | refine zai ?_ | refine gdr (za4 rfl rfl rfl rfl rfl rfl rfl rfl rfl rfl rfl rfl rfl (by omega)) ?_) | (refine hK _ ?_; clear hK K) | refine zac rfl ?_ | refine zaf rfl rfl ?_ | refine zag rfl rfl ?_ | refine zae ?_ | refine zal ?_ | refine zab (fun K hK => ?_))
            exact ⟨(i + 1, l ++ [c], true, n + 1, xs ++ [.int .u64 c.1, .int .u64 c.2]), ⟨by show i + 1 ≤ m.length; omega, hf.symm, by show n + 1 = (l ++ [c]).length; simp [g3], by show _ = fl (l ++ [c]); rw [g4, zef], by show (l ++ [c]).length ≤ 2 * (i + 1); simp; omega⟩, by show m.length - (i + 1) < m.length - i; omega, Sub.trans (zan [(1, .m (iu p)), (2, .m (iu v)), (3, .m (.c (.p 3 0))), (6, .m (.c (.p 6 0))), (7, .m (.c (.o 52))), (8, .m (ib true)), (9, .m (ii ((i + 1 : Nat) : Int)))] [(3, .live (.box [cu sz, .s m.length 2 (fl m)])), (6, .live (.box [cu 0, .v (.slice none 0 0)])), (52, .live (.row 204 2 (n + 1) (xs ++ [.int .u64 c.1, .int .u64 c.2])))] ⟨rfl, rfl, rfl, rfl, rfl, rfl, rfl, trivial⟩ ⟨rfl, rfl, rfl, trivial⟩ rfl) (Sub.trans (zeb (b := 52) (b' := 1000) rfl rfl) (zan _ _ ⟨rfl, rfl, rfl, rfl, rfl, rfl, rfl, trivial⟩ ⟨rfl, rfl, rfl, trivial⟩ rfl))⟩
    · have hi : i = m.length := by omega
      rw [hi, List.take_length] at g2
      rw [← g2] at hput
      cases d
      · have e : zb2 m p v = l ++ [(p, v)] := hput.symm
        obtain rfl : N = n + 1 := by rw [hN, e, g3]; simp
        obtain rfl : XS = xs ++ [.int .u64 p, .int .u64 v] := by rw [hXS, e, g4, zef]
        repeat (first | (refine zah rfl ?_; first | refine zai ?_ | refine gdr (za4 rfl rfl rfl rfl rfl rfl rfl rfl rfl rfl rfl rfl rfl (by omega)) ?_) | (refine hK _ ?_; clear hK K) | (rename_i K1 hK1; refine hK1 _ ?_; clear hK hK1; clear K) | refine zac rfl ?_ | exact zaj (show zaw _ _ _ = some _ by kernel_rfl) | refine zaf rfl rfl ?_ | refine zag rfl rfl ?_ | refine zau ?_ | refine zab (fun K hK => ?_))
      · have e : zb2 m p v = l := hput.symm
        obtain rfl : N = n := by rw [hN, e, g3]
        obtain rfl : XS = xs := by rw [hXS, e, g4]
        repeat (first | (refine zah rfl ?_; first | refine zai ?_) | (refine hK _ ?_; clear hK K) | (rename_i K1 hK1; refine hK1 _ ?_; clear hK hK1; clear K) | refine zac rfl ?_ | exact zaj (show zaw _ _ _ = some _ by kernel_rfl) | refine zag rfl rfl ?_ | refine zau ?_ | refine zal ?_ | refine zab (fun K hK => ?_))
def z0h (sz p v : Int) (m : List (Int × Int)) (i : Nat) (n : Nat) (xs : List Value) : St := St.of [(1, .m (iu p)), (2, .m (iu v)), (3, .m (.c (.p 3 0))), (6, .m (.c (.p 6 0))), (7, .m (.c (.o 1000))), (8, .m (ii i))] [(3, .live (.box [cu sz, .s m.length 2 (fl m)])), (6, .live (.box [cu 0, .v (.slice none 0 0)])), (1000, .live (.row 204 2 n xs))]
theorem zsp (sz : Int) (m : List (Int × Int)) (f : Int) (hs : Srt m) (hl : m.length ≤ 1000000) (hf0 : 0 ≤ f ∧ f < 268436480) (hb : ∀ c ∈ m, 0 ≤ c.1 ∧ c.1 < 1099511627776) : Ok 164 [zc0 sz m, iu (4096 * f), iu 4096] (.m (zc0 sz (TableC.zbc m f))) := by
  have hput := zfh f m hs
  obtain ⟨N, hN⟩ : ∃ N, N = (TableC.zbc m f).length := ⟨_, rfl⟩
  obtain ⟨XS, hXS⟩ : ∃ XS, XS = fl (TableC.zbc m f) := ⟨_, rfl⟩
  rw [zsn (sz := sz) hN hXS]
  obtain ⟨p, hp⟩ : ∃ p, p = 4096 * f := ⟨_, rfl⟩
  obtain ⟨v, hv⟩ : ∃ v : Int, v = 4096 := ⟨_, rfl⟩
  rw [← hp]
  rw [show iu (4096 : Int) = iu v by rw [hv]]
  refine zad 49 Tryz.func164 rfl rfl rfl rfl ?_ GG.to
  intro W A hG
  repeat (first | (refine zah rfl ?_; first | refine zai ?_) | (refine hK _ ?_; clear hK K) | refine zac rfl ?_ | refine zae ?_ | refine zab (fun K hK => ?_))
  refine za1 (α := Nat × List (Int × Int) × Nat × List Value) (fun q => q.1 ≤ m.length ∧ q.2.1 = (m.take q.1).filter (zh6 (f * 512) (f * 512 + 512)) ∧ q.2.2.1 = q.2.1.length ∧ q.2.2.2 = fl q.2.1) (fun q => z0h sz p v m q.1 q.2.2.1 q.2.2.2) (fun q => m.length - q.1) (0, [], 0, []) ⟨Nat.zero_le _, rfl, rfl, rfl⟩ (Sub.trans (zjs 7 1000 204 2 rfl rfl) (zan _ _ ⟨rfl, rfl, rfl, rfl, rfl, rfl, trivial⟩ ⟨rfl, rfl, rfl, trivial⟩ (by kernel_rfl))) ?_
  rintro ⟨i, l, n, xs⟩ ⟨h1, h2, h3, h4⟩
  have g1 : i ≤ m.length := h1
  have g2 : l = (m.take i).filter (zh6 (f * 512) (f * 512 + 512)) := h2
  have g3 : n = l.length := h3
  have g4 : xs = fl l := h4
  have g5 : l.length ≤ m.length := by rw [g2]; exact Nat.le_trans (List.length_filter_le _ _) (by rw [List.length_take]; omega)
  show Aw _ _ _ _ (z0h sz p v m i n xs)
  unfold z0h
  by_cases hlt : i < m.length
  · obtain ⟨c, hc⟩ : ∃ c, m[i]? = some c := ⟨_, List.getElem?_eq_getElem hlt⟩
    have hx := SpL.zsg hc
    have hcb := hb c (List.mem_of_getElem? hc)
    have hf := zso (zh6 (f * 512) (f * 512 + 512)) m i c hc
    rw [← g2] at hf
    by_cases a1 : c.1 < f * 512
    · rw [show [c].filter (zh6 (f * 512) (f * 512 + 512)) = [c] from List.filter_eq_self.2 (fun x hx => by simp at hx; subst hx; simp [zh6, a1])] at hf
      repeat (first | (refine zah rfl ?_; first | refine zai ?_ | refine gdr (za4 rfl rfl rfl rfl rfl rfl rfl rfl rfl rfl rfl rfl rfl (by omega)) ?_) | (refine hK _ ?_; clear hK K) | refine zac rfl ?_ | refine zaf rfl rfl ?_ | refine zae ?_ | refine zal ?_ | refine zab (fun K hK => ?_))
      exact ⟨(i + 1, l ++ [c], n + 1, xs ++ [.int .u64 c.1, .int .u64 c.2]), ⟨by show i + 1 ≤ m.length; omega, hf.symm, by show n + 1 = (l ++ [c]).length; simp [g3], by show _ = fl (l ++ [c]); rw [g4, zef]⟩, by show m.length - (i + 1) < m.length - i; omega, Sub.trans (zan [(1, .m (iu p)), (2, .m (iu v)), (3, .m (.c (.p 3 0))), (6, .m (.c (.p 6 0))), (7, .m (.c (.o 45))), (8, .m (ii ((i + 1 : Nat) : Int)))] [(3, .live (.box [cu sz, .s m.length 2 (fl m)])), (6, .live (.box [cu 0, .v (.slice none 0 0)])), (45, .live (.row 204 2 (n + 1) (xs ++ [.int .u64 c.1, .int .u64 c.2])))] ⟨rfl, rfl, rfl, rfl, rfl, rfl, trivial⟩ ⟨rfl, rfl, rfl, trivial⟩ rfl) (Sub.trans (zeb (b := 45) (b' := 1000) rfl rfl) (zan _ _ ⟨rfl, rfl, rfl, rfl, rfl, rfl, trivial⟩ ⟨rfl, rfl, rfl, trivial⟩ rfl))⟩
    · by_cases a2 : f * 512 + 512 ≤ c.1
      · rw [show [c].filter (zh6 (f * 512) (f * 512 + 512)) = [c] from List.filter_eq_self.2 (fun x hx => by simp at hx; subst hx; simp [zh6, a2])] at hf
        repeat (first | (refine zah rfl ?_; first | refine zai ?_ | refine gdr (za4 rfl rfl rfl rfl rfl rfl rfl rfl rfl rfl rfl rfl rfl (by omega)) ?_) | (refine hK _ ?_; clear hK K) | refine zac rfl ?_ | refine zaf rfl rfl ?_ | refine zae ?_ | refine zal ?_ | refine zab (fun K hK => ?_))
        exact ⟨(i + 1, l ++ [c], n + 1, xs ++ [.int .u64 c.1, .int .u64 c.2]), ⟨by show i + 1 ≤ m.length; omega, hf.symm, by show n + 1 = (l ++ [c]).length; simp [g3], by show _ = fl (l ++ [c]); rw [g4, zef]⟩, by show m.length - (i + 1) < m.length - i; omega, Sub.trans (zan [(1, .m (iu p)), (2, .m (iu v)), (3, .m (.c (.p 3 0))), (6, .m (.c (.p 6 0))), (7, .m (.c (.o 45))), (8, .m (ii ((i + 1 : Nat) : Int)))] [(3, .live (.box [cu sz, .s m.length 2 (fl m)])), (6, .live (.box [cu 0, .v (.slice none 0 0)])), (45, .live (.row 204 2 (n + 1) (xs ++ [.int .u64 c.1, .int .u64 c.2])))] ⟨rfl, rfl, rfl, rfl, rfl, rfl, trivial⟩ ⟨rfl, rfl, rfl, trivial⟩ rfl) (Sub.trans (zeb (b := 45) (b' := 1000) rfl rfl) (zan _ _ ⟨rfl, rfl, rfl, rfl, rfl, rfl, trivial⟩ ⟨rfl, rfl, rfl, trivial⟩ rfl))⟩
      · rw [show [c].filter (zh6 (f * 512) (f * 512 + 512)) = [] from List.filter_eq_nil_iff.2 (fun x hx => by simp at hx; subst hx; simp [zh6]; omega), List.append_nil] at hf
        repeat (first | (refine zah rfl ?_; first | refine zai ?_) | (refine hK _ ?_; clear hK K) | refine zac rfl ?_ | refine zaf rfl rfl ?_ | refine zag rfl rfl ?_ | refine zae ?_ | refine zal ?_ | refine zab (fun K hK => ?_))
        exact ⟨(i + 1, l, n, xs), ⟨by show i + 1 ≤ m.length; omega, hf.symm, g3, g4⟩, by show m.length - (i + 1) < m.length - i; omega, zan _ _ ⟨rfl, rfl, rfl, rfl, rfl, rfl, trivial⟩ ⟨rfl, rfl, rfl, trivial⟩ (by kernel_rfl)⟩
  · have hi : i = m.length := by omega
    rw [hi, List.take_length] at g2
    rw [← g2] at hput
    obtain rfl : N = n := by rw [hN, hput, g3]
    obtain rfl : XS = xs := by rw [hXS, hput, g4]
    repeat (first | (refine zah rfl ?_; first | refine zai ?_) | (refine hK _ ?_; clear hK K) | (rename_i K1 hK1; refine hK1 _ ?_; clear hK hK1; clear K) | refine zac rfl ?_ | exact zaj (show zaw _ _ _ = some _ by kernel_rfl) | refine zag rfl rfl ?_ | refine zau ?_ | refine zab (fun K hK => ?_))
end Go.Proofs.YtomeaibdedaldaaGreatDoor.RfB
namespace Go.Proofs.YtomeaibdedaldaaGreatDoor.PteR
open Go.RowKit Bv VaSpec Base BitsC VaC PteSpec PteC
def f8 (v r w x u g a d : Bool) : Nat → Bool
  | 0 => v
  | 1 => r
  | 2 => w
  | 3 => x
  | 4 => u
  | 5 => g
  | 6 => a
  | _ => d
theorem row_low8 (v r w x u g a d : Bool) (rsw ppn high : Int) : znb (f8 v r w x u g a d) 8 = zm9 ⟨v, r, w, x, u, g, a, d, rsw, ppn, high⟩ := by
  unfold zm9; simp only [znb, f8]; omega
end Go.Proofs.YtomeaibdedaldaaGreatDoor.PteR
namespace Go.Proofs.YtomeaibdedaldaaGreatDoor.VaR
open Go.RowKit Bv VaSpec Base BitsC VaC
end Go.Proofs.YtomeaibdedaldaaGreatDoor.VaR
namespace Go.Proofs.YtomeaibdedaldaaGreatDoor.RfC
open Go.RowKit Bv VaSpec Base MemL RegR Ax MemC PutC MemC3 TzC OkS SpA SpB SpC SpD IterC SpE SpF SpG SpH SpI SpJ SpK SpN RfP RfQ RfA RfB
open BitsC PteSpec
set_option maxRecDepth 10000
set_option maxHeartbeats 800000
attribute [local irreducible] Ax.zbh
theorem zl1 (sz : Int) (m : List (Int × Int)) (b n f : Int) (hb : 0 ≤ b ∧ b ≤ 268435456) (hm : 0 ≤ n ∧ n ≤ 64) (hf : 0 ≤ f ∧ f < 2 ^ n.toNat) (h0 : f ≠ 0) (hs : Srt m) (hl : m.length ≤ 1000000) (hc : ∀ c ∈ m, 0 ≤ c.1 ∧ c.1 < 1099511627776) :
    Ok 108 [zc0 sz m, .ag [cu b, ci n, cu f]] (.tu [zc0 sz (TableC.zbc m (b + tzI f)), .ag [cu b, ci n, cu (zbj f (tzI f) 1 0)], iu (b + tzI f), ii 0]) := by
  have ht := zb7 (zjz hf.1 hf.2 (by omega)) hf.2 h0
  have h1 := zly b n f hb hm hf h0
  have h2 := zsp sz m (b + tzI f) hs hl ⟨by omega, by omega⟩ hc
  refine zad 28 Tryz.func108 rfl rfl rfl rfl ?_ GG.to
  intro W A hG
  repeat (first | (refine zah rfl ?_; first | refine zai ?_ | refine gdr (zaa rfl rfl rfl (h1) (by kernel_rfl)) ?_ | refine gdr (zaa rfl rfl rfl (h2) (by kernel_rfl)) ?_) | (refine hK _ ?_; clear hK K) | refine zac rfl ?_ | refine zay (by kernel_rfl) (by kernel_rfl) rfl ?_ | exact zaj (show zaw _ _ _ = some _ by kernel_rfl) | refine zag rfl rfl ?_ | refine zal ?_ | refine zab (fun K hK => ?_))
theorem zsq (sz : Int) (m : List (Int × Int)) (b n : Int) (hm : 0 ≤ n ∧ n ≤ 64) :
    Ok 108 [zc0 sz m, .ag [cu b, ci n, cu 0]] (.tu [zc0 sz m, .ag [cu b, ci n, cu 0], iu 0, ii 8]) := by
  have h1 := zsl b n hm
  refine zad 28 Tryz.func108 rfl rfl rfl rfl ?_ GG.to
  intro W A hG
  repeat (first | (refine zah rfl ?_; first | refine zai ?_ | refine gdr (zaa rfl rfl rfl (h1) (by kernel_rfl)) ?_) | (refine hK _ ?_; clear hK K) | refine zac rfl ?_ | refine zay (by kernel_rfl) (by kernel_rfl) rfl ?_ | exact zaj (show zaw _ _ _ = some _ by kernel_rfl) | refine zaf rfl rfl ?_ | refine zab (fun K hK => ?_))
theorem zp6 (f : Fe) : Ok 144 [.ag (Fe.ce f), .ag zE] (.m (ib false)) := by
  refine zad 38 Tryz.func144 rfl rfl rfl rfl ?_ GG.to
  intro W A hG
  repeat (first | (refine zah rfl ?_; first | refine zai ?_) | (refine hK _ ?_; clear hK K) | refine zac rfl ?_ | exact zaj (show zaw _ _ _ = some _ by kernel_rfl) | refine zaf rfl rfl ?_ | refine zab (fun K hK => ?_))
theorem zuv (n : Nat) : zsL (n + 1) = zsL n ++ zS := by
  induction n with
  | zero => rfl
  | succ n ih =>
    have e : zsL (n + 1 + 1) = zS ++ zsL (n + 1) := rfl
    have e2 : zsL (n + 1) = zS ++ zsL n := rfl
    rw [e, ih, ← List.append_assoc, ← e2, ih]
def z0i (n : Nat) (f : Fe) (i : Nat) (xs : List Value) : St := St.of [(2, .m (.c (.p 2 0))), (3, .m (.c (.p 3 0))), (4, .m (.c (.p 4 0))), (5, .m (.c (.o 1000))), (6, .m (ii i))] [(2, .live (.box [.s n 45 (zsL n)])), (3, .live (.box (Fe.ce f))), (4, .live (.box [.v (.slice none 0 0)])), (1000, .live (.row 154 45 i xs))]
def rdoL (n : Nat) (f : Fe) (i w : Nat) (xs : List Value) : St := St.of [(2, .m (.c (.p 2 0))), (3, .m (.c (.p 3 0))), (4, .m (.c (.p 4 0))), (5, .m (.c (.o 1000))), (6, .m (ii i)), (7, .m (.c (.p 7 0))), (8, .m (ii w))] [(2, .live (.box [.s n 45 (zsL n)])), (3, .live (.box (Fe.ce f))), (4, .live (.box [.v (.slice none 0 0)])), (7, .live (.box (zS.map .v))), (1000, .live (.row 154 45 i xs))]
theorem zxl (f : Fe) (n : Nat) (hn : n ≤ 16) : Ok 81 [.ag [.s n 45 (zsL n)], .ag (Fe.ce f)] (.m (.ag [.s n 45 (zsL n)])) := by
  have hm := zp6 f
  refine zad 41 Tryz.func81 rfl rfl rfl rfl ?_ GG.to
  intro W A hG
  repeat (first | (refine zah rfl ?_; first | refine zai ?_) | (refine hK _ ?_; clear hK K) | refine zac rfl ?_ | refine zae ?_ | refine zab (fun K hK => ?_))
  refine za1 (α := Nat × List Value) (fun q => q.1 ≤ n ∧ q.2 = zsL q.1) (fun q => z0i n f q.1 q.2) (fun q => n - q.1) (0, []) ⟨Nat.zero_le _, rfl⟩ (Sub.trans (zjs 5 1000 154 45 rfl rfl) (zan _ _ ⟨rfl, rfl, rfl, rfl, rfl, trivial⟩ ⟨rfl, rfl, rfl, rfl, trivial⟩ rfl)) ?_
  rintro ⟨i, xs⟩ ⟨h1, h2⟩
  have g1 : i ≤ n := h1
  have g2 : xs = zsL i := h2
  clear h1 h2
  show Aw _ _ _ _ (z0i n f i xs)
  unfold z0i
  by_cases hlt : i < n
  · have hx : ((zsL n).drop (i * 45)).take 45 = zS := zvl n i hlt
    repeat (first | (refine zah rfl ?_; first | refine zai ?_) | (refine hK _ ?_; clear hK K) | refine zac rfl ?_ | refine zaf rfl rfl ?_ | refine zae ?_ | refine zal ?_ | refine zab (fun K hK => ?_))
    refine za1 (α := Nat) (fun w => w ≤ 4) (fun w => rdoL n f i w xs) (fun w => 4 - w) 0 (by omega) (zan _ _ ⟨rfl, rfl, rfl, rfl, rfl, rfl, rfl, trivial⟩ ⟨rfl, rfl, rfl, rfl, rfl, trivial⟩ rfl) ?_
    intro w hw
    unfold rdoL
    rcases (by omega : w = 0 ∨ w = 1 ∨ w = 2 ∨ w = 3 ∨ w = 4) with rfl | rfl | rfl | rfl | rfl
    · skip
      repeat (first | (refine zah rfl ?_; first | refine zai ?_ | refine gdr (zaa rfl rfl rfl (hm) (by kernel_rfl)) ?_) | (refine hK _ ?_; clear hK K) | refine zac rfl ?_ | refine zay (by kernel_rfl) (by kernel_rfl) rfl ?_ | refine zaf rfl rfl ?_ | refine zag rfl rfl ?_ | refine zae ?_ | refine zal ?_ | refine zab (fun K hK => ?_))
      exact ⟨1, by omega, by omega, zan _ _ ⟨rfl, rfl, rfl, rfl, rfl, rfl, rfl, trivial⟩ ⟨rfl, rfl, rfl, rfl, rfl, trivial⟩ rfl⟩
    · skip
      repeat (first | (refine zah rfl ?_; first | refine zai ?_ | refine gdr (zaa rfl rfl rfl (hm) (by kernel_rfl)) ?_) | (refine hK _ ?_; clear hK K) | refine zac rfl ?_ | refine zay (by kernel_rfl) (by kernel_rfl) rfl ?_ | refine zaf rfl rfl ?_ | refine zag rfl rfl ?_ | refine zae ?_ | refine zal ?_ | refine zab (fun K hK => ?_))
      exact ⟨2, by omega, by omega, zan _ _ ⟨rfl, rfl, rfl, rfl, rfl, rfl, rfl, trivial⟩ ⟨rfl, rfl, rfl, rfl, rfl, trivial⟩ rfl⟩
    · skip
      repeat (first | (refine zah rfl ?_; first | refine zai ?_ | refine gdr (zaa rfl rfl rfl (hm) (by kernel_rfl)) ?_) | (refine hK _ ?_; clear hK K) | refine zac rfl ?_ | refine zay (by kernel_rfl) (by kernel_rfl) rfl ?_ | refine zaf rfl rfl ?_ | refine zag rfl rfl ?_ | refine zae ?_ | refine zal ?_ | refine zab (fun K hK => ?_))
      exact ⟨3, by omega, by omega, zan _ _ ⟨rfl, rfl, rfl, rfl, rfl, rfl, rfl, trivial⟩ ⟨rfl, rfl, rfl, rfl, rfl, trivial⟩ rfl⟩
    · skip
      repeat (first | (refine zah rfl ?_; first | refine zai ?_ | refine gdr (zaa rfl rfl rfl (hm) (by kernel_rfl)) ?_) | (refine hK _ ?_; clear hK K) | refine zac rfl ?_ | refine zay (by kernel_rfl) (by kernel_rfl) rfl ?_ | refine zaf rfl rfl ?_ | refine zag rfl rfl ?_ | refine zae ?_ | refine zal ?_ | refine zab (fun K hK => ?_))
      exact ⟨4, by omega, by omega, zan _ _ ⟨rfl, rfl, rfl, rfl, rfl, rfl, rfl, trivial⟩ ⟨rfl, rfl, rfl, rfl, rfl, trivial⟩ rfl⟩
    · skip
      repeat (first | (refine zah rfl ?_; first | refine zai ?_ | refine gdr (za4 rfl rfl rfl rfl rfl rfl rfl rfl rfl rfl rfl rfl rfl (by omega)) ?_) | (refine hK _ ?_; clear hK K) | (rename_i K1 hK1; refine hK1 _ ?_; clear hK hK1; clear K) | refine zac rfl ?_ | refine zag rfl rfl ?_ | refine zau ?_ | refine zab (fun K hK => ?_))
      exact ⟨(i + 1, xs ++ zS), ⟨by show i + 1 ≤ n; omega, by show xs ++ zS = zsL (i + 1); rw [zuv, g2]⟩, by show n - (i + 1) < n - i; omega, Sub.trans (zan [(2, .m (.c (.p 2 0))), (3, .m (.c (.p 3 0))), (4, .m (.c (.p 4 0))), (5, .m (.c (.o 38))), (6, .m (ii ((i + 1 : Nat) : Int)))] [(2, .live (.box [.s n 45 (zsL n)])), (3, .live (.box (Fe.ce f))), (4, .live (.box [.v (.slice none 0 0)])), (38, .live (.row 154 45 (i + 1) (xs ++ zS)))] ⟨rfl, rfl, rfl, rfl, rfl, trivial⟩ ⟨rfl, rfl, rfl, rfl, trivial⟩ rfl) (Sub.trans (zeb (b := 38) (b' := 1000) rfl rfl) (zan _ _ ⟨rfl, rfl, rfl, rfl, rfl, trivial⟩ ⟨rfl, rfl, rfl, rfl, trivial⟩ rfl))⟩
  · obtain rfl : i = n := by omega
    subst g2
    repeat (first | (refine zah rfl ?_; first | refine zai ?_) | (refine hK _ ?_; clear hK K) | (rename_i K1 hK1; refine hK1 _ ?_; clear hK hK1; clear K) | refine zac rfl ?_ | exact zaj (show zaw _ _ _ = some _ by kernel_rfl) | refine zag rfl rfl ?_ | refine zau ?_ | refine zab (fun K hK => ?_))
theorem zuw (l : List Fe) (hl : l.length ≤ 1000000) (n : Nat) (hn : n ≤ 16) : Ok 30 [.ag [.s n 45 (zsL n)], .c (.s l.length 4 (flF l))] (.m (.ag [.s n 45 (zsL n)])) := by
  refine zad 19 Tryz.func30 rfl rfl rfl rfl ?_ GG.to
  intro W A hG
  repeat (first | (refine zah rfl ?_; first | refine zai ?_) | (refine hK _ ?_; clear hK K) | refine zac rfl ?_ | refine zae ?_ | refine zab (fun K hK => ?_))
  refine za1 (α := Nat) (fun k => k ≤ l.length) (fun k => St.of [(1, .m (.c (.s l.length 4 (flF l)))), (2, .m (.c (.p 2 0))), (4, .m (.c (.p 4 0))), (5, .m (ii k))] [(2, .live (.box [.s n 45 (zsL n)])), (4, .live (.box [.v (.slice none 0 0)]))]) (fun k => l.length - k) 0 (by omega) (zan _ _ ⟨rfl, rfl, rfl, rfl, trivial⟩ ⟨rfl, rfl, trivial⟩ rfl) ?_
  intro k hk
  by_cases hlt : k < l.length
  · obtain ⟨f, hf⟩ : ∃ f, l[k]? = some f := ⟨_, List.getElem?_eq_getElem hlt⟩
    have hx := zvm hf
    have hd := zxl f n hn
    repeat (first | (refine zah rfl ?_; first | refine zai ?_ | refine gdr (zaa rfl rfl rfl (hd) (by kernel_rfl)) ?_) | (refine hK _ ?_; clear hK K) | refine zac rfl ?_ | refine zay (by kernel_rfl) (by kernel_rfl) rfl ?_ | refine zaf rfl rfl ?_ | refine zae ?_ | refine zal ?_ | refine zab (fun K hK => ?_))
    exact ⟨k + 1, by omega, by omega, zan _ _ ⟨rfl, rfl, rfl, rfl, trivial⟩ ⟨rfl, rfl, trivial⟩ rfl⟩
  · skip
    repeat (first | (refine zah rfl ?_; first | refine zai ?_) | (refine hK _ ?_; clear hK K) | (rename_i K1 hK1; refine hK1 _ ?_; clear hK hK1; clear K) | refine zac rfl ?_ | exact zaj (show zaw _ _ _ = some _ by kernel_rfl) | refine zag rfl rfl ?_ | refine zau ?_ | refine zab (fun K hK => ?_))
end Go.Proofs.YtomeaibdedaldaaGreatDoor.RfC
namespace Go.Proofs.YtomeaibdedaldaaGreatDoor.RfD
open Go.RowKit Bv VaSpec Base MemL RegR Ax MemC PutC MemC3 TzC OkS SpA SpB SpC SpD IterC SpE SpF SpG SpH SpI SpJ SpK SpN RfP RfQ RfA RfB RfC SpO
open BitsC PteSpec
set_option maxRecDepth 10000
set_option maxHeartbeats 800000
attribute [local irreducible] Ax.zbh
theorem zsr (k : Kr) (ht : k.ts = zsL k.tn) (hn : k.tn ≤ 16) (l : List Fe) (hl : l.length ≤ 1000000) (hk : k.fs.length ≤ 1000000) : Ok 109 [.ag k.ce, .c (.s l.length 4 (flF l))] (.m (.ag (zdo k l).ce)) := by
  rw [ce_z k ht, show (zdo k l).ce = k.raw k.tn (zsL k.tn) k.ss.length (flS k.ss) (k.fs.length + l.length) (flF k.fs ++ flF l) from by rw [← ht]; simp [zdo, Kr.ce, Kr.raw, flF]]
  have ha := zuw l hl k.tn hn
  refine zad 20 Tryz.func109 rfl rfl rfl rfl ?_ GG.to
  intro W A hG
  repeat (first | (refine zah rfl ?_; first | refine zai ?_ | refine gdr (zaa rfl rfl rfl (ha) (by kernel_rfl)) ?_ | refine gdr (zc3 rfl rfl rfl rfl rfl rfl rfl rfl rfl rfl rfl rfl (znd k.fs) (by omega)) ?_ | refine gdr (za4 rfl rfl rfl rfl rfl rfl rfl rfl rfl rfl rfl rfl (znd l) (by omega)) ?_) | (refine hK _ ?_; clear hK K) | refine zac rfl ?_ | exact zaj (show zaw _ _ _ = some _ by kernel_rfl) | refine zab (fun K hK => ?_))
theorem zxm (a b c : Int) (n : Nat) (h : zer a b c n = true) : Ok 44 [zj0 a b c n] (.m (.ag (zqa a b c n).ce)) := by
  obtain ⟨ha, hb, hc, hn⟩ := zco.1 h
  have l1 := zhw (n := b) (by omega) (by omega)
  have l2 := zj1 (n := b) (by omega) (by omega)
  have h2 := zut a b (by omega)
  have h3 := zuu c (by omega)
  have h5 := zly a b (zcp b) (by omega) (by omega) l1 l2
  obtain ⟨i, z, hi, hz, hs, hby⟩ := TlbNewC.zyi
  obtain ⟨z', hz', hzc⟩ := zset
  obtain rfl : z' = z := by rw [hi] at hz'; exact Option.some.inj (hz'.symm.trans hz)
  have hmd := zsh n z' hzc
  have key : Ok 44 [zj0 a b c n] (.m (.ag [ci a, ci b, ci c, ci n, cu ((a + b) * 4096), .v (.slice none 0 0), .s n 45 (zsL n), cu 0, cu 0, cu 0, ci 0, cb false, cb false, ci (-1), cu a, ci b, cu (zbj (zcp b) (tzI (zcp b)) 1 0), ci c, cu (zcp c), cu 0, .v (.slice none 0 0), ci (-1), cu (a + tzI (zcp b)), .v (.slice none 0 0)])) := by
    rw [show (a + b) * 4096 = 4096 * (a + b) by omega]
    refine zad 49 Tryz.func44 rfl rfl rfl rfl ?_ GG.to
    intro W A hG
    repeat (first | (refine zah rfl ?_; first | refine zai ?_ | refine gdr (zaa rfl rfl rfl (h2) (by kernel_rfl)) ?_ | refine gdr (zaa rfl rfl rfl (h3) (by kernel_rfl)) ?_ | refine gdr (zaa rfl rfl rfl (h5) (by kernel_rfl)) ?_ | refine gdr (zpd rfl rfl rfl rfl rfl rfl rfl hi hz hs (by rw [hby]; omega) (by unfold maxLen; omega) hmd) ?_) | (refine hK _ ?_; clear hK K) | refine zac rfl ?_ | exact zaj (show zaw _ _ _ = some _ by kernel_rfl) | refine zab (fun K hK => ?_))
  refine zfg key rfl (m_lt ?_)
  exact ⟨ltC.rf _, ltC.rf _, ltC.rf _, ltC.rf _, ltC.rf _, ltC.nil 2, ltC.rf _, ltC.rf _, ltC.rf _, ltC.rf _, ltC.rf _, ltC.rf _, ltC.rf _, ltC.rf _, ltC.rf _, ltC.rf _, ltC.rf _, ltC.rf _, ltC.rf _, ltC.rf _, ltC.nil 3, ltC.rf _, ltC.rf _, ltC.nil 4, trivial⟩
end Go.Proofs.YtomeaibdedaldaaGreatDoor.RfD
namespace Go.Proofs.YtomeaibdedaldaaGreatDoor.RfE
open Go.RowKit Bv VaSpec Base MemL RegR Ax MemC PutC MemC3 TzC OkS SpA SpB SpC SpD IterC SpE SpF SpG SpH SpI SpJ SpK SpN RfP RfQ RfA RfB RfC SpO RfD
open BitsC PteSpec
set_option maxRecDepth 10000
set_option maxHeartbeats 800000
attribute [local irreducible] Ax.zbh
theorem zss (n : Int) (h : 0 ≤ n ∧ n < 17592186044416) : PteC.zfm (gP n) = 33 + 1024 * n := by
  have hm : zie (gP n) = true := by
    unfold zie gP
    simp; omega
  unfold PteC.zfm
  rw [if_pos hm]
  show zm9 (gP n) + 0 * 256 + n * 1024 + 0 * 18014398509481984 = _
  rw [show zm9 (gP n) = 33 from rfl]
  omega
theorem znn {n : Nat} {k : Kr} (h : Inv n k) (hp : k.pf ≠ 0) : zlq k = zb2 (TableC.zbc k.m (k.pb + tzI k.pf)) (512 * (k.pb + tzI k.pf) + 511) (33 + 1024 * k.sh) := by
  have t1 := zb7 h.upf h.pf.2 hp
  have h1 := h.cd
  have h2 := h.cp
  have h3 := h.pb
  have h4 := h.pm
  have h8 := h.sh
  have hP : (gP k.sh).U := ⟨by show (0 : Int) ≤ 0 ∧ (0 : Int) < _; omega, by show 0 ≤ k.sh ∧ k.sh < _; omega, by show (0 : Int) ≤ 0 ∧ (0 : Int) < _; omega⟩
  unfold zlq
  rw [zix, zni hP (by omega) (by omega) (by rw [h.sz]; omega), zss _ (by omega), show (k.pb + tzI k.pf) * 512 + 511 = 512 * (k.pb + tzI k.pf) + 511 by omega]
theorem zos {n : Nat} {k : Kr} (h : Inv n k) : ∀ c ∈ k.m, 0 ≤ c.1 ∧ c.1 < 1099511627776 := fun c hc => by
  obtain ⟨a, b, _, _⟩ := h.mc c hc
  have h1 := h.cd
  have h2 := h.cp
  constructor <;> omega
theorem zj8 {n : Nat} {k : Kr} (h : Inv n k) (hn : n ≤ 100000) (h32 : k.ss.length < 32) (h0 : k.af ≠ 0) (hp0 : k.pf ≠ 0) (hown : zew k.ao (tzI k.af) = false) :
    Ok 46 [.ag k.ce] (.tu [.ag (za0 k).ce, ii k.ss.length, ii 0]) := by
  have h1 := h.cd
  have h2 := h.cp
  have h3 := h.pb
  have h4 := h.pm
  have h5 := h.ml
  have h6 := h.ca
  have h7 := h.am
  have h8 := h.sh
  have t1 := zb7 h.upf h.pf.2 hp0
  have t2 := zb7 h.uaf h.af.2 h0
  have hw := zgq k.m (k.pb + tzI k.pf)
  have ht := zh0 k.am k.af k.ao (by omega) (by rw [h.am]; exact h.af) h.uao h0
  rw [hown] at ht
  have hf := zl1 k.sz k.m k.pb k.pm k.pf (by omega) (by omega) (by rw [h.pm]; exact h.pf) hp0 h.m (by omega) (zos h)
  have hs := zl0 k.sz (TableC.zbc k.m (k.pb + tzI k.pf)) (512 * (k.pb + tzI k.pf) + 511) (33 + 1024 * k.sh) (zen _ h.m) (by omega)
  rw [← znn h hp0] at hs
  rw [zem]
  refine zad 80 Tryz.func46 rfl rfl rfl rfl ?_ GG.to
  intro W A hG
  repeat (first | (refine zah rfl ?_; first | refine zai ?_ | refine gdr (zaa rfl rfl rfl (ht) (by kernel_rfl)) ?_ | refine gdr (zaa rfl rfl rfl (hf) (by kernel_rfl)) ?_ | refine gdr (zaa rfl rfl rfl (hs) (by kernel_rfl)) ?_ | refine gdr (zc3 rfl rfl rfl rfl rfl rfl rfl rfl rfl rfl rfl rfl (SpM.flS_one k.ss) (by omega)) ?_ | refine gdr (za4 rfl rfl rfl rfl rfl rfl rfl rfl rfl rfl rfl rfl rfl (by omega)) ?_) | (refine hK _ ?_; clear hK K) | refine zac rfl ?_ | exact zaj (show zaw _ _ _ = some _ by kernel_rfl) | refine zag rfl rfl ?_ | refine zal ?_ | refine zab (fun K hK => ?_))
theorem zj9 {n : Nat} {k : Kr} (h : Inv n k) (hn : n ≤ 100000) (h32 : k.ss.length < 32) (h0 : k.af ≠ 0) (hp0 : k.pf ≠ 0) (hown : zew k.ao (tzI k.af) = true) :
    Ok 46 [.ag k.ce] (.tu [.ag (zdo (za0 k) [aFe (tzI k.af + 1)]).ce, ii k.ss.length, ii 0]) := by
  have h1 := h.cd
  have h2 := h.cp
  have h3 := h.pb
  have h4 := h.pm
  have h5 := h.ml
  have h6 := h.ca
  have h7 := h.am
  have h8 := h.sh
  have h9 := h.fl
  have t1 := zb7 h.upf h.pf.2 hp0
  have t2 := zb7 h.uaf h.af.2 h0
  have hw := zgq k.m (k.pb + tzI k.pf)
  have ht := zh0 k.am k.af k.ao (by omega) (by rw [h.am]; exact h.af) h.uao h0
  rw [hown] at ht
  have hf := zl1 k.sz k.m k.pb k.pm k.pf (by omega) (by omega) (by rw [h.pm]; exact h.pf) hp0 h.m (by omega) (zos h)
  have hs := zl0 k.sz (TableC.zbc k.m (k.pb + tzI k.pf)) (512 * (k.pb + tzI k.pf) + 511) (33 + 1024 * k.sh) (zen _ h.m) (by omega)
  rw [← znn h hp0] at hs
  have hfe : Ok 109 [.ag (({ k with m := zlq k, pf := zbj k.pf (tzI k.pf) 1 0, af := zeu k.af, ao := zev k.af k.ao } : Kr).raw k.tn k.ts (k.ss.length + 1) (flS k.ss ++ (⟨k.pb + tzI k.pf, tzI k.af + 1, true⟩ : Sp).vs) k.fs.length (flF k.fs)), .c (.s 1 4 (flF [aFe (tzI k.af + 1)]))] (.m (.ag (zdo (za0 k) [aFe (tzI k.af + 1)]).ce)) := by
    rw [← zem]
    exact zsr (za0 k) h.ts h.cs.2 [aFe (tzI k.af + 1)] (by simp) (by show k.fs.length ≤ _; omega)
  refine zad 80 Tryz.func46 rfl rfl rfl rfl ?_ GG.to
  intro W A hG
  repeat (first | (refine zah rfl ?_; first | refine zai ?_ | refine gdr (zaa rfl rfl rfl (ht) (by kernel_rfl)) ?_ | refine gdr (zaa rfl rfl rfl (hf) (by kernel_rfl)) ?_ | refine gdr (zaa rfl rfl rfl (hs) (by kernel_rfl)) ?_ | refine gdr (zc3 rfl rfl rfl rfl rfl rfl rfl rfl rfl rfl rfl rfl (SpM.flS_one k.ss) (by omega)) ?_) | (refine hK _ ?_; clear hK K) | refine zac rfl ?_ | refine zag rfl rfl ?_ | refine zal ?_ | refine zab (fun K hK => ?_))
  refine zah rfl ?_
  refine gdr (za4 rfl rfl rfl rfl rfl rfl rfl rfl rfl rfl rfl rfl rfl (by omega)) ?_
  repeat (first | (refine zah rfl ?_; first | refine zai ?_))
  first
    | (refine hK _ ?_; clear hK K)
    | (rename_i K1 hK1; refine hK1 _ ?_; clear hK hK1; clear K)
    | (rename_i K1 hK1; refine hK1 _ ?_; clear hK1)
  refine zb4 (Sub.trans (zu9 (b := 70) rfl) (zan [(1, .m (.c (.p 1 0))), (2, .m (.c (.p 2 0))), (6, .m (iu (tzI k.af + 1))), (7, .m (ib true)), (13, .m (ii k.ss.length))] [(1, .live (.box (({ k with m := zlq k, pf := zbj k.pf (tzI k.pf) 1 0, af := zeu k.af, ao := zev k.af k.ao } : Kr).raw k.tn k.ts (k.ss.length + 1) (flS k.ss ++ (⟨k.pb + tzI k.pf, tzI k.af + 1, true⟩ : Sp).vs) k.fs.length (flF k.fs)))), (2, .live (.box zK))] ⟨by kernel_rfl, by kernel_rfl, by kernel_rfl, by kernel_rfl, by kernel_rfl, trivial⟩ ⟨by kernel_rfl, by kernel_rfl, trivial⟩ (by kernel_rfl))) ?_
  repeat (first | (refine zah rfl ?_; first | refine zai ?_ | refine gdr (zgf (b := 76) rfl rfl rfl rfl rfl rfl (zol (by kernel_rfl) hfe)) ?_) | (refine hK _ ?_; clear hK K) | refine zac rfl ?_ | exact zaj (show zaw _ _ _ = some _ by kernel_rfl) | refine zaf rfl rfl ?_ | refine zab (fun K hK => ?_))
theorem zno {n : Nat} {k : Kr} (h : Inv n k) (hn : n ≤ 100000) : Ok 46 [.ag k.ce] (.tu [.ag (za8 k).1.ce, ii (za8 k).2.1, ii (za8 k).2.2]) := by
  have h3 := h.pb
  have h4 := h.pm
  have h5 := h.ml
  have h6 := h.sl
  have h1 := h.cd
  have h2 := h.cp
  have h7 := h.am
  have h8 := h.ca
  unfold za8
  by_cases c1 : 32 ≤ k.ss.length
  · rw [if_pos c1]
    refine zad 80 Tryz.func46 rfl rfl rfl rfl ?_ GG.to
    intro W A hG
    repeat (first | (refine zah rfl ?_; first | refine zai ?_) | (refine hK _ ?_; clear hK K) | refine zac rfl ?_ | exact zaj (show zaw _ _ _ = some _ by kernel_rfl) | refine zaf rfl rfl ?_ | refine zab (fun K hK => ?_))
  rw [if_neg c1]
  by_cases c2 : k.af = 0
  · rw [if_pos c2]
    have ht : Ok 107 [.ag [ci k.am, cu k.af, cu k.ao]] (.tu [.ag [ci k.am, cu k.af, cu k.ao], iu 0, ib false, ii 9]) := by rw [c2]; exact zsm k.am k.ao (by omega)
    refine zad 80 Tryz.func46 rfl rfl rfl rfl ?_ GG.to
    intro W A hG
    repeat (first | (refine zah rfl ?_; first | refine zai ?_ | refine gdr (zaa rfl rfl rfl (ht) (by kernel_rfl)) ?_) | (refine hK _ ?_; clear hK K) | refine zac rfl ?_ | exact zaj (show zaw _ _ _ = some _ by kernel_rfl) | refine zaf rfl rfl ?_ | refine zag rfl rfl ?_ | refine zal ?_ | refine zab (fun K hK => ?_))
  rw [if_neg c2]
  by_cases c3 : k.pf = 0
  · rw [if_pos c3]
    have t2 := zb7 h.uaf h.af.2 c2
    have ht := zh0 k.am k.af k.ao (by omega) (by rw [h.am]; exact h.af) h.uao c2
    have hf : Ok 108 [zc0 k.sz k.m, .ag [cu k.pb, ci k.pm, cu k.pf]] (.tu [zc0 k.sz k.m, .ag [cu k.pb, ci k.pm, cu k.pf], iu 0, ii 8]) := by rw [c3]; exact zsq k.sz k.m k.pb k.pm (by omega)
    refine zad 80 Tryz.func46 rfl rfl rfl rfl ?_ GG.to
    intro W A hG
    repeat (first | (refine zah rfl ?_; first | refine zai ?_ | refine gdr (zaa rfl rfl rfl (ht) (by kernel_rfl)) ?_ | refine gdr (zaa rfl rfl rfl (hf) (by kernel_rfl)) ?_) | (refine hK _ ?_; clear hK K) | refine zac rfl ?_ | exact zaj (show zaw _ _ _ = some _ by kernel_rfl) | refine zaf rfl rfl ?_ | refine zag rfl rfl ?_ | refine zal ?_ | refine zab (fun K hK => ?_))
  rw [if_neg c3]
  by_cases c4 : (zdk k.ao (tzI k.af) 1 == 1) = true
  · rw [if_pos c4]
    exact zj9 h hn (by omega) c2 c3 c4
  · rw [if_neg c4]
    exact zj8 h hn (by omega) c2 c3 (by unfold zew; cases e : (zdk k.ao (tzI k.af) 1 == 1) with | false => rfl | true => exact absurd e c4)
end Go.Proofs.YtomeaibdedaldaaGreatDoor.RfE
namespace Go.Proofs.YtomeaibdedaldaaGreatDoor.RfG
open Go.RowKit Bv Base BitsC SpI RfP
def cs : Nat → (Nat → Bool) → Nat
  | 0, _ => 0
  | n + 1, f => cs n f + (f n).toNat
theorem zfj : ∀ (n : Nat) (f g : Nat → Bool), (∀ j, j < n → f j = g j) → cs n f = cs n g
  | 0, _, _, _ => rfl
  | n + 1, f, g, h => by simp only [cs]; rw [zfj n f g (fun j hj => h j (by omega)), h n (by omega)]
theorem zy9 {f g : Nat → Bool} {i : Nat} (hi : f i = false) (gi : g i = true) (h : ∀ j, j ≠ i → g j = f j) : ∀ n, i < n → cs n g = cs n f + 1
  | 0, hn => by omega
  | n + 1, hn => by
    simp only [cs]
    by_cases e : i = n
    · subst e
      rw [hi, gi, zfj i g f (fun j hj => h j (by omega))]; rfl
    · rw [zy9 hi gi h n (by omega), h n (fun e' => e e'.symm)]; omega
theorem zux : ∀ (n m : Nat), m ≤ n → cs n (fun j => decide (j < m)) = m
  | 0, m, h => by simp [cs]; omega
  | n + 1, m, h => by
    simp only [cs]
    by_cases e : m = n + 1
    · rw [zfj n _ (fun j => decide (j < n)) (fun j hj => by simp [hj]; omega), zux n n (Nat.le_refl _)]
      simp [e]
    · rw [zux n m (by omega)]; simp; omega
def cb : Nat → Nat → Nat
  | 0, _ => 0
  | f + 1, x => x % 2 + cb f (x / 2)
def M (m : Nat) : Nat → Nat
  | 0 => 0
  | k + 1 => m + 256 * M m k
def f1 (k x : Nat) : Nat := (x / 2 &&& M 85 k) + (x &&& M 85 k)
def f2 (k x : Nat) : Nat := (x / 4 &&& M 51 k) + (x &&& M 51 k)
def f3 (k x : Nat) : Nat := (x / 16 + x) &&& M 15 k
theorem d1 : ∀ a, a < 256 → ∀ c, c < 2 → (a / 2 + 128 * c) &&& 85 = a / 2 &&& 85 := by decide +kernel
theorem d2 : ∀ a, a < 256 → ∀ c, c < 4 → (a / 4 + 64 * c) &&& 51 = a / 4 &&& 51 := by decide +kernel
def g1 (a : Nat) : Nat := (a / 2 &&& 85) + (a &&& 85)
def g2 (a : Nat) : Nat := (a / 4 &&& 51) + (a &&& 51)
def g3 (a : Nat) : Nat := (a / 16 + a) % 16
theorem d3 : ∀ a, a < 256 → g1 a < 256 ∧ g2 (g1 a) < 256 ∧ g2 (g1 a) % 16 ≤ 4 ∧ g2 (g1 a) / 16 ≤ 4 ∧ g3 (g2 (g1 a)) = cb 8 a ∧ cb 8 a ≤ 8 := by decide +kernel
def h3 (k x : Nat) : Nat := f3 k (f2 k (f1 k x))
end Go.Proofs.YtomeaibdedaldaaGreatDoor.RfG
namespace Go.Proofs.YtomeaibdedaldaaGreatDoor.RfJ
open Go.RowKit Bv VaSpec Base MemL RegR Ax MemC PutC MemC3 TzC OkS SpA SpB SpC SpD IterC SpE SpF SpG SpH SpI SpJ SpK SpN RfP RfQ RfE RfG
open BitsC PteSpec
def cnt (x : Int) : Nat := cs 64 (fun j => zew x (j : Int))
theorem zka {x i : Int} (hx : U x) (h0 : 0 ≤ i) (h1 : i < 64) (h : zew x i = true) : cnt (zbj x i 1 0) + 1 = cnt x := by
  obtain ⟨n, rfl⟩ := Int.eq_ofNat_of_zero_le h0
  refine (zy9 (i := n) ?_ h (fun j hj => ?_) 64 (by omega)).symm
  · rw [zhu hx h0 h1 h0 h1, if_pos rfl]; rfl
  · by_cases hj2 : j < 64
    · rw [zhu hx h0 h1 (by omega) (by omega), if_neg (by omega)]
    · rw [zdx (by omega), zdx (by omega)]
      rw [Int.toNat_natCast, BitVec.getLsbD_of_ge _ _ (by omega), BitVec.getLsbD_of_ge _ _ (by omega)]
theorem zf7 (x i j : Int) (hx : U x) (h0 : 0 ≤ i) (h1 : i < 64) (hj : 0 ≤ j) (hj1 : j < 64) : zew (zbj x i 1 0) j = if j = i then false else zew x j := by
  rw [zhu hx h0 h1 hj hj1]; rfl
theorem zgv (n : Int) (j : Int) (hj : 0 ≤ j) (hj1 : j < 64) (h0 : 0 ≤ n) : zew (zcp n) j = decide (j < n) := by
  rw [zdx hj]
  unfold zcp zdk
  rw [X_B, zfc, show (0 : Int).toNat = 0 from rfl, Nat.zero_add, zoo _ (by omega), Bool.and_true]
  by_cases h : j < n
  · rw [decide_eq_true h, decide_eq_true (by omega)]
  · rw [decide_eq_false h, decide_eq_false (by omega)]
theorem zza {n : Int} (h0 : 1 ≤ n) (h : n ≤ 64) : tzI (zcp n) = 0 := by
  have l1 := zhw (n := n) (by omega) h
  have l2 := zj1 h0 h
  have u := zlv n
  have t := zb7 u l1.2 l2
  rcases (by omega : tzI (zcp n) = 0 ∨ 0 < tzI (zcp n)) with e | e
  · exact e
  · have := zhy u l2 (Int.le_refl 0) e
    rw [zgv n 0 (by omega) (by omega) (by omega), decide_eq_true (by omega)] at this
    cases this
def alv : List Sp → Nat
  | [] => 0
  | s :: l => (if s.live then 1 else 0) + alv l
theorem znp : ∀ (l : List Sp) (s : Sp), s.live = true → alv (l ++ [s]) = alv l + 1
  | [], s, h => by simp [alv, h]
  | x :: l, s, h => by simp only [List.cons_append, alv]; rw [znp l s h]; omega
theorem zst : ∀ (xs : List (Int × Int)) (k v : Int) (c : Int × Int), c ∈ xs → c.1 ≠ k → c ∈ zb2 xs k v
  | [], k, v, c, h, _ => by cases h
  | x :: xs, k, v, c, h, hk => by
    simp only [zb2]
    split
    · rcases List.mem_cons.1 h with rfl | h
      · simp
      · exact List.mem_cons_of_mem _ (zst xs k v c h hk)
    · split
      · rename_i hx
        rcases List.mem_cons.1 h with rfl | h
        · exact absurd hx hk
        · split
          · exact h
          · exact List.mem_cons_of_mem _ h
      · split
        · exact h
        · exact List.mem_cons_of_mem _ h
theorem zsu : ∀ (xs : List (Int × Int)) (k v : Int), v ≠ 0 → (k, v) ∈ zb2 xs k v
  | [], k, v, h => by simp [zb2, h]
  | x :: xs, k, v, h => by
    simp only [zb2]
    split
    · exact List.mem_cons_of_mem _ (zsu xs k v h)
    · split <;> simp [h]
structure Inv2 (k : Kr) : Prop where
  sh : k.sh = k.cd
  p0 : zew k.pf 0 = false
  lv : ∀ s ∈ k.ss, s.live = true → s.root ≠ k.cd ∧ s.asid ≤ k.ca ∧ zew k.pf (s.root - k.cd) = false ∧ zew k.af (s.asid - 1) = false ∧ (s.root * 512 + 511, 33 + 1024 * k.sh) ∈ k.m
  ap : ∀ (i j : Nat) (s t : Sp), k.ss[i]? = some s → k.ss[j]? = some t → i ≠ j → s.live = true → t.live = true → s.root ≠ t.root ∧ s.asid ≠ t.asid
  cl : ∀ c ∈ k.m, ∃ s ∈ k.ss, s.live = true ∧ c = (s.root * 512 + 511, 33 + 1024 * k.sh)
  np : (cnt k.pf : Int) + 1 + alv k.ss = k.cp
  na : (cnt k.af : Int) + alv k.ss = k.ca
theorem zkb {a b c : Int} {n : Nat} (h : zer a b c n = true) : Inv2 (zqa a b c n) := by
  obtain ⟨ha, hb, hc, hn⟩ := zco.1 h
  have tz := zza (n := b) (by omega) (by omega)
  have e : (zqa a b c n).pf = zbj (zcp b) 0 1 0 := by show zbj (zcp b) (tzI (zcp b)) 1 0 = _; rw [tz]
  have cb : cnt (zcp b) = b.toNat := by
    unfold cnt
    rw [zfj 64 _ (fun j => decide (j < b.toNat)) (fun j hj => by
      rw [zgv b j (by omega) (by omega) (by omega)]
      by_cases h : (j : Int) < b
      · rw [decide_eq_true h, decide_eq_true (by omega)]
      · rw [decide_eq_false h, decide_eq_false (by omega)]), zux 64 _ (by omega)]
  have cc : cnt (zcp c) = c.toNat := by
    unfold cnt
    rw [zfj 64 _ (fun j => decide (j < c.toNat)) (fun j hj => by
      rw [zgv c j (by omega) (by omega) (by omega)]
      by_cases h : (j : Int) < c
      · rw [decide_eq_true h, decide_eq_true (by omega)]
      · rw [decide_eq_false h, decide_eq_false (by omega)]), zux 64 _ (by omega)]
  have co := zka (x := zcp b) (i := 0) (zlv b) (by omega) (by omega) (by rw [zgv b 0 (by omega) (by omega) (by omega), decide_eq_true (by omega)])
  refine ⟨by show a + tzI (zcp b) = a; rw [tz]; omega, ?_, fun s hs => (by cases hs), fun i j s t hs => (by simp [zqa] at hs), fun c hc => (by cases hc), ?_, ?_⟩
  · rw [e, zf7 _ _ _ (zlv b) (by omega) (by omega) (by omega) (by omega), if_pos rfl]
  · rw [e]
    show (cnt (zbj (zcp b) 0 1 0) : Int) + 1 + ((0 : Nat) : Int) = b
    omega
  · show (cnt (zcp c) : Int) + ((0 : Nat) : Int) = c
    omega
end Go.Proofs.YtomeaibdedaldaaGreatDoor.RfJ
namespace Go.Proofs.YtomeaibdedaldaaGreatDoor.RfK
open Go.RowKit Bv VaSpec Base MemL RegR Ax MemC PutC MemC3 TzC OkS SpA SpB SpC SpD IterC SpE SpF SpG SpH SpI SpJ SpK SpN RfP RfQ RfE RfG RfJ
open BitsC PteSpec
theorem znq {n : Nat} {k : Kr} (h : Inv n k) (g : Inv2 k) (ha : k.af ≠ 0) (hp : k.pf ≠ 0) : Inv2 (za0 k) := by
  have c1 := h.cp
  have c2 := h.ca
  have hcd := h.cd
  have hpb := h.pb
  have hsh := h.sh
  have t1 := zb7 h.upf h.pf.2 hp
  have t2 := zb7 h.uaf h.af.2 ha
  have low1 := ziy h.upf hp
  have low2 := ziy h.uaf ha
  have tn0 : tzI k.pf ≠ 0 := fun e => by rw [e, g.p0] at low1; cases low1
  have hne : ∀ s ∈ k.ss, s.live = true → s.root ≠ k.pb + tzI k.pf ∧ s.asid ≠ tzI k.af + 1 := fun s hs hl => by
    obtain ⟨_, _, b1, b2, _⟩ := g.lv s hs hl
    refine ⟨fun e => ?_, fun e => ?_⟩
    · rw [show s.root - k.cd = tzI k.pf by omega, low1] at b1; cases b1
    · rw [show s.asid - 1 = tzI k.af by omega, low2] at b2; cases b2
  have hwm : TableC.zbc k.m (k.pb + tzI k.pf) = k.m := by
    rw [zfh _ _ h.m]
    refine List.filter_eq_self.2 fun c hc => ?_
    obtain ⟨s, hs, hl, rfl⟩ := g.cl c hc
    have := (hne s hs hl).1
    simp only [zh6, Bool.or_eq_true, decide_eq_true_eq]
    omega
  have hm : (za0 k).m = zb2 k.m (512 * (k.pb + tzI k.pf) + 511) (33 + 1024 * k.sh) := by
    show zlq k = _
    rw [znn h hp, hwm]
  have hcells : ∀ s ∈ k.ss, s.live = true → (s.root * 512 + 511, 33 + 1024 * k.sh) ∈ (za0 k).m := fun s hs hl => by
    rw [hm]
    refine zst _ _ _ _ (g.lv s hs hl).2.2.2.2 ?_
    have := (hne s hs hl).1
    show s.root * 512 + 511 ≠ _; omega
  have hnew : (512 * (k.pb + tzI k.pf) + 511, 33 + 1024 * k.sh) ∈ (za0 k).m := by rw [hm]; exact zsu _ _ _ (by omega)
  have hss : (za0 k).ss = k.ss ++ [⟨k.pb + tzI k.pf, tzI k.af + 1, true⟩] := rfl
  have epf : (za0 k).pf = zbj k.pf (tzI k.pf) 1 0 := rfl
  have eaf : (za0 k).af = zbj k.af (tzI k.af) 1 0 := rfl
  have n1 := zka h.upf t1.1 (by omega) low1
  have n2 := zka h.uaf t2.1 (by omega) low2
  refine ⟨g.sh, ?_, fun s hs hl => ?_, fun i j s t hs ht hij hl hl' => ?_, fun c hc => ?_, ?_, ?_⟩
  · rw [epf, zf7 _ _ _ h.upf t1.1 (by omega) (by omega) (by omega), if_neg (fun e => tn0 e.symm)]; exact g.p0
  · rw [hss] at hs
    rcases List.mem_append.1 hs with hs | hs
    · obtain ⟨a1, a2, a3, a4, a5⟩ := g.lv s hs hl
      obtain ⟨r1, r2⟩ := h.ss s hs hl
      refine ⟨a1, a2, ?_, ?_, hcells s hs hl⟩
      · show zew (za0 k).pf (s.root - k.cd) = false
        rw [epf, zf7 _ _ _ h.upf t1.1 (by omega) (by omega) (by omega)]; split
        · rfl
        · exact a3
      · rw [eaf, zf7 _ _ _ h.uaf t2.1 (by omega) (by omega) (by omega)]; split
        · rfl
        · exact a4
    · rw [List.mem_singleton.1 hs]
      refine ⟨by show k.pb + tzI k.pf ≠ k.cd; omega, by show tzI k.af + 1 ≤ k.ca; omega, ?_, ?_, ?_⟩
      · show zew (za0 k).pf (k.pb + tzI k.pf - k.cd) = false
        rw [show k.pb + tzI k.pf - k.cd = tzI k.pf by omega, epf, zf7 _ _ _ h.upf t1.1 (by omega) (by omega) (by omega), if_pos rfl]
      · show zew (za0 k).af (tzI k.af + 1 - 1) = false
        rw [show tzI k.af + 1 - 1 = tzI k.af by omega, eaf, zf7 _ _ _ h.uaf t2.1 (by omega) (by omega) (by omega), if_pos rfl]
      · show ((k.pb + tzI k.pf) * 512 + 511, 33 + 1024 * k.sh) ∈ _
        rw [show (k.pb + tzI k.pf) * 512 + 511 = 512 * (k.pb + tzI k.pf) + 511 by omega]; exact hnew
  · rw [hss] at hs ht
    have look : ∀ (i : Nat) (s : Sp), (k.ss ++ [(⟨k.pb + tzI k.pf, tzI k.af + 1, true⟩ : Sp)])[i]? = some s → (i < k.ss.length ∧ k.ss[i]? = some s) ∨ (i = k.ss.length ∧ s = ⟨k.pb + tzI k.pf, tzI k.af + 1, true⟩) := fun i s hs => by
      by_cases hi : i < k.ss.length
      · rw [List.getElem?_append_left hi] at hs; exact .inl ⟨hi, hs⟩
      · rw [List.getElem?_append_right (by omega)] at hs
        obtain ⟨d, hd⟩ : ∃ d, d = i - k.ss.length := ⟨_, rfl⟩
        rw [← hd] at hs
        cases d with
        | zero => simp at hs; exact .inr ⟨by omega, hs.symm⟩
        | succ d => simp at hs
    rcases look i s hs with ⟨_, hs⟩ | ⟨ei, es⟩
    · rcases look j t ht with ⟨_, ht⟩ | ⟨ej, et⟩
      · exact g.ap i j s t hs ht hij hl hl'
      · rw [et]; exact hne s (List.mem_of_getElem? hs) hl
    · rcases look j t ht with ⟨_, ht⟩ | ⟨ej, et⟩
      · rw [es]
        have := hne t (List.mem_of_getElem? ht) hl'
        exact ⟨fun e => this.1 e.symm, fun e => this.2 e.symm⟩
      · omega
  · rw [hm] at hc
    rcases zdw _ _ _ _ hc with hc | ⟨rfl, _⟩
    · obtain ⟨s, hs, hl, e⟩ := g.cl c hc
      exact ⟨s, by rw [hss]; exact List.mem_append_left _ hs, hl, e⟩
    · refine ⟨⟨k.pb + tzI k.pf, tzI k.af + 1, true⟩, by rw [hss]; simp, rfl, ?_⟩
      show (512 * (k.pb + tzI k.pf) + 511, _) = ((k.pb + tzI k.pf) * 512 + 511, _)
      rw [show 512 * (k.pb + tzI k.pf) + 511 = (k.pb + tzI k.pf) * 512 + 511 by omega]; rfl
  · have := g.np
    rw [epf, hss, znp _ _ rfl]
    show _ = k.cp
    omega
  · have := g.na
    rw [eaf, hss, znp _ _ rfl]
    show _ = k.ca
    omega
theorem zcg {n : Nat} {k : Kr} (h : Inv n k) (g : Inv2 k) : Inv2 (za8 k).1 := by
  unfold za8
  by_cases c1 : 32 ≤ k.ss.length
  · rw [if_pos c1]; exact g
  rw [if_neg c1]
  by_cases c2 : k.af = 0
  · rw [if_pos c2]; exact g
  rw [if_neg c2]
  by_cases c3 : k.pf = 0
  · rw [if_pos c3]; exact g
  rw [if_neg c3]
  have := znq h g c2 c3
  split
  · exact { sh := this.sh, p0 := this.p0, lv := this.lv, ap := this.ap, cl := this.cl, np := this.np, na := this.na }
  · exact this
end Go.Proofs.YtomeaibdedaldaaGreatDoor.RfK
namespace Go.Proofs.YtomeaibdedaldaaGreatDoor.LaH
open Go.RowKit Bv VaSpec Base MemL RegR Ax MemC PutC MemC3 TzC OkS SpA SpB SpC SpD SpE SpF SpG SpH SpI SpJ SpK SpN SpO RfE RfJ RfK LaA LaB LaC LaD LaE LaF LaG
open BitsC PteSpec
set_option maxRecDepth 10000
set_option maxHeartbeats 1000000
theorem zsv {n : Int} (h : 0 ≤ n ∧ n < 17592186044416) : zas (33 + 1024 * n) = gP n := by
  have hm : zie (gP n) = true := by rw [zdv]; unfold gP; simp; omega
  have hU : (gP n).U := by unfold Pte.U gP; simp; omega
  rw [← zss n h]
  unfold PteC.zfm
  rw [if_pos hm, zel _ hU hm]
theorem zzb {n : Nat} {k : Kr} (h : Inv n k) (g : Inv2 k) : InvL n k := by
  have b1 := h.cd
  have b2 := h.cp
  have hsh := h.sh
  have ash : Al k.cd k.cp k.pf k.sh := ⟨hsh, by rw [g.sh, show k.cd - k.cd = 0 by omega]; exact g.p0⟩
  have ass : ∀ s ∈ k.ss, s.live = true → Al k.cd k.cp k.pf s.root := fun s hs hl => ⟨(h.ss s hs hl).1, (g.lv s hs hl).2.2.1⟩
  refine { g := ⟨h.cd, h.cp, h.sz, h.pf, h.m, fun c hc => ?_⟩, cs := h.cs, pb := h.pb, pm := h.pm, sh := ash, ts := h.ts, ml := h.ml, fl := h.fl, sl := h.sl, ss := ass }
  obtain ⟨s, hs, hl, rfl⟩ := g.cl c hc
  refine ⟨?_, (h.mc _ hc).2.2.2, ?_⟩
  · show Al k.cd k.cp k.pf ((s.root * 512 + 511) / 512)
    rw [show (s.root * 512 + 511) / 512 = s.root by omega]
    exact ass s hs hl
  · show EOk k.cd k.cp k.pf (zas (33 + 1024 * k.sh))
    rw [zsv (by omega)]
    exact .inr ⟨rfl, ash⟩
noncomputable def bgK (a b c : Int) (n : Nat) : Kr := (za8 (za8 (zqa a b c n)).1).1
theorem zzc {a b c : Int} {n : Nat} (h : zer a b c n = true) : Inv 0 (zqa a b c n) ∧ Inv 1 (za8 (zqa a b c n)).1 ∧ InvL 2 (bgK a b c n) := by
  have h0 := zhx h
  have g0 := zkb h
  have h1 := zcf h0
  have g1 := zcg h0 g0
  exact ⟨h0, h1, zzb (zcf h1) (zcg h1 g1)⟩
def kr2 (m : List (Int × Int)) (pf af ao : Int) (ss : List Sp) : Kr := { cd := 4, cp := 8, ca := 2, cs := 1, sz := 49152, m := m, tn := 1, ts := zsL 1, sm := 0, sa := 0, sp := 0, priv := 0, su := false, mx := false, vic := -1, pb := 4, pm := 8, pf := pf, am := 2, af := af, ao := ao, ss := ss, now := -1, sh := 4, fs := [] }
def c0 : Kr := kr2 [] 254 3 0 []
def c1 : Kr := kr2 [(3071, 4129)] 252 2 1 [⟨5, 1, true⟩]
def c2 : Kr := kr2 [(3071, 4129), (3583, 4129)] 248 0 3 [⟨5, 1, true⟩, ⟨6, 2, true⟩]
def cA : Kr := kr2 [(2560, 7169), (3071, 4129), (3583, 4129), (3584, 8193), (4101, 1031)] 224 0 3 [⟨5, 1, true⟩, ⟨6, 2, true⟩]
def cB : Kr := kr2 [(2559, 9217), (2560, 7169), (3071, 4129), (3583, 4129), (3584, 8193), (4101, 1031), (5119, 39)] 192 0 3 [⟨5, 1, true⟩, ⟨6, 2, true⟩]
theorem n0 : zqa 4 8 2 1 = c0 := by kernel_rfl
theorem e1 : za8 c0 = (c1, 0, 0) := by
  unfold za8 za0 zlq
  rw [zix]
  kernel_rfl
theorem e2 : za8 c1 = (c2, 1, 0) := by
  unfold za8 za0 zlq
  rw [zix]
  kernel_rfl
theorem bg2 : bgK 4 8 2 1 = c2 := by
  unfold bgK
  rw [n0, e1, e2]
theorem i2 : InvL 2 c2 := by rw [← bg2]; exact (zzc (by decide)).2.2
def rw2 : Pm := ⟨true, true, false, false⟩
theorem mA : zcb c2 0 20480 4096 0 rw2 = (cA, 0) := by kernel_rfl
theorem iA : InvL 5 cA := by have := znl (id := 0) (a := 20480) (pa := 4096) (l := 0) (p := rw2) i2 ⟨by omega, by omega⟩; rwa [mA] at this
theorem mF : zcb cA 0 20480 0 0 rw2 = (cA, 6) := by kernel_rfl
theorem mG : zcb cA 1 20480 16384 0 rw2 = (cA, 3) := by kernel_rfl
theorem mH : zcb cA 1 20480 0 0 ⟨false, true, false, false⟩ = (cA, 5) := by kernel_rfl
theorem mI : zcb cA (-1) 18446744073709547520 0 0 rw2 = (cB, 0) := by kernel_rfl
theorem iB : InvL 8 cB := by have := znl (id := -1) (a := 18446744073709547520) (pa := 0) (l := 0) (p := rw2) iA ⟨by omega, by omega⟩; rwa [mI] at this
theorem mJ : zcb c2 0 1073762304 0 0 ⟨false, false, false, false⟩ = (c2, 5) := by kernel_rfl
theorem lA : zbv cB 0 = [⟨20480, 4096, 0, true, true, false, false, false⟩] := by
  unfold zbv
  rw [if_neg (by decide), if_neg (by decide)]
  kernel_rfl
theorem lB : zbv cB (-1) = [⟨18446744073709547520, 0, 0, true, true, false, false, false⟩] := by
  unfold zbv
  rw [if_pos rfl, zr0]
  kernel_rfl
theorem lC : zbv cB 1 = [] := by
  unfold zbv
  rw [if_neg (by decide), if_neg (by decide)]
  kernel_rfl
theorem lD : zbv cB 9 = [] := by
  unfold zbv
  rw [if_neg (by decide), if_pos (by decide)]
end Go.Proofs.YtomeaibdedaldaaGreatDoor.LaH
namespace Go.Proofs.YtomeaibdedaldaaGreatDoor.VaR
open Go.RowKit Bv VaSpec Base BitsC VaC
end Go.Proofs.YtomeaibdedaldaaGreatDoor.VaR
namespace Go.Proofs.YtomeaibdedaldaaGreatDoor.RlA
open Go.RowKit Bv VaSpec Base MemL RegR Ax MemC PutC MemC3 TzC OkS SpA SpB SpC SpD SpE SpF SpH SpI SpJ SpN SpO RfA RfB RfC RfD LaA LaB LaC LaD LaE
open BitsC PteSpec
set_option maxRecDepth 10000
set_option maxHeartbeats 1000000
end Go.Proofs.YtomeaibdedaldaaGreatDoor.RlA
namespace Go.Proofs.YtomeaibdedaldaaGreatDoor.RlB
open Go.RowKit Bv VaSpec Base MemL RegR Ax MemC PutC MemC3 TzC OkS SpA SpB SpC SpD SpE SpF SpH SpI SpJ SpN SpO RfA RfB RfC RfD LaA LaB LaC LaD LaE RlA
open BitsC PteSpec
set_option maxRecDepth 10000
set_option maxHeartbeats 1000000
section
variable (sz : Int) (xs : List (Int × Int)) (hs : Srt xs) (hu : Uw xs) (hn : xs.length ≤ 1000000)
include hs hu hn
end
theorem zzd {l : List Pg} {k : Nat} {p : Pg} (h : l[k]? = some p) : ((flP l).drop (k * 8)).take 8 = p.vs := ze1 Pg.vs 8 (fun _ => rfl) l _ p h
theorem zsw (w : World) (x0 x1 x2 y0 y1 y2 : Int) (r w' x u d r' w'' x' u' d' : Bool) :
    (Op.equalIn 10000 60 (.agg #[.int .u64 x0, .int .u64 x1, .int .i64 x2, .bool r, .bool w', .bool x, .bool u, .bool d]) (.agg #[.int .u64 y0, .int .u64 y1, .int .i64 y2, .bool r', .bool w'', .bool x', .bool u', .bool d'])).run Tryz.prog w = .ok (x0 == y0 && (x1 == y1 && (x2 == y2 && ((r == r' && (w' == w'' && (x == x' && (u == u' && true)))) && (d == d' && true))))) w := by
  refine PoolC4.zhn Tryz.underlying60 (by kernel_rfl) ?_
  refine PoolC4.za5 (by rfl) (by go_simp; rfl) (by go_simp; rfl) (by go_simp) ?_
  refine PoolC4.za5 (by rfl) (by go_simp; rfl) (by go_simp; rfl) (by go_simp) ?_
  refine PoolC4.za5 (by rfl) (by go_simp; rfl) (by go_simp; rfl) (by go_simp) ?_
  refine PoolC4.za5 (a := .agg #[.bool r, .bool w', .bool x, .bool u]) (b := .agg #[.bool r', .bool w'', .bool x', .bool u']) (by rfl) (by go_simp) (by go_simp) ?_ ?_
  · refine PoolC4.zhn Tryz.underlying49 (by kernel_rfl) ?_
    refine PoolC4.za5 (by rfl) (by go_simp; rfl) (by go_simp; rfl) (by go_simp) ?_
    refine PoolC4.za5 (by rfl) (by go_simp; rfl) (by go_simp; rfl) (by go_simp) ?_
    refine PoolC4.za5 (by rfl) (by go_simp; rfl) (by go_simp; rfl) (by go_simp) ?_
    exact PoolC4.za5 (by rfl) (by go_simp; rfl) (by go_simp; rfl) (by go_simp) PoolC4.zfx
  · exact PoolC4.za5 (by rfl) (by go_simp; rfl) (by go_simp; rfl) (by go_simp) PoolC4.zfx
theorem zuy (l : List Pg) (hl : l.length ≤ 134217728) : Ok 22 [.c (.s l.length 8 (flP l)), .c (.s l.length 8 (flP l))] (.m (ib true)) := by
  refine zad 26 Tryz.func22 rfl rfl rfl rfl ?_ GG.to
  intro W A hG
  repeat (first | (refine zah rfl ?_; first | refine zai ?_) | (refine hK _ ?_; clear hK K) | refine zac rfl ?_ | refine zag rfl rfl ?_ | refine zae ?_ | refine zal ?_ | refine zab (fun K hK => ?_))
  refine za1 (α := Nat) (fun k => k ≤ l.length) (fun k => St.of [(0, .m (.c (.s l.length 8 (flP l)))), (1, .m (.c (.s l.length 8 (flP l)))), (5, .m (ii k))] []) (fun k => l.length - k) 0 (by omega) (zan _ _ ⟨rfl, rfl, rfl, trivial⟩ trivial rfl) ?_
  intro k hk
  by_cases hlt : k < l.length
  · obtain ⟨f, hf⟩ : ∃ f, l[k]? = some f := ⟨_, List.getElem?_eq_getElem hlt⟩
    have hx := zzd hf
    have he : ∀ w, (Op.equalIn 10000 60 (.agg #[.int .u64 f.va, .int .u64 f.pa, .int .i64 f.lev, .bool f.r, .bool f.w, .bool f.x, .bool f.u, .bool f.d]) (.agg #[.int .u64 f.va, .int .u64 f.pa, .int .i64 f.lev, .bool f.r, .bool f.w, .bool f.x, .bool f.u, .bool f.d])).run Tryz.prog w = .ok true w := fun w => by rw [zsw]; simp
    repeat (first | (refine zah rfl ?_; first | refine zai ?_ | refine gdr (zrb (us := [.int .u64 f.va, .int .u64 f.pa, .int .i64 f.lev, .bool f.r, .bool f.w, .bool f.x, .bool f.u, .bool f.d]) (vs := [.int .u64 f.va, .int .u64 f.pa, .int .i64 f.lev, .bool f.r, .bool f.w, .bool f.x, .bool f.u, .bool f.d]) he (by kernel_rfl) rfl rfl rfl rfl) ?_) | (refine hK _ ?_; clear hK K) | refine zac rfl ?_ | refine zay (by kernel_rfl) (by kernel_rfl) rfl ?_ | refine zaf rfl rfl ?_ | refine zag rfl rfl ?_ | refine zae ?_ | refine zal ?_ | refine zab (fun K hK => ?_))
    exact ⟨k + 1, by omega, by omega, zan _ _ ⟨rfl, rfl, rfl, trivial⟩ trivial rfl⟩
  · skip
    repeat (first | (refine zah rfl ?_; first | refine zai ?_) | (refine hK _ ?_; clear hK K) | (rename_i K1 hK1; refine hK1 _ ?_; clear hK hK1; clear K) | refine zac rfl ?_ | exact zaj (show zaw _ _ _ = some _ by kernel_rfl) | refine zag rfl rfl ?_ | refine zau ?_ | refine zab (fun K hK => ?_))
end Go.Proofs.YtomeaibdedaldaaGreatDoor.RlB
namespace Go.Proofs.YtomeaibdedaldaaGreatDoor.RlC
open Go.RowKit Bv VaSpec Base MemL RegR Ax MemC PutC MemC3 TzC OkS SpA SpB SpC SpD SpE SpF SpH SpI SpJ SpN SpO RfA RfB RfC RfD LaA LaB LaC LaD LaE LaF LaG RlA RlB
open BitsC PteSpec
set_option maxRecDepth 10000
set_option maxHeartbeats 1000000
theorem zsx (k : Kr) (id : Int) : (zbv k id).length ≤ 134217728 := by
  unfold zbv
  split
  · exact Nat.le_trans (zf5 ..) (by omega)
  · split
    · simp
    · exact zp3 ..
end Go.Proofs.YtomeaibdedaldaaGreatDoor.RlC
namespace Go.Proofs.YtomeaibdedaldaaGreatDoor.LaI
open Go.RowKit Bv VaSpec Base MemL RegR Ax MemC PutC MemC3 TzC OkS SpA SpB SpC SpD SpE SpF SpG SpH SpI SpJ SpK SpN RfD RfE RfJ RfK LaA LaB LaC LaD LaE LaF LaG LaH RlB RlC
open BitsC PteSpec
set_option maxRecDepth 10000
set_option maxHeartbeats 1000000
attribute [local irreducible] Ax.zbh
noncomputable def bgI (a b c : Int) (n : Nat) : Nat → Kr
  | 0 => zqa a b c n
  | i + 1 => (za8 (bgI a b c n i)).1
def bgH (k : Kr) (i : Nat) : St := St.of [(2, .m (.c (.p 2 0))), (3, .m (.c (.p 3 0))), (4, .m (.c (.p 4 0))), (6, .m (.c (.p 6 0))), (7, .m (ii i))] [(2, .live (.box zK)), (3, .live (.box zK)), (4, .live (.box k.ce)), (6, .live (.box k.ce))]
theorem zsy {a b c : Int} {n : Nat} (h : zer a b c n = true) : ∀ i, Inv i (bgI a b c n i)
  | 0 => zhx h
  | i + 1 => zcf (zsy h i)
theorem zot (a b c : Int) (n : Nat) (h : zer a b c n = true) : Ok 13 [zj0 a b c n] (.tu [.ag (bgK a b c n).ce, .ag (bgK a b c n).ce]) := by
  have hn := zw7 a b c n h
  have hr := zxm a b c n h
  refine zad 33 Tryz.func13 rfl rfl rfl rfl ?_ GG.to
  intro W A hG
  repeat (first | (refine zah rfl ?_; first | refine zai ?_ | refine gdr (zaa rfl rfl rfl (hn) (by kernel_rfl)) ?_ | refine gdr (zaa rfl rfl rfl (hr) (by kernel_rfl)) ?_) | (refine hK _ ?_; clear hK K) | refine zac rfl ?_ | refine zae ?_ | refine zab (fun K hK => ?_))
  refine za1 (α := Nat) (fun i => i ≤ 2) (fun i => bgH (bgI a b c n i) i) (fun i => 2 - i) 0 (by omega) (zan _ _ ⟨by kernel_rfl, by kernel_rfl, by kernel_rfl, by kernel_rfl, by kernel_rfl, trivial⟩ ⟨by kernel_rfl, by kernel_rfl, by kernel_rfl, by kernel_rfl, trivial⟩ (by kernel_rfl)) ?_
  intro i hi
  show Aw _ _ _ _ (bgH (bgI a b c n i) i)
  unfold bgH
  by_cases hlt : i < 2
  · have hk := zsy h i
    have hc := zp2 hk (by omega)
    have hd := zno hk (by omega)
    have e : bgI a b c n (i + 1) = (za8 (bgI a b c n i)).1 := rfl
    generalize za8 (bgI a b c n i) = rr at *
    repeat (first | (refine zah rfl ?_; first | refine zai ?_ | refine gdr (zaa rfl rfl rfl (hc) (by kernel_rfl)) ?_ | refine gdr (zaa rfl rfl rfl (hd) (by kernel_rfl)) ?_) | (refine hK _ ?_; clear hK K) | refine zac rfl ?_ | refine zaf rfl rfl ?_ | refine zae ?_ | refine zal ?_ | refine zab (fun K hK => ?_))
    refine ⟨i + 1, by omega, by omega, ?_⟩
    rw [e]
    exact zan _ _ ⟨by kernel_rfl, by kernel_rfl, by kernel_rfl, by kernel_rfl, by kernel_rfl, trivial⟩ ⟨by kernel_rfl, by kernel_rfl, by kernel_rfl, by kernel_rfl, trivial⟩ (by kernel_rfl)
  · obtain rfl : i = 2 := by omega
    rw [show bgI a b c n 2 = bgK a b c n from rfl]
    repeat (first | (refine zah rfl ?_; first | refine zai ?_) | (refine hK _ ?_; clear hK K) | (rename_i K1 hK1; refine hK1 _ ?_; clear hK hK1; clear K) | refine zac rfl ?_ | refine zay (by kernel_rfl) (by kernel_rfl) rfl ?_ | exact zaj (show zaw _ _ _ = some _ by kernel_rfl) | refine zag rfl rfl ?_ | refine zau ?_ | refine zab (fun K hK => ?_))
theorem zkc : Ok 11 [] (.m (ib true)) := by
  have hN : Ok 13 [zj0 4 8 2 1] (.tu [.ag c2.ce, .ag c2.ce]) := by rw [← bg2]; exact zot 4 8 2 1 (by decide)
  have hA := ze4 i2 (by omega) 0 20480 4096 0 rw2 ⟨by omega, by omega⟩ ⟨by omega, by omega⟩
  rw [mA] at hA
  have hF := ze4 iA (by omega) 0 20480 0 0 rw2 ⟨by omega, by omega⟩ ⟨by omega, by omega⟩
  rw [mF] at hF
  have hG2 := ze4 iA (by omega) 1 20480 16384 0 rw2 ⟨by omega, by omega⟩ ⟨by omega, by omega⟩
  rw [mG] at hG2
  have hH := ze4 iA (by omega) 1 20480 0 0 ⟨false, true, false, false⟩ ⟨by omega, by omega⟩ ⟨by omega, by omega⟩
  rw [mH] at hH
  have hI := ze4 iA (by omega) (-1) 18446744073709547520 0 0 rw2 ⟨by omega, by omega⟩ ⟨by omega, by omega⟩
  rw [mI] at hI
  have hJ := ze4 i2 (by omega) 0 1073762304 0 0 ⟨false, false, false, false⟩ ⟨by omega, by omega⟩ ⟨by omega, by omega⟩
  rw [mJ] at hJ
  have hL := zeo iB (by omega) 0
  rw [lA] at hL
  have hM := zeo iB (by omega) (-1)
  rw [lB] at hM
  have hO := zeo iB (by omega) 1
  rw [lC] at hO
  have hP := zeo iB (by omega) 9
  rw [lD] at hP
  have hx : ((flP [⟨20480, 4096, 0, true, true, false, false, false⟩]).drop ((0 : Int).toNat * 8)).take 8 = [.int .u64 20480, .int .u64 4096, .int .i64 0, .bool true, .bool true, .bool false, .bool false, .bool false] := rfl
  have hy : ((flP [⟨18446744073709547520, 0, 0, true, true, false, false, false⟩]).drop ((0 : Int).toNat * 8)).take 8 = [.int .u64 18446744073709547520, .int .u64 0, .int .i64 0, .bool true, .bool true, .bool false, .bool false, .bool false] := rfl
  have he : ∀ w, (Op.equalIn 10000 60 (.agg #[.int .u64 20480, .int .u64 4096, .int .i64 0, .bool true, .bool true, .bool false, .bool false, .bool false]) (.agg #[.int .u64 20480, .int .u64 4096, .int .i64 0, .bool true, .bool true, .bool false, .bool false, .bool false])).run Tryz.prog w = .ok true w := fun w => by rw [zsw]; simp
  refine zad 129 Tryz.func11 rfl rfl rfl rfl ?_ GG.to
  intro W A hG
  repeat (first | (refine zah rfl ?_; first | refine zai ?_) | refine zac rfl ?_ | refine zab (fun K hK => ?_))
  first
    | (refine hK _ ?_; clear hK K)
    | (rename_i K1 hK1; refine hK1 _ ?_; clear hK hK1; clear K)
    | (rename_i K1 hK1; refine hK1 _ ?_; clear hK1)
  repeat (first | (refine zah rfl ?_; first | refine zai ?_ | refine gdr (zaa rfl rfl rfl (hN) (by kernel_rfl)) ?_) | refine zac rfl ?_ | refine zab (fun K hK => ?_))
  first
    | (refine hK _ ?_; clear hK K)
    | (rename_i K1 hK1; refine hK1 _ ?_; clear hK hK1; clear K)
    | (rename_i K1 hK1; refine hK1 _ ?_; clear hK1)
  refine zb4 (zan [(1, .m (.c (.p 1 0)))] [(1, .live (.box c2.ce))] ⟨by kernel_rfl, trivial⟩ ⟨by kernel_rfl, trivial⟩ (by kernel_rfl)) ?_
  repeat (first | (refine zah rfl ?_; first | refine zai ?_) | refine zac rfl ?_ | refine zab (fun K hK => ?_))
  first
    | (refine hK _ ?_; clear hK K)
    | (rename_i K1 hK1; refine hK1 _ ?_; clear hK hK1; clear K)
    | (rename_i K1 hK1; refine hK1 _ ?_; clear hK1)
  refine zb4 (zan [(1, .m (.c (.p 1 0))), (3, .m (.c (.p 3 0)))] [(1, .live (.box c2.ce)), (3, .live (.box rw2.ce))] ⟨by kernel_rfl, by kernel_rfl, trivial⟩ ⟨by kernel_rfl, by kernel_rfl, trivial⟩ (by kernel_rfl)) ?_
  repeat (first | (refine zah rfl ?_; first | refine zai ?_ | refine gdr (zaa rfl rfl rfl (hA) (by kernel_rfl)) ?_) | refine zac rfl ?_ | refine zab (fun K hK => ?_))
  first
    | (refine hK _ ?_; clear hK K)
    | (rename_i K1 hK1; refine hK1 _ ?_; clear hK hK1; clear K)
    | (rename_i K1 hK1; refine hK1 _ ?_; clear hK1)
  refine zb4 (zan [(1, .m (.c (.p 1 0))), (3, .m (.c (.p 3 0))), (4, .m (.c (.p 4 0))), (5, .m (ii 0))] [(1, .live (.box c2.ce)), (3, .live (.box rw2.ce)), (4, .live (.box cA.ce))] ⟨by kernel_rfl, by kernel_rfl, by kernel_rfl, by kernel_rfl, trivial⟩ ⟨by kernel_rfl, by kernel_rfl, by kernel_rfl, trivial⟩ (by kernel_rfl)) ?_
  repeat (first | (refine zah rfl ?_; first | refine zai ?_ | refine gdr (zaa rfl rfl rfl (hF) (by kernel_rfl)) ?_) | refine zac rfl ?_ | refine zab (fun K hK => ?_))
  first
    | (refine hK _ ?_; clear hK K)
    | (rename_i K1 hK1; refine hK1 _ ?_; clear hK hK1; clear K)
    | (rename_i K1 hK1; refine hK1 _ ?_; clear hK1)
  refine zb4 (zan [(1, .m (.c (.p 1 0))), (3, .m (.c (.p 3 0))), (4, .m (.c (.p 4 0))), (5, .m (ii 0)), (7, .m (ii 6))] [(1, .live (.box c2.ce)), (3, .live (.box rw2.ce)), (4, .live (.box cA.ce))] ⟨by kernel_rfl, by kernel_rfl, by kernel_rfl, by kernel_rfl, by kernel_rfl, trivial⟩ ⟨by kernel_rfl, by kernel_rfl, by kernel_rfl, trivial⟩ (by kernel_rfl)) ?_
  repeat (first | (refine zah rfl ?_; first | refine zai ?_ | refine gdr (zaa rfl rfl rfl (hG2) (by kernel_rfl)) ?_) | refine zac rfl ?_ | refine zab (fun K hK => ?_))
  first
    | (refine hK _ ?_; clear hK K)
    | (rename_i K1 hK1; refine hK1 _ ?_; clear hK hK1; clear K)
    | (rename_i K1 hK1; refine hK1 _ ?_; clear hK1)
  refine zb4 (zan [(1, .m (.c (.p 1 0))), (3, .m (.c (.p 3 0))), (4, .m (.c (.p 4 0))), (5, .m (ii 0)), (7, .m (ii 6)), (9, .m (ii 3))] [(1, .live (.box c2.ce)), (3, .live (.box rw2.ce)), (4, .live (.box cA.ce))] ⟨by kernel_rfl, by kernel_rfl, by kernel_rfl, by kernel_rfl, by kernel_rfl, by kernel_rfl, trivial⟩ ⟨by kernel_rfl, by kernel_rfl, by kernel_rfl, trivial⟩ (by kernel_rfl)) ?_
  repeat (first | (refine zah rfl ?_; first | refine zai ?_ | refine gdr (zaa rfl rfl rfl (hH) (by kernel_rfl)) ?_) | refine zac rfl ?_ | refine zab (fun K hK => ?_))
  first
    | (refine hK _ ?_; clear hK K)
    | (rename_i K1 hK1; refine hK1 _ ?_; clear hK hK1; clear K)
    | (rename_i K1 hK1; refine hK1 _ ?_; clear hK1)
  refine zb4 (zan [(1, .m (.c (.p 1 0))), (3, .m (.c (.p 3 0))), (4, .m (.c (.p 4 0))), (5, .m (ii 0)), (7, .m (ii 6)), (9, .m (ii 3)), (11, .m (ii 5))] [(1, .live (.box c2.ce)), (3, .live (.box rw2.ce)), (4, .live (.box cA.ce))] ⟨by kernel_rfl, by kernel_rfl, by kernel_rfl, by kernel_rfl, by kernel_rfl, by kernel_rfl, by kernel_rfl, trivial⟩ ⟨by kernel_rfl, by kernel_rfl, by kernel_rfl, trivial⟩ (by kernel_rfl)) ?_
  repeat (first | (refine zah rfl ?_; first | refine zai ?_ | refine gdr (zaa rfl rfl rfl (hI) (by kernel_rfl)) ?_) | refine zac rfl ?_ | refine zab (fun K hK => ?_))
  first
    | (refine hK _ ?_; clear hK K)
    | (rename_i K1 hK1; refine hK1 _ ?_; clear hK hK1; clear K)
    | (rename_i K1 hK1; refine hK1 _ ?_; clear hK1)
  refine zb4 (zan [(1, .m (.c (.p 1 0))), (3, .m (.c (.p 3 0))), (4, .m (.c (.p 4 0))), (5, .m (ii 0)), (7, .m (ii 6)), (9, .m (ii 3)), (11, .m (ii 5)), (12, .m (.c (.p 12 0))), (13, .m (ii 0))] [(1, .live (.box c2.ce)), (3, .live (.box rw2.ce)), (4, .live (.box cA.ce)), (12, .live (.box cB.ce))] ⟨by kernel_rfl, by kernel_rfl, by kernel_rfl, by kernel_rfl, by kernel_rfl, by kernel_rfl, by kernel_rfl, by kernel_rfl, by kernel_rfl, trivial⟩ ⟨by kernel_rfl, by kernel_rfl, by kernel_rfl, by kernel_rfl, trivial⟩ (by kernel_rfl)) ?_
  repeat (first | (refine zah rfl ?_; first | refine zai ?_ | refine gdr (zaa rfl rfl rfl (hJ) (by kernel_rfl)) ?_) | refine zac rfl ?_ | refine zab (fun K hK => ?_))
  first
    | (refine hK _ ?_; clear hK K)
    | (rename_i K1 hK1; refine hK1 _ ?_; clear hK hK1; clear K)
    | (rename_i K1 hK1; refine hK1 _ ?_; clear hK1)
  refine zb4 (zan [(1, .m (.c (.p 1 0))), (3, .m (.c (.p 3 0))), (4, .m (.c (.p 4 0))), (5, .m (ii 0)), (7, .m (ii 6)), (9, .m (ii 3)), (11, .m (ii 5)), (12, .m (.c (.p 12 0))), (13, .m (ii 0)), (15, .m (ii 5))] [(1, .live (.box c2.ce)), (3, .live (.box rw2.ce)), (4, .live (.box cA.ce)), (12, .live (.box cB.ce))] ⟨by kernel_rfl, by kernel_rfl, by kernel_rfl, by kernel_rfl, by kernel_rfl, by kernel_rfl, by kernel_rfl, by kernel_rfl, by kernel_rfl, by kernel_rfl, trivial⟩ ⟨by kernel_rfl, by kernel_rfl, by kernel_rfl, by kernel_rfl, trivial⟩ (by kernel_rfl)) ?_
  repeat (first | (refine zah rfl ?_; first | refine zai ?_ | refine gdr (zaa rfl rfl rfl (hL) (by kernel_rfl)) ?_) | refine zac rfl ?_ | refine zab (fun K hK => ?_))
  first
    | (refine hK _ ?_; clear hK K)
    | (rename_i K1 hK1; refine hK1 _ ?_; clear hK hK1; clear K)
    | (rename_i K1 hK1; refine hK1 _ ?_; clear hK1)
  refine zb4 (zan [(1, .m (.c (.p 1 0))), (3, .m (.c (.p 3 0))), (4, .m (.c (.p 4 0))), (5, .m (ii 0)), (7, .m (ii 6)), (9, .m (ii 3)), (11, .m (ii 5)), (12, .m (.c (.p 12 0))), (13, .m (ii 0)), (15, .m (ii 5)), (16, .m (.c (.s 1 8 (flP [⟨20480, 4096, 0, true, true, false, false, false⟩]))))] [(1, .live (.box c2.ce)), (3, .live (.box rw2.ce)), (4, .live (.box cA.ce)), (12, .live (.box cB.ce))] ⟨by kernel_rfl, by kernel_rfl, by kernel_rfl, by kernel_rfl, by kernel_rfl, by kernel_rfl, by kernel_rfl, by kernel_rfl, by kernel_rfl, by kernel_rfl, by kernel_rfl, trivial⟩ ⟨by kernel_rfl, by kernel_rfl, by kernel_rfl, by kernel_rfl, trivial⟩ (by kernel_rfl)) ?_
  repeat (first | (refine zah rfl ?_; first | refine zai ?_ | refine gdr (zaa rfl rfl rfl (hM) (by kernel_rfl)) ?_) | refine zac rfl ?_ | refine zab (fun K hK => ?_))
  first
    | (refine hK _ ?_; clear hK K)
    | (rename_i K1 hK1; refine hK1 _ ?_; clear hK hK1; clear K)
    | (rename_i K1 hK1; refine hK1 _ ?_; clear hK1)
  refine zb4 (zan [(1, .m (.c (.p 1 0))), (3, .m (.c (.p 3 0))), (4, .m (.c (.p 4 0))), (5, .m (ii 0)), (7, .m (ii 6)), (9, .m (ii 3)), (11, .m (ii 5)), (12, .m (.c (.p 12 0))), (13, .m (ii 0)), (15, .m (ii 5)), (16, .m (.c (.s 1 8 (flP [⟨20480, 4096, 0, true, true, false, false, false⟩])))), (17, .m (.c (.s 1 8 (flP [⟨18446744073709547520, 0, 0, true, true, false, false, false⟩]))))] [(1, .live (.box c2.ce)), (3, .live (.box rw2.ce)), (4, .live (.box cA.ce)), (12, .live (.box cB.ce))] ⟨by kernel_rfl, by kernel_rfl, by kernel_rfl, by kernel_rfl, by kernel_rfl, by kernel_rfl, by kernel_rfl, by kernel_rfl, by kernel_rfl, by kernel_rfl, by kernel_rfl, by kernel_rfl, trivial⟩ ⟨by kernel_rfl, by kernel_rfl, by kernel_rfl, by kernel_rfl, trivial⟩ (by kernel_rfl)) ?_
  repeat (first | (refine zah rfl ?_; first | refine zai ?_ | (refine zct 113 rfl ?_; refine gdr (zaa rfl rfl rfl (hO) (by kernel_rfl)) ?_) | (refine zct 119 rfl ?_; refine gdr (zaa rfl rfl rfl (hP) (by kernel_rfl)) ?_) | refine gdr (zhh (us := [.int .u64 20480, .int .u64 4096, .int .i64 0, .bool true, .bool true, .bool false, .bool false, .bool false]) (vs := [.int .u64 20480, .int .u64 4096, .int .i64 0, .bool true, .bool true, .bool false, .bool false, .bool false]) he (by kernel_rfl) rfl rfl rfl rfl) ?_) | (refine hK _ ?_; clear hK K) | refine zay (by kernel_rfl) (by kernel_rfl) rfl ?_ | exact zaj (show zaw _ _ _ = some _ by kernel_rfl) | refine zab (fun K hK => ?_))
end Go.Proofs.YtomeaibdedaldaaGreatDoor.LaI
namespace Go.Proofs.YtomeaibdedaldaaGreatDoor.LaJ
open Go.RowKit Bv VaSpec Base MemL RegR Ax MemC PutC MemC3 TzC OkS SpA SpB SpC SpD SpE SpF SpG SpH SpI SpJ SpK SpN RfD RfE LaA LaB LaC LaD LaE LaF LaG LaH LaI RlB RlC
open BitsC PteSpec
set_option maxRecDepth 10000
set_option maxHeartbeats 1000000
attribute [local irreducible] Ax.zbh
structure Rq where
  id : Int
  va : Int
  pa : Int
  lev : Int
  p : Pm
deriving DecidableEq
def Rq.ce (q : Rq) : List Ce := [ci q.id, cu q.va, cu q.pa, ci q.lev, cb q.p.r, cb q.p.w, cb q.p.x, cb q.p.u]
def Rq.vs (q : Rq) : List Value := [.int .i64 q.id, .int .u64 q.va, .int .u64 q.pa, .int .i64 q.lev, .bool q.p.r, .bool q.p.w, .bool q.p.x, .bool q.p.u]
def UQ (q : Rq) : Prop := U q.va ∧ U q.pa
def flQ (l : List Rq) : List Value := l.flatMap Rq.vs
theorem zze {l : List Rq} {k : Nat} {q : Rq} (h : l[k]? = some q) : ((flQ l).drop (k * 8)).take 8 = [.int .i64 q.id, .int .u64 q.va, .int .u64 q.pa, .int .i64 q.lev, .bool q.p.r, .bool q.p.w, .bool q.p.x, .bool q.p.u] := ze1 Rq.vs 8 (fun _ => rfl) l _ q h
def mq (k : Kr) (q : Rq) : Kr × Int := zcb k q.id q.va q.pa q.lev q.p
theorem zp7 {n : Nat} {k : Kr} (h : InvL n k) (hn : n ≤ 90000) (q : Rq) (hq : UQ q) : Ok 15 [.ag k.ce, ii q.id, iu q.va, iu q.pa, ii q.lev, .ag q.p.ce] (.tu [.ag (mq k q).1.ce, ii (mq k q).2]) := ze4 h hn q.id q.va q.pa q.lev q.p hq.1 hq.2
end Go.Proofs.YtomeaibdedaldaaGreatDoor.LaJ
namespace Go.Proofs.YtomeaibdedaldaaGreatDoor.Open
open Go.RowKit Go.WideShapes Go.ChangeShapes Base
set_option maxRecDepth 10000
section
variable {H : Type} {enc : TypeId × Value → H} {P : Program}
theorem keepAll (hl : laidOutB P = true) {W W' : World} (hb : Below W.heap.size W W') : ∀ {ts : List TypeId} {vs : List Value} {ds : List (DataW H)} {ps : List MemPlace},
    (ts.all fun t => P.readableRec t && decide (t < P.types.size)) = true → DataW.TrodAll enc P W 0 (fun _ => true) true ts vs ds ps → DataW.TrodAll enc P W' 0 (fun b => decide (b < W.heap.size)) true ts vs ds ps
  | [], [], [], _, _, h => h
  | t :: ts, v :: vs, d :: ds, ps, ht, ⟨a, b, h1, h2, e⟩ => by
    simp only [List.all_cons, Bool.and_eq_true, decide_eq_true_eq] at ht
    have h1' := h1
    obtain ⟨n, hn⟩ := h1
    exact ⟨a, b, Below.trod hl ht.1.1 ht.1.2 h1' hb (fun x hx => DataW.trod_lt n t _ _ hn x hx), keepAll hl hb ht.2 h2, e⟩
end
section
variable {H : Type} {enc : TypeId × Value → H} {W : World} {base b0 : Nat} {sp : Nat → Bool} {held : Bool} {n : Nat} {r : Reach}
theorem zfk {c : Value} {x : Option (DataW H × List MemPlace)} {y : DataW H × List MemPlace} (h : DataW.trod enc Tryz.prog W base sp held n 4 [c] = x) (hx : x = some y) : ∃ b, c = .bool b := by
  rw [hx] at h
  obtain ⟨b, e, _⟩ := DataW.trod_bool Tryz.underlying4 h
  exact ⟨b, by simpa using e⟩
theorem zou {c : Value} {x : Option (DataW H × List MemPlace)} {y : DataW H × List MemPlace} (h : DataW.trod enc Tryz.prog W base sp held n 25 [c] = x) (hx : x = some y) : ∃ a, c = .int .u64 a ∧ U a := by
  rw [hx] at h
  obtain ⟨b, e, _, wf⟩ := DataW.trod_int Tryz.underlying25 h
  exact ⟨b, by simpa using e, U.of wf⟩
theorem zeq {c : Value} {x : Option (DataW H × List MemPlace)} {y : DataW H × List MemPlace} (h : DataW.trod enc Tryz.prog W base sp held n 3 [c] = x) (hx : x = some y) : ∃ a, c = .int .i64 a ∧ (-9223372036854775808 ≤ a ∧ a ≤ 9223372036854775807) := by
  rw [hx] at h
  obtain ⟨b, e, _, wf⟩ := DataW.trod_int Tryz.underlying3 h
  refine ⟨b, by simpa using e, ?_⟩
  simp [Lit.wf, IntKind.min, IntKind.max, IntKind.bits, IntKind.signed] at wf; omega
theorem zch {α : Type} {xs : List α} {m i : Nat} (h : xs.length = m) (hi : i < m) : ∃ y, xs[i]? = some y := ⟨xs[i]'(by omega), List.getElem?_eq_getElem _⟩
end
end Go.Proofs.YtomeaibdedaldaaGreatDoor.Open
namespace Go.Proofs.YtomeaibdedaldaaGreatDoor.Laid
open Go.ChangeShapes Go.WideShapes Go.ChangeAt Go.RowKit Ax OkS LaJ MemL
set_option maxRecDepth 10000
def laidS : List (String × DataW Unit) := [("atlas/va.sizes", Rows.laid_atlas_va_sizes), ("math/bits.deBruijn64tab", Rows.laid_math_bits_deBruijn64tab), ("atlas/fence.asks", Rows.laid_atlas_fence_asks)]
theorem g_sizes : Tryz.prog.globalNamed "atlas/va.sizes" = some 0 := by kernel_rfl
theorem g_tab : Tryz.prog.globalNamed "math/bits.deBruijn64tab" = some 1 := by kernel_rfl
theorem g_asks : Tryz.prog.globalNamed "atlas/fence.asks" = some 2 := by kernel_rfl
theorem t_sizes : (Tryz.prog.globals[0]?).map (·.type) = some 201 := by kernel_rfl
theorem t_tab : (Tryz.prog.globals[1]?).map (·.type) = some 242 := by kernel_rfl
theorem t_asks : (Tryz.prog.globals[2]?).map (·.type) = some 261 := by kernel_rfl
theorem gg_of_laid {W : World} (h : laidMetH Tryz.prog laidS W) : GG W := by
  have hp := (show laidMet Tryz.prog _ W ∧ handlesMet Tryz.prog _ W from h).1
  obtain ⟨ps, ⟨g1, t1, cs1, f1, p1, q1, hg1, ht1, hv1, hd1, hr, _⟩, _, _⟩ := hp
  obtain ⟨g2, t2, cs2, f2, p2, q2, hg2, ht2, hv2, hd2, _, _⟩ := hr
  obtain rfl := Option.some.inj (g_sizes.symm.trans hg1)
  obtain rfl := Option.some.inj (t_sizes.symm.trans ht1)
  obtain rfl := Option.some.inj (g_tab.symm.trans hg2)
  obtain rfl := Option.some.inj (t_tab.symm.trans ht2)
  have e1 := Lib.cells_of_tab (k := .u64) (zs := [4096, 2097152, 1073741824]) Tryz.underlying201 Tryz.underlying25 (by kernel_rfl) (by kernel_rfl) hd1
  have e2 := Lib.cells_of_tab (k := .u8) (zs := List.map (fun n : Nat => (n : Int)) Lib.deBruijn64tab) Tryz.underlying242 Tryz.underlying5 (by kernel_rfl) (by kernel_rfl) hd2
  obtain ⟨g, t, cs, fuel, p, hg, ht, hv, hd⟩ := h.funcs (n := "atlas/fence.asks") (List.mem_cons_of_mem _ (List.mem_cons_of_mem _ (List.mem_cons_self ..)))
  obtain rfl := Option.some.inj (g_asks.symm.trans hg)
  obtain rfl := Option.some.inj (t_asks.symm.trans ht)
  have hd' : DataW.trod (funcToken Tryz.prog) Tryz.prog W 0 (fun _ => true) true fuel 261 cs.toList = some (.slice [.held [40, 97, 116, 108, 97, 115, 47, 102, 101, 110, 99, 101, 46, 102, 111, 114, 109, 41, 46, 97, 100, 100, 114], .held [40, 97, 116, 108, 97, 115, 47, 102, 101, 110, 99, 101, 46, 102, 111, 114, 109, 41, 46, 97, 115, 105, 100]] [], p) := hd
  obtain ⟨a, cap, hcs, _, hel⟩ := open_row Tryz.underlying261 (by kernel_rfl) hd'
  obtain ⟨v0, n0, q0, hc0, hr0⟩ := hel 0 _ rfl
  obtain ⟨v1, n1, q1', hc1, hr1⟩ := hel 1 _ rfl
  obtain rfl := func_of_trod (f0 := 223) Tryz.underlying262 (by kernel_rfl) hr0
  obtain rfl := func_of_trod (f0 := 225) Tryz.underlying262 (by kernel_rfl) hr1
  obtain ⟨b, off, spot⟩ := a
  have hspot : spot = none := by simpa [Addr.add] using World.cell?_spot hc0
  subst hspot
  have c1 : ∀ i, W.cell? ⟨0, i, none⟩ = cs1[i]? := fun i => by simpa using World.var?_cell hg1 hv1 i
  have c2 : ∀ i, W.cell? ⟨1, i, none⟩ = cs2[i]? := fun i => by simpa using World.var?_cell hg2 hv2 i
  have c3 : ∀ i, W.cell? ⟨2, i, none⟩ = cs[i]? := fun i => by simpa using World.var?_cell hg hv i
  refine ⟨⟨?_, ?_, ?_⟩, fun j hj => ?_, b, off, cap, ?_, by simpa [Addr.add, zxy] using hc0, by simpa [Addr.add, zxy] using hc1⟩
  · rw [c1, ← Array.getElem?_toList, e1]; rfl
  · rw [c1, ← Array.getElem?_toList, e1]; rfl
  · rw [c1, ← Array.getElem?_toList, e1]; rfl
  · rw [c2, ← Array.getElem?_toList, e2]
    simp [List.getD, hj]
  · rw [c3, ← Array.getElem?_toList, hcs]; rfl
section
variable {H : Type} {enc : TypeId × Value → H} {W : World} {base b0 : Nat} {sp : Nat → Bool} {held : Bool} {n : Nat} {r : Reach}
theorem open_conf {v : Value} {d : DataW H} {p : List MemPlace} (hv : Value.okWide Tryz.prog W r b0 23 v) (h : DataW.Trod enc Tryz.prog W base sp held 23 v d p) :
    ∃ x0 x1 x2 x3, v = .agg #[.int .i64 x0, .int .i64 x1, .int .i64 x2, .int .i64 x3] := by
  obtain ⟨⟨l⟩, rfl, hsz⟩ := okWide_struct Tryz.underlying23 hv
  rw [show Tryz.prog.cellsOf 23 = 4 by kernel_rfl] at hsz
  obtain ⟨fuel, hf⟩ := h
  obtain ⟨xs, n, _, _, _, hlen, hfd⟩ := DataW.trod_struct Tryz.underlying23 hf
  match l, hsz with
  | [c0, c1, c2, c3], _ =>
    have g := fun i f (e : _ = some f) => hfd i f e
    have k4 : Tryz.prog.cellsOf 3 = 1 := by kernel_rfl
    have hl : xs.length = 4 := hlen
    have h0 : DataW.trod enc Tryz.prog W base sp held n 3 [c0] = xs[0]? := by have := g 0 _ rfl; simpa [Value.cells, k4] using this
    obtain ⟨y0, q0⟩ := Open.zch hl (show 0 < 4 by decide)
    obtain ⟨x0, rfl, _⟩ := Open.zeq (c := c0) h0 q0
    have h1 : DataW.trod enc Tryz.prog W base sp held n 3 [c1] = xs[1]? := by have := g 1 _ rfl; simpa [Value.cells, k4] using this
    obtain ⟨y1, q1⟩ := Open.zch hl (show 1 < 4 by decide)
    obtain ⟨x1, rfl, _⟩ := Open.zeq (c := c1) h1 q1
    have h2 : DataW.trod enc Tryz.prog W base sp held n 3 [c2] = xs[2]? := by have := g 2 _ rfl; simpa [Value.cells, k4] using this
    obtain ⟨y2, q2⟩ := Open.zch hl (show 2 < 4 by decide)
    obtain ⟨x2, rfl, _⟩ := Open.zeq (c := c2) h2 q2
    have h3 : DataW.trod enc Tryz.prog W base sp held n 3 [c3] = xs[3]? := by have := g 3 _ rfl; simpa [Value.cells, k4] using this
    obtain ⟨y3, q3⟩ := Open.zch hl (show 3 < 4 by decide)
    obtain ⟨x3, rfl, _⟩ := Open.zeq (c := c3) h3 q3
    exact ⟨x0, x1, x2, x3, rfl⟩
theorem addk (b off k : Nat) : (⟨b, off, none⟩ : Addr).add k = ⟨b, off + k, none⟩ := by
  unfold Addr.add; split
  · rename_i h; subst h; rfl
  · rfl
theorem zov {cs : List Value} {y : DataW H × List MemPlace} (hsz : cs.length = 8) (hf : DataW.trod enc Tryz.prog W base sp held n 51 cs = some y) : ∃ q : Rq, cs = q.vs ∧ UQ q := by
  obtain ⟨xs, n, _, _, _, hlen, hfd⟩ := DataW.trod_struct Tryz.underlying51 hf
  match cs, hsz with
  | [c0, c1, c2, c3, c4, c5, c6, c7], _ =>
    have g := fun i f (e : _ = some f) => hfd i f e
    have k1 : Tryz.prog.cellsOf 3 = 1 := by kernel_rfl
    have k64 : Tryz.prog.cellsOf 25 = 1 := by kernel_rfl
    have kb : Tryz.prog.cellsOf 4 = 1 := by kernel_rfl
    have kp : Tryz.prog.cellsOf 49 = 4 := by kernel_rfl
    have hl : xs.length = 5 := hlen
    have h0 : DataW.trod enc Tryz.prog W base sp held n 3 [c0] = xs[0]? := by have := g 0 _ rfl; simpa [k1, k64, kp] using this
    obtain ⟨y0, q0⟩ := Open.zch hl (show 0 < 5 by decide)
    obtain ⟨x0, rfl, _⟩ := Open.zeq (c := c0) h0 q0
    have h1 : DataW.trod enc Tryz.prog W base sp held n 25 [c1] = xs[1]? := by have := g 1 _ rfl; simpa [k1, k64, kp] using this
    obtain ⟨y1, q1⟩ := Open.zch hl (show 1 < 5 by decide)
    obtain ⟨x1, rfl, u1⟩ := Open.zou (c := c1) h1 q1
    have h2 : DataW.trod enc Tryz.prog W base sp held n 25 [c2] = xs[2]? := by have := g 2 _ rfl; simpa [k1, k64, kp] using this
    obtain ⟨y2, q2⟩ := Open.zch hl (show 2 < 5 by decide)
    obtain ⟨x2, rfl, u2⟩ := Open.zou (c := c2) h2 q2
    have h3 : DataW.trod enc Tryz.prog W base sp held n 3 [c3] = xs[3]? := by have := g 3 _ rfl; simpa [k1, k64, kp] using this
    obtain ⟨y3, q3⟩ := Open.zch hl (show 3 < 5 by decide)
    obtain ⟨x3, rfl, _⟩ := Open.zeq (c := c3) h3 q3
    have h4 : DataW.trod enc Tryz.prog W base sp held n 49 [c4, c5, c6, c7] = xs[4]? := by have := g 4 _ rfl; simpa [k1, k64, kp] using this
    obtain ⟨y4, q4⟩ := Open.zch hl (show 4 < 5 by decide)
    rw [q4] at h4
    obtain ⟨zs, m, _, _, _, hlen2, hfd2⟩ := DataW.trod_struct Tryz.underlying49 h4
    have g2 := fun i f (e : _ = some f) => hfd2 i f e
    have hl2 : zs.length = 4 := hlen2
    have p0 : DataW.trod enc Tryz.prog W base sp held m 4 [c4] = zs[0]? := by have := g2 0 _ rfl; simpa [kb] using this
    obtain ⟨z0, w0⟩ := Open.zch hl2 (show 0 < 4 by decide)
    obtain ⟨b0, rfl⟩ := Open.zfk (c := c4) p0 w0
    have p1 : DataW.trod enc Tryz.prog W base sp held m 4 [c5] = zs[1]? := by have := g2 1 _ rfl; simpa [kb] using this
    obtain ⟨z1, w1⟩ := Open.zch hl2 (show 1 < 4 by decide)
    obtain ⟨b1, rfl⟩ := Open.zfk (c := c5) p1 w1
    have p2 : DataW.trod enc Tryz.prog W base sp held m 4 [c6] = zs[2]? := by have := g2 2 _ rfl; simpa [kb] using this
    obtain ⟨z2, w2⟩ := Open.zch hl2 (show 2 < 4 by decide)
    obtain ⟨b2, rfl⟩ := Open.zfk (c := c6) p2 w2
    have p3 : DataW.trod enc Tryz.prog W base sp held m 4 [c7] = zs[3]? := by have := g2 3 _ rfl; simpa [kb] using this
    obtain ⟨z3, w3⟩ := Open.zch hl2 (show 3 < 4 by decide)
    obtain ⟨b3, rfl⟩ := Open.zfk (c := c7) p3 w3
    exact ⟨⟨x0, x1, x2, x3, ⟨b0, b1, b2, b3⟩⟩, rfl, u1, u2⟩
theorem open_rq {v : Value} {d : DataW H} {p : List MemPlace} (hv : Value.okWide Tryz.prog W r b0 51 v) (h : DataW.Trod enc Tryz.prog W base sp held 51 v d p) :
    ∃ q : Rq, v = .agg #[.int .i64 q.id, .int .u64 q.va, .int .u64 q.pa, .int .i64 q.lev, .bool q.p.r, .bool q.p.w, .bool q.p.x, .bool q.p.u] ∧ UQ q := by
  obtain ⟨⟨l⟩, rfl, hsz⟩ := okWide_struct Tryz.underlying51 hv
  rw [show Tryz.prog.cellsOf 51 = 8 by kernel_rfl] at hsz
  obtain ⟨fuel, hf⟩ := h
  obtain ⟨q, e, hq⟩ := zov (cs := l) hsz hf
  exact ⟨q, by rw [e]; rfl, hq⟩
theorem zxn (l : List Rq) : (flQ l).length = l.length * 8 := by
  induction l with
  | nil => rfl
  | cons c l ih => show ((_ :: _ :: _ :: _ :: _ :: _ :: _ :: _ :: flQ l).length) = _; simp only [List.length_cons, ih]; omega
theorem zsz : ∀ (l : List Rq) (i j : Nat) (q : Rq), l[i]? = some q → j < 8 → (flQ l)[i * 8 + j]? = q.vs[j]?
  | [], i, j, q, h, _ => by simp at h
  | x :: l, 0, j, q, h, hj => by
    simp at h; subst h
    show (x.vs ++ flQ l)[0 * 8 + j]? = _
    rw [Nat.zero_mul, Nat.zero_add, List.getElem?_append_left (by show j < 8; exact hj)]
  | x :: l, i + 1, j, q, h, hj => by
    have := zsz l i j q (by simpa using h) hj
    show (x.vs ++ flQ l)[(i + 1) * 8 + j]? = _
    rw [List.getElem?_append_right (by show 8 ≤ _; omega), show (i + 1) * 8 + j - x.vs.length = i * 8 + j by show (i + 1) * 8 + j - 8 = _; omega]
    exact this
theorem open_rqs {v : Value} {d : DataW H} {p : List MemPlace} (hv : Value.okWide Tryz.prog W r b0 24 v) (h : DataW.Trod enc Tryz.prog W base (fun _ => true) held 24 v d p) :
    ∃ l : List Rq, (∀ x ∈ l, UQ x) ∧ Ce.R (en0 (fun _ => True) W) (.s l.length 8 (flQ l)) v := by
  obtain ⟨a, len, cap, rfl⟩ := okWide_slice Tryz.underlying24 hv
  obtain ⟨fuel, hf⟩ := h
  have hf : DataW.trod enc Tryz.prog W base (fun _ => true) held fuel 24 [.slice a len cap] = some (d, p) := hf
  have ke : Tryz.prog.cellsOf 51 = 8 := by kernel_rfl
  rcases Deep.open_slice Tryz.underlying24 hf with ⟨e, _⟩ | ⟨a', len', cap', m, k, D, Pl, e, _, hl, hm, hmm, _, hx⟩
  · simp only [List.cons.injEq, and_true] at e
    refine ⟨[], fun x hx => (by cases hx), ?_⟩
    rw [e]
    exact ⟨⟨rfl, .inl ⟨rfl, rfl⟩⟩, fun a l c e => by cases e⟩
  · simp only [List.cons.injEq, and_true, Value.slice.injEq] at e
    obtain ⟨rfl, rfl, rfl⟩ := e
    have hok : Cell.ok Tryz.prog W r b0 24 (.slice (some a') len cap) := by
      have hv := hv
      unfold Value.okWide at hv
      rw [Tryz.underlying24] at hv
      unfold Cell.okWide at hv
      rw [Tryz.underlying24] at hv
      exact hv
    unfold Cell.ok at hok
    rw [Tryz.underlying24] at hok
    obtain ⟨_, _, _, hsp, row, cells, hsh, _⟩ := hok
    obtain ⟨b, off, spot⟩ := a'
    have hsp : spot = none := hsp
    subst hsp
    have hb : b < W.heap.size := by
      rcases Nat.lt_or_ge b W.heap.size with h | h
      · exact h
      · have hsh : W.shape? b = some (row, cells) := hsh
        unfold World.shape? at hsh
        rw [Array.getElem?_eq_none h] at hsh
        cases hsh
    have ku : ∀ i, i < len → ∃ q : Rq, (∀ j, j < 8 → W.cell? ⟨b, off + (i * 8 + j), none⟩ = q.vs[j]?) ∧ UQ q := fun i hi => by
      obtain ⟨cs, g1, g2⟩ := hx i (by rw [hmm]; simp; omega)
      rw [ke] at g1
      obtain ⟨_, hlen, hcell⟩ := World.cells?_some g1
      obtain ⟨q, rfl, hq⟩ := zov hlen g2
      refine ⟨q, fun j hj => ?_, hq⟩
      have e0 := hcell j (by omega)
      rw [addk, addk] at e0
      rw [← e0, Nat.add_assoc]
    haveI : Inhabited Rq := ⟨⟨0, 0, 0, 0, ⟨false, false, false, false⟩⟩⟩
    obtain ⟨f, hf⟩ := Deep.choose_lt (α := Rq) (p := fun i q => (∀ j, j < 8 → W.cell? ⟨b, off + (i * 8 + j), none⟩ = q.vs[j]?) ∧ UQ q) ku
    have hlen : ((List.range len).map f).length = len := by simp
    refine ⟨(List.range len).map f, fun x hx => ?_, ⟨by rw [zxn], .inr ⟨b, off, cap, by rw [hlen], hb, by rw [hlen]; exact hl, hm, fun i hi => ?_⟩⟩, fun _ _ _ _ => trivial⟩
    · obtain ⟨i, hi, rfl⟩ := List.mem_map.1 hx
      exact (hf i (List.mem_range.1 hi)).2
    · rw [hlen] at hi
      have hi2 : i / 8 < len := by omega
      obtain ⟨e0, _⟩ := hf (i / 8) hi2
      have hg := zsz ((List.range len).map f) (i / 8) (i % 8) (f (i / 8)) (by simp [hi2]) (by omega)
      have e1 := e0 (i % 8) (by omega)
      rw [show i / 8 * 8 + i % 8 = i by omega] at hg e1
      rw [hg]; exact e1
end
end Go.Proofs.YtomeaibdedaldaaGreatDoor.Laid
namespace Go.Proofs.YtomeaibdedaldaaGreatDoor.LiA
open Go.RowKit Bv VaSpec Base MemL RegR Ax MemC PutC MemC3 TzC OkS SpA SpB SpC SpD SpF SpH SpI SpJ SpN SpO RfP RfQ LaA LaB LaC LaD LaE LaF LaG
open BitsC PteSpec
set_option maxRecDepth 10000
set_option maxHeartbeats 1000000
def KOk (al : Int → Prop) (lv : Int → Int) (s : Int) (p : Pte) : Prop := al s ∧ (0 ≤ lv s ∧ lv s ≤ 2) ∧ ((zbb p = true ∧ zfy p (lv s) = false) ∨ (lkP p = true ∧ 1 ≤ lv s ∧ lv p.ppn = lv s - 1 ∧ al p.ppn))
structure TE (E : Int → Int → Pte) (al : Int → Prop) (sh : Int) (lv : Int → Int) : Prop where
  k : ∀ s i, (0 ≤ i ∧ i < 512) → E s i = zP ∨ KOk al lv s (E s i)
  u : ∀ s i t j, (0 ≤ i ∧ i < 512) → (0 ≤ j ∧ j < 512) → lkP (E s i) = true → lkP (E t j) = true → (E s i).ppn = (E t j).ppn → (E s i).ppn ≠ sh → s = t ∧ i = j
  s : ∀ s i, (0 ≤ i ∧ i < 512) → lkP (E s i) = true → (E s i).ppn = sh → i = 511 ∧ lv s = 2
section
variable {E E' : Int → Int → Pte} {al al' : Int → Prop} {sh : Int} {lv lv' : Int → Int}
theorem TE.sub (h : TE E al sh lv) (hs : ∀ s i, (0 ≤ i ∧ i < 512) → E' s i = zP ∨ E' s i = E s i) : TE E' al sh lv := by
  have key : ∀ s i, (0 ≤ i ∧ i < 512) → lkP (E' s i) = true → E' s i = E s i := fun s i hi hl => by
    rcases hs s i hi with e | e
    · rw [e] at hl; cases hl
    · exact e
  refine ⟨fun s i hi => ?_, fun s i t j hi hj h1 h2 h3 h4 => ?_, fun s i hi h1 h2 => ?_⟩
  · rcases hs s i hi with e | e
    · exact .inl e
    · rw [e]; exact h.k s i hi
  · have e1 := key s i hi h1
    have e2 := key t j hj h2
    rw [e1] at h1 h3 h4; rw [e2] at h2 h3
    exact h.u s i t j hi hj h1 h2 h3 h4
  · have e1 := key s i hi h1
    rw [e1] at h1 h2; exact h.s s i hi h1 h2
theorem TE.fr (h : TE E al sh lv) (hs : ∀ s i, (0 ≤ i ∧ i < 512) → E s i ≠ zP → al' s) (hp : ∀ s i, (0 ≤ i ∧ i < 512) → lkP (E s i) = true → al' (E s i).ppn) : TE E al' sh lv := by
  refine ⟨fun s i hi => ?_, h.u, h.s⟩
  by_cases e : E s i = zP
  · exact .inl e
  · rcases h.k s i hi with e2 | ⟨a, b, c⟩
    · exact absurd e2 e
    · refine .inr ⟨hs s i hi e, b, ?_⟩
      rcases c with c | ⟨c1, c2, c3, c4⟩
      · exact .inl c
      · exact .inr ⟨c1, c2, c3, hp s i hi c1⟩
theorem TE.mono (h : TE E al sh lv) (ha : ∀ s, al s → al' s) : TE E al' sh lv :=
  h.fr (fun s i hi e => by
    rcases h.k s i hi with e2 | ⟨a, _⟩
    · exact absurd e2 e
    · exact ha _ a) (fun s i hi hl => by
    rcases h.k s i hi with e2 | ⟨_, _, ⟨c, _⟩ | ⟨_, _, _, c⟩⟩
    · rw [e2] at hl; cases hl
    · have := (zdg hl).2.2; rw [c] at this; cases this
    · exact ha _ c)
theorem znr {p : Pte} (h : zbb p = true) : lkP p = false := by
  cases e : lkP p with
  | false => rfl
  | true => have := (zdg e).2.2; rw [h] at this; cases this
theorem TE.leaf (h : TE E al sh lv) {t i : Int} {p : Pte} (ht : al t) (hl : 0 ≤ lv t ∧ lv t ≤ 2) (h1 : zbb p = true) (h2 : zfy p (lv t) = false) (he : ∀ s j, (0 ≤ j ∧ j < 512) → E' s j = if s = t ∧ j = i then p else E s j) : TE E' al sh lv := by
  have key : ∀ s j, (0 ≤ j ∧ j < 512) → lkP (E' s j) = true → E' s j = E s j := fun s j hj hlk => by
    rw [he s j hj] at hlk ⊢
    split
    · rename_i c; rw [if_pos c, znr h1] at hlk; cases hlk
    · rfl
  refine ⟨fun s j hj => ?_, fun s i t j hi hj a1 a2 a3 a4 => ?_, fun s i hi a1 a2 => ?_⟩
  · rw [he s j hj]
    split
    · rename_i c; rw [c.1]; exact .inr ⟨ht, hl, .inl ⟨h1, h2⟩⟩
    · exact h.k s j hj
  · have e1 := key s i hi a1
    have e2 := key t j hj a2
    rw [e1] at a1 a3 a4; rw [e2] at a2 a3
    exact h.u s i t j hi hj a1 a2 a3 a4
  · have e1 := key s i hi a1
    rw [e1] at a1 a2; exact h.s s i hi a1 a2
def upL (lv : Int → Int) (g l : Int) : Int → Int := fun s => if s = g then l else lv s
theorem TE.link (h : TE E al sh lv) {t i g : Int} (ha : ∀ s, al s → al' s ∧ s ≠ g) (hg : al' g) (ht : al t) (hl : 1 ≤ lv t ∧ lv t ≤ 2) (hi : 0 ≤ i ∧ i < 512) (hsh : al sh) (hn : lkP (E t i) = false)
    (he : ∀ s j, (0 ≤ j ∧ j < 512) → E' s j = if s = t ∧ j = i then lnk g else E s j) : TE E' al' sh (upL lv g (lv t - 1)) := by
  have hgs : g ≠ sh := fun e => (ha _ hsh).2 e.symm
  have hgt : t ≠ g := (ha _ ht).2
  have hlv : ∀ s, al s → upL lv g (lv t - 1) s = lv s := fun s hs => if_neg (ha s hs).2
  have nog : ∀ s j, (0 ≤ j ∧ j < 512) → lkP (E s j) = true → (E s j).ppn ≠ g := fun s j hj hlk => by
    rcases h.k s j hj with e2 | ⟨_, _, ⟨c, _⟩ | ⟨_, _, _, c⟩⟩
    · rw [e2] at hlk; cases hlk
    · rw [znr c] at hlk; cases hlk
    · exact (ha _ c).2
  refine ⟨fun s j hj => ?_, fun s a t' b ha' hb h1 h2 h3 h4 => ?_, fun s j hj h1 h2 => ?_⟩
  · rw [he s j hj]
    split
    · rename_i c
      rw [c.1]
      refine .inr ⟨(ha _ ht).1, by rw [hlv t ht]; omega, .inr ⟨rfl, by rw [hlv t ht]; exact hl.1, ?_, hg⟩⟩
      rw [hlv t ht]
      exact if_pos rfl
    · rcases h.k s j hj with e | ⟨a, b, c⟩
      · exact .inl e
      · refine .inr ⟨(ha _ a).1, by rw [hlv s a]; exact b, ?_⟩
        rw [hlv s a]
        rcases c with c | ⟨c1, c2, c3, c4⟩
        · exact .inl c
        · exact .inr ⟨c1, c2, by rw [hlv _ c4]; exact c3, (ha _ c4).1⟩
  · rw [he s a ha'] at h1 h3 h4
    rw [he t' b hb] at h2 h3
    by_cases c1 : s = t ∧ a = i
    · by_cases c2 : t' = t ∧ b = i
      · exact ⟨c1.1.trans c2.1.symm, c1.2.trans c2.2.symm⟩
      · rw [if_pos c1, if_neg c2] at h3
        rw [if_neg c2] at h2
        exact absurd h3.symm (nog t' b hb h2)
    · by_cases c2 : t' = t ∧ b = i
      · rw [if_neg c1, if_pos c2] at h3
        rw [if_neg c1] at h1
        exact absurd h3 (nog s a ha' h1)
      · rw [if_neg c1] at h1 h3 h4
        rw [if_neg c2] at h2 h3
        exact h.u s a t' b ha' hb h1 h2 h3 h4
  · rw [he s j hj] at h1 h2
    by_cases c : s = t ∧ j = i
    · rw [if_pos c] at h2
      exact absurd h2 hgs
    · rw [if_neg c] at h1 h2
      obtain ⟨a1, a2⟩ := h.s s j hj h1 h2
      refine ⟨a1, ?_⟩
      rcases h.k s j hj with e | ⟨a, _⟩
      · rw [e] at h1; cases h1
      · rw [hlv s a]; exact a2
end
theorem zl2 (A B : Int) : ∀ (xs : List (Int × Int)) (a : Int), Srt xs → MemC.look (xs.filter (zh6 A B)) a = if A ≤ a ∧ a < B then 0 else MemC.look xs a
  | [], a, _ => by rw [show MemC.look (([] : List (Int × Int)).filter (zh6 A B)) a = 0 from rfl, zj3]; split <;> rfl
  | c :: cs, a, hs => by
    have hs' := List.pairwise_cons.1 hs
    have hgt : ∀ b : Int, b ≤ c.1 → MemC.look cs b = 0 := fun b hb => zlt fun d hd => by have := hs'.1 d hd; omega
    have IH := zl2 A B cs a hs'.2
    by_cases h : zh6 A B c = true
    · rw [List.filter_cons, if_pos h, zc8, zc8, IH]
      unfold zh6 at h
      rw [Bool.or_eq_true, decide_eq_true_eq, decide_eq_true_eq] at h
      (repeat' split) <;> first | rfl | omega
    · rw [List.filter_cons, if_neg h, IH, zc8]
      unfold zh6 at h
      rw [Bool.or_eq_true, decide_eq_true_eq, decide_eq_true_eq] at h
      (repeat' split) <;> first | rfl | omega | (rw [hgt a (by omega)]; done) | (rw [hgt a (by omega)]; omega)
structure TI (cd cp sz : Int) (xs : List (Int × Int)) (f sh : Int) (lv : Int → Int) : Prop where
  bd : 1 ≤ cd ∧ cd ≤ 524288
  bp : 1 ≤ cp ∧ cp ≤ 64
  bz : sz = (cd + cp) * 4096
  bf : 0 ≤ f ∧ f < 2 ^ cp.toNat
  s : Srt xs
  r : ∀ c ∈ xs, (cd * 512 ≤ c.1 ∧ c.1 < (cd + cp) * 512) ∧ U c.2 ∧ c.2 ≠ 0
  e : TE (atM sz xs) (Al cd cp f) sh lv
theorem look_mem : ∀ {xs : List (Int × Int)} {c : Int × Int}, Srt xs → c ∈ xs → MemC.look xs c.1 = c.2
  | x :: xs, c, hs, hc => by
    have hs' := List.pairwise_cons.1 hs
    rw [zc8]
    rcases List.mem_cons.1 hc with rfl | hc
    · rw [if_neg (by omega), if_pos rfl]
    · rw [if_pos (hs'.1 c hc), look_mem hs'.2 hc]
section
variable {cd cp sz f sh : Int} {xs : List (Int × Int)} {lv : Int → Int}
theorem TI.mem (h : TI cd cp sz xs f sh lv) {c : Int × Int} (hc : c ∈ xs) : atM sz xs (c.1 / 512) (c.1 % 512) = zas c.2 := by
  obtain ⟨⟨a, b⟩, _⟩ := h.r c hc
  have hz := h.bz
  unfold atM zbo
  rw [if_pos (by rw [hz]; omega), show (c.1 / 512 * 4096 + c.1 % 512 * 8) / 8 = c.1 by omega, look_mem h.s hc]
theorem zzf {v : Int} (hv : U v) (h : v ≠ 0) : zas v ≠ zP := fun e => h (by
  have := zpp v hv.1 hv.2
  rw [e] at this
  exact this.symm.trans (by decide))
theorem TI.gm (h : TI cd cp sz xs f sh lv) : GM cd cp sz xs f := ⟨h.bd, h.bp, h.bz, h.bf, h.s, fun c hc => by
  obtain ⟨_, hu, h0⟩ := h.r c hc
  have hk := h.e.k (c.1 / 512) (c.1 % 512) (by omega)
  rw [h.mem hc] at hk
  rcases hk with e | ⟨a, _, k⟩
  · exact absurd e (zzf hu h0)
  · refine ⟨a, hu, ?_⟩
    rcases k with k | k
    · exact .inl k.1
    · exact .inr ⟨k.1, k.2.2.2⟩⟩
theorem TI.uf (h : TI cd cp sz xs f sh lv) : U f := h.gm.uf
theorem TI.u (h : TI cd cp sz xs f sh lv) : Uw xs := h.gm.u
theorem TI.put (h : TI cd cp sz xs f sh lv) {t i v : Int} {f' : Int} {lv' : Int → Int} (ht : cd ≤ t ∧ t < cd + cp) (hi : 0 ≤ i ∧ i < 512) (hv : U v) (hf : 0 ≤ f' ∧ f' < 2 ^ cp.toNat)
    (he : ∀ E', (∀ s j, (0 ≤ j ∧ j < 512) → E' s j = if s = t ∧ j = i then zas v else atM sz xs s j) → TE E' (Al cd cp f') sh lv') : TI cd cp sz (zb2 xs (t * 512 + i) v) f' sh lv' :=
  ⟨h.bd, h.bp, h.bz, hf, zff _ _ _ h.s, fun c hc => by
    rcases zdw _ _ _ _ hc with hc | ⟨rfl, hv0⟩
    · exact h.r c hc
    · exact ⟨⟨by show cd * 512 ≤ t * 512 + i; omega, by show t * 512 + i < (cd + cp) * 512; omega⟩, hv, hv0⟩, he _ fun s j hj => by
    by_cases hd : s * 4096 + j * 8 < sz
    · exact zi1 h.s hi hj hd
    · have hz := h.bz
      rw [if_neg (by rintro ⟨rfl, rfl⟩; omega)]
      unfold atM zbo
      rw [if_neg hd, if_neg hd]⟩
theorem zxo (hs : Srt xs) (g s j : Int) (hj : 0 ≤ j ∧ j < 512) : atM sz (TableC.zbc xs g) s j = if s = g then zP else atM sz xs s j := by
  unfold atM zbo
  by_cases d : s * 4096 + j * 8 < sz
  · rw [if_pos d, if_pos d, zfh _ _ hs, zl2 _ _ _ _ hs, show (s * 4096 + j * 8) / 8 = s * 512 + j by omega]
    by_cases c : s = g
    · rw [if_pos (show g * 512 ≤ s * 512 + j ∧ s * 512 + j < g * 512 + 512 by omega), if_pos c]
      exact zuo
    · rw [if_neg (show ¬ (g * 512 ≤ s * 512 + j ∧ s * 512 + j < g * 512 + 512) by omega), if_neg c]
  · rw [if_neg d, if_neg d, zuo]
    split <;> rfl
theorem TI.wipe (h : TI cd cp sz xs f sh lv) (g : Int) {f' : Int} (hf : 0 ≤ f' ∧ f' < 2 ^ cp.toNat) (he : ∀ E', (∀ s j, (0 ≤ j ∧ j < 512) → E' s j = if s = g then zP else atM sz xs s j) → TE E' (Al cd cp f') sh lv) : TI cd cp sz (TableC.zbc xs g) f' sh lv :=
  ⟨h.bd, h.bp, h.bz, hf, zen _ h.s, fun c hc => h.r c (zjy hc), he _ fun s j hj => zxo h.s g s j hj⟩
end
end Go.Proofs.YtomeaibdedaldaaGreatDoor.LiA
namespace Go.Proofs.YtomeaibdedaldaaGreatDoor.LiB
open Go.RowKit Bv VaSpec Base MemL RegR Ax MemC PutC MemC3 TzC OkS SpA SpB SpC SpD SpF SpH SpI SpJ SpN SpO RfP RfQ LaA LaB LaC LaD LaE LaF LaG LiA
open BitsC PteSpec
set_option maxRecDepth 10000
set_option maxHeartbeats 1000000
theorem zuz {q : Pte} (hU : q.U) (hm : zie q = true) : zas (PteC.zfm q) = q := by
  unfold PteC.zfm
  rw [if_pos hm, zel _ hU hm]
theorem TE.row {E E' : Int → Int → Pte} {al : Int → Prop} {sh : Int} {lv : Int → Int} (h : TE E al sh lv) {g : Int} {p : Int → Pte} (hg : al g) (hl : 0 ≤ lv g ∧ lv g ≤ 2) (hp : ∀ j, (0 ≤ j ∧ j < 512) → zbb (p j) = true ∧ zfy (p j) (lv g) = false)
    (he : ∀ s j, (0 ≤ j ∧ j < 512) → E' s j = if s = g then p j else E s j) : TE E' al sh lv := by
  have key : ∀ s j, (0 ≤ j ∧ j < 512) → lkP (E' s j) = true → E' s j = E s j := fun s j hj hlk => by
    rw [he s j hj] at hlk ⊢
    split
    · rename_i c; rw [if_pos c, znr (hp j hj).1] at hlk; cases hlk
    · rfl
  refine ⟨fun s j hj => ?_, fun s i t j hi hj a1 a2 a3 a4 => ?_, fun s i hi a1 a2 => ?_⟩
  · rw [he s j hj]
    split
    · rename_i c; rw [c]; exact .inr ⟨hg, hl, .inl (hp j hj)⟩
    · exact h.k s j hj
  · have e1 := key s i hi a1
    have e2 := key t j hj a2
    rw [e1] at a1 a3 a4; rw [e2] at a2 a3
    exact h.u s i t j hi hj a1 a2 a3 a4
  · have e1 := key s i hi a1
    rw [e1] at a1 a2; exact h.s s i hi a1 a2
section
variable {cd cp sz f sh : Int} {xs : List (Int × Int)} {lv : Int → Int}
theorem zvp {sz s i : Int} {xs : List (Int × Int)} (hu : Uw xs) : zie (atM sz xs s i) = true := zrl _ (zf0 hu _ _).1 (zf0 hu _ _).2
theorem zns (h : TI cd cp sz xs f sh lv) (h0 : f ≠ 0) : (∀ s, Al cd cp f s → Al cd cp (zbj f (tzI f) 1 0) s ∧ s ≠ cd + tzI f) ∧ Al cd cp (zbj f (tzI f) 1 0) (cd + tzI f) ∧ (0 ≤ tzI f ∧ tzI f < cp) ∧ (0 ≤ zbj f (tzI f) 1 0 ∧ zbj f (tzI f) 1 0 < 2 ^ cp.toNat) := by
  have hb := h.bp
  obtain ⟨a1, a2⟩ := h.gm.al h0
  have t1 := zb7 h.uf h.bf.2 h0
  exact ⟨fun s hs => ⟨(h.gm.take h0 hs).2, (h.gm.take h0 hs).1⟩, a1, a2, ⟨(zd8 _ _ _ _).1, zf3 h.uf h.bf.2 t1.1 (by omega)⟩⟩
end
section
variable {cd cp sz f sh : Int} {xs : List (Int × Int)} {lv : Int → Int}
end
end Go.Proofs.YtomeaibdedaldaaGreatDoor.LiB
namespace Go.Proofs.YtomeaibdedaldaaGreatDoor.LiC
open Go.RowKit Bv VaSpec Base MemL RegR Ax MemC PutC MemC3 TzC OkS SpA SpB SpC SpD SpF SpH SpI SpJ SpN SpO RfP RfQ LaA LaB LaC LaD LaE LaF LaG LiA LiB
open BitsC PteSpec
set_option maxRecDepth 10000
set_option maxHeartbeats 1000000
def frN (sz : Int) (xs : List (Int × Int)) : Nat → Int → List Int
  | 0, t => [t]
  | l + 1, t => t :: (List.range 512).flatMap fun (i : Nat) => if zbi (atM sz xs t i) ((l + 1 : Nat) : Int) then frN sz xs l (atM sz xs t i).ppn else []
section
variable {cd cp sz f sh : Int} {xs : List (Int × Int)} {lv : Int → Int}
theorem zzg (h : TI cd cp sz xs f sh lv) {s i : Int} (hi : 0 ≤ i ∧ i < 512) {l : Int} (hl : zbi (atM sz xs s i) l = true) : lkP (atM sz xs s i) = true ∧ Al cd cp f s ∧ (1 ≤ lv s ∧ lv s ≤ 2) ∧ lv (atM sz xs s i).ppn = lv s - 1 ∧ Al cd cp f (atM sz xs s i).ppn := by
  rcases h.e.k s i hi with e | ⟨a, b, ⟨c, _⟩ | ⟨c1, c2, c3, c4⟩⟩
  · rw [e] at hl; cases hl
  · rw [zj4 (zdp c).1] at hl; cases hl
  · exact ⟨c1, a, ⟨c2, b.2⟩, c3, c4⟩
theorem zgi (h : TI cd cp sz xs f sh lv) {s i : Int} (hi : 0 ≤ i ∧ i < 512) (hl : lkP (atM sz xs s i) = true) : Al cd cp f s ∧ (1 ≤ lv s ∧ lv s ≤ 2) ∧ lv (atM sz xs s i).ppn = lv s - 1 ∧ Al cd cp f (atM sz xs s i).ppn := (zzg h hi (zdy hl (Int.le_refl 1))).2
theorem zbk (h : TI cd cp sz xs f sh lv) : ∀ (l : Nat) (t : Int), Al cd cp f t → lv t = l → ∀ g ∈ frN sz xs l t, Al cd cp f g ∧ (0 ≤ lv g ∧ lv g ≤ l) ∧ (g = t ∨ ∃ s ∈ frN sz xs l t, ∃ j, (0 ≤ j ∧ j < 512) ∧ lkP (atM sz xs s j) = true ∧ (atM sz xs s j).ppn = g ∧ lv s ≤ l)
  | 0, t, ht, hl, g, hg => by
    have e : g = t := by simpa [frN] using hg
    subst e
    exact ⟨ht, by omega, .inl rfl⟩
  | l + 1, t, ht, hl, g, hg => by
    simp only [frN, List.mem_cons] at hg
    rcases hg with rfl | hg
    · exact ⟨ht, by omega, .inl rfl⟩
    · obtain ⟨i, hi, hg⟩ := List.mem_flatMap.1 hg
      have hi := List.mem_range.1 hi
      split at hg
      · rename_i hlk
        obtain ⟨k1, k2, k3, k4, k5⟩ := zzg h (by omega) hlk
        obtain ⟨r1, r2, r3⟩ := zbk h l _ k5 (by rw [k4, hl]; omega) g hg
        have mem : ∀ s, s ∈ frN sz xs l (atM sz xs t i).ppn → s ∈ frN sz xs (l + 1) t := fun s hs => by
          simp only [frN, List.mem_cons]
          exact .inr (List.mem_flatMap.2 ⟨i, List.mem_range.2 hi, by rw [if_pos hlk]; exact hs⟩)
        refine ⟨r1, by omega, .inr ?_⟩
        rcases r3 with rfl | ⟨s, hs, j, q1, q2, q3, q4⟩
        · exact ⟨t, by simp [frN], i, by omega, k1, rfl, by omega⟩
        · exact ⟨s, mem s hs, j, q1, q2, q3, by omega⟩
      · cases hg
theorem zxp (hs : Srt xs) (hz : sz = (cd + cp) * 4096) {t i : Int} (ht : 0 ≤ t ∧ t < cd + cp) (hi : 0 ≤ i ∧ i < 512) (s j : Int) (hj : 0 ≤ j ∧ j < 512) : atM sz (zb2 xs (t * 512 + i) 0) s j = if s = t ∧ j = i then zP else atM sz xs s j := by
  by_cases hd : s * 4096 + j * 8 < sz
  · rw [zi1 hs hi hj hd, zuo]
  · rw [if_neg (by rintro ⟨rfl, rfl⟩; omega)]
    unfold atM zbo
    rw [if_neg hd, if_neg hd]
end
end Go.Proofs.YtomeaibdedaldaaGreatDoor.LiC
namespace Go.Proofs.YtomeaibdedaldaaGreatDoor.LiD
open Go.RowKit Bv VaSpec Base MemL RegR Ax MemC PutC MemC3 TzC OkS SpA SpB SpC SpD SpF SpH SpI SpJ SpN SpO RfP RfQ LaA LaB LaC LaD LaE LaF LaG LiA LiB LiC
open BitsC PteSpec
set_option maxRecDepth 10000
set_option maxHeartbeats 1000000
section
variable {cd cp sz f sh : Int} {xs : List (Int × Int)} {lv : Int → Int}
end
end Go.Proofs.YtomeaibdedaldaaGreatDoor.LiD
namespace Go.Proofs.YtomeaibdedaldaaGreatDoor.LiE
open Go.RowKit Bv VaSpec Base MemL RegR Ax MemC PutC MemC3 TzC OkS SpA SpB SpC SpD SpE SpF SpG SpH SpI SpJ SpN SpO RfP RfQ RfE RfJ LaA LaB LaC LaD LaE LaF LaG LaH LiA LiB LiC LiD
open BitsC PteSpec
set_option maxRecDepth 10000
set_option maxHeartbeats 1000000
structure InvT (n : Nat) (k : Kr) : Prop where
  l : InvL n k
  t : ∃ lv, TI k.cd k.cp k.sz k.m k.pf k.sh lv ∧ lv k.sh = 1 ∧ ∀ s ∈ k.ss, s.live = true → lv s.root = 2
theorem zzh {n l : Int} {p : Pm} {g : Bool} (hn : n % (VaSpec.sz l / 4096) = 0) (hp : zf2 p = true) : zfy (mkP n p g) l = false := by
  obtain ⟨r, w, x, u⟩ := p
  revert hp
  unfold zf2 zfy zcn mkP
  cases r <;> cases w <;> cases x <;> simp [hn]
section
variable {cd cp sz f sh : Int} {xs : List (Int × Int)} {lv : Int → Int}
theorem zs0 (h : TI cd cp sz xs f sh lv) (h0 : f ≠ 0) {t i : Int} (ht : Al cd cp f t) (hsh : Al cd cp f sh) (hl : 1 ≤ lv t ∧ lv t ≤ 2) (hi : 0 ≤ i ∧ i < 512) (hn : zcn (atM sz xs t i) = false) :
    TI cd cp sz (zbg sz xs t i (lnk (cd + tzI f))) (zbj f (tzI f) 1 0) sh (upL lv (cd + tzI f) (lv t - 1)) := by
  obtain ⟨a0, a1, a2, a3⟩ := zns h h0
  have b1 := h.bd
  have b2 := h.bp
  have hnn : 0 ≤ cd + tzI f ∧ cd + tzI f < 17592186044416 := by omega
  rw [h.gm.with ht hi (zlx hnn)]
  refine h.put ht.1 hi (zge _ (zlx hnn)) a3 fun E' hE => ?_
  rw [zgt hnn] at hE
  refine h.e.link a0 a1 ht hl hi hsh ?_ hE
  cases e : lkP (atM sz xs t i) with
  | false => rfl
  | true => rw [(zdg e).1] at hn; cases hn
theorem zxq (addr zao : Int) (hw : 0 ≤ zao) : ∀ (l : Nat) (xs : List (Int × Int)) (f t : Int) (lv : Int → Int), TI cd cp sz xs f sh lv → Al cd cp f t → Al cd cp f sh → lv t = l → l ≤ 2 → zao ≤ (l : Int) →
    (dnN sz cd addr zao l xs f t).2.2.2 = 0 → ∃ lv', TI cd cp sz (dnN sz cd addr zao l xs f t).1 (dnN sz cd addr zao l xs f t).2.1 sh lv' ∧ lv' (dnN sz cd addr zao l xs f t).2.2.1 = zao ∧ Al cd cp (dnN sz cd addr zao l xs f t).2.1 (dnN sz cd addr zao l xs f t).2.2.1 ∧ ∀ s, Al cd cp f s → lv' s = lv s
  | 0, xs, f, t, lv, h, ht, _, hl, _, hwl, _ => ⟨lv, h, by show lv t = zao; omega, ht, fun s _ => rfl⟩
  | l + 1, xs, f, t, lv, h, ht, hsh, hl, h2, hwl, he => by
    have hi := idx_bd addr ((l + 1 : Nat) : Int)
    unfold dnN at he ⊢
    split
    · exact ⟨lv, h, by show lv t = zao; omega, ht, fun s _ => rfl⟩
    · rename_i c1
      rw [if_neg c1] at he
      split
      · rename_i c2; rw [if_pos c2] at he; cases he
      · rename_i c2
        rw [if_neg c2] at he
        have hk := h.e.k t _ hi
        split
        · rename_i c3
          rw [if_pos c3] at he
          rcases hk with e | ⟨_, _, ⟨e, _⟩ | ⟨e1, e2, e3, e4⟩⟩
          · rw [e] at c3; cases c3
          · exact absurd e c2
          · exact zxq addr zao hw l xs f _ lv h e4 hsh (by rw [e3, hl]; omega) (by omega) (by omega) he
        · rename_i c3
          rw [if_neg c3] at he
          split
          · rename_i c4; rw [if_pos c4] at he; cases he
          · rename_i c4
            rw [if_neg c4] at he
            obtain ⟨a0, a1, a2, a3⟩ := zns h c4
            have hn : zcn (atM sz xs t (idx addr ((l + 1 : Nat) : Int))) = false := by
              unfold zcn
              rw [show (atM sz xs t (idx addr ((l + 1 : Nat) : Int))).v = false by simpa using c3]; rfl
            have hT := zs0 h c4 ht hsh (by rw [hl]; omega) hi hn
            obtain ⟨lv', r1, r2, r3, r4⟩ := zxq addr zao hw l _ _ _ _ hT a1 (a0 _ hsh).1 (by rw [hl]; show upL lv (cd + tzI f) _ (cd + tzI f) = _; unfold upL; rw [if_pos rfl]; omega) (by omega) (by omega) he
            refine ⟨lv', r1, r2, r3, fun s hs => (r4 s (a0 s hs).1).trans ?_⟩
            exact if_neg (a0 s hs).2
end
theorem zfl {n : Nat} {k : Kr} {id a l : Int} (h : InvL n k) (he : (zat k id a l).2.2 = 0) : ((zat k id a l).1 = k.sh ∧ (zat k id a l).2.1 = 1 ∧ id = -1) ∨ (zav k id = true ∧ id ≠ -1 ∧ (zat k id a l).1 = (zfo k id).root ∧ (zat k id a l).2.1 = 2 ∧ idx a 2 ≠ 511) := by
  unfold zat at he ⊢
  by_cases c1 : 0 ≤ l ∧ l ≤ 2
  rotate_left
  · rw [if_pos c1] at he; cases he
  rw [if_neg (by simpa using c1)] at he ⊢
  by_cases c2 : id ≠ -1 ∧ zav k id = false
  · rw [if_pos c2] at he; cases he
  rw [if_neg c2] at he ⊢
  by_cases c3 : zre a l = false
  · rw [if_pos c3] at he; cases he
  rw [if_neg c3] at he ⊢
  by_cases c4 : id = -1
  · rw [if_pos c4] at he ⊢
    by_cases c5 : idx a 2 = 511 ∧ l ≠ 2
    · rw [if_pos c5]; exact .inl ⟨rfl, rfl, c4⟩
    · rw [if_neg c5] at he; cases he
  · rw [if_neg c4] at he ⊢
    by_cases c5 : idx a 2 = 511
    · rw [if_pos c5] at he; cases he
    · rw [if_neg c5]
      have c6 : zav k id = true := by
        cases e : zav k id with
        | true => rfl
        | false => exact absurd ⟨c4, e⟩ c2
      exact .inr ⟨c6, c4, rfl, rfl, c5⟩
theorem InvT.top {n : Nat} {k : Kr} {id a l : Int} (h : InvT n k) (he : (zat k id a l).2.2 = 0) {lv : Int → Int} (hs : lv k.sh = 1) (hr : ∀ s ∈ k.ss, s.live = true → lv s.root = 2) :
    lv (zat k id a l).1 = (zat k id a l).2.1 ∧ (2 ≤ (zat k id a l).2.1 → idx a 2 ≠ 511) := by
  rcases zfl h.l he with ⟨e1, e2, _⟩ | ⟨e1, _, e2, e3, e4⟩
  · rw [e1, e2]; exact ⟨hs, fun hh => by omega⟩
  · obtain ⟨h0, h1, h2, h3⟩ := zcw e1
    rw [e2, e3]
    exact ⟨hr _ (List.mem_of_getElem? h2) h3, fun _ => e4⟩
theorem zu0 {l : Int} (h : 0 ≤ l ∧ l ≤ 2) {pa : Int} (hp : pa % VaSpec.sz l = 0) : (pa / 4096) % (VaSpec.sz l / 4096) = 0 := by
  rcases (by omega : l = 0 ∨ l = 1 ∨ l = 2) with rfl | rfl | rfl
  · show (pa / 4096) % 1 = 0; omega
  · have hp : pa % 2097152 = 0 := hp
    show (pa / 4096) % 512 = 0; omega
  · have hp : pa % 1073741824 = 0 := hp
    show (pa / 4096) % 262144 = 0; omega
theorem zcx {n : Nat} {k : Kr} {id a pa l : Int} {p : Pm} (h : InvT n k) (hp : U pa) : InvT (n + 3) (zcb k id a pa l p).1 := by
  refine ⟨znl h.l hp, ?_⟩
  obtain ⟨lv, hT, hs, hr⟩ := h.t
  unfold zcb
  split
  · exact ⟨lv, hT, hs, hr⟩
  · rename_i c0
    split
    · exact ⟨lv, hT, hs, hr⟩
    · rename_i c1
      split
      · exact ⟨lv, hT, hs, hr⟩
      · split
        · exact ⟨lv, hT, hs, hr⟩
        · rename_i c3
          split
          · exact ⟨lv, hT, hs, hr⟩
          · split
            · exact ⟨lv, hT, hs, hr⟩
            · rename_i c5
              obtain ⟨w1, w2, w3, w4⟩ := zep (id := id) (a := a) (l := l) h.l (by omega)
              obtain ⟨z1, z2⟩ := h.top (id := id) (a := a) (l := l) (by omega) hs hr
              generalize zat k id a l = w at *
              have he : (zl6 k w.1 w.2.1 a l).2.2.2 = 0 := by omega
              obtain ⟨lv', r1, r2, r3, r4⟩ := zxq a l w1.1 w.2.1.toNat k.m k.pf w.1 lv hT w2 h.l.sh (by omega) (by omega) (by omega) he
              have hpm := zj6 (p := p) (by omega)
              have hpn := zor (k := k) (l := l) hp (by have := h.l.g.bd; omega) (by omega)
              have hb := zgu (n := pa / 4096) (p := p) (g := decide (id = -1)) hpn hpm
              have hzz : 0 < VaSpec.sz l := by rcases VaSpec.lev w1.1 w1.2 with rfl | rfl | rfl <;> decide
              have hmod : pa % VaSpec.sz l = 0 := by
                have e : lk0 pa l = 0 := by omega
                unfold lk0 zd2 at e
                rw [if_neg (show ¬ VaSpec.sz l = 0 by omega)] at e
                split at e
                · rename_i c; simpa using c
                · cases e
              have hbad := zzh (g := decide (id = -1)) (zu0 w1 hmod) hpm
              refine ⟨lv', ?_, (r4 _ h.l.sh).trans hs, fun s hs' hl => (r4 _ (h.l.ss s hs' hl)).trans (hr s hs' hl)⟩
              show TI k.cd k.cp k.sz (zbg k.sz (dnN k.sz k.cd a l w.2.1.toNat k.m k.pf w.1).1 (dnN k.sz k.cd a l w.2.1.toNat k.m k.pf w.1).2.2.1 (idx a l) (mkP (pa / 4096) p (decide (id = -1)))) (dnN k.sz k.cd a l w.2.1.toNat k.m k.pf w.1).2.1 k.sh lv'
              rw [r1.gm.with r3 (idx_bd a l) hb.2.1]
              refine r1.put r3.1 (idx_bd a l) (zge _ hb.2.1) r1.bf fun E' hE => ?_
              rw [hb.1] at hE
              exact r1.e.leaf r3 (by rw [r2]; exact w1) hb.2.2 (by rw [r2]; exact hbad) hE
section
variable {cd cp sz sh : Int}
end
section
variable {cd cp sz f sh : Int} {xs : List (Int × Int)} {lv : Int → Int}
end
end Go.Proofs.YtomeaibdedaldaaGreatDoor.LiE
namespace Go.Proofs.YtomeaibdedaldaaGreatDoor.LiF
open Go.RowKit Bv VaSpec Base MemL RegR Ax MemC PutC MemC3 TzC OkS SpA SpB SpC SpD SpE SpF SpG SpH SpI SpJ SpN SpO RfP RfQ RfE RfJ RfK LaA LaB LaC LaD LaE LaF LaG LaH LiA LiB LiC LiD LiE
open BitsC PteSpec
set_option maxRecDepth 10000
set_option maxHeartbeats 1000000
theorem z0j {n : Nat} {k : Kr} (h : Inv n k) (g : Inv2 k) : InvT n k := by
  have hl := zzb h g
  refine ⟨hl, fun s => if s = k.sh then 1 else 2, ⟨h.cd, h.cp, h.sz, h.pf, h.m, fun c hc => ?_, ?_⟩, if_pos rfl, fun s hs hv => ?_⟩
  · obtain ⟨s, hs, hv, rfl⟩ := g.cl c hc
    have hr := (h.ss s hs hv).1
    have hsh := h.sh
    have := h.cd
    have hu := (h.mc _ hc).2.2.2
    exact ⟨⟨by show k.cd * 512 ≤ s.root * 512 + 511; omega, by show s.root * 512 + 511 < (k.cd + k.cp) * 512; omega⟩, hu, by show 33 + 1024 * k.sh ≠ 0; omega⟩
  · have key : ∀ s i, (0 ≤ i ∧ i < 512) → atM k.sz k.m s i = zP ∨ (i = 511 ∧ s ≠ k.sh ∧ Al k.cd k.cp k.pf s ∧ atM k.sz k.m s i = gP k.sh) := fun s i hi => by
      unfold atM zbo
      split
      · rcases zsk (xs := k.m) (k := (s * 4096 + i * 8) / 8) with e | ⟨c, hc, e1, e2⟩
        · rw [e]; exact .inl zuo
        · obtain ⟨p, hp, hv, rfl⟩ := g.cl c hc
          have e1 : p.root * 512 + 511 = (s * 4096 + i * 8) / 8 := e1
          have hsh := h.sh
          have hcd := h.cd
          have hcp := h.cp
          have e3 : p.root = s := by omega
          rw [e2, show (33 + 1024 * k.sh : Int) = 33 + 1024 * k.sh from rfl, zsv (by omega)]
          exact .inr ⟨by omega, by rw [← e3, g.sh]; exact (g.lv p hp hv).1, by rw [← e3]; exact hl.ss p hp hv, rfl⟩
      · exact .inl zuo
    refine ⟨fun s i hi => ?_, fun s i t j hi hj h1 h2 h3 h4 => ?_, fun s i hi h1 h2 => ?_⟩
    · rcases key s i hi with e | ⟨_, a, b, c⟩
      · exact .inl e
      · rw [c]
        refine .inr ⟨b, by dsimp only; rw [if_neg a]; omega, .inr ⟨rfl, by dsimp only; rw [if_neg a]; omega, ?_, hl.sh⟩⟩
        show (if k.sh = k.sh then (1 : Int) else 2) = (if s = k.sh then (1 : Int) else 2) - 1
        rw [if_pos rfl, if_neg a]; rfl
    · rcases key s i hi with e | ⟨_, _, _, c⟩
      · rw [e] at h1; cases h1
      · rw [c] at h4; exact absurd rfl h4
    · rcases key s i hi with e | ⟨a, b, _, c⟩
      · rw [e] at h1; cases h1
      · exact ⟨a, if_neg b⟩
  · have := (g.lv s hs hv).1
    rw [← g.sh] at this
    exact if_neg this
theorem zs1 {a b c : Int} {n : Nat} (h : zer a b c n = true) : InvT 2 (bgK a b c n) := by
  have h0 := zhx h
  have g0 := zkb h
  have h1 := zcf h0
  have g1 := zcg h0 g0
  exact z0j (zcf h1) (zcg h1 g1)
theorem t2 : InvT 2 c2 := by rw [← bg2]; exact zs1 (by decide)
def rr : Pm := ⟨true, false, false, false⟩
end Go.Proofs.YtomeaibdedaldaaGreatDoor.LiF
namespace Go.Proofs.YtomeaibdedaldaaGreatDoor.LjB
open Go.RowKit Bv VaSpec Base MemL RegR Ax MemC PutC MemC3 TzC OkS SpA SpB SpC SpF LaA IterE LaC LaD LiC
open BitsC PteSpec
set_option maxRecDepth 10000
set_option maxHeartbeats 1000000
section
variable (sz : Int) (xs : List (Int × Int)) (hs : Srt xs) (hu : Uw xs)
include hs hu
end
end Go.Proofs.YtomeaibdedaldaaGreatDoor.LjB
namespace Go.Proofs.YtomeaibdedaldaaGreatDoor.LkA
open Go.RowKit Bv VaSpec Base MemL RegR Ax MemC PutC MemC3 TzC OkS SpA SpB SpC SpF SpH SpI SpJ LaA LaB LaC LaD LaE LaF LaG LiA LiB LiC LiD LiE LiF SpL SpN SpO RfA RfB RfC RfD RlA RlB LjB
open BitsC PteSpec
set_option maxRecDepth 10000
set_option maxHeartbeats 1000000
end Go.Proofs.YtomeaibdedaldaaGreatDoor.LkA
namespace Go.Proofs.YtomeaibdedaldaaGreatDoor.LjC
open Go.RowKit Bv VaSpec Base MemL RegR Ax MemC PutC MemC3 TzC OkS SpA SpB SpC SpF SpH SpI SpJ LaA LaB LaC LaD LaE LaF LaG LiA LiB LiC LiD LiE LiF
open BitsC PteSpec
set_option maxRecDepth 10000
set_option maxHeartbeats 1000000
end Go.Proofs.YtomeaibdedaldaaGreatDoor.LjC
namespace Go.Proofs.YtomeaibdedaldaaGreatDoor.Ax
open Go.RowKit MemL RegR MemC MemC3 PutC LaA IterE PteSpec BitsC OkS Go
section
variable {P : Program} {X : Cx} {S : St} {τ : Nat → Value} {a : Act} {w : World}
end
end Go.Proofs.YtomeaibdedaldaaGreatDoor.Ax
namespace Go.Proofs.YtomeaibdedaldaaGreatDoor.LjD
open Go.RowKit Bv VaSpec Base MemL RegR Ax MemC PutC MemC3 TzC OkS SpA SpB SpC SpF LaA IterE LaC LaD LiC
open BitsC PteSpec
set_option maxRecDepth 10000
set_option maxHeartbeats 1000000
end Go.Proofs.YtomeaibdedaldaaGreatDoor.LjD
namespace Go.Proofs.YtomeaibdedaldaaGreatDoor.Ax
open Go.RowKit MemL RegR Go
variable {P : Program} {ops : Array Oper} {X : Cx} {o : Oper} {S : St}
def CallsE (P : Program) (f : FuncId) (args : Array Value) (w : World) (R : Ending → World → Prop) : Prop := ∀ u, CallsD P f args u w fun e u' w' => u' = u ∧ R e w'
theorem CallsE.mono {f : FuncId} {args : Array Value} {w : World} {R R' : Ending → World → Prop} (h : CallsE P f args w R) (hr : ∀ e w', R e w' → R' e w') : CallsE P f args w R' := fun u => (h u).mono fun e u' w' k => ⟨k.1, hr e w' k.2⟩
end Go.Proofs.YtomeaibdedaldaaGreatDoor.Ax
namespace Go.Proofs.YtomeaibdedaldaaGreatDoor.LjE
open Go.RowKit Bv VaSpec Base MemL RegR Ax MemC PutC MemC3 TzC OkS SpA SpB SpC SpF SpH SpI SpJ LaA LaB LaC LaD LaE LaF LaG LiA LiB LiC LiD LiE LiF LjD
open BitsC PteSpec
set_option maxRecDepth 10000
set_option maxHeartbeats 1000000
section
variable {P : Program}
end
section
variable {cd cp sz f sh : Int} {xs : List (Int × Int)} {lv : Int → Int}
end
end Go.Proofs.YtomeaibdedaldaaGreatDoor.LjE
namespace Go.Proofs.YtomeaibdedaldaaGreatDoor.LkB
open Go.RowKit Bv VaSpec Base MemL RegR Ax MemC PutC MemC3 TzC OkS SpA SpB SpC SpF SpH SpI SpJ LaA LaB LaC LaD LaE LaF LaG LiA LiB LiC LiD LiE LiF SpL SpN SpO RfA RfB RfC RfD RlA RlB LjB LkA
open BitsC PteSpec
set_option maxRecDepth 10000
set_option maxHeartbeats 1000000
section
variable {cd cp sz f sh : Int} {xs : List (Int × Int)} {lv : Int → Int}
end
end Go.Proofs.YtomeaibdedaldaaGreatDoor.LkB
namespace Go.Proofs.YtomeaibdedaldaaGreatDoor.LkC
open Go.RowKit Bv VaSpec Base MemL RegR Ax MemC PutC MemC3 TzC OkS SpA SpB SpC SpF SpH SpI SpJ LaA LaB LaC LaD LaE LaF LaG LiA LiB LiC LiD LiE LiF SpG SpL SpN SpO RfA RfB RfC RfD RlA RlB LjB LkA LkB
open BitsC PteSpec
set_option maxRecDepth 10000
set_option maxHeartbeats 1000000
end Go.Proofs.YtomeaibdedaldaaGreatDoor.LkC
namespace Go.Proofs.YtomeaibdedaldaaGreatDoor.LkD
open Go.RowKit Bv VaSpec Base MemL RegR Ax MemC PutC MemC3 TzC OkS SpA SpB SpC SpF SpH SpI SpJ LaA LaB LaC LaD LaE LaF LaG LiA LiB LiC LiD LiE LiF SpL SpN SpO RfA RfB RfC RfD RlA RlB LjB LjC LkA LkB LkC
open BitsC PteSpec
set_option maxRecDepth 10000
set_option maxHeartbeats 1000000
end Go.Proofs.YtomeaibdedaldaaGreatDoor.LkD
namespace Go.Proofs.YtomeaibdedaldaaGreatDoor.LjA
open Go.RowKit Bv VaSpec Base MemL RegR Ax MemC PutC MemC3 TzC OkS SpA SpB SpC SpD SpE SpF SpG SpH SpI SpJ SpK SpN SpO RfA RfB RfC RfD RlA RlB LaA LaB LaC LaD LaE LaF LaG LaH LiA LiB LiC LiD LiE LiF
open BitsC PteSpec
set_option maxRecDepth 10000
set_option maxHeartbeats 1000000
end Go.Proofs.YtomeaibdedaldaaGreatDoor.LjA
namespace Go.Proofs.YtomeaibdedaldaaGreatDoor.LjF
open Go.RowKit Bv VaSpec Base MemL RegR Ax MemC PutC MemC3 TzC OkS SpA SpB SpC SpF SpH SpI SpJ LaA LaB LaC LaD LaE LaF LaG LiA LiB LiC LiD LiE LiF SpE SpG SpO LjA LjB LjC LjD LjE LiF
open BitsC PteSpec
set_option maxRecDepth 10000
set_option maxHeartbeats 1000000
section
variable {cd cp sz f sh : Int} {xs : List (Int × Int)} {lv : Int → Int}
end
end Go.Proofs.YtomeaibdedaldaaGreatDoor.LjF
namespace Go.Proofs.YtomeaibdedaldaaGreatDoor.LkE
open Go.RowKit Bv VaSpec Base MemL RegR Ax MemC PutC MemC3 TzC OkS SpA SpB SpC SpF SpH SpI SpJ LaA LaB LaC LaD LaE LaF LaG LiA LiB LiC LiD LiE LiF SpE SpG SpO SpL SpN RfA RfB RfC RfD RlA RlB LjA LjB LjC LjD LjE LjF LiF LkA LkB LkC LkD
open BitsC PteSpec
set_option maxRecDepth 10000
set_option maxHeartbeats 1000000
end Go.Proofs.YtomeaibdedaldaaGreatDoor.LkE
namespace Go.Proofs.YtomeaibdedaldaaGreatDoor.LrA
open Go.RowKit Bv VaSpec Base MemL RegR Ax MemC PutC MemC3 TzC OkS SpA SpB SpC SpD SpE SpF SpG SpH SpI SpJ SpN SpO RfP RfQ RfE RfG RfJ RfK LaA LaB LaC LaD LaE LaF LaG LaH LiA LiB LiC LiD LiE LiF
open BitsC PteSpec
set_option maxRecDepth 10000
set_option maxHeartbeats 1000000
def NE (E : Int → Int → Pte) (sh : Int) : Prop := ∀ s i, (0 ≤ i ∧ i < 512) → lkP (E s i) = true → (E s i).ppn ≠ sh → ∃ j, (0 ≤ j ∧ j < 512) ∧ E (E s i).ppn j ≠ zP
def NEx (E : Int → Int → Pte) (sh g : Int) : Prop := ∀ s i, (0 ≤ i ∧ i < 512) → lkP (E s i) = true → (E s i).ppn ≠ sh → (E s i).ppn ≠ g → ∃ j, (0 ≤ j ∧ j < 512) ∧ E (E s i).ppn j ≠ zP
theorem NE.ex {E : Int → Int → Pte} {sh : Int} (h : NE E sh) (g : Int) : NEx E sh g := fun s j hj h1 h2 _ => h s j hj h1 h2
section
variable {cd cp sz sh : Int}
end
end Go.Proofs.YtomeaibdedaldaaGreatDoor.LrA
namespace Go.Proofs.YtomeaibdedaldaaGreatDoor.LrB
open Go.RowKit Bv VaSpec Base MemL RegR Ax MemC PutC MemC3 TzC OkS SpA SpB SpC SpD SpE SpF SpG SpH SpI SpJ SpN SpO RfP RfQ RfE RfG RfJ RfK LaA LaB LaC LaD LaE LaF LaG LaH LiA LiB LiC LiD LiE LiF LrA
open BitsC PteSpec
set_option maxRecDepth 10000
set_option maxHeartbeats 1000000
section
variable {cd cp sz f sh : Int} {xs : List (Int × Int)} {lv : Int → Int}
theorem blk {m mb l : Int} (hl : 0 ≤ l ∧ l ≤ 2) (hb : mb % (512 * VaSpec.sz l) = 0) (h0 : mb ≤ m) (h1 : m < mb + 512 * VaSpec.sz l) : mb + idx m l * VaSpec.sz l ≤ m ∧ m < mb + idx m l * VaSpec.sz l + VaSpec.sz l := by
  unfold idx
  rcases (by omega : l = 0 ∨ l = 1 ∨ l = 2) with rfl | rfl | rfl
  · simp only [show VaSpec.sz 0 = 4096 from rfl] at *; omega
  · simp only [show VaSpec.sz 1 = 2097152 from rfl] at *; omega
  · simp only [show VaSpec.sz 2 = 1073741824 from rfl] at *; omega
end
end Go.Proofs.YtomeaibdedaldaaGreatDoor.LrB
namespace Go.Proofs.YtomeaibdedaldaaGreatDoor.LrC
open Go.RowKit Bv VaSpec Base MemL RegR Ax MemC PutC MemC3 TzC OkS SpA SpB SpC SpD SpE SpF SpG SpH SpI SpJ SpN SpO RfP RfQ RfA RfE RfG RfJ RfK LaA LaB LaC LaD LaE LaF LaG LaH LiA LiB LiC LiD LiE LiF LrA LrB
open BitsC PteSpec
set_option maxRecDepth 10000
set_option maxHeartbeats 1000000
section
variable {cd cp sz sh : Int}
end
theorem zzi (k : Kr) (top at' a l : Int) : (lk3 k top at' a l = 0 ∧ (atM k.sz k.m (zbq k.sz k.m a l at' top).1 (idx a (zbq k.sz k.m a l at' top).2)).v = false) ∨ lk3 k top at' a l = 6 := by
  unfold lk3
  cases (atM k.sz k.m (zbq k.sz k.m a l at' top).1 (idx a (zbq k.sz k.m a l at' top).2)).v <;> simp
def ends (a s : Int) : Int := IntKind.u64.wrap (IntKind.u64.wrap (a + s) - 1)
end Go.Proofs.YtomeaibdedaldaaGreatDoor.LrC
namespace Go.Proofs.YtomeaibdedaldaaGreatDoor.LmA
open Go.RowKit Bv VaSpec Base MemL RegR Ax MemC PutC MemC3 TzC OkS SpA SpB SpC SpF SpH SpI SpJ LaA LaB LaC LaD LaE LaF LaG LiA LiB LiC LiD LiE LiF LrA LrB LrC LjA LjF LkE
open BitsC PteSpec
set_option maxRecDepth 10000
set_option maxHeartbeats 1000000
def zc9 (q : Pte) (p : Pm) : Pte := { q with r := p.r, w := p.w, x := p.x, u := p.u }
def zzj (sz : Int) (xs : List (Int × Int)) (t i : Int) (p : Pm) : List (Int × Int) := zbg sz xs t i (zc9 (atM sz xs t i) p)
theorem zh1 {q : Pte} {p : Pm} {l : Int} (hU : q.U) (hm : zie q = true) (hp : zf2 p = true) (h1 : zbb q = true) (h2 : zfy q l = false) :
    (zc9 q p).U ∧ zie (zc9 q p) = true ∧ zbb (zc9 q p) = true ∧ zfy (zc9 q p) l = false := by
  obtain ⟨v, r, w, x, u, g, a, d, rsw, ppn, high⟩ := q
  obtain ⟨pr, pw, px, pu⟩ := p
  refine ⟨hU, hm, ?_, ?_⟩
  · revert hp h1
    unfold zbb zc9 zf2
    cases v <;> cases pr <;> cases pw <;> cases px <;> simp
  · revert hp h1 h2
    unfold zbb zf2 zfy zcn zc9
    simp only
    generalize (high != 0) = e1
    generalize (ppn % (VaSpec.sz l / 4096) == 0) = e2
    generalize (l == 0 || a || d || u) = e3
    generalize (l == 0 || a || d || pu) = e4
    cases v <;> cases r <;> cases w <;> cases x <;> cases pr <;> cases pw <;> cases px <;> cases e1 <;> cases e2 <;> simp
theorem zow : ∀ (xs : List (Int × Int)) (a v : Int), MemC.look xs a ≠ 0 → (zb2 xs a v).length ≤ xs.length
  | [], a, v, h => absurd (zj3 a) h
  | c :: cs, a, v, h => by
    rw [zc8] at h
    unfold zb2
    by_cases c1 : c.1 < a
    · rw [if_pos c1] at h ⊢
      have := zow cs a v h
      show (zb2 cs a v).length + 1 ≤ cs.length + 1
      omega
    · rw [if_neg c1] at h ⊢
      by_cases c2 : c.1 = a
      · rw [if_pos c2]
        split
        · show cs.length ≤ cs.length + 1; omega
        · exact Nat.le_refl _
      · rw [if_neg c2] at h; exact absurd rfl h
section
variable {cd cp sz f sh : Int} {xs : List (Int × Int)} {lv : Int → Int}
theorem zox (h : TI cd cp sz xs f sh lv) {t i : Int} (hi : 0 ≤ i ∧ i < 512) (h1 : zbb (atM sz xs t i) = true) : Al cd cp f t ∧ (0 ≤ lv t ∧ lv t ≤ 2) ∧ zfy (atM sz xs t i) (lv t) = false := by
  rcases h.e.k t i hi with e | ⟨a, b, ⟨_, e⟩ | ⟨e, _⟩⟩
  · rw [e] at h1; cases h1
  · exact ⟨a, b, e⟩
  · have := (zdg e).2.2; rw [h1] at this; cases this
theorem zxr (h : TI cd cp sz xs f sh lv) {t i : Int} {p : Pm} (hi : 0 ≤ i ∧ i < 512) (h1 : zbb (atM sz xs t i) = true) (hp : zf2 p = true) :
    TI cd cp sz (zzj sz xs t i p) f sh lv ∧ (∀ s j, (0 ≤ j ∧ j < 512) → atM sz (zzj sz xs t i p) s j = if s = t ∧ j = i then zc9 (atM sz xs t i) p else atM sz xs s j) ∧ (zzj sz xs t i p).length ≤ xs.length := by
  obtain ⟨ht, hl, h2⟩ := zox h hi h1
  have b1 := h.bd
  have bz := h.bz
  have bt := ht.1
  obtain ⟨p1, p2, p3, p4⟩ := zh1 (p := p) (zue h.u sz t i) (zvp h.u) hp h1 h2
  have e : zzj sz xs t i p = zb2 xs (t * 512 + i) (PteC.zfm (zc9 (atM sz xs t i) p)) := zni p1 (by omega) hi (by rw [bz]; omega)
  rw [e]
  have hb := zuz p1 p2
  have hE : ∀ s j, (0 ≤ j ∧ j < 512) → atM sz (zb2 xs (t * 512 + i) (PteC.zfm (zc9 (atM sz xs t i) p))) s j = if s = t ∧ j = i then zc9 (atM sz xs t i) p else atM sz xs s j := fun s j hj => by
    by_cases hd : s * 4096 + j * 8 < sz
    · rw [zi1 h.s hi hj hd, hb]
    · rw [if_neg (by rintro ⟨rfl, rfl⟩; omega)]
      unfold atM zbo
      rw [if_neg hd, if_neg hd]
  refine ⟨h.put bt hi (zge _ p1) h.bf fun E' hE' => ?_, hE, zow _ _ _ fun e0 => ?_⟩
  · rw [hb] at hE'
    exact h.e.leaf ht hl p3 p4 hE'
  · have : atM sz xs t i = zP := by
      unfold atM zbo
      rw [if_pos (by rw [bz]; omega), show (t * 4096 + i * 8) / 8 = t * 512 + i by omega, e0, zuo]
    rw [this] at h1; cases h1
def Shp (sz : Int) (p : Pm) (xs xs' : List (Int × Int)) : Prop := ∀ s j, (0 ≤ j ∧ j < 512) → atM sz xs' s j = atM sz xs s j ∨ (zbb (atM sz xs s j) = true ∧ zbb (atM sz xs' s j) = true ∧ atM sz xs' s j = zc9 (atM sz xs s j) p)
theorem Shp.refl (sz : Int) (p : Pm) (xs : List (Int × Int)) : Shp sz p xs xs := fun _ _ _ => .inl rfl
theorem znt (q : Pte) (p : Pm) : zc9 (zc9 q p) p = zc9 q p := rfl
theorem Shp.trans {sz : Int} {p : Pm} {a b c : List (Int × Int)} (h : Shp sz p a b) (g : Shp sz p b c) : Shp sz p a c := fun s j hj => by
  rcases h s j hj with e | ⟨e1, e2, e3⟩ <;> rcases g s j hj with e' | ⟨e1', e2', e3'⟩
  · exact .inl (e'.trans e)
  · rw [e] at e1' e3'; exact .inr ⟨e1', e2', e3'⟩
  · rw [e'] ; exact .inr ⟨e1, e2, e3⟩
  · exact .inr ⟨e1, e2', by rw [e3', e3, znt]⟩
theorem Shp.leaf {sz : Int} {p : Pm} {a b : List (Int × Int)} (h : Shp sz p a b) {s j : Int} (hj : 0 ≤ j ∧ j < 512) (hl : zbb (atM sz a s j) = true) : zbb (atM sz b s j) = true := by
  rcases h s j hj with e | ⟨_, e, _⟩
  · rw [e]; exact hl
  · exact e
structure Pnt (cd cp sz f sh : Int) (lv : Int → Int) (p : Pm) (xs xs' : List (Int × Int)) : Prop where
  t : TI cd cp sz xs' f sh lv
  s : Shp sz p xs xs'
  n : xs'.length ≤ xs.length
theorem Pnt.go {xs' : List (Int × Int)} {p : Pm} (h : TI cd cp sz xs f sh lv) (hp : zf2 p = true) (g : Pnt cd cp sz f sh lv p xs xs') {t i : Int} (hi : 0 ≤ i ∧ i < 512) (h1 : zbb (atM sz xs t i) = true) : Pnt cd cp sz f sh lv p xs (zzj sz xs' t i p) := by
  have h2 := g.s.leaf hi h1
  obtain ⟨r1, r2, r3⟩ := zxr g.t hi h2 hp
  obtain ⟨_, _, hbad⟩ := zox g.t hi h2
  refine ⟨r1, g.s.trans fun s j hj => ?_, Nat.le_trans r3 g.n⟩
  rw [r2 s j hj]
  split
  · rename_i c
    obtain ⟨rfl, rfl⟩ := c
    exact .inr ⟨h2, (zh1 (p := p) (zue g.t.u sz _ _) (zvp g.t.u) hp h2 hbad).2.2.1, rfl⟩
  · exact .inl rfl
end
end Go.Proofs.YtomeaibdedaldaaGreatDoor.LmA
namespace Go.Proofs.YtomeaibdedaldaaGreatDoor.LmB
open Go.RowKit Bv VaSpec Base MemL RegR Ax MemC PutC MemC3 TzC OkS SpA SpB SpC SpF SpH SpI SpJ LaA LaB LaC LaD LaE LaF LaG LiA LiB LiC LiD LiE LiF LjA RlA RlB
open BitsC PteSpec
set_option maxRecDepth 10000
set_option maxHeartbeats 1000000
theorem b3 (a b : Bool) : a = false ∨ (a = true ∧ b = true) ∨ (a = true ∧ b = false) := by cases a <;> cases b <;> simp
end Go.Proofs.YtomeaibdedaldaaGreatDoor.LmB
namespace Go.Proofs.YtomeaibdedaldaaGreatDoor.LmE
open Go.RowKit Bv VaSpec Base MemL RegR Ax MemC PutC MemC3 TzC OkS SpA SpB SpC SpD SpE SpF SpN SpO SpG SpH SpI SpJ LaA LaB LaC LaD LaE LaF LaG LiA LiB LiC LiD LiE LiF LrA LrB LrC LjA LjF LkE LmA LmB
open BitsC PteSpec
set_option maxRecDepth 10000
set_option maxHeartbeats 1000000
section
variable {cd cp sz sh : Int}
end
end Go.Proofs.YtomeaibdedaldaaGreatDoor.LmE
namespace Go.Proofs.YtomeaibdedaldaaGreatDoor.LnA
open Go.RowKit Bv VaSpec Base MemL RegR Ax MemC PutC MemC3 TzC OkS SpA SpB SpC SpD SpE SpF SpN SpO SpG SpH SpI SpJ LaA LaB LaC LaD LaE LaF LaG LiA LiB LiC LiD LiE LiF LrA LrB LrC LjA LjF LkE LmA LmB LmE
open BitsC PteSpec
set_option maxRecDepth 10000
set_option maxHeartbeats 1000000
theorem znu (sz : Int) (xs : List (Int × Int)) (l : Nat) (t : Int) : t ∈ frN sz xs l t := by
  cases l <;> simp [frN]
section
variable {cd cp sz f sh : Int} {xs : List (Int × Int)} {lv : Int → Int}
end
section
variable {cd cp sz sh : Int}
end
section
variable {cd cp sz f sh : Int} {xs xs' : List (Int × Int)} {lv : Int → Int}
end
end Go.Proofs.YtomeaibdedaldaaGreatDoor.LnA
namespace Go.Proofs.YtomeaibdedaldaaGreatDoor.LnB
open Go.RowKit Bv VaSpec Base MemL RegR Ax MemC PutC MemC3 TzC OkS SpA SpB SpC SpD SpE SpF SpN SpO SpG SpH SpI SpJ LaA LaB LaC LaD LaE LaF LaG LiA LiB LiC LiD LiE LiF LrA LrB LrC LjA LjF LkE LmA LmB LmE LnA
open BitsC PteSpec RfE RfG RfJ RfK LaH RfA RfP RfQ
set_option maxRecDepth 10000
set_option maxHeartbeats 1000000
inductive Tr where
  | no
  | lf (p : Pte)
  | tb (f : Int → Tr)
def upd (f : Int → Tr) (i : Int) (r : Tr) : Int → Tr := fun j => if j = i then r else f j
theorem zex (f : Int → Tr) (i : Int) (r : Tr) : upd f i r i = r := if_pos rfl
theorem zeg (f : Int → Tr) {i j : Int} (r : Tr) (h : j ≠ i) : upd f i r j = f j := if_neg h
theorem zkd (f : Int → Tr) (i : Int) (r s : Tr) : upd (upd f i r) i s = upd f i s := by
  funext j; unfold upd; split <;> rfl
theorem upd_comm (f : Int → Tr) {i j : Int} (r s : Tr) (h : i ≠ j) : upd (upd f i r) j s = upd (upd f j s) i r := by
  funext x; unfold upd
  by_cases h1 : x = i
  · rw [if_neg (by omega), if_pos h1, if_pos h1]
  · rw [if_neg h1]
    split <;> rfl
def zkh : Tr → Int → Tr
  | .tb f => f
  | _ => fun _ => .no
def zxs : Tr → Bool
  | .no => true
  | _ => false
def zx1 : Tr → Bool
  | .lf _ => true
  | _ => false
def zf8 (a zao : Int) (q : Pte) : Nat → Tr → Option Tr
  | 0, tr => if zxs tr then some (.lf q) else none
  | l + 1, tr => if zao = ((l + 1 : Nat) : Int) then (if zxs tr then some (.lf q) else none)
    else if zx1 tr then none
    else (zf8 a zao q l (zkh tr (idx a (l : Int)))).map fun r => .tb (upd (zkh tr) (idx a (l : Int)) r)
def zdh (a zao : Int) (q : Pte) (l : Nat) (f : Int → Tr) : Option (Int → Tr) := (zf8 a zao q l (f (idx a (l : Int)))).map fun r => upd f (idx a (l : Int)) r
theorem zd0 {a zao : Int} {q : Pte} {l : Nat} {tr : Tr} (h : zao ≠ ((l + 1 : Nat) : Int)) (hl : zx1 tr = false) : zf8 a zao q (l + 1) tr = (zdh a zao q l (zkh tr)).map .tb := by
  unfold zdh
  show (if zao = ((l + 1 : Nat) : Int) then _ else if zx1 tr = true then none else _) = _
  rw [if_neg h, hl, if_neg (by simp)]
  cases zf8 a zao q l (zkh tr (idx a (l : Int))) <;> rfl
theorem zgg {a zao : Int} {q : Pte} {l : Nat} {tr : Tr} (h : zao = (l : Int)) : zf8 a zao q l tr = if zxs tr then some (.lf q) else none := by
  cases l with
  | zero => rfl
  | succ l => exact if_pos h
theorem zi2 {a zao : Int} {q p : Pte} {l : Nat} : zf8 a zao q l (.lf p) = none := by
  cases l with
  | zero => rfl
  | succ l =>
    show (if zao = ((l + 1 : Nat) : Int) then _ else _) = _
    split <;> rfl
theorem zoy {a zao : Int} {q : Pte} {l : Nat} {tr r : Tr} (h : zf8 a zao q l tr = some r) : zxs r = false := by
  cases l with
  | zero =>
    unfold zf8 at h
    split at h
    · simp only [Option.some.injEq] at h; subst h; rfl
    · cases h
  | succ l =>
    unfold zf8 at h
    split at h
    · split at h
      · simp only [Option.some.injEq] at h; subst h; rfl
      · cases h
    · split at h
      · cases h
      · obtain ⟨x, _, rfl⟩ := Option.map_eq_some_iff.1 h; rfl
theorem zu1 (a w : Int) (q : Pte) (a' w' : Int) (q' : Pte) : ∀ (l : Nat) (tr A B : Tr), zf8 a w q l tr = some A → zf8 a' w' q' l A = some B → ∃ C, zf8 a' w' q' l tr = some C ∧ zf8 a w q l C = some B := by
  intro l
  induction l with
  | zero =>
    intro tr A B h1 h2
    have hA := zoy h1
    unfold zf8 at h2
    rw [hA, if_neg (by simp)] at h2
    cases h2
  | succ l ih =>
    intro tr A B h1 h2
    have hA := zoy h1
    by_cases w1 : w = ((l + 1 : Nat) : Int)
    · rw [zgg w1] at h1
      split at h1
      · simp only [Option.some.injEq] at h1; subst h1
        rw [zi2] at h2; cases h2
      · cases h1
    by_cases w2 : w' = ((l + 1 : Nat) : Int)
    · rw [zgg w2, hA, if_neg (by simp)] at h2; cases h2
    have l1 : zx1 tr = false := by
      cases tr with
      | lf p => rw [zi2] at h1; cases h1
      | no => rfl
      | tb f => rfl
    rw [zd0 w1 l1] at h1
    obtain ⟨F, hF, rfl⟩ := Option.map_eq_some_iff.1 h1
    rw [zd0 w2 rfl] at h2
    obtain ⟨G, hG, rfl⟩ := Option.map_eq_some_iff.1 h2
    have hG : zdh a' w' q' l F = some G := hG
    rw [zd0 w2 l1]
    unfold zdh at hF hG
    obtain ⟨r, hr, rfl⟩ := Option.map_eq_some_iff.1 hF
    obtain ⟨s, hs, rfl⟩ := Option.map_eq_some_iff.1 hG
    by_cases e : idx a' (l : Int) = idx a (l : Int)
    · rw [e, zex] at hs
      obtain ⟨c, hc, hb⟩ := ih _ _ _ hr hs
      refine ⟨.tb (upd (zkh tr) (idx a (l : Int)) c), ?_, ?_⟩
      · unfold zdh; rw [e, hc]; rfl
      · rw [zd0 w1 rfl]
        unfold zdh
        show ((zf8 a w q l (upd (zkh tr) (idx a (l : Int)) c (idx a (l : Int)))).map _).map _ = _
        rw [zex, hb]
        show some (Tr.tb (upd (upd (zkh tr) (idx a (l : Int)) c) (idx a (l : Int)) s)) = some (Tr.tb (upd (upd (zkh tr) (idx a (l : Int)) r) (idx a' (l : Int)) s))
        rw [e, zkd, zkd]
    · rw [zeg _ _ e] at hs
      refine ⟨.tb (upd (zkh tr) (idx a' (l : Int)) s), ?_, ?_⟩
      · unfold zdh; rw [hs]; rfl
      · rw [zd0 w1 rfl]
        unfold zdh
        show ((zf8 a w q l (upd (zkh tr) (idx a' (l : Int)) s (idx a (l : Int)))).map _).map _ = _
        rw [zeg _ _ (fun hh => e hh.symm), hr]
        show some (Tr.tb (upd (upd (zkh tr) (idx a' (l : Int)) s) (idx a (l : Int)) r)) = some (Tr.tb (upd (upd (zkh tr) (idx a (l : Int)) r) (idx a' (l : Int)) s))
        rw [upd_comm _ _ _ e]
theorem zs2 {a w : Int} {q : Pte} {a' w' : Int} {q' : Pte} {l : Nat} {F A B : Int → Tr} (h1 : zdh a w q l F = some A) (h2 : zdh a' w' q' l A = some B) : ∃ C, zdh a' w' q' l F = some C ∧ zdh a w q l C = some B := by
  unfold zdh at *
  obtain ⟨r, hr, rfl⟩ := Option.map_eq_some_iff.1 h1
  obtain ⟨s, hs, rfl⟩ := Option.map_eq_some_iff.1 h2
  by_cases e : idx a' (l : Int) = idx a (l : Int)
  · rw [e, zex] at hs
    obtain ⟨c, hc, hb⟩ := zu1 a w q a' w' q' l _ _ _ hr hs
    refine ⟨upd F (idx a (l : Int)) c, by rw [e, hc]; rfl, ?_⟩
    rw [zex, hb]
    show some (upd (upd F (idx a (l : Int)) c) (idx a (l : Int)) s) = some (upd (upd F (idx a (l : Int)) r) (idx a' (l : Int)) s)
    rw [e, zkd, zkd]
  · rw [zeg _ _ e] at hs
    refine ⟨upd F (idx a' (l : Int)) s, by rw [hs]; rfl, ?_⟩
    rw [zeg _ _ (fun hh => e hh.symm), hr]
    show some (upd (upd F (idx a' (l : Int)) s) (idx a (l : Int)) r) = some (upd (upd F (idx a (l : Int)) r) (idx a' (l : Int)) s)
    rw [upd_comm _ _ _ e]
theorem zs3 (a w : Int) (q q' : Pte) : ∀ (l : Nat) (tr A : Tr), zf8 a w q l tr = some A → zf8 a w q' l A = none := by
  intro l
  induction l with
  | zero =>
    intro tr A h1
    have hA := zoy h1
    unfold zf8
    rw [hA, if_neg (by simp)]
  | succ l ih =>
    intro tr A h1
    have hA := zoy h1
    by_cases w1 : w = ((l + 1 : Nat) : Int)
    · rw [zgg w1, hA, if_neg (by simp)]
    have l1 : zx1 tr = false := by
      cases tr with
      | lf p => rw [zi2] at h1; cases h1
      | no => rfl
      | tb f => rfl
    rw [zd0 w1 l1] at h1
    obtain ⟨F, hF, rfl⟩ := Option.map_eq_some_iff.1 h1
    unfold zdh at hF
    obtain ⟨r, hr, rfl⟩ := Option.map_eq_some_iff.1 hF
    rw [zd0 w1 rfl]
    unfold zdh
    show ((zf8 a w q' l (upd (zkh tr) (idx a (l : Int)) r (idx a (l : Int)))).map _).map _ = _
    rw [zex, ih _ _ hr]
    rfl
theorem zp8 {a w : Int} {q q' : Pte} {l : Nat} {F A : Int → Tr} (h1 : zdh a w q l F = some A) : zdh a w q' l A = none := by
  unfold zdh at *
  obtain ⟨r, hr, rfl⟩ := Option.map_eq_some_iff.1 h1
  rw [zex, zs3 a w q q' l _ _ hr]
  rfl
def zqb (f : Int → Nat) : Nat → Nat
  | 0 => 0
  | n + 1 => zqb f n + f (n : Int)
theorem zoz {f g : Int → Nat} : ∀ (n : Nat), (∀ i : Nat, i < n → f i = g i) → zqb f n = zqb g n
  | 0, _ => rfl
  | n + 1, h => by
    show zqb f n + f n = zqb g n + g n
    rw [zoz n fun i hi => h i (by omega), h n (by omega)]
theorem zo0 {f g : Int → Nat} {i : Int} : ∀ (n : Nat), (0 ≤ i ∧ i < n) → (∀ j, j ≠ i → g j = f j) → zqb g n + f i = zqb f n + g i
  | 0, hi, _ => by omega
  | n + 1, hi, h => by
    show zqb g n + g n + f i = zqb f n + f n + g i
    by_cases e : i = (n : Int)
    · subst e
      rw [zoz n fun j hj => h j (by omega)]
      omega
    · have := zo0 (f := f) (g := g) n (by omega) h
      have := h n (fun hh => e hh.symm)
      omega
theorem zl3 : ∀ (n : Nat), zqb (fun _ => 0) n = 0
  | 0 => rfl
  | n + 1 => zl3 n
def zke : Tr → Nat
  | .tb f => 1 + zqb (fun i => zke (f i)) 512
  | _ => 0
def zgh (f : Int → Tr) : Nat := zqb (fun i => zke (f i)) 512
theorem zdz (f : Int → Tr) (i : Int) (r : Tr) (hi : 0 ≤ i ∧ i < 512) : zgh (upd f i r) + zke (f i) = zgh f + zke r := by
  unfold zgh
  have := zo0 (f := fun j => zke (f j)) (g := fun j => zke (upd f i r j)) (i := i) 512 (by omega) (fun j hj => by show zke (upd f i r j) = _; rw [zeg _ _ hj])
  have e : zke (upd f i r i) = zke r := by rw [zex]
  simp only [e] at this
  exact this
theorem zxt : zgh (fun _ => Tr.no) = 0 := zl3 512
noncomputable def zxu (sz : Int) (xs : List (Int × Int)) : Nat → Pte → Tr
  | 0, p => if zbb p then .lf p else .no
  | l + 1, p => if zbb p then .lf p else if zbi p ((l + 1 : Nat) : Int) then .tb (fun j => if 0 ≤ j ∧ j < 512 then zxu sz xs l (atM sz xs p.ppn j) else .no) else .no
noncomputable def zci (sz : Int) (xs : List (Int × Int)) (l : Nat) (t : Int) : Int → Tr := fun j => if 0 ≤ j ∧ j < 512 then zxu sz xs l (atM sz xs t j) else .no
theorem zda {sz : Int} {xs : List (Int × Int)} {l : Nat} {t j : Int} (hj : 0 ≤ j ∧ j < 512) : zci sz xs l t j = zxu sz xs l (atM sz xs t j) := if_pos hj
theorem zdb {sz : Int} {xs : List (Int × Int)} {l : Nat} {p : Pte} (h : zbb p = true) : zxu sz xs l p = .lf p := by
  cases l with
  | zero => exact if_pos h
  | succ l => exact if_pos h
theorem zdc {sz : Int} {xs : List (Int × Int)} {l : Nat} {p : Pte} (h : lkP p = true) : zxu sz xs (l + 1) p = .tb (zci sz xs l p.ppn) := by
  show (if zbb p = true then _ else if zbi p ((l + 1 : Nat) : Int) = true then _ else _) = _
  rw [(zdg h).2.2, if_neg (by simp), if_pos (zdy h (by omega))]
  rfl
theorem zeh {sz : Int} {xs : List (Int × Int)} {l : Nat} : zxu sz xs l zP = .no := by
  cases l with
  | zero => rfl
  | succ l => rfl
theorem zgw {sz : Int} {xs xs' : List (Int × Int)} : ∀ (l : Nat) (t : Int), (∀ s ∈ frN sz xs l t, ∀ j, (0 ≤ j ∧ j < 512) → atM sz xs' s j = atM sz xs s j) → zci sz xs' l t = zci sz xs l t
  | 0, t, h => by
    funext j
    unfold zci
    split
    · rename_i hj
      rw [h t (znu _ _ _ _) j hj]
      rfl
    · rfl
  | l + 1, t, h => by
    funext j
    unfold zci
    split
    · rename_i hj
      rw [h t (znu _ _ _ _) j hj]
      show (if zbb (atM sz xs t j) = true then _ else if zbi (atM sz xs t j) ((l + 1 : Nat) : Int) = true then Tr.tb (zci sz xs' l (atM sz xs t j).ppn) else _) = (if zbb (atM sz xs t j) = true then _ else if zbi (atM sz xs t j) ((l + 1 : Nat) : Int) = true then Tr.tb (zci sz xs l (atM sz xs t j).ppn) else _)
      cases c : zbi (atM sz xs t j) ((l + 1 : Nat) : Int) with
      | false => rfl
      | true =>
        rw [zgw l (atM sz xs t j).ppn fun s hs j' hj' => h s (by
          simp only [frN, List.mem_cons]
          refine .inr (List.mem_flatMap.2 ⟨j.toNat, List.mem_range.2 (by omega), ?_⟩)
          rw [show ((j.toNat : Nat) : Int) = j by omega, if_pos c]
          exact hs) j' hj']
    · rfl
section
variable {cd cp sz f sh : Int} {xs : List (Int × Int)} {lv : Int → Int}
theorem zu2 (h : TI cd cp sz xs f sh lv) {l1 l2 : Nat} {t1 t2 : Int} (a1 : Al cd cp f t1) (a2 : Al cd cp f t2) (e1 : lv t1 = l1) (e2 : lv t2 = l2) (hl : l2 ≤ l1) (hns : ∀ g ∈ frN sz xs l2 t2, g ≠ t2 → g ≠ sh) : ∀ (d : Nat) (g : Int), lv t2 - lv g ≤ d → g ∈ frN sz xs l1 t1 → g ∈ frN sz xs l2 t2 → t2 ∈ frN sz xs l1 t1
  | 0, g, hd, h1, h2 => by
    obtain ⟨_, q2, q3⟩ := zbk h l2 t2 a2 e2 g h2
    rcases q3 with rfl | ⟨s, hs, j, p1, p2, p3, p4⟩
    · exact h1
    · obtain ⟨_, _, r, _⟩ := zgi h p1 p2
      rw [p3] at r
      omega
  | d + 1, g, hd, h1, h2 => by
    obtain ⟨_, q2, q3⟩ := zbk h l2 t2 a2 e2 g h2
    obtain ⟨_, _, v3⟩ := zbk h l1 t1 a1 e1 g h1
    by_cases hg : g = t2
    · rw [← hg]; exact h1
    rcases q3 with e | ⟨s, hs, j, p1, p2, p3, p4⟩
    · exact absurd e hg
    obtain ⟨_, _, r, _⟩ := zgi h p1 p2
    rw [p3] at r
    rcases v3 with e | ⟨s', hs', j', p1', p2', p3', p4'⟩
    · rw [e] at r; omega
    · obtain ⟨u1, u2⟩ := h.e.u s j s' j' p1 p1' p2 p2' (p3.trans p3'.symm) (by rw [p3]; exact hns g h2 hg)
      subst u1
      exact zu2 h a1 a2 e1 e2 hl hns d s (by omega) hs' hs
theorem zs4 (h : TI cd cp sz xs f sh lv) {l : Nat} {t : Int} (ha : Al cd cp f t) (e : lv t = l) (hl : l ≤ 1) : ∀ g ∈ frN sz xs l t, g ≠ t → g ≠ sh := fun g hg hne hs => by
  obtain ⟨_, _, q3⟩ := zbk h l t ha e g hg
  rcases q3 with e | ⟨s, hs', j, p1, p2, p3, p4⟩
  · exact hne e
  · have := (h.e.s s j p1 p2 (p3.trans hs)).2
    omega
theorem zxv (h : TI cd cp sz xs f sh lv) {l : Nat} {t i j g : Int} (ht : lv t = (l + 1 : Nat)) (h2 : l ≤ 1) (hi : 0 ≤ i ∧ i < 512) (hj : 0 ≤ j ∧ j < 512) (k1 : lkP (atM sz xs t i) = true) (k2 : lkP (atM sz xs t j) = true) (hns : (atM sz xs t i).ppn ≠ sh ∨ (atM sz xs t j).ppn ≠ sh) (g1 : g ∈ frN sz xs l (atM sz xs t i).ppn) (g2 : g ∈ frN sz xs l (atM sz xs t j).ppn) : i = j := by
  obtain ⟨_, _, r1, a1⟩ := zgi h hi k1
  obtain ⟨_, _, r2, a2⟩ := zgi h hj k2
  have e1 : lv (atM sz xs t i).ppn = l := by rw [r1, ht]; omega
  have e2 : lv (atM sz xs t j).ppn = l := by rw [r2, ht]; omega
  obtain ⟨_, q2, _⟩ := zbk h l _ a2 e2 g g2
  have hm := zu2 h a1 a2 e1 e2 (Nat.le_refl _) (zs4 h a2 e2 h2) l g (by omega) g1 g2
  obtain ⟨_, _, v⟩ := zbk h l _ a1 e1 _ hm
  rcases v with e | ⟨s, _, j', p1, p2, p3, p4⟩
  · rcases hns with hns | hns
    · exact (h.e.u t i t j hi hj k1 k2 e.symm hns).2
    · exact (h.e.u t j t i hj hi k2 k1 e hns).2.symm
  · obtain ⟨_, _, r, _⟩ := zgi h p1 p2
    rw [p3] at r
    omega
end
def pgsE : Nat → Int → Tr → List Pg
  | 0, b, tr => match tr with
    | .lf p => [zzt p b 0]
    | _ => []
  | l + 1, b, tr => match tr with
    | .lf p => [zzt p b ((l + 1 : Nat) : Int)]
    | .tb f => (List.range 512).flatMap fun (i : Nat) => pgsE l (adr b i (l : Int)) (f i)
    | .no => []
def zzu (l : Nat) (b : Int) (f : Int → Tr) : List Pg := (List.range 512).flatMap fun (i : Nat) => pgsE l (adr b i (l : Int)) (f i)
theorem zl4 {α β : Type} {l : List α} {f g : α → List β} (h : ∀ x ∈ l, f x = g x) : l.flatMap f = l.flatMap g := by
  rw [List.flatMap_def, List.flatMap_def, List.map_congr_left h]
section
variable {cd cp sz f sh : Int} {xs : List (Int × Int)} {lv : Int → Int}
theorem zh2 (h : TI cd cp sz xs f sh lv) : ∀ (l : Nat) (t b : Int), lv t = l → zcc sz xs l t b = zzu l b (zci sz xs l t)
  | 0, t, b, hl => by
    show (List.range 512).flatMap _ = (List.range 512).flatMap _
    refine zl4 fun i hi => ?_
    have hi := List.mem_range.1 hi
    have hi' : (0 : Int) ≤ (i : Int) ∧ (i : Int) < 512 := by omega
    rw [zda hi']
    rcases h.e.k t i hi' with e | ⟨_, _, ⟨e1, e2⟩ | ⟨e1, e2, _⟩⟩
    · rw [e]; rfl
    · rw [hl] at e2
      rw [zdb e1]
      unfold zfn
      rw [show zfy (atM sz xs t i) 0 = false from e2, e1]
      rfl
    · omega
  | l + 1, t, b, hl => by
    show (List.range 512).flatMap _ = (List.range 512).flatMap _
    refine zl4 fun i hi => ?_
    have hi := List.mem_range.1 hi
    have hi' : (0 : Int) ≤ (i : Int) ∧ (i : Int) < 512 := by omega
    rw [zda hi']
    rcases h.e.k t i hi' with e | ⟨_, _, ⟨e1, e2⟩ | ⟨e1, e2, e3, _⟩⟩
    · rw [e, zeh]; rfl
    · rw [hl] at e2
      rw [zdb e1]
      unfold zfn
      rw [e2, e1]
      rfl
    · have hb : zfy (atM sz xs t i) ((l + 1 : Nat) : Int) = false := by
        have := zdy e1 (l := ((l + 1 : Nat) : Int)) (by omega)
        unfold zbi at this
        simp only [Bool.and_eq_true, Bool.not_eq_true'] at this
        exact this.2
      rw [zdc e1]
      unfold zfn
      rw [hb, (zdg e1).2.2]
      show zcc sz xs l (atM sz xs t i).ppn (adr b i ((l + 1 : Nat) : Int)) = zzu l (adr b i ((l + 1 : Nat) : Int)) (zci sz xs l (atM sz xs t i).ppn)
      exact zh2 h l _ _ (by rw [e3, hl]; omega)
theorem zgx (h : TI cd cp sz xs f sh lv) {l : Nat} {t i : Int} (ht : Al cd cp f t) (hl : lv t = l) (hi : 0 ≤ i ∧ i < 512) {xs' : List (Int × Int)} {r : Tr} (C : Int → Prop) (h1 : zxu sz xs' l (atM sz xs' t i) = r)
    (h2 : ∀ s j, (0 ≤ j ∧ j < 512) → Al cd cp f s → ¬ (s = t ∧ j = i) → ¬ C s → atM sz xs' s j = atM sz xs s j) (h3 : ¬ C t)
    (h4 : ∀ m, l = m + 1 → ∀ j, (0 ≤ j ∧ j < 512) → j ≠ i → lkP (atM sz xs t j) = true → ∀ g ∈ frN sz xs m (atM sz xs t j).ppn, ¬ C g) : zci sz xs' l t = upd (zci sz xs l t) i r := by
  funext j
  by_cases hj : 0 ≤ j ∧ j < 512
  · rw [zda hj]
    by_cases c : j = i
    · subst c; rw [h1, zex]
    · rw [zeg _ _ c, zda hj, h2 t j hj ht (fun hh => c hh.2) h3]
      cases l with
      | zero => rfl
      | succ m =>
        rcases h.e.k t j hj with e | ⟨_, _, ⟨e1, e2⟩ | ⟨e1, e2, e3, e4⟩⟩
        · rw [e, zeh, zeh]
        · rw [zdb e1, zdb e1]
        · have e5 : lv (atM sz xs t j).ppn = m := by rw [e3, hl]; omega
          rw [zdc e1, zdc e1, zgw m (atM sz xs t j).ppn fun s hs j' hj' => h2 s j' hj' (zbk h m _ e4 e5 s hs).1 (fun hh => by
            have := (zbk h m _ e4 e5 s hs).2.1
            rw [hh.1, hl] at this
            omega) (h4 m rfl j hj c e1 s hs)]
  · have : j ≠ i := fun e => hj (e ▸ hi)
    rw [zeg _ _ this]
    unfold zci
    rw [if_neg hj, if_neg hj]
theorem zs5 (h : TI cd cp sz xs f sh lv) {t i : Int} {p : Pte} (ht : Al cd cp f t) (hi : 0 ≤ i ∧ i < 512) (hp : p.U) (hb : zas (PteC.zfm p) = p) (s j : Int) (hj : 0 ≤ j ∧ j < 512) : atM sz (zbg sz xs t i p) s j = if s = t ∧ j = i then p else atM sz xs s j := by
  have bt := ht.1
  have bz := h.bz
  rw [h.gm.with ht hi hp]
  by_cases hd : s * 4096 + j * 8 < sz
  · rw [zi1 h.s hi hj hd, hb]
  · rw [if_neg (by rintro ⟨rfl, rfl⟩; omega)]
    unfold atM zbo
    rw [if_neg hd, if_neg hd]
def chg (sz : Int) (xs : List (Int × Int)) (a : Int) (l : Nat) (t s : Int) : Prop := ∃ m, l = m + 1 ∧ lkP (atM sz xs t (idx a (l : Int))) = true ∧ s ∈ frN sz xs m (atM sz xs t (idx a (l : Int))).ppn
theorem zo1 (a zao : Int) (q : Pte) (hw : 0 ≤ zao) : ∀ (l : Nat), zao ≤ (l : Int) → ∃ A, zf8 a zao q l .no = some A
  | 0, _ => ⟨_, rfl⟩
  | l + 1, h => by
    by_cases c : zao = ((l + 1 : Nat) : Int)
    · exact ⟨_, zgg c⟩
    · obtain ⟨A, hA⟩ := zo1 a zao q hw l (by omega)
      refine ⟨.tb (upd (zkh .no) (idx a (l : Int)) A), ?_⟩
      rw [zd0 c rfl]
      unfold zdh
      show ((zf8 a zao q l .no).map _).map _ = _
      rw [hA]; rfl
theorem zs6 (h : TI cd cp sz xs f sh lv) (a zao : Int) (q : Pte) (hw : 0 ≤ zao) : ∀ (l : Nat) (t : Int), zao ≤ (l : Int) → lv t = l → (zdh a zao q l (zci sz xs l t) = none ↔ (atM sz xs (zbl sz xs a zao l t).1 (idx a (zbl sz xs a zao l t).2)).v = true) := by
  have hnone : ∀ (l : Nat) (F : Int → Tr), zdh a zao q l F = none ↔ zf8 a zao q l (F (idx a (l : Int))) = none := fun l F => by
    unfold zdh
    rw [Option.map_eq_none_iff]
  intro l
  induction l with
  | zero =>
    intro t hwl hl
    have hi := idx_bd a ((0 : Nat) : Int)
    rw [hnone, zda hi]
    show _ ↔ (atM sz xs t (idx a ((0 : Nat) : Int))).v = true
    rw [zgg (by omega)]
    rcases h.e.k t _ hi with e | ⟨_, _, ⟨e1, e2⟩ | ⟨e1, e2, _⟩⟩
    · rw [e]; exact ⟨fun hh => (by cases hh), fun hh => (by cases hh)⟩
    · rw [zdb e1, (zdp e1).2]; exact ⟨fun _ => rfl, fun _ => rfl⟩
    · omega
  | succ l ih =>
    intro t hwl hl
    have hi := idx_bd a ((l + 1 : Nat) : Int)
    rw [hnone, zda hi]
    by_cases c : zao = ((l + 1 : Nat) : Int)
    · rw [zc6 (fun hh => by omega) hw]
      show _ ↔ (atM sz xs t (idx a ((l + 1 : Nat) : Int))).v = true
      rw [zgg c]
      rcases h.e.k t _ hi with e | ⟨_, _, ⟨e1, e2⟩ | ⟨e1, e2, _⟩⟩
      · rw [e, zeh]; exact ⟨fun hh => (by cases hh), fun hh => (by cases hh)⟩
      · rw [zdb e1, (zdp e1).2]; exact ⟨fun _ => rfl, fun _ => rfl⟩
      · rw [zdc e1, (zdg e1).2.1]; exact ⟨fun _ => rfl, fun _ => rfl⟩
    · rcases h.e.k t _ hi with e | ⟨_, _, ⟨e1, e2⟩ | ⟨e1, e2, e3, e4⟩⟩
      · rw [zc6 (fun _ => by rw [e]; rfl) hw]
        show _ ↔ (atM sz xs t (idx a ((l + 1 : Nat) : Int))).v = true
        rw [e, zeh]
        obtain ⟨A, hA⟩ := zo1 a zao q hw (l + 1) hwl
        rw [hA]
        exact ⟨fun hh => (by cases hh), fun hh => (by cases hh)⟩
      · rw [zc6 (fun _ => zj4 (zdp e1).1) hw]
        show _ ↔ (atM sz xs t (idx a ((l + 1 : Nat) : Int))).v = true
        rw [zdb e1, (zdp e1).2, zi2]; exact ⟨fun _ => rfl, fun _ => rfl⟩
      · rw [zec (by omega) (zdy e1 (by omega)), zdc e1, zd0 c rfl, Option.map_eq_none_iff]
        exact ih _ (by omega) (by rw [e3, hl]; omega)
theorem zxw (sz : Int) (ys : List (Int × Int)) (l : Nat) (g : Int) (hz : ∀ j, (0 ≤ j ∧ j < 512) → atM sz ys g j = zP) : ∀ s ∈ frN sz ys l g, s = g := fun s hs => by
  cases l with
  | zero => simpa [frN] using hs
  | succ m =>
    simp only [frN, List.mem_cons] at hs
    rcases hs with e | hs
    · exact e
    · obtain ⟨i, hi, hs⟩ := List.mem_flatMap.1 hs
      have hi := List.mem_range.1 hi
      rw [hz i (by omega), if_neg (by unfold zbi zcn zP; simp)] at hs
      cases hs
end
section
variable {cd cp sz sh : Int}
theorem zzk (addr zao : Int) (q : Pte) (hw : 0 ≤ zao) (hqU : q.U) (hqb : zas (PteC.zfm q) = q) (hql : zbb q = true) : ∀ (l : Nat) (xs : List (Int × Int)) (f t : Int) (lv : Int → Int), TI cd cp sz xs f sh lv → Al cd cp f t → Al cd cp f sh → lv t = l → l ≤ 2 → zao ≤ (l : Int) → (l = 2 → idx addr 2 ≠ 511) → ∀ A, zdh addr zao q l (zci sz xs l t) = some A →
    ((dnN sz cd addr zao l xs f t).2.2.2 = 0 ∧ zci sz (zbg sz (dnN sz cd addr zao l xs f t).1 (dnN sz cd addr zao l xs f t).2.2.1 (idx addr zao) q) l t = A ∧ cnt (dnN sz cd addr zao l xs f t).2.1 + zgh A = cnt f + zgh (zci sz xs l t) ∧
      (∀ s j, (0 ≤ j ∧ j < 512) → Al cd cp f s → ¬ (s = t ∧ j = idx addr (l : Int)) → ¬ chg sz xs addr l t s → atM sz (zbg sz (dnN sz cd addr zao l xs f t).1 (dnN sz cd addr zao l xs f t).2.2.1 (idx addr zao) q) s j = atM sz xs s j)) ∨
    ((dnN sz cd addr zao l xs f t).2.2.2 = 8 ∧ cnt f + zgh (zci sz xs l t) < zgh A) := by
  -- a leaf is put into this table
  have base : ∀ (l : Nat) (xs : List (Int × Int)) (f t : Int) (lv : Int → Int), TI cd cp sz xs f sh lv → Al cd cp f t → lv t = l → zao = (l : Int) → ∀ A, zdh addr zao q l (zci sz xs l t) = some A →
      zci sz (zbg sz xs t (idx addr zao) q) l t = A ∧ cnt f + zgh A = cnt f + zgh (zci sz xs l t) ∧ (∀ s j, (0 ≤ j ∧ j < 512) → Al cd cp f s → ¬ (s = t ∧ j = idx addr (l : Int)) → ¬ chg sz xs addr l t s → atM sz (zbg sz xs t (idx addr zao) q) s j = atM sz xs s j) := fun l xs f t lv h ht hl hwl A hA => by
    have hi := idx_bd addr (l : Int)
    have hat := fun s j hj => zs5 h ht (i := idx addr zao) (by rw [hwl]; exact hi) hqU hqb s j hj
    rw [hwl] at hat ⊢
    unfold zdh at hA
    rw [zgg hwl] at hA
    cases c : zxs (zci sz xs l t (idx addr (l : Int))) with
    | false => rw [c, if_neg (by simp)] at hA; cases hA
    | true =>
      rw [c, if_pos rfl] at hA
      simp only [Option.map_some, Option.some.injEq] at hA
      subst hA
      refine ⟨zgx h ht hl hi (fun _ => False) ?_ (fun s j hj _ hn _ => by rw [hat s j hj, if_neg hn]) (fun hh => hh) (fun _ _ _ _ _ _ _ _ hh => hh), ?_, fun s j hj _ hn _ => by rw [hat s j hj, if_neg hn]⟩
      · rw [hat t _ hi, if_pos ⟨rfl, rfl⟩, zdb hql]
      · have := zdz (zci sz xs l t) (idx addr (l : Int)) (.lf q) hi
        have e0 : zke (zci sz xs l t (idx addr (l : Int))) = 0 := by
          revert c
          cases zci sz xs l t (idx addr (l : Int)) <;> intro c
          · rfl
          · rfl
          · cases c
        have e1 : zke (.lf q) = 0 := rfl
        omega
  intro l
  induction l with
  | zero =>
    intro xs f t lv h ht hsh hl h2 hwl hH A hA
    exact .inl ⟨rfl, base 0 xs f t lv h ht hl (by omega) A hA⟩
  | succ l ih =>
    intro xs f t lv h ht hsh hl h2 hwl hH A hA
    have hi := idx_bd addr ((l + 1 : Nat) : Int)
    by_cases c1 : ((l + 1 : Nat) : Int) ≤ zao
    · have e0 : dnN sz cd addr zao (l + 1) xs f t = (xs, f, t, 0) := by unfold dnN; rw [if_pos c1]
      rw [e0]
      exact .inl ⟨rfl, base (l + 1) xs f t lv h ht hl (by omega) A hA⟩
    have cw : zao ≠ ((l + 1 : Nat) : Int) := by omega
    have hA0 := hA
    unfold zdh at hA
    obtain ⟨r, hr, rfl⟩ := Option.map_eq_some_iff.1 hA
    rw [zda hi] at hr
    rcases h.e.k t _ hi with e | ⟨_, _, ⟨e1, e2⟩ | ⟨e1, e2, e3, e4⟩⟩
    · -- nothing is there
      rw [e, zeh, zd0 cw rfl] at hr
      obtain ⟨A', hA', rfl⟩ := Option.map_eq_some_iff.1 hr
      have hA' : zdh addr zao q l (fun _ => .no) = some A' := hA'
      have hcu := zdz (zci sz xs (l + 1) t) (idx addr ((l + 1 : Nat) : Int)) (.tb A') hi
      rw [zda hi, e, zeh] at hcu
      have hc0 : zke .no = 0 := rfl
      have hc1 : zke (.tb A') = 1 + zgh A' := rfl
      by_cases c4 : f = 0
      · subst c4
        have e0 : dnN sz cd addr zao (l + 1) xs 0 t = (xs, 0, t, 8) := by unfold dnN; rw [if_neg c1, e, if_neg (by unfold zbb zP; simp), if_neg (by unfold zP; simp), if_pos rfl]
        rw [e0]
        have : cnt 0 = 0 := by decide
        exact .inr ⟨rfl, by omega⟩
      · have hD : dnN sz cd addr zao (l + 1) xs f t = dnN sz cd addr zao l (zbg sz xs t (idx addr ((l + 1 : Nat) : Int)) (lnk (cd + tzI f))) (zbj f (tzI f) 1 0) (cd + tzI f) := by
          conv => lhs; unfold dnN
          rw [if_neg c1, e, if_neg (by unfold zbb zP; simp), if_neg (by unfold zP; simp), if_neg c4]
        rw [hD]
        obtain ⟨a0, a1, a2, a3⟩ := zns h c4
        have b1 := h.bd
        have b2 := h.bp
        have hbt := ht.1
        have hnn : 0 ≤ cd + tzI f ∧ cd + tzI f < 17592186044416 := by omega
        have hT := zs0 h c4 ht hsh (by rw [hl]; omega) hi (by rw [e]; rfl)
        have hat := fun s j hj => zs5 h ht hi (zlx hnn) (zgt hnn) s j hj
        have hz : ∀ j, (0 ≤ j ∧ j < 512) → atM sz (zbg sz xs t (idx addr ((l + 1 : Nat) : Int)) (lnk (cd + tzI f))) (cd + tzI f) j = zP := fun j hj => by
          rw [hat _ j hj, if_neg (by rintro ⟨e, _⟩; exact (a0 _ ht).2 e.symm)]
          rcases h.e.k (cd + tzI f) j hj with e | ⟨e, _⟩
          · exact e
          · exact absurd rfl (a0 _ e).2
        have hS : zci sz (zbg sz xs t (idx addr ((l + 1 : Nat) : Int)) (lnk (cd + tzI f))) l (cd + tzI f) = fun _ => .no := by
          funext j
          unfold zci
          split
          · rename_i hj; rw [hz j hj, zeh]
          · rfl
        have t1 := zb7 h.uf h.bf.2 c4
        have hco := zka h.uf t1.1 (by omega) (ziy h.uf c4)
        have hup : upL lv (cd + tzI f) (lv t - 1) (cd + tzI f) = (l : Int) := by unfold upL; rw [if_pos rfl, hl]; omega
        have I := ih _ _ _ _ hT a1 (a0 _ hsh).1 hup (by omega) (by omega) (fun hh => by omega) A' (by rw [hS]; exact hA')
        rw [hS, zxt] at I
        have hz0 := zxw sz _ l _ hz
        generalize hys : zbg sz xs t (idx addr ((l + 1 : Nat) : Int)) (lnk (cd + tzI f)) = ys at *
        rcases I with ⟨I1, I2, I3, I4⟩ | ⟨I1, I2⟩
        · refine .inl ⟨I1, ?_, by omega, ?_⟩
          · generalize zbg sz (dnN sz cd addr zao l ys (zbj f (tzI f) 1 0) (cd + tzI f)).1 (dnN sz cd addr zao l ys (zbj f (tzI f) 1 0) (cd + tzI f)).2.2.1 (idx addr zao) q = zs at *
            have key : ∀ s j, (0 ≤ j ∧ j < 512) → Al cd cp f s → atM sz zs s j = atM sz ys s j := fun s j hj hs => I4 s j hj (a0 s hs).1 (fun hh => (a0 s hs).2 hh.1) (by
              rintro ⟨m, em, k1, k2⟩
              rw [hz _ (idx_bd addr _)] at k1; cases k1)
            refine zgx h ht hl hi (fun _ => False) ?_ (fun s j hj hs hn _ => by rw [key s j hj hs, hat s j hj, if_neg hn]) (fun hh => hh) (fun _ _ _ _ _ _ _ _ hh => hh)
            rw [key t _ hi ht, hat t _ hi, if_pos ⟨rfl, rfl⟩, zdc rfl]
            show Tr.tb (zci sz zs l (cd + tzI f)) = _
            rw [I2]
          · intro s j hj hs hn _
            rw [I4 s j hj (a0 s hs).1 (fun hh => (a0 s hs).2 hh.1) (by
              rintro ⟨m, em, k1, k2⟩
              rw [hz _ (idx_bd addr _)] at k1; cases k1), hat s j hj, if_neg hn]
        · exact .inr ⟨I1, by omega⟩
    · rw [zdb e1, zi2] at hr; cases hr
    · -- a link
      have e5 : lv (atM sz xs t (idx addr ((l + 1 : Nat) : Int))).ppn = (l : Int) := by rw [e3, hl]; omega
      rw [zdc e1, zd0 cw rfl] at hr
      obtain ⟨A', hA', rfl⟩ := Option.map_eq_some_iff.1 hr
      have hA' : zdh addr zao q l (zci sz xs l (atM sz xs t (idx addr ((l + 1 : Nat) : Int))).ppn) = some A' := hA'
      have hcu := zdz (zci sz xs (l + 1) t) (idx addr ((l + 1 : Nat) : Int)) (.tb A') hi
      rw [zda hi, zdc e1] at hcu
      have hc0 : zke (.tb (zci sz xs l (atM sz xs t (idx addr ((l + 1 : Nat) : Int))).ppn)) = 1 + zgh (zci sz xs l (atM sz xs t (idx addr ((l + 1 : Nat) : Int))).ppn) := rfl
      have hc1 : zke (.tb A') = 1 + zgh A' := rfl
      have hD : dnN sz cd addr zao (l + 1) xs f t = dnN sz cd addr zao l xs f (atM sz xs t (idx addr ((l + 1 : Nat) : Int))).ppn := by
        conv => lhs; unfold dnN
        rw [if_neg c1, (zdg e1).2.2, if_neg (by simp), if_pos (zdg e1).2.1]
      rw [hD]
      have hns : (atM sz xs t (idx addr ((l + 1 : Nat) : Int))).ppn ≠ sh := fun ee => by
        obtain ⟨b1, b2⟩ := h.e.s t _ hi e1 ee
        have : l + 1 = 2 := by omega
        rw [show ((l + 1 : Nat) : Int) = 2 by omega] at b1
        exact hH this b1
      rcases ih xs f _ lv h e4 hsh e5 (by omega) (by omega) (fun hh => by omega) A' hA' with ⟨I1, I2, I3, I4⟩ | ⟨I1, I2⟩
      · have hfp := zbk h l _ e4 e5
        have htn : t ∉ frN sz xs l (atM sz xs t (idx addr ((l + 1 : Nat) : Int))).ppn := fun hh => by have := (hfp t hh).2.1; omega
        have chin : ∀ s, chg sz xs addr l (atM sz xs t (idx addr ((l + 1 : Nat) : Int))).ppn s → s ∈ frN sz xs l (atM sz xs t (idx addr ((l + 1 : Nat) : Int))).ppn := by
          rintro s ⟨m, rfl, k1, k2⟩
          have hj := idx_bd addr ((m + 1 : Nat) : Int)
          simp only [frN, List.mem_cons]
          refine .inr (List.mem_flatMap.2 ⟨(idx addr ((m + 1 : Nat) : Int)).toNat, List.mem_range.2 (by omega), ?_⟩)
          rw [show (((idx addr ((m + 1 : Nat) : Int)).toNat : Nat) : Int) = idx addr ((m + 1 : Nat) : Int) by omega, if_pos (zdy k1 (by omega))]
          exact k2
        have out : ∀ s j, (0 ≤ j ∧ j < 512) → Al cd cp f s → s ∉ frN sz xs l (atM sz xs t (idx addr ((l + 1 : Nat) : Int))).ppn → atM sz (zbg sz (dnN sz cd addr zao l xs f (atM sz xs t (idx addr ((l + 1 : Nat) : Int))).ppn).1 (dnN sz cd addr zao l xs f (atM sz xs t (idx addr ((l + 1 : Nat) : Int))).ppn).2.2.1 (idx addr zao) q) s j = atM sz xs s j := fun s j hj hs hn =>
          I4 s j hj hs (fun hh => hn (by rw [hh.1]; exact znu _ _ _ _)) (fun hh => hn (chin s hh))
        generalize zbg sz (dnN sz cd addr zao l xs f (atM sz xs t (idx addr ((l + 1 : Nat) : Int))).ppn).1 (dnN sz cd addr zao l xs f (atM sz xs t (idx addr ((l + 1 : Nat) : Int))).ppn).2.2.1 (idx addr zao) q = zs at *
        refine .inl ⟨I1, ?_, by omega, fun s j hj hs hn hc => out s j hj hs fun hh => hc ⟨l, rfl, e1, hh⟩⟩
        refine zgx h ht hl hi (fun s => s ∈ frN sz xs l (atM sz xs t (idx addr ((l + 1 : Nat) : Int))).ppn) ?_ (fun s j hj hs _ hn => out s j hj hs hn) htn ?_
        · rw [out t _ hi ht htn, zdc e1, I2]
        · intro m em j hj hne hlk g hg hin
          obtain rfl : m = l := by omega
          exact hne (zxv h hl (by omega) hj hi hlk e1 (.inr hns) hg hin)
      · exact .inr ⟨I1, by omega⟩
end
end Go.Proofs.YtomeaibdedaldaaGreatDoor.LnB
