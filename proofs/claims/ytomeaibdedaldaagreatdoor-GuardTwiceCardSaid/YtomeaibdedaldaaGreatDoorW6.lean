/- Texts of this claim, one behind the other: LmE, DelFC, ClonePage, LmF, LmG, LaI, LmH, LaJ, LmI, Open, Laid, LnA, LnC, LnB, LnD, LnF, LnG. -/
import Derived.Test.YtomeaibdedaldaaGreatDoorW5
import Derived.Test.YtomeaibdedaldaaGreatDoorW3
import Derived.Test.YtomeaibdedaldaaGreatDoorW1
import Derived.Test.YtomeaibdedaldaaGreatDoorW2
import Derived.Deep.MidRow
import Derived.Lib.SliceRun
import Derived.Test.YtomeaibdedaldaaGreatDoorW4
import Derived.ProofKit
import Derived.Carry
import Derived.ChangeOld
import Derived.ChangeArms
import Derived.WideShapes
import Derived.Test.YtomeaibdedaldaaGreatDoorRows
import Derived.LaidMore
import Derived.Lib.LaidTab
import Derived.SevenTiedAt
import Derived.LaidHandle
import Derived.Deep.SlicePairs
set_option linter.unusedVariables false
set_option linter.unusedSimpArgs false
set_option maxRecDepth 20000
set_option maxHeartbeats 4000000
namespace Go.Proofs.YtomeaibdedaldaaGreatDoor
namespace LmE
open Go.RowKit Bv VaSpec Base MemL RegR Ax MemC MemC3 TzC OkS SpA SpB SpC SpD SpE SpN SpO SpH LaA LaB LaC LaD LaE LaF LaG LiA LiB LiC LiE LrA LrB LjA LjF LkE LmA LmB
open PteSpec
def prM (sz : Int) (T : List (Int × Int) × Int × (Int × Int) × Int) (a : Int) (p : Pm) : List (Int × Int) :=
 if zas (atM sz T.1 T.2.2.1.1 (idx a T.2.2.1.2)) then zml sz T.1 T.2.2.1.1 (idx a T.2.2.1.2) p
 else zlt sz (T.2.2.1.2 - 1).toNat (atM sz T.1 T.2.2.1.1 (idx a T.2.2.1.2)).ppn p (za7 sz T.1 (T.2.2.1.2 - 1).toNat (atM sz T.1 T.2.2.1.1 (idx a T.2.2.1.2)).ppn a) T.1
def prK (k : Kr) (id a : Int) (p : Pm) (T : List (Int × Int) × Int × (Int × Int) × Int) : Kr := zda { k with m := prM k.sz T a p, pf := T.2.1 } (zgv k id (zdf (zax k.sz T.1 T.2.2.1.2 (atM k.sz T.1 T.2.2.1.1 (idx a T.2.2.1.2)) a) p))
def prR (k : Kr) (id a l : Int) (p : Pm) : Kr × Int :=
 if (zal k id a l).2.2 ≠ 0 then (k, (zal k id a l).2.2)
 else if zcb p = false then (k, 5)
 else if (inR k id a l).length = 0 then (k, 7)
 else if (unT k (zal k id a l).1 (zal k id a l).2.1 a l).2.2.2 ≠ 0 then (k, (unT k (zal k id a l).1 (zal k id a l).2.1 a l).2.2.2)
 else (prK k id a p (unT k (zal k id a l).1 (zal k id a l).2.1 a l), 0)
section
variable {cd cp sz sh : Int}
theorem zva (addr zam top : Int) (l : Nat) (hw : 0 ≤ zam) (hwl : zam ≤ (l : Int)) (hl2 : l ≤ 2) : ∀ (n : Nat) (xs : List (Int × Int)) (f : Int) (lv : Int → Int), TI cd cp sz xs f sh lv → Al cd cp f top → Al cd cp f sh → lv top = l →
 (zas (atM sz xs (zao sz xs addr zam l top).1 (idx addr (zao sz xs addr zam l top).2)) = true ∨ lkP (atM sz xs (zao sz xs addr zam l top).1 (idx addr (zao sz xs addr zam l top).2)) = true) →
 (toN sz cd addr zam top l n xs f).2.2.2 = 0 → zas (atM sz (toN sz cd addr zam top l n xs f).1 (toN sz cd addr zam top l n xs f).2.2.1.1 (idx addr (toN sz cd addr zam top l n xs f).2.2.1.2)) = true ∨ lkP (atM sz (toN sz cd addr zam top l n xs f).1 (toN sz cd addr zam top l n xs f).2.2.1.1 (idx addr (toN sz cd addr zam top l n xs f).2.2.1.2)) = true
 | 0, xs, f, lv, h, ht, _, hl, hor, _ => hor
 | n + 1, xs, f, lv, h, ht, hsh, hl, hor, he => by
  obtain ⟨l', t', i1, i2, i3, i4, i5, i6, i7⟩ := zci h addr zam hw l top ht hl hwl; rw [i1] at hor; unfold toN at he ⊢; rw [i1] at he ⊢; by_cases c1 : (l' : Int) = zam ∨ zas (atM sz xs t' (idx addr (l' : Int))) = false
  · rw [if_pos c1]; exact hor
  · rw [if_neg c1] at he ⊢; have c2 : ¬ (l' : Int) = zam := fun e => c1 (.inl e); have hlf : zas (atM sz xs t' (idx addr (l' : Int))) = true := by
     cases e : zas (atM sz xs t' (idx addr (l' : Int))) with
     | true => rfl
     | false => exact absurd (.inr e) c1
    by_cases c4 : f = 0
    · rw [if_pos c4] at he; cases he
    · rw [if_neg c4] at he ⊢; obtain ⟨m, rfl⟩ : ∃ m : Nat, l' = m + 1 := ⟨l' - 1, by omega⟩; have hi := idx_bd addr ((m + 1 : Nat) : Int); have hbad : zco (atM sz xs t' (idx addr ((m + 1 : Nat) : Int))) ((m + 1 : Nat) : Int) = false := by
       rcases h.e.k t' _ hi with e | ⟨_, _, ⟨_, e⟩ | ⟨e, _⟩⟩
       · rw [e] at hlf; cases hlf
       · rw [i5] at e; exact e
       · rw [(za8 e).2.2] at hlf; cases hlf
      obtain ⟨a0, a1, a2, a3⟩ := zch h c4; have hT := zkt h c4 i4 hsh hi i5 (by omega) rfl hlf hbad; obtain ⟨s1, s2⟩ := zh2 h c4 addr zam hw i4 i5 (by omega) (by omega) hlf hbad; have hre := (i7 _ s1).trans s2; have hat := zks h c4 i4 hi (l := ((m + 1 : Nat) : Int)) (by omega) rfl hlf hbad (cd + tzI f) (idx addr (m : Int)) (idx_bd addr _); rw [if_neg (by rintro ⟨e, _⟩; exact (a0 _ i4).2 e.symm), if_pos rfl] at hat
      refine zva addr zam top l hw hwl hl2 n _ _ _ hT (a0 _ ht).1 (a0 _ hsh).1 ((if_neg (a0 _ ht).2).trans hl) (.inl ?_) he; show zas (atM sz (zfk sz xs t' (idx addr ((m + 1 : Nat) : Int)) ((m + 1 : Nat) : Int) (atM sz xs t' (idx addr ((m + 1 : Nat) : Int))) (cd + tzI f)) (zao sz (zfk sz xs t' (idx addr ((m + 1 : Nat) : Int)) ((m + 1 : Nat) : Int) (atM sz xs t' (idx addr ((m + 1 : Nat) : Int))) (cd + tzI f)) addr zam l top).1 (idx addr (zao sz (zfk sz xs t' (idx addr ((m + 1 : Nat) : Int)) ((m + 1 : Nat) : Int) (atM sz xs t' (idx addr ((m + 1 : Nat) : Int))) (cd + tzI f)) addr zam l top).2)) = true; rw [hre]; show zas (atM sz (zfk sz xs t' (idx addr ((m + 1 : Nat) : Int)) ((m + 1 : Nat) : Int) (atM sz xs t' (idx addr ((m + 1 : Nat) : Int))) (cd + tzI f)) (cd + tzI f) (idx addr (m : Int))) = true; rw [hat]; exact hlf
end
theorem zvb {n : Nat} {k : Kr} {id a l : Int} (h : InvT n k) (c0 : (zal k id a l).2.2 = 0) (c1 : (inR k id a l).length ≠ 0) :
 zas (atM k.sz k.m (za0 k.sz k.m a l (zal k id a l).2.1 (zal k id a l).1).1 (idx a (za0 k.sz k.m a l (zal k id a l).2.1 (zal k id a l).1).2)) = true ∨ lkP (atM k.sz k.m (za0 k.sz k.m a l (zal k id a l).2.1 (zal k id a l).1).1 (idx a (za0 k.sz k.m a l (zal k id a l).2.1 (zal k id a l).1).2)) = true := by
 obtain ⟨lv, hT, _, _⟩ := h.t; unfold inR at c1; rw [if_neg (by omega)] at c1; unfold zax at c1; generalize za0 k.sz k.m a l (zal k id a l).2.1 (zal k id a l).1 = r at *; cases e1 : zas (atM k.sz k.m r.1 (idx a r.2)) with
 | true => exact .inl rfl
 | false =>
  rw [e1, if_neg (by simp)] at c1; cases e2 : zbf (atM k.sz k.m r.1 (idx a r.2)) with
  | false => rw [e2, if_neg (by simp)] at c1; exact absurd rfl c1
  | true =>
   rcases hT.e.k r.1 _ (idx_bd a r.2) with e | ⟨_, _, ⟨e, _⟩ | ⟨e, _⟩⟩
   · rw [e] at e2; cases e2
   · rw [e1] at e; cases e
   · exact .inr e
theorem zk4 {a : Int} {m : Nat} (h2 : m ≤ 1) (h : m39 a % VaSpec.sz ((m + 1 : Nat) : Int) = 0) : m39 a % (512 * VaSpec.sz (m : Int)) = 0 := by
 have := zhe (l := ((m + 1 : Nat) : Int)) (by omega); rw [show ((m + 1 : Nat) : Int) - 1 = (m : Int) by omega] at this; rw [← this]; exact h
theorem zyq {cd cp sz f sh : Int} {xs : List (Int × Int)} {lv : Int → Int} (h : TI cd cp sz xs f sh lv) {t a : Int} {l' : Nat} {e : Int} {p : Pm} (hp : zcb p = true) (l2 : l' ≤ 2) (hlv : lv t = (l' : Int)) (hm : m39 a % VaSpec.sz (l' : Int) = 0)
 (hor : zas (atM sz xs t (idx a (l' : Int))) = true ∨ lkP (atM sz xs t (idx a (l' : Int))) = true) : TI cd cp sz (prM sz (xs, f, (t, (l' : Int)), e) a p) f sh lv ∧ (prM sz (xs, f, (t, (l' : Int)), e) a p).length ≤ xs.length := by
 have hi := idx_bd a (l' : Int); unfold prM; show TI cd cp sz (if zas (atM sz xs t (idx a (l' : Int))) then zml sz xs t (idx a (l' : Int)) p else zlt sz ((l' : Int) - 1).toNat (atM sz xs t (idx a (l' : Int))).ppn p (za7 sz xs ((l' : Int) - 1).toNat (atM sz xs t (idx a (l' : Int))).ppn a) xs) f sh lv ∧ (if zas (atM sz xs t (idx a (l' : Int))) then zml sz xs t (idx a (l' : Int)) p else zlt sz ((l' : Int) - 1).toNat (atM sz xs t (idx a (l' : Int))).ppn p (za7 sz xs ((l' : Int) - 1).toNat (atM sz xs t (idx a (l' : Int))).ppn a) xs).length ≤ xs.length; rcases hor with h1 | h1
 · rw [if_pos h1]; obtain ⟨r1, _, r3⟩ := zir h hi h1 hp; exact ⟨r1, r3⟩
 · rw [if_neg (by rw [(za8 h1).2.2]; simp)]
   obtain ⟨_, k2, k3, k4⟩ := zb5 h hi h1; obtain ⟨m, rfl⟩ : ∃ m : Nat, l' = m + 1 := ⟨l' - 1, by omega⟩; rw [show (((m + 1 : Nat) : Int) - 1).toNat = m by omega]; have g := zsc h hp m (atM sz xs t (idx a ((m + 1 : Nat) : Int))).ppn a (by omega) k4 (by rw [k3, hlv]; omega) (zk4 (by omega) hm) (za7 sz xs m (atM sz xs t (idx a ((m + 1 : Nat) : Int))).ppn a) (fun y hy => hy) xs ⟨h, Shp.refl _ _ _, Nat.le_refl _⟩
   exact ⟨g.t, g.n⟩
theorem zto {n : Nat} {k : Kr} {id a l : Int} {p : Pm} (h : InvT n k) : InvT (n + 1100) (prR k id a l p).1 := by
 have hm : InvT (n + 1100) k := ⟨{ h.l with ml := by have := h.l.ml; omega, fl := by have := h.l.fl; omega }, h.t⟩
 unfold prR
 split
 · exact hm
 · rename_i c0
   split
   · exact hm
   · rename_i cp; have hp : zcb p = true := by simpa using cp
     split
     · exact hm
     · rename_i c1
       split
       · exact hm
       · rename_i c5; have c0' : (zal k id a l).2.2 = 0 := by omega
         have c5' : (unT k (zal k id a l).1 (zal k id a l).2.1 a l).2.2.2 = 0 := by omega
         have hlev := zp2 h c0' c1 c5'; have hlf := zvb h c0' c1; have hfm := zdp c0'; obtain ⟨lv, hT, hs, hr⟩ := h.t; obtain ⟨w1, w2, w3, w4⟩ := zbd (id := id) (a := a) (l := l) h.l c0'; obtain ⟨z1, z2⟩ := h.top (a := a) (id := id) (l := l) c0' hs hr; have hbm := zgs w1 hfm; generalize zal k id a l = w at *; obtain ⟨lv', P⟩ := zls a l w.1 w.2.1.toNat w1.1 (by omega) (by omega) w.2.1.toNat k.m k.pf lv hT w2 h.l.sh (by omega); have hto := zva a l w.1 w.2.1.toNat w1.1 (by omega) (by omega) w.2.1.toNat k.m k.pf lv hT w2 h.l.sh (by omega) hlf c5'; show InvT (n + 1100) (prK k id a p (unT k w.1 w.2.1 a l)); have P : ToP k.cd k.cp k.sz k.pf k.sh a l w.1 w.2.1.toNat k.m lv w.2.1.toNat (unT k w.1 w.2.1 a l) lv' := P; have hto : zas (atM k.sz (unT k w.1 w.2.1 a l).1 (unT k w.1 w.2.1 a l).2.2.1.1 (idx a (unT k w.1 w.2.1 a l).2.2.1.2)) = true ∨ lkP (atM k.sz (unT k w.1 w.2.1 a l).1 (unT k w.1 w.2.1 a l).2.2.1.1 (idx a (unT k w.1 w.2.1 a l).2.2.1.2)) = true := hto; generalize unT k w.1 w.2.1 a l = T at *; obtain ⟨xs, f, ⟨t, lt⟩, e⟩ := T; obtain ⟨l', e1, e2, e3, e4, e5⟩ := P.p; have e1 : lt = (l' : Int) := e1; subst e1; have hll : (l' : Int) = l := hlev; have hPt : TI k.cd k.cp k.sz xs f k.sh lv' := P.t; have ash := P.a _ h.l.sh; obtain ⟨q1, q2⟩ := zyq (t := t) (e := e) hPt hp (by omega) e5 (by rw [hll]; exact hbm) hto
         have hroot : ∀ s ∈ k.ss, s.live = true → lv' s.root = 2 ∧ Al k.cd k.cp f s.root := fun s hs' hl => by
          have a1 := P.a _ (h.l.ss s hs' hl); exact ⟨a1.2.trans (hr s hs' hl), a1.1⟩
         have hPn : xs.length ≤ k.m.length + 513 * w.2.1.toNat := P.n; have hml := h.l.ml; have hfl := h.l.fl; refine ⟨{ g := q1.gm, cs := h.l.cs, pb := h.l.pb, pm := h.l.pm, sh := ash.1, ts := h.l.ts, ml := ?_, fl := ?_, sl := h.l.sl, ss := fun s hs' hl => (hroot s hs' hl).2 }, lv', q1, ash.2.trans hs, fun s hs' hl => (hroot s hs' hl).1⟩
         · show (prM k.sz (xs, f, (t, (l' : Int)), e) a p).length ≤ n + 1100; omega
         · have := zjg k id (zdf (zax k.sz xs (l' : Int) (atM k.sz xs t (idx a (l' : Int))) a) p); show (k.fs ++ zgv k id (zdf (zax k.sz xs (l' : Int) (atM k.sz xs t (idx a (l' : Int))) a) p)).length ≤ n + 1100; rw [List.length_append]; omega
end LmE
namespace DelFC
open Go.RowKit Bv Base MemL LaC
def pgV (y : Pg) : Value := .agg #[.int .u64 y.va, .int .u64 y.pa, .int .i64 y.lev, .bool y.r, .bool y.w, .bool y.x, .bool y.u, .bool y.d]
def fI (q : Pg → Bool) : List Pg → Nat → Int
 | [], _ => -1
 | y :: l, i => if q y then (i : Int) else fI q l (i + 1)
theorem z8s {q : Pg → Bool} {l : List Pg} {k : Nat} {y : Pg} (h : l[k]? = some y) : fI q (l.drop k) k = if q y then (k : Int) else fI q (l.drop (k + 1)) (k + 1) := by
 obtain ⟨hk, e⟩ := List.getElem?_eq_some_iff.1 h; rw [List.drop_eq_getElem_cons hk, e]
 rfl
theorem zn3 : ∀ (l : List Pg) (i j : Nat) (y : Pg), l[i]? = some y → j < 8 → (flP l)[i * 8 + j]? = y.vs[j]?
 | [], i, j, y, h, _ => by simp at h
 | x :: l, 0, j, y, h, hj => by
  simp at h; subst h; show (x.vs ++ flP l)[0 * 8 + j]? = _; rw [Nat.zero_mul, Nat.zero_add, List.getElem?_append_left (by show j < 8; exact hj)]
 | x :: l, i + 1, j, y, h, hj => by
  have := zn3 l i j y (by simpa using h) hj; show (x.vs ++ flP l)[(i + 1) * 8 + j]? = _; rw [List.getElem?_append_right (by show 8 ≤ _; omega), show (i + 1) * 8 + j - x.vs.length = i * 8 + j by show (i + 1) * 8 + j - 8 = _; omega]
  exact this
def z4y (base : Nat) (W : World) (k : FuncId) (lb : Array Value) (q : Pg → Bool) : Prop := ∀ w y, Below base W w → Calls Tryz.prog k (#[pgV y] ++ lb) w fun e w' => e = .returned (.bool (q y)) ∧ Below w.heap.size w w'
theorem zi3 {P : Program} (w : World) {ops : Array Oper} {rest : List Oper} {o : Oper} {a : Act} {Q : Exit → Act → World → Prop} (hg : o.guard = none) (hd : o.dst = none) (ty : TypeId) (x y : Operand) (hop : o.op = .store ty x y) (b off : Nat) (cells : Array Value)
 (hx : a.eval x = .pointer (some ⟨b, off, none⟩)) (hy : a.eval y = .agg cells) (ht : w.there b off cells.size) (hi : (P.info? ty).map (·.size) = some cells.size) (h1 : cells.all (·.oneCell') = true) (h : wpList P ops Q rest a (w.setCells b off cells.toList)) : wpList P ops Q (o :: rest) a w := by
 refine wpList_plain hg fun K hK => ?_; unfold Oper.wp; have hr := run_storeVar_mid (P := P) w b off ty cells ht hi h1; simp [execOp, hop, hx, hy, Instr.storeAt, Instr.sureAddr, hr, Result.andThen]; refine hK _ _ ?_; rw [hd]; exact h
set_option maxHeartbeats 4000000 in
set_option maxRecDepth 1000000 in
theorem idx_calls (base : Nat) (W : World) (hB : base ≤ W.heap.size) (k : FuncId) (lb : Array Value) (q : Pg → Bool) (hk : ∀ args w, (callFunc k args).run Tryz.prog w = .ok (.enter k args) w) (hq : z4y base W k lb q) (g o n cap : Nat) (l : List Pg) (hn : l.length = n) (hmax : n ≤ 9223372036854775807)
 (hg : g < W.heap.size) (hc : ∀ t, t < n * 8 → W.cell? ⟨g, o + t, none⟩ = (flP l)[t]?) :
 Calls Tryz.prog 155 #[.slice (some ⟨g, o, none⟩) n cap, .func (.func k) #[] lb] W fun e w' => e = .returned (.int .i64 (fI q l 0)) ∧ Below W.heap.size W w' := by
 have HQ := Lib.hid hq; have HC := Lib.hid hc; have HN := Lib.hid hn; clear hq hc hn
 go_enter Tryz.func155, Tryz.ntmps155
 go_wp2
 go_loopw [8] (fun i wr => ∃ j : Nat, j ≤ n ∧ i = .int .i64 j ∧ fI q (l.drop j) j = fI q l 0 ∧ Below W.heap.size W wr) (fun i _ => n - (intOf i).toNat)
 case atStart => exact ⟨0, by omega, rfl, rfl, Below.refl _ _⟩
 case round =>
  obtain ⟨j, hj, rfl, hf, br⟩ := hrel; obtain ⟨cr, _⟩ := zo2 br; by_cases hlt : j < n
  · obtain ⟨y, hy⟩ : ∃ y, l[j]? = some y := ⟨_, List.getElem?_eq_getElem (by rw [HN.out]; exact hlt)⟩
    have hfl := z8s (q := q) hy; rw [hf] at hfl; have cl : ∀ t, t < 8 → wr.cell? ⟨g, o + j * 8 + t, none⟩ = y.vs[t]? := fun t ht => by rw [cr _ _ hg, Nat.add_assoc, HC.out _ (by omega), zn3 l j t y hy ht]
    have r0 : wr.cell? ⟨g, o + j * 8, none⟩ = some (.int .u64 y.va) := cl 0 (by omega); have r1 : wr.cell? ⟨g, o + j * 8 + 1, none⟩ = some (.int .u64 y.pa) := cl 1 (by omega); have r2 : wr.cell? ⟨g, o + j * 8 + 2, none⟩ = some (.int .i64 y.lev) := cl 2 (by omega); have r3 : wr.cell? ⟨g, o + j * 8 + 3, none⟩ = some (.bool y.r) := cl 3 (by omega); have r4 : wr.cell? ⟨g, o + j * 8 + 4, none⟩ = some (.bool y.w) := cl 4 (by omega); have r5 : wr.cell? ⟨g, o + j * 8 + 5, none⟩ = some (.bool y.x) := cl 5 (by omega); have r6 : wr.cell? ⟨g, o + j * 8 + 6, none⟩ = some (.bool y.u) := cl 6 (by omega); have r7 : wr.cell? ⟨g, o + j * 8 + 7, none⟩ = some (.bool y.d) := cl 7 (by omega); have hcall := HQ.out wr y (br.mono hB); unfold pgV at hcall; have HF := Lib.hid hfl; have HL := Lib.hid hf; clear cr cl hfl hf hy; have hjz : (j : Int) < (n : Int) := by omega
    cases hb : q y with
    | true =>
     rw [hb] at hcall; have hR : fI q l 0 = (j : Int) := by rw [HF.out, hb]; rfl
     clear hb
     go_wp2_with fail
     refine hcall.mono ?_; rintro e w2 ⟨rfl, b2⟩
     go_wp2
     go_ret
     exact ⟨by rw [hR]; rfl, zav br b2⟩
    | false =>
     rw [hb] at hcall; have hR : fI q (l.drop (j + 1)) (j + 1) = fI q l 0 := by rw [HF.out, hb]; rfl
     clear hb
     go_wp2_with fail
     refine hcall.mono ?_; rintro e w2 ⟨rfl, b2⟩
     go_wp2
     exact ⟨⟨j + 1, by omega, by go_num, hR, zav br b2⟩, by simp [intOf]; omega⟩
  · obtain rfl : j = n := by omega
    have hjz : ¬ (j : Int) < (j : Int) := by omega
    have hR : fI q l 0 = -1 := by rw [← hf, List.drop_eq_nil_of_le (by rw [HN.out]; exact Nat.le_refl _)]; rfl
    go_wp2
    go_ret
    exact ⟨by first | (rw [hR]; rfl) | rfl, br⟩
set_option maxHeartbeats 4000000 in
theorem z4z (W : World) (fv : Value) : Calls Tryz.prog 155 #[.slice none 0 0, fv] W fun e w' => e = .returned (.int .i64 (-1)) ∧ Below W.heap.size W w' := by
 go_enter Tryz.func155, Tryz.ntmps155
 go_wp2
 go_loopw [8] (fun i wr => i = .int .i64 0 ∧ Below W.heap.size W wr) (fun i _ => 0)
 case atStart => exact ⟨rfl, Below.refl _ _⟩
 case round =>
  obtain ⟨rfl, br⟩ := hrel
  go_wp2
  go_ret
  exact ⟨rfl, br⟩
def keep (q : Pg → Bool) (l : List Pg) : List Pg := l.filter fun y => !q y
theorem zk5 {q : Pg → Bool} {l : List Pg} {j : Nat} {y : Pg} (h : l[j]? = some y) : keep q (l.take (j + 1)) = if q y then keep q (l.take j) else keep q (l.take j) ++ [y] := by
 unfold keep; rw [List.take_add_one, h, List.filter_append]; show _ ++ [y].filter _ = _; cases c : q y <;> simp [List.filter, c]
theorem zsd (l : List Pg) : (flP l).length = l.length * 8 := by
 induction l with
 | nil => rfl
 | cons y l ih => show (y.vs ++ flP l).length = _; rw [List.length_append, ih]; show 8 + _ = (l.length + 1) * 8; omega
theorem ztp : ∀ (l : List Pg) (j : Nat), flP (l.take j) = (flP l).take (j * 8)
 | [], j => by rw [List.take_nil]; show ([] : List Value) = List.take (j * 8) []; rw [List.take_nil]
 | y :: l, 0 => by rw [Nat.zero_mul, List.take_zero, List.take_zero]; rfl
 | y :: l, j + 1 => by
  show y.vs ++ flP (l.take j) = (y.vs ++ flP l).take ((j + 1) * 8); rw [ztp l j, List.take_append, show (j + 1) * 8 - y.vs.length = j * 8 by show (j + 1) * 8 - 8 = _; omega, show List.take ((j + 1) * 8) y.vs = y.vs from List.take_of_length_le (by show 8 ≤ (j + 1) * 8; omega)]
theorem zyr (cu : Array Value) (o : Nat) (vs : List Value) (h : o + vs.length ≤ cu.size) (t : Nat) : (MemL.zdj cu o vs)[t]? = if t < o then cu[t]? else if t < o + vs.length then vs[t - o]? else cu[t]? := by
 rw [← Array.getElem?_toList, zcc vs cu o h]; have e9 : (cu.toList.take o).length = o := by rw [List.length_take, Array.length_toList]; omega
 by_cases h1 : t < o
 · rw [if_pos h1, List.append_assoc, List.getElem?_append_left (by rw [e9]; exact h1), List.getElem?_take_of_lt h1, Array.getElem?_toList]
 · rw [if_neg h1, List.append_assoc, List.getElem?_append_right (by rw [e9]; omega), e9]
   by_cases h2 : t < o + vs.length
   · rw [if_pos h2, List.getElem?_append_left (by omega)]
   · rw [if_neg h2, List.getElem?_append_right (by omega), List.getElem?_drop, Array.getElem?_toList, show o + vs.length + (t - o - vs.length) = t by omega]
structure DI (q : Pg → Bool) (l : List Pg) (n cap c j : Nat) (cu : Array Value) : Prop where
 sz : cu.size = cap * 8
 ct : c = (keep q (l.take j)).length
 lo : ∀ t, t < c * 8 → cu[t]? = (flP (keep q (l.take j)))[t]?
 hi : ∀ t, j * 8 ≤ t → t < n * 8 → cu[t]? = (flP l)[t]?
theorem DI.skip {q : Pg → Bool} {l : List Pg} {n cap c j : Nat} {cu : Array Value} (h : DI q l n cap c j cu) {y : Pg} (hy : l[j]? = some y) (hq : q y = true) : DI q l n cap c (j + 1) cu := by
 have hR : keep q (l.take (j + 1)) = keep q (l.take j) := by rw [zk5 hy, hq, if_pos rfl]
 exact ⟨h.sz, by rw [hR]; exact h.ct, by rw [hR]; exact h.lo, fun t h1 h2 => h.hi t (by omega) h2⟩
theorem DI.keep {q : Pg → Bool} {l : List Pg} {n cap c j : Nat} {cu : Array Value} (h : DI q l n cap c j cu) {y : Pg} (hy : l[j]? = some y) (hq : q y = false) (hcj : c < j) (hj : j < n) (hn : n ≤ cap) : DI q l n cap (c + 1) (j + 1) (MemL.zdj cu (c * 8) y.vs) := by
 have hR : DelFC.keep q (l.take (j + 1)) = DelFC.keep q (l.take j) ++ [y] := by rw [zk5 hy, hq, if_neg (by simp)]
 have hl8 : y.vs.length = 8 := rfl; have hkl : (flP (DelFC.keep q (l.take j))).length = c * 8 := by rw [zsd, ← h.ct]
 have hg := zyr cu (c * 8) y.vs (by rw [hl8, h.sz]; omega)
 rw [hl8] at hg; refine ⟨by rw [zb9]; exact h.sz, by rw [hR, List.length_append, ← h.ct]; rfl, fun t ht => ?_, fun t h1 h2 => ?_⟩
 · rw [hg, hR, zrj]; by_cases h1 : t < c * 8
   · rw [if_pos h1, List.getElem?_append_left (by rw [hkl]; exact h1)]
     exact h.lo t h1
   · rw [if_neg h1, if_pos (by omega), List.getElem?_append_right (by rw [hkl]; omega), hkl]
     show _ = (y.vs ++ [])[_]?; rw [List.append_nil]
 · rw [hg, if_neg (by omega), if_neg (by omega)]; exact h.hi t (by omega) h2
theorem zys (q : Pg → Bool) : ∀ (l : List Pg) (i : Nat), (fI q l i = -1 ∧ keep q l = l) ∨ ∃ k y, l[k]? = some y ∧ fI q l i = ((i + k : Nat) : Int) ∧ keep q (l.take k) = l.take k ∧ q y = true
 | [], i => .inl ⟨rfl, rfl⟩
 | y :: l, i => by
  unfold fI; cases c : q y with
  | true => exact .inr ⟨0, y, rfl, rfl, rfl, c⟩
  | false =>
   rcases zys q l (i + 1) with ⟨h1, h2⟩ | ⟨k, z, h1, h2, h3, h4⟩
   · refine .inl ⟨h1, ?_⟩; show (y :: l).filter _ = _; rw [List.filter_cons, if_pos (by simp [c])]; exact congrArg _ h2
   · refine .inr ⟨k + 1, z, by simpa using h1, ?_, ?_, h4⟩
     · show fI q l (i + 1) = _; rw [h2]; congr 1; omega
     · show (y :: l.take k).filter _ = _; rw [List.filter_cons, if_pos (by simp [c])]; exact congrArg _ h3
set_option maxHeartbeats 8000000 in
set_option maxRecDepth 1000000 in
theorem zyt (base : Nat) (W : World) (hB : base ≤ W.heap.size) (k : FuncId) (lb : Array Value) (q : Pg → Bool) (hk : ∀ args w, (callFunc k args).run Tryz.prog w = .ok (.enter k args) w) (hq : z4y base W k lb q) (v : Value) (n : Nat) (l : List Pg) (hn : l.length = n)
 (hown : W.ownsRow base 60 8 v n (flP l)) :
 Calls Tryz.prog 90 #[v, .func (.func k) #[] lb] W fun e w' => ∃ v', e = .returned v' ∧ w'.ownsRow base 60 8 v' (keep q l).length (flP (keep q l)) ∧ Below base W w' := by
 have hown0 := hown; obtain ⟨hl, hown⟩ := hown; rcases hown with ⟨rfl, h0⟩ | ⟨g, cap, cur, rfl, hbg, hh, hnc, hmax, hsz, htk⟩
 · obtain rfl : n = 0 := h0; obtain rfl := List.eq_nil_of_length_eq_zero hn
   go_enter Tryz.func90, Tryz.ntmps90
   go_wp2_with (go_at_call 155; refine (z4z _ _).mono ?_; rintro e w' ⟨rfl, b1⟩)
   go_ret
   exact ⟨_, rfl, ⟨rfl, .inl ⟨rfl, rfl⟩⟩, b1.mono hB⟩
 · have hgl : g < W.heap.size := Bx.lt ⟨_, hh⟩; have hcur : ∀ t, t < n * 8 → cur[t]? = (flP l)[t]? := fun t ht => by rw [← htk, List.getElem?_take_of_lt ht, Array.getElem?_toList]
   have hidx := idx_calls base W hB k lb q hk hq g 0 n cap l hn (by unfold maxLen at hmax; omega) hgl (fun t ht => by rw [Nat.zero_add, Bx.cell ⟨_, hh⟩]; exact hcur t ht)
   rcases zys q l 0 with ⟨e1, e2⟩ | ⟨k0, y0, e1, e2, e3, e4⟩
   · rw [e1] at hidx; have HO := Lib.hid hown0; have HE := Lib.hid e2; have HN := Lib.hid hn; clear hown0 e2 hh hsz htk hcur hl hn hq
     go_enter Tryz.func90, Tryz.ntmps90
     go_wp2_with (go_at_call 155; refine hidx.mono ?_; rintro e w' ⟨rfl, b1⟩)
     go_ret
     exact ⟨_, rfl, by rw [HE.out, HN.out]; exact PutC.zb0 HO.out b1, b1.mono hB⟩
   · rw [e2, Nat.zero_add] at hidx; have hk0 : k0 < n := by rw [← hn]; exact (List.getElem?_eq_some_iff.1 e1).1
     have hne1 : ((k0 : Int) == -1) = false := beq_eq_false_iff_ne.2 (by omega); have hs0 : keep q (l.take (k0 + 1)) = l.take k0 := by rw [zk5 e1, e4, if_pos rfl, e3]
     unfold maxLen at hmax; have HH := Lib.hid hh; have HC := Lib.hid hcur; have HZ := Lib.hid hsz; have HN := Lib.hid hn; have HQ := Lib.hid hq; have HS := Lib.hid hs0; clear hown0 hh hsz htk hcur hl hn hq e1 e2 e3 e4 hs0
     go_enter Tryz.func90, Tryz.ntmps90
     go_wp2_with (go_at_call 155; refine hidx.mono ?_; rintro e w0 ⟨rfl, b0⟩)
     go_loopw [5, 6, 7] (fun s5 s6 _ wr => ∃ (c j : Nat) (cu : Array Value), s5 = .int .i64 c ∧ s6 = .int .i64 j ∧ j ≤ n ∧ c < j ∧ Below base W wr ∧ Hid (wr.heap[g]? = some (.cells cu 60 (0, 0)) ∧ DI q l n cap c j cu)) (fun _ s6 _ _ => n - (intOf s6).toNat)
     case atStart =>
      have e5 : k0 = (keep q (l.take (k0 + 1))).length := by rw [HS.out, List.length_take, HN.out]; omega
      refine ⟨k0, k0 + 1, cur, rfl, by go_num, by omega, by omega, b0.mono hB, Lib.hid ⟨(b0.block g hgl).trans HH.out, HZ.out, e5, fun t ht => ?_, fun t _ h2 => HC.out t h2⟩⟩; rw [HS.out, ztp, List.getElem?_take_of_lt ht]; exact HC.out t (by omega)
     case round =>
      obtain ⟨c, j, cu, rfl, rfl, hj, hcj, br, HB⟩ := hrel; by_cases hlt : j < n
      · obtain ⟨y, hy⟩ : ∃ y, l[j]? = some y := ⟨_, List.getElem?_eq_getElem (by rw [HN.out]; exact hlt)⟩
        have cl : ∀ t, t < 8 → wr.cell? ⟨g, j * 8 + t, none⟩ = y.vs[t]? := fun t ht => by rw [Bx.cell ⟨_, HB.out.1⟩, HB.out.2.hi _ (by omega) (by omega), zn3 l j t y hy ht]
        have r0 : wr.cell? ⟨g, j * 8, none⟩ = some (.int .u64 y.va) := cl 0 (by omega); have r1 : wr.cell? ⟨g, j * 8 + 1, none⟩ = some (.int .u64 y.pa) := cl 1 (by omega); have r2 : wr.cell? ⟨g, j * 8 + 2, none⟩ = some (.int .i64 y.lev) := cl 2 (by omega); have r3 : wr.cell? ⟨g, j * 8 + 3, none⟩ = some (.bool y.r) := cl 3 (by omega); have r4 : wr.cell? ⟨g, j * 8 + 4, none⟩ = some (.bool y.w) := cl 4 (by omega); have r5 : wr.cell? ⟨g, j * 8 + 5, none⟩ = some (.bool y.x) := cl 5 (by omega); have r6 : wr.cell? ⟨g, j * 8 + 6, none⟩ = some (.bool y.u) := cl 6 (by omega); have r7 : wr.cell? ⟨g, j * 8 + 7, none⟩ = some (.bool y.d) := cl 7 (by omega); have HY := Lib.hid hy; clear cl hy; have hjz : (j : Int) < (n : Int) := by omega
        have bB := Nat.le_trans hB br.size
        go_wp2_with fail
        refine (HQ.out _ y (br.alloc bB _)).mono ?_; rintro e w2 ⟨rfl, b2⟩; have x7 : Bx w2 wr.heap.size _ := Bx.below (Bx.new (w := wr)) b2; have hx7 := Lib.hid x7; have xg : w2.heap[g]? = some (.cells cu 60 (0, 0)) := by
         have hlt : g < wr.heap.size := Bx.lt ⟨_, HB.out.1⟩; refine (b2.block g (by show g < (wr.heap.push _).size; rw [Array.size_push]; omega)).trans ?_
         show (wr.heap.push _)[g]? = _; rw [Array.getElem?_push, if_neg (by omega)]; exact HB.out.1
        have b3 : Below base W w2 := (br.alloc bB _).trans (b2.mono (by show base ≤ (wr.heap.push _).size; rw [Array.size_push]; omega))
        have s0 : w2.cell? ⟨wr.heap.size, 0, none⟩ = some (.int .u64 y.va) := x7.cell 0; have s1 : w2.cell? ⟨wr.heap.size, 1, none⟩ = some (.int .u64 y.pa) := x7.cell 1; have s2 : w2.cell? ⟨wr.heap.size, 2, none⟩ = some (.int .i64 y.lev) := x7.cell 2; have s3 : w2.cell? ⟨wr.heap.size, 3, none⟩ = some (.bool y.r) := x7.cell 3; have s4 : w2.cell? ⟨wr.heap.size, 4, none⟩ = some (.bool y.w) := x7.cell 4; have s5 : w2.cell? ⟨wr.heap.size, 5, none⟩ = some (.bool y.x) := x7.cell 5; have s6 : w2.cell? ⟨wr.heap.size, 6, none⟩ = some (.bool y.u) := x7.cell 6; have s7 : w2.cell? ⟨wr.heap.size, 7, none⟩ = some (.bool y.d) := x7.cell 7; have XG := Lib.hid xg; clear x7 xg r0 r1 r2 r3 r4 r5 r6 r7; cases hb : q y with
        | true =>
         have HD := Lib.hid (HB.out.2.skip HY.out hb); clear hb
         go_wp2
         exact ⟨⟨c, j + 1, cu, rfl, by go_num, by omega, by omega, b3, Lib.hid ⟨XG.out, HD.out⟩⟩, by simp [intOf]; omega⟩
        | false =>
         have HD := Lib.hid (HB.out.2.keep HY.out hb hcj hlt hnc); have hcn : (c : Int) < (n : Int) := by omega
         clear hb; have hth : w2.there g (c * 8) 8 := fun t ht => ⟨by rw [Bx.cell ⟨_, XG.out⟩, Array.getElem?_eq_getElem (by rw [HB.out.2.sz]; omega)]; rfl, Bx.free ⟨_, XG.out⟩ _⟩
         go_wp2_with (with_reducible refine zi3 w2 rfl rfl 60 (.tmp 33) (.tmp 32) rfl g (c * 8) #[.int .u64 y.va, .int .u64 y.pa, .int .i64 y.lev, .bool y.r, .bool y.w, .bool y.x, .bool y.u, .bool y.d] ?hs1 ?hs2 ?hs3 ?hs4 ?hs5 ?hs6)
         case hs1 => rfl
         case hs2 => rfl
         case hs3 => exact hth
         case hs4 => kernel_rfl
         case hs5 => kernel_rfl
         have hh2 := zbn (w := w2) y.vs (c * 8) w2 cu XG.out; have bb := zce hbg y.vs (c * 8) w2 b3; exact ⟨⟨c + 1, j + 1, MemL.zdj cu (c * 8) y.vs, by go_num, by go_num, by omega, by omega, bb, Lib.hid ⟨hh2, HD.out⟩⟩, by simp [intOf]; omega⟩
      · have hjz : ¬ (j : Int) < (n : Int) := by omega
        obtain ⟨HG, HD⟩ := HB.out; have HL : l.take j = l := List.take_of_length_le (by rw [HN.out]; omega)
        have hct := HD.ct; have hlo := HD.lo; rw [HL] at hct hlo; have hsz := HD.sz; have hicap : ¬ (cap = c) := by omega
        have hcn : c ≤ n := by omega
        have hcc : c ≤ cap := by omega
        have hcn2 : (c : Int) ≤ (n : Int) := by omega
        obtain ⟨zs, hzs⟩ : ∃ zs, zs = (Builtin.zeroCells (pgV ⟨0, 0, 0, false, false, false, false, false⟩).cells (n - c)).toList := ⟨_, rfl⟩; have hzl : zs.length = (n - c) * 8 := by rw [hzs]; simp [Builtin.zeroCells, Value.cells, pgV]
        have hcl : ∀ ty, (Builtin.clear_ #[52] ty #[.slice (some ⟨g, c * 8, none⟩) (n - c) (cap - c)]).run Tryz.prog wr = .ok (.tuple #[]) (wr.setCells g (c * 8) zs) := fun ty => by
         rw [hzs]; exact zhk wr _ 60 ty (pgV ⟨0, 0, 0, false, false, false, false, false⟩) 8 Tryz.underlying52 (fun _ => by kernel_rfl) rfl (by simp [Value.cells, Value.oneCell', pgV]) (by decide) g _ (n - c) _ (by omega)
          (fun t ht => by rw [Bx.cell ⟨_, HG⟩, Array.getElem?_eq_getElem (by rw [hsz]; omega)]; rfl) (fun t ht => Bx.free ⟨_, HG⟩ _)
        have hh2 := Lib.hid (zbn (w := wr) zs (c * 8) wr cu HG); have hb2 := Lib.hid (zce hbg zs (c * 8) wr br); have hps : (MemL.zdj cu (c * 8) zs).size = cap * 8 := by rw [zb9]; exact hsz
        have htk : (MemL.zdj cu (c * 8) zs).toList.take (c * 8) = flP (keep q l) := by
         rw [zcc zs cu (c * 8) (by rw [hzl, hsz]; omega), List.append_assoc, zg2 (by rw [List.length_take, Array.length_toList, hsz]; omega)]
         refine List.ext_getElem? fun t => ?_; by_cases ht : t < c * 8
         · rw [List.getElem?_take_of_lt ht, Array.getElem?_toList]; exact hlo t ht
         · rw [List.getElem?_eq_none (by rw [List.length_take]; omega), List.getElem?_eq_none (by rw [zsd, ← hct]; omega)]
        have HT := Lib.hid htk; have HP := Lib.hid hps; have HCT := Lib.hid hct; clear HG HD HL hct hlo hsz hzs hzl hps htk
        go_wp2
        go_ret
        refine ⟨_, rfl, ⟨by rw [zsd], .inr ⟨g, cap, _, by rw [← HCT.out]; rfl, hbg, hh2.out, by rw [← HCT.out]; exact hcc, by unfold maxLen; omega, HP.out, by rw [← HCT.out]; exact HT.out⟩⟩, hb2.out⟩
end DelFC
namespace ClonePage
open Go.RowKit Bv Base MemL
theorem info : (Tryz.prog.info? 60).map (fun i => (i.zero, i.size, i.bytes)) = some (some (.agg #[.int .u64 0, .int .u64 0, .int .i64 0, .bool false, .bool false, .bool false, .bool false, .bool false]), 8, 32) := by kernel_rfl
set_option maxHeartbeats 2000000 in
theorem clone_calls (v : Value) (n : Nat) (xs : List Value) (W : World) (h1 : ∀ u ∈ xs, u.oneCell' = true) (hbig : n * 32 ≤ 140737488355328) (hv : Sl W v n 8 xs) :
 Calls Tryz.prog 91 #[v] W fun e w' => ∃ v', e = .returned v' ∧ w'.ownsRow W.heap.size 60 8 v' n xs ∧ Below W.heap.size W w' := by
 obtain ⟨hl, hv⟩ := hv; have q : ∀ (w : World) (a : Option Addr) (n c n' c' : Nat), (binOp .eql 52 (.slice a n c) (.slice none n' c')).run Tryz.prog w = .ok (.bool a.isNone) w := fun w a n c n' c' => Lib.run_eql_slice_nil w _ _ a n c n' c' Tryz.underlying52; rcases hv with ⟨rfl, rfl⟩ | ⟨b, o, cap, rfl, hb, hcap, hmax, hcell⟩
 · obtain rfl := List.eq_nil_of_length_eq_zero (by omega : xs.length = 0)
   go_enter Tryz.func91, Tryz.ntmps91
   go_wp2
   go_ret
   exact ⟨_, rfl, ⟨rfl, .inl ⟨rfl, rfl⟩⟩, Below.refl _ _⟩
 · obtain ⟨i0, hi, hz0, hz1, hz2⟩ := info_parts info; have A := Lib.hid hcell; have hl' := Lib.hid hl; clear hcell hl
   go_enter Tryz.func91, Tryz.ntmps91
   go_wp2_with (at_builtin; refine wpList_append_own _ rfl _ _ 52 rfl W.heap.size 60 i0 (.agg #[.int .u64 0, .int .u64 0, .int .i64 0, .bool false, .bool false, .bool false, .bool false, .bool false]) 8 32 Tryz.underlying52 hi hz0 hz1 hz2 rfl (by decide) _ _ _ rfl (World.ownsRow_made W #[] 0 (Nat.le_refl _) (Nat.zero_le _) rfl) ⟨b, o, none⟩ n cap xs rfl ?qc1 ?qc2 ?qc3 ?qc4 ?qc5 ?qc6 ?_)
   case qc1 => exact hl'.out
   case qc2 =>
    intro j u hj; have hjn : j < n * 8 := by
     have := (List.getElem?_eq_some_iff.1 hj).1; have := hl'.out; omega
    rw [Addr.add_lit]; refine Lib.cell?_alloc_some _ ?_; rw [A.out j hjn]; exact hj
   case qc3 => exact h1
   case qc4 => unfold maxLen at *; omega
   case qc5 => omega
   case qc6 => simp
   intro v' w1 hown hgrow hnil
   go_wp2
   go_ret
   refine ⟨v', rfl, by simpa using hown, ?_⟩; exact ((Below.refl _ W).alloc (Nat.le_refl _) _).grown hgrow (by simp) (by intro k hk; simp [Value.ownBlock] at hk; omega)
end ClonePage
namespace LmF
open Go.RowKit Bv VaSpec Base MemL RegR Ax MemC PutC MemC3 OkS SpA SpB SpH SpI SpJ LaA LaB LaC LaD LaE LaG LiA LiB LiC LiE LmB DelFC
theorem owns_le {w : World} {b b' e k n : Nat} {v : Value} {xs : List Value} (h : w.ownsRow b' e k v n xs) (hb : b ≤ b') : w.ownsRow b e k v n xs := by
 obtain ⟨h1, h2⟩ := h; refine ⟨h1, ?_⟩; rcases h2 with h2 | ⟨g, cap, cur, e1, h3, r⟩
 · exact .inl h2
 · exact .inr ⟨g, cap, cur, e1, Nat.le_trans hb h3, r⟩
theorem z8t {P : Program} {k : FuncId} (hk : zb6 P k = true) (args : Array Value) (w : World) : (callFunc k args).run P w = .ok (.enter k args) w := by
 unfold zb6 at hk
 split at hk
 · rename_i fn hf; simp only [Bool.and_eq_true, Bool.not_eq_true'] at hk; obtain ⟨h1, h2⟩ := hk; have h2 : ¬ fn.name = "runtime.NumGoroutine" := by simpa using h2
   have h3 : ¬ fn.body = none := fun e => by rw [e] at h1; cases h1
   simp [callFunc, hf, h2, h3, mark]
 · cases hk
theorem zp3 (l : List Pg) (p : Pm) : keep (fun y => !zlu p (zhi y)) l = zdf l p := by
 unfold keep zdf
 congr 1
 funext y
 simp
theorem z40 (p : Pm) (base pb : Nat) (w1 : World) (hG : ∀ w, Below base w1 w → GG w) (hp : pb < base) (hc : ∀ w, Below base w1 w → pb < w.heap.size ∧ ∀ i, i < 4 → w.cell? ⟨pb, i, none⟩ = [Value.bool p.r, .bool p.w, .bool p.x, .bool p.u][i]?) :
 z4y base w1 92 #[.pointer (some ⟨pb, 0, none⟩)] (fun y => !zlu p (zhi y)) := fun w y hb => by
 obtain ⟨hlt, hcell⟩ := hc w hb; have h := (z1e p y).2.2 (fun _ => True) w (#[pgV y] ++ #[.pointer (some ⟨pb, 0, none⟩)]) (hG w hb) (show All2 (Cm.R (en0 (fun _ => True) w)) [.ag [cu y.va, cu y.pa, ci y.lev, cb y.r, cb y.w, cb y.x, cb y.u, cb y.d], .c (.q [.bool p.r, .bool p.w, .bool p.x, .bool p.u])] [pgV y, .pointer (some ⟨pb, 0, none⟩)] from ⟨⟨#[_, _, _, _, _, _, _, _], rfl, rfl, rfl, rfl, rfl, rfl, rfl, rfl, rfl, trivial⟩, ⟨pb, 0, rfl, hlt, trivial, fun i hi => by rw [Nat.zero_add]; exact hcell i hi⟩, trivial⟩)
 refine h.mono ?_; rintro e w' ⟨v, rfl, h1, h2⟩; obtain rfl : v = .bool (!zlu p (zhi y)) := h2; exact ⟨rfl, h1⟩
set_option maxHeartbeats 4000000 in
theorem zp4 (W : World) (v : Value) (l : List Pg) (p : Pm) (hG : GG W) (hl : l.length ≤ 134217728) (hv : Sl W v l.length 8 (flP l)) :
 Calls Tryz.prog 42 #[v, .agg #[.bool p.r, .bool p.w, .bool p.x, .bool p.u]] W fun e w' => ∃ v', e = .returned v' ∧ w'.ownsRow W.heap.size 60 8 v' (zdf l p).length (flP (zdf l p)) ∧ Below W.heap.size W w' := by
 have h1 : ∀ u ∈ flP l, u.oneCell' = true := fun u hu => by
  obtain ⟨y, _, hy⟩ := List.mem_flatMap.1 hu; simp only [Pg.vs, List.mem_cons, List.not_mem_nil, or_false] at hy; rcases hy with rfl | rfl | rfl | rfl | rfl | rfl | rfl | rfl <;> rfl
 have bA : Below W.heap.size W (W.alloc (.cells #[.bool p.r, .bool p.w, .bool p.x, .bool p.u] 49)) := (Below.refl _ W).alloc (Nat.le_refl _) _; have hvA := hv.below bA; have hxA : Bx (W.alloc (.cells #[.bool p.r, .bool p.w, .bool p.x, .bool p.u] 49)) W.heap.size #[.bool p.r, .bool p.w, .bool p.x, .bool p.u] := Bx.new; have hsA : (W.alloc (.cells #[.bool p.r, .bool p.w, .bool p.x, .bool p.u] 49)).heap.size = W.heap.size + 1 := by show (W.heap.push _).size = _; rw [Array.size_push]
 have hcl := ClonePage.clone_calls v l.length (flP l) _ h1 (by omega) hvA; have hkl := zp3 l p; obtain ⟨W1, hW1⟩ : ∃ W1, W1 = W.alloc (.cells #[.bool p.r, .bool p.w, .bool p.x, .bool p.u] 49) := ⟨_, rfl⟩; have HW := Lib.hid hW1; have key : ∀ w1 v1, w1.ownsRow W1.heap.size 60 8 v1 l.length (flP l) → Below W1.heap.size W1 w1 → Calls Tryz.prog 90 #[v1, .func (.func 92) #[] #[.pointer (some ⟨W.heap.size, 0, none⟩)]] w1 fun e w' => ∃ v', e = .returned v' ∧ w'.ownsRow W1.heap.size 60 8 v' (zdf l p).length (flP (zdf l p)) ∧ Below W1.heap.size w1 w' := by
  intro w1 v1 ho hb; have hB1 : ∀ w, Below W1.heap.size w1 w → Below W.heap.size W w := fun w hw => by
   have := hb.trans hw; rw [hW1] at this; exact bA.trans (this.mono (by rw [hsA]; omega))
  have := zyt W1.heap.size w1 hb.size 92 #[.pointer (some ⟨W.heap.size, 0, none⟩)] (fun y => !zlu p (zhi y)) (fun args w => z8t (by kernel_rfl) args w)
   (z40 p W1.heap.size W.heap.size w1 (fun w hw => GG.to _ _ hG (hB1 w hw)) (by rw [hW1, hsA]; omega) (fun w hw => by
    have hx : Bx w W.heap.size #[.bool p.r, .bool p.w, .bool p.x, .bool p.u] := by
     have h2 := hb.trans hw; rw [hW1] at h2; exact hxA.below h2
    exact ⟨hx.lt, fun i hi => by rw [hx.cell]; exact (Array.getElem?_toList ..).symm⟩)) v1 l.length l rfl ho
  rw [zp3] at this; exact this
 rw [← hW1] at hcl hsA hvA hxA bA; clear hW1
 go_enter Tryz.func42, Tryz.ntmps42
 go_wp2_with (first
  | (go_at_call 91; rw [← HW.out]; refine hcl.mono ?_; rintro e w1 ⟨v1, rfl, hown, b1⟩)
  | (go_at_call 90; refine (key _ _ hown b1).mono ?_; rintro e w2 ⟨v2, rfl, hown2, b2⟩))
 go_ret
 exact ⟨_, rfl, owns_le hown2 (by rw [hsA]; omega), bA.trans ((b1.trans b2).mono (by rw [hsA]; omega))⟩
theorem zp5 (l : List Pg) (p : Pm) (hl : l.length ≤ 134217728) : Ok 42 [.c (.s l.length 8 (flP l)), .ag [cb p.r, cb p.w, cb p.x, cb p.u]] (.m (.c (.s (zdf l p).length 8 (flP (zdf l p))))) :=
 zcd rfl fun A W vs hG hR => by
  obtain ⟨v1, v2, rfl, h1, h2⟩ := zwx hR; obtain ⟨vs2, rfl, h2⟩ := h2; obtain ⟨l2⟩ := vs2
  match l2, h2 with
  | [a, b, c, d], ⟨e1, e2, e3, e4, _⟩ =>
   obtain rfl : a = .bool p.r := e1; obtain rfl : b = .bool p.w := e2; obtain rfl : c = .bool p.x := e3; obtain rfl : d = .bool p.u := e4; refine (zp4 W v1 l p hG hl h1.1).mono ?_; rintro e w' ⟨v', rfl, h5, hb⟩; exact ⟨_, rfl, hb, zwg h5⟩
end LmF
namespace LmG
open Go.RowKit Bv VaSpec Base MemL RegR Ax MemC PutC OkS SpA SpB SpC SpF SpH SpI LaA LaB LaC LaD LaE LaG LiA LiB LiC LiE SpD SpE SpN SpO RlA RlB RlC LrA LrB LjA LjB LjC LjF LkD LkE LmA LmB LmC LmD LmE LmF
open PteSpec
attribute [local irreducible] Ax.zbr
theorem zc5 {n : Nat} {k : Kr} (h : InvT n k) (hn : n ≤ 88000) (id a l : Int) (p : Pm) (ha : U a) : Ok 38 [.ag k.ce, ii id, iu a, ii l, .ag [cb p.r, cb p.w, cb p.x, cb p.u]] (.tu [.ag (prR k id a l p).1.ce, ii (prR k id a l p).2]) := by
 have hw := zjd k id a l ha; have hin := z2i h (by omega) id a l ha; have hmay : Ok 59 [.ag [cb p.r, cb p.w, cb p.x, cb p.u]] (.m (ib (zcb p))) := zxk p; obtain ⟨R, hR⟩ : ∃ R, R = prR k id a l p := ⟨_, rfl⟩; rw [← hR]; unfold prR at hR; by_cases c0 : (zal k id a l).2.2 ≠ 0
 · rw [if_pos c0] at hR; generalize zal k id a l = w at *; subst hR; refine zad 89 Tryz.func38 rfl rfl rfl rfl ?_ GG.to; intro W A hG
   repeat (first | (refine zai rfl ?_; first | refine zaj ?_ | refine gdr (zaa rfl rfl rfl (hw) (by kernel_rfl)) ?_) | (refine hK _ ?_; clear hK K) | refine zac rfl ?_ | exact zah (show zat _ _ _ = some _ by kernel_rfl) | refine zaf rfl rfl ?_ | refine zag ?_ | refine zab (fun K hK => ?_))
 rw [if_neg c0] at hR; replace c0 : (zal k id a l).2.2 = 0 := by omega
 obtain ⟨lv, hT, hs, hr⟩ := h.t; obtain ⟨w1, w2, w3, w4⟩ := zbd (id := id) (a := a) (l := l) h.l c0; obtain ⟨z1, z2⟩ := h.top (a := a) (id := id) (l := l) c0 hs hr; have hlive : id = -1 ∨ (id ≠ -1 ∧ za4 k id = true) := by
  rcases zd5 h.l c0 with ⟨_, _, e⟩ | ⟨e1, e2, _⟩
  · exact .inl e
  · exact .inr ⟨e2, e1⟩
 have hlev := zp2 h c0; have hlf := zvb h c0; have hfb0 := zk0 (zdp c0); have hbm := zgs w1 (zdp c0); rw [c0] at hw; generalize (zal k id a l).1 = top at *; generalize (zal k id a l).2.1 = lw at *; have b1 := hT.bd; have b2 := hT.bp; have bt := w2.1; have hml := h.l.ml; have hfl := h.l.fl; have hpb := h.l.pb; have hpm := h.l.pm; by_cases cp : zcb p = false
 · rw [if_pos cp] at hR; rw [cp] at hmay; subst hR; refine zad 89 Tryz.func38 rfl rfl rfl rfl ?_ GG.to; intro W A hG
   repeat (first | (refine zai rfl ?_; first | refine zaj ?_ | refine gdr (zaa rfl rfl rfl (hw) (by kernel_rfl)) ?_ | refine gdr (zaa rfl rfl rfl (hmay) (by kernel_rfl)) ?_) | (refine hK _ ?_; clear hK K) | refine zac rfl ?_ | exact zah (show zat _ _ _ = some _ by kernel_rfl) | refine zaf rfl rfl ?_ | refine zae rfl rfl ?_ | refine zag ?_ | refine zab (fun K hK => ?_))
 rw [if_neg cp] at hR; replace cp : zcb p = true := by simpa using cp
 rw [cp] at hmay; by_cases c1 : (inR k id a l).length = 0
 · rw [if_pos c1] at hR; rw [List.length_eq_zero_iff.1 c1] at hin; clear c1; subst hR; refine zad 89 Tryz.func38 rfl rfl rfl rfl ?_ GG.to; intro W A hG
   repeat (first | (refine zai rfl ?_; first | refine zaj ?_ | refine gdr (zaa rfl rfl rfl (hw) (by kernel_rfl)) ?_ | refine gdr (zaa rfl rfl rfl (hmay) (by kernel_rfl)) ?_ | refine gdr (zaa rfl rfl rfl (hin) (by kernel_rfl)) ?_) | (refine hK _ ?_; clear hK K) | refine zac rfl ?_ | exact zah (show zat _ _ _ = some _ by kernel_rfl) | refine zaf rfl rfl ?_ | refine zae rfl rfl ?_ | refine zag ?_ | refine zab (fun K hK => ?_))
 rw [if_neg c1] at hR; replace hlev := hlev c1; replace hlf := hlf c1; generalize inR k id a l = IL at *; obtain ⟨m, rfl⟩ := Int.eq_ofNat_of_zero_le (show 0 ≤ lw by omega); unfold za0 at hlf; rw [Int.toNat_natCast] at hlf; have hto := z64 top a l m k.m k.pf lv hT w2 h.l.sh z1 ha (by omega) w1.1 w3 (by omega) _ rfl; have htl := zva a l top m w1.1 w3 (by omega) m k.m k.pf lv hT w2 h.l.sh z1 hlf; obtain ⟨lv', P⟩ := zls a l top m w1.1 w3 (by omega) m k.m k.pf lv hT w2 h.l.sh z1; unfold unT at hR hlev; rw [Int.toNat_natCast] at hR hlev; generalize toN k.sz k.cd a l top m m k.m k.pf = T at *; obtain ⟨xs, f, ⟨t, lt⟩, e⟩ := T; obtain ⟨l', e1, e2, e3, e4, e5⟩ := P.p; replace e1 : lt = (l' : Int) := e1; subst e1; have y4 : Al k.cd k.cp f t := e4; have y5 : lv' t = (l' : Int) := e5; by_cases c5 : e ≠ 0
 · rw [if_pos c5] at hR; rw [if_neg (show ¬ (xs, f, (t, (l' : Int)), e).2.2.2 = 0 from c5)] at hto; replace hto : Ok 74 [zbm k.sz k.m, .ag [cu k.cd, ci k.cp, cu k.pf], iu top, ii m, iu a, ii l] (.tu [zbm k.sz k.m, .ag [cu k.cd, ci k.cp, cu k.pf], .ag (zbq 0 0 zP), ii e]) := hto; rw [← hpb, ← hpm] at hto; replace hR : R = (k, e) := hR; subst hR; refine zad 89 Tryz.func38 rfl rfl rfl rfl ?_ GG.to; intro W A hG
   repeat (first | (refine zai rfl ?_; first | refine zaj ?_ | refine gdr (zaa rfl rfl rfl (hw) (by kernel_rfl)) ?_ | refine gdr (zaa rfl rfl rfl (hmay) (by kernel_rfl)) ?_ | refine gdr (zaa rfl rfl rfl (hin) (by kernel_rfl)) ?_ | refine gdr (zaa rfl rfl rfl (hto) (by kernel_rfl)) ?_) | (refine hK _ ?_; clear hK K) | refine zac rfl ?_ | exact zah (show zat _ _ _ = some _ by kernel_rfl) | refine zaf rfl rfl ?_ | refine zae rfl rfl ?_ | refine zag ?_ | refine zak ?_ | refine zab (fun K hK => ?_))
 rw [if_neg c5] at hR; obtain rfl : e = 0 := by omega
 have hll : (l' : Int) = l := hlev rfl; replace htl : zas (atM k.sz xs t (idx a (l' : Int))) = true ∨ lkP (atM k.sz xs t (idx a (l' : Int))) = true := htl rfl; clear hlev hlf; rw [if_pos (show (xs, f, (t, (l' : Int)), (0 : Int)).2.2.2 = 0 from rfl)] at hto; replace hto : Ok 74 [zbm k.sz k.m, .ag [cu k.cd, ci k.cp, cu k.pf], iu top, ii m, iu a, ii l] (.tu [zbm k.sz xs, .ag [cu k.cd, ci k.cp, cu f], .ag (zbq t (l' : Int) (atM k.sz xs t (idx a (l' : Int)))), ii 0]) := hto; have hPt : TI k.cd k.cp k.sz xs f k.sh lv' := P.t; have hi := idx_bd a (l' : Int); have hxl : xs.length ≤ k.m.length + 513 * m := P.n; have hqp := zdo (xs := xs) k.sz t (idx a (l' : Int)); have hbl : VaSpec.base a (l' : Int) = a := by rw [hll]; exact hfb0
 have hub := zn2 k.sz xs (l' : Int) (atM k.sz xs t (idx a (l' : Int))) a ha (by omega); replace hR : R = (zda { k with m := prM k.sz (xs, f, (t, (l' : Int)), (0 : Int)) a p, pf := f } (zgv k id (zdf (zax k.sz xs (l' : Int) (atM k.sz xs t (idx a (l' : Int))) a) p)), 0) := hR; have hpr : prM k.sz (xs, f, (t, (l' : Int)), (0 : Int)) a p = if zas (atM k.sz xs t (idx a (l' : Int))) then zml k.sz xs t (idx a (l' : Int)) p else zlt k.sz ((l' : Int) - 1).toNat (atM k.sz xs t (idx a (l' : Int))).ppn p (za7 k.sz xs ((l' : Int) - 1).toNat (atM k.sz xs t (idx a (l' : Int))).ppn a) xs := rfl; have hls := zp5 (zax k.sz xs (l' : Int) (atM k.sz xs t (idx a (l' : Int))) a) p (by omega); have hlen : (zdf (zax k.sz xs (l' : Int) (atM k.sz xs t (idx a (l' : Int))) a) p).length ≤ 262144 := Nat.le_trans (List.length_filter_le ..) hub.1; have hfb := zjg k id (zdf (zax k.sz xs (l' : Int) (atM k.sz xs t (idx a (l' : Int))) a) p); have hfU := z2j k id (zdf (zax k.sz xs (l' : Int) (atM k.sz xs t (idx a (l' : Int))) a) p) (fun y hy => hub.2 y (List.mem_filter.1 hy).1); have hfe : ∀ m4, Ok 73 [.ag ({ k with m := m4, pf := f } : Kr).ce, ii id, .c (.s (zdf (zax k.sz xs (l' : Int) (atM k.sz xs t (idx a (l' : Int))) a) p).length 8 (flP (zdf (zax k.sz xs (l' : Int) (atM k.sz xs t (idx a (l' : Int))) a) p)))] (.m (.c (.s (zgv k id (zdf (zax k.sz xs (l' : Int) (atM k.sz xs t (idx a (l' : Int))) a) p)).length 4 (flF (zgv k id (zdf (zax k.sz xs (l' : Int) (atM k.sz xs t (idx a (l' : Int))) a) p)))))) := fun m4 => by
  rcases hlive with e | ⟨e, e'⟩
  · exact zyj { k with m := m4, pf := f } id _ e (by omega)
  · exact zyk { k with m := m4, pf := f } id _ e e' (by omega)
 have hsf := fun m4 => zkg { k with m := m4, pf := f } h.l.ts h.l.cs.2 (zgv k id (zdf (zax k.sz xs (l' : Int) (atM k.sz xs t (idx a (l' : Int))) a) p)) hfU (by omega) (by show k.fs.length ≤ _; omega)
 rcases htl with h1 | h1
 · rw [if_pos h1] at hpr; have hPL : zax k.sz xs (l' : Int) (atM k.sz xs t (idx a (l' : Int))) a = [⟨VaSpec.base a (l' : Int), (atM k.sz xs t (idx a (l' : Int))).ppn * 4096, (l' : Int), (atM k.sz xs t (idx a (l' : Int))).r, (atM k.sz xs t (idx a (l' : Int))).w, (atM k.sz xs t (idx a (l' : Int))).x, (atM k.sz xs t (idx a (l' : Int))).u, (atM k.sz xs t (idx a (l' : Int))).d⟩] := by unfold zax; rw [if_pos h1, hbl]
   have hun := zyo hPt (by omega) (t := t) ha cp (l' : Int) (by omega) (by omega) h1 _ rfl _ rfl; rw [← hpr] at hun; replace hun : zby Tryz.prog GG 86 [(2000, pcC k.sz xs p, pcC k.sz (prM k.sz (xs, f, (t, (l' : Int)), (0 : Int)) a p) p)] [.c (.p 2000 0), .ag (zbq t (l' : Int) (atM k.sz xs t (idx a (l' : Int)))), iu a] (.m (.c (.s (zax k.sz xs (l' : Int) (atM k.sz xs t (idx a (l' : Int))) a).length 8 (flP (zax k.sz xs (l' : Int) (atM k.sz xs t (idx a (l' : Int))) a))))) := by rw [hPL]; exact hun
   clear hPL; clear hpr hub hfb hfU hlen; generalize prM k.sz (xs, f, (t, (l' : Int)), (0 : Int)) a p = m4 at *; generalize zgv k id (zdf (zax k.sz xs (l' : Int) (atM k.sz xs t (idx a (l' : Int))) a) p) = FL at *; generalize zdf (zax k.sz xs (l' : Int) (atM k.sz xs t (idx a (l' : Int))) a) p = LL at *; generalize zax k.sz xs (l' : Int) (atM k.sz xs t (idx a (l' : Int))) a = PL at *; generalize atM k.sz xs t (idx a (l' : Int)) = q at *; rw [← hpb, ← hpm] at hto; replace hfe := hfe m4; replace hsf := hsf m4; subst hR; refine zad 89 Tryz.func38 rfl rfl rfl rfl ?_ GG.to; intro W A hG
   repeat (first | (refine zai rfl ?_; first | refine zaj ?_ | refine gdr (zaa rfl rfl rfl (hw) (by kernel_rfl)) ?_ | refine gdr (zaa rfl rfl rfl (hmay) (by kernel_rfl)) ?_ | refine gdr (zaa rfl rfl rfl (hin) (by kernel_rfl)) ?_ | refine gdr (zaa rfl rfl rfl (hto) (by kernel_rfl)) ?_ | refine gdr (zev (fun _ => 69) hun rfl rfl (by kernel_rfl) rfl ⟨rfl, trivial⟩ (by kernel_rfl)) ?_ | refine gdr (zaa rfl rfl rfl (hls) (by kernel_rfl)) ?_ | refine gdr (zaa rfl rfl rfl (hfe) (by kernel_rfl)) ?_ | refine gdr (zaa rfl rfl rfl (hsf) (by kernel_rfl)) ?_) | (refine hK _ ?_; clear hK K) | refine zac rfl ?_ | refine zaq (by kernel_rfl) (by kernel_rfl) rfl ?_ | exact zah (show zat _ _ _ = some _ by kernel_rfl) | refine zae rfl rfl ?_ | refine zag ?_ | refine zak ?_ | refine zab (fun K hK => ?_))
 · obtain ⟨k1, k2, k3, k4⟩ := zb5 hPt hi h1; have hnl : zas (atM k.sz xs t (idx a (l' : Int))) = false := (za8 h1).2.2; have hkl : zbf (atM k.sz xs t (idx a (l' : Int))) = true := (za8 h1).1; obtain ⟨mm, rfl⟩ : ∃ mm : Nat, l' = mm + 1 := ⟨l' - 1, by omega⟩; have e9 : (((mm + 1 : Nat) : Int) - 1).toNat = mm := by omega
   rw [if_neg (by rw [hnl]; simp), e9] at hpr
   have hPL : zax k.sz xs ((mm + 1 : Nat) : Int) (atM k.sz xs t (idx a ((mm + 1 : Nat) : Int))) a = za7 k.sz xs mm (atM k.sz xs t (idx a ((mm + 1 : Nat) : Int))).ppn a := by unfold zax; rw [if_neg (by rw [hnl]; simp), if_pos hkl, e9]
   have hbm2 : m39 a % (512 * VaSpec.sz (mm : Int)) = 0 := zk4 (by omega) (by rw [hll]; exact hbm)
   have hpg : Ok 48 [zbm k.sz xs, iu (atM k.sz xs t (idx a ((mm + 1 : Nat) : Int))).ppn, ii mm, iu a] (.m (.c (.s (zax k.sz xs ((mm + 1 : Nat) : Int) (atM k.sz xs t (idx a ((mm + 1 : Nat) : Int))) a).length 8 (flP (zax k.sz xs ((mm + 1 : Nat) : Int) (atM k.sz xs t (idx a ((mm + 1 : Nat) : Int))) a))))) := by
    rw [hPL]; rcases (by omega : mm = 0 ∨ mm = 1) with rfl | rfl
    · exact zrr k.sz xs hPt.s hPt.u _ _ hqp ha
    · exact znn k.sz xs hPt.s hPt.u _ _ hqp ha
   have k5 : lv' (atM k.sz xs t (idx a ((mm + 1 : Nat) : Int))).ppn = (mm : Int) := by rw [k3, y5]; omega
   have hun := zyp hPt (by omega) (t := t) ha cp mm (by omega) (atM k.sz xs t (idx a ((mm + 1 : Nat) : Int))) hqp hnl a hbl.symm ha hbm2 k4 k5 _ hPL (by omega) hub.2 hpg _ rfl; replace hun : zby Tryz.prog GG 86 [(2000, pcC k.sz xs p, pcC k.sz (prM k.sz (xs, f, (t, ((mm + 1 : Nat) : Int)), (0 : Int)) a p) p)] [.c (.p 2000 0), .ag (zbq t ((mm + 1 : Nat) : Int) (atM k.sz xs t (idx a ((mm + 1 : Nat) : Int)))), iu a] (.m (.c (.s (zax k.sz xs ((mm + 1 : Nat) : Int) (atM k.sz xs t (idx a ((mm + 1 : Nat) : Int))) a).length 8 (flP (zax k.sz xs ((mm + 1 : Nat) : Int) (atM k.sz xs t (idx a ((mm + 1 : Nat) : Int))) a))))) := by rw [hpr, ← hPL]; exact hun
   clear hPL hpg hnl hkl h1 k1 k2 k3 k4 k5; clear hpr hub hfb hfU hlen; generalize prM k.sz (xs, f, (t, ((mm + 1 : Nat) : Int)), (0 : Int)) a p = m4 at *; generalize zgv k id (zdf (zax k.sz xs ((mm + 1 : Nat) : Int) (atM k.sz xs t (idx a ((mm + 1 : Nat) : Int))) a) p) = FL at *; generalize zdf (zax k.sz xs ((mm + 1 : Nat) : Int) (atM k.sz xs t (idx a ((mm + 1 : Nat) : Int))) a) p = LL at *; generalize zax k.sz xs ((mm + 1 : Nat) : Int) (atM k.sz xs t (idx a ((mm + 1 : Nat) : Int))) a = PL at *; generalize atM k.sz xs t (idx a ((mm + 1 : Nat) : Int)) = q at *; rw [← hpb, ← hpm] at hto; replace hfe := hfe m4; replace hsf := hsf m4; subst hR; refine zad 89 Tryz.func38 rfl rfl rfl rfl ?_ GG.to; intro W A hG
   repeat (first | (refine zai rfl ?_; first | refine zaj ?_ | refine gdr (zaa rfl rfl rfl (hw) (by kernel_rfl)) ?_ | refine gdr (zaa rfl rfl rfl (hmay) (by kernel_rfl)) ?_ | refine gdr (zaa rfl rfl rfl (hin) (by kernel_rfl)) ?_ | refine gdr (zaa rfl rfl rfl (hto) (by kernel_rfl)) ?_ | refine gdr (zev (fun _ => 69) hun rfl rfl (by kernel_rfl) rfl ⟨rfl, trivial⟩ (by kernel_rfl)) ?_ | refine gdr (zaa rfl rfl rfl (hls) (by kernel_rfl)) ?_ | refine gdr (zaa rfl rfl rfl (hfe) (by kernel_rfl)) ?_ | refine gdr (zaa rfl rfl rfl (hsf) (by kernel_rfl)) ?_) | (refine hK _ ?_; clear hK K) | refine zac rfl ?_ | refine zaq (by kernel_rfl) (by kernel_rfl) rfl ?_ | exact zah (show zat _ _ _ = some _ by kernel_rfl) | refine zae rfl rfl ?_ | refine zag ?_ | refine zak ?_ | refine zab (fun K hK => ?_))
end LmG
namespace LaI
open Go.RowKit Bv Base MemL RegR Ax MemC PutC OkS SpA SpB SpD SpE SpH SpJ SpN LaA LaB LaC LaD LaE LaG RlB RlC
attribute [local irreducible] Ax.zbr
noncomputable def bgI (a b c : Int) (n : Nat) : Nat → Kr
 | 0 => zvi a b c n
 | i + 1 => (zb4 (bgI a b c n i)).1
def bgH (k : Kr) (i : Nat) : St := St.of [(2, .m (.c (.p 2 0))), (3, .m (.c (.p 3 0))), (4, .m (.c (.p 4 0))), (6, .m (.c (.p 6 0))), (7, .m (ii i))] [(2, .live (.box zK)), (3, .live (.box zK)), (4, .live (.box k.ce)), (6, .live (.box k.ce))]
theorem zyu {a b c : Int} {n : Nat} (h : zf8 a b c n = true) : ∀ i, Inv i (bgI a b c n i)
 | 0 => zim h
 | i + 1 => zcs (zyu h i)
end LaI
namespace LmH
open Go.RowKit Bv VaSpec Base MemL RegR Ax MemC PutC OkS SpA SpB SpH SpI SpJ LaA LaB LaC LaD LaE LaF LaG LiA LiB LiC LiE LiF SpE SpG SpK SpL SpN RfC RfD RfE RfJ RlA RlB RlC LaH LaI LjA LjB LjF LiF LkE LmA LmB LmE LmF LmG
open PteSpec
attribute [local irreducible] Ax.zbr
theorem zp6 (a b c : Int) (n : Nat) (h : zf8 a b c n = true) : Ok 36 [znk a b c n] (.tu [.ag (bgK a b c n).ce, .ag (bgK a b c n).ce]) := by
 have hn := z37 a b c n h; have hr := z4m a b c n h; refine zad 33 Tryz.func36 rfl rfl rfl rfl ?_ GG.to; intro W A hG
 repeat (first | (refine zai rfl ?_; first | refine zaj ?_ | refine gdr (zaa rfl rfl rfl (hn) (by kernel_rfl)) ?_ | refine gdr (zaa rfl rfl rfl (hr) (by kernel_rfl)) ?_) | (refine hK _ ?_; clear hK K) | refine zac rfl ?_ | refine zag ?_ | refine zab (fun K hK => ?_))
 refine za1 (α := Nat) (fun i => i ≤ 2) (fun i => bgH (bgI a b c n i) i) (fun i => 2 - i) 0 (by omega) (sbq _ _) ?_; intro i hi; show Aw _ _ _ _ (bgH (bgI a b c n i) i); unfold bgH; by_cases hlt : i < 2
 · have hk := zyu h i; have hc := zuz hk (by omega); have hd := zr1 hk (by omega); have e : bgI a b c n (i + 1) = (zb4 (bgI a b c n i)).1 := rfl; generalize zb4 (bgI a b c n i) = rr at *
   repeat (first | (refine zai rfl ?_; first | refine zaj ?_ | refine gdr (zaa rfl rfl rfl (hc) (by kernel_rfl)) ?_ | refine gdr (zaa rfl rfl rfl (hd) (by kernel_rfl)) ?_) | (refine hK _ ?_; clear hK K) | refine zac rfl ?_ | refine zaf rfl rfl ?_ | refine zag ?_ | refine zak ?_ | refine zab (fun K hK => ?_))
   refine ⟨i + 1, by omega, by omega, ?_⟩; rw [e]; exact sbq _ _
 · obtain rfl : i = 2 := by omega
   rw [show bgI a b c n 2 = bgK a b c n from rfl]
   repeat (first | (refine zai rfl ?_; first | refine zaj ?_) | (refine hK _ ?_; clear hK K) | (rename_i K1 hK1; refine hK1 _ ?_; clear hK hK1; clear K) | refine zac rfl ?_ | refine zaq (by kernel_rfl) (by kernel_rfl) rfl ?_ | exact zah (show zat _ _ _ = some _ by kernel_rfl) | refine zae rfl rfl ?_ | refine zar ?_ | refine zab (fun K hK => ?_))
structure Dg where
 k : Int
 id : Int
 va : Int
 pa : Int
 lev : Int
 p : Pm
def Dg.ce (d : Dg) : List Ce := [i8 d.k, ci d.id, cu d.va, cu d.pa, ci d.lev] ++ d.p.ce
def Dg.vs (d : Dg) : List Value := [.int .u8 d.k, .int .i64 d.id, .int .u64 d.va, .int .u64 d.pa, .int .i64 d.lev, .bool d.p.r, .bool d.p.w, .bool d.p.x, .bool d.p.u]
def UG (d : Dg) : Prop := (0 ≤ d.k ∧ d.k < 256) ∧ U d.va ∧ U d.pa
def dgR (k : Kr) (d : Dg) : Kr × Int := if d.k % 3 = 1 then unR k d.id d.va d.lev else if d.k % 3 = 2 then prR k d.id d.va d.lev d.p else zdh k d.id d.va d.pa d.lev d.p
theorem z41 {n : Nat} {k : Kr} {d : Dg} (h : InvT n k) (hd : UG d) : InvT (n + 1100) (dgR k d).1 := by
 unfold dgR
 split
 · exact z2h h
 · split
   · exact zto h
   · have hm := zgr (id := d.id) (a := d.va) (pa := d.pa) (l := d.lev) (p := d.p) h hd.2.2; exact ⟨{ hm.l with ml := by have := hm.l.ml; omega, fl := by have := hm.l.fl; omega }, hm.t⟩
theorem z7b {n : Nat} {k : Kr} {d : Dg} (h : InvT n k) (hn : n ≤ 88000) (hd : UG d) : Ok 37 [.ag k.ce, .ag d.ce] (.tu [.ag (dgR k d).1.ce, ii (dgR k d).2]) := by
 obtain ⟨kd, id, va, pa, lev, p⟩ := d; obtain ⟨⟨h0, h9⟩, h1, h2⟩ := hd; replace h0 : 0 ≤ kd := h0; replace h9 : kd < 256 := h9; obtain ⟨R, hR⟩ : ∃ R, R = dgR k ⟨kd, id, va, pa, lev, p⟩ := ⟨_, rfl⟩; rw [← hR]; unfold Dg.ce; unfold dgR at hR; by_cases c1 : kd % 3 = 1
 · have hu := zyl h hn id va lev h1; rw [if_pos c1] at hR; replace hR : R = unR k id va lev := hR; rw [← hR] at hu; refine zad 50 Tryz.func37 rfl rfl rfl rfl ?_ GG.to; intro W A hG
   repeat (first | (refine zai rfl ?_; first | refine zaj ?_ | refine gdr (zaa rfl rfl rfl (hu) (by kernel_rfl)) ?_) | (refine hK _ ?_; clear hK K) | refine zac rfl ?_ | exact zah (show zat _ _ _ = some _ by kernel_rfl) | refine zaf rfl rfl ?_ | refine zab (fun K hK => ?_))
 rw [if_neg c1] at hR; by_cases c2 : kd % 3 = 2
 · have hu := zc5 h hn id va lev p h1; rw [if_pos c2] at hR; replace hR : R = prR k id va lev p := hR; rw [← hR] at hu; refine zad 50 Tryz.func37 rfl rfl rfl rfl ?_ GG.to; intro W A hG
   repeat (first | (refine zai rfl ?_; first | refine zaj ?_ | refine gdr (zaa rfl rfl rfl (hu) (by kernel_rfl)) ?_) | (refine hK _ ?_; clear hK K) | refine zac rfl ?_ | exact zah (show zat _ _ _ = some _ by kernel_rfl) | refine zaf rfl rfl ?_ | refine zae rfl rfl ?_ | refine zak ?_ | refine zab (fun K hK => ?_))
 rw [if_neg c2] at hR; have hu := zxr h.l (by omega) id va pa lev p h1 h2; replace hR : R = zdh k id va pa lev p := hR; rw [← hR] at hu; refine zad 50 Tryz.func37 rfl rfl rfl rfl ?_ GG.to; intro W A hG
 repeat (first | (refine zai rfl ?_; first | refine zaj ?_ | refine gdr (zaa rfl rfl rfl (hu) (by kernel_rfl)) ?_) | (refine hK _ ?_; clear hK K) | refine zac rfl ?_ | exact zah (show zat _ _ _ = some _ by kernel_rfl) | refine zae rfl rfl ?_ | refine zak ?_ | refine zab (fun K hK => ?_))
def gB : Kr := kf dA [⟨true, 20480, true, 1⟩]
def gC : Kr := kf cA [⟨true, 20480, true, 1⟩]
def pz : Pm := ⟨false, false, false, false⟩
theorem gP1 : prR cA 0 20480 0 rr = (gB, 0) := by kernel_rfl
theorem gP2 : prR gB 0 0 1 rw2 = (gC, 0) := by kernel_rfl
theorem gP3 : prR gB 0 24576 0 rr = (gB, 7) := by kernel_rfl
theorem gP4 : prR gB 0 24576 0 pz = (gB, 5) := by kernel_rfl
theorem gA : InvT 5 cA := by have := zgr (id := 0) (a := 20480) (pa := 4096) (l := 0) (p := rw2) t2 ⟨by omega, by omega⟩; rwa [mA] at this
theorem gBi : InvT 1105 gB := by have := zto (id := 0) (a := 20480) (l := 0) (p := rr) gA; rwa [gP1] at this
theorem gL : zkq gB 0 = [⟨20480, 4096, 0, true, false, false, false, false⟩] := by
 unfold zkq; rw [if_neg (by decide), if_neg (by decide)]
 kernel_rfl
set_option maxHeartbeats 8000000 in
theorem zk6 : Ok 35 [] (.m (ib true)) := by
 have hN : Ok 36 [znk 4 8 2 1] (.tu [.ag c2.ce, .ag c2.ce]) := by rw [← bg2]; exact zp6 4 8 2 1 (by decide)
 have hA := zxr t2.l (by omega) 0 20480 4096 0 rw2 ⟨by omega, by omega⟩ ⟨by omega, by omega⟩; rw [mA] at hA; have hB := zc5 gA (by omega) 0 20480 0 rr ⟨by omega, by omega⟩; rw [gP1] at hB; have hC := zc5 gBi (by omega) 0 0 1 rw2 ⟨by omega, by omega⟩; rw [gP2] at hC; have hF := zc5 gBi (by omega) 0 24576 0 rr ⟨by omega, by omega⟩; rw [gP3] at hF; have hD := zc5 gBi (by omega) 0 24576 0 pz ⟨by omega, by omega⟩; rw [gP4] at hD; have hL := z0q gBi.l (by omega) 0; rw [gL] at hL; replace hL : Ok 14 [.ag gB.ce, ii 0] (.m (.c (.s 1 8 (flP [⟨20480, 4096, 0, true, false, false, false, false⟩])))) := hL; have hS := zs4 [⟨true, 20480, true, 1⟩] (by decide); have hZ := zp5 [⟨0, 0, 0, true, true, false, false, false⟩, ⟨0, 0, 0, true, false, false, false, false⟩] rr (by decide); rw [show zdf [⟨0, 0, 0, true, true, false, false, false⟩, ⟨0, 0, 0, true, false, false, false, false⟩] rr = [⟨0, 0, 0, true, true, false, false, false⟩] from by kernel_rfl] at hZ; replace hZ : Ok 42 [.c (.s 2 8 (flP [⟨0, 0, 0, true, true, false, false, false⟩, ⟨0, 0, 0, true, false, false, false, false⟩])), .ag [cb true, cb false, cb false, cb false]] (.m (.c (.s 1 8 (flP [⟨0, 0, 0, true, true, false, false, false⟩])))) := hZ; have hx : ((flP [⟨20480, 4096, 0, true, false, false, false, false⟩]).drop ((0 : Int).toNat * 8)).take 8 = [.int .u64 20480, .int .u64 4096, .int .i64 0, .bool true, .bool false, .bool false, .bool false, .bool false] := rfl; have he : ∀ w, (Op.equalIn 10000 49 (.agg #[.bool true, .bool false, .bool false, .bool false]) (.agg #[.bool true, .bool false, .bool false, .bool false])).run Tryz.prog w = .ok true w := fun w => by kernel_rfl
 refine zad 113 Tryz.func35 rfl rfl rfl rfl ?_ GG.to; intro W A hG
 repeat (first | (refine zai rfl ?_; first | refine zaj ?_) | refine zac rfl ?_ | refine zab (fun K hK => ?_))
 first
  | (refine hK _ ?_; clear hK K)
  | (rename_i K1 hK1; refine hK1 _ ?_; clear hK hK1; clear K)
  | (rename_i K1 hK1; refine hK1 _ ?_; clear hK1)
 repeat (first | (refine zai rfl ?_; first | refine zaj ?_ | refine gdr (zaa rfl rfl rfl (hN) (by kernel_rfl)) ?_) | refine zac rfl ?_ | refine zab (fun K hK => ?_))
 first
  | (refine hK _ ?_; clear hK K)
  | (rename_i K1 hK1; refine hK1 _ ?_; clear hK hK1; clear K)
  | (rename_i K1 hK1; refine hK1 _ ?_; clear hK1)
 refine zc7 (sbq [(1, .m (.c (.p 1 0)))] [(1, .live (.box c2.ce))]) ?_
 repeat (first | (refine zai rfl ?_; first | refine zaj ?_) | refine zac rfl ?_ | refine zab (fun K hK => ?_))
 first
  | (refine hK _ ?_; clear hK K)
  | (rename_i K1 hK1; refine hK1 _ ?_; clear hK hK1; clear K)
  | (rename_i K1 hK1; refine hK1 _ ?_; clear hK1)
 refine zc7 (sbq [(1, .m (.c (.p 1 0))), (3, .m (.c (.p 3 0)))] [(1, .live (.box c2.ce)), (3, .live (.box rw2.ce))]) ?_
 repeat (first | (refine zai rfl ?_; first | refine zaj ?_) | refine zac rfl ?_ | refine zab (fun K hK => ?_))
 first
  | (refine hK _ ?_; clear hK K)
  | (rename_i K1 hK1; refine hK1 _ ?_; clear hK hK1; clear K)
  | (rename_i K1 hK1; refine hK1 _ ?_; clear hK1)
 refine zc7 (sbq [(1, .m (.c (.p 1 0))), (3, .m (.c (.p 3 0))), (4, .m (.c (.p 4 0)))] [(1, .live (.box c2.ce)), (3, .live (.box rw2.ce)), (4, .live (.box rr.ce))]) ?_
 repeat (first | (refine zai rfl ?_; first | refine zaj ?_ | refine gdr (zaa rfl rfl rfl (hA) (by kernel_rfl)) ?_) | refine zac rfl ?_ | refine zab (fun K hK => ?_))
 first
  | (refine hK _ ?_; clear hK K)
  | (rename_i K1 hK1; refine hK1 _ ?_; clear hK hK1; clear K)
  | (rename_i K1 hK1; refine hK1 _ ?_; clear hK1)
 refine zc7 (sbq [(1, .m (.c (.p 1 0))), (3, .m (.c (.p 3 0))), (4, .m (.c (.p 4 0))), (5, .m (.c (.p 5 0)))] [(1, .live (.box c2.ce)), (3, .live (.box rw2.ce)), (4, .live (.box rr.ce)), (5, .live (.box cA.ce))]) ?_
 repeat (first | (refine zai rfl ?_; first | refine zaj ?_ | refine gdr (zaa rfl rfl rfl (hB) (by kernel_rfl)) ?_) | refine zac rfl ?_ | refine zab (fun K hK => ?_))
 first
  | (refine hK _ ?_; clear hK K)
  | (rename_i K1 hK1; refine hK1 _ ?_; clear hK hK1; clear K)
  | (rename_i K1 hK1; refine hK1 _ ?_; clear hK1)
 refine zc7 (sbq [(1, .m (.c (.p 1 0))), (3, .m (.c (.p 3 0))), (4, .m (.c (.p 4 0))), (5, .m (.c (.p 5 0))), (7, .m (.c (.p 7 0))), (8, .m (ii 0))] [(1, .live (.box c2.ce)), (3, .live (.box rw2.ce)), (4, .live (.box rr.ce)), (5, .live (.box cA.ce)), (7, .live (.box gB.ce))]) ?_
 repeat (first | (refine zai rfl ?_; first | refine zaj ?_ | refine gdr (zaa rfl rfl rfl (hC) (by kernel_rfl)) ?_) | refine zac rfl ?_ | refine zab (fun K hK => ?_))
 first
  | (refine hK _ ?_; clear hK K)
  | (rename_i K1 hK1; refine hK1 _ ?_; clear hK hK1; clear K)
  | (rename_i K1 hK1; refine hK1 _ ?_; clear hK1)
 refine zc7 (sbq [(1, .m (.c (.p 1 0))), (3, .m (.c (.p 3 0))), (4, .m (.c (.p 4 0))), (5, .m (.c (.p 5 0))), (7, .m (.c (.p 7 0))), (8, .m (ii 0)), (9, .m (.c (.p 9 0))), (10, .m (ii 0))] [(1, .live (.box c2.ce)), (3, .live (.box rw2.ce)), (4, .live (.box rr.ce)), (5, .live (.box cA.ce)), (7, .live (.box gB.ce)), (9, .live (.box gC.ce))]) ?_
 repeat (first | (refine zai rfl ?_; first | refine zaj ?_ | refine gdr (zaa rfl rfl rfl (hF) (by kernel_rfl)) ?_) | refine zac rfl ?_ | refine zab (fun K hK => ?_))
 first
  | (refine hK _ ?_; clear hK K)
  | (rename_i K1 hK1; refine hK1 _ ?_; clear hK hK1; clear K)
  | (rename_i K1 hK1; refine hK1 _ ?_; clear hK1)
 refine zc7 (sbq [(1, .m (.c (.p 1 0))), (3, .m (.c (.p 3 0))), (4, .m (.c (.p 4 0))), (5, .m (.c (.p 5 0))), (7, .m (.c (.p 7 0))), (8, .m (ii 0)), (9, .m (.c (.p 9 0))), (10, .m (ii 0)), (12, .m (ii 7))] [(1, .live (.box c2.ce)), (3, .live (.box rw2.ce)), (4, .live (.box rr.ce)), (5, .live (.box cA.ce)), (7, .live (.box gB.ce)), (9, .live (.box gC.ce))]) ?_
 repeat (first | (refine zai rfl ?_; first | refine zaj ?_ | refine gdr (zaa rfl rfl rfl (hD) (by kernel_rfl)) ?_) | refine zac rfl ?_ | refine zab (fun K hK => ?_))
 first
  | (refine hK _ ?_; clear hK K)
  | (rename_i K1 hK1; refine hK1 _ ?_; clear hK hK1; clear K)
  | (rename_i K1 hK1; refine hK1 _ ?_; clear hK1)
 refine zc7 (sbq [(1, .m (.c (.p 1 0))), (3, .m (.c (.p 3 0))), (4, .m (.c (.p 4 0))), (5, .m (.c (.p 5 0))), (7, .m (.c (.p 7 0))), (8, .m (ii 0)), (9, .m (.c (.p 9 0))), (10, .m (ii 0)), (12, .m (ii 7)), (14, .m (ii 5))] [(1, .live (.box c2.ce)), (3, .live (.box rw2.ce)), (4, .live (.box rr.ce)), (5, .live (.box cA.ce)), (7, .live (.box gB.ce)), (9, .live (.box gC.ce))]) ?_
 repeat (first | (refine zai rfl ?_; first | refine zaj ?_ | refine gdr (zaa rfl rfl rfl (hL) (by kernel_rfl)) ?_) | refine zac rfl ?_ | refine zab (fun K hK => ?_))
 first
  | (refine hK _ ?_; clear hK K)
  | (rename_i K1 hK1; refine hK1 _ ?_; clear hK hK1; clear K)
  | (rename_i K1 hK1; refine hK1 _ ?_; clear hK1)
 refine zc7 (sbq [(1, .m (.c (.p 1 0))), (3, .m (.c (.p 3 0))), (4, .m (.c (.p 4 0))), (5, .m (.c (.p 5 0))), (7, .m (.c (.p 7 0))), (8, .m (ii 0)), (9, .m (.c (.p 9 0))), (10, .m (ii 0)), (12, .m (ii 7)), (14, .m (ii 5)), (15, .m (.c (.s 1 8 (flP [⟨20480, 4096, 0, true, false, false, false, false⟩]))))] [(1, .live (.box c2.ce)), (3, .live (.box rw2.ce)), (4, .live (.box rr.ce)), (5, .live (.box cA.ce)), (7, .live (.box gB.ce)), (9, .live (.box gC.ce))]) ?_
 repeat (first | (refine zai rfl ?_; first | refine zaj ?_) | refine zaq (by kernel_rfl) (by kernel_rfl) rfl ?_ | refine zab (fun K hK => ?_))
 refine zai rfl ?_; refine zi1 (zd0 (b := 61) (l := [.c (.s gB.fs.length 4 (flF gB.fs)), .c (.o 61)]) rfl rfl rfl (by kernel_rfl) rfl (by kernel_rfl) (zhx (by kernel_rfl) hS)) (by kernel_rfl) ?_
 repeat (first | (refine zai rfl ?_; first | refine zaj ?_ | refine gdr (zeh (us := [.bool true, .bool false, .bool false, .bool false]) (vs := [.bool true, .bool false, .bool false, .bool false]) he (by kernel_rfl) rfl rfl rfl rfl) ?_))
 refine zai rfl ?_; refine zi1 (zd0 (b := 107) (l := [.c (.o 107), .ag [cb true, cb false, cb false, cb false]]) rfl rfl rfl (by kernel_rfl) rfl (by kernel_rfl) (zhx (by kernel_rfl) hZ)) (by kernel_rfl) ?_
 repeat (first | (refine zai rfl ?_; first | refine zaj ?_) | (refine hK _ ?_; clear hK K) | exact zah (show zat _ _ _ = some _ by kernel_rfl))
end LmH
namespace LaJ
open Go.RowKit Bv VaSpec MemL RegR Ax OkS SpB SpD SpI LaB LaC LaD RlC
attribute [local irreducible] Ax.zbr
structure Rq where
 id : Int
 va : Int
 pa : Int
 lev : Int
 p : Pm
deriving DecidableEq
def Rq.ce (q : Rq) : List Ce := [ci q.id, cu q.va, cu q.pa, ci q.lev, cb q.p.r, cb q.p.w, cb q.p.x, cb q.p.u]
def Rq.vs (q : Rq) : List Value := [.int .i64 q.id, .int .u64 q.va, .int .u64 q.pa, .int .i64 q.lev, .bool q.p.r, .bool q.p.w, .bool q.p.x, .bool q.p.u]
end LaJ
namespace LmI
open Go.RowKit Bv VaSpec Base MemL RegR Ax MemC PutC OkS SpA SpB SpH SpI LaA LaB LaC LaD LaE LaG LiA LiB LiC LiE SpE SpN RfC RfJ RlA RlB RlC LaI LaJ LjA LjB LjF LkE LmA LmE LmH
attribute [local irreducible] Ax.zbr
section
attribute [local semireducible] Ax.zbr
end
def z1f (l : List Dg) : List Value := l.flatMap Dg.vs
theorem z42 {l : List Dg} {k : Nat} {d : Dg} (h : l[k]? = some d) : ((z1f l).drop (k * 9)).take 9 = [.int .u8 d.k, .int .i64 d.id, .int .u64 d.va, .int .u64 d.pa, .int .i64 d.lev, .bool d.p.r, .bool d.p.w, .bool d.p.x, .bool d.p.u] := zfc Dg.vs 9 (fun _ => rfl) l _ d h
def zse (l : List Dg) (e : Dg) (i : Nat) (k : Kr) : St := St.of [(1, .m (.c (.s l.length 9 (z1f l)))), (5, .m (.c (.p 5 0))), (6, .m (ib false)), (7, .m (.c (.p 7 0))), (9, .m (ii i))] [(5, .live (.box e.ce)), (7, .live (.box k.ce))]
end LmI
namespace Open
open Go.RowKit Go.WideShapes Go.ChangeShapes Base
section
variable {H : Type} {enc : TypeId × Value → H} {P : Program}
theorem keepAll (hl : laidOutB P = true) {W W' : World} (hb : Below W.heap.size W W') : ∀ {ts : List TypeId} {vs : List Value} {ds : List (DataW H)} {ps : List MemPlace},
 (ts.all fun t => P.readableRec t && decide (t < P.types.size)) = true → DataW.TrodAll enc P W 0 (fun _ => true) true ts vs ds ps → DataW.TrodAll enc P W' 0 (fun b => decide (b < W.heap.size)) true ts vs ds ps
 | [], [], [], _, _, h => h
 | t :: ts, v :: vs, d :: ds, ps, ht, ⟨a, b, h1, h2, e⟩ => by
  simp only [List.all_cons, Bool.and_eq_true, decide_eq_true_eq] at ht; have h1' := h1; obtain ⟨n, hn⟩ := h1; exact ⟨a, b, Below.trod hl ht.1.1 ht.1.2 h1' hb (fun x hx => DataW.trod_lt n t _ _ hn x hx), keepAll hl hb ht.2 h2, e⟩
end
section
variable {H : Type} {enc : TypeId × Value → H} {W : World} {base b0 : Nat} {sp : Nat → Bool} {held : Bool} {n : Nat} {r : Reach}
theorem zh7 {c : Value} {x : Option (DataW H × List MemPlace)} {y : DataW H × List MemPlace} (h : DataW.trod enc Tryz.prog W base sp held n 4 [c] = x) (hx : x = some y) : ∃ b, c = .bool b := by
 rw [hx] at h; obtain ⟨b, e, _⟩ := DataW.trod_bool Tryz.underlying4 h; exact ⟨b, by simpa using e⟩
theorem ztq {c : Value} {x : Option (DataW H × List MemPlace)} {y : DataW H × List MemPlace} (h : DataW.trod enc Tryz.prog W base sp held n 25 [c] = x) (hx : x = some y) : ∃ a, c = .int .u64 a ∧ U a := by
 rw [hx] at h; obtain ⟨b, e, _, wf⟩ := DataW.trod_int Tryz.underlying25 h; exact ⟨b, by simpa using e, U.of wf⟩
theorem zgu {c : Value} {x : Option (DataW H × List MemPlace)} {y : DataW H × List MemPlace} (h : DataW.trod enc Tryz.prog W base sp held n 3 [c] = x) (hx : x = some y) : ∃ a, c = .int .i64 a ∧ (-9223372036854775808 ≤ a ∧ a ≤ 9223372036854775807) := by
 rw [hx] at h; obtain ⟨b, e, _, wf⟩ := DataW.trod_int Tryz.underlying3 h; refine ⟨b, by simpa using e, ?_⟩; simp [Lit.wf, IntKind.min, IntKind.max, IntKind.bits, IntKind.signed] at wf; omega
theorem zdg {α : Type} {xs : List α} {m i : Nat} (h : xs.length = m) (hi : i < m) : ∃ y, xs[i]? = some y := ⟨xs[i]'(by omega), List.getElem?_eq_getElem _⟩
end
end Open
namespace Laid
open Go.ChangeShapes Go.WideShapes Go.ChangeAt Go.RowKit Ax OkS LaC LaB Bv Base SpA LmH LmI SpN MemL
def laidS : List (String × DataW Unit) := [("atlas/va.sizes", Rows.laid_atlas_va_sizes), ("math/bits.deBruijn64tab", Rows.laid_math_bits_deBruijn64tab), ("atlas/fence.asks", Rows.laid_atlas_fence_asks)]
theorem g_sizes : Tryz.prog.globalNamed "atlas/va.sizes" = some 0 := by kernel_rfl
theorem g_tab : Tryz.prog.globalNamed "math/bits.deBruijn64tab" = some 1 := by kernel_rfl
theorem g_asks : Tryz.prog.globalNamed "atlas/fence.asks" = some 2 := by kernel_rfl
theorem t_sizes : (Tryz.prog.globals[0]?).map (·.type) = some 201 := by kernel_rfl
theorem t_tab : (Tryz.prog.globals[1]?).map (·.type) = some 242 := by kernel_rfl
theorem t_asks : (Tryz.prog.globals[2]?).map (·.type) = some 261 := by kernel_rfl
theorem gg_of_laid {W : World} (h : laidMetH Tryz.prog laidS W) : GG W := by
 have hp := (show laidMet Tryz.prog _ W ∧ handlesMet Tryz.prog _ W from h).1; obtain ⟨ps, ⟨g1, t1, cs1, f1, p1, q1, hg1, ht1, hv1, hd1, hr, _⟩, _, _⟩ := hp; obtain ⟨g2, t2, cs2, f2, p2, q2, hg2, ht2, hv2, hd2, _, _⟩ := hr; obtain rfl := Option.some.inj (g_sizes.symm.trans hg1); obtain rfl := Option.some.inj (t_sizes.symm.trans ht1); obtain rfl := Option.some.inj (g_tab.symm.trans hg2); obtain rfl := Option.some.inj (t_tab.symm.trans ht2); have e1 := Lib.cells_of_tab (k := .u64) (zs := [4096, 2097152, 1073741824]) Tryz.underlying201 Tryz.underlying25 (by kernel_rfl) (by kernel_rfl) hd1; have e2 := Lib.cells_of_tab (k := .u8) (zs := List.map (fun n : Nat => (n : Int)) Lib.deBruijn64tab) Tryz.underlying242 Tryz.underlying5 (by kernel_rfl) (by kernel_rfl) hd2; obtain ⟨g, t, cs, fuel, p, hg, ht, hv, hd⟩ := h.funcs (n := "atlas/fence.asks") (List.mem_cons_of_mem _ (List.mem_cons_of_mem _ (List.mem_cons_self ..))); obtain rfl := Option.some.inj (g_asks.symm.trans hg); obtain rfl := Option.some.inj (t_asks.symm.trans ht); have hd' : DataW.trod (funcToken Tryz.prog) Tryz.prog W 0 (fun _ => true) true fuel 261 cs.toList = some (.slice [.held [40, 97, 116, 108, 97, 115, 47, 102, 101, 110, 99, 101, 46, 102, 111, 114, 109, 41, 46, 97, 100, 100, 114], .held [40, 97, 116, 108, 97, 115, 47, 102, 101, 110, 99, 101, 46, 102, 111, 114, 109, 41, 46, 97, 115, 105, 100]] [], p) := hd; obtain ⟨a, cap, hcs, _, hel⟩ := open_row Tryz.underlying261 (by kernel_rfl) hd'; obtain ⟨v0, n0, q0, hc0, hr0⟩ := hel 0 _ rfl; obtain ⟨v1, n1, q1', hc1, hr1⟩ := hel 1 _ rfl; obtain rfl := func_of_trod (f0 := 223) Tryz.underlying262 (by kernel_rfl) hr0; obtain rfl := func_of_trod (f0 := 225) Tryz.underlying262 (by kernel_rfl) hr1; obtain ⟨b, off, spot⟩ := a; have hspot : spot = none := by simpa [Addr.add] using World.cell?_spot hc0
 subst hspot; have c1 : ∀ i, W.cell? ⟨0, i, none⟩ = cs1[i]? := fun i => by simpa using World.var?_cell hg1 hv1 i
 have c2 : ∀ i, W.cell? ⟨1, i, none⟩ = cs2[i]? := fun i => by simpa using World.var?_cell hg2 hv2 i
 have c3 : ∀ i, W.cell? ⟨2, i, none⟩ = cs[i]? := fun i => by simpa using World.var?_cell hg hv i
 refine ⟨⟨?_, ?_, ?_⟩, fun j hj => ?_, b, off, cap, ?_, by simpa [Addr.add, z5j] using hc0, by simpa [Addr.add, z5j] using hc1⟩
 · rw [c1, ← Array.getElem?_toList, e1]; rfl
 · rw [c1, ← Array.getElem?_toList, e1]; rfl
 · rw [c1, ← Array.getElem?_toList, e1]; rfl
 · rw [c2, ← Array.getElem?_toList, e2]; simp [List.getD, hj]
 · rw [c3, ← Array.getElem?_toList, hcs]; rfl
section
variable {H : Type} {enc : TypeId × Value → H} {W : World} {base b0 : Nat} {sp : Nat → Bool} {held : Bool} {n : Nat} {r : Reach}
theorem z43 {c : Value} {x : Option (DataW H × List MemPlace)} {y : DataW H × List MemPlace} (h : DataW.trod enc Tryz.prog W base sp held n 5 [c] = x) (hx : x = some y) : ∃ a, c = .int .u8 a ∧ (0 ≤ a ∧ a < 256) := by
 rw [hx] at h; obtain ⟨b, e, _, wf⟩ := DataW.trod_int Tryz.underlying5 h; refine ⟨b, by simpa using e, ?_⟩; simp [Lit.wf, IntKind.min, IntKind.max, IntKind.bits, IntKind.signed] at wf; omega
theorem open_conf {v : Value} {d : DataW H} {p : List MemPlace} (hv : Value.okWide Tryz.prog W r b0 23 v) (h : DataW.Trod enc Tryz.prog W base sp held 23 v d p) :
 ∃ x0 x1 x2 x3, v = .agg #[.int .i64 x0, .int .i64 x1, .int .i64 x2, .int .i64 x3] := by
 obtain ⟨⟨l⟩, rfl, hsz⟩ := okWide_struct Tryz.underlying23 hv; rw [show Tryz.prog.cellsOf 23 = 4 by kernel_rfl] at hsz; obtain ⟨fuel, hf⟩ := h; obtain ⟨xs, n, _, _, _, hlen, hfd⟩ := DataW.trod_struct Tryz.underlying23 hf
 match l, hsz with
 | [c0, c1, c2, c3], _ =>
  have g := fun i f (e : _ = some f) => hfd i f e; have k4 : Tryz.prog.cellsOf 3 = 1 := by kernel_rfl
  have hl : xs.length = 4 := hlen; have h0 : DataW.trod enc Tryz.prog W base sp held n 3 [c0] = xs[0]? := by have := g 0 _ rfl; simpa [Value.cells, k4] using this
  obtain ⟨y0, q0⟩ := Open.zdg hl (show 0 < 4 by decide); obtain ⟨x0, rfl, _⟩ := Open.zgu (c := c0) h0 q0; have h1 : DataW.trod enc Tryz.prog W base sp held n 3 [c1] = xs[1]? := by have := g 1 _ rfl; simpa [Value.cells, k4] using this
  obtain ⟨y1, q1⟩ := Open.zdg hl (show 1 < 4 by decide); obtain ⟨x1, rfl, _⟩ := Open.zgu (c := c1) h1 q1; have h2 : DataW.trod enc Tryz.prog W base sp held n 3 [c2] = xs[2]? := by have := g 2 _ rfl; simpa [Value.cells, k4] using this
  obtain ⟨y2, q2⟩ := Open.zdg hl (show 2 < 4 by decide); obtain ⟨x2, rfl, _⟩ := Open.zgu (c := c2) h2 q2; have h3 : DataW.trod enc Tryz.prog W base sp held n 3 [c3] = xs[3]? := by have := g 3 _ rfl; simpa [Value.cells, k4] using this
  obtain ⟨y3, q3⟩ := Open.zdg hl (show 3 < 4 by decide); obtain ⟨x3, rfl, _⟩ := Open.zgu (c := c3) h3 q3; exact ⟨x0, x1, x2, x3, rfl⟩
theorem addk (b off k : Nat) : (⟨b, off, none⟩ : Addr).add k = ⟨b, off + k, none⟩ := by
 unfold Addr.add; split
 · rename_i h; subst h; rfl
 · rfl
theorem ztr {cs : List Value} {y : DataW H × List MemPlace} (hsz : cs.length = 9) (hf : DataW.trod enc Tryz.prog W base sp held n 97 cs = some y) : ∃ q : Dg, cs = q.vs ∧ UG q := by
 obtain ⟨xs, n, _, _, _, hlen, hfd⟩ := DataW.trod_struct Tryz.underlying97 hf
 match cs, hsz with
 | [c0, c1, c2, c3, c4, c5, c6, c7, c8], _ =>
  have g := fun i f (e : _ = some f) => hfd i f e; have k_int : Tryz.prog.cellsOf 3 = 1 := by kernel_rfl
  have k_u64 : Tryz.prog.cellsOf 25 = 1 := by kernel_rfl
  have k_u8 : Tryz.prog.cellsOf 5 = 1 := by kernel_rfl
  have k_bool : Tryz.prog.cellsOf 4 = 1 := by kernel_rfl
  have k_perm : Tryz.prog.cellsOf 49 = 4 := by kernel_rfl
  have hl : xs.length = 6 := hlen; have h0 : DataW.trod enc Tryz.prog W base sp held n 5 [c0] = xs[0]? := by have := g 0 _ rfl; simpa [Value.cells, k_int, k_u64, k_u8, k_bool, k_perm] using this
  obtain ⟨y0, q0⟩ := Open.zdg hl (show 0 < 6 by decide); obtain ⟨x0, rfl, u0⟩ := z43 (c := c0) h0 q0; have h1 : DataW.trod enc Tryz.prog W base sp held n 3 [c1] = xs[1]? := by have := g 1 _ rfl; simpa [Value.cells, k_int, k_u64, k_u8, k_bool, k_perm] using this
  obtain ⟨y1, q1⟩ := Open.zdg hl (show 1 < 6 by decide); obtain ⟨x1, rfl, _⟩ := Open.zgu (c := c1) h1 q1; have h2 : DataW.trod enc Tryz.prog W base sp held n 25 [c2] = xs[2]? := by have := g 2 _ rfl; simpa [Value.cells, k_int, k_u64, k_u8, k_bool, k_perm] using this
  obtain ⟨y2, q2⟩ := Open.zdg hl (show 2 < 6 by decide); obtain ⟨x2, rfl, u2⟩ := Open.ztq (c := c2) h2 q2; have h3 : DataW.trod enc Tryz.prog W base sp held n 25 [c3] = xs[3]? := by have := g 3 _ rfl; simpa [Value.cells, k_int, k_u64, k_u8, k_bool, k_perm] using this
  obtain ⟨y3, q3⟩ := Open.zdg hl (show 3 < 6 by decide); obtain ⟨x3, rfl, u3⟩ := Open.ztq (c := c3) h3 q3; have h4 : DataW.trod enc Tryz.prog W base sp held n 3 [c4] = xs[4]? := by have := g 4 _ rfl; simpa [Value.cells, k_int, k_u64, k_u8, k_bool, k_perm] using this
  obtain ⟨y4, q4⟩ := Open.zdg hl (show 4 < 6 by decide); obtain ⟨x4, rfl, _⟩ := Open.zgu (c := c4) h4 q4; have h5 : DataW.trod enc Tryz.prog W base sp held n 49 [c5, c6, c7, c8] = xs[5]? := by have := g 5 _ rfl; simpa [Value.cells, k_int, k_u64, k_u8, k_bool, k_perm] using this
  obtain ⟨y5, q5⟩ := Open.zdg hl (show 5 < 6 by decide); rw [q5] at h5; obtain ⟨zs, m, _, _, _, hlen2, hfd2⟩ := DataW.trod_struct Tryz.underlying49 h5; have g2 := fun i f (e : _ = some f) => hfd2 i f e; have hl2 : zs.length = 4 := hlen2; have p0 : DataW.trod enc Tryz.prog W base sp held m 4 [c5] = zs[0]? := by have := g2 0 _ rfl; simpa [Value.cells, k_bool] using this
  obtain ⟨z0, w0⟩ := Open.zdg hl2 (show 0 < 4 by decide); obtain ⟨b0, rfl⟩ := Open.zh7 (c := c5) p0 w0; have p1 : DataW.trod enc Tryz.prog W base sp held m 4 [c6] = zs[1]? := by have := g2 1 _ rfl; simpa [Value.cells, k_bool] using this
  obtain ⟨z1, w1⟩ := Open.zdg hl2 (show 1 < 4 by decide); obtain ⟨b1, rfl⟩ := Open.zh7 (c := c6) p1 w1; have p2 : DataW.trod enc Tryz.prog W base sp held m 4 [c7] = zs[2]? := by have := g2 2 _ rfl; simpa [Value.cells, k_bool] using this
  obtain ⟨z2, w2⟩ := Open.zdg hl2 (show 2 < 4 by decide); obtain ⟨b2, rfl⟩ := Open.zh7 (c := c7) p2 w2; have p3 : DataW.trod enc Tryz.prog W base sp held m 4 [c8] = zs[3]? := by have := g2 3 _ rfl; simpa [Value.cells, k_bool] using this
  obtain ⟨z3, w3⟩ := Open.zdg hl2 (show 3 < 4 by decide); obtain ⟨b3, rfl⟩ := Open.zh7 (c := c8) p3 w3; exact ⟨⟨x0, x1, x2, x3, x4, ⟨b0, b1, b2, b3⟩⟩, rfl, u0, u2, u3⟩
theorem open_dg {v : Value} {d : DataW H} {p : List MemPlace} (hv : Value.okWide Tryz.prog W r b0 97 v) (h : DataW.Trod enc Tryz.prog W base sp held 97 v d p) :
 ∃ q : Dg, v = .agg #[.int .u8 q.k, .int .i64 q.id, .int .u64 q.va, .int .u64 q.pa, .int .i64 q.lev, .bool q.p.r, .bool q.p.w, .bool q.p.x, .bool q.p.u] ∧ UG q := by
 obtain ⟨⟨l⟩, rfl, hsz⟩ := okWide_struct Tryz.underlying97 hv; rw [show Tryz.prog.cellsOf 97 = 9 by kernel_rfl] at hsz; obtain ⟨fuel, hf⟩ := h; obtain ⟨q, e, hq⟩ := ztr (cs := l) hsz hf; exact ⟨q, by rw [e]; rfl, hq⟩
theorem z1g (l : List Dg) : (z1f l).length = l.length * 9 := by
 induction l with
 | nil => rfl
 | cons c l ih => show ((_ :: _ :: _ :: _ :: _ :: _ :: _ :: _ :: _ :: z1f l).length) = _; simp only [List.length_cons, ih]; omega
theorem zts : ∀ (l : List Dg) (i j : Nat) (q : Dg), l[i]? = some q → j < 9 → (z1f l)[i * 9 + j]? = q.vs[j]?
 | [], i, j, q, h, _ => by simp at h
 | x :: l, 0, j, q, h, hj => by
  simp at h; subst h; show (x.vs ++ z1f l)[0 * 9 + j]? = _; rw [Nat.zero_mul, Nat.zero_add, List.getElem?_append_left (by show j < 9; exact hj)]
 | x :: l, i + 1, j, q, h, hj => by
  have := zts l i j q (by simpa using h) hj; show (x.vs ++ z1f l)[(i + 1) * 9 + j]? = _; rw [List.getElem?_append_right (by show 9 ≤ _; omega), show (i + 1) * 9 + j - x.vs.length = i * 9 + j by show (i + 1) * 9 + j - 9 = _; omega]
  exact this
theorem open_dgs {v : Value} {d : DataW H} {p : List MemPlace} (hv : Value.okWide Tryz.prog W r b0 95 v) (h : DataW.Trod enc Tryz.prog W base (fun _ => true) held 95 v d p) :
 ∃ l : List Dg, (∀ x ∈ l, UG x) ∧ Ce.R (en0 (fun _ => True) W) (.s l.length 9 (z1f l)) v := by
 obtain ⟨a, len, cap, rfl⟩ := okWide_slice Tryz.underlying95 hv; obtain ⟨fuel, hf⟩ := h; have hf : DataW.trod enc Tryz.prog W base (fun _ => true) held fuel 95 [.slice a len cap] = some (d, p) := hf; have ke : Tryz.prog.cellsOf 97 = 9 := by kernel_rfl
 rcases Deep.open_slice Tryz.underlying95 hf with ⟨e, _⟩ | ⟨a', len', cap', m, k, D, Pl, e, _, hl, hm, hmm, _, hx⟩
 · simp only [List.cons.injEq, and_true] at e; refine ⟨[], fun x hx => (by cases hx), ?_⟩; rw [e]; exact ⟨⟨rfl, .inl ⟨rfl, rfl⟩⟩, fun a l c e => by cases e⟩
 · simp only [List.cons.injEq, and_true, Value.slice.injEq] at e; obtain ⟨rfl, rfl, rfl⟩ := e; have hok : Cell.ok Tryz.prog W r b0 95 (.slice (some a') len cap) := by
    have hv := hv; unfold Value.okWide at hv; rw [Tryz.underlying95] at hv; unfold Cell.okWide at hv; rw [Tryz.underlying95] at hv; exact hv
   unfold Cell.ok at hok; rw [Tryz.underlying95] at hok; obtain ⟨_, _, _, hsp, row, cells, hsh, _⟩ := hok; obtain ⟨b, off, spot⟩ := a'; have hsp : spot = none := hsp; subst hsp; have hb : b < W.heap.size := by
    rcases Nat.lt_or_ge b W.heap.size with h | h
    · exact h
    · have hsh : W.shape? b = some (row, cells) := hsh; unfold World.shape? at hsh; rw [Array.getElem?_eq_none h] at hsh; cases hsh
   have ku : ∀ i, i < len → ∃ q : Dg, (∀ j, j < 9 → W.cell? ⟨b, off + (i * 9 + j), none⟩ = q.vs[j]?) ∧ UG q := fun i hi => by
    obtain ⟨cs, g1, g2⟩ := hx i (by rw [hmm]; simp; omega)
    rw [ke] at g1; obtain ⟨_, hlen, hcell⟩ := World.cells?_some g1; obtain ⟨q, rfl, hq⟩ := ztr hlen g2; refine ⟨q, fun j hj => ?_, hq⟩; have e0 := hcell j (by omega); rw [addk, addk] at e0; rw [← e0, Nat.add_assoc]
   haveI : Inhabited Dg := ⟨⟨0, 0, 0, 0, 0, ⟨false, false, false, false⟩⟩⟩; obtain ⟨f, hf⟩ := Deep.choose_lt (α := Dg) (p := fun i q => (∀ j, j < 9 → W.cell? ⟨b, off + (i * 9 + j), none⟩ = q.vs[j]?) ∧ UG q) ku; have hlen : ((List.range len).map f).length = len := by simp
   refine ⟨(List.range len).map f, fun x hx => ?_, ⟨by rw [z1g], .inr ⟨b, off, cap, by rw [hlen], hb, by rw [hlen]; exact hl, hm, fun i hi => ?_⟩⟩, fun _ _ _ _ => trivial⟩
   · obtain ⟨i, hi, rfl⟩ := List.mem_map.1 hx; exact (hf i (List.mem_range.1 hi)).2
   · rw [hlen] at hi; have hi2 : i / 9 < len := by omega
     obtain ⟨e0, _⟩ := hf (i / 9) hi2; have hg := zts ((List.range len).map f) (i / 9) (i % 9) (f (i / 9)) (by simp [hi2]) (by omega); have e1 := e0 (i % 9) (by omega); rw [show i / 9 * 9 + i % 9 = i by omega] at hg e1; rw [hg]; exact e1
end
end Laid
namespace LnA
open Go.RowKit Bv VaSpec Base MemL RegR Ax MemC PutC MemC3 TzC OkS SpA SpB SpC SpD SpF SpN SpH SpI SpJ LaA LaB LaC LaD LaE LaG LiA LiB LiC LiE LrA LjA LjF LkE LmA LmE
open PteSpec
theorem ztt : ∀ (xs ys : List (Int × Int)), Srt xs → Srt ys → (∀ c ∈ xs, c.2 ≠ 0) → (∀ c ∈ ys, c.2 ≠ 0) → (∀ a, MemC.look xs a = MemC.look ys a) → xs = ys
 | [], [], _, _, _, _, _ => rfl
 | [], d :: ys, _, hs, _, h0, he => absurd ((look_mem hs (List.mem_cons_self ..)).symm.trans (he d.1).symm) (h0 d (List.mem_cons_self ..))
 | c :: xs, [], hs, _, h0, _, he => absurd ((look_mem hs (List.mem_cons_self ..)).symm.trans (he c.1)) (h0 c (List.mem_cons_self ..))
 | c :: xs, d :: ys, hs, gs, h0, g0, he => by
  have hs' := List.pairwise_cons.1 hs; have gs' := List.pairwise_cons.1 gs; have e1 := he c.1; have e2 := he d.1; rw [look_mem hs (List.mem_cons_self ..)] at e1; rw [look_mem gs (List.mem_cons_self ..)] at e2; have n1 := h0 c (List.mem_cons_self ..); have n2 := g0 d (List.mem_cons_self ..); by_cases h1 : c.1 < d.1
  · rw [zdb fun z hz => by
     rcases List.mem_cons.1 hz with rfl | hz
     · omega
     · have := gs'.1 z hz; omega] at e1
    exact absurd e1 n1
  by_cases h2 : d.1 < c.1
  · rw [zdb fun z hz => by
     rcases List.mem_cons.1 hz with rfl | hz
     · omega
     · have := hs'.1 z hz; omega] at e2
    exact absurd e2.symm n2
  have h3 : c.1 = d.1 := by omega
  rw [← h3, look_mem hs (List.mem_cons_self ..)] at e2; have hcd : c = d := Prod.ext h3 e2; subst hcd
  congr 1
  refine ztt xs ys hs'.2 gs'.2 (fun z hz => h0 z (List.mem_cons_of_mem _ hz)) (fun z hz => g0 z (List.mem_cons_of_mem _ hz)) fun a => ?_; by_cases h4 : c.1 < a
  · have := he a; rw [zdd, zdd, if_pos h4, if_pos h4] at this; exact this
  · rw [zdb fun z hz => by have := hs'.1 z hz; omega, zdb fun z hz => by have := gs'.1 z hz; omega]
theorem z44 {u v : Int} (hu : U u) (hv : U v) (h : zay u = zay v) : u = v := by
 rw [← zif u hu.1 hu.2, h, zif v hv.1 hv.2]
theorem z2l {cd cp sz f sh f' sh' : Int} {xs ys : List (Int × Int)} {lv lv' : Int → Int} (h : TI cd cp sz xs f sh lv) (g : TI cd cp sz ys f' sh' lv') (he : ∀ s j, (0 ≤ j ∧ j < 512) → atM sz xs s j = atM sz ys s j) : xs = ys := by
 refine ztt _ _ h.s g.s (fun c hc => (h.r c hc).2.2) (fun c hc => (g.r c hc).2.2) fun a => ?_; by_cases ha : cd * 512 ≤ a ∧ a < (cd + cp) * 512
 · have e := he (a / 512) (a % 512) (by omega); have bz := h.bz; unfold atM zbs at e; rw [if_pos (by omega), if_pos (by omega), show (a / 512 * 4096 + a % 512 * 8) / 8 = a by omega] at e; exact z44 (zxa h.u a) (zxa g.u a) e
 · rw [zdb fun c hc e => ha (by rw [← e]; exact (h.r c hc).1), zdb fun c hc e => ha (by rw [← e]; exact (g.r c hc).1)]
theorem zyv {sz : Int} {p : Pm} {a b : List (Int × Int)} (h : Shp sz p a b) : ∀ (l : Nat) (t : Int), frN sz b l t = frN sz a l t
 | 0, t => rfl
 | l + 1, t => by
  simp only [frN]
  congr 1
  rw [List.flatMap_def, List.flatMap_def]
  congr 1
  refine List.map_congr_left fun i hi => ?_; have hi := List.mem_range.1 hi; rcases h t i (by omega) with e | ⟨e1, e2, _⟩
  · rw [e]
    split
    · exact zyv h l _
    · rfl
  · rw [zgt _ e1, zgt _ e2]
    rfl
theorem zb8 (sz : Int) (xs : List (Int × Int)) (l : Nat) (t : Int) : t ∈ frN sz xs l t := by
 cases l <;> simp [frN]
theorem zji (sz : Int) (xs : List (Int × Int)) (addr zam : Int) (hw : 0 ≤ zam) : ∀ (l : Nat) (t : Int), (zao sz xs addr zam l t).1 ∈ frN sz xs l t
 | 0, t => zb8 _ _ _ _
 | l + 1, t => by
  have hi := idx_bd addr ((l + 1 : Nat) : Int); by_cases c1 : zam < ((l + 1 : Nat) : Int)
  · cases c : za2 (atM sz xs t (idx addr ((l + 1 : Nat) : Int))) ((l + 1 : Nat) : Int) with
    | true =>
     rw [zbk c1 c]; have IH := zji sz xs addr zam hw l (atM sz xs t (idx addr ((l + 1 : Nat) : Int))).ppn; simp only [frN, List.mem_cons]; refine .inr (List.mem_flatMap.2 ⟨(idx addr ((l + 1 : Nat) : Int)).toNat, List.mem_range.2 (by omega), ?_⟩); rw [show (((idx addr ((l + 1 : Nat) : Int)).toNat : Nat) : Int) = idx addr ((l + 1 : Nat) : Int) by omega, if_pos c]; exact IH
    | false =>
     rw [zbh (fun _ => c) hw]; exact zb8 _ _ _ _
  · rw [zbh (fun hh => absurd hh c1) hw]; exact zb8 _ _ _ _
section
variable {cd cp sz f sh : Int} {xs : List (Int × Int)} {lv : Int → Int}
theorem ztu (h : TI cd cp sz xs f sh lv) {p : Pm} (hp : zcb p = true) (l : Nat) (t b : Int) (hl2 : l ≤ 2) (ht : Al cd cp f t) (hl : lv t = l) (hb : m39 b % (512 * VaSpec.sz l) = 0) : ∀ (ys : List Pg), (∀ y ∈ ys, y ∈ za7 sz xs l t b) → ∀ xs', Pnt cd cp sz f sh lv p xs xs' → ∀ s j, (0 ≤ j ∧ j < 512) → s ∉ frN sz xs l t → atM sz (zlt sz l t p ys xs') s j = atM sz xs' s j
 | [], _, xs', g, s, j, hj, hs => rfl
 | y :: ys, hy, xs', g, s, j, hj, hs => by
  obtain ⟨t', r1, r2, r3⟩ := zgb h l t b y hl2 ht hl hb (hy y (by simp)); have hm := zji sz xs y.va y.lev r2.1 l t; rw [r1] at hm; have hi := idx_bd y.va y.lev; unfold zlt; rw [g.s.reach, r1]; rw [ztu h hp l t b hl2 ht hl hb ys (fun z hz => hy z (by simp [hz])) _ (g.go h hp hi r3) s j hj hs]; obtain ⟨_, q, _⟩ := zir g.t hi (g.s.leaf hi r3) hp; show atM sz (zml sz xs' t' (idx y.va y.lev) p) s j = _; rw [q s j hj, if_neg]; rintro ⟨e, _⟩; exact hs (e ▸ hm)
theorem ztv (h : TI cd cp sz xs f sh lv) {t a : Int} {l' : Nat} {e : Int} {p : Pm} (hp : zcb p = true) (l2 : l' ≤ 2) (hlv : lv t = (l' : Int)) (hm : m39 a % VaSpec.sz (l' : Int) = 0)
 (hor : zas (atM sz xs t (idx a (l' : Int))) = true ∨ lkP (atM sz xs t (idx a (l' : Int))) = true) :
 Shp sz p xs (prM sz (xs, f, (t, (l' : Int)), e) a p) ∧
 ∀ s j, (0 ≤ j ∧ j < 512) → ¬ (s = t ∧ j = idx a (l' : Int)) → (lkP (atM sz xs t (idx a (l' : Int))) = true → s ∉ frN sz xs ((l' : Int) - 1).toNat (atM sz xs t (idx a (l' : Int))).ppn) → atM sz (prM sz (xs, f, (t, (l' : Int)), e) a p) s j = atM sz xs s j := by
 have hi := idx_bd a (l' : Int); rcases hor with h1 | h1
 · have e0 : prM sz (xs, f, (t, (l' : Int)), e) a p = zml sz xs t (idx a (l' : Int)) p := if_pos h1; rw [e0]; have g := Pnt.go h hp ⟨h, Shp.refl _ _ _, Nat.le_refl _⟩ hi h1; refine ⟨g.s, fun s j hj hn _ => ?_⟩; rw [(zir h hi h1 hp).2.1 s j hj, if_neg hn]
 · have e0 : prM sz (xs, f, (t, (l' : Int)), e) a p = zlt sz ((l' : Int) - 1).toNat (atM sz xs t (idx a (l' : Int))).ppn p (za7 sz xs ((l' : Int) - 1).toNat (atM sz xs t (idx a (l' : Int))).ppn a) xs := if_neg (by show ¬ zas (atM sz xs t (idx a (l' : Int))) = true; rw [(za8 h1).2.2]; simp)
   rw [e0]; obtain ⟨_, k2, k3, k4⟩ := zb5 h hi h1; obtain ⟨m, rfl⟩ : ∃ m : Nat, l' = m + 1 := ⟨l' - 1, by omega⟩; rw [show (((m + 1 : Nat) : Int) - 1).toNat = m by omega]; have g0 : Pnt cd cp sz f sh lv p xs xs := ⟨h, Shp.refl _ _ _, Nat.le_refl _⟩; have g := zsc h hp m (atM sz xs t (idx a ((m + 1 : Nat) : Int))).ppn a (by omega) k4 (by rw [k3, hlv]; omega) (zk4 (by omega) hm) (za7 sz xs m (atM sz xs t (idx a ((m + 1 : Nat) : Int))).ppn a) (fun y hy => hy) xs g0
   exact ⟨g.s, fun s j hj _ hs => ztu h hp m (atM sz xs t (idx a ((m + 1 : Nat) : Int))).ppn a (by omega) k4 (by rw [k3, hlv]; omega) (zk4 (by omega) hm) _ (fun y hy => hy) xs g0 s j hj (hs h1)⟩
theorem z2m (h : TI cd cp sz xs f sh lv) {t a e : Int} {l' : Nat} (ht : Al cd cp f t) (s j : Int) (hj : 0 ≤ j ∧ j < 512) :
 atM sz (zba sz (zdu sz cd cp (xs, f, (t, (l' : Int)), e) a).1 t (idx a (l' : Int)) zP) s j = if s = t ∧ j = idx a (l' : Int) then zP else if zbf (atM sz xs t (idx a (l' : Int))) = true ∧ s ∈ frN sz xs ((l' : Int) - 1).toNat (atM sz xs t (idx a (l' : Int))).ppn then zP else atM sz xs s j := by
 have hi := idx_bd a (l' : Int); have b1 := h.bd; have bt := ht.1; have hz : ∀ ys : List (Int × Int), zba sz ys t (idx a (l' : Int)) zP = zb3 ys (t * 512 + idx a (l' : Int)) 0 := fun ys => by
  rw [zem z17 (by omega) hi (by rw [h.bz]; omega), zpn]
 rw [hz]; by_cases c : zbf (atM sz xs t (idx a (l' : Int))) = true
 · have e1 : zdu sz cd cp (xs, f, (t, (l' : Int)), e) a = bkN cd cp (frN sz xs ((l' : Int) - 1).toNat (atM sz xs t (idx a (l' : Int))).ppn) (xs, f) := if_pos c; rw [e1]; have hb := zgp cd cp sz h.bp (frN sz xs ((l' : Int) - 1).toNat (atM sz xs t (idx a (l' : Int))).ppn) (xs, f) h.s h.bf; rw [zhc (cd := cd) (cp := cp) hb.s h.bz (by omega) hi s j hj, hb.e s j hj]
   split
   · rfl
   · by_cases d : s ∈ frN sz xs ((l' : Int) - 1).toNat (atM sz xs t (idx a (l' : Int))).ppn
     · rw [if_pos d, if_pos ⟨c, d⟩]
     · rw [if_neg d, if_neg fun hh => d hh.2]
 · have e1 : zdu sz cd cp (xs, f, (t, (l' : Int)), e) a = (xs, f) := if_neg c; rw [e1, zhc (cd := cd) (cp := cp) h.s h.bz (by omega) hi s j hj, if_neg (fun hh : _ ∧ _ => c hh.1)]
end
theorem zn4 {sz cd addr zam top f : Int} {xs : List (Int × Int)} {l : Nat} (h : (zao sz xs addr zam l top).2 = zam ∨ zas (atM sz xs (zao sz xs addr zam l top).1 (idx addr (zao sz xs addr zam l top).2)) = false) : ∀ n : Nat, toN sz cd addr zam top l n xs f = (xs, f, zao sz xs addr zam l top, 0)
 | 0 => rfl
 | n + 1 => by unfold toN; rw [if_pos h]
def pmE (q : Pte) : Pm := ⟨q.r, q.w, q.x, q.u⟩
section
variable {cd cp sz sh : Int}
theorem zyw (addr zam top : Int) (l : Nat) (hw : 0 ≤ zam) (hwl : zam ≤ (l : Int)) (hl2 : l ≤ 2) (pm : Pm) : ∀ (n : Nat) (xs : List (Int × Int)) (f : Int) (lv : Int → Int), TI cd cp sz xs f sh lv → Al cd cp f top → Al cd cp f sh → lv top = l →
 (zas (atM sz xs (zao sz xs addr zam l top).1 (idx addr (zao sz xs addr zam l top).2)) = true ∧ pmE (atM sz xs (zao sz xs addr zam l top).1 (idx addr (zao sz xs addr zam l top).2)) = pm) →
 (toN sz cd addr zam top l n xs f).2.2.2 = 0 → zas (atM sz (toN sz cd addr zam top l n xs f).1 (toN sz cd addr zam top l n xs f).2.2.1.1 (idx addr (toN sz cd addr zam top l n xs f).2.2.1.2)) = true ∧ pmE (atM sz (toN sz cd addr zam top l n xs f).1 (toN sz cd addr zam top l n xs f).2.2.1.1 (idx addr (toN sz cd addr zam top l n xs f).2.2.1.2)) = pm
 | 0, xs, f, lv, h, ht, _, hl, hor, _ => hor
 | n + 1, xs, f, lv, h, ht, hsh, hl, hor, he => by
  obtain ⟨l', t', i1, i2, i3, i4, i5, i6, i7⟩ := zci h addr zam hw l top ht hl hwl; rw [i1] at hor; unfold toN at he ⊢; rw [i1] at he ⊢; by_cases c1 : (l' : Int) = zam ∨ zas (atM sz xs t' (idx addr (l' : Int))) = false
  · rw [if_pos c1]; exact hor
  · rw [if_neg c1] at he ⊢; have c2 : ¬ (l' : Int) = zam := fun e => c1 (.inl e); have hlf : zas (atM sz xs t' (idx addr (l' : Int))) = true := hor.1; by_cases c4 : f = 0
    · rw [if_pos c4] at he; cases he
    · rw [if_neg c4] at he ⊢; obtain ⟨m, rfl⟩ : ∃ m : Nat, l' = m + 1 := ⟨l' - 1, by omega⟩; have hi := idx_bd addr ((m + 1 : Nat) : Int); have hbad : zco (atM sz xs t' (idx addr ((m + 1 : Nat) : Int))) ((m + 1 : Nat) : Int) = false := by
       rcases h.e.k t' _ hi with e | ⟨_, _, ⟨_, e⟩ | ⟨e, _⟩⟩
       · rw [e] at hlf; cases hlf
       · rw [i5] at e; exact e
       · rw [(za8 e).2.2] at hlf; cases hlf
      obtain ⟨a0, a1, a2, a3⟩ := zch h c4; have hT := zkt h c4 i4 hsh hi i5 (by omega) rfl hlf hbad; obtain ⟨s1, s2⟩ := zh2 h c4 addr zam hw i4 i5 (by omega) (by omega) hlf hbad; have hre := (i7 _ s1).trans s2; have hat := zks h c4 i4 hi (l := ((m + 1 : Nat) : Int)) (by omega) rfl hlf hbad (cd + tzI f) (idx addr (m : Int)) (idx_bd addr _); rw [if_neg (by rintro ⟨e, _⟩; exact (a0 _ i4).2 e.symm), if_pos rfl] at hat
      refine zyw addr zam top l hw hwl hl2 pm n _ _ _ hT (a0 _ ht).1 (a0 _ hsh).1 ((if_neg (a0 _ ht).2).trans hl) ?_ he; show zas (atM sz (zfk sz xs t' (idx addr ((m + 1 : Nat) : Int)) ((m + 1 : Nat) : Int) (atM sz xs t' (idx addr ((m + 1 : Nat) : Int))) (cd + tzI f)) (zao sz (zfk sz xs t' (idx addr ((m + 1 : Nat) : Int)) ((m + 1 : Nat) : Int) (atM sz xs t' (idx addr ((m + 1 : Nat) : Int))) (cd + tzI f)) addr zam l top).1 (idx addr (zao sz (zfk sz xs t' (idx addr ((m + 1 : Nat) : Int)) ((m + 1 : Nat) : Int) (atM sz xs t' (idx addr ((m + 1 : Nat) : Int))) (cd + tzI f)) addr zam l top).2)) = true ∧ pmE (atM sz (zfk sz xs t' (idx addr ((m + 1 : Nat) : Int)) ((m + 1 : Nat) : Int) (atM sz xs t' (idx addr ((m + 1 : Nat) : Int))) (cd + tzI f)) (zao sz (zfk sz xs t' (idx addr ((m + 1 : Nat) : Int)) ((m + 1 : Nat) : Int) (atM sz xs t' (idx addr ((m + 1 : Nat) : Int))) (cd + tzI f)) addr zam l top).1 (idx addr (zao sz (zfk sz xs t' (idx addr ((m + 1 : Nat) : Int)) ((m + 1 : Nat) : Int) (atM sz xs t' (idx addr ((m + 1 : Nat) : Int))) (cd + tzI f)) addr zam l top).2)) = pm; rw [hre]; show zas (atM sz (zfk sz xs t' (idx addr ((m + 1 : Nat) : Int)) ((m + 1 : Nat) : Int) (atM sz xs t' (idx addr ((m + 1 : Nat) : Int))) (cd + tzI f)) (cd + tzI f) (idx addr (m : Int))) = true ∧ pmE (atM sz (zfk sz xs t' (idx addr ((m + 1 : Nat) : Int)) ((m + 1 : Nat) : Int) (atM sz xs t' (idx addr ((m + 1 : Nat) : Int))) (cd + tzI f)) (cd + tzI f) (idx addr (m : Int))) = pm; rw [hat]; exact hor
end
section
variable {cd cp sz f sh : Int} {xs xs' : List (Int × Int)} {lv : Int → Int}
theorem zvc (h : TI cd cp sz xs f sh lv) (h' : TI cd cp sz xs' f sh lv) {p : Pm} (hs : Shp sz p xs xs') : ∀ (l : Nat) (t b : Int), lv t = l → (∃ y, y ∈ za7 sz xs l t b) → ∃ y, y ∈ za7 sz xs' l t b := by
 intro l
 induction l with
 | zero =>
  intro t b hl ⟨y, hy⟩; obtain ⟨i, hi, c0, ⟨c1, _⟩ | ⟨_, m, e, _⟩⟩ := (zbp _ _ _ _ _ _).1 hy
  · have hi' : (0 : Int) ≤ (i : Int) ∧ (i : Int) < 512 := by omega
    have g := hs.leaf hi' c1; obtain ⟨_, _, g2⟩ := zew h' hi' g; rw [hl] at g2; exact ⟨_, (zbp _ _ _ _ _ _).2 ⟨i, hi, g2, .inl ⟨g, rfl⟩⟩⟩
  · omega
 | succ m ih =>
  intro t b hl ⟨y, hy⟩; obtain ⟨i, hi, c0, ⟨c1, _⟩ | ⟨c1, m', e, hy'⟩⟩ := (zbp _ _ _ _ _ _).1 hy
  · have hi' : (0 : Int) ≤ (i : Int) ∧ (i : Int) < 512 := by omega
    have g := hs.leaf hi' c1; obtain ⟨_, _, g2⟩ := zew h' hi' g; rw [hl] at g2; exact ⟨_, (zbp _ _ _ _ _ _).2 ⟨i, hi, g2, .inl ⟨g, rfl⟩⟩⟩
  · obtain rfl : m' = m := by omega
    have hi' : (0 : Int) ≤ (i : Int) ∧ (i : Int) < 512 := by omega
    rcases hs t i hi' with e0 | ⟨e1, _⟩
    · rcases h.e.k t i hi' with e2 | ⟨_, _, ⟨e2, _⟩ | ⟨e2, _⟩⟩
      · rw [e2] at c0; cases c0
      · rw [e2] at c1; cases c1
      · obtain ⟨_, k2, k3, k4⟩ := zb5 h hi' e2; obtain ⟨z, hz⟩ := ih (atM sz xs t i).ppn (adr b i ((m' + 1 : Nat) : Int)) (by rw [k3, hl]; omega) ⟨y, hy'⟩
        refine ⟨z, (zbp _ _ _ _ _ _).2 ⟨i, hi, by rw [e0]; exact c0, .inr ⟨by rw [e0]; exact c1, m', rfl, ?_⟩⟩⟩
        rw [e0]; exact hz
    · rw [e1] at c1; cases c1
end
end LnA
namespace LnC
open Go.RowKit Bv VaSpec Base MemL RegR Ax MemC PutC OkS SpA SpB SpH LaA LaB LaC LaD LaE LaF LaG LiA LiB LiC LiE SpE SpO SpN RfC RlA RlB RlC LaJ LjA LjB LjF LkE LmA LmB LmE LmH LnA
open PteSpec
attribute [local irreducible] Ax.zbr
theorem z8u {n : Nat} {k : Kr} (h : InvL n k) (hn : n ≤ 100000) : Ok 16 [.ag k.ce, .ag k.ce] (.m (ib true)) := by
 have b1 := h.ml; have b2 := h.fl; have b3 := h.sl; exact SpM.z30 k h.ts h.cs.2 (by omega) (by omega) (by omega)
theorem inRl {n : Nat} {k : Kr} (h : InvT n k) (id a l : Int) (ha : U a) : (inR k id a l).length ≤ 134217728 := by
 unfold inR; by_cases c : (zal k id a l).2.2 = 0
 · rw [if_neg (by omega)]; obtain ⟨l', t', e, h2, _⟩ := zr9 (id := id) (a := a) (l := l) h c; rw [e]; exact Nat.le_trans (zn2 k.sz k.m _ _ _ (ztl ha (by omega) (by omega)) (by show (l' : Int) ≤ 2; omega)).1 (by omega)
 · rw [if_pos c]; simp
end LnC
namespace LnB
open Go.RowKit Bv VaSpec Base MemL RegR Ax MemC PutC TzC OkS SpA SpB SpC SpD SpF SpN SpH SpI LaA LaB LaC LaD LaE LaG LiA LiB LiC LiE LiF LrA LjA LjF LkE LmA LmE LnA
open BitsC PteSpec RfG RfJ RfK LaH RfP RfQ
inductive Tr where
 | no
 | lf (p : Pte)
 | tb (f : Int → Tr)
def upd (f : Int → Tr) (i : Int) (r : Tr) : Int → Tr := fun j => if j = i then r else f j
theorem zg1 (f : Int → Tr) (i : Int) (r : Tr) : upd f i r i = r := if_pos rfl
theorem zgc (f : Int → Tr) {i j : Int} (r : Tr) (h : j ≠ i) : upd f i r j = f j := if_neg h
theorem zn5 (f : Int → Tr) (i : Int) (r s : Tr) : upd (upd f i r) i s = upd f i s := by
 funext j; unfold upd; split <;> rfl
theorem upd_comm (f : Int → Tr) {i j : Int} (r s : Tr) (h : i ≠ j) : upd (upd f i r) j s = upd (upd f j s) i r := by
 funext x; unfold upd
 by_cases h1 : x = i
 · rw [if_neg (by omega), if_pos h1, if_pos h1]
 · rw [if_neg h1]
   split <;> rfl
def zoe : Tr → Int → Tr
 | .tb f => f
 | _ => fun _ => .no
def z45 : Tr → Bool
 | .no => true
 | _ => false
def z5q : Tr → Bool
 | .lf _ => true
 | _ => false
def zis (a zam : Int) (q : Pte) : Nat → Tr → Option Tr
 | 0, tr => if z45 tr then some (.lf q) else none
 | l + 1, tr => if zam = ((l + 1 : Nat) : Int) then (if z45 tr then some (.lf q) else none)
  else if z5q tr then none
  else (zis a zam q l (zoe tr (idx a (l : Int)))).map fun r => .tb (upd (zoe tr) (idx a (l : Int)) r)
def ze0 (a zam : Int) (q : Pte) (l : Nat) (f : Int → Tr) : Option (Int → Tr) := (zis a zam q l (f (idx a (l : Int)))).map fun r => upd f (idx a (l : Int)) r
theorem zfs {a zam : Int} {q : Pte} {l : Nat} {tr : Tr} (h : zam ≠ ((l + 1 : Nat) : Int)) (hl : z5q tr = false) : zis a zam q (l + 1) tr = (ze0 a zam q l (zoe tr)).map .tb := by
 unfold ze0; show (if zam = ((l + 1 : Nat) : Int) then _ else if z5q tr = true then none else _) = _; rw [if_neg h, hl, if_neg (by simp)]; cases zis a zam q l (zoe tr (idx a (l : Int))) <;> rfl
theorem ziz {a zam : Int} {q : Pte} {l : Nat} {tr : Tr} (h : zam = (l : Int)) : zis a zam q l tr = if z45 tr then some (.lf q) else none := by
 cases l with
 | zero => rfl
 | succ l => exact if_pos h
theorem zmm {a zam : Int} {q p : Pte} {l : Nat} : zis a zam q l (.lf p) = none := by
 cases l with
 | zero => rfl
 | succ l =>
  show (if zam = ((l + 1 : Nat) : Int) then _ else _) = _
  split <;> rfl
theorem ztw {a zam : Int} {q : Pte} {l : Nat} {tr r : Tr} (h : zis a zam q l tr = some r) : z45 r = false := by
 cases l with
 | zero =>
  unfold zis at h
  split at h
  · simp only [Option.some.injEq] at h; subst h; rfl
  · cases h
 | succ l =>
  unfold zis at h
  split at h
  · split at h
    · simp only [Option.some.injEq] at h; subst h; rfl
    · cases h
  · split at h
    · cases h
    · obtain ⟨x, _, rfl⟩ := Option.map_eq_some_iff.1 h; rfl
theorem z1h (a w : Int) (q : Pte) (a' w' : Int) (q' : Pte) : ∀ (l : Nat) (tr A B : Tr), zis a w q l tr = some A → zis a' w' q' l A = some B → ∃ C, zis a' w' q' l tr = some C ∧ zis a w q l C = some B := by
 intro l
 induction l with
 | zero =>
  intro tr A B h1 h2; have hA := ztw h1; unfold zis at h2; rw [hA, if_neg (by simp)] at h2; cases h2
 | succ l ih =>
  intro tr A B h1 h2; have hA := ztw h1; by_cases w1 : w = ((l + 1 : Nat) : Int)
  · rw [ziz w1] at h1
    split at h1
    · simp only [Option.some.injEq] at h1; subst h1; rw [zmm] at h2; cases h2
    · cases h1
  by_cases w2 : w' = ((l + 1 : Nat) : Int)
  · rw [ziz w2, hA, if_neg (by simp)] at h2; cases h2
  have l1 : z5q tr = false := by
   cases tr with
   | lf p => rw [zmm] at h1; cases h1
   | no => rfl
   | tb f => rfl
  rw [zfs w1 l1] at h1; obtain ⟨F, hF, rfl⟩ := Option.map_eq_some_iff.1 h1; rw [zfs w2 rfl] at h2; obtain ⟨G, hG, rfl⟩ := Option.map_eq_some_iff.1 h2; have hG : ze0 a' w' q' l F = some G := hG; rw [zfs w2 l1]; unfold ze0 at hF hG; obtain ⟨r, hr, rfl⟩ := Option.map_eq_some_iff.1 hF; obtain ⟨s, hs, rfl⟩ := Option.map_eq_some_iff.1 hG; by_cases e : idx a' (l : Int) = idx a (l : Int)
  · rw [e, zg1] at hs; obtain ⟨c, hc, hb⟩ := ih _ _ _ hr hs; refine ⟨.tb (upd (zoe tr) (idx a (l : Int)) c), ?_, ?_⟩
    · unfold ze0; rw [e, hc]; rfl
    · rw [zfs w1 rfl]; unfold ze0; show ((zis a w q l (upd (zoe tr) (idx a (l : Int)) c (idx a (l : Int)))).map _).map _ = _; rw [zg1, hb]; show some (Tr.tb (upd (upd (zoe tr) (idx a (l : Int)) c) (idx a (l : Int)) s)) = some (Tr.tb (upd (upd (zoe tr) (idx a (l : Int)) r) (idx a' (l : Int)) s)); rw [e, zn5, zn5]
  · rw [zgc _ _ e] at hs; refine ⟨.tb (upd (zoe tr) (idx a' (l : Int)) s), ?_, ?_⟩
    · unfold ze0; rw [hs]; rfl
    · rw [zfs w1 rfl]; unfold ze0; show ((zis a w q l (upd (zoe tr) (idx a' (l : Int)) s (idx a (l : Int)))).map _).map _ = _; rw [zgc _ _ (fun hh => e hh.symm), hr]; show some (Tr.tb (upd (upd (zoe tr) (idx a' (l : Int)) s) (idx a (l : Int)) r)) = some (Tr.tb (upd (upd (zoe tr) (idx a (l : Int)) r) (idx a' (l : Int)) s)); rw [upd_comm _ _ _ e]
theorem zyx {a w : Int} {q : Pte} {a' w' : Int} {q' : Pte} {l : Nat} {F A B : Int → Tr} (h1 : ze0 a w q l F = some A) (h2 : ze0 a' w' q' l A = some B) : ∃ C, ze0 a' w' q' l F = some C ∧ ze0 a w q l C = some B := by
 unfold ze0 at *; obtain ⟨r, hr, rfl⟩ := Option.map_eq_some_iff.1 h1; obtain ⟨s, hs, rfl⟩ := Option.map_eq_some_iff.1 h2; by_cases e : idx a' (l : Int) = idx a (l : Int)
 · rw [e, zg1] at hs; obtain ⟨c, hc, hb⟩ := z1h a w q a' w' q' l _ _ _ hr hs; refine ⟨upd F (idx a (l : Int)) c, by rw [e, hc]; rfl, ?_⟩
   rw [zg1, hb]; show some (upd (upd F (idx a (l : Int)) c) (idx a (l : Int)) s) = some (upd (upd F (idx a (l : Int)) r) (idx a' (l : Int)) s); rw [e, zn5, zn5]
 · rw [zgc _ _ e] at hs; refine ⟨upd F (idx a' (l : Int)) s, by rw [hs]; rfl, ?_⟩
   rw [zgc _ _ (fun hh => e hh.symm), hr]; show some (upd (upd F (idx a' (l : Int)) s) (idx a (l : Int)) r) = some (upd (upd F (idx a (l : Int)) r) (idx a' (l : Int)) s); rw [upd_comm _ _ _ e]
theorem zyy (a w : Int) (q q' : Pte) : ∀ (l : Nat) (tr A : Tr), zis a w q l tr = some A → zis a w q' l A = none := by
 intro l
 induction l with
 | zero =>
  intro tr A h1; have hA := ztw h1; unfold zis; rw [hA, if_neg (by simp)]
 | succ l ih =>
  intro tr A h1; have hA := ztw h1; by_cases w1 : w = ((l + 1 : Nat) : Int)
  · rw [ziz w1, hA, if_neg (by simp)]
  have l1 : z5q tr = false := by
   cases tr with
   | lf p => rw [zmm] at h1; cases h1
   | no => rfl
   | tb f => rfl
  rw [zfs w1 l1] at h1; obtain ⟨F, hF, rfl⟩ := Option.map_eq_some_iff.1 h1; unfold ze0 at hF; obtain ⟨r, hr, rfl⟩ := Option.map_eq_some_iff.1 hF; rw [zfs w1 rfl]; unfold ze0; show ((zis a w q' l (upd (zoe tr) (idx a (l : Int)) r (idx a (l : Int)))).map _).map _ = _; rw [zg1, ih _ _ hr]
  rfl
theorem zvd {a w : Int} {q q' : Pte} {l : Nat} {F A : Int → Tr} (h1 : ze0 a w q l F = some A) : ze0 a w q' l A = none := by
 unfold ze0 at *; obtain ⟨r, hr, rfl⟩ := Option.map_eq_some_iff.1 h1; rw [zg1, zyy a w q q' l _ _ hr]
 rfl
def zvj (f : Int → Nat) : Nat → Nat
 | 0 => 0
 | n + 1 => zvj f n + f (n : Int)
theorem ztx {f g : Int → Nat} : ∀ (n : Nat), (∀ i : Nat, i < n → f i = g i) → zvj f n = zvj g n
 | 0, _ => rfl
 | n + 1, h => by
  show zvj f n + f n = zvj g n + g n; rw [ztx n fun i hi => h i (by omega), h n (by omega)]
theorem zty {f g : Int → Nat} {i : Int} : ∀ (n : Nat), (0 ≤ i ∧ i < n) → (∀ j, j ≠ i → g j = f j) → zvj g n + f i = zvj f n + g i
 | 0, hi, _ => by omega
 | n + 1, hi, h => by
  show zvj g n + g n + f i = zvj f n + f n + g i; by_cases e : i = (n : Int)
  · subst e; rw [ztx n fun j hj => h j (by omega)]; omega
  · have := zty (f := f) (g := g) n (by omega) h; have := h n (fun hh => e hh.symm); omega
theorem zp7 : ∀ (n : Nat), zvj (fun _ => 0) n = 0
 | 0 => rfl
 | n + 1 => zp7 n
def zn6 : Tr → Nat
 | .tb f => 1 + zvj (fun i => zn6 (f i)) 512
 | _ => 0
def zi0 (f : Int → Tr) : Nat := zvj (fun i => zn6 (f i)) 512
theorem zfn (f : Int → Tr) (i : Int) (r : Tr) (hi : 0 ≤ i ∧ i < 512) : zi0 (upd f i r) + zn6 (f i) = zi0 f + zn6 r := by
 unfold zi0; have := zty (f := fun j => zn6 (f j)) (g := fun j => zn6 (upd f i r j)) (i := i) 512 (by omega) (fun j hj => by show zn6 (upd f i r j) = _; rw [zgc _ _ hj])
 have e : zn6 (upd f i r i) = zn6 r := by rw [zg1]
 simp only [e] at this; exact this
theorem z46 : zi0 (fun _ => Tr.no) = 0 := zp7 512
noncomputable def z47 (sz : Int) (xs : List (Int × Int)) : Nat → Pte → Tr
 | 0, p => if zas p then .lf p else .no
 | l + 1, p => if zas p then .lf p else if za2 p ((l + 1 : Nat) : Int) then .tb (fun j => if 0 ≤ j ∧ j < 512 then z47 sz xs l (atM sz xs p.ppn j) else .no) else .no
noncomputable def zdq (sz : Int) (xs : List (Int × Int)) (l : Nat) (t : Int) : Int → Tr := fun j => if 0 ≤ j ∧ j < 512 then z47 sz xs l (atM sz xs t j) else .no
theorem zep {sz : Int} {xs : List (Int × Int)} {l : Nat} {t j : Int} (hj : 0 ≤ j ∧ j < 512) : zdq sz xs l t j = z47 sz xs l (atM sz xs t j) := if_pos hj
theorem zeq {sz : Int} {xs : List (Int × Int)} {l : Nat} {p : Pte} (h : zas p = true) : z47 sz xs l p = .lf p := by
 cases l with
 | zero => exact if_pos h
 | succ l => exact if_pos h
theorem zer {sz : Int} {xs : List (Int × Int)} {l : Nat} {p : Pte} (h : lkP p = true) : z47 sz xs (l + 1) p = .tb (zdq sz xs l p.ppn) := by
 show (if zas p = true then _ else if za2 p ((l + 1 : Nat) : Int) = true then _ else _) = _; rw [(za8 h).2.2, if_neg (by simp), if_pos (zb7 h (by omega))]
 rfl
theorem zgd {sz : Int} {xs : List (Int × Int)} {l : Nat} : z47 sz xs l zP = .no := by
 cases l with
 | zero => rfl
 | succ l => rfl
theorem zjj {sz : Int} {xs xs' : List (Int × Int)} : ∀ (l : Nat) (t : Int), (∀ s ∈ frN sz xs l t, ∀ j, (0 ≤ j ∧ j < 512) → atM sz xs' s j = atM sz xs s j) → zdq sz xs' l t = zdq sz xs l t
 | 0, t, h => by
  funext j
  unfold zdq
  split
  · rename_i hj; rw [h t (zb8 _ _ _ _) j hj]
    rfl
  · rfl
 | l + 1, t, h => by
  funext j
  unfold zdq
  split
  · rename_i hj; rw [h t (zb8 _ _ _ _) j hj]; show (if zas (atM sz xs t j) = true then _ else if za2 (atM sz xs t j) ((l + 1 : Nat) : Int) = true then Tr.tb (zdq sz xs' l (atM sz xs t j).ppn) else _) = (if zas (atM sz xs t j) = true then _ else if za2 (atM sz xs t j) ((l + 1 : Nat) : Int) = true then Tr.tb (zdq sz xs l (atM sz xs t j).ppn) else _); cases c : za2 (atM sz xs t j) ((l + 1 : Nat) : Int) with
    | false => rfl
    | true =>
     rw [zjj l (atM sz xs t j).ppn fun s hs j' hj' => h s (by
      simp only [frN, List.mem_cons]; refine .inr (List.mem_flatMap.2 ⟨j.toNat, List.mem_range.2 (by omega), ?_⟩); rw [show ((j.toNat : Nat) : Int) = j by omega, if_pos c]
      exact hs) j' hj']
  · rfl
section
variable {cd cp sz f sh : Int} {xs : List (Int × Int)} {lv : Int → Int}
theorem zve (h : TI cd cp sz xs f sh lv) {l1 l2 : Nat} {t1 t2 : Int} (a1 : Al cd cp f t1) (a2 : Al cd cp f t2) (e1 : lv t1 = l1) (e2 : lv t2 = l2) (hl : l2 ≤ l1) (hns : ∀ g ∈ frN sz xs l2 t2, g ≠ t2 → g ≠ sh) : ∀ (d : Nat) (g : Int), lv t2 - lv g ≤ d → g ∈ frN sz xs l1 t1 → g ∈ frN sz xs l2 t2 → t2 ∈ frN sz xs l1 t1
 | 0, g, hd, h1, h2 => by
  obtain ⟨_, q2, q3⟩ := zbc h l2 t2 a2 e2 g h2; rcases q3 with rfl | ⟨s, hs, j, p1, p2, p3, p4⟩
  · exact h1
  · obtain ⟨_, _, r, _⟩ := zb5 h p1 p2; rw [p3] at r; omega
 | d + 1, g, hd, h1, h2 => by
  obtain ⟨_, q2, q3⟩ := zbc h l2 t2 a2 e2 g h2; obtain ⟨_, _, v3⟩ := zbc h l1 t1 a1 e1 g h1; by_cases hg : g = t2
  · rw [← hg]; exact h1
  rcases q3 with e | ⟨s, hs, j, p1, p2, p3, p4⟩
  · exact absurd e hg
  obtain ⟨_, _, r, _⟩ := zb5 h p1 p2; rw [p3] at r; rcases v3 with e | ⟨s', hs', j', p1', p2', p3', p4'⟩
  · rw [e] at r; omega
  · obtain ⟨u1, u2⟩ := h.e.u s j s' j' p1 p1' p2 p2' (p3.trans p3'.symm) (by rw [p3]; exact hns g h2 hg)
    subst u1; exact zve h a1 a2 e1 e2 hl hns d s (by omega) hs' hs
theorem zp8 (h : TI cd cp sz xs f sh lv) {l : Nat} {t : Int} (ha : Al cd cp f t) (e : lv t = l) (hl : l ≤ 1) : ∀ g ∈ frN sz xs l t, g ≠ t → g ≠ sh := fun g hg hne hs => by
 obtain ⟨_, _, q3⟩ := zbc h l t ha e g hg; rcases q3 with e | ⟨s, hs', j, p1, p2, p3, p4⟩
 · exact hne e
 · have := (h.e.s s j p1 p2 (p3.trans hs)).2; omega
theorem zsf (h : TI cd cp sz xs f sh lv) {l : Nat} {t i j g : Int} (ht : lv t = (l + 1 : Nat)) (h2 : l ≤ 1) (hi : 0 ≤ i ∧ i < 512) (hj : 0 ≤ j ∧ j < 512) (k1 : lkP (atM sz xs t i) = true) (k2 : lkP (atM sz xs t j) = true) (hns : (atM sz xs t i).ppn ≠ sh ∨ (atM sz xs t j).ppn ≠ sh) (g1 : g ∈ frN sz xs l (atM sz xs t i).ppn) (g2 : g ∈ frN sz xs l (atM sz xs t j).ppn) : i = j := by
 obtain ⟨_, _, r1, a1⟩ := zb5 h hi k1; obtain ⟨_, _, r2, a2⟩ := zb5 h hj k2; have e1 : lv (atM sz xs t i).ppn = l := by rw [r1, ht]; omega
 have e2 : lv (atM sz xs t j).ppn = l := by rw [r2, ht]; omega
 obtain ⟨_, q2, _⟩ := zbc h l _ a2 e2 g g2; have hm := zve h a1 a2 e1 e2 (Nat.le_refl _) (zp8 h a2 e2 h2) l g (by omega) g1 g2; obtain ⟨_, _, v⟩ := zbc h l _ a1 e1 _ hm; rcases v with e | ⟨s, _, j', p1, p2, p3, p4⟩
 · rcases hns with hns | hns
   · exact (h.e.u t i t j hi hj k1 k2 e.symm hns).2
   · exact (h.e.u t j t i hj hi k2 k1 e hns).2.symm
 · obtain ⟨_, _, r, _⟩ := zb5 h p1 p2; rw [p3] at r; omega
end
def pgsE : Nat → Int → Tr → List Pg
 | 0, b, tr => match tr with
  | .lf p => [zxi p b 0]
  | _ => []
 | l + 1, b, tr => match tr with
  | .lf p => [zxi p b ((l + 1 : Nat) : Int)]
  | .tb f => (List.range 512).flatMap fun (i : Nat) => pgsE l (adr b i (l : Int)) (f i)
  | .no => []
def z71 (l : Nat) (b : Int) (f : Int → Tr) : List Pg := (List.range 512).flatMap fun (i : Nat) => pgsE l (adr b i (l : Int)) (f i)
theorem zh8 {α β : Type} {l : List α} {f g : α → List β} (h : ∀ x ∈ l, f x = g x) : l.flatMap f = l.flatMap g := by
 rw [List.flatMap_def, List.flatMap_def, List.map_congr_left h]
section
variable {cd cp sz f sh : Int} {xs : List (Int × Int)} {lv : Int → Int}
theorem zk7 (h : TI cd cp sz xs f sh lv) : ∀ (l : Nat) (t b : Int), lv t = l → za7 sz xs l t b = z71 l b (zdq sz xs l t)
 | 0, t, b, hl => by
  show (List.range 512).flatMap _ = (List.range 512).flatMap _; refine zh8 fun i hi => ?_; have hi := List.mem_range.1 hi; have hi' : (0 : Int) ≤ (i : Int) ∧ (i : Int) < 512 := by omega
  rw [zep hi']; rcases h.e.k t i hi' with e | ⟨_, _, ⟨e1, e2⟩ | ⟨e1, e2, _⟩⟩
  · rw [e]; rfl
  · rw [hl] at e2; rw [zeq e1]; unfold ze6; rw [show zco (atM sz xs t i) 0 = false from e2, e1]
    rfl
  · omega
 | l + 1, t, b, hl => by
  show (List.range 512).flatMap _ = (List.range 512).flatMap _; refine zh8 fun i hi => ?_; have hi := List.mem_range.1 hi; have hi' : (0 : Int) ≤ (i : Int) ∧ (i : Int) < 512 := by omega
  rw [zep hi']; rcases h.e.k t i hi' with e | ⟨_, _, ⟨e1, e2⟩ | ⟨e1, e2, e3, _⟩⟩
  · rw [e, zgd]; rfl
  · rw [hl] at e2; rw [zeq e1]; unfold ze6; rw [e2, e1]
    rfl
  · have hb : zco (atM sz xs t i) ((l + 1 : Nat) : Int) = false := by
     have := zb7 e1 (l := ((l + 1 : Nat) : Int)) (by omega); unfold za2 at this; simp only [Bool.and_eq_true, Bool.not_eq_true'] at this; exact this.2
    rw [zer e1]; unfold ze6; rw [hb, (za8 e1).2.2]; show za7 sz xs l (atM sz xs t i).ppn (adr b i ((l + 1 : Nat) : Int)) = z71 l (adr b i ((l + 1 : Nat) : Int)) (zdq sz xs l (atM sz xs t i).ppn); exact zk7 h l _ _ (by rw [e3, hl]; omega)
theorem zjk (h : TI cd cp sz xs f sh lv) {l : Nat} {t i : Int} (ht : Al cd cp f t) (hl : lv t = l) (hi : 0 ≤ i ∧ i < 512) {xs' : List (Int × Int)} {r : Tr} (C : Int → Prop) (h1 : z47 sz xs' l (atM sz xs' t i) = r)
 (h2 : ∀ s j, (0 ≤ j ∧ j < 512) → Al cd cp f s → ¬ (s = t ∧ j = i) → ¬ C s → atM sz xs' s j = atM sz xs s j) (h3 : ¬ C t)
 (h4 : ∀ m, l = m + 1 → ∀ j, (0 ≤ j ∧ j < 512) → j ≠ i → lkP (atM sz xs t j) = true → ∀ g ∈ frN sz xs m (atM sz xs t j).ppn, ¬ C g) : zdq sz xs' l t = upd (zdq sz xs l t) i r := by
 funext j
 by_cases hj : 0 ≤ j ∧ j < 512
 · rw [zep hj]; by_cases c : j = i
   · subst c; rw [h1, zg1]
   · rw [zgc _ _ c, zep hj, h2 t j hj ht (fun hh => c hh.2) h3]; cases l with
     | zero => rfl
     | succ m =>
      rcases h.e.k t j hj with e | ⟨_, _, ⟨e1, e2⟩ | ⟨e1, e2, e3, e4⟩⟩
      · rw [e, zgd, zgd]
      · rw [zeq e1, zeq e1]
      · have e5 : lv (atM sz xs t j).ppn = m := by rw [e3, hl]; omega
        rw [zer e1, zer e1, zjj m (atM sz xs t j).ppn fun s hs j' hj' => h2 s j' hj' (zbc h m _ e4 e5 s hs).1 (fun hh => by
         have := (zbc h m _ e4 e5 s hs).2.1; rw [hh.1, hl] at this
         omega) (h4 m rfl j hj c e1 s hs)]
 · have : j ≠ i := fun e => hj (e ▸ hi); rw [zgc _ _ this]; unfold zdq; rw [if_neg hj, if_neg hj]
theorem zn7 (h : TI cd cp sz xs f sh lv) {t i : Int} {p : Pte} (ht : Al cd cp f t) (hi : 0 ≤ i ∧ i < 512) (hp : p.U) (hb : zay (PteC.zc4 p) = p) (s j : Int) (hj : 0 ≤ j ∧ j < 512) : atM sz (zba sz xs t i p) s j = if s = t ∧ j = i then p else atM sz xs s j := by
 have bt := ht.1; have bz := h.bz; rw [h.gm.with ht hi hp]; by_cases hd : s * 4096 + j * 8 < sz
 · rw [zh1 h.s hi hj hd, hb]
 · rw [if_neg (by rintro ⟨rfl, rfl⟩; omega)]
   unfold atM zbs; rw [if_neg hd, if_neg hd]
def chg (sz : Int) (xs : List (Int × Int)) (a : Int) (l : Nat) (t s : Int) : Prop := ∃ m, l = m + 1 ∧ lkP (atM sz xs t (idx a (l : Int))) = true ∧ s ∈ frN sz xs m (atM sz xs t (idx a (l : Int))).ppn
theorem ztz (a zam : Int) (q : Pte) (hw : 0 ≤ zam) : ∀ (l : Nat), zam ≤ (l : Int) → ∃ A, zis a zam q l .no = some A
 | 0, _ => ⟨_, rfl⟩
 | l + 1, h => by
  by_cases c : zam = ((l + 1 : Nat) : Int)
  · exact ⟨_, ziz c⟩
  · obtain ⟨A, hA⟩ := ztz a zam q hw l (by omega); refine ⟨.tb (upd (zoe .no) (idx a (l : Int)) A), ?_⟩; rw [zfs c rfl]; unfold ze0; show ((zis a zam q l .no).map _).map _ = _; rw [hA]; rfl
theorem zyz (h : TI cd cp sz xs f sh lv) (a zam : Int) (q : Pte) (hw : 0 ≤ zam) : ∀ (l : Nat) (t : Int), zam ≤ (l : Int) → lv t = l → (ze0 a zam q l (zdq sz xs l t) = none ↔ (atM sz xs (zao sz xs a zam l t).1 (idx a (zao sz xs a zam l t).2)).v = true) := by
 have hnone : ∀ (l : Nat) (F : Int → Tr), ze0 a zam q l F = none ↔ zis a zam q l (F (idx a (l : Int))) = none := fun l F => by
  unfold ze0; rw [Option.map_eq_none_iff]
 intro l
 induction l with
 | zero =>
  intro t hwl hl; have hi := idx_bd a ((0 : Nat) : Int); rw [hnone, zep hi]; show _ ↔ (atM sz xs t (idx a ((0 : Nat) : Int))).v = true; rw [ziz (by omega)]; rcases h.e.k t _ hi with e | ⟨_, _, ⟨e1, e2⟩ | ⟨e1, e2, _⟩⟩
  · rw [e]; exact ⟨fun hh => (by cases hh), fun hh => (by cases hh)⟩
  · rw [zeq e1, (zbw e1).2]; exact ⟨fun _ => rfl, fun _ => rfl⟩
  · omega
 | succ l ih =>
  intro t hwl hl; have hi := idx_bd a ((l + 1 : Nat) : Int); rw [hnone, zep hi]; by_cases c : zam = ((l + 1 : Nat) : Int)
  · rw [zbh (fun hh => by omega) hw]; show _ ↔ (atM sz xs t (idx a ((l + 1 : Nat) : Int))).v = true; rw [ziz c]; rcases h.e.k t _ hi with e | ⟨_, _, ⟨e1, e2⟩ | ⟨e1, e2, _⟩⟩
    · rw [e, zgd]; exact ⟨fun hh => (by cases hh), fun hh => (by cases hh)⟩
    · rw [zeq e1, (zbw e1).2]; exact ⟨fun _ => rfl, fun _ => rfl⟩
    · rw [zer e1, (za8 e1).2.1]; exact ⟨fun _ => rfl, fun _ => rfl⟩
  · rcases h.e.k t _ hi with e | ⟨_, _, ⟨e1, e2⟩ | ⟨e1, e2, e3, e4⟩⟩
    · rw [zbh (fun _ => by rw [e]; rfl) hw]
      show _ ↔ (atM sz xs t (idx a ((l + 1 : Nat) : Int))).v = true; rw [e, zgd]; obtain ⟨A, hA⟩ := ztz a zam q hw (l + 1) hwl; rw [hA]; exact ⟨fun hh => (by cases hh), fun hh => (by cases hh)⟩
    · rw [zbh (fun _ => zjc (zbw e1).1) hw]; show _ ↔ (atM sz xs t (idx a ((l + 1 : Nat) : Int))).v = true; rw [zeq e1, (zbw e1).2, zmm]; exact ⟨fun _ => rfl, fun _ => rfl⟩
    · rw [zbk (by omega) (zb7 e1 (by omega)), zer e1, zfs c rfl, Option.map_eq_none_iff]; exact ih _ (by omega) (by rw [e3, hl]; omega)
theorem z48 (sz : Int) (ys : List (Int × Int)) (l : Nat) (g : Int) (hz : ∀ j, (0 ≤ j ∧ j < 512) → atM sz ys g j = zP) : ∀ s ∈ frN sz ys l g, s = g := fun s hs => by
 cases l with
 | zero => simpa [frN] using hs
 | succ m =>
  simp only [frN, List.mem_cons] at hs; rcases hs with e | hs
  · exact e
  · obtain ⟨i, hi, hs⟩ := List.mem_flatMap.1 hs; have hi := List.mem_range.1 hi; rw [hz i (by omega), if_neg (by unfold za2 zbf zP; simp)] at hs
    cases hs
end
section
variable {cd cp sz sh : Int}
theorem z7c (addr zam : Int) (q : Pte) (hw : 0 ≤ zam) (hqU : q.U) (hqb : zay (PteC.zc4 q) = q) (hql : zas q = true) : ∀ (l : Nat) (xs : List (Int × Int)) (f t : Int) (lv : Int → Int), TI cd cp sz xs f sh lv → Al cd cp f t → Al cd cp f sh → lv t = l → l ≤ 2 → zam ≤ (l : Int) → (l = 2 → idx addr 2 ≠ 511) → ∀ A, ze0 addr zam q l (zdq sz xs l t) = some A →
 ((dnN sz cd addr zam l xs f t).2.2.2 = 0 ∧ zdq sz (zba sz (dnN sz cd addr zam l xs f t).1 (dnN sz cd addr zam l xs f t).2.2.1 (idx addr zam) q) l t = A ∧ cnt (dnN sz cd addr zam l xs f t).2.1 + zi0 A = cnt f + zi0 (zdq sz xs l t) ∧
   (∀ s j, (0 ≤ j ∧ j < 512) → Al cd cp f s → ¬ (s = t ∧ j = idx addr (l : Int)) → ¬ chg sz xs addr l t s → atM sz (zba sz (dnN sz cd addr zam l xs f t).1 (dnN sz cd addr zam l xs f t).2.2.1 (idx addr zam) q) s j = atM sz xs s j)) ∨
 ((dnN sz cd addr zam l xs f t).2.2.2 = 8 ∧ cnt f + zi0 (zdq sz xs l t) < zi0 A) := by
 -- a leaf is put into this table
 have base : ∀ (l : Nat) (xs : List (Int × Int)) (f t : Int) (lv : Int → Int), TI cd cp sz xs f sh lv → Al cd cp f t → lv t = l → zam = (l : Int) → ∀ A, ze0 addr zam q l (zdq sz xs l t) = some A →
  zdq sz (zba sz xs t (idx addr zam) q) l t = A ∧ cnt f + zi0 A = cnt f + zi0 (zdq sz xs l t) ∧ (∀ s j, (0 ≤ j ∧ j < 512) → Al cd cp f s → ¬ (s = t ∧ j = idx addr (l : Int)) → ¬ chg sz xs addr l t s → atM sz (zba sz xs t (idx addr zam) q) s j = atM sz xs s j) := fun l xs f t lv h ht hl hwl A hA => by
  have hi := idx_bd addr (l : Int); have hat := fun s j hj => zn7 h ht (i := idx addr zam) (by rw [hwl]; exact hi) hqU hqb s j hj
  rw [hwl] at hat ⊢; unfold ze0 at hA; rw [ziz hwl] at hA; cases c : z45 (zdq sz xs l t (idx addr (l : Int))) with
  | false => rw [c, if_neg (by simp)] at hA; cases hA
  | true =>
   rw [c, if_pos rfl] at hA; simp only [Option.map_some, Option.some.injEq] at hA; subst hA; refine ⟨zjk h ht hl hi (fun _ => False) ?_ (fun s j hj _ hn _ => by rw [hat s j hj, if_neg hn]) (fun hh => hh) (fun _ _ _ _ _ _ _ _ hh => hh), ?_, fun s j hj _ hn _ => by rw [hat s j hj, if_neg hn]⟩
   · rw [hat t _ hi, if_pos ⟨rfl, rfl⟩, zeq hql]
   · have := zfn (zdq sz xs l t) (idx addr (l : Int)) (.lf q) hi; have e0 : zn6 (zdq sz xs l t (idx addr (l : Int))) = 0 := by
      revert c; cases zdq sz xs l t (idx addr (l : Int)) <;> intro c
      · rfl
      · rfl
      · cases c
     have e1 : zn6 (.lf q) = 0 := rfl; omega
 intro l
 induction l with
 | zero =>
  intro xs f t lv h ht hsh hl h2 hwl hH A hA; exact .inl ⟨rfl, base 0 xs f t lv h ht hl (by omega) A hA⟩
 | succ l ih =>
  intro xs f t lv h ht hsh hl h2 hwl hH A hA; have hi := idx_bd addr ((l + 1 : Nat) : Int); by_cases c1 : ((l + 1 : Nat) : Int) ≤ zam
  · have e0 : dnN sz cd addr zam (l + 1) xs f t = (xs, f, t, 0) := by unfold dnN; rw [if_pos c1]
    rw [e0]; exact .inl ⟨rfl, base (l + 1) xs f t lv h ht hl (by omega) A hA⟩
  have cw : zam ≠ ((l + 1 : Nat) : Int) := by omega
  have hA0 := hA; unfold ze0 at hA; obtain ⟨r, hr, rfl⟩ := Option.map_eq_some_iff.1 hA; rw [zep hi] at hr; rcases h.e.k t _ hi with e | ⟨_, _, ⟨e1, e2⟩ | ⟨e1, e2, e3, e4⟩⟩
  · -- nothing is there
    rw [e, zgd, zfs cw rfl] at hr; obtain ⟨A', hA', rfl⟩ := Option.map_eq_some_iff.1 hr; have hA' : ze0 addr zam q l (fun _ => .no) = some A' := hA'; have hcu := zfn (zdq sz xs (l + 1) t) (idx addr ((l + 1 : Nat) : Int)) (.tb A') hi; rw [zep hi, e, zgd] at hcu; have hc0 : zn6 .no = 0 := rfl; have hc1 : zn6 (.tb A') = 1 + zi0 A' := rfl; by_cases c4 : f = 0
    · subst c4; have e0 : dnN sz cd addr zam (l + 1) xs 0 t = (xs, 0, t, 8) := by unfold dnN; rw [if_neg c1, e, if_neg (by unfold zas zP; simp), if_neg (by unfold zP; simp), if_pos rfl]
      rw [e0]; have : cnt 0 = 0 := by decide
      exact .inr ⟨rfl, by omega⟩
    · have hD : dnN sz cd addr zam (l + 1) xs f t = dnN sz cd addr zam l (zba sz xs t (idx addr ((l + 1 : Nat) : Int)) (lnk (cd + tzI f))) (zbx f (tzI f) 1 0) (cd + tzI f) := by
       conv => lhs; unfold dnN
       rw [if_neg c1, e, if_neg (by unfold zas zP; simp), if_neg (by unfold zP; simp), if_neg c4]
      rw [hD]; obtain ⟨a0, a1, a2, a3⟩ := zch h c4; have b1 := h.bd; have b2 := h.bp; have hbt := ht.1; have hnn : 0 ≤ cd + tzI f ∧ cd + tzI f < 17592186044416 := by omega
      have hT := zn0 h c4 ht hsh (by rw [hl]; omega) hi (by rw [e]; rfl)
      have hat := fun s j hj => zn7 h ht hi (zhb hnn) (zfj hnn) s j hj; have hz : ∀ j, (0 ≤ j ∧ j < 512) → atM sz (zba sz xs t (idx addr ((l + 1 : Nat) : Int)) (lnk (cd + tzI f))) (cd + tzI f) j = zP := fun j hj => by
       rw [hat _ j hj, if_neg (by rintro ⟨e, _⟩; exact (a0 _ ht).2 e.symm)]
       rcases h.e.k (cd + tzI f) j hj with e | ⟨e, _⟩
       · exact e
       · exact absurd rfl (a0 _ e).2
      have hS : zdq sz (zba sz xs t (idx addr ((l + 1 : Nat) : Int)) (lnk (cd + tzI f))) l (cd + tzI f) = fun _ => .no := by
       funext j
       unfold zdq
       split
       · rename_i hj; rw [hz j hj, zgd]
       · rfl
      have t1 := zct h.uf h.bf.2 c4; have hco := znz h.uf t1.1 (by omega) (zmb h.uf c4); have hup : upL lv (cd + tzI f) (lv t - 1) (cd + tzI f) = (l : Int) := by unfold upL; rw [if_pos rfl, hl]; omega
      have I := ih _ _ _ _ hT a1 (a0 _ hsh).1 hup (by omega) (by omega) (fun hh => by omega) A' (by rw [hS]; exact hA')
      rw [hS, z46] at I; have hz0 := z48 sz _ l _ hz; generalize hys : zba sz xs t (idx addr ((l + 1 : Nat) : Int)) (lnk (cd + tzI f)) = ys at *; rcases I with ⟨I1, I2, I3, I4⟩ | ⟨I1, I2⟩
      · refine .inl ⟨I1, ?_, by omega, ?_⟩
        · generalize zba sz (dnN sz cd addr zam l ys (zbx f (tzI f) 1 0) (cd + tzI f)).1 (dnN sz cd addr zam l ys (zbx f (tzI f) 1 0) (cd + tzI f)).2.2.1 (idx addr zam) q = zs at *
          have key : ∀ s j, (0 ≤ j ∧ j < 512) → Al cd cp f s → atM sz zs s j = atM sz ys s j := fun s j hj hs => I4 s j hj (a0 s hs).1 (fun hh => (a0 s hs).2 hh.1) (by
           rintro ⟨m, em, k1, k2⟩
           rw [hz _ (idx_bd addr _)] at k1; cases k1)
          refine zjk h ht hl hi (fun _ => False) ?_ (fun s j hj hs hn _ => by rw [key s j hj hs, hat s j hj, if_neg hn]) (fun hh => hh) (fun _ _ _ _ _ _ _ _ hh => hh); rw [key t _ hi ht, hat t _ hi, if_pos ⟨rfl, rfl⟩, zer rfl]; show Tr.tb (zdq sz zs l (cd + tzI f)) = _; rw [I2]
        · intro s j hj hs hn _
          rw [I4 s j hj (a0 s hs).1 (fun hh => (a0 s hs).2 hh.1) (by
           rintro ⟨m, em, k1, k2⟩
           rw [hz _ (idx_bd addr _)] at k1; cases k1), hat s j hj, if_neg hn]
      · exact .inr ⟨I1, by omega⟩
  · rw [zeq e1, zmm] at hr; cases hr
  · -- a link
    have e5 : lv (atM sz xs t (idx addr ((l + 1 : Nat) : Int))).ppn = (l : Int) := by rw [e3, hl]; omega
    rw [zer e1, zfs cw rfl] at hr; obtain ⟨A', hA', rfl⟩ := Option.map_eq_some_iff.1 hr; have hA' : ze0 addr zam q l (zdq sz xs l (atM sz xs t (idx addr ((l + 1 : Nat) : Int))).ppn) = some A' := hA'; have hcu := zfn (zdq sz xs (l + 1) t) (idx addr ((l + 1 : Nat) : Int)) (.tb A') hi; rw [zep hi, zer e1] at hcu; have hc0 : zn6 (.tb (zdq sz xs l (atM sz xs t (idx addr ((l + 1 : Nat) : Int))).ppn)) = 1 + zi0 (zdq sz xs l (atM sz xs t (idx addr ((l + 1 : Nat) : Int))).ppn) := rfl; have hc1 : zn6 (.tb A') = 1 + zi0 A' := rfl; have hD : dnN sz cd addr zam (l + 1) xs f t = dnN sz cd addr zam l xs f (atM sz xs t (idx addr ((l + 1 : Nat) : Int))).ppn := by
     conv => lhs; unfold dnN
     rw [if_neg c1, (za8 e1).2.2, if_neg (by simp), if_pos (za8 e1).2.1]
    rw [hD]; have hns : (atM sz xs t (idx addr ((l + 1 : Nat) : Int))).ppn ≠ sh := fun ee => by
     obtain ⟨b1, b2⟩ := h.e.s t _ hi e1 ee; have : l + 1 = 2 := by omega
     rw [show ((l + 1 : Nat) : Int) = 2 by omega] at b1; exact hH this b1
    rcases ih xs f _ lv h e4 hsh e5 (by omega) (by omega) (fun hh => by omega) A' hA' with ⟨I1, I2, I3, I4⟩ | ⟨I1, I2⟩
    · have hfp := zbc h l _ e4 e5; have htn : t ∉ frN sz xs l (atM sz xs t (idx addr ((l + 1 : Nat) : Int))).ppn := fun hh => by have := (hfp t hh).2.1; omega
      have chin : ∀ s, chg sz xs addr l (atM sz xs t (idx addr ((l + 1 : Nat) : Int))).ppn s → s ∈ frN sz xs l (atM sz xs t (idx addr ((l + 1 : Nat) : Int))).ppn := by
       rintro s ⟨m, rfl, k1, k2⟩; have hj := idx_bd addr ((m + 1 : Nat) : Int); simp only [frN, List.mem_cons]; refine .inr (List.mem_flatMap.2 ⟨(idx addr ((m + 1 : Nat) : Int)).toNat, List.mem_range.2 (by omega), ?_⟩); rw [show (((idx addr ((m + 1 : Nat) : Int)).toNat : Nat) : Int) = idx addr ((m + 1 : Nat) : Int) by omega, if_pos (zb7 k1 (by omega))]; exact k2
      have out : ∀ s j, (0 ≤ j ∧ j < 512) → Al cd cp f s → s ∉ frN sz xs l (atM sz xs t (idx addr ((l + 1 : Nat) : Int))).ppn → atM sz (zba sz (dnN sz cd addr zam l xs f (atM sz xs t (idx addr ((l + 1 : Nat) : Int))).ppn).1 (dnN sz cd addr zam l xs f (atM sz xs t (idx addr ((l + 1 : Nat) : Int))).ppn).2.2.1 (idx addr zam) q) s j = atM sz xs s j := fun s j hj hs hn =>
       I4 s j hj hs (fun hh => hn (by rw [hh.1]; exact zb8 _ _ _ _)) (fun hh => hn (chin s hh))
      generalize zba sz (dnN sz cd addr zam l xs f (atM sz xs t (idx addr ((l + 1 : Nat) : Int))).ppn).1 (dnN sz cd addr zam l xs f (atM sz xs t (idx addr ((l + 1 : Nat) : Int))).ppn).2.2.1 (idx addr zam) q = zs at *; refine .inl ⟨I1, ?_, by omega, fun s j hj hs hn hc => out s j hj hs fun hh => hc ⟨l, rfl, e1, hh⟩⟩; refine zjk h ht hl hi (fun s => s ∈ frN sz xs l (atM sz xs t (idx addr ((l + 1 : Nat) : Int))).ppn) ?_ (fun s j hj hs _ hn => out s j hj hs hn) htn ?_
      · rw [out t _ hi ht htn, zer e1, I2]
      · intro m em j hj hne hlk g hg hin; obtain rfl : m = l := by omega
        exact hne (zsf h hl (by omega) hj hi hlk e1 (.inr hns) hg hin)
    · exact .inr ⟨I1, by omega⟩
end
end LnB
namespace LnD
open Go.RowKit Bv VaSpec Base MemL RegR Ax MemC PutC OkS SpA SpB SpC SpD SpE SpF SpN SpO SpH SpJ LaA LaB LaC LaD LaE LaF LaG LiA LiB LiC LiE LiF LrA LrC LjA LjF LkE LmA LmE LnA LnB
open PteSpec RfG RfJ RfK LaH RfQ
noncomputable def zlv (k : Kr) (id : Int) : Int → Tr := if id = -1 then zdq k.sz k.m 1 k.sh else upd (zdq k.sz k.m 2 (zcw k id).root) 511 .no
def z1i (id : Int) : Nat := if id = -1 then 1 else 2
structure Rts (k : Kr) : Prop where
 r : ∀ (i j : Nat) (s t : Sp), k.ss[i]? = some s → k.ss[j]? = some t → i ≠ j → s.live = true → t.live = true → s.root ≠ t.root
theorem zk8 (k : Kr) : zlv k (-1) = zdq k.sz k.m 1 k.sh := if_pos rfl
theorem zhf (k : Kr) {id : Int} (h : id ≠ -1) : zlv k id = upd (zdq k.sz k.m 2 (zcw k id).root) 511 .no := if_neg h
theorem zt0 {n : Nat} {k : Kr} (h : InvT n k) (id : Int) : zkq k id = if id = -1 then z71 1 kA (zlv k id) else if za4 k id = false then [] else z71 2 0 (zlv k id) := by
 obtain ⟨lv, hT, hs, hr⟩ := h.t; unfold zkq; by_cases c0 : id = -1
 · subst c0; rw [if_pos rfl, if_pos rfl, zk8]; exact zk7 hT 1 k.sh kA (by rw [hs]; rfl)
 · rw [if_neg c0, if_neg c0]; by_cases c1 : za4 k id = false
   · rw [if_pos c1, if_pos c1]
   · rw [if_neg c1, if_neg c1, zhf k c0]; have c1 : za4 k id = true := by simpa using c1
     obtain ⟨h0, h1, h2, hv⟩ := zdc c1; have hrl := hr _ (List.mem_of_getElem? h2) hv; have har := h.l.root c1; have hown : z4e k id = zb3 k.m ((zcw k id).root * 512 + 511) 0 := rfl; rw [hown]; generalize (zcw k id).root = rt at *; have b1 := hT.bd; have bt := har.1; have hat : ∀ s j, (0 ≤ j ∧ j < 512) → atM k.sz (zb3 k.m (rt * 512 + 511) 0) s j = if s = rt ∧ j = 511 then zP else atM k.sz k.m s j := fun s j hj => zhc (cd := k.cd) (cp := k.cp) hT.s hT.bz (by omega) (by omega) s j hj; have hTo : TI k.cd k.cp k.sz (zb3 k.m (rt * 512 + 511) 0) k.pf k.sh lv := hT.put bt (by omega) ⟨by omega, by omega⟩ hT.bf fun E' hE => hT.e.sub fun s j hj => by
      rw [hE s j hj, znr]
      split
      · exact .inl rfl
      · exact .inr rfl
     rw [zk7 hTo 2 rt 0 hrl]; rw [zjk hT (l := 2) har hrl (i := 511) (by omega) (r := .no) (fun _ => False) (by rw [hat rt 511 (by omega), if_pos ⟨rfl, rfl⟩, zgd]) (fun s j hj _ hn _ => by rw [hat s j hj, if_neg hn]) (fun hh => hh) (fun _ _ _ _ _ _ _ _ hh => hh)]
structure Fit (k : Kr) (id a pa l : Int) (p : Pm) : Prop where
 w : (zal k id a l).2.2 = 0
 a : lk0 pa l = 0
 b : lk1 k pa l = 0
 c : lk2 p = 0
theorem zy0 {k : Kr} {id a pa l : Int} {p : Pm} (he : (zdh k id a pa l p).2 = 0) : Fit k id a pa l p := by
 unfold zdh at he; by_cases c0 : (zal k id a l).2.2 ≠ 0
 · rw [if_pos c0] at he; exact absurd he c0
 rw [if_neg c0] at he; by_cases c1 : lk0 pa l ≠ 0
 · rw [if_pos c1] at he; exact absurd he c1
 rw [if_neg c1] at he; by_cases c2 : lk1 k pa l ≠ 0
 · rw [if_pos c2] at he; exact absurd he c2
 rw [if_neg c2] at he; by_cases c3 : lk2 p ≠ 0
 · rw [if_pos c3] at he; exact absurd he c3
 exact ⟨by omega, by omega, by omega, by omega⟩
theorem zy1 (k : Kr) (id a pa l : Int) (p : Pm) : (zdh k id a pa l p).1 = k ∨ ∃ D g, (zdh k id a pa l p).1 = z5o k D a pa l p g := by
 unfold zdh
 (repeat' split) <;> first | exact .inl rfl | exact .inr ⟨_, _, rfl⟩
theorem z7d (k : Kr) (id a pa l : Int) (p : Pm) : (zdh k id a pa l p).1.ss = k.ss ∧ (zdh k id a pa l p).1.sh = k.sh ∧ (zdh k id a pa l p).1.cd = k.cd ∧ (zdh k id a pa l p).1.sz = k.sz := by
 rcases zy1 k id a pa l p with e | ⟨D, g, e⟩
 · rw [e]; exact ⟨rfl, rfl, rfl, rfl⟩
 · rw [e]; exact ⟨rfl, rfl, rfl, rfl⟩
theorem zsg {k : Kr} (h : Rts k) (id a pa l : Int) (p : Pm) : Rts (zdh k id a pa l p).1 := ⟨by rw [(z7d k id a pa l p).1]; exact h.r⟩
theorem zc0 (k : Kr) (id a pa l : Int) (p : Pm) (i : Int) : za4 (zdh k id a pa l p).1 i = za4 k i := by
 rcases zy1 k id a pa l p with e | ⟨D, g, e⟩ <;> rw [e] <;> rfl
theorem zn8 {k : Kr} {id a pa l id' a' pa' l' : Int} {p p' : Pm} : Fit (zdh k id a pa l p).1 id' a' pa' l' p' ↔ Fit k id' a' pa' l' p' := by
 rcases zy1 k id a pa l p with e | ⟨D, g, e⟩
 · rw [e]
 · rw [e]; constructor
   · rintro ⟨a, b, c, d⟩; exact ⟨a, b, c, d⟩
   · rintro ⟨a, b, c, d⟩; exact ⟨a, b, c, d⟩
section
variable {cd cp sz f sh : Int} {xs xs' : List (Int × Int)} {lv : Int → Int}
theorem z7e (h : TI cd cp sz xs f sh lv) {r i : Int} (hr : lv r = 2) (hsa : Al cd cp f sh) (hsl : lv sh = 1) (hi : 0 ≤ i ∧ i < 512) (hH : i ≠ 511) (h4 : ∀ s j, (0 ≤ j ∧ j < 512) → Al cd cp f s → ¬ (s = r ∧ j = i) → ¬ (lkP (atM sz xs r i) = true ∧ s ∈ frN sz xs 1 (atM sz xs r i).ppn) → atM sz xs' s j = atM sz xs s j) : zdq sz xs' 1 sh = zdq sz xs 1 sh := by
 refine zjj 1 sh fun s hs j hj => ?_; obtain ⟨q1, q2, _⟩ := zbc h 1 sh hsa hsl s hs; refine h4 s j hj q1 (fun hh => by rw [hh.1, hr] at q2; omega) ?_
 rintro ⟨k1, k2⟩; obtain ⟨_, _, r1, a1⟩ := zb5 h hi k1; have e1 : lv (atM sz xs r i).ppn = (1 : Nat) := by rw [r1, hr]; rfl
 have hm := zve h a1 hsa e1 (l2 := 1) hsl (Nat.le_refl _) (zp8 h hsa hsl (Nat.le_refl _)) 1 s (by omega) k2 hs; by_cases c : sh = (atM sz xs r i).ppn
 · exact hH (h.e.s r i hi k1 c.symm).1
 · exact zp8 h a1 e1 (Nat.le_refl _) sh hm c rfl
theorem z2n (h : TI cd cp sz xs f sh lv) {r2 : Int} (hr : lv r2 = 2) (ha : Al cd cp f r2) (hx : ∀ j, (0 ≤ j ∧ j < 512) → atM sz xs' r2 j = atM sz xs r2 j) (hs : ∀ j, (0 ≤ j ∧ j < 512) → j ≠ 511 → lkP (atM sz xs r2 j) = true → (atM sz xs r2 j).ppn ≠ sh → ∀ s ∈ frN sz xs 1 (atM sz xs r2 j).ppn, ∀ j', (0 ≤ j' ∧ j' < 512) → atM sz xs' s j' = atM sz xs s j') : upd (zdq sz xs' 2 r2) 511 .no = upd (zdq sz xs 2 r2) 511 .no := by
 funext j
 by_cases c : j = 511
 · subst c; rw [zg1, zg1]
 rw [zgc _ _ c, zgc _ _ c]; by_cases hj : 0 ≤ j ∧ j < 512
 · rw [zep hj, zep hj, hx j hj]; rcases h.e.k r2 j hj with e | ⟨_, _, ⟨e1, e2⟩ | ⟨e1, e2, e3, e4⟩⟩
   · rw [e, zgd, zgd]
   · rw [zeq e1, zeq e1]
   · rw [zer e1, zer e1, zjj 1 _ (hs j hj c e1 fun ee => c (h.e.s r2 j hj e1 ee).1)]
 · unfold zdq; rw [if_neg hj, if_neg hj]
theorem zy2 (h : TI cd cp sz xs f sh lv) {i r2 : Int} (hsl : lv sh = 1) (hr : lv r2 = 2) (ha : Al cd cp f r2) (hi : 0 ≤ i ∧ i < 512) (h4 : ∀ s j, (0 ≤ j ∧ j < 512) → Al cd cp f s → ¬ (s = sh ∧ j = i) → ¬ (lkP (atM sz xs sh i) = true ∧ s ∈ frN sz xs 0 (atM sz xs sh i).ppn) → atM sz xs' s j = atM sz xs s j) : upd (zdq sz xs' 2 r2) 511 .no = upd (zdq sz xs 2 r2) 511 .no := by
 have hc : ∀ s, lkP (atM sz xs sh i) = true → s ∈ frN sz xs 0 (atM sz xs sh i).ppn → s = (atM sz xs sh i).ppn ∧ lv s = 0 := fun s k1 k2 => by
  have e : s = (atM sz xs sh i).ppn := by simpa [frN] using k2
  obtain ⟨_, _, r1, _⟩ := zb5 h hi k1; exact ⟨e, by rw [e, r1, hsl]; rfl⟩
 refine z2n h hr ha (fun j hj => h4 r2 j hj ha (fun hh => by rw [hh.1, hsl] at hr; omega) fun hh => by have := (hc _ hh.1 hh.2).2; omega) ?_
 intro j hj hj5 k2 hns s hs j' hj'; obtain ⟨_, _, r1, a1⟩ := zb5 h hj k2; have e1 : lv (atM sz xs r2 j).ppn = (1 : Nat) := by rw [r1, hr]; rfl
 obtain ⟨q1, q2, q3⟩ := zbc h 1 _ a1 e1 s hs; have hne : ∀ g ∈ frN sz xs 1 (atM sz xs r2 j).ppn, g ≠ sh := fun g hg e => by
  by_cases c : g = (atM sz xs r2 j).ppn
  · exact hns (c.symm.trans e)
  · exact zp8 h a1 e1 (Nat.le_refl _) g hg c e
 refine h4 s j' hj' q1 (fun hh => hne s hs hh.1) ?_; rintro ⟨k1, k3⟩; obtain ⟨c1, c2⟩ := hc s k1 k3; rcases q3 with e | ⟨s', hs', j2, p1, p2, p3, p4⟩
 · rw [e, e1] at c2; omega
 · obtain ⟨u1, _⟩ := h.e.u s' j2 sh i p1 hi p2 k1 (p3.trans c1) (by rw [p3]; intro e; rw [e, hsl] at c2; omega)
   exact hne s' hs' u1
theorem zy3 (h : TI cd cp sz xs f sh lv) {r i r2 : Int} (hr1 : lv r = 2) (hr : lv r2 = 2) (ha : Al cd cp f r2) (hne : r ≠ r2) (hi : 0 ≤ i ∧ i < 512) (hH : i ≠ 511) (h4 : ∀ s j, (0 ≤ j ∧ j < 512) → Al cd cp f s → ¬ (s = r ∧ j = i) → ¬ (lkP (atM sz xs r i) = true ∧ s ∈ frN sz xs 1 (atM sz xs r i).ppn) → atM sz xs' s j = atM sz xs s j) : upd (zdq sz xs' 2 r2) 511 .no = upd (zdq sz xs 2 r2) 511 .no := by
 have hc : ∀ s, lkP (atM sz xs r i) = true → s ∈ frN sz xs 1 (atM sz xs r i).ppn → lv s ≤ 1 := fun s k1 k2 => by
  obtain ⟨_, _, r1, a1⟩ := zb5 h hi k1; exact (zbc h 1 _ a1 (by rw [r1, hr1]; rfl) s k2).2.1.2
 refine z2n h hr ha (fun j hj => h4 r2 j hj ha (fun hh => hne hh.1.symm) fun hh => by have := hc _ hh.1 hh.2; omega) ?_
 intro j hj hj5 k2 hns s hs j' hj'; obtain ⟨_, _, r1, a1⟩ := zb5 h hj k2; have e1 : lv (atM sz xs r2 j).ppn = (1 : Nat) := by rw [r1, hr]; rfl
 obtain ⟨q1, q2, q3⟩ := zbc h 1 _ a1 e1 s hs; refine h4 s j' hj' q1 (fun hh => by rw [hh.1, hr1] at q2; omega) ?_
 rintro ⟨k1, k3⟩; obtain ⟨_, _, r3, a3⟩ := zb5 h hi k1; have e3 : lv (atM sz xs r i).ppn = (1 : Nat) := by rw [r3, hr1]; rfl
 have hm := zve h a3 a1 e3 e1 (Nat.le_refl _) (zp8 h a1 e1 (Nat.le_refl _)) 1 s (by omega) k3 hs; obtain ⟨_, _, v⟩ := zbc h 1 _ a3 e3 _ hm; rcases v with e | ⟨s', _, j2, p1, p2, p3, p4⟩
 · exact hne (h.e.u r i r2 j hi hj k1 k2 e.symm (fun ee => hns (e.trans ee))).1
 · obtain ⟨_, _, rr, _⟩ := zb5 h p1 p2; rw [p3] at rr; omega
end
theorem zk9 {n : Nat} {k : Kr} {id a pa l : Int} {p : Pm} (h : InvT n k) (hR : Rts k) (hp : U pa) (hf : Fit k id a pa l p) :
 (ze0 a l (mkP (pa / 4096) p (decide (id = -1))) (z1i id) (zlv k id) = none → (zdh k id a pa l p).2 = 6) ∧
 (∀ A, ze0 a l (mkP (pa / 4096) p (decide (id = -1))) (z1i id) (zlv k id) = some A →
  ((zdh k id a pa l p).2 = 0 ∧ zlv (zdh k id a pa l p).1 id = A ∧ cnt (zdh k id a pa l p).1.pf + zi0 A = cnt k.pf + zi0 (zlv k id) ∧ (∀ id', id' ≠ id → (id' = -1 ∨ za4 k id' = true) → zlv (zdh k id a pa l p).1 id' = zlv k id')) ∨
  ((zdh k id a pa l p).2 = 8 ∧ cnt k.pf + zi0 (zlv k id) < zi0 A)) := by
 obtain ⟨c0, c1, c2, c3⟩ := hf; obtain ⟨lv, hT, hs, hr⟩ := h.t; obtain ⟨w1, w2, w3, w4⟩ := zbd (id := id) (a := a) (l := l) h.l c0; obtain ⟨z1, z2⟩ := h.top (id := id) (a := a) (l := l) c0 hs hr; have hpn := zmf (k := k) (l := l) hp (by have := h.l.g.bd; omega) c2
 have hb := zgn (n := pa / 4096) (p := p) (g := decide (id = -1)) hpn (zin c3); have hwt := zd5 h.l c0; have hM : zdh k id a pa l p = if lk3 k (zal k id a l).1 (zal k id a l).2.1 a l ≠ 0 then (k, lk3 k (zal k id a l).1 (zal k id a l).2.1 a l)
  else if (zme k (zal k id a l).1 (zal k id a l).2.1 a l).2.2.2 ≠ 0 then (k, (zme k (zal k id a l).1 (zal k id a l).2.1 a l).2.2.2)
  else (z5o k (zme k (zal k id a l).1 (zal k id a l).2.1 a l) a pa l p (decide (id = -1)), 0) := by
  unfold zdh; rw [if_neg (by omega), if_neg (by omega), if_neg (by omega), if_neg (by omega)]
 rw [hM]; clear hM; generalize zal k id a l = w at *; obtain ⟨m, hm⟩ : ∃ m : Nat, w.2.1 = (m : Int) := ⟨w.2.1.toNat, by omega⟩; have hir := zyz hT a l (mkP (pa / 4096) p (decide (id = -1))) w1.1 m w.1 (by omega) (by omega); have h3 := z2k k w.1 w.2.1 a l; have h3v : (atM k.sz k.m (za0 k.sz k.m a l w.2.1 w.1).1 (idx a (za0 k.sz k.m a l w.2.1 w.1).2)).v = true → lk3 k w.1 w.2.1 a l = 6 := fun hh => by
  unfold lk3; rw [hh]; rfl
 have hre : za0 k.sz k.m a l w.2.1 w.1 = zao k.sz k.m a l m w.1 := by unfold za0; rw [hm, Int.toNat_natCast]
 rw [hre] at h3v; rw [hre] at h3; have hD : zme k w.1 w.2.1 a l = dnN k.sz k.cd a l m k.m k.pf w.1 := by unfold zme; rw [hm, Int.toNat_natCast]
 have hds := z7c a l (mkP (pa / 4096) p (decide (id = -1))) w1.1 hb.2.1 hb.1 hb.2.2 m k.m k.pf w.1 lv hT w2 h.l.sh (by omega) (by omega) (by omega) (fun hh => z2 (by omega)); rw [hD]; generalize hq : mkP (pa / 4096) p (decide (id = -1)) = q at *; generalize hDD : dnN k.sz k.cd a l m k.m k.pf w.1 = D at *; have hi := idx_bd a (m : Int)
 -- the tree, told as a shape
 have hins : (ze0 a l q (z1i id) (zlv k id) = none ↔ ze0 a l q m (zdq k.sz k.m m w.1) = none) ∧ (∀ A, ze0 a l q (z1i id) (zlv k id) = some A → ∃ A0, ze0 a l q m (zdq k.sz k.m m w.1) = some A0 ∧ (∀ K : Kr, K.sz = k.sz → K.sh = k.sh → zcw K id = zcw k id → zdq k.sz K.m m w.1 = A0 → zlv K id = A) ∧ (zi0 A + zi0 (zdq k.sz k.m m w.1) = zi0 A0 + zi0 (zlv k id))) := by
  rcases hwt with ⟨e1, e2, e3⟩ | ⟨e1, e2, e3, e4, e5⟩
  · subst e3; obtain rfl : m = 1 := by omega
    rw [zk8, e1]; refine ⟨Iff.rfl, fun A hA => ⟨A, hA, fun K y1 y2 y3 y4 => ?_, by omega⟩⟩; rw [zk8, y1, y2]; exact y4
  · obtain rfl : m = 2 := by omega
    have ht : z1i id = 2 := if_neg e2; rw [zhf k e2, ht, ← e3]; have e5' : idx a ((2 : Nat) : Int) ≠ 511 := e5; have key : zis a l q 2 (upd (zdq k.sz k.m 2 w.1) 511 .no (idx a ((2 : Nat) : Int))) = zis a l q 2 (zdq k.sz k.m 2 w.1 (idx a ((2 : Nat) : Int))) := by rw [zgc _ _ e5']
    unfold ze0; rw [key]; refine ⟨by rw [Option.map_eq_none_iff, Option.map_eq_none_iff], fun A hA => ?_⟩; obtain ⟨r, hr', rfl⟩ := Option.map_eq_some_iff.1 hA; refine ⟨upd (zdq k.sz k.m 2 w.1) (idx a ((2 : Nat) : Int)) r, by rw [hr']; rfl, fun K y1 y2 y3 y4 => ?_, ?_⟩
    · rw [zhf K e2, y1, y3, ← e3, y4]; exact (upd_comm _ _ _ (fun hh => e5' hh.symm)).symm
    · have n1 := zfn (upd (zdq k.sz k.m 2 w.1) 511 .no) (idx a ((2 : Nat) : Int)) r hi; rw [zgc _ _ e5'] at n1; have n2 := zfn (zdq k.sz k.m 2 w.1) (idx a ((2 : Nat) : Int)) r hi; omega
 constructor
 · intro hh; have := h3v (hir.1 (hins.1.1 hh)); rw [if_pos (by omega)]; exact this
 · intro A hA; obtain ⟨A0, hA0, hK, hcn⟩ := hins.2 A hA; have h30 : lk3 k w.1 w.2.1 a l = 0 := by
    rcases h3 with e | e
    · exact e.1
    · exfalso
      have : ¬ (atM k.sz k.m (zao k.sz k.m a l m w.1).1 (idx a (zao k.sz k.m a l m w.1).2)).v = true := fun hv => by
       rw [hir.2 hv] at hA0; cases hA0
      unfold lk3 at e; rw [hre] at e; have this : (atM k.sz k.m (zao k.sz k.m a l m w.1).1 (idx a (zao k.sz k.m a l m w.1).2)).v = false := by simpa using this
      rw [this] at e; cases e
   rw [if_neg (by omega)]; rcases hds A0 hA0 with ⟨d1, d2, d3, d4⟩ | ⟨d1, d2⟩
   · rw [if_neg (by omega)]; have hmK : (z5o k D a pa l p (decide (id = -1))).m = zba k.sz D.1 D.2.2.1 (idx a l) q := by rw [← hq]; rfl
     refine .inl ⟨rfl, hK _ rfl rfl rfl (by rw [hmK]; exact d2), ?_, fun id' hne hlv => ?_⟩
     · show cnt D.2.1 + zi0 A = _; omega
     · have d4' : ∀ s j, (0 ≤ j ∧ j < 512) → Al k.cd k.cp k.pf s → ¬ (s = w.1 ∧ j = idx a (m : Int)) → ¬ (lkP (atM k.sz k.m w.1 (idx a (m : Int))) = true ∧ s ∈ frN k.sz k.m (m - 1) (atM k.sz k.m w.1 (idx a (m : Int))).ppn) → atM k.sz (z5o k D a pa l p (decide (id = -1))).m s j = atM k.sz k.m s j := fun s j hj hs hn hc => by
        rw [hmK]; refine d4 s j hj hs hn ?_; rintro ⟨m', em, k1, k2⟩; obtain rfl : m' = m - 1 := by omega
        exact hc ⟨k1, k2⟩
       rcases hwt with ⟨e1, e2, e3⟩ | ⟨e1, e2, e3, e4, e5⟩
       · obtain rfl : m = 1 := by omega
         have hl' : za4 k id' = true := hlv.resolve_left (fun hh => hne (hh.trans e3.symm)); obtain ⟨g0, g1, g2, g3⟩ := zdc hl'; have hne1 : id' ≠ -1 := fun hh => hne (hh.trans e3.symm); rw [zhf _ hne1, zhf _ hne1]; rw [e1] at d4'; exact zy2 hT hs (hr _ (List.mem_of_getElem? g2) g3) (h.l.root hl') hi d4'
       · obtain rfl : m = 2 := by omega
         have hwr : lv w.1 = 2 := by rw [z1, e4]
         by_cases hid : id' = -1
         · subst hid; rw [zk8, zk8]; exact z7e hT hwr h.l.sh hs hi e5 d4'
         · have hl' : za4 k id' = true := hlv.resolve_left hid; obtain ⟨g0, g1, g2, g3⟩ := zdc hl'; obtain ⟨f0, f1, f2, f3⟩ := zdc e1; rw [zhf _ hid, zhf _ hid]; have hrn : w.1 ≠ (zcw k id').root := by
            rw [e3]; exact hR.r id.toNat id'.toNat _ _ f2 g2 (by omega) f3 g3
           exact zy3 hT hwr (hr _ (List.mem_of_getElem? g2) g3) (h.l.root hl') hrn hi e5 d4'
   · rw [if_pos (by omega)]; exact .inr ⟨d1, by omega⟩
theorem z1j (a zam : Int) (q : Pte) : ∀ (l : Nat) (tr A : Tr), zis a zam q l tr = some A → zn6 tr ≤ zn6 A := by
 intro l
 induction l with
 | zero =>
  intro tr A h; unfold zis at h; cases tr <;> simp [z45] at h
  exact Nat.zero_le _
 | succ l ih =>
  intro tr A h; by_cases w1 : zam = ((l + 1 : Nat) : Int)
  · rw [ziz w1] at h; cases tr <;> simp [z45] at h
    exact Nat.zero_le _
  have l1 : z5q tr = false := by
   cases tr with
   | lf p => rw [zmm] at h; cases h
   | no => rfl
   | tb f => rfl
  rw [zfs w1 l1] at h; obtain ⟨F, hF, rfl⟩ := Option.map_eq_some_iff.1 h; unfold ze0 at hF; obtain ⟨r, hr, rfl⟩ := Option.map_eq_some_iff.1 hF; have hi := idx_bd a (l : Int); have n1 := zfn (zoe tr) (idx a (l : Int)) r hi; have n2 := ih _ _ hr; have n3 : zn6 (.tb (upd (zoe tr) (idx a (l : Int)) r)) = 1 + zi0 (upd (zoe tr) (idx a (l : Int)) r) := rfl; have n4 : zn6 tr ≤ 1 + zi0 (zoe tr) := by
   cases tr with
   | no => exact Nat.zero_le _
   | lf p => exact Nat.zero_le _
   | tb f => exact Nat.le_refl _
  omega
theorem zla {a zam : Int} {q : Pte} {l : Nat} {F A : Int → Tr} (h : ze0 a zam q l F = some A) : zi0 F ≤ zi0 A := by
 unfold ze0 at h; obtain ⟨r, hr, rfl⟩ := Option.map_eq_some_iff.1 h; have hi := idx_bd a (l : Int); have n1 := zfn F (idx a (l : Int)) r hi; have n2 := z1j a zam q l _ _ hr; omega
theorem twice {n : Nat} {k : Kr} {id a pa l id' a' pa' l' : Int} {p p' : Pm} (h : InvT n k) (hR : Rts k) (hp : U pa) (hp' : U pa') (h0 : (zdh k id a pa l p).2 = 0) :
 (zdh (zdh k id a pa l p).1 id a pa l p).2 = 6 ∧
 ((zdh (zdh k id a pa l p).1 id' a' pa' l' p').2 = 0 → (zdh k id' a' pa' l' p').2 = 0 ∧ (zdh (zdh k id' a' pa' l' p').1 id a pa l p).2 = 0 ∧
   cnt (zdh (zdh k id a pa l p).1 id' a' pa' l' p').1.pf = cnt (zdh (zdh k id' a' pa' l' p').1 id a pa l p).1.pf ∧
   ∀ i, zkq (zdh (zdh k id a pa l p).1 id' a' pa' l' p').1 i = zkq (zdh (zdh k id' a' pa' l' p').1 id a pa l p).1 i) := by
 have hf := zy0 h0; have h1 := zgr (id := id) (a := a) (pa := pa) (l := l) (p := p) h hp; have r1 := zsg hR id a pa l p; obtain ⟨q1, q2⟩ := zk9 h hR hp hf; obtain ⟨A, hA⟩ : ∃ A, ze0 a l (mkP (pa / 4096) p (decide (id = -1))) (z1i id) (zlv k id) = some A := by
  cases e : ze0 a l (mkP (pa / 4096) p (decide (id = -1))) (z1i id) (zlv k id) with
  | none => have := q1 e; omega
  | some A => exact ⟨A, rfl⟩
 rcases q2 A hA with ⟨_, s1, s2, s3⟩ | ⟨s0, _⟩
 rotate_left
 · omega
 refine ⟨(zk9 h1 r1 hp (zn8.2 hf)).1 (by rw [s1]; exact zvd hA), fun h2 => ?_⟩
 have hf2 := zy0 h2; have hf' : Fit k id' a' pa' l' p' := zn8.1 hf2; have h12 := zgr (id := id') (a := a') (pa := pa') (l := l') (p := p') h1 hp'; obtain ⟨t1, t2⟩ := zk9 h1 r1 hp' hf2; obtain ⟨B, hB⟩ : ∃ B, ze0 a' l' (mkP (pa' / 4096) p' (decide (id' = -1))) (z1i id') (zlv (zdh k id a pa l p).1 id') = some B := by
  cases e : ze0 a' l' (mkP (pa' / 4096) p' (decide (id' = -1))) (z1i id') (zlv (zdh k id a pa l p).1 id') with
  | none => have := t1 e; omega
  | some A => exact ⟨A, rfl⟩
 rcases t2 B hB with ⟨_, u1, u2, u3⟩ | ⟨u0, _⟩
 rotate_left
 · omega
 obtain ⟨v1, v2⟩ := zk9 h hR hp' hf'; have h2' := zgr (id := id') (a := a') (pa := pa') (l := l') (p := p') h hp'; have r2 := zsg hR id' a' pa' l' p'; obtain ⟨x1, x2⟩ := zk9 h2' r2 hp (zn8.2 hf); have h21 := zgr (id := id) (a := a) (pa := pa) (l := l) (p := p) h2' hp
 -- the same is listed where the shapes are the same
 have fin : ∀ K K' : Kr, InvT (n + 3 + 3) K → InvT (n + 3 + 3) K' → (∀ i, za4 K i = za4 k i) → (∀ i, za4 K' i = za4 k i) → (∀ i, (i = -1 ∨ za4 k i = true) → zlv K i = zlv K' i) → ∀ i, zkq K i = zkq K' i := fun K K' g1 g2 l1 l2 hsh i => by
  rw [zt0 g1, zt0 g2, l1, l2]; by_cases e : i = -1
  · rw [if_pos e, if_pos e, hsh i (.inl e)]
  · rw [if_neg e, if_neg e]; cases e2 : za4 k i with
    | false => rfl
    | true => rw [if_neg (by simp), if_neg (by simp), hsh i (.inr e2)]
 have lva : ∀ i, za4 (zdh (zdh k id a pa l p).1 id' a' pa' l' p').1 i = za4 k i := fun i => by rw [zc0, zc0]
 have lvb : ∀ i, za4 (zdh (zdh k id' a' pa' l' p').1 id a pa l p).1 i = za4 k i := fun i => by rw [zc0, zc0]
 have hlid : id = -1 ∨ za4 k id = true := by
  rcases zd5 h.l hf.w with ⟨_, _, e⟩ | ⟨e, _⟩
  · exact .inl e
  · exact .inr e
 have hlid' : id' = -1 ∨ za4 k id' = true := by
  rcases zd5 h.l hf'.w with ⟨_, _, e⟩ | ⟨e, _⟩
  · exact .inl e
  · exact .inr e
 by_cases hid : id' = id
 · subst hid; rw [s1] at hB; obtain ⟨C, hC, hD⟩ := zyx hA hB; have m1 := zla hD; rcases v2 C hC with ⟨y0, y1, y2, y3⟩ | ⟨y0, y1⟩
   rotate_left
   · rw [s1] at u2; omega
   rw [← y1] at hD; rcases x2 B hD with ⟨z0, z1, z2, z3⟩ | ⟨z0, z1⟩
   rotate_left
   · rw [s1] at u2; rw [y1] at z1; omega
   refine ⟨y0, z0, by rw [s1] at u2; rw [y1] at z2; omega, fin _ _ h12 h21 lva lvb fun i hi => ?_⟩
   by_cases e : i = id'
   · subst e; rw [u1, z1]
   · rw [u3 i e (by rw [zc0]; exact hi), s3 i e hi, z3 i e (by rw [zc0]; exact hi), y3 i e hi]
 · rw [s3 id' hid hlid'] at hB; rcases v2 B hB with ⟨y0, y1, y2, y3⟩ | ⟨y0, y1⟩
   rotate_left
   · have := zla hA; rw [s3 id' hid hlid'] at u2; omega
   have hA' := hA; rw [← y3 id (fun hh => hid hh.symm) hlid] at hA'; rcases x2 A hA' with ⟨z0, z1, z2, z3⟩ | ⟨z0, z1⟩
   rotate_left
   · have := zla hB; rw [y3 id (fun hh => hid hh.symm) hlid] at z1; rw [s3 id' hid hlid'] at u2; omega
   refine ⟨y0, z0, by rw [s3 id' hid hlid'] at u2; rw [y3 id (fun hh => hid hh.symm) hlid] at z2; omega, fin _ _ h12 h21 lva lvb fun i hi => ?_⟩
   by_cases e : i = id'
   · subst e; rw [u1, z3 i hid (by rw [zc0]; exact hi), y1]
   · by_cases e2 : i = id
     · subst e2; rw [u3 i e (by rw [zc0]; exact hi), s1, z1]
     · rw [u3 i e (by rw [zc0]; exact hi), s3 i e2 hi, z3 i e2 (by rw [zc0]; exact hi), y3 i e hi]
end LnD
namespace LnF
open Go.RowKit Bv VaSpec Base MemL RegR Ax MemC PutC MemC3 OkS SpA SpB SpC SpD SpF SpN SpH SpI SpJ LaA LaB LaC LaD LaE LaG LiA LiB LiC LiE LrA LrC LjA LjF LkE LmA LmB LmE LnA LnB PteSpec RfG RfJ RfK LaH RfQ LnD
inductive Dd (E : Int → Int → Pte) (sh : Int) (R : Int → Int → Prop) : Int → Int → Prop
 | lf {s i : Int} (h : zas (E s i) = true) (r : R s i) : Dd E sh R s i
 | lk {s i : Int} (h : lkP (E s i) = true) (n : (E s i).ppn ≠ sh) (a : ∀ j, (0 ≤ j ∧ j < 512) → E (E s i).ppn j ≠ zP → Dd E sh R (E s i).ppn j) : Dd E sh R s i
section
variable {E E' E2 : Int → Int → Pte} {al al' al2 : Int → Prop} {sh : Int} {R R' : Int → Int → Prop}
theorem zy4 {p : Pte} (h : zas p = true) : p ≠ zP := fun e => by rw [e] at h; cases h
theorem zn9 {p : Pte} (h : lkP p = true) : p ≠ zP := fun e => by rw [e] at h; cases h
theorem Dd.nz {s i : Int} (h : Dd E sh R s i) : E s i ≠ zP := by
 cases h with
 | lf h _ => exact zy4 h
 | lk h _ _ => exact zn9 h
theorem Dd.mono (hR : ∀ s i, zas (E s i) = true → R s i → R' s i) {s i : Int} (h : Dd E sh R s i) : Dd E sh R' s i := by
 induction h with
 | lf h r => exact .lf h (hR _ _ h r)
 | lk h n a ih => exact .lk h n ih
theorem Dd.inv {s i : Int} (h : Dd E sh R s i) : (zas (E s i) = true ∧ R s i) ∨ (lkP (E s i) = true ∧ (E s i).ppn ≠ sh ∧ ∀ j, (0 ≤ j ∧ j < 512) → E (E s i).ppn j ≠ zP → Dd E sh R (E s i).ppn j) := by
 cases h with
 | lf h r => exact .inl ⟨h, r⟩
 | lk h n a => exact .inr ⟨h, n, a⟩
structure Rm (E : Int → Int → Pte) (al : Int → Prop) (sh : Int) (R : Int → Int → Prop) (E' : Int → Int → Pte) (al' : Int → Prop) : Prop where
 z : ∀ s i, (0 ≤ i ∧ i < 512) → Dd E sh R s i → E' s i = zP
 k : ∀ s i, (0 ≤ i ∧ i < 512) → ¬ Dd E sh R s i → E' s i = E s i
 a : ∀ s, al' s ↔ al s ∧ ∀ t i, (0 ≤ i ∧ i < 512) → lkP (E t i) = true → (E t i).ppn = s → ¬ Dd E sh R t i
theorem Rm.nz (h : Rm E al sh R E' al') {s i : Int} (hi : 0 ≤ i ∧ i < 512) (hn : E' s i ≠ zP) : ¬ Dd E sh R s i ∧ E' s i = E s i := by
 have : ¬ Dd E sh R s i := fun hd => hn (h.z s i hi hd); exact ⟨this, h.k s i hi this⟩
theorem Rm.comp1 (h : Rm E al sh R E' al') {s i : Int} (hd : Dd E' sh R' s i) : (0 ≤ i ∧ i < 512) → Dd E sh (fun s i => R s i ∨ R' s i) s i := by
 induction hd with
 | lf g r => intro hi; rw [(h.nz hi (zy4 g)).2] at g; exact .lf g (.inr r)
 | @lk s i g n a ih =>
  intro hi; have e := (h.nz hi (zn9 g)).2; rw [e] at g n a ih; refine .lk g n fun j hj hne => ?_; by_cases c : Dd E sh R (E s i).ppn j
  · exact c.mono fun _ _ _ r => .inl r
  · exact ih j hj (by rw [h.k _ j hj c]; exact hne) hj
theorem Rm.comp2 (h : Rm E al sh R E' al') {s i : Int} (hd : Dd E sh (fun s i => R s i ∨ R' s i) s i) : (0 ≤ i ∧ i < 512) → Dd E sh R s i ∨ Dd E' sh R' s i := by
 induction hd with
 | @lf s i g r =>
  intro hi; rcases r with r | r
  · exact .inl (.lf g r)
  · by_cases c : Dd E sh R s i
    · exact .inl c
    · exact .inr (.lf (by rw [h.k s i hi c]; exact g) r)
 | @lk s i g n a ih =>
  intro hi; by_cases c : Dd E sh R s i
  · exact .inl c
  · have e := h.k s i hi c; refine .inr (.lk (by rw [e]; exact g) (by rw [e]; exact n) fun j hj hne => ?_)
    rw [e] at hne ⊢; obtain ⟨c1, c2⟩ := h.nz hj hne; exact (ih j hj (by rw [← c2]; exact hne) hj).resolve_left c1
theorem Rm.comp (h : Rm E al sh R E' al') (g : Rm E' al' sh R' E2 al2) : Rm E al sh (fun s i => R s i ∨ R' s i) E2 al2 := by
 refine ⟨fun s i hi hd => ?_, fun s i hi hd => ?_, fun s => ?_⟩
 · rcases h.comp2 hd hi with c | c
   · by_cases d : Dd E' sh R' s i
     · exact g.z s i hi d
     · rw [g.k s i hi d]; exact h.z s i hi c
   · exact g.z s i hi c
 · have c : ¬ Dd E sh R s i := fun c => hd (c.mono fun _ _ _ r => .inl r); have d : ¬ Dd E' sh R' s i := fun d => hd (h.comp1 d hi); rw [g.k s i hi d, h.k s i hi c]
 · rw [g.a, h.a]; constructor
   · rintro ⟨⟨q1, q2⟩, q3⟩; refine ⟨q1, fun t i hi k1 k2 hd => ?_⟩; have c := q2 t i hi k1 k2; have e := h.k t i hi c; rcases h.comp2 hd hi with d | d
     · exact c d
     · exact q3 t i hi (by rw [e]; exact k1) (by rw [e]; exact k2) d
   · rintro ⟨q1, q2⟩; refine ⟨⟨q1, fun t i hi k1 k2 hd => q2 t i hi k1 k2 (hd.mono fun _ _ _ r => .inl r)⟩, fun t i hi k1 k2 hd => ?_⟩; have e := (h.nz hi (zn9 k1)).2; rw [e] at k1 k2; exact q2 t i hi k1 k2 (h.comp1 hd hi)
theorem Rm.cong (h : Rm E al sh R E' al') (hR : ∀ s i, (0 ≤ i ∧ i < 512) → zas (E s i) = true → (R s i ↔ R' s i)) : (∀ s i, (0 ≤ i ∧ i < 512) → (Dd E sh R s i ↔ Dd E sh R' s i)) := by
 have key : ∀ {R R' : Int → Int → Prop}, (∀ s i, (0 ≤ i ∧ i < 512) → zas (E s i) = true → R s i → R' s i) → ∀ {s i}, Dd E sh R s i → (0 ≤ i ∧ i < 512) → Dd E sh R' s i := fun {R R'} hR {s i} hd => by
  induction hd with
  | lf g r => intro hi; exact .lf g (hR _ _ hi g r)
  | lk g n a ih => intro hi; exact .lk g n fun j hj hne => ih j hj hne hj
 exact fun s i hi => ⟨fun hd => key (fun s i hi g => (hR s i hi g).1) hd hi, fun hd => key (fun s i hi g => (hR s i hi g).2) hd hi⟩
theorem Rm.same (h : Rm E al sh R E' al') (g : Rm E al sh R' E2 al2) (hR : ∀ s i, (0 ≤ i ∧ i < 512) → zas (E s i) = true → (R s i ↔ R' s i)) : (∀ s i, (0 ≤ i ∧ i < 512) → E' s i = E2 s i) ∧ ∀ s, al' s ↔ al2 s := by
 have hc := h.cong hR; refine ⟨fun s i hi => ?_, fun s => ?_⟩
 · by_cases c : Dd E sh R s i
   · rw [h.z s i hi c, g.z s i hi ((hc s i hi).1 c)]
   · rw [h.k s i hi c, g.k s i hi fun d => c ((hc s i hi).2 d)]
 · rw [h.a, g.a]; exact and_congr Iff.rfl ⟨fun q t i hi k1 k2 hd => q t i hi k1 k2 ((hc t i hi).2 hd), fun q t i hi k1 k2 hd => q t i hi k1 k2 ((hc t i hi).1 hd)⟩
end
def zp9 (sz : Int) (xs : List (Int × Int)) (a zam : Int) : Nat → Int → List (Int × Int)
 | 0, t => [(t, idx a 0)]
 | l + 1, t => (t, idx a ((l + 1 : Nat) : Int)) :: (if zam < ((l + 1 : Nat) : Int) ∧ za2 (atM sz xs t (idx a ((l + 1 : Nat) : Int))) ((l + 1 : Nat) : Int) = true then zp9 sz xs a zam l (atM sz xs t (idx a ((l + 1 : Nat) : Int))).ppn else [])
theorem z2o {sz a zam t : Int} {xs : List (Int × Int)} {l : Nat} (h1 : zam < ((l + 1 : Nat) : Int)) (h2 : za2 (atM sz xs t (idx a ((l + 1 : Nat) : Int))) ((l + 1 : Nat) : Int) = true) : zp9 sz xs a zam (l + 1) t = (t, idx a ((l + 1 : Nat) : Int)) :: zp9 sz xs a zam l (atM sz xs t (idx a ((l + 1 : Nat) : Int))).ppn := by
 show _ :: (if _ then _ else _) = _; rw [if_pos ⟨h1, h2⟩]
section
variable {cd cp sz f sh : Int} {xs : List (Int × Int)} {lv : Int → Int}
def z2p (sz : Int) (xs : List (Int × Int)) (t i : Int) (l : Nat) : Int → Int → Prop := fun s j => (s = t ∧ j = i) ∨ (lkP (atM sz xs t i) = true ∧ s ∈ frN sz xs (l - 1) (atM sz xs t i).ppn)
theorem z2q (h : TI cd cp sz xs f sh lv) (hn : NE (atM sz xs) sh) (R : Int → Int → Prop) : ∀ (l : Nat) (g : Int), Al cd cp f g → lv g = l → l ≤ 1 → (∀ s ∈ frN sz xs l g, ∀ j, (0 ≤ j ∧ j < 512) → R s j) → ∀ s ∈ frN sz xs l g, ∀ j, (0 ≤ j ∧ j < 512) → atM sz xs s j ≠ zP → Dd (atM sz xs) sh R s j := by
 intro l
 induction l with
 | zero =>
  intro g ha hl _ hR s hs j hj hne; have e : s = g := by simpa [frN] using hs
  subst e; rcases h.e.k s j hj with e | ⟨_, _, ⟨e1, _⟩ | ⟨e1, e2, _⟩⟩
  · exact absurd e hne
  · exact .lf e1 (hR _ hs j hj)
  · omega
 | succ l ih =>
  intro g ha hl h1 hR s hs j hj hne; have key : ∀ j, (0 ≤ j ∧ j < 512) → atM sz xs g j ≠ zP → Dd (atM sz xs) sh R g j ∧ (lkP (atM sz xs g j) = true → ∀ s ∈ frN sz xs l (atM sz xs g j).ppn, s ∈ frN sz xs (l + 1) g) := fun j hj hne => by
   have mem : lkP (atM sz xs g j) = true → ∀ s ∈ frN sz xs l (atM sz xs g j).ppn, s ∈ frN sz xs (l + 1) g := fun hk s hs => by
    simp only [frN, List.mem_cons]; refine .inr (List.mem_flatMap.2 ⟨j.toNat, List.mem_range.2 (by omega), ?_⟩); rw [show ((j.toNat : Nat) : Int) = j by omega, if_pos (zb7 hk (by omega))]; exact hs
   refine ⟨?_, mem⟩; rcases h.e.k g j hj with e | ⟨_, _, ⟨e1, _⟩ | ⟨e1, e2, e3, e4⟩⟩
   · exact absurd e hne
   · exact .lf e1 (hR _ (zb8 _ _ _ _) j hj)
   · refine .lk e1 (fun e => by have := (h.e.s g j hj e1 e).2; omega) fun j' hj' hne' => ?_
     exact ih _ e4 (by rw [e3, hl]; omega) (by omega) (fun s hs j hj => hR s (mem e1 s hs) j hj) _ (zb8 _ _ _ _) j' hj' hne'
  simp only [frN, List.mem_cons] at hs; rcases hs with rfl | hs
  · exact (key j hj hne).1
  · obtain ⟨i, hi, hs⟩ := List.mem_flatMap.1 hs; have hi := List.mem_range.1 hi
    split at hs
    · rename_i hlk; obtain ⟨k1, k2, k3, k4, k5⟩ := zh3 h (by omega) hlk; exact ih _ k5 (by rw [k4, hl]; omega) (by omega) (fun s' hs' j hj => hR s' ((key i (by omega) (zn9 k1)).2 k1 s' hs') j hj) s hs j hj hne
    · cases hs
theorem zlb (h : TI cd cp sz xs f sh lv) : ∀ (l : Nat) (g : Int), Al cd cp f g → lv g = l → ∀ s ∈ frN sz xs l g, ∀ j, (0 ≤ j ∧ j < 512) → lkP (atM sz xs s j) = true → (atM sz xs s j).ppn ∈ frN sz xs l g := by
 intro l
 induction l with
 | zero =>
  intro g ha hl s hs j hj hk; have e : s = g := by simpa [frN] using hs
  have := (zb5 h hj hk).2.1; rw [e] at this; omega
 | succ l ih =>
  intro g ha hl s hs j hj hk; simp only [frN, List.mem_cons] at hs ⊢; rcases hs with rfl | hs
  · refine .inr (List.mem_flatMap.2 ⟨j.toNat, List.mem_range.2 (by omega), ?_⟩); rw [show ((j.toNat : Nat) : Int) = j by omega, if_pos (zb7 hk (by omega))]; exact zb8 _ _ _ _
  · obtain ⟨i, hi, hs⟩ := List.mem_flatMap.1 hs; have hi' := List.mem_range.1 hi; refine .inr (List.mem_flatMap.2 ⟨i, hi, ?_⟩)
    split at hs
    · rename_i hlk; rw [if_pos hlk]; obtain ⟨k1, k2, k3, k4, k5⟩ := zh3 h (by omega) hlk; exact ih _ k5 (by rw [k4, hl]; omega) s hs j hj hk
    · cases hs
theorem ze7 (h : TI cd cp sz xs f sh lv) (a zam : Int) (hw : 0 ≤ zam) {t : Int} {l' : Nat} : ∀ (l : Nat) (t0 : Int), Al cd cp f t0 → lv t0 = l → zam ≤ (l : Int) → zao sz xs a zam l t0 = (t, (l' : Int)) →
 (t, idx a (l' : Int)) ∈ zp9 sz xs a zam l t0 ∧ l' ≤ l ∧ lv t = l' ∧ Al cd cp f t ∧ ∀ s j, (s, j) ∈ zp9 sz xs a zam l t0 → j = idx a (lv s) ∧ ((l' : Int) ≤ lv s ∧ lv s ≤ l) ∧ Al cd cp f s ∧ (s = t0 ∨ ∃ s' i', (s', i') ∈ zp9 sz xs a zam l t0 ∧ lkP (atM sz xs s' i') = true ∧ (atM sz xs s' i').ppn = s) := by
 intro l
 induction l with
 | zero =>
  intro t0 ha hl hwl hr; have hr : (t0, (0 : Int)) = (t, (l' : Int)) := hr; simp only [Prod.mk.injEq] at hr; obtain ⟨rfl, e⟩ := hr; obtain rfl : l' = 0 := by omega
  refine ⟨List.mem_singleton.2 rfl, by omega, hl, ha, fun s j hm => ?_⟩; have hm := List.mem_singleton.1 hm; simp only [Prod.mk.injEq] at hm; obtain ⟨rfl, rfl⟩ := hm; exact ⟨by rw [hl]; rfl, ⟨by omega, by omega⟩, ha, .inl rfl⟩
 | succ l ih =>
  intro t0 ha hl hwl hr; have hi := idx_bd a ((l + 1 : Nat) : Int); by_cases c : zam < ((l + 1 : Nat) : Int) ∧ za2 (atM sz xs t0 (idx a ((l + 1 : Nat) : Int))) ((l + 1 : Nat) : Int) = true
  · obtain ⟨k1, k2, k3, k4, k5⟩ := zh3 h hi c.2; rw [zbk c.1 c.2] at hr; obtain ⟨q1, q2, q3, q4, q5⟩ := ih _ k5 (by rw [k4, hl]; omega) (by omega) hr
    rw [z2o c.1 c.2]; refine ⟨List.mem_cons_of_mem _ q1, by omega, q3, q4, fun s j hm => ?_⟩; rcases List.mem_cons.1 hm with e | hm
    · simp only [Prod.mk.injEq] at e; obtain ⟨rfl, rfl⟩ := e; exact ⟨by rw [hl], ⟨by omega, by omega⟩, ha, .inl rfl⟩
    · obtain ⟨r1, r2, r3, r4⟩ := q5 s j hm; refine ⟨r1, ⟨r2.1, by omega⟩, r3, .inr ?_⟩; rcases r4 with rfl | ⟨s', i', m1, m2, m3⟩
      · exact ⟨t0, _, List.mem_cons_self .., k1, rfl⟩
      · exact ⟨s', i', List.mem_cons_of_mem _ m1, m2, m3⟩
  · have hno : zao sz xs a zam (l + 1) t0 = (t0, ((l + 1 : Nat) : Int)) := zbh (fun hh => by
     cases e : za2 (atM sz xs t0 (idx a ((l + 1 : Nat) : Int))) ((l + 1 : Nat) : Int) with
     | false => rfl
     | true => exact absurd ⟨hh, e⟩ c) hw
    rw [hno] at hr; simp only [Prod.mk.injEq] at hr; obtain ⟨rfl, e⟩ := hr; obtain rfl : l' = l + 1 := by omega
    have hW : zp9 sz xs a zam (l + 1) t0 = [(t0, idx a ((l + 1 : Nat) : Int))] := by
     show _ :: (if _ then _ else _) = _; rw [if_neg c]
    rw [hW]; refine ⟨List.mem_singleton.2 rfl, by omega, hl, ha, fun s j hm => ?_⟩; have hm := List.mem_singleton.1 hm; simp only [Prod.mk.injEq] at hm; obtain ⟨rfl, rfl⟩ := hm; exact ⟨by rw [hl], ⟨by omega, by omega⟩, ha, .inl rfl⟩
theorem z2r (h : TI cd cp sz xs f sh lv) (hn : NE (atM sz xs) sh) (a zam : Int) (hw : 0 ≤ zam) {t top : Int} {l0 l' : Nat} (ha : Al cd cp f top) (hl : lv top = l0) (hwl : zam ≤ (l0 : Int)) (h0 : l0 = 2 ∨ top = sh) (hr : zao sz xs a zam l0 top = (t, (l' : Int))) {s j : Int} (hd : Dd (atM sz xs) sh (z2p sz xs t (idx a (l' : Int)) l') s j) :
 (0 ≤ j ∧ j < 512) → (s, j) ∈ zp9 sz xs a zam l0 top ∨ (lkP (atM sz xs t (idx a (l' : Int))) = true ∧ s ∈ frN sz xs (l' - 1) (atM sz xs t (idx a (l' : Int))).ppn) := by
 obtain ⟨w1, w2, w3, w4, w5⟩ := ze7 h a zam hw l0 top ha hl hwl hr; have hi := idx_bd a (l' : Int)
 induction hd with
 | lf g r =>
  intro _; rcases r with ⟨rfl, rfl⟩ | r
  · exact .inl w1
  · exact .inr r
 | @lk s j g n b ih =>
  intro hj; obtain ⟨j', hj', hne⟩ := hn s j hj g n; obtain ⟨b1, b2, b3, b4⟩ := zb5 h hj g; rcases ih j' hj' hne hj' with m | ⟨m1, m2⟩
  · obtain ⟨_, _, _, v⟩ := w5 _ _ m; rcases v with e | ⟨s', i', v1, v2, v3⟩
    · rcases h0 with h0 | h0
      · rw [e, hl, h0] at b3; omega
      · exact absurd (e.trans h0) n
    · have hi' : 0 ≤ i' ∧ i' < 512 := by rw [(w5 _ _ v1).1]; exact idx_bd _ _
      obtain ⟨rfl, rfl⟩ := h.e.u s j s' i' hj hi' g v2 v3.symm n; exact .inl v1
  · obtain ⟨c1, c2, c3, c4⟩ := zb5 h hi m1; obtain ⟨_, _, v⟩ := zbc h (l' - 1) _ c4 (by rw [c3, w3]; omega) _ m2
    rcases v with e | ⟨s', v0, i', v1, v2, v3, _⟩
    · obtain ⟨rfl, rfl⟩ := h.e.u s j t _ hj hi g m1 e n; exact .inl w1
    · obtain ⟨rfl, rfl⟩ := h.e.u s j s' i' hj v1 g v2 v3.symm n; exact .inr ⟨m1, v0⟩
theorem z2s (h : TI cd cp sz xs f sh lv) {t a e : Int} {l' : Nat} (s : Int) : Al cd cp (zdu sz cd cp (xs, f, (t, (l' : Int)), e) a).2 s ↔ Al cd cp f s ∧ ¬ (zbf (atM sz xs t (idx a (l' : Int))) = true ∧ s ∈ frN sz xs ((l' : Int) - 1).toNat (atM sz xs t (idx a (l' : Int))).ppn) := by
 by_cases c : zbf (atM sz xs t (idx a (l' : Int))) = true
 · have e1 : zdu sz cd cp (xs, f, (t, (l' : Int)), e) a = bkN cd cp (frN sz xs ((l' : Int) - 1).toNat (atM sz xs t (idx a (l' : Int))).ppn) (xs, f) := if_pos c; rw [e1]; have hb := zgp cd cp sz h.bp (frN sz xs ((l' : Int) - 1).toNat (atM sz xs t (idx a (l' : Int))).ppn) (xs, f) h.s h.bf; rw [hb.a s]; exact and_congr Iff.rfl ⟨fun q hh => q hh.2, fun q hh => q ⟨c, hh⟩⟩
 · have e1 : zdu sz cd cp (xs, f, (t, (l' : Int)), e) a = (xs, f) := if_neg c; rw [e1]; exact ⟨fun q => ⟨q, fun hh => c hh.1⟩, fun q => q.1⟩
theorem zlc (h : TI cd cp sz xs f sh lv) {t i : Int} (hi : 0 ≤ i ∧ i < 512) : zbf (atM sz xs t i) = true ↔ lkP (atM sz xs t i) = true := by
 constructor
 · intro c; rcases h.e.k t i hi with e | ⟨_, _, ⟨e, _⟩ | ⟨e, _⟩⟩
   · rw [e] at c; cases c
   · rw [(zbw e).1] at c; cases c
   · exact e
 · exact fun c => (za8 c).1
structure PrD (sz cd cp : Int) (xs : List (Int × Int)) (sh : Int) (R : Int → Int → Prop) (W : List (Int × Int)) (c r : List (Int × Int) × Int) : Prop where
 z : ∀ s j, (0 ≤ j ∧ j < 512) → (s, j) ∈ W → Dd (atM sz xs) sh R s j → atM sz r.1 s j = zP
 k : ∀ s j, (0 ≤ j ∧ j < 512) → ¬ ((s, j) ∈ W ∧ Dd (atM sz xs) sh R s j) → atM sz r.1 s j = atM sz c.1 s j
 a : ∀ s, Al cd cp r.2 s ↔ Al cd cp c.2 s ∧ ∀ t i, (t, i) ∈ W → lkP (atM sz xs t i) = true → (atM sz xs t i).ppn = s → ¬ Dd (atM sz xs) sh R t i
theorem z1k (h : TI cd cp sz xs f sh lv) (hn : NE (atM sz xs) sh) (hsh : Al cd cp f sh) (a zam : Int) (hw : 0 ≤ zam) {t top e : Int} {l0 l' : Nat} (ha : Al cd cp f top) (hl : lv top = l0) (hwl : zam ≤ (l0 : Int)) (h02 : l0 ≤ 2) (hH : l0 = 2 → idx a 2 ≠ 511) (h0 : l0 = 2 ∨ top = sh) (hr : zao sz xs a zam l0 top = (t, (l' : Int))) :
 ∀ (l : Nat) (t0 : Int), l ≤ l0 → Al cd cp f t0 → lv t0 = l → zam ≤ (l : Int) → zao sz xs a zam l t0 = (t, (l' : Int)) → (∀ s j, (s, j) ∈ zp9 sz xs a zam l t0 → (s, j) ∈ zp9 sz xs a zam l0 top) →
 PrD sz cd cp xs sh (z2p sz xs t (idx a (l' : Int)) l') (zp9 sz xs a zam l t0) (zba sz (zdu sz cd cp (xs, f, (t, (l' : Int)), e) a).1 t (idx a (l' : Int)) zP, (zdu sz cd cp (xs, f, (t, (l' : Int)), e) a).2)
  (prN sz cd cp a l t0 (zba sz (zdu sz cd cp (xs, f, (t, (l' : Int)), e) a).1 t (idx a (l' : Int)) zP, (zdu sz cd cp (xs, f, (t, (l' : Int)), e) a).2)) := by
 obtain ⟨w1, w2, w3, w4, w5⟩ := ze7 h a zam hw l0 top ha hl hwl hr; have hi := idx_bd a (l' : Int); have hl2 : l' = 2 → idx a 2 ≠ 511 := fun hh => hH (by omega); have hoff := fun s j hd => z2r h hn a zam hw ha hl hwl h0 hr (s := s) (j := j) hd; have hat := fun s j hj => z2m (e := e) (a := a) (l' := l') h w4 s j hj; have hal := fun s => z2s (e := e) (a := a) (l' := l') (t := t) h s; obtain ⟨c1, c2, _⟩ := zpx (e := e) (a := a) h hsh w4 w3 (by omega) hl2; have hln : ((l' : Int) - 1).toNat = l' - 1 := by omega
 rw [hln] at hat hal; have hF : ∀ g, lkP (atM sz xs t (idx a (l' : Int))) = true → g ∈ frN sz xs (l' - 1) (atM sz xs t (idx a (l' : Int))).ppn → lv g < l' := fun g k1 k2 => by
  obtain ⟨b1, b2, b3, b4⟩ := zb5 h hi k1; have := (zbc h (l' - 1) _ b4 (by rw [b3, w3]; omega) g k2).2.1
  omega
 have hspot : atM sz xs t (idx a (l' : Int)) ≠ zP → Dd (atM sz xs) sh (z2p sz xs t (idx a (l' : Int)) l') t (idx a (l' : Int)) := fun hne => by
  rcases h.e.k t _ hi with e | ⟨_, _, ⟨e1, _⟩ | ⟨e1, e2, e3, e4⟩⟩
  · exact absurd e hne
  · exact .lf e1 (.inl ⟨rfl, rfl⟩)
  · have hns : (atM sz xs t (idx a (l' : Int))).ppn ≠ sh := fun ee => by
     obtain ⟨q1, q2⟩ := h.e.s t _ hi e1 ee; have e5 : l' = 2 := by omega
     rw [e5] at q1; exact hl2 e5 q1
    refine .lk e1 hns fun j hj hne => ?_; exact z2q h hn _ (l' - 1) _ e4 (by rw [e3, w3]; omega) (by omega) (fun s hs j hj => .inr ⟨e1, hs⟩) _ (zb8 _ _ _ _) j hj hne
 generalize hc0 : (zba sz (zdu sz cd cp (xs, f, (t, (l' : Int)), e) a).1 t (idx a (l' : Int)) zP, (zdu sz cd cp (xs, f, (t, (l' : Int)), e) a).2) = c at *; have hc1 : zba sz (zdu sz cd cp (xs, f, (t, (l' : Int)), e) a).1 t (idx a (l' : Int)) zP = c.1 := by rw [← hc0]
 have hc2 : (zdu sz cd cp (xs, f, (t, (l' : Int)), e) a).2 = c.2 := by rw [← hc0]
 rw [hc1] at hat c1; rw [hc2] at hal c1 c2; clear hc0 hc1 hc2; generalize hRR : z2p sz xs t (idx a (l' : Int)) l' = R at *; intro l
 induction l with
 | zero =>
  intro t0 _ hta hlt hwl0 hrt _; have hrt : (t0, (0 : Int)) = (t, (l' : Int)) := hrt; simp only [Prod.mk.injEq] at hrt; obtain ⟨rfl, e0⟩ := hrt; obtain rfl : l' = 0 := by omega
  show PrD sz cd cp xs sh R [(t0, idx a 0)] c c; refine ⟨fun s j hj hm _ => ?_, fun s j hj _ => rfl, fun s => ⟨fun q => ⟨q, fun t' i' hm k1 _ => ?_⟩, fun q => q.1⟩⟩
  · have hm := List.mem_singleton.1 hm; simp only [Prod.mk.injEq] at hm; rw [hat s j hj, if_pos ⟨hm.1, hm.2⟩]
  · have hm := List.mem_singleton.1 hm; simp only [Prod.mk.injEq] at hm; rw [hm.1, hm.2] at k1; have := (zb5 h hi k1).2.1; rw [hlt] at this; omega
 | succ l ih =>
  intro t0 hll hta hlt hwl0 hrt hsub; have hi0 := idx_bd a ((l + 1 : Nat) : Int); by_cases cg : zam < ((l + 1 : Nat) : Int) ∧ za2 (atM sz xs t0 (idx a ((l + 1 : Nat) : Int))) ((l + 1 : Nat) : Int) = true
  · -- the way goes on
    obtain ⟨k1, k2, k3, k4, k5⟩ := zh3 h hi0 cg.2; rw [zbk cg.1 cg.2] at hrt; have hlg : lv (atM sz xs t0 (idx a ((l + 1 : Nat) : Int))).ppn = l := by rw [k4, hlt]; omega
    obtain ⟨p1, p2, p3, p4, p5⟩ := ze7 h a zam hw l _ k5 hlg (by omega) hrt; have hW := z2o cg.1 cg.2; rw [hW] at hsub ⊢; have hsub' : ∀ s j, (s, j) ∈ zp9 sz xs a zam l (atM sz xs t0 (idx a ((l + 1 : Nat) : Int))).ppn → (s, j) ∈ zp9 sz xs a zam l0 top := fun s j hm => hsub s j (List.mem_cons_of_mem _ hm); have I := ih _ (by omega) k5 hlg (by omega) hrt hsub'; have ht0 : t0 ≠ t := fun e => by rw [e, w3] at hlt; omega
    have hE1 : atM sz c.1 t0 (idx a ((l + 1 : Nat) : Int)) = atM sz xs t0 (idx a ((l + 1 : Nat) : Int)) := by
     rw [hat _ _ hi0, if_neg (fun hh => ht0 hh.1), if_neg]; rintro ⟨m1, m2⟩; have := hF _ ((zlc h hi).1 m1) m2; omega
    have hgs : (atM sz xs t0 (idx a ((l + 1 : Nat) : Int))).ppn ≠ sh := fun ee => by
     obtain ⟨q1, q2⟩ := h.e.s t0 _ hi0 k1 ee; have e5 : l0 = 2 := by omega
     rw [show ((l + 1 : Nat) : Int) = 2 by omega] at q1; exact hH e5 q1
    have hP := zgq a c1 l (atM sz xs t0 (idx a ((l + 1 : Nat) : Int))).ppn (by omega) (c2 _ k5 (.inr (by rw [hlg]; omega))) hlg (fun hh => by omega)
    -- the table below: what is left of it
    have hgc : ∀ j, (0 ≤ j ∧ j < 512) → (atM sz (prN sz cd cp a l (atM sz xs t0 (idx a ((l + 1 : Nat) : Int))).ppn c).1 (atM sz xs t0 (idx a ((l + 1 : Nat) : Int))).ppn j = zP ↔ atM sz xs (atM sz xs t0 (idx a ((l + 1 : Nat) : Int))).ppn j = zP ∨ Dd (atM sz xs) sh R (atM sz xs t0 (idx a ((l + 1 : Nat) : Int))).ppn j) := fun j hj => by
     have hnF : ¬ (zbf (atM sz xs t (idx a (l' : Int))) = true ∧ (atM sz xs t0 (idx a ((l + 1 : Nat) : Int))).ppn ∈ frN sz xs (l' - 1) (atM sz xs t (idx a (l' : Int))).ppn) := fun hh => by
      have := hF _ ((zlc h hi).1 hh.1) hh.2; omega
     constructor
     · intro hz; by_cases c : (((atM sz xs t0 (idx a ((l + 1 : Nat) : Int))).ppn, j) ∈ zp9 sz xs a zam l (atM sz xs t0 (idx a ((l + 1 : Nat) : Int))).ppn ∧ Dd (atM sz xs) sh R (atM sz xs t0 (idx a ((l + 1 : Nat) : Int))).ppn j)
       · exact .inr c.2
       · rw [I.k _ j hj c, hat _ j hj] at hz; by_cases c2 : (atM sz xs t0 (idx a ((l + 1 : Nat) : Int))).ppn = t ∧ j = idx a (l' : Int)
         · by_cases c3 : atM sz xs (atM sz xs t0 (idx a ((l + 1 : Nat) : Int))).ppn j = zP
           · exact .inl c3
           · rw [c2.1, c2.2] at c3 ⊢; exact .inr (hspot c3)
         · rw [if_neg c2, if_neg hnF] at hz; exact .inl hz
     · intro hor; by_cases c : (((atM sz xs t0 (idx a ((l + 1 : Nat) : Int))).ppn, j) ∈ zp9 sz xs a zam l (atM sz xs t0 (idx a ((l + 1 : Nat) : Int))).ppn ∧ Dd (atM sz xs) sh R (atM sz xs t0 (idx a ((l + 1 : Nat) : Int))).ppn j)
       · exact I.z _ j hj c.1 c.2
       · rcases hor with hz | hd
         · rw [I.k _ j hj c, hat _ j hj]; by_cases c2 : (atM sz xs t0 (idx a ((l + 1 : Nat) : Int))).ppn = t ∧ j = idx a (l' : Int)
           · rw [if_pos c2]
           · rw [if_neg c2, if_neg hnF, hz]
         · exfalso
           refine c ⟨?_, hd⟩; rcases hoff _ _ hd hj with m | m
           · have e1 := (w5 _ _ m).1; rw [hlg] at e1; rw [e1]; cases l with
             | zero => exact List.mem_singleton.2 rfl
             | succ l => exact List.mem_cons_self ..
           · exact absurd ⟨(zlc h hi).2 m.1, m.2⟩ hnF
    have hag := hP.a _ (c2 _ k5 (.inr (by rw [hlg]; omega))) (.inr (by rw [hlg]; omega))
    have hemp := znw hP.t hag.1; have hlkc : za2 (atM sz c.1 t0 (idx a ((l + 1 : Nat) : Int))) ((l + 1 : Nat) : Int) = true := by rw [hE1]; exact cg.2
    have hpr : prN sz cd cp a (l + 1) t0 c = if zec (prN sz cd cp a l (atM sz xs t0 (idx a ((l + 1 : Nat) : Int))).ppn c).1 (atM sz xs t0 (idx a ((l + 1 : Nat) : Int))).ppn then
     (zba sz (TableC.za6 (prN sz cd cp a l (atM sz xs t0 (idx a ((l + 1 : Nat) : Int))).ppn c).1 (atM sz xs t0 (idx a ((l + 1 : Nat) : Int))).ppn) t0 (idx a ((l + 1 : Nat) : Int)) zP, TableC2.zdz cd cp (prN sz cd cp a l (atM sz xs t0 (idx a ((l + 1 : Nat) : Int))).ppn c).2 (atM sz xs t0 (idx a ((l + 1 : Nat) : Int))).ppn)
     else prN sz cd cp a l (atM sz xs t0 (idx a ((l + 1 : Nat) : Int))).ppn c := by
     conv => lhs; unfold prN
     rw [if_pos hlkc, hE1]
    rw [hpr]; have hb := h.bd; have hta' := hta.1; generalize hg : (atM sz xs t0 (idx a ((l + 1 : Nat) : Int))).ppn = g at *; generalize hrr : prN sz cd cp a l g c = r at *; have hDd : Dd (atM sz xs) sh R t0 (idx a ((l + 1 : Nat) : Int)) ↔ zec r.1 g = true := by
     constructor
     · intro hd; cases he : zec r.1 g with
       | true => rfl
       | false =>
        exfalso
        obtain ⟨j, hj, hne⟩ := hemp.2 he; have hz : atM sz r.1 g j = zP := by
         refine (hgc j hj).2 ?_; by_cases c0 : atM sz xs g j = zP
         · exact .inl c0
         · rcases hd.inv with ⟨q1, _⟩ | ⟨_, _, q3⟩
           · rw [zcg q1] at k1; cases k1
           · rw [hg] at q3; exact .inr (q3 j hj c0)
        unfold atM at hz; have hu := zf5 hP.t.u sz (g * 4096 + j * 8); exact z2b hu hne hz
     · intro he; refine .lk k1 (by rw [hg]; exact hgs) fun j hj hne => ?_
       rw [hg] at hne ⊢; have hz : atM sz r.1 g j = zP := by unfold atM; rw [hemp.1 he j hj, znr]
       exact ((hgc j hj).1 hz).resolve_left hne
    cases he : zec r.1 g with
    | false =>
     rw [if_neg (by simp)]; have hnd : ¬ Dd (atM sz xs) sh R t0 (idx a ((l + 1 : Nat) : Int)) := fun hd => by rw [hDd.1 hd] at he; cases he
     refine ⟨fun s j hj hm hd => ?_, fun s j hj hn' => I.k s j hj fun hh => hn' ⟨List.mem_cons_of_mem _ hh.1, hh.2⟩, fun s => ?_⟩
     · rcases List.mem_cons.1 hm with e1 | hm
       · simp only [Prod.mk.injEq] at e1; rw [e1.1, e1.2] at hd; exact absurd hd hnd
       · exact I.z s j hj hm hd
     · rw [I.a s]; refine and_congr Iff.rfl ⟨fun q t' i' hm q1 q2 hd => ?_, fun q t' i' hm => q t' i' (List.mem_cons_of_mem _ hm)⟩; rcases List.mem_cons.1 hm with e1 | hm
       · simp only [Prod.mk.injEq] at e1; rw [e1.1, e1.2] at hd; exact hnd hd
       · exact q t' i' hm q1 q2 hd
    | true =>
     rw [if_pos rfl]; have hd0 := hDd.2 he; have hzg : ∀ j, (0 ≤ j ∧ j < 512) → atM sz r.1 g j = zP := fun j hj => by unfold atM; rw [hemp.1 he j hj, znr]
     have hwi : zba sz (TableC.za6 r.1 g) t0 (idx a ((l + 1 : Nat) : Int)) zP = zb3 (TableC.za6 r.1 g) (t0 * 512 + idx a ((l + 1 : Nat) : Int)) 0 := by
      rw [zem z17 (by omega) hi0 (by rw [h.bz]; omega), zpn]
     have hE : ∀ s j, (0 ≤ j ∧ j < 512) → atM sz (zba sz (TableC.za6 r.1 g) t0 (idx a ((l + 1 : Nat) : Int)) zP) s j = if s = t0 ∧ j = idx a ((l + 1 : Nat) : Int) then zP else atM sz r.1 s j := fun s j hj => by
      rw [hwi, zhc (cd := cd) (cp := cp) (zcr _ hP.t.s) h.bz (by omega) hi0 s j hj, znt hP.t.s _ s j hj]
      split
      · rfl
      · split
        · rename_i e1; rw [e1, hzg j hj]
        · rfl
     refine ⟨fun s j hj hm hd => ?_, fun s j hj hn' => ?_, fun s => ?_⟩
     · show atM sz (zba sz (TableC.za6 r.1 g) t0 (idx a ((l + 1 : Nat) : Int)) zP) s j = zP; rw [hE s j hj]; rcases List.mem_cons.1 hm with e1 | hm
       · simp only [Prod.mk.injEq] at e1; rw [if_pos e1]
       · split
         · rfl
         · exact I.z s j hj hm hd
     · show atM sz (zba sz (TableC.za6 r.1 g) t0 (idx a ((l + 1 : Nat) : Int)) zP) s j = _; rw [hE s j hj, if_neg]
       · exact I.k s j hj fun hh => hn' ⟨List.mem_cons_of_mem _ hh.1, hh.2⟩
       · intro e1; refine hn' ⟨?_, by rw [e1.1, e1.2]; exact hd0⟩
         rw [e1.1, e1.2]; exact List.mem_cons_self ..
     · show Al cd cp (TableC2.zdz cd cp r.2 g) s ↔ _; rw [zru h.bp hP.t.bf, I.a s, and_assoc]; refine and_congr Iff.rfl ⟨fun q t' i' hm q1 q2 hd => ?_, fun q => ⟨fun t' i' hm => q t' i' (List.mem_cons_of_mem _ hm), fun e1 => ?_⟩⟩
       · rcases List.mem_cons.1 hm with e1 | hm
         · simp only [Prod.mk.injEq] at e1; rw [e1.1, e1.2, hg] at q2; exact q.2 q2.symm
         · exact q.1 t' i' hm q1 q2 hd
       · exact q t0 _ (List.mem_cons_self ..) k1 (hg.trans e1.symm) hd0
  · -- the way ends
    have hno : zao sz xs a zam (l + 1) t0 = (t0, ((l + 1 : Nat) : Int)) := zbh (fun hh => by
     cases e : za2 (atM sz xs t0 (idx a ((l + 1 : Nat) : Int))) ((l + 1 : Nat) : Int) with
     | false => rfl
     | true => exact absurd ⟨hh, e⟩ cg) hw
    rw [hno] at hrt; simp only [Prod.mk.injEq] at hrt; obtain ⟨rfl, e0⟩ := hrt; obtain rfl : l' = l + 1 := by omega
    have hW : zp9 sz xs a zam (l + 1) t0 = [(t0, idx a ((l + 1 : Nat) : Int))] := by
     show _ :: (if _ then _ else _) = _; rw [if_neg cg]
    have hz := hat t0 _ hi0; rw [if_pos ⟨rfl, rfl⟩] at hz; have hpr : prN sz cd cp a (l + 1) t0 c = c := by
     unfold prN; rw [hz, if_neg (by unfold za2 zbf zP; simp)]
    rw [hW, hpr]; refine ⟨fun s j hj hm _ => ?_, fun s j hj _ => rfl, fun s => ⟨fun q => ⟨q, fun t' i' hm q1 q2 _ => ?_⟩, fun q => q.1⟩⟩
    · have hm := List.mem_singleton.1 hm; simp only [Prod.mk.injEq] at hm; rw [hat s j hj, if_pos ⟨hm.1, hm.2⟩]
    · have hm := List.mem_singleton.1 hm; simp only [Prod.mk.injEq] at hm; rw [hm.1, hm.2] at q1 q2; refine ((hal s).1 q).2 ⟨(za8 q1).1, ?_⟩; rw [q2]; exact zb8 _ _ _ _
theorem z1l (h : TI cd cp sz xs f sh lv) (hn : NE (atM sz xs) sh) (hsh : Al cd cp f sh) (a zam : Int) (hw : 0 ≤ zam) {t top e : Int} {l0 l' : Nat} (ha : Al cd cp f top) (hl : lv top = l0) (hwl : zam ≤ (l0 : Int)) (h02 : l0 ≤ 2) (hH : l0 = 2 → idx a 2 ≠ 511) (h0 : l0 = 2 ∨ top = sh) (hr : zao sz xs a zam l0 top = (t, (l' : Int))) :
 Rm (atM sz xs) (Al cd cp f) sh (z2p sz xs t (idx a (l' : Int)) l')
  (atM sz (prN sz cd cp a l0 top (zba sz (zdu sz cd cp (xs, f, (t, (l' : Int)), e) a).1 t (idx a (l' : Int)) zP, (zdu sz cd cp (xs, f, (t, (l' : Int)), e) a).2)).1)
  (Al cd cp (prN sz cd cp a l0 top (zba sz (zdu sz cd cp (xs, f, (t, (l' : Int)), e) a).1 t (idx a (l' : Int)) zP, (zdu sz cd cp (xs, f, (t, (l' : Int)), e) a).2)).2) := by
 obtain ⟨w1, w2, w3, w4, w5⟩ := ze7 h a zam hw l0 top ha hl hwl hr; have P := z1k (e := e) h hn hsh a zam hw ha hl hwl h02 hH h0 hr l0 top (Nat.le_refl _) ha hl hwl hr (fun _ _ hm => hm); have hi := idx_bd a (l' : Int); have hoff := fun s j hd => z2r h hn a zam hw ha hl hwl h0 hr (s := s) (j := j) hd; have hat := fun s j hj => z2m (e := e) (a := a) (l' := l') h w4 s j hj; have hal := fun s => z2s (e := e) (a := a) (l' := l') (t := t) h s; have hln : ((l' : Int) - 1).toNat = l' - 1 := by omega
 rw [hln] at hat hal; have hFd : lkP (atM sz xs t (idx a (l' : Int))) = true → ∀ s ∈ frN sz xs (l' - 1) (atM sz xs t (idx a (l' : Int))).ppn, ∀ j, (0 ≤ j ∧ j < 512) → atM sz xs s j ≠ zP → Dd (atM sz xs) sh (z2p sz xs t (idx a (l' : Int)) l') s j := fun k1 => by
  obtain ⟨b1, b2, b3, b4⟩ := zb5 h hi k1; exact z2q h hn _ (l' - 1) _ b4 (by rw [b3, w3]; omega) (by omega) (fun s hs j hj => .inr ⟨k1, hs⟩)
 have hspot : atM sz xs t (idx a (l' : Int)) ≠ zP → Dd (atM sz xs) sh (z2p sz xs t (idx a (l' : Int)) l') t (idx a (l' : Int)) := fun hne => by
  rcases h.e.k t _ hi with e | ⟨_, _, ⟨e1, _⟩ | ⟨e1, e2, e3, e4⟩⟩
  · exact absurd e hne
  · exact .lf e1 (.inl ⟨rfl, rfl⟩)
  · have hns : (atM sz xs t (idx a (l' : Int))).ppn ≠ sh := fun ee => by
     obtain ⟨q1, q2⟩ := h.e.s t _ hi e1 ee; have e5 : l' = 2 := by omega
     rw [e5] at q1; exact hH (by omega) q1
    exact .lk e1 hns fun j hj hne => hFd e1 _ (zb8 _ _ _ _) j hj hne
 refine ⟨fun s j hj hd => ?_, fun s j hj hd => ?_, fun s => ?_⟩
 · rcases hoff s j hd hj with m | ⟨m1, m2⟩
   · exact P.z s j hj m hd
   · by_cases c : (s, j) ∈ zp9 sz xs a zam l0 top ∧ Dd (atM sz xs) sh (z2p sz xs t (idx a (l' : Int)) l') s j
     · exact P.z s j hj c.1 c.2
     · rw [P.k s j hj c]; show atM sz (zba sz (zdu sz cd cp (xs, f, (t, (l' : Int)), e) a).1 t (idx a (l' : Int)) zP) s j = zP; rw [hat s j hj]
       split
       · rfl
       · rw [if_pos ⟨(za8 m1).1, m2⟩]
 · rw [P.k s j hj fun hh => hd hh.2]; show atM sz (zba sz (zdu sz cd cp (xs, f, (t, (l' : Int)), e) a).1 t (idx a (l' : Int)) zP) s j = _; rw [hat s j hj]; by_cases c : s = t ∧ j = idx a (l' : Int)
   · rw [if_pos c]; by_cases c2 : atM sz xs s j = zP
     · exact c2.symm
     · rw [c.1, c.2] at c2 hd; exact absurd (hspot c2) hd
   · rw [if_neg c]; by_cases c2 : zbf (atM sz xs t (idx a (l' : Int))) = true ∧ s ∈ frN sz xs (l' - 1) (atM sz xs t (idx a (l' : Int))).ppn
     · rw [if_pos c2]; by_cases c3 : atM sz xs s j = zP
       · exact c3.symm
       · exact absurd (hFd ((zlc h hi).1 c2.1) s c2.2 j hj c3) hd
     · rw [if_neg c2]
 · rw [P.a s]; show Al cd cp (zdu sz cd cp (xs, f, (t, (l' : Int)), e) a).2 s ∧ _ ↔ _; rw [hal s, and_assoc]; refine and_congr Iff.rfl ⟨fun q t' i' hi' q1 q2 hd => ?_, fun q => ⟨?_, fun t' i' hm q1 q2 hd => q t' i' (by rw [(w5 _ _ hm).1]; exact idx_bd _ _) q1 q2 hd⟩⟩
   · rcases hoff t' i' hd hi' with m | ⟨m1, m2⟩
     · exact q.2 t' i' m q1 q2 hd
     · obtain ⟨b1, b2, b3, b4⟩ := zb5 h hi m1; have := zlb h (l' - 1) _ b4 (by rw [b3, w3]; omega) t' m2 i' hi' q1
       rw [q2] at this; exact q.1 ⟨(za8 m1).1, this⟩
   · rintro ⟨m1, m2⟩; have m1' := (zlc h hi).1 m1; obtain ⟨b1, b2, b3, b4⟩ := zb5 h hi m1'; obtain ⟨_, _, v⟩ := zbc h (l' - 1) _ b4 (by rw [b3, w3]; omega) s m2
     rcases v with e1 | ⟨s', v0, i', v1, v2, v3, _⟩
     · exact q t _ hi m1' e1.symm (hspot (zn9 m1'))
     · exact q s' i' v1 v2 v3 (hFd m1' s' v0 i' v1 (zn9 v2))
end
end LnF
namespace LnG
open Go.RowKit Bv VaSpec Base MemL RegR Ax MemC PutC MemC3 TzC OkS SpA SpB SpC SpD SpE SpF SpN SpO SpH SpI LaA LaB LaC LaD LaE LaG LiA LiB LiC LiE LrA LrB LjA LjF LkE LmA LmE LnA LnB BitsC PteSpec RfG RfJ RfK LaH RfQ LnD LnF
theorem z7f {E E' : Int → Int → Pte} {al al' : Int → Prop} {sh : Int} {R : Int → Int → Prop} (h : Rm E al sh R E' al') (hn : NE E sh) : NE E' sh := fun s i hi h1 h2 => by
 obtain ⟨c, e⟩ := h.nz hi (zn9 h1); rw [e] at h1 h2 ⊢; refine Classical.byContradiction fun hc => c (.lk h1 h2 fun j hj hne => Classical.byContradiction fun hd => hc ⟨j, hj, ?_⟩); rw [h.k _ j hj hd]; exact hne
theorem Rm.conv {E E' : Int → Int → Pte} {al al' : Int → Prop} {sh : Int} {R R' : Int → Int → Prop} (h : Rm E al sh R E' al') (hR : ∀ s i, (0 ≤ i ∧ i < 512) → zas (E s i) = true → (R s i ↔ R' s i)) : Rm E al sh R' E' al' := by
 have hc := Rm.cong h hR
 exact ⟨fun s i hi hd => h.z s i hi ((hc s i hi).2 hd), fun s i hi hd => h.k s i hi fun d => hd ((hc s i hi).1 d), fun s => by
  rw [h.a s]
  exact and_congr Iff.rfl ⟨fun q t i hi k1 k2 hd => q t i hi k1 k2 ((hc t i hi).2 hd), fun q t i hi k1 k2 hd => q t i hi k1 k2 ((hc t i hi).1 hd)⟩⟩
theorem z7g {cd cp f f' : Int} (hb : 1 ≤ cp ∧ cp ≤ 64) (h : 0 ≤ f ∧ f < 2 ^ cp.toNat) (h' : 0 ≤ f' ∧ f' < 2 ^ cp.toNat) (he : ∀ s, Al cd cp f s ↔ Al cd cp f' s) : f = f' := by
 have u : U f := zha h.1 h.2 (by omega); have u' : U f' := zha h'.1 h'.2 (by omega); have hi : ∀ (g : Int), U g → g < 2 ^ cp.toNat → ∀ i : Nat, cp.toNat ≤ i → (X g).getLsbD i = false := fun g hg hlt i hi => by
  have e : (X g).toNat = g.toNat := zro hg; have : (X g).toNat < 2 ^ i := by
   rw [e]; have h1 : (2 : Int) ^ cp.toNat = ((2 ^ cp.toNat : Nat) : Int) := by push_cast; rfl
   have h2 : 2 ^ cp.toNat ≤ 2 ^ i := Nat.pow_le_pow_right (by omega) hi; have := hg.1; omega
  rw [BitVec.getLsbD]; exact Nat.testBit_lt_two_pow this
 have hX : X f = X f' := by
  refine BitVec.eq_of_getLsbD_eq fun i hi64 => ?_; by_cases c : cp.toNat ≤ i
  · rw [hi f u h.2 i c, hi f' u' h'.2 i c]
  · have e := he (cd + (i : Int)); unfold Al at e; rw [show cd + (i : Int) - cd = (i : Int) by omega, zea (by omega), zea (by omega), Int.toNat_natCast] at e; have r : (cd ≤ cd + (i : Int) ∧ cd + (i : Int) < cd + cp) := by omega
    cases e1 : (X f).getLsbD i <;> cases e2 : (X f').getLsbD i
    · rfl
    · rw [e1, e2] at e; have := (e.1 ⟨r, rfl⟩).2; cases this
    · rw [e1, e2] at e; have := (e.2 ⟨r, rfl⟩).2; cases this
    · rfl
 have e1 := zro u; have e2 := zro u'; rw [hX, e2] at e1; have := u.1; have := u'.1; omega
section
variable {cd cp sz sh : Int}
theorem z7h {f : Int} {xs : List (Int × Int)} {lv : Int → Int} (h : TI cd cp sz xs f sh lv) (hn : NE (atM sz xs) sh) (h0 : f ≠ 0) {t i l : Int} {q : Pte} (ht : Al cd cp f t) (hi : 0 ≤ i ∧ i < 512) (hl : 1 ≤ l ∧ l ≤ 2) (hq : q = atM sz xs t i) (h1 : zas q = true) (h2 : zco q l = false) : NE (atM sz (zfk sz xs t i l q (cd + tzI f))) sh := fun s j hj k1 k2 => by
 have hat := fun s j hj => zks h h0 ht hi hl hq h1 h2 s j hj; obtain ⟨a0, a1, a2, a3⟩ := zch h h0; have hU : q.U := by rw [hq]; exact ze5 h.u _ _ _
 have hm : zhr q = true := by rw [hq]; exact zg0 h.u
 have hgt : cd + tzI f ≠ t := fun e => (a0 _ ht).2 e.symm; have hpn : ∀ j, (0 ≤ j ∧ j < 512) → prt q l j ≠ zP := fun j hj => zy4 (zd4 hU hm hl h1 h2 hj).2.2.1; have keep : ∀ s j, (0 ≤ j ∧ j < 512) → atM sz xs s j ≠ zP → atM sz (zfk sz xs t i l q (cd + tzI f)) s j ≠ zP := fun s j hj hne => by
  rw [hat s j hj]; by_cases c : s = t ∧ j = i
  · rw [if_pos c]; exact zu9 rfl
  · rw [if_neg c]; by_cases d : s = cd + tzI f
    · rw [if_pos d]; exact hpn j hj
    · rw [if_neg d]; exact hne
 rw [hat s j hj] at k1 k2 ⊢; by_cases c : s = t ∧ j = i
 · rw [if_pos c]; refine ⟨0, by omega, ?_⟩; show atM sz (zfk sz xs t i l q (cd + tzI f)) (cd + tzI f) 0 ≠ zP; rw [hat _ 0 (by omega), if_neg (fun hh => hgt hh.1), if_pos rfl]; exact hpn 0 (by omega)
 · rw [if_neg c] at k1 k2 ⊢; by_cases d : s = cd + tzI f
   · rw [if_pos d] at k1; rw [zcg (zd4 hU hm hl h1 h2 hj).2.2.1] at k1; cases k1
   · rw [if_neg d] at k1 k2 ⊢; obtain ⟨j', hj', hne⟩ := hn s j hj k1 k2; exact ⟨j', hj', keep _ _ hj' hne⟩
theorem z1m (addr zam top : Int) (l : Nat) (hw : 0 ≤ zam) (hwl : zam ≤ (l : Int)) (hl2 : l ≤ 2) : ∀ (n : Nat) (xs : List (Int × Int)) (f : Int) (lv : Int → Int), TI cd cp sz xs f sh lv → NE (atM sz xs) sh → Al cd cp f top → Al cd cp f sh → lv top = l → NE (atM sz (toN sz cd addr zam top l n xs f).1) sh
 | 0, xs, f, lv, h, hn, ht, _, hl => hn
 | n + 1, xs, f, lv, h, hn, ht, hsh, hl => by
  obtain ⟨l', t', i1, i2, i3, i4, i5, i6, i7⟩ := zci h addr zam hw l top ht hl hwl; unfold toN; rw [i1]; by_cases c1 : (l' : Int) = zam ∨ zas (atM sz xs t' (idx addr (l' : Int))) = false
  · rw [if_pos c1]; exact hn
  · rw [if_neg c1]; by_cases c4 : f = 0
    · rw [if_pos c4]; exact hn
    · rw [if_neg c4]; have c2 : ¬ (l' : Int) = zam := fun e => c1 (.inl e); have hlf : zas (atM sz xs t' (idx addr (l' : Int))) = true := by
       cases e : zas (atM sz xs t' (idx addr (l' : Int))) with
       | true => rfl
       | false => exact absurd (.inr e) c1
      obtain ⟨m, rfl⟩ : ∃ m : Nat, l' = m + 1 := ⟨l' - 1, by omega⟩; have hi := idx_bd addr ((m + 1 : Nat) : Int); have hbad : zco (atM sz xs t' (idx addr ((m + 1 : Nat) : Int))) ((m + 1 : Nat) : Int) = false := by
       rcases h.e.k t' _ hi with e | ⟨_, _, ⟨_, e⟩ | ⟨e, _⟩⟩
       · rw [e] at hlf; cases hlf
       · rw [i5] at e; exact e
       · rw [(za8 e).2.2] at hlf; cases hlf
      obtain ⟨a0, a1, a2, a3⟩ := zch h c4; have hT := zkt h c4 i4 hsh hi i5 (by omega) rfl hlf hbad; exact z1m addr zam top l hw hwl hl2 n _ _ _ hT (z7h h hn c4 i4 hi (l := ((m + 1 : Nat) : Int)) (by omega) rfl hlf hbad) (a0 _ ht).1 (a0 _ hsh).1 ((if_neg (a0 _ ht).2).trans hl)
end
theorem zoa {n : Nat} {k : Kr} {id a l : Int} (h : InvT n k) (c0 : (zal k id a l).2.2 = 0) : (zal k id a l).2.1 = 2 ∨ (zal k id a l).1 = k.sh := by
 rcases zd5 h.l c0 with ⟨e1, _⟩ | ⟨_, _, _, e, _⟩
 · exact .inr e1
 · exact .inl e
theorem un_n {n : Nat} {k : Kr} {id a l : Int} (h : InvT n k) (g : InvN k) : InvN (unR k id a l).1 := by
 unfold unR
 split
 · exact g
 · rename_i c0
   split
   · exact g
   · split
     · exact g
     · rename_i c5; obtain ⟨lv, hT, hs, hr⟩ := h.t; obtain ⟨w1, w2, w3, w4⟩ := zbd (id := id) (a := a) (l := l) h.l (by omega); obtain ⟨z1, z2⟩ := h.top (a := a) (id := id) (l := l) (by omega) hs hr; have z3 := zoa (id := id) (a := a) (l := l) h (by omega); generalize zal k id a l = w at *; obtain ⟨lv', P⟩ := zls a l w.1 w.2.1.toNat w1.1 (by omega) (by omega) w.2.1.toNat k.m k.pf lv hT w2 h.l.sh (by omega); have hN := z1m a l w.1 w.2.1.toNat w1.1 (by omega) (by omega) w.2.1.toNat k.m k.pf lv hT g.ne w2 h.l.sh (by omega); have hN : NE (atM k.sz (unT k w.1 w.2.1 a l).1) k.sh := hN; have P : ToP k.cd k.cp k.sz k.pf k.sh a l w.1 w.2.1.toNat k.m lv w.2.1.toNat (unT k w.1 w.2.1 a l) lv' := P; generalize unT k w.1 w.2.1 a l = T at *; obtain ⟨xs, f, ⟨t, lt⟩, e⟩ := T; obtain ⟨l', e1, e2, e3, e4, e5⟩ := P.p; have e1 : lt = (l' : Int) := e1; subst e1; have hPt : TI k.cd k.cp k.sz xs f k.sh lv' := P.t; have ash := P.a _ h.l.sh; have atop := P.a _ w2; have hPr : zao k.sz xs a l w.2.1.toNat w.1 = (t, (l' : Int)) := P.r; have Q := z1l (e := e) hPt hN ash.1 a l w1.1 (top := w.1) (l0 := w.2.1.toNat) (l' := l') atop.1 (by rw [atop.2]; omega) (by omega) (by omega) (fun hh => z2 (by omega)) (z3.imp (fun hh => by omega) (fun hh => hh)) hPr
       exact ⟨z7f Q hN⟩
theorem z7i {sz sh : Int} {p : Pm} {xs xs' : List (Int × Int)} (h : Shp sz p xs xs') (hn : NE (atM sz xs) sh) : NE (atM sz xs') sh := fun s j hj k1 k2 => by
 rcases h s j hj with e | ⟨_, e, _⟩
 · rw [e] at k1 k2 ⊢; obtain ⟨j', hj', hne⟩ := hn s j hj k1 k2; refine ⟨j', hj', ?_⟩; rcases h _ j' hj' with e' | ⟨_, e', _⟩
   · rw [e']; exact hne
   · exact zy4 e'
 · rw [zcg e] at k1; cases k1
theorem pr_n {n : Nat} {k : Kr} {id a l : Int} {p : Pm} (h : InvT n k) (g : InvN k) : InvN (prR k id a l p).1 := by
 unfold prR
 split
 · exact g
 · rename_i c0
   split
   · exact g
   · rename_i cp; have hp : zcb p = true := by simpa using cp
     split
     · exact g
     · rename_i c1
       split
       · exact g
       · rename_i c5; have c0' : (zal k id a l).2.2 = 0 := by omega
         have c5' : (unT k (zal k id a l).1 (zal k id a l).2.1 a l).2.2.2 = 0 := by omega
         have hlev := zp2 h c0' c1 c5'; have hlf := zvb h c0' c1; have hfm := zdp c0'; obtain ⟨lv, hT, hs, hr⟩ := h.t; obtain ⟨w1, w2, w3, w4⟩ := zbd (id := id) (a := a) (l := l) h.l c0'; obtain ⟨z1, z2⟩ := h.top (a := a) (id := id) (l := l) c0' hs hr; have hbm := zgs w1 hfm; generalize zal k id a l = w at *; obtain ⟨lv', P⟩ := zls a l w.1 w.2.1.toNat w1.1 (by omega) (by omega) w.2.1.toNat k.m k.pf lv hT w2 h.l.sh (by omega); have hN := z1m a l w.1 w.2.1.toNat w1.1 (by omega) (by omega) w.2.1.toNat k.m k.pf lv hT g.ne w2 h.l.sh (by omega); have hN : NE (atM k.sz (unT k w.1 w.2.1 a l).1) k.sh := hN; have hto := zva a l w.1 w.2.1.toNat w1.1 (by omega) (by omega) w.2.1.toNat k.m k.pf lv hT w2 h.l.sh (by omega) hlf c5'; have P : ToP k.cd k.cp k.sz k.pf k.sh a l w.1 w.2.1.toNat k.m lv w.2.1.toNat (unT k w.1 w.2.1 a l) lv' := P; have hto : zas (atM k.sz (unT k w.1 w.2.1 a l).1 (unT k w.1 w.2.1 a l).2.2.1.1 (idx a (unT k w.1 w.2.1 a l).2.2.1.2)) = true ∨ lkP (atM k.sz (unT k w.1 w.2.1 a l).1 (unT k w.1 w.2.1 a l).2.2.1.1 (idx a (unT k w.1 w.2.1 a l).2.2.1.2)) = true := hto; generalize unT k w.1 w.2.1 a l = T at *; obtain ⟨xs, f, ⟨t, lt⟩, e⟩ := T; obtain ⟨l', e1, e2, e3, e4, e5⟩ := P.p; have e1 : lt = (l' : Int) := e1; subst e1; have hll : (l' : Int) = l := hlev; have hPt : TI k.cd k.cp k.sz xs f k.sh lv' := P.t; exact ⟨z7i (ztv (t := t) (e := e) hPt hp (by omega) e5 (by rw [hll]; exact hbm) hto).1 hN⟩
theorem z7j {a v l m : Int} (hl : 0 ≤ l ∧ l ≤ 2) (hm : l ≤ m ∧ m ≤ 2) (ha : m39 a % VaSpec.sz l = 0) (h0 : m39 a ≤ m39 v) (h1 : m39 v < m39 a + VaSpec.sz l) : idx v m = idx a m := by
 rw [← zsa v m (by omega), ← zsa a m (by omega)]; unfold idx; rcases (by omega : l = 0 ∨ l = 1 ∨ l = 2) with rfl | rfl | rfl <;> rcases (by omega : m = 0 ∨ m = 1 ∨ m = 2) with rfl | rfl | rfl
 all_goals first
  | (exfalso; omega)
  | (simp only [show VaSpec.sz 0 = 4096 from rfl, show VaSpec.sz 1 = 2097152 from rfl, show VaSpec.sz 2 = 1073741824 from rfl] at *; omega)
theorem z49 {a l : Int} (hl : 0 ≤ l ∧ l ≤ 2) (hv : a = ofv (num a)) (hm : m39 a % VaSpec.sz l = 0) : zhh a l = true := by
 have hb := VaC.z6c (num a); have e : isv a = true := by
  rw [← zwi a (by omega) (by omega), beq_iff_eq]
  conv => rhs; rw [hv]
  have hm2 := zmk hl hm; unfold m39 at hm2; unfold ofv num
  congr 1
  omega
 unfold zhh off; rw [e, Bool.true_and, beq_iff_eq]; unfold m39 at hm; rcases (by omega : l = 0 ∨ l = 1 ∨ l = 2) with rfl | rfl | rfl
 all_goals
  simp only [show VaSpec.sz 0 = 4096 from rfl, show VaSpec.sz 1 = 2097152 from rfl, show VaSpec.sz 2 = 1073741824 from rfl] at *; omega
section
variable {cd cp sz f sh : Int} {xs : List (Int × Int)} {lv : Int → Int}
theorem zvf (h : TI cd cp sz xs f sh lv) (a v zam w : Int) (hw : 0 ≤ zam) {t : Int} {l' : Nat} (hlk : lkP (atM sz xs t (idx a (l' : Int))) = true) (hwv : 0 ≤ w ∧ w < (l' : Int)) (hix : ∀ m, (l' : Int) ≤ m → m ≤ 2 → idx v m = idx a m) : ∀ (l : Nat) (t0 : Int), l ≤ 2 → Al cd cp f t0 → lv t0 = l → zam ≤ (l : Int) → zao sz xs a zam l t0 = (t, (l' : Int)) → zao sz xs v w l t0 = zao sz xs v w (l' - 1) (atM sz xs t (idx a (l' : Int))).ppn := by
 intro l
 induction l with
 | zero =>
  intro t0 _ hta hlt hwl hr; have hr : (t0, (0 : Int)) = (t, (l' : Int)) := hr; simp only [Prod.mk.injEq] at hr; omega
 | succ l ih =>
  intro t0 h2 hta hlt hwl hr; have hi := idx_bd a ((l + 1 : Nat) : Int); by_cases cg : zam < ((l + 1 : Nat) : Int) ∧ za2 (atM sz xs t0 (idx a ((l + 1 : Nat) : Int))) ((l + 1 : Nat) : Int) = true
  · obtain ⟨k1, k2, k3, k4, k5⟩ := zh3 h hi cg.2; rw [zbk cg.1 cg.2] at hr; have hlg : lv (atM sz xs t0 (idx a ((l + 1 : Nat) : Int))).ppn = l := by rw [k4, hlt]; omega
    have := (ze7 h a zam hw l _ k5 hlg (by omega) hr).2.1; have e := hix ((l + 1 : Nat) : Int) (by omega) (by omega); rw [zbk (by omega) (by rw [e]; exact cg.2), e]
    exact ih _ (by omega) k5 hlg (by omega) hr
  · have hno : zao sz xs a zam (l + 1) t0 = (t0, ((l + 1 : Nat) : Int)) := zbh (fun hh => by
     cases e : za2 (atM sz xs t0 (idx a ((l + 1 : Nat) : Int))) ((l + 1 : Nat) : Int) with
     | false => rfl
     | true => exact absurd ⟨hh, e⟩ cg) hw
    rw [hno] at hr; simp only [Prod.mk.injEq] at hr; obtain ⟨rfl, e0⟩ := hr; obtain rfl : l' = l + 1 := by omega
    have e := hix ((l + 1 : Nat) : Int) (by omega) (by omega); rw [zbk hwv.2 (by rw [e]; exact zb7 hlk (by omega)), e]
    rfl
theorem z1n (h : TI cd cp sz xs f sh lv) : ∀ (l : Nat) (t b : Int) (y z : Pg), l ≤ 1 → Al cd cp f t → lv t = l → m39 b % (512 * VaSpec.sz l) = 0 → y ∈ za7 sz xs l t b → z ∈ za7 sz xs l t b → (zao sz xs y.va y.lev l t).1 = (zao sz xs z.va z.lev l t).1 → idx y.va y.lev = idx z.va z.lev → y = z := by
 have leafix : ∀ (l : Nat) (b : Int) (i : Nat) (p : Pte), l ≤ 1 → i < 512 → m39 b % (512 * VaSpec.sz l) = 0 → idx (zxi p (adr b i (l : Int)) (l : Int)).va (l : Int) = (i : Int) := fun l b i p h1 hi hb => by
  obtain ⟨e1, e2⟩ := zeo (b := b) (i := (i : Int)) (l := (l : Int)) (by omega) (by omega) hb; have hdv : m39 (adr b i (l : Int)) % VaSpec.sz (l : Int) = 0 := by
   rw [e1]; rcases (by omega : l = 0 ∨ l = 1) with rfl | rfl
   · have hz : VaSpec.sz ((0 : Nat) : Int) = 4096 := rfl; rw [hz] at hb ⊢; omega
   · have hz : VaSpec.sz ((1 : Nat) : Int) = 2097152 := rfl; rw [hz] at hb ⊢; omega
  have hsp := sz_pos (l := (l : Int)) (by omega); have e3 := zk2 (a := adr b i (l : Int)) (zmk (l := (l : Int)) (by omega) hdv); exact zk3 (l := (l : Int)) (by omega) (by omega) hb (by show _ ≤ m39 (ofv (num _)); rw [e3, e1]; omega) (by show m39 (ofv (num _)) < _; rw [e3, e1]; omega)
 intro l
 induction l with
 | zero =>
  intro t b y z _ ha hl hb hy hz hr hx; obtain ⟨i, hi, _, ⟨c1, rfl⟩ | ⟨_, m, e, _⟩⟩ := (zbp _ _ _ _ _ _).1 hy; rotate_left
  · omega
  obtain ⟨j, hj, _, ⟨c2, rfl⟩ | ⟨_, m, e, _⟩⟩ := (zbp _ _ _ _ _ _).1 hz; rotate_left
  · omega
  have e1 := leafix 0 b i (atM sz xs t i) (by omega) hi hb; have e2 := leafix 0 b j (atM sz xs t j) (by omega) hj hb; have : (i : Int) = (j : Int) := e1.symm.trans (hx.trans e2); rw [this]
 | succ l ih =>
  intro t b y z h1 ha hl hb hy hz hr hx; have child : ∀ (i : Nat) (y : Pg), i < 512 → zco (atM sz xs t i) ((l + 1 : Nat) : Int) = false → zas (atM sz xs t i) = false → y ∈ za7 sz xs l (atM sz xs t i).ppn (adr b i ((l + 1 : Nat) : Int)) → lkP (atM sz xs t i) = true ∧ m39 (adr b i ((l + 1 : Nat) : Int)) % (512 * VaSpec.sz (l : Int)) = 0 ∧ zao sz xs y.va y.lev (l + 1) t = zao sz xs y.va y.lev l (atM sz xs t i).ppn ∧ (0 ≤ y.lev ∧ y.lev ≤ (l : Int)) := fun i y hi c0 c1 hy => by
   have hi' : (0 : Int) ≤ (i : Int) ∧ (i : Int) < 512 := by omega
   have hlk : lkP (atM sz xs t i) = true := by
    rcases h.e.k t i hi' with e | ⟨_, _, ⟨e, _⟩ | ⟨e, _⟩⟩
    · rw [e] at c0; cases c0
    · rw [e] at c1; cases c1
    · exact e
   obtain ⟨e1, e2⟩ := zeo (b := b) (i := (i : Int)) (l := ((l + 1 : Nat) : Int)) (by omega) (by omega) hb; have hss := zhe (l := ((l + 1 : Nat) : Int)) (by omega); rw [show ((l + 1 : Nat) : Int) - 1 = (l : Int) by omega] at hss; have hdv : m39 (adr b i ((l + 1 : Nat) : Int)) % (512 * VaSpec.sz (l : Int)) = 0 := by
    rw [e1, ← hss]; obtain rfl : l = 0 := by omega
    have hz : VaSpec.sz ((0 + 1 : Nat) : Int) = 2097152 := rfl; rw [hz] at hb ⊢; omega
   obtain ⟨q1, q2, q3, q4, q5⟩ := zh6 sz xs l (atM sz xs t i).ppn (adr b i ((l + 1 : Nat) : Int)) y (by omega) hdv hy; have hsp := sz_pos (l := y.lev) (by omega); have hix : idx y.va ((l + 1 : Nat) : Int) = (i : Int) := zk3 (by omega) hi' hb (by rw [← e1]; exact q2) (by rw [hss] at e1 ⊢; omega)
   refine ⟨hlk, hdv, ?_, q1⟩; rw [zbk (by omega) (by rw [hix]; exact zb7 hlk (by omega)), hix]
  have leafr : ∀ (i : Nat), zao sz xs (zxi (atM sz xs t i) (adr b i ((l + 1 : Nat) : Int)) ((l + 1 : Nat) : Int)).va (zxi (atM sz xs t i) (adr b i ((l + 1 : Nat) : Int)) ((l + 1 : Nat) : Int)).lev (l + 1) t = (t, ((l + 1 : Nat) : Int)) := fun i => zbh (fun hh => absurd hh (by show ¬ ((l + 1 : Nat) : Int) < ((l + 1 : Nat) : Int); omega)) (by show (0 : Int) ≤ ((l + 1 : Nat) : Int); omega)
  have low : ∀ (i : Nat) (y : Pg), i < 512 → lkP (atM sz xs t i) = true → (0 ≤ y.lev ∧ y.lev ≤ (l : Int)) → (zao sz xs y.va y.lev l (atM sz xs t i).ppn).1 ∈ frN sz xs l (atM sz xs t i).ppn ∧ (zao sz xs y.va y.lev l (atM sz xs t i).ppn).1 ≠ t := fun i y hi hlk hlev => by
   have hm := zji sz xs y.va y.lev hlev.1 l (atM sz xs t i).ppn; obtain ⟨_, k2, k3, k4⟩ := zb5 h (show (0 : Int) ≤ (i : Int) ∧ (i : Int) < 512 by omega) hlk; have := (zbc h l _ k4 (by rw [k3, hl]; omega) _ hm).2.1
   exact ⟨hm, fun e => by rw [e, hl] at this; omega⟩
  obtain ⟨i, hi, c0, ⟨c1, rfl⟩ | ⟨c1, m, e, hy⟩⟩ := (zbp _ _ _ _ _ _).1 hy <;> obtain ⟨j, hj, d0, ⟨d1, rfl⟩ | ⟨d1, m', e', hz⟩⟩ := (zbp _ _ _ _ _ _).1 hz
  · have e1 := leafix (l + 1) b i (atM sz xs t i) (by omega) hi hb; have e2 := leafix (l + 1) b j (atM sz xs t j) (by omega) hj hb; have : (i : Int) = (j : Int) := e1.symm.trans (hx.trans e2); rw [this]
  · obtain rfl : m' = l := by omega
    obtain ⟨f1, f2, f3, f4⟩ := child j z hj d0 d1 hz; rw [leafr i, f3] at hr; exact absurd hr.symm (low j z hj f1 f4).2
  · obtain rfl : m = l := by omega
    obtain ⟨f1, f2, f3, f4⟩ := child i y hi c0 c1 hy; rw [leafr j, f3] at hr; exact absurd hr (low i y hi f1 f4).2
  · obtain rfl : m = l := by omega
    obtain rfl : m' = m := by omega
    obtain ⟨f1, f2, f3, f4⟩ := child i y hi c0 c1 hy; obtain ⟨g1, g2, g3, g4⟩ := child j z hj d0 d1 hz; rw [f3, g3] at hr; have m1 := (low i y hi f1 f4).1; have m2 := (low j z hj g1 g4).1; rw [hr] at m1; have hij : (i : Int) = (j : Int) := zsf h hl (by omega) (by omega) (by omega) f1 g1 (.inl fun ee => by have := (h.e.s t i (by omega) f1 ee).2; omega) m1 m2
    obtain rfl : i = j := by omega
    obtain ⟨_, k2, k3, k4⟩ := zb5 h (show (0 : Int) ≤ (i : Int) ∧ (i : Int) < 512 by omega) f1; exact ih _ _ y z (by omega) k4 (by rw [k3, hl]; omega) f2 hy hz hr hx
theorem zqa (h : TI cd cp sz xs f sh lv) : ∀ (l : Nat) (t b : Int), l ≤ 1 → Al cd cp f t → lv t = l → m39 b % (512 * VaSpec.sz l) = 0 → ∀ s ∈ frN sz xs l t, ∀ j, (0 ≤ j ∧ j < 512) → zas (atM sz xs s j) = true → ∃ y ∈ za7 sz xs l t b, zao sz xs y.va y.lev l t = (s, y.lev) ∧ idx y.va y.lev = j := by
 have own : ∀ (l : Nat) (t b : Int), l ≤ 1 → lv t = l → m39 b % (512 * VaSpec.sz l) = 0 → ∀ j, (0 ≤ j ∧ j < 512) → zas (atM sz xs t j) = true → ∃ y ∈ za7 sz xs l t b, zao sz xs y.va y.lev l t = (t, y.lev) ∧ idx y.va y.lev = j := fun l t b h1 hl hb j hj hlf => by
  obtain ⟨_, _, q2⟩ := zew h hj hlf; rw [hl] at q2; refine ⟨zxi (atM sz xs t j) (adr b j (l : Int)) (l : Int), ?_, zbh (fun hh => absurd hh (by show ¬ (l : Int) < (l : Int); omega)) (by show (0 : Int) ≤ (l : Int); omega), ?_⟩
  · have hlf := hlf; rw [show j = ((j.toNat : Nat) : Int) by omega] at hlf q2 ⊢; exact (zbp _ _ _ _ _ _).2 ⟨j.toNat, by omega, q2, .inl ⟨hlf, rfl⟩⟩
  · obtain ⟨e1, e2⟩ := zeo (b := b) (i := j) (l := (l : Int)) (by omega) hj hb; have hdv : m39 (adr b j (l : Int)) % VaSpec.sz (l : Int) = 0 := by
     rw [e1]; rcases (by omega : l = 0 ∨ l = 1) with rfl | rfl
     · have hz : VaSpec.sz ((0 : Nat) : Int) = 4096 := rfl; rw [hz] at hb ⊢; omega
     · have hz : VaSpec.sz ((1 : Nat) : Int) = 2097152 := rfl; rw [hz] at hb ⊢; omega
    have hsp := sz_pos (l := (l : Int)) (by omega); have e3 := zk2 (a := adr b j (l : Int)) (zmk (l := (l : Int)) (by omega) hdv); exact zk3 (l := (l : Int)) (by omega) hj hb (by show _ ≤ m39 (ofv (num _)); rw [e3, e1]; omega) (by show m39 (ofv (num _)) < _; rw [e3, e1]; omega)
 intro l
 induction l with
 | zero =>
  intro t b h1 ha hl hb s hs j hj hlf; have e : s = t := by simpa [frN] using hs
  subst e; exact own 0 s b h1 hl hb j hj hlf
 | succ l ih =>
  intro t b h1 ha hl hb s hs j hj hlf; simp only [frN, List.mem_cons] at hs; rcases hs with rfl | hs
  · exact own (l + 1) s b h1 hl hb j hj hlf
  · obtain ⟨i, hi, hs⟩ := List.mem_flatMap.1 hs; have hi := List.mem_range.1 hi
    split at hs
    · rename_i hlk; have hi' : (0 : Int) ≤ (i : Int) ∧ (i : Int) < 512 := by omega
      obtain ⟨k1, k2, k3, k4, k5⟩ := zh3 h hi' hlk; obtain ⟨e1, e2⟩ := zeo (b := b) (i := (i : Int)) (l := ((l + 1 : Nat) : Int)) (by omega) (by omega) hb; have hss := zhe (l := ((l + 1 : Nat) : Int)) (by omega); rw [show ((l + 1 : Nat) : Int) - 1 = (l : Int) by omega] at hss; have hdv : m39 (adr b i ((l + 1 : Nat) : Int)) % (512 * VaSpec.sz (l : Int)) = 0 := by
       rw [e1, ← hss]; obtain rfl : l = 0 := by omega
       have hz : VaSpec.sz ((0 + 1 : Nat) : Int) = 2097152 := rfl; rw [hz] at hb ⊢; omega
      obtain ⟨y, hy, r1, r2⟩ := ih _ (adr b i ((l + 1 : Nat) : Int)) (by omega) k5 (by rw [k4, hl]; omega) hdv s hs j hj hlf
      obtain ⟨q1, q2, q3, q4, q5⟩ := zh6 sz xs l (atM sz xs t i).ppn (adr b i ((l + 1 : Nat) : Int)) y (by omega) hdv hy; have hsp := sz_pos (l := y.lev) (by omega); have hix : idx y.va ((l + 1 : Nat) : Int) = (i : Int) := zk3 (by omega) hi' hb (by rw [← e1]; exact q2) (by rw [hss] at e1 ⊢; omega)
      have hbad : zco (atM sz xs t i) ((l + 1 : Nat) : Int) = false := by
       unfold za2 at hlk; simp only [Bool.and_eq_true, Bool.not_eq_true'] at hlk; exact hlk.2
      refine ⟨y, (zbp _ _ _ _ _ _).2 ⟨i, hi, hbad, .inr ⟨(za8 k1).2.2, l, rfl, hy⟩⟩, ?_, r2⟩; rw [zbk (by omega) (by rw [hix]; exact hlk), hix]
      exact r1
    · cases hs
theorem z1o (sz : Int) (xs : List (Int × Int)) : ∀ (l : Nat) (t b : Int), l ≤ 1 → m39 b % (512 * VaSpec.sz l) = 0 → (za7 sz xs l t b).Pairwise (fun y z => m39 y.va < m39 z.va) := by
 have part : ∀ (l : Nat) (b : Int) (i : Nat), l ≤ 1 → i < 512 → m39 b % (512 * VaSpec.sz l) = 0 → m39 (adr b i (l : Int)) % VaSpec.sz (l : Int) = 0 ∧ m39 (adr b i (l : Int)) = m39 b + (i : Int) * VaSpec.sz (l : Int) := fun l b i h1 hi hb => by
  obtain ⟨e1, e2⟩ := zeo (b := b) (i := (i : Int)) (l := (l : Int)) (by omega) (by omega) hb; refine ⟨?_, e1⟩; rw [e1]; rcases (by omega : l = 0 ∨ l = 1) with rfl | rfl
  · have hz : VaSpec.sz ((0 : Nat) : Int) = 4096 := rfl; rw [hz] at hb ⊢; omega
  · have hz : VaSpec.sz ((1 : Nat) : Int) = 2097152 := rfl; rw [hz] at hb ⊢; omega
 have blkE : ∀ (l : Nat) (t b : Int) (rec : Int → Int → List Pg) (i : Nat), l ≤ 1 → i < 512 → m39 b % (512 * VaSpec.sz l) = 0 → (∀ y ∈ rec (atM sz xs t i).ppn (adr b i (l : Int)), m39 (adr b i (l : Int)) ≤ m39 y.va ∧ m39 y.va < m39 (adr b i (l : Int)) + VaSpec.sz (l : Int)) → ∀ y ∈ ze6 rec (atM sz xs t i) (l : Int) (adr b i (l : Int)), m39 b + (i : Int) * VaSpec.sz (l : Int) ≤ m39 y.va ∧ m39 y.va < m39 b + (i : Int) * VaSpec.sz (l : Int) + VaSpec.sz (l : Int) := fun l t b rec i h1 hi hb hrec y hy => by
  obtain ⟨p1, p2⟩ := part l b i h1 hi hb; have hsp := sz_pos (l := (l : Int)) (by omega); unfold ze6 at hy
  split at hy
  · cases hy
  · split at hy
    · have hy := List.mem_singleton.1 hy; subst hy; have e3 := zk2 (a := adr b i (l : Int)) (zmk (l := (l : Int)) (by omega) p1); show m39 b + _ ≤ m39 (ofv (num (adr b i (l : Int)))) ∧ m39 (ofv (num (adr b i (l : Int)))) < _; rw [e3, p2]; omega
    · have := hrec y hy; omega
 have apart : ∀ (l : Nat) (i j : Nat), l ≤ 1 → i < j → (i : Int) * VaSpec.sz (l : Int) + VaSpec.sz (l : Int) ≤ (j : Int) * VaSpec.sz (l : Int) := fun l i j h1 hij => by
  rcases (by omega : l = 0 ∨ l = 1) with rfl | rfl
  · have hz : VaSpec.sz ((0 : Nat) : Int) = 4096 := rfl; rw [hz]; omega
  · have hz : VaSpec.sz ((1 : Nat) : Int) = 2097152 := rfl; rw [hz]; omega
 have glue : ∀ (l : Nat) (t b : Int) (rec : Int → Int → List Pg), l ≤ 1 → m39 b % (512 * VaSpec.sz l) = 0 → (∀ i : Nat, i < 512 → (rec (atM sz xs t i).ppn (adr b i (l : Int))).Pairwise (fun y z => m39 y.va < m39 z.va) ∧ ∀ y ∈ rec (atM sz xs t i).ppn (adr b i (l : Int)), m39 (adr b i (l : Int)) ≤ m39 y.va ∧ m39 y.va < m39 (adr b i (l : Int)) + VaSpec.sz (l : Int)) → ((List.range 512).flatMap fun (i : Nat) => ze6 rec (atM sz xs t i) (l : Int) (adr b i (l : Int))).Pairwise (fun y z => m39 y.va < m39 z.va) := fun l t b rec h1 hb hrec => by
  rw [List.pairwise_flatMap]; refine ⟨fun i hi => ?_, ?_⟩
  · have hi := List.mem_range.1 hi; unfold ze6
    split
    · exact .nil
    · split
      · exact List.pairwise_singleton _ _
      · exact (hrec i hi).1
  · refine List.Pairwise.imp_of_mem ?_ (List.pairwise_lt_range (n := 512)); intro i j hi hj hij y hy z hz; have hi := List.mem_range.1 hi; have hj := List.mem_range.1 hj; have b1 := blkE l t b rec i h1 hi hb (hrec i hi).2 y hy; have b2 := blkE l t b rec j h1 hj hb (hrec j hj).2 z hz; have := apart l i j h1 hij; omega
 intro l
 induction l with
 | zero =>
  intro t b h1 hb; exact glue 0 t b (fun _ _ => []) h1 hb fun i hi => ⟨.nil, fun y hy => by cases hy⟩
 | succ l ih =>
  intro t b h1 hb; refine glue (l + 1) t b (za7 sz xs l) h1 hb fun i hi => ?_; obtain ⟨p1, p2⟩ := part (l + 1) b i h1 hi hb; have hss := zhe (l := ((l + 1 : Nat) : Int)) (by omega); rw [show ((l + 1 : Nat) : Int) - 1 = (l : Int) by omega] at hss; rw [hss] at p1; refine ⟨ih _ _ (by omega) p1, fun y hy => ?_⟩; obtain ⟨q1, q2, q3, q4, q5⟩ := zh6 sz xs l (atM sz xs t i).ppn (adr b i ((l + 1 : Nat) : Int)) y (by omega) p1 hy; have hsp := sz_pos (l := y.lev) (by omega); rw [← hss] at q3; omega
end
end LnG
end Go.Proofs.YtomeaibdedaldaaGreatDoor
