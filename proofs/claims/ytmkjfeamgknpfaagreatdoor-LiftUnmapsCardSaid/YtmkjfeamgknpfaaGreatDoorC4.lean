/- Texts of this claim, one behind the other: SpN, RfP, RfQ, LaD, SpO, LaE, LaF, LaG, LiA, LiB, LiC, LiD, RefS, RefSet, RfA. -/
import Derived.Test.YtmkjfeamgknpfaaGreatDoorC3
import Derived.Test.YtmkjfeamgknpfaaGreatDoorC2
import Derived.OwnWalk
set_option linter.unusedVariables false
set_option linter.unusedSimpArgs false
namespace Go.Proofs.YtmkjfeamgknpfaaGreatDoor.SpN
open Go.RowKit Bv VaSpec Base MemL RegR Ax MemC PutC MemC3 TzC OkS SpA SpB SpC SpD IterC SpE SpF SpG SpH SpI SpJ SpK
open BitsC PteSpec
set_option maxRecDepth 10000
set_option maxHeartbeats 800000
attribute [local irreducible] Ax.zcs
theorem zey {P : Program} {G : World → Prop} {k : FuncId} {args : List Cm} {r r' : AV} (h : zcs P G k args r) (hc : zc8 r' = true) (hlt : r.lt r') : zcs P G k args r' := by
  unfold zcs at h ⊢
  obtain ⟨h1, h2, h3⟩ := h
  exact ⟨hc, h2, fun A W vs hG hR => (h3 A W vs hG hR).mono fun e w' ⟨v, he, hb, hr⟩ => ⟨v, he, hb, hlt _ _ hr⟩⟩
def ltC (c c' : Ce) : Prop := ∀ E v, c.R E v → c'.R E v
theorem ltC.rf (c : Ce) : ltC c c := fun _ _ h => h
theorem ltC.nil (k : Nat) : ltC (.v (.slice none 0 0)) (.s 0 k []) := fun E v h => by
  have h : v = .slice none 0 0 := h
  subst h
  exact ⟨⟨by simp, .inl ⟨rfl, rfl⟩⟩, fun a l c e => by cases e⟩
theorem zpz {E : En} : ∀ (cs cs' : List Ce) (vs : List Value), All2 ltC cs cs' → All2 (Ce.R E) cs vs → All2 (Ce.R E) cs' vs
  | [], [], _, _, h => h
  | c :: cs, c' :: cs', [], _, h => h.elim
  | c :: cs, c' :: cs', v :: vs, k, h => ⟨k.1 _ _ h.1, zpz cs cs' vs k.2 h.2⟩
  | [], _ :: _, _, k, _ => k.elim
  | _ :: _, [], _, k, _ => k.elim
theorem z2v {cs cs' : List Ce} {l : List Cm} (h : All2 ltC cs cs') : AV.lt (.tu (.ag cs :: l)) (.tu (.ag cs' :: l)) := fun E v ⟨vs, e, k⟩ => by
  refine ⟨vs, e, ?_⟩
  generalize vs.toList = xs at k
  cases xs with
  | nil => exact k.elim
  | cons x xs =>
    obtain ⟨⟨us, e', k1⟩, k2⟩ := k
    exact ⟨⟨us, e', zpz _ _ _ h k1⟩, k2⟩
theorem m_lt {cs cs' : List Ce} (h : All2 ltC cs cs') : AV.lt (.m (.ag cs)) (.m (.ag cs')) := fun E v ⟨vs, e, k⟩ => ⟨vs, e, zpz _ _ _ h k⟩
def zhc (a b c d : Int) : Bool := decide (1 ≤ a) && (decide (a ≤ 524288) && (decide (1 ≤ b) && (decide (b ≤ 64) && (decide (1 ≤ c) && (decide (c ≤ 16) && (decide (0 ≤ d) && decide (d ≤ 16)))))))
theorem zek {a b c d : Int} : zhc a b c d = true ↔ (1 ≤ a ∧ a ≤ 524288) ∧ (1 ≤ b ∧ b ≤ 64) ∧ (1 ≤ c ∧ c ≤ 16) ∧ (0 ≤ d ∧ d ≤ 16) := by
  unfold zhc; simp only [Bool.and_eq_true, decide_eq_true_eq]; omega
theorem zdu {a b c d : Int} (h : ¬ ((1 ≤ a ∧ a ≤ 524288) ∧ (1 ≤ b ∧ b ≤ 64) ∧ (1 ≤ c ∧ c ≤ 16) ∧ (0 ≤ d ∧ d ≤ 16))) : zhc a b c d = false := by
  cases e : zhc a b c d with
  | false => rfl
  | true => exact absurd (zek.1 e) h
def zmj (a b c d : Int) : Cm := .ag [ci a, ci b, ci c, ci d]
theorem z0f (a b c d : Int) : Ok 9 [zmj a b c d] (.m (ib (zhc a b c d))) := by
  by_cases h1 : 1 ≤ a
  · by_cases h2 : a ≤ 524288
    · by_cases h3 : 1 ≤ b
      · by_cases h4 : b ≤ 64
        · by_cases h5 : 1 ≤ c
          · by_cases h6 : c ≤ 16
            · by_cases h7 : 0 ≤ d
              · by_cases h8 : d ≤ 16
                · rw [zek.2 (by omega)]
                  refine zaf 41 Tryz.func9 rfl rfl rfl rfl ?_ GG.to
                  intro W A hG
                  repeat (first | (refine zal rfl ?_; first | refine gdr (zaa (.inl rfl) rfl) ?_ | refine gnk 1 rfl (za2 tb rfl rfl rfl rfl rfl) ?_ | refine gnx 1 rfl (zbc tb rfl rfl rfl) rfl ?_ | refine gdr (zaa (.inr rfl) rfl) ?_ | refine gdr (zaj rfl rfl rfl) ?_ | refine gdr (za6 rfl rfl rfl rfl) ?_ | refine gdr (zag rfl rfl rfl rfl rfl rfl) ?_) | (refine hK _ ?_; clear hK K) | refine zad rfl ?_ | exact zap (show za8 _ _ _ = some _ by kernel_rfl) | refine zac (fun K hK => ?_))
                · rw [zdu (by omega)]
                  refine zaf 41 Tryz.func9 rfl rfl rfl rfl ?_ GG.to
                  intro W A hG
                  repeat (first | (refine zal rfl ?_; first | refine gdr (zaa (.inl rfl) rfl) ?_ | refine gnk 1 rfl (za2 tb rfl rfl rfl rfl rfl) ?_ | refine gnx 1 rfl (zbc tb rfl rfl rfl) rfl ?_ | refine gdr (zaa (.inr rfl) rfl) ?_ | refine gdr (zaj rfl rfl rfl) ?_ | refine gdr (za6 rfl rfl rfl rfl) ?_ | refine gdr (zag rfl rfl rfl rfl rfl rfl) ?_) | (refine hK _ ?_; clear hK K) | refine zad rfl ?_ | exact zap (show za8 _ _ _ = some _ by kernel_rfl) | refine zac (fun K hK => ?_))
              · rw [zdu (by omega)]
                refine zaf 41 Tryz.func9 rfl rfl rfl rfl ?_ GG.to
                intro W A hG
                repeat (first | (refine zal rfl ?_; first | refine gdr (zaw rfl) ?_ | refine gdr (zaa (.inl rfl) rfl) ?_ | refine gnk 1 rfl (za2 tb rfl rfl rfl rfl rfl) ?_ | refine gnx 1 rfl (zbc tb rfl rfl rfl) rfl ?_ | refine gdr (zaa (.inr rfl) rfl) ?_ | refine gdr (zaj rfl rfl rfl) ?_ | refine gdr (za6 rfl rfl rfl rfl) ?_ | refine gdr (zag rfl rfl rfl rfl rfl rfl) ?_) | (refine hK _ ?_; clear hK K) | refine zad rfl ?_ | exact zap (show za8 _ _ _ = some _ by kernel_rfl) | refine zac (fun K hK => ?_))
            · rw [zdu (by omega)]
              refine zaf 41 Tryz.func9 rfl rfl rfl rfl ?_ GG.to
              intro W A hG
              repeat (first | (refine zal rfl ?_; first | refine gdr (zaw rfl) ?_ | refine gdr (zaa (.inl rfl) rfl) ?_ | refine gnk 1 rfl (za2 tb rfl rfl rfl rfl rfl) ?_ | refine gnx 1 rfl (zbc tb rfl rfl rfl) rfl ?_ | refine gdr (zaa (.inr rfl) rfl) ?_ | refine gdr (zaj rfl rfl rfl) ?_ | refine gdr (za6 rfl rfl rfl rfl) ?_ | refine gdr (zag rfl rfl rfl rfl rfl rfl) ?_) | (refine hK _ ?_; clear hK K) | refine zad rfl ?_ | exact zap (show za8 _ _ _ = some _ by kernel_rfl) | refine zac (fun K hK => ?_))
          · rw [zdu (by omega)]
            refine zaf 41 Tryz.func9 rfl rfl rfl rfl ?_ GG.to
            intro W A hG
            repeat (first | (refine zal rfl ?_; first | refine gdr (zaw rfl) ?_ | refine gdr (zaa (.inl rfl) rfl) ?_ | refine gnk 1 rfl (za2 tb rfl rfl rfl rfl rfl) ?_ | refine gnx 1 rfl (zbc tb rfl rfl rfl) rfl ?_ | refine gdr (zaa (.inr rfl) rfl) ?_ | refine gdr (zaj rfl rfl rfl) ?_ | refine gdr (za6 rfl rfl rfl rfl) ?_ | refine gdr (zag rfl rfl rfl rfl rfl rfl) ?_) | (refine hK _ ?_; clear hK K) | refine zad rfl ?_ | exact zap (show za8 _ _ _ = some _ by kernel_rfl) | refine zac (fun K hK => ?_))
        · rw [zdu (by omega)]
          refine zaf 41 Tryz.func9 rfl rfl rfl rfl ?_ GG.to
          intro W A hG
          repeat (first | (refine zal rfl ?_; first | refine gdr (zaw rfl) ?_ | refine gdr (zaa (.inl rfl) rfl) ?_ | refine gnk 1 rfl (za2 tb rfl rfl rfl rfl rfl) ?_ | refine gnx 1 rfl (zbc tb rfl rfl rfl) rfl ?_ | refine gdr (zaa (.inr rfl) rfl) ?_ | refine gdr (zaj rfl rfl rfl) ?_ | refine gdr (za6 rfl rfl rfl rfl) ?_ | refine gdr (zag rfl rfl rfl rfl rfl rfl) ?_) | (refine hK _ ?_; clear hK K) | refine zad rfl ?_ | exact zap (show za8 _ _ _ = some _ by kernel_rfl) | refine zac (fun K hK => ?_))
      · rw [zdu (by omega)]
        refine zaf 41 Tryz.func9 rfl rfl rfl rfl ?_ GG.to
        intro W A hG
        repeat (first | (refine zal rfl ?_; first | refine gdr (zaw rfl) ?_ | refine gdr (zaa (.inl rfl) rfl) ?_ | refine gnk 1 rfl (za2 tb rfl rfl rfl rfl rfl) ?_ | refine gnx 1 rfl (zbc tb rfl rfl rfl) rfl ?_ | refine gdr (zaa (.inr rfl) rfl) ?_ | refine gdr (zaj rfl rfl rfl) ?_ | refine gdr (za6 rfl rfl rfl rfl) ?_ | refine gdr (zag rfl rfl rfl rfl rfl rfl) ?_) | (refine hK _ ?_; clear hK K) | refine zad rfl ?_ | exact zap (show za8 _ _ _ = some _ by kernel_rfl) | refine zac (fun K hK => ?_))
    · rw [zdu (by omega)]
      refine zaf 41 Tryz.func9 rfl rfl rfl rfl ?_ GG.to
      intro W A hG
      repeat (first | (refine zal rfl ?_; first | refine gdr (zaw rfl) ?_ | refine gdr (zaa (.inl rfl) rfl) ?_ | refine gnk 1 rfl (za2 tb rfl rfl rfl rfl rfl) ?_ | refine gnx 1 rfl (zbc tb rfl rfl rfl) rfl ?_ | refine gdr (zaa (.inr rfl) rfl) ?_ | refine gdr (zaj rfl rfl rfl) ?_ | refine gdr (za6 rfl rfl rfl rfl) ?_ | refine gdr (zag rfl rfl rfl rfl rfl rfl) ?_) | (refine hK _ ?_; clear hK K) | refine zad rfl ?_ | exact zap (show za8 _ _ _ = some _ by kernel_rfl) | refine zac (fun K hK => ?_))
  · rw [zdu (by omega)]
    refine zaf 41 Tryz.func9 rfl rfl rfl rfl ?_ GG.to
    intro W A hG
    repeat (first | (refine zal rfl ?_; first | refine gdr (zaw rfl) ?_ | refine gdr (zaa (.inl rfl) rfl) ?_ | refine gnk 1 rfl (za2 tb rfl rfl rfl rfl rfl) ?_ | refine gnx 1 rfl (zbc tb rfl rfl rfl) rfl ?_ | refine gdr (zaa (.inr rfl) rfl) ?_ | refine gdr (zaj rfl rfl rfl) ?_ | refine gdr (za6 rfl rfl rfl rfl) ?_ | refine gdr (zag rfl rfl rfl rfl rfl rfl) ?_) | (refine hK _ ?_; clear hK K) | refine zad rfl ?_ | exact zap (show za8 _ _ _ = some _ by kernel_rfl) | refine zac (fun K hK => ?_))
theorem zez {n a b : Int} (h : a ≤ n ∧ n ≤ b) : Ok 102 [ii n, ii a, ii b] (.m (ib true)) := by
  have := znx n a b
  rwa [show zem n a b = true by simp [zem, h.1, h.2]] at this
theorem zj6 {n a b : Int} (h : ¬ (a ≤ n ∧ n ≤ b)) : Ok 102 [ii n, ii a, ii b] (.m (ib false)) := by
  have := znx n a b
  rwa [show zem n a b = false by cases e : zem n a b with | false => rfl | true => (simp [zem] at e; exact absurd e h)] at this
theorem z0g (a b c d : Int) : Ok 75 [zmj a b c d] (.m (ib (zhc a b c d))) := by
  by_cases h1 : 1 ≤ a ∧ a ≤ 524288
  · by_cases h2 : 1 ≤ b ∧ b ≤ 64
    · by_cases h3 : 1 ≤ c ∧ c ≤ 16
      · by_cases h4 : 0 ≤ d ∧ d ≤ 16
        · rw [zek.2 (by omega)]
          refine zaf 21 Tryz.func75 rfl rfl rfl rfl ?_ GG.to
          intro W A hG
          repeat (first | (refine zal rfl ?_; first | refine gdr (zaa (.inl rfl) rfl) ?_ | refine gnk 1 rfl (za2 tb rfl rfl rfl rfl rfl) ?_ | refine gnx 1 rfl (zbc tb rfl rfl rfl) rfl ?_ | refine gdr (zaa (.inr rfl) rfl) ?_ | refine gdr (zaj rfl rfl rfl) ?_ | refine gdr (zag rfl rfl rfl rfl rfl rfl) ?_ | refine gdr (zab rfl rfl rfl (zez h1) rfl) ?_ | refine gdr (zab rfl rfl rfl (zez h2) rfl) ?_ | refine gdr (zab rfl rfl rfl (zez h3) rfl) ?_ | refine gdr (zab rfl rfl rfl (zez h4) rfl) ?_) | (refine hK _ ?_; clear hK K) | refine zad rfl ?_ | exact zap (show za8 _ _ _ = some _ by kernel_rfl) | refine zac (fun K hK => ?_))
        · rw [zdu (by omega)]
          refine zaf 21 Tryz.func75 rfl rfl rfl rfl ?_ GG.to
          intro W A hG
          repeat (first | (refine zal rfl ?_; first | refine gdr (zaa (.inl rfl) rfl) ?_ | refine gnk 1 rfl (za2 tb rfl rfl rfl rfl rfl) ?_ | refine gnx 1 rfl (zbc tb rfl rfl rfl) rfl ?_ | refine gdr (zaa (.inr rfl) rfl) ?_ | refine gdr (zaj rfl rfl rfl) ?_ | refine gdr (zag rfl rfl rfl rfl rfl rfl) ?_ | refine gdr (zab rfl rfl rfl (zez h1) rfl) ?_ | refine gdr (zab rfl rfl rfl (zez h2) rfl) ?_ | refine gdr (zab rfl rfl rfl (zez h3) rfl) ?_ | refine gdr (zab rfl rfl rfl (zj6 h4) rfl) ?_) | (refine hK _ ?_; clear hK K) | refine zad rfl ?_ | exact zap (show za8 _ _ _ = some _ by kernel_rfl) | refine zac (fun K hK => ?_))
      · rw [zdu (by omega)]
        refine zaf 21 Tryz.func75 rfl rfl rfl rfl ?_ GG.to
        intro W A hG
        repeat (first | (refine zal rfl ?_; first | refine gdr (zaw rfl) ?_ | refine gdr (zaa (.inl rfl) rfl) ?_ | refine gnk 1 rfl (za2 tb rfl rfl rfl rfl rfl) ?_ | refine gnx 1 rfl (zbc tb rfl rfl rfl) rfl ?_ | refine gdr (zaa (.inr rfl) rfl) ?_ | refine gdr (zaj rfl rfl rfl) ?_ | refine gdr (zag rfl rfl rfl rfl rfl rfl) ?_ | refine gdr (zab rfl rfl rfl (zez h1) rfl) ?_ | refine gdr (zab rfl rfl rfl (zez h2) rfl) ?_ | refine gdr (zab rfl rfl rfl (zj6 h3) rfl) ?_) | (refine hK _ ?_; clear hK K) | refine zad rfl ?_ | exact zap (show za8 _ _ _ = some _ by kernel_rfl) | refine zac (fun K hK => ?_))
    · rw [zdu (by omega)]
      refine zaf 21 Tryz.func75 rfl rfl rfl rfl ?_ GG.to
      intro W A hG
      repeat (first | (refine zal rfl ?_; first | refine gdr (zaw rfl) ?_ | refine gdr (zaa (.inl rfl) rfl) ?_ | refine gnk 1 rfl (za2 tb rfl rfl rfl rfl rfl) ?_ | refine gnx 1 rfl (zbc tb rfl rfl rfl) rfl ?_ | refine gdr (zaa (.inr rfl) rfl) ?_ | refine gdr (zaj rfl rfl rfl) ?_ | refine gdr (zag rfl rfl rfl rfl rfl rfl) ?_ | refine gdr (zab rfl rfl rfl (zez h1) rfl) ?_ | refine gdr (zab rfl rfl rfl (zj6 h2) rfl) ?_) | (refine hK _ ?_; clear hK K) | refine zad rfl ?_ | exact zap (show za8 _ _ _ = some _ by kernel_rfl) | refine zac (fun K hK => ?_))
  · rw [zdu (by omega)]
    refine zaf 21 Tryz.func75 rfl rfl rfl rfl ?_ GG.to
    intro W A hG
    repeat (first | (refine zal rfl ?_; first | refine gdr (zaw rfl) ?_ | refine gdr (zaa (.inl rfl) rfl) ?_ | refine gnk 1 rfl (za2 tb rfl rfl rfl rfl rfl) ?_ | refine gnx 1 rfl (zbc tb rfl rfl rfl) rfl ?_ | refine gdr (zaa (.inr rfl) rfl) ?_ | refine gdr (zaj rfl rfl rfl) ?_ | refine gdr (zag rfl rfl rfl rfl rfl rfl) ?_ | refine gdr (zab rfl rfl rfl (zj6 h1) rfl) ?_) | (refine hK _ ?_; clear hK K) | refine zad rfl ?_ | exact zap (show za8 _ _ _ = some _ by kernel_rfl) | refine zac (fun K hK => ?_))
def zel (n : Int) : Int := zeu 18446744073709551615 0 n
theorem zj7 {n : Int} (h0 : 0 ≤ n) (h : n ≤ 64) : 0 ≤ zel n ∧ zel n < 2 ^ n.toNat := by
  refine ⟨(zt9 _ _ _).1, ?_⟩
  unfold zel
  rw [zdt _ _ _ ⟨by omega, by omega⟩ h]
  exact Int.emod_lt_of_pos _ (Int.pow_pos (by omega))
theorem zmk {n : Int} (h0 : 1 ≤ n) (h : n ≤ 64) : zel n ≠ 0 := by
  unfold zel
  rw [zdt _ _ _ ⟨by omega, by omega⟩ h]
  intro e
  obtain ⟨k, hk⟩ : ∃ k, n.toNat = k + 1 := ⟨n.toNat - 1, by omega⟩
  have := Int.emod_emod_of_dvd (18446744073709551615 / 2 ^ (0 : Int).toNat) (show (2 : Int) ∣ 2 ^ n.toNat from ⟨2 ^ k, by rw [hk, Int.pow_succ, Int.mul_comm]⟩)
  rw [e] at this
  revert this; decide
def ztg (a b c : Int) (n : Nat) : Kr := { cd := a, cp := b, ca := c, cs := n, sz := (a + b) * 4096, m := [], tn := n, ts := zsL n, sm := 0, sa := 0, sp := 0, priv := 0, su := false, mx := false, vic := -1, pb := a, pm := b, pf := zb9 (zel b) (tzI (zel b)) 1 0, am := c, af := zel c, ao := 0, ss := [], now := -1, sh := a + tzI (zel b), fs := [] }
theorem z0h (sz : Int) (h : 0 ≤ sz) (h1 : sz ≤ 1099511627776) (h2 : sz % 4096 = 0) : Ok 76 [iu sz] (.tu [zbm sz [], ii 0]) := by
  have hz : U sz := ⟨h, by omega⟩
  have := zul sz hz
  have e : MemNewC.zk5 sz = true := by
    unfold MemNewC.zk5 zfe
    rw [if_neg (by omega), h2, decide_eq_true h1]; rfl
  unfold MemNewC.newV at this
  rw [if_pos e] at this
  exact zey this rfl (z2v (cs := [cu sz, .v (.slice none 0 0)]) ⟨ltC.rf _, ltC.nil 2, trivial⟩)
theorem zxk (b m : Int) (hb : 0 ≤ b ∧ b ≤ 268435456) (hm : 0 ≤ m ∧ m ≤ 64) : Ok 77 [iu b, ii m] (.tu [.ag [cu b, ci m, cu (zel m)], ii 0]) := by
  have := zsv b m ⟨hb.1, by omega⟩ hm
  have e : PoolC2.zk6 b m 0 = true := by
    unfold PoolC2.zk6
    rw [decide_eq_true hm.1, decide_eq_true hm.2, decide_eq_true hb.2, zdt _ _ _ ⟨by omega, by omega⟩ hm.2]
    simp
  unfold PoolC2.newV at this
  rw [if_pos e] at this
  exact this
theorem zxl (m : Int) (hm : 1 ≤ m ∧ m ≤ 16) : Ok 78 [ii m] (.tu [.ag [ci m, cu (zel m), cu 0], ii 0]) := by
  have := zsw m
  have e : AsidC2.newV m = .tuple #[.agg #[.int .i64 m, .int .u64 (zel m), .int .u64 0], .int .i64 0] := by
    unfold AsidC2.newV
    rw [if_pos]; rfl
    unfold AsidC.zf6 AsidC.zf5
    rw [decide_eq_true hm.1, decide_eq_true hm.2, zdt _ _ _ ⟨by omega, by omega⟩ (by omega)]
    simp
  rw [e] at this
  exact this
theorem zset : ∃ z, (Tryz.prog.info? 213).bind (·.zero) = some z ∧ z.cells.toList = zS := by
  refine ⟨.agg zS.toArray, by kernel_rfl, ?_⟩
  show zS.toArray.toList = zS
  rfl
theorem z0i (n : Nat) : ∀ i : Nat, i < n * 45 → (zsL n)[i]? = zS[i % 45]? := by
  induction n with
  | zero => intro i h; omega
  | succ n ih =>
    intro i h
    have e : zsL (n + 1) = zS ++ zsL n := rfl
    have l : zS.length = 45 := rfl
    rw [e]
    by_cases hi : i < 45
    · rw [List.getElem?_append_left (by omega), Nat.mod_eq_of_lt hi]
    · rw [List.getElem?_append_right (by omega), l, ih (i - 45) (by omega), Nat.mod_eq_sub_mod (by omega : 45 ≤ i)]
theorem z0j (n : Nat) : (zsL n).length = n * 45 := by
  induction n with
  | zero => rfl
  | succ n ih =>
    have e : zsL (n + 1) = zS ++ zsL n := rfl
    have l : zS.length = 45 := rfl
    rw [e, List.length_append, ih, l]; omega
theorem zu9 (n : Nat) (z : Value) (h : z.cells.toList = zS) : (madeCells z.cells (n * 45)).toList = zsL n := by
  have l : z.cells.size = 45 := by rw [← Array.length_toList, h]; rfl
  apply List.ext_getElem?
  intro i
  by_cases hi : i < n * 45
  · rw [z0i n i hi, ← h]
    simp [madeCells, hi, l, List.getElem?_eq_getElem, Nat.mod_lt]
  · rw [List.getElem?_eq_none (by rw [Array.length_toList, size_madeCells]; omega), List.getElem?_eq_none (by rw [z0j]; omega)]
theorem z0k (n : Nat) (hn : n ≤ 16) : Ok 79 [ii n] (.tu [.ag [.s n 45 (zsL n)], ii 0]) := by
  obtain ⟨z, hz, hc⟩ := zset
  have := zun n hn z hz
  rwa [zu9 n z hc] at this
theorem z0l (a b c : Int) (n : Nat) (h : zhc a b c n = true) : Ok 31 [zmj a b c n] (.tu [.ag (ztg a b c n).ce, ii 0]) := by
  obtain ⟨ha, hb, hc, hn⟩ := zek.1 h
  have hm := z0g a b c n
  rw [h] at hm
  have l1 := zj7 (n := b) (by omega) (by omega)
  have l2 := zmk (n := b) (by omega) (by omega)
  have h1 := z0h ((a + b) * 4096) (by omega) (by omega) (by omega)
  have h2 := zxk a b (by omega) (by omega)
  have h3 := zxl c hc
  have h4 := z0k n (by omega)
  have h5 := zgo ((a + b) * 4096) [] a b (zel b) (by omega) (by omega) (zia l1.1 l1.2 (by omega)) l2 List.Pairwise.nil (by simp)
  have key : Ok 31 [zmj a b c n] (.tu [.ag [ci a, ci b, ci c, ci n, cu ((a + b) * 4096), .s 0 2 [], .s n 45 (zsL n), cu 0, cu 0, cu 0, ci 0, cb false, cb false, ci (-1), cu a, ci b, cu (zb9 (zel b) (tzI (zel b)) 1 0), ci c, cu (zel c), cu 0, .v (.slice none 0 0), ci (-1), cu (a + tzI (zel b)), .v (.slice none 0 0)], ii 0]) := by
    refine zaf 63 Tryz.func31 rfl rfl rfl rfl ?_ GG.to
    intro W A hG
    repeat (first | (refine zal rfl ?_; first | refine gdr (zaa (.inl rfl) rfl) ?_ | refine gnk 1 rfl (za2 tb rfl rfl rfl rfl rfl) ?_ | refine gnx 1 rfl (zbc tb rfl rfl rfl) rfl ?_ | refine gdr (zaa (.inr rfl) rfl) ?_ | refine gdr (zak rfl rfl rfl rfl) ?_ | refine gdr (gar rfl rfl rfl rfl) ?_ | refine gdr (gcv rfl rfl rfl rfl rfl) ?_ | refine gdr (zag rfl rfl rfl rfl rfl rfl) ?_ | refine gdr (zae rfl rfl rfl rfl rfl) ?_ | refine gnk 1 rfl (zbe rfl rfl rfl rfl rfl rfl rfl) ?_ | refine gdr (zas rfl rfl rfl) ?_ | refine gdr (zaq rfl rfl rfl rfl) ?_ | refine gdr (zab rfl rfl rfl (hm) (by kernel_rfl)) ?_ | refine gdr (zab rfl rfl rfl (h1) (by kernel_rfl)) ?_ | refine gdr (zab rfl rfl rfl (h2) (by kernel_rfl)) ?_ | refine gdr (zab rfl rfl rfl (h3) (by kernel_rfl)) ?_ | refine gdr (zab rfl rfl rfl (h4) (by kernel_rfl)) ?_ | refine gdr (zab rfl rfl rfl (h5) (by kernel_rfl)) ?_) | (refine hK _ ?_; clear hK K) | refine zad rfl ?_ | exact zap (show za8 _ _ _ = some _ by kernel_rfl) | refine zah rfl rfl ?_ | refine zao ?_ | refine zac (fun K hK => ?_))
  refine zey key rfl (z2v ?_)
  exact ⟨ltC.rf _, ltC.rf _, ltC.rf _, ltC.rf _, ltC.rf _, ltC.rf _, ltC.rf _, ltC.rf _, ltC.rf _, ltC.rf _, ltC.rf _, ltC.rf _, ltC.rf _, ltC.rf _, ltC.rf _, ltC.rf _, ltC.rf _, ltC.rf _, ltC.rf _, ltC.rf _, ltC.nil 3, ltC.rf _, ltC.rf _, ltC.nil 4, trivial⟩
theorem zml {a b c : Int} {n : Nat} (h : zhc a b c n = true) : Inv 0 (ztg a b c n) := by
  obtain ⟨ha, hb, hc, hn⟩ := zek.1 h
  have l1 := zj7 (n := b) (by omega) (by omega)
  have l2 := zmk (n := b) (by omega) (by omega)
  have l3 := zj7 (n := c) (by omega) (by omega)
  have u1 : U (zel b) := zia l1.1 l1.2 (by omega)
  have t := zd2 u1 l1.2 l2
  exact { cd := ha, cp := hb, ca := hc, cs := ⟨rfl, by show n ≤ 16; omega⟩, sz := rfl, pb := rfl, pm := rfl, am := rfl, pf := ⟨(zfw _ _ _ _).1, zha u1 l1.2 t.1 t.2⟩, af := l3, ao := ⟨by show (0 : Int) ≤ 0; omega, by show (0 : Int) < _; exact Int.pow_pos (by omega)⟩, sh := ⟨by show a ≤ a + _; omega, by show a + tzI (zel b) < a + b; omega⟩, ts := rfl, m := List.Pairwise.nil, mc := fun c hc => (by cases hc), ml := Nat.le_refl _, fl := Nat.le_refl _, sl := by show 0 ≤ 32; omega, ss := fun s hs => (by cases hs), nw := .inl ⟨rfl, rfl, rfl, rfl⟩ }
end Go.Proofs.YtmkjfeamgknpfaaGreatDoor.SpN
namespace Go.Proofs.YtmkjfeamgknpfaaGreatDoor.RfP
open Go.RowKit Bv VaSpec Base MemL RegR Ax MemC PutC MemC3 TzC OkS SpA SpB SpC SpD IterC SpE SpF SpG SpH SpI SpJ SpK SpN
open BitsC PteSpec
theorem zva {x : Int} (h : U x) (h0 : x ≠ 0) : ∃ m, x.toNat = 2 ^ (tzI x).toNat * (2 * m + 1) := by
  obtain ⟨h1, h2⟩ := h
  obtain ⟨m, hm, _⟩ := Lib.ctzFrom_spec 64 x.toNat (by omega) (by omega)
  refine ⟨m, ?_⟩
  have : (tzI x).toNat = Lib.ctzFrom 64 x.toNat := by
    unfold tzI Lib.ctz
    rw [if_neg (by omega)]; simp
  rw [this]; exact hm
theorem zn7 {x : Int} (h : U x) (h0 : x ≠ 0) : zhw x (tzI x) = true := by
  obtain ⟨m, hm⟩ := zva h h0
  rw [zfs (by unfold tzI; omega), ← BitVec.testBit_toNat, zz7 h, hm, Nat.testBit_two_pow_mul]
  simp
theorem zj8 {x i : Int} (h : U x) (h0 : x ≠ 0) (hi : 0 ≤ i) (hlt : i < tzI x) : zhw x i = false := by
  obtain ⟨m, hm⟩ := zva h h0
  rw [zfs hi, ← BitVec.testBit_toNat, zz7 h, hm, Nat.testBit_two_pow_mul]
  simp; omega
theorem zrf (i : Int) (hi : 0 ≤ i) : zhw 0 i = false := by
  rw [zfs hi]
  rw [show X 0 = 0#64 from rfl, BitVec.getLsbD_zero]
theorem zrg (x i : Int) (hi : 0 ≤ i) : (zeu x i 1 == 0) = !zhw x i := by
  have hu := zt9 x i 1
  have hlt : zeu x i 1 < 2 := by
    unfold zeu
    have hb := fun j => zfo (X x) i.toNat 1 j
    have : (zl3 (X x) i.toNat 1).toNat < 2 ^ 1 := zh9 fun j hj => by rw [hb j, decide_eq_false (by omega), Bool.false_and]
    rw [show (1 : Int).toNat = 1 from rfl]; unfold B; omega
  unfold zhw
  rcases (by have := hu.1; omega : zeu x i 1 = 0 ∨ zeu x i 1 = 1) with e | e <;> rw [e] <;> rfl
theorem zrh (j : Nat) (hj : j < 64) : (X 18446744073709551615).getLsbD j = true := by
  rw [show X 18446744073709551615 = BitVec.allOnes 64 from rfl, BitVec.getLsbD_allOnes, decide_eq_true hj]
theorem zn8 (i : Int) (h0 : 0 ≤ i) (h : i < 64) : zb9 (zel i) i 1 1 = zel (i + 1) := by
  unfold zb9 zel zeu
  rw [X_B]
  congr 1
  apply BitVec.eq_of_getLsbD_eq
  intro j hj
  rw [zfp, zfo, zfo, decide_eq_true hj, Bool.true_and, show (1 : Int).toNat = 1 from rfl, show (0 : Int).toNat = 0 from rfl, Nat.zero_add, zrh j hj, Bool.and_true, Bool.and_true]
  by_cases e : j = i.toNat
  · rw [if_pos ⟨by omega, by omega⟩, e, Nat.sub_self, decide_eq_true (by omega)]; rfl
  · rw [if_neg (by omega)]
    by_cases e2 : j < i.toNat
    · rw [decide_eq_true e2, decide_eq_true (by omega)]
    · rw [decide_eq_false e2, decide_eq_false (by omega)]
theorem allI_zero : zel 0 = 0 := by
  unfold zel
  rw [zdt _ _ _ ⟨by omega, by omega⟩ (by omega)]
  decide
theorem zn9 (n : Int) : U (zel n) := zt9 _ _ _
end Go.Proofs.YtmkjfeamgknpfaaGreatDoor.RfP
namespace Go.Proofs.YtmkjfeamgknpfaaGreatDoor.RfQ
open Go.RowKit Bv VaSpec Base MemL RegR Ax MemC PutC MemC3 TzC OkS SpA SpB SpC SpD IterC SpE SpF SpG SpH SpI SpJ SpK SpN RfP
open BitsC PteSpec
def zdp (p v : Int) (s : List (Int × Int) × Bool) (c : Int × Int) : List (Int × Int) × Bool :=
  if s.2 = false ∧ p < c.1 then (s.1 ++ [(p, v), c], true) else if c.1 = p then s else (s.1 ++ [c], s.2)
def z0m (p v : Int) (s : List (Int × Int) × Bool) : List (Int × Int) := if s.2 = false then s.1 ++ [(p, v)] else s.1
theorem zgd (p v : Int) : ∀ (cs acc : List (Int × Int)), cs.foldl (zdp p v) (acc, true) = (acc ++ cs.filter (fun c => !decide (c.1 = p)), true)
  | [], acc => by simp
  | c :: cs, acc => by
    simp only [List.foldl_cons]
    by_cases h : c.1 = p
    · rw [show zdp p v (acc, true) c = (acc, true) by simp [zdp, h], zgd p v cs acc]
      simp [h]
    · rw [show zdp p v (acc, true) c = (acc ++ [c], true) by simp [zdp, h], zgd p v cs (acc ++ [c])]
      simp [h]
theorem zi0 {p : Int} {cs : List (Int × Int)} (h : ∀ c ∈ cs, c.1 ≠ p) : cs.filter (fun c => !decide (c.1 = p)) = cs :=
  List.filter_eq_self.2 fun c hc => by simp [h c hc]
theorem zri (p v : Int) (hv : v ≠ 0) : ∀ (cs acc : List (Int × Int)), Srt cs → z0m p v (cs.foldl (zdp p v) (acc, false)) = acc ++ zcy cs p v
  | [], acc, _ => by simp [z0m, zcy, hv]
  | c :: cs, acc, hs => by
    have hs' := List.pairwise_cons.1 hs
    simp only [List.foldl_cons, zcy]
    by_cases h1 : c.1 < p
    · rw [show zdp p v (acc, false) c = (acc ++ [c], false) by unfold zdp; rw [if_neg (by simp; omega), if_neg (by omega)], zri p v hv cs _ hs'.2, if_pos h1]
      simp
    · rw [if_neg h1]
      by_cases h2 : c.1 = p
      · rw [show zdp p v (acc, false) c = (acc, false) by unfold zdp; rw [if_neg (by simp; omega), if_pos h2], if_pos h2, if_neg hv]
        cases cs with
        | nil => simp [z0m]
        | cons d ds =>
          have hd := hs'.1 d (by simp)
          simp only [List.foldl_cons]
          rw [show zdp p v (acc, false) d = (acc ++ [(p, v), d], true) by unfold zdp; rw [if_pos ⟨rfl, by omega⟩], zgd]
          rw [zi0 (fun x hx => by have := hs'.1 x (List.mem_cons_of_mem _ hx); omega)]
          simp [z0m]
      · rw [show zdp p v (acc, false) c = (acc ++ [(p, v), c], true) by unfold zdp; rw [if_pos ⟨rfl, by omega⟩], zgd, if_neg h2, if_neg hv]
        rw [zi0 (fun x hx => by have := hs'.1 x hx; omega)]
        simp [z0m]
theorem zhq (p : Int) : ∀ (cs : List (Int × Int)), Srt cs → zcy cs p 0 = cs.filter (fun c => !decide (c.1 = p))
  | [], _ => by simp [zcy]
  | c :: cs, hs => by
    have hs' := List.pairwise_cons.1 hs
    simp only [zcy]
    by_cases h1 : c.1 < p
    · rw [if_pos h1, zhq p cs hs'.2, List.filter_cons_of_pos (by simp; omega)]
    · rw [if_neg h1]
      by_cases h2 : c.1 = p
      · rw [if_pos h2, if_true, List.filter_cons_of_neg (by simp [h2]), zi0 (fun x hx => by have := hs'.1 x hx; omega)]
      · rw [if_neg h2, if_true, List.filter_cons_of_pos (by simp [h2]), zi0 (fun x hx => by have := hs'.1 x hx; omega)]
theorem z0n (p v : Int) (cs : List (Int × Int)) (hs : Srt cs) : z0m p v (cs.foldl (zdp p v) ([], decide (v = 0))) = zcy cs p v := by
  by_cases hv : v = 0
  · subst hv
    rw [decide_eq_true rfl, zgd, zhq p cs hs]
    simp [z0m]
  · rw [decide_eq_false hv, zri p v hv cs [] hs]; simp
def zkn (a b : Int) (c : Int × Int) : Bool := decide (c.1 < a) || decide (b ≤ c.1)
theorem z0o (xs : List (Int × Int)) (a : Int) (h : ∀ c ∈ xs, a ≤ c.1) : lb xs a = 0 := by
  cases xs with
  | nil => rfl
  | cons c cs => simp only [lb]; rw [if_neg (by have := h c (by simp); omega)]
theorem zlg (a b : Int) (hab : a ≤ b) : ∀ (xs : List (Int × Int)), Srt xs → ClearC.zb6 xs a b = xs.filter (zkn a b)
  | [], _ => rfl
  | x :: xs, hs => by
    have hs' := List.pairwise_cons.1 hs
    have ih := zlg a b hab xs hs'.2
    unfold ClearC.zb6 at ih ⊢
    simp only [lb]
    by_cases h1 : x.1 < a
    · rw [if_pos h1, if_pos (by omega), List.take_succ_cons, List.drop_succ_cons, List.cons_append, ih, List.filter_cons_of_pos (by simp [zkn, h1])]
    · rw [if_neg h1, List.take_zero, List.nil_append]
      by_cases h2 : x.1 < b
      · rw [if_pos h2, List.drop_succ_cons, List.filter_cons_of_neg (by simp [zkn]; omega), ← ih, z0o xs a (fun c hc => by have := hs'.1 c hc; omega)]
        simp
      · rw [if_neg h2, List.drop_zero]
        symm
        exact List.filter_eq_self.2 fun c hc => by
          rcases List.mem_cons.1 hc with rfl | hc
          · simp [zkn]; omega
          · have := hs'.1 c hc; simp [zkn]; omega
theorem zhr (f : Int) (xs : List (Int × Int)) (hs : Srt xs) : TableC.zbf xs f = xs.filter (zkn (f * 512) (f * 512 + 512)) := zlg _ _ (by omega) xs hs
end Go.Proofs.YtmkjfeamgknpfaaGreatDoor.RfQ
namespace Go.Proofs.YtmkjfeamgknpfaaGreatDoor.LaD
open Go.RowKit Bv VaSpec Base MemL RegR Ax MemC PutC MemC3 TzC OkS SpA SpB SpC SpF SpI SpJ SpN RfP RfQ LaA LaB LaC
open BitsC PteSpec
set_option maxRecDepth 10000
set_option maxHeartbeats 1000000
theorem zrj {rec : Int → Int → List Pg} {M : Nat} (h1 : 1 ≤ M) (hrec : ∀ t a, (rec t a).length ≤ M) (p : Pte) (l a : Int) : (zg2 rec p l a).length ≤ M := by
  unfold zg2
  split
  · simp
  · split
    · simpa using h1
    · exact hrec _ _
theorem zgt (sz : Int) (xs : List (Int × Int)) (t b : Int) : (zd4 sz xs 0 t b).length ≤ 512 := by
  have := zmf (fun i : Nat => zg2 (fun _ _ => []) (atM sz xs t i) 0 (adr b i 0)) 1 (fun i => zrj (by omega) (fun _ _ => by simp) _ _ _) (List.range 512)
  rw [List.length_range] at this
  exact this
theorem zs1 (sz : Int) (xs : List (Int × Int)) (t b : Int) : (zd4 sz xs 1 t b).length ≤ 262144 := by
  have := zmf (fun i : Nat => zg2 (zd4 sz xs 0) (atM sz xs t i) (0 + 1 : Nat) (adr b i (0 + 1 : Nat))) 512 (fun i => zrj (by omega) (fun t a => zgt sz xs t a) _ _ _) (List.range 512)
  rw [List.length_range] at this
  exact this
section
variable (sz : Int) (xs : List (Int × Int)) (hs : Srt xs) (hu : Uw xs)
include hs hu
theorem zvb (t b : Int) (ht : 0 ≤ t ∧ t < 17592186044416) (hb : U b) : Ok 58 [zbm sz xs, iu t, ii 0, iu b] (.m (.c (.s (zd4 sz xs 0 t b).length 8 (flP (zd4 sz xs 0 t b))))) :=
  zn4 sz xs t b 0 (fun _ _ => []) ht hb (by omega) (by omega) hs hu (fun _ _ => by simp) (fun h => by omega) _ rfl
theorem z0p (t b : Int) (ht : 0 ≤ t ∧ t < 17592186044416) (hb : U b) : Ok 58 [zbm sz xs, iu t, ii 1, iu b] (.m (.c (.s (zd4 sz xs 1 t b).length 8 (flP (zd4 sz xs 1 t b))))) :=
  zn4 sz xs t b 1 (zd4 sz xs 0) ht hb (by omega) (by omega) hs hu (fun t a => Nat.le_trans (zgt sz xs t a) (by omega)) (fun _ t a h1 h2 => zvb sz xs hs hu t a h1 h2) _ rfl
end
theorem zfi (c : Int × Int) (cs : List (Int × Int)) (a : Int) : MemC.look (c :: cs) a = if c.1 < a then MemC.look cs a else if c.1 = a then c.2 else 0 := by
  by_cases h : c.1 < a
  · have e : MemC.lb (c :: cs) a = MemC.lb cs a + 1 := by simp [MemC.lb, h]
    simp only [MemC.look, e, List.getElem?_cons_succ, if_pos h]
  · have e : MemC.lb (c :: cs) a = 0 := by simp [MemC.lb, h]
    simp only [MemC.look, e, List.getElem?_cons_zero, if_neg h]
theorem zrk (a : Int) : MemC.look [] a = 0 := rfl
theorem zmm (v : Int) : ∀ (xs : List (Int × Int)) (k a : Int), Srt xs → MemC.look (zcy xs k v) a = if a = k then v else MemC.look xs a
  | [], k, a, _ => by
    simp only [zcy]
    (repeat' split) <;> (try simp only [zfi, zrk]) <;> (repeat' split) <;> first | rfl | omega
  | c :: cs, k, a, hs => by
    have hs' := List.pairwise_cons.1 hs
    have hgt : ∀ b : Int, b ≤ c.1 → MemC.look cs b = 0 := fun b hb => zj5 fun d hd => by have := hs'.1 d hd; omega
    have IH := zmm v cs k a hs'.2
    simp only [zcy]
    (repeat' split) <;> (try simp only [zfi, IH]) <;> (repeat' split) <;> first | rfl | omega | (rw [hgt a (by omega)]; done) | (rw [hgt a (by omega)]; omega)
theorem zoa {sz : Int} {xs : List (Int × Int)} {t i v s j : Int} (hs : Srt xs) (hi : 0 ≤ i ∧ i < 512) (hj : 0 ≤ j ∧ j < 512) (hd : s * 4096 + j * 8 < sz) : atM sz (zcy xs (t * 512 + i) v) s j = if s = t ∧ j = i then zbb v else atM sz xs s j := by
  unfold atM zcj
  rw [if_pos hd, if_pos hd, zmm v xs _ _ hs, show (s * 4096 + j * 8) / 8 = s * 512 + j by omega]
  by_cases h : s = t ∧ j = i
  · obtain ⟨rfl, rfl⟩ := h
    simp
  · rw [if_neg h, if_neg (by omega)]
def Al (cd cp f s : Int) : Prop := (cd ≤ s ∧ s < cd + cp) ∧ zhw f (s - cd) = false
def lkP (p : Pte) : Bool := p.v && !p.r && !p.w && !p.x && !p.u && !p.a && !p.d && (p.high == 0)
def EOk (cd cp f : Int) (p : Pte) : Prop := zbr p = true ∨ (lkP p = true ∧ Al cd cp f p.ppn)
structure GM (cd cp : Int) (sz : Int) (xs : List (Int × Int)) (f : Int) : Prop where
  bd : 1 ≤ cd ∧ cd ≤ 524288
  bp : 1 ≤ cp ∧ cp ≤ 64
  bz : sz = (cd + cp) * 4096
  bf : 0 ≤ f ∧ f < 2 ^ cp.toNat
  s : Srt xs
  c : ∀ c ∈ xs, Al cd cp f (c.1 / 512) ∧ U c.2 ∧ EOk cd cp f (zbb c.2)
theorem GM.uf {cd cp sz f : Int} {xs : List (Int × Int)} (h : GM cd cp sz xs f) : U f := zia h.bf.1 h.bf.2 (by have := h.bp; omega)
theorem GM.u {cd cp sz f : Int} {xs : List (Int × Int)} (h : GM cd cp sz xs f) : Uw xs := fun c hc => by
  obtain ⟨⟨⟨a, b⟩, _⟩, e, _⟩ := h.c c hc
  have := h.bd; have := h.bp
  exact ⟨⟨by omega, by omega⟩, e⟩
theorem zvc {xs : List (Int × Int)} {k : Int} : MemC.look xs k = 0 ∨ ∃ c ∈ xs, c.1 = k ∧ MemC.look xs k = c.2 := by
  unfold MemC.look
  split
  · rename_i c hc
    split
    · rename_i h; exact .inr ⟨c, List.mem_of_getElem? hc, h, rfl⟩
    · exact .inl rfl
  · exact .inl rfl
theorem zvd : zbb 0 = zP := by decide
theorem GM.at {cd cp sz f : Int} {xs : List (Int × Int)} (h : GM cd cp sz xs f) (s i : Int) : atM sz xs s i = zP ∨ EOk cd cp f (atM sz xs s i) := by
  unfold atM zcj
  split
  · rcases zvc (xs := xs) (k := (s * 4096 + i * 8) / 8) with e | ⟨c, hc, _, e⟩
    · rw [e]; exact .inl zvd
    · rw [e]; exact .inr (h.c c hc).2.2
  · exact .inl zvd
theorem zfu {p : Pte} (h : lkP p = true) {l : Int} (hl : 1 ≤ l) : zbq p l = true := by
  obtain ⟨v, r, w, x, u, g, a, d, rsw, ppn, high⟩ := p
  unfold lkP at h
  unfold zbq zej zbu
  simp only [Bool.and_eq_true, Bool.not_eq_true', beq_iff_eq] at h
  obtain ⟨⟨⟨⟨⟨⟨⟨rfl, rfl⟩, rfl⟩, rfl⟩, rfl⟩, rfl⟩, rfl⟩, rfl⟩ := h
  have : (l == 0) = false := by simpa using (by omega : ¬ l = 0)
  simp [this]
theorem zmn {p : Pte} {l : Int} (h : zbu p = false) : zbq p l = false := by unfold zbq; rw [h]; rfl
theorem zcq {p : Pte} (h : zbr p = true) : zbu p = false ∧ p.v = true := by
  obtain ⟨v, r, w, x, u, g, a, d, rsw, ppn, high⟩ := p
  revert h
  unfold zbr zbu
  cases v <;> cases r <;> cases x <;> simp
theorem zfa {p : Pte} (h : lkP p = true) : zbu p = true ∧ p.v = true ∧ zbr p = false := by
  obtain ⟨v, r, w, x, u, g, a, d, rsw, ppn, high⟩ := p
  revert h
  unfold lkP zbr zbu
  cases v <;> cases r <;> cases x <;> simp
theorem EOk.kinds {cd cp f : Int} {p : Pte} (h : p = zP ∨ EOk cd cp f p) {l : Int} (hl : 1 ≤ l) :
    (p.v = false ∧ zbr p = false ∧ zbq p l = false) ∨ (p.v = true ∧ zbr p = true ∧ zbq p l = false) ∨ (p.v = true ∧ zbr p = false ∧ zbq p l = true ∧ zbu p = true ∧ Al cd cp f p.ppn) := by
  rcases h with rfl | h | ⟨h, ha⟩
  · exact .inl ⟨rfl, rfl, rfl⟩
  · obtain ⟨a, b⟩ := zcq h
    exact .inr (.inl ⟨b, h, zmn a⟩)
  · obtain ⟨a, b, c⟩ := zfa h
    exact .inr (.inr ⟨b, c, zfu h hl, a, ha⟩)
def lnk (n : Int) : Pte := ⟨true, false, false, false, false, false, false, false, 0, n, 0⟩
theorem zi1 {n : Int} (h : 0 ≤ n ∧ n < 17592186044416) : zbb (PteC.zcc (lnk n)) = lnk n := by
  have hm : zf7 (lnk n) = true := by rw [zdk]; unfold lnk; simp; omega
  have hU : (lnk n).U := by unfold Pte.U lnk; simp; omega
  unfold PteC.zcc
  rw [if_pos hm, zgm _ hU hm]
theorem zgx {n : Int} (h : 0 ≤ n ∧ n < 17592186044416) : (lnk n).U := by unfold Pte.U lnk; simp; omega
def dnN (sz cd addr zaz : Int) : Nat → List (Int × Int) → Int → Int → List (Int × Int) × Int × Int × Int
  | 0, xs, f, t => (xs, f, t, 0)
  | l + 1, xs, f, t =>
    if ((l + 1 : Nat) : Int) ≤ zaz then (xs, f, t, 0)
    else if zbr (atM sz xs t (idx addr ((l + 1 : Nat) : Int))) then (xs, f, t, 6)
    else if (atM sz xs t (idx addr ((l + 1 : Nat) : Int))).v then dnN sz cd addr zaz l xs f (atM sz xs t (idx addr ((l + 1 : Nat) : Int))).ppn
    else if f = 0 then (xs, f, t, 8)
    else dnN sz cd addr zaz l (zbv sz xs t (idx addr ((l + 1 : Nat) : Int)) (lnk (cd + tzI f))) (zb9 f (tzI f) 1 0) (cd + tzI f)
theorem GM.take {cd cp sz f : Int} {xs : List (Int × Int)} (h : GM cd cp sz xs f) (h0 : f ≠ 0) {s : Int} (hs : Al cd cp f s) : s ≠ cd + tzI f ∧ Al cd cp (zb9 f (tzI f) 1 0) s := by
  have t1 := zd2 h.uf h.bf.2 h0
  have hb := zn7 h.uf h0
  have hcp := h.bp
  refine ⟨fun e => ?_, hs.1, ?_⟩
  · have := hs.2
    rw [e, show cd + tzI f - cd = tzI f by omega, hb] at this
    cases this
  · have := hs.1
    rw [zhb h.uf t1.1 (by omega) (by omega) (by omega)]
    split
    · rfl
    · exact hs.2
theorem GM.al {cd cp sz f : Int} {xs : List (Int × Int)} (h : GM cd cp sz xs f) (h0 : f ≠ 0) : Al cd cp (zb9 f (tzI f) 1 0) (cd + tzI f) ∧ (0 ≤ tzI f ∧ tzI f < cp) := by
  have t1 := zd2 h.uf h.bf.2 h0
  have hcp := h.bp
  refine ⟨⟨⟨by omega, by omega⟩, ?_⟩, t1.1, by omega⟩
  rw [show cd + tzI f - cd = tzI f by omega, zhb h.uf t1.1 (by omega) t1.1 (by omega), if_pos rfl]
  rfl
theorem GM.wipe {cd cp sz f : Int} {xs : List (Int × Int)} (h : GM cd cp sz xs f) (h0 : f ≠ 0) : TableC.zbf xs (cd + tzI f) = xs := by
  rw [zhr _ _ h.s]
  refine List.filter_eq_self.2 fun c hc => ?_
  have h1 := (h.take h0 (h.c c hc).1).1
  unfold zkn
  rw [Bool.or_eq_true, decide_eq_true_eq, decide_eq_true_eq]
  omega
theorem GM.mono {cd cp sz f f' : Int} {xs : List (Int × Int)} (h : GM cd cp sz xs f) (hf : 0 ≤ f' ∧ f' < 2 ^ cp.toNat) (ha : ∀ s, Al cd cp f s → Al cd cp f' s) : GM cd cp sz xs f' :=
  ⟨h.bd, h.bp, h.bz, hf, h.s, fun c hc => by
    obtain ⟨a, b, d⟩ := h.c c hc
    refine ⟨ha _ a, b, ?_⟩
    rcases d with d | ⟨d, e⟩
    · exact .inl d
    · exact .inr ⟨d, ha _ e⟩⟩
theorem GM.put {cd cp sz f : Int} {xs : List (Int × Int)} (h : GM cd cp sz xs f) {t i v : Int} (ht : Al cd cp f t) (hi : 0 ≤ i ∧ i < 512) (hv : U v) (he : v ≠ 0 → EOk cd cp f (zbb v)) : GM cd cp sz (zcy xs (t * 512 + i) v) f :=
  ⟨h.bd, h.bp, h.bz, h.bf, ze5 _ _ _ h.s, fun c hc => by
    rcases zd0 _ _ _ _ hc with hc | ⟨rfl, hv0⟩
    · exact h.c c hc
    · refine ⟨?_, hv, he hv0⟩
      show Al cd cp f ((t * 512 + i) / 512)
      rw [show (t * 512 + i) / 512 = t by omega]; exact ht⟩
theorem GM.with {cd cp sz f : Int} {xs : List (Int × Int)} (h : GM cd cp sz xs f) {t i : Int} {p : Pte} (ht : Al cd cp f t) (hi : 0 ≤ i ∧ i < 512) (hp : p.U) : zbv sz xs t i p = zcy xs (t * 512 + i) (PteC.zcc p) :=
  zen hp (by have := h.bd; have := ht.1; omega) hi (by rw [h.bz]; have := ht.1; omega)
theorem GM.hang {cd cp sz f : Int} {xs : List (Int × Int)} (h : GM cd cp sz xs f) (h0 : f ≠ 0) {t i : Int} (ht : Al cd cp f t) (hi : 0 ≤ i ∧ i < 512) :
    GM cd cp sz (zbv sz xs t i (lnk (cd + tzI f))) (zb9 f (tzI f) 1 0) := by
  obtain ⟨ha, t1⟩ := h.al h0
  have hcp := h.bp
  have hcd := h.bd
  have hn : 0 ≤ cd + tzI f ∧ cd + tzI f < 17592186044416 := by omega
  have h' := h.mono (f' := zb9 f (tzI f) 1 0) ⟨(zfw _ _ _ _).1, zha h.uf h.bf.2 t1.1 (by omega)⟩ (fun s hs => (h.take h0 hs).2)
  rw [h.with ht hi (zgx hn)]
  refine h'.put (h.take h0 ht).2 hi (zf9 _ (zgx hn)) fun _ => ?_
  rw [zi1 hn]
  exact .inr ⟨rfl, ha⟩
theorem zj9 (cd cp sz addr zaz : Int) (hw : 0 ≤ zaz) : ∀ (l : Nat) (xs : List (Int × Int)) (f t : Int), GM cd cp sz xs f → Al cd cp f t →
    (dnN sz cd addr zaz l xs f t).2.2.2 = 0 → GM cd cp sz (dnN sz cd addr zaz l xs f t).1 (dnN sz cd addr zaz l xs f t).2.1 ∧ Al cd cp (dnN sz cd addr zaz l xs f t).2.1 (dnN sz cd addr zaz l xs f t).2.2.1 ∧ (dnN sz cd addr zaz l xs f t).1.length ≤ xs.length + l ∧ (∀ s, Al cd cp f s → Al cd cp (dnN sz cd addr zaz l xs f t).2.1 s)
  | 0, xs, f, t, h, ht, _ => ⟨h, ht, by show xs.length ≤ xs.length + 0; omega, fun s hs => hs⟩
  | l + 1, xs, f, t, h, ht, he => by
    have hi := idx_bd addr ((l + 1 : Nat) : Int)
    have hk := EOk.kinds (h.at t (idx addr ((l + 1 : Nat) : Int))) (l := ((l + 1 : Nat) : Int)) (by omega)
    unfold dnN at he ⊢
    split
    · exact ⟨h, ht, by show xs.length ≤ xs.length + (l + 1); omega, fun s hs => hs⟩
    · rename_i c1
      rw [if_neg c1] at he
      split
      · rename_i c2; rw [if_pos c2] at he; cases he
      · rename_i c2
        rw [if_neg c2] at he
        split
        · rename_i c3
          rw [if_pos c3] at he
          rcases hk with ⟨k1, _⟩ | ⟨_, k2, _⟩ | ⟨_, _, _, _, k5⟩
          · rw [k1] at c3; cases c3
          · exact absurd k2 c2
          · obtain ⟨i1, i2, i3, i4⟩ := zj9 cd cp sz addr zaz hw l xs f _ h k5 he
            exact ⟨i1, i2, by omega, i4⟩
        · rename_i c3
          rw [if_neg c3] at he
          split
          · rename_i c4; rw [if_pos c4] at he; cases he
          · rename_i c4
            rw [if_neg c4] at he
            obtain ⟨i1, i2, i3, i4⟩ := zj9 cd cp sz addr zaz hw l _ _ _ (h.hang c4 ht hi) (h.al c4).1 he
            have := zgs sz xs t (idx addr ((l + 1 : Nat) : Int)) (lnk (cd + tzI f))
            exact ⟨i1, i2, by omega, fun s hs => i4 s (h.take c4 hs).2⟩
theorem zic (cd cp sz addr zaz : Int) (hw : 0 ≤ zaz) {xs : List (Int × Int)} {f : Int} (h : GM cd cp sz xs f) : ∀ (l : Nat) (t : Int), Al cd cp f t → zaz ≤ (l : Int) →
    ∃ (l' : Nat) (t' : Int), za3 sz xs addr zaz l t = (t', (l' : Int)) ∧ l' ≤ l ∧ zaz ≤ (l' : Int) ∧ Al cd cp f t' ∧ (zaz < (l' : Int) → zbq (atM sz xs t' (idx addr (l' : Int))) (l' : Int) = false) ∧ dnN sz cd addr zaz l xs f t = dnN sz cd addr zaz l' xs f t' ∧
      (∀ xs', (∀ s i, Al cd cp f s → (0 ≤ i ∧ i < 512) → zbu (atM sz xs s i) = true → atM sz xs' s i = atM sz xs s i) → za3 sz xs' addr zaz l t = za3 sz xs' addr zaz l' t')
  | 0, t, ht, hl => ⟨0, t, rfl, Nat.le_refl _, hl, ht, fun hh => by omega, rfl, fun _ _ => rfl⟩
  | l + 1, t, ht, hl => by
    have hi := idx_bd addr ((l + 1 : Nat) : Int)
    have hk := EOk.kinds (h.at t (idx addr ((l + 1 : Nat) : Int))) (l := ((l + 1 : Nat) : Int)) (by omega)
    by_cases c1 : zaz < ((l + 1 : Nat) : Int)
    · rcases hk with ⟨_, _, k3⟩ | ⟨_, _, k3⟩ | ⟨k1, k2, k3, k4, k5⟩
      · exact ⟨l + 1, t, zbz (fun _ => k3) hw, Nat.le_refl _, hl, ht, fun _ => k3, rfl, fun _ _ => rfl⟩
      · exact ⟨l + 1, t, zbz (fun _ => k3) hw, Nat.le_refl _, hl, ht, fun _ => k3, rfl, fun _ _ => rfl⟩
      · obtain ⟨l', t', i1, i2, i3, i4, i5, i6, i7⟩ := zic cd cp sz addr zaz hw h l _ k5 (by omega)
        refine ⟨l', t', (zcw c1 k3).trans i1, by omega, i3, i4, i5, ?_, fun xs' hx => ?_⟩
        · rw [← i6]
          conv => lhs; unfold dnN
          rw [if_neg (by omega), if_neg (by rw [k2]; simp), if_pos k1]
        · have e := hx t _ ht hi k4
          rw [zcw c1 (by rw [e]; exact k3), e]
          exact i7 xs' hx
    · exact ⟨l + 1, t, zbz (fun hh => absurd hh c1) hw, Nat.le_refl _, hl, ht, fun hh => absurd hh c1, rfl, fun _ _ => rfl⟩
theorem zs2 {cd cp sz f : Int} {xs : List (Int × Int)} (h : GM cd cp sz xs f) (h0 : f ≠ 0) {t i : Int} (ht : Al cd cp f t) (hi : 0 ≤ i ∧ i < 512) (hn : (atM sz xs t i).v = false) :
    ∀ s j, Al cd cp f s → (0 ≤ j ∧ j < 512) → zbu (atM sz xs s j) = true → atM sz (zbv sz xs t i (lnk (cd + tzI f))) s j = atM sz xs s j := fun s j hs hj hlk => by
  obtain ⟨ha, t1⟩ := h.al h0
  have hcp := h.bp
  have hcd := h.bd
  have hz := h.bz
  have b := hs.1
  rw [h.with ht hi (zgx (by omega)), zoa h.s hi hj (by rw [hz]; omega), if_neg]
  rintro ⟨rfl, rfl⟩
  unfold zbu at hlk
  rw [hn] at hlk
  cases hlk
theorem z0q {cd cp sz f : Int} {xs : List (Int × Int)} (h : GM cd cp sz xs f) (h0 : f ≠ 0) {t i : Int} (ht : Al cd cp f t) (hi : 0 ≤ i ∧ i < 512) : atM sz (zbv sz xs t i (lnk (cd + tzI f))) t i = lnk (cd + tzI f) := by
  obtain ⟨ha, t1⟩ := h.al h0
  have hcp := h.bp
  have hcd := h.bd
  have hz := h.bz
  have b := ht.1
  rw [h.with ht hi (zgx (by omega)), zoa h.s hi hi (by rw [hz]; omega), if_pos ⟨rfl, rfl⟩, zi1 (by omega)]
theorem zs3 {cd cp sz f addr zaz : Int} {xs : List (Int × Int)} (hw : 0 ≤ zaz) (h : GM cd cp sz xs f) (h0 : f ≠ 0) {l' : Nat} {t' : Int} (ht : Al cd cp f t') (hlt : zaz < ((l' + 1 : Nat) : Int)) :
    za3 sz (zbv sz xs t' (idx addr ((l' + 1 : Nat) : Int)) (lnk (cd + tzI f))) addr zaz (l' + 1) t' = za3 sz (zbv sz xs t' (idx addr ((l' + 1 : Nat) : Int)) (lnk (cd + tzI f))) addr zaz l' (cd + tzI f) := by
  have hi := idx_bd addr ((l' + 1 : Nat) : Int)
  have e := z0q h h0 ht hi
  rw [zcw hlt (by rw [e]; exact zfu rfl (by omega)), e]
  rfl
theorem zi2 {n : Int} {p : Pm} {g : Bool} (h : 0 ≤ n ∧ n < 17592186044416) (hp : zj4 p = true) : zbb (PteC.zcc (mkP n p g)) = mkP n p g ∧ (mkP n p g).U ∧ zbr (mkP n p g) = true := by
  have hm : zf7 (mkP n p g) = true := by rw [zdk]; unfold mkP; simp; omega
  have hU : (mkP n p g).U := by unfold Pte.U mkP; simp; omega
  refine ⟨?_, hU, ?_⟩
  · unfold PteC.zcc
    rw [if_pos hm, zgm _ hU hm]
  · obtain ⟨r, w, x, u⟩ := p
    revert hp
    unfold zj4 mkP zbr
    cases r <;> cases x <;> simp
end Go.Proofs.YtmkjfeamgknpfaaGreatDoor.LaD
namespace Go.Proofs.YtmkjfeamgknpfaaGreatDoor.SpO
open Go.RowKit Bv VaSpec Base MemL RegR Ax MemC PutC MemC3 TzC OkS SpA SpB SpC SpD IterC SpE SpF SpG SpH SpI SpJ SpK SpN
open BitsC PteSpec
set_option maxRecDepth 10000
set_option maxHeartbeats 800000
def kr (m : List (Int × Int)) (sm sa sp pf af ao : Int) (ss : List Sp) (now : Int) (fs : List Fe) : Kr := { cd := 4, cp := 4, ca := 1, cs := 1, sz := 32768, m := m, tn := 1, ts := zsL 1, sm := sm, sa := sa, sp := sp, priv := 0, su := false, mx := false, vic := -1, pb := 4, pm := 4, pf := pf, am := 1, af := af, ao := ao, ss := ss, now := now, sh := 4, fs := fs }
def k0 : Kr := kr [] 0 0 0 14 1 0 [] (-1) []
theorem n0 : ztg 4 4 1 1 = k0 := by kernel_rfl
theorem i0 : Inv 0 k0 := by rw [← n0]; exact zml (by decide)
def za1 (k : Kr) (id a l : Int) : Int × Int × Int :=
  if ¬ (0 ≤ l ∧ l ≤ 2) then (0, 0, 1)
  else if id ≠ -1 ∧ zb2 k id = false then (0, 0, 4)
  else if zkm a l = false then (0, 0, 2)
  else if id = -1 then (if idx a 2 = 511 ∧ l ≠ 2 then (k.sh, 1, 0) else (0, 0, 3))
  else if idx a 2 = 511 then (0, 0, 3) else ((zct k id).root, 2, 0)
theorem zmo (k : Kr) (id a l : Int) (ha : U a) : Ok 39 [.ag k.ce, ii id, iu a, ii l] (.tu [iu (za1 k id a l).1, ii (za1 k id a l).2.1, ii (za1 k id a l).2.2]) := by
  unfold za1
  by_cases c1 : 0 ≤ l ∧ l ≤ 2
  rotate_left
  · rw [if_pos c1]
    have w0 := zj6 c1
    by_cases c0 : id = -1
    · refine zaf 55 Tryz.func39 rfl rfl rfl rfl ?_ GG.to
      intro W A hG
      repeat (first | (refine zal rfl ?_; first | refine gdr (zaa (.inl rfl) rfl) ?_ | refine gdr (zaa (.inr rfl) rfl) ?_ | refine gdr (za6 rfl rfl rfl rfl) ?_ | refine gdr (zag rfl rfl rfl rfl rfl rfl) ?_ | refine gdr (zas rfl rfl rfl) ?_ | refine gdr (zab rfl rfl rfl (w0) (by kernel_rfl)) ?_) | (refine hK _ ?_; clear hK K) | refine zad rfl ?_ | exact zap (show za8 _ _ _ = some _ by kernel_rfl) | refine zai rfl rfl ?_ | refine zam ?_ | refine zac (fun K hK => ?_))
    · refine zaf 55 Tryz.func39 rfl rfl rfl rfl ?_ GG.to
      intro W A hG
      repeat (first | (refine zal rfl ?_; first | refine gdr (zaa (.inl rfl) rfl) ?_ | refine gdr (zaa (.inr rfl) rfl) ?_ | refine gdr (za6 rfl rfl rfl rfl) ?_ | refine gdr (zag rfl rfl rfl rfl rfl rfl) ?_ | refine gdr (zas rfl rfl rfl) ?_ | refine gdr (zab rfl rfl rfl (w0) (by kernel_rfl)) ?_) | (refine hK _ ?_; clear hK K) | refine zad rfl ?_ | exact zap (show za8 _ _ _ = some _ by kernel_rfl) | refine zai rfl rfl ?_ | refine zam ?_ | refine zac (fun K hK => ?_))
  rw [if_neg (by simpa using c1)]
  have w1 := zez c1
  have hi := zlc a 2 ha (by omega) (by omega)
  have hl := zw8 k id
  have hf := zw3 a l ha c1.1 c1.2
  by_cases c0 : id = -1
  · rw [if_neg (by simp [c0])]
    by_cases c2 : zkm a l = false
    · rw [if_pos c2]
      rw [c2] at hf
      refine zaf 55 Tryz.func39 rfl rfl rfl rfl ?_ GG.to
      intro W A hG
      repeat (first | (refine zal rfl ?_; first | refine gdr (zaw rfl) ?_ | refine gdr (zaa (.inl rfl) rfl) ?_ | refine gdr (zaa (.inr rfl) rfl) ?_ | refine gdr (zaj rfl rfl rfl) ?_ | refine gdr (za6 rfl rfl rfl rfl) ?_ | refine gdr (zag rfl rfl rfl rfl rfl rfl) ?_ | refine gdr (zas rfl rfl rfl) ?_ | refine gdr (zab rfl rfl rfl (w1) (by kernel_rfl)) ?_ | refine gdr (zab rfl rfl rfl (hf) (by kernel_rfl)) ?_) | (refine hK _ ?_; clear hK K) | refine zad rfl ?_ | exact zap (show za8 _ _ _ = some _ by kernel_rfl) | refine zai rfl rfl ?_ | refine zah rfl rfl ?_ | refine zam ?_ | refine zac (fun K hK => ?_))
    rw [if_neg c2, if_pos c0]
    rw [show zkm a l = true by simpa using c2] at hf
    by_cases c3 : idx a 2 = 511
    · by_cases c4 : l = 2
      · rw [if_neg (by simp [c4])]
        refine zaf 55 Tryz.func39 rfl rfl rfl rfl ?_ GG.to
        intro W A hG
        repeat (first | (refine zal rfl ?_; first | refine gdr (zaw rfl) ?_ | refine gdr (zaa (.inl rfl) rfl) ?_ | refine gdr (zaa (.inr rfl) rfl) ?_ | refine gdr (zaj rfl rfl rfl) ?_ | refine gdr (za6 rfl rfl rfl rfl) ?_ | refine gdr (zag rfl rfl rfl rfl rfl rfl) ?_ | refine gdr (zas rfl rfl rfl) ?_ | refine gdr (zco rfl rfl rfl rfl rfl) ?_ | refine gdr (zab rfl rfl rfl (w1) (by kernel_rfl)) ?_ | refine gdr (zab rfl rfl rfl (hf) (by kernel_rfl)) ?_ | refine gdr (zab rfl rfl rfl (hi) (by kernel_rfl)) ?_) | (refine hK _ ?_; clear hK K) | refine zad rfl ?_ | exact zap (show za8 _ _ _ = some _ by kernel_rfl) | refine zai rfl rfl ?_ | refine zah rfl rfl ?_ | refine zam ?_ | refine zac (fun K hK => ?_))
      · rw [if_pos ⟨c3, c4⟩]
        refine zaf 55 Tryz.func39 rfl rfl rfl rfl ?_ GG.to
        intro W A hG
        repeat (first | (refine zal rfl ?_; first | refine gdr (zaw rfl) ?_ | refine gdr (zaa (.inl rfl) rfl) ?_ | refine gnk 1 rfl (za2 tb rfl rfl rfl rfl rfl) ?_ | refine gnx 1 rfl (zbc tb rfl rfl rfl) rfl ?_ | refine gdr (zaa (.inr rfl) rfl) ?_ | refine gdr (zaj rfl rfl rfl) ?_ | refine gdr (za6 rfl rfl rfl rfl) ?_ | refine gdr (zag rfl rfl rfl rfl rfl rfl) ?_ | refine gdr (zas rfl rfl rfl) ?_ | refine gdr (zco rfl rfl rfl rfl rfl) ?_ | refine gdr (zab rfl rfl rfl (w1) (by kernel_rfl)) ?_ | refine gdr (zab rfl rfl rfl (hf) (by kernel_rfl)) ?_ | refine gdr (zab rfl rfl rfl (hi) (by kernel_rfl)) ?_) | (refine hK _ ?_; clear hK K) | refine zad rfl ?_ | exact zap (show za8 _ _ _ = some _ by kernel_rfl) | refine zai rfl rfl ?_ | refine zah rfl rfl ?_ | refine zam ?_ | refine zac (fun K hK => ?_))
    · rw [if_neg (by simp [c3])]
      refine zaf 55 Tryz.func39 rfl rfl rfl rfl ?_ GG.to
      intro W A hG
      repeat (first | (refine zal rfl ?_; first | refine gdr (zaw rfl) ?_ | refine gdr (zaa (.inl rfl) rfl) ?_ | refine gdr (zaa (.inr rfl) rfl) ?_ | refine gdr (zaj rfl rfl rfl) ?_ | refine gdr (za6 rfl rfl rfl rfl) ?_ | refine gdr (zag rfl rfl rfl rfl rfl rfl) ?_ | refine gdr (zas rfl rfl rfl) ?_ | refine gdr (zco rfl rfl rfl rfl rfl) ?_ | refine gdr (zab rfl rfl rfl (w1) (by kernel_rfl)) ?_ | refine gdr (zab rfl rfl rfl (hf) (by kernel_rfl)) ?_ | refine gdr (zab rfl rfl rfl (hi) (by kernel_rfl)) ?_) | (refine hK _ ?_; clear hK K) | refine zad rfl ?_ | exact zap (show za8 _ _ _ = some _ by kernel_rfl) | refine zai rfl rfl ?_ | refine zah rfl rfl ?_ | refine zam ?_ | refine zac (fun K hK => ?_))
  · by_cases c5 : zb2 k id = false
    · rw [if_pos ⟨c0, c5⟩]
      rw [c5] at hl
      refine zaf 55 Tryz.func39 rfl rfl rfl rfl ?_ GG.to
      intro W A hG
      repeat (first | (refine zal rfl ?_; first | refine gdr (zaa (.inl rfl) rfl) ?_ | refine gnk 1 rfl (za2 tb rfl rfl rfl rfl rfl) ?_ | refine gdr (zaa (.inr rfl) rfl) ?_ | refine gdr (zaj rfl rfl rfl) ?_ | refine gdr (za6 rfl rfl rfl rfl) ?_ | refine gdr (zag rfl rfl rfl rfl rfl rfl) ?_ | refine gdr (zas rfl rfl rfl) ?_ | refine gdr (zab rfl rfl rfl (w1) (by kernel_rfl)) ?_ | refine gdr (zab rfl rfl rfl (hl) (by kernel_rfl)) ?_) | (refine hK _ ?_; clear hK K) | refine zad rfl ?_ | exact zap (show za8 _ _ _ = some _ by kernel_rfl) | refine zai rfl rfl ?_ | refine zah rfl rfl ?_ | refine zam ?_ | refine zac (fun K hK => ?_))
    rw [if_neg (by simp [c5])]
    have c5 : zb2 k id = true := by simpa using c5
    rw [c5] at hl
    obtain ⟨y0, y1, y2, y3⟩ := zft c5
    have hx := zld y2
    by_cases c2 : zkm a l = false
    · rw [if_pos c2]
      rw [c2] at hf
      refine zaf 55 Tryz.func39 rfl rfl rfl rfl ?_ GG.to
      intro W A hG
      repeat (first | (refine zal rfl ?_; first | refine gdr (zaa (.inl rfl) rfl) ?_ | refine gnk 1 rfl (za2 tb rfl rfl rfl rfl rfl) ?_ | refine gdr (zaa (.inr rfl) rfl) ?_ | refine gdr (zaj rfl rfl rfl) ?_ | refine gdr (za6 rfl rfl rfl rfl) ?_ | refine gdr (zag rfl rfl rfl rfl rfl rfl) ?_ | refine gdr (zas rfl rfl rfl) ?_ | refine gdr (zab rfl rfl rfl (w1) (by kernel_rfl)) ?_ | refine gdr (zab rfl rfl rfl (hl) (by kernel_rfl)) ?_ | refine gdr (zab rfl rfl rfl (hf) (by kernel_rfl)) ?_) | (refine hK _ ?_; clear hK K) | refine zad rfl ?_ | exact zap (show za8 _ _ _ = some _ by kernel_rfl) | refine zai rfl rfl ?_ | refine zah rfl rfl ?_ | refine zam ?_ | refine zac (fun K hK => ?_))
    rw [if_neg c2, if_neg c0]
    rw [show zkm a l = true by simpa using c2] at hf
    by_cases c3 : idx a 2 = 511
    · rw [if_pos c3]
      refine zaf 55 Tryz.func39 rfl rfl rfl rfl ?_ GG.to
      intro W A hG
      repeat (first | (refine zal rfl ?_; first | refine gdr (zaw rfl) ?_ | refine gdr (zaa (.inl rfl) rfl) ?_ | refine gnk 1 rfl (za2 tb rfl rfl rfl rfl rfl) ?_ | refine gdr (zaa (.inr rfl) rfl) ?_ | refine gdr (zaj rfl rfl rfl) ?_ | refine gdr (za6 rfl rfl rfl rfl) ?_ | refine gdr (zag rfl rfl rfl rfl rfl rfl) ?_ | refine gdr (zas rfl rfl rfl) ?_ | refine gdr (zco rfl rfl rfl rfl rfl) ?_ | refine gdr (zab rfl rfl rfl (w1) (by kernel_rfl)) ?_ | refine gdr (zab rfl rfl rfl (hl) (by kernel_rfl)) ?_ | refine gdr (zab rfl rfl rfl (hf) (by kernel_rfl)) ?_ | refine gdr (zab rfl rfl rfl (hi) (by kernel_rfl)) ?_) | (refine hK _ ?_; clear hK K) | refine zad rfl ?_ | exact zap (show za8 _ _ _ = some _ by kernel_rfl) | refine zai rfl rfl ?_ | refine zah rfl rfl ?_ | refine zam ?_ | refine zac (fun K hK => ?_))
    · rw [if_neg c3]
      refine zaf 55 Tryz.func39 rfl rfl rfl rfl ?_ GG.to
      intro W A hG
      repeat (first | (refine zal rfl ?_; first | refine gdr (zaw rfl) ?_ | refine gdr (zaa (.inl rfl) rfl) ?_ | refine gnk 1 rfl (za2 tb rfl rfl rfl rfl rfl) ?_ | refine gnx 1 rfl (zbc tb rfl rfl rfl) rfl ?_ | refine gdr (zaa (.inr rfl) rfl) ?_ | refine gdr (zaj rfl rfl rfl) ?_ | refine gdr (za6 rfl rfl rfl rfl) ?_ | refine gdr (zag rfl rfl rfl rfl rfl rfl) ?_ | refine gnx 3 rfl (zau tb rfl rfl rfl rfl (by first | kernel_rfl | rfl)) rfl ?_ | refine gnx 3 rfl (za0 tb rfl rfl rfl rfl) rfl ?_ | refine gdr (zas rfl rfl rfl) ?_ | refine gnx 4 rfl (zav rfl rfl rfl rfl rfl rfl (by omega) (by omega) _ (by assumption)) rfl ?_ | refine gdr (zco rfl rfl rfl rfl rfl) ?_ | refine gdr (zab rfl rfl rfl (w1) (by kernel_rfl)) ?_ | refine gdr (zab rfl rfl rfl (hl) (by kernel_rfl)) ?_ | refine gdr (zab rfl rfl rfl (hf) (by kernel_rfl)) ?_ | refine gdr (zab rfl rfl rfl (hi) (by kernel_rfl)) ?_) | (refine hK _ ?_; clear hK K) | refine zad rfl ?_ | exact zap (show za8 _ _ _ = some _ by kernel_rfl) | refine zah rfl rfl ?_ | refine zam ?_ | refine zao ?_ | refine zac (fun K hK => ?_))
end Go.Proofs.YtmkjfeamgknpfaaGreatDoor.SpO
namespace Go.Proofs.YtmkjfeamgknpfaaGreatDoor.LaE
open Go.RowKit Bv VaSpec Base MemL RegR Ax MemC PutC MemC3 TzC OkS SpA SpB SpC SpF SpH SpI SpJ SpN SpO LaA LaB LaC LaD
open BitsC PteSpec
set_option maxRecDepth 10000
set_option maxHeartbeats 1000000
theorem zp0 (n : Int) : Ok 135 [iu n] (.m (.ag (lnk n).ce)) := by
  refine zaf 5 Tryz.func135 rfl rfl rfl rfl ?_ GG.to
  intro W A hG
  repeat (first | (refine zal rfl ?_; first | refine gdr (zaa (.inl rfl) rfl) ?_ | refine gdr (zae rfl rfl rfl rfl rfl) ?_ | refine gnk 1 rfl (zbe rfl rfl rfl rfl rfl rfl rfl) ?_ | refine gdr (zaq rfl rfl rfl rfl) ?_) | (refine hK _ ?_; clear hK K) | refine zad rfl ?_ | exact zap (show za8 _ _ _ = some _ by kernel_rfl) | refine zac (fun K hK => ?_))
def dnH (sz cd cp top lv addr zaz : Int) (xs0 : List (Int × Int)) (f0 : Int) (xs : List (Int × Int)) (f : Int) : St := St.of [(2, .m (iu top)), (3, .m (ii lv)), (4, .m (iu addr)), (5, .m (ii zaz)), (6, .m (.c (.p 6 0))), (7, .m (.c (.p 7 0))), (12, .m (.c (.p 12 0))), (13, .m (.c (.p 13 0))), (14, .m (.c (.p 14 0))), (15, .m (ii 0)), (16, .m (.c (.p 16 0))), (17, .m (.c (.p 17 0)))]
  [(6, .live (.box [cu sz, .s xs0.length 2 (fl xs0)])), (7, .live (.box [cu cd, ci cp, cu f0])), (12, .live (.box [cu 0, .v (.slice none 0 0)])), (13, .live (.box [cu 0, ci 0, cu 0])), (14, .live (.box (zbi 0 0 zP))), (16, .live (.box [cu sz, .s xs.length 2 (fl xs)])), (17, .live (.box [cu cd, ci cp, cu f]))]
theorem z0r (cd cp sz top addr zaz : Int) (lv : Nat) (xs0 : List (Int × Int)) (f0 : Int) (h : GM cd cp sz xs0 f0) (ht : Al cd cp f0 top) (ha : U addr) (hl : lv ≤ 2) (hw : 0 ≤ zaz) (hwl : zaz ≤ (lv : Int)) (hn : xs0.length ≤ 100000)
    (D : List (Int × Int) × Int × Int × Int) (hD : D = dnN sz cd addr zaz lv xs0 f0 top) :
    Ok 73 [zbm sz xs0, .ag [cu cd, ci cp, cu f0], iu top, ii lv, iu addr, ii zaz]
      (.tu (if D.2.2.2 = 0 then [zbm sz D.1, .ag [cu cd, ci cp, cu D.2.1], .ag (zga sz D.1 addr (D.2.2.1, zaz)), ii 0] else [zbm sz xs0, .ag [cu cd, ci cp, cu f0], .ag (zbi 0 0 zP), ii D.2.2.2])) := by
  have hcd := h.bd
  have hcp := h.bp
  obtain ⟨R, hR⟩ : ∃ R, R = (if D.2.2.2 = 0 then [zbm sz D.1, .ag [cu cd, ci cp, cu D.2.1], .ag (zga sz D.1 addr (D.2.2.1, zaz)), ii 0] else [zbm sz xs0, .ag [cu cd, ci cp, cu f0], .ag (zbi 0 0 zP), ii D.2.2.2]) := ⟨_, rfl⟩
  rw [← hR]
  have hcl : (zc8 (.tu R) && [zbm sz xs0, .ag [cu cd, ci cp, cu f0], iu top, ii lv, iu addr, ii zaz].all zcu) = true := by
    rw [hR]; split <;> rfl
  refine zaf 67 Tryz.func73 rfl hcl rfl rfl ?_ GG.to
  intro W A hG
  repeat (first | (refine zal rfl ?_; first | refine gnk 1 rfl (za2 tb rfl rfl rfl rfl rfl) ?_ | refine gdr (zaa (.inr rfl) rfl) ?_ | refine gdr (zag rfl rfl rfl rfl rfl rfl) ?_ | refine gdr (zae rfl rfl rfl rfl rfl) ?_ | refine gnk 1 rfl (zbe rfl rfl rfl rfl rfl rfl rfl) ?_) | (refine hK _ ?_; clear hK K) | refine zad rfl ?_ | refine za4 (by kernel_rfl) (by kernel_rfl) rfl ?_ | refine zam ?_ | refine zac (fun K hK => ?_))
  refine za9 (α := List (Int × Int) × Int × Nat × Int) (fun q => GM cd cp sz q.1 q.2.1 ∧ q.2.2.1 ≤ 2 ∧ zaz ≤ (q.2.2.1 : Int) ∧ Al cd cp q.2.1 q.2.2.2 ∧ Al cd cp q.2.1 top ∧ q.1.length + q.2.2.1 ≤ 100002 ∧ dnN sz cd addr zaz q.2.2.1 q.1 q.2.1 q.2.2.2 = D ∧ za3 sz q.1 addr zaz lv top = za3 sz q.1 addr zaz q.2.2.1 q.2.2.2)
    (fun q => dnH sz cd cp top lv addr zaz xs0 f0 q.1 q.2.1) (fun q => q.2.2.1) (xs0, f0, lv, top) ⟨h, hl, hwl, ht, ht, by show xs0.length + lv ≤ _; omega, hD.symm, rfl⟩ (zar _ _ ⟨by kernel_rfl, by kernel_rfl, by kernel_rfl, by kernel_rfl, by kernel_rfl, by kernel_rfl, by kernel_rfl, by kernel_rfl, by kernel_rfl, by kernel_rfl, by kernel_rfl, by kernel_rfl, trivial⟩ ⟨by kernel_rfl, by kernel_rfl, by kernel_rfl, by kernel_rfl, by kernel_rfl, by kernel_rfl, by kernel_rfl, trivial⟩ (by kernel_rfl)) ?_
  rintro ⟨xs, f, l, t⟩ ⟨x1, x2, x3, x4, x5, x6, x7, x8⟩
  have g1 : GM cd cp sz xs f := x1
  have g2 : l ≤ 2 := x2
  have g3 : zaz ≤ (l : Int) := x3
  have g4 : Al cd cp f t := x4
  have g5 : Al cd cp f top := x5
  have g6 : xs.length + l ≤ 100002 := x6
  have g7 : dnN sz cd addr zaz l xs f t = D := x7
  have g8 : za3 sz xs addr zaz lv top = za3 sz xs addr zaz l t := x8
  show Aw _ _ _ _ (dnH sz cd cp top lv addr zaz xs0 f0 xs f)
  unfold dnH
  obtain ⟨l', t', i1, i2, i3, i4, i5, i6, -⟩ := zic cd cp sz addr zaz hw g1 l t g4 g3
  obtain ⟨l0', l1', l2', -, -, -, -, -, l7'⟩ := zic cd cp sz addr zaz hw g1 lv top g5 hwl
  obtain ⟨e1, e2⟩ : t' = l1' ∧ l' = l0' := by
    have := l2'.symm.trans (g8.trans i1)
    simp only [Prod.mk.injEq] at this
    exact ⟨this.1.symm, by omega⟩
  subst e1 e2
  have ub := g1.u
  have hr := zgp sz xs top lv addr zaz ⟨by have := g5.1; omega, by have := g5.1; omega⟩ ha (by omega) (by omega) hw g1.s ub
  rw [show zc0 sz xs addr zaz lv top = (t', (l' : Int)) by unfold zc0; rw [Int.toNat_natCast, g8, i1]] at hr
  have hi := idx_bd addr (l' : Int)
  have bt := i4.1
  rw [i6] at g7
  clear i1 i6
  obtain ⟨q, hq⟩ : ∃ q, q = atM sz xs t' (idx addr (l' : Int)) := ⟨_, rfl⟩
  unfold zga at hr
  rw [show (t', (l' : Int)).1 = t' from rfl, show (t', (l' : Int)).2 = (l' : Int) from rfl, ← hq] at hr
  repeat (first | (refine zal rfl ?_; first | refine gdr (zaa (.inl rfl) rfl) ?_ | refine gnk 1 rfl (za2 tb rfl rfl rfl rfl rfl) ?_ | refine gdr (zae rfl rfl rfl rfl rfl) ?_ | refine gnk 1 rfl (zbe rfl rfl rfl rfl rfl rfl rfl) ?_ | refine gdr (zab rfl rfl rfl (hr) (by kernel_rfl)) ?_) | refine zad rfl ?_ | refine zam ?_ | refine zac (fun K hK => ?_))
  first
    | (refine hK _ ?_; clear hK K)
    | (rename_i K1 hK1; refine hK1 _ ?_; clear hK hK1; clear K)
    | (rename_i K1 hK1; refine hK1 _ ?_; clear hK1)
  refine ze3 (zar [(2, .m (iu top)), (3, .m (ii lv)), (4, .m (iu addr)), (5, .m (ii zaz)), (6, .m (.c (.p 6 0))), (7, .m (.c (.p 7 0))), (12, .m (.c (.p 12 0))), (13, .m (.c (.p 13 0))), (14, .m (.c (.p 14 0))), (15, .m (ii 0)), (16, .m (.c (.p 16 0))), (17, .m (.c (.p 17 0))), (18, .m (.c (.p 18 0)))] [(6, .live (.box [cu sz, .s xs0.length 2 (fl xs0)])), (7, .live (.box [cu cd, ci cp, cu f0])), (12, .live (.box [cu 0, .v (.slice none 0 0)])), (13, .live (.box [cu 0, ci 0, cu 0])), (14, .live (.box (zbi 0 0 zP))), (16, .live (.box [cu sz, .s xs.length 2 (fl xs)])), (17, .live (.box [cu cd, ci cp, cu f])), (18, .live (.box (zbi t' ((l' : Nat) : Int) q)))] ⟨by kernel_rfl, by kernel_rfl, by kernel_rfl, by kernel_rfl, by kernel_rfl, by kernel_rfl, by kernel_rfl, by kernel_rfl, by kernel_rfl, by kernel_rfl, by kernel_rfl, by kernel_rfl, by kernel_rfl, trivial⟩ ⟨by kernel_rfl, by kernel_rfl, by kernel_rfl, by kernel_rfl, by kernel_rfl, by kernel_rfl, by kernel_rfl, by kernel_rfl, trivial⟩ (by kernel_rfl)) ?_
  by_cases c1 : (l' : Int) = zaz
  · have e : D = (xs, f, t', 0) := by
      rw [← g7]
      cases l' with
      | zero => rfl
      | succ m => unfold dnN; rw [if_pos (by omega)]
    subst e
    have hR : R = [zbm sz xs, .ag [cu cd, ci cp, cu f], .ag (zbi t' zaz (atM sz xs t' (idx addr zaz))), ii 0] := hR
    rw [← c1, ← hq] at hR
    subst hR
    repeat (first | (refine zal rfl ?_; first | refine gdr (zaa (.inl rfl) rfl) ?_ | refine gnk 1 rfl (za2 tb rfl rfl rfl rfl rfl) ?_ | refine gnx 1 rfl (zbc tb rfl rfl rfl) rfl ?_ | refine gdr (zaa (.inr rfl) rfl) ?_ | refine gdr (za6 rfl rfl rfl rfl) ?_ | refine gnk 1 rfl (zbe rfl rfl rfl rfl rfl rfl rfl) ?_) | (refine hK _ ?_; clear hK K) | refine zad rfl ?_ | refine za4 (by kernel_rfl) (by kernel_rfl) rfl ?_ | exact zap (show za8 _ _ _ = some _ by kernel_rfl) | refine zai rfl rfl ?_ | refine zam ?_ | refine zac (fun K hK => ?_))
  · obtain ⟨m, rfl⟩ : ∃ m : Nat, l' = m + 1 := ⟨l' - 1, by omega⟩
    have hlk := i5 (by omega)
    rw [← hq] at hlk
    have hk := EOk.kinds (g1.at t' (idx addr ((m + 1 : Nat) : Int))) (l := ((m + 1 : Nat) : Int)) (by omega)
    rw [← hq, hlk] at hk
    unfold dnN at g7
    rw [if_neg (by omega), ← hq] at g7
    cases hv : q.v with
    | true =>
      have hlf : zbr q = true := by
        rcases hk with ⟨k1, _⟩ | ⟨_, k2, _⟩ | ⟨_, _, k3, _⟩
        · rw [k1] at hv; cases hv
        · exact k2
        · cases k3
      rw [if_pos hlf] at g7
      subst g7
      have hR : R = [zbm sz xs0, .ag [cu cd, ci cp, cu f0], .ag (zbi 0 0 zP), ii 6] := hR
      subst hR
      obtain ⟨q0, q1, q2, q3, q4, q5, q6, q7, q8, q9, q10⟩ := q
      have hv : q0 = true := hv
      subst hv
      repeat (first | (refine zal rfl ?_; first | refine gdr (zaa (.inl rfl) rfl) ?_ | refine gnk 1 rfl (za2 tb rfl rfl rfl rfl rfl) ?_ | refine gnx 1 rfl (zbc tb rfl rfl rfl) rfl ?_ | refine gdr (zaa (.inr rfl) rfl) ?_ | refine gdr (za6 rfl rfl rfl rfl) ?_ | refine gnk 1 rfl (zbe rfl rfl rfl rfl rfl rfl rfl) ?_ | refine gdr (zaq rfl rfl rfl rfl) ?_) | (refine hK _ ?_; clear hK K) | refine zad rfl ?_ | refine za4 (by kernel_rfl) (by kernel_rfl) rfl ?_ | exact zap (show za8 _ _ _ = some _ by kernel_rfl) | refine zai rfl rfl ?_ | refine zah rfl rfl ?_ | refine zam ?_ | refine zac (fun K hK => ?_))
    | false =>
      have hlf : zbr q = false := by unfold zbr; rw [hv]; rfl
      rw [hlf, hv, if_neg (by simp), if_neg (by simp)] at g7
      obtain ⟨q0, q1, q2, q3, q4, q5, q6, q7, q8, q9, q10⟩ := q
      have hv' : q0 = false := hv
      subst hv'
      by_cases c4 : f = 0
      · rw [if_pos c4] at g7
        subst g7
        have hR : R = [zbm sz xs0, .ag [cu cd, ci cp, cu f0], .ag (zbi 0 0 zP), ii 8] := hR
        subst hR
        subst c4
        have hf := zh8 sz xs cd cp (by omega) (by omega)
        repeat (first | (refine zal rfl ?_; first | refine gdr (zaa (.inl rfl) rfl) ?_ | refine gnk 1 rfl (za2 tb rfl rfl rfl rfl rfl) ?_ | refine gnx 1 rfl (zbc tb rfl rfl rfl) rfl ?_ | refine gdr (zaa (.inr rfl) rfl) ?_ | refine gdr (zak rfl rfl rfl rfl) ?_ | refine gdr (za6 rfl rfl rfl rfl) ?_ | refine gdr (zae rfl rfl rfl rfl rfl) ?_ | refine gnk 1 rfl (zbe rfl rfl rfl rfl rfl rfl rfl) ?_ | refine gdr (zaq rfl rfl rfl rfl) ?_ | refine gdr (zab rfl rfl rfl (hf) (by kernel_rfl)) ?_) | (refine hK _ ?_; clear hK K) | refine zad rfl ?_ | refine za4 (by kernel_rfl) (by kernel_rfl) rfl ?_ | exact zap (show za8 _ _ _ = some _ by kernel_rfl) | refine zai rfl rfl ?_ | refine zah rfl rfl ?_ | refine zam ?_ | refine zao ?_ | refine zac (fun K hK => ?_))
      · rw [if_neg c4] at g7
        have hf := zgo sz xs cd cp f (by omega) (by omega) g1.uf c4 g1.s (by omega)
        rw [g1.wipe c4] at hf
        obtain ⟨a1, a2⟩ := g1.al c4
        have hfr : 0 ≤ cd + tzI f ∧ cd + tzI f < 17592186044416 := by omega
        have hln := zp0 (cd + tzI f)
        have hwt := ze8 sz xs t' ((m + 1 : Nat) : Int) ⟨false, q1, q2, q3, q4, q5, q6, q7, q8, q9, q10⟩ addr (lnk (cd + tzI f)) ha (zgx hfr) (by omega) (by omega) (by omega) g1.s ub (by omega)
        have hgm := g1.hang c4 i4 hi
        have hln2 := zgs sz xs t' (idx addr ((m + 1 : Nat) : Int)) (lnk (cd + tzI f))
        have hre : za3 sz (zbv sz xs t' (idx addr ((m + 1 : Nat) : Int)) (lnk (cd + tzI f))) addr zaz lv top = za3 sz (zbv sz xs t' (idx addr ((m + 1 : Nat) : Int)) (lnk (cd + tzI f))) addr zaz m (cd + tzI f) := by
          rw [l7' _ (zs2 g1 c4 i4 hi (by rw [← hq]))]
          exact zs3 hw g1 c4 i4 (by omega)
        revert hf hln hwt hgm hln2 hre g7
        generalize zbv sz xs t' (idx addr ((m + 1 : Nat) : Int)) (lnk (cd + tzI f)) = xs2
        intro g7 hf hln hwt hgm hln2 hre
        repeat (first | (refine zal rfl ?_; first | refine gdr (zaa (.inl rfl) rfl) ?_ | refine gnk 1 rfl (za2 tb rfl rfl rfl rfl rfl) ?_ | refine gnx 1 rfl (zbc tb rfl rfl rfl) rfl ?_ | refine gdr (zaa (.inr rfl) rfl) ?_ | refine gdr (zak rfl rfl rfl rfl) ?_ | refine gdr (za6 rfl rfl rfl rfl) ?_ | refine gdr (zae rfl rfl rfl rfl rfl) ?_ | refine gnk 1 rfl (zbe rfl rfl rfl rfl rfl rfl rfl) ?_ | refine gdr (zab rfl rfl rfl (hf) (by kernel_rfl)) ?_ | refine gdr (zab rfl rfl rfl (hln) (by kernel_rfl)) ?_ | refine gdr (zab rfl rfl rfl (hwt) (by kernel_rfl)) ?_) | (refine hK _ ?_; clear hK K) | refine zad rfl ?_ | refine za4 (by kernel_rfl) (by kernel_rfl) rfl ?_ | refine zah rfl rfl ?_ | refine zam ?_ | refine zao ?_ | refine zac (fun K hK => ?_))
        exact ⟨(xs2, zb9 f (tzI f) 1 0, m, cd + tzI f), ⟨hgm, by show m ≤ 2; omega, by show zaz ≤ (m : Int); omega, a1, (g1.take c4 g5).2, by show xs2.length + m ≤ 100002; omega, g7, hre⟩, by show m < l; omega, zar _ _ ⟨by kernel_rfl, by kernel_rfl, by kernel_rfl, by kernel_rfl, by kernel_rfl, by kernel_rfl, by kernel_rfl, by kernel_rfl, by kernel_rfl, by kernel_rfl, by kernel_rfl, by kernel_rfl, trivial⟩ ⟨by kernel_rfl, by kernel_rfl, by kernel_rfl, by kernel_rfl, by kernel_rfl, by kernel_rfl, by kernel_rfl, trivial⟩ (by kernel_rfl)⟩
end Go.Proofs.YtmkjfeamgknpfaaGreatDoor.LaE
namespace Go.Proofs.YtmkjfeamgknpfaaGreatDoor.LaF
open Go.RowKit Bv VaSpec Base MemL RegR Ax MemC PutC MemC3 TzC OkS SpA SpB SpC SpD SpF SpH SpI SpJ SpN SpO LaA LaB LaC LaD LaE
open BitsC PteSpec
set_option maxRecDepth 10000
set_option maxHeartbeats 1000000
structure InvL (n : Nat) (k : Kr) : Prop where
  g : GM k.cd k.cp k.sz k.m k.pf
  cs : k.cs = k.tn ∧ k.tn ≤ 16
  pb : k.pb = k.cd
  pm : k.pm = k.cp
  sh : Al k.cd k.cp k.pf k.sh
  ts : k.ts = zsL k.tn
  ml : k.m.length ≤ n
  fl : k.fs.length ≤ n
  sl : k.ss.length ≤ 32
  ss : ∀ s ∈ k.ss, s.live = true → Al k.cd k.cp k.pf s.root
theorem InvL.root {n : Nat} {k : Kr} (h : InvL n k) {id : Int} (hl : zb2 k id = true) : Al k.cd k.cp k.pf (zct k id).root := by
  obtain ⟨h0, h1, h2, h3⟩ := zft hl
  exact h.ss _ (List.mem_of_getElem? h2) h3
theorem zmp (k : Nat) : AV.lt (.m (.c (.v (.slice none 0 0)))) (.m (.c (.s 0 k []))) := fun E v h => ltC.nil k E v h
end Go.Proofs.YtmkjfeamgknpfaaGreatDoor.LaF
namespace Go.Proofs.YtmkjfeamgknpfaaGreatDoor.LaG
open Go.RowKit Bv VaSpec Base MemL RegR Ax MemC PutC MemC3 TzC OkS SpA SpB SpC SpD SpE SpF SpH SpI SpJ SpN SpO LaA LaB LaC LaD LaE LaF
open BitsC PteSpec
set_option maxRecDepth 10000
set_option maxHeartbeats 1000000
theorem zcx {n : Nat} {k : Kr} {id a l : Int} (h : InvL n k) (he : (za1 k id a l).2.2 = 0) : (0 ≤ l ∧ l ≤ 2) ∧ Al k.cd k.cp k.pf (za1 k id a l).1 ∧ l ≤ (za1 k id a l).2.1 ∧ (1 ≤ (za1 k id a l).2.1 ∧ (za1 k id a l).2.1 ≤ 2) := by
  unfold za1 at he ⊢
  by_cases c1 : 0 ≤ l ∧ l ≤ 2
  rotate_left
  · rw [if_pos c1] at he; cases he
  rw [if_neg (by simpa using c1)] at he ⊢
  by_cases c2 : id ≠ -1 ∧ zb2 k id = false
  · rw [if_pos c2] at he; cases he
  rw [if_neg c2] at he ⊢
  by_cases c3 : zkm a l = false
  · rw [if_pos c3] at he; cases he
  rw [if_neg c3] at he ⊢
  by_cases c4 : id = -1
  · rw [if_pos c4] at he ⊢
    by_cases c5 : idx a 2 = 511 ∧ l ≠ 2
    · rw [if_pos c5]
      exact ⟨c1, h.sh, by show l ≤ 1; omega, by show (1 : Int) ≤ 1; omega, by show (1 : Int) ≤ 2; omega⟩
    · rw [if_neg c5] at he; cases he
  · rw [if_neg c4] at he ⊢
    by_cases c5 : idx a 2 = 511
    · rw [if_pos c5] at he; cases he
    · rw [if_neg c5]
      have c6 : zb2 k id = true := by
        cases e : zb2 k id with
        | true => rfl
        | false => exact absurd ⟨c4, e⟩ c2
      exact ⟨c1, h.root c6, by show l ≤ 2; omega, by show (1 : Int) ≤ 2; omega, by show (2 : Int) ≤ 2; omega⟩
def lk0 (pa l : Int) : Int := if zfe pa (VaSpec.sz l) then 0 else 2
def lk1 (k : Kr) (pa l : Int) : Int := if inD pa (k.cd * 4096) (VaSpec.sz l) then 0 else 3
def lk2 (p : Pm) : Int := if zj4 p then 0 else 5
def lk3 (k : Kr) (top lv a l : Int) : Int := if !(atM k.sz k.m (zc0 k.sz k.m a l lv top).1 (idx a (zc0 k.sz k.m a l lv top).2)).v then 0 else 6
def zth (k : Kr) (top lv a l : Int) : List (Int × Int) × Int × Int × Int := dnN k.sz k.cd a l lv.toNat k.m k.pf top
def z3z (k : Kr) (D : List (Int × Int) × Int × Int × Int) (a pa l : Int) (p : Pm) (g : Bool) : Kr := { k with m := zbv k.sz D.1 D.2.2.1 (idx a l) (mkP (pa / 4096) p g), pf := D.2.1 }
def zob (k : Kr) (id a pa l : Int) (p : Pm) : Kr × Int :=
  if (za1 k id a l).2.2 ≠ 0 then (k, (za1 k id a l).2.2)
  else if lk0 pa l ≠ 0 then (k, lk0 pa l)
  else if lk1 k pa l ≠ 0 then (k, lk1 k pa l)
  else if lk2 p ≠ 0 then (k, lk2 p)
  else if lk3 k (za1 k id a l).1 (za1 k id a l).2.1 a l ≠ 0 then (k, lk3 k (za1 k id a l).1 (za1 k id a l).2.1 a l)
  else if (zth k (za1 k id a l).1 (za1 k id a l).2.1 a l).2.2.2 ≠ 0 then (k, (zth k (za1 k id a l).1 (za1 k id a l).2.1 a l).2.2.2)
  else (z3z k (zth k (za1 k id a l).1 (za1 k id a l).2.1 a l) a pa l p (decide (id = -1)), 0)
theorem zmq {p : Pm} (h : lk2 p = 0) : zj4 p = true := by
  unfold lk2 at h
  split at h
  · assumption
  · cases h
theorem zrl {k : Kr} {pa l : Int} (h : U pa) (hd : k.cd ≤ 524288) (hq : lk1 k pa l = 0) : 0 ≤ pa / 4096 ∧ pa / 4096 < 17592186044416 := by
  obtain ⟨h0, h1⟩ := h
  unfold lk1 inD at hq
  split at hq
  · rename_i h2
    simp only [Bool.and_eq_true, decide_eq_true_eq] at h2
    omega
  · cases hq
theorem z0s {n : Nat} {k : Kr} {id a pa l : Int} {p : Pm} (h : InvL n k) (hp : U pa) : InvL (n + 3) (zob k id a pa l p).1 := by
  have hm : InvL (n + 3) k := { h with ml := by have := h.ml; omega, fl := by have := h.fl; omega }
  unfold zob
  split
  · exact hm
  · rename_i c0
    split
    · exact hm
    · split
      · exact hm
      · split
        · exact hm
        · rename_i c3
          split
          · exact hm
          · split
            · exact hm
            · rename_i c5
              obtain ⟨w1, w2, w3, w4⟩ := zcx (id := id) (a := a) (l := l) h (by omega)
              generalize za1 k id a l = w at *
              have he : (zth k w.1 w.2.1 a l).2.2.2 = 0 := by omega
              obtain ⟨d1, d2, d3, d4⟩ := zj9 k.cd k.cp k.sz a l w1.1 w.2.1.toNat k.m k.pf w.1 h.g w2 he
              have hb := zi2 (n := pa / 4096) (p := p) (g := decide (id = -1)) (zrl (k := k) (l := l) hp (by have := h.g.bd; omega) (by omega)) (zmq (by omega))
              have hw := d1.with (i := idx a l) d2 (idx_bd a l) hb.2.1
              have hle := zgs k.sz (zth k w.1 w.2.1 a l).1 (zth k w.1 w.2.1 a l).2.2.1 (idx a l) (mkP (pa / 4096) p (decide (id = -1)))
              have hml := h.ml
              refine { g := ?_, cs := h.cs, pb := h.pb, pm := h.pm, sh := d4 _ h.sh, ts := h.ts, ml := ?_, fl := by have := h.fl; show k.fs.length ≤ n + 3; omega, sl := h.sl, ss := fun s hs hl => d4 _ (h.ss s hs hl) }
              · show GM k.cd k.cp k.sz (zbv k.sz (dnN k.sz k.cd a l w.2.1.toNat k.m k.pf w.1).1 (dnN k.sz k.cd a l w.2.1.toNat k.m k.pf w.1).2.2.1 (idx a l) (mkP (pa / 4096) p (decide (id = -1)))) (dnN k.sz k.cd a l w.2.1.toNat k.m k.pf w.1).2.1
                rw [hw]
                exact d1.put d2 (idx_bd a l) (zf9 _ hb.2.1) fun _ => by rw [hb.1]; exact .inl hb.2.2
              · show (zbv k.sz (zth k w.1 w.2.1 a l).1 (zth k w.1 w.2.1 a l).2.2.1 (idx a l) (mkP (pa / 4096) p (decide (id = -1)))).length ≤ n + 3
                have d3' : (zth k w.1 w.2.1 a l).1.length ≤ k.m.length + w.2.1.toNat := d3
                omega
def z30 (k : Kr) (id a pa l : Int) (p : Pm) (top lv z : Int) (i : Nat) : St := St.of [(1, .m (ii id)), (6, .m (.c (.p 6 0))), (8, .m (.c (.p 8 0))), (9, .m (.c (.p 9 0))), (10, .m (.c (.p 10 0))), (11, .m (.c (.p 11 0))), (12, .m (.c (.p 12 0))), (13, .m (ii 0)), (14, .m (.c (.p 14 0))), (15, .m (.c (.p 15 0))), (16, .m (ii 0)), (55, .m (.c (.bs 55 0 4))), (56, .m (ii 4)), (57, .m (ii i))]
  [(6, .live (.box k.ce)), (8, .live (.box [cu a])), (9, .live (.box [cu pa])), (10, .live (.box [ci l])), (11, .live (.box p.ce)), (12, .live (.box zK)), (14, .live (.box [cu top])), (15, .live (.box [ci lv])), (17, .live (.box [cu (k.cd * 4096)])), (18, .live (.box [cu z])), (55, .live (.box [.cl 69 [9, 18], .cl 71 [9, 17, 18], .cl 72 [11], .cl 67 [6, 14, 15, 8, 10]]))]
def nm1 (i : Nat) : Nat := if i = 2000 then 6 else if i = 2001 then 14 else if i = 2002 then 15 else if i = 2003 then 8 else 10
def nm2 (i : Nat) : Nat := if i = 2000 then 9 else 18
def nm3 (i : Nat) : Nat := if i = 2000 then 9 else if i = 2001 then 17 else 18
def nm4 (i : Nat) : Nat := 11
theorem zp1 {n : Nat} {k : Kr} (h : InvL n k) (hn : n ≤ 90000) (id a pa l : Int) (p : Pm) (ha : U a) (hp : U pa) : Ok 30 [.ag k.ce, ii id, iu a, iu pa, ii l, .ag p.ce] (.tu [.ag (zob k id a pa l p).1.ce, ii (zob k id a pa l p).2]) := by
  have hw := zmo k id a l ha
  obtain ⟨R, hR⟩ : ∃ R, R = zob k id a pa l p := ⟨_, rfl⟩
  rw [← hR]
  unfold zob at hR
  by_cases c0 : (za1 k id a l).2.2 ≠ 0
  · rw [if_pos c0] at hR
    generalize za1 k id a l = w at *
    subst hR
    refine zaf 101 Tryz.func30 rfl rfl rfl rfl ?_ GG.to
    intro W A hG
    repeat (first | (refine zal rfl ?_; first | refine gdr (zaa (.inl rfl) rfl) ?_ | refine gnk 1 rfl (za2 tb rfl rfl rfl rfl rfl) ?_ | refine gdr (zaa (.inr rfl) rfl) ?_ | refine gdr (zak rfl rfl rfl rfl) ?_ | refine gdr (za6 rfl rfl rfl rfl) ?_ | refine gdr (zag rfl rfl rfl rfl rfl rfl) ?_ | refine gdr (zae rfl rfl rfl rfl rfl) ?_ | refine gnk 1 rfl (zbe rfl rfl rfl rfl rfl rfl rfl) ?_ | refine gdr (zab rfl rfl rfl (hw) (by kernel_rfl)) ?_) | (refine hK _ ?_; clear hK K) | refine zad rfl ?_ | exact zap (show za8 _ _ _ = some _ by kernel_rfl) | refine zai rfl rfl ?_ | refine zac (fun K hK => ?_))
  rw [if_neg c0] at hR
  obtain ⟨w1, w2, w3, w4⟩ := zcx (id := id) (a := a) (l := l) h (by omega)
  have c0 : (za1 k id a l).2.2 = 0 := by omega
  rw [c0] at hw
  generalize (za1 k id a l).1 = top at *
  generalize (za1 k id a l).2.1 = lv at *
  have b1 := h.g.bd
  have b2 := h.g.bp
  have hz := zgc l w1.1 w1.2
  have hzb := zn2 l w1.1 w1.2
  have ft : 0 ≤ top ∧ top < 17592186044416 := by have := w2.1; omega
  have hml := h.ml
  have m2 := zz3 pa (VaSpec.sz l) hp ⟨by omega, by omega⟩
  have m3 := zz4 pa (k.cd * 4096) (VaSpec.sz l) hp ⟨by omega, by omega⟩ ⟨by omega, by omega⟩
  have m4 := zz5 p
  have m1 := zz6 k top lv a l ⟨h.g.s, h.g.u⟩ ft ha (by omega) (by omega) w1.1
  obtain ⟨lw, rfl⟩ := Int.eq_ofNat_of_zero_le (show 0 ≤ lv by omega)
  have hd := z0r k.cd k.cp k.sz top a l lw k.m k.pf h.g w2 ha (by omega) w1.1 w3 (by omega) _ rfl
  have hdg := zj9 k.cd k.cp k.sz a l w1.1 lw k.m k.pf top h.g w2
  have hpb := h.pb
  have hpm := h.pm
  have h2 : zde Tryz.prog GG 69 [spB 2000 [cu pa], spB 2001 [cu (VaSpec.sz l)]] [.c (.p 2000 0), .c (.p 2001 0)] (.m (ii (lk0 pa l))) := m2
  have h3 : zde Tryz.prog GG 71 [spB 2000 [cu pa], spB 2001 [cu (k.cd * 4096)], spB 2002 [cu (VaSpec.sz l)]] [.c (.p 2000 0), .c (.p 2001 0), .c (.p 2002 0)] (.m (ii (lk1 k pa l))) := m3
  have h4 : zde Tryz.prog GG 72 [spB 2000 p.ce] [.c (.p 2000 0)] (.m (ii (lk2 p))) := m4
  have h1 : zde Tryz.prog GG 67 [spB 2000 k.ce, spB 2001 [cu top], spB 2002 [ci (lw : Int)], spB 2003 [cu a], spB 2004 [ci l]] [.c (.p 2000 0), .c (.p 2001 0), .c (.p 2002 0), .c (.p 2003 0), .c (.p 2004 0)] (.m (ii (lk3 k top lw a l))) := m1
  clear m1 m2 m3 m4
  have hmk := zi2 (n := pa / 4096) (p := p) (g := decide (id = -1))
  have hpn := zrl (k := k) (pa := pa) (l := l) hp (by omega)
  have hpk := zmq (p := p)
  generalize lk0 pa l = q0 at *
  generalize lk1 k pa l = q1 at *
  generalize lk2 p = q2 at *
  generalize lk3 k top lw a l = q3 at *
  generalize VaSpec.sz l = z at *
  have hsz : k.sz = (k.cd + k.cp) * 4096 := h.g.bz
  unfold zth at hR
  rw [Int.toNat_natCast] at hR
  generalize dnN k.sz k.cd a l lw k.m k.pf top = D at *
  refine zaf 101 Tryz.func30 rfl rfl rfl rfl ?_ GG.to
  intro W A hG
  repeat (first | (refine zal rfl ?_; first | refine gdr (zaa (.inl rfl) rfl) ?_ | refine gnk 1 rfl (za2 tb rfl rfl rfl rfl rfl) ?_ | refine gnx 1 rfl (zbc tb rfl rfl rfl) rfl ?_ | refine gdr (zaa (.inr rfl) rfl) ?_ | refine gdr (zak rfl rfl rfl rfl) ?_ | refine gdr (za6 rfl rfl rfl rfl) ?_ | refine gdr (gar rfl rfl rfl rfl) ?_ | refine gdr (gcv rfl rfl rfl rfl rfl) ?_ | refine gdr (zag rfl rfl rfl rfl rfl rfl) ?_ | refine gdr (zae rfl rfl rfl rfl rfl) ?_ | refine gnk 1 rfl (zbe rfl rfl rfl rfl rfl rfl rfl) ?_ | refine gdr (zaq rfl rfl rfl rfl) ?_ | refine gdr (zcm rfl rfl rfl) ?_ | refine gdr (zch rfl rfl rfl rfl) ?_ | refine gdr (zby rfl rfl rfl rfl rfl rfl rfl rfl rfl rfl) ?_ | refine gdr (zab rfl rfl rfl (hw) (by kernel_rfl)) ?_ | refine gdr (zab rfl rfl rfl (hz) (by kernel_rfl)) ?_) | (refine hK _ ?_; clear hK K) | refine zad rfl ?_ | refine za4 (by kernel_rfl) (by kernel_rfl) rfl ?_ | refine zah rfl rfl ?_ | refine zam ?_ | refine zao ?_ | refine zac (fun K hK => ?_))
  refine za9 (α := Nat) (fun i => i ≤ 4 ∧ (0 < i → q0 = 0) ∧ (1 < i → q1 = 0) ∧ (2 < i → q2 = 0) ∧ (3 < i → q3 = 0)) (fun i => z30 k id a pa l p top lw z i) (fun i => 4 - i) 0 ⟨by omega, by omega, by omega, by omega, by omega⟩ (zar _ _ ⟨by kernel_rfl, by kernel_rfl, by kernel_rfl, by kernel_rfl, by kernel_rfl, by kernel_rfl, by kernel_rfl, by kernel_rfl, by kernel_rfl, by kernel_rfl, by kernel_rfl, by kernel_rfl, by kernel_rfl, by kernel_rfl, trivial⟩ ⟨by kernel_rfl, by kernel_rfl, by kernel_rfl, by kernel_rfl, by kernel_rfl, by kernel_rfl, by kernel_rfl, by kernel_rfl, by kernel_rfl, by kernel_rfl, by kernel_rfl, trivial⟩ (by kernel_rfl)) ?_
  rintro i ⟨x0, x1, x2, x3, x4⟩
  show Aw _ _ _ _ (z30 k id a pa l p top lw z i)
  unfold z30
  have hi : i = 0 ∨ i = 1 ∨ i = 2 ∨ i = 3 ∨ i = 4 := by omega
  rcases hi with rfl | rfl | rfl | rfl | rfl
  · by_cases e : q0 = 0
    · skip
      repeat (first | (refine zal rfl ?_; first | refine gdr (zaa (.inl rfl) rfl) ?_ | refine gnk 1 rfl (za2 tb rfl rfl rfl rfl rfl) ?_ | refine gnx 1 rfl (zbc tb rfl rfl rfl) rfl ?_ | refine gdr (zaa (.inr rfl) rfl) ?_ | refine gdr (za6 rfl rfl rfl rfl) ?_ | refine gdr (gar rfl rfl rfl rfl) ?_ | refine gdr (zae rfl rfl rfl rfl rfl) ?_ | refine gnk 1 rfl (zbe rfl rfl rfl rfl rfl rfl rfl) ?_ | refine gnx 6 rfl (zbk rfl rfl rfl rfl rfl rfl (by omega) (by omega)) rfl ?_ | refine gdr (zcg nm2 h2 rfl rfl rfl (by kernel_rfl) rfl rfl ⟨rfl, rfl, trivial⟩ (by kernel_rfl)) ?_) | (refine hK _ ?_; clear hK K) | refine zad rfl ?_ | refine zai rfl rfl ?_ | refine zah rfl rfl ?_ | refine zam ?_ | refine zao ?_ | refine zac (fun K hK => ?_))
      exact ⟨1, ⟨by omega, by omega, by omega, by omega, by omega⟩, by omega, zar _ _ ⟨by kernel_rfl, by kernel_rfl, by kernel_rfl, by kernel_rfl, by kernel_rfl, by kernel_rfl, by kernel_rfl, by kernel_rfl, by kernel_rfl, by kernel_rfl, by kernel_rfl, by kernel_rfl, by kernel_rfl, by kernel_rfl, trivial⟩ ⟨by kernel_rfl, by kernel_rfl, by kernel_rfl, by kernel_rfl, by kernel_rfl, by kernel_rfl, by kernel_rfl, by kernel_rfl, by kernel_rfl, by kernel_rfl, by kernel_rfl, trivial⟩ (by kernel_rfl)⟩
    · rw [if_pos e] at hR
      subst hR
      repeat (first | (refine zal rfl ?_; first | refine gdr (zaa (.inl rfl) rfl) ?_ | refine gnk 1 rfl (za2 tb rfl rfl rfl rfl rfl) ?_ | refine gnx 1 rfl (zbc tb rfl rfl rfl) rfl ?_ | refine gdr (zaa (.inr rfl) rfl) ?_ | refine gdr (za6 rfl rfl rfl rfl) ?_ | refine gdr (zae rfl rfl rfl rfl rfl) ?_ | refine gnk 1 rfl (zbe rfl rfl rfl rfl rfl rfl rfl) ?_ | refine gnx 6 rfl (zbk rfl rfl rfl rfl rfl rfl (by omega) (by omega)) rfl ?_ | refine gdr (zcg nm2 h2 rfl rfl rfl (by kernel_rfl) rfl rfl ⟨rfl, rfl, trivial⟩ (by kernel_rfl)) ?_) | (refine hK _ ?_; clear hK K) | refine zad rfl ?_ | exact zap (show za8 _ _ _ = some _ by kernel_rfl) | refine zai rfl rfl ?_ | refine zam ?_ | refine zao ?_ | refine zac (fun K hK => ?_))
  · by_cases e : q1 = 0
    · skip
      repeat (first | (refine zal rfl ?_; first | refine gdr (zaa (.inl rfl) rfl) ?_ | refine gnk 1 rfl (za2 tb rfl rfl rfl rfl rfl) ?_ | refine gnx 1 rfl (zbc tb rfl rfl rfl) rfl ?_ | refine gdr (zaa (.inr rfl) rfl) ?_ | refine gdr (za6 rfl rfl rfl rfl) ?_ | refine gdr (gar rfl rfl rfl rfl) ?_ | refine gdr (zae rfl rfl rfl rfl rfl) ?_ | refine gnk 1 rfl (zbe rfl rfl rfl rfl rfl rfl rfl) ?_ | refine gnx 6 rfl (zbk rfl rfl rfl rfl rfl rfl (by omega) (by omega)) rfl ?_ | refine gdr (zcg nm3 h3 rfl rfl rfl (by kernel_rfl) rfl rfl ⟨rfl, rfl, rfl, trivial⟩ (by kernel_rfl)) ?_) | (refine hK _ ?_; clear hK K) | refine zad rfl ?_ | refine zai rfl rfl ?_ | refine zah rfl rfl ?_ | refine zam ?_ | refine zao ?_ | refine zac (fun K hK => ?_))
      exact ⟨2, ⟨by omega, by omega, by omega, by omega, by omega⟩, by omega, zar _ _ ⟨by kernel_rfl, by kernel_rfl, by kernel_rfl, by kernel_rfl, by kernel_rfl, by kernel_rfl, by kernel_rfl, by kernel_rfl, by kernel_rfl, by kernel_rfl, by kernel_rfl, by kernel_rfl, by kernel_rfl, by kernel_rfl, trivial⟩ ⟨by kernel_rfl, by kernel_rfl, by kernel_rfl, by kernel_rfl, by kernel_rfl, by kernel_rfl, by kernel_rfl, by kernel_rfl, by kernel_rfl, by kernel_rfl, by kernel_rfl, trivial⟩ (by kernel_rfl)⟩
    · rw [if_neg (show ¬ q0 ≠ 0 by omega)] at hR; rw [if_pos e] at hR
      subst hR
      repeat (first | (refine zal rfl ?_; first | refine gdr (zaa (.inl rfl) rfl) ?_ | refine gnk 1 rfl (za2 tb rfl rfl rfl rfl rfl) ?_ | refine gnx 1 rfl (zbc tb rfl rfl rfl) rfl ?_ | refine gdr (zaa (.inr rfl) rfl) ?_ | refine gdr (za6 rfl rfl rfl rfl) ?_ | refine gdr (zae rfl rfl rfl rfl rfl) ?_ | refine gnk 1 rfl (zbe rfl rfl rfl rfl rfl rfl rfl) ?_ | refine gnx 6 rfl (zbk rfl rfl rfl rfl rfl rfl (by omega) (by omega)) rfl ?_ | refine gdr (zcg nm3 h3 rfl rfl rfl (by kernel_rfl) rfl rfl ⟨rfl, rfl, rfl, trivial⟩ (by kernel_rfl)) ?_) | (refine hK _ ?_; clear hK K) | refine zad rfl ?_ | exact zap (show za8 _ _ _ = some _ by kernel_rfl) | refine zai rfl rfl ?_ | refine zam ?_ | refine zao ?_ | refine zac (fun K hK => ?_))
  · by_cases e : q2 = 0
    · skip
      repeat (first | (refine zal rfl ?_; first | refine gdr (zaa (.inl rfl) rfl) ?_ | refine gnk 1 rfl (za2 tb rfl rfl rfl rfl rfl) ?_ | refine gnx 1 rfl (zbc tb rfl rfl rfl) rfl ?_ | refine gdr (zaa (.inr rfl) rfl) ?_ | refine gdr (za6 rfl rfl rfl rfl) ?_ | refine gdr (gar rfl rfl rfl rfl) ?_ | refine gdr (zae rfl rfl rfl rfl rfl) ?_ | refine gnk 1 rfl (zbe rfl rfl rfl rfl rfl rfl rfl) ?_ | refine gnx 6 rfl (zbk rfl rfl rfl rfl rfl rfl (by omega) (by omega)) rfl ?_ | refine gdr (zcg nm4 h4 rfl rfl rfl (by kernel_rfl) rfl rfl ⟨rfl, trivial⟩ (by kernel_rfl)) ?_) | (refine hK _ ?_; clear hK K) | refine zad rfl ?_ | refine zai rfl rfl ?_ | refine zah rfl rfl ?_ | refine zam ?_ | refine zao ?_ | refine zac (fun K hK => ?_))
      exact ⟨3, ⟨by omega, by omega, by omega, by omega, by omega⟩, by omega, zar _ _ ⟨by kernel_rfl, by kernel_rfl, by kernel_rfl, by kernel_rfl, by kernel_rfl, by kernel_rfl, by kernel_rfl, by kernel_rfl, by kernel_rfl, by kernel_rfl, by kernel_rfl, by kernel_rfl, by kernel_rfl, by kernel_rfl, trivial⟩ ⟨by kernel_rfl, by kernel_rfl, by kernel_rfl, by kernel_rfl, by kernel_rfl, by kernel_rfl, by kernel_rfl, by kernel_rfl, by kernel_rfl, by kernel_rfl, by kernel_rfl, trivial⟩ (by kernel_rfl)⟩
    · rw [if_neg (show ¬ q0 ≠ 0 by omega)] at hR; rw [if_neg (show ¬ q1 ≠ 0 by omega)] at hR; rw [if_pos e] at hR
      subst hR
      repeat (first | (refine zal rfl ?_; first | refine gdr (zaa (.inl rfl) rfl) ?_ | refine gnk 1 rfl (za2 tb rfl rfl rfl rfl rfl) ?_ | refine gnx 1 rfl (zbc tb rfl rfl rfl) rfl ?_ | refine gdr (zaa (.inr rfl) rfl) ?_ | refine gdr (za6 rfl rfl rfl rfl) ?_ | refine gdr (zae rfl rfl rfl rfl rfl) ?_ | refine gnk 1 rfl (zbe rfl rfl rfl rfl rfl rfl rfl) ?_ | refine gnx 6 rfl (zbk rfl rfl rfl rfl rfl rfl (by omega) (by omega)) rfl ?_ | refine gdr (zcg nm4 h4 rfl rfl rfl (by kernel_rfl) rfl rfl ⟨rfl, trivial⟩ (by kernel_rfl)) ?_) | (refine hK _ ?_; clear hK K) | refine zad rfl ?_ | exact zap (show za8 _ _ _ = some _ by kernel_rfl) | refine zai rfl rfl ?_ | refine zam ?_ | refine zao ?_ | refine zac (fun K hK => ?_))
  · by_cases e : q3 = 0
    · skip
      repeat (first | (refine zal rfl ?_; first | refine gdr (zaa (.inl rfl) rfl) ?_ | refine gnk 1 rfl (za2 tb rfl rfl rfl rfl rfl) ?_ | refine gnx 1 rfl (zbc tb rfl rfl rfl) rfl ?_ | refine gdr (zaa (.inr rfl) rfl) ?_ | refine gdr (za6 rfl rfl rfl rfl) ?_ | refine gdr (gar rfl rfl rfl rfl) ?_ | refine gdr (zae rfl rfl rfl rfl rfl) ?_ | refine gnk 1 rfl (zbe rfl rfl rfl rfl rfl rfl rfl) ?_ | refine gnx 6 rfl (zbk rfl rfl rfl rfl rfl rfl (by omega) (by omega)) rfl ?_ | refine gdr (zcg nm1 h1 rfl rfl rfl (by kernel_rfl) rfl rfl ⟨rfl, rfl, rfl, rfl, rfl, trivial⟩ (by kernel_rfl)) ?_) | (refine hK _ ?_; clear hK K) | refine zad rfl ?_ | refine zai rfl rfl ?_ | refine zah rfl rfl ?_ | refine zam ?_ | refine zao ?_ | refine zac (fun K hK => ?_))
      exact ⟨4, ⟨by omega, by omega, by omega, by omega, by omega⟩, by omega, zar _ _ ⟨by kernel_rfl, by kernel_rfl, by kernel_rfl, by kernel_rfl, by kernel_rfl, by kernel_rfl, by kernel_rfl, by kernel_rfl, by kernel_rfl, by kernel_rfl, by kernel_rfl, by kernel_rfl, by kernel_rfl, by kernel_rfl, trivial⟩ ⟨by kernel_rfl, by kernel_rfl, by kernel_rfl, by kernel_rfl, by kernel_rfl, by kernel_rfl, by kernel_rfl, by kernel_rfl, by kernel_rfl, by kernel_rfl, by kernel_rfl, trivial⟩ (by kernel_rfl)⟩
    · rw [if_neg (show ¬ q0 ≠ 0 by omega)] at hR; rw [if_neg (show ¬ q1 ≠ 0 by omega)] at hR; rw [if_neg (show ¬ q2 ≠ 0 by omega)] at hR; rw [if_pos e] at hR
      subst hR
      repeat (first | (refine zal rfl ?_; first | refine gdr (zaa (.inl rfl) rfl) ?_ | refine gnk 1 rfl (za2 tb rfl rfl rfl rfl rfl) ?_ | refine gnx 1 rfl (zbc tb rfl rfl rfl) rfl ?_ | refine gdr (zaa (.inr rfl) rfl) ?_ | refine gdr (za6 rfl rfl rfl rfl) ?_ | refine gdr (zae rfl rfl rfl rfl rfl) ?_ | refine gnk 1 rfl (zbe rfl rfl rfl rfl rfl rfl rfl) ?_ | refine gnx 6 rfl (zbk rfl rfl rfl rfl rfl rfl (by omega) (by omega)) rfl ?_ | refine gdr (zcg nm1 h1 rfl rfl rfl (by kernel_rfl) rfl rfl ⟨rfl, rfl, rfl, rfl, rfl, trivial⟩ (by kernel_rfl)) ?_) | (refine hK _ ?_; clear hK K) | refine zad rfl ?_ | exact zap (show za8 _ _ _ = some _ by kernel_rfl) | refine zai rfl rfl ?_ | refine zam ?_ | refine zao ?_ | refine zac (fun K hK => ?_))
  · have y0 := x1 (by omega)
    have y1 := x2 (by omega)
    have y2 := x3 (by omega)
    have y3 := x4 (by omega)
    rw [if_neg (by omega), if_neg (by omega), if_neg (by omega), if_neg (by omega)] at hR
    rw [← hpb, ← hpm] at hd
    obtain ⟨m2, f2, t2, e2⟩ := D
    by_cases e : e2 = 0
    · subst e
      obtain ⟨d1, d2, d3, d4⟩ := hdg rfl
      have d1 : GM k.cd k.cp k.sz m2 f2 := d1
      have d2 : Al k.cd k.cp f2 t2 := d2
      have d3 : m2.length ≤ k.m.length + lw := d3
      have hd : Ok 73 [zbm k.sz k.m, .ag [cu k.pb, ci k.pm, cu k.pf], iu top, ii lw, iu a, ii l] (.tu [zbm k.sz m2, .ag [cu k.pb, ci k.pm, cu f2], .ag (zbi t2 l (atM k.sz m2 t2 (idx a l))), ii 0]) := hd
      have hR : R = (z3z k (m2, f2, t2, 0) a pa l p (decide (id = -1)), 0) := hR
      have hu := (hmk (hpn y1) (hpk y2)).2.1
      have hwt := ze8 k.sz m2 t2 l (atM k.sz m2 t2 (idx a l)) a (mkP (pa / 4096) p (decide (id = -1))) ha hu w1.1 w1.2 ⟨by have := d2.1; omega, by have := d2.1; omega⟩ d1.s d1.u (by omega)
      generalize atM k.sz m2 t2 (idx a l) = q at *
      have hp0 := hp.1
      have hp1 := hp.2
      by_cases c5 : id = -1
      · have hmp := zrb (pa / 4096) p true
        rw [decide_eq_true c5] at hwt hR
        subst hR
        repeat (first | (refine zal rfl ?_; first | refine gdr (zaa (.inl rfl) rfl) ?_ | refine gnk 1 rfl (za2 tb rfl rfl rfl rfl rfl) ?_ | refine gnx 1 rfl (zbc tb rfl rfl rfl) rfl ?_ | refine gdr (zaa (.inr rfl) rfl) ?_ | refine gdr (zak rfl rfl rfl rfl) ?_ | refine gdr (za6 rfl rfl rfl rfl) ?_ | refine gdr (zbs rfl rfl rfl rfl (by omega) (by omega) (by first | exact zdb (by omega) (by omega) | exact zdc (by omega) (by omega))) ?_ | refine gdr (zae rfl rfl rfl rfl rfl) ?_ | refine gnk 1 rfl (zbe rfl rfl rfl rfl rfl rfl rfl) ?_ | refine gdr (zab rfl rfl rfl (hd) (by kernel_rfl)) ?_ | refine gdr (zab rfl rfl rfl (hmp) (by kernel_rfl)) ?_ | refine gdr (zab rfl rfl rfl (hwt) (by kernel_rfl)) ?_) | (refine hK _ ?_; clear hK K) | (rename_i K1 hK1; refine hK1 _ ?_; clear hK hK1; clear K) | refine zad rfl ?_ | refine za4 (by kernel_rfl) (by kernel_rfl) rfl ?_ | exact zap (show za8 _ _ _ = some _ by kernel_rfl) | refine zah rfl rfl ?_ | refine zba ?_ | refine zao ?_ | refine zac (fun K hK => ?_))
      · have hmp := zrb (pa / 4096) p false
        rw [decide_eq_false c5] at hwt hR
        subst hR
        repeat (first | (refine zal rfl ?_; first | refine gdr (zaa (.inl rfl) rfl) ?_ | refine gnk 1 rfl (za2 tb rfl rfl rfl rfl rfl) ?_ | refine gnx 1 rfl (zbc tb rfl rfl rfl) rfl ?_ | refine gdr (zaa (.inr rfl) rfl) ?_ | refine gdr (zak rfl rfl rfl rfl) ?_ | refine gdr (za6 rfl rfl rfl rfl) ?_ | refine gdr (zbs rfl rfl rfl rfl (by omega) (by omega) (by first | exact zdb (by omega) (by omega) | exact zdc (by omega) (by omega))) ?_ | refine gdr (zae rfl rfl rfl rfl rfl) ?_ | refine gnk 1 rfl (zbe rfl rfl rfl rfl rfl rfl rfl) ?_ | refine gdr (zab rfl rfl rfl (hd) (by kernel_rfl)) ?_ | refine gdr (zab rfl rfl rfl (hmp) (by kernel_rfl)) ?_ | refine gdr (zab rfl rfl rfl (hwt) (by kernel_rfl)) ?_) | (refine hK _ ?_; clear hK K) | (rename_i K1 hK1; refine hK1 _ ?_; clear hK hK1; clear K) | refine zad rfl ?_ | refine za4 (by kernel_rfl) (by kernel_rfl) rfl ?_ | exact zap (show za8 _ _ _ = some _ by kernel_rfl) | refine zah rfl rfl ?_ | refine zba ?_ | refine zao ?_ | refine zac (fun K hK => ?_))
    · rw [if_neg (show ¬ (m2, f2, t2, e2).2.2.2 = 0 from e)] at hd
      rw [if_pos (show (m2, f2, t2, e2).2.2.2 ≠ 0 from e)] at hR
      have hd : Ok 73 [zbm k.sz k.m, .ag [cu k.pb, ci k.pm, cu k.pf], iu top, ii lw, iu a, ii l] (.tu [zbm k.sz k.m, .ag [cu k.pb, ci k.pm, cu k.pf], .ag (zbi 0 0 zP), ii e2]) := hd
      have hR : R = (k, e2) := hR
      subst hR
      repeat (first | (refine zal rfl ?_; first | refine gdr (zaa (.inl rfl) rfl) ?_ | refine gnk 1 rfl (za2 tb rfl rfl rfl rfl rfl) ?_ | refine gnx 1 rfl (zbc tb rfl rfl rfl) rfl ?_ | refine gdr (zaa (.inr rfl) rfl) ?_ | refine gdr (zak rfl rfl rfl rfl) ?_ | refine gdr (za6 rfl rfl rfl rfl) ?_ | refine gdr (zae rfl rfl rfl rfl rfl) ?_ | refine gnk 1 rfl (zbe rfl rfl rfl rfl rfl rfl rfl) ?_ | refine gdr (zab rfl rfl rfl (hd) (by kernel_rfl)) ?_) | (refine hK _ ?_; clear hK K) | (rename_i K1 hK1; refine hK1 _ ?_; clear hK hK1; clear K) | refine zad rfl ?_ | exact zap (show za8 _ _ _ = some _ by kernel_rfl) | refine zai rfl rfl ?_ | refine zah rfl rfl ?_ | refine zba ?_ | refine zac (fun K hK => ?_))
end Go.Proofs.YtmkjfeamgknpfaaGreatDoor.LaG
namespace Go.Proofs.YtmkjfeamgknpfaaGreatDoor.LiA
open Go.RowKit Bv VaSpec Base MemL RegR Ax MemC PutC MemC3 TzC OkS SpA SpB SpC SpD SpF SpH SpI SpJ SpN SpO RfP RfQ LaA LaB LaC LaD LaE LaF LaG
open BitsC PteSpec
set_option maxRecDepth 10000
set_option maxHeartbeats 1000000
def KOk (al : Int → Prop) (lv : Int → Int) (s : Int) (p : Pte) : Prop := al s ∧ (0 ≤ lv s ∧ lv s ≤ 2) ∧ ((zbr p = true ∧ zej p (lv s) = false) ∨ (lkP p = true ∧ 1 ≤ lv s ∧ lv p.ppn = lv s - 1 ∧ al p.ppn))
structure TE (E : Int → Int → Pte) (al : Int → Prop) (sh : Int) (lv : Int → Int) : Prop where
  k : ∀ s i, (0 ≤ i ∧ i < 512) → E s i = zP ∨ KOk al lv s (E s i)
  u : ∀ s i t j, (0 ≤ i ∧ i < 512) → (0 ≤ j ∧ j < 512) → lkP (E s i) = true → lkP (E t j) = true → (E s i).ppn = (E t j).ppn → (E s i).ppn ≠ sh → s = t ∧ i = j
  s : ∀ s i, (0 ≤ i ∧ i < 512) → lkP (E s i) = true → (E s i).ppn = sh → i = 511 ∧ lv s = 2
section
variable {E E' : Int → Int → Pte} {al al' : Int → Prop} {sh : Int} {lv lv' : Int → Int}
theorem TE.sub (h : TE E al sh lv) (hs : ∀ s i, (0 ≤ i ∧ i < 512) → E' s i = zP ∨ E' s i = E s i) : TE E' al sh lv := by
  have key : ∀ s i, (0 ≤ i ∧ i < 512) → lkP (E' s i) = true → E' s i = E s i := fun s i hi hl => by
    rcases hs s i hi with e | e
    · rw [e] at hl; cases hl
    · exact e
  refine ⟨fun s i hi => ?_, fun s i t j hi hj h1 h2 h3 h4 => ?_, fun s i hi h1 h2 => ?_⟩
  · rcases hs s i hi with e | e
    · exact .inl e
    · rw [e]; exact h.k s i hi
  · have e1 := key s i hi h1
    have e2 := key t j hj h2
    rw [e1] at h1 h3 h4; rw [e2] at h2 h3
    exact h.u s i t j hi hj h1 h2 h3 h4
  · have e1 := key s i hi h1
    rw [e1] at h1 h2; exact h.s s i hi h1 h2
theorem TE.fr (h : TE E al sh lv) (hs : ∀ s i, (0 ≤ i ∧ i < 512) → E s i ≠ zP → al' s) (hp : ∀ s i, (0 ≤ i ∧ i < 512) → lkP (E s i) = true → al' (E s i).ppn) : TE E al' sh lv := by
  refine ⟨fun s i hi => ?_, h.u, h.s⟩
  by_cases e : E s i = zP
  · exact .inl e
  · rcases h.k s i hi with e2 | ⟨a, b, c⟩
    · exact absurd e2 e
    · refine .inr ⟨hs s i hi e, b, ?_⟩
      rcases c with c | ⟨c1, c2, c3, c4⟩
      · exact .inl c
      · exact .inr ⟨c1, c2, c3, hp s i hi c1⟩
theorem TE.mono (h : TE E al sh lv) (ha : ∀ s, al s → al' s) : TE E al' sh lv :=
  h.fr (fun s i hi e => by
    rcases h.k s i hi with e2 | ⟨a, _⟩
    · exact absurd e2 e
    · exact ha _ a) (fun s i hi hl => by
    rcases h.k s i hi with e2 | ⟨_, _, ⟨c, _⟩ | ⟨_, _, _, c⟩⟩
    · rw [e2] at hl; cases hl
    · have := (zfa hl).2.2; rw [c] at this; cases this
    · exact ha _ c)
theorem zmr {p : Pte} (h : zbr p = true) : lkP p = false := by
  cases e : lkP p with
  | false => rfl
  | true => have := (zfa e).2.2; rw [h] at this; cases this
theorem TE.leaf (h : TE E al sh lv) {t i : Int} {p : Pte} (ht : al t) (hl : 0 ≤ lv t ∧ lv t ≤ 2) (h1 : zbr p = true) (h2 : zej p (lv t) = false) (he : ∀ s j, (0 ≤ j ∧ j < 512) → E' s j = if s = t ∧ j = i then p else E s j) : TE E' al sh lv := by
  have key : ∀ s j, (0 ≤ j ∧ j < 512) → lkP (E' s j) = true → E' s j = E s j := fun s j hj hlk => by
    rw [he s j hj] at hlk ⊢
    split
    · rename_i c; rw [if_pos c, zmr h1] at hlk; cases hlk
    · rfl
  refine ⟨fun s j hj => ?_, fun s i t j hi hj a1 a2 a3 a4 => ?_, fun s i hi a1 a2 => ?_⟩
  · rw [he s j hj]
    split
    · rename_i c; rw [c.1]; exact .inr ⟨ht, hl, .inl ⟨h1, h2⟩⟩
    · exact h.k s j hj
  · have e1 := key s i hi a1
    have e2 := key t j hj a2
    rw [e1] at a1 a3 a4; rw [e2] at a2 a3
    exact h.u s i t j hi hj a1 a2 a3 a4
  · have e1 := key s i hi a1
    rw [e1] at a1 a2; exact h.s s i hi a1 a2
def upL (lv : Int → Int) (g l : Int) : Int → Int := fun s => if s = g then l else lv s
theorem TE.link (h : TE E al sh lv) {t i g : Int} (ha : ∀ s, al s → al' s ∧ s ≠ g) (hg : al' g) (ht : al t) (hl : 1 ≤ lv t ∧ lv t ≤ 2) (hi : 0 ≤ i ∧ i < 512) (hsh : al sh) (hn : lkP (E t i) = false)
    (he : ∀ s j, (0 ≤ j ∧ j < 512) → E' s j = if s = t ∧ j = i then lnk g else E s j) : TE E' al' sh (upL lv g (lv t - 1)) := by
  have hgs : g ≠ sh := fun e => (ha _ hsh).2 e.symm
  have hgt : t ≠ g := (ha _ ht).2
  have hlv : ∀ s, al s → upL lv g (lv t - 1) s = lv s := fun s hs => if_neg (ha s hs).2
  have nog : ∀ s j, (0 ≤ j ∧ j < 512) → lkP (E s j) = true → (E s j).ppn ≠ g := fun s j hj hlk => by
    rcases h.k s j hj with e2 | ⟨_, _, ⟨c, _⟩ | ⟨_, _, _, c⟩⟩
    · rw [e2] at hlk; cases hlk
    · rw [zmr c] at hlk; cases hlk
    · exact (ha _ c).2
  refine ⟨fun s j hj => ?_, fun s a t' b ha' hb h1 h2 h3 h4 => ?_, fun s j hj h1 h2 => ?_⟩
  · rw [he s j hj]
    split
    · rename_i c
      rw [c.1]
      refine .inr ⟨(ha _ ht).1, by rw [hlv t ht]; omega, .inr ⟨rfl, by rw [hlv t ht]; exact hl.1, ?_, hg⟩⟩
      rw [hlv t ht]
      exact if_pos rfl
    · rcases h.k s j hj with e | ⟨a, b, c⟩
      · exact .inl e
      · refine .inr ⟨(ha _ a).1, by rw [hlv s a]; exact b, ?_⟩
        rw [hlv s a]
        rcases c with c | ⟨c1, c2, c3, c4⟩
        · exact .inl c
        · exact .inr ⟨c1, c2, by rw [hlv _ c4]; exact c3, (ha _ c4).1⟩
  · rw [he s a ha'] at h1 h3 h4
    rw [he t' b hb] at h2 h3
    by_cases c1 : s = t ∧ a = i
    · by_cases c2 : t' = t ∧ b = i
      · exact ⟨c1.1.trans c2.1.symm, c1.2.trans c2.2.symm⟩
      · rw [if_pos c1, if_neg c2] at h3
        rw [if_neg c2] at h2
        exact absurd h3.symm (nog t' b hb h2)
    · by_cases c2 : t' = t ∧ b = i
      · rw [if_neg c1, if_pos c2] at h3
        rw [if_neg c1] at h1
        exact absurd h3 (nog s a ha' h1)
      · rw [if_neg c1] at h1 h3 h4
        rw [if_neg c2] at h2 h3
        exact h.u s a t' b ha' hb h1 h2 h3 h4
  · rw [he s j hj] at h1 h2
    by_cases c : s = t ∧ j = i
    · rw [if_pos c] at h2
      exact absurd h2 hgs
    · rw [if_neg c] at h1 h2
      obtain ⟨a1, a2⟩ := h.s s j hj h1 h2
      refine ⟨a1, ?_⟩
      rcases h.k s j hj with e | ⟨a, _⟩
      · rw [e] at h1; cases h1
      · rw [hlv s a]; exact a2
end
theorem zoc (A B : Int) : ∀ (xs : List (Int × Int)) (a : Int), Srt xs → MemC.look (xs.filter (zkn A B)) a = if A ≤ a ∧ a < B then 0 else MemC.look xs a
  | [], a, _ => by rw [show MemC.look (([] : List (Int × Int)).filter (zkn A B)) a = 0 from rfl, zrk]; split <;> rfl
  | c :: cs, a, hs => by
    have hs' := List.pairwise_cons.1 hs
    have hgt : ∀ b : Int, b ≤ c.1 → MemC.look cs b = 0 := fun b hb => zj5 fun d hd => by have := hs'.1 d hd; omega
    have IH := zoc A B cs a hs'.2
    by_cases h : zkn A B c = true
    · rw [List.filter_cons, if_pos h, zfi, zfi, IH]
      unfold zkn at h
      rw [Bool.or_eq_true, decide_eq_true_eq, decide_eq_true_eq] at h
      (repeat' split) <;> first | rfl | omega
    · rw [List.filter_cons, if_neg h, IH, zfi]
      unfold zkn at h
      rw [Bool.or_eq_true, decide_eq_true_eq, decide_eq_true_eq] at h
      (repeat' split) <;> first | rfl | omega | (rw [hgt a (by omega)]; done) | (rw [hgt a (by omega)]; omega)
structure TI (cd cp sz : Int) (xs : List (Int × Int)) (f sh : Int) (lv : Int → Int) : Prop where
  bd : 1 ≤ cd ∧ cd ≤ 524288
  bp : 1 ≤ cp ∧ cp ≤ 64
  bz : sz = (cd + cp) * 4096
  bf : 0 ≤ f ∧ f < 2 ^ cp.toNat
  s : Srt xs
  r : ∀ c ∈ xs, (cd * 512 ≤ c.1 ∧ c.1 < (cd + cp) * 512) ∧ U c.2 ∧ c.2 ≠ 0
  e : TE (atM sz xs) (Al cd cp f) sh lv
theorem look_mem : ∀ {xs : List (Int × Int)} {c : Int × Int}, Srt xs → c ∈ xs → MemC.look xs c.1 = c.2
  | x :: xs, c, hs, hc => by
    have hs' := List.pairwise_cons.1 hs
    rw [zfi]
    rcases List.mem_cons.1 hc with rfl | hc
    · rw [if_neg (by omega), if_pos rfl]
    · rw [if_pos (hs'.1 c hc), look_mem hs'.2 hc]
section
variable {cd cp sz f sh : Int} {xs : List (Int × Int)} {lv : Int → Int}
theorem TI.mem (h : TI cd cp sz xs f sh lv) {c : Int × Int} (hc : c ∈ xs) : atM sz xs (c.1 / 512) (c.1 % 512) = zbb c.2 := by
  obtain ⟨⟨a, b⟩, _⟩ := h.r c hc
  have hz := h.bz
  unfold atM zcj
  rw [if_pos (by rw [hz]; omega), show (c.1 / 512 * 4096 + c.1 % 512 * 8) / 8 = c.1 by omega, look_mem h.s hc]
theorem z2w {v : Int} (hv : U v) (h : v ≠ 0) : zbb v ≠ zP := fun e => h (by
  have := zsp v hv.1 hv.2
  rw [e] at this
  exact this.symm.trans (by decide))
theorem TI.gm (h : TI cd cp sz xs f sh lv) : GM cd cp sz xs f := ⟨h.bd, h.bp, h.bz, h.bf, h.s, fun c hc => by
  obtain ⟨_, hu, h0⟩ := h.r c hc
  have hk := h.e.k (c.1 / 512) (c.1 % 512) (by omega)
  rw [h.mem hc] at hk
  rcases hk with e | ⟨a, _, k⟩
  · exact absurd e (z2w hu h0)
  · refine ⟨a, hu, ?_⟩
    rcases k with k | k
    · exact .inl k.1
    · exact .inr ⟨k.1, k.2.2.2⟩⟩
theorem TI.uf (h : TI cd cp sz xs f sh lv) : U f := h.gm.uf
theorem TI.u (h : TI cd cp sz xs f sh lv) : Uw xs := h.gm.u
theorem TI.put (h : TI cd cp sz xs f sh lv) {t i v : Int} {f' : Int} {lv' : Int → Int} (ht : cd ≤ t ∧ t < cd + cp) (hi : 0 ≤ i ∧ i < 512) (hv : U v) (hf : 0 ≤ f' ∧ f' < 2 ^ cp.toNat)
    (he : ∀ E', (∀ s j, (0 ≤ j ∧ j < 512) → E' s j = if s = t ∧ j = i then zbb v else atM sz xs s j) → TE E' (Al cd cp f') sh lv') : TI cd cp sz (zcy xs (t * 512 + i) v) f' sh lv' :=
  ⟨h.bd, h.bp, h.bz, hf, ze5 _ _ _ h.s, fun c hc => by
    rcases zd0 _ _ _ _ hc with hc | ⟨rfl, hv0⟩
    · exact h.r c hc
    · exact ⟨⟨by show cd * 512 ≤ t * 512 + i; omega, by show t * 512 + i < (cd + cp) * 512; omega⟩, hv, hv0⟩, he _ fun s j hj => by
    by_cases hd : s * 4096 + j * 8 < sz
    · exact zoa h.s hi hj hd
    · have hz := h.bz
      rw [if_neg (by rintro ⟨rfl, rfl⟩; omega)]
      unfold atM zcj
      rw [if_neg hd, if_neg hd]⟩
theorem zp2 (hs : Srt xs) (g s j : Int) (hj : 0 ≤ j ∧ j < 512) : atM sz (TableC.zbf xs g) s j = if s = g then zP else atM sz xs s j := by
  unfold atM zcj
  by_cases d : s * 4096 + j * 8 < sz
  · rw [if_pos d, if_pos d, zhr _ _ hs, zoc _ _ _ _ hs, show (s * 4096 + j * 8) / 8 = s * 512 + j by omega]
    by_cases c : s = g
    · rw [if_pos (show g * 512 ≤ s * 512 + j ∧ s * 512 + j < g * 512 + 512 by omega), if_pos c]
      exact zvd
    · rw [if_neg (show ¬ (g * 512 ≤ s * 512 + j ∧ s * 512 + j < g * 512 + 512) by omega), if_neg c]
  · rw [if_neg d, if_neg d, zvd]
    split <;> rfl
theorem TI.wipe (h : TI cd cp sz xs f sh lv) (g : Int) {f' : Int} (hf : 0 ≤ f' ∧ f' < 2 ^ cp.toNat) (he : ∀ E', (∀ s j, (0 ≤ j ∧ j < 512) → E' s j = if s = g then zP else atM sz xs s j) → TE E' (Al cd cp f') sh lv) : TI cd cp sz (TableC.zbf xs g) f' sh lv :=
  ⟨h.bd, h.bp, h.bz, hf, zc9 _ h.s, fun c hc => h.r c (ze6 hc), he _ fun s j hj => zp2 h.s g s j hj⟩
end
end Go.Proofs.YtmkjfeamgknpfaaGreatDoor.LiA
namespace Go.Proofs.YtmkjfeamgknpfaaGreatDoor.LiB
open Go.RowKit Bv VaSpec Base MemL RegR Ax MemC PutC MemC3 TzC OkS SpA SpB SpC SpD SpF SpH SpI SpJ SpN SpO RfP RfQ LaA LaB LaC LaD LaE LaF LaG LiA
open BitsC PteSpec
set_option maxRecDepth 10000
set_option maxHeartbeats 1000000
def prt (q : Pte) (l i : Int) : Pte := { q with ppn := q.ppn + i * (VaSpec.sz (l - 1) / 4096) }
def zer (xs : List (Int × Int)) (g : Int) (v : Nat → Int) : Nat → List (Int × Int)
  | 0 => xs
  | n + 1 => zcy (zer xs g v n) (g * 512 + n) (v n)
theorem zge {xs : List (Int × Int)} {g : Int} {v : Nat → Int} (h : Srt xs) : ∀ n, Srt (zer xs g v n)
  | 0 => h
  | n + 1 => ze5 _ _ _ (zge h n)
theorem zid (xs : List (Int × Int)) (g : Int) (v : Nat → Int) : ∀ n, (zer xs g v n).length ≤ xs.length + n
  | 0 => Nat.le_refl _
  | n + 1 => by
    have := zmh (zer xs g v n) (g * 512 + n) (v n)
    have := zid xs g v n
    show (zcy (zer xs g v n) (g * 512 + n) (v n)).length ≤ _
    omega
theorem zms {xs : List (Int × Int)} {g : Int} {v : Nat → Int} : ∀ (n : Nat) (c : Int × Int), c ∈ zer xs g v n → c ∈ xs ∨ ∃ i : Nat, i < n ∧ c = (g * 512 + i, v i) ∧ v i ≠ 0
  | 0, c, h => .inl h
  | n + 1, c, h => by
    rcases zd0 _ _ _ _ h with h | ⟨e, hv⟩
    · rcases zms n c h with h | ⟨i, hi, e⟩
      · exact .inl h
      · exact .inr ⟨i, by omega, e⟩
    · exact .inr ⟨n, by omega, e, hv⟩
theorem zrm {xs : List (Int × Int)} {g : Int} {v : Nat → Int} (h : Srt xs) (a : Int) : ∀ n : Nat, MemC.look (zer xs g v n) a = if g * 512 ≤ a ∧ a < g * 512 + n then v (a - g * 512).toNat else MemC.look xs a
  | 0 => by rw [if_neg (by omega)]; rfl
  | n + 1 => by
    show MemC.look (zcy (zer xs g v n) (g * 512 + n) (v n)) a = _
    rw [zmm _ _ _ _ (zge h n), zrm h a n]
    by_cases c : a = g * 512 + n
    · rw [if_pos c, if_pos (by omega)]
      congr 1; omega
    · rw [if_neg c]
      by_cases d : g * 512 ≤ a ∧ a < g * 512 + n
      · rw [if_pos d, if_pos (by omega)]
      · rw [if_neg d, if_neg (by omega)]
theorem z2x {sz : Int} {xs : List (Int × Int)} {g : Int} {v : Nat → Int} (h : Srt xs) (hg : g * 4096 + 4096 ≤ sz) (s j : Int) (hj : 0 ≤ j ∧ j < 512) : atM sz (zer xs g v 512) s j = if s = g then zbb (v j.toNat) else atM sz xs s j := by
  unfold atM zcj
  by_cases d : s * 4096 + j * 8 < sz
  · rw [if_pos d, if_pos d, zrm h, show (s * 4096 + j * 8) / 8 = s * 512 + j by omega]
    by_cases c : s = g
    · subst c
      rw [if_pos rfl, if_pos (by omega), show s * 512 + j - s * 512 = j by omega]
    · rw [if_neg c, if_neg (by omega)]
  · rw [if_neg d, if_neg d, if_neg (by rintro rfl; omega)]
theorem z31 {l : Int} (h : 1 ≤ l ∧ l ≤ 2) : l = 1 ∨ l = 2 := by omega
theorem zdf {q : Pte} {l i : Int} (hU : q.U) (hm : zf7 q = true) (hl : 1 ≤ l ∧ l ≤ 2) (h1 : zbr q = true) (h2 : zej q l = false) (hi : 0 ≤ i ∧ i < 512) :
    (prt q l i).U ∧ zf7 (prt q l i) = true ∧ zbr (prt q l i) = true ∧ zej (prt q l i) (l - 1) = false := by
  obtain ⟨v, r, w, x, u, g, a, d, rsw, ppn, high⟩ := q
  rw [zdk] at hm
  have hlk := (zcq h1).1
  unfold Pte.U at hU
  unfold zej at h2
  simp only at hm hU h2
  split at h2
  · cases h2
  · rename_i h3
    rw [hlk] at h2
    rw [if_neg (by simp)] at h2
    have hmod : ppn % (VaSpec.sz l / 4096) = 0 := by simpa using h2
    have hlk2 : zbu (prt ⟨v, r, w, x, u, g, a, d, rsw, ppn, high⟩ l i) = false := hlk
    have hb : ∀ n, (prt ⟨v, r, w, x, u, g, a, d, rsw, ppn, high⟩ l i).ppn = n → n % (VaSpec.sz (l - 1) / 4096) = 0 → zej (prt ⟨v, r, w, x, u, g, a, d, rsw, ppn, high⟩ l i) (l - 1) = false := fun n e hn => by
      unfold zej
      rw [hlk2, e, hn]
      show (if (!v || w && !r || high != 0) = true then true else if (false = true) then _ else !(0 == 0)) = false
      rw [if_neg h3]
      rfl
    rcases z31 hl with rfl | rfl
    · have hmod : ppn % 512 = 0 := hmod
      have e : (prt ⟨v, r, w, x, u, g, a, d, rsw, ppn, high⟩ 1 i).ppn = ppn + i * 1 := rfl
      refine ⟨?_, ?_, h1, hb _ e (by show (ppn + i * 1) % 1 = 0; omega)⟩
      · unfold Pte.U; rw [e]; show _ ∧ (0 ≤ ppn + i * 1 ∧ _) ∧ _; refine ⟨hU.1, by omega, hU.2.2⟩
      · rw [zdk, e]; refine ⟨hm.1, by omega, hm.2.2⟩
    · have hmod : ppn % 262144 = 0 := hmod
      have e : (prt ⟨v, r, w, x, u, g, a, d, rsw, ppn, high⟩ 2 i).ppn = ppn + i * 512 := rfl
      refine ⟨?_, ?_, h1, hb _ e (by show (ppn + i * 512) % 512 = 0; omega)⟩
      · unfold Pte.U; rw [e]; show _ ∧ (0 ≤ ppn + i * 512 ∧ _) ∧ _; refine ⟨hU.1, by omega, hU.2.2⟩
      · rw [zdk, e]; refine ⟨hm.1, by omega, hm.2.2⟩
theorem zrn {q : Pte} (hU : q.U) (hm : zf7 q = true) : zbb (PteC.zcc q) = q := by
  unfold PteC.zcc
  rw [if_pos hm, zgm _ hU hm]
theorem zyw {q : Pte} (hU : q.U) (hm : zf7 q = true) (h : q.v = true) : PteC.zcc q ≠ 0 := fun e => by
  have := zrn hU hm
  rw [e, zvd] at this
  rw [← this] at h; cases h
theorem TE.row {E E' : Int → Int → Pte} {al : Int → Prop} {sh : Int} {lv : Int → Int} (h : TE E al sh lv) {g : Int} {p : Int → Pte} (hg : al g) (hl : 0 ≤ lv g ∧ lv g ≤ 2) (hp : ∀ j, (0 ≤ j ∧ j < 512) → zbr (p j) = true ∧ zej (p j) (lv g) = false)
    (he : ∀ s j, (0 ≤ j ∧ j < 512) → E' s j = if s = g then p j else E s j) : TE E' al sh lv := by
  have key : ∀ s j, (0 ≤ j ∧ j < 512) → lkP (E' s j) = true → E' s j = E s j := fun s j hj hlk => by
    rw [he s j hj] at hlk ⊢
    split
    · rename_i c; rw [if_pos c, zmr (hp j hj).1] at hlk; cases hlk
    · rfl
  refine ⟨fun s j hj => ?_, fun s i t j hi hj a1 a2 a3 a4 => ?_, fun s i hi a1 a2 => ?_⟩
  · rw [he s j hj]
    split
    · rename_i c; rw [c]; exact .inr ⟨hg, hl, .inl (hp j hj)⟩
    · exact h.k s j hj
  · have e1 := key s i hi a1
    have e2 := key t j hj a2
    rw [e1] at a1 a3 a4; rw [e2] at a2 a3
    exact h.u s i t j hi hj a1 a2 a3 a4
  · have e1 := key s i hi a1
    rw [e1] at a1 a2; exact h.s s i hi a1 a2
def zhe (sz : Int) (xs : List (Int × Int)) (t i l : Int) (q : Pte) (g : Int) : List (Int × Int) := zbv sz (zer xs g (fun j => PteC.zcc (prt q l j)) 512) t i (lnk g)
section
variable {cd cp sz f sh : Int} {xs : List (Int × Int)} {lv : Int → Int}
theorem zlh {sz s i : Int} {xs : List (Int × Int)} (hu : Uw xs) : zf7 (atM sz xs s i) = true := zuf _ (zg8 hu _ _).1 (zg8 hu _ _).2
theorem zd8 (h : TI cd cp sz xs f sh lv) (h0 : f ≠ 0) : (∀ s, Al cd cp f s → Al cd cp (zb9 f (tzI f) 1 0) s ∧ s ≠ cd + tzI f) ∧ Al cd cp (zb9 f (tzI f) 1 0) (cd + tzI f) ∧ (0 ≤ tzI f ∧ tzI f < cp) ∧ (0 ≤ zb9 f (tzI f) 1 0 ∧ zb9 f (tzI f) 1 0 < 2 ^ cp.toNat) := by
  have hb := h.bp
  obtain ⟨a1, a2⟩ := h.gm.al h0
  have t1 := zd2 h.uf h.bf.2 h0
  exact ⟨fun s hs => ⟨(h.gm.take h0 hs).2, (h.gm.take h0 hs).1⟩, a1, a2, ⟨(zfw _ _ _ _).1, zha h.uf h.bf.2 t1.1 (by omega)⟩⟩
theorem zve (h : TI cd cp sz xs f sh lv) (h0 : f ≠ 0) {t i l : Int} {q : Pte} (ht : Al cd cp f t) (hi : 0 ≤ i ∧ i < 512) (hl : 1 ≤ l ∧ l ≤ 2) (hq : q = atM sz xs t i) (h1 : zbr q = true) (h2 : zej q l = false) (s j : Int) (hj : 0 ≤ j ∧ j < 512) :
    atM sz (zhe sz xs t i l q (cd + tzI f)) s j = if s = t ∧ j = i then lnk (cd + tzI f) else if s = cd + tzI f then prt q l j else atM sz xs s j := by
  obtain ⟨a0, a1, a2, a3⟩ := zd8 h h0
  have b1 := h.bd
  have b2 := h.bp
  have bz := h.bz
  have bt := ht.1
  have hU : q.U := by rw [hq]; exact zgw h.u _ _ _
  have hm : zf7 q = true := by rw [hq]; exact zlh h.u
  have hn : 0 ≤ cd + tzI f ∧ cd + tzI f < 17592186044416 := by omega
  have hrow := fun s j hj => z2x (sz := sz) (v := fun j => PteC.zcc (prt q l j)) h.s (show (cd + tzI f) * 4096 + 4096 ≤ sz by omega) s j hj
  have hpr : ∀ j, (0 ≤ j ∧ j < 512) → zbb (PteC.zcc (prt q l ((j.toNat : Nat) : Int))) = prt q l j := fun j hj => by
    obtain ⟨f1, f2, _, _⟩ := zdf hU hm hl h1 h2 hj
    rw [show ((j.toNat : Nat) : Int) = j by omega]
    exact zrn f1 f2
  unfold zhe
  rw [zen (zgx hn) (by omega) hi (by omega)]
  by_cases hd : s * 4096 + j * 8 < sz
  · rw [zoa (zge h.s 512) hi hj hd, hrow s j hj, zi1 hn, hpr j hj]
  · have hs1 : ¬ (s = t ∧ j = i) := by rintro ⟨rfl, rfl⟩; omega
    have hs2 : s ≠ cd + tzI f := by rintro rfl; omega
    rw [if_neg hs1, if_neg hs2]
    unfold atM zcj
    rw [if_neg hd, if_neg hd]
theorem zro (h : TI cd cp sz xs f sh lv) (h0 : f ≠ 0) {t i l : Int} {q : Pte} (ht : Al cd cp f t) (hsh : Al cd cp f sh) (hi : 0 ≤ i ∧ i < 512) (hlv : lv t = l) (hl : 1 ≤ l ∧ l ≤ 2) (hq : q = atM sz xs t i) (h1 : zbr q = true) (h2 : zej q l = false) :
    TI cd cp sz (zhe sz xs t i l q (cd + tzI f)) (zb9 f (tzI f) 1 0) sh (upL lv (cd + tzI f) (l - 1)) := by
  obtain ⟨a0, a1, a2, a3⟩ := zd8 h h0
  have b1 := h.bd
  have b2 := h.bp
  have bz := h.bz
  have bt := ht.1
  have hU : q.U := by rw [hq]; exact zgw h.u _ _ _
  have hm : zf7 q = true := by rw [hq]; exact zlh h.u
  have hn : 0 ≤ cd + tzI f ∧ cd + tzI f < 17592186044416 := by omega
  have hw : zhe sz xs t i l q (cd + tzI f) = zcy (zer xs (cd + tzI f) (fun j => PteC.zcc (prt q l j)) 512) (t * 512 + i) (PteC.zcc (lnk (cd + tzI f))) := by
    unfold zhe
    rw [zen (zgx hn) (by omega) hi (by omega)]
  refine ⟨h.bd, h.bp, h.bz, a3, ?_, fun c hc => ?_, ?_⟩
  · rw [hw]; exact ze5 _ _ _ (zge h.s 512)
  · rw [hw] at hc
    rcases zd0 _ _ _ _ hc with hc | ⟨rfl, hv⟩
    · rcases zms _ _ hc with hc | ⟨j, hj, rfl, hv⟩
      · exact h.r c hc
      · obtain ⟨f1, f2, _, _⟩ := zdf hU hm hl h1 h2 (i := (j : Int)) (by omega)
        exact ⟨⟨by show cd * 512 ≤ (cd + tzI f) * 512 + j; omega, by show (cd + tzI f) * 512 + j < (cd + cp) * 512; omega⟩, zf9 _ f1, hv⟩
    · exact ⟨⟨by show cd * 512 ≤ t * 512 + i; omega, by show t * 512 + i < (cd + cp) * 512; omega⟩, zf9 _ (zgx hn), hv⟩
  · have hgt : cd + tzI f ≠ t := fun e => (a0 _ ht).2 e.symm
    have E1 := h.e.link (E' := fun s j => if s = t ∧ j = i then lnk (cd + tzI f) else atM sz xs s j) (g := cd + tzI f) a0 a1 ht (by omega) hi hsh (by rw [← hq]; exact zmr h1) (fun s j _ => rfl)
    rw [hlv] at E1
    have hlg : upL lv (cd + tzI f) (l - 1) (cd + tzI f) = l - 1 := if_pos rfl
    refine TE.row E1 (g := cd + tzI f) (p := fun j => prt q l j) a1 (by rw [hlg]; omega) (fun j hj => ?_) (fun s j hj => ?_)
    · obtain ⟨_, _, f3, f4⟩ := zdf hU hm hl h1 h2 hj
      rw [hlg]; exact ⟨f3, f4⟩
    · rw [zve h h0 ht hi hl hq h1 h2 s j hj]
      by_cases c : s = t ∧ j = i
      · rw [if_pos c, if_neg (by rw [c.1]; exact fun e => hgt e.symm), if_pos c]
      · rw [if_neg c]
        by_cases d : s = cd + tzI f
        · rw [if_pos d, if_pos d]
        · rw [if_neg d, if_neg d, if_neg c]
theorem zp3 (sz : Int) (xs : List (Int × Int)) (t i l : Int) (q : Pte) (g : Int) : (zhe sz xs t i l q g).length ≤ xs.length + 513 := by
  unfold zhe
  have := zgs sz (zer xs g (fun j => PteC.zcc (prt q l j)) 512) t i (lnk g)
  have := zid xs g (fun j => PteC.zcc (prt q l j)) 512
  omega
theorem zda (h : TI cd cp sz xs f sh lv) (addr zaz : Int) (hw : 0 ≤ zaz) : ∀ (l : Nat) (t : Int), Al cd cp f t → lv t = l → zaz ≤ (l : Int) →
    ∃ (l' : Nat) (t' : Int), za3 sz xs addr zaz l t = (t', (l' : Int)) ∧ l' ≤ l ∧ zaz ≤ (l' : Int) ∧ Al cd cp f t' ∧ lv t' = (l' : Int) ∧ (zaz < (l' : Int) → zbq (atM sz xs t' (idx addr (l' : Int))) (l' : Int) = false) ∧
      (∀ xs', (∀ s i, Al cd cp f s → (0 ≤ i ∧ i < 512) → zbu (atM sz xs s i) = true → atM sz xs' s i = atM sz xs s i) → za3 sz xs' addr zaz l t = za3 sz xs' addr zaz l' t')
  | 0, t, ht, hl, hwl => ⟨0, t, rfl, Nat.le_refl _, hwl, ht, hl, fun hh => by omega, fun _ _ => rfl⟩
  | l + 1, t, ht, hl, hwl => by
    have hi := idx_bd addr ((l + 1 : Nat) : Int)
    have hk := EOk.kinds (h.gm.at t (idx addr ((l + 1 : Nat) : Int))) (l := ((l + 1 : Nat) : Int)) (by omega)
    by_cases c1 : zaz < ((l + 1 : Nat) : Int)
    · rcases hk with ⟨_, _, k3⟩ | ⟨_, _, k3⟩ | ⟨k1, k2, k3, k4, k5⟩
      · exact ⟨l + 1, t, zbz (fun _ => k3) hw, Nat.le_refl _, hwl, ht, hl, fun _ => k3, fun _ _ => rfl⟩
      · exact ⟨l + 1, t, zbz (fun _ => k3) hw, Nat.le_refl _, hwl, ht, hl, fun _ => k3, fun _ _ => rfl⟩
      · have hlk : lv (atM sz xs t (idx addr ((l + 1 : Nat) : Int))).ppn = (l : Int) := by
          rcases h.e.k t _ hi with e | ⟨_, _, ⟨c, _⟩ | ⟨_, _, c, _⟩⟩
          · rw [e] at k1; cases k1
          · rw [k2] at c; cases c
          · rw [c, hl]; omega
        obtain ⟨l', t', i1, i2, i3, i4, i5, i6, i7⟩ := zda h addr zaz hw l _ k5 hlk (by omega)
        refine ⟨l', t', (zcw c1 k3).trans i1, by omega, i3, i4, i5, i6, fun xs' hx => ?_⟩
        have e := hx t _ ht hi k4
        rw [zcw c1 (by rw [e]; exact k3), e]
        exact i7 xs' hx
    · exact ⟨l + 1, t, zbz (fun hh => absurd hh c1) hw, Nat.le_refl _, hwl, ht, hl, fun hh => absurd hh c1, fun _ _ => rfl⟩
end
def toN (sz cd addr zaz top : Int) (lv : Nat) : Nat → List (Int × Int) → Int → List (Int × Int) × Int × (Int × Int) × Int
  | 0, xs, f => (xs, f, za3 sz xs addr zaz lv top, 0)
  | n + 1, xs, f =>
    if (za3 sz xs addr zaz lv top).2 = zaz ∨ zbr (atM sz xs (za3 sz xs addr zaz lv top).1 (idx addr (za3 sz xs addr zaz lv top).2)) = false then (xs, f, za3 sz xs addr zaz lv top, 0)
    else if f = 0 then (xs, f, za3 sz xs addr zaz lv top, 8)
    else toN sz cd addr zaz top lv n (zhe sz xs (za3 sz xs addr zaz lv top).1 (idx addr (za3 sz xs addr zaz lv top).2) (za3 sz xs addr zaz lv top).2 (atM sz xs (za3 sz xs addr zaz lv top).1 (idx addr (za3 sz xs addr zaz lv top).2)) (cd + tzI f)) (zb9 f (tzI f) 1 0)
section
variable {cd cp sz f sh : Int} {xs : List (Int × Int)} {lv : Int → Int}
theorem zka (h : TI cd cp sz xs f sh lv) (h0 : f ≠ 0) (addr zaz : Int) (hw : 0 ≤ zaz) {l : Nat} {t : Int} (ht : Al cd cp f t) (hlv : lv t = (l + 1 : Nat)) (hl : l + 1 ≤ 2) (hlt : zaz < ((l + 1 : Nat) : Int)) (h1 : zbr (atM sz xs t (idx addr ((l + 1 : Nat) : Int))) = true) (h2 : zej (atM sz xs t (idx addr ((l + 1 : Nat) : Int))) ((l + 1 : Nat) : Int) = false) :
    (∀ s i, Al cd cp f s → (0 ≤ i ∧ i < 512) → zbu (atM sz xs s i) = true → atM sz (zhe sz xs t (idx addr ((l + 1 : Nat) : Int)) ((l + 1 : Nat) : Int) (atM sz xs t (idx addr ((l + 1 : Nat) : Int))) (cd + tzI f)) s i = atM sz xs s i) ∧
    za3 sz (zhe sz xs t (idx addr ((l + 1 : Nat) : Int)) ((l + 1 : Nat) : Int) (atM sz xs t (idx addr ((l + 1 : Nat) : Int))) (cd + tzI f)) addr zaz (l + 1) t = (cd + tzI f, (l : Int)) := by
  obtain ⟨a0, a1, a2, a3⟩ := zd8 h h0
  have hi := idx_bd addr ((l + 1 : Nat) : Int)
  have hi2 := idx_bd addr (l : Int)
  have hgt : cd + tzI f ≠ t := fun e => (a0 _ ht).2 e.symm
  have hat := fun s j hj => zve h h0 ht hi (l := ((l + 1 : Nat) : Int)) (by omega) rfl h1 h2 s j hj
  refine ⟨fun s i hs hj hlk => ?_, ?_⟩
  · rw [hat s i hj, if_neg, if_neg (a0 s hs).2]
    rintro ⟨rfl, rfl⟩
    rw [(zcq h1).1] at hlk; cases hlk
  · have e1 := hat t _ hi
    rw [if_pos ⟨rfl, rfl⟩] at e1
    rw [zcw hlt (by rw [e1]; exact zfu rfl (by omega)), e1]
    show za3 _ _ _ _ l (cd + tzI f) = _
    refine zbz (fun _ => ?_) hw
    have e2 := hat (cd + tzI f) _ hi2
    rw [if_neg (by rintro ⟨c, _⟩; exact hgt c), if_pos rfl] at e2
    rw [e2]
    have h3 : zbr (prt (atM sz xs t (idx addr ((l + 1 : Nat) : Int))) ((l + 1 : Nat) : Int) (idx addr (l : Int))) = true := h1
    exact zmn (zcq h3).1
end
end Go.Proofs.YtmkjfeamgknpfaaGreatDoor.LiB
namespace Go.Proofs.YtmkjfeamgknpfaaGreatDoor.LiC
open Go.RowKit Bv VaSpec Base MemL RegR Ax MemC PutC MemC3 TzC OkS SpA SpB SpC SpD SpF SpH SpI SpJ SpN SpO RfP RfQ LaA LaB LaC LaD LaE LaF LaG LiA LiB
open BitsC PteSpec
set_option maxRecDepth 10000
set_option maxHeartbeats 1000000
def zdl (xs : List (Int × Int)) (g : Int) : Bool := !(xs.any fun c => decide (c.1 / 512 = g))
theorem zmt {cd cp f g : Int} (hb : 1 ≤ cp ∧ cp ≤ 64) (hf : 0 ≤ f ∧ f < 2 ^ cp.toNat) : 0 ≤ TableC2.zdn cd cp f g ∧ TableC2.zdn cd cp f g < 2 ^ cp.toNat := by
  have hu : U f := zia hf.1 hf.2 (by omega)
  unfold TableC2.zdn
  split
  · rename_i h
    unfold PoolC.isP PoolC.inP at h
    simp only [Bool.and_eq_true, decide_eq_true_eq] at h
    exact ⟨(zfw _ _ _ _).1, zha hu hf.2 (by omega) (by omega)⟩
  · exact hf
theorem zvf {cd cp f g s : Int} (hb : 1 ≤ cp ∧ cp ≤ 64) (hf : 0 ≤ f ∧ f < 2 ^ cp.toNat) : Al cd cp (TableC2.zdn cd cp f g) s ↔ Al cd cp f s ∧ s ≠ g := by
  have hu : U f := zia hf.1 hf.2 (by omega)
  unfold TableC2.zdn
  split
  · rename_i h
    unfold PoolC.isP PoolC.inP at h
    simp only [Bool.and_eq_true, decide_eq_true_eq] at h
    obtain ⟨⟨h1, h2⟩, _⟩ := h
    constructor
    · rintro ⟨a, b⟩
      rw [zhb hu (by omega) (by omega) (by omega) (by omega)] at b
      split at b
      · cases b
      · rename_i c
        exact ⟨⟨a, b⟩, fun e => c (by rw [e])⟩
    · rintro ⟨⟨a, b⟩, c⟩
      refine ⟨a, ?_⟩
      rw [zhb hu (by omega) (by omega) (by omega) (by omega), if_neg (by omega)]
      exact b
  · rename_i h
    constructor
    · intro a
      refine ⟨a, fun e => h ?_⟩
      subst e
      obtain ⟨⟨a1, a2⟩, a3⟩ := a
      unfold PoolC.isP PoolC.inP
      rw [decide_eq_true (by omega), decide_eq_true (by omega), zrg _ _ (by omega), a3]; rfl
    · exact fun a => a.1
def bkN (cd cp : Int) : List Int → List (Int × Int) × Int → List (Int × Int) × Int
  | [], p => p
  | g :: l, p => bkN cd cp l (TableC.zbf p.1 g, TableC2.zdn cd cp p.2 g)
structure BkP (cd cp sz : Int) (l : List Int) (p q : List (Int × Int) × Int) : Prop where
  s : Srt q.1
  m : ∀ c ∈ q.1, c ∈ p.1
  f : 0 ≤ q.2 ∧ q.2 < 2 ^ cp.toNat
  a : ∀ s, Al cd cp q.2 s ↔ Al cd cp p.2 s ∧ s ∉ l
  e : ∀ s j, (0 ≤ j ∧ j < 512) → atM sz q.1 s j = if s ∈ l then zP else atM sz p.1 s j
  n : q.1.length ≤ p.1.length
theorem zhs (cd cp sz : Int) (hb : 1 ≤ cp ∧ cp ≤ 64) : ∀ (l : List Int) (p : List (Int × Int) × Int), Srt p.1 → (0 ≤ p.2 ∧ p.2 < 2 ^ cp.toNat) → BkP cd cp sz l p (bkN cd cp l p)
  | [], p, hs, hf => ⟨hs, fun c h => h, hf, fun s => by simp [bkN], fun s j hj => by simp [bkN], Nat.le_refl _⟩
  | g :: l, p, hs, hf => by
    have IH := zhs cd cp sz hb l (TableC.zbf p.1 g, TableC2.zdn cd cp p.2 g) (zc9 _ hs) (zmt hb hf)
    refine ⟨IH.s, fun c hc => ze6 (IH.m c hc), IH.f, fun s => ?_, fun s j hj => ?_, Nat.le_trans IH.n (zd1 _ _)⟩
    · have e := IH.a s
      have e2 : Al cd cp (TableC2.zdn cd cp p.2 g) s ↔ Al cd cp p.2 s ∧ s ≠ g := zvf hb hf
      show Al cd cp (bkN cd cp l (TableC.zbf p.1 g, TableC2.zdn cd cp p.2 g)).2 s ↔ _
      rw [e]
      show Al cd cp (TableC2.zdn cd cp p.2 g) s ∧ s ∉ l ↔ _
      rw [e2, List.mem_cons]
      constructor
      · rintro ⟨⟨a, b⟩, c⟩; exact ⟨a, fun h => h.elim b c⟩
      · rintro ⟨a, b⟩; exact ⟨⟨a, fun h => b (.inl h)⟩, fun h => b (.inr h)⟩
    · show atM sz (bkN cd cp l (TableC.zbf p.1 g, TableC2.zdn cd cp p.2 g)).1 s j = _
      rw [IH.e s j hj]
      show (if s ∈ l then zP else atM sz (TableC.zbf p.1 g) s j) = _
      rw [zp2 hs g s j hj]
      by_cases c : s ∈ l
      · rw [if_pos c, if_pos (List.mem_cons_of_mem _ c)]
      · rw [if_neg c]
        by_cases d : s = g
        · rw [if_pos d, if_pos (by rw [d]; exact List.mem_cons_self ..)]
        · rw [if_neg d, if_neg (by rw [List.mem_cons]; exact fun h => h.elim d c)]
def frN (sz : Int) (xs : List (Int × Int)) : Nat → Int → List Int
  | 0, t => [t]
  | l + 1, t => t :: (List.range 512).flatMap fun (i : Nat) => if zbq (atM sz xs t i) ((l + 1 : Nat) : Int) then frN sz xs l (atM sz xs t i).ppn else []
section
variable {cd cp sz f sh : Int} {xs : List (Int × Int)} {lv : Int → Int}
theorem zyx (h : TI cd cp sz xs f sh lv) {xs' : List (Int × Int)} {f' : Int} (hs : Srt xs') (hm : ∀ c ∈ xs', c ∈ xs) (hf : 0 ≤ f' ∧ f' < 2 ^ cp.toNat) (ha : ∀ s j, (0 ≤ j ∧ j < 512) → atM sz xs' s j = zP ∨ atM sz xs' s j = atM sz xs s j)
    (h1 : ∀ s j, (0 ≤ j ∧ j < 512) → atM sz xs' s j ≠ zP → Al cd cp f' s) (h2 : ∀ s j, (0 ≤ j ∧ j < 512) → lkP (atM sz xs' s j) = true → Al cd cp f' (atM sz xs' s j).ppn) : TI cd cp sz xs' f' sh lv :=
  ⟨h.bd, h.bp, h.bz, hf, hs, fun c hc => h.r c (hm c hc), (h.e.sub ha).fr h1 h2⟩
theorem zp4 (h : TI cd cp sz xs f sh lv) {s i : Int} (hi : 0 ≤ i ∧ i < 512) {l : Int} (hl : zbq (atM sz xs s i) l = true) : lkP (atM sz xs s i) = true ∧ Al cd cp f s ∧ (1 ≤ lv s ∧ lv s ≤ 2) ∧ lv (atM sz xs s i).ppn = lv s - 1 ∧ Al cd cp f (atM sz xs s i).ppn := by
  rcases h.e.k s i hi with e | ⟨a, b, ⟨c, _⟩ | ⟨c1, c2, c3, c4⟩⟩
  · rw [e] at hl; cases hl
  · rw [zmn (zcq c).1] at hl; cases hl
  · exact ⟨c1, a, ⟨c2, b.2⟩, c3, c4⟩
theorem zod (h : TI cd cp sz xs f sh lv) {s i : Int} (hi : 0 ≤ i ∧ i < 512) (hl : lkP (atM sz xs s i) = true) : Al cd cp f s ∧ (1 ≤ lv s ∧ lv s ≤ 2) ∧ lv (atM sz xs s i).ppn = lv s - 1 ∧ Al cd cp f (atM sz xs s i).ppn := (zp4 h hi (zfu hl (Int.le_refl 1))).2
theorem zi3 (h : TI cd cp sz xs f sh lv) : ∀ (l : Nat) (t : Int), Al cd cp f t → lv t = l → ∀ g ∈ frN sz xs l t, Al cd cp f g ∧ (0 ≤ lv g ∧ lv g ≤ l) ∧ (g = t ∨ ∃ s ∈ frN sz xs l t, ∃ j, (0 ≤ j ∧ j < 512) ∧ lkP (atM sz xs s j) = true ∧ (atM sz xs s j).ppn = g ∧ lv s ≤ l)
  | 0, t, ht, hl, g, hg => by
    have e : g = t := by simpa [frN] using hg
    subst e
    exact ⟨ht, by omega, .inl rfl⟩
  | l + 1, t, ht, hl, g, hg => by
    simp only [frN, List.mem_cons] at hg
    rcases hg with rfl | hg
    · exact ⟨ht, by omega, .inl rfl⟩
    · obtain ⟨i, hi, hg⟩ := List.mem_flatMap.1 hg
      have hi := List.mem_range.1 hi
      split at hg
      · rename_i hlk
        obtain ⟨k1, k2, k3, k4, k5⟩ := zp4 h (by omega) hlk
        obtain ⟨r1, r2, r3⟩ := zi3 h l _ k5 (by rw [k4, hl]; omega) g hg
        have mem : ∀ s, s ∈ frN sz xs l (atM sz xs t i).ppn → s ∈ frN sz xs (l + 1) t := fun s hs => by
          simp only [frN, List.mem_cons]
          exact .inr (List.mem_flatMap.2 ⟨i, List.mem_range.2 hi, by rw [if_pos hlk]; exact hs⟩)
        refine ⟨r1, by omega, .inr ?_⟩
        rcases r3 with rfl | ⟨s, hs, j, q1, q2, q3, q4⟩
        · exact ⟨t, by simp [frN], i, by omega, k1, rfl, by omega⟩
        · exact ⟨s, mem s hs, j, q1, q2, q3, by omega⟩
      · cases hg
theorem zvg (hs : Srt xs) (hz : sz = (cd + cp) * 4096) {t i : Int} (ht : 0 ≤ t ∧ t < cd + cp) (hi : 0 ≤ i ∧ i < 512) (s j : Int) (hj : 0 ≤ j ∧ j < 512) : atM sz (zcy xs (t * 512 + i) 0) s j = if s = t ∧ j = i then zP else atM sz xs s j := by
  by_cases hd : s * 4096 + j * 8 < sz
  · rw [zoa hs hi hj hd, zvd]
  · rw [if_neg (by rintro ⟨rfl, rfl⟩; omega)]
    unfold atM zcj
    rw [if_neg hd, if_neg hd]
theorem z0t (h : TI cd cp sz xs f sh lv) {t i : Int} {l : Nat} (ht : Al cd cp f t) (hlv : lv t = (l + 1 : Nat)) (hl : l + 1 ≤ 2) (hi : 0 ≤ i ∧ i < 512) (hH : ¬ (l + 1 = 2 ∧ i = 511)) (hq : lkP (atM sz xs t i) = true) :
    TI cd cp sz (zcy (bkN cd cp (frN sz xs l (atM sz xs t i).ppn) (xs, f)).1 (t * 512 + i) 0) (bkN cd cp (frN sz xs l (atM sz xs t i).ppn) (xs, f)).2 sh lv ∧
    (∀ s, Al cd cp f s → (s = sh ∨ (l : Int) < lv s) → Al cd cp (bkN cd cp (frN sz xs l (atM sz xs t i).ppn) (xs, f)).2 s) := by
  have hb := zhs cd cp sz h.bp (frN sz xs l (atM sz xs t i).ppn) (xs, f) h.s h.bf
  obtain ⟨k1, k2, k3, k4⟩ := zod h hi hq
  have hfr := zi3 h l _ k4 (by rw [k3, hlv]; omega)
  have hrs : (atM sz xs t i).ppn ≠ sh := fun e => by
    obtain ⟨a, b⟩ := h.e.s t i hi hq e
    exact hH ⟨by omega, a⟩
  have hgs : ∀ g ∈ frN sz xs l (atM sz xs t i).ppn, g ≠ sh := fun g hg e => by
    obtain ⟨_, _, r⟩ := hfr g hg
    rcases r with r | ⟨s, hs, j, q1, q2, q3, q4⟩
    · exact hrs (r.symm.trans e)
    · obtain ⟨_, b⟩ := h.e.s s j q1 q2 (q3.trans e)
      omega
  have hbt := ht.1
  have hcd := h.bd
  have hat := fun s j hj => zvg (cd := cd) (cp := cp) (t := t) (i := i) (sz := sz) hb.s h.bz (by omega) hi s j hj
  generalize hF : frN sz xs l (atM sz xs t i).ppn = F at *
  generalize bkN cd cp F (xs, f) = r at *
  have hmem : ∀ s j, (0 ≤ j ∧ j < 512) → atM sz (zcy r.1 (t * 512 + i) 0) s j ≠ zP → s ∉ F ∧ ¬ (s = t ∧ j = i) ∧ atM sz (zcy r.1 (t * 512 + i) 0) s j = atM sz xs s j := fun s j hj hne => by
    rw [hat s j hj] at hne ⊢
    by_cases c : s = t ∧ j = i
    · rw [if_pos c] at hne; exact absurd rfl hne
    · rw [if_neg c] at hne ⊢
      rw [hb.e s j hj] at hne ⊢
      by_cases d : s ∈ F
      · rw [if_pos d] at hne; exact absurd rfl hne
      · rw [if_neg d]; exact ⟨d, c, rfl⟩
  refine ⟨zyx h (ze5 _ _ _ hb.s) (fun c hc => ?_) hb.f (fun s j hj => ?_) (fun s j hj hne => ?_) (fun s j hj hlk => ?_), fun s hs hk => ?_⟩
  · rcases zd0 _ _ _ _ hc with hc | ⟨_, hv⟩
    · exact hb.m c hc
    · exact absurd rfl hv
  · by_cases c : atM sz (zcy r.1 (t * 512 + i) 0) s j = zP
    · exact .inl c
    · exact .inr (hmem s j hj c).2.2
  · obtain ⟨a, _, c⟩ := hmem s j hj hne
    refine (hb.a s).2 ⟨?_, a⟩
    rcases h.e.k s j hj with e | ⟨k, _⟩
    · rw [c] at hne; exact absurd e hne
    · exact k
  · have hne : atM sz (zcy r.1 (t * 512 + i) 0) s j ≠ zP := fun e => by rw [e] at hlk; cases hlk
    obtain ⟨a, b, c⟩ := hmem s j hj hne
    rw [c] at hlk ⊢
    obtain ⟨_, _, _, k⟩ := zod h hj hlk
    refine (hb.a _).2 ⟨k, fun hin => ?_⟩
    obtain ⟨_, _, r3⟩ := hfr _ hin
    rcases r3 with e | ⟨s', hs', j', q1, q2, q3, q4⟩
    · exact b (h.e.u s j t i hj hi hlk hq e (by rw [e]; exact hrs))
    · obtain ⟨e1, e2⟩ := h.e.u s j s' j' hj q1 hlk q2 q3.symm (fun e => by
        obtain ⟨_, b⟩ := h.e.s s' j' q1 q2 (q3.trans e)
        omega)
      exact a (e1 ▸ hs')
  · refine (hb.a s).2 ⟨hs, fun hin => ?_⟩
    rcases hk with e | hk
    · exact hgs s hin e
    · have := (hfr s hin).2.1; omega
def prN (sz cd cp addr : Int) : Nat → Int → List (Int × Int) × Int → List (Int × Int) × Int
  | 0, _, p => p
  | l + 1, t, p =>
    if zbq (atM sz p.1 t (idx addr ((l + 1 : Nat) : Int))) ((l + 1 : Nat) : Int) then
      if zdl (prN sz cd cp addr l (atM sz p.1 t (idx addr ((l + 1 : Nat) : Int))).ppn p).1 (atM sz p.1 t (idx addr ((l + 1 : Nat) : Int))).ppn then
        (zbv sz (TableC.zbf (prN sz cd cp addr l (atM sz p.1 t (idx addr ((l + 1 : Nat) : Int))).ppn p).1 (atM sz p.1 t (idx addr ((l + 1 : Nat) : Int))).ppn) t (idx addr ((l + 1 : Nat) : Int)) zP,
         TableC2.zdn cd cp (prN sz cd cp addr l (atM sz p.1 t (idx addr ((l + 1 : Nat) : Int))).ppn p).2 (atM sz p.1 t (idx addr ((l + 1 : Nat) : Int))).ppn)
      else prN sz cd cp addr l (atM sz p.1 t (idx addr ((l + 1 : Nat) : Int))).ppn p
    else p
theorem zrp (h : TI cd cp sz xs f sh lv) {g : Int} (hg : cd ≤ g ∧ g < cd + cp) : (zdl xs g = true → ∀ j, (0 ≤ j ∧ j < 512) → zcj sz xs (g * 4096 + j * 8) = 0) ∧ (zdl xs g = false → ∃ j, (0 ≤ j ∧ j < 512) ∧ zcj sz xs (g * 4096 + j * 8) ≠ 0) := by
  have hz := h.bz
  constructor
  · intro he j hj
    unfold zcj
    split
    · refine zj5 fun c hc e => ?_
      unfold zdl at he
      rw [Bool.not_eq_true'] at he
      have := List.any_eq_false.1 he c hc
      simp only [decide_eq_true_eq] at this
      omega
    · rfl
  · intro he
    unfold zdl at he
    rw [Bool.not_eq_false'] at he
    obtain ⟨c, hc, e⟩ := List.any_eq_true.1 he
    rw [decide_eq_true_eq] at e
    obtain ⟨⟨r1, r2⟩, r3, r4⟩ := h.r c hc
    refine ⟨c.1 % 512, by omega, ?_⟩
    unfold zcj
    rw [if_pos (by omega), show (g * 4096 + c.1 % 512 * 8) / 8 = c.1 by omega, look_mem h.s hc]
    exact r4
structure PrP (cd cp sz f sh : Int) (xs : List (Int × Int)) (lv : Int → Int) (l : Nat) (q : List (Int × Int) × Int) : Prop where
  t : TI cd cp sz q.1 q.2 sh lv
  m : ∀ c ∈ q.1, c ∈ xs
  n : q.1.length ≤ xs.length
  a : ∀ s, Al cd cp f s → (s = sh ∨ (l : Int) ≤ lv s) → Al cd cp q.2 s
  b : ∀ s, Al cd cp q.2 s → Al cd cp f s
  e : ∀ s j, (0 ≤ j ∧ j < 512) → atM sz q.1 s j = zP ∨ atM sz q.1 s j = atM sz xs s j
  u : ∀ s j, (0 ≤ j ∧ j < 512) → Al cd cp f s → (l : Int) < lv s → atM sz q.1 s j = atM sz xs s j
theorem zht (addr : Int) (h : TI cd cp sz xs f sh lv) : ∀ (l : Nat) (t : Int), l ≤ 2 → Al cd cp f t → lv t = l → (2 ≤ l → idx addr 2 ≠ 511) → PrP cd cp sz f sh xs lv l (prN sz cd cp addr l t (xs, f))
  | 0, t, _, ht, hl, _ => ⟨h, fun c hc => hc, Nat.le_refl _, fun s hs _ => hs, fun s hs => hs, fun s j _ => .inr rfl, fun s j _ _ _ => rfl⟩
  | l + 1, t, h2, ht, hl, hH => by
    have hi := idx_bd addr ((l + 1 : Nat) : Int)
    unfold prN
    split
    rotate_left
    · exact ⟨h, fun c hc => hc, Nat.le_refl _, fun s hs _ => hs, fun s hs => hs, fun s j _ => .inr rfl, fun s j _ _ _ => rfl⟩
    rename_i hlk
    have hlk : zbq (atM sz xs t (idx addr ((l + 1 : Nat) : Int))) ((l + 1 : Nat) : Int) = true := hlk
    obtain ⟨k1, k2, k3, k4, k5⟩ := zp4 h hi hlk
    have hls : lv (atM sz xs t (idx addr ((l + 1 : Nat) : Int))).ppn = (l : Int) := by rw [k4, hl]; omega
    have P := zht addr h l _ (by omega) k5 hls (fun hh => by omega)
    have hgs : (atM sz xs t (idx addr ((l + 1 : Nat) : Int))).ppn ≠ sh := fun e => by
      obtain ⟨a, b⟩ := h.e.s t _ hi k1 e
      have e2 : l + 1 = 2 := by omega
      rw [show ((l + 1 : Nat) : Int) = 2 by omega] at a
      exact hH (by omega) a
    have hut := P.u t (idx addr ((l + 1 : Nat) : Int)) hi ht (by rw [hl]; omega)
    have hag := P.a _ k5 (.inr (by rw [hls]; omega))
    have hat := P.a t ht (.inr (by rw [hl]; omega))
    show PrP cd cp sz f sh xs lv (l + 1) (if zdl (prN sz cd cp addr l (atM sz xs t (idx addr ((l + 1 : Nat) : Int))).ppn (xs, f)).1 (atM sz xs t (idx addr ((l + 1 : Nat) : Int))).ppn = true then _ else prN sz cd cp addr l (atM sz xs t (idx addr ((l + 1 : Nat) : Int))).ppn (xs, f))
    generalize prN sz cd cp addr l (atM sz xs t (idx addr ((l + 1 : Nat) : Int))).ppn (xs, f) = r at *
    generalize idx addr ((l + 1 : Nat) : Int) = i at *
    split
    rotate_left
    · exact ⟨P.t, P.m, P.n, fun s hs hk => P.a s hs (by omega), P.b, P.e, fun s j hj hs hk => P.u s j hj hs (by omega)⟩
    rename_i hem
    have hT := P.t
    have hbt := ht.1
    have hcd := h.bd
    have hw := hT.gm.wipe
    have hz := (zrp hT hag.1).1 hem
    have hzp : ∀ j, (0 ≤ j ∧ j < 512) → atM sz r.1 (atM sz xs t i).ppn j = zP := fun j hj => by unfold atM; rw [show zcj sz r.1 ((zbb (zcj sz xs (t * 4096 + i * 8))).ppn * 4096 + j * 8) = 0 from hz j hj, zvd]
    have hwi : zbv sz (TableC.zbf r.1 (atM sz xs t i).ppn) t i zP = zcy (TableC.zbf r.1 (atM sz xs t i).ppn) (t * 512 + i) 0 := by
      rw [zen zyr (by omega) hi (by rw [h.bz]; omega), zyv]
    show PrP cd cp sz f sh xs lv (l + 1) (zbv sz (TableC.zbf r.1 (atM sz xs t i).ppn) t i zP, TableC2.zdn cd cp r.2 (atM sz xs t i).ppn)
    rw [hwi]
    have hA := fun s => zvf (cd := cd) (g := (atM sz xs t i).ppn) (s := s) h.bp hT.bf
    have hE : ∀ s j, (0 ≤ j ∧ j < 512) → atM sz (zcy (TableC.zbf r.1 (atM sz xs t i).ppn) (t * 512 + i) 0) s j = if s = t ∧ j = i then zP else atM sz r.1 s j := fun s j hj => by
      rw [zvg (cd := cd) (cp := cp) (zc9 _ hT.s) h.bz (by omega) hi s j hj, zp2 hT.s _ s j hj]
      split
      · rfl
      · split
        · rename_i e; rw [e, hzp j hj]
        · rfl
    generalize hg : (atM sz xs t i).ppn = g at *
    have hsub : ∀ s j, (0 ≤ j ∧ j < 512) → atM sz (zcy (TableC.zbf r.1 g) (t * 512 + i) 0) s j ≠ zP → ¬ (s = t ∧ j = i) ∧ s ≠ g ∧ atM sz (zcy (TableC.zbf r.1 g) (t * 512 + i) 0) s j = atM sz r.1 s j := fun s j hj hne => by
      rw [hE s j hj] at hne ⊢
      by_cases c : s = t ∧ j = i
      · rw [if_pos c] at hne; exact absurd rfl hne
      · rw [if_neg c] at hne ⊢
        exact ⟨c, fun e => hne (by rw [e]; exact hzp j hj), rfl⟩
    have hTI : TI cd cp sz (zcy (TableC.zbf r.1 g) (t * 512 + i) 0) (TableC2.zdn cd cp r.2 g) sh lv := by
      refine zyx hT (ze5 _ _ _ (zc9 _ hT.s)) (fun c hc => ?_) (zmt h.bp hT.bf) (fun s j hj => ?_) (fun s j hj hne => ?_) (fun s j hj hl2 => ?_)
      · rcases zd0 _ _ _ _ hc with hc | ⟨_, hv⟩
        · exact ze6 hc
        · exact absurd rfl hv
      · by_cases c : atM sz (zcy (TableC.zbf r.1 g) (t * 512 + i) 0) s j = zP
        · exact .inl c
        · exact .inr (hsub s j hj c).2.2
      · obtain ⟨_, a, c⟩ := hsub s j hj hne
        refine (hA s).2 ⟨?_, a⟩
        rcases hT.e.k s j hj with e | ⟨k, _⟩
        · rw [c] at hne; exact absurd e hne
        · exact k
      · have hne : atM sz (zcy (TableC.zbf r.1 g) (t * 512 + i) 0) s j ≠ zP := fun e => by rw [e] at hl2; cases hl2
        obtain ⟨b, _, c⟩ := hsub s j hj hne
        rw [c] at hl2 ⊢
        obtain ⟨_, _, _, k⟩ := zod hT hj hl2
        refine (hA _).2 ⟨k, fun e => b ?_⟩
        exact hT.e.u s j t i hj hi hl2 (by rw [hut]; exact k1) (by rw [hut, hg]; exact e) (by rw [e]; exact hgs)
    refine ⟨hTI, fun c hc => ?_, ?_, fun s hs hk => ?_, fun s hs => P.b s ((hA s).1 hs).1, fun s j hj => ?_, fun s j hj hs hk => ?_⟩
    · rcases zd0 _ _ _ _ hc with hc | ⟨_, hv⟩
      · exact P.m c (ze6 hc)
      · exact absurd rfl hv
    · have e1 := zd1 r.1 g
      have e2 := P.n
      have e3 : (zcy (TableC.zbf r.1 g) (t * 512 + i) 0).length ≤ (TableC.zbf r.1 g).length := by
        rw [zhq _ _ (zc9 _ hT.s)]; exact List.length_filter_le ..
      show (zcy (TableC.zbf r.1 g) (t * 512 + i) 0).length ≤ _
      omega
    · refine (hA s).2 ⟨P.a s hs (by omega), fun e => ?_⟩
      rcases hk with hk | hk
      · exact hgs (e.symm.trans hk)
      · rw [e, hls] at hk; omega
    · show atM sz (zcy (TableC.zbf r.1 g) (t * 512 + i) 0) s j = zP ∨ _
      rw [hE s j hj]
      split
      · exact .inl rfl
      · exact P.e s j hj
    · show atM sz (zcy (TableC.zbf r.1 g) (t * 512 + i) 0) s j = _
      rw [hE s j hj, if_neg (by rintro ⟨rfl, _⟩; rw [hl] at hk; omega)]
      exact P.u s j hj hs (by omega)
end
end Go.Proofs.YtmkjfeamgknpfaaGreatDoor.LiC
namespace Go.Proofs.YtmkjfeamgknpfaaGreatDoor.LiD
open Go.RowKit Bv VaSpec Base MemL RegR Ax MemC PutC MemC3 TzC OkS SpA SpB SpC SpD SpF SpH SpI SpJ SpN SpO RfP RfQ LaA LaB LaC LaD LaE LaF LaG LiA LiB LiC
open BitsC PteSpec
set_option maxRecDepth 10000
set_option maxHeartbeats 1000000
theorem zli (sz : Int) (xs : List (Int × Int)) (addr : Int) (w : Nat) : ∀ (l : Nat) (t : Int), w + 1 ≤ l →
    za3 sz xs addr (w : Int) l t = if (za3 sz xs addr ((w + 1 : Nat) : Int) l t).2 = ((w + 1 : Nat) : Int) ∧ zbq (atM sz xs (za3 sz xs addr ((w + 1 : Nat) : Int) l t).1 (idx addr ((w + 1 : Nat) : Int))) ((w + 1 : Nat) : Int) = true
      then ((atM sz xs (za3 sz xs addr ((w + 1 : Nat) : Int) l t).1 (idx addr ((w + 1 : Nat) : Int))).ppn, (w : Int)) else za3 sz xs addr ((w + 1 : Nat) : Int) l t
  | 0, t, h => by omega
  | l + 1, t, h => by
    by_cases c : zbq (atM sz xs t (idx addr ((l + 1 : Nat) : Int))) ((l + 1 : Nat) : Int) = true
    · by_cases d : w = l
      · subst d
        rw [zcw (zaz := (w : Int)) (by omega) c]
        have e : za3 sz xs addr ((w + 1 : Nat) : Int) (w + 1) t = (t, ((w + 1 : Nat) : Int)) := zbz (fun hh => by omega) (by omega)
        rw [e, if_pos ⟨rfl, c⟩]
        exact zbz (fun hh => by omega) (by omega)
      · rw [zcw (zaz := (w : Int)) (by omega) c, zcw (zaz := ((w + 1 : Nat) : Int)) (by omega) c]
        exact zli sz xs addr w l _ (by omega)
    · have c : zbq (atM sz xs t (idx addr ((l + 1 : Nat) : Int))) ((l + 1 : Nat) : Int) = false := by simpa using c
      have e1 : za3 sz xs addr (w : Int) (l + 1) t = (t, ((l + 1 : Nat) : Int)) := zbz (fun _ => c) (by omega)
      have e2 : za3 sz xs addr ((w + 1 : Nat) : Int) (l + 1) t = (t, ((l + 1 : Nat) : Int)) := zbz (fun _ => c) (by omega)
      rw [e1, e2, if_neg]
      rintro ⟨a, b⟩
      have : w = l := by simp only at a; omega
      subst this
      have b : zbq (atM sz xs t (idx addr ((w + 1 : Nat) : Int))) ((w + 1 : Nat) : Int) = true := b
      rw [c] at b; cases b
def zhx (sz cd cp addr top : Int) (lv : Nat) : Nat → List (Int × Int) × Int → List (Int × Int) × Int
  | 0, p => p
  | w + 1, p =>
    if (za3 sz (zhx sz cd cp addr top lv w p).1 addr ((w + 1 : Nat) : Int) lv top).2 = ((w + 1 : Nat) : Int) ∧
       zbu (atM sz (zhx sz cd cp addr top lv w p).1 (za3 sz (zhx sz cd cp addr top lv w p).1 addr ((w + 1 : Nat) : Int) lv top).1 (idx addr ((w + 1 : Nat) : Int))) = true ∧
       zdl (zhx sz cd cp addr top lv w p).1 (atM sz (zhx sz cd cp addr top lv w p).1 (za3 sz (zhx sz cd cp addr top lv w p).1 addr ((w + 1 : Nat) : Int) lv top).1 (idx addr ((w + 1 : Nat) : Int))).ppn = true
    then (zbv sz (TableC.zbf (zhx sz cd cp addr top lv w p).1 (atM sz (zhx sz cd cp addr top lv w p).1 (za3 sz (zhx sz cd cp addr top lv w p).1 addr ((w + 1 : Nat) : Int) lv top).1 (idx addr ((w + 1 : Nat) : Int))).ppn) (za3 sz (zhx sz cd cp addr top lv w p).1 addr ((w + 1 : Nat) : Int) lv top).1 (idx addr ((w + 1 : Nat) : Int)) zP,
      TableC2.zdn cd cp (zhx sz cd cp addr top lv w p).2 (atM sz (zhx sz cd cp addr top lv w p).1 (za3 sz (zhx sz cd cp addr top lv w p).1 addr ((w + 1 : Nat) : Int) lv top).1 (idx addr ((w + 1 : Nat) : Int))).ppn)
    else zhx sz cd cp addr top lv w p
section
variable {cd cp sz f sh : Int} {xs : List (Int × Int)} {lv : Int → Int}
theorem zkb (h : TI cd cp sz xs f sh lv) (addr : Int) {xs' : List (Int × Int)} {w : Nat} (hx : ∀ s j, (0 ≤ j ∧ j < 512) → Al cd cp f s → (w : Int) < lv s → atM sz xs' s j = atM sz xs s j) (zaz : Int) (hw : (w : Int) ≤ zaz) : ∀ (l : Nat) (t : Int), Al cd cp f t → lv t = l → za3 sz xs' addr zaz l t = za3 sz xs addr zaz l t
  | 0, t, _, _ => rfl
  | l + 1, t, ht, hl => by
    have hi := idx_bd addr ((l + 1 : Nat) : Int)
    by_cases c1 : zaz < ((l + 1 : Nat) : Int)
    · have e := hx t _ hi ht (by rw [hl]; omega)
      cases c : zbq (atM sz xs t (idx addr ((l + 1 : Nat) : Int))) ((l + 1 : Nat) : Int) with
      | true =>
        obtain ⟨_, _, _, k4, k5⟩ := zp4 h hi c
        rw [zcw c1 (by rw [e]; exact c), zcw c1 c, e]
        exact zkb h addr hx zaz hw l _ k5 (by rw [k4, hl]; omega)
      | false =>
        rw [zbz (fun _ => by rw [e]; exact c) (by omega), zbz (fun _ => c) (by omega)]
    · rw [zbz (fun hh => absurd hh c1) (by omega), zbz (fun hh => absurd hh c1) (by omega)]
theorem zvh (addr : Int) (h : TI cd cp sz xs f sh lv) {top : Int} {l : Nat} (h2 : l ≤ 2) (ht : Al cd cp f top) (hl : lv top = l) (hH : 2 ≤ l → idx addr 2 ≠ 511) : ∀ w : Nat, w ≤ l →
    zhx sz cd cp addr top l w (xs, f) = if (za3 sz xs addr (w : Int) l top).2 = (w : Int) then prN sz cd cp addr w (za3 sz xs addr (w : Int) l top).1 (xs, f) else (xs, f)
  | 0, _ => by
    show (xs, f) = _
    split <;> rfl
  | w + 1, hw => by
    have IH := zvh addr h h2 ht hl hH w (by omega)
    have hst := zli sz xs addr w l top hw
    obtain ⟨l', t', i1, i2, i3, i4, i5, i6, _⟩ := zda h addr ((w + 1 : Nat) : Int) (by omega) l top ht hl (by omega)
    rw [i1] at hst
    -- what the lower levels have done
    have key : ∃ p', zhx sz cd cp addr top l w (xs, f) = p' ∧ (∀ s j, (0 ≤ j ∧ j < 512) → Al cd cp f s → (w : Int) < lv s → atM sz p'.1 s j = atM sz xs s j) ∧
        (p' = if (l' : Int) = ((w + 1 : Nat) : Int) ∧ zbq (atM sz xs t' (idx addr ((w + 1 : Nat) : Int))) ((w + 1 : Nat) : Int) = true then prN sz cd cp addr w (atM sz xs t' (idx addr ((w + 1 : Nat) : Int))).ppn (xs, f) else (xs, f)) := by
      refine ⟨_, rfl, ?_, ?_⟩
      · rw [IH, hst]
        split
        · split
          · rename_i c _
            obtain ⟨c1, c2⟩ := c
            obtain ⟨_, _, k3, k4, k5⟩ := zp4 h (idx_bd addr _) c2
            have c1 : (l' : Int) = ((w + 1 : Nat) : Int) := c1
            exact (zht addr h w _ (by omega) k5 (by rw [k4, i5]; omega) (fun hh => by omega)).u
          · exact fun s j _ _ _ => rfl
        · split
          · rename_i c d
            have d : (l' : Int) = (w : Int) := d
            omega
          · exact fun s j _ _ _ => rfl
      · rw [IH, hst]
        by_cases c : (l' : Int) = ((w + 1 : Nat) : Int) ∧ zbq (atM sz xs t' (idx addr ((w + 1 : Nat) : Int))) ((w + 1 : Nat) : Int) = true
        · rw [if_pos c, if_pos c, if_pos rfl]
        · rw [if_neg c, if_neg c, if_neg (show ¬ (l' : Int) = (w : Int) by omega)]
    obtain ⟨p', e0, hu, e1⟩ := key
    have hra := zkb h addr hu ((w + 1 : Nat) : Int) (by omega) l top ht hl
    rw [i1] at hra
    have hq : (l' : Int) = ((w + 1 : Nat) : Int) → atM sz p'.1 t' (idx addr ((w + 1 : Nat) : Int)) = atM sz xs t' (idx addr ((w + 1 : Nat) : Int)) := fun e => hu t' _ (idx_bd addr _) i4 (by rw [i5]; omega)
    rw [i1]
    unfold zhx
    rw [e0, hra]
    show (if (l' : Int) = ((w + 1 : Nat) : Int) ∧ zbu (atM sz p'.1 t' (idx addr ((w + 1 : Nat) : Int))) = true ∧ zdl p'.1 (atM sz p'.1 t' (idx addr ((w + 1 : Nat) : Int))).ppn = true then _ else p') = if (l' : Int) = ((w + 1 : Nat) : Int) then prN sz cd cp addr (w + 1) t' (xs, f) else (xs, f)
    by_cases c : (l' : Int) = ((w + 1 : Nat) : Int)
    · rw [if_pos c, hq c]
      unfold prN
      cases d : zbq (atM sz xs t' (idx addr ((w + 1 : Nat) : Int))) ((w + 1 : Nat) : Int) with
      | true =>
        obtain ⟨k1, _⟩ := zp4 h (idx_bd addr _) d
        rw [if_pos ⟨c, d⟩] at e1
        rw [if_pos rfl, ← e1]
        by_cases m : zdl p'.1 (atM sz xs t' (idx addr ((w + 1 : Nat) : Int))).ppn = true
        · rw [if_pos ⟨c, (zfa k1).1, m⟩, if_pos m]
        · rw [if_neg (fun hh => m hh.2.2), if_neg m]
      | false =>
        rw [if_neg (fun hh => by rw [d] at hh; exact absurd hh.2 (by simp))] at e1
        have hnl : zbu (atM sz xs t' (idx addr ((w + 1 : Nat) : Int))) = false := by
          rcases h.e.k t' _ (idx_bd addr ((w + 1 : Nat) : Int)) with e | ⟨_, _, ⟨e, _⟩ | ⟨e, _⟩⟩
          · rw [e]; rfl
          · exact (zcq e).1
          · rw [zfu e (by omega)] at d; cases d
        rw [if_neg (fun hh => by rw [hnl] at hh; exact absurd hh.2.1 (by simp)), e1]
        simp
    · rw [if_neg c, if_neg (fun hh => c hh.1)]
      rw [e1, if_neg (fun hh => c hh.1)]
theorem z2y (addr : Int) (h : TI cd cp sz xs f sh lv) {top : Int} {l : Nat} (h2 : l ≤ 2) (ht : Al cd cp f top) (hl : lv top = l) (hH : 2 ≤ l → idx addr 2 ≠ 511) : zhx sz cd cp addr top l l (xs, f) = prN sz cd cp addr l top (xs, f) := by
  rw [zvh addr h h2 ht hl hH l (Nat.le_refl _), show za3 sz xs addr (l : Int) l top = (top, (l : Int)) from zbz (fun hh => by omega) (by omega), if_pos rfl]
end
theorem zrq (k v : Int) (hv : v ≠ 0) (B : List (Int × Int)) (hB : ∀ c ∈ B, k < c.1) : ∀ (A : List (Int × Int)), (∀ c ∈ A, c.1 < k) → zcy (A ++ B) k v = A ++ (k, v) :: B
  | [], _ => by
    match B, hB with
    | [], _ => simp [zcy, hv]
    | c :: B, hB =>
      have := hB c (List.mem_cons_self ..)
      simp only [List.nil_append, zcy]
      rw [if_neg (by omega), if_neg (by omega), if_neg hv]
  | c :: A, hA => by
    have := hA c (List.mem_cons_self ..)
    simp only [List.cons_append, zcy]
    rw [if_pos this, zrq k v hv B hB A (fun d hd => hA d (List.mem_cons_of_mem _ hd))]
def zlj (g : Int) (v : Nat → Int) (n : Nat) : List (Int × Int) := (List.range n).map fun (i : Nat) => (g * 512 + (i : Int), v i)
theorem zvi {g : Int} {v : Nat → Int} {A B : List (Int × Int)} (hA : ∀ c ∈ A, c.1 < g * 512) (hB : ∀ c ∈ B, g * 512 + 512 ≤ c.1) (hv : ∀ i, i < 512 → v i ≠ 0) : ∀ n, n ≤ 512 → zer (A ++ B) g v n = A ++ zlj g v n ++ B
  | 0, _ => by simp [zer, zlj]
  | n + 1, hn => by
    show zcy (zer (A ++ B) g v n) (g * 512 + n) (v n) = _
    rw [zvi hA hB hv n (by omega), zrq _ _ (hv n (by omega)) B (fun c hc => by have := hB c hc; omega)]
    · unfold zlj
      rw [List.range_succ, List.map_append]
      simp
    · intro c hc
      rcases List.mem_append.1 hc with hc | hc
      · have := hA c hc; omega
      · unfold zlj at hc
        obtain ⟨i, hi, rfl⟩ := List.mem_map.1 hc
        have := List.mem_range.1 hi
        show g * 512 + (i : Int) < g * 512 + n
        omega
def zbx (k : Int) (row : List (Int × Int)) (s : List (Int × Int) × Bool) (c : Int × Int) : List (Int × Int) × Bool := if s.2 = false ∧ k ≤ c.1 then (s.1 ++ row ++ [c], true) else (s.1 ++ [c], s.2)
def finW (row : List (Int × Int)) (s : List (Int × Int) × Bool) : List (Int × Int) := if s.2 = false then s.1 ++ row else s.1
theorem zlk (k : Int) (row : List (Int × Int)) : ∀ (cs acc : List (Int × Int)), cs.foldl (zbx k row) (acc, true) = (acc ++ cs, true)
  | [], acc => by simp
  | c :: cs, acc => by
    rw [List.foldl_cons, show zbx k row (acc, true) c = (acc ++ [c], true) by unfold zbx; rw [if_neg (by simp)], zlk k row cs]
    simp
theorem z2z (k : Int) (row : List (Int × Int)) : ∀ (cs acc : List (Int × Int)), Srt cs → ∃ A B, cs = A ++ B ∧ (∀ c ∈ A, c.1 < k) ∧ (∀ c ∈ B, k ≤ c.1) ∧ finW row (cs.foldl (zbx k row) (acc, false)) = acc ++ (A ++ row ++ B)
  | [], acc, _ => ⟨[], [], rfl, fun c h => (by cases h), fun c h => (by cases h), by simp [finW]⟩
  | c :: cs, acc, hs => by
    have hs' := List.pairwise_cons.1 hs
    rw [List.foldl_cons]
    by_cases h : k ≤ c.1
    · refine ⟨[], c :: cs, rfl, fun c h => (by cases h), fun d hd => ?_, ?_⟩
      · rcases List.mem_cons.1 hd with rfl | hd
        · exact h
        · have := hs'.1 d hd; omega
      · rw [show zbx k row (acc, false) c = (acc ++ row ++ [c], true) by unfold zbx; rw [if_pos ⟨rfl, h⟩], zlk]
        unfold finW
        rw [if_neg (by simp)]
        simp
    · obtain ⟨A, B, e1, e2, e3, e4⟩ := z2z k row cs (acc ++ [c]) hs'.2
      refine ⟨c :: A, B, by rw [e1]; rfl, fun d hd => ?_, e3, ?_⟩
      · rcases List.mem_cons.1 hd with rfl | hd
        · omega
        · exact e2 d hd
      · rw [show zbx k row (acc, false) c = (acc ++ [c], false) by unfold zbx; rw [if_neg (fun hh => h hh.2)], e4]
        simp
theorem rowW {xs : List (Int × Int)} {g : Int} {v : Nat → Int} (hs : Srt xs) (hg : ∀ c ∈ xs, c.1 < g * 512 ∨ g * 512 + 512 ≤ c.1) (hv : ∀ i, i < 512 → v i ≠ 0) : finW (zlj g v 512) (xs.foldl (zbx (g * 512) (zlj g v 512)) ([], false)) = zer xs g v 512 := by
  obtain ⟨A, B, e1, e2, e3, e4⟩ := z2z (g * 512) (zlj g v 512) xs [] hs
  rw [e4, List.nil_append, e1]
  refine (zvi e2 (fun c hc => ?_) hv 512 (Nat.le_refl _)).symm
  have := e3 c hc
  have := hg c (by rw [e1]; exact List.mem_append_right _ hc)
  omega
end Go.Proofs.YtmkjfeamgknpfaaGreatDoor.LiD
namespace Go.Proofs.YtmkjfeamgknpfaaGreatDoor.RefS
open Go.RowKit Bv VaSpec Base
def hi (f : Nat → Bool) : Nat → Nat
  | 0 => 0
  | k + 1 => 2 * hi f k + (f (63 - k)).toNat
theorem zp5 (f : Nat → Bool) (k : Nat) : hi f (k + 1) = 2 * hi f k + (f (63 - k)).toNat := rfl
theorem z32 (f : Nat → Bool) (k : Nat) : hi f k < 2 ^ k := by
  induction k with
  | zero => simp [hi]
  | succ k ih => rw [zp5]; have := Bool.toNat_le (f (63 - k)); rw [Nat.pow_succ]; omega
set_option maxHeartbeats 400000 in
set_option maxRecDepth 100000 in
theorem of_calls (f : Nat → Bool) (cs : Array Value) (w : World) (hsz : cs.size = 64) (hget : ∀ k, k < 64 → cs[k]? = some (.bool (f k))) :
    Calls Tryz.prog 173 #[.agg cs] w fun e w' => e = .returned (.int .u64 (hi f 64)) ∧ Below w.heap.size w w' := by
  have Hs := Lib.hid hsz; clear hsz
  have Hg := Lib.hid hget; clear hget
  go_enter Tryz.func173, Tryz.ntmps173
  go_wp2
  go_loop [3, 4] (fun x i => ∃ k : Nat, k ≤ 64 ∧ i = .int .i64 (63 - k) ∧ x = .int .u64 (hi f k)) (fun _ i => (intOf i + 1).toNat)
  case atStart => exact ⟨0, by omega, rfl, rfl⟩
  case round =>
    obtain ⟨k, hk, rfl, rfl⟩ := hrel
    by_cases hlt : k < 64
    · obtain ⟨j, hj⟩ : ∃ j : Nat, j = 63 - k := ⟨_, rfl⟩
      have hb := z32 f k
      have hp : 2 ^ k ≤ 2 ^ 63 := Nat.pow_le_pow_right (by decide) (by omega)
      have hb2 : (hi f k : Int) ≤ 9223372036854775807 := by omega
      clear hb hp
      have hc : (w.alloc (.cells cs 223)).cell? ⟨w.heap.size, j, none⟩ = some (.bool (f j)) := by
        rw [cell_of_row _ _ _ cs 223 (0, 0) (heap_alloc_new w _)]; exact Hg.out j (by omega)
      rw [show (63 : Int) - k = (j : Int) by omega]
      have hj2 : j < 64 := by omega
      have Hj := Lib.hid hj; clear hj
      cases hf : f j
      all_goals
        rw [hf] at hc
        go_wp2
        go_round
        case rel =>
          refine ⟨k + 1, by omega, by rw [show (j : Int) - 1 = 63 - ((k + 1 : Nat) : Int) by have := Hj.out; omega], ?_⟩
          rw [zp5, ← Hj.out, hf]; go_num
        case measure => have := Hj.out; simp [intOf]
    · obtain rfl : k = 64 := by omega
      go_wp2
      go_ret
      exact ⟨rfl, (Below.refl _ _).alloc (Nat.le_refl _) _⟩
theorem zxm (y : BitVec 64) (f : Nat → Bool) (h : ∀ j, j < 64 → f j = y.getLsbD j) : ∀ k, k ≤ 64 → hi f k = y.toNat / 2 ^ (64 - k) := by
  intro k
  induction k with
  | zero => intro _; have := y.isLt; rw [Nat.div_eq_of_lt (by simpa using this)]; rfl
  | succ k ih =>
    intro hk
    rw [zp5, ih (by omega), h _ (by omega), BitVec.getLsbD, Nat.testBit, Nat.shiftRight_eq_div_pow, Nat.and_comm, Nat.and_one_is_mod, show 64 - k = (63 - k) + 1 by omega, show 64 - (k + 1) = 63 - k by omega, Nat.pow_succ, ← Nat.div_div_eq_div_mul]
    generalize y.toNat / 2 ^ (63 - k) = q
    rcases Nat.mod_two_eq_zero_or_one q with e | e <;> rw [e] <;> simp <;> omega
theorem zyy (y : BitVec 64) (f : Nat → Bool) (h : ∀ j, j < 64 → f j = y.getLsbD j) : ((hi f 64 : Nat) : Int) = B y := by
  rw [zxm y f h 64 (by omega)]; simp [B]
def bt (x : BitVec 64) (i : Nat) : Bool := x.getLsbD i
theorem zxn (x : BitVec 64) (j : Nat) : IntKind.u64.wrap (Int.tdiv (B (x >>> j)) 2) = B (x >>> (j + 1)) := by
  rw [show Int.tdiv (B (x >>> j)) 2 = (((x >>> j).toNat / 2 : Nat) : Int) from rfl, wrap_u64]
  unfold B
  rw [BitVec.toNat_ushiftRight, BitVec.toNat_ushiftRight, Nat.shiftRight_eq_div_pow, Nat.shiftRight_eq_div_pow, Nat.div_div_eq_div_mul, ← Nat.pow_succ]
  rw [Nat.succ_eq_add_one]
  have h1 := x.isLt
  have h2 : x.toNat / 2 ^ (j + 1) ≤ x.toNat := Nat.div_le_self _ _
  generalize x.toNat / 2 ^ (j + 1) = q at *
  omega
theorem z0u (x : BitVec 64) (j : Nat) : (Int.tmod (B (x >>> j)) 2 == 1) = bt x j := by
  unfold B bt
  rw [BitVec.toNat_ushiftRight, BitVec.getLsbD, Nat.testBit, Nat.shiftRight_eq_div_pow]
  rw [show Int.tmod ((x.toNat / 2 ^ j : Nat) : Int) 2 = ((x.toNat / 2 ^ j % 2 : Nat) : Int) from rfl]
  rw [Nat.and_comm, Nat.and_one_is_mod]
  rcases Nat.mod_two_eq_zero_or_one (x.toNat / 2 ^ j) with h | h <;> rw [h] <;> rfl
theorem z0v (x : BitVec 64) (j : Nat) : B (x >>> j) / 2 = B (x >>> (j + 1)) := by
  rw [← zxn, show Int.tdiv (B (x >>> j)) 2 = (((x >>> j).toNat / 2 : Nat) : Int) from rfl, wrap_u64]
  unfold B; have := (x >>> j).isLt; omega
theorem z20 (x : BitVec 64) (j : Nat) : (B (x >>> j) % 2 == 1) = bt x j := by
  rw [← z0u]; rfl
set_option maxHeartbeats 400000 in
set_option maxRecDepth 100000 in
theorem zrr (x : BitVec 64) (i : Int) (w : World) (h0 : 0 ≤ i) (h : i ≤ 200) :
    Calls Tryz.prog 142 #[.int .u64 (B x), .int .i64 i] w fun e w' => e = .returned (.bool (bt x i.toNat)) ∧ w' = w := by
  obtain ⟨n, rfl⟩ := Int.eq_ofNat_of_zero_le h0
  by_cases h63 : n ≤ 63
  · go_enter Tryz.func142, Tryz.ntmps142
    go_wp2
    go_loop [0, 5] (fun y k => ∃ j : Nat, j ≤ n ∧ k = .int .i64 j ∧ y = .int .u64 (B (x >>> j))) (fun _ k => n - (intOf k).toNat)
    case atStart => exact ⟨0, by omega, rfl, by simp⟩
    case round =>
      obtain ⟨j, hj, rfl, rfl⟩ := hrel
      have hb := zl2 (x >>> j)
      have hb2 := z3n (x >>> j)
      by_cases hlt : j < n
      · go_wp2
        refine ⟨⟨j + 1, by omega, by go_num, by rw [z0v]⟩, ?_⟩
        simp [intOf]; omega
      · obtain rfl : j = n := by omega
        have Ho := Lib.hid (z20 x j)
        go_wp2
        go_ret
        refine ⟨?_, rfl⟩
        exact congrArg (fun z => Ending.returned (.bool z)) Ho.out
  · have hf := Lib.hid (show bt x n = false by unfold bt; exact BitVec.getLsbD_of_ge _ _ (by omega))
    go_enter Tryz.func142, Tryz.ntmps142
    go_wp2
    go_ret
    refine ⟨?_, rfl⟩
    exact congrArg (fun z => Ending.returned (.bool z)) hf.out.symm
theorem zkc (x : BitVec 64) (i : Int) (w : World) (h0 : 0 ≤ i) (h : i ≤ 200) :
    Calls Tryz.prog 142 #[.int .u64 (B x), .int .i64 i] w fun e w' => e = .returned (.bool (bt x i.toNat)) ∧ Q w w' := (zrr x i w h0 h).mono fun _ _ ⟨a, b⟩ => ⟨a, by subst b; exact Q.refl _⟩
def Arr (w : World) (b : Nat) (f : Nat → Bool) : Prop := ∃ cs, w.heap[b]? = some (Obj.cells cs 223 (0, 0)) ∧ cs.size = 64 ∧ ∀ k, k < 64 → cs[k]? = some (.bool (f k))
theorem Arr.cell {w : World} {b : Nat} {f : Nat → Bool} (h : Arr w b f) (k : Nat) (hk : k < 64) : w.cell? ⟨b, k, none⟩ = some (.bool (f k)) := by
  obtain ⟨cs, h1, _, h3⟩ := h; rw [cell_of_row _ _ _ cs 223 (0, 0) h1]; exact h3 k hk
theorem Arr.frozen {w : World} {b : Nat} {f : Nat → Bool} (h : Arr w b f) (k : Nat) : w.frozen? ⟨b, k, none⟩ = false := by
  obtain ⟨cs, h1, _, h3⟩ := h; exact frozen_of_row _ _ _ cs 223 h1
theorem Arr.drewN {w : World} {b : Nat} {f : Nat → Bool} (h : Arr w b f) (n : Nat) : Arr (w.drewN n) b f := h
theorem Arr.set {w : World} {b : Nat} {f : Nat → Bool} (h : Arr w b f) (k : Nat) (v : Bool) : Arr (w.setCell ⟨b, k, none⟩ (.bool v)) b (fun j => if j = k then v else f j) := by
  obtain ⟨cs, h1, h2, h3⟩ := h
  refine ⟨_, heap_setCell_same w b k cs 223 _ h1, by simp [h2], ?_⟩
  intro j hj
  rw [Array.getElem?_setIfInBounds]
  by_cases e : k = j
  · subst e; simp [h2, hj]
  · simp [e, Ne.symm e, h3 j hj]
theorem Arr.congr {w : World} {b : Nat} {f g : Nat → Bool} (h : Arr w b f) (e : ∀ k, k < 64 → f k = g k) : Arr w b g := by
  obtain ⟨cs, h1, h2, h3⟩ := h; exact ⟨cs, h1, h2, fun k hk => by rw [h3 k hk, e k hk]⟩
theorem Arr.zero (w : World) : Arr (w.alloc (Obj.cells #[.bool false, .bool false, .bool false, .bool false, .bool false, .bool false, .bool false, .bool false, .bool false, .bool false, .bool false, .bool false, .bool false, .bool false, .bool false, .bool false, .bool false, .bool false, .bool false, .bool false, .bool false, .bool false, .bool false, .bool false, .bool false, .bool false, .bool false, .bool false, .bool false, .bool false, .bool false, .bool false, .bool false, .bool false, .bool false, .bool false, .bool false, .bool false, .bool false, .bool false, .bool false, .bool false, .bool false, .bool false, .bool false, .bool false, .bool false, .bool false, .bool false, .bool false, .bool false, .bool false, .bool false, .bool false, .bool false, .bool false, .bool false, .bool false, .bool false, .bool false, .bool false, .bool false, .bool false, .bool false] 223)) w.heap.size (fun _ => false) := by
  refine ⟨_, heap_alloc_new w _, by rfl, ?_⟩
  intro k hk
  have : ∀ k : Fin 64, (Array.replicate 64 (Value.bool false))[k.val]? = some (.bool false) := by intro k; simp
  exact this ⟨k, hk⟩
theorem Arr.next {wr : World} {b k nd : Nat} {g : Nat → Bool} {v : Bool} (ha : Arr wr b (fun j => decide (j < k) && g j)) (e : v = g k) :
    Arr ((wr.drewN nd).setCell ⟨b, k, none⟩ (.bool v)) b (fun j => decide (j < k + 1) && g j) := by
  refine (Arr.set (w := wr.drewN nd) ha k _).congr ?_
  intro j hj
  by_cases e1 : j = k
  · subst e1; simp [e]
  · rw [if_neg e1]; by_cases e2 : j < k
    · simp [e2, show j < k + 1 by omega]
    · simp [e2, show ¬ j < k + 1 by omega]
theorem Arr.next2 {wr : World} {b k nd nd2 : Nat} {g : Nat → Bool} {u v : Bool} (ha : Arr wr b (fun j => decide (j < k) && g j)) (e : v = g k) :
    Arr ((((wr.drewN nd).setCell ⟨b, k, none⟩ (.bool u)).drewN nd2).setCell ⟨b, k, none⟩ (.bool v)) b (fun j => decide (j < k + 1) && g j) := by
  refine (Arr.set (Arr.drewN (Arr.set (w := wr.drewN nd) ha k u) nd2) k v).congr ?_
  intro j hj
  by_cases e1 : j = k
  · subst e1; simp [e]
  · rw [if_neg e1, if_neg e1]; by_cases e2 : j < k
    · simp [e2, show j < k + 1 by omega]
    · simp [e2, show ¬ j < k + 1 by omega]
theorem zhu {w wr : World} (hb : Below w.heap.size w wr) (k nd : Nat) (v : Value) : Below w.heap.size w ((wr.drewN nd).setCell ⟨w.heap.size, k, none⟩ v) :=
  (hb.trans ((Q.below ⟨nd, rfl⟩).mono hb.size)).setCell (Nat.le_refl _) _
set_option maxHeartbeats 400000 in
set_option maxRecDepth 100000 in
theorem zxo (x : BitVec 64) (n : Nat) (w : World) (h1n : 1 ≤ n) (hn : n ≤ 64) :
    Calls Tryz.prog 179 #[.int .u64 (B x), .int .i64 n] w fun e w' => e = .returned (.int .u64 (B (zl4 x n))) ∧ Below w.heap.size w w' := by
  go_enter Tryz.func179, Tryz.ntmps179
  go_wp2
  go_loopw [6] (fun i wr => ∃ k : Nat, k ≤ 64 ∧ i = .int .i64 k ∧ Arr wr w.heap.size (fun j => decide (j < k) && bt x (min j (n - 1))) ∧ Below w.heap.size w wr) (fun i _ => 64 - (intOf i).toNat)
  case atStart => exact ⟨0, by omega, rfl, (Arr.zero w).congr (by intro k _; simp), (Below.refl _ _).alloc (Nat.le_refl _) _⟩
  case round =>
    obtain ⟨k, hk, rfl, ha, hb⟩ := hrel
    by_cases hlt : k < 64
    · have hc := ha.cell k (by omega)
      have hz := ha.frozen k
      by_cases hm : k ≤ n - 1
      all_goals
        go_wp2_with (go_at_call 142; (with_reducible refine (zkc _ _ _ (by omega) (by omega)).mono ?_); rintro e w' ⟨rfl, ⟨nd, rfl⟩⟩)
        refine ⟨⟨k + 1, by omega, by go_num, ha.next (by congr 1; omega), (hb.trans ((Q.below ⟨nd, rfl⟩).mono hb.size)).setCell (Nat.le_refl _) _⟩, ?_⟩
        simp [intOf]; omega
    · obtain rfl : k = 64 := by omega
      obtain ⟨cs, h1, h2, h3⟩ := ha
      have Hh := Lib.hid h1; clear h1
      have Hs := Lib.hid h2; clear h2
      have H3 := Lib.hid h3; clear h3
      go_wp2_with (first | (with_reducible refine wpList_load_row rfl 223 _ rfl w.heap.size rfl 223 cs (0, 0) _ Hh.out Tryz.underlying223 rfl (by rw [Hs.out]; kernel_rfl) ?_) | (go_at_call 173; refine (of_calls _ cs _ Hs.out H3.out).mono ?_; rintro e w' ⟨rfl, bel⟩))
      go_ret
      refine ⟨?_, hb.trans (bel.mono hb.size)⟩
      show Ending.returned (.int .u64 (hi (fun j => decide (j < 64) && bt x (min j (n - 1))) 64 : Nat)) = _
      rw [zyy (zl4 x n) _ (fun j hj => by rw [zno _ _ _ h1n hn]; rfl)]
end Go.Proofs.YtmkjfeamgknpfaaGreatDoor.RefS
namespace Go.Proofs.YtmkjfeamgknpfaaGreatDoor.RefSet
open Go.RowKit Bv VaSpec Base RefS BitsC
def g1 (x v : BitVec 64) (lo : Nat) (j : Nat) : Bool := if j = lo then bt v 0 else bt x j
set_option maxHeartbeats 400000 in
set_option maxRecDepth 100000 in
theorem z0w (x v : BitVec 64) (lo : Nat) (w : World) (hlo : lo < 64) :
    Calls Tryz.prog 141 #[.int .u64 (B x), .int .i64 lo, .int .i64 1, .int .u64 (B v)] w fun e w' => e = .returned (.int .u64 (B (ztf x lo 1 v))) ∧ Below w.heap.size w w' := by
  have hw1 : IntKind.i64.wrap ((lo : Int) + 1) = (lo : Int) + 1 := by rw [IntKind.wrap_i64]; omega
  go_enter Tryz.func141, Tryz.ntmps141
  go_wp2
  go_loopw [10] (fun i wr => ∃ k : Nat, k ≤ 64 ∧ i = .int .i64 k ∧ Arr wr w.heap.size (fun j => decide (j < k) && g1 x v lo j) ∧ Below w.heap.size w wr) (fun i _ => 64 - (intOf i).toNat)
  case atStart => exact ⟨0, by omega, rfl, (Arr.zero w).congr (by intro k _; simp), (Below.refl _ _).alloc (Nat.le_refl _) _⟩
  case round =>
    obtain ⟨k, hk, rfl, ha, hb⟩ := hrel
    by_cases hlt : k < 64
    · have hc := ha.cell k (by omega)
      have hz := ha.frozen k
      rcases Nat.lt_trichotomy k lo with hm | rfl | hm
      · go_wp2_with (go_at_call 142; (with_reducible refine (zkc _ _ _ (by omega) (by omega)).mono ?_); rintro e w' ⟨rfl, ⟨nd, rfl⟩⟩)
        refine ⟨⟨k + 1, by omega, by go_num, ha.next (by unfold g1; rw [if_neg (by omega)]), zhu hb _ _ _⟩, ?_⟩
        simp [intOf]; omega
      · go_wp2_with (go_at_call 142; (with_reducible refine (zkc _ _ _ (by omega) (by omega)).mono ?_); rintro e w' ⟨rfl, ⟨nd, rfl⟩⟩)
        refine ⟨⟨k + 1, by omega, by go_num, ha.next2 (by unfold g1; rw [if_pos rfl]), zhu (zhu hb _ _ _) _ _ _⟩, ?_⟩
        simp [intOf]; omega
      · go_wp2_with (go_at_call 142; (with_reducible refine (zkc _ _ _ (by omega) (by omega)).mono ?_); rintro e w' ⟨rfl, ⟨nd, rfl⟩⟩)
        refine ⟨⟨k + 1, by omega, by go_num, ha.next (by unfold g1; rw [if_neg (by omega)]), zhu hb _ _ _⟩, ?_⟩
        simp [intOf]; omega
    · obtain rfl : k = 64 := by omega
      obtain ⟨cs, h1, h2, h3⟩ := ha
      have Hh := Lib.hid h1; clear h1
      have Hs := Lib.hid h2; clear h2
      have H3 := Lib.hid h3; clear h3
      go_wp2_with (first | (with_reducible refine wpList_load_row rfl 223 _ rfl w.heap.size rfl 223 cs (0, 0) _ Hh.out Tryz.underlying223 rfl (by rw [Hs.out]; kernel_rfl) ?_) | (go_at_call 173; refine (of_calls _ cs _ Hs.out H3.out).mono ?_; rintro e w' ⟨rfl, bel⟩))
      go_ret
      refine ⟨?_, hb.trans (bel.mono hb.size)⟩
      show Ending.returned (.int .u64 (hi (fun j => decide (j < 64) && g1 x v lo j) 64 : Nat)) = _
      rw [zyy (ztf x lo 1 v) _ (fun j hj => by
        rw [zfp, decide_eq_true hj]
        unfold g1
        by_cases e : j = lo
        · subst e; rw [if_pos rfl, if_pos ⟨Nat.le_refl _, by omega⟩, Nat.sub_self]; rfl
        · rw [if_neg e, if_neg (by omega)]; rfl)]
end Go.Proofs.YtmkjfeamgknpfaaGreatDoor.RefSet
namespace Go.Proofs.YtmkjfeamgknpfaaGreatDoor.RfA
open Go.RowKit Bv VaSpec Base MemL RegR Ax MemC PutC MemC3 TzC OkS SpA SpB SpC SpD IterC SpE SpF SpG SpH SpI SpJ SpK SpN RfP
open BitsC PteSpec
set_option maxRecDepth 10000
set_option maxHeartbeats 800000
theorem zgf (a i : Int) (ha : U a) (h0 : 0 ≤ i) (h : i < 64) : Ok 142 [iu a, ii i] (.m (ib (zhw a i))) :=
  zbh #[.int .u64 a, .int .i64 i] (.bool (zhw a i)) fun W _ => by
    have := RefS.zkc (X a) i W h0 (by omega)
    rw [B_X ha] at this
    refine this.mono fun e w' ⟨he, hq⟩ => ⟨?_, Q.below hq⟩
    rw [he, zfs h0]; rfl
theorem zie (a i v : Int) (ha : U a) (hv : U v) (h0 : 0 ≤ i) (h : i < 64) : Ok 141 [iu a, ii i, ii 1, iu v] (.m (iu (zb9 a i 1 v))) := by
  obtain ⟨n, rfl⟩ := Int.eq_ofNat_of_zero_le h0
  exact zbh #[.int .u64 a, .int .i64 n, .int .i64 1, .int .u64 v] (.int .u64 (zb9 a n 1 v)) fun W _ => by
    have := RefSet.z0w (X a) (X v) n W (by omega)
    rw [B_X ha, B_X hv] at this
    exact this
attribute [local irreducible] Ax.zcs
theorem zxp (b m : Int) (hm : 0 ≤ m ∧ m ≤ 64) : Ok 81 [iu b, ii m] (.m (.ag [cu b, ci m, cu (zel m)])) := by
  refine zaf 21 Tryz.func81 rfl rfl rfl rfl ?_ GG.to
  intro W A hG
  repeat (first | (refine zal rfl ?_; first | refine gdr (zaa (.inl rfl) rfl) ?_ | refine gdr (zaa (.inr rfl) rfl) ?_ | refine gdr (zae rfl rfl rfl rfl rfl) ?_ | refine gnk 1 rfl (zbe rfl rfl rfl rfl rfl rfl rfl) ?_ | refine gdr (zaq rfl rfl rfl rfl) ?_) | (refine hK _ ?_; clear hK K) | refine zad rfl ?_ | refine zam ?_ | refine zac (fun K hK => ?_))
  refine za9 (α := Nat × Int) (fun p => (p.1 : Int) ≤ m ∧ p.2 = zel p.1) (fun p => St.of [(1, .m (ii m)), (4, .m (.c (.p 4 0))), (5, .m (.c (.p 5 0))), (6, .m (ii p.1))] [(4, .live (.box [cu 0, ci 0, cu 0])), (5, .live (.box [cu b, ci m, cu p.2]))]) (fun p => m.toNat - p.1) (0, 0) ⟨by show ((0 : Nat) : Int) ≤ m; omega, allI_zero.symm⟩ (zar _ _ ⟨rfl, rfl, rfl, rfl, trivial⟩ ⟨rfl, rfl, trivial⟩ rfl) ?_
  rintro ⟨i, x⟩ ⟨hi0, hx0⟩
  have hi : (i : Int) ≤ m := hi0
  have hx : x = zel i := hx0
  show Aw _ _ _ _ (St.of [(1, .m (ii m)), (4, .m (.c (.p 4 0))), (5, .m (.c (.p 5 0))), (6, .m (ii i))] [(4, .live (.box [cu 0, ci 0, cu 0])), (5, .live (.box [cu b, ci m, cu x]))])
  by_cases hlt : (i : Int) < m
  · have hs := zie x i 1 (hx ▸ zn9 i) ⟨by omega, by omega⟩ (by omega) (by omega)
    repeat (first | (refine zal rfl ?_; first | refine gdr (zaa (.inl rfl) rfl) ?_ | refine gnk 1 rfl (za2 tb rfl rfl rfl rfl rfl) ?_ | refine gnx 1 rfl (zbc tb rfl rfl rfl) rfl ?_ | refine gdr (zaa (.inr rfl) rfl) ?_ | refine gdr (za6 rfl rfl rfl rfl) ?_ | refine gdr (gar rfl rfl rfl rfl) ?_ | refine gnk 1 rfl (zbe rfl rfl rfl rfl rfl rfl rfl) ?_ | refine gdr (zab rfl rfl rfl (hs) (by kernel_rfl)) ?_) | (refine hK _ ?_; clear hK K) | refine zad rfl ?_ | refine zai rfl rfl ?_ | refine zam ?_ | refine zao ?_ | refine zac (fun K hK => ?_))
    exact ⟨(i + 1, zb9 x i 1 1), ⟨by show ((i + 1 : Nat) : Int) ≤ m; omega, by show zb9 x i 1 1 = zel ((i + 1 : Nat) : Int); rw [hx, zn8 _ (by omega) (by omega)]; rfl⟩, by show m.toNat - (i + 1) < m.toNat - i; omega, zar _ _ ⟨rfl, rfl, rfl, rfl, trivial⟩ ⟨rfl, rfl, trivial⟩ rfl⟩
  · obtain rfl : m = i := by omega
    subst hx
    repeat (first | (refine zal rfl ?_; first | refine gdr (zaa (.inl rfl) rfl) ?_ | refine gnk 1 rfl (za2 tb rfl rfl rfl rfl rfl) ?_ | refine gdr (za6 rfl rfl rfl rfl) ?_ | refine gnk 1 rfl (zbe rfl rfl rfl rfl rfl rfl rfl) ?_) | (refine hK _ ?_; clear hK K) | (rename_i K1 hK1; refine hK1 _ ?_; clear hK hK1; clear K) | refine zad rfl ?_ | exact zap (show za8 _ _ _ = some _ by kernel_rfl) | refine zah rfl rfl ?_ | refine zba ?_ | refine zac (fun K hK => ?_))
theorem zxq (m : Int) (hm : 0 ≤ m ∧ m ≤ 64) : Ok 82 [ii m] (.m (.ag [ci m, cu (zel m), cu 0])) := by
  refine zaf 18 Tryz.func82 rfl rfl rfl rfl ?_ GG.to
  intro W A hG
  repeat (first | (refine zal rfl ?_; first | refine gdr (zaa (.inl rfl) rfl) ?_ | refine gdr (zaa (.inr rfl) rfl) ?_ | refine gdr (zae rfl rfl rfl rfl rfl) ?_ | refine gnk 1 rfl (zbe rfl rfl rfl rfl rfl rfl rfl) ?_ | refine gdr (zaq rfl rfl rfl rfl) ?_) | (refine hK _ ?_; clear hK K) | refine zad rfl ?_ | refine zam ?_ | refine zac (fun K hK => ?_))
  refine za9 (α := Nat × Int) (fun p => (p.1 : Int) ≤ m ∧ p.2 = zel p.1) (fun p => St.of [(0, .m (ii m)), (2, .m (.c (.p 2 0))), (3, .m (.c (.p 3 0))), (4, .m (ii p.1))] [(2, .live (.box [ci 0, cu 0, cu 0])), (3, .live (.box [ci m, cu p.2, cu 0]))]) (fun p => m.toNat - p.1) (0, 0) ⟨by show ((0 : Nat) : Int) ≤ m; omega, allI_zero.symm⟩ (zar _ _ ⟨rfl, rfl, rfl, rfl, trivial⟩ ⟨rfl, rfl, trivial⟩ rfl) ?_
  rintro ⟨i, x⟩ ⟨hi0, hx0⟩
  have hi : (i : Int) ≤ m := hi0
  have hx : x = zel i := hx0
  show Aw _ _ _ _ (St.of [(0, .m (ii m)), (2, .m (.c (.p 2 0))), (3, .m (.c (.p 3 0))), (4, .m (ii i))] [(2, .live (.box [ci 0, cu 0, cu 0])), (3, .live (.box [ci m, cu x, cu 0]))])
  by_cases hlt : (i : Int) < m
  · have hs := zie x i 1 (hx ▸ zn9 i) ⟨by omega, by omega⟩ (by omega) (by omega)
    repeat (first | (refine zal rfl ?_; first | refine gdr (zaa (.inl rfl) rfl) ?_ | refine gnk 1 rfl (za2 tb rfl rfl rfl rfl rfl) ?_ | refine gnx 1 rfl (zbc tb rfl rfl rfl) rfl ?_ | refine gdr (zaa (.inr rfl) rfl) ?_ | refine gdr (za6 rfl rfl rfl rfl) ?_ | refine gdr (gar rfl rfl rfl rfl) ?_ | refine gnk 1 rfl (zbe rfl rfl rfl rfl rfl rfl rfl) ?_ | refine gdr (zab rfl rfl rfl (hs) (by kernel_rfl)) ?_) | (refine hK _ ?_; clear hK K) | refine zad rfl ?_ | refine zai rfl rfl ?_ | refine zam ?_ | refine zao ?_ | refine zac (fun K hK => ?_))
    exact ⟨(i + 1, zb9 x i 1 1), ⟨by show ((i + 1 : Nat) : Int) ≤ m; omega, by show zb9 x i 1 1 = zel ((i + 1 : Nat) : Int); rw [hx, zn8 _ (by omega) (by omega)]; rfl⟩, by show m.toNat - (i + 1) < m.toNat - i; omega, zar _ _ ⟨rfl, rfl, rfl, rfl, trivial⟩ ⟨rfl, rfl, trivial⟩ rfl⟩
  · obtain rfl : m = i := by omega
    subst hx
    repeat (first | (refine zal rfl ?_; first | refine gdr (zaa (.inl rfl) rfl) ?_ | refine gnk 1 rfl (za2 tb rfl rfl rfl rfl rfl) ?_ | refine gdr (za6 rfl rfl rfl rfl) ?_ | refine gnk 1 rfl (zbe rfl rfl rfl rfl rfl rfl rfl) ?_) | (refine hK _ ?_; clear hK K) | (rename_i K1 hK1; refine hK1 _ ?_; clear hK hK1; clear K) | refine zad rfl ?_ | exact zap (show za8 _ _ _ = some _ by kernel_rfl) | refine zah rfl rfl ?_ | refine zba ?_ | refine zac (fun K hK => ?_))
theorem zoe (b m f : Int) (hb : 0 ≤ b ∧ b ≤ 268435456) (hm : 0 ≤ m ∧ m ≤ 64) (hf : 0 ≤ f ∧ f < 2 ^ m.toNat) (h0 : f ≠ 0) : Ok 83 [.ag [cu b, ci m, cu f]] (.tu [.ag [cu b, ci m, cu (zb9 f (tzI f) 1 0)], iu (b + tzI f), ii 0]) := by
  have hu : U f := zia hf.1 hf.2 (by omega)
  have ht := zd2 hu hf.2 h0
  refine zaf 28 Tryz.func83 rfl rfl rfl rfl ?_ GG.to
  intro W A hG
  repeat (first | (refine zal rfl ?_; first | refine gdr (zaa (.inr rfl) rfl) ?_ | refine gdr (zag rfl rfl rfl rfl rfl rfl) ?_ | refine gdr (zae rfl rfl rfl rfl rfl) ?_) | (refine hK _ ?_; clear hK K) | refine zad rfl ?_ | refine zam ?_ | refine zac (fun K hK => ?_))
  refine za9 (α := Nat) (fun i => (i : Int) ≤ tzI f) (fun i => St.of [(1, .m (.c (.p 1 0))), (2, .m (.c (.p 2 0))), (5, .m (ii i))] [(1, .live (.box [cu b, ci m, cu f])), (2, .live (.box [cu 0, ci 0, cu 0]))]) (fun i => m.toNat - i) 0 (by show ((0 : Nat) : Int) ≤ _; omega) (zar _ _ ⟨rfl, rfl, rfl, trivial⟩ ⟨rfl, rfl, trivial⟩ rfl) ?_
  intro i hi
  by_cases hlt : (i : Int) < tzI f
  · have hbt := zgf f i hu (by omega) (by omega)
    rw [zj8 hu h0 (by omega) hlt] at hbt
    repeat (first | (refine zal rfl ?_; first | refine gdr (zaa (.inl rfl) rfl) ?_ | refine gnk 1 rfl (za2 tb rfl rfl rfl rfl rfl) ?_ | refine gnx 1 rfl (zbc tb rfl rfl rfl) rfl ?_ | refine gdr (zaa (.inr rfl) rfl) ?_ | refine gdr (za6 rfl rfl rfl rfl) ?_ | refine gdr (gar rfl rfl rfl rfl) ?_ | refine gdr (zab rfl rfl rfl (hbt) (by kernel_rfl)) ?_) | (refine hK _ ?_; clear hK K) | refine zad rfl ?_ | refine zai rfl rfl ?_ | refine zah rfl rfl ?_ | refine zam ?_ | refine zao ?_ | refine zac (fun K hK => ?_))
    exact ⟨i + 1, by show ((i + 1 : Nat) : Int) ≤ _; omega, by omega, zar _ _ ⟨rfl, rfl, rfl, trivial⟩ ⟨rfl, rfl, trivial⟩ rfl⟩
  · have e : tzI f = i := by omega
    have hbt := zgf f i hu (by omega) (by omega)
    rw [← e, zn7 hu h0, e] at hbt
    have hs := zie f i 0 hu ⟨by omega, by omega⟩ (by omega) (by omega)
    rw [e]
    repeat (first | (refine zal rfl ?_; first | refine gdr (zaa (.inl rfl) rfl) ?_ | refine gnk 1 rfl (za2 tb rfl rfl rfl rfl rfl) ?_ | refine gnx 1 rfl (zbc tb rfl rfl rfl) rfl ?_ | refine gdr (zaa (.inr rfl) rfl) ?_ | refine gdr (za6 rfl rfl rfl rfl) ?_ | refine gdr (gar rfl rfl rfl rfl) ?_ | refine gdr (gcv rfl rfl rfl rfl rfl) ?_ | refine gnk 1 rfl (zbe rfl rfl rfl rfl rfl rfl rfl) ?_ | refine gdr (zab rfl rfl rfl (hbt) (by kernel_rfl)) ?_ | refine gdr (zab rfl rfl rfl (hs) (by kernel_rfl)) ?_) | (refine hK _ ?_; clear hK K) | refine zad rfl ?_ | refine za4 (by kernel_rfl) (by kernel_rfl) rfl ?_ | exact zap (show za8 _ _ _ = some _ by kernel_rfl) | refine zai rfl rfl ?_ | refine zam ?_ | refine zao ?_ | refine zac (fun K hK => ?_))
theorem zvj (b m : Int) (hm : 0 ≤ m ∧ m ≤ 64) : Ok 83 [.ag [cu b, ci m, cu 0]] (.tu [.ag [cu b, ci m, cu 0], iu 0, ii 8]) := by
  refine zaf 28 Tryz.func83 rfl rfl rfl rfl ?_ GG.to
  intro W A hG
  repeat (first | (refine zal rfl ?_; first | refine gdr (zaa (.inr rfl) rfl) ?_ | refine gdr (zag rfl rfl rfl rfl rfl rfl) ?_ | refine gdr (zae rfl rfl rfl rfl rfl) ?_) | (refine hK _ ?_; clear hK K) | refine zad rfl ?_ | refine zam ?_ | refine zac (fun K hK => ?_))
  refine za9 (α := Nat) (fun i => (i : Int) ≤ m) (fun i => St.of [(1, .m (.c (.p 1 0))), (2, .m (.c (.p 2 0))), (5, .m (ii i))] [(1, .live (.box [cu b, ci m, cu 0])), (2, .live (.box [cu 0, ci 0, cu 0]))]) (fun i => m.toNat - i) 0 (by show ((0 : Nat) : Int) ≤ _; omega) (zar _ _ ⟨rfl, rfl, rfl, trivial⟩ ⟨rfl, rfl, trivial⟩ rfl) ?_
  intro i hi
  by_cases hlt : (i : Int) < m
  · have hbt := zgf 0 i ⟨by omega, by omega⟩ (by omega) (by omega)
    rw [zrf i (by omega)] at hbt
    repeat (first | (refine zal rfl ?_; first | refine gdr (zaa (.inl rfl) rfl) ?_ | refine gnk 1 rfl (za2 tb rfl rfl rfl rfl rfl) ?_ | refine gnx 1 rfl (zbc tb rfl rfl rfl) rfl ?_ | refine gdr (zaa (.inr rfl) rfl) ?_ | refine gdr (za6 rfl rfl rfl rfl) ?_ | refine gdr (gar rfl rfl rfl rfl) ?_ | refine gdr (zab rfl rfl rfl (hbt) (by kernel_rfl)) ?_) | (refine hK _ ?_; clear hK K) | refine zad rfl ?_ | refine zai rfl rfl ?_ | refine zah rfl rfl ?_ | refine zam ?_ | refine zao ?_ | refine zac (fun K hK => ?_))
    exact ⟨i + 1, by show ((i + 1 : Nat) : Int) ≤ _; omega, by omega, zar _ _ ⟨rfl, rfl, rfl, trivial⟩ ⟨rfl, rfl, trivial⟩ rfl⟩
  · skip
    repeat (first | (refine zal rfl ?_; first | refine gdr (zaa (.inl rfl) rfl) ?_ | refine gnk 1 rfl (za2 tb rfl rfl rfl rfl rfl) ?_ | refine gnx 1 rfl (zbc tb rfl rfl rfl) rfl ?_ | refine gdr (zaa (.inr rfl) rfl) ?_ | refine gdr (za6 rfl rfl rfl rfl) ?_ | refine gnk 1 rfl (zbe rfl rfl rfl rfl rfl rfl rfl) ?_) | (refine hK _ ?_; clear hK K) | (rename_i K1 hK1; refine hK1 _ ?_; clear hK hK1; clear K) | refine zad rfl ?_ | exact zap (show za8 _ _ _ = some _ by kernel_rfl) | refine zah rfl rfl ?_ | refine zba ?_ | refine zac (fun K hK => ?_))
theorem zkd (m f o : Int) (hm : 0 ≤ m ∧ m ≤ 64) (hf : 0 ≤ f ∧ f < 2 ^ m.toNat) (ho : U o) (h0 : f ≠ 0) : Ok 87 [.ag [ci m, cu f, cu o]] (.tu [.ag [ci m, cu (zg0 f), cu (zg1 f o)], iu (tzI f + 1), ib (zhw o (tzI f)), ii 0]) := by
  have hu : U f := zia hf.1 hf.2 (by omega)
  have ht := zd2 hu hf.2 h0
  refine zaf 38 Tryz.func87 rfl rfl rfl rfl ?_ GG.to
  intro W A hG
  repeat (first | (refine zal rfl ?_; first | refine gdr (zaa (.inr rfl) rfl) ?_ | refine gdr (zag rfl rfl rfl rfl rfl rfl) ?_ | refine gdr (zae rfl rfl rfl rfl rfl) ?_) | (refine hK _ ?_; clear hK K) | refine zad rfl ?_ | refine zam ?_ | refine zac (fun K hK => ?_))
  refine za9 (α := Nat) (fun i => (i : Int) ≤ tzI f) (fun i => St.of [(1, .m (.c (.p 1 0))), (2, .m (.c (.p 2 0))), (6, .m (ii i))] [(1, .live (.box [ci m, cu f, cu o])), (2, .live (.box [ci 0, cu 0, cu 0]))]) (fun i => m.toNat - i) 0 (by show ((0 : Nat) : Int) ≤ _; omega) (zar _ _ ⟨rfl, rfl, rfl, trivial⟩ ⟨rfl, rfl, trivial⟩ rfl) ?_
  intro i hi
  by_cases hlt : (i : Int) < tzI f
  · have hbt := zgf f i hu (by omega) (by omega)
    rw [zj8 hu h0 (by omega) hlt] at hbt
    repeat (first | (refine zal rfl ?_; first | refine gdr (zaa (.inl rfl) rfl) ?_ | refine gnk 1 rfl (za2 tb rfl rfl rfl rfl rfl) ?_ | refine gnx 1 rfl (zbc tb rfl rfl rfl) rfl ?_ | refine gdr (zaa (.inr rfl) rfl) ?_ | refine gdr (za6 rfl rfl rfl rfl) ?_ | refine gdr (gar rfl rfl rfl rfl) ?_ | refine gdr (zab rfl rfl rfl (hbt) (by kernel_rfl)) ?_) | (refine hK _ ?_; clear hK K) | refine zad rfl ?_ | refine zai rfl rfl ?_ | refine zah rfl rfl ?_ | refine zam ?_ | refine zao ?_ | refine zac (fun K hK => ?_))
    exact ⟨i + 1, by show ((i + 1 : Nat) : Int) ≤ _; omega, by omega, zar _ _ ⟨rfl, rfl, rfl, trivial⟩ ⟨rfl, rfl, trivial⟩ rfl⟩
  · have e : tzI f = i := by omega
    have hbt := zgf f i hu (by omega) (by omega)
    rw [← e, zn7 hu h0, e] at hbt
    have hbo := zgf o i ho (by omega) (by omega)
    have hs := zie f i 0 hu ⟨by omega, by omega⟩ (by omega) (by omega)
    have hs2 := zie o i 1 ho ⟨by omega, by omega⟩ (by omega) (by omega)
    unfold zg0 zg1
    rw [e]
    repeat (first | (refine zal rfl ?_; first | refine gdr (zaa (.inl rfl) rfl) ?_ | refine gnk 1 rfl (za2 tb rfl rfl rfl rfl rfl) ?_ | refine gnx 1 rfl (zbc tb rfl rfl rfl) rfl ?_ | refine gdr (zaa (.inr rfl) rfl) ?_ | refine gdr (za6 rfl rfl rfl rfl) ?_ | refine gdr (gar rfl rfl rfl rfl) ?_ | refine gdr (gcv rfl rfl rfl rfl rfl) ?_ | refine gnk 1 rfl (zbe rfl rfl rfl rfl rfl rfl rfl) ?_ | (refine zh6 17 rfl ?_; refine gdr (zab rfl rfl rfl (hbt) (by kernel_rfl)) ?_) | (refine zh6 21 rfl ?_; refine gdr (zab rfl rfl rfl (hbo) (by kernel_rfl)) ?_) | (refine zh6 25 rfl ?_; refine gdr (zab rfl rfl rfl (hs) (by kernel_rfl)) ?_) | (refine zh6 30 rfl ?_; refine gdr (zab rfl rfl rfl (hs2) (by kernel_rfl)) ?_)) | (refine hK _ ?_; clear hK K) | refine zad rfl ?_ | exact zap (show za8 _ _ _ = some _ by kernel_rfl) | refine zai rfl rfl ?_ | refine zam ?_ | refine zao ?_ | refine zac (fun K hK => ?_))
theorem zvk (m o : Int) (hm : 0 ≤ m ∧ m ≤ 64) : Ok 87 [.ag [ci m, cu 0, cu o]] (.tu [.ag [ci m, cu 0, cu o], iu 0, ib false, ii 9]) := by
  refine zaf 38 Tryz.func87 rfl rfl rfl rfl ?_ GG.to
  intro W A hG
  repeat (first | (refine zal rfl ?_; first | refine gdr (zaa (.inr rfl) rfl) ?_ | refine gdr (zag rfl rfl rfl rfl rfl rfl) ?_ | refine gdr (zae rfl rfl rfl rfl rfl) ?_) | (refine hK _ ?_; clear hK K) | refine zad rfl ?_ | refine zam ?_ | refine zac (fun K hK => ?_))
  refine za9 (α := Nat) (fun i => (i : Int) ≤ m) (fun i => St.of [(1, .m (.c (.p 1 0))), (2, .m (.c (.p 2 0))), (6, .m (ii i))] [(1, .live (.box [ci m, cu 0, cu o])), (2, .live (.box [ci 0, cu 0, cu 0]))]) (fun i => m.toNat - i) 0 (by show ((0 : Nat) : Int) ≤ _; omega) (zar _ _ ⟨rfl, rfl, rfl, trivial⟩ ⟨rfl, rfl, trivial⟩ rfl) ?_
  intro i hi
  by_cases hlt : (i : Int) < m
  · have hbt := zgf 0 i ⟨by omega, by omega⟩ (by omega) (by omega)
    rw [zrf i (by omega)] at hbt
    repeat (first | (refine zal rfl ?_; first | refine gdr (zaa (.inl rfl) rfl) ?_ | refine gnk 1 rfl (za2 tb rfl rfl rfl rfl rfl) ?_ | refine gnx 1 rfl (zbc tb rfl rfl rfl) rfl ?_ | refine gdr (zaa (.inr rfl) rfl) ?_ | refine gdr (za6 rfl rfl rfl rfl) ?_ | refine gdr (gar rfl rfl rfl rfl) ?_ | refine gdr (zab rfl rfl rfl (hbt) (by kernel_rfl)) ?_) | (refine hK _ ?_; clear hK K) | refine zad rfl ?_ | refine zai rfl rfl ?_ | refine zah rfl rfl ?_ | refine zam ?_ | refine zao ?_ | refine zac (fun K hK => ?_))
    exact ⟨i + 1, by show ((i + 1 : Nat) : Int) ≤ _; omega, by omega, zar _ _ ⟨rfl, rfl, rfl, trivial⟩ ⟨rfl, rfl, trivial⟩ rfl⟩
  · skip
    repeat (first | (refine zal rfl ?_; first | refine gdr (zaa (.inl rfl) rfl) ?_ | refine gnk 1 rfl (za2 tb rfl rfl rfl rfl rfl) ?_ | refine gnx 1 rfl (zbc tb rfl rfl rfl) rfl ?_ | refine gdr (zaa (.inr rfl) rfl) ?_ | refine gdr (za6 rfl rfl rfl rfl) ?_ | refine gnk 1 rfl (zbe rfl rfl rfl rfl rfl rfl rfl) ?_) | (refine hK _ ?_; clear hK K) | (rename_i K1 hK1; refine hK1 _ ?_; clear hK hK1; clear K) | refine zad rfl ?_ | exact zap (show za8 _ _ _ = some _ by kernel_rfl) | refine zah rfl rfl ?_ | refine zba ?_ | refine zac (fun K hK => ?_))
theorem z0x (b m f n : Int) (hb : 0 ≤ b ∧ b ≤ 268435456) (hm : 0 ≤ m ∧ m ≤ 64) (hf : U f) (hn : U n) : Ok 176 [.ag [cu b, ci m, cu f], iu n] (.m (ib (PoolC.isP b m f n))) := by
  by_cases hin : b ≤ n ∧ n - b < m
  · rw [show PoolC.isP b m f n = !zhw f (n - b) by
      unfold PoolC.isP PoolC.inP
      rw [decide_eq_true hin.1, decide_eq_true hin.2, zrg _ _ (by omega)]; rfl]
    refine zaf 24 Tryz.func176 rfl rfl rfl rfl ?_ GG.to
    intro W A hG
    repeat (first | (refine zal rfl ?_; first | refine gdr (zaw rfl) ?_ | refine gdr (zaa (.inl rfl) rfl) ?_ | refine gnk 1 rfl (za2 tb rfl rfl rfl rfl rfl) ?_ | refine gnx 1 rfl (zbc tb rfl rfl rfl) rfl ?_ | refine gdr (zaa (.inr rfl) rfl) ?_ | refine gdr (zaj rfl rfl rfl) ?_ | refine gdr (zak rfl rfl rfl rfl) ?_ | refine gdr (zb3 tb rfl rfl rfl rfl rfl rfl) ?_ | refine gdr (za6 rfl rfl rfl rfl) ?_ | refine gdr (gar rfl rfl rfl rfl) ?_ | refine gdr (gcv rfl rfl rfl rfl rfl) ?_ | refine gdr (zbs rfl rfl rfl rfl (by omega) (by omega) (by first | exact zdb (by omega) (by omega) | exact zdc (by omega) (by omega))) ?_ | refine gdr (zb1 rfl rfl rfl rfl (by omega) (by omega)) ?_ | refine gdr (zag rfl rfl rfl rfl rfl rfl) ?_ | refine gdr (zae rfl rfl rfl rfl rfl) ?_ | refine gnk 1 rfl (zbe rfl rfl rfl rfl rfl rfl rfl) ?_ | refine gdr (zan rfl rfl rfl rfl) ?_ | refine gnx 3 rfl (zau tb rfl rfl rfl rfl (by first | kernel_rfl | rfl)) rfl ?_ | refine gnx 3 rfl (za0 tb rfl rfl rfl rfl) rfl ?_ | refine gdr (zas rfl rfl rfl) ?_ | refine gdr (zaq rfl rfl rfl rfl) ?_ | refine gdr (zcb rfl rfl rfl rfl) ?_ | refine gnx 4 rfl (zav rfl rfl rfl rfl rfl rfl (by omega) (by omega) _ (by assumption)) rfl ?_ | refine gnx 5 rfl (zb7 rfl rfl rfl rfl rfl rfl rfl rfl rfl (by first | omega | (simp; omega)) rfl) rfl ?_ | refine gnx 5 rfl (zcf tb rfl rfl rfl rfl rfl rfl) rfl ?_ | refine gnx 2 rfl (zc2 rfl rfl rfl rfl rfl rfl rfl (by omega) (by omega)) rfl ?_ | refine gnx 1 rfl (zb4 rfl rfl rfl rfl rfl rfl (by omega) (by omega)) rfl ?_ | refine gdr (zb5 tb rfl rfl rfl rfl rfl rfl (by omega) (by omega) rfl) ?_ | refine gdr (zc1 rfl rfl rfl rfl rfl) ?_ | refine gdr (zcr rfl rfl rfl rfl) ?_ | refine gnx 5 rfl (zcn tb rfl rfl rfl rfl) rfl ?_ | refine gdr (zax rfl rfl rfl rfl rfl rfl rfl rfl rfl rfl rfl) ?_ | refine gdr (zbl rfl rfl rfl rfl rfl rfl rfl) ?_ | refine gdr (zcv rfl rfl rfl rfl rfl) ?_ | refine gdr (zco rfl rfl rfl rfl rfl) ?_ | refine gdr (zcm rfl rfl rfl) ?_ | refine gnx 6 rfl (zbk rfl rfl rfl rfl rfl rfl (by omega) (by omega)) rfl ?_ | refine gdr (zch rfl rfl rfl rfl) ?_ | refine gdr (zby rfl rfl rfl rfl rfl rfl rfl rfl rfl rfl) ?_) | (refine hK _ ?_; clear hK K) | (rename_i K1 hK1; refine hK1 _ ?_; clear hK hK1; clear K) | (rename_i K1 hK1; refine hK1 _ ?_; clear hK1) | refine zad rfl ?_ | refine za4 (by kernel_rfl) (by kernel_rfl) rfl ?_ | exact zap (show za8 _ _ _ = some _ by kernel_rfl) | refine zai rfl rfl ?_ | refine zah rfl rfl ?_ | refine zam ?_ | refine zba ?_ | refine zao ?_ | refine zac (fun K hK => ?_) | refine zeb ?_ | refine ze9 ?_ | refine zap (show za8 _ _ _ = some _ ∧ EndB _ _ from ⟨by kernel_rfl, ?_⟩))
    refine za9 (α := Nat) (fun i => (i : Int) ≤ n - b) (fun i => St.of [(1, .m (iu n)), (2, .m (.c (.p 2 0))), (5, .m (ii i))] [(2, .live (.box [cu b, ci m, cu f]))]) (fun i => m.toNat - i) 0 (by show ((0 : Nat) : Int) ≤ _; omega) (zar _ _ ⟨rfl, rfl, rfl, trivial⟩ ⟨rfl, trivial⟩ rfl) ?_
    intro i hi
    by_cases hlt : (i : Int) < n - b
    · skip
      repeat (first | (refine zal rfl ?_; first | refine gdr (zaw rfl) ?_ | refine gdr (zaa (.inl rfl) rfl) ?_ | refine gnk 1 rfl (za2 tb rfl rfl rfl rfl rfl) ?_ | refine gnx 1 rfl (zbc tb rfl rfl rfl) rfl ?_ | refine gdr (zaa (.inr rfl) rfl) ?_ | refine gdr (zaj rfl rfl rfl) ?_ | refine gdr (zak rfl rfl rfl rfl) ?_ | refine gdr (zb3 tb rfl rfl rfl rfl rfl rfl) ?_ | refine gdr (za6 rfl rfl rfl rfl) ?_ | refine gdr (gar rfl rfl rfl rfl) ?_ | refine gdr (gcv rfl rfl rfl rfl rfl) ?_ | refine gdr (zbs rfl rfl rfl rfl (by omega) (by omega) (by first | exact zdb (by omega) (by omega) | exact zdc (by omega) (by omega))) ?_ | refine gdr (zb1 rfl rfl rfl rfl (by omega) (by omega)) ?_ | refine gdr (zag rfl rfl rfl rfl rfl rfl) ?_ | refine gdr (zae rfl rfl rfl rfl rfl) ?_ | refine gnk 1 rfl (zbe rfl rfl rfl rfl rfl rfl rfl) ?_ | refine gdr (zan rfl rfl rfl rfl) ?_ | refine gnx 3 rfl (zau tb rfl rfl rfl rfl (by first | kernel_rfl | rfl)) rfl ?_ | refine gnx 3 rfl (za0 tb rfl rfl rfl rfl) rfl ?_ | refine gdr (zas rfl rfl rfl) ?_ | refine gdr (zaq rfl rfl rfl rfl) ?_ | refine gdr (zcb rfl rfl rfl rfl) ?_ | refine gnx 4 rfl (zav rfl rfl rfl rfl rfl rfl (by omega) (by omega) _ (by assumption)) rfl ?_ | refine gnx 5 rfl (zb7 rfl rfl rfl rfl rfl rfl rfl rfl rfl (by first | omega | (simp; omega)) rfl) rfl ?_ | refine gnx 5 rfl (zcf tb rfl rfl rfl rfl rfl rfl) rfl ?_ | refine gnx 2 rfl (zc2 rfl rfl rfl rfl rfl rfl rfl (by omega) (by omega)) rfl ?_ | refine gnx 1 rfl (zb4 rfl rfl rfl rfl rfl rfl (by omega) (by omega)) rfl ?_ | refine gdr (zb5 tb rfl rfl rfl rfl rfl rfl (by omega) (by omega) rfl) ?_ | refine gdr (zc1 rfl rfl rfl rfl rfl) ?_ | refine gdr (zcr rfl rfl rfl rfl) ?_ | refine gnx 5 rfl (zcn tb rfl rfl rfl rfl) rfl ?_ | refine gdr (zax rfl rfl rfl rfl rfl rfl rfl rfl rfl rfl rfl) ?_ | refine gdr (zbl rfl rfl rfl rfl rfl rfl rfl) ?_ | refine gdr (zcv rfl rfl rfl rfl rfl) ?_ | refine gdr (zco rfl rfl rfl rfl rfl) ?_ | refine gdr (zcm rfl rfl rfl) ?_ | refine gnx 6 rfl (zbk rfl rfl rfl rfl rfl rfl (by omega) (by omega)) rfl ?_ | refine gdr (zch rfl rfl rfl rfl) ?_ | refine gdr (zby rfl rfl rfl rfl rfl rfl rfl rfl rfl rfl) ?_) | (refine hK _ ?_; clear hK K) | (rename_i K1 hK1; refine hK1 _ ?_; clear hK hK1; clear K) | (rename_i K1 hK1; refine hK1 _ ?_; clear hK1) | refine zad rfl ?_ | refine za4 (by kernel_rfl) (by kernel_rfl) rfl ?_ | exact zap (show za8 _ _ _ = some _ by kernel_rfl) | refine zai rfl rfl ?_ | refine zah rfl rfl ?_ | refine zam ?_ | refine zba ?_ | refine zao ?_ | refine zac (fun K hK => ?_) | refine zeb ?_ | refine ze9 ?_ | refine zap (show za8 _ _ _ = some _ ∧ EndB _ _ from ⟨by kernel_rfl, ?_⟩))
      exact ⟨i + 1, by show ((i + 1 : Nat) : Int) ≤ _; omega, by omega, zar _ _ ⟨rfl, rfl, rfl, trivial⟩ ⟨rfl, trivial⟩ rfl⟩
    · have e : n - b = i := by omega
      have hbt := zgf f i hf (by omega) (by omega)
      rw [e]
      repeat (first | (refine zal rfl ?_; first | refine gdr (zaw rfl) ?_ | refine gdr (zaa (.inl rfl) rfl) ?_ | refine gnk 1 rfl (za2 tb rfl rfl rfl rfl rfl) ?_ | refine gnx 1 rfl (zbc tb rfl rfl rfl) rfl ?_ | refine gdr (zaa (.inr rfl) rfl) ?_ | refine gdr (zaj rfl rfl rfl) ?_ | refine gdr (zak rfl rfl rfl rfl) ?_ | refine gdr (zb3 tb rfl rfl rfl rfl rfl rfl) ?_ | refine gdr (za6 rfl rfl rfl rfl) ?_ | refine gdr (gar rfl rfl rfl rfl) ?_ | refine gdr (gcv rfl rfl rfl rfl rfl) ?_ | refine gdr (zbs rfl rfl rfl rfl (by omega) (by omega) (by first | exact zdb (by omega) (by omega) | exact zdc (by omega) (by omega))) ?_ | refine gdr (zb1 rfl rfl rfl rfl (by omega) (by omega)) ?_ | refine gdr (zag rfl rfl rfl rfl rfl rfl) ?_ | refine gdr (zae rfl rfl rfl rfl rfl) ?_ | refine gnk 1 rfl (zbe rfl rfl rfl rfl rfl rfl rfl) ?_ | refine gdr (zan rfl rfl rfl rfl) ?_ | refine gnx 3 rfl (zau tb rfl rfl rfl rfl (by first | kernel_rfl | rfl)) rfl ?_ | refine gnx 3 rfl (za0 tb rfl rfl rfl rfl) rfl ?_ | refine gdr (zas rfl rfl rfl) ?_ | refine gdr (zaq rfl rfl rfl rfl) ?_ | refine gdr (zcb rfl rfl rfl rfl) ?_ | refine gnx 4 rfl (zav rfl rfl rfl rfl rfl rfl (by omega) (by omega) _ (by assumption)) rfl ?_ | refine gnx 5 rfl (zb7 rfl rfl rfl rfl rfl rfl rfl rfl rfl (by first | omega | (simp; omega)) rfl) rfl ?_ | refine gnx 5 rfl (zcf tb rfl rfl rfl rfl rfl rfl) rfl ?_ | refine gnx 2 rfl (zc2 rfl rfl rfl rfl rfl rfl rfl (by omega) (by omega)) rfl ?_ | refine gnx 1 rfl (zb4 rfl rfl rfl rfl rfl rfl (by omega) (by omega)) rfl ?_ | refine gdr (zb5 tb rfl rfl rfl rfl rfl rfl (by omega) (by omega) rfl) ?_ | refine gdr (zc1 rfl rfl rfl rfl rfl) ?_ | refine gdr (zcr rfl rfl rfl rfl) ?_ | refine gnx 5 rfl (zcn tb rfl rfl rfl rfl) rfl ?_ | refine gdr (zax rfl rfl rfl rfl rfl rfl rfl rfl rfl rfl rfl) ?_ | refine gdr (zbl rfl rfl rfl rfl rfl rfl rfl) ?_ | refine gdr (zcv rfl rfl rfl rfl rfl) ?_ | refine gdr (zco rfl rfl rfl rfl rfl) ?_ | refine gdr (zcm rfl rfl rfl) ?_ | refine gnx 6 rfl (zbk rfl rfl rfl rfl rfl rfl (by omega) (by omega)) rfl ?_ | refine gdr (zch rfl rfl rfl rfl) ?_ | refine gdr (zby rfl rfl rfl rfl rfl rfl rfl rfl rfl rfl) ?_ | refine gdr (zab rfl rfl rfl (hbt) (by kernel_rfl)) ?_) | (refine hK _ ?_; clear hK K) | (rename_i K1 hK1; refine hK1 _ ?_; clear hK hK1; clear K) | (rename_i K1 hK1; refine hK1 _ ?_; clear hK1) | refine zad rfl ?_ | refine za4 (by kernel_rfl) (by kernel_rfl) rfl ?_ | exact zap (show za8 _ _ _ = some _ by kernel_rfl) | refine zai rfl rfl ?_ | refine zah rfl rfl ?_ | refine zam ?_ | refine zba ?_ | refine zao ?_ | refine zac (fun K hK => ?_) | refine zeb ?_ | refine ze9 ?_ | refine zap (show za8 _ _ _ = some _ ∧ EndB _ _ from ⟨by kernel_rfl, ?_⟩))
  · rw [show PoolC.isP b m f n = false by
      unfold PoolC.isP PoolC.inP
      by_cases h1 : b ≤ n
      · rw [decide_eq_false (show ¬ n - b < m by omega), Bool.and_false, Bool.false_and]
      · rw [decide_eq_false h1, Bool.false_and, Bool.false_and]]
    refine zaf 24 Tryz.func176 rfl rfl rfl rfl ?_ GG.to
    intro W A hG
    repeat (first | (refine zal rfl ?_; first | refine gdr (zaw rfl) ?_ | refine gdr (zaa (.inl rfl) rfl) ?_ | refine gnk 1 rfl (za2 tb rfl rfl rfl rfl rfl) ?_ | refine gnx 1 rfl (zbc tb rfl rfl rfl) rfl ?_ | refine gdr (zaa (.inr rfl) rfl) ?_ | refine gdr (zaj rfl rfl rfl) ?_ | refine gdr (zak rfl rfl rfl rfl) ?_ | refine gdr (zb3 tb rfl rfl rfl rfl rfl rfl) ?_ | refine gdr (za6 rfl rfl rfl rfl) ?_ | refine gdr (gar rfl rfl rfl rfl) ?_ | refine gdr (gcv rfl rfl rfl rfl rfl) ?_ | refine gdr (zbs rfl rfl rfl rfl (by omega) (by omega) (by first | exact zdb (by omega) (by omega) | exact zdc (by omega) (by omega))) ?_ | refine gdr (zb1 rfl rfl rfl rfl (by omega) (by omega)) ?_ | refine gdr (zag rfl rfl rfl rfl rfl rfl) ?_ | refine gdr (zae rfl rfl rfl rfl rfl) ?_ | refine gnk 1 rfl (zbe rfl rfl rfl rfl rfl rfl rfl) ?_ | refine gdr (zan rfl rfl rfl rfl) ?_ | refine gnx 3 rfl (zau tb rfl rfl rfl rfl (by first | kernel_rfl | rfl)) rfl ?_ | refine gnx 3 rfl (za0 tb rfl rfl rfl rfl) rfl ?_ | refine gdr (zas rfl rfl rfl) ?_ | refine gdr (zaq rfl rfl rfl rfl) ?_ | refine gdr (zcb rfl rfl rfl rfl) ?_ | refine gnx 4 rfl (zav rfl rfl rfl rfl rfl rfl (by omega) (by omega) _ (by assumption)) rfl ?_ | refine gnx 5 rfl (zb7 rfl rfl rfl rfl rfl rfl rfl rfl rfl (by first | omega | (simp; omega)) rfl) rfl ?_ | refine gnx 5 rfl (zcf tb rfl rfl rfl rfl rfl rfl) rfl ?_ | refine gnx 2 rfl (zc2 rfl rfl rfl rfl rfl rfl rfl (by omega) (by omega)) rfl ?_ | refine gnx 1 rfl (zb4 rfl rfl rfl rfl rfl rfl (by omega) (by omega)) rfl ?_ | refine gdr (zb5 tb rfl rfl rfl rfl rfl rfl (by omega) (by omega) rfl) ?_ | refine gdr (zc1 rfl rfl rfl rfl rfl) ?_ | refine gdr (zcr rfl rfl rfl rfl) ?_ | refine gnx 5 rfl (zcn tb rfl rfl rfl rfl) rfl ?_ | refine gdr (zax rfl rfl rfl rfl rfl rfl rfl rfl rfl rfl rfl) ?_ | refine gdr (zbl rfl rfl rfl rfl rfl rfl rfl) ?_ | refine gdr (zcv rfl rfl rfl rfl rfl) ?_ | refine gdr (zco rfl rfl rfl rfl rfl) ?_ | refine gdr (zcm rfl rfl rfl) ?_ | refine gnx 6 rfl (zbk rfl rfl rfl rfl rfl rfl (by omega) (by omega)) rfl ?_ | refine gdr (zch rfl rfl rfl rfl) ?_ | refine gdr (zby rfl rfl rfl rfl rfl rfl rfl rfl rfl rfl) ?_) | (refine hK _ ?_; clear hK K) | (rename_i K1 hK1; refine hK1 _ ?_; clear hK hK1; clear K) | (rename_i K1 hK1; refine hK1 _ ?_; clear hK1) | refine zad rfl ?_ | refine za4 (by kernel_rfl) (by kernel_rfl) rfl ?_ | exact zap (show za8 _ _ _ = some _ by kernel_rfl) | refine zai rfl rfl ?_ | refine zah rfl rfl ?_ | refine zam ?_ | refine zba ?_ | refine zao ?_ | refine zac (fun K hK => ?_) | refine zeb ?_ | refine ze9 ?_ | refine zap (show za8 _ _ _ = some _ ∧ EndB _ _ from ⟨by kernel_rfl, ?_⟩))
    refine za9 (α := Nat) (fun i => (i : Int) ≤ m) (fun i => St.of [(1, .m (iu n)), (2, .m (.c (.p 2 0))), (5, .m (ii i))] [(2, .live (.box [cu b, ci m, cu f]))]) (fun i => m.toNat - i) 0 (by show ((0 : Nat) : Int) ≤ _; omega) (zar _ _ ⟨rfl, rfl, rfl, trivial⟩ ⟨rfl, trivial⟩ rfl) ?_
    intro i hi
    by_cases hlt : (i : Int) < m
    · skip
      repeat (first | (refine zal rfl ?_; first | refine gdr (zaw rfl) ?_ | refine gdr (zaa (.inl rfl) rfl) ?_ | refine gnk 1 rfl (za2 tb rfl rfl rfl rfl rfl) ?_ | refine gnx 1 rfl (zbc tb rfl rfl rfl) rfl ?_ | refine gdr (zaa (.inr rfl) rfl) ?_ | refine gdr (zaj rfl rfl rfl) ?_ | refine gdr (zak rfl rfl rfl rfl) ?_ | refine gdr (zb3 tb rfl rfl rfl rfl rfl rfl) ?_ | refine gdr (za6 rfl rfl rfl rfl) ?_ | refine gdr (gar rfl rfl rfl rfl) ?_ | refine gdr (gcv rfl rfl rfl rfl rfl) ?_ | refine gdr (zbs rfl rfl rfl rfl (by omega) (by omega) (by first | exact zdb (by omega) (by omega) | exact zdc (by omega) (by omega))) ?_ | refine gdr (zb1 rfl rfl rfl rfl (by omega) (by omega)) ?_ | refine gdr (zag rfl rfl rfl rfl rfl rfl) ?_ | refine gdr (zae rfl rfl rfl rfl rfl) ?_ | refine gnk 1 rfl (zbe rfl rfl rfl rfl rfl rfl rfl) ?_ | refine gdr (zan rfl rfl rfl rfl) ?_ | refine gnx 3 rfl (zau tb rfl rfl rfl rfl (by first | kernel_rfl | rfl)) rfl ?_ | refine gnx 3 rfl (za0 tb rfl rfl rfl rfl) rfl ?_ | refine gdr (zas rfl rfl rfl) ?_ | refine gdr (zaq rfl rfl rfl rfl) ?_ | refine gdr (zcb rfl rfl rfl rfl) ?_ | refine gnx 4 rfl (zav rfl rfl rfl rfl rfl rfl (by omega) (by omega) _ (by assumption)) rfl ?_ | refine gnx 5 rfl (zb7 rfl rfl rfl rfl rfl rfl rfl rfl rfl (by first | omega | (simp; omega)) rfl) rfl ?_ | refine gnx 5 rfl (zcf tb rfl rfl rfl rfl rfl rfl) rfl ?_ | refine gnx 2 rfl (zc2 rfl rfl rfl rfl rfl rfl rfl (by omega) (by omega)) rfl ?_ | refine gnx 1 rfl (zb4 rfl rfl rfl rfl rfl rfl (by omega) (by omega)) rfl ?_ | refine gdr (zb5 tb rfl rfl rfl rfl rfl rfl (by omega) (by omega) rfl) ?_ | refine gdr (zc1 rfl rfl rfl rfl rfl) ?_ | refine gdr (zcr rfl rfl rfl rfl) ?_ | refine gnx 5 rfl (zcn tb rfl rfl rfl rfl) rfl ?_ | refine gdr (zax rfl rfl rfl rfl rfl rfl rfl rfl rfl rfl rfl) ?_ | refine gdr (zbl rfl rfl rfl rfl rfl rfl rfl) ?_ | refine gdr (zcv rfl rfl rfl rfl rfl) ?_ | refine gdr (zco rfl rfl rfl rfl rfl) ?_ | refine gdr (zcm rfl rfl rfl) ?_ | refine gnx 6 rfl (zbk rfl rfl rfl rfl rfl rfl (by omega) (by omega)) rfl ?_ | refine gdr (zch rfl rfl rfl rfl) ?_ | refine gdr (zby rfl rfl rfl rfl rfl rfl rfl rfl rfl rfl) ?_) | (refine hK _ ?_; clear hK K) | (rename_i K1 hK1; refine hK1 _ ?_; clear hK hK1; clear K) | (rename_i K1 hK1; refine hK1 _ ?_; clear hK1) | refine zad rfl ?_ | refine za4 (by kernel_rfl) (by kernel_rfl) rfl ?_ | exact zap (show za8 _ _ _ = some _ by kernel_rfl) | refine zai rfl rfl ?_ | refine zah rfl rfl ?_ | refine zam ?_ | refine zba ?_ | refine zao ?_ | refine zac (fun K hK => ?_) | refine zeb ?_ | refine ze9 ?_ | refine zap (show za8 _ _ _ = some _ ∧ EndB _ _ from ⟨by kernel_rfl, ?_⟩))
      exact ⟨i + 1, by show ((i + 1 : Nat) : Int) ≤ _; omega, by omega, zar _ _ ⟨rfl, rfl, rfl, trivial⟩ ⟨rfl, trivial⟩ rfl⟩
    · skip
      repeat (first | (refine zal rfl ?_; first | refine gdr (zaw rfl) ?_ | refine gdr (zaa (.inl rfl) rfl) ?_ | refine gnk 1 rfl (za2 tb rfl rfl rfl rfl rfl) ?_ | refine gnx 1 rfl (zbc tb rfl rfl rfl) rfl ?_ | refine gdr (zaa (.inr rfl) rfl) ?_ | refine gdr (zaj rfl rfl rfl) ?_ | refine gdr (zak rfl rfl rfl rfl) ?_ | refine gdr (zb3 tb rfl rfl rfl rfl rfl rfl) ?_ | refine gdr (za6 rfl rfl rfl rfl) ?_ | refine gdr (gar rfl rfl rfl rfl) ?_ | refine gdr (gcv rfl rfl rfl rfl rfl) ?_ | refine gdr (zbs rfl rfl rfl rfl (by omega) (by omega) (by first | exact zdb (by omega) (by omega) | exact zdc (by omega) (by omega))) ?_ | refine gdr (zb1 rfl rfl rfl rfl (by omega) (by omega)) ?_ | refine gdr (zag rfl rfl rfl rfl rfl rfl) ?_ | refine gdr (zae rfl rfl rfl rfl rfl) ?_ | refine gnk 1 rfl (zbe rfl rfl rfl rfl rfl rfl rfl) ?_ | refine gdr (zan rfl rfl rfl rfl) ?_ | refine gnx 3 rfl (zau tb rfl rfl rfl rfl (by first | kernel_rfl | rfl)) rfl ?_ | refine gnx 3 rfl (za0 tb rfl rfl rfl rfl) rfl ?_ | refine gdr (zas rfl rfl rfl) ?_ | refine gdr (zaq rfl rfl rfl rfl) ?_ | refine gdr (zcb rfl rfl rfl rfl) ?_ | refine gnx 4 rfl (zav rfl rfl rfl rfl rfl rfl (by omega) (by omega) _ (by assumption)) rfl ?_ | refine gnx 5 rfl (zb7 rfl rfl rfl rfl rfl rfl rfl rfl rfl (by first | omega | (simp; omega)) rfl) rfl ?_ | refine gnx 5 rfl (zcf tb rfl rfl rfl rfl rfl rfl) rfl ?_ | refine gnx 2 rfl (zc2 rfl rfl rfl rfl rfl rfl rfl (by omega) (by omega)) rfl ?_ | refine gnx 1 rfl (zb4 rfl rfl rfl rfl rfl rfl (by omega) (by omega)) rfl ?_ | refine gdr (zb5 tb rfl rfl rfl rfl rfl rfl (by omega) (by omega) rfl) ?_ | refine gdr (zc1 rfl rfl rfl rfl rfl) ?_ | refine gdr (zcr rfl rfl rfl rfl) ?_ | refine gnx 5 rfl (zcn tb rfl rfl rfl rfl) rfl ?_ | refine gdr (zax rfl rfl rfl rfl rfl rfl rfl rfl rfl rfl rfl) ?_ | refine gdr (zbl rfl rfl rfl rfl rfl rfl rfl) ?_ | refine gdr (zcv rfl rfl rfl rfl rfl) ?_ | refine gdr (zco rfl rfl rfl rfl rfl) ?_ | refine gdr (zcm rfl rfl rfl) ?_ | refine gnx 6 rfl (zbk rfl rfl rfl rfl rfl rfl (by omega) (by omega)) rfl ?_ | refine gdr (zch rfl rfl rfl rfl) ?_ | refine gdr (zby rfl rfl rfl rfl rfl rfl rfl rfl rfl rfl) ?_) | (refine hK _ ?_; clear hK K) | (rename_i K1 hK1; refine hK1 _ ?_; clear hK hK1; clear K) | (rename_i K1 hK1; refine hK1 _ ?_; clear hK1) | refine zad rfl ?_ | refine za4 (by kernel_rfl) (by kernel_rfl) rfl ?_ | exact zap (show za8 _ _ _ = some _ by kernel_rfl) | refine zai rfl rfl ?_ | refine zah rfl rfl ?_ | refine zam ?_ | refine zba ?_ | refine zao ?_ | refine zac (fun K hK => ?_) | refine zeb ?_ | refine ze9 ?_ | refine zap (show za8 _ _ _ = some _ ∧ EndB _ _ from ⟨by kernel_rfl, ?_⟩))
def z21 (b m f n : Int) : Int := if PoolC.isP b m f n then 0 else 1
theorem zvl (b m f n : Int) (hb : 0 ≤ b ∧ b ≤ 268435456) (hm : 0 ≤ m ∧ m ≤ 64) (hf : U f) (hn : U n) : Ok 148 [.ag [cu b, ci m, cu f], iu n] (.tu [.ag [cu b, ci m, cu (TableC2.zdn b m f n)], ii (z21 b m f n)]) := by
  have hi := z0x b m f n hb hm hf hn
  unfold TableC2.zdn z21
  cases hp : PoolC.isP b m f n with
  | false =>
    rw [hp] at hi
    refine zaf 21 Tryz.func148 rfl rfl rfl rfl ?_ GG.to
    intro W A hG
    repeat (first | (refine zal rfl ?_; first | refine gdr (zaw rfl) ?_ | refine gdr (zaa (.inl rfl) rfl) ?_ | refine gnk 1 rfl (za2 tb rfl rfl rfl rfl rfl) ?_ | refine gnx 1 rfl (zbc tb rfl rfl rfl) rfl ?_ | refine gdr (zaa (.inr rfl) rfl) ?_ | refine gdr (zaj rfl rfl rfl) ?_ | refine gdr (zak rfl rfl rfl rfl) ?_ | refine gdr (zb3 tb rfl rfl rfl rfl rfl rfl) ?_ | refine gdr (za6 rfl rfl rfl rfl) ?_ | refine gdr (gar rfl rfl rfl rfl) ?_ | refine gdr (gcv rfl rfl rfl rfl rfl) ?_ | refine gdr (zbs rfl rfl rfl rfl (by omega) (by omega) (by first | exact zdb (by omega) (by omega) | exact zdc (by omega) (by omega))) ?_ | refine gdr (zb1 rfl rfl rfl rfl (by omega) (by omega)) ?_ | refine gdr (zag rfl rfl rfl rfl rfl rfl) ?_ | refine gdr (zae rfl rfl rfl rfl rfl) ?_ | refine gnk 1 rfl (zbe rfl rfl rfl rfl rfl rfl rfl) ?_ | refine gdr (zan rfl rfl rfl rfl) ?_ | refine gnx 3 rfl (zau tb rfl rfl rfl rfl (by first | kernel_rfl | rfl)) rfl ?_ | refine gnx 3 rfl (za0 tb rfl rfl rfl rfl) rfl ?_ | refine gdr (zas rfl rfl rfl) ?_ | refine gdr (zaq rfl rfl rfl rfl) ?_ | refine gdr (zcb rfl rfl rfl rfl) ?_ | refine gnx 4 rfl (zav rfl rfl rfl rfl rfl rfl (by omega) (by omega) _ (by assumption)) rfl ?_ | refine gnx 5 rfl (zb7 rfl rfl rfl rfl rfl rfl rfl rfl rfl (by first | omega | (simp; omega)) rfl) rfl ?_ | refine gnx 5 rfl (zcf tb rfl rfl rfl rfl rfl rfl) rfl ?_ | refine gnx 2 rfl (zc2 rfl rfl rfl rfl rfl rfl rfl (by omega) (by omega)) rfl ?_ | refine gnx 1 rfl (zb4 rfl rfl rfl rfl rfl rfl (by omega) (by omega)) rfl ?_ | refine gdr (zb5 tb rfl rfl rfl rfl rfl rfl (by omega) (by omega) rfl) ?_ | refine gdr (zc1 rfl rfl rfl rfl rfl) ?_ | refine gdr (zcr rfl rfl rfl rfl) ?_ | refine gnx 5 rfl (zcn tb rfl rfl rfl rfl) rfl ?_ | refine gdr (zax rfl rfl rfl rfl rfl rfl rfl rfl rfl rfl rfl) ?_ | refine gdr (zbl rfl rfl rfl rfl rfl rfl rfl) ?_ | refine gdr (zcv rfl rfl rfl rfl rfl) ?_ | refine gdr (zco rfl rfl rfl rfl rfl) ?_ | refine gdr (zcm rfl rfl rfl) ?_ | refine gnx 6 rfl (zbk rfl rfl rfl rfl rfl rfl (by omega) (by omega)) rfl ?_ | refine gdr (zch rfl rfl rfl rfl) ?_ | refine gdr (zby rfl rfl rfl rfl rfl rfl rfl rfl rfl rfl) ?_ | refine gdr (zab rfl rfl rfl (hi) (by kernel_rfl)) ?_) | (refine hK _ ?_; clear hK K) | (rename_i K1 hK1; refine hK1 _ ?_; clear hK hK1; clear K) | (rename_i K1 hK1; refine hK1 _ ?_; clear hK1) | refine zad rfl ?_ | refine za4 (by kernel_rfl) (by kernel_rfl) rfl ?_ | exact zap (show za8 _ _ _ = some _ by kernel_rfl) | refine zai rfl rfl ?_ | refine zah rfl rfl ?_ | refine zam ?_ | refine zba ?_ | refine zao ?_ | refine zac (fun K hK => ?_) | refine zeb ?_ | refine ze9 ?_ | refine zap (show za8 _ _ _ = some _ ∧ EndB _ _ from ⟨by kernel_rfl, ?_⟩))
  | true =>
    rw [hp] at hi
    have hin := PoolC.zzk (base := b) (many := m) (f := n) (by unfold PoolC.isP at hp; simp only [Bool.and_eq_true] at hp; exact hp.1) hm.2
    have hs := zie f (n - b) 1 hf ⟨by omega, by omega⟩ (by omega) (by omega)
    refine zaf 21 Tryz.func148 rfl rfl rfl rfl ?_ GG.to
    intro W A hG
    repeat (first | (refine zal rfl ?_; first | refine gdr (zaw rfl) ?_ | refine gdr (zaa (.inl rfl) rfl) ?_ | refine gnk 1 rfl (za2 tb rfl rfl rfl rfl rfl) ?_ | refine gnx 1 rfl (zbc tb rfl rfl rfl) rfl ?_ | refine gdr (zaa (.inr rfl) rfl) ?_ | refine gdr (zaj rfl rfl rfl) ?_ | refine gdr (zak rfl rfl rfl rfl) ?_ | refine gdr (zb3 tb rfl rfl rfl rfl rfl rfl) ?_ | refine gdr (za6 rfl rfl rfl rfl) ?_ | refine gdr (gar rfl rfl rfl rfl) ?_ | refine gdr (gcv rfl rfl rfl rfl rfl) ?_ | refine gdr (zbs rfl rfl rfl rfl (by omega) (by omega) (by first | exact zdb (by omega) (by omega) | exact zdc (by omega) (by omega))) ?_ | refine gdr (zb1 rfl rfl rfl rfl (by omega) (by omega)) ?_ | refine gdr (zag rfl rfl rfl rfl rfl rfl) ?_ | refine gdr (zae rfl rfl rfl rfl rfl) ?_ | refine gnk 1 rfl (zbe rfl rfl rfl rfl rfl rfl rfl) ?_ | refine gdr (zan rfl rfl rfl rfl) ?_ | refine gnx 3 rfl (zau tb rfl rfl rfl rfl (by first | kernel_rfl | rfl)) rfl ?_ | refine gnx 3 rfl (za0 tb rfl rfl rfl rfl) rfl ?_ | refine gdr (zas rfl rfl rfl) ?_ | refine gdr (zaq rfl rfl rfl rfl) ?_ | refine gdr (zcb rfl rfl rfl rfl) ?_ | refine gnx 4 rfl (zav rfl rfl rfl rfl rfl rfl (by omega) (by omega) _ (by assumption)) rfl ?_ | refine gnx 5 rfl (zb7 rfl rfl rfl rfl rfl rfl rfl rfl rfl (by first | omega | (simp; omega)) rfl) rfl ?_ | refine gnx 5 rfl (zcf tb rfl rfl rfl rfl rfl rfl) rfl ?_ | refine gnx 2 rfl (zc2 rfl rfl rfl rfl rfl rfl rfl (by omega) (by omega)) rfl ?_ | refine gnx 1 rfl (zb4 rfl rfl rfl rfl rfl rfl (by omega) (by omega)) rfl ?_ | refine gdr (zb5 tb rfl rfl rfl rfl rfl rfl (by omega) (by omega) rfl) ?_ | refine gdr (zc1 rfl rfl rfl rfl rfl) ?_ | refine gdr (zcr rfl rfl rfl rfl) ?_ | refine gnx 5 rfl (zcn tb rfl rfl rfl rfl) rfl ?_ | refine gdr (zax rfl rfl rfl rfl rfl rfl rfl rfl rfl rfl rfl) ?_ | refine gdr (zbl rfl rfl rfl rfl rfl rfl rfl) ?_ | refine gdr (zcv rfl rfl rfl rfl rfl) ?_ | refine gdr (zco rfl rfl rfl rfl rfl) ?_ | refine gdr (zcm rfl rfl rfl) ?_ | refine gnx 6 rfl (zbk rfl rfl rfl rfl rfl rfl (by omega) (by omega)) rfl ?_ | refine gdr (zch rfl rfl rfl rfl) ?_ | refine gdr (zby rfl rfl rfl rfl rfl rfl rfl rfl rfl rfl) ?_ | refine gdr (zab rfl rfl rfl (hi) (by kernel_rfl)) ?_ | refine gdr (zab rfl rfl rfl (hs) (by kernel_rfl)) ?_) | (refine hK _ ?_; clear hK K) | (rename_i K1 hK1; refine hK1 _ ?_; clear hK hK1; clear K) | (rename_i K1 hK1; refine hK1 _ ?_; clear hK1) | refine zad rfl ?_ | refine za4 (by kernel_rfl) (by kernel_rfl) rfl ?_ | exact zap (show za8 _ _ _ = some _ by kernel_rfl) | refine zai rfl rfl ?_ | refine zah rfl rfl ?_ | refine zam ?_ | refine zba ?_ | refine zao ?_ | refine zac (fun K hK => ?_) | refine zeb ?_ | refine ze9 ?_ | refine zap (show za8 _ _ _ = some _ ∧ EndB _ _ from ⟨by kernel_rfl, ?_⟩))
end Go.Proofs.YtmkjfeamgknpfaaGreatDoor.RfA
