/- Texts of this claim, one behind the other: RfB, PteR, VaR, RfC, RfD, RfE, RfG, RfJ, RfK, LaH, LiE, LiF, LjB, VaR3, RlA, RlB, RlC, LkA. -/
import Derived.Test.YtmkjfeamgknpfaaGreatDoorC4
import Derived.Test.YtmkjfeamgknpfaaGreatDoorC3
import Derived.Test.YtmkjfeamgknpfaaGreatDoorC2
set_option linter.unusedVariables false
set_option linter.unusedSimpArgs false
set_option linter.unusedSectionVars false
namespace Go.Proofs.YtmkjfeamgknpfaaGreatDoor.RfB
open Go.RowKit Bv VaSpec Base MemL RegR Ax MemC PutC MemC3 TzC OkS SpA SpB SpC SpD IterC SpE SpF SpG SpH SpI SpJ SpK SpN RfP RfQ RfA
open BitsC PteSpec
set_option maxRecDepth 10000
set_option maxHeartbeats 800000
attribute [local irreducible] Ax.zcs
theorem zgg (l : List (Int × Int)) (c : Int × Int) : fl (l ++ [c]) = fl l ++ [.int .u64 c.1, .int .u64 c.2] := zeh l [c]
theorem zvm {sz : Int} {l : List (Int × Int)} {n : Nat} {xs : List Value} (h1 : n = l.length) (h2 : xs = fl l) : zbm sz l = .ag [cu sz, .s n 2 xs] := by rw [h1, h2]
theorem zof {α β : Type} (f : β → α → β) (b : β) (l : List α) (i : Nat) (a : α) (h : l[i]? = some a) : (l.take (i + 1)).foldl f b = f ((l.take i).foldl f b) a := by
  rw [List.take_add_one, h]; simp
theorem zvn {α : Type} (f : α → Bool) (l : List α) (i : Nat) (a : α) (h : l[i]? = some a) : (l.take (i + 1)).filter f = (l.take i).filter f ++ [a].filter f := by
  rw [List.take_add_one, h]; simp
def z1r (sz p v : Int) (m : List (Int × Int)) (i : Nat) (d : Bool) (n : Nat) (xs : List Value) : St := St.of [(1, .m (iu p)), (2, .m (iu v)), (3, .m (.c (.p 3 0))), (6, .m (.c (.p 6 0))), (7, .m (.c (.o 1000))), (8, .m (ib d)), (9, .m (ii i))] [(3, .live (.box [cu sz, .s m.length 2 (fl m)])), (6, .live (.box [cu 0, .v (.slice none 0 0)])), (1000, .live (.row 163 2 n xs))]
theorem zke (sz : Int) (m : List (Int × Int)) (p v : Int) (hs : Srt m) (hl : m.length ≤ 1000000) : Ok 89 [zbm sz m, iu p, iu v] (.m (zbm sz (zcy m p v))) := by
  have hput := z0n p v m hs
  obtain ⟨b0, hb0⟩ : ∃ b0, b0 = decide (v = 0) := ⟨_, rfl⟩
  rw [← hb0] at hput
  obtain ⟨N, hN⟩ : ∃ N, N = (zcy m p v).length := ⟨_, rfl⟩
  obtain ⟨XS, hXS⟩ : ∃ XS, XS = fl (zcy m p v) := ⟨_, rfl⟩
  rw [zvm (sz := sz) hN hXS]
  have hvb : v = 0 ∧ b0 = true ∨ v ≠ 0 ∧ b0 = false := by by_cases h : v = 0 <;> simp [hb0, h]
  clear hb0
  rcases hvb with ⟨hv, rfl⟩ | ⟨hv, rfl⟩
  · refine zaf 64 Tryz.func89 rfl rfl rfl rfl ?_ GG.to
    intro W A hG
    repeat (first | (refine zal rfl ?_; first | refine gdr (zaa (.inl rfl) rfl) ?_ | refine gdr (zaa (.inr rfl) rfl) ?_ | refine gdr (za6 rfl rfl rfl rfl) ?_ | refine gdr (zag rfl rfl rfl rfl rfl rfl) ?_ | refine gdr (zae rfl rfl rfl rfl rfl) ?_) | (refine hK _ ?_; clear hK K) | refine zad rfl ?_ | refine zam ?_ | refine zac (fun K hK => ?_))
    refine za9 (α := Nat × List (Int × Int) × Bool × Nat × List Value) (fun q => q.1 ≤ m.length ∧ (q.2.1, q.2.2.1) = (m.take q.1).foldl (zdp p v) ([], true) ∧ q.2.2.2.1 = q.2.1.length ∧ q.2.2.2.2 = fl q.2.1 ∧ q.2.1.length ≤ 2 * q.1) (fun q => z1r sz p v m q.1 q.2.2.1 q.2.2.2.1 q.2.2.2.2) (fun q => m.length - q.1) (0, [], true, 0, []) ⟨Nat.zero_le _, rfl, rfl, rfl, Nat.le_refl _⟩ (Sub.trans (zd7 7 1000 163 2 rfl rfl) (zar _ _ ⟨rfl, rfl, rfl, rfl, rfl, rfl, rfl, trivial⟩ ⟨rfl, rfl, rfl, trivial⟩ (by kernel_rfl))) ?_
    rintro ⟨i, l, d, n, xs⟩ ⟨h1, h2, h3, h4, h5⟩
    have g1 : i ≤ m.length := h1
    have g2 : (l, d) = (m.take i).foldl (zdp p v) ([], true) := h2
    have g3 : n = l.length := h3
    have g4 : xs = fl l := h4
    have g5 : l.length ≤ 2 * i := h5
    show Aw _ _ _ _ (z1r sz p v m i d n xs)
    unfold z1r
    by_cases hlt : i < m.length
    · obtain ⟨c, hc⟩ : ∃ c, m[i]? = some c := ⟨_, List.getElem?_eq_getElem hlt⟩
      have hx := SpL.zio hc
      have hf := zof (zdp p v) ([], true) m i c hc
      rw [← g2] at hf
      by_cases a1 : d = false ∧ p < c.1
      · obtain ⟨rfl, a1⟩ := a1
        rw [show zdp p v (l, false) c = (l ++ [(p, v), c], true) by unfold zdp; rw [if_pos ⟨rfl, a1⟩]] at hf
        repeat (first | (refine zal rfl ?_; first | refine gdr (zaa (.inl rfl) rfl) ?_ | refine gnk 1 rfl (za2 tb rfl rfl rfl rfl rfl) ?_ | refine gnx 1 rfl (zbc tb rfl rfl rfl) rfl ?_ | refine gdr (zaa (.inr rfl) rfl) ?_ | refine gdr (zaj rfl rfl rfl) ?_ | refine gdr (za6 rfl rfl rfl rfl) ?_ | refine gdr (gar rfl rfl rfl rfl) ?_ | refine gdr (zan rfl rfl rfl rfl) ?_ | refine gnx 3 rfl (zau tb rfl rfl rfl rfl (by first | kernel_rfl | rfl)) rfl ?_ | refine gnx 3 rfl (za0 tb rfl rfl rfl rfl) rfl ?_ | refine gdr (zas rfl rfl rfl) ?_ | refine gdr (zaq rfl rfl rfl rfl) ?_ | refine gnx 4 rfl (zav rfl rfl rfl rfl rfl rfl (by omega) (by omega) _ (by assumption)) rfl ?_ | refine gdr (zax rfl rfl rfl rfl rfl rfl rfl rfl rfl rfl rfl) ?_ | refine gdr (zbd rfl rfl rfl rfl rfl rfl rfl rfl rfl rfl rfl rfl rfl (by omega)) ?_) | (refine hK _ ?_; clear hK K) | refine zad rfl ?_ | refine zai rfl rfl ?_ | refine zam ?_ | refine zao ?_ | refine zac (fun K hK => ?_))
        exact ⟨(i + 1, l ++ [(p, v), c], true, n + 1 + 1, xs ++ [.int .u64 p, .int .u64 v] ++ [.int .u64 c.1, .int .u64 c.2]), ⟨by show i + 1 ≤ m.length; omega, hf.symm, by show n + 1 + 1 = (l ++ [(p, v), c]).length; simp [g3], by show _ = fl (l ++ [(p, v), c]); rw [g4, zeh, List.append_assoc]; rfl, by show (l ++ [(p, v), c]).length ≤ 2 * (i + 1); simp; omega⟩, by show m.length - (i + 1) < m.length - i; omega, Sub.trans (zar [(1, .m (iu p)), (2, .m (iu v)), (3, .m (.c (.p 3 0))), (6, .m (.c (.p 6 0))), (7, .m (.c (.o 52))), (8, .m (ib true)), (9, .m (ii ((i + 1 : Nat) : Int)))] [(3, .live (.box [cu sz, .s m.length 2 (fl m)])), (6, .live (.box [cu 0, .v (.slice none 0 0)])), (52, .live (.row 163 2 (n + 1 + 1) (xs ++ [.int .u64 p, .int .u64 v] ++ [.int .u64 c.1, .int .u64 c.2])))] ⟨rfl, rfl, rfl, rfl, rfl, rfl, rfl, trivial⟩ ⟨rfl, rfl, rfl, trivial⟩ rfl) (Sub.trans (zcp (b := 52) (b' := 1000) rfl rfl) (zar _ _ ⟨rfl, rfl, rfl, rfl, rfl, rfl, rfl, trivial⟩ ⟨rfl, rfl, rfl, trivial⟩ rfl))⟩
      · by_cases a2 : c.1 = p
        · rw [show zdp p v (l, d) c = (l, d) by unfold zdp; rw [if_neg a1, if_pos a2]] at hf
          have hd : d = true ∨ ¬ p < c.1 := by cases d <;> simp_all
          cases d
          · skip
            repeat (first | (refine zal rfl ?_; first | refine gdr (zaa (.inl rfl) rfl) ?_ | refine gnk 1 rfl (za2 tb rfl rfl rfl rfl rfl) ?_ | refine gnx 1 rfl (zbc tb rfl rfl rfl) rfl ?_ | refine gdr (zaa (.inr rfl) rfl) ?_ | refine gdr (zaj rfl rfl rfl) ?_ | refine gdr (za6 rfl rfl rfl rfl) ?_ | refine gdr (gar rfl rfl rfl rfl) ?_ | refine gdr (zan rfl rfl rfl rfl) ?_ | refine gnx 3 rfl (zau tb rfl rfl rfl rfl (by first | kernel_rfl | rfl)) rfl ?_ | refine gnx 3 rfl (za0 tb rfl rfl rfl rfl) rfl ?_ | refine gdr (zas rfl rfl rfl) ?_ | refine gnx 4 rfl (zav rfl rfl rfl rfl rfl rfl (by omega) (by omega) _ (by assumption)) rfl ?_) | (refine hK _ ?_; clear hK K) | refine zad rfl ?_ | refine zai rfl rfl ?_ | refine zah rfl rfl ?_ | refine zam ?_ | refine zao ?_ | refine zac (fun K hK => ?_))
            exact ⟨(i + 1, l, false, n, xs), ⟨by show i + 1 ≤ m.length; omega, hf.symm, g3, g4, by show l.length ≤ 2 * (i + 1); omega⟩, by show m.length - (i + 1) < m.length - i; omega, zar _ _ ⟨rfl, rfl, rfl, rfl, rfl, rfl, rfl, trivial⟩ ⟨rfl, rfl, rfl, trivial⟩ (by kernel_rfl)⟩
          · skip
            repeat (first | (refine zal rfl ?_; first | refine gdr (zaw rfl) ?_ | refine gdr (zaa (.inl rfl) rfl) ?_ | refine gnk 1 rfl (za2 tb rfl rfl rfl rfl rfl) ?_ | refine gnx 1 rfl (zbc tb rfl rfl rfl) rfl ?_ | refine gdr (zaa (.inr rfl) rfl) ?_ | refine gdr (zaj rfl rfl rfl) ?_ | refine gdr (za6 rfl rfl rfl rfl) ?_ | refine gdr (gar rfl rfl rfl rfl) ?_ | refine gdr (zan rfl rfl rfl rfl) ?_ | refine gnx 3 rfl (zau tb rfl rfl rfl rfl (by first | kernel_rfl | rfl)) rfl ?_ | refine gnx 3 rfl (za0 tb rfl rfl rfl rfl) rfl ?_ | refine gdr (zas rfl rfl rfl) ?_ | refine gnx 4 rfl (zav rfl rfl rfl rfl rfl rfl (by omega) (by omega) _ (by assumption)) rfl ?_) | (refine hK _ ?_; clear hK K) | refine zad rfl ?_ | refine zai rfl rfl ?_ | refine zah rfl rfl ?_ | refine zam ?_ | refine zao ?_ | refine zac (fun K hK => ?_))
            exact ⟨(i + 1, l, true, n, xs), ⟨by show i + 1 ≤ m.length; omega, hf.symm, g3, g4, by show l.length ≤ 2 * (i + 1); omega⟩, by show m.length - (i + 1) < m.length - i; omega, zar _ _ ⟨rfl, rfl, rfl, rfl, rfl, rfl, rfl, trivial⟩ ⟨rfl, rfl, rfl, trivial⟩ (by kernel_rfl)⟩
        · rw [show zdp p v (l, d) c = (l ++ [c], d) by unfold zdp; rw [if_neg a1, if_neg a2]] at hf
          cases d
          · have hd : ¬ p < c.1 := fun h => a1 ⟨rfl, h⟩
            repeat (first | (refine zal rfl ?_; first | refine gdr (zaa (.inl rfl) rfl) ?_ | refine gnk 1 rfl (za2 tb rfl rfl rfl rfl rfl) ?_ | refine gnx 1 rfl (zbc tb rfl rfl rfl) rfl ?_ | refine gdr (zaa (.inr rfl) rfl) ?_ | refine gdr (zaj rfl rfl rfl) ?_ | refine gdr (za6 rfl rfl rfl rfl) ?_ | refine gdr (gar rfl rfl rfl rfl) ?_ | refine gdr (zan rfl rfl rfl rfl) ?_ | refine gnx 3 rfl (zau tb rfl rfl rfl rfl (by first | kernel_rfl | rfl)) rfl ?_ | refine gnx 3 rfl (za0 tb rfl rfl rfl rfl) rfl ?_ | refine gdr (zas rfl rfl rfl) ?_ | refine gnx 4 rfl (zav rfl rfl rfl rfl rfl rfl (by omega) (by omega) _ (by assumption)) rfl ?_ | refine gdr (zax rfl rfl rfl rfl rfl rfl rfl rfl rfl rfl rfl) ?_ | refine gdr (zbd rfl rfl rfl rfl rfl rfl rfl rfl rfl rfl rfl rfl rfl (by omega)) ?_) | (refine hK _ ?_; clear hK K) | refine zad rfl ?_ | refine zai rfl rfl ?_ | refine zah rfl rfl ?_ | refine zam ?_ | refine zao ?_ | refine zac (fun K hK => ?_))
            exact ⟨(i + 1, l ++ [c], false, n + 1, xs ++ [.int .u64 c.1, .int .u64 c.2]), ⟨by show i + 1 ≤ m.length; omega, hf.symm, by show n + 1 = (l ++ [c]).length; simp [g3], by show _ = fl (l ++ [c]); rw [g4, zgg], by show (l ++ [c]).length ≤ 2 * (i + 1); simp; omega⟩, by show m.length - (i + 1) < m.length - i; omega, Sub.trans (zar [(1, .m (iu p)), (2, .m (iu v)), (3, .m (.c (.p 3 0))), (6, .m (.c (.p 6 0))), (7, .m (.c (.o 52))), (8, .m (ib false)), (9, .m (ii ((i + 1 : Nat) : Int)))] [(3, .live (.box [cu sz, .s m.length 2 (fl m)])), (6, .live (.box [cu 0, .v (.slice none 0 0)])), (52, .live (.row 163 2 (n + 1) (xs ++ [.int .u64 c.1, .int .u64 c.2])))] ⟨rfl, rfl, rfl, rfl, rfl, rfl, rfl, trivial⟩ ⟨rfl, rfl, rfl, trivial⟩ rfl) (Sub.trans (zcp (b := 52) (b' := 1000) rfl rfl) (zar _ _ ⟨rfl, rfl, rfl, rfl, rfl, rfl, rfl, trivial⟩ ⟨rfl, rfl, rfl, trivial⟩ rfl))⟩
          · skip
            repeat (first | (refine zal rfl ?_; first | refine gdr (zaw rfl) ?_ | refine gdr (zaa (.inl rfl) rfl) ?_ | refine gnk 1 rfl (za2 tb rfl rfl rfl rfl rfl) ?_ | refine gnx 1 rfl (zbc tb rfl rfl rfl) rfl ?_ | refine gdr (zaa (.inr rfl) rfl) ?_ | refine gdr (zaj rfl rfl rfl) ?_ | refine gdr (za6 rfl rfl rfl rfl) ?_ | refine gdr (gar rfl rfl rfl rfl) ?_ | refine gdr (zan rfl rfl rfl rfl) ?_ | refine gnx 3 rfl (zau tb rfl rfl rfl rfl (by first | kernel_rfl | rfl)) rfl ?_ | refine gnx 3 rfl (za0 tb rfl rfl rfl rfl) rfl ?_ | refine gdr (zas rfl rfl rfl) ?_ | refine gnx 4 rfl (zav rfl rfl rfl rfl rfl rfl (by omega) (by omega) _ (by assumption)) rfl ?_ | refine gdr (zax rfl rfl rfl rfl rfl rfl rfl rfl rfl rfl rfl) ?_ | refine gdr (zbd rfl rfl rfl rfl rfl rfl rfl rfl rfl rfl rfl rfl rfl (by omega)) ?_) | (refine hK _ ?_; clear hK K) | refine zad rfl ?_ | refine zai rfl rfl ?_ | refine zah rfl rfl ?_ | refine zam ?_ | refine zao ?_ | refine zac (fun K hK => ?_))
            exact ⟨(i + 1, l ++ [c], true, n + 1, xs ++ [.int .u64 c.1, .int .u64 c.2]), ⟨by show i + 1 ≤ m.length; omega, hf.symm, by show n + 1 = (l ++ [c]).length; simp [g3], by show _ = fl (l ++ [c]); rw [g4, zgg], by show (l ++ [c]).length ≤ 2 * (i + 1); simp; omega⟩, by show m.length - (i + 1) < m.length - i; omega, Sub.trans (zar [(1, .m (iu p)), (2, .m (iu v)), (3, .m (.c (.p 3 0))), (6, .m (.c (.p 6 0))), (7, .m (.c (.o 52))), (8, .m (ib true)), (9, .m (ii ((i + 1 : Nat) : Int)))] [(3, .live (.box [cu sz, .s m.length 2 (fl m)])), (6, .live (.box [cu 0, .v (.slice none 0 0)])), (52, .live (.row 163 2 (n + 1) (xs ++ [.int .u64 c.1, .int .u64 c.2])))] ⟨rfl, rfl, rfl, rfl, rfl, rfl, rfl, trivial⟩ ⟨rfl, rfl, rfl, trivial⟩ rfl) (Sub.trans (zcp (b := 52) (b' := 1000) rfl rfl) (zar _ _ ⟨rfl, rfl, rfl, rfl, rfl, rfl, rfl, trivial⟩ ⟨rfl, rfl, rfl, trivial⟩ rfl))⟩
    · have hi : i = m.length := by omega
      rw [hi, List.take_length] at g2
      rw [← g2] at hput
      cases d
      · have e : zcy m p v = l ++ [(p, v)] := hput.symm
        obtain rfl : N = n + 1 := by rw [hN, e, g3]; simp
        obtain rfl : XS = xs ++ [.int .u64 p, .int .u64 v] := by rw [hXS, e, g4, zgg]
        repeat (first | (refine zal rfl ?_; first | refine gdr (zaa (.inl rfl) rfl) ?_ | refine gnk 1 rfl (za2 tb rfl rfl rfl rfl rfl) ?_ | refine gnx 1 rfl (zbc tb rfl rfl rfl) rfl ?_ | refine gdr (zaa (.inr rfl) rfl) ?_ | refine gdr (za6 rfl rfl rfl rfl) ?_ | refine gnk 1 rfl (zbe rfl rfl rfl rfl rfl rfl rfl) ?_ | refine gdr (zan rfl rfl rfl rfl) ?_ | refine gdr (zas rfl rfl rfl) ?_ | refine gdr (zaq rfl rfl rfl rfl) ?_ | refine gdr (zax rfl rfl rfl rfl rfl rfl rfl rfl rfl rfl rfl) ?_ | refine gdr (zbd rfl rfl rfl rfl rfl rfl rfl rfl rfl rfl rfl rfl rfl (by omega)) ?_) | (refine hK _ ?_; clear hK K) | (rename_i K1 hK1; refine hK1 _ ?_; clear hK hK1; clear K) | refine zad rfl ?_ | exact zap (show za8 _ _ _ = some _ by kernel_rfl) | refine zai rfl rfl ?_ | refine zah rfl rfl ?_ | refine zba ?_ | refine zac (fun K hK => ?_))
      · have e : zcy m p v = l := hput.symm
        obtain rfl : N = n := by rw [hN, e, g3]
        obtain rfl : XS = xs := by rw [hXS, e, g4]
        repeat (first | (refine zal rfl ?_; first | refine gdr (zaa (.inl rfl) rfl) ?_ | refine gnk 1 rfl (za2 tb rfl rfl rfl rfl rfl) ?_ | refine gnx 1 rfl (zbc tb rfl rfl rfl) rfl ?_ | refine gdr (za6 rfl rfl rfl rfl) ?_ | refine gnk 1 rfl (zbe rfl rfl rfl rfl rfl rfl rfl) ?_ | refine gdr (zan rfl rfl rfl rfl) ?_ | refine gdr (zas rfl rfl rfl) ?_) | (refine hK _ ?_; clear hK K) | (rename_i K1 hK1; refine hK1 _ ?_; clear hK hK1; clear K) | refine zad rfl ?_ | exact zap (show za8 _ _ _ = some _ by kernel_rfl) | refine zah rfl rfl ?_ | refine zba ?_ | refine zao ?_ | refine zac (fun K hK => ?_))
  · refine zaf 64 Tryz.func89 rfl rfl rfl rfl ?_ GG.to
    intro W A hG
    repeat (first | (refine zal rfl ?_; first | refine gdr (zaa (.inl rfl) rfl) ?_ | refine gdr (zaa (.inr rfl) rfl) ?_ | refine gdr (za6 rfl rfl rfl rfl) ?_ | refine gdr (zag rfl rfl rfl rfl rfl rfl) ?_ | refine gdr (zae rfl rfl rfl rfl rfl) ?_) | (refine hK _ ?_; clear hK K) | refine zad rfl ?_ | refine zam ?_ | refine zac (fun K hK => ?_))
    refine za9 (α := Nat × List (Int × Int) × Bool × Nat × List Value) (fun q => q.1 ≤ m.length ∧ (q.2.1, q.2.2.1) = (m.take q.1).foldl (zdp p v) ([], false) ∧ q.2.2.2.1 = q.2.1.length ∧ q.2.2.2.2 = fl q.2.1 ∧ q.2.1.length ≤ 2 * q.1) (fun q => z1r sz p v m q.1 q.2.2.1 q.2.2.2.1 q.2.2.2.2) (fun q => m.length - q.1) (0, [], false, 0, []) ⟨Nat.zero_le _, rfl, rfl, rfl, Nat.le_refl _⟩ (Sub.trans (zd7 7 1000 163 2 rfl rfl) (zar _ _ ⟨rfl, rfl, rfl, rfl, rfl, rfl, rfl, trivial⟩ ⟨rfl, rfl, rfl, trivial⟩ (by kernel_rfl))) ?_
    rintro ⟨i, l, d, n, xs⟩ ⟨h1, h2, h3, h4, h5⟩
    have g1 : i ≤ m.length := h1
    have g2 : (l, d) = (m.take i).foldl (zdp p v) ([], false) := h2
    have g3 : n = l.length := h3
    have g4 : xs = fl l := h4
    have g5 : l.length ≤ 2 * i := h5
    show Aw _ _ _ _ (z1r sz p v m i d n xs)
    unfold z1r
    by_cases hlt : i < m.length
    · obtain ⟨c, hc⟩ : ∃ c, m[i]? = some c := ⟨_, List.getElem?_eq_getElem hlt⟩
      have hx := SpL.zio hc
      have hf := zof (zdp p v) ([], false) m i c hc
      rw [← g2] at hf
      by_cases a1 : d = false ∧ p < c.1
      · obtain ⟨rfl, a1⟩ := a1
        rw [show zdp p v (l, false) c = (l ++ [(p, v), c], true) by unfold zdp; rw [if_pos ⟨rfl, a1⟩]] at hf
        repeat (first | (refine zal rfl ?_; first | refine gdr (zaa (.inl rfl) rfl) ?_ | refine gnk 1 rfl (za2 tb rfl rfl rfl rfl rfl) ?_ | refine gnx 1 rfl (zbc tb rfl rfl rfl) rfl ?_ | refine gdr (zaa (.inr rfl) rfl) ?_ | refine gdr (zaj rfl rfl rfl) ?_ | refine gdr (za6 rfl rfl rfl rfl) ?_ | refine gdr (gar rfl rfl rfl rfl) ?_ | refine gdr (zan rfl rfl rfl rfl) ?_ | refine gnx 3 rfl (zau tb rfl rfl rfl rfl (by first | kernel_rfl | rfl)) rfl ?_ | refine gnx 3 rfl (za0 tb rfl rfl rfl rfl) rfl ?_ | refine gdr (zas rfl rfl rfl) ?_ | refine gdr (zaq rfl rfl rfl rfl) ?_ | refine gnx 4 rfl (zav rfl rfl rfl rfl rfl rfl (by omega) (by omega) _ (by assumption)) rfl ?_ | refine gdr (zax rfl rfl rfl rfl rfl rfl rfl rfl rfl rfl rfl) ?_ | refine gdr (zbd rfl rfl rfl rfl rfl rfl rfl rfl rfl rfl rfl rfl rfl (by omega)) ?_) | (refine hK _ ?_; clear hK K) | refine zad rfl ?_ | refine zai rfl rfl ?_ | refine zam ?_ | refine zao ?_ | refine zac (fun K hK => ?_))
        exact ⟨(i + 1, l ++ [(p, v), c], true, n + 1 + 1, xs ++ [.int .u64 p, .int .u64 v] ++ [.int .u64 c.1, .int .u64 c.2]), ⟨by show i + 1 ≤ m.length; omega, hf.symm, by show n + 1 + 1 = (l ++ [(p, v), c]).length; simp [g3], by show _ = fl (l ++ [(p, v), c]); rw [g4, zeh, List.append_assoc]; rfl, by show (l ++ [(p, v), c]).length ≤ 2 * (i + 1); simp; omega⟩, by show m.length - (i + 1) < m.length - i; omega, Sub.trans (zar [(1, .m (iu p)), (2, .m (iu v)), (3, .m (.c (.p 3 0))), (6, .m (.c (.p 6 0))), (7, .m (.c (.o 52))), (8, .m (ib true)), (9, .m (ii ((i + 1 : Nat) : Int)))] [(3, .live (.box [cu sz, .s m.length 2 (fl m)])), (6, .live (.box [cu 0, .v (.slice none 0 0)])), (52, .live (.row 163 2 (n + 1 + 1) (xs ++ [.int .u64 p, .int .u64 v] ++ [.int .u64 c.1, .int .u64 c.2])))] ⟨rfl, rfl, rfl, rfl, rfl, rfl, rfl, trivial⟩ ⟨rfl, rfl, rfl, trivial⟩ rfl) (Sub.trans (zcp (b := 52) (b' := 1000) rfl rfl) (zar _ _ ⟨rfl, rfl, rfl, rfl, rfl, rfl, rfl, trivial⟩ ⟨rfl, rfl, rfl, trivial⟩ rfl))⟩
      · by_cases a2 : c.1 = p
        · rw [show zdp p v (l, d) c = (l, d) by unfold zdp; rw [if_neg a1, if_pos a2]] at hf
          have hd : d = true ∨ ¬ p < c.1 := by cases d <;> simp_all
          cases d
          · skip
            repeat (first | (refine zal rfl ?_; first | refine gdr (zaa (.inl rfl) rfl) ?_ | refine gnk 1 rfl (za2 tb rfl rfl rfl rfl rfl) ?_ | refine gnx 1 rfl (zbc tb rfl rfl rfl) rfl ?_ | refine gdr (zaa (.inr rfl) rfl) ?_ | refine gdr (zaj rfl rfl rfl) ?_ | refine gdr (za6 rfl rfl rfl rfl) ?_ | refine gdr (gar rfl rfl rfl rfl) ?_ | refine gdr (zan rfl rfl rfl rfl) ?_ | refine gnx 3 rfl (zau tb rfl rfl rfl rfl (by first | kernel_rfl | rfl)) rfl ?_ | refine gnx 3 rfl (za0 tb rfl rfl rfl rfl) rfl ?_ | refine gdr (zas rfl rfl rfl) ?_ | refine gnx 4 rfl (zav rfl rfl rfl rfl rfl rfl (by omega) (by omega) _ (by assumption)) rfl ?_) | (refine hK _ ?_; clear hK K) | refine zad rfl ?_ | refine zai rfl rfl ?_ | refine zah rfl rfl ?_ | refine zam ?_ | refine zao ?_ | refine zac (fun K hK => ?_))
            exact ⟨(i + 1, l, false, n, xs), ⟨by show i + 1 ≤ m.length; omega, hf.symm, g3, g4, by show l.length ≤ 2 * (i + 1); omega⟩, by show m.length - (i + 1) < m.length - i; omega, zar _ _ ⟨rfl, rfl, rfl, rfl, rfl, rfl, rfl, trivial⟩ ⟨rfl, rfl, rfl, trivial⟩ (by kernel_rfl)⟩
          · skip
            repeat (first | (refine zal rfl ?_; first | refine gdr (zaw rfl) ?_ | refine gdr (zaa (.inl rfl) rfl) ?_ | refine gnk 1 rfl (za2 tb rfl rfl rfl rfl rfl) ?_ | refine gnx 1 rfl (zbc tb rfl rfl rfl) rfl ?_ | refine gdr (zaa (.inr rfl) rfl) ?_ | refine gdr (zaj rfl rfl rfl) ?_ | refine gdr (za6 rfl rfl rfl rfl) ?_ | refine gdr (gar rfl rfl rfl rfl) ?_ | refine gdr (zan rfl rfl rfl rfl) ?_ | refine gnx 3 rfl (zau tb rfl rfl rfl rfl (by first | kernel_rfl | rfl)) rfl ?_ | refine gnx 3 rfl (za0 tb rfl rfl rfl rfl) rfl ?_ | refine gdr (zas rfl rfl rfl) ?_ | refine gnx 4 rfl (zav rfl rfl rfl rfl rfl rfl (by omega) (by omega) _ (by assumption)) rfl ?_) | (refine hK _ ?_; clear hK K) | refine zad rfl ?_ | refine zai rfl rfl ?_ | refine zah rfl rfl ?_ | refine zam ?_ | refine zao ?_ | refine zac (fun K hK => ?_))
            exact ⟨(i + 1, l, true, n, xs), ⟨by show i + 1 ≤ m.length; omega, hf.symm, g3, g4, by show l.length ≤ 2 * (i + 1); omega⟩, by show m.length - (i + 1) < m.length - i; omega, zar _ _ ⟨rfl, rfl, rfl, rfl, rfl, rfl, rfl, trivial⟩ ⟨rfl, rfl, rfl, trivial⟩ (by kernel_rfl)⟩
        · rw [show zdp p v (l, d) c = (l ++ [c], d) by unfold zdp; rw [if_neg a1, if_neg a2]] at hf
          cases d
          · have hd : ¬ p < c.1 := fun h => a1 ⟨rfl, h⟩
            repeat (first | (refine zal rfl ?_; first | refine gdr (zaa (.inl rfl) rfl) ?_ | refine gnk 1 rfl (za2 tb rfl rfl rfl rfl rfl) ?_ | refine gnx 1 rfl (zbc tb rfl rfl rfl) rfl ?_ | refine gdr (zaa (.inr rfl) rfl) ?_ | refine gdr (zaj rfl rfl rfl) ?_ | refine gdr (za6 rfl rfl rfl rfl) ?_ | refine gdr (gar rfl rfl rfl rfl) ?_ | refine gdr (zan rfl rfl rfl rfl) ?_ | refine gnx 3 rfl (zau tb rfl rfl rfl rfl (by first | kernel_rfl | rfl)) rfl ?_ | refine gnx 3 rfl (za0 tb rfl rfl rfl rfl) rfl ?_ | refine gdr (zas rfl rfl rfl) ?_ | refine gnx 4 rfl (zav rfl rfl rfl rfl rfl rfl (by omega) (by omega) _ (by assumption)) rfl ?_ | refine gdr (zax rfl rfl rfl rfl rfl rfl rfl rfl rfl rfl rfl) ?_ | refine gdr (zbd rfl rfl rfl rfl rfl rfl rfl rfl rfl rfl rfl rfl rfl (by omega)) ?_) | (refine hK _ ?_; clear hK K) | refine zad rfl ?_ | refine zai rfl rfl ?_ | refine zah rfl rfl ?_ | refine zam ?_ | refine zao ?_ | refine zac (fun K hK => ?_))
            exact ⟨(i + 1, l ++ [c], false, n + 1, xs ++ [.int .u64 c.1, .int .u64 c.2]), ⟨by show i + 1 ≤ m.length; omega, hf.symm, by show n + 1 = (l ++ [c]).length; simp [g3], by show _ = fl (l ++ [c]); rw [g4, zgg], by show (l ++ [c]).length ≤ 2 * (i + 1); simp; omega⟩, by show m.length - (i + 1) < m.length - i; omega, Sub.trans (zar [(1, .m (iu p)), (2, .m (iu v)), (3, .m (.c (.p 3 0))), (6, .m (.c (.p 6 0))), (7, .m (.c (.o 52))), (8, .m (ib false)), (9, .m (ii ((i + 1 : Nat) : Int)))] [(3, .live (.box [cu sz, .s m.length 2 (fl m)])), (6, .live (.box [cu 0, .v (.slice none 0 0)])), (52, .live (.row 163 2 (n + 1) (xs ++ [.int .u64 c.1, .int .u64 c.2])))] ⟨rfl, rfl, rfl, rfl, rfl, rfl, rfl, trivial⟩ ⟨rfl, rfl, rfl, trivial⟩ rfl) (Sub.trans (zcp (b := 52) (b' := 1000) rfl rfl) (zar _ _ ⟨rfl, rfl, rfl, rfl, rfl, rfl, rfl, trivial⟩ ⟨rfl, rfl, rfl, trivial⟩ rfl))⟩
          · skip
            repeat (first | (refine zal rfl ?_; first | refine gdr (zaw rfl) ?_ | refine gdr (zaa (.inl rfl) rfl) ?_ | refine gnk 1 rfl (za2 tb rfl rfl rfl rfl rfl) ?_ | refine gnx 1 rfl (zbc tb rfl rfl rfl) rfl ?_ | refine gdr (zaa (.inr rfl) rfl) ?_ | refine gdr (zaj rfl rfl rfl) ?_ | refine gdr (za6 rfl rfl rfl rfl) ?_ | refine gdr (gar rfl rfl rfl rfl) ?_ | refine gdr (zan rfl rfl rfl rfl) ?_ | refine gnx 3 rfl (zau tb rfl rfl rfl rfl (by first | kernel_rfl | rfl)) rfl ?_ | refine gnx 3 rfl (za0 tb rfl rfl rfl rfl) rfl ?_ | refine gdr (zas rfl rfl rfl) ?_ | refine gnx 4 rfl (zav rfl rfl rfl rfl rfl rfl (by omega) (by omega) _ (by assumption)) rfl ?_ | refine gdr (zax rfl rfl rfl rfl rfl rfl rfl rfl rfl rfl rfl) ?_ | refine gdr (zbd rfl rfl rfl rfl rfl rfl rfl rfl rfl rfl rfl rfl rfl (by omega)) ?_) | (refine hK _ ?_; clear hK K) | refine zad rfl ?_ | refine zai rfl rfl ?_ | refine zah rfl rfl ?_ | refine zam ?_ | refine zao ?_ | refine zac (fun K hK => ?_))
            exact ⟨(i + 1, l ++ [c], true, n + 1, xs ++ [.int .u64 c.1, .int .u64 c.2]), ⟨by show i + 1 ≤ m.length; omega, hf.symm, by show n + 1 = (l ++ [c]).length; simp [g3], by show _ = fl (l ++ [c]); rw [g4, zgg], by show (l ++ [c]).length ≤ 2 * (i + 1); simp; omega⟩, by show m.length - (i + 1) < m.length - i; omega, Sub.trans (zar [(1, .m (iu p)), (2, .m (iu v)), (3, .m (.c (.p 3 0))), (6, .m (.c (.p 6 0))), (7, .m (.c (.o 52))), (8, .m (ib true)), (9, .m (ii ((i + 1 : Nat) : Int)))] [(3, .live (.box [cu sz, .s m.length 2 (fl m)])), (6, .live (.box [cu 0, .v (.slice none 0 0)])), (52, .live (.row 163 2 (n + 1) (xs ++ [.int .u64 c.1, .int .u64 c.2])))] ⟨rfl, rfl, rfl, rfl, rfl, rfl, rfl, trivial⟩ ⟨rfl, rfl, rfl, trivial⟩ rfl) (Sub.trans (zcp (b := 52) (b' := 1000) rfl rfl) (zar _ _ ⟨rfl, rfl, rfl, rfl, rfl, rfl, rfl, trivial⟩ ⟨rfl, rfl, rfl, trivial⟩ rfl))⟩
    · have hi : i = m.length := by omega
      rw [hi, List.take_length] at g2
      rw [← g2] at hput
      cases d
      · have e : zcy m p v = l ++ [(p, v)] := hput.symm
        obtain rfl : N = n + 1 := by rw [hN, e, g3]; simp
        obtain rfl : XS = xs ++ [.int .u64 p, .int .u64 v] := by rw [hXS, e, g4, zgg]
        repeat (first | (refine zal rfl ?_; first | refine gdr (zaa (.inl rfl) rfl) ?_ | refine gnk 1 rfl (za2 tb rfl rfl rfl rfl rfl) ?_ | refine gnx 1 rfl (zbc tb rfl rfl rfl) rfl ?_ | refine gdr (zaa (.inr rfl) rfl) ?_ | refine gdr (za6 rfl rfl rfl rfl) ?_ | refine gnk 1 rfl (zbe rfl rfl rfl rfl rfl rfl rfl) ?_ | refine gdr (zan rfl rfl rfl rfl) ?_ | refine gdr (zas rfl rfl rfl) ?_ | refine gdr (zaq rfl rfl rfl rfl) ?_ | refine gdr (zax rfl rfl rfl rfl rfl rfl rfl rfl rfl rfl rfl) ?_ | refine gdr (zbd rfl rfl rfl rfl rfl rfl rfl rfl rfl rfl rfl rfl rfl (by omega)) ?_) | (refine hK _ ?_; clear hK K) | (rename_i K1 hK1; refine hK1 _ ?_; clear hK hK1; clear K) | refine zad rfl ?_ | exact zap (show za8 _ _ _ = some _ by kernel_rfl) | refine zai rfl rfl ?_ | refine zah rfl rfl ?_ | refine zba ?_ | refine zac (fun K hK => ?_))
      · have e : zcy m p v = l := hput.symm
        obtain rfl : N = n := by rw [hN, e, g3]
        obtain rfl : XS = xs := by rw [hXS, e, g4]
        repeat (first | (refine zal rfl ?_; first | refine gdr (zaa (.inl rfl) rfl) ?_ | refine gnk 1 rfl (za2 tb rfl rfl rfl rfl rfl) ?_ | refine gnx 1 rfl (zbc tb rfl rfl rfl) rfl ?_ | refine gdr (za6 rfl rfl rfl rfl) ?_ | refine gnk 1 rfl (zbe rfl rfl rfl rfl rfl rfl rfl) ?_ | refine gdr (zan rfl rfl rfl rfl) ?_ | refine gdr (zas rfl rfl rfl) ?_) | (refine hK _ ?_; clear hK K) | (rename_i K1 hK1; refine hK1 _ ?_; clear hK hK1; clear K) | refine zad rfl ?_ | exact zap (show za8 _ _ _ = some _ by kernel_rfl) | refine zah rfl rfl ?_ | refine zba ?_ | refine zao ?_ | refine zac (fun K hK => ?_))
def z33 (sz p v : Int) (m : List (Int × Int)) (i : Nat) (n : Nat) (xs : List Value) : St := St.of [(1, .m (iu p)), (2, .m (iu v)), (3, .m (.c (.p 3 0))), (6, .m (.c (.p 6 0))), (7, .m (.c (.o 1000))), (8, .m (ii i))] [(3, .live (.box [cu sz, .s m.length 2 (fl m)])), (6, .live (.box [cu 0, .v (.slice none 0 0)])), (1000, .live (.row 163 2 n xs))]
theorem zog (sz : Int) (m : List (Int × Int)) (f : Int) (hs : Srt m) (hl : m.length ≤ 1000000) (hf0 : 0 ≤ f ∧ f < 268436480) (hb : ∀ c ∈ m, 0 ≤ c.1 ∧ c.1 < 1099511627776) : Ok 145 [zbm sz m, iu (4096 * f), iu 4096] (.m (zbm sz (TableC.zbf m f))) := by
  have hput := zhr f m hs
  obtain ⟨N, hN⟩ : ∃ N, N = (TableC.zbf m f).length := ⟨_, rfl⟩
  obtain ⟨XS, hXS⟩ : ∃ XS, XS = fl (TableC.zbf m f) := ⟨_, rfl⟩
  rw [zvm (sz := sz) hN hXS]
  obtain ⟨p, hp⟩ : ∃ p, p = 4096 * f := ⟨_, rfl⟩
  obtain ⟨v, hv⟩ : ∃ v : Int, v = 4096 := ⟨_, rfl⟩
  rw [← hp]
  rw [show iu (4096 : Int) = iu v by rw [hv]]
  refine zaf 49 Tryz.func145 rfl rfl rfl rfl ?_ GG.to
  intro W A hG
  repeat (first | (refine zal rfl ?_; first | refine gdr (zaa (.inr rfl) rfl) ?_ | refine gdr (zag rfl rfl rfl rfl rfl rfl) ?_ | refine gdr (zae rfl rfl rfl rfl rfl) ?_) | (refine hK _ ?_; clear hK K) | refine zad rfl ?_ | refine zam ?_ | refine zac (fun K hK => ?_))
  refine za9 (α := Nat × List (Int × Int) × Nat × List Value) (fun q => q.1 ≤ m.length ∧ q.2.1 = (m.take q.1).filter (zkn (f * 512) (f * 512 + 512)) ∧ q.2.2.1 = q.2.1.length ∧ q.2.2.2 = fl q.2.1) (fun q => z33 sz p v m q.1 q.2.2.1 q.2.2.2) (fun q => m.length - q.1) (0, [], 0, []) ⟨Nat.zero_le _, rfl, rfl, rfl⟩ (Sub.trans (zd7 7 1000 163 2 rfl rfl) (zar _ _ ⟨rfl, rfl, rfl, rfl, rfl, rfl, trivial⟩ ⟨rfl, rfl, rfl, trivial⟩ (by kernel_rfl))) ?_
  rintro ⟨i, l, n, xs⟩ ⟨h1, h2, h3, h4⟩
  have g1 : i ≤ m.length := h1
  have g2 : l = (m.take i).filter (zkn (f * 512) (f * 512 + 512)) := h2
  have g3 : n = l.length := h3
  have g4 : xs = fl l := h4
  have g5 : l.length ≤ m.length := by rw [g2]; exact Nat.le_trans (List.length_filter_le _ _) (by rw [List.length_take]; omega)
  show Aw _ _ _ _ (z33 sz p v m i n xs)
  unfold z33
  by_cases hlt : i < m.length
  · obtain ⟨c, hc⟩ : ∃ c, m[i]? = some c := ⟨_, List.getElem?_eq_getElem hlt⟩
    have hx := SpL.zio hc
    have hcb := hb c (List.mem_of_getElem? hc)
    have hf := zvn (zkn (f * 512) (f * 512 + 512)) m i c hc
    rw [← g2] at hf
    by_cases a1 : c.1 < f * 512
    · rw [show [c].filter (zkn (f * 512) (f * 512 + 512)) = [c] from List.filter_eq_self.2 (fun x hx => by simp at hx; subst hx; simp [zkn, a1])] at hf
      repeat (first | (refine zal rfl ?_; first | refine gdr (zaw rfl) ?_ | refine gdr (zaa (.inl rfl) rfl) ?_ | refine gnk 1 rfl (za2 tb rfl rfl rfl rfl rfl) ?_ | refine gnx 1 rfl (zbc tb rfl rfl rfl) rfl ?_ | refine gdr (zaa (.inr rfl) rfl) ?_ | refine gdr (zaj rfl rfl rfl) ?_ | refine gdr (za6 rfl rfl rfl rfl) ?_ | refine gdr (gar rfl rfl rfl rfl) ?_ | refine gdr (zan rfl rfl rfl rfl) ?_ | refine gnx 3 rfl (zau tb rfl rfl rfl rfl (by first | kernel_rfl | rfl)) rfl ?_ | refine gnx 3 rfl (za0 tb rfl rfl rfl rfl) rfl ?_ | refine gnx 4 rfl (zav rfl rfl rfl rfl rfl rfl (by omega) (by omega) _ (by assumption)) rfl ?_ | refine gdr (zax rfl rfl rfl rfl rfl rfl rfl rfl rfl rfl rfl) ?_ | refine gdr (zbd rfl rfl rfl rfl rfl rfl rfl rfl rfl rfl rfl rfl rfl (by omega)) ?_) | (refine hK _ ?_; clear hK K) | refine zad rfl ?_ | refine zai rfl rfl ?_ | refine zam ?_ | refine zao ?_ | refine zac (fun K hK => ?_))
      exact ⟨(i + 1, l ++ [c], n + 1, xs ++ [.int .u64 c.1, .int .u64 c.2]), ⟨by show i + 1 ≤ m.length; omega, hf.symm, by show n + 1 = (l ++ [c]).length; simp [g3], by show _ = fl (l ++ [c]); rw [g4, zgg]⟩, by show m.length - (i + 1) < m.length - i; omega, Sub.trans (zar [(1, .m (iu p)), (2, .m (iu v)), (3, .m (.c (.p 3 0))), (6, .m (.c (.p 6 0))), (7, .m (.c (.o 45))), (8, .m (ii ((i + 1 : Nat) : Int)))] [(3, .live (.box [cu sz, .s m.length 2 (fl m)])), (6, .live (.box [cu 0, .v (.slice none 0 0)])), (45, .live (.row 163 2 (n + 1) (xs ++ [.int .u64 c.1, .int .u64 c.2])))] ⟨rfl, rfl, rfl, rfl, rfl, rfl, trivial⟩ ⟨rfl, rfl, rfl, trivial⟩ rfl) (Sub.trans (zcp (b := 45) (b' := 1000) rfl rfl) (zar _ _ ⟨rfl, rfl, rfl, rfl, rfl, rfl, trivial⟩ ⟨rfl, rfl, rfl, trivial⟩ rfl))⟩
    · by_cases a2 : f * 512 + 512 ≤ c.1
      · rw [show [c].filter (zkn (f * 512) (f * 512 + 512)) = [c] from List.filter_eq_self.2 (fun x hx => by simp at hx; subst hx; simp [zkn, a2])] at hf
        repeat (first | (refine zal rfl ?_; first | refine gdr (zaa (.inl rfl) rfl) ?_ | refine gnk 1 rfl (za2 tb rfl rfl rfl rfl rfl) ?_ | refine gnx 1 rfl (zbc tb rfl rfl rfl) rfl ?_ | refine gdr (zaa (.inr rfl) rfl) ?_ | refine gdr (zaj rfl rfl rfl) ?_ | refine gdr (za6 rfl rfl rfl rfl) ?_ | refine gdr (gar rfl rfl rfl rfl) ?_ | refine gdr (zan rfl rfl rfl rfl) ?_ | refine gnx 3 rfl (zau tb rfl rfl rfl rfl (by first | kernel_rfl | rfl)) rfl ?_ | refine gnx 3 rfl (za0 tb rfl rfl rfl rfl) rfl ?_ | refine gnx 4 rfl (zav rfl rfl rfl rfl rfl rfl (by omega) (by omega) _ (by assumption)) rfl ?_ | refine gdr (zax rfl rfl rfl rfl rfl rfl rfl rfl rfl rfl rfl) ?_ | refine gdr (zbd rfl rfl rfl rfl rfl rfl rfl rfl rfl rfl rfl rfl rfl (by omega)) ?_) | (refine hK _ ?_; clear hK K) | refine zad rfl ?_ | refine zai rfl rfl ?_ | refine zam ?_ | refine zao ?_ | refine zac (fun K hK => ?_))
        exact ⟨(i + 1, l ++ [c], n + 1, xs ++ [.int .u64 c.1, .int .u64 c.2]), ⟨by show i + 1 ≤ m.length; omega, hf.symm, by show n + 1 = (l ++ [c]).length; simp [g3], by show _ = fl (l ++ [c]); rw [g4, zgg]⟩, by show m.length - (i + 1) < m.length - i; omega, Sub.trans (zar [(1, .m (iu p)), (2, .m (iu v)), (3, .m (.c (.p 3 0))), (6, .m (.c (.p 6 0))), (7, .m (.c (.o 45))), (8, .m (ii ((i + 1 : Nat) : Int)))] [(3, .live (.box [cu sz, .s m.length 2 (fl m)])), (6, .live (.box [cu 0, .v (.slice none 0 0)])), (45, .live (.row 163 2 (n + 1) (xs ++ [.int .u64 c.1, .int .u64 c.2])))] ⟨rfl, rfl, rfl, rfl, rfl, rfl, trivial⟩ ⟨rfl, rfl, rfl, trivial⟩ rfl) (Sub.trans (zcp (b := 45) (b' := 1000) rfl rfl) (zar _ _ ⟨rfl, rfl, rfl, rfl, rfl, rfl, trivial⟩ ⟨rfl, rfl, rfl, trivial⟩ rfl))⟩
      · rw [show [c].filter (zkn (f * 512) (f * 512 + 512)) = [] from List.filter_eq_nil_iff.2 (fun x hx => by simp at hx; subst hx; simp [zkn]; omega), List.append_nil] at hf
        repeat (first | (refine zal rfl ?_; first | refine gdr (zaa (.inl rfl) rfl) ?_ | refine gnk 1 rfl (za2 tb rfl rfl rfl rfl rfl) ?_ | refine gnx 1 rfl (zbc tb rfl rfl rfl) rfl ?_ | refine gdr (zaa (.inr rfl) rfl) ?_ | refine gdr (zaj rfl rfl rfl) ?_ | refine gdr (za6 rfl rfl rfl rfl) ?_ | refine gdr (gar rfl rfl rfl rfl) ?_ | refine gdr (zan rfl rfl rfl rfl) ?_ | refine gnx 3 rfl (zau tb rfl rfl rfl rfl (by first | kernel_rfl | rfl)) rfl ?_ | refine gnx 3 rfl (za0 tb rfl rfl rfl rfl) rfl ?_ | refine gnx 4 rfl (zav rfl rfl rfl rfl rfl rfl (by omega) (by omega) _ (by assumption)) rfl ?_) | (refine hK _ ?_; clear hK K) | refine zad rfl ?_ | refine zai rfl rfl ?_ | refine zah rfl rfl ?_ | refine zam ?_ | refine zao ?_ | refine zac (fun K hK => ?_))
        exact ⟨(i + 1, l, n, xs), ⟨by show i + 1 ≤ m.length; omega, hf.symm, g3, g4⟩, by show m.length - (i + 1) < m.length - i; omega, zar _ _ ⟨rfl, rfl, rfl, rfl, rfl, rfl, trivial⟩ ⟨rfl, rfl, rfl, trivial⟩ (by kernel_rfl)⟩
  · have hi : i = m.length := by omega
    rw [hi, List.take_length] at g2
    rw [← g2] at hput
    obtain rfl : N = n := by rw [hN, hput, g3]
    obtain rfl : XS = xs := by rw [hXS, hput, g4]
    repeat (first | (refine zal rfl ?_; first | refine gdr (zaa (.inl rfl) rfl) ?_ | refine gnk 1 rfl (za2 tb rfl rfl rfl rfl rfl) ?_ | refine gnx 1 rfl (zbc tb rfl rfl rfl) rfl ?_ | refine gdr (za6 rfl rfl rfl rfl) ?_ | refine gnk 1 rfl (zbe rfl rfl rfl rfl rfl rfl rfl) ?_ | refine gdr (zan rfl rfl rfl rfl) ?_) | (refine hK _ ?_; clear hK K) | (rename_i K1 hK1; refine hK1 _ ?_; clear hK hK1; clear K) | refine zad rfl ?_ | exact zap (show za8 _ _ _ = some _ by kernel_rfl) | refine zah rfl rfl ?_ | refine zba ?_ | refine zac (fun K hK => ?_))
end Go.Proofs.YtmkjfeamgknpfaaGreatDoor.RfB
namespace Go.Proofs.YtmkjfeamgknpfaaGreatDoor.PteR
open Go.RowKit Bv VaSpec Base BitsC VaC PteSpec PteC
theorem zkf (v r w x u g a d : Bool) (rsw ppn high : Int) (W : World) :
    Calls Tryz.prog 116 #[.agg #[.bool v, .bool r, .bool w, .bool x, .bool u, .bool g, .bool a, .bool d, .int .u64 rsw, .int .u64 ppn, .int .u64 high]] W fun e w' => e = .returned (.bool (zbr ⟨v, r, w, x, u, g, a, d, rsw, ppn, high⟩)) ∧ Below W.heap.size W w' := by
  go_enter Tryz.func116, Tryz.ntmps116
  go_wp2
  all_goals
    go_ret
    refine ⟨congrArg (fun z => Ending.returned (.bool z)) (by simp [zbr, *]), (by repeat (first | (with_reducible exact Below.refl _ _) | (with_reducible apply zbp) | (with_reducible apply zay) | (with_reducible apply za5; rotate_left; with_reducible assumption) | (with_reducible refine zat _ _ _ (by first | omega | (simp; done) | (simp; omega) | (simp at *; omega)) ?_)))⟩
theorem zoh (v r w x u g a d : Bool) (rsw ppn high : Int) : (v && !zbr ⟨v, r, w, x, u, g, a, d, rsw, ppn, high⟩) = zbu ⟨v, r, w, x, u, g, a, d, rsw, ppn, high⟩ := by
  cases v <;> cases r <;> cases x <;> rfl
theorem zp6 (v r w x u g a d : Bool) (rsw ppn high : Int) (W : World) :
    Calls Tryz.prog 92 #[.agg #[.bool v, .bool r, .bool w, .bool x, .bool u, .bool g, .bool a, .bool d, .int .u64 rsw, .int .u64 ppn, .int .u64 high]] W fun e w' => e = .returned (.bool (zbu ⟨v, r, w, x, u, g, a, d, rsw, ppn, high⟩)) ∧ Below W.heap.size W w' := by
  have H := Lib.hid (zoh v r w x u g a d rsw ppn high)
  go_enter Tryz.func92, Tryz.ntmps92
  go_wp2_with (go_at_call 116; (with_reducible refine (zkf _ _ _ _ _ _ _ _ _ _ _ _).mono ?_); rintro e w1 ⟨rfl, hb⟩)
  all_goals
    go_ret
    refine ⟨congrArg (fun z => Ending.returned (.bool z)) (by rw [← H.out]; simp [*]), (by repeat (first | (with_reducible exact Below.refl _ _) | (with_reducible apply zbp) | (with_reducible apply zay) | (with_reducible apply za5; rotate_left; with_reducible assumption) | (with_reducible refine zat _ _ _ (by first | omega | (simp; done) | (simp; omega) | (simp at *; omega)) ?_)))⟩
theorem zp7 (v r w x u g a d : Bool) (rsw ppn high : Int) (W : World) :
    Calls Tryz.prog 117 #[.agg #[.bool v, .bool r, .bool w, .bool x, .bool u, .bool g, .bool a, .bool d, .int .u64 rsw, .int .u64 ppn, .int .u64 high]] W fun e w' => e = .returned (.agg #[.bool r, .bool w, .bool x, .bool u]) ∧ Below W.heap.size W w' := by
  go_enter Tryz.func117, Tryz.ntmps117
  go_wp2
  exact bodyPost_ret (v := .agg #[.bool r, .bool w, .bool x, .bool u]) (by simp [results, Tryz.results117, go_sem]) rfl ⟨rfl, (by repeat (first | (with_reducible exact Below.refl _ _) | (with_reducible apply zbp) | (with_reducible apply zay) | (with_reducible apply za5; rotate_left; with_reducible assumption) | (with_reducible refine zat _ _ _ (by first | omega | (simp; done) | (simp; omega) | (simp at *; omega)) ?_)))⟩
theorem zp8 (f : Int) (r w x u g : Bool) (W : World) :
    Calls Tryz.prog 100 #[.int .u64 f, .agg #[.bool r, .bool w, .bool x, .bool u], .bool g] W fun e w' => e = .returned (.agg #[.bool true, .bool r, .bool w, .bool x, .bool u, .bool g, .bool false, .bool false, .int .u64 0, .int .u64 f, .int .u64 0]) ∧ Below W.heap.size W w' := by
  go_enter Tryz.func100, Tryz.ntmps100
  go_wp2
  exact bodyPost_ret (v := .agg #[.bool true, .bool r, .bool w, .bool x, .bool u, .bool g, .bool false, .bool false, .int .u64 0, .int .u64 f, .int .u64 0]) (by simp [results, Tryz.results100, go_sem]) rfl ⟨rfl, (by repeat (first | (with_reducible exact Below.refl _ _) | (with_reducible apply zbp) | (with_reducible apply zay) | (with_reducible apply za5; rotate_left; with_reducible assumption) | (with_reducible refine zat _ _ _ (by first | omega | (simp; done) | (simp; omega) | (simp at *; omega)) ?_)))⟩
set_option maxHeartbeats 800000 in
theorem zs4 (v r w x u g a d : Bool) (rsw ppn high : Int) (l : Int) (W : World) (h1 : U rsw) (h2 : U ppn) (h3 : U high) (l0 : 0 ≤ l) (l2 : l ≤ 2) :
    Calls Tryz.prog 159 #[.agg #[.bool v, .bool r, .bool w, .bool x, .bool u, .bool g, .bool a, .bool d, .int .u64 rsw, .int .u64 ppn, .int .u64 high], .int .i64 l] W fun e w' => e = .returned (.bool (zej ⟨v, r, w, x, u, g, a, d, rsw, ppn, high⟩ l)) ∧ Below W.heap.size W w' := by
  rcases lev l0 l2 with rfl | rfl | rfl
  all_goals
    go_enter Tryz.func159, Tryz.ntmps159
    go_wp2
    all_goals
      go_ret
      refine ⟨congrArg (fun z => Ending.returned (.bool z)) ?_, (by repeat (first | (with_reducible exact Below.refl _ _) | (with_reducible apply zbp) | (with_reducible apply zay) | (with_reducible apply za5; rotate_left; with_reducible assumption) | (with_reducible refine zat _ _ _ (by first | omega | (simp; done) | (simp; omega) | (simp at *; omega)) ?_)))⟩
      first
        | (simp [zej, zbu, sz, *]; done)
        | (simp [zej, zbu, sz, *]; omega)
        | (simp_all [zej, zbu, sz]; done)
        | (simp_all [zej, zbu, sz]; omega)
        | (rw [Bool.eq_iff_iff]; simp_all [zej, zbu, sz]; omega)
set_option maxHeartbeats 800000 in
theorem zs5 (x : Int) (W : World) (hx : U x) :
    Calls Tryz.prog 157 #[.int .u64 x] W fun e w' => e = .returned (.agg #[.bool (zbb x).v, .bool (zbb x).r, .bool (zbb x).w, .bool (zbb x).x, .bool (zbb x).u, .bool (zbb x).g, .bool (zbb x).a, .bool (zbb x).d, .int .u64 (zbb x).rsw, .int .u64 (zbb x).ppn, .int .u64 (zbb x).high]) ∧ Below W.heap.size W w' := by
  obtain ⟨x0, x1⟩ := hx
  obtain ⟨y, hy⟩ := zl5 x0 x1
  have Hb : ∀ i : Nat, i ≤ 7 → Hid (RefS.bt y i = zfb x i) := fun i hi => Lib.hid (by
    unfold RefS.bt zfb; rw [hy]; unfold B
    rw [BitVec.getLsbD, Nat.testBit, Nat.shiftRight_eq_div_pow, Nat.and_comm, Nat.and_one_is_mod, Int.toNat_natCast]
    rw [show ((y.toNat : Int) / 2 ^ i % 2 == 1) = ((y.toNat / 2 ^ i % 2 : Nat) == 1) by
      rw [Bool.eq_iff_iff, beq_iff_eq, beq_iff_eq]; norm_cast]
    rcases Nat.mod_two_eq_zero_or_one (y.toNat / 2 ^ i) with h | h <;> rw [h] <;> rfl)
  have HY := Lib.hid hy; clear hy
  go_enter Tryz.func157, Tryz.ntmps157
  go_wp2_with (go_at_call 142; rw [HY.out]; (with_reducible refine (RefS.zrr _ _ _ (by omega) (by omega)).mono ?_); rw [← HY.out]; rintro e w' ⟨rfl, rfl⟩)
  have hb : ∀ i : Nat, i ≤ 7 → RefS.bt y i = zfb x i := fun i hi => (Hb i hi).out
  rw [hb 0 (by omega), hb 1 (by omega), hb 2 (by omega), hb 3 (by omega), hb 4 (by omega), hb 5 (by omega), hb 6 (by omega), hb 7 (by omega)]
  refine bodyPost_ret (v := .agg #[.bool (zbb x).v, .bool (zbb x).r, .bool (zbb x).w, .bool (zbb x).x, .bool (zbb x).u, .bool (zbb x).g, .bool (zbb x).a, .bool (zbb x).d, .int .u64 (zbb x).rsw, .int .u64 (zbb x).ppn, .int .u64 (zbb x).high]) ?_ rfl ?_
  · simp [results, Tryz.results157, go_sem, zbb]
  · exact ⟨rfl, (by repeat (first | (with_reducible exact Below.refl _ _) | (with_reducible apply zbp) | (with_reducible apply zay) | (with_reducible apply za5; rotate_left; with_reducible assumption) | (with_reducible refine zat _ _ _ (by first | omega | (simp; done) | (simp; omega) | (simp at *; omega)) ?_)))⟩
def f8 (v r w x u g a d : Bool) : Nat → Bool
  | 0 => v
  | 1 => r
  | 2 => w
  | 3 => x
  | 4 => u
  | 5 => g
  | 6 => a
  | _ => d
theorem row_low8 (v r w x u g a d : Bool) (rsw ppn high : Int) : zl8 (f8 v r w x u g a d) 8 = zpm ⟨v, r, w, x, u, g, a, d, rsw, ppn, high⟩ := by
  unfold zpm; simp only [zl8, f8]; omega
set_option maxHeartbeats 800000 in
set_option maxRecDepth 10000 in
theorem zs6 (v r w x u g a d : Bool) (rsw ppn high : Int) (W : World) (h1 : U rsw) (h2 : U ppn) (h3 : U high) (hm : zf7 ⟨v, r, w, x, u, g, a, d, rsw, ppn, high⟩ = true) :
    Calls Tryz.prog 149 #[.agg #[.bool v, .bool r, .bool w, .bool x, .bool u, .bool g, .bool a, .bool d, .int .u64 rsw, .int .u64 ppn, .int .u64 high]] W fun e w' => e = .returned (.int .u64 (word ⟨v, r, w, x, u, g, a, d, rsw, ppn, high⟩)) ∧ Below W.heap.size W w' := by
  rw [zdk] at hm
  simp only at hm
  have HL := Lib.hid (row_low8 v r w x u g a d rsw ppn high)
  obtain ⟨base, hb⟩ : ∃ base : Int, 256 * rsw + 1024 * ppn + 18014398509481984 * high = base := ⟨_, rfl⟩
  have hbb : 0 ≤ base ∧ base ≤ 18446744073709551360 := by omega
  have HB := Lib.hid hb; clear hb
  go_enter Tryz.func149, Tryz.ntmps149
  go_wp2
  rw [HB.out]
  obtain ⟨W2, hW2⟩ : ∃ W2 : World, (W.alloc (Obj.cells #[Value.bool v, Value.bool r, Value.bool w, Value.bool x, Value.bool u, Value.bool g, Value.bool a, Value.bool d, Value.int IntKind.u64 rsw, Value.int IntKind.u64 ppn, Value.int IntKind.u64 high] 99)).alloc (Obj.cells #[Value.bool v, Value.bool r, Value.bool w, Value.bool x, Value.bool u, Value.bool g, Value.bool a, Value.bool d] 4) = W2 := ⟨_, rfl⟩
  have hc : ∀ i, i < 8 → W2.cell? ⟨W.heap.size + 1, i, none⟩ = some (.bool (f8 v r w x u g a d i)) := by
    intro i hi
    rw [← hW2]
    have : i = 0 ∨ i = 1 ∨ i = 2 ∨ i = 3 ∨ i = 4 ∨ i = 5 ∨ i = 6 ∨ i = 7 := by omega
    rcases this with rfl | rfl | rfl | rfl | rfl | rfl | rfl | rfl <;> simp [f8]
  have hbel : Below W.heap.size W W2 := by rw [← hW2]; exact (by repeat (first | (with_reducible exact Below.refl _ _) | (with_reducible apply zbp) | (with_reducible apply zay) | (with_reducible apply za5; rotate_left; with_reducible assumption) | (with_reducible refine zat _ _ _ (by first | omega | (simp; done) | (simp; omega) | (simp at *; omega)) ?_)))
  rw [hW2]
  have HC := Lib.hid hc; clear hc hW2
  go_loop [3, 5, 6] (fun y n i => ∃ k : Nat, k ≤ 8 ∧ i = .int .i64 k ∧ y = .int .u64 (base + zl8 (f8 v r w x u g a d) k) ∧ n = .int .u64 ((2 ^ k : Nat) : Int)) (fun _ _ i => 8 - (intOf i).toNat)
  case atStart => exact ⟨0, by omega, rfl, by simp [zl8], rfl⟩
  case round =>
    obtain ⟨k, hk, rfl, rfl, rfl⟩ := hrel
    by_cases hlt : k < 8
    · have hcell := HC.out k hlt
      have hp : ((2 ^ k : Nat) : Int) ≤ 128 := by
        have : 2 ^ k ≤ 2 ^ 7 := Nat.pow_le_pow_right (by decide) (by omega)
        exact_mod_cast this
      have hp0 : 0 ≤ ((2 ^ k : Nat) : Int) := Int.natCast_nonneg _
      have hr := zpo (f8 v r w x u g a d) k
      have hr0 : 0 ≤ zl8 (f8 v r w x u g a d) k ∧ zl8 (f8 v r w x u g a d) k ≤ 127 := by
        have e : (2 : Int) ^ k = ((2 ^ k : Nat) : Int) := by norm_cast
        rw [e] at hr; omega
      clear hr
      have H2 := Lib.hid (zjw (f8 v r w x u g a d) k)
      obtain ⟨p, hpk⟩ : ∃ p : Int, ((2 ^ k : Nat) : Int) = p := ⟨_, rfl⟩
      have HP := Lib.hid hpk
      rw [hpk] at hp hp0
      rw [hpk]
      clear hpk
      have e2 : ((2 ^ (k + 1) : Nat) : Int) = 2 * p := by rw [← HP.out, Nat.pow_succ]; omega
      have E2 := Lib.hid e2; clear e2
      cases hf : f8 v r w x u g a d k
      all_goals
        rw [hf] at hcell
        have HF := Lib.hid hf; clear hf
        go_wp2
        refine ⟨⟨k + 1, by omega, by go_num, ?_, ?_⟩, ?_⟩
        · rw [H2.out, HF.out]; unfold bI; rw [show (2 : Int) ^ k = p by rw [← HP.out]; norm_cast]; first | go_num | simp
        · rw [E2.out]
        · simp [intOf]; omega
    · obtain rfl : k = 8 := by omega
      go_wp2
      go_ret
      refine ⟨congrArg (fun z => Ending.returned (.int .u64 z)) ?_, hbel⟩
      rw [HL.out, ← HB.out]; unfold word; simp only; omega
end Go.Proofs.YtmkjfeamgknpfaaGreatDoor.PteR
namespace Go.Proofs.YtmkjfeamgknpfaaGreatDoor.VaR
open Go.RowKit Bv VaSpec Base BitsC VaC
theorem zvo (a : Int) (w : World) : Calls Tryz.prog 155 #[.int .u64 a] w fun e w' => e = .returned (.bool (isv a)) ∧ Q w w' := by
  have H := Lib.hid (show (decide (a < 274877906944) || decide (18446743798831644672 ≤ a)) = isv a from rfl)
  by_cases h : a < 274877906944
  · have H2 := Lib.hid (show isv a = true by unfold isv; simp [h])
    go_enter Tryz.func155, Tryz.ntmps155
    go_wp2
    go_ret
    exact ⟨congrArg (fun z => Ending.returned (.bool z)) H2.out.symm, Q.refl _⟩
  · have hd : decide (a < 274877906944) = false := by simpa using h
    by_cases h2 : 18446743798831644672 ≤ a
    · have H2 := Lib.hid (show isv a = true by unfold isv; simp [h2])
      go_enter Tryz.func155, Tryz.ntmps155
      go_wp2
      go_ret
      exact ⟨congrArg (fun z => Ending.returned (.bool z)) H2.out.symm, Q.refl _⟩
    · have H2 := Lib.hid (show isv a = false by unfold isv; simp [h2]; omega)
      go_enter Tryz.func155, Tryz.ntmps155
      go_wp2
      go_ret
      exact ⟨congrArg (fun z => Ending.returned (.bool z)) H2.out.symm, Q.refl _⟩
set_option maxHeartbeats 400000 in
theorem zhd (l : Int) (w : World) (h0 : 0 ≤ l) (h2 : l ≤ 2) : Calls Tryz.prog 97 #[.int .i64 l] w fun e w' => e = .returned (.int .u64 (sz l)) ∧ Q w w' := by
  obtain ⟨n, rfl⟩ := Int.eq_ofNat_of_zero_le h0
  go_enter Tryz.func97, Tryz.ntmps97
  go_wp2
  go_loop [3, 4] (fun x k => ∃ j : Nat, j ≤ n ∧ k = .int .i64 j ∧ x = .int .u64 (sz j)) (fun _ k => n - (intOf k).toNat)
  case atStart => exact ⟨0, by omega, rfl, rfl⟩
  case round =>
    obtain ⟨j, hj, rfl, rfl⟩ := hrel
    by_cases hlt : j < n
    · have hp := zk2 j
      have hq := z3p j
      go_wp2
      refine ⟨⟨j + 1, by omega, by go_num, ?_⟩, ?_⟩
      · have : j = 0 ∨ j = 1 := by omega
        rcases this with rfl | rfl <;> rfl
      · simp [intOf]; omega
    · obtain rfl : j = n := by omega
      go_wp2
      go_ret
      exact ⟨rfl, Q.refl _⟩
theorem zs7 (a l : Int) (w : World) (a0 : 0 ≤ a) (a1 : a < 18446744073709551616) (h0 : 0 ≤ l) (h2 : l ≤ 2) : Calls Tryz.prog 113 #[.int .u64 a, .int .i64 l] w fun e w' => e = .returned (.int .i64 (idx a l)) ∧ Q w w' := by
  have hz : (sz l == 0) = false := by simpa using zze l
  have hp := zk2 l
  go_enter Tryz.func113, Tryz.ntmps113
  go_wp2_with (go_at_call 97; refine (zhd l _ h0 h2).mono ?_; rintro e w' ⟨rfl, ⟨nd, rfl⟩⟩)
  go_ret
  refine ⟨?_, by repeat (first | exact Q.refl _ | apply Q.step)⟩
  have h1 : 0 ≤ a / sz l := Int.ediv_nonneg a0 (by omega)
  exact congrArg (fun z => Ending.returned (.int .i64 z)) (by rw [Int.tmod_eq_emod_of_nonneg h1]; unfold idx wrap64; omega)
theorem zs8 (a : Int) (w : World) (a0 : 0 ≤ a) (a1 : a < 18446744073709551616) : Calls Tryz.prog 161 #[.int .u64 a] w fun e w' => e = .returned (.int .u64 (num a)) ∧ Q w w' := by
  go_enter Tryz.func161, Tryz.ntmps161
  go_wp2
  go_ret
  exact ⟨rfl, Q.refl _⟩
theorem zs9 (a l : Int) (w : World) (a0 : 0 ≤ a) (a1 : a < 18446744073709551616) (h0 : 0 ≤ l) (h2 : l ≤ 2) : Calls Tryz.prog 156 #[.int .u64 a, .int .i64 l] w fun e w' => e = .returned (.int .u64 (off a l)) ∧ Q w w' := by
  have hz : (sz l == 0) = false := by simpa using zze l
  have hp := zk2 l
  go_enter Tryz.func156, Tryz.ntmps156
  go_wp2_with (go_at_call 97; refine (zhd l _ h0 h2).mono ?_; rintro e w' ⟨rfl, ⟨nd, rfl⟩⟩)
  go_ret
  exact ⟨rfl, by repeat (first | exact Q.refl _ | apply Q.step)⟩
theorem zp9 (a l : Int) (w : World) (a0 : 0 ≤ a) (a1 : a < 18446744073709551616) (h0 : 0 ≤ l) (h2 : l ≤ 2) : Calls Tryz.prog 112 #[.int .u64 a, .int .i64 l] w fun e w' => e = .returned (.bool (zkm a l)) ∧ Q w w' := by
  cases hi : isv a
  all_goals
    have hf : zkm a l = (isv a && (off a l == 0)) := rfl
    rw [hi] at hf
    have Hf := Lib.hid hf; clear hf
    have Hi := Lib.hid hi; clear hi
    go_enter Tryz.func112, Tryz.ntmps112
    go_wp2_with (first | (go_at_call 155; refine (zvo a _).mono ?_; rw [Hi.out]; rintro e w' ⟨rfl, ⟨nd, rfl⟩⟩) | (go_at_call 156; refine (zs9 a l _ a0 a1 h0 h2).mono ?_; rintro e w' ⟨rfl, ⟨nd, rfl⟩⟩))
    go_ret
    refine ⟨?_, by repeat (first | exact Q.refl _ | apply Q.step)⟩
    rw [Hf.out]; rfl
end Go.Proofs.YtmkjfeamgknpfaaGreatDoor.VaR
namespace Go.Proofs.YtmkjfeamgknpfaaGreatDoor.RfC
open Go.RowKit Bv VaSpec Base MemL RegR Ax MemC PutC MemC3 TzC OkS SpA SpB SpC SpD IterC SpE SpF SpG SpH SpI SpJ SpK SpN RfP RfQ RfA RfB
open BitsC PteSpec
set_option maxRecDepth 10000
set_option maxHeartbeats 800000
theorem z0y (x : Int) (hx : U x) : Ok 157 [iu x] (.m (.ag (zbb x).ce)) :=
  zbh #[.int .u64 x] (.agg #[.bool (zbb x).v, .bool (zbb x).r, .bool (zbb x).w, .bool (zbb x).x, .bool (zbb x).u, .bool (zbb x).g, .bool (zbb x).a, .bool (zbb x).d, .int .u64 (zbb x).rsw, .int .u64 (zbb x).ppn, .int .u64 (zbb x).high]) fun W _ => (PteR.zs5 x W hx).mono fun e w' h => h
theorem zi4 (q : Pte) : Ok 92 [.ag q.ce] (.m (ib (zbu q))) :=
  zbh #[.agg #[.bool q.v, .bool q.r, .bool q.w, .bool q.x, .bool q.u, .bool q.g, .bool q.a, .bool q.d, .int .u64 q.rsw, .int .u64 q.ppn, .int .u64 q.high]] (.bool (zbu q)) fun W _ => (PteR.zp6 q.v q.r q.w q.x q.u q.g q.a q.d q.rsw q.ppn q.high W).mono fun e w' h => h
theorem zvp (q : Pte) (h : q.U) (l : Int) (l0 : 0 ≤ l) (l2 : l ≤ 2) : Ok 159 [.ag q.ce, ii l] (.m (ib (zej q l))) :=
  zbh #[.agg #[.bool q.v, .bool q.r, .bool q.w, .bool q.x, .bool q.u, .bool q.g, .bool q.a, .bool q.d, .int .u64 q.rsw, .int .u64 q.ppn, .int .u64 q.high], .int .i64 l] (.bool (zej q l)) fun W _ => (PteR.zs4 q.v q.r q.w q.x q.u q.g q.a q.d q.rsw q.ppn q.high l W h.1 h.2.1 h.2.2 l0 l2).mono fun e w' h => h
theorem zif (a l : Int) (ha : U a) (h0 : 0 ≤ l) (h2 : l ≤ 2) : Ok 113 [iu a, ii l] (.m (ii (idx a l))) :=
  zbh #[.int .u64 a, .int .i64 l] (.int .i64 (idx a l)) fun W _ => (VaR.zs7 a l W ha.1 ha.2 h0 h2).mono fun e w' ⟨he, hq⟩ => ⟨he, Q.below hq⟩
theorem zxr (a l : Int) (ha : U a) (h0 : 0 ≤ l) (h2 : l ≤ 2) : Ok 112 [iu a, ii l] (.m (ib (zkm a l))) :=
  zbh #[.int .u64 a, .int .i64 l] (.bool (zkm a l)) fun W _ => (VaR.zp9 a l W ha.1 ha.2 h0 h2).mono fun e w' ⟨he, hq⟩ => ⟨he, Q.below hq⟩
attribute [local irreducible] Ax.zcs
theorem zxs (sz : Int) (m : List (Int × Int)) (a : Int) (ha : U a) (hs : Srt m) (hl : m.length ≤ 1000000) : Ok 158 [zbm sz m, iu a] (.m (iu (zcj sz m a))) := by
  unfold zcj
  by_cases hlt : a < sz
  rotate_left
  · rw [if_neg hlt]
    refine zaf 49 Tryz.func158 rfl rfl rfl rfl ?_ GG.to
    intro W A hG
    repeat (first | (refine zal rfl ?_; first | refine gdr (zaa (.inl rfl) rfl) ?_ | refine gnk 1 rfl (za2 tb rfl rfl rfl rfl rfl) ?_ | refine gnx 1 rfl (zbc tb rfl rfl rfl) rfl ?_ | refine gdr (zaa (.inr rfl) rfl) ?_ | refine gdr (za6 rfl rfl rfl rfl) ?_ | refine gdr (zag rfl rfl rfl rfl rfl rfl) ?_) | (refine hK _ ?_; clear hK K) | refine zad rfl ?_ | exact zap (show za8 _ _ _ = some _ by kernel_rfl) | refine zai rfl rfl ?_ | refine zac (fun K hK => ?_))
  rw [if_pos hlt]
  obtain ⟨r, hr⟩ : ∃ r, r = MemC.look m (a / 8) := ⟨_, rfl⟩
  rw [← hr]
  refine zaf 49 Tryz.func158 rfl rfl rfl rfl ?_ GG.to
  intro W A hG
  repeat (first | (refine zal rfl ?_; first | refine gdr (zaa (.inl rfl) rfl) ?_ | refine gnk 1 rfl (za2 tb rfl rfl rfl rfl rfl) ?_ | refine gnx 1 rfl (zbc tb rfl rfl rfl) rfl ?_ | refine gdr (zaa (.inr rfl) rfl) ?_ | refine gdr (za6 rfl rfl rfl rfl) ?_ | refine gdr (zag rfl rfl rfl rfl rfl rfl) ?_ | refine gdr (zan rfl rfl rfl rfl) ?_) | (refine hK _ ?_; clear hK K) | refine zad rfl ?_ | refine zah rfl rfl ?_ | refine zam ?_ | refine zao ?_ | refine zac (fun K hK => ?_))
  refine za9 (α := Nat × Nat) (fun q => q.1 ≤ lb m (a / 8) ∧ lb m (a / 8) ≤ q.2 ∧ q.2 ≤ m.length ∧ (q.2 = m.length ∨ ∃ c, m[q.2]? = some c ∧ a / 8 < c.1)) (fun q => St.of [(1, .m (iu a)), (2, .m (.c (.p 2 0))), (5, .m (ii q.1)), (6, .m (ii q.2))] [(2, .live (.box [cu sz, .s m.length 2 (fl m)]))]) (fun q => q.2 - q.1) (0, m.length) ⟨Nat.zero_le _, zt8 _ _, Nat.le_refl _, .inl rfl⟩ (zar _ _ ⟨rfl, rfl, rfl, rfl, trivial⟩ ⟨rfl, trivial⟩ rfl) ?_
  rintro ⟨lo, hi⟩ ⟨h1, h2, h3, h4⟩
  have g1 : lo ≤ lb m (a / 8) := h1
  have g2 : lb m (a / 8) ≤ hi := h2
  have g3 : hi ≤ m.length := h3
  have g4 : hi = m.length ∨ ∃ c, m[hi]? = some c ∧ a / 8 < c.1 := h4
  clear h1 h2 h3 h4
  show Aw _ _ _ _ (St.of [(1, .m (iu a)), (2, .m (.c (.p 2 0))), (5, .m (ii lo)), (6, .m (ii hi))] [(2, .live (.box [cu sz, .s m.length 2 (fl m)]))])
  by_cases hlo : lo < hi
  · have hmid : ((lo : Int) + (hi : Int)) / 2 = (((lo + hi) / 2 : Nat) : Int) := by omega
    have hml : (lo + hi) / 2 < m.length := by omega
    obtain ⟨c, hc⟩ : ∃ c, m[(lo + hi) / 2]? = some c := ⟨_, List.getElem?_eq_getElem hml⟩
    have hx : ((fl m).drop ((((lo : Int) + (hi : Int)) / 2).toNat * 2)).take 2 = [.int .u64 c.1, .int .u64 c.2] := by rw [hmid, Int.toNat_natCast]; exact SpL.zio hc
    have hlb := zzg m (a / 8) hs ((lo + hi) / 2) hml
    have hce : m[(lo + hi) / 2] = c := by rw [List.getElem?_eq_getElem hml] at hc; exact Option.some.inj hc
    rw [hce] at hlb
    by_cases e1 : c.1 = a / 8
    · have hlk : MemC.look m (a / 8) = c.2 := by
        have hle : lb m (a / 8) = (lo + hi) / 2 := by
          have n1 : ¬ (lo + hi) / 2 < lb m (a / 8) := fun h => by have := hlb.2 h; omega
          rcases Nat.lt_or_ge (lb m (a / 8)) ((lo + hi) / 2) with h | h
          · have hl2 := zzg m (a / 8) hs (lb m (a / 8)) (by omega)
            have hp := List.pairwise_iff_getElem.1 hs (lb m (a / 8)) ((lo + hi) / 2) (by omega) hml h
            rw [hce] at hp
            have := hl2.1 (by omega)
            omega
          · omega
        unfold MemC.look
        rw [hle, hc]
        simp [e1]
      obtain rfl : r = c.2 := hr.trans hlk
      repeat (first | (refine zal rfl ?_; first | refine gdr (zaa (.inl rfl) rfl) ?_ | refine gnk 1 rfl (za2 tb rfl rfl rfl rfl rfl) ?_ | refine gnx 1 rfl (zbc tb rfl rfl rfl) rfl ?_ | refine gdr (zaa (.inr rfl) rfl) ?_ | refine gdr (za6 rfl rfl rfl rfl) ?_ | refine gdr (gar rfl rfl rfl rfl) ?_ | refine gdr (zbs rfl rfl rfl rfl (by omega) (by omega) (by first | exact zdb (by omega) (by omega) | exact zdc (by omega) (by omega))) ?_ | refine gnx 3 rfl (zau tb rfl rfl rfl rfl (by first | kernel_rfl | rfl)) rfl ?_ | refine gnx 3 rfl (za0 tb rfl rfl rfl rfl) rfl ?_ | refine gnx 4 rfl (zav rfl rfl rfl rfl rfl rfl (by omega) (by omega) _ (by assumption)) rfl ?_) | (refine hK _ ?_; clear hK K) | refine zad rfl ?_ | exact zap (show za8 _ _ _ = some _ by kernel_rfl) | refine zai rfl rfl ?_ | refine zam ?_ | refine zao ?_ | refine zac (fun K hK => ?_))
    · by_cases e2 : c.1 < a / 8
      · have := hlb.1 e2
        repeat (first | (refine zal rfl ?_; first | refine gdr (zaa (.inl rfl) rfl) ?_ | refine gnk 1 rfl (za2 tb rfl rfl rfl rfl rfl) ?_ | refine gnx 1 rfl (zbc tb rfl rfl rfl) rfl ?_ | refine gdr (zaa (.inr rfl) rfl) ?_ | refine gdr (za6 rfl rfl rfl rfl) ?_ | refine gdr (gar rfl rfl rfl rfl) ?_ | refine gdr (zbs rfl rfl rfl rfl (by omega) (by omega) (by first | exact zdb (by omega) (by omega) | exact zdc (by omega) (by omega))) ?_ | refine gnx 3 rfl (zau tb rfl rfl rfl rfl (by first | kernel_rfl | rfl)) rfl ?_ | refine gnx 3 rfl (za0 tb rfl rfl rfl rfl) rfl ?_ | refine gnx 4 rfl (zav rfl rfl rfl rfl rfl rfl (by omega) (by omega) _ (by assumption)) rfl ?_) | (refine hK _ ?_; clear hK K) | refine zad rfl ?_ | refine zai rfl rfl ?_ | refine zah rfl rfl ?_ | refine zam ?_ | refine zao ?_ | refine zac (fun K hK => ?_))
        exact ⟨((lo + hi) / 2 + 1, hi), ⟨by show (lo + hi) / 2 + 1 ≤ _; omega, g2, g3, g4⟩, by show hi - ((lo + hi) / 2 + 1) < hi - lo; omega, zar _ _ ⟨rfl, rfl, rfl, rfl, trivial⟩ ⟨rfl, trivial⟩ rfl⟩
      · have : ¬ (lo + hi) / 2 < lb m (a / 8) := fun h => e2 (hlb.2 h)
        repeat (first | (refine zal rfl ?_; first | refine gdr (zaa (.inl rfl) rfl) ?_ | refine gnk 1 rfl (za2 tb rfl rfl rfl rfl rfl) ?_ | refine gnx 1 rfl (zbc tb rfl rfl rfl) rfl ?_ | refine gdr (zaa (.inr rfl) rfl) ?_ | refine gdr (za6 rfl rfl rfl rfl) ?_ | refine gdr (gar rfl rfl rfl rfl) ?_ | refine gdr (zbs rfl rfl rfl rfl (by omega) (by omega) (by first | exact zdb (by omega) (by omega) | exact zdc (by omega) (by omega))) ?_ | refine gnx 3 rfl (zau tb rfl rfl rfl rfl (by first | kernel_rfl | rfl)) rfl ?_ | refine gnx 3 rfl (za0 tb rfl rfl rfl rfl) rfl ?_ | refine gnx 4 rfl (zav rfl rfl rfl rfl rfl rfl (by omega) (by omega) _ (by assumption)) rfl ?_) | (refine hK _ ?_; clear hK K) | refine zad rfl ?_ | refine zai rfl rfl ?_ | refine zah rfl rfl ?_ | refine zam ?_ | refine zao ?_ | refine zac (fun K hK => ?_))
        exact ⟨(lo, (lo + hi) / 2), ⟨g1, by show lb m (a / 8) ≤ (lo + hi) / 2; omega, by show (lo + hi) / 2 ≤ m.length; omega, .inr ⟨c, hc, by omega⟩⟩, by show (lo + hi) / 2 - lo < hi - lo; omega, zar _ _ ⟨rfl, rfl, rfl, rfl, trivial⟩ ⟨rfl, trivial⟩ rfl⟩
  · have hlk : MemC.look m (a / 8) = 0 := by
      have e : lb m (a / 8) = hi := by omega
      unfold MemC.look
      rw [e]
      rcases g4 with h | ⟨c, hc, hlt⟩
      · rw [h, List.getElem?_eq_none (Nat.le_refl _)]
      · rw [hc]; simp; omega
    obtain rfl : r = 0 := hr.trans hlk
    repeat (first | (refine zal rfl ?_; first | refine gdr (zaa (.inl rfl) rfl) ?_ | refine gdr (zaa (.inr rfl) rfl) ?_ | refine gdr (za6 rfl rfl rfl rfl) ?_) | (refine hK _ ?_; clear hK K) | (rename_i K1 hK1; refine hK1 _ ?_; clear hK hK1; clear K) | refine zad rfl ?_ | exact zap (show za8 _ _ _ = some _ by kernel_rfl) | refine zah rfl rfl ?_ | refine zba ?_ | refine zac (fun K hK => ?_))
theorem zoi (q : Pte) (h : q.U) (l : Int) (l0 : 0 ≤ l) (l2 : l ≤ 2) : Ok 115 [.ag q.ce, ii l] (.m (ib (zbq q l))) := by
  have hk := zi4 q
  have hb := zvp q h l l0 l2
  cases hl : zbu q with
  | false =>
    rw [hl] at hk
    rw [show zbq q l = false by simp [zbq, hl]]
    refine zaf 13 Tryz.func115 rfl rfl rfl rfl ?_ GG.to
    intro W A hG
    repeat (first | (refine zal rfl ?_; first | refine gdr (zaw rfl) ?_ | refine gdr (zaa (.inl rfl) rfl) ?_ | refine gnk 1 rfl (za2 tb rfl rfl rfl rfl rfl) ?_ | refine gdr (zaa (.inr rfl) rfl) ?_ | refine gdr (zaj rfl rfl rfl) ?_ | refine gdr (zag rfl rfl rfl rfl rfl rfl) ?_ | refine gdr (zab rfl rfl rfl (hk) (by kernel_rfl)) ?_) | (refine hK _ ?_; clear hK K) | refine zad rfl ?_ | exact zap (show za8 _ _ _ = some _ by kernel_rfl) | refine zac (fun K hK => ?_))
  | true =>
    rw [hl] at hk
    rw [show zbq q l = !zej q l by simp [zbq, hl]]
    refine zaf 13 Tryz.func115 rfl rfl rfl rfl ?_ GG.to
    intro W A hG
    repeat (first | (refine zal rfl ?_; first | refine gdr (zaa (.inl rfl) rfl) ?_ | refine gnk 1 rfl (za2 tb rfl rfl rfl rfl rfl) ?_ | refine gdr (zaa (.inr rfl) rfl) ?_ | refine gdr (zaj rfl rfl rfl) ?_ | refine gdr (zag rfl rfl rfl rfl rfl rfl) ?_ | refine gdr (zas rfl rfl rfl) ?_ | refine gdr (zab rfl rfl rfl (hk) (by kernel_rfl)) ?_ | refine gdr (zab rfl rfl rfl (hb) (by kernel_rfl)) ?_) | (refine hK _ ?_; clear hK K) | refine zad rfl ?_ | exact zap (show za8 _ _ _ = some _ by kernel_rfl) | refine zac (fun K hK => ?_))
theorem zgh (sz : Int) (m : List (Int × Int)) (b n f : Int) (hb : 0 ≤ b ∧ b ≤ 268435456) (hm : 0 ≤ n ∧ n ≤ 64) (hf : 0 ≤ f ∧ f < 2 ^ n.toNat) (h0 : f ≠ 0) (hs : Srt m) (hl : m.length ≤ 1000000) (hc : ∀ c ∈ m, 0 ≤ c.1 ∧ c.1 < 1099511627776) :
    Ok 88 [zbm sz m, .ag [cu b, ci n, cu f]] (.tu [zbm sz (TableC.zbf m (b + tzI f)), .ag [cu b, ci n, cu (zb9 f (tzI f) 1 0)], iu (b + tzI f), ii 0]) := by
  have ht := zd2 (zia hf.1 hf.2 (by omega)) hf.2 h0
  have h1 := zoe b n f hb hm hf h0
  have h2 := zog sz m (b + tzI f) hs hl ⟨by omega, by omega⟩ hc
  refine zaf 28 Tryz.func88 rfl rfl rfl rfl ?_ GG.to
  intro W A hG
  repeat (first | (refine zal rfl ?_; first | refine gdr (zaa (.inl rfl) rfl) ?_ | refine gnk 1 rfl (za2 tb rfl rfl rfl rfl rfl) ?_ | refine gdr (zaa (.inr rfl) rfl) ?_ | refine gdr (zak rfl rfl rfl rfl) ?_ | refine gdr (za6 rfl rfl rfl rfl) ?_ | refine gdr (gar rfl rfl rfl rfl) ?_ | refine gdr (zag rfl rfl rfl rfl rfl rfl) ?_ | refine gdr (zae rfl rfl rfl rfl rfl) ?_ | refine gnk 1 rfl (zbe rfl rfl rfl rfl rfl rfl rfl) ?_ | refine gdr (zab rfl rfl rfl (h1) (by kernel_rfl)) ?_ | refine gdr (zab rfl rfl rfl (h2) (by kernel_rfl)) ?_) | (refine hK _ ?_; clear hK K) | refine zad rfl ?_ | refine za4 (by kernel_rfl) (by kernel_rfl) rfl ?_ | exact zap (show za8 _ _ _ = some _ by kernel_rfl) | refine zah rfl rfl ?_ | refine zao ?_ | refine zac (fun K hK => ?_))
theorem zkg (sz : Int) (m : List (Int × Int)) (b n : Int) (hm : 0 ≤ n ∧ n ≤ 64) :
    Ok 88 [zbm sz m, .ag [cu b, ci n, cu 0]] (.tu [zbm sz m, .ag [cu b, ci n, cu 0], iu 0, ii 8]) := by
  have h1 := zvj b n hm
  refine zaf 28 Tryz.func88 rfl rfl rfl rfl ?_ GG.to
  intro W A hG
  repeat (first | (refine zal rfl ?_; first | refine gdr (zaa (.inl rfl) rfl) ?_ | refine gnk 1 rfl (za2 tb rfl rfl rfl rfl rfl) ?_ | refine gdr (zaa (.inr rfl) rfl) ?_ | refine gdr (zak rfl rfl rfl rfl) ?_ | refine gdr (za6 rfl rfl rfl rfl) ?_ | refine gdr (zag rfl rfl rfl rfl rfl rfl) ?_ | refine gdr (zae rfl rfl rfl rfl rfl) ?_ | refine gnk 1 rfl (zbe rfl rfl rfl rfl rfl rfl rfl) ?_ | refine gdr (zab rfl rfl rfl (h1) (by kernel_rfl)) ?_) | (refine hK _ ?_; clear hK K) | refine zad rfl ?_ | refine za4 (by kernel_rfl) (by kernel_rfl) rfl ?_ | exact zap (show za8 _ _ _ = some _ by kernel_rfl) | refine zai rfl rfl ?_ | refine zac (fun K hK => ?_))
theorem zrs (sz : Int) (m : List (Int × Int)) (b n f r : Int) (hb : 0 ≤ b ∧ b ≤ 268435456) (hm : 0 ≤ n ∧ n ≤ 64) (hf : U f) (hr : 0 ≤ r ∧ r < 268436480) (hs : Srt m) (hl : m.length ≤ 1000000) (hc : ∀ c ∈ m, 0 ≤ c.1 ∧ c.1 < 1099511627776) :
    Ok 94 [zbm sz m, .ag [cu b, ci n, cu f], iu r] (.tu [zbm sz (TableC.zbf m r), .ag [cu b, ci n, cu (TableC2.zdn b n f r)]]) := by
  have h1 := zvl b n f r hb hm hf ⟨hr.1, by omega⟩
  have h2 := zog sz m r hs hl hr hc
  refine zaf 21 Tryz.func94 rfl rfl rfl rfl ?_ GG.to
  intro W A hG
  repeat (first | (refine zal rfl ?_; first | refine gdr (zaw rfl) ?_ | refine gdr (zaa (.inl rfl) rfl) ?_ | refine gnk 1 rfl (za2 tb rfl rfl rfl rfl rfl) ?_ | refine gnx 1 rfl (zbc tb rfl rfl rfl) rfl ?_ | refine gdr (zaa (.inr rfl) rfl) ?_ | refine gdr (zaj rfl rfl rfl) ?_ | refine gdr (zak rfl rfl rfl rfl) ?_ | refine gdr (zb3 tb rfl rfl rfl rfl rfl rfl) ?_ | refine gdr (za6 rfl rfl rfl rfl) ?_ | refine gdr (gar rfl rfl rfl rfl) ?_ | refine gdr (gcv rfl rfl rfl rfl rfl) ?_ | refine gdr (zbs rfl rfl rfl rfl (by omega) (by omega) (by first | exact zdb (by omega) (by omega) | exact zdc (by omega) (by omega))) ?_ | refine gdr (zb1 rfl rfl rfl rfl (by omega) (by omega)) ?_ | refine gdr (zag rfl rfl rfl rfl rfl rfl) ?_ | refine gdr (zae rfl rfl rfl rfl rfl) ?_ | refine gnk 1 rfl (zbe rfl rfl rfl rfl rfl rfl rfl) ?_ | refine gdr (zan rfl rfl rfl rfl) ?_ | refine gnx 3 rfl (zau tb rfl rfl rfl rfl (by first | kernel_rfl | rfl)) rfl ?_ | refine gnx 3 rfl (za0 tb rfl rfl rfl rfl) rfl ?_ | refine gdr (zas rfl rfl rfl) ?_ | refine gdr (zaq rfl rfl rfl rfl) ?_ | refine gdr (zcb rfl rfl rfl rfl) ?_ | refine gnx 4 rfl (zav rfl rfl rfl rfl rfl rfl (by omega) (by omega) _ (by assumption)) rfl ?_ | refine gnx 5 rfl (zb7 rfl rfl rfl rfl rfl rfl rfl rfl rfl (by first | omega | (simp; omega)) rfl) rfl ?_ | refine gnx 5 rfl (zcf tb rfl rfl rfl rfl rfl rfl) rfl ?_ | refine gnx 2 rfl (zc2 rfl rfl rfl rfl rfl rfl rfl (by omega) (by omega)) rfl ?_ | refine gnx 1 rfl (zb4 rfl rfl rfl rfl rfl rfl (by omega) (by omega)) rfl ?_ | refine gdr (zb5 tb rfl rfl rfl rfl rfl rfl (by omega) (by omega) rfl) ?_ | refine gdr (zc1 rfl rfl rfl rfl rfl) ?_ | refine gdr (zcr rfl rfl rfl rfl) ?_ | refine gnx 5 rfl (zcn tb rfl rfl rfl rfl) rfl ?_ | refine gdr (zax rfl rfl rfl rfl rfl rfl rfl rfl rfl rfl rfl) ?_ | refine gdr (zbl rfl rfl rfl rfl rfl rfl rfl) ?_ | refine gdr (zcv rfl rfl rfl rfl rfl) ?_ | refine gdr (zco rfl rfl rfl rfl rfl) ?_ | refine gdr (zcm rfl rfl rfl) ?_ | refine gnx 6 rfl (zbk rfl rfl rfl rfl rfl rfl (by omega) (by omega)) rfl ?_ | refine gdr (zch rfl rfl rfl rfl) ?_ | refine gdr (zby rfl rfl rfl rfl rfl rfl rfl rfl rfl rfl) ?_ | refine gdr (zab rfl rfl rfl (h1) (by kernel_rfl)) ?_ | refine gdr (zab rfl rfl rfl (h2) (by kernel_rfl)) ?_) | (refine hK _ ?_; clear hK K) | (rename_i K1 hK1; refine hK1 _ ?_; clear hK hK1; clear K) | (rename_i K1 hK1; refine hK1 _ ?_; clear hK1) | refine zad rfl ?_ | refine za4 (by kernel_rfl) (by kernel_rfl) rfl ?_ | exact zap (show za8 _ _ _ = some _ by kernel_rfl) | refine zai rfl rfl ?_ | refine zah rfl rfl ?_ | refine zam ?_ | refine zba ?_ | refine zao ?_ | refine zac (fun K hK => ?_) | refine zeb ?_ | refine ze9 ?_ | refine zap (show za8 _ _ _ = some _ ∧ EndB _ _ from ⟨by kernel_rfl, ?_⟩))
theorem zta (f : Fe) : Ok 191 [.ag (Fe.ce f), .ag zE] (.m (ib false)) := by
  refine zaf 38 Tryz.func191 rfl rfl rfl rfl ?_ GG.to
  intro W A hG
  repeat (first | (refine zal rfl ?_; first | refine gnk 1 rfl (za2 tb rfl rfl rfl rfl rfl) ?_ | refine gnx 1 rfl (zbc tb rfl rfl rfl) rfl ?_ | refine gdr (zaa (.inr rfl) rfl) ?_ | refine gdr (zag rfl rfl rfl rfl rfl rfl) ?_ | refine gdr (zas rfl rfl rfl) ?_) | (refine hK _ ?_; clear hK K) | refine zad rfl ?_ | exact zap (show za8 _ _ _ = some _ by kernel_rfl) | refine zai rfl rfl ?_ | refine zac (fun K hK => ?_))
theorem zxt (n : Nat) : zsL (n + 1) = zsL n ++ zS := by
  induction n with
  | zero => rfl
  | succ n ih =>
    have e : zsL (n + 1 + 1) = zS ++ zsL (n + 1) := rfl
    have e2 : zsL (n + 1) = zS ++ zsL n := rfl
    rw [e, ih, ← List.append_assoc, ← e2, ih]
def z34 (n : Nat) (f : Fe) (i : Nat) (xs : List Value) : St := St.of [(2, .m (.c (.p 2 0))), (3, .m (.c (.p 3 0))), (4, .m (.c (.p 4 0))), (5, .m (.c (.o 1000))), (6, .m (ii i))] [(2, .live (.box [.s n 45 (zsL n)])), (3, .live (.box (Fe.ce f))), (4, .live (.box [.v (.slice none 0 0)])), (1000, .live (.row 213 45 i xs))]
def rdoL (n : Nat) (f : Fe) (i w : Nat) (xs : List Value) : St := St.of [(2, .m (.c (.p 2 0))), (3, .m (.c (.p 3 0))), (4, .m (.c (.p 4 0))), (5, .m (.c (.o 1000))), (6, .m (ii i)), (7, .m (.c (.p 7 0))), (8, .m (ii w))] [(2, .live (.box [.s n 45 (zsL n)])), (3, .live (.box (Fe.ce f))), (4, .live (.box [.v (.slice none 0 0)])), (7, .live (.box (zS.map .v))), (1000, .live (.row 213 45 i xs))]
theorem z0z (f : Fe) (n : Nat) (hn : n ≤ 16) : Ok 174 [.ag [.s n 45 (zsL n)], .ag (Fe.ce f)] (.m (.ag [.s n 45 (zsL n)])) := by
  have hm := zta f
  refine zaf 41 Tryz.func174 rfl rfl rfl rfl ?_ GG.to
  intro W A hG
  repeat (first | (refine zal rfl ?_; first | refine gdr (zaa (.inr rfl) rfl) ?_ | refine gdr (zag rfl rfl rfl rfl rfl rfl) ?_ | refine gdr (zae rfl rfl rfl rfl rfl) ?_) | (refine hK _ ?_; clear hK K) | refine zad rfl ?_ | refine zam ?_ | refine zac (fun K hK => ?_))
  refine za9 (α := Nat × List Value) (fun q => q.1 ≤ n ∧ q.2 = zsL q.1) (fun q => z34 n f q.1 q.2) (fun q => n - q.1) (0, []) ⟨Nat.zero_le _, rfl⟩ (Sub.trans (zd7 5 1000 213 45 rfl rfl) (zar _ _ ⟨rfl, rfl, rfl, rfl, rfl, trivial⟩ ⟨rfl, rfl, rfl, rfl, trivial⟩ rfl)) ?_
  rintro ⟨i, xs⟩ ⟨h1, h2⟩
  have g1 : i ≤ n := h1
  have g2 : xs = zsL i := h2
  clear h1 h2
  show Aw _ _ _ _ (z34 n f i xs)
  unfold z34
  by_cases hlt : i < n
  · have hx : ((zsL n).drop (i * 45)).take 45 = zS := zut n i hlt
    repeat (first | (refine zal rfl ?_; first | refine gdr (zaa (.inl rfl) rfl) ?_ | refine gnk 1 rfl (za2 tb rfl rfl rfl rfl rfl) ?_ | refine gnx 1 rfl (zbc tb rfl rfl rfl) rfl ?_ | refine gdr (zaa (.inr rfl) rfl) ?_ | refine gdr (za6 rfl rfl rfl rfl) ?_ | refine gdr (zae rfl rfl rfl rfl rfl) ?_ | refine gnk 1 rfl (zbe rfl rfl rfl rfl rfl rfl rfl) ?_ | refine gdr (zan rfl rfl rfl rfl) ?_ | refine gnx 3 rfl (zau tb rfl rfl rfl rfl (by first | kernel_rfl | rfl)) rfl ?_ | refine gnx 4 rfl (zav rfl rfl rfl rfl rfl rfl (by omega) (by omega) _ (by assumption)) rfl ?_) | (refine hK _ ?_; clear hK K) | refine zad rfl ?_ | refine zai rfl rfl ?_ | refine zam ?_ | refine zao ?_ | refine zac (fun K hK => ?_))
    refine za9 (α := Nat) (fun w => w ≤ 4) (fun w => rdoL n f i w xs) (fun w => 4 - w) 0 (by omega) (zar _ _ ⟨rfl, rfl, rfl, rfl, rfl, rfl, rfl, trivial⟩ ⟨rfl, rfl, rfl, rfl, rfl, trivial⟩ rfl) ?_
    intro w hw
    unfold rdoL
    rcases (by omega : w = 0 ∨ w = 1 ∨ w = 2 ∨ w = 3 ∨ w = 4) with rfl | rfl | rfl | rfl | rfl
    · skip
      repeat (first | (refine zal rfl ?_; first | refine gdr (zaa (.inl rfl) rfl) ?_ | refine gnk 1 rfl (za2 tb rfl rfl rfl rfl rfl) ?_ | refine gnx 1 rfl (zbc tb rfl rfl rfl) rfl ?_ | refine gdr (zaa (.inr rfl) rfl) ?_ | refine gdr (za6 rfl rfl rfl rfl) ?_ | refine gdr (gar rfl rfl rfl rfl) ?_ | refine gnx 1 rfl (zb4 rfl rfl rfl rfl rfl rfl (by omega) (by omega)) rfl ?_ | refine gdr (zab rfl rfl rfl (hm) (by kernel_rfl)) ?_) | (refine hK _ ?_; clear hK K) | refine zad rfl ?_ | refine za4 (by kernel_rfl) (by kernel_rfl) rfl ?_ | refine zai rfl rfl ?_ | refine zah rfl rfl ?_ | refine zam ?_ | refine zao ?_ | refine zac (fun K hK => ?_))
      exact ⟨1, by omega, by omega, zar _ _ ⟨rfl, rfl, rfl, rfl, rfl, rfl, rfl, trivial⟩ ⟨rfl, rfl, rfl, rfl, rfl, trivial⟩ rfl⟩
    · skip
      repeat (first | (refine zal rfl ?_; first | refine gdr (zaa (.inl rfl) rfl) ?_ | refine gnk 1 rfl (za2 tb rfl rfl rfl rfl rfl) ?_ | refine gnx 1 rfl (zbc tb rfl rfl rfl) rfl ?_ | refine gdr (zaa (.inr rfl) rfl) ?_ | refine gdr (za6 rfl rfl rfl rfl) ?_ | refine gdr (gar rfl rfl rfl rfl) ?_ | refine gnx 1 rfl (zb4 rfl rfl rfl rfl rfl rfl (by omega) (by omega)) rfl ?_ | refine gdr (zab rfl rfl rfl (hm) (by kernel_rfl)) ?_) | (refine hK _ ?_; clear hK K) | refine zad rfl ?_ | refine za4 (by kernel_rfl) (by kernel_rfl) rfl ?_ | refine zai rfl rfl ?_ | refine zah rfl rfl ?_ | refine zam ?_ | refine zao ?_ | refine zac (fun K hK => ?_))
      exact ⟨2, by omega, by omega, zar _ _ ⟨rfl, rfl, rfl, rfl, rfl, rfl, rfl, trivial⟩ ⟨rfl, rfl, rfl, rfl, rfl, trivial⟩ rfl⟩
    · skip
      repeat (first | (refine zal rfl ?_; first | refine gdr (zaa (.inl rfl) rfl) ?_ | refine gnk 1 rfl (za2 tb rfl rfl rfl rfl rfl) ?_ | refine gnx 1 rfl (zbc tb rfl rfl rfl) rfl ?_ | refine gdr (zaa (.inr rfl) rfl) ?_ | refine gdr (za6 rfl rfl rfl rfl) ?_ | refine gdr (gar rfl rfl rfl rfl) ?_ | refine gnx 1 rfl (zb4 rfl rfl rfl rfl rfl rfl (by omega) (by omega)) rfl ?_ | refine gdr (zab rfl rfl rfl (hm) (by kernel_rfl)) ?_) | (refine hK _ ?_; clear hK K) | refine zad rfl ?_ | refine za4 (by kernel_rfl) (by kernel_rfl) rfl ?_ | refine zai rfl rfl ?_ | refine zah rfl rfl ?_ | refine zam ?_ | refine zao ?_ | refine zac (fun K hK => ?_))
      exact ⟨3, by omega, by omega, zar _ _ ⟨rfl, rfl, rfl, rfl, rfl, rfl, rfl, trivial⟩ ⟨rfl, rfl, rfl, rfl, rfl, trivial⟩ rfl⟩
    · skip
      repeat (first | (refine zal rfl ?_; first | refine gdr (zaa (.inl rfl) rfl) ?_ | refine gnk 1 rfl (za2 tb rfl rfl rfl rfl rfl) ?_ | refine gnx 1 rfl (zbc tb rfl rfl rfl) rfl ?_ | refine gdr (zaa (.inr rfl) rfl) ?_ | refine gdr (za6 rfl rfl rfl rfl) ?_ | refine gdr (gar rfl rfl rfl rfl) ?_ | refine gnx 1 rfl (zb4 rfl rfl rfl rfl rfl rfl (by omega) (by omega)) rfl ?_ | refine gdr (zab rfl rfl rfl (hm) (by kernel_rfl)) ?_) | (refine hK _ ?_; clear hK K) | refine zad rfl ?_ | refine za4 (by kernel_rfl) (by kernel_rfl) rfl ?_ | refine zai rfl rfl ?_ | refine zah rfl rfl ?_ | refine zam ?_ | refine zao ?_ | refine zac (fun K hK => ?_))
      exact ⟨4, by omega, by omega, zar _ _ ⟨rfl, rfl, rfl, rfl, rfl, rfl, rfl, trivial⟩ ⟨rfl, rfl, rfl, rfl, rfl, trivial⟩ rfl⟩
    · skip
      repeat (first | (refine zal rfl ?_; first | refine gdr (zaa (.inl rfl) rfl) ?_ | refine gnk 1 rfl (za2 tb rfl rfl rfl rfl rfl) ?_ | refine gdr (zaa (.inr rfl) rfl) ?_ | refine gdr (za6 rfl rfl rfl rfl) ?_ | refine gdr (gar rfl rfl rfl rfl) ?_ | refine gdr (zax rfl rfl rfl rfl rfl rfl rfl rfl rfl rfl rfl) ?_ | refine gdr (zbd rfl rfl rfl rfl rfl rfl rfl rfl rfl rfl rfl rfl rfl (by omega)) ?_) | (refine hK _ ?_; clear hK K) | (rename_i K1 hK1; refine hK1 _ ?_; clear hK hK1; clear K) | refine zad rfl ?_ | refine zah rfl rfl ?_ | refine zba ?_ | refine zac (fun K hK => ?_))
      exact ⟨(i + 1, xs ++ zS), ⟨by show i + 1 ≤ n; omega, by show xs ++ zS = zsL (i + 1); rw [zxt, g2]⟩, by show n - (i + 1) < n - i; omega, Sub.trans (zar [(2, .m (.c (.p 2 0))), (3, .m (.c (.p 3 0))), (4, .m (.c (.p 4 0))), (5, .m (.c (.o 38))), (6, .m (ii ((i + 1 : Nat) : Int)))] [(2, .live (.box [.s n 45 (zsL n)])), (3, .live (.box (Fe.ce f))), (4, .live (.box [.v (.slice none 0 0)])), (38, .live (.row 213 45 (i + 1) (xs ++ zS)))] ⟨rfl, rfl, rfl, rfl, rfl, trivial⟩ ⟨rfl, rfl, rfl, rfl, trivial⟩ rfl) (Sub.trans (zcp (b := 38) (b' := 1000) rfl rfl) (zar _ _ ⟨rfl, rfl, rfl, rfl, rfl, trivial⟩ ⟨rfl, rfl, rfl, rfl, trivial⟩ rfl))⟩
  · obtain rfl : i = n := by omega
    subst g2
    repeat (first | (refine zal rfl ?_; first | refine gdr (zaa (.inl rfl) rfl) ?_ | refine gnk 1 rfl (za2 tb rfl rfl rfl rfl rfl) ?_ | refine gnx 1 rfl (zbc tb rfl rfl rfl) rfl ?_ | refine gdr (za6 rfl rfl rfl rfl) ?_ | refine gnk 1 rfl (zbe rfl rfl rfl rfl rfl rfl rfl) ?_ | refine gdr (zan rfl rfl rfl rfl) ?_ | refine gdr (zaq rfl rfl rfl rfl) ?_) | (refine hK _ ?_; clear hK K) | (rename_i K1 hK1; refine hK1 _ ?_; clear hK hK1; clear K) | refine zad rfl ?_ | exact zap (show za8 _ _ _ = some _ by kernel_rfl) | refine zah rfl rfl ?_ | refine zba ?_ | refine zac (fun K hK => ?_))
theorem zxu (l : List Fe) (hl : l.length ≤ 1000000) (n : Nat) (hn : n ≤ 16) : Ok 146 [.ag [.s n 45 (zsL n)], .c (.s l.length 4 (flF l))] (.m (.ag [.s n 45 (zsL n)])) := by
  refine zaf 19 Tryz.func146 rfl rfl rfl rfl ?_ GG.to
  intro W A hG
  repeat (first | (refine zal rfl ?_; first | refine gdr (zaa (.inr rfl) rfl) ?_ | refine gdr (zag rfl rfl rfl rfl rfl rfl) ?_ | refine gdr (zae rfl rfl rfl rfl rfl) ?_) | (refine hK _ ?_; clear hK K) | refine zad rfl ?_ | refine zam ?_ | refine zac (fun K hK => ?_))
  refine za9 (α := Nat) (fun k => k ≤ l.length) (fun k => St.of [(1, .m (.c (.s l.length 4 (flF l)))), (2, .m (.c (.p 2 0))), (4, .m (.c (.p 4 0))), (5, .m (ii k))] [(2, .live (.box [.s n 45 (zsL n)])), (4, .live (.box [.v (.slice none 0 0)]))]) (fun k => l.length - k) 0 (by omega) (zar _ _ ⟨rfl, rfl, rfl, rfl, trivial⟩ ⟨rfl, rfl, trivial⟩ rfl) ?_
  intro k hk
  by_cases hlt : k < l.length
  · obtain ⟨f, hf⟩ : ∃ f, l[k]? = some f := ⟨_, List.getElem?_eq_getElem hlt⟩
    have hx := zuu hf
    have hd := z0z f n hn
    repeat (first | (refine zal rfl ?_; first | refine gdr (zaa (.inl rfl) rfl) ?_ | refine gnk 1 rfl (za2 tb rfl rfl rfl rfl rfl) ?_ | refine gdr (zaa (.inr rfl) rfl) ?_ | refine gdr (za6 rfl rfl rfl rfl) ?_ | refine gdr (gar rfl rfl rfl rfl) ?_ | refine gnk 1 rfl (zbe rfl rfl rfl rfl rfl rfl rfl) ?_ | refine gdr (zan rfl rfl rfl rfl) ?_ | refine gnx 3 rfl (zau tb rfl rfl rfl rfl (by first | kernel_rfl | rfl)) rfl ?_ | refine gnx 4 rfl (zav rfl rfl rfl rfl rfl rfl (by omega) (by omega) _ (by assumption)) rfl ?_ | refine gdr (zab rfl rfl rfl (hd) (by kernel_rfl)) ?_) | (refine hK _ ?_; clear hK K) | refine zad rfl ?_ | refine za4 (by kernel_rfl) (by kernel_rfl) rfl ?_ | refine zai rfl rfl ?_ | refine zam ?_ | refine zao ?_ | refine zac (fun K hK => ?_))
    exact ⟨k + 1, by omega, by omega, zar _ _ ⟨rfl, rfl, rfl, rfl, trivial⟩ ⟨rfl, rfl, trivial⟩ rfl⟩
  · skip
    repeat (first | (refine zal rfl ?_; first | refine gdr (zaa (.inl rfl) rfl) ?_ | refine gnk 1 rfl (za2 tb rfl rfl rfl rfl rfl) ?_ | refine gdr (za6 rfl rfl rfl rfl) ?_ | refine gnk 1 rfl (zbe rfl rfl rfl rfl rfl rfl rfl) ?_ | refine gdr (zan rfl rfl rfl rfl) ?_) | (refine hK _ ?_; clear hK K) | (rename_i K1 hK1; refine hK1 _ ?_; clear hK hK1; clear K) | refine zad rfl ?_ | exact zap (show za8 _ _ _ = some _ by kernel_rfl) | refine zah rfl rfl ?_ | refine zba ?_ | refine zac (fun K hK => ?_))
end Go.Proofs.YtmkjfeamgknpfaaGreatDoor.RfC
namespace Go.Proofs.YtmkjfeamgknpfaaGreatDoor.RfD
open Go.RowKit Bv VaSpec Base MemL RegR Ax MemC PutC MemC3 TzC OkS SpA SpB SpC SpD IterC SpE SpF SpG SpH SpI SpJ SpK SpN RfP RfQ RfA RfB RfC SpO
open BitsC PteSpec
set_option maxRecDepth 10000
set_option maxHeartbeats 800000
attribute [local irreducible] Ax.zcs
theorem zvq (k : Kr) (id : Int) : Ok 111 [.ag k.ce, ii id] (.m (ib (zb2 k id))) := by
  by_cases h0 : 0 ≤ id
  · by_cases h : id < k.ss.length
    · obtain ⟨s, hs⟩ : ∃ s, k.ss[id.toNat]? = some s := ⟨_, List.getElem?_eq_getElem (by omega)⟩
      have hx := zld hs
      rw [show zb2 k id = s.live by simp [zb2, h0, hs]]
      refine zaf 22 Tryz.func111 rfl rfl rfl rfl ?_ GG.to
      intro W A hG
      repeat (first | (refine zal rfl ?_; first | refine gdr (zaa (.inl rfl) rfl) ?_ | refine gnk 1 rfl (za2 tb rfl rfl rfl rfl rfl) ?_ | refine gnx 1 rfl (zbc tb rfl rfl rfl) rfl ?_ | refine gdr (zaa (.inr rfl) rfl) ?_ | refine gdr (zaj rfl rfl rfl) ?_ | refine gdr (za6 rfl rfl rfl rfl) ?_ | refine gdr (zag rfl rfl rfl rfl rfl rfl) ?_ | refine gdr (zan rfl rfl rfl rfl) ?_ | refine gnx 3 rfl (zau tb rfl rfl rfl rfl (by first | kernel_rfl | rfl)) rfl ?_ | refine gnx 3 rfl (za0 tb rfl rfl rfl rfl) rfl ?_ | refine gnx 4 rfl (zav rfl rfl rfl rfl rfl rfl (by omega) (by omega) _ (by assumption)) rfl ?_) | (refine hK _ ?_; clear hK K) | refine zad rfl ?_ | exact zap (show za8 _ _ _ = some _ by kernel_rfl) | refine zac (fun K hK => ?_))
    · rw [show zb2 k id = false by simp [zb2, List.getElem?_eq_none (show k.ss.length ≤ id.toNat by omega)]]
      refine zaf 22 Tryz.func111 rfl rfl rfl rfl ?_ GG.to
      intro W A hG
      repeat (first | (refine zal rfl ?_; first | refine gdr (zaw rfl) ?_ | refine gdr (zaa (.inl rfl) rfl) ?_ | refine gnk 1 rfl (za2 tb rfl rfl rfl rfl rfl) ?_ | refine gnx 1 rfl (zbc tb rfl rfl rfl) rfl ?_ | refine gdr (zaa (.inr rfl) rfl) ?_ | refine gdr (zaj rfl rfl rfl) ?_ | refine gdr (za6 rfl rfl rfl rfl) ?_ | refine gdr (zag rfl rfl rfl rfl rfl rfl) ?_ | refine gdr (zan rfl rfl rfl rfl) ?_) | (refine hK _ ?_; clear hK K) | refine zad rfl ?_ | exact zap (show za8 _ _ _ = some _ by kernel_rfl) | refine zac (fun K hK => ?_))
  · rw [show zb2 k id = false by simp [zb2, h0]]
    refine zaf 22 Tryz.func111 rfl rfl rfl rfl ?_ GG.to
    intro W A hG
    repeat (first | (refine zal rfl ?_; first | refine gdr (zaw rfl) ?_ | refine gdr (zaa (.inl rfl) rfl) ?_ | refine gdr (zaa (.inr rfl) rfl) ?_ | refine gdr (zaj rfl rfl rfl) ?_ | refine gdr (za6 rfl rfl rfl rfl) ?_ | refine gdr (zag rfl rfl rfl rfl rfl rfl) ?_) | (refine hK _ ?_; clear hK K) | refine zad rfl ?_ | exact zap (show za8 _ _ _ = some _ by kernel_rfl) | refine zac (fun K hK => ?_))
theorem zoj (k : Kr) (ht : k.ts = zsL k.tn) (hn : k.tn ≤ 16) (l : List Fe) (hl : l.length ≤ 1000000) (hk : k.fs.length ≤ 1000000) : Ok 90 [.ag k.ce, .c (.s l.length 4 (flF l))] (.m (.ag (zeq k l).ce)) := by
  rw [ce_z k ht, show (zeq k l).ce = k.raw k.tn (zsL k.tn) k.ss.length (flS k.ss) (k.fs.length + l.length) (flF k.fs ++ flF l) from by rw [← ht]; simp [zeq, Kr.ce, Kr.raw, flF]]
  have ha := zxu l hl k.tn hn
  refine zaf 20 Tryz.func90 rfl rfl rfl rfl ?_ GG.to
  intro W A hG
  repeat (first | (refine zal rfl ?_; first | refine gdr (zaa (.inl rfl) rfl) ?_ | refine gnk 1 rfl (za2 tb rfl rfl rfl rfl rfl) ?_ | refine gnx 1 rfl (zbc tb rfl rfl rfl) rfl ?_ | refine gdr (zag rfl rfl rfl rfl rfl rfl) ?_ | refine gdr (zae rfl rfl rfl rfl rfl) ?_ | refine gnk 1 rfl (zbe rfl rfl rfl rfl rfl rfl rfl) ?_ | refine gdr (zbl rfl rfl rfl rfl rfl rfl rfl) ?_ | refine gdr (zab rfl rfl rfl (ha) (by kernel_rfl)) ?_ | refine gdr (zc3 rfl rfl rfl rfl rfl rfl rfl rfl rfl rfl rfl rfl (zmd k.fs) (by omega)) ?_ | refine gdr (zbd rfl rfl rfl rfl rfl rfl rfl rfl rfl rfl rfl rfl (zmd l) (by omega)) ?_) | (refine hK _ ?_; clear hK K) | refine zad rfl ?_ | exact zap (show za8 _ _ _ = some _ by kernel_rfl) | refine zac (fun K hK => ?_))
theorem z00 (a b c : Int) (n : Nat) (h : zhc a b c n = true) : Ok 32 [zmj a b c n] (.m (.ag (ztg a b c n).ce)) := by
  obtain ⟨ha, hb, hc, hn⟩ := zek.1 h
  have l1 := zj7 (n := b) (by omega) (by omega)
  have l2 := zmk (n := b) (by omega) (by omega)
  have h2 := zxp a b (by omega)
  have h3 := zxq c (by omega)
  have h5 := zoe a b (zel b) (by omega) (by omega) l1 l2
  obtain ⟨i, z, hi, hz, hs, hby⟩ := TlbNewC.z19
  obtain ⟨z', hz', hzc⟩ := zset
  obtain rfl : z' = z := by rw [hi] at hz'; exact Option.some.inj (hz'.symm.trans hz)
  have hmd := zu9 n z' hzc
  have key : Ok 32 [zmj a b c n] (.m (.ag [ci a, ci b, ci c, ci n, cu ((a + b) * 4096), .v (.slice none 0 0), .s n 45 (zsL n), cu 0, cu 0, cu 0, ci 0, cb false, cb false, ci (-1), cu a, ci b, cu (zb9 (zel b) (tzI (zel b)) 1 0), ci c, cu (zel c), cu 0, .v (.slice none 0 0), ci (-1), cu (a + tzI (zel b)), .v (.slice none 0 0)])) := by
    rw [show (a + b) * 4096 = 4096 * (a + b) by omega]
    refine zaf 49 Tryz.func32 rfl rfl rfl rfl ?_ GG.to
    intro W A hG
    repeat (first | (refine zal rfl ?_; first | refine gdr (zaa (.inl rfl) rfl) ?_ | refine gnk 1 rfl (za2 tb rfl rfl rfl rfl rfl) ?_ | refine gnx 1 rfl (zbc tb rfl rfl rfl) rfl ?_ | refine gdr (zaa (.inr rfl) rfl) ?_ | refine gdr (zak rfl rfl rfl rfl) ?_ | refine gdr (gar rfl rfl rfl rfl) ?_ | refine gdr (gcv rfl rfl rfl rfl rfl) ?_ | refine gdr (zag rfl rfl rfl rfl rfl rfl) ?_ | refine gdr (zae rfl rfl rfl rfl rfl) ?_ | refine gnk 1 rfl (zbe rfl rfl rfl rfl rfl rfl rfl) ?_ | refine gdr (zaq rfl rfl rfl rfl) ?_ | refine gdr (zab rfl rfl rfl (h2) (by kernel_rfl)) ?_ | refine gdr (zab rfl rfl rfl (h3) (by kernel_rfl)) ?_ | refine gdr (zab rfl rfl rfl (h5) (by kernel_rfl)) ?_ | refine gdr (zk0 rfl rfl rfl rfl rfl rfl rfl hi hz hs (by rw [hby]; omega) (by unfold maxLen; omega) hmd) ?_) | (refine hK _ ?_; clear hK K) | refine zad rfl ?_ | exact zap (show za8 _ _ _ = some _ by kernel_rfl) | refine zac (fun K hK => ?_))
  refine zey key rfl (m_lt ?_)
  exact ⟨ltC.rf _, ltC.rf _, ltC.rf _, ltC.rf _, ltC.rf _, ltC.nil 2, ltC.rf _, ltC.rf _, ltC.rf _, ltC.rf _, ltC.rf _, ltC.rf _, ltC.rf _, ltC.rf _, ltC.rf _, ltC.rf _, ltC.rf _, ltC.rf _, ltC.rf _, ltC.rf _, ltC.nil 3, ltC.rf _, ltC.rf _, ltC.nil 4, trivial⟩
theorem zkh (k : Kr) (id a l : Int) (ha : U a) : Ok 42 [.ag k.ce, ii id, iu a, ii l] (.tu [iu (za1 k id a l).1, ii (za1 k id a l).2.1, ii (za1 k id a l).2.2]) := by
  have hl := zvq k id
  unfold za1
  by_cases c1 : 0 ≤ l ∧ l ≤ 2
  rotate_left
  · rw [if_pos c1]
    by_cases c0 : l < 0
    · refine zaf 50 Tryz.func42 rfl rfl rfl rfl ?_ GG.to
      intro W A hG
      repeat (first | (refine zal rfl ?_; first | refine gdr (zaw rfl) ?_ | refine gdr (zaa (.inl rfl) rfl) ?_ | refine gdr (zaa (.inr rfl) rfl) ?_ | refine gdr (zaj rfl rfl rfl) ?_ | refine gdr (za6 rfl rfl rfl rfl) ?_ | refine gdr (zag rfl rfl rfl rfl rfl rfl) ?_) | (refine hK _ ?_; clear hK K) | refine zad rfl ?_ | exact zap (show za8 _ _ _ = some _ by kernel_rfl) | refine zai rfl rfl ?_ | refine zac (fun K hK => ?_))
    · refine zaf 50 Tryz.func42 rfl rfl rfl rfl ?_ GG.to
      intro W A hG
      repeat (first | (refine zal rfl ?_; first | refine gdr (zaa (.inl rfl) rfl) ?_ | refine gdr (zaa (.inr rfl) rfl) ?_ | refine gdr (zaj rfl rfl rfl) ?_ | refine gdr (za6 rfl rfl rfl rfl) ?_ | refine gdr (zag rfl rfl rfl rfl rfl rfl) ?_) | (refine hK _ ?_; clear hK K) | refine zad rfl ?_ | exact zap (show za8 _ _ _ = some _ by kernel_rfl) | refine zai rfl rfl ?_ | refine zac (fun K hK => ?_))
  rw [if_neg (by simpa using c1)]
  have hi := zif a 2 ha (by omega) (by omega)
  have hf := zxr a l ha c1.1 c1.2
  by_cases c0 : id = -1
  · rw [if_neg (by simp [c0])]
    by_cases c2 : zkm a l = false
    · rw [if_pos c2]
      rw [c2] at hf
      refine zaf 50 Tryz.func42 rfl rfl rfl rfl ?_ GG.to
      intro W A hG
      repeat (first | (refine zal rfl ?_; first | refine gdr (zaw rfl) ?_ | refine gdr (zaa (.inl rfl) rfl) ?_ | refine gdr (zaa (.inr rfl) rfl) ?_ | refine gdr (zaj rfl rfl rfl) ?_ | refine gdr (za6 rfl rfl rfl rfl) ?_ | refine gdr (zag rfl rfl rfl rfl rfl rfl) ?_ | refine gdr (zas rfl rfl rfl) ?_ | refine gdr (zab rfl rfl rfl (hf) (by kernel_rfl)) ?_) | (refine hK _ ?_; clear hK K) | refine zad rfl ?_ | exact zap (show za8 _ _ _ = some _ by kernel_rfl) | refine zai rfl rfl ?_ | refine zah rfl rfl ?_ | refine zao ?_ | refine zac (fun K hK => ?_))
    rw [if_neg c2, if_pos c0]
    rw [show zkm a l = true by simpa using c2] at hf
    by_cases c3 : idx a 2 = 511
    · by_cases c4 : l = 2
      · rw [if_neg (by simp [c4])]
        refine zaf 50 Tryz.func42 rfl rfl rfl rfl ?_ GG.to
        intro W A hG
        repeat (first | (refine zal rfl ?_; first | refine gdr (zaw rfl) ?_ | refine gdr (zaa (.inl rfl) rfl) ?_ | refine gdr (zaa (.inr rfl) rfl) ?_ | refine gdr (zaj rfl rfl rfl) ?_ | refine gdr (za6 rfl rfl rfl rfl) ?_ | refine gdr (zag rfl rfl rfl rfl rfl rfl) ?_ | refine gdr (zas rfl rfl rfl) ?_ | refine gdr (zab rfl rfl rfl (hf) (by kernel_rfl)) ?_ | refine gdr (zab rfl rfl rfl (hi) (by kernel_rfl)) ?_) | (refine hK _ ?_; clear hK K) | refine zad rfl ?_ | exact zap (show za8 _ _ _ = some _ by kernel_rfl) | refine zai rfl rfl ?_ | refine zah rfl rfl ?_ | refine zao ?_ | refine zac (fun K hK => ?_))
      · rw [if_pos ⟨c3, c4⟩]
        refine zaf 50 Tryz.func42 rfl rfl rfl rfl ?_ GG.to
        intro W A hG
        repeat (first | (refine zal rfl ?_; first | refine gdr (zaw rfl) ?_ | refine gdr (zaa (.inl rfl) rfl) ?_ | refine gnk 1 rfl (za2 tb rfl rfl rfl rfl rfl) ?_ | refine gnx 1 rfl (zbc tb rfl rfl rfl) rfl ?_ | refine gdr (zaa (.inr rfl) rfl) ?_ | refine gdr (zaj rfl rfl rfl) ?_ | refine gdr (za6 rfl rfl rfl rfl) ?_ | refine gdr (zag rfl rfl rfl rfl rfl rfl) ?_ | refine gdr (zas rfl rfl rfl) ?_ | refine gdr (zab rfl rfl rfl (hf) (by kernel_rfl)) ?_ | refine gdr (zab rfl rfl rfl (hi) (by kernel_rfl)) ?_) | (refine hK _ ?_; clear hK K) | refine zad rfl ?_ | exact zap (show za8 _ _ _ = some _ by kernel_rfl) | refine zai rfl rfl ?_ | refine zah rfl rfl ?_ | refine zao ?_ | refine zac (fun K hK => ?_))
    · rw [if_neg (by simp [c3])]
      refine zaf 50 Tryz.func42 rfl rfl rfl rfl ?_ GG.to
      intro W A hG
      repeat (first | (refine zal rfl ?_; first | refine gdr (zaw rfl) ?_ | refine gdr (zaa (.inl rfl) rfl) ?_ | refine gdr (zaa (.inr rfl) rfl) ?_ | refine gdr (zaj rfl rfl rfl) ?_ | refine gdr (za6 rfl rfl rfl rfl) ?_ | refine gdr (zag rfl rfl rfl rfl rfl rfl) ?_ | refine gdr (zas rfl rfl rfl) ?_ | refine gdr (zab rfl rfl rfl (hf) (by kernel_rfl)) ?_ | refine gdr (zab rfl rfl rfl (hi) (by kernel_rfl)) ?_) | (refine hK _ ?_; clear hK K) | refine zad rfl ?_ | exact zap (show za8 _ _ _ = some _ by kernel_rfl) | refine zai rfl rfl ?_ | refine zah rfl rfl ?_ | refine zao ?_ | refine zac (fun K hK => ?_))
  · by_cases c5 : zb2 k id = false
    · rw [if_pos ⟨c0, c5⟩]
      rw [c5] at hl
      refine zaf 50 Tryz.func42 rfl rfl rfl rfl ?_ GG.to
      intro W A hG
      repeat (first | (refine zal rfl ?_; first | refine gdr (zaa (.inl rfl) rfl) ?_ | refine gnk 1 rfl (za2 tb rfl rfl rfl rfl rfl) ?_ | refine gdr (zaa (.inr rfl) rfl) ?_ | refine gdr (zaj rfl rfl rfl) ?_ | refine gdr (za6 rfl rfl rfl rfl) ?_ | refine gdr (zag rfl rfl rfl rfl rfl rfl) ?_ | refine gdr (zas rfl rfl rfl) ?_ | refine gdr (zab rfl rfl rfl (hl) (by kernel_rfl)) ?_) | (refine hK _ ?_; clear hK K) | refine zad rfl ?_ | exact zap (show za8 _ _ _ = some _ by kernel_rfl) | refine zai rfl rfl ?_ | refine zah rfl rfl ?_ | refine zao ?_ | refine zac (fun K hK => ?_))
    rw [if_neg (by simp [c5])]
    have c5 : zb2 k id = true := by simpa using c5
    rw [c5] at hl
    obtain ⟨y0, y1, y2, y3⟩ := zft c5
    have hx := zld y2
    by_cases c2 : zkm a l = false
    · rw [if_pos c2]
      rw [c2] at hf
      refine zaf 50 Tryz.func42 rfl rfl rfl rfl ?_ GG.to
      intro W A hG
      repeat (first | (refine zal rfl ?_; first | refine gdr (zaa (.inl rfl) rfl) ?_ | refine gnk 1 rfl (za2 tb rfl rfl rfl rfl rfl) ?_ | refine gdr (zaa (.inr rfl) rfl) ?_ | refine gdr (zaj rfl rfl rfl) ?_ | refine gdr (za6 rfl rfl rfl rfl) ?_ | refine gdr (zag rfl rfl rfl rfl rfl rfl) ?_ | refine gdr (zas rfl rfl rfl) ?_ | refine gdr (zab rfl rfl rfl (hl) (by kernel_rfl)) ?_ | refine gdr (zab rfl rfl rfl (hf) (by kernel_rfl)) ?_) | (refine hK _ ?_; clear hK K) | refine zad rfl ?_ | exact zap (show za8 _ _ _ = some _ by kernel_rfl) | refine zai rfl rfl ?_ | refine zah rfl rfl ?_ | refine zao ?_ | refine zac (fun K hK => ?_))
    rw [if_neg c2, if_neg c0]
    rw [show zkm a l = true by simpa using c2] at hf
    by_cases c3 : idx a 2 = 511
    · rw [if_pos c3]
      refine zaf 50 Tryz.func42 rfl rfl rfl rfl ?_ GG.to
      intro W A hG
      repeat (first | (refine zal rfl ?_; first | refine gdr (zaa (.inl rfl) rfl) ?_ | refine gnk 1 rfl (za2 tb rfl rfl rfl rfl rfl) ?_ | refine gdr (zaa (.inr rfl) rfl) ?_ | refine gdr (zaj rfl rfl rfl) ?_ | refine gdr (za6 rfl rfl rfl rfl) ?_ | refine gdr (zag rfl rfl rfl rfl rfl rfl) ?_ | refine gdr (zas rfl rfl rfl) ?_ | refine gdr (zab rfl rfl rfl (hl) (by kernel_rfl)) ?_ | refine gdr (zab rfl rfl rfl (hf) (by kernel_rfl)) ?_ | refine gdr (zab rfl rfl rfl (hi) (by kernel_rfl)) ?_) | (refine hK _ ?_; clear hK K) | refine zad rfl ?_ | exact zap (show za8 _ _ _ = some _ by kernel_rfl) | refine zai rfl rfl ?_ | refine zah rfl rfl ?_ | refine zao ?_ | refine zac (fun K hK => ?_))
    · rw [if_neg c3]
      refine zaf 50 Tryz.func42 rfl rfl rfl rfl ?_ GG.to
      intro W A hG
      repeat (first | (refine zal rfl ?_; first | refine gdr (zaa (.inl rfl) rfl) ?_ | refine gnk 1 rfl (za2 tb rfl rfl rfl rfl rfl) ?_ | refine gnx 1 rfl (zbc tb rfl rfl rfl) rfl ?_ | refine gdr (zaa (.inr rfl) rfl) ?_ | refine gdr (zaj rfl rfl rfl) ?_ | refine gdr (za6 rfl rfl rfl rfl) ?_ | refine gdr (zag rfl rfl rfl rfl rfl rfl) ?_ | refine gnx 3 rfl (zau tb rfl rfl rfl rfl (by first | kernel_rfl | rfl)) rfl ?_ | refine gnx 3 rfl (za0 tb rfl rfl rfl rfl) rfl ?_ | refine gdr (zas rfl rfl rfl) ?_ | refine gnx 4 rfl (zav rfl rfl rfl rfl rfl rfl (by omega) (by omega) _ (by assumption)) rfl ?_ | refine gdr (zab rfl rfl rfl (hl) (by kernel_rfl)) ?_ | refine gdr (zab rfl rfl rfl (hf) (by kernel_rfl)) ?_ | refine gdr (zab rfl rfl rfl (hi) (by kernel_rfl)) ?_) | (refine hK _ ?_; clear hK K) | refine zad rfl ?_ | exact zap (show za8 _ _ _ = some _ by kernel_rfl) | refine zah rfl rfl ?_ | refine zao ?_ | refine zac (fun K hK => ?_))
end Go.Proofs.YtmkjfeamgknpfaaGreatDoor.RfD
namespace Go.Proofs.YtmkjfeamgknpfaaGreatDoor.RfE
open Go.RowKit Bv VaSpec Base MemL RegR Ax MemC PutC MemC3 TzC OkS SpA SpB SpC SpD IterC SpE SpF SpG SpH SpI SpJ SpK SpN RfP RfQ RfA RfB RfC SpO RfD
open BitsC PteSpec
set_option maxRecDepth 10000
set_option maxHeartbeats 800000
attribute [local irreducible] Ax.zcs
theorem zvr (n : Int) (h : 0 ≤ n ∧ n < 17592186044416) : PteC.zcc (gP n) = 33 + 1024 * n := by
  have hm : zf7 (gP n) = true := by
    unfold zf7 gP
    simp; omega
  unfold PteC.zcc
  rw [if_pos hm]
  show zpm (gP n) + 0 * 256 + n * 1024 + 0 * 18014398509481984 = _
  rw [show zpm (gP n) = 33 from rfl]
  omega
theorem zqa {n : Nat} {k : Kr} (h : Inv n k) (hp : k.pf ≠ 0) : zov k = zcy (TableC.zbf k.m (k.pb + tzI k.pf)) (512 * (k.pb + tzI k.pf) + 511) (33 + 1024 * k.sh) := by
  have t1 := zd2 h.upf h.pf.2 hp
  have h1 := h.cd
  have h2 := h.cp
  have h3 := h.pb
  have h4 := h.pm
  have h8 := h.sh
  have hP : (gP k.sh).U := ⟨by show (0 : Int) ≤ 0 ∧ (0 : Int) < _; omega, by show 0 ≤ k.sh ∧ k.sh < _; omega, by show (0 : Int) ≤ 0 ∧ (0 : Int) < _; omega⟩
  unfold zov
  rw [zrc, zen hP (by omega) (by omega) (by rw [h.sz]; omega), zvr _ (by omega), show (k.pb + tzI k.pf) * 512 + 511 = 512 * (k.pb + tzI k.pf) + 511 by omega]
theorem zrt {n : Nat} {k : Kr} (h : Inv n k) : ∀ c ∈ k.m, 0 ≤ c.1 ∧ c.1 < 1099511627776 := fun c hc => by
  obtain ⟨a, b, _, _⟩ := h.mc c hc
  have h1 := h.cd
  have h2 := h.cp
  constructor <;> omega
theorem zmu {n : Nat} {k : Kr} (h : Inv n k) (hn : n ≤ 100000) (h32 : k.ss.length < 32) (h0 : k.af ≠ 0) (hp0 : k.pf ≠ 0) (hown : zhw k.ao (tzI k.af) = false) :
    Ok 34 [.ag k.ce] (.tu [.ag (zb0 k).ce, ii k.ss.length, ii 0]) := by
  have h1 := h.cd
  have h2 := h.cp
  have h3 := h.pb
  have h4 := h.pm
  have h5 := h.ml
  have h6 := h.ca
  have h7 := h.am
  have h8 := h.sh
  have t1 := zd2 h.upf h.pf.2 hp0
  have t2 := zd2 h.uaf h.af.2 h0
  have hw := zd1 k.m (k.pb + tzI k.pf)
  have ht := zkd k.am k.af k.ao (by omega) (by rw [h.am]; exact h.af) h.uao h0
  rw [hown] at ht
  have hf := zgh k.sz k.m k.pb k.pm k.pf (by omega) (by omega) (by rw [h.pm]; exact h.pf) hp0 h.m (by omega) (zrt h)
  have hs := zke k.sz (TableC.zbf k.m (k.pb + tzI k.pf)) (512 * (k.pb + tzI k.pf) + 511) (33 + 1024 * k.sh) (zc9 _ h.m) (by omega)
  rw [← zqa h hp0] at hs
  rw [zgr]
  refine zaf 80 Tryz.func34 rfl rfl rfl rfl ?_ GG.to
  intro W A hG
  repeat (first | (refine zal rfl ?_; first | refine gdr (zaa (.inl rfl) rfl) ?_ | refine gnk 1 rfl (za2 tb rfl rfl rfl rfl rfl) ?_ | refine gnx 1 rfl (zbc tb rfl rfl rfl) rfl ?_ | refine gdr (zaa (.inr rfl) rfl) ?_ | refine gdr (zak rfl rfl rfl rfl) ?_ | refine gdr (za6 rfl rfl rfl rfl) ?_ | refine gdr (gar rfl rfl rfl rfl) ?_ | refine gdr (zag rfl rfl rfl rfl rfl rfl) ?_ | refine gdr (zae rfl rfl rfl rfl rfl) ?_ | refine gnk 1 rfl (zbe rfl rfl rfl rfl rfl rfl rfl) ?_ | refine gdr (zan rfl rfl rfl rfl) ?_ | refine gdr (zaq rfl rfl rfl rfl) ?_ | refine gdr (zax rfl rfl rfl rfl rfl rfl rfl rfl rfl rfl rfl) ?_ | refine gdr (zbl rfl rfl rfl rfl rfl rfl rfl) ?_ | refine gdr (zab rfl rfl rfl (ht) (by kernel_rfl)) ?_ | refine gdr (zab rfl rfl rfl (hf) (by kernel_rfl)) ?_ | refine gdr (zab rfl rfl rfl (hs) (by kernel_rfl)) ?_ | refine gdr (zc3 rfl rfl rfl rfl rfl rfl rfl rfl rfl rfl rfl rfl (SpM.flS_one k.ss) (by omega)) ?_ | refine gdr (zbd rfl rfl rfl rfl rfl rfl rfl rfl rfl rfl rfl rfl rfl (by omega)) ?_) | (refine hK _ ?_; clear hK K) | refine zad rfl ?_ | exact zap (show za8 _ _ _ = some _ by kernel_rfl) | refine zah rfl rfl ?_ | refine zao ?_ | refine zac (fun K hK => ?_))
theorem zmv {n : Nat} {k : Kr} (h : Inv n k) (hn : n ≤ 100000) (h32 : k.ss.length < 32) (h0 : k.af ≠ 0) (hp0 : k.pf ≠ 0) (hown : zhw k.ao (tzI k.af) = true) :
    Ok 34 [.ag k.ce] (.tu [.ag (zeq (zb0 k) [aFe (tzI k.af + 1)]).ce, ii k.ss.length, ii 0]) := by
  have h1 := h.cd
  have h2 := h.cp
  have h3 := h.pb
  have h4 := h.pm
  have h5 := h.ml
  have h6 := h.ca
  have h7 := h.am
  have h8 := h.sh
  have h9 := h.fl
  have t1 := zd2 h.upf h.pf.2 hp0
  have t2 := zd2 h.uaf h.af.2 h0
  have hw := zd1 k.m (k.pb + tzI k.pf)
  have ht := zkd k.am k.af k.ao (by omega) (by rw [h.am]; exact h.af) h.uao h0
  rw [hown] at ht
  have hf := zgh k.sz k.m k.pb k.pm k.pf (by omega) (by omega) (by rw [h.pm]; exact h.pf) hp0 h.m (by omega) (zrt h)
  have hs := zke k.sz (TableC.zbf k.m (k.pb + tzI k.pf)) (512 * (k.pb + tzI k.pf) + 511) (33 + 1024 * k.sh) (zc9 _ h.m) (by omega)
  rw [← zqa h hp0] at hs
  have hfe : Ok 90 [.ag (({ k with m := zov k, pf := zb9 k.pf (tzI k.pf) 1 0, af := zg0 k.af, ao := zg1 k.af k.ao } : Kr).raw k.tn k.ts (k.ss.length + 1) (flS k.ss ++ (⟨k.pb + tzI k.pf, tzI k.af + 1, true⟩ : Sp).vs) k.fs.length (flF k.fs)), .c (.s 1 4 (flF [aFe (tzI k.af + 1)]))] (.m (.ag (zeq (zb0 k) [aFe (tzI k.af + 1)]).ce)) := by
    rw [← zgr]
    exact zoj (zb0 k) h.ts h.cs.2 [aFe (tzI k.af + 1)] (by simp) (by show k.fs.length ≤ _; omega)
  refine zaf 80 Tryz.func34 rfl rfl rfl rfl ?_ GG.to
  intro W A hG
  repeat (first | (refine zal rfl ?_; first | refine gdr (zaa (.inl rfl) rfl) ?_ | refine gnk 1 rfl (za2 tb rfl rfl rfl rfl rfl) ?_ | refine gnx 1 rfl (zbc tb rfl rfl rfl) rfl ?_ | refine gdr (zaa (.inr rfl) rfl) ?_ | refine gdr (zak rfl rfl rfl rfl) ?_ | refine gdr (za6 rfl rfl rfl rfl) ?_ | refine gdr (gar rfl rfl rfl rfl) ?_ | refine gdr (zag rfl rfl rfl rfl rfl rfl) ?_ | refine gdr (zae rfl rfl rfl rfl rfl) ?_ | refine gnk 1 rfl (zbe rfl rfl rfl rfl rfl rfl rfl) ?_ | refine gdr (zan rfl rfl rfl rfl) ?_ | refine gdr (zaq rfl rfl rfl rfl) ?_ | refine gdr (zax rfl rfl rfl rfl rfl rfl rfl rfl rfl rfl rfl) ?_ | refine gdr (zbl rfl rfl rfl rfl rfl rfl rfl) ?_ | refine gdr (zab rfl rfl rfl (ht) (by kernel_rfl)) ?_ | refine gdr (zab rfl rfl rfl (hf) (by kernel_rfl)) ?_ | refine gdr (zab rfl rfl rfl (hs) (by kernel_rfl)) ?_ | refine gdr (zc3 rfl rfl rfl rfl rfl rfl rfl rfl rfl rfl rfl rfl (SpM.flS_one k.ss) (by omega)) ?_) | (refine hK _ ?_; clear hK K) | refine zad rfl ?_ | refine zah rfl rfl ?_ | refine zao ?_ | refine zac (fun K hK => ?_))
  refine zal rfl ?_
  refine gdr (zbd rfl rfl rfl rfl rfl rfl rfl rfl rfl rfl rfl rfl rfl (by omega)) ?_
  repeat (first | (refine zal rfl ?_; first | refine gnx 1 rfl (zbc tb rfl rfl rfl) rfl ?_ | refine gnk 1 rfl (zbe rfl rfl rfl rfl rfl rfl rfl) ?_))
  first
    | (refine hK _ ?_; clear hK K)
    | (rename_i K1 hK1; refine hK1 _ ?_; clear hK hK1; clear K)
    | (rename_i K1 hK1; refine hK1 _ ?_; clear hK1)
  refine ze3 (Sub.trans (zyh (b := 70) rfl) (zar [(1, .m (.c (.p 1 0))), (2, .m (.c (.p 2 0))), (6, .m (iu (tzI k.af + 1))), (7, .m (ib true)), (13, .m (ii k.ss.length))] [(1, .live (.box (({ k with m := zov k, pf := zb9 k.pf (tzI k.pf) 1 0, af := zg0 k.af, ao := zg1 k.af k.ao } : Kr).raw k.tn k.ts (k.ss.length + 1) (flS k.ss ++ (⟨k.pb + tzI k.pf, tzI k.af + 1, true⟩ : Sp).vs) k.fs.length (flF k.fs)))), (2, .live (.box zK))] ⟨by kernel_rfl, by kernel_rfl, by kernel_rfl, by kernel_rfl, by kernel_rfl, trivial⟩ ⟨by kernel_rfl, by kernel_rfl, trivial⟩ (by kernel_rfl))) ?_
  repeat (first | (refine zal rfl ?_; first | refine gdr (zaa (.inl rfl) rfl) ?_ | refine gnk 1 rfl (za2 tb rfl rfl rfl rfl rfl) ?_ | refine gdr (zaa (.inr rfl) rfl) ?_ | refine gnk 1 rfl (zbe rfl rfl rfl rfl rfl rfl rfl) ?_ | refine gdr (zaq rfl rfl rfl rfl) ?_ | refine gdr (zax rfl rfl rfl rfl rfl rfl rfl rfl rfl rfl rfl) ?_ | refine gdr (zcz (b := 76) rfl rfl rfl rfl rfl rfl (ze4 (by kernel_rfl) hfe)) ?_) | (refine hK _ ?_; clear hK K) | refine zad rfl ?_ | exact zap (show za8 _ _ _ = some _ by kernel_rfl) | refine zai rfl rfl ?_ | refine zac (fun K hK => ?_))
theorem zqb {n : Nat} {k : Kr} (h : Inv n k) (hn : n ≤ 100000) : Ok 34 [.ag k.ce] (.tu [.ag (zck k).1.ce, ii (zck k).2.1, ii (zck k).2.2]) := by
  have h3 := h.pb
  have h4 := h.pm
  have h5 := h.ml
  have h6 := h.sl
  have h1 := h.cd
  have h2 := h.cp
  have h7 := h.am
  have h8 := h.ca
  unfold zck
  by_cases c1 : 32 ≤ k.ss.length
  · rw [if_pos c1]
    refine zaf 80 Tryz.func34 rfl rfl rfl rfl ?_ GG.to
    intro W A hG
    repeat (first | (refine zal rfl ?_; first | refine gnk 1 rfl (za2 tb rfl rfl rfl rfl rfl) ?_ | refine gnx 1 rfl (zbc tb rfl rfl rfl) rfl ?_ | refine gdr (zaa (.inr rfl) rfl) ?_ | refine gdr (za6 rfl rfl rfl rfl) ?_ | refine gdr (zag rfl rfl rfl rfl rfl rfl) ?_ | refine gdr (zae rfl rfl rfl rfl rfl) ?_ | refine gnk 1 rfl (zbe rfl rfl rfl rfl rfl rfl rfl) ?_ | refine gdr (zan rfl rfl rfl rfl) ?_) | (refine hK _ ?_; clear hK K) | refine zad rfl ?_ | exact zap (show za8 _ _ _ = some _ by kernel_rfl) | refine zai rfl rfl ?_ | refine zac (fun K hK => ?_))
  rw [if_neg c1]
  by_cases c2 : k.af = 0
  · rw [if_pos c2]
    have ht : Ok 87 [.ag [ci k.am, cu k.af, cu k.ao]] (.tu [.ag [ci k.am, cu k.af, cu k.ao], iu 0, ib false, ii 9]) := by rw [c2]; exact zvk k.am k.ao (by omega)
    refine zaf 80 Tryz.func34 rfl rfl rfl rfl ?_ GG.to
    intro W A hG
    repeat (first | (refine zal rfl ?_; first | refine gdr (zaa (.inl rfl) rfl) ?_ | refine gnk 1 rfl (za2 tb rfl rfl rfl rfl rfl) ?_ | refine gnx 1 rfl (zbc tb rfl rfl rfl) rfl ?_ | refine gdr (zaa (.inr rfl) rfl) ?_ | refine gdr (zak rfl rfl rfl rfl) ?_ | refine gdr (za6 rfl rfl rfl rfl) ?_ | refine gdr (zag rfl rfl rfl rfl rfl rfl) ?_ | refine gdr (zae rfl rfl rfl rfl rfl) ?_ | refine gnk 1 rfl (zbe rfl rfl rfl rfl rfl rfl rfl) ?_ | refine gdr (zan rfl rfl rfl rfl) ?_ | refine gdr (zab rfl rfl rfl (ht) (by kernel_rfl)) ?_) | (refine hK _ ?_; clear hK K) | refine zad rfl ?_ | exact zap (show za8 _ _ _ = some _ by kernel_rfl) | refine zai rfl rfl ?_ | refine zah rfl rfl ?_ | refine zao ?_ | refine zac (fun K hK => ?_))
  rw [if_neg c2]
  by_cases c3 : k.pf = 0
  · rw [if_pos c3]
    have t2 := zd2 h.uaf h.af.2 c2
    have ht := zkd k.am k.af k.ao (by omega) (by rw [h.am]; exact h.af) h.uao c2
    have hf : Ok 88 [zbm k.sz k.m, .ag [cu k.pb, ci k.pm, cu k.pf]] (.tu [zbm k.sz k.m, .ag [cu k.pb, ci k.pm, cu k.pf], iu 0, ii 8]) := by rw [c3]; exact zkg k.sz k.m k.pb k.pm (by omega)
    refine zaf 80 Tryz.func34 rfl rfl rfl rfl ?_ GG.to
    intro W A hG
    repeat (first | (refine zal rfl ?_; first | refine gdr (zaa (.inl rfl) rfl) ?_ | refine gnk 1 rfl (za2 tb rfl rfl rfl rfl rfl) ?_ | refine gnx 1 rfl (zbc tb rfl rfl rfl) rfl ?_ | refine gdr (zaa (.inr rfl) rfl) ?_ | refine gdr (zak rfl rfl rfl rfl) ?_ | refine gdr (za6 rfl rfl rfl rfl) ?_ | refine gdr (zag rfl rfl rfl rfl rfl rfl) ?_ | refine gdr (zae rfl rfl rfl rfl rfl) ?_ | refine gnk 1 rfl (zbe rfl rfl rfl rfl rfl rfl rfl) ?_ | refine gdr (zan rfl rfl rfl rfl) ?_ | refine gdr (zab rfl rfl rfl (ht) (by kernel_rfl)) ?_ | refine gdr (zab rfl rfl rfl (hf) (by kernel_rfl)) ?_) | (refine hK _ ?_; clear hK K) | refine zad rfl ?_ | exact zap (show za8 _ _ _ = some _ by kernel_rfl) | refine zai rfl rfl ?_ | refine zah rfl rfl ?_ | refine zao ?_ | refine zac (fun K hK => ?_))
  rw [if_neg c3]
  by_cases c4 : (zeu k.ao (tzI k.af) 1 == 1) = true
  · rw [if_pos c4]
    exact zmv h hn (by omega) c2 c3 c4
  · rw [if_neg c4]
    exact zmu h hn (by omega) c2 c3 (by unfold zhw; cases e : (zeu k.ao (tzI k.af) 1 == 1) with | false => rfl | true => exact absurd e c4)
end Go.Proofs.YtmkjfeamgknpfaaGreatDoor.RfE
namespace Go.Proofs.YtmkjfeamgknpfaaGreatDoor.RfG
open Go.RowKit Bv Base BitsC SpI RfP
def cs : Nat → (Nat → Bool) → Nat
  | 0, _ => 0
  | n + 1, f => cs n f + (f n).toNat
theorem zhv : ∀ (n : Nat) (f g : Nat → Bool), (∀ j, j < n → f j = g j) → cs n f = cs n g
  | 0, _, _, _ => rfl
  | n + 1, f, g, h => by simp only [cs]; rw [zhv n f g (fun j hj => h j (by omega)), h n (by omega)]
theorem z22 {f g : Nat → Bool} {i : Nat} (hi : f i = false) (gi : g i = true) (h : ∀ j, j ≠ i → g j = f j) : ∀ n, i < n → cs n g = cs n f + 1
  | 0, hn => by omega
  | n + 1, hn => by
    simp only [cs]
    by_cases e : i = n
    · subst e
      rw [hi, gi, zhv i g f (fun j hj => h j (by omega))]; rfl
    · rw [z22 hi gi h n (by omega), h n (fun e' => e e'.symm)]; omega
theorem zxv : ∀ (n m : Nat), m ≤ n → cs n (fun j => decide (j < m)) = m
  | 0, m, h => by simp [cs]; omega
  | n + 1, m, h => by
    simp only [cs]
    by_cases e : m = n + 1
    · rw [zhv n _ (fun j => decide (j < n)) (fun j hj => by simp [hj]; omega), zxv n n (Nat.le_refl _)]
      simp [e]
    · rw [zxv n m (by omega)]; simp; omega
def cb : Nat → Nat → Nat
  | 0, _ => 0
  | f + 1, x => x % 2 + cb f (x / 2)
def M (m : Nat) : Nat → Nat
  | 0 => 0
  | k + 1 => m + 256 * M m k
def f1 (k x : Nat) : Nat := (x / 2 &&& M 85 k) + (x &&& M 85 k)
def f2 (k x : Nat) : Nat := (x / 4 &&& M 51 k) + (x &&& M 51 k)
def f3 (k x : Nat) : Nat := (x / 16 + x) &&& M 15 k
theorem d1 : ∀ a, a < 256 → ∀ c, c < 2 → (a / 2 + 128 * c) &&& 85 = a / 2 &&& 85 := by decide +kernel
theorem d2 : ∀ a, a < 256 → ∀ c, c < 4 → (a / 4 + 64 * c) &&& 51 = a / 4 &&& 51 := by decide +kernel
def g1 (a : Nat) : Nat := (a / 2 &&& 85) + (a &&& 85)
def g2 (a : Nat) : Nat := (a / 4 &&& 51) + (a &&& 51)
def g3 (a : Nat) : Nat := (a / 16 + a) % 16
theorem d3 : ∀ a, a < 256 → g1 a < 256 ∧ g2 (g1 a) < 256 ∧ g2 (g1 a) % 16 ≤ 4 ∧ g2 (g1 a) / 16 ≤ 4 ∧ g3 (g2 (g1 a)) = cb 8 a ∧ cb 8 a ≤ 8 := by decide +kernel
def h3 (k x : Nat) : Nat := f3 k (f2 k (f1 k x))
end Go.Proofs.YtmkjfeamgknpfaaGreatDoor.RfG
namespace Go.Proofs.YtmkjfeamgknpfaaGreatDoor.RfJ
open Go.RowKit Bv VaSpec Base MemL RegR Ax MemC PutC MemC3 TzC OkS SpA SpB SpC SpD IterC SpE SpF SpG SpH SpI SpJ SpK SpN RfP RfQ RfE RfG
open BitsC PteSpec
def cnt (x : Int) : Nat := cs 64 (fun j => zhw x (j : Int))
theorem zqc {x i : Int} (hx : U x) (h0 : 0 ≤ i) (h1 : i < 64) (h : zhw x i = true) : cnt (zb9 x i 1 0) + 1 = cnt x := by
  obtain ⟨n, rfl⟩ := Int.eq_ofNat_of_zero_le h0
  refine (z22 (i := n) ?_ h (fun j hj => ?_) 64 (by omega)).symm
  · rw [zhb hx h0 h1 h0 h1, if_pos rfl]; rfl
  · by_cases hj2 : j < 64
    · rw [zhb hx h0 h1 (by omega) (by omega), if_neg (by omega)]
    · rw [zfs (by omega), zfs (by omega)]
      rw [Int.toNat_natCast, BitVec.getLsbD_of_ge _ _ (by omega), BitVec.getLsbD_of_ge _ _ (by omega)]
theorem zig (x i j : Int) (hx : U x) (h0 : 0 ≤ i) (h1 : i < 64) (hj : 0 ≤ j) (hj1 : j < 64) : zhw (zb9 x i 1 0) j = if j = i then false else zhw x j := by
  rw [zhb hx h0 h1 hj hj1]; rfl
theorem zi5 (n : Int) (j : Int) (hj : 0 ≤ j) (hj1 : j < 64) (h0 : 0 ≤ n) : zhw (zel n) j = decide (j < n) := by
  rw [zfs hj]
  unfold zel zeu
  rw [X_B, zfo, show (0 : Int).toNat = 0 from rfl, Nat.zero_add, zrh _ (by omega), Bool.and_true]
  by_cases h : j < n
  · rw [decide_eq_true h, decide_eq_true (by omega)]
  · rw [decide_eq_false h, decide_eq_false (by omega)]
theorem z23 {n : Int} (h0 : 1 ≤ n) (h : n ≤ 64) : tzI (zel n) = 0 := by
  have l1 := zj7 (n := n) (by omega) h
  have l2 := zmk h0 h
  have u := zn9 n
  have t := zd2 u l1.2 l2
  rcases (by omega : tzI (zel n) = 0 ∨ 0 < tzI (zel n)) with e | e
  · exact e
  · have := zj8 u l2 (Int.le_refl 0) e
    rw [zi5 n 0 (by omega) (by omega) (by omega), decide_eq_true (by omega)] at this
    cases this
def alv : List Sp → Nat
  | [] => 0
  | s :: l => (if s.live then 1 else 0) + alv l
theorem zqd : ∀ (l : List Sp) (s : Sp), s.live = true → alv (l ++ [s]) = alv l + 1
  | [], s, h => by simp [alv, h]
  | x :: l, s, h => by simp only [List.cons_append, alv]; rw [zqd l s h]; omega
theorem zvs : ∀ (xs : List (Int × Int)) (k v : Int) (c : Int × Int), c ∈ xs → c.1 ≠ k → c ∈ zcy xs k v
  | [], k, v, c, h, _ => by cases h
  | x :: xs, k, v, c, h, hk => by
    simp only [zcy]
    split
    · rcases List.mem_cons.1 h with rfl | h
      · simp
      · exact List.mem_cons_of_mem _ (zvs xs k v c h hk)
    · split
      · rename_i hx
        rcases List.mem_cons.1 h with rfl | h
        · exact absurd hx hk
        · split
          · exact h
          · exact List.mem_cons_of_mem _ h
      · split
        · exact h
        · exact List.mem_cons_of_mem _ h
theorem zvt : ∀ (xs : List (Int × Int)) (k v : Int), v ≠ 0 → (k, v) ∈ zcy xs k v
  | [], k, v, h => by simp [zcy, h]
  | x :: xs, k, v, h => by
    simp only [zcy]
    split
    · exact List.mem_cons_of_mem _ (zvt xs k v h)
    · split <;> simp [h]
structure Inv2 (k : Kr) : Prop where
  sh : k.sh = k.cd
  p0 : zhw k.pf 0 = false
  lv : ∀ s ∈ k.ss, s.live = true → s.root ≠ k.cd ∧ s.asid ≤ k.ca ∧ zhw k.pf (s.root - k.cd) = false ∧ zhw k.af (s.asid - 1) = false ∧ (s.root * 512 + 511, 33 + 1024 * k.sh) ∈ k.m
  ap : ∀ (i j : Nat) (s t : Sp), k.ss[i]? = some s → k.ss[j]? = some t → i ≠ j → s.live = true → t.live = true → s.root ≠ t.root ∧ s.asid ≠ t.asid
  cl : ∀ c ∈ k.m, ∃ s ∈ k.ss, s.live = true ∧ c = (s.root * 512 + 511, 33 + 1024 * k.sh)
  np : (cnt k.pf : Int) + 1 + alv k.ss = k.cp
  na : (cnt k.af : Int) + alv k.ss = k.ca
theorem zru {a b c : Int} {n : Nat} (h : zhc a b c n = true) : Inv2 (ztg a b c n) := by
  obtain ⟨ha, hb, hc, hn⟩ := zek.1 h
  have tz := z23 (n := b) (by omega) (by omega)
  have e : (ztg a b c n).pf = zb9 (zel b) 0 1 0 := by show zb9 (zel b) (tzI (zel b)) 1 0 = _; rw [tz]
  have cb : cnt (zel b) = b.toNat := by
    unfold cnt
    rw [zhv 64 _ (fun j => decide (j < b.toNat)) (fun j hj => by
      rw [zi5 b j (by omega) (by omega) (by omega)]
      by_cases h : (j : Int) < b
      · rw [decide_eq_true h, decide_eq_true (by omega)]
      · rw [decide_eq_false h, decide_eq_false (by omega)]), zxv 64 _ (by omega)]
  have cc : cnt (zel c) = c.toNat := by
    unfold cnt
    rw [zhv 64 _ (fun j => decide (j < c.toNat)) (fun j hj => by
      rw [zi5 c j (by omega) (by omega) (by omega)]
      by_cases h : (j : Int) < c
      · rw [decide_eq_true h, decide_eq_true (by omega)]
      · rw [decide_eq_false h, decide_eq_false (by omega)]), zxv 64 _ (by omega)]
  have co := zqc (x := zel b) (i := 0) (zn9 b) (by omega) (by omega) (by rw [zi5 b 0 (by omega) (by omega) (by omega), decide_eq_true (by omega)])
  refine ⟨by show a + tzI (zel b) = a; rw [tz]; omega, ?_, fun s hs => (by cases hs), fun i j s t hs => (by simp [ztg] at hs), fun c hc => (by cases hc), ?_, ?_⟩
  · rw [e, zig _ _ _ (zn9 b) (by omega) (by omega) (by omega) (by omega), if_pos rfl]
  · rw [e]
    show (cnt (zb9 (zel b) 0 1 0) : Int) + 1 + ((0 : Nat) : Int) = b
    omega
  · show (cnt (zel c) : Int) + ((0 : Nat) : Int) = c
    omega
end Go.Proofs.YtmkjfeamgknpfaaGreatDoor.RfJ
namespace Go.Proofs.YtmkjfeamgknpfaaGreatDoor.RfK
open Go.RowKit Bv VaSpec Base MemL RegR Ax MemC PutC MemC3 TzC OkS SpA SpB SpC SpD IterC SpE SpF SpG SpH SpI SpJ SpK SpN RfP RfQ RfE RfG RfJ
open BitsC PteSpec
theorem zqe {n : Nat} {k : Kr} (h : Inv n k) (g : Inv2 k) (ha : k.af ≠ 0) (hp : k.pf ≠ 0) : Inv2 (zb0 k) := by
  have c1 := h.cp
  have c2 := h.ca
  have hcd := h.cd
  have hpb := h.pb
  have hsh := h.sh
  have t1 := zd2 h.upf h.pf.2 hp
  have t2 := zd2 h.uaf h.af.2 ha
  have low1 := zn7 h.upf hp
  have low2 := zn7 h.uaf ha
  have tn0 : tzI k.pf ≠ 0 := fun e => by rw [e, g.p0] at low1; cases low1
  have hne : ∀ s ∈ k.ss, s.live = true → s.root ≠ k.pb + tzI k.pf ∧ s.asid ≠ tzI k.af + 1 := fun s hs hl => by
    obtain ⟨_, _, b1, b2, _⟩ := g.lv s hs hl
    refine ⟨fun e => ?_, fun e => ?_⟩
    · rw [show s.root - k.cd = tzI k.pf by omega, low1] at b1; cases b1
    · rw [show s.asid - 1 = tzI k.af by omega, low2] at b2; cases b2
  have hwm : TableC.zbf k.m (k.pb + tzI k.pf) = k.m := by
    rw [zhr _ _ h.m]
    refine List.filter_eq_self.2 fun c hc => ?_
    obtain ⟨s, hs, hl, rfl⟩ := g.cl c hc
    have := (hne s hs hl).1
    simp only [zkn, Bool.or_eq_true, decide_eq_true_eq]
    omega
  have hm : (zb0 k).m = zcy k.m (512 * (k.pb + tzI k.pf) + 511) (33 + 1024 * k.sh) := by
    show zov k = _
    rw [zqa h hp, hwm]
  have hcells : ∀ s ∈ k.ss, s.live = true → (s.root * 512 + 511, 33 + 1024 * k.sh) ∈ (zb0 k).m := fun s hs hl => by
    rw [hm]
    refine zvs _ _ _ _ (g.lv s hs hl).2.2.2.2 ?_
    have := (hne s hs hl).1
    show s.root * 512 + 511 ≠ _; omega
  have hnew : (512 * (k.pb + tzI k.pf) + 511, 33 + 1024 * k.sh) ∈ (zb0 k).m := by rw [hm]; exact zvt _ _ _ (by omega)
  have hss : (zb0 k).ss = k.ss ++ [⟨k.pb + tzI k.pf, tzI k.af + 1, true⟩] := rfl
  have epf : (zb0 k).pf = zb9 k.pf (tzI k.pf) 1 0 := rfl
  have eaf : (zb0 k).af = zb9 k.af (tzI k.af) 1 0 := rfl
  have n1 := zqc h.upf t1.1 (by omega) low1
  have n2 := zqc h.uaf t2.1 (by omega) low2
  refine ⟨g.sh, ?_, fun s hs hl => ?_, fun i j s t hs ht hij hl hl' => ?_, fun c hc => ?_, ?_, ?_⟩
  · rw [epf, zig _ _ _ h.upf t1.1 (by omega) (by omega) (by omega), if_neg (fun e => tn0 e.symm)]; exact g.p0
  · rw [hss] at hs
    rcases List.mem_append.1 hs with hs | hs
    · obtain ⟨a1, a2, a3, a4, a5⟩ := g.lv s hs hl
      obtain ⟨r1, r2⟩ := h.ss s hs hl
      refine ⟨a1, a2, ?_, ?_, hcells s hs hl⟩
      · show zhw (zb0 k).pf (s.root - k.cd) = false
        rw [epf, zig _ _ _ h.upf t1.1 (by omega) (by omega) (by omega)]; split
        · rfl
        · exact a3
      · rw [eaf, zig _ _ _ h.uaf t2.1 (by omega) (by omega) (by omega)]; split
        · rfl
        · exact a4
    · rw [List.mem_singleton.1 hs]
      refine ⟨by show k.pb + tzI k.pf ≠ k.cd; omega, by show tzI k.af + 1 ≤ k.ca; omega, ?_, ?_, ?_⟩
      · show zhw (zb0 k).pf (k.pb + tzI k.pf - k.cd) = false
        rw [show k.pb + tzI k.pf - k.cd = tzI k.pf by omega, epf, zig _ _ _ h.upf t1.1 (by omega) (by omega) (by omega), if_pos rfl]
      · show zhw (zb0 k).af (tzI k.af + 1 - 1) = false
        rw [show tzI k.af + 1 - 1 = tzI k.af by omega, eaf, zig _ _ _ h.uaf t2.1 (by omega) (by omega) (by omega), if_pos rfl]
      · show ((k.pb + tzI k.pf) * 512 + 511, 33 + 1024 * k.sh) ∈ _
        rw [show (k.pb + tzI k.pf) * 512 + 511 = 512 * (k.pb + tzI k.pf) + 511 by omega]; exact hnew
  · rw [hss] at hs ht
    have look : ∀ (i : Nat) (s : Sp), (k.ss ++ [(⟨k.pb + tzI k.pf, tzI k.af + 1, true⟩ : Sp)])[i]? = some s → (i < k.ss.length ∧ k.ss[i]? = some s) ∨ (i = k.ss.length ∧ s = ⟨k.pb + tzI k.pf, tzI k.af + 1, true⟩) := fun i s hs => by
      by_cases hi : i < k.ss.length
      · rw [List.getElem?_append_left hi] at hs; exact .inl ⟨hi, hs⟩
      · rw [List.getElem?_append_right (by omega)] at hs
        obtain ⟨d, hd⟩ : ∃ d, d = i - k.ss.length := ⟨_, rfl⟩
        rw [← hd] at hs
        cases d with
        | zero => simp at hs; exact .inr ⟨by omega, hs.symm⟩
        | succ d => simp at hs
    rcases look i s hs with ⟨_, hs⟩ | ⟨ei, es⟩
    · rcases look j t ht with ⟨_, ht⟩ | ⟨ej, et⟩
      · exact g.ap i j s t hs ht hij hl hl'
      · rw [et]; exact hne s (List.mem_of_getElem? hs) hl
    · rcases look j t ht with ⟨_, ht⟩ | ⟨ej, et⟩
      · rw [es]
        have := hne t (List.mem_of_getElem? ht) hl'
        exact ⟨fun e => this.1 e.symm, fun e => this.2 e.symm⟩
      · omega
  · rw [hm] at hc
    rcases zd0 _ _ _ _ hc with hc | ⟨rfl, _⟩
    · obtain ⟨s, hs, hl, e⟩ := g.cl c hc
      exact ⟨s, by rw [hss]; exact List.mem_append_left _ hs, hl, e⟩
    · refine ⟨⟨k.pb + tzI k.pf, tzI k.af + 1, true⟩, by rw [hss]; simp, rfl, ?_⟩
      show (512 * (k.pb + tzI k.pf) + 511, _) = ((k.pb + tzI k.pf) * 512 + 511, _)
      rw [show 512 * (k.pb + tzI k.pf) + 511 = (k.pb + tzI k.pf) * 512 + 511 by omega]; rfl
  · have := g.np
    rw [epf, hss, zqd _ _ rfl]
    show _ = k.cp
    omega
  · have := g.na
    rw [eaf, hss, zqd _ _ rfl]
    show _ = k.ca
    omega
theorem zfv {n : Nat} {k : Kr} (h : Inv n k) (g : Inv2 k) : Inv2 (zck k).1 := by
  unfold zck
  by_cases c1 : 32 ≤ k.ss.length
  · rw [if_pos c1]; exact g
  rw [if_neg c1]
  by_cases c2 : k.af = 0
  · rw [if_pos c2]; exact g
  rw [if_neg c2]
  by_cases c3 : k.pf = 0
  · rw [if_pos c3]; exact g
  rw [if_neg c3]
  have := zqe h g c2 c3
  split
  · exact { sh := this.sh, p0 := this.p0, lv := this.lv, ap := this.ap, cl := this.cl, np := this.np, na := this.na }
  · exact this
end Go.Proofs.YtmkjfeamgknpfaaGreatDoor.RfK
namespace Go.Proofs.YtmkjfeamgknpfaaGreatDoor.LaH
open Go.RowKit Bv VaSpec Base MemL RegR Ax MemC PutC MemC3 TzC OkS SpA SpB SpC SpD SpE SpF SpG SpH SpI SpJ SpK SpN SpO RfE RfJ RfK LaA LaB LaC LaD LaE LaF LaG
open BitsC PteSpec
set_option maxRecDepth 10000
set_option maxHeartbeats 1000000
theorem zvu {n : Int} (h : 0 ≤ n ∧ n < 17592186044416) : zbb (33 + 1024 * n) = gP n := by
  have hm : zf7 (gP n) = true := by rw [zdk]; unfold gP; simp; omega
  have hU : (gP n).U := by unfold Pte.U gP; simp; omega
  rw [← zvr n h]
  unfold PteC.zcc
  rw [if_pos hm, zgm _ hU hm]
theorem z24 {n : Nat} {k : Kr} (h : Inv n k) (g : Inv2 k) : InvL n k := by
  have b1 := h.cd
  have b2 := h.cp
  have hsh := h.sh
  have ash : Al k.cd k.cp k.pf k.sh := ⟨hsh, by rw [g.sh, show k.cd - k.cd = 0 by omega]; exact g.p0⟩
  have ass : ∀ s ∈ k.ss, s.live = true → Al k.cd k.cp k.pf s.root := fun s hs hl => ⟨(h.ss s hs hl).1, (g.lv s hs hl).2.2.1⟩
  refine { g := ⟨h.cd, h.cp, h.sz, h.pf, h.m, fun c hc => ?_⟩, cs := h.cs, pb := h.pb, pm := h.pm, sh := ash, ts := h.ts, ml := h.ml, fl := h.fl, sl := h.sl, ss := ass }
  obtain ⟨s, hs, hl, rfl⟩ := g.cl c hc
  refine ⟨?_, (h.mc _ hc).2.2.2, ?_⟩
  · show Al k.cd k.cp k.pf ((s.root * 512 + 511) / 512)
    rw [show (s.root * 512 + 511) / 512 = s.root by omega]
    exact ass s hs hl
  · show EOk k.cd k.cp k.pf (zbb (33 + 1024 * k.sh))
    rw [zvu (by omega)]
    exact .inr ⟨rfl, ash⟩
noncomputable def bgK (a b c : Int) (n : Nat) : Kr := (zck (zck (ztg a b c n)).1).1
theorem z25 {a b c : Int} {n : Nat} (h : zhc a b c n = true) : Inv 0 (ztg a b c n) ∧ Inv 1 (zck (ztg a b c n)).1 ∧ InvL 2 (bgK a b c n) := by
  have h0 := zml h
  have g0 := zru h
  have h1 := zfh h0
  have g1 := zfv h0 g0
  exact ⟨h0, h1, z24 (zfh h1) (zfv h1 g1)⟩
def kr2 (m : List (Int × Int)) (pf af ao : Int) (ss : List Sp) : Kr := { cd := 4, cp := 8, ca := 2, cs := 1, sz := 49152, m := m, tn := 1, ts := zsL 1, sm := 0, sa := 0, sp := 0, priv := 0, su := false, mx := false, vic := -1, pb := 4, pm := 8, pf := pf, am := 2, af := af, ao := ao, ss := ss, now := -1, sh := 4, fs := [] }
def c0 : Kr := kr2 [] 254 3 0 []
def c1 : Kr := kr2 [(3071, 4129)] 252 2 1 [⟨5, 1, true⟩]
def c2 : Kr := kr2 [(3071, 4129), (3583, 4129)] 248 0 3 [⟨5, 1, true⟩, ⟨6, 2, true⟩]
theorem n0 : ztg 4 8 2 1 = c0 := by kernel_rfl
theorem e1 : zck c0 = (c1, 0, 0) := by
  unfold zck zb0 zov
  rw [zrc]
  kernel_rfl
theorem e2 : zck c1 = (c2, 1, 0) := by
  unfold zck zb0 zov
  rw [zrc]
  kernel_rfl
theorem bg2 : bgK 4 8 2 1 = c2 := by
  unfold bgK
  rw [n0, e1, e2]
theorem i2 : InvL 2 c2 := by rw [← bg2]; exact (z25 (by decide)).2.2
end Go.Proofs.YtmkjfeamgknpfaaGreatDoor.LaH
namespace Go.Proofs.YtmkjfeamgknpfaaGreatDoor.LiE
open Go.RowKit Bv VaSpec Base MemL RegR Ax MemC PutC MemC3 TzC OkS SpA SpB SpC SpD SpE SpF SpG SpH SpI SpJ SpN SpO RfP RfQ RfE RfJ LaA LaB LaC LaD LaE LaF LaG LaH LiA LiB LiC LiD
open BitsC PteSpec
set_option maxRecDepth 10000
set_option maxHeartbeats 1000000
structure InvT (n : Nat) (k : Kr) : Prop where
  l : InvL n k
  t : ∃ lv, TI k.cd k.cp k.sz k.m k.pf k.sh lv ∧ lv k.sh = 1 ∧ ∀ s ∈ k.ss, s.live = true → lv s.root = 2
theorem z26 {n l : Int} {p : Pm} {g : Bool} (hn : n % (VaSpec.sz l / 4096) = 0) (hp : zj4 p = true) : zej (mkP n p g) l = false := by
  obtain ⟨r, w, x, u⟩ := p
  revert hp
  unfold zj4 zej zbu mkP
  cases r <;> cases w <;> cases x <;> simp [hn]
section
variable {cd cp sz f sh : Int} {xs : List (Int × Int)} {lv : Int → Int}
theorem z01 (h : TI cd cp sz xs f sh lv) (h0 : f ≠ 0) {t i : Int} (ht : Al cd cp f t) (hsh : Al cd cp f sh) (hl : 1 ≤ lv t ∧ lv t ≤ 2) (hi : 0 ≤ i ∧ i < 512) (hn : zbu (atM sz xs t i) = false) :
    TI cd cp sz (zbv sz xs t i (lnk (cd + tzI f))) (zb9 f (tzI f) 1 0) sh (upL lv (cd + tzI f) (lv t - 1)) := by
  obtain ⟨a0, a1, a2, a3⟩ := zd8 h h0
  have b1 := h.bd
  have b2 := h.bp
  have hnn : 0 ≤ cd + tzI f ∧ cd + tzI f < 17592186044416 := by omega
  rw [h.gm.with ht hi (zgx hnn)]
  refine h.put ht.1 hi (zf9 _ (zgx hnn)) a3 fun E' hE => ?_
  rw [zi1 hnn] at hE
  refine h.e.link a0 a1 ht hl hi hsh ?_ hE
  cases e : lkP (atM sz xs t i) with
  | false => rfl
  | true => rw [(zfa e).1] at hn; cases hn
theorem z02 (addr zaz : Int) (hw : 0 ≤ zaz) : ∀ (l : Nat) (xs : List (Int × Int)) (f t : Int) (lv : Int → Int), TI cd cp sz xs f sh lv → Al cd cp f t → Al cd cp f sh → lv t = l → l ≤ 2 → zaz ≤ (l : Int) →
    (dnN sz cd addr zaz l xs f t).2.2.2 = 0 → ∃ lv', TI cd cp sz (dnN sz cd addr zaz l xs f t).1 (dnN sz cd addr zaz l xs f t).2.1 sh lv' ∧ lv' (dnN sz cd addr zaz l xs f t).2.2.1 = zaz ∧ Al cd cp (dnN sz cd addr zaz l xs f t).2.1 (dnN sz cd addr zaz l xs f t).2.2.1 ∧ ∀ s, Al cd cp f s → lv' s = lv s
  | 0, xs, f, t, lv, h, ht, _, hl, _, hwl, _ => ⟨lv, h, by show lv t = zaz; omega, ht, fun s _ => rfl⟩
  | l + 1, xs, f, t, lv, h, ht, hsh, hl, h2, hwl, he => by
    have hi := idx_bd addr ((l + 1 : Nat) : Int)
    unfold dnN at he ⊢
    split
    · exact ⟨lv, h, by show lv t = zaz; omega, ht, fun s _ => rfl⟩
    · rename_i c1
      rw [if_neg c1] at he
      split
      · rename_i c2; rw [if_pos c2] at he; cases he
      · rename_i c2
        rw [if_neg c2] at he
        have hk := h.e.k t _ hi
        split
        · rename_i c3
          rw [if_pos c3] at he
          rcases hk with e | ⟨_, _, ⟨e, _⟩ | ⟨e1, e2, e3, e4⟩⟩
          · rw [e] at c3; cases c3
          · exact absurd e c2
          · exact z02 addr zaz hw l xs f _ lv h e4 hsh (by rw [e3, hl]; omega) (by omega) (by omega) he
        · rename_i c3
          rw [if_neg c3] at he
          split
          · rename_i c4; rw [if_pos c4] at he; cases he
          · rename_i c4
            rw [if_neg c4] at he
            obtain ⟨a0, a1, a2, a3⟩ := zd8 h c4
            have hn : zbu (atM sz xs t (idx addr ((l + 1 : Nat) : Int))) = false := by
              unfold zbu
              rw [show (atM sz xs t (idx addr ((l + 1 : Nat) : Int))).v = false by simpa using c3]; rfl
            have hT := z01 h c4 ht hsh (by rw [hl]; omega) hi hn
            obtain ⟨lv', r1, r2, r3, r4⟩ := z02 addr zaz hw l _ _ _ _ hT a1 (a0 _ hsh).1 (by rw [hl]; show upL lv (cd + tzI f) _ (cd + tzI f) = _; unfold upL; rw [if_pos rfl]; omega) (by omega) (by omega) he
            refine ⟨lv', r1, r2, r3, fun s hs => (r4 s (a0 s hs).1).trans ?_⟩
            exact if_neg (a0 s hs).2
end
theorem zki {n : Nat} {k : Kr} {id a l : Int} (h : InvL n k) (he : (za1 k id a l).2.2 = 0) : ((za1 k id a l).1 = k.sh ∧ (za1 k id a l).2.1 = 1 ∧ id = -1) ∨ (zb2 k id = true ∧ id ≠ -1 ∧ (za1 k id a l).1 = (zct k id).root ∧ (za1 k id a l).2.1 = 2 ∧ idx a 2 ≠ 511) := by
  unfold za1 at he ⊢
  by_cases c1 : 0 ≤ l ∧ l ≤ 2
  rotate_left
  · rw [if_pos c1] at he; cases he
  rw [if_neg (by simpa using c1)] at he ⊢
  by_cases c2 : id ≠ -1 ∧ zb2 k id = false
  · rw [if_pos c2] at he; cases he
  rw [if_neg c2] at he ⊢
  by_cases c3 : zkm a l = false
  · rw [if_pos c3] at he; cases he
  rw [if_neg c3] at he ⊢
  by_cases c4 : id = -1
  · rw [if_pos c4] at he ⊢
    by_cases c5 : idx a 2 = 511 ∧ l ≠ 2
    · rw [if_pos c5]; exact .inl ⟨rfl, rfl, c4⟩
    · rw [if_neg c5] at he; cases he
  · rw [if_neg c4] at he ⊢
    by_cases c5 : idx a 2 = 511
    · rw [if_pos c5] at he; cases he
    · rw [if_neg c5]
      have c6 : zb2 k id = true := by
        cases e : zb2 k id with
        | true => rfl
        | false => exact absurd ⟨c4, e⟩ c2
      exact .inr ⟨c6, c4, rfl, rfl, c5⟩
theorem ztb {k : Kr} {id a l : Int} (he : (za1 k id a l).2.2 = 0) : zkm a l = true := by
  unfold za1 at he
  split at he
  · cases he
  · split at he
    · cases he
    · split at he
      · cases he
      · rename_i c; simpa using c
theorem zvv {a l : Int} (h : zkm a l = true) : VaSpec.base a l = a := by
  unfold zkm off at h
  unfold VaSpec.base
  simp only [Bool.and_eq_true, beq_iff_eq] at h
  omega
theorem InvT.top {n : Nat} {k : Kr} {id a l : Int} (h : InvT n k) (he : (za1 k id a l).2.2 = 0) {lv : Int → Int} (hs : lv k.sh = 1) (hr : ∀ s ∈ k.ss, s.live = true → lv s.root = 2) :
    lv (za1 k id a l).1 = (za1 k id a l).2.1 ∧ (2 ≤ (za1 k id a l).2.1 → idx a 2 ≠ 511) := by
  rcases zki h.l he with ⟨e1, e2, _⟩ | ⟨e1, _, e2, e3, e4⟩
  · rw [e1, e2]; exact ⟨hs, fun hh => by omega⟩
  · obtain ⟨h0, h1, h2, h3⟩ := zft e1
    rw [e2, e3]
    exact ⟨hr _ (List.mem_of_getElem? h2) h3, fun _ => e4⟩
theorem zxw {l : Int} (h : 0 ≤ l ∧ l ≤ 2) {pa : Int} (hp : pa % VaSpec.sz l = 0) : (pa / 4096) % (VaSpec.sz l / 4096) = 0 := by
  rcases (by omega : l = 0 ∨ l = 1 ∨ l = 2) with rfl | rfl | rfl
  · show (pa / 4096) % 1 = 0; omega
  · have hp : pa % 2097152 = 0 := hp
    show (pa / 4096) % 512 = 0; omega
  · have hp : pa % 1073741824 = 0 := hp
    show (pa / 4096) % 262144 = 0; omega
theorem zmw {n : Nat} {k : Kr} {id a pa l : Int} {p : Pm} (h : InvT n k) (hp : U pa) : InvT (n + 3) (zob k id a pa l p).1 := by
  refine ⟨z0s h.l hp, ?_⟩
  obtain ⟨lv, hT, hs, hr⟩ := h.t
  unfold zob
  split
  · exact ⟨lv, hT, hs, hr⟩
  · rename_i c0
    split
    · exact ⟨lv, hT, hs, hr⟩
    · rename_i c1
      split
      · exact ⟨lv, hT, hs, hr⟩
      · split
        · exact ⟨lv, hT, hs, hr⟩
        · rename_i c3
          split
          · exact ⟨lv, hT, hs, hr⟩
          · split
            · exact ⟨lv, hT, hs, hr⟩
            · rename_i c5
              obtain ⟨w1, w2, w3, w4⟩ := zcx (id := id) (a := a) (l := l) h.l (by omega)
              obtain ⟨z1, z2⟩ := h.top (id := id) (a := a) (l := l) (by omega) hs hr
              generalize za1 k id a l = w at *
              have he : (zth k w.1 w.2.1 a l).2.2.2 = 0 := by omega
              obtain ⟨lv', r1, r2, r3, r4⟩ := z02 a l w1.1 w.2.1.toNat k.m k.pf w.1 lv hT w2 h.l.sh (by omega) (by omega) (by omega) he
              have hpm := zmq (p := p) (by omega)
              have hpn := zrl (k := k) (l := l) hp (by have := h.l.g.bd; omega) (by omega)
              have hb := zi2 (n := pa / 4096) (p := p) (g := decide (id = -1)) hpn hpm
              have hzz : 0 < VaSpec.sz l := by rcases VaSpec.lev w1.1 w1.2 with rfl | rfl | rfl <;> decide
              have hmod : pa % VaSpec.sz l = 0 := by
                have e : lk0 pa l = 0 := by omega
                unfold lk0 zfe at e
                rw [if_neg (show ¬ VaSpec.sz l = 0 by omega)] at e
                split at e
                · rename_i c; simpa using c
                · cases e
              have hbad := z26 (g := decide (id = -1)) (zxw w1 hmod) hpm
              refine ⟨lv', ?_, (r4 _ h.l.sh).trans hs, fun s hs' hl => (r4 _ (h.l.ss s hs' hl)).trans (hr s hs' hl)⟩
              show TI k.cd k.cp k.sz (zbv k.sz (dnN k.sz k.cd a l w.2.1.toNat k.m k.pf w.1).1 (dnN k.sz k.cd a l w.2.1.toNat k.m k.pf w.1).2.2.1 (idx a l) (mkP (pa / 4096) p (decide (id = -1)))) (dnN k.sz k.cd a l w.2.1.toNat k.m k.pf w.1).2.1 k.sh lv'
              rw [r1.gm.with r3 (idx_bd a l) hb.2.1]
              refine r1.put r3.1 (idx_bd a l) (zf9 _ hb.2.1) r1.bf fun E' hE => ?_
              rw [hb.1] at hE
              exact r1.e.leaf r3 (by rw [r2]; exact w1) hb.2.2 (by rw [r2]; exact hbad) hE
structure ToP (cd cp sz f sh addr zaz top : Int) (l : Nat) (xs : List (Int × Int)) (lv : Int → Int) (n : Nat) (T : List (Int × Int) × Int × (Int × Int) × Int) (lv' : Int → Int) : Prop where
  t : TI cd cp sz T.1 T.2.1 sh lv'
  a : ∀ s, Al cd cp f s → Al cd cp T.2.1 s ∧ lv' s = lv s
  n : T.1.length ≤ xs.length + 513 * n
  r : za3 sz T.1 addr zaz l top = T.2.2.1
  p : ∃ l' : Nat, T.2.2.1.2 = (l' : Int) ∧ l' ≤ l ∧ zaz ≤ (l' : Int) ∧ Al cd cp T.2.1 T.2.2.1.1 ∧ lv' T.2.2.1.1 = (l' : Int)
section
variable {cd cp sz sh : Int}
theorem zxx (addr zaz top : Int) (l : Nat) (hw : 0 ≤ zaz) (hwl : zaz ≤ (l : Int)) (hl2 : l ≤ 2) : ∀ (n : Nat) (xs : List (Int × Int)) (f : Int) (lv : Int → Int), TI cd cp sz xs f sh lv → Al cd cp f top → Al cd cp f sh → lv top = l →
    ∃ lv', ToP cd cp sz f sh addr zaz top l xs lv n (toN sz cd addr zaz top l n xs f) lv'
  | 0, xs, f, lv, h, ht, _, hl => by
    obtain ⟨l', t', i1, i2, i3, i4, i5, i6, _⟩ := zda h addr zaz hw l top ht hl hwl
    exact ⟨lv, h, fun s hs => ⟨hs, rfl⟩, by show xs.length ≤ _; omega, rfl, l', by show (za3 sz xs addr zaz l top).2 = _; rw [i1], i2, i3, by show Al cd cp f (za3 sz xs addr zaz l top).1; rw [i1]; exact i4, by show lv (za3 sz xs addr zaz l top).1 = _; rw [i1]; exact i5⟩
  | n + 1, xs, f, lv, h, ht, hsh, hl => by
    obtain ⟨l', t', i1, i2, i3, i4, i5, i6, i7⟩ := zda h addr zaz hw l top ht hl hwl
    have hstop : ∀ e, ToP cd cp sz f sh addr zaz top l xs lv (n + 1) (xs, f, (t', (l' : Int)), e) lv := fun e => ⟨h, fun s hs => ⟨hs, rfl⟩, by show xs.length ≤ _; omega, i1, l', rfl, i2, i3, i4, i5⟩
    unfold toN
    rw [i1]
    split
    · exact ⟨lv, hstop 0⟩
    · rename_i c
      split
      · exact ⟨lv, hstop 8⟩
      · rename_i c4
        have c1 : ¬ (l' : Int) = zaz := fun e => c (.inl e)
        obtain ⟨m, rfl⟩ : ∃ m : Nat, l' = m + 1 := ⟨l' - 1, by omega⟩
        have hlf : zbr (atM sz xs t' (idx addr ((m + 1 : Nat) : Int))) = true := by
          cases e : zbr (atM sz xs t' (idx addr ((m + 1 : Nat) : Int))) with
          | true => rfl
          | false => exact absurd (.inr e) c
        have hi := idx_bd addr ((m + 1 : Nat) : Int)
        have hbad : zej (atM sz xs t' (idx addr ((m + 1 : Nat) : Int))) ((m + 1 : Nat) : Int) = false := by
          rcases h.e.k t' _ hi with e | ⟨_, _, ⟨_, e⟩ | ⟨e, _⟩⟩
          · rw [e] at hlf; cases hlf
          · rw [i5] at e; exact e
          · rw [(zfa e).2.2] at hlf; cases hlf
        obtain ⟨a0, a1, a2, a3⟩ := zd8 h c4
        have hT := zro h c4 i4 hsh hi i5 (by omega) rfl hlf hbad
        obtain ⟨lv', P⟩ := zxx addr zaz top l hw hwl hl2 n _ _ _ hT (a0 _ ht).1 (a0 _ hsh).1 ((if_neg (a0 _ ht).2).trans hl)
        have hsl := zp3 sz xs t' (idx addr ((m + 1 : Nat) : Int)) ((m + 1 : Nat) : Int) (atM sz xs t' (idx addr ((m + 1 : Nat) : Int))) (cd + tzI f)
        have hPn := P.n
        refine ⟨lv', P.t, fun s hs => ⟨(P.a s (a0 s hs).1).1, (P.a s (a0 s hs).1).2.trans (if_neg (a0 s hs).2)⟩, ?_, P.r, P.p⟩
        exact Nat.le_trans hPn (by omega)
theorem zyz (addr zaz top : Int) (l : Nat) (hw : 0 ≤ zaz) (hwl : zaz ≤ (l : Int)) (hl2 : l ≤ 2) : ∀ (n : Nat) (xs : List (Int × Int)) (f : Int) (lv : Int → Int), TI cd cp sz xs f sh lv → Al cd cp f top → Al cd cp f sh → lv top = l →
    (za3 sz xs addr zaz l top).2 ≤ zaz + n → ((za3 sz xs addr zaz l top).2 = zaz ∨ zbr (atM sz xs (za3 sz xs addr zaz l top).1 (idx addr (za3 sz xs addr zaz l top).2)) = true) →
    (toN sz cd addr zaz top l n xs f).2.2.2 = 0 → (toN sz cd addr zaz top l n xs f).2.2.1.2 = zaz
  | 0, xs, f, lv, h, ht, _, hl, hb, _, _ => by
    obtain ⟨l', t', i1, i2, i3, i4, i5, i6, _⟩ := zda h addr zaz hw l top ht hl hwl
    show (za3 sz xs addr zaz l top).2 = zaz
    rw [i1] at hb ⊢
    show (l' : Int) = zaz
    have : (l' : Int) ≤ zaz + (0 : Nat) := hb
    omega
  | n + 1, xs, f, lv, h, ht, hsh, hl, hb, hor, he => by
    obtain ⟨l', t', i1, i2, i3, i4, i5, i6, i7⟩ := zda h addr zaz hw l top ht hl hwl
    rw [i1] at hb hor
    unfold toN at he ⊢
    rw [i1] at he ⊢
    by_cases c1 : (l' : Int) = zaz
    · rw [if_pos (.inl c1)]; exact c1
    · have hlf : zbr (atM sz xs t' (idx addr (l' : Int))) = true := hor.resolve_left c1
      obtain ⟨m, rfl⟩ : ∃ m : Nat, l' = m + 1 := ⟨l' - 1, by omega⟩
      have hc : ¬ ((t', ((m + 1 : Nat) : Int)).2 = zaz ∨ zbr (atM sz xs (t', ((m + 1 : Nat) : Int)).1 (idx addr (t', ((m + 1 : Nat) : Int)).2)) = false) := by
        rintro (e | e)
        · exact c1 e
        · have e : zbr (atM sz xs t' (idx addr ((m + 1 : Nat) : Int))) = false := e
          rw [hlf] at e; cases e
      rw [if_neg hc] at he ⊢
      by_cases c4 : f = 0
      · rw [if_pos c4] at he; cases he
      · rw [if_neg c4] at he ⊢
        have hi := idx_bd addr ((m + 1 : Nat) : Int)
        have hbad : zej (atM sz xs t' (idx addr ((m + 1 : Nat) : Int))) ((m + 1 : Nat) : Int) = false := by
          rcases h.e.k t' _ hi with e | ⟨_, _, ⟨_, e⟩ | ⟨e, _⟩⟩
          · rw [e] at hlf; cases hlf
          · rw [i5] at e; exact e
          · rw [(zfa e).2.2] at hlf; cases hlf
        obtain ⟨a0, a1, a2, a3⟩ := zd8 h c4
        have hT := zro h c4 i4 hsh hi i5 (by omega) rfl hlf hbad
        obtain ⟨s1, s2⟩ := zka h c4 addr zaz hw i4 i5 (by omega) (by omega) hlf hbad
        have hre := (i7 _ s1).trans s2
        have hat := zve h c4 i4 hi (l := ((m + 1 : Nat) : Int)) (by omega) rfl hlf hbad (cd + tzI f) (idx addr (m : Int)) (idx_bd addr _)
        rw [if_neg (by rintro ⟨e, _⟩; exact (a0 _ i4).2 e.symm), if_pos rfl] at hat
        refine zyz addr zaz top l hw hwl hl2 n _ _ _ hT (a0 _ ht).1 (a0 _ hsh).1 ((if_neg (a0 _ ht).2).trans hl) ?_ ?_ he
        · have hb : ((m + 1 : Nat) : Int) ≤ zaz + ((n + 1 : Nat) : Int) := hb
          show (za3 sz (zhe sz xs t' (idx addr ((m + 1 : Nat) : Int)) ((m + 1 : Nat) : Int) (atM sz xs t' (idx addr ((m + 1 : Nat) : Int))) (cd + tzI f)) addr zaz l top).2 ≤ zaz + (n : Int)
          rw [hre]
          show (m : Int) ≤ zaz + n
          omega
        · refine .inr ?_
          show zbr (atM sz (zhe sz xs t' (idx addr ((m + 1 : Nat) : Int)) ((m + 1 : Nat) : Int) (atM sz xs t' (idx addr ((m + 1 : Nat) : Int))) (cd + tzI f)) (za3 sz (zhe sz xs t' (idx addr ((m + 1 : Nat) : Int)) ((m + 1 : Nat) : Int) (atM sz xs t' (idx addr ((m + 1 : Nat) : Int))) (cd + tzI f)) addr zaz l top).1 (idx addr (za3 sz (zhe sz xs t' (idx addr ((m + 1 : Nat) : Int)) ((m + 1 : Nat) : Int) (atM sz xs t' (idx addr ((m + 1 : Nat) : Int))) (cd + tzI f)) addr zaz l top).2)) = true
          rw [hre]
          show zbr (atM sz (zhe sz xs t' (idx addr ((m + 1 : Nat) : Int)) ((m + 1 : Nat) : Int) (atM sz xs t' (idx addr ((m + 1 : Nat) : Int))) (cd + tzI f)) (cd + tzI f) (idx addr (m : Int))) = true
          rw [hat]; exact hlf
end
def zbn (sz : Int) (xs : List (Int × Int)) (l : Int) (q : Pte) (b : Int) : List Pg := if zbr q then [⟨b, q.ppn * 4096, l, q.r, q.w, q.x, q.u, q.d⟩] else if zbu q then zd4 sz xs (l - 1).toNat q.ppn b else []
def inR (k : Kr) (id a l : Int) : List Pg :=
  if (za1 k id a l).2.2 ≠ 0 then [] else
  zbn k.sz k.m (zc0 k.sz k.m a l (za1 k id a l).2.1 (za1 k id a l).1).2 (atM k.sz k.m (zc0 k.sz k.m a l (za1 k id a l).2.1 (za1 k id a l).1).1 (idx a (zc0 k.sz k.m a l (za1 k id a l).2.1 (za1 k id a l).1).2)) (VaSpec.base a (zc0 k.sz k.m a l (za1 k id a l).2.1 (za1 k id a l).1).2)
def zb8 (id n : Int) (p : Pg) : Fe := if id = -1 then ⟨true, p.va, false, 0⟩ else ⟨true, p.va, true, n⟩
def ztc (id n : Int) : Fe := if id = -1 then ⟨false, 0, false, 0⟩ else ⟨false, 0, true, n⟩
def zfl (k : Kr) (id : Int) (l : List Pg) : List Fe := if 16 < l.length then [ztc id (zct k id).asid] else l.map (zb8 id (zct k id).asid)
theorem zmx (k : Kr) (id : Int) (l : List Pg) : (zfl k id l).length ≤ 16 := by
  unfold zfl
  split
  · simp
  · rw [List.length_map]; omega
def zfj (sz cd cp : Int) (T : List (Int × Int) × Int × (Int × Int) × Int) (a : Int) : List (Int × Int) × Int :=
  if zbu (atM sz T.1 T.2.2.1.1 (idx a T.2.2.1.2)) then bkN cd cp (frN sz T.1 (T.2.2.1.2 - 1).toNat (atM sz T.1 T.2.2.1.1 (idx a T.2.2.1.2)).ppn) (T.1, T.2.1) else (T.1, T.2.1)
def unM (k : Kr) (T : List (Int × Int) × Int × (Int × Int) × Int) (top at' a : Int) : List (Int × Int) × Int :=
  prN k.sz k.cd k.cp a at'.toNat top (zbv k.sz (zfj k.sz k.cd k.cp T a).1 T.2.2.1.1 (idx a T.2.2.1.2) zP, (zfj k.sz k.cd k.cp T a).2)
def unT (k : Kr) (top at' a l : Int) : List (Int × Int) × Int × (Int × Int) × Int := toN k.sz k.cd a l top at'.toNat at'.toNat k.m k.pf
def unK (k : Kr) (id top at' a l : Int) (T : List (Int × Int) × Int × (Int × Int) × Int) : Kr := zeq { k with m := (unM k T top at' a).1, pf := (unM k T top at' a).2 } (zfl k id (zbn k.sz T.1 T.2.2.1.2 (atM k.sz T.1 T.2.2.1.1 (idx a T.2.2.1.2)) (VaSpec.base a T.2.2.1.2)))
def unR (k : Kr) (id a l : Int) : Kr × Int :=
  if (za1 k id a l).2.2 ≠ 0 then (k, (za1 k id a l).2.2)
  else if (inR k id a l).length = 0 then (k, 7)
  else if (unT k (za1 k id a l).1 (za1 k id a l).2.1 a l).2.2.2 ≠ 0 then (k, (unT k (za1 k id a l).1 (za1 k id a l).2.1 a l).2.2.2)
  else (unK k id (za1 k id a l).1 (za1 k id a l).2.1 a l (unT k (za1 k id a l).1 (za1 k id a l).2.1 a l), 0)
section
variable {cd cp sz f sh : Int} {xs : List (Int × Int)} {lv : Int → Int}
theorem zy0 (cd cp : Int) : ∀ (l : List Int) (p : List (Int × Int) × Int), (bkN cd cp l p).1.length ≤ p.1.length
  | [], p => Nat.le_refl _
  | g :: l, p => Nat.le_trans (zy0 cd cp l _) (zd1 _ _)
theorem zvw (h : TI cd cp sz xs f sh lv) (hsh : Al cd cp f sh) {t a e : Int} {l' : Nat} (ht : Al cd cp f t) (hlv : lv t = (l' : Int)) (hl2 : l' ≤ 2) (hH : l' = 2 → idx a 2 ≠ 511) :
    TI cd cp sz (zbv sz (zfj sz cd cp (xs, f, (t, (l' : Int)), e) a).1 t (idx a (l' : Int)) zP) (zfj sz cd cp (xs, f, (t, (l' : Int)), e) a).2 sh lv ∧
    (∀ s, Al cd cp f s → (s = sh ∨ (l' : Int) ≤ lv s) → Al cd cp (zfj sz cd cp (xs, f, (t, (l' : Int)), e) a).2 s) ∧ (zbv sz (zfj sz cd cp (xs, f, (t, (l' : Int)), e) a).1 t (idx a (l' : Int)) zP).length ≤ xs.length ∧ Srt (zfj sz cd cp (xs, f, (t, (l' : Int)), e) a).1 ∧ (zfj sz cd cp (xs, f, (t, (l' : Int)), e) a).1.length ≤ xs.length := by
  have hi := idx_bd a (l' : Int)
  have b1 := h.bd
  have bt := ht.1
  have hz : ∀ ys : List (Int × Int), zbv sz ys t (idx a (l' : Int)) zP = zcy ys (t * 512 + idx a (l' : Int)) 0 := fun ys => by
    rw [zen zyr (by omega) hi (by rw [h.bz]; omega), zyv]
  have hlen : ∀ ys : List (Int × Int), Srt ys → (zcy ys (t * 512 + idx a (l' : Int)) 0).length ≤ ys.length := fun ys hs => by rw [zhq _ _ hs]; exact List.length_filter_le ..
  by_cases c : zbu (atM sz xs t (idx a (l' : Int))) = true
  · have hq : lkP (atM sz xs t (idx a (l' : Int))) = true := by
      rcases h.e.k t _ hi with e | ⟨_, _, ⟨e, _⟩ | ⟨e, _⟩⟩
      · rw [e] at c; cases c
      · rw [(zcq e).1] at c; cases c
      · exact e
    obtain ⟨k1, k2, k3, k4⟩ := zod h hi hq
    obtain ⟨m, rfl⟩ : ∃ m : Nat, l' = m + 1 := ⟨l' - 1, by omega⟩
    have e1 : zfj sz cd cp (xs, f, (t, ((m + 1 : Nat) : Int)), e) a = bkN cd cp (frN sz xs m (atM sz xs t (idx a ((m + 1 : Nat) : Int))).ppn) (xs, f) := by
      unfold zfj
      show (if zbu (atM sz xs t (idx a ((m + 1 : Nat) : Int))) = true then bkN cd cp (frN sz xs (((m + 1 : Nat) : Int) - 1).toNat (atM sz xs t (idx a ((m + 1 : Nat) : Int))).ppn) (xs, f) else (xs, f)) = _
      rw [if_pos c, show (((m + 1 : Nat) : Int) - 1).toNat = m by omega]
    rw [e1, hz]
    obtain ⟨r1, r2⟩ := z0t h ht hlv hl2 hi (fun hh => by
      have e2 : m + 1 = 2 := hh.1
      have e3 := hh.2
      rw [show ((m + 1 : Nat) : Int) = 2 by omega] at e3
      exact hH e2 e3) hq
    have hbl := zy0 cd cp (frN sz xs m (atM sz xs t (idx a ((m + 1 : Nat) : Int))).ppn) (xs, f)
    have hbs := (zhs cd cp sz h.bp (frN sz xs m (atM sz xs t (idx a ((m + 1 : Nat) : Int))).ppn) (xs, f) h.s h.bf).s
    exact ⟨r1, fun s hs hk => r2 s hs (by omega), Nat.le_trans (hlen _ hbs) hbl, hbs, hbl⟩
  · have e1 : zfj sz cd cp (xs, f, (t, (l' : Int)), e) a = (xs, f) := by
      unfold zfj
      exact if_neg c
    rw [e1, hz]
    refine ⟨h.put bt hi ⟨by omega, by omega⟩ h.bf fun E' hE => h.e.sub fun s j hj => ?_, fun s hs _ => hs, hlen _ h.s, h.s, Nat.le_refl _⟩
    rw [hE s j hj, zvd]
    split
    · exact .inl rfl
    · exact .inr rfl
end
theorem zy1 {n : Nat} {k : Kr} {id a l : Int} (h : InvT n k) : InvT (n + 1100) (unR k id a l).1 := by
  have hm : InvT (n + 1100) k := ⟨{ h.l with ml := by have := h.l.ml; omega, fl := by have := h.l.fl; omega }, h.t⟩
  unfold unR
  split
  · exact hm
  · rename_i c0
    split
    · exact hm
    · split
      · exact hm
      · rename_i c5
        obtain ⟨lv, hT, hs, hr⟩ := h.t
        obtain ⟨w1, w2, w3, w4⟩ := zcx (id := id) (a := a) (l := l) h.l (by omega)
        obtain ⟨z1, z2⟩ := h.top (a := a) (id := id) (l := l) (by omega) hs hr
        generalize za1 k id a l = w at *
        obtain ⟨lv', P⟩ := zxx a l w.1 w.2.1.toNat w1.1 (by omega) (by omega) w.2.1.toNat k.m k.pf lv hT w2 h.l.sh (by omega)
        show InvT (n + 1100) (unK k id w.1 w.2.1 a l (unT k w.1 w.2.1 a l))
        have P : ToP k.cd k.cp k.sz k.pf k.sh a l w.1 w.2.1.toNat k.m lv w.2.1.toNat (unT k w.1 w.2.1 a l) lv' := P
        generalize unT k w.1 w.2.1 a l = T at *
        obtain ⟨xs, f, ⟨t, lt⟩, e⟩ := T
        obtain ⟨l', e1, e2, e3, e4, e5⟩ := P.p
        have e1 : lt = (l' : Int) := e1
        subst e1
        have e4 : Al k.cd k.cp f t := e4
        have e5 : lv' t = (l' : Int) := e5
        have hPt : TI k.cd k.cp k.sz xs f k.sh lv' := P.t
        have ash := P.a _ h.l.sh
        have atop := P.a _ w2
        obtain ⟨c1, c2, c3, _, _⟩ := zvw (a := a) (e := e) hPt ash.1 e4 e5 (by omega) (fun hh => z2 (by omega))
        have hlt : lv' w.1 = w.2.1 := atop.2.trans z1
        have atop2 := c2 _ atop.1 (.inr (by rw [hlt]; omega))
        have ash2 := c2 _ ash.1 (.inl rfl)
        have Q := zht a c1 w.2.1.toNat w.1 (by omega) atop2 (by rw [hlt]; omega) (fun hh => z2 (by omega))
        have hroot : ∀ s ∈ k.ss, s.live = true → lv' s.root = 2 ∧ Al k.cd k.cp (unM k (xs, f, (t, (l' : Int)), e) w.1 w.2.1 a).2 s.root := fun s hs' hl => by
          have a1 := P.a _ (h.l.ss s hs' hl)
          have a2 : lv' s.root = 2 := a1.2.trans (hr s hs' hl)
          have a3 := c2 _ a1.1 (.inr (by rw [a2]; omega))
          exact ⟨a2, Q.a _ a3 (.inr (by rw [a2]; omega))⟩
        have hTI : TI k.cd k.cp k.sz (unM k (xs, f, (t, (l' : Int)), e) w.1 w.2.1 a).1 (unM k (xs, f, (t, (l' : Int)), e) w.1 w.2.1 a).2 k.sh lv' := Q.t
        have hPn : xs.length ≤ k.m.length + 513 * w.2.1.toNat := P.n
        have hml := h.l.ml
        have hfl := h.l.fl
        have hlen : (unM k (xs, f, (t, (l' : Int)), e) w.1 w.2.1 a).1.length ≤ n + 1100 := by
          have : (unM k (xs, f, (t, (l' : Int)), e) w.1 w.2.1 a).1.length ≤ (zbv k.sz (zfj k.sz k.cd k.cp (xs, f, (t, (l' : Int)), e) a).1 t (idx a (l' : Int)) zP).length := Q.n
          omega
        refine ⟨{ g := hTI.gm, cs := h.l.cs, pb := h.l.pb, pm := h.l.pm, sh := Q.a _ ash2 (.inl rfl), ts := h.l.ts, ml := hlen, fl := ?_, sl := h.l.sl, ss := fun s hs' hl => (hroot s hs' hl).2 }, lv', hTI, ash.2.trans hs, fun s hs' hl => (hroot s hs' hl).1⟩
        have := zmx k id (zbn k.sz xs (l' : Int) (atM k.sz xs t (idx a (l' : Int))) (VaSpec.base a (l' : Int)))
        show (k.fs ++ zfl k id (zbn k.sz xs (l' : Int) (atM k.sz xs t (idx a (l' : Int))) (VaSpec.base a (l' : Int)))).length ≤ n + 1100
        rw [List.length_append]; omega
end Go.Proofs.YtmkjfeamgknpfaaGreatDoor.LiE
namespace Go.Proofs.YtmkjfeamgknpfaaGreatDoor.LiF
open Go.RowKit Bv VaSpec Base MemL RegR Ax MemC PutC MemC3 TzC OkS SpA SpB SpC SpD SpE SpF SpG SpH SpI SpJ SpN SpO RfP RfQ RfE RfJ RfK LaA LaB LaC LaD LaE LaF LaG LaH LiA LiB LiC LiD LiE
open BitsC PteSpec
set_option maxRecDepth 10000
set_option maxHeartbeats 1000000
theorem z35 {n : Nat} {k : Kr} (h : Inv n k) (g : Inv2 k) : InvT n k := by
  have hl := z24 h g
  refine ⟨hl, fun s => if s = k.sh then 1 else 2, ⟨h.cd, h.cp, h.sz, h.pf, h.m, fun c hc => ?_, ?_⟩, if_pos rfl, fun s hs hv => ?_⟩
  · obtain ⟨s, hs, hv, rfl⟩ := g.cl c hc
    have hr := (h.ss s hs hv).1
    have hsh := h.sh
    have := h.cd
    have hu := (h.mc _ hc).2.2.2
    exact ⟨⟨by show k.cd * 512 ≤ s.root * 512 + 511; omega, by show s.root * 512 + 511 < (k.cd + k.cp) * 512; omega⟩, hu, by show 33 + 1024 * k.sh ≠ 0; omega⟩
  · have key : ∀ s i, (0 ≤ i ∧ i < 512) → atM k.sz k.m s i = zP ∨ (i = 511 ∧ s ≠ k.sh ∧ Al k.cd k.cp k.pf s ∧ atM k.sz k.m s i = gP k.sh) := fun s i hi => by
      unfold atM zcj
      split
      · rcases zvc (xs := k.m) (k := (s * 4096 + i * 8) / 8) with e | ⟨c, hc, e1, e2⟩
        · rw [e]; exact .inl zvd
        · obtain ⟨p, hp, hv, rfl⟩ := g.cl c hc
          have e1 : p.root * 512 + 511 = (s * 4096 + i * 8) / 8 := e1
          have hsh := h.sh
          have hcd := h.cd
          have hcp := h.cp
          have e3 : p.root = s := by omega
          rw [e2, show (33 + 1024 * k.sh : Int) = 33 + 1024 * k.sh from rfl, zvu (by omega)]
          exact .inr ⟨by omega, by rw [← e3, g.sh]; exact (g.lv p hp hv).1, by rw [← e3]; exact hl.ss p hp hv, rfl⟩
      · exact .inl zvd
    refine ⟨fun s i hi => ?_, fun s i t j hi hj h1 h2 h3 h4 => ?_, fun s i hi h1 h2 => ?_⟩
    · rcases key s i hi with e | ⟨_, a, b, c⟩
      · exact .inl e
      · rw [c]
        refine .inr ⟨b, by dsimp only; rw [if_neg a]; omega, .inr ⟨rfl, by dsimp only; rw [if_neg a]; omega, ?_, hl.sh⟩⟩
        show (if k.sh = k.sh then (1 : Int) else 2) = (if s = k.sh then (1 : Int) else 2) - 1
        rw [if_pos rfl, if_neg a]; rfl
    · rcases key s i hi with e | ⟨_, _, _, c⟩
      · rw [e] at h1; cases h1
      · rw [c] at h4; exact absurd rfl h4
    · rcases key s i hi with e | ⟨a, b, _, c⟩
      · rw [e] at h1; cases h1
      · exact ⟨a, if_neg b⟩
  · have := (g.lv s hs hv).1
    rw [← g.sh] at this
    exact if_neg this
theorem zvx {a b c : Int} {n : Nat} (h : zhc a b c n = true) : InvT 2 (bgK a b c n) := by
  have h0 := zml h
  have g0 := zru h
  have h1 := zfh h0
  have g1 := zfv h0 g0
  exact z35 (zfh h1) (zfv h1 g1)
theorem t2 : InvT 2 c2 := by rw [← bg2]; exact zvx (by decide)
def rr : Pm := ⟨true, false, false, false⟩
def kf (k : Kr) (fs : List Fe) : Kr := { k with fs := fs }
def dA : Kr := kr2 [(2560, 7169), (3071, 4129), (3583, 4129), (3584, 8193), (4101, 1027)] 224 0 3 [⟨5, 1, true⟩, ⟨6, 2, true⟩]
def dB : Kr := kr2 [(2559, 9217), (2560, 7169), (3071, 4129), (3583, 4129), (3584, 8193), (4101, 1027), (5119, 35)] 192 0 3 [⟨5, 1, true⟩, ⟨6, 2, true⟩]
def dC : Kr := kf (kr2 [(2559, 9217), (3071, 4129), (3583, 4129), (5119, 35)] 216 0 3 [⟨5, 1, true⟩, ⟨6, 2, true⟩]) [⟨true, 20480, true, 1⟩]
def dD : Kr := kf (kr2 [(3071, 4129), (3583, 4129)] 248 0 3 [⟨5, 1, true⟩, ⟨6, 2, true⟩]) [⟨true, 20480, true, 1⟩, ⟨true, 18446744073709547520, false, 0⟩]
theorem uA : zob c2 0 20480 4096 0 rr = (dA, 0) := by kernel_rfl
theorem jA : InvT 5 dA := by have := zmw (id := 0) (a := 20480) (pa := 4096) (l := 0) (p := rr) t2 ⟨by omega, by omega⟩; rwa [uA] at this
theorem uB : zob dA (-1) 18446744073709547520 0 0 rr = (dB, 0) := by kernel_rfl
theorem jB : InvT 8 dB := by have := zmw (id := -1) (a := 18446744073709547520) (pa := 0) (l := 0) (p := rr) jA ⟨by omega, by omega⟩; rwa [uB] at this
theorem uC : unR dB 0 20480 0 = (dC, 0) := by kernel_rfl
theorem jC : InvT 1108 dC := by have := zy1 (id := 0) (a := 20480) (l := 0) jB; rwa [uC] at this
theorem uF : unR dC 0 20480 0 = (dC, 7) := by kernel_rfl
theorem uD : unR dC (-1) 18446744073707454464 1 = (dD, 0) := by kernel_rfl
theorem uH : unR dC 7 20480 0 = (dC, 4) := by kernel_rfl
theorem vB : inR dB 0 0 2 = [⟨20480, 4096, 0, true, false, false, false, false⟩] := by kernel_rfl
theorem vC : inR dC 0 0 2 = [] := by kernel_rfl
end Go.Proofs.YtmkjfeamgknpfaaGreatDoor.LiF
namespace Go.Proofs.YtmkjfeamgknpfaaGreatDoor.LjB
open Go.RowKit Bv VaSpec Base MemL RegR Ax MemC PutC MemC3 TzC OkS SpA SpB SpC SpF LaA IterE LaC LaD LiC
open BitsC PteSpec
set_option maxRecDepth 10000
set_option maxHeartbeats 1000000
def vI (n : Int) : Value := .int .u64 n
def vsI (l : List Int) : List Value := l.map vI
theorem zqf : ∀ l : List Int, (vsI l).all (·.oneCell') = true
  | [] => rfl
  | p :: l => by rw [show vsI (p :: l) = vI p :: vsI l from rfl, List.all_cons, zqf l]; rfl
theorem zvy {α : Type} (E : α → List Int) : ∀ (ys : List α) (acc : Nat × List Value), ys.foldl (fun p x => (p.1 + (E x).length, p.2 ++ vsI (E x))) acc = (acc.1 + (ys.flatMap E).length, acc.2 ++ vsI (ys.flatMap E))
  | [], acc => by simp [vsI]
  | y :: ys, acc => by
    rw [List.foldl_cons, zvy E ys, List.flatMap_cons, List.length_append]
    simp only [vsI, List.map_append, Nat.add_assoc, List.append_assoc]
theorem zrv {α : Type} (E : α → List Int) (M : Nat) (h : ∀ x, (E x).length ≤ M) : ∀ ys : List α, (ys.flatMap E).length ≤ ys.length * M
  | [] => by simp
  | y :: ys => by
    rw [List.flatMap_cons, List.length_append, List.length_cons, Nat.succ_mul]
    have := h y
    have := zrv E M h ys
    omega
theorem zmy {sz : Int} {xs : List (Int × Int)} {f : Int} (E : Nat → List Int) (h : ∀ i, nzB sz xs f i = false → E i = []) : ∀ l : List Nat, (l.filter (nzB sz xs f)).flatMap E = l.flatMap E
  | [] => rfl
  | i :: l => by
    cases e : nzB sz xs f i with
    | true => rw [List.filter_cons, e]; simp only [if_true, List.flatMap_cons]; rw [zmy E h l]
    | false => rw [List.filter_cons, e]; simp only [Bool.false_eq_true, if_false]; rw [List.flatMap_cons, h i e, zmy E h l]; rfl
def zis (rec : Int → List Int) (p : Pte) (l : Int) : List Int := if zbq p l then rec p.ppn else []
def ts1 : List (Nat × Nat) := [(3, 3), (5, 5), (7, 7)]
def ns1 : List Nat := [3, 5, 7, 1001, 1002]
def bs1 (sz : Int) (xs : List (Int × Int)) (top lv : Int) (p : Nat × List Value) : List (Nat × Hs) := [(3, .live (.box [cu sz, .s xs.length 2 (fl xs)])), (5, .live (.box [ci lv])), (7, .live (.box [.o 1000])), (1000, .live (.row 25 1 p.1 p.2)), (1001, .live (.box [cu sz, .s xs.length 2 (fl xs)])), (1002, .live (.box [cu top]))]
theorem zll (sz : Int) (xs : List (Int × Int)) (top lv : Int) (rec : Int → List Int) (ht : 0 ≤ top ∧ top < 17592186044416) (h0 : 0 ≤ lv) (h2 : lv ≤ 2) (hs : Srt xs) (hu : Uw xs) (hrec : ∀ t, (rec t).length ≤ 1000)
    (hIH : 1 ≤ lv → ∀ t, (0 ≤ t ∧ t < 17592186044416) → Ok 51 [zbm sz xs, iu t, ii (lv - 1)] (.m (.c (.s (rec t).length 1 (vsI (rec t))))))
    (L : List Int) (hL : L = top :: (List.range 512).flatMap fun (i : Nat) => zis rec (atM sz xs top i) lv) :
    Ok 51 [zbm sz xs, iu top, ii lv] (.m (.c (.s L.length 1 (vsI L)))) := by
  refine zgb 29 Tryz.func51 rfl rfl rfl ?_ GG.to
  intro W A hG
  refine zds (fun K hK => ?_)
  repeat (first | (refine zal rfl ?_; first | refine gdr (zaa (.inr rfl) rfl) ?_ | refine gdr (zag rfl rfl rfl rfl rfl rfl) ?_) | (refine hK _ ?_; clear hK K) | refine zad rfl ?_)
  refine zds (fun K hK => ?_)
  repeat (first | (refine zal rfl ?_; first | refine gdr (zaa (.inl rfl) rfl) ?_ | refine gdr (zae rfl rfl rfl rfl rfl) ?_ | refine gnk 1 rfl (zbe rfl rfl rfl rfl rfl rfl rfl) ?_ | refine gdr (zax rfl rfl rfl rfl rfl rfl rfl rfl rfl rfl rfl) ?_) | (refine hK _ ?_; clear hK K) | refine zad rfl ?_)
  refine zu0 ?_
  refine zds (fun K hK => ?_)
  repeat (first | (refine zal rfl ?_; first | refine gdr (zaa (.inl rfl) rfl) ?_ | refine gnk 1 rfl (za2 tb rfl rfl rfl rfl rfl) ?_ | refine gdr (zfr (n1 := 1001) (n2 := 1002) rfl rfl rfl rfl rfl rfl) ?_) | (refine hK _ ?_; clear hK K) | refine zad rfl ?_)
  refine zj2 ?_
  refine zj3 (zar [(3, .m (.c (.p 3 0))), (5, .m (.c (.p 5 0))), (7, .m (.c (.p 7 0))), (14, .m (.c (.cl 162 [1001, 1002])))] [(3, .live (.box [cu sz, .s xs.length 2 (fl xs)])), (5, .live (.box [ci lv])), (7, .live (.box [.o 11])), (11, .live (.row 25 1 1 [.int .u64 top])), (1001, .live (.box [cu sz, .s xs.length 2 (fl xs)])), (1002, .live (.box [cu top]))]
    ⟨rfl, rfl, rfl, rfl, trivial⟩ ⟨rfl, rfl, rfl, rfl, rfl, rfl, trivial⟩ rfl) ?_
  refine zj3 (zcp (b := 11) (b' := 1000) rfl rfl) ?_
  intro a w ⟨τ0, s⟩
  have s' := zpr (ns := ns1) s (by
    intro b hb
    simp only [ns1, List.mem_cons, List.not_mem_nil, or_false] at hb
    rcases hb with rfl | rfl | rfl | rfl | rfl
    all_goals exact ⟨_, rfl⟩)
  refine zyu (β := Nat × List Value) ht hs hu rfl ts1 ns1 1001 1002 (bs1 sz xs top lv)
    (fun p x => St.of [(3, .m (.c (.p 3 0))), (5, .m (.c (.p 5 0))), (7, .m (.c (.p 7 0))), (9, .m (.c (.p 9 0)))] (bs1 sz xs top lv p ++ [(9, .live (.box (atM sz xs top x.1).ce))]))
    (fun p x => (p.1 + (zis rec (atM sz xs top x.1) lv).length, p.2 ++ vsI (zis rec (atM sz xs top x.1) lv))) (1, [.int .u64 top]) s' (show 14 < 29 by decide) rfl
    (by
      intro p hp
      simp only [ts1, List.mem_cons, List.not_mem_nil, or_false] at hp
      rcases hp with rfl | rfl | rfl
      all_goals exact ⟨rfl, by simp [ns1], by show _ < 29; decide⟩)
    (by
      intro b hb
      simp only [ns1, List.mem_cons, List.not_mem_nil, or_false] at hb
      rcases hb with rfl | rfl | rfl | rfl | rfl
      all_goals exact ⟨_, rfl⟩)
    ⟨rfl, rfl, rfl, rfl, rfl, rfl, trivial⟩ (by simp [ns1]) (by simp [ns1]) (fun _ => rfl) (fun _ => rfl) (fun _ => rfl) (fun _ _ => ⟨rfl, rfl, rfl, rfl, rfl, rfl, trivial⟩) (fun _ => ⟨rfl, rfl, rfl, rfl, rfl, rfl, trivial⟩)
    (by
      intro τ τ' a a' W o o' x h h'
      have := zu1 (c := 7) (b := 1000) h h' (by simp [ns1]) rfl rfl rfl rfl
      exact Prod.ext this.1 this.2)
    ?_ (fun p => p.1 ≤ 1 + 512 * 1000) ?_ ?_ ?_
  · intro W l hk o x
    repeat (first | (refine zal rfl ?_; first | refine gdr (zae rfl rfl rfl rfl rfl) ?_ | refine gnk 1 rfl (zbe rfl rfl rfl rfl rfl rfl rfl) ?_) | refine zad rfl ?_)
    exact zar _ _ ⟨rfl, rfl, rfl, rfl, trivial⟩ ⟨rfl, rfl, rfl, rfl, rfl, rfl, rfl, trivial⟩ rfl
  · intro pre hpre
    rw [zvy (fun x : Ie sz xs top => zis rec (atM sz xs top x.1) lv)]
    have := zrv (fun x : Ie sz xs top => zis rec (atM sz xs top x.1) lv) 1000 (fun x => by unfold zis; split <;> first | exact hrec _ | simp) pre
    have h3 : pre.length * 1000 ≤ 512 * 1000 := Nat.mul_le_mul_right _ (by omega)
    show 1 + _ ≤ 1 + 512 * 1000
    omega
  · intro W' l hk o x ho
    have hx := x.2.1
    have hU := zgw hu sz top (x.1 : Int)
    have hp := zdo (xs := xs) sz top (x.1 : Int)
    have ho : o.1 ≤ 1 + 512 * 1000 := ho
    generalize hq : atM sz xs top (x.1 : Int) = q at hU hp ⊢
    have hmv : ∀ (S' : St) (n : Nat) (vs : List Value), EqT S' [] → EqB S' [(3, .live (.box [cu sz, .s xs.length 2 (fl xs)])), (5, .live (.box [ci lv])), (7, .live (.box [.o 27])), (27, .live (.row 25 1 n vs)), (1001, .live (.box [cu sz, .s xs.length 2 (fl xs)])), (1002, .live (.box [cu top]))] → Sub (cxR (Cx.of 29 W A GG hG) W' l τ0 ns1 hk) S' (St.of (ptT []) (bs1 sz xs top lv (n, vs))) := fun S' n vs h1 h2 =>
      Sub.trans (zar [] _ h1 h2 rfl) (Sub.trans (zcp (b := 27) (b' := 1000) rfl rfl) (zar [] _ trivial ⟨rfl, rfl, rfl, rfl, rfl, rfl, trivial⟩ rfl))
    cases hlk : zbq q lv with
    | false =>
      have hE : zis rec q lv = [] := by unfold zis; rw [hlk]; rfl
      rw [hE]
      repeat (first | (refine zal rfl ?_; first | refine gnk 1 rfl (za2 tb rfl rfl rfl rfl rfl) ?_ | refine gdr (zab rfl rfl rfl (hlk ▸ ziw q hU lv h0 h2) rfl) ?_) | (refine hK _ ?_; clear hK K) | refine zad rfl ?_ | refine zah rfl rfl ?_ | refine zam ?_ | refine zao ?_ | refine zac (fun K hK => ?_))
      rw [show vsI [] = [] from rfl, List.append_nil]
      exact zar _ _ trivial ⟨rfl, rfl, rfl, rfl, rfl, rfl, trivial⟩ rfl
    | true =>
      have hlv : 1 ≤ lv := by
        rcases (by omega : lv = 0 ∨ 1 ≤ lv) with rfl | h
        · unfold zbq zej at hlk
          cases hk2 : zbu q with
          | false => rw [hk2] at hlk; cases hlk
          | true => rw [hk2] at hlk; simp at hlk
        · exact h
      have hE : zis rec q lv = rec q.ppn := by unfold zis; rw [hlk]; rfl
      rw [hE]
      have hi := hIH hlv q.ppn hp
      have hl := hrec q.ppn
      have ha := zqf (rec q.ppn)
      repeat (first | (refine zal rfl ?_; first | refine gnk 1 rfl (za2 tb rfl rfl rfl rfl rfl) ?_ | refine gnx 1 rfl (zbc tb rfl rfl rfl) rfl ?_ | refine gdr (gar rfl rfl rfl rfl) ?_ | refine gnk 1 rfl (zbe rfl rfl rfl rfl rfl rfl rfl) ?_ | refine gdr (zab rfl rfl rfl (hlk ▸ ziw q hU lv h0 h2) rfl) ?_ | refine gdr (zab rfl rfl rfl (hi) rfl) ?_ | refine gdr (zbd rfl rfl rfl rfl rfl rfl rfl rfl rfl rfl rfl rfl ha (by omega)) ?_) | (refine hK _ ?_; clear hK K) | refine zad rfl ?_ | refine za4 (by kernel_rfl) (by kernel_rfl) rfl ?_ | refine zai rfl rfl ?_ | refine zam ?_ | refine zac (fun K hK => ?_))
      exact hmv _ _ _ trivial ⟨rfl, rfl, rfl, rfl, rfl, rfl, trivial⟩
  · intro D ys W hD hys hI hK
    have hfold : ys.foldl (fun (p : Nat × List Value) (x : Ie sz xs top) => (p.1 + (zis rec (atM sz xs top x.1) lv).length, p.2 ++ vsI (zis rec (atM sz xs top x.1) lv))) (1, [.int .u64 top]) = (L.length, vsI L) := by
      rw [zvy (fun x : Ie sz xs top => zis rec (atM sz xs top x.1) lv)]
      have e : top :: ys.flatMap (fun x : Ie sz xs top => zis rec (atM sz xs top x.1) lv) = L := by
        rw [hL, ← zmy (sz := sz) (xs := xs) (f := top) _ (fun i hi => ?_), ← hys, List.flatMap_map]
        have : zcj sz xs (top * 4096 + (i : Int) * 8) = 0 := by unfold nzB at hi; simpa using hi
        unfold zis atM
        rw [this, LaD.zvd]
        rfl
      rw [← e]
      show (1 + _, [vI top] ++ _) = (_, vsI (top :: _))
      rw [List.length_cons, Nat.add_comm]; rfl
    rw [hfold] at hI
    obtain ⟨τ1, s1⟩ := hI
    have s2 : SimT (Cx.of 29 _ A GG hG) (St.of (ptT ts1) (bs1 sz xs top lv (L.length, vsI L))) τ1 a W := ⟨s1.size, s1.nodef, s1.bel, s1.tm, s1.hp, s1.own, s1.sep, s1.one, fun p hp => by cases hp⟩
    refine zlf (t := 6) rfl (by decide) rfl s2 (Nat.le_trans s.bel.size hD) hK (fun hk hD => ?_)
    repeat (first | (refine zal rfl ?_; first | refine gnk 1 rfl (za2 tb rfl rfl rfl rfl rfl) ?_ | refine gdr (zaa (.inr rfl) rfl) ?_) | (refine hK _ ?_; clear hK K) | refine zad rfl ?_ | refine zac (fun K hK => ?_))
    exact zap ⟨.inr rfl, _, rfl, rfl⟩
section
variable (sz : Int) (xs : List (Int × Int)) (hs : Srt xs) (hu : Uw xs)
include hs hu
theorem zrw (t : Int) : frN sz xs 0 t = t :: (List.range 512).flatMap fun (i : Nat) => zis (fun _ => []) (atM sz xs t i) 0 := by
  have : ((List.range 512).flatMap fun (i : Nat) => zis (fun _ => []) (atM sz xs t i) 0) = [] := by
    rw [List.flatMap_eq_nil_iff]
    intro i _
    unfold zis
    split <;> rfl
  rw [this]; rfl
theorem zrx (t : Int) (ht : 0 ≤ t ∧ t < 17592186044416) : Ok 51 [zbm sz xs, iu t, ii 0] (.m (.c (.s (frN sz xs 0 t).length 1 (vsI (frN sz xs 0 t))))) :=
  zll sz xs t 0 (fun _ => []) ht (by omega) (by omega) hs hu (fun _ => by simp) (fun h => by omega) _ (zrw sz xs hs hu t)
theorem zxy (t : Int) (ht : 0 ≤ t ∧ t < 17592186044416) : Ok 51 [zbm sz xs, iu t, ii 1] (.m (.c (.s (frN sz xs 1 t).length 1 (vsI (frN sz xs 1 t))))) :=
  zll sz xs t 1 (frN sz xs 0) ht (by omega) (by omega) hs hu (fun _ => by simp [frN]) (fun _ t h1 => zrx sz xs hs hu t h1) _ rfl
end
end Go.Proofs.YtmkjfeamgknpfaaGreatDoor.LjB
namespace Go.Proofs.YtmkjfeamgknpfaaGreatDoor.VaR
open Go.RowKit Bv VaSpec Base BitsC VaC
theorem zvz (n : Int) (w : World) (a0 : 0 ≤ n) (a1 : n < 18446744073709551616) : Calls Tryz.prog 160 #[.int .u64 n] w fun e w' => e = .returned (.int .u64 (ofv n)) ∧ Below w.heap.size w w' := by
  obtain ⟨x, hx⟩ := zl5 (a := n % 134217728 * 4096) (by omega) (by omega)
  have hs := zq5 x
  have Hv := Lib.hid (show B (zl4 x 39) = ofv n by rw [hs, ← hx, Int.emod_eq_of_lt (by omega) (by omega)]; rfl)
  have Hx := Lib.hid hx
  clear hx hs
  go_enter Tryz.func160, Tryz.ntmps160
  go_wp2_with fail
  rw [Hx.out]
  refine (RefS.zxo x 39 _ (by omega) (by omega)).mono ?_
  rintro e w' ⟨rfl, bel⟩
  rw [Hv.out]
  go_wp2
  go_ret
  exact ⟨rfl, bel⟩
end Go.Proofs.YtmkjfeamgknpfaaGreatDoor.VaR
namespace Go.Proofs.YtmkjfeamgknpfaaGreatDoor.RlA
open Go.RowKit Bv VaSpec Base MemL RegR Ax MemC PutC MemC3 TzC OkS SpA SpB SpC SpD SpE SpF SpH SpI SpJ SpN SpO RfA RfB RfC RfD LaA LaB LaC LaD LaE
open BitsC PteSpec
set_option maxRecDepth 10000
set_option maxHeartbeats 1000000
def pv (p : Pte) : Value := .agg #[.bool p.v, .bool p.r, .bool p.w, .bool p.x, .bool p.u, .bool p.g, .bool p.a, .bool p.d, .int .u64 p.rsw, .int .u64 p.ppn, .int .u64 p.high]
theorem zi6 (q : Pte) : Ok 116 [.ag q.ce] (.m (ib (zbr q))) :=
  zbh #[pv q] (.bool (zbr q)) fun W _ => (PteR.zkf q.v q.r q.w q.x q.u q.g q.a q.d q.rsw q.ppn q.high W).mono fun e w' h => h
theorem zry (q : Pte) : Ok 117 [.ag q.ce] (.m (.ag [cb q.r, cb q.w, cb q.x, cb q.u])) :=
  zbh #[pv q] (.agg #[.bool q.r, .bool q.w, .bool q.x, .bool q.u]) fun W _ => (PteR.zp7 q.v q.r q.w q.x q.u q.g q.a q.d q.rsw q.ppn q.high W).mono fun e w' h => h
theorem zrz (n : Int) (p : Pm) (g : Bool) : Ok 100 [iu n, .ag p.ce, ib g] (.m (.ag (mkP n p g).ce)) :=
  zbh #[.int .u64 n, .agg #[.bool p.r, .bool p.w, .bool p.x, .bool p.u], .bool g] (pv (mkP n p g)) fun W _ => (PteR.zp8 n p.r p.w p.x p.u g W).mono fun e w' h => h
theorem zqg (q : Pte) (h : q.U) (hm : zf7 q = true) : Ok 149 [.ag q.ce] (.m (iu (PteC.zcc q))) := by
  rw [show PteC.zcc q = word q from if_pos hm]
  exact zbh #[pv q] (.int .u64 (word q)) fun W _ => (PteR.zs6 q.v q.r q.w q.x q.u q.g q.a q.d q.rsw q.ppn q.high W h.1 h.2.1 h.2.2 hm).mono fun e w' h => h
theorem zmz (l : Int) (h0 : 0 ≤ l) (h2 : l ≤ 2) : Ok 97 [ii l] (.m (iu (VaSpec.sz l))) :=
  zbh #[.int .i64 l] (.int .u64 (VaSpec.sz l)) fun W _ => (VaR.zhd l W h0 h2).mono fun e w' ⟨he, hq⟩ => ⟨he, Q.below hq⟩
theorem z03 (a : Int) (ha : U a) : Ok 161 [iu a] (.m (iu (num a))) :=
  zbh #[.int .u64 a] (.int .u64 (num a)) fun W _ => (VaR.zs8 a W ha.1 ha.2).mono fun e w' ⟨he, hq⟩ => ⟨he, Q.below hq⟩
theorem z27 (a : Int) (ha : U a) : Ok 160 [iu a] (.m (iu (ofv a))) :=
  zbh #[.int .u64 a] (.int .u64 (ofv a)) fun W _ => (VaR.zvz a W ha.1 ha.2).mono fun e w' h => h
theorem zxz (p : Pm) : Ok 98 [.ag p.ce] (.m (ib (zj4 p))) := by
  obtain ⟨r, w, x, u⟩ := p
  cases r <;> cases w <;> cases x
  all_goals
    refine zaf 18 Tryz.func98 rfl rfl rfl rfl ?_ GG.to
    intro W A hG
    repeat (first | (refine zal rfl ?_; first | refine gdr (zaw rfl) ?_ | refine gdr (zaa (.inl rfl) rfl) ?_ | refine gnk 1 rfl (za2 tb rfl rfl rfl rfl rfl) ?_ | refine gnx 1 rfl (zbc tb rfl rfl rfl) rfl ?_ | refine gdr (zaa (.inr rfl) rfl) ?_ | refine gdr (zaj rfl rfl rfl) ?_ | refine gdr (zag rfl rfl rfl rfl rfl rfl) ?_ | refine gdr (zas rfl rfl rfl) ?_) | (refine hK _ ?_; clear hK K) | refine zad rfl ?_ | exact zap (show za8 _ _ _ = some _ by kernel_rfl) | refine zai rfl rfl ?_ | refine zah rfl rfl ?_ | refine zao ?_ | refine zac (fun K hK => ?_))
theorem zih (sz : Int) (m : List (Int × Int)) (f i : Int) (hf : 0 ≤ f ∧ f < 17592186044416) (hi : 0 ≤ i ∧ i < 512) (hs : Srt m) (hu : Uw m) (hl : m.length ≤ 1000000) : Ok 114 [zbm sz m, iu f, ii i] (.m (.ag (atM sz m f i).ce)) := by
  have h1 := zxs sz m (4096 * f + 8 * i) ⟨by omega, by omega⟩ hs hl
  have h2 := z0y (zcj sz m (4096 * f + 8 * i)) (zg8 hu sz _)
  rw [show atM sz m f i = zbb (zcj sz m (4096 * f + 8 * i)) by unfold atM; rw [show f * 4096 + i * 8 = 4096 * f + 8 * i by omega]]
  refine zaf 16 Tryz.func114 rfl rfl rfl rfl ?_ GG.to
  intro W A hG
  repeat (first | (refine zal rfl ?_; first | refine gdr (zaa (.inl rfl) rfl) ?_ | refine gnk 1 rfl (za2 tb rfl rfl rfl rfl rfl) ?_ | refine gdr (gar rfl rfl rfl rfl) ?_ | refine gdr (gcv rfl rfl rfl rfl rfl) ?_ | refine gdr (zag rfl rfl rfl rfl rfl rfl) ?_ | refine gdr (zae rfl rfl rfl rfl rfl) ?_ | refine gnk 1 rfl (zbe rfl rfl rfl rfl rfl rfl rfl) ?_ | refine gdr (zab rfl rfl rfl (h1) (by kernel_rfl)) ?_ | refine gdr (zab rfl rfl rfl (h2) (by kernel_rfl)) ?_) | (refine hK _ ?_; clear hK K) | refine zad rfl ?_ | exact zap (show za8 _ _ _ = some _ by kernel_rfl) | refine zac (fun K hK => ?_))
theorem zgu (sz : Int) (xs : List (Int × Int)) (t l : Int) (q : Pte) (addr : Int) (p : Pte) (ha : U addr) (hp : p.U) (hm : zf7 p = true) (l0 : 0 ≤ l) (l2 : l ≤ 2) (ht : 0 ≤ t ∧ t < 1099511627776) (hs : Srt xs) (hl : xs.length ≤ 1000000) :
    Ok 95 [zbm sz xs, .ag (zbi t l q), iu addr, .ag p.ce] (.m (zbm sz (zcy xs (t * 512 + idx addr l) (PteC.zcc p)))) := by
  have hi := idx_bd addr l
  have h1 := zif addr l ha l0 l2
  have h2 := zqg p hp hm
  have h3 := zke sz xs (512 * t + idx addr l) (PteC.zcc p) hs hl
  rw [show t * 512 + idx addr l = 512 * t + idx addr l by omega]
  refine zaf 22 Tryz.func95 rfl rfl rfl rfl ?_ GG.to
  intro W A hG
  repeat (first | (refine zal rfl ?_; first | refine gdr (zaa (.inl rfl) rfl) ?_ | refine gnk 1 rfl (za2 tb rfl rfl rfl rfl rfl) ?_ | refine gnx 1 rfl (zbc tb rfl rfl rfl) rfl ?_ | refine gdr (gar rfl rfl rfl rfl) ?_ | refine gdr (gcv rfl rfl rfl rfl rfl) ?_ | refine gdr (zag rfl rfl rfl rfl rfl rfl) ?_ | refine gdr (zae rfl rfl rfl rfl rfl) ?_ | refine gnk 1 rfl (zbe rfl rfl rfl rfl rfl rfl rfl) ?_ | refine gdr (zab rfl rfl rfl (h1) (by kernel_rfl)) ?_ | refine gdr (zab rfl rfl rfl (h2) (by kernel_rfl)) ?_ | refine gdr (zab rfl rfl rfl (h3) (by kernel_rfl)) ?_) | (refine hK _ ?_; clear hK K) | refine zad rfl ?_ | refine za4 (by kernel_rfl) (by kernel_rfl) rfl ?_ | exact zap (show za8 _ _ _ = some _ by kernel_rfl) | refine zac (fun K hK => ?_))
theorem zgi (sz : Int) (xs : List (Int × Int)) (addr zaz : Int) (ha : U addr) (hw : 0 ≤ zaz) (hs : Srt xs) (hu : Uw xs) (hn : xs.length ≤ 1000000) : ∀ (l : Nat) (t : Int), l ≤ 2 → (0 ≤ t ∧ t < 17592186044416) →
    Ok 43 [zbm sz xs, iu t, ii l, iu addr, ii zaz] (.m (.ag (zga sz xs addr (za3 sz xs addr zaz l t))))
  | 0, t, hl, ht => by
    have hi := idx_bd addr ((0 : Nat) : Int)
    have h1 := zif addr ((0 : Nat) : Int) ha (by omega) (by omega)
    have h2 := zih sz xs t (idx addr ((0 : Nat) : Int)) ht hi hs hu hn
    rw [show zga sz xs addr (za3 sz xs addr zaz 0 t) = zbi t ((0 : Nat) : Int) (atM sz xs t (idx addr ((0 : Nat) : Int))) from rfl]
    generalize atM sz xs t (idx addr ((0 : Nat) : Int)) = q at *
    generalize idx addr ((0 : Nat) : Int) = ix at *
    refine zaf 38 Tryz.func43 rfl rfl rfl rfl ?_ GG.to
    intro W A hG
    repeat (first | (refine zal rfl ?_; first | refine gdr (zaw rfl) ?_ | refine gdr (zaa (.inl rfl) rfl) ?_ | refine gnk 1 rfl (za2 tb rfl rfl rfl rfl rfl) ?_ | refine gdr (zaj rfl rfl rfl) ?_ | refine gdr (za6 rfl rfl rfl rfl) ?_ | refine gdr (zag rfl rfl rfl rfl rfl rfl) ?_ | refine gdr (zae rfl rfl rfl rfl rfl) ?_ | refine gnk 1 rfl (zbe rfl rfl rfl rfl rfl rfl rfl) ?_ | refine gdr (zaq rfl rfl rfl rfl) ?_ | refine gdr (zab rfl rfl rfl (h1) (by kernel_rfl)) ?_ | refine gdr (zab rfl rfl rfl (h2) (by kernel_rfl)) ?_) | (refine hK _ ?_; clear hK K) | refine zad rfl ?_ | refine za4 (by kernel_rfl) (by kernel_rfl) rfl ?_ | exact zap (show za8 _ _ _ = some _ by kernel_rfl) | refine zah rfl rfl ?_ | refine zao ?_ | refine zac (fun K hK => ?_))
  | l + 1, t, hl, ht => by
    have hi := idx_bd addr ((l + 1 : Nat) : Int)
    have h1 := zif addr ((l + 1 : Nat) : Int) ha (by omega) (by omega)
    have h2 := zih sz xs t (idx addr ((l + 1 : Nat) : Int)) ht hi hs hu hn
    have hA := zgw hu sz t (idx addr ((l + 1 : Nat) : Int))
    have hp := zdo (xs := xs) sz t (idx addr ((l + 1 : Nat) : Int))
    have h3 := zoi _ hA ((l + 1 : Nat) : Int) (by omega) (by omega)
    have IH := zgi sz xs addr zaz ha hw hs hu hn l _ (by omega) hp
    by_cases hlt : zaz < ((l + 1 : Nat) : Int)
    · cases hlk : zbq (atM sz xs t (idx addr ((l + 1 : Nat) : Int))) ((l + 1 : Nat) : Int) with
      | true =>
        rw [zcw hlt hlk]
        rw [hlk] at h3
        generalize za3 sz xs addr zaz l (atM sz xs t (idx addr ((l + 1 : Nat) : Int))).ppn = rr at *
        generalize atM sz xs t (idx addr ((l + 1 : Nat) : Int)) = q at *
        generalize idx addr ((l + 1 : Nat) : Int) = ix at *
        have IH : Ok 43 [zbm sz xs, iu q.ppn, ii (((l + 1 : Nat) : Int) - 1), iu addr, ii zaz] (.m (.ag (zga sz xs addr rr))) := by
          rw [show (((l + 1 : Nat) : Int) - 1) = (l : Int) by omega]; exact IH
        refine zaf 38 Tryz.func43 rfl rfl rfl rfl ?_ GG.to
        intro W A hG
        repeat (first | (refine zal rfl ?_; first | refine gdr (zaa (.inl rfl) rfl) ?_ | refine gnk 1 rfl (za2 tb rfl rfl rfl rfl rfl) ?_ | refine gnx 1 rfl (zbc tb rfl rfl rfl) rfl ?_ | refine gdr (zaj rfl rfl rfl) ?_ | refine gdr (za6 rfl rfl rfl rfl) ?_ | refine gdr (gar rfl rfl rfl rfl) ?_ | refine gdr (zag rfl rfl rfl rfl rfl rfl) ?_ | refine gdr (zae rfl rfl rfl rfl rfl) ?_ | refine gnk 1 rfl (zbe rfl rfl rfl rfl rfl rfl rfl) ?_ | refine gdr (zab rfl rfl rfl (h1) (by kernel_rfl)) ?_ | refine gdr (zab rfl rfl rfl (h2) (by kernel_rfl)) ?_ | refine gdr (zab rfl rfl rfl (h3) (by kernel_rfl)) ?_ | refine gdr (zab rfl rfl rfl (IH) (by kernel_rfl)) ?_) | (refine hK _ ?_; clear hK K) | refine zad rfl ?_ | refine za4 (by kernel_rfl) (by kernel_rfl) rfl ?_ | exact zap (show za8 _ _ _ = some _ by kernel_rfl) | refine zai rfl rfl ?_ | refine zac (fun K hK => ?_))
      | false =>
        rw [zbz (fun _ => hlk) hw]
        rw [hlk] at h3
        rw [show zga sz xs addr (t, ((l + 1 : Nat) : Int)) = zbi t ((l + 1 : Nat) : Int) (atM sz xs t (idx addr ((l + 1 : Nat) : Int))) from rfl]
        clear IH
        generalize atM sz xs t (idx addr ((l + 1 : Nat) : Int)) = q at *
        generalize idx addr ((l + 1 : Nat) : Int) = ix at *
        refine zaf 38 Tryz.func43 rfl rfl rfl rfl ?_ GG.to
        intro W A hG
        repeat (first | (refine zal rfl ?_; first | refine gdr (zaa (.inl rfl) rfl) ?_ | refine gnk 1 rfl (za2 tb rfl rfl rfl rfl rfl) ?_ | refine gdr (zaj rfl rfl rfl) ?_ | refine gdr (za6 rfl rfl rfl rfl) ?_ | refine gdr (zag rfl rfl rfl rfl rfl rfl) ?_ | refine gdr (zae rfl rfl rfl rfl rfl) ?_ | refine gnk 1 rfl (zbe rfl rfl rfl rfl rfl rfl rfl) ?_ | refine gdr (zaq rfl rfl rfl rfl) ?_ | refine gdr (zab rfl rfl rfl (h1) (by kernel_rfl)) ?_ | refine gdr (zab rfl rfl rfl (h2) (by kernel_rfl)) ?_ | refine gdr (zab rfl rfl rfl (h3) (by kernel_rfl)) ?_) | (refine hK _ ?_; clear hK K) | refine zad rfl ?_ | refine za4 (by kernel_rfl) (by kernel_rfl) rfl ?_ | exact zap (show za8 _ _ _ = some _ by kernel_rfl) | refine zah rfl rfl ?_ | refine zao ?_ | refine zac (fun K hK => ?_))
    · rw [zbz (fun hh => absurd hh hlt) hw]
      rw [show zga sz xs addr (t, ((l + 1 : Nat) : Int)) = zbi t ((l + 1 : Nat) : Int) (atM sz xs t (idx addr ((l + 1 : Nat) : Int))) from rfl]
      clear IH
      generalize atM sz xs t (idx addr ((l + 1 : Nat) : Int)) = q at *
      generalize idx addr ((l + 1 : Nat) : Int) = ix at *
      refine zaf 38 Tryz.func43 rfl rfl rfl rfl ?_ GG.to
      intro W A hG
      repeat (first | (refine zal rfl ?_; first | refine gdr (zaw rfl) ?_ | refine gdr (zaa (.inl rfl) rfl) ?_ | refine gnk 1 rfl (za2 tb rfl rfl rfl rfl rfl) ?_ | refine gdr (zaj rfl rfl rfl) ?_ | refine gdr (za6 rfl rfl rfl rfl) ?_ | refine gdr (zag rfl rfl rfl rfl rfl rfl) ?_ | refine gdr (zae rfl rfl rfl rfl rfl) ?_ | refine gnk 1 rfl (zbe rfl rfl rfl rfl rfl rfl rfl) ?_ | refine gdr (zaq rfl rfl rfl rfl) ?_ | refine gdr (zab rfl rfl rfl (h1) (by kernel_rfl)) ?_ | refine gdr (zab rfl rfl rfl (h2) (by kernel_rfl)) ?_) | (refine hK _ ?_; clear hK K) | refine zad rfl ?_ | refine za4 (by kernel_rfl) (by kernel_rfl) rfl ?_ | exact zap (show za8 _ _ _ = some _ by kernel_rfl) | refine zah rfl rfl ?_ | refine zao ?_ | refine zac (fun K hK => ?_))
def z36 (sz cd cp addr zaz : Int) (xs0 : List (Int × Int)) (f0 : Int) (xs : List (Int × Int)) (f t : Int) (l : Nat) : St := St.of [(4, .m (iu addr)), (5, .m (ii zaz)), (6, .m (.c (.p 6 0))), (7, .m (.c (.p 7 0))), (12, .m (.c (.p 12 0))), (13, .m (.c (.p 13 0))), (14, .m (.c (.p 14 0))), (15, .m (ii 0)), (16, .m (.c (.p 16 0))), (17, .m (.c (.p 17 0))), (18, .m (iu t)), (19, .m (ii l))]
  [(6, .live (.box [cu sz, .s xs0.length 2 (fl xs0)])), (7, .live (.box [cu cd, ci cp, cu f0])), (12, .live (.box [cu 0, .v (.slice none 0 0)])), (13, .live (.box [cu 0, ci 0, cu 0])), (14, .live (.box (zbi 0 0 zP))), (16, .live (.box [cu sz, .s xs.length 2 (fl xs)])), (17, .live (.box [cu cd, ci cp, cu f]))]
theorem zy2 (m : Nat) : AV.m (ii (((m + 1 : Nat) : Int) - 1)) = AV.m (ii (m : Int)) := by rw [show ((m + 1 : Nat) : Int) - 1 = (m : Int) by omega]
theorem zqh {n : Int} (h : 0 ≤ n ∧ n < 17592186044416) : zf7 (lnk n) = true := by rw [zdk]; unfold lnk; simp; omega
theorem zx0 (cd cp sz top addr zaz : Int) (lv : Nat) (xs0 : List (Int × Int)) (f0 : Int) (h : GM cd cp sz xs0 f0) (ht : Al cd cp f0 top) (ha : U addr) (hl : lv ≤ 2) (hw : 0 ≤ zaz) (hwl : zaz ≤ (lv : Int)) (hn : xs0.length ≤ 100000)
    (D : List (Int × Int) × Int × Int × Int) (hD : D = dnN sz cd addr zaz lv xs0 f0 top) :
    Ok 99 [zbm sz xs0, .ag [cu cd, ci cp, cu f0], iu top, ii lv, iu addr, ii zaz]
      (.tu (if D.2.2.2 = 0 then [zbm sz D.1, .ag [cu cd, ci cp, cu D.2.1], .ag (zga sz D.1 addr (D.2.2.1, zaz)), ii 0] else [zbm sz xs0, .ag [cu cd, ci cp, cu f0], .ag (zbi 0 0 zP), ii D.2.2.2])) := by
  have hcd := h.bd
  have hcp := h.bp
  obtain ⟨R, hR⟩ : ∃ R, R = (if D.2.2.2 = 0 then [zbm sz D.1, .ag [cu cd, ci cp, cu D.2.1], .ag (zga sz D.1 addr (D.2.2.1, zaz)), ii 0] else [zbm sz xs0, .ag [cu cd, ci cp, cu f0], .ag (zbi 0 0 zP), ii D.2.2.2]) := ⟨_, rfl⟩
  rw [← hR]
  have hcl : (zc8 (.tu R) && [zbm sz xs0, .ag [cu cd, ci cp, cu f0], iu top, ii lv, iu addr, ii zaz].all zcu) = true := by
    rw [hR]; split <;> rfl
  refine zaf 91 Tryz.func99 rfl hcl rfl rfl ?_ GG.to
  intro W A hG
  repeat (first | (refine zal rfl ?_; first | refine gdr (zaa (.inl rfl) rfl) ?_ | refine gnk 1 rfl (za2 tb rfl rfl rfl rfl rfl) ?_ | refine gdr (zaa (.inr rfl) rfl) ?_ | refine gdr (zag rfl rfl rfl rfl rfl rfl) ?_ | refine gdr (zae rfl rfl rfl rfl rfl) ?_ | refine gnk 1 rfl (zbe rfl rfl rfl rfl rfl rfl rfl) ?_) | (refine hK _ ?_; clear hK K) | refine zad rfl ?_ | refine zam ?_ | refine zac (fun K hK => ?_))
  refine za9 (α := List (Int × Int) × Int × Nat × Int) (fun q => GM cd cp sz q.1 q.2.1 ∧ q.2.2.1 ≤ 2 ∧ zaz ≤ (q.2.2.1 : Int) ∧ Al cd cp q.2.1 q.2.2.2 ∧ q.1.length + q.2.2.1 ≤ 100002 ∧ dnN sz cd addr zaz q.2.2.1 q.1 q.2.1 q.2.2.2 = D)
    (fun q => z36 sz cd cp addr zaz xs0 f0 q.1 q.2.1 q.2.2.2 q.2.2.1) (fun q => q.2.2.1) (xs0, f0, lv, top) ⟨h, hl, hwl, ht, by show xs0.length + lv ≤ _; omega, hD.symm⟩ (zar _ _ ⟨by kernel_rfl, by kernel_rfl, by kernel_rfl, by kernel_rfl, by kernel_rfl, by kernel_rfl, by kernel_rfl, by kernel_rfl, by kernel_rfl, by kernel_rfl, by kernel_rfl, by kernel_rfl, trivial⟩ ⟨by kernel_rfl, by kernel_rfl, by kernel_rfl, by kernel_rfl, by kernel_rfl, by kernel_rfl, by kernel_rfl, trivial⟩ (by kernel_rfl)) ?_
  rintro ⟨xs, f, l, t⟩ ⟨x1, x2, x3, x4, x5, x6⟩
  have g1 : GM cd cp sz xs f := x1
  have g2 : l ≤ 2 := x2
  have g3 : zaz ≤ (l : Int) := x3
  have g4 : Al cd cp f t := x4
  have g5 : xs.length + l ≤ 100002 := x5
  have g6 : dnN sz cd addr zaz l xs f t = D := x6
  show Aw _ _ _ _ (z36 sz cd cp addr zaz xs0 f0 xs f t l)
  unfold z36
  have ub := g1.u
  have bt := g4.1
  by_cases c1 : (l : Int) = zaz
  · have e : D = (xs, f, t, 0) := by
      rw [← g6]
      cases l with
      | zero => rfl
      | succ m => unfold dnN; rw [if_pos (by omega)]
    subst e
    have hR : R = [zbm sz xs, .ag [cu cd, ci cp, cu f], .ag (zbi t zaz (atM sz xs t (idx addr zaz))), ii 0] := hR
    have h1 := zif addr zaz ha (by omega) (by omega)
    have h2 := zih sz xs t (idx addr zaz) ⟨by omega, by omega⟩ (idx_bd addr zaz) g1.s ub (by omega)
    generalize atM sz xs t (idx addr zaz) = q at *
    generalize idx addr zaz = ix at *
    subst hR
    repeat (first | (refine zal rfl ?_; first | refine gdr (zaa (.inl rfl) rfl) ?_ | refine gnk 1 rfl (za2 tb rfl rfl rfl rfl rfl) ?_ | refine gdr (zaa (.inr rfl) rfl) ?_ | refine gdr (za6 rfl rfl rfl rfl) ?_ | refine gnk 1 rfl (zbe rfl rfl rfl rfl rfl rfl rfl) ?_ | refine gdr (zaq rfl rfl rfl rfl) ?_ | refine gdr (zab rfl rfl rfl (h1) (by kernel_rfl)) ?_ | refine gdr (zab rfl rfl rfl (h2) (by kernel_rfl)) ?_) | (refine hK _ ?_; clear hK K) | (rename_i K1 hK1; refine hK1 _ ?_; clear hK hK1; clear K) | refine zad rfl ?_ | refine za4 (by kernel_rfl) (by kernel_rfl) rfl ?_ | exact zap (show za8 _ _ _ = some _ by kernel_rfl) | refine zah rfl rfl ?_ | refine zba ?_ | refine zac (fun K hK => ?_))
  · obtain ⟨m, rfl⟩ : ∃ m : Nat, l = m + 1 := ⟨l - 1, by omega⟩
    have hi := idx_bd addr ((m + 1 : Nat) : Int)
    have h1 := zif addr ((m + 1 : Nat) : Int) ha (by omega) (by omega)
    have h2 := zih sz xs t (idx addr ((m + 1 : Nat) : Int)) ⟨by omega, by omega⟩ hi g1.s ub (by omega)
    have h3 := zi6 (atM sz xs t (idx addr ((m + 1 : Nat) : Int)))
    have hk := EOk.kinds (g1.at t (idx addr ((m + 1 : Nat) : Int))) (l := ((m + 1 : Nat) : Int)) (by omega)
    unfold dnN at g6
    rw [if_neg (by omega)] at g6
    cases hlf : zbr (atM sz xs t (idx addr ((m + 1 : Nat) : Int))) with
    | true =>
      rw [hlf, if_pos rfl] at g6
      rw [hlf] at h3
      subst g6
      have hR : R = [zbm sz xs0, .ag [cu cd, ci cp, cu f0], .ag (zbi 0 0 zP), ii 6] := hR
      subst hR
      generalize atM sz xs t (idx addr ((m + 1 : Nat) : Int)) = q at *
      generalize idx addr ((m + 1 : Nat) : Int) = ix at *
      repeat (first | (refine zal rfl ?_; first | refine gdr (zaa (.inl rfl) rfl) ?_ | refine gnk 1 rfl (za2 tb rfl rfl rfl rfl rfl) ?_ | refine gnx 1 rfl (zbc tb rfl rfl rfl) rfl ?_ | refine gdr (zaa (.inr rfl) rfl) ?_ | refine gdr (za6 rfl rfl rfl rfl) ?_ | refine gdr (zae rfl rfl rfl rfl rfl) ?_ | refine gnk 1 rfl (zbe rfl rfl rfl rfl rfl rfl rfl) ?_ | refine gdr (zaq rfl rfl rfl rfl) ?_ | refine gdr (zab rfl rfl rfl (h1) (by kernel_rfl)) ?_ | refine gdr (zab rfl rfl rfl (h2) (by kernel_rfl)) ?_ | refine gdr (zab rfl rfl rfl (h3) (by kernel_rfl)) ?_) | (refine hK _ ?_; clear hK K) | refine zad rfl ?_ | refine za4 (by kernel_rfl) (by kernel_rfl) rfl ?_ | exact zap (show za8 _ _ _ = some _ by kernel_rfl) | refine zai rfl rfl ?_ | refine zam ?_ | refine zao ?_ | refine zac (fun K hK => ?_))
    | false =>
      rw [hlf, if_neg (by simp)] at g6
      rw [hlf] at h3
      cases hv : (atM sz xs t (idx addr ((m + 1 : Nat) : Int))).v with
      | true =>
        rw [hv, if_pos rfl] at g6
        have ha5 : Al cd cp f (atM sz xs t (idx addr ((m + 1 : Nat) : Int))).ppn := by
          rcases hk with ⟨k1, _⟩ | ⟨_, k2, _⟩ | ⟨_, _, _, _, k5⟩
          · rw [k1] at hv; cases hv
          · rw [k2] at hlf; cases hlf
          · exact k5
        clear hk
        generalize atM sz xs t (idx addr ((m + 1 : Nat) : Int)) = q at *
        generalize idx addr ((m + 1 : Nat) : Int) = ix at *
        obtain ⟨q0, q1, q2, q3, q4, q5, q6, q7, q8, q9, q10⟩ := q
        have hv : q0 = true := hv
        subst hv
        repeat (first | (refine zal rfl ?_; first | refine gdr (zaa (.inl rfl) rfl) ?_ | refine gnk 1 rfl (za2 tb rfl rfl rfl rfl rfl) ?_ | refine gnx 1 rfl (zbc tb rfl rfl rfl) rfl ?_ | refine gdr (zaa (.inr rfl) rfl) ?_ | refine gdr (za6 rfl rfl rfl rfl) ?_ | refine gdr (gar rfl rfl rfl rfl) ?_ | refine gdr (zae rfl rfl rfl rfl rfl) ?_ | refine gnk 1 rfl (zbe rfl rfl rfl rfl rfl rfl rfl) ?_ | refine gdr (zas rfl rfl rfl) ?_ | refine gdr (zaq rfl rfl rfl rfl) ?_ | refine gdr (zab rfl rfl rfl (h1) (by kernel_rfl)) ?_ | refine gdr (zab rfl rfl rfl (h2) (by kernel_rfl)) ?_ | refine gdr (zab rfl rfl rfl (h3) (by kernel_rfl)) ?_) | (refine hK _ ?_; clear hK K) | refine zad rfl ?_ | refine za4 (by kernel_rfl) (by kernel_rfl) rfl ?_ | refine zai rfl rfl ?_ | refine zah rfl rfl ?_ | refine zam ?_ | refine zao ?_ | refine zac (fun K hK => ?_))
        exact ⟨(xs, f, m, q9), ⟨g1, by show m ≤ 2; omega, by show zaz ≤ (m : Int); omega, ha5, by show xs.length + m ≤ 100002; omega, g6⟩, by show m < m + 1; omega, zar _ _ ⟨by kernel_rfl, by kernel_rfl, by kernel_rfl, by kernel_rfl, by kernel_rfl, by kernel_rfl, by kernel_rfl, by kernel_rfl, by kernel_rfl, by kernel_rfl, by kernel_rfl, zy2 m, trivial⟩ ⟨by kernel_rfl, by kernel_rfl, by kernel_rfl, by kernel_rfl, by kernel_rfl, by kernel_rfl, by kernel_rfl, trivial⟩ (by kernel_rfl)⟩
      | false =>
        rw [hv, if_neg (by simp)] at g6
        by_cases c4 : f = 0
        · rw [if_pos c4] at g6
          subst g6
          have hR : R = [zbm sz xs0, .ag [cu cd, ci cp, cu f0], .ag (zbi 0 0 zP), ii 8] := hR
          subst hR
          subst c4
          have hf := zkg sz xs cd cp (by omega)
          clear hk
          generalize atM sz xs t (idx addr ((m + 1 : Nat) : Int)) = q at *
          generalize idx addr ((m + 1 : Nat) : Int) = ix at *
          obtain ⟨q0, q1, q2, q3, q4, q5, q6, q7, q8, q9, q10⟩ := q
          have hv : q0 = false := hv
          subst hv
          repeat (first | (refine zal rfl ?_; first | refine gdr (zaa (.inl rfl) rfl) ?_ | refine gnk 1 rfl (za2 tb rfl rfl rfl rfl rfl) ?_ | refine gnx 1 rfl (zbc tb rfl rfl rfl) rfl ?_ | refine gdr (zaa (.inr rfl) rfl) ?_ | refine gdr (zak rfl rfl rfl rfl) ?_ | refine gdr (za6 rfl rfl rfl rfl) ?_ | refine gdr (zae rfl rfl rfl rfl rfl) ?_ | refine gnk 1 rfl (zbe rfl rfl rfl rfl rfl rfl rfl) ?_ | refine gdr (zas rfl rfl rfl) ?_ | refine gdr (zaq rfl rfl rfl rfl) ?_ | refine gdr (zab rfl rfl rfl (h1) (by kernel_rfl)) ?_ | refine gdr (zab rfl rfl rfl (h2) (by kernel_rfl)) ?_ | refine gdr (zab rfl rfl rfl (h3) (by kernel_rfl)) ?_ | refine gdr (zab rfl rfl rfl (hf) (by kernel_rfl)) ?_) | (refine hK _ ?_; clear hK K) | refine zad rfl ?_ | refine za4 (by kernel_rfl) (by kernel_rfl) rfl ?_ | exact zap (show za8 _ _ _ = some _ by kernel_rfl) | refine zai rfl rfl ?_ | refine zah rfl rfl ?_ | refine zam ?_ | refine zao ?_ | refine zac (fun K hK => ?_))
        · rw [if_neg c4] at g6
          have hf := zgh sz xs cd cp f (by omega) (by omega) g1.bf c4 g1.s (by omega) (fun c hc => by have := (ub c hc).1; have := (g1.c c hc).1.1; omega)
          rw [g1.wipe c4] at hf
          obtain ⟨a1, a2⟩ := g1.al c4
          have hfr : 0 ≤ cd + tzI f ∧ cd + tzI f < 17592186044416 := by omega
          have hwt := zgu sz xs t ((m + 1 : Nat) : Int) (lnk (cd + tzI f)) addr (lnk (cd + tzI f)) ha (zgx hfr) (zqh hfr) (by omega) (by omega) (by omega) g1.s (by omega)
          rw [← g1.with g4 hi (zgx hfr)] at hwt
          have hgm := g1.hang c4 g4 hi
          have hln2 := zgs sz xs t (idx addr ((m + 1 : Nat) : Int)) (lnk (cd + tzI f))
          clear hk
          generalize zbv sz xs t (idx addr ((m + 1 : Nat) : Int)) (lnk (cd + tzI f)) = xs2 at *
          generalize atM sz xs t (idx addr ((m + 1 : Nat) : Int)) = q at *
          generalize idx addr ((m + 1 : Nat) : Int) = ix at *
          obtain ⟨q0, q1, q2, q3, q4, q5, q6, q7, q8, q9, q10⟩ := q
          have hv : q0 = false := hv
          subst hv
          repeat (first | (refine zal rfl ?_; first | refine gdr (zaa (.inl rfl) rfl) ?_ | refine gnk 1 rfl (za2 tb rfl rfl rfl rfl rfl) ?_ | refine gnx 1 rfl (zbc tb rfl rfl rfl) rfl ?_ | refine gdr (zaa (.inr rfl) rfl) ?_ | refine gdr (zak rfl rfl rfl rfl) ?_ | refine gdr (za6 rfl rfl rfl rfl) ?_ | refine gdr (gar rfl rfl rfl rfl) ?_ | refine gdr (zae rfl rfl rfl rfl rfl) ?_ | refine gnk 1 rfl (zbe rfl rfl rfl rfl rfl rfl rfl) ?_ | refine gdr (zas rfl rfl rfl) ?_ | refine gdr (zaq rfl rfl rfl rfl) ?_ | refine gdr (zab rfl rfl rfl (h1) (by kernel_rfl)) ?_ | refine gdr (zab rfl rfl rfl (h2) (by kernel_rfl)) ?_ | refine gdr (zab rfl rfl rfl (h3) (by kernel_rfl)) ?_ | refine gdr (zab rfl rfl rfl (hf) (by kernel_rfl)) ?_ | refine gdr (zab rfl rfl rfl (hwt) (by kernel_rfl)) ?_) | (refine hK _ ?_; clear hK K) | refine zad rfl ?_ | refine za4 (by kernel_rfl) (by kernel_rfl) rfl ?_ | refine zai rfl rfl ?_ | refine zah rfl rfl ?_ | refine zam ?_ | refine zao ?_ | refine zac (fun K hK => ?_))
          exact ⟨(xs2, zb9 f (tzI f) 1 0, m, cd + tzI f), ⟨hgm, by show m ≤ 2; omega, by show zaz ≤ (m : Int); omega, a1, by show xs2.length + m ≤ 100002; omega, g6⟩, by show m < m + 1; omega, zar _ _ ⟨by kernel_rfl, by kernel_rfl, by kernel_rfl, by kernel_rfl, by kernel_rfl, by kernel_rfl, by kernel_rfl, by kernel_rfl, by kernel_rfl, by kernel_rfl, by kernel_rfl, zy2 m, trivial⟩ ⟨by kernel_rfl, by kernel_rfl, by kernel_rfl, by kernel_rfl, by kernel_rfl, by kernel_rfl, by kernel_rfl, trivial⟩ (by kernel_rfl)⟩
end Go.Proofs.YtmkjfeamgknpfaaGreatDoor.RlA
namespace Go.Proofs.YtmkjfeamgknpfaaGreatDoor.RlB
open Go.RowKit Bv VaSpec Base MemL RegR Ax MemC PutC MemC3 TzC OkS SpA SpB SpC SpD SpE SpF SpH SpI SpJ SpN SpO RfA RfB RfC RfD LaA LaB LaC LaD LaE RlA
open BitsC PteSpec
set_option maxRecDepth 10000
set_option maxHeartbeats 1000000
def z37 (sz : Int) (xs : List (Int × Int)) (top lv base : Int) (i n : Nat) (vs : List Value) : St := St.of [(1, .m (iu top)), (2, .m (ii lv)), (3, .m (iu base)), (4, .m (.c (.p 4 0))), (8, .m (.c (.v (.slice none 0 0)))), (9, .m (.c (.o 1000))), (10, .m (ii i))] [(4, .live (.box [cu sz, .s xs.length 2 (fl xs)])), (1000, .live (.row 94 8 n vs))]
theorem zm0 {α : Type} (E : Nat → List α) (i : Nat) : (List.range (i + 1)).flatMap E = (List.range i).flatMap E ++ E i := by
  rw [List.range_succ, List.flatMap_append]; simp
theorem zlm (sz : Int) (xs : List (Int × Int)) (top base lv : Int) (rec : Int → Int → List Pg) (ht : 0 ≤ top ∧ top < 17592186044416) (hb : U base) (h0 : 0 ≤ lv) (h2 : lv ≤ 2) (hs : Srt xs) (hu : Uw xs) (hn : xs.length ≤ 1000000) (hrec : ∀ t a, (rec t a).length ≤ 262144)
    (hIH : 1 ≤ lv → ∀ t a, (0 ≤ t ∧ t < 17592186044416) → U a → Ok 118 [zbm sz xs, iu t, ii (lv - 1), iu a] (.m (.c (.s (rec t a).length 8 (flP (rec t a))))))
    (L : List Pg) (hL : L = (List.range 512).flatMap fun (i : Nat) => zg2 rec (atM sz xs top i) lv (adr base i lv)) :
    Ok 118 [zbm sz xs, iu top, ii lv, iu base] (.m (.c (.s L.length 8 (flP L)))) := by
  have hz := zn2 lv h0 h2
  obtain ⟨N, hN⟩ : ∃ N, N = L.length := ⟨_, rfl⟩
  obtain ⟨XS, hXS⟩ : ∃ XS, XS = flP L := ⟨_, rfl⟩
  rw [← hN, ← hXS]
  obtain ⟨E, hE0⟩ : ∃ E : Nat → List Pg, E = fun (i : Nat) => zg2 rec (atM sz xs top i) lv (adr base i lv) := ⟨_, rfl⟩
  rw [← hE0] at hL
  have hEl : ∀ i, (E i).length ≤ 262144 := fun i => by rw [hE0]; exact zu3 hrec _ _ _
  refine zaf 58 Tryz.func118 rfl rfl rfl rfl ?_ GG.to
  intro W A hG
  repeat (first | (refine zal rfl ?_; first | refine gdr (zaa (.inr rfl) rfl) ?_ | refine gdr (zag rfl rfl rfl rfl rfl rfl) ?_) | (refine hK _ ?_; clear hK K) | refine zad rfl ?_ | refine zam ?_ | refine zac (fun K hK => ?_))
  refine za9 (α := Nat × Nat × List Value) (fun q => q.1 ≤ 512 ∧ q.2.1 = ((List.range q.1).flatMap E).length ∧ q.2.2 = flP ((List.range q.1).flatMap E) ∧ q.2.1 ≤ q.1 * 262144) (fun q => z37 sz xs top lv base q.1 q.2.1 q.2.2) (fun q => 512 - q.1) (0, 0, []) ⟨by show 0 ≤ 512; omega, rfl, rfl, by show 0 ≤ 0 * 262144; omega⟩ (Sub.trans (zd7 9 1000 94 8 rfl rfl) (zar _ _ ⟨by kernel_rfl, by kernel_rfl, by kernel_rfl, by kernel_rfl, by kernel_rfl, by kernel_rfl, by kernel_rfl, trivial⟩ ⟨by kernel_rfl, by kernel_rfl, trivial⟩ (by kernel_rfl))) ?_
  rintro ⟨i, n, vs⟩ ⟨y1, y2, y3, y4⟩
  have g1 : i ≤ 512 := y1
  have g2 : n = ((List.range i).flatMap E).length := y2
  have g3 : vs = flP ((List.range i).flatMap E) := y3
  have g4 : n ≤ i * 262144 := y4
  show Aw _ _ _ _ (z37 sz xs top lv base i n vs)
  unfold z37
  by_cases hlt : i < 512
  · have h1 := zih sz xs top i ht ⟨by omega, by omega⟩ hs hu hn
    have h3 := zmz lv h0 h2
    have hU := zgw hu sz top (i : Int)
    have hp := zdo (xs := xs) sz top (i : Int)
    have hA := zz1 base i lv
    have hNu := z2r hA
    have hEi : E i = zg2 rec (atM sz xs top i) lv (adr base i lv) := by rw [hE0]
    have hn1 : n + (E i).length = ((List.range (i + 1)).flatMap E).length := by rw [zm0, List.length_append, g2]
    have hv1 : vs ++ flP (E i) = flP ((List.range (i + 1)).flatMap E) := by rw [zm0, zu2, g3]
    have hn2 : n + (E i).length ≤ (i + 1) * 262144 := by have := hEl i; rw [Nat.succ_mul]; omega
    have h4 := zvp _ hU lv h0 h2
    have h5 := zi6 (atM sz xs top (i : Int))
    have h6 := zry (atM sz xs top (i : Int))
    have h7 := z03 _ hA
    have h8 := z27 _ hNu
    clear g2 g3 y2 y3 hL hE0 hEl
    generalize atM sz xs top (i : Int) = q at *
    cases hbad : zej q lv with
    | true =>
      have e : E i = [] := by rw [hEi]; unfold zg2; rw [hbad]; rfl
      rw [hbad] at h4
      rw [e, show flP [] = [] from rfl, List.append_nil] at hv1
      rw [e, List.length_nil, Nat.add_zero] at hn1 hn2
      repeat (first | (refine zal rfl ?_; first | refine gdr (zaa (.inl rfl) rfl) ?_ | refine gnk 1 rfl (za2 tb rfl rfl rfl rfl rfl) ?_ | refine gdr (zaa (.inr rfl) rfl) ?_ | refine gdr (za6 rfl rfl rfl rfl) ?_ | refine gdr (gar rfl rfl rfl rfl) ?_ | refine gdr (gcv rfl rfl rfl rfl rfl) ?_ | refine gdr (zae rfl rfl rfl rfl rfl) ?_ | refine gnk 1 rfl (zbe rfl rfl rfl rfl rfl rfl rfl) ?_ | refine gdr (zab rfl rfl rfl (h1) (by kernel_rfl)) ?_ | refine gdr (zab rfl rfl rfl (h3) (by kernel_rfl)) ?_ | refine gdr (zab rfl rfl rfl (h4) (by kernel_rfl)) ?_) | (refine hK _ ?_; clear hK K) | (rename_i K1 hK1; refine hK1 _ ?_; clear hK hK1; clear K) | refine zad rfl ?_ | refine zai rfl rfl ?_ | refine zam ?_ | refine zba ?_ | refine zao ?_ | refine zac (fun K hK => ?_))
      exact ⟨(i + 1, n, vs), ⟨by show i + 1 ≤ 512; omega, hn1, hv1, hn2⟩, by show 512 - (i + 1) < 512 - i; omega, zar _ _ ⟨by kernel_rfl, by kernel_rfl, by kernel_rfl, by kernel_rfl, by kernel_rfl, by kernel_rfl, by kernel_rfl, trivial⟩ ⟨by kernel_rfl, by kernel_rfl, trivial⟩ (by kernel_rfl)⟩
    | false =>
      rw [hbad] at h4
      cases hleaf : zbr q with
      | true =>
        rw [hleaf] at h5
        have e : E i = [⟨ofv (num (adr base i lv)), 4096 * q.ppn, lv, q.r, q.w, q.x, q.u, q.d⟩] := by rw [hEi]; unfold zg2 z3y; rw [hbad, hleaf, Int.mul_comm]; rfl
        rw [e, zme] at hv1
        rw [e, List.length_singleton] at hn1 hn2
        repeat (first | (refine zal rfl ?_; first | refine gdr (zaa (.inl rfl) rfl) ?_ | refine gnk 1 rfl (za2 tb rfl rfl rfl rfl rfl) ?_ | refine gnx 1 rfl (zbc tb rfl rfl rfl) rfl ?_ | refine gdr (zaa (.inr rfl) rfl) ?_ | refine gdr (za6 rfl rfl rfl rfl) ?_ | refine gdr (gar rfl rfl rfl rfl) ?_ | refine gdr (gcv rfl rfl rfl rfl rfl) ?_ | refine gdr (zae rfl rfl rfl rfl rfl) ?_ | refine gnk 1 rfl (zbe rfl rfl rfl rfl rfl rfl rfl) ?_ | refine gdr (zaq rfl rfl rfl rfl) ?_ | refine gdr (zax rfl rfl rfl rfl rfl rfl rfl rfl rfl rfl rfl) ?_ | refine gdr (zab rfl rfl rfl (h1) (by kernel_rfl)) ?_ | refine gdr (zab rfl rfl rfl (h3) (by kernel_rfl)) ?_ | refine gdr (zab rfl rfl rfl (h4) (by kernel_rfl)) ?_ | refine gdr (zab rfl rfl rfl (h5) (by kernel_rfl)) ?_ | refine gdr (zab rfl rfl rfl (h6) (by kernel_rfl)) ?_ | refine gdr (zab rfl rfl rfl (h7) (by kernel_rfl)) ?_ | refine gdr (zab rfl rfl rfl (h8) (by kernel_rfl)) ?_) | (refine hK _ ?_; clear hK K) | refine zad rfl ?_ | refine za4 (by kernel_rfl) (by kernel_rfl) rfl ?_ | refine zai rfl rfl ?_ | refine zah rfl rfl ?_ | refine zam ?_ | refine zao ?_ | refine zac (fun K hK => ?_))
        refine zal rfl ?_
        refine zee (zbd rfl rfl rfl rfl rfl rfl rfl rfl rfl rfl rfl rfl rfl (by omega)) (by kernel_rfl) ?_
        repeat (first | (refine zal rfl ?_; first | refine gdr (zaa (.inl rfl) rfl) ?_ | refine gdr (zaa (.inr rfl) rfl) ?_ | refine gdr (gar rfl rfl rfl rfl) ?_) | (refine hK _ ?_; clear hK K) | refine zad rfl ?_)
        exact ⟨(i + 1, n + 1, vs ++ (⟨ofv (num (adr base i lv)), 4096 * q.ppn, lv, q.r, q.w, q.x, q.u, q.d⟩ : Pg).vs), ⟨by show i + 1 ≤ 512; omega, hn1, hv1, hn2⟩, by show 512 - (i + 1) < 512 - i; omega, Sub.trans (zar [(1, .m (iu top)), (2, .m (ii lv)), (3, .m (iu base)), (4, .m (.c (.p 4 0))), (8, .m (.c (.v (.slice none 0 0)))), (9, .m (.c (.o 47))), (10, .m (ii ((i + 1 : Nat) : Int)))] [(4, .live (.box [cu sz, .s xs.length 2 (fl xs)])), (47, .live (.row 94 8 (n + 1) (vs ++ (⟨ofv (num (adr base i lv)), 4096 * q.ppn, lv, q.r, q.w, q.x, q.u, q.d⟩ : Pg).vs)))] ⟨by kernel_rfl, by kernel_rfl, by kernel_rfl, by kernel_rfl, by kernel_rfl, by kernel_rfl, by kernel_rfl, trivial⟩ ⟨by kernel_rfl, by kernel_rfl, trivial⟩ (by kernel_rfl)) (Sub.trans (zcp (b := 47) (b' := 1000) rfl rfl) (zar _ _ ⟨by kernel_rfl, by kernel_rfl, by kernel_rfl, by kernel_rfl, by kernel_rfl, by kernel_rfl, by kernel_rfl, trivial⟩ ⟨by kernel_rfl, by kernel_rfl, trivial⟩ (by kernel_rfl)))⟩
      | false =>
        rw [hleaf] at h5
        have hlv : 1 ≤ lv := by
          rcases (by omega : lv = 0 ∨ 1 ≤ lv) with rfl | h
          · rw [zn3 hbad] at hleaf; cases hleaf
          · exact h
        have e : E i = rec q.ppn (adr base i lv) := by rw [hEi]; unfold zg2; rw [hbad, hleaf]; rfl
        rw [e] at hn1 hn2 hv1
        have hi := hIH hlv q.ppn (adr base i lv) hp hA
        have hl := hrec q.ppn (adr base i lv)
        have ha := zpu (rec q.ppn (adr base i lv))
        generalize rec q.ppn (adr base i lv) = ys at *
        repeat (first | (refine zal rfl ?_; first | refine gdr (zaa (.inl rfl) rfl) ?_ | refine gnk 1 rfl (za2 tb rfl rfl rfl rfl rfl) ?_ | refine gnx 1 rfl (zbc tb rfl rfl rfl) rfl ?_ | refine gdr (zaa (.inr rfl) rfl) ?_ | refine gdr (za6 rfl rfl rfl rfl) ?_ | refine gdr (gar rfl rfl rfl rfl) ?_ | refine gdr (gcv rfl rfl rfl rfl rfl) ?_ | refine gdr (zae rfl rfl rfl rfl rfl) ?_ | refine gnk 1 rfl (zbe rfl rfl rfl rfl rfl rfl rfl) ?_ | refine gdr (zab rfl rfl rfl (h1) (by kernel_rfl)) ?_ | refine gdr (zab rfl rfl rfl (h3) (by kernel_rfl)) ?_ | refine gdr (zab rfl rfl rfl (h4) (by kernel_rfl)) ?_ | refine gdr (zab rfl rfl rfl (h5) (by kernel_rfl)) ?_ | refine gdr (zab rfl rfl rfl (hi) (by kernel_rfl)) ?_ | refine gdr (zbd rfl rfl rfl rfl rfl rfl rfl rfl rfl rfl rfl rfl ha (by omega)) ?_) | (refine hK _ ?_; clear hK K) | refine zad rfl ?_ | refine zai rfl rfl ?_ | refine zah rfl rfl ?_ | refine zam ?_ | refine zao ?_ | refine zac (fun K hK => ?_))
        exact ⟨(i + 1, n + ys.length, vs ++ flP ys), ⟨by show i + 1 ≤ 512; omega, hn1, hv1, hn2⟩, by show 512 - (i + 1) < 512 - i; omega, Sub.trans (zar [(1, .m (iu top)), (2, .m (ii lv)), (3, .m (iu base)), (4, .m (.c (.p 4 0))), (8, .m (.c (.v (.slice none 0 0)))), (9, .m (.c (.o 56))), (10, .m (ii ((i + 1 : Nat) : Int)))] [(4, .live (.box [cu sz, .s xs.length 2 (fl xs)])), (56, .live (.row 94 8 (n + ys.length) (vs ++ flP ys)))] ⟨by kernel_rfl, by kernel_rfl, by kernel_rfl, by kernel_rfl, by kernel_rfl, by kernel_rfl, by kernel_rfl, trivial⟩ ⟨by kernel_rfl, by kernel_rfl, trivial⟩ (by kernel_rfl)) (Sub.trans (zcp (b := 56) (b' := 1000) rfl rfl) (zar _ _ ⟨by kernel_rfl, by kernel_rfl, by kernel_rfl, by kernel_rfl, by kernel_rfl, by kernel_rfl, by kernel_rfl, trivial⟩ ⟨by kernel_rfl, by kernel_rfl, trivial⟩ (by kernel_rfl)))⟩
  · have e : i = 512 := by omega
    subst e
    rw [← hL] at g2 g3
    obtain rfl : N = n := by rw [hN, g2]
    obtain rfl : XS = vs := by rw [hXS, g3]
    repeat (first | (refine zal rfl ?_; first | refine gdr (zaa (.inl rfl) rfl) ?_ | refine gdr (zaa (.inr rfl) rfl) ?_ | refine gdr (za6 rfl rfl rfl rfl) ?_) | (refine hK _ ?_; clear hK K) | (rename_i K1 hK1; refine hK1 _ ?_; clear hK hK1; clear K) | refine zad rfl ?_ | exact zap (show za8 _ _ _ = some _ by kernel_rfl) | refine zah rfl rfl ?_ | refine zba ?_ | refine zac (fun K hK => ?_))
section
variable (sz : Int) (xs : List (Int × Int)) (hs : Srt xs) (hu : Uw xs) (hn : xs.length ≤ 1000000)
include hs hu hn
theorem zr0 (t b : Int) (ht : 0 ≤ t ∧ t < 17592186044416) (hb : U b) : Ok 118 [zbm sz xs, iu t, ii 0, iu b] (.m (.c (.s (zd4 sz xs 0 t b).length 8 (flP (zd4 sz xs 0 t b))))) :=
  zlm sz xs t b 0 (fun _ _ => []) ht hb (by omega) (by omega) hs hu hn (fun _ _ => by simp) (fun h => by omega) _ rfl
theorem zx1 (t b : Int) (ht : 0 ≤ t ∧ t < 17592186044416) (hb : U b) : Ok 118 [zbm sz xs, iu t, ii 1, iu b] (.m (.c (.s (zd4 sz xs 1 t b).length 8 (flP (zd4 sz xs 1 t b))))) :=
  zlm sz xs t b 1 (zd4 sz xs 0) ht hb (by omega) (by omega) hs hu hn (fun t a => Nat.le_trans (zgt sz xs t a) (by omega)) (fun _ t a h1 h2 => zr0 sz xs hs hu hn t a h1 h2) _ rfl
end
theorem zok {l : List Pg} {k : Nat} {p : Pg} (h : l[k]? = some p) : ((flP l).drop (k * 8)).take 8 = p.vs := zf8 Pg.vs 8 (fun _ => rfl) l _ p h
theorem z04 (w : World) (x0 x1 x2 y0 y1 y2 : Int) (r w' x u d r' w'' x' u' d' : Bool) :
    (Op.equalIn 10000 94 (.agg #[.int .u64 x0, .int .u64 x1, .int .i64 x2, .bool r, .bool w', .bool x, .bool u, .bool d]) (.agg #[.int .u64 y0, .int .u64 y1, .int .i64 y2, .bool r', .bool w'', .bool x', .bool u', .bool d'])).run Tryz.prog w = .ok (x0 == y0 && (x1 == y1 && (x2 == y2 && ((r == r' && (w' == w'' && (x == x' && (u == u' && true)))) && (d == d' && true))))) w := by
  refine PoolC4.zdz Tryz.underlying94 (by kernel_rfl) ?_
  refine PoolC4.za7 (by rfl) (by go_simp; rfl) (by go_simp; rfl) (by go_simp) ?_
  refine PoolC4.za7 (by rfl) (by go_simp; rfl) (by go_simp; rfl) (by go_simp) ?_
  refine PoolC4.za7 (by rfl) (by go_simp; rfl) (by go_simp; rfl) (by go_simp) ?_
  refine PoolC4.za7 (a := .agg #[.bool r, .bool w', .bool x, .bool u]) (b := .agg #[.bool r', .bool w'', .bool x', .bool u']) (by rfl) (by go_simp) (by go_simp) ?_ ?_
  · refine PoolC4.zdz Tryz.underlying52 (by kernel_rfl) ?_
    refine PoolC4.za7 (by rfl) (by go_simp; rfl) (by go_simp; rfl) (by go_simp) ?_
    refine PoolC4.za7 (by rfl) (by go_simp; rfl) (by go_simp; rfl) (by go_simp) ?_
    refine PoolC4.za7 (by rfl) (by go_simp; rfl) (by go_simp; rfl) (by go_simp) ?_
    exact PoolC4.za7 (by rfl) (by go_simp; rfl) (by go_simp; rfl) (by go_simp) PoolC4.zdj
  · exact PoolC4.za7 (by rfl) (by go_simp; rfl) (by go_simp; rfl) (by go_simp) PoolC4.zdj
theorem zx2 (l : List Pg) (hl : l.length ≤ 134217728) : Ok 14 [.c (.s l.length 8 (flP l)), .c (.s l.length 8 (flP l))] (.m (ib true)) := by
  refine zaf 26 Tryz.func14 rfl rfl rfl rfl ?_ GG.to
  intro W A hG
  repeat (first | (refine zal rfl ?_; first | refine gdr (zaa (.inl rfl) rfl) ?_ | refine gdr (zaa (.inr rfl) rfl) ?_ | refine gdr (za6 rfl rfl rfl rfl) ?_ | refine gdr (zan rfl rfl rfl rfl) ?_) | (refine hK _ ?_; clear hK K) | refine zad rfl ?_ | refine zah rfl rfl ?_ | refine zam ?_ | refine zao ?_ | refine zac (fun K hK => ?_))
  refine za9 (α := Nat) (fun k => k ≤ l.length) (fun k => St.of [(0, .m (.c (.s l.length 8 (flP l)))), (1, .m (.c (.s l.length 8 (flP l)))), (5, .m (ii k))] []) (fun k => l.length - k) 0 (by omega) (zar _ _ ⟨rfl, rfl, rfl, trivial⟩ trivial rfl) ?_
  intro k hk
  by_cases hlt : k < l.length
  · obtain ⟨f, hf⟩ : ∃ f, l[k]? = some f := ⟨_, List.getElem?_eq_getElem hlt⟩
    have hx := zok hf
    have he : ∀ w, (Op.equalIn 10000 94 (.agg #[.int .u64 f.va, .int .u64 f.pa, .int .i64 f.lev, .bool f.r, .bool f.w, .bool f.x, .bool f.u, .bool f.d]) (.agg #[.int .u64 f.va, .int .u64 f.pa, .int .i64 f.lev, .bool f.r, .bool f.w, .bool f.x, .bool f.u, .bool f.d])).run Tryz.prog w = .ok true w := fun w => by rw [z04]; simp
    repeat (first | (refine zal rfl ?_; first | refine gdr (zaa (.inl rfl) rfl) ?_ | refine gdr (zaa (.inr rfl) rfl) ?_ | refine gdr (za6 rfl rfl rfl rfl) ?_ | refine gdr (gar rfl rfl rfl rfl) ?_ | refine gdr (zan rfl rfl rfl rfl) ?_ | refine gnx 3 rfl (zau tb rfl rfl rfl rfl (by first | kernel_rfl | rfl)) rfl ?_ | refine gnx 4 rfl (zav rfl rfl rfl rfl rfl rfl (by omega) (by omega) _ (by assumption)) rfl ?_ | refine gdr (zeg (us := [.int .u64 f.va, .int .u64 f.pa, .int .i64 f.lev, .bool f.r, .bool f.w, .bool f.x, .bool f.u, .bool f.d]) (vs := [.int .u64 f.va, .int .u64 f.pa, .int .i64 f.lev, .bool f.r, .bool f.w, .bool f.x, .bool f.u, .bool f.d]) he (by kernel_rfl) rfl rfl rfl rfl) ?_) | (refine hK _ ?_; clear hK K) | refine zad rfl ?_ | refine za4 (by kernel_rfl) (by kernel_rfl) rfl ?_ | refine zai rfl rfl ?_ | refine zah rfl rfl ?_ | refine zam ?_ | refine zao ?_ | refine zac (fun K hK => ?_))
    exact ⟨k + 1, by omega, by omega, zar _ _ ⟨rfl, rfl, rfl, trivial⟩ trivial rfl⟩
  · skip
    repeat (first | (refine zal rfl ?_; first | refine gdr (zaa (.inl rfl) rfl) ?_ | refine gdr (zaa (.inr rfl) rfl) ?_ | refine gdr (za6 rfl rfl rfl rfl) ?_ | refine gdr (zan rfl rfl rfl rfl) ?_) | (refine hK _ ?_; clear hK K) | (rename_i K1 hK1; refine hK1 _ ?_; clear hK hK1; clear K) | refine zad rfl ?_ | exact zap (show za8 _ _ _ = some _ by kernel_rfl) | refine zah rfl rfl ?_ | refine zba ?_ | refine zac (fun K hK => ?_))
end Go.Proofs.YtmkjfeamgknpfaaGreatDoor.RlB
namespace Go.Proofs.YtmkjfeamgknpfaaGreatDoor.RlC
open Go.RowKit Bv VaSpec Base MemL RegR Ax MemC PutC MemC3 TzC OkS SpA SpB SpC SpD SpE SpF SpH SpI SpJ SpN SpO RfA RfB RfC RfD LaA LaB LaC LaD LaE LaF LaG RlA RlB
open BitsC PteSpec
set_option maxRecDepth 10000
set_option maxHeartbeats 1000000
theorem z05 {pa l : Int} (h : U pa) (hz : 0 < VaSpec.sz l) : lk0 pa l = if pa % VaSpec.sz l = 0 then 0 else 2 := by
  have e : zfe pa (VaSpec.sz l) = (pa % VaSpec.sz l == 0) := by unfold zfe; rw [if_neg (by omega)]
  unfold lk0
  rw [e]
  by_cases c : pa % VaSpec.sz l = 0 <;> simp [c]
theorem z06 {k : Kr} {pa l : Int} : lk1 k pa l = if pa < k.cd * 4096 ∧ VaSpec.sz l ≤ k.cd * 4096 - pa then 0 else 3 := by
  unfold lk1 inD
  by_cases c : pa < k.cd * 4096 <;> by_cases d : VaSpec.sz l ≤ k.cd * 4096 - pa <;> simp [c, d]
theorem zx3 {n : Nat} {k : Kr} (h : InvL n k) (hn : n ≤ 90000) (id a pa l : Int) (p : Pm) (ha : U a) (hp : U pa) : Ok 36 [.ag k.ce, ii id, iu a, iu pa, ii l, .ag p.ce] (.tu [.ag (zob k id a pa l p).1.ce, ii (zob k id a pa l p).2]) := by
  have hw := zkh k id a l ha
  obtain ⟨R, hR⟩ : ∃ R, R = zob k id a pa l p := ⟨_, rfl⟩
  rw [← hR]
  unfold zob at hR
  by_cases c0 : (za1 k id a l).2.2 ≠ 0
  · rw [if_pos c0] at hR
    generalize za1 k id a l = w at *
    subst hR
    refine zaf 105 Tryz.func36 rfl rfl rfl rfl ?_ GG.to
    intro W A hG
    repeat (first | (refine zal rfl ?_; first | refine gdr (zaa (.inl rfl) rfl) ?_ | refine gnk 1 rfl (za2 tb rfl rfl rfl rfl rfl) ?_ | refine gdr (zaa (.inr rfl) rfl) ?_ | refine gdr (zak rfl rfl rfl rfl) ?_ | refine gdr (za6 rfl rfl rfl rfl) ?_ | refine gdr (zag rfl rfl rfl rfl rfl rfl) ?_ | refine gdr (zae rfl rfl rfl rfl rfl) ?_ | refine gnk 1 rfl (zbe rfl rfl rfl rfl rfl rfl rfl) ?_ | refine gdr (zab rfl rfl rfl (hw) (by kernel_rfl)) ?_) | (refine hK _ ?_; clear hK K) | refine zad rfl ?_ | exact zap (show za8 _ _ _ = some _ by kernel_rfl) | refine zai rfl rfl ?_ | refine zac (fun K hK => ?_))
  rw [if_neg c0] at hR
  obtain ⟨w1, w2, w3, w4⟩ := zcx (id := id) (a := a) (l := l) h (by omega)
  have c0 : (za1 k id a l).2.2 = 0 := by omega
  rw [c0] at hw
  generalize (za1 k id a l).1 = top at *
  generalize (za1 k id a l).2.1 = lv at *
  have b1 := h.g.bd
  have b2 := h.g.bp
  have hz := zmz l w1.1 w1.2
  have hzb := zn2 l w1.1 w1.2
  have hzp : 0 < VaSpec.sz l := by rcases VaSpec.lev w1.1 w1.2 with rfl | rfl | rfl <;> decide
  have ft : 0 ≤ top ∧ top < 17592186044416 := by have := w2.1; omega
  have hml := h.ml
  obtain ⟨lw, rfl⟩ := Int.eq_ofNat_of_zero_le (show 0 ≤ lv by omega)
  have hm := zxz p
  have hre := zgi k.sz k.m a l ha w1.1 h.g.s h.g.u (by omega) lw top (by omega) ft
  have hd := zx0 k.cd k.cp k.sz top a l lw k.m k.pf h.g w2 ha (by omega) w1.1 w3 (by omega) _ rfl
  have hdg := zj9 k.cd k.cp k.sz a l w1.1 lw k.m k.pf top h.g w2
  have hpb := h.pb
  have hpm := h.pm
  have hmk := zi2 (n := pa / 4096) (p := p) (g := decide (id = -1))
  have hpn := zrl (k := k) (pa := pa) (l := l) hp (by omega)
  have hpk := zmq (p := p)
  have e0 := z05 (l := l) hp hzp
  have e1 := z06 (k := k) (pa := pa) (l := l)
  have e2 : lk2 p = if zj4 p then 0 else 5 := rfl
  have e3 : lk3 k top lw a l = if !(atM k.sz k.m (za3 k.sz k.m a l lw top).1 (idx a (za3 k.sz k.m a l lw top).2)).v then 0 else 6 := rfl
  have hre : Ok 43 [zbm k.sz k.m, iu top, ii lw, iu a, ii l] (.m (.ag (zbi (za3 k.sz k.m a l lw top).1 (za3 k.sz k.m a l lw top).2 (atM k.sz k.m (za3 k.sz k.m a l lw top).1 (idx a (za3 k.sz k.m a l lw top).2))))) := hre
  unfold zth at hR
  rw [Int.toNat_natCast] at hR
  generalize lk0 pa l = q0 at *
  generalize lk1 k pa l = q1 at *
  generalize lk2 p = q2 at *
  generalize lk3 k top lw a l = q3 at *
  generalize VaSpec.sz l = z at *
  generalize dnN k.sz k.cd a l lw k.m k.pf top = D at *
  rw [← hpb, ← hpm] at hd
  generalize atM k.sz k.m (za3 k.sz k.m a l lw top).1 (idx a (za3 k.sz k.m a l lw top).2) = pe at *
  generalize (za3 k.sz k.m a l lw top).1 = rt at *
  generalize (za3 k.sz k.m a l lw top).2 = rl at *
  have p0 := hp.1
  have p1 := hp.2
  by_cases c1 : pa % z = 0
  rotate_left
  · rw [if_neg c1] at e0
    rw [if_pos (by omega), e0] at hR
    subst hR
    refine zaf 105 Tryz.func36 rfl rfl rfl rfl ?_ GG.to
    intro W A hG
    repeat (first | (refine zal rfl ?_; first | refine gdr (zaa (.inl rfl) rfl) ?_ | refine gnk 1 rfl (za2 tb rfl rfl rfl rfl rfl) ?_ | refine gnx 1 rfl (zbc tb rfl rfl rfl) rfl ?_ | refine gdr (zaa (.inr rfl) rfl) ?_ | refine gdr (zak rfl rfl rfl rfl) ?_ | refine gdr (za6 rfl rfl rfl rfl) ?_ | refine gdr (gar rfl rfl rfl rfl) ?_ | refine gdr (gcv rfl rfl rfl rfl rfl) ?_ | refine gdr (zb1 rfl rfl rfl rfl (by omega) (by omega)) ?_ | refine gdr (zag rfl rfl rfl rfl rfl rfl) ?_ | refine gdr (zae rfl rfl rfl rfl rfl) ?_ | refine gnk 1 rfl (zbe rfl rfl rfl rfl rfl rfl rfl) ?_ | refine gdr (zab rfl rfl rfl (hw) (by kernel_rfl)) ?_ | refine gdr (zab rfl rfl rfl (hz) (by kernel_rfl)) ?_) | (refine hK _ ?_; clear hK K) | refine zad rfl ?_ | exact zap (show za8 _ _ _ = some _ by kernel_rfl) | refine zai rfl rfl ?_ | refine zah rfl rfl ?_ | refine zao ?_ | refine zac (fun K hK => ?_))
  rw [if_pos c1] at e0
  rw [if_neg (by omega)] at hR
  by_cases c2 : pa < k.cd * 4096 ∧ z ≤ k.cd * 4096 - pa
  rotate_left
  · rw [if_neg c2] at e1
    rw [if_pos (by omega), e1] at hR
    subst hR
    by_cases c2' : k.cd * 4096 < z
    · refine zaf 105 Tryz.func36 rfl rfl rfl rfl ?_ GG.to
      intro W A hG
      repeat (first | (refine zal rfl ?_; first | refine gdr (zaw rfl) ?_ | refine gdr (zaa (.inl rfl) rfl) ?_ | refine gnk 1 rfl (za2 tb rfl rfl rfl rfl rfl) ?_ | refine gnx 1 rfl (zbc tb rfl rfl rfl) rfl ?_ | refine gdr (zaa (.inr rfl) rfl) ?_ | refine gdr (zaj rfl rfl rfl) ?_ | refine gdr (zak rfl rfl rfl rfl) ?_ | refine gdr (za6 rfl rfl rfl rfl) ?_ | refine gdr (gar rfl rfl rfl rfl) ?_ | refine gdr (gcv rfl rfl rfl rfl rfl) ?_ | refine gdr (zb1 rfl rfl rfl rfl (by omega) (by omega)) ?_ | refine gdr (zag rfl rfl rfl rfl rfl rfl) ?_ | refine gdr (zae rfl rfl rfl rfl rfl) ?_ | refine gnk 1 rfl (zbe rfl rfl rfl rfl rfl rfl rfl) ?_ | refine gdr (zab rfl rfl rfl (hw) (by kernel_rfl)) ?_ | refine gdr (zab rfl rfl rfl (hz) (by kernel_rfl)) ?_) | (refine hK _ ?_; clear hK K) | refine zad rfl ?_ | exact zap (show za8 _ _ _ = some _ by kernel_rfl) | refine zai rfl rfl ?_ | refine zah rfl rfl ?_ | refine zao ?_ | refine zac (fun K hK => ?_))
    · refine zaf 105 Tryz.func36 rfl rfl rfl rfl ?_ GG.to
      intro W A hG
      repeat (first | (refine zal rfl ?_; first | refine gdr (zaa (.inl rfl) rfl) ?_ | refine gnk 1 rfl (za2 tb rfl rfl rfl rfl rfl) ?_ | refine gnx 1 rfl (zbc tb rfl rfl rfl) rfl ?_ | refine gdr (zaa (.inr rfl) rfl) ?_ | refine gdr (zaj rfl rfl rfl) ?_ | refine gdr (zak rfl rfl rfl rfl) ?_ | refine gdr (za6 rfl rfl rfl rfl) ?_ | refine gdr (gar rfl rfl rfl rfl) ?_ | refine gdr (gcv rfl rfl rfl rfl rfl) ?_ | refine gdr (zb1 rfl rfl rfl rfl (by omega) (by omega)) ?_ | refine gdr (zag rfl rfl rfl rfl rfl rfl) ?_ | refine gdr (zae rfl rfl rfl rfl rfl) ?_ | refine gnk 1 rfl (zbe rfl rfl rfl rfl rfl rfl rfl) ?_ | refine gdr (zab rfl rfl rfl (hw) (by kernel_rfl)) ?_ | refine gdr (zab rfl rfl rfl (hz) (by kernel_rfl)) ?_) | (refine hK _ ?_; clear hK K) | refine zad rfl ?_ | exact zap (show za8 _ _ _ = some _ by kernel_rfl) | refine zai rfl rfl ?_ | refine zah rfl rfl ?_ | refine zao ?_ | refine zac (fun K hK => ?_))
  rw [if_pos c2] at e1
  rw [if_neg (by omega)] at hR
  cases hmay : zj4 p with
  | false =>
    rw [hmay] at hm e2
    rw [if_neg (by simp)] at e2
    rw [if_pos (by omega), e2] at hR
    subst hR
    refine zaf 105 Tryz.func36 rfl rfl rfl rfl ?_ GG.to
    intro W A hG
    repeat (first | (refine zal rfl ?_; first | refine gdr (zaa (.inl rfl) rfl) ?_ | refine gnk 1 rfl (za2 tb rfl rfl rfl rfl rfl) ?_ | refine gnx 1 rfl (zbc tb rfl rfl rfl) rfl ?_ | refine gdr (zaa (.inr rfl) rfl) ?_ | refine gdr (zaj rfl rfl rfl) ?_ | refine gdr (zak rfl rfl rfl rfl) ?_ | refine gdr (za6 rfl rfl rfl rfl) ?_ | refine gdr (gar rfl rfl rfl rfl) ?_ | refine gdr (gcv rfl rfl rfl rfl rfl) ?_ | refine gdr (zb1 rfl rfl rfl rfl (by omega) (by omega)) ?_ | refine gdr (zag rfl rfl rfl rfl rfl rfl) ?_ | refine gdr (zae rfl rfl rfl rfl rfl) ?_ | refine gnk 1 rfl (zbe rfl rfl rfl rfl rfl rfl rfl) ?_ | refine gdr (zas rfl rfl rfl) ?_ | refine gdr (zab rfl rfl rfl (hw) (by kernel_rfl)) ?_ | refine gdr (zab rfl rfl rfl (hz) (by kernel_rfl)) ?_ | refine gdr (zab rfl rfl rfl (hm) (by kernel_rfl)) ?_) | (refine hK _ ?_; clear hK K) | refine zad rfl ?_ | exact zap (show za8 _ _ _ = some _ by kernel_rfl) | refine zai rfl rfl ?_ | refine zah rfl rfl ?_ | refine zao ?_ | refine zac (fun K hK => ?_))
  | true =>
  rw [hmay] at hm e2
  rw [if_pos (by simp)] at e2
  rw [if_neg (by omega)] at hR
  obtain ⟨v0, v1, v2, v3, v4, v5, v6, v7, v8, v9, v10⟩ := pe
  cases v0 with
  | true =>
    rw [if_neg (by simp)] at e3
    rw [if_pos (by omega), e3] at hR
    subst hR
    refine zaf 105 Tryz.func36 rfl rfl rfl rfl ?_ GG.to
    intro W A hG
    repeat (first | (refine zal rfl ?_; first | refine gdr (zaa (.inl rfl) rfl) ?_ | refine gnk 1 rfl (za2 tb rfl rfl rfl rfl rfl) ?_ | refine gnx 1 rfl (zbc tb rfl rfl rfl) rfl ?_ | refine gdr (zaa (.inr rfl) rfl) ?_ | refine gdr (zaj rfl rfl rfl) ?_ | refine gdr (zak rfl rfl rfl rfl) ?_ | refine gdr (zb3 tb rfl rfl rfl rfl rfl rfl) ?_ | refine gdr (za6 rfl rfl rfl rfl) ?_ | refine gdr (gar rfl rfl rfl rfl) ?_ | refine gdr (gcv rfl rfl rfl rfl rfl) ?_ | refine gdr (zb1 rfl rfl rfl rfl (by omega) (by omega)) ?_ | refine gdr (zag rfl rfl rfl rfl rfl rfl) ?_ | refine gdr (zae rfl rfl rfl rfl rfl) ?_ | refine gnk 1 rfl (zbe rfl rfl rfl rfl rfl rfl rfl) ?_ | refine gdr (zas rfl rfl rfl) ?_ | refine gdr (zab rfl rfl rfl (hw) (by kernel_rfl)) ?_ | refine gdr (zab rfl rfl rfl (hz) (by kernel_rfl)) ?_ | refine gdr (zab rfl rfl rfl (hm) (by kernel_rfl)) ?_ | refine gdr (zab rfl rfl rfl (hre) (by kernel_rfl)) ?_) | (refine hK _ ?_; clear hK K) | refine zad rfl ?_ | exact zap (show za8 _ _ _ = some _ by kernel_rfl) | refine zai rfl rfl ?_ | refine zah rfl rfl ?_ | refine zao ?_ | refine zac (fun K hK => ?_))
  | false =>
  rw [if_pos (by simp)] at e3
  rw [if_neg (by omega)] at hR
  obtain ⟨m2, f2, t2, e2'⟩ := D
  by_cases e : e2' = 0
  · subst e
    obtain ⟨d1, d2, d3, d4⟩ := hdg rfl
    have d1 : GM k.cd k.cp k.sz m2 f2 := d1
    have d2 : Al k.cd k.cp f2 t2 := d2
    have d3 : m2.length ≤ k.m.length + lw := d3
    have hd : Ok 99 [zbm k.sz k.m, .ag [cu k.pb, ci k.pm, cu k.pf], iu top, ii lw, iu a, ii l] (.tu [zbm k.sz m2, .ag [cu k.pb, ci k.pm, cu f2], .ag (zbi t2 l (atM k.sz m2 t2 (idx a l))), ii 0]) := hd
    have hR : R = (z3z k (m2, f2, t2, 0) a pa l p (decide (id = -1)), 0) := hR
    have hu := (hmk (hpn (by omega)) (hpk (by omega)))
    have hmy : zf7 (mkP (pa / 4096) p (decide (id = -1))) = true := by rw [zdk]; unfold mkP; simp; have := hpn (by omega); omega
    have hwt := zgu k.sz m2 t2 l (atM k.sz m2 t2 (idx a l)) a (mkP (pa / 4096) p (decide (id = -1))) ha hu.2.1 hmy w1.1 w1.2 ⟨by have := d2.1; omega, by have := d2.1; omega⟩ d1.s (by omega)
    rw [← d1.with d2 (idx_bd a l) hu.2.1] at hwt
    generalize atM k.sz m2 t2 (idx a l) = q at *
    by_cases c5 : id = -1
    · have hmp := zrz (pa / 4096) p true
      rw [decide_eq_true c5] at hwt hR
      subst hR
      refine zaf 105 Tryz.func36 rfl rfl rfl rfl ?_ GG.to
      intro W A hG
      repeat (first | (refine zal rfl ?_; first | refine gdr (zaa (.inl rfl) rfl) ?_ | refine gnk 1 rfl (za2 tb rfl rfl rfl rfl rfl) ?_ | refine gnx 1 rfl (zbc tb rfl rfl rfl) rfl ?_ | refine gdr (zaa (.inr rfl) rfl) ?_ | refine gdr (zaj rfl rfl rfl) ?_ | refine gdr (zak rfl rfl rfl rfl) ?_ | refine gdr (zb3 tb rfl rfl rfl rfl rfl rfl) ?_ | refine gdr (za6 rfl rfl rfl rfl) ?_ | refine gdr (gar rfl rfl rfl rfl) ?_ | refine gdr (gcv rfl rfl rfl rfl rfl) ?_ | refine gdr (zbs rfl rfl rfl rfl (by omega) (by omega) (by first | exact zdb (by omega) (by omega) | exact zdc (by omega) (by omega))) ?_ | refine gdr (zb1 rfl rfl rfl rfl (by omega) (by omega)) ?_ | refine gdr (zag rfl rfl rfl rfl rfl rfl) ?_ | refine gdr (zae rfl rfl rfl rfl rfl) ?_ | refine gnk 1 rfl (zbe rfl rfl rfl rfl rfl rfl rfl) ?_ | refine gdr (zas rfl rfl rfl) ?_ | refine gdr (zab rfl rfl rfl (hw) (by kernel_rfl)) ?_ | refine gdr (zab rfl rfl rfl (hz) (by kernel_rfl)) ?_ | refine gdr (zab rfl rfl rfl (hm) (by kernel_rfl)) ?_ | refine gdr (zab rfl rfl rfl (hre) (by kernel_rfl)) ?_ | refine gdr (zab rfl rfl rfl (hd) (by kernel_rfl)) ?_ | refine gdr (zab rfl rfl rfl (hmp) (by kernel_rfl)) ?_ | refine gdr (zab rfl rfl rfl (hwt) (by kernel_rfl)) ?_) | (refine hK _ ?_; clear hK K) | refine zad rfl ?_ | refine za4 (by kernel_rfl) (by kernel_rfl) rfl ?_ | exact zap (show za8 _ _ _ = some _ by kernel_rfl) | refine zah rfl rfl ?_ | refine zao ?_ | refine zac (fun K hK => ?_))
    · have hmp := zrz (pa / 4096) p false
      rw [decide_eq_false c5] at hwt hR
      subst hR
      refine zaf 105 Tryz.func36 rfl rfl rfl rfl ?_ GG.to
      intro W A hG
      repeat (first | (refine zal rfl ?_; first | refine gdr (zaa (.inl rfl) rfl) ?_ | refine gnk 1 rfl (za2 tb rfl rfl rfl rfl rfl) ?_ | refine gnx 1 rfl (zbc tb rfl rfl rfl) rfl ?_ | refine gdr (zaa (.inr rfl) rfl) ?_ | refine gdr (zaj rfl rfl rfl) ?_ | refine gdr (zak rfl rfl rfl rfl) ?_ | refine gdr (zb3 tb rfl rfl rfl rfl rfl rfl) ?_ | refine gdr (za6 rfl rfl rfl rfl) ?_ | refine gdr (gar rfl rfl rfl rfl) ?_ | refine gdr (gcv rfl rfl rfl rfl rfl) ?_ | refine gdr (zbs rfl rfl rfl rfl (by omega) (by omega) (by first | exact zdb (by omega) (by omega) | exact zdc (by omega) (by omega))) ?_ | refine gdr (zb1 rfl rfl rfl rfl (by omega) (by omega)) ?_ | refine gdr (zag rfl rfl rfl rfl rfl rfl) ?_ | refine gdr (zae rfl rfl rfl rfl rfl) ?_ | refine gnk 1 rfl (zbe rfl rfl rfl rfl rfl rfl rfl) ?_ | refine gdr (zas rfl rfl rfl) ?_ | refine gdr (zab rfl rfl rfl (hw) (by kernel_rfl)) ?_ | refine gdr (zab rfl rfl rfl (hz) (by kernel_rfl)) ?_ | refine gdr (zab rfl rfl rfl (hm) (by kernel_rfl)) ?_ | refine gdr (zab rfl rfl rfl (hre) (by kernel_rfl)) ?_ | refine gdr (zab rfl rfl rfl (hd) (by kernel_rfl)) ?_ | refine gdr (zab rfl rfl rfl (hmp) (by kernel_rfl)) ?_ | refine gdr (zab rfl rfl rfl (hwt) (by kernel_rfl)) ?_) | (refine hK _ ?_; clear hK K) | refine zad rfl ?_ | refine za4 (by kernel_rfl) (by kernel_rfl) rfl ?_ | exact zap (show za8 _ _ _ = some _ by kernel_rfl) | refine zah rfl rfl ?_ | refine zao ?_ | refine zac (fun K hK => ?_))
  · rw [if_neg (show ¬ (m2, f2, t2, e2').2.2.2 = 0 from e)] at hd
    rw [if_pos (show (m2, f2, t2, e2').2.2.2 ≠ 0 from e)] at hR
    have hd : Ok 99 [zbm k.sz k.m, .ag [cu k.pb, ci k.pm, cu k.pf], iu top, ii lw, iu a, ii l] (.tu [zbm k.sz k.m, .ag [cu k.pb, ci k.pm, cu k.pf], .ag (zbi 0 0 zP), ii e2']) := hd
    have hR : R = (k, e2') := hR
    subst hR
    refine zaf 105 Tryz.func36 rfl rfl rfl rfl ?_ GG.to
    intro W A hG
    repeat (first | (refine zal rfl ?_; first | refine gdr (zaa (.inl rfl) rfl) ?_ | refine gnk 1 rfl (za2 tb rfl rfl rfl rfl rfl) ?_ | refine gnx 1 rfl (zbc tb rfl rfl rfl) rfl ?_ | refine gdr (zaa (.inr rfl) rfl) ?_ | refine gdr (zaj rfl rfl rfl) ?_ | refine gdr (zak rfl rfl rfl rfl) ?_ | refine gdr (zb3 tb rfl rfl rfl rfl rfl rfl) ?_ | refine gdr (za6 rfl rfl rfl rfl) ?_ | refine gdr (gar rfl rfl rfl rfl) ?_ | refine gdr (gcv rfl rfl rfl rfl rfl) ?_ | refine gdr (zb1 rfl rfl rfl rfl (by omega) (by omega)) ?_ | refine gdr (zag rfl rfl rfl rfl rfl rfl) ?_ | refine gdr (zae rfl rfl rfl rfl rfl) ?_ | refine gnk 1 rfl (zbe rfl rfl rfl rfl rfl rfl rfl) ?_ | refine gdr (zas rfl rfl rfl) ?_ | refine gdr (zab rfl rfl rfl (hw) (by kernel_rfl)) ?_ | refine gdr (zab rfl rfl rfl (hz) (by kernel_rfl)) ?_ | refine gdr (zab rfl rfl rfl (hm) (by kernel_rfl)) ?_ | refine gdr (zab rfl rfl rfl (hre) (by kernel_rfl)) ?_ | refine gdr (zab rfl rfl rfl (hd) (by kernel_rfl)) ?_) | (refine hK _ ?_; clear hK K) | refine zad rfl ?_ | exact zap (show za8 _ _ _ = some _ by kernel_rfl) | refine zai rfl rfl ?_ | refine zah rfl rfl ?_ | refine zao ?_ | refine zac (fun K hK => ?_))
end Go.Proofs.YtmkjfeamgknpfaaGreatDoor.RlC
namespace Go.Proofs.YtmkjfeamgknpfaaGreatDoor.LkA
open Go.RowKit Bv VaSpec Base MemL RegR Ax MemC PutC MemC3 TzC OkS SpA SpB SpC SpF SpH SpI SpJ LaA LaB LaC LaD LaE LaF LaG LiA LiB LiC LiD LiE LiF SpL SpN SpO RfA RfB RfC RfD RlA RlB LjB
open BitsC PteSpec
set_option maxRecDepth 10000
set_option maxHeartbeats 1000000
def reH (sz : Int) (xs : List (Int × Int)) (g : Int) (i : Nat) : St := St.of [(1, .m (iu g)), (2, .m (.c (.p 2 0))), (5, .m (ii i))] [(2, .live (.box [cu sz, .s xs.length 2 (fl xs)]))]
theorem zv0 (sz : Int) (xs : List (Int × Int)) (g : Int) (hg : U g) (hn : xs.length ≤ 1000000) (hc : ∀ c ∈ xs, U c.1) : Ok 150 [zbm sz xs, iu g] (.m (ib (zdl xs g))) := by
  obtain ⟨R, hR⟩ : ∃ R, R = zdl xs g := ⟨_, rfl⟩
  rw [← hR]
  refine zaf 22 Tryz.func150 rfl rfl rfl rfl ?_ GG.to
  intro W A hG
  repeat (first | (refine zal rfl ?_; first | refine gdr (zaa (.inr rfl) rfl) ?_ | refine gdr (zag rfl rfl rfl rfl rfl rfl) ?_) | (refine hK _ ?_; clear hK K) | refine zad rfl ?_ | refine zam ?_ | refine zac (fun K hK => ?_))
  refine za9 (α := Nat) (fun i => i ≤ xs.length ∧ ∀ c ∈ xs.take i, c.1 / 512 ≠ g) (fun i => reH sz xs g i) (fun i => xs.length - i) 0 ⟨Nat.zero_le _, fun c hc => by simp at hc⟩ (zar _ _ ⟨by kernel_rfl, by kernel_rfl, by kernel_rfl, trivial⟩ ⟨by kernel_rfl, trivial⟩ (by kernel_rfl)) ?_
  rintro i ⟨x1, x2⟩
  show Aw _ _ _ _ (reH sz xs g i)
  unfold reH
  by_cases hlt : i < xs.length
  · obtain ⟨c, hci⟩ : ∃ c, xs[i]? = some c := ⟨_, List.getElem?_eq_getElem hlt⟩
    have hx := SpL.zio hci
    have hcU := hc c (List.mem_of_getElem? hci)
    have hc0 := hcU.1
    have hc1 := hcU.2
    have ht : xs.take (i + 1) = xs.take i ++ [c] := by rw [List.take_add_one, hci]; rfl
    by_cases e : c.1 / 512 = g
    · have hf : R = false := by
        rw [hR]; unfold zdl
        simp only [Bool.not_eq_false', List.any_eq_true, decide_eq_true_eq]
        exact ⟨c, List.mem_of_getElem? hci, e⟩
      subst hf
      clear hR x2 ht hci hc
      repeat (first | (refine zal rfl ?_; first | refine gdr (zaa (.inl rfl) rfl) ?_ | refine gnk 1 rfl (za2 tb rfl rfl rfl rfl rfl) ?_ | refine gnx 1 rfl (zbc tb rfl rfl rfl) rfl ?_ | refine gdr (zaa (.inr rfl) rfl) ?_ | refine gdr (za6 rfl rfl rfl rfl) ?_ | refine gdr (zbs rfl rfl rfl rfl (by omega) (by omega) (by first | exact zdb (by omega) (by omega) | exact zdc (by omega) (by omega))) ?_ | refine gdr (zan rfl rfl rfl rfl) ?_ | refine gnx 3 rfl (zau tb rfl rfl rfl rfl (by first | kernel_rfl | rfl)) rfl ?_ | refine gnx 3 rfl (za0 tb rfl rfl rfl rfl) rfl ?_ | refine gnx 4 rfl (zav rfl rfl rfl rfl rfl rfl (by omega) (by omega) _ (by assumption)) rfl ?_) | (refine hK _ ?_; clear hK K) | refine zad rfl ?_ | exact zap (show za8 _ _ _ = some _ by kernel_rfl) | refine zai rfl rfl ?_ | refine zam ?_ | refine zao ?_ | refine zac (fun K hK => ?_))
    · have x3 : ∀ c ∈ xs.take (i + 1), c.1 / 512 ≠ g := fun d hd => by
        rw [ht] at hd
        rcases List.mem_append.1 hd with h | h
        · exact x2 d h
        · rw [List.mem_singleton.1 h]; exact e
      clear hR x2 ht hci hc
      repeat (first | (refine zal rfl ?_; first | refine gdr (zaa (.inl rfl) rfl) ?_ | refine gnk 1 rfl (za2 tb rfl rfl rfl rfl rfl) ?_ | refine gnx 1 rfl (zbc tb rfl rfl rfl) rfl ?_ | refine gdr (zaa (.inr rfl) rfl) ?_ | refine gdr (za6 rfl rfl rfl rfl) ?_ | refine gdr (gar rfl rfl rfl rfl) ?_ | refine gdr (zbs rfl rfl rfl rfl (by omega) (by omega) (by first | exact zdb (by omega) (by omega) | exact zdc (by omega) (by omega))) ?_ | refine gdr (zan rfl rfl rfl rfl) ?_ | refine gnx 3 rfl (zau tb rfl rfl rfl rfl (by first | kernel_rfl | rfl)) rfl ?_ | refine gnx 3 rfl (za0 tb rfl rfl rfl rfl) rfl ?_ | refine gnx 4 rfl (zav rfl rfl rfl rfl rfl rfl (by omega) (by omega) _ (by assumption)) rfl ?_) | (refine hK _ ?_; clear hK K) | refine zad rfl ?_ | refine zai rfl rfl ?_ | refine zah rfl rfl ?_ | refine zam ?_ | refine zao ?_ | refine zac (fun K hK => ?_))
      exact ⟨i + 1, ⟨by omega, x3⟩, by omega, zar _ _ ⟨by kernel_rfl, by kernel_rfl, by kernel_rfl, trivial⟩ ⟨by kernel_rfl, trivial⟩ (by kernel_rfl)⟩
  · have ei : i = xs.length := by omega
    rw [ei, List.take_length] at x2
    have hf : R = true := by
      rw [hR]; unfold zdl
      simp only [Bool.not_eq_true', List.any_eq_false, decide_eq_true_eq]
      exact x2
    subst hf
    clear hR x2 hc
    repeat (first | (refine zal rfl ?_; first | refine gdr (zaa (.inl rfl) rfl) ?_ | refine gnk 1 rfl (za2 tb rfl rfl rfl rfl rfl) ?_ | refine gnx 1 rfl (zbc tb rfl rfl rfl) rfl ?_ | refine gdr (zaa (.inr rfl) rfl) ?_ | refine gdr (za6 rfl rfl rfl rfl) ?_ | refine gdr (zan rfl rfl rfl rfl) ?_) | (refine hK _ ?_; clear hK K) | (rename_i K1 hK1; refine hK1 _ ?_; clear hK hK1; clear K) | refine zad rfl ?_ | exact zap (show za8 _ _ _ = some _ by kernel_rfl) | refine zah rfl rfl ?_ | refine zba ?_ | refine zac (fun K hK => ?_))
def z38 (sz : Int) (xs : List (Int × Int)) (top lv : Int) (i n : Nat) (vs : List Value) : St := St.of [(1, .m (iu top)), (2, .m (ii lv)), (3, .m (.c (.p 3 0))), (6, .m (.c (.v (.slice none 0 0)))), (7, .m (.c (.o 1000))), (8, .m (ii i))] [(3, .live (.box [cu sz, .s xs.length 2 (fl xs)])), (1000, .live (.row 25 1 n vs))]
theorem zkj (sz : Int) (xs : List (Int × Int)) (top lv : Int) (rec : Int → List Int) (ht : 0 ≤ top ∧ top < 17592186044416) (h0 : 0 ≤ lv) (h2 : lv ≤ 2) (hs : Srt xs) (hu : Uw xs) (hn : xs.length ≤ 1000000) (hrec : ∀ t, (rec t).length ≤ 1000)
    (hIH : 1 ≤ lv → ∀ t, (0 ≤ t ∧ t < 17592186044416) → Ok 93 [zbm sz xs, iu t, ii (lv - 1)] (.m (.c (.s (rec t).length 1 (vsI (rec t))))))
    (L : List Int) (hL : L = top :: (List.range 512).flatMap fun (i : Nat) => zis rec (atM sz xs top i) lv) :
    Ok 93 [zbm sz xs, iu top, ii lv] (.m (.c (.s L.length 1 (vsI L)))) := by
  obtain ⟨N, hN⟩ : ∃ N, N = L.length := ⟨_, rfl⟩
  obtain ⟨XS, hXS⟩ : ∃ XS, XS = vsI L := ⟨_, rfl⟩
  rw [← hN, ← hXS]
  obtain ⟨E, hE0⟩ : ∃ E : Nat → List Int, E = fun (i : Nat) => zis rec (atM sz xs top i) lv := ⟨_, rfl⟩
  rw [← hE0] at hL
  have hEl : ∀ i, (E i).length ≤ 1000 := fun i => by
    rw [hE0]
    show (zis rec (atM sz xs top i) lv).length ≤ 1000
    unfold zis
    split
    · exact hrec _
    · simp
  refine zaf 32 Tryz.func93 rfl rfl rfl rfl ?_ GG.to
  intro W A hG
  repeat (first | (refine zal rfl ?_; first | refine gdr (zaa (.inl rfl) rfl) ?_ | refine gdr (zaa (.inr rfl) rfl) ?_ | refine gdr (zag rfl rfl rfl rfl rfl rfl) ?_ | refine gdr (zax rfl rfl rfl rfl rfl rfl rfl rfl rfl rfl rfl) ?_) | (refine hK _ ?_; clear hK K) | refine zad rfl ?_ | refine zam ?_ | refine zac (fun K hK => ?_))
  refine za9 (α := Nat × Nat × List Value) (fun q => q.1 ≤ 512 ∧ q.2.1 = (top :: (List.range q.1).flatMap E).length ∧ q.2.2 = vsI (top :: (List.range q.1).flatMap E) ∧ q.2.1 ≤ 1 + q.1 * 1000) (fun q => z38 sz xs top lv q.1 q.2.1 q.2.2) (fun q => 512 - q.1) (0, 1, [.int .u64 top]) ⟨by show 0 ≤ 512; omega, rfl, rfl, by show 1 ≤ 1 + 0 * 1000; omega⟩ (Sub.trans (zar [(1, .m (iu top)), (2, .m (ii lv)), (3, .m (.c (.p 3 0))), (6, .m (.c (.v (.slice none 0 0)))), (7, .m (.c (.o 11))), (8, .m (ii 0))] [(3, .live (.box [cu sz, .s xs.length 2 (fl xs)])), (11, .live (.row 25 1 1 [.int .u64 top]))] ⟨by kernel_rfl, by kernel_rfl, by kernel_rfl, by kernel_rfl, by kernel_rfl, by kernel_rfl, trivial⟩ ⟨by kernel_rfl, by kernel_rfl, trivial⟩ (by kernel_rfl)) (Sub.trans (zcp (b := 11) (b' := 1000) rfl rfl) (zar _ _ ⟨by kernel_rfl, by kernel_rfl, by kernel_rfl, by kernel_rfl, by kernel_rfl, by kernel_rfl, trivial⟩ ⟨by kernel_rfl, by kernel_rfl, trivial⟩ (by kernel_rfl)))) ?_
  rintro ⟨i, n, vs⟩ ⟨y1, y2, y3, y4⟩
  have g1 : i ≤ 512 := y1
  have g2 : n = (top :: (List.range i).flatMap E).length := y2
  have g3 : vs = vsI (top :: (List.range i).flatMap E) := y3
  have g4 : n ≤ 1 + i * 1000 := y4
  clear y1 y2 y3 y4
  show Aw _ _ _ _ (z38 sz xs top lv i n vs)
  unfold z38
  by_cases hlt : i < 512
  · have h1 := zih sz xs top i ht ⟨by omega, by omega⟩ hs hu hn
    have hU := zgw hu sz top (i : Int)
    have hp := zdo (xs := xs) sz top (i : Int)
    have hEi : E i = zis rec (atM sz xs top i) lv := by rw [hE0]
    have hn1 : n + (E i).length = (top :: (List.range (i + 1)).flatMap E).length := by rw [zm0, List.length_cons, List.length_append, g2, List.length_cons]; omega
    have hv1 : vs ++ vsI (E i) = vsI (top :: (List.range (i + 1)).flatMap E) := by rw [zm0, g3]; unfold vsI; simp
    have hn2 : n + (E i).length ≤ 1 + (i + 1) * 1000 := by have := hEl i; omega
    have h4 := zoi _ hU lv h0 h2
    clear g2 g3 hL hE0 hEl hN hXS
    generalize atM sz xs top (i : Int) = q at *
    cases hlk : zbq q lv with
    | false =>
      have e : E i = [] := by rw [hEi]; unfold zis; rw [hlk]; rfl
      rw [hlk] at h4
      rw [e, show vsI [] = [] from rfl, List.append_nil] at hv1
      rw [e, List.length_nil, Nat.add_zero] at hn1 hn2
      clear hEi
      repeat (first | (refine zal rfl ?_; first | refine gdr (zaa (.inl rfl) rfl) ?_ | refine gnk 1 rfl (za2 tb rfl rfl rfl rfl rfl) ?_ | refine gdr (zaa (.inr rfl) rfl) ?_ | refine gdr (za6 rfl rfl rfl rfl) ?_ | refine gdr (gar rfl rfl rfl rfl) ?_ | refine gdr (zae rfl rfl rfl rfl rfl) ?_ | refine gnk 1 rfl (zbe rfl rfl rfl rfl rfl rfl rfl) ?_ | refine gdr (zab rfl rfl rfl (h1) (by kernel_rfl)) ?_ | refine gdr (zab rfl rfl rfl (h4) (by kernel_rfl)) ?_) | (refine hK _ ?_; clear hK K) | refine zad rfl ?_ | refine zai rfl rfl ?_ | refine zah rfl rfl ?_ | refine zam ?_ | refine zao ?_ | refine zac (fun K hK => ?_))
      exact ⟨(i + 1, n, vs), ⟨by show i + 1 ≤ 512; omega, hn1, hv1, hn2⟩, by show 512 - (i + 1) < 512 - i; omega, zar _ _ ⟨by kernel_rfl, by kernel_rfl, by kernel_rfl, by kernel_rfl, by kernel_rfl, by kernel_rfl, trivial⟩ ⟨by kernel_rfl, by kernel_rfl, trivial⟩ (by kernel_rfl)⟩
    | true =>
      rw [hlk] at h4
      have hlv : 1 ≤ lv := by
        rcases (by omega : lv = 0 ∨ 1 ≤ lv) with rfl | h
        · exfalso
          unfold zbq at hlk
          simp only [Bool.and_eq_true, Bool.not_eq_true'] at hlk
          have : zej q 0 = true := by unfold zej; rw [hlk.1]; simp
          rw [this] at hlk
          exact absurd hlk.2 (by simp)
        · exact h
      have e : E i = rec q.ppn := by rw [hEi]; unfold zis; rw [hlk]; rfl
      rw [e] at hn1 hn2 hv1
      have hi := hIH hlv q.ppn hp
      have hl := hrec q.ppn
      have ha := zqf (rec q.ppn)
      clear hEi e
      generalize rec q.ppn = ys at *
      repeat (first | (refine zal rfl ?_; first | refine gdr (zaa (.inl rfl) rfl) ?_ | refine gnk 1 rfl (za2 tb rfl rfl rfl rfl rfl) ?_ | refine gnx 1 rfl (zbc tb rfl rfl rfl) rfl ?_ | refine gdr (zaa (.inr rfl) rfl) ?_ | refine gdr (za6 rfl rfl rfl rfl) ?_ | refine gdr (gar rfl rfl rfl rfl) ?_ | refine gdr (zae rfl rfl rfl rfl rfl) ?_ | refine gnk 1 rfl (zbe rfl rfl rfl rfl rfl rfl rfl) ?_ | refine gdr (zab rfl rfl rfl (h1) (by kernel_rfl)) ?_ | refine gdr (zab rfl rfl rfl (h4) (by kernel_rfl)) ?_ | refine gdr (zab rfl rfl rfl (hi) (by kernel_rfl)) ?_ | refine gdr (zbd rfl rfl rfl rfl rfl rfl rfl rfl rfl rfl rfl rfl ha (by omega)) ?_) | (refine hK _ ?_; clear hK K) | refine zad rfl ?_ | refine zai rfl rfl ?_ | refine zam ?_ | refine zao ?_ | refine zac (fun K hK => ?_))
      exact ⟨(i + 1, n + ys.length, vs ++ vsI ys), ⟨by show i + 1 ≤ 512; omega, hn1, hv1, hn2⟩, by show 512 - (i + 1) < 512 - i; omega, Sub.trans (zar [(1, .m (iu top)), (2, .m (ii lv)), (3, .m (.c (.p 3 0))), (6, .m (.c (.v (.slice none 0 0)))), (7, .m (.c (.o 30))), (8, .m (ii ((i + 1 : Nat) : Int)))] [(3, .live (.box [cu sz, .s xs.length 2 (fl xs)])), (30, .live (.row 25 1 (n + ys.length) (vs ++ vsI ys)))] ⟨by kernel_rfl, by kernel_rfl, by kernel_rfl, by kernel_rfl, by kernel_rfl, by kernel_rfl, trivial⟩ ⟨by kernel_rfl, by kernel_rfl, trivial⟩ (by kernel_rfl)) (Sub.trans (zcp (b := 30) (b' := 1000) rfl rfl) (zar _ _ ⟨by kernel_rfl, by kernel_rfl, by kernel_rfl, by kernel_rfl, by kernel_rfl, by kernel_rfl, trivial⟩ ⟨by kernel_rfl, by kernel_rfl, trivial⟩ (by kernel_rfl)))⟩
  · have e : i = 512 := by omega
    subst e
    rw [← hL] at g2 g3
    obtain rfl : N = n := by rw [hN, g2]
    obtain rfl : XS = vs := by rw [hXS, g3]
    repeat (first | (refine zal rfl ?_; first | refine gdr (zaa (.inl rfl) rfl) ?_ | refine gdr (zaa (.inr rfl) rfl) ?_ | refine gdr (za6 rfl rfl rfl rfl) ?_) | (refine hK _ ?_; clear hK K) | (rename_i K1 hK1; refine hK1 _ ?_; clear hK hK1; clear K) | refine zad rfl ?_ | exact zap (show za8 _ _ _ = some _ by kernel_rfl) | refine zah rfl rfl ?_ | refine zba ?_ | refine zac (fun K hK => ?_))
section
variable (sz : Int) (xs : List (Int × Int)) (hs : Srt xs) (hu : Uw xs) (hn : xs.length ≤ 1000000)
include hs hu hn
theorem zol (t : Int) (ht : 0 ≤ t ∧ t < 17592186044416) : Ok 93 [zbm sz xs, iu t, ii 0] (.m (.c (.s (frN sz xs 0 t).length 1 (vsI (frN sz xs 0 t))))) :=
  zkj sz xs t 0 (fun _ => []) ht (by omega) (by omega) hs hu hn (fun _ => by simp) (fun h => by omega) _ (zrw sz xs hs hu t)
theorem zv1 (t : Int) (ht : 0 ≤ t ∧ t < 17592186044416) : Ok 93 [zbm sz xs, iu t, ii 1] (.m (.c (.s (frN sz xs 1 t).length 1 (vsI (frN sz xs 1 t))))) :=
  zkj sz xs t 1 (frN sz xs 0) ht (by omega) (by omega) hs hu hn (fun _ => by simp [frN]) (fun _ t h1 => zol sz xs hs hu hn t h1) _ rfl
end
end Go.Proofs.YtmkjfeamgknpfaaGreatDoor.LkA
