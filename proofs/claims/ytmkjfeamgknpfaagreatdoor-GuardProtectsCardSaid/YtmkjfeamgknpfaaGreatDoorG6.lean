/- Texts of this claim, one behind the other: LkC, LkD, LjA, LjF, LkE, LrA, LrB, LrC, LmA, LmC, LmD, LmB, LmE, DelFC, ClonePage, LmF. -/
import Derived.Test.YtmkjfeamgknpfaaGreatDoorG5
import Derived.Test.YtmkjfeamgknpfaaGreatDoorG4
import Derived.Test.YtmkjfeamgknpfaaGreatDoorG3
import Derived.Test.YtmkjfeamgknpfaaGreatDoorG1
import Derived.Test.YtmkjfeamgknpfaaGreatDoorG2
import Derived.Deep.MidRow
import Derived.Lib.SliceRun
set_option linter.unusedVariables false
set_option linter.unusedSimpArgs false
namespace Go.Proofs.YtmkjfeamgknpfaaGreatDoor.LkC
open Go.RowKit Bv VaSpec Base MemL RegR Ax MemC PutC MemC3 TzC OkS SpA SpB SpC SpF SpH SpI SpJ LaA LaB LaC LaD LaE LaF LaG LiA LiB LiC LiD LiE LiF SpG SpL SpN SpO RfA RfB RfC RfD RlA RlB LjB LkA LkB
open BitsC PteSpec
set_option maxRecDepth 10000
set_option maxHeartbeats 1000000
theorem zd0 (xs ys : List (Int × Int)) : fl (xs ++ ys) = fl xs ++ fl ys := by unfold fl; rw [List.flatMap_append]
theorem zra : ∀ xs : List (Int × Int), (fl xs).all (·.oneCell') = true
  | [] => rfl
  | c :: xs => by rw [show fl (c :: xs) = [.int .u64 c.1, .int .u64 c.2] ++ fl xs from rfl, List.all_append, zra xs]; rfl
theorem zst (l : Int) (h0 : 0 ≤ l) (h2 : l ≤ 2) : Ok 175 [ii l] (.m (iu (VaSpec.sz l / 4096))) := by
  have h1 := zm6 l h0 h2
  have hz := zok l h0 h2
  generalize VaSpec.sz l = z at *
  refine zad 6 Tryz.func175 rfl rfl rfl rfl ?_ GG.to
  intro W A hG
  repeat (first | (refine zaj rfl ?_; first | refine zak ?_ | refine gdr (zaa rfl rfl rfl (h1) (by kernel_rfl)) ?_) | (refine hK _ ?_; clear hK K) | refine zac rfl ?_ | exact zah (show zar _ _ _ = some _ by kernel_rfl) | refine zab (fun K hK => ?_))
theorem zo3 (g : Int) (v : Nat → Int) (n : Nat) : zli g v (n + 1) = zli g v n ++ [(g * 512 + (n : Int), v n)] := by unfold zli; rw [List.range_succ, List.map_append]; rfl
theorem zsu (g : Int) (v : Nat → Int) (n : Nat) : (zli g v n).length = n := by unfold zli; simp
def rl1 (sz cd cp a t l g : Int) (q : Pte) (xs : List (Int × Int)) (f : Int) (j n : Nat) (vs : List Value) : St := St.of [(3, .m (iu a)), (6, .m (.c (.p 6 0))), (8, .m (.c (.p 8 0))), (9, .m (.c (.p 9 0))), (10, .m (ii 0)), (11, .m (.c (.p 11 0))), (12, .m (.c (.p 12 0))), (13, .m (iu g)), (15, .m (.c (.o 1000))), (16, .m (iu j))] [(6, .live (.box (za3 t l q))), (8, .live (.box [cu 0, .v (.slice none 0 0)])), (9, .live (.box [cu 0, ci 0, cu 0])), (11, .live (.box [cu sz, .s xs.length 2 (fl xs)])), (12, .live (.box [cu cd, ci cp, cu f])), (1000, .live (.row 163 2 n vs))]
def rl2 (sz cd cp a t l g : Int) (q : Pte) (xs : List (Int × Int)) (f : Int) (vr : List Value) (d : Bool) (i n : Nat) (vs : List Value) : St := St.of [(3, .m (iu a)), (6, .m (.c (.p 6 0))), (8, .m (.c (.p 8 0))), (9, .m (.c (.p 9 0))), (10, .m (ii 0)), (11, .m (.c (.p 11 0))), (12, .m (.c (.p 12 0))), (13, .m (iu g)), (15, .m (.c (.o 1000))), (18, .m (.c (.o 1001))), (19, .m (ib d)), (20, .m (ii i))] [(6, .live (.box (za3 t l q))), (8, .live (.box [cu 0, .v (.slice none 0 0)])), (9, .live (.box [cu 0, ci 0, cu 0])), (11, .live (.box [cu sz, .s xs.length 2 (fl xs)])), (12, .live (.box [cu cd, ci cp, cu f])), (1000, .live (.row 163 2 512 vr)), (1001, .live (.row 163 2 n vs))]
theorem zxe {cd cp sz f sh : Int} {xs : List (Int × Int)} {lv : Int → Int} (h : TI cd cp sz xs f sh lv) (h0 : f ≠ 0) (hn : xs.length ≤ 100000) {t a : Int} {q : Pte} (ha : U a) (ht : Al cd cp f t) (hq : q = atM sz xs t (idx a 1)) (h1 : za2 q = true) (h2 : zc5 q 1 = false) :
    Ok 147 [za6 sz xs, .ag [cu cd, ci cp, cu f], .ag (za3 t 1 q), iu a] (.tu [za6 sz (zga sz xs t (idx a 1) 1 q (cd + tzI f)), .ag [cu cd, ci cp, cu (zbr f (tzI f) 1 0)], ii 0]) := by
  obtain ⟨a0, a1, a2, a3⟩ := zdf h h0
  have b1 := h.bd
  have b2 := h.bp
  have bz := h.bz
  have bt := ht.1
  have hqU : q.U := by rw [hq]; exact zem h.u _ _ _
  have hqm : zfe q = true := by rw [hq]; exact zgk h.u
  have hf := zfx sz xs cd cp f (by omega) (by omega) h.bf h0 h.s (by omega) (fun c hc => by have := (h.r c hc).1; omega)
  rw [h.gm.wipe h0] at hf
  have hg : 0 ≤ cd + tzI f ∧ cd + tzI f < 1099511627776 := by omega
  have hgb : cd + tzI f ≤ 524352 := by omega
  have hgz : (cd + tzI f) * 4096 + 4096 ≤ sz := by omega
  have hi := idx_bd a 1
  have hpg : Ok 175 [ii 0] (.m (iu 1)) := zst 0 (by omega) (by omega)
  have hlU := zgf (n := cd + tzI f) (by omega)
  have hRs := zfu (g := cd + tzI f) (v := fun j => PteC.zbu (prt q 1 j)) h.s
  have hRl := zhz xs (cd + tzI f) (fun j => PteC.zbu (prt q 1 j))
  have hpf : ∀ i : Int, (0 ≤ i ∧ i < 512) → (prt q 1 i).U ∧ zfe (prt q 1 i) = true := fun i hi => ⟨(zcp hqU hqm (by omega) h1 h2 hi).1, (zcp hqU hqm (by omega) h1 h2 hi).2.1⟩
  have hnz : ∀ i : Nat, i < 512 → PteC.zbu (prt q 1 (i : Int)) ≠ 0 := fun i hi => by
    obtain ⟨p1, p2, p3, _⟩ := zcp hqU hqm (by omega) h1 h2 (i := (i : Int)) ⟨by omega, by omega⟩
    refine z0j p1 p2 ?_
    unfold za2 at p3
    simp only [Bool.and_eq_true] at p3
    exact p3.1
  have hfar0 : ∀ c ∈ xs, c.1 < (cd + tzI f) * 512 ∨ (cd + tzI f) * 512 + 512 ≤ c.1 := fun c hc => by
    have := (h.gm.take h0 (h.gm.c c hc).1).1
    omega
  have hfar : ∀ c ∈ xs, c.1 < (cd + tzI f) * 512 ∨ (cd + tzI f) * 512 + 512 ≤ c.1 := hfar0
  have hrw := rowW (v := fun j => PteC.zbu (prt q 1 j)) h.s hfar hnz
  have hfin := ze8 sz (zd2 xs (cd + tzI f) (fun j => PteC.zbu (prt q 1 j)) 512) t 1 q a (lnk (cd + tzI f)) ha hlU (zq5 (n := cd + tzI f) (by omega)) (by omega) (by omega) (by omega) (hRs 512) (by have := hRl 512; omega)
  rw [← zdd (sz := sz) hlU (by omega) hi (by rw [bz]; omega)] at hfin
  have hpb : 0 ≤ q.ppn ∧ q.ppn < 17592186044416 := by rw [hq]; exact zch ..
  have hRl := hRl 512
  unfold zga
  generalize hgen : cd + tzI f = g at *
  generalize zbr f (tzI f) 1 0 = f2 at *
  replace hfin : Ok 95 [.ag [cu sz, .s (zd2 xs g (fun j => PteC.zbu (prt q 1 j)) 512).length 2 (fl (zd2 xs g (fun j => PteC.zbu (prt q 1 j)) 512))], .ag (za3 t 1 q), iu a, .ag (⟨true, false, false, false, false, false, false, false, 0, g, 0⟩ : Pte).ce] (.m (za6 sz (zbf sz (zd2 xs g (fun j => PteC.zbu (prt q 1 j)) 512) t (idx a 1) (lnk g)))) := hfin
  generalize zbf sz (zd2 xs g (fun j => PteC.zbu (prt q 1 j)) 512) t (idx a 1) (lnk g) = fin at *
  refine zad 105 Tryz.func147 rfl rfl rfl rfl ?_ GG.to
  intro W A hG
  repeat (first | (refine zaj rfl ?_; first | refine zak ?_ | refine gdr (zaa rfl rfl rfl (hf) (by kernel_rfl)) ?_) | (refine hK _ ?_; clear hK K) | refine zac rfl ?_ | refine zae rfl rfl ?_ | refine zag ?_ | refine zai ?_ | refine zab (fun K hK => ?_))
  refine zay (α := Nat × Nat × List Value) (fun p => p.1 ≤ 512 ∧ p.2.1 = p.1 ∧ p.2.2 = fl (zli g (fun j => PteC.zbu (prt q 1 j)) p.1)) (fun p => rl1 sz cd cp a t 1 g q xs f2 p.1 p.2.1 p.2.2) (fun p => 512 - p.1) (0, 0, []) ⟨by show 0 ≤ 512; omega, rfl, rfl⟩ (Sub.trans (zc9 15 1000 163 2 rfl rfl) (zao _ _ ⟨by kernel_rfl, by kernel_rfl, by kernel_rfl, by kernel_rfl, by kernel_rfl, by kernel_rfl, by kernel_rfl, by kernel_rfl, by kernel_rfl, by kernel_rfl, trivial⟩ ⟨by kernel_rfl, by kernel_rfl, by kernel_rfl, by kernel_rfl, by kernel_rfl, by kernel_rfl, trivial⟩ (by kernel_rfl))) ?_
  rintro ⟨j, n, vs⟩ ⟨x1, x2, x3⟩
  replace x1 : j ≤ 512 := x1
  replace x2 : n = j := x2
  replace x3 : vs = fl (zli g (fun j => PteC.zbu (prt q 1 j)) j) := x3
  show Aw _ _ _ _ (rl1 sz cd cp a t 1 g q xs f2 j n vs)
  unfold rl1
  by_cases hlt : j < 512
  · obtain ⟨p1, p2⟩ := hpf (j : Int) ⟨by omega, by omega⟩
    have hpu := zq4 _ p1 p2
    have hpe : prt q 1 (j : Int) = ⟨q.v, q.r, q.w, q.x, q.u, q.g, q.a, q.d, q.rsw, q.ppn + (j : Int) * 1, q.high⟩ := rfl
    have x4 : vs ++ [.int .u64 (512 * g + (j : Int)), .int .u64 (PteC.zbu (prt q 1 (j : Int)))] = fl (zli g (fun j => PteC.zbu (prt q 1 j)) (j + 1)) := by
      rw [zo3, zd0, x3, show (512 : Int) * g = g * 512 by omega]; rfl
    replace hpu : Ok 149 [.ag (⟨q.v, q.r, q.w, q.x, q.u, q.g, q.a, q.d, q.rsw, q.ppn + (j : Int) * 1, q.high⟩ : Pte).ce] (.m (iu (PteC.zbu (prt q 1 (j : Int))))) := hpu
    generalize PteC.zbu (prt q 1 (j : Int)) = e at *
    clear hrw hfin hfar hnz hpf x3 hRs hRl hpe p1 p2 hq h1 h2
    repeat (first | (refine zaj rfl ?_; first | refine zak ?_ | refine gdr (zaa rfl rfl rfl (hpg) (by kernel_rfl)) ?_ | refine gdr (zaa rfl rfl rfl (hpu) (by kernel_rfl)) ?_) | (refine hK _ ?_; clear hK K) | refine zac rfl ?_ | refine zam (by kernel_rfl) (by kernel_rfl) rfl ?_ | refine zaf rfl rfl ?_ | refine zag ?_ | refine zai ?_ | refine zab (fun K hK => ?_))
    refine zaj rfl ?_
    refine zdg (za1 rfl rfl rfl rfl rfl rfl rfl rfl rfl rfl rfl rfl rfl (by omega)) (by kernel_rfl) ?_
    repeat (first | (refine zaj rfl ?_; first | refine zak ?_) | (refine hK _ ?_; clear hK K) | refine zac rfl ?_)
    exact ⟨(j + 1, n + 1, vs ++ [.int .u64 (512 * g + (j : Int)), .int .u64 e]), ⟨by show j + 1 ≤ 512; omega, by show n + 1 = j + 1; omega, x4⟩, by show 512 - (j + 1) < 512 - j; omega, Sub.trans (zao [(3, .m (iu a)), (6, .m (.c (.p 6 0))), (8, .m (.c (.p 8 0))), (9, .m (.c (.p 9 0))), (10, .m (ii 0)), (11, .m (.c (.p 11 0))), (12, .m (.c (.p 12 0))), (13, .m (iu g)), (15, .m (.c (.o 59))), (16, .m (iu ((j + 1 : Nat) : Int)))] [(6, .live (.box (za3 t 1 q))), (8, .live (.box [cu 0, .v (.slice none 0 0)])), (9, .live (.box [cu 0, ci 0, cu 0])), (11, .live (.box [cu sz, .s xs.length 2 (fl xs)])), (12, .live (.box [cu cd, ci cp, cu f2])), (59, .live (.row 163 2 (n + 1) (vs ++ [.int .u64 (512 * g + (j : Int)), .int .u64 e])))] ⟨by kernel_rfl, by kernel_rfl, by kernel_rfl, by kernel_rfl, by kernel_rfl, by kernel_rfl, by kernel_rfl, by kernel_rfl, by kernel_rfl, by kernel_rfl, trivial⟩ ⟨by kernel_rfl, by kernel_rfl, by kernel_rfl, by kernel_rfl, by kernel_rfl, by kernel_rfl, trivial⟩ (by kernel_rfl)) (Sub.trans (zb4 (b := 59) (b' := 1000) rfl rfl) (zao _ _ ⟨by kernel_rfl, by kernel_rfl, by kernel_rfl, by kernel_rfl, by kernel_rfl, by kernel_rfl, by kernel_rfl, by kernel_rfl, by kernel_rfl, by kernel_rfl, trivial⟩ ⟨by kernel_rfl, by kernel_rfl, by kernel_rfl, by kernel_rfl, by kernel_rfl, by kernel_rfl, trivial⟩ (by kernel_rfl)))⟩
  · obtain rfl : j = 512 := by omega
    obtain rfl : n = 512 := x2
    have hra : vs.all (·.oneCell') = true := by rw [x3]; exact zra _
    generalize zd2 xs g (fun j => PteC.zbu (prt q 1 j)) 512 = ys at *
    have hrl := zsu g (fun j => PteC.zbu (prt q 1 j)) 512
    generalize zli g (fun j => PteC.zbu (prt q 1 j)) 512 = row at *
    clear hfar hnz hpf hRs hlt x1 hfar0 hq h1 h2
    generalize vs = vr at *
    have b5 : 0 ≤ g * 512 := by omega
    repeat (first | (refine zaj rfl ?_; first | refine zak ?_) | (refine hK _ ?_; clear hK K) | (rename_i K1 hK1; refine hK1 _ ?_; clear hK hK1; clear K) | refine zac rfl ?_ | refine zae rfl rfl ?_ | refine zag ?_ | refine zal ?_ | refine zab (fun K hK => ?_))
    refine zay (α := Nat × Bool × Nat × List Value) (fun p => p.1 ≤ xs.length ∧ p.2.1 = ((xs.take p.1).foldl (zbj (g * 512) row) ([], false)).2 ∧ p.2.2.1 = ((xs.take p.1).foldl (zbj (g * 512) row) ([], false)).1.length ∧ p.2.2.2 = fl ((xs.take p.1).foldl (zbj (g * 512) row) ([], false)).1 ∧ p.2.2.1 ≤ p.1 + 512 ∧ (p.2.1 = false → p.2.2.1 ≤ p.1)) (fun p => rl2 sz cd cp a t 1 g q xs f2 vr p.2.1 p.1 p.2.2.1 p.2.2.2) (fun p => xs.length - p.1) (0, false, 0, []) ⟨Nat.zero_le _, rfl, rfl, rfl, by show 0 ≤ 0 + 512; omega, fun _ => Nat.le_refl _⟩ (Sub.trans (zc9 18 1001 163 2 rfl rfl) (zao _ _ ⟨by kernel_rfl, by kernel_rfl, by kernel_rfl, by kernel_rfl, by kernel_rfl, by kernel_rfl, by kernel_rfl, by kernel_rfl, by kernel_rfl, by kernel_rfl, by kernel_rfl, by kernel_rfl, trivial⟩ ⟨by kernel_rfl, by kernel_rfl, by kernel_rfl, by kernel_rfl, by kernel_rfl, by kernel_rfl, by kernel_rfl, trivial⟩ (by kernel_rfl))) ?_
    rintro ⟨i, d, n, vs⟩ ⟨z1, z2, z3, z4, z5, hlen⟩
    replace z1 : i ≤ xs.length := z1
    replace z2 : d = ((xs.take i).foldl (zbj (g * 512) row) ([], false)).2 := z2
    replace z3 : n = ((xs.take i).foldl (zbj (g * 512) row) ([], false)).1.length := z3
    replace z4 : vs = fl ((xs.take i).foldl (zbj (g * 512) row) ([], false)).1 := z4
    replace z5 : n ≤ i + 512 := z5
    replace hlen : d = false → n ≤ i := hlen
    show Aw _ _ _ _ (rl2 sz cd cp a t 1 g q xs f2 vr d i n vs)
    unfold rl2
    by_cases hlt : i < xs.length
    · obtain ⟨c, hci⟩ : ∃ c, xs[i]? = some c := ⟨_, List.getElem?_eq_getElem hlt⟩
      have hx := SpL.zic hci
      have hcr := (h.r c (List.mem_of_getElem? hci)).1
      have ht : (xs.take (i + 1)).foldl (zbj (g * 512) row) ([], false) = zbj (g * 512) row ((xs.take i).foldl (zbj (g * 512) row) ([], false)) c := by rw [List.take_add_one, hci, List.foldl_append]; rfl
      generalize (xs.take i).foldl (zbj (g * 512) row) ([], false) = st at *
      obtain ⟨acc, d'⟩ := st
      replace z2 : d = d' := z2
      subst z2
      replace z3 : n = acc.length := z3
      replace z4 : vs = fl acc := z4
      cases d with
      | true =>
        have ht : (xs.take (i + 1)).foldl (zbj (g * 512) row) ([], false) = (acc ++ [c], true) := by rw [ht]; unfold zbj; rw [if_neg (fun hh => by cases hh.1)]
        have z6 : n + 1 = ((xs.take (i + 1)).foldl (zbj (g * 512) row) ([], false)).1.length := by rw [ht, z3]; simp
        have z7 : vs ++ [.int .u64 c.1, .int .u64 c.2] = fl ((xs.take (i + 1)).foldl (zbj (g * 512) row) ([], false)).1 := by rw [ht, z4, zd0]; rfl
        have z8 : true = ((xs.take (i + 1)).foldl (zbj (g * 512) row) ([], false)).2 := by rw [ht]
        clear ht z3 z4 x3 hra hrw hfin hgen hf h hlen
        repeat (first | (refine zaj rfl ?_; first | refine zak ?_) | (refine hK _ ?_; clear hK K) | refine zac rfl ?_ | refine zaf rfl rfl ?_ | refine zae rfl rfl ?_ | refine zag ?_ | refine zai ?_ | refine zab (fun K hK => ?_))
        refine zaj rfl ?_
        refine zdg (za1 rfl rfl rfl rfl rfl rfl rfl rfl rfl rfl rfl rfl rfl (by omega)) (by kernel_rfl) ?_
        repeat (first | (refine zaj rfl ?_; first | refine zak ?_) | (refine hK _ ?_; clear hK K) | refine zac rfl ?_)
        exact ⟨(i + 1, true, n + 1, vs ++ [.int .u64 c.1, .int .u64 c.2]), ⟨by show i + 1 ≤ xs.length; omega, z8, z6, z7, by show n + 1 ≤ i + 1 + 512; omega, fun hh => by cases hh⟩, by show xs.length - (i + 1) < xs.length - i; omega, Sub.trans (zao [(3, .m (iu a)), (6, .m (.c (.p 6 0))), (8, .m (.c (.p 8 0))), (9, .m (.c (.p 9 0))), (10, .m (ii 0)), (11, .m (.c (.p 11 0))), (12, .m (.c (.p 12 0))), (13, .m (iu g)), (15, .m (.c (.o 1000))), (18, .m (.c (.o 90))), (19, .m (ib true)), (20, .m (ii ((i + 1 : Nat) : Int)))] [(6, .live (.box (za3 t 1 q))), (8, .live (.box [cu 0, .v (.slice none 0 0)])), (9, .live (.box [cu 0, ci 0, cu 0])), (11, .live (.box [cu sz, .s xs.length 2 (fl xs)])), (12, .live (.box [cu cd, ci cp, cu f2])), (1000, .live (.row 163 2 512 vr)), (90, .live (.row 163 2 (n + 1) (vs ++ [.int .u64 c.1, .int .u64 c.2])))] ⟨by kernel_rfl, by kernel_rfl, by kernel_rfl, by kernel_rfl, by kernel_rfl, by kernel_rfl, by kernel_rfl, by kernel_rfl, by kernel_rfl, by kernel_rfl, by kernel_rfl, by kernel_rfl, trivial⟩ ⟨by kernel_rfl, by kernel_rfl, by kernel_rfl, by kernel_rfl, by kernel_rfl, by kernel_rfl, by kernel_rfl, trivial⟩ (by kernel_rfl)) (Sub.trans (zb4 (b := 90) (b' := 1001) rfl rfl) (zao _ _ ⟨by kernel_rfl, by kernel_rfl, by kernel_rfl, by kernel_rfl, by kernel_rfl, by kernel_rfl, by kernel_rfl, by kernel_rfl, by kernel_rfl, by kernel_rfl, by kernel_rfl, by kernel_rfl, trivial⟩ ⟨by kernel_rfl, by kernel_rfl, by kernel_rfl, by kernel_rfl, by kernel_rfl, by kernel_rfl, by kernel_rfl, trivial⟩ (by kernel_rfl)))⟩
      | false =>
        by_cases hge : g * 512 ≤ c.1
        · replace ht : (xs.take (i + 1)).foldl (zbj (g * 512) row) ([], false) = (acc ++ row ++ [c], true) := by rw [ht]; unfold zbj; rw [if_pos ⟨rfl, hge⟩]
          have hni := hlen rfl
          have z6 : n + 512 + 1 = ((xs.take (i + 1)).foldl (zbj (g * 512) row) ([], false)).1.length := by rw [ht, z3, List.length_append, List.length_append, hrl]; rfl
          have z7 : vs ++ vr ++ [.int .u64 c.1, .int .u64 c.2] = fl ((xs.take (i + 1)).foldl (zbj (g * 512) row) ([], false)).1 := by rw [ht, z4, zd0, zd0, x3]; rfl
          have z8 : true = ((xs.take (i + 1)).foldl (zbj (g * 512) row) ([], false)).2 := by rw [ht]
          clear ht z3 z4 x3 hrw hfin hgen hf h hlen
          repeat (first | (refine zaj rfl ?_; first | refine zak ?_ | refine gdr (za1 rfl rfl rfl rfl rfl rfl rfl rfl rfl rfl rfl rfl hra (by omega)) ?_) | (refine hK _ ?_; clear hK K) | refine zac rfl ?_ | refine zaf rfl rfl ?_ | refine zag ?_ | refine zai ?_ | refine zab (fun K hK => ?_))
          refine zaj rfl ?_
          refine zdg (za1 rfl rfl rfl rfl rfl rfl rfl rfl rfl rfl rfl rfl rfl (by omega)) (by kernel_rfl) ?_
          repeat (first | (refine zaj rfl ?_; first | refine zak ?_) | (refine hK _ ?_; clear hK K) | refine zac rfl ?_)
          exact ⟨(i + 1, true, n + 512 + 1, vs ++ vr ++ [.int .u64 c.1, .int .u64 c.2]), ⟨by show i + 1 ≤ xs.length; omega, z8, z6, z7, by show n + 512 + 1 ≤ i + 1 + 512; omega, fun hh => by cases hh⟩, by show xs.length - (i + 1) < xs.length - i; omega, Sub.trans (zao [(3, .m (iu a)), (6, .m (.c (.p 6 0))), (8, .m (.c (.p 8 0))), (9, .m (.c (.p 9 0))), (10, .m (ii 0)), (11, .m (.c (.p 11 0))), (12, .m (.c (.p 12 0))), (13, .m (iu g)), (15, .m (.c (.o 1000))), (18, .m (.c (.o 90))), (19, .m (ib true)), (20, .m (ii ((i + 1 : Nat) : Int)))] [(6, .live (.box (za3 t 1 q))), (8, .live (.box [cu 0, .v (.slice none 0 0)])), (9, .live (.box [cu 0, ci 0, cu 0])), (11, .live (.box [cu sz, .s xs.length 2 (fl xs)])), (12, .live (.box [cu cd, ci cp, cu f2])), (1000, .live (.row 163 2 512 vr)), (90, .live (.row 163 2 (n + 512 + 1) (vs ++ vr ++ [.int .u64 c.1, .int .u64 c.2])))] ⟨by kernel_rfl, by kernel_rfl, by kernel_rfl, by kernel_rfl, by kernel_rfl, by kernel_rfl, by kernel_rfl, by kernel_rfl, by kernel_rfl, by kernel_rfl, by kernel_rfl, by kernel_rfl, trivial⟩ ⟨by kernel_rfl, by kernel_rfl, by kernel_rfl, by kernel_rfl, by kernel_rfl, by kernel_rfl, by kernel_rfl, trivial⟩ (by kernel_rfl)) (Sub.trans (zb4 (b := 90) (b' := 1001) rfl rfl) (zao _ _ ⟨by kernel_rfl, by kernel_rfl, by kernel_rfl, by kernel_rfl, by kernel_rfl, by kernel_rfl, by kernel_rfl, by kernel_rfl, by kernel_rfl, by kernel_rfl, by kernel_rfl, by kernel_rfl, trivial⟩ ⟨by kernel_rfl, by kernel_rfl, by kernel_rfl, by kernel_rfl, by kernel_rfl, by kernel_rfl, by kernel_rfl, trivial⟩ (by kernel_rfl)))⟩
        · replace ht : (xs.take (i + 1)).foldl (zbj (g * 512) row) ([], false) = (acc ++ [c], false) := by rw [ht]; unfold zbj; rw [if_neg (fun hh => hge hh.2)]
          have hni := hlen rfl
          have z6 : n + 1 = ((xs.take (i + 1)).foldl (zbj (g * 512) row) ([], false)).1.length := by rw [ht, z3]; simp
          have z7 : vs ++ [.int .u64 c.1, .int .u64 c.2] = fl ((xs.take (i + 1)).foldl (zbj (g * 512) row) ([], false)).1 := by rw [ht, z4, zd0]; rfl
          have z8 : false = ((xs.take (i + 1)).foldl (zbj (g * 512) row) ([], false)).2 := by rw [ht]
          clear ht z3 z4 x3 hra hrw hfin hgen hf h hlen
          repeat (first | (refine zaj rfl ?_; first | refine zak ?_) | (refine hK _ ?_; clear hK K) | refine zac rfl ?_ | refine zaf rfl rfl ?_ | refine zae rfl rfl ?_ | refine zag ?_ | refine zai ?_ | refine zab (fun K hK => ?_))
          refine zaj rfl ?_
          refine zdg (za1 rfl rfl rfl rfl rfl rfl rfl rfl rfl rfl rfl rfl rfl (by omega)) (by kernel_rfl) ?_
          repeat (first | (refine zaj rfl ?_; first | refine zak ?_) | (refine hK _ ?_; clear hK K) | refine zac rfl ?_)
          exact ⟨(i + 1, false, n + 1, vs ++ [.int .u64 c.1, .int .u64 c.2]), ⟨by show i + 1 ≤ xs.length; omega, z8, z6, z7, by show n + 1 ≤ i + 1 + 512; omega, fun hh => by show n + 1 ≤ i + 1; omega⟩, by show xs.length - (i + 1) < xs.length - i; omega, Sub.trans (zao [(3, .m (iu a)), (6, .m (.c (.p 6 0))), (8, .m (.c (.p 8 0))), (9, .m (.c (.p 9 0))), (10, .m (ii 0)), (11, .m (.c (.p 11 0))), (12, .m (.c (.p 12 0))), (13, .m (iu g)), (15, .m (.c (.o 1000))), (18, .m (.c (.o 90))), (19, .m (ib false)), (20, .m (ii ((i + 1 : Nat) : Int)))] [(6, .live (.box (za3 t 1 q))), (8, .live (.box [cu 0, .v (.slice none 0 0)])), (9, .live (.box [cu 0, ci 0, cu 0])), (11, .live (.box [cu sz, .s xs.length 2 (fl xs)])), (12, .live (.box [cu cd, ci cp, cu f2])), (1000, .live (.row 163 2 512 vr)), (90, .live (.row 163 2 (n + 1) (vs ++ [.int .u64 c.1, .int .u64 c.2])))] ⟨by kernel_rfl, by kernel_rfl, by kernel_rfl, by kernel_rfl, by kernel_rfl, by kernel_rfl, by kernel_rfl, by kernel_rfl, by kernel_rfl, by kernel_rfl, by kernel_rfl, by kernel_rfl, trivial⟩ ⟨by kernel_rfl, by kernel_rfl, by kernel_rfl, by kernel_rfl, by kernel_rfl, by kernel_rfl, by kernel_rfl, trivial⟩ (by kernel_rfl)) (Sub.trans (zb4 (b := 90) (b' := 1001) rfl rfl) (zao _ _ ⟨by kernel_rfl, by kernel_rfl, by kernel_rfl, by kernel_rfl, by kernel_rfl, by kernel_rfl, by kernel_rfl, by kernel_rfl, by kernel_rfl, by kernel_rfl, by kernel_rfl, by kernel_rfl, trivial⟩ ⟨by kernel_rfl, by kernel_rfl, by kernel_rfl, by kernel_rfl, by kernel_rfl, by kernel_rfl, by kernel_rfl, trivial⟩ (by kernel_rfl)))⟩
    · obtain rfl : i = xs.length := by omega
      rw [List.take_length] at z2 z3 z4
      generalize xs.foldl (zbj (g * 512) row) ([], false) = st at *
      obtain ⟨acc, d'⟩ := st
      replace z2 : d = d' := z2
      subst z2
      replace z3 : n = acc.length := z3
      replace z4 : vs = fl acc := z4
      cases d with
      | true =>
        replace hrw : acc = ys := hrw
        rw [← hrw, ← z3, ← z4] at hfin
        clear z3 z4 x3 hra hrw hgen hf h hlen hrl hRl
        repeat (first | (refine zaj rfl ?_; first | refine zak ?_) | (refine hK _ ?_; clear hK K) | (rename_i K1 hK1; refine hK1 _ ?_; clear hK hK1; clear K) | refine zac rfl ?_ | refine zam (by kernel_rfl) (by kernel_rfl) rfl ?_ | refine zae rfl rfl ?_ | refine zal ?_ | refine zai ?_ | refine zab (fun K hK => ?_))
        refine zaj rfl ?_
        refine zdg (zb8 (b := 1001) (l := [.ag [cu sz, .o 1001], .ag (za3 t 1 q), iu a, .ag (⟨true, false, false, false, false, false, false, false, 0, g, 0⟩ : Pte).ce]) rfl rfl rfl (by kernel_rfl) rfl (by kernel_rfl) (zdo (by kernel_rfl) hfin)) (by kernel_rfl) ?_
        repeat (first | (refine zaj rfl ?_; first | refine zak ?_) | (refine hK _ ?_; clear hK K) | exact zah (show zar _ _ _ = some _ by kernel_rfl))
      | false =>
        have hni := hlen rfl
        replace hrw : acc ++ row = ys := hrw
        have e1 : ys.length = n + 512 := by rw [← hrw, List.length_append, hrl, z3]
        have e2 : fl ys = vs ++ vr := by rw [← hrw, zd0, z4, x3]
        rw [e1, e2] at hfin
        clear z3 z4 x3 hrw hgen hf h hlen hrl hRl e1 e2
        repeat (first | (refine zaj rfl ?_; first | refine zak ?_ | refine gdr (za1 rfl rfl rfl rfl rfl rfl rfl rfl rfl rfl rfl rfl hra (by omega)) ?_) | (refine hK _ ?_; clear hK K) | (rename_i K1 hK1; refine hK1 _ ?_; clear hK hK1; clear K) | refine zac rfl ?_ | refine zam (by kernel_rfl) (by kernel_rfl) rfl ?_ | refine zaf rfl rfl ?_ | refine zae rfl rfl ?_ | refine zal ?_ | refine zab (fun K hK => ?_))
        refine zaj rfl ?_
        refine zdg (zb8 (b := 95) (l := [.ag [cu sz, .o 95], .ag (za3 t 1 q), iu a, .ag (⟨true, false, false, false, false, false, false, false, 0, g, 0⟩ : Pte).ce]) rfl rfl rfl (by kernel_rfl) rfl (by kernel_rfl) (zdo (by kernel_rfl) hfin)) (by kernel_rfl) ?_
        repeat (first | (refine zaj rfl ?_; first | refine zak ?_) | (refine hK _ ?_; clear hK K) | exact zah (show zar _ _ _ = some _ by kernel_rfl))
theorem zxf {cd cp sz f sh : Int} {xs : List (Int × Int)} {lv : Int → Int} (h : TI cd cp sz xs f sh lv) (h0 : f ≠ 0) (hn : xs.length ≤ 100000) {t a : Int} {q : Pte} (ha : U a) (ht : Al cd cp f t) (hq : q = atM sz xs t (idx a 2)) (h1 : za2 q = true) (h2 : zc5 q 2 = false) :
    Ok 147 [za6 sz xs, .ag [cu cd, ci cp, cu f], .ag (za3 t 2 q), iu a] (.tu [za6 sz (zga sz xs t (idx a 2) 2 q (cd + tzI f)), .ag [cu cd, ci cp, cu (zbr f (tzI f) 1 0)], ii 0]) := by
  obtain ⟨a0, a1, a2, a3⟩ := zdf h h0
  have b1 := h.bd
  have b2 := h.bp
  have bz := h.bz
  have bt := ht.1
  have hqU : q.U := by rw [hq]; exact zem h.u _ _ _
  have hqm : zfe q = true := by rw [hq]; exact zgk h.u
  have hf := zfx sz xs cd cp f (by omega) (by omega) h.bf h0 h.s (by omega) (fun c hc => by have := (h.r c hc).1; omega)
  rw [h.gm.wipe h0] at hf
  have hg : 0 ≤ cd + tzI f ∧ cd + tzI f < 1099511627776 := by omega
  have hgb : cd + tzI f ≤ 524352 := by omega
  have hgz : (cd + tzI f) * 4096 + 4096 ≤ sz := by omega
  have hi := idx_bd a 2
  have hpg : Ok 175 [ii 1] (.m (iu 512)) := zst 1 (by omega) (by omega)
  have hlU := zgf (n := cd + tzI f) (by omega)
  have hRs := zfu (g := cd + tzI f) (v := fun j => PteC.zbu (prt q 2 j)) h.s
  have hRl := zhz xs (cd + tzI f) (fun j => PteC.zbu (prt q 2 j))
  have hpf : ∀ i : Int, (0 ≤ i ∧ i < 512) → (prt q 2 i).U ∧ zfe (prt q 2 i) = true := fun i hi => ⟨(zcp hqU hqm (by omega) h1 h2 hi).1, (zcp hqU hqm (by omega) h1 h2 hi).2.1⟩
  have hnz : ∀ i : Nat, i < 512 → PteC.zbu (prt q 2 (i : Int)) ≠ 0 := fun i hi => by
    obtain ⟨p1, p2, p3, _⟩ := zcp hqU hqm (by omega) h1 h2 (i := (i : Int)) ⟨by omega, by omega⟩
    refine z0j p1 p2 ?_
    unfold za2 at p3
    simp only [Bool.and_eq_true] at p3
    exact p3.1
  have hfar0 : ∀ c ∈ xs, c.1 < (cd + tzI f) * 512 ∨ (cd + tzI f) * 512 + 512 ≤ c.1 := fun c hc => by
    have := (h.gm.take h0 (h.gm.c c hc).1).1
    omega
  have hfar : ∀ c ∈ xs, c.1 < (cd + tzI f) * 512 ∨ (cd + tzI f) * 512 + 512 ≤ c.1 := hfar0
  have hrw := rowW (v := fun j => PteC.zbu (prt q 2 j)) h.s hfar hnz
  have hfin := ze8 sz (zd2 xs (cd + tzI f) (fun j => PteC.zbu (prt q 2 j)) 512) t 2 q a (lnk (cd + tzI f)) ha hlU (zq5 (n := cd + tzI f) (by omega)) (by omega) (by omega) (by omega) (hRs 512) (by have := hRl 512; omega)
  rw [← zdd (sz := sz) hlU (by omega) hi (by rw [bz]; omega)] at hfin
  have hpb : 0 ≤ q.ppn ∧ q.ppn < 17592186044416 := by rw [hq]; exact zch ..
  have hRl := hRl 512
  unfold zga
  generalize hgen : cd + tzI f = g at *
  generalize zbr f (tzI f) 1 0 = f2 at *
  replace hfin : Ok 95 [.ag [cu sz, .s (zd2 xs g (fun j => PteC.zbu (prt q 2 j)) 512).length 2 (fl (zd2 xs g (fun j => PteC.zbu (prt q 2 j)) 512))], .ag (za3 t 2 q), iu a, .ag (⟨true, false, false, false, false, false, false, false, 0, g, 0⟩ : Pte).ce] (.m (za6 sz (zbf sz (zd2 xs g (fun j => PteC.zbu (prt q 2 j)) 512) t (idx a 2) (lnk g)))) := hfin
  generalize zbf sz (zd2 xs g (fun j => PteC.zbu (prt q 2 j)) 512) t (idx a 2) (lnk g) = fin at *
  refine zad 105 Tryz.func147 rfl rfl rfl rfl ?_ GG.to
  intro W A hG
  repeat (first | (refine zaj rfl ?_; first | refine zak ?_ | refine gdr (zaa rfl rfl rfl (hf) (by kernel_rfl)) ?_) | (refine hK _ ?_; clear hK K) | refine zac rfl ?_ | refine zae rfl rfl ?_ | refine zag ?_ | refine zai ?_ | refine zab (fun K hK => ?_))
  refine zay (α := Nat × Nat × List Value) (fun p => p.1 ≤ 512 ∧ p.2.1 = p.1 ∧ p.2.2 = fl (zli g (fun j => PteC.zbu (prt q 2 j)) p.1)) (fun p => rl1 sz cd cp a t 2 g q xs f2 p.1 p.2.1 p.2.2) (fun p => 512 - p.1) (0, 0, []) ⟨by show 0 ≤ 512; omega, rfl, rfl⟩ (Sub.trans (zc9 15 1000 163 2 rfl rfl) (zao _ _ ⟨by kernel_rfl, by kernel_rfl, by kernel_rfl, by kernel_rfl, by kernel_rfl, by kernel_rfl, by kernel_rfl, by kernel_rfl, by kernel_rfl, by kernel_rfl, trivial⟩ ⟨by kernel_rfl, by kernel_rfl, by kernel_rfl, by kernel_rfl, by kernel_rfl, by kernel_rfl, trivial⟩ (by kernel_rfl))) ?_
  rintro ⟨j, n, vs⟩ ⟨x1, x2, x3⟩
  replace x1 : j ≤ 512 := x1
  replace x2 : n = j := x2
  replace x3 : vs = fl (zli g (fun j => PteC.zbu (prt q 2 j)) j) := x3
  show Aw _ _ _ _ (rl1 sz cd cp a t 2 g q xs f2 j n vs)
  unfold rl1
  by_cases hlt : j < 512
  · obtain ⟨p1, p2⟩ := hpf (j : Int) ⟨by omega, by omega⟩
    have hpu := zq4 _ p1 p2
    have hpe : prt q 2 (j : Int) = ⟨q.v, q.r, q.w, q.x, q.u, q.g, q.a, q.d, q.rsw, q.ppn + (j : Int) * 512, q.high⟩ := rfl
    have x4 : vs ++ [.int .u64 (512 * g + (j : Int)), .int .u64 (PteC.zbu (prt q 2 (j : Int)))] = fl (zli g (fun j => PteC.zbu (prt q 2 j)) (j + 1)) := by
      rw [zo3, zd0, x3, show (512 : Int) * g = g * 512 by omega]; rfl
    replace hpu : Ok 149 [.ag (⟨q.v, q.r, q.w, q.x, q.u, q.g, q.a, q.d, q.rsw, q.ppn + (j : Int) * 512, q.high⟩ : Pte).ce] (.m (iu (PteC.zbu (prt q 2 (j : Int))))) := hpu
    generalize PteC.zbu (prt q 2 (j : Int)) = e at *
    clear hrw hfin hfar hnz hpf x3 hRs hRl hpe p1 p2 hq h1 h2
    repeat (first | (refine zaj rfl ?_; first | refine zak ?_ | refine gdr (zaa rfl rfl rfl (hpg) (by kernel_rfl)) ?_ | refine gdr (zaa rfl rfl rfl (hpu) (by kernel_rfl)) ?_) | (refine hK _ ?_; clear hK K) | refine zac rfl ?_ | refine zam (by kernel_rfl) (by kernel_rfl) rfl ?_ | refine zaf rfl rfl ?_ | refine zag ?_ | refine zai ?_ | refine zab (fun K hK => ?_))
    refine zaj rfl ?_
    refine zdg (za1 rfl rfl rfl rfl rfl rfl rfl rfl rfl rfl rfl rfl rfl (by omega)) (by kernel_rfl) ?_
    repeat (first | (refine zaj rfl ?_; first | refine zak ?_) | (refine hK _ ?_; clear hK K) | refine zac rfl ?_)
    exact ⟨(j + 1, n + 1, vs ++ [.int .u64 (512 * g + (j : Int)), .int .u64 e]), ⟨by show j + 1 ≤ 512; omega, by show n + 1 = j + 1; omega, x4⟩, by show 512 - (j + 1) < 512 - j; omega, Sub.trans (zao [(3, .m (iu a)), (6, .m (.c (.p 6 0))), (8, .m (.c (.p 8 0))), (9, .m (.c (.p 9 0))), (10, .m (ii 0)), (11, .m (.c (.p 11 0))), (12, .m (.c (.p 12 0))), (13, .m (iu g)), (15, .m (.c (.o 59))), (16, .m (iu ((j + 1 : Nat) : Int)))] [(6, .live (.box (za3 t 2 q))), (8, .live (.box [cu 0, .v (.slice none 0 0)])), (9, .live (.box [cu 0, ci 0, cu 0])), (11, .live (.box [cu sz, .s xs.length 2 (fl xs)])), (12, .live (.box [cu cd, ci cp, cu f2])), (59, .live (.row 163 2 (n + 1) (vs ++ [.int .u64 (512 * g + (j : Int)), .int .u64 e])))] ⟨by kernel_rfl, by kernel_rfl, by kernel_rfl, by kernel_rfl, by kernel_rfl, by kernel_rfl, by kernel_rfl, by kernel_rfl, by kernel_rfl, by kernel_rfl, trivial⟩ ⟨by kernel_rfl, by kernel_rfl, by kernel_rfl, by kernel_rfl, by kernel_rfl, by kernel_rfl, trivial⟩ (by kernel_rfl)) (Sub.trans (zb4 (b := 59) (b' := 1000) rfl rfl) (zao _ _ ⟨by kernel_rfl, by kernel_rfl, by kernel_rfl, by kernel_rfl, by kernel_rfl, by kernel_rfl, by kernel_rfl, by kernel_rfl, by kernel_rfl, by kernel_rfl, trivial⟩ ⟨by kernel_rfl, by kernel_rfl, by kernel_rfl, by kernel_rfl, by kernel_rfl, by kernel_rfl, trivial⟩ (by kernel_rfl)))⟩
  · obtain rfl : j = 512 := by omega
    obtain rfl : n = 512 := x2
    have hra : vs.all (·.oneCell') = true := by rw [x3]; exact zra _
    generalize zd2 xs g (fun j => PteC.zbu (prt q 2 j)) 512 = ys at *
    have hrl := zsu g (fun j => PteC.zbu (prt q 2 j)) 512
    generalize zli g (fun j => PteC.zbu (prt q 2 j)) 512 = row at *
    clear hfar hnz hpf hRs hlt x1 hfar0 hq h1 h2
    generalize vs = vr at *
    have b5 : 0 ≤ g * 512 := by omega
    repeat (first | (refine zaj rfl ?_; first | refine zak ?_) | (refine hK _ ?_; clear hK K) | (rename_i K1 hK1; refine hK1 _ ?_; clear hK hK1; clear K) | refine zac rfl ?_ | refine zae rfl rfl ?_ | refine zag ?_ | refine zal ?_ | refine zab (fun K hK => ?_))
    refine zay (α := Nat × Bool × Nat × List Value) (fun p => p.1 ≤ xs.length ∧ p.2.1 = ((xs.take p.1).foldl (zbj (g * 512) row) ([], false)).2 ∧ p.2.2.1 = ((xs.take p.1).foldl (zbj (g * 512) row) ([], false)).1.length ∧ p.2.2.2 = fl ((xs.take p.1).foldl (zbj (g * 512) row) ([], false)).1 ∧ p.2.2.1 ≤ p.1 + 512 ∧ (p.2.1 = false → p.2.2.1 ≤ p.1)) (fun p => rl2 sz cd cp a t 2 g q xs f2 vr p.2.1 p.1 p.2.2.1 p.2.2.2) (fun p => xs.length - p.1) (0, false, 0, []) ⟨Nat.zero_le _, rfl, rfl, rfl, by show 0 ≤ 0 + 512; omega, fun _ => Nat.le_refl _⟩ (Sub.trans (zc9 18 1001 163 2 rfl rfl) (zao _ _ ⟨by kernel_rfl, by kernel_rfl, by kernel_rfl, by kernel_rfl, by kernel_rfl, by kernel_rfl, by kernel_rfl, by kernel_rfl, by kernel_rfl, by kernel_rfl, by kernel_rfl, by kernel_rfl, trivial⟩ ⟨by kernel_rfl, by kernel_rfl, by kernel_rfl, by kernel_rfl, by kernel_rfl, by kernel_rfl, by kernel_rfl, trivial⟩ (by kernel_rfl))) ?_
    rintro ⟨i, d, n, vs⟩ ⟨z1, z2, z3, z4, z5, hlen⟩
    replace z1 : i ≤ xs.length := z1
    replace z2 : d = ((xs.take i).foldl (zbj (g * 512) row) ([], false)).2 := z2
    replace z3 : n = ((xs.take i).foldl (zbj (g * 512) row) ([], false)).1.length := z3
    replace z4 : vs = fl ((xs.take i).foldl (zbj (g * 512) row) ([], false)).1 := z4
    replace z5 : n ≤ i + 512 := z5
    replace hlen : d = false → n ≤ i := hlen
    show Aw _ _ _ _ (rl2 sz cd cp a t 2 g q xs f2 vr d i n vs)
    unfold rl2
    by_cases hlt : i < xs.length
    · obtain ⟨c, hci⟩ : ∃ c, xs[i]? = some c := ⟨_, List.getElem?_eq_getElem hlt⟩
      have hx := SpL.zic hci
      have hcr := (h.r c (List.mem_of_getElem? hci)).1
      have ht : (xs.take (i + 1)).foldl (zbj (g * 512) row) ([], false) = zbj (g * 512) row ((xs.take i).foldl (zbj (g * 512) row) ([], false)) c := by rw [List.take_add_one, hci, List.foldl_append]; rfl
      generalize (xs.take i).foldl (zbj (g * 512) row) ([], false) = st at *
      obtain ⟨acc, d'⟩ := st
      replace z2 : d = d' := z2
      subst z2
      replace z3 : n = acc.length := z3
      replace z4 : vs = fl acc := z4
      cases d with
      | true =>
        have ht : (xs.take (i + 1)).foldl (zbj (g * 512) row) ([], false) = (acc ++ [c], true) := by rw [ht]; unfold zbj; rw [if_neg (fun hh => by cases hh.1)]
        have z6 : n + 1 = ((xs.take (i + 1)).foldl (zbj (g * 512) row) ([], false)).1.length := by rw [ht, z3]; simp
        have z7 : vs ++ [.int .u64 c.1, .int .u64 c.2] = fl ((xs.take (i + 1)).foldl (zbj (g * 512) row) ([], false)).1 := by rw [ht, z4, zd0]; rfl
        have z8 : true = ((xs.take (i + 1)).foldl (zbj (g * 512) row) ([], false)).2 := by rw [ht]
        clear ht z3 z4 x3 hra hrw hfin hgen hf h hlen
        repeat (first | (refine zaj rfl ?_; first | refine zak ?_) | (refine hK _ ?_; clear hK K) | refine zac rfl ?_ | refine zaf rfl rfl ?_ | refine zae rfl rfl ?_ | refine zag ?_ | refine zai ?_ | refine zab (fun K hK => ?_))
        refine zaj rfl ?_
        refine zdg (za1 rfl rfl rfl rfl rfl rfl rfl rfl rfl rfl rfl rfl rfl (by omega)) (by kernel_rfl) ?_
        repeat (first | (refine zaj rfl ?_; first | refine zak ?_) | (refine hK _ ?_; clear hK K) | refine zac rfl ?_)
        exact ⟨(i + 1, true, n + 1, vs ++ [.int .u64 c.1, .int .u64 c.2]), ⟨by show i + 1 ≤ xs.length; omega, z8, z6, z7, by show n + 1 ≤ i + 1 + 512; omega, fun hh => by cases hh⟩, by show xs.length - (i + 1) < xs.length - i; omega, Sub.trans (zao [(3, .m (iu a)), (6, .m (.c (.p 6 0))), (8, .m (.c (.p 8 0))), (9, .m (.c (.p 9 0))), (10, .m (ii 0)), (11, .m (.c (.p 11 0))), (12, .m (.c (.p 12 0))), (13, .m (iu g)), (15, .m (.c (.o 1000))), (18, .m (.c (.o 90))), (19, .m (ib true)), (20, .m (ii ((i + 1 : Nat) : Int)))] [(6, .live (.box (za3 t 2 q))), (8, .live (.box [cu 0, .v (.slice none 0 0)])), (9, .live (.box [cu 0, ci 0, cu 0])), (11, .live (.box [cu sz, .s xs.length 2 (fl xs)])), (12, .live (.box [cu cd, ci cp, cu f2])), (1000, .live (.row 163 2 512 vr)), (90, .live (.row 163 2 (n + 1) (vs ++ [.int .u64 c.1, .int .u64 c.2])))] ⟨by kernel_rfl, by kernel_rfl, by kernel_rfl, by kernel_rfl, by kernel_rfl, by kernel_rfl, by kernel_rfl, by kernel_rfl, by kernel_rfl, by kernel_rfl, by kernel_rfl, by kernel_rfl, trivial⟩ ⟨by kernel_rfl, by kernel_rfl, by kernel_rfl, by kernel_rfl, by kernel_rfl, by kernel_rfl, by kernel_rfl, trivial⟩ (by kernel_rfl)) (Sub.trans (zb4 (b := 90) (b' := 1001) rfl rfl) (zao _ _ ⟨by kernel_rfl, by kernel_rfl, by kernel_rfl, by kernel_rfl, by kernel_rfl, by kernel_rfl, by kernel_rfl, by kernel_rfl, by kernel_rfl, by kernel_rfl, by kernel_rfl, by kernel_rfl, trivial⟩ ⟨by kernel_rfl, by kernel_rfl, by kernel_rfl, by kernel_rfl, by kernel_rfl, by kernel_rfl, by kernel_rfl, trivial⟩ (by kernel_rfl)))⟩
      | false =>
        by_cases hge : g * 512 ≤ c.1
        · replace ht : (xs.take (i + 1)).foldl (zbj (g * 512) row) ([], false) = (acc ++ row ++ [c], true) := by rw [ht]; unfold zbj; rw [if_pos ⟨rfl, hge⟩]
          have hni := hlen rfl
          have z6 : n + 512 + 1 = ((xs.take (i + 1)).foldl (zbj (g * 512) row) ([], false)).1.length := by rw [ht, z3, List.length_append, List.length_append, hrl]; rfl
          have z7 : vs ++ vr ++ [.int .u64 c.1, .int .u64 c.2] = fl ((xs.take (i + 1)).foldl (zbj (g * 512) row) ([], false)).1 := by rw [ht, z4, zd0, zd0, x3]; rfl
          have z8 : true = ((xs.take (i + 1)).foldl (zbj (g * 512) row) ([], false)).2 := by rw [ht]
          clear ht z3 z4 x3 hrw hfin hgen hf h hlen
          repeat (first | (refine zaj rfl ?_; first | refine zak ?_ | refine gdr (za1 rfl rfl rfl rfl rfl rfl rfl rfl rfl rfl rfl rfl hra (by omega)) ?_) | (refine hK _ ?_; clear hK K) | refine zac rfl ?_ | refine zaf rfl rfl ?_ | refine zag ?_ | refine zai ?_ | refine zab (fun K hK => ?_))
          refine zaj rfl ?_
          refine zdg (za1 rfl rfl rfl rfl rfl rfl rfl rfl rfl rfl rfl rfl rfl (by omega)) (by kernel_rfl) ?_
          repeat (first | (refine zaj rfl ?_; first | refine zak ?_) | (refine hK _ ?_; clear hK K) | refine zac rfl ?_)
          exact ⟨(i + 1, true, n + 512 + 1, vs ++ vr ++ [.int .u64 c.1, .int .u64 c.2]), ⟨by show i + 1 ≤ xs.length; omega, z8, z6, z7, by show n + 512 + 1 ≤ i + 1 + 512; omega, fun hh => by cases hh⟩, by show xs.length - (i + 1) < xs.length - i; omega, Sub.trans (zao [(3, .m (iu a)), (6, .m (.c (.p 6 0))), (8, .m (.c (.p 8 0))), (9, .m (.c (.p 9 0))), (10, .m (ii 0)), (11, .m (.c (.p 11 0))), (12, .m (.c (.p 12 0))), (13, .m (iu g)), (15, .m (.c (.o 1000))), (18, .m (.c (.o 90))), (19, .m (ib true)), (20, .m (ii ((i + 1 : Nat) : Int)))] [(6, .live (.box (za3 t 2 q))), (8, .live (.box [cu 0, .v (.slice none 0 0)])), (9, .live (.box [cu 0, ci 0, cu 0])), (11, .live (.box [cu sz, .s xs.length 2 (fl xs)])), (12, .live (.box [cu cd, ci cp, cu f2])), (1000, .live (.row 163 2 512 vr)), (90, .live (.row 163 2 (n + 512 + 1) (vs ++ vr ++ [.int .u64 c.1, .int .u64 c.2])))] ⟨by kernel_rfl, by kernel_rfl, by kernel_rfl, by kernel_rfl, by kernel_rfl, by kernel_rfl, by kernel_rfl, by kernel_rfl, by kernel_rfl, by kernel_rfl, by kernel_rfl, by kernel_rfl, trivial⟩ ⟨by kernel_rfl, by kernel_rfl, by kernel_rfl, by kernel_rfl, by kernel_rfl, by kernel_rfl, by kernel_rfl, trivial⟩ (by kernel_rfl)) (Sub.trans (zb4 (b := 90) (b' := 1001) rfl rfl) (zao _ _ ⟨by kernel_rfl, by kernel_rfl, by kernel_rfl, by kernel_rfl, by kernel_rfl, by kernel_rfl, by kernel_rfl, by kernel_rfl, by kernel_rfl, by kernel_rfl, by kernel_rfl, by kernel_rfl, trivial⟩ ⟨by kernel_rfl, by kernel_rfl, by kernel_rfl, by kernel_rfl, by kernel_rfl, by kernel_rfl, by kernel_rfl, trivial⟩ (by kernel_rfl)))⟩
        · replace ht : (xs.take (i + 1)).foldl (zbj (g * 512) row) ([], false) = (acc ++ [c], false) := by rw [ht]; unfold zbj; rw [if_neg (fun hh => hge hh.2)]
          have hni := hlen rfl
          have z6 : n + 1 = ((xs.take (i + 1)).foldl (zbj (g * 512) row) ([], false)).1.length := by rw [ht, z3]; simp
          have z7 : vs ++ [.int .u64 c.1, .int .u64 c.2] = fl ((xs.take (i + 1)).foldl (zbj (g * 512) row) ([], false)).1 := by rw [ht, z4, zd0]; rfl
          have z8 : false = ((xs.take (i + 1)).foldl (zbj (g * 512) row) ([], false)).2 := by rw [ht]
          clear ht z3 z4 x3 hra hrw hfin hgen hf h hlen
          repeat (first | (refine zaj rfl ?_; first | refine zak ?_) | (refine hK _ ?_; clear hK K) | refine zac rfl ?_ | refine zaf rfl rfl ?_ | refine zae rfl rfl ?_ | refine zag ?_ | refine zai ?_ | refine zab (fun K hK => ?_))
          refine zaj rfl ?_
          refine zdg (za1 rfl rfl rfl rfl rfl rfl rfl rfl rfl rfl rfl rfl rfl (by omega)) (by kernel_rfl) ?_
          repeat (first | (refine zaj rfl ?_; first | refine zak ?_) | (refine hK _ ?_; clear hK K) | refine zac rfl ?_)
          exact ⟨(i + 1, false, n + 1, vs ++ [.int .u64 c.1, .int .u64 c.2]), ⟨by show i + 1 ≤ xs.length; omega, z8, z6, z7, by show n + 1 ≤ i + 1 + 512; omega, fun hh => by show n + 1 ≤ i + 1; omega⟩, by show xs.length - (i + 1) < xs.length - i; omega, Sub.trans (zao [(3, .m (iu a)), (6, .m (.c (.p 6 0))), (8, .m (.c (.p 8 0))), (9, .m (.c (.p 9 0))), (10, .m (ii 0)), (11, .m (.c (.p 11 0))), (12, .m (.c (.p 12 0))), (13, .m (iu g)), (15, .m (.c (.o 1000))), (18, .m (.c (.o 90))), (19, .m (ib false)), (20, .m (ii ((i + 1 : Nat) : Int)))] [(6, .live (.box (za3 t 2 q))), (8, .live (.box [cu 0, .v (.slice none 0 0)])), (9, .live (.box [cu 0, ci 0, cu 0])), (11, .live (.box [cu sz, .s xs.length 2 (fl xs)])), (12, .live (.box [cu cd, ci cp, cu f2])), (1000, .live (.row 163 2 512 vr)), (90, .live (.row 163 2 (n + 1) (vs ++ [.int .u64 c.1, .int .u64 c.2])))] ⟨by kernel_rfl, by kernel_rfl, by kernel_rfl, by kernel_rfl, by kernel_rfl, by kernel_rfl, by kernel_rfl, by kernel_rfl, by kernel_rfl, by kernel_rfl, by kernel_rfl, by kernel_rfl, trivial⟩ ⟨by kernel_rfl, by kernel_rfl, by kernel_rfl, by kernel_rfl, by kernel_rfl, by kernel_rfl, by kernel_rfl, trivial⟩ (by kernel_rfl)) (Sub.trans (zb4 (b := 90) (b' := 1001) rfl rfl) (zao _ _ ⟨by kernel_rfl, by kernel_rfl, by kernel_rfl, by kernel_rfl, by kernel_rfl, by kernel_rfl, by kernel_rfl, by kernel_rfl, by kernel_rfl, by kernel_rfl, by kernel_rfl, by kernel_rfl, trivial⟩ ⟨by kernel_rfl, by kernel_rfl, by kernel_rfl, by kernel_rfl, by kernel_rfl, by kernel_rfl, by kernel_rfl, trivial⟩ (by kernel_rfl)))⟩
    · obtain rfl : i = xs.length := by omega
      rw [List.take_length] at z2 z3 z4
      generalize xs.foldl (zbj (g * 512) row) ([], false) = st at *
      obtain ⟨acc, d'⟩ := st
      replace z2 : d = d' := z2
      subst z2
      replace z3 : n = acc.length := z3
      replace z4 : vs = fl acc := z4
      cases d with
      | true =>
        replace hrw : acc = ys := hrw
        rw [← hrw, ← z3, ← z4] at hfin
        clear z3 z4 x3 hra hrw hgen hf h hlen hrl hRl
        repeat (first | (refine zaj rfl ?_; first | refine zak ?_) | (refine hK _ ?_; clear hK K) | (rename_i K1 hK1; refine hK1 _ ?_; clear hK hK1; clear K) | refine zac rfl ?_ | refine zam (by kernel_rfl) (by kernel_rfl) rfl ?_ | refine zae rfl rfl ?_ | refine zal ?_ | refine zai ?_ | refine zab (fun K hK => ?_))
        refine zaj rfl ?_
        refine zdg (zb8 (b := 1001) (l := [.ag [cu sz, .o 1001], .ag (za3 t 2 q), iu a, .ag (⟨true, false, false, false, false, false, false, false, 0, g, 0⟩ : Pte).ce]) rfl rfl rfl (by kernel_rfl) rfl (by kernel_rfl) (zdo (by kernel_rfl) hfin)) (by kernel_rfl) ?_
        repeat (first | (refine zaj rfl ?_; first | refine zak ?_) | (refine hK _ ?_; clear hK K) | exact zah (show zar _ _ _ = some _ by kernel_rfl))
      | false =>
        have hni := hlen rfl
        replace hrw : acc ++ row = ys := hrw
        have e1 : ys.length = n + 512 := by rw [← hrw, List.length_append, hrl, z3]
        have e2 : fl ys = vs ++ vr := by rw [← hrw, zd0, z4, x3]
        rw [e1, e2] at hfin
        clear z3 z4 x3 hrw hgen hf h hlen hrl hRl e1 e2
        repeat (first | (refine zaj rfl ?_; first | refine zak ?_ | refine gdr (za1 rfl rfl rfl rfl rfl rfl rfl rfl rfl rfl rfl rfl hra (by omega)) ?_) | (refine hK _ ?_; clear hK K) | (rename_i K1 hK1; refine hK1 _ ?_; clear hK hK1; clear K) | refine zac rfl ?_ | refine zam (by kernel_rfl) (by kernel_rfl) rfl ?_ | refine zaf rfl rfl ?_ | refine zae rfl rfl ?_ | refine zal ?_ | refine zab (fun K hK => ?_))
        refine zaj rfl ?_
        refine zdg (zb8 (b := 95) (l := [.ag [cu sz, .o 95], .ag (za3 t 2 q), iu a, .ag (⟨true, false, false, false, false, false, false, false, 0, g, 0⟩ : Pte).ce]) rfl rfl rfl (by kernel_rfl) rfl (by kernel_rfl) (zdo (by kernel_rfl) hfin)) (by kernel_rfl) ?_
        repeat (first | (refine zaj rfl ?_; first | refine zak ?_) | (refine hK _ ?_; clear hK K) | exact zah (show zar _ _ _ = some _ by kernel_rfl))
end Go.Proofs.YtmkjfeamgknpfaaGreatDoor.LkC
namespace Go.Proofs.YtmkjfeamgknpfaaGreatDoor.LkD
open Go.RowKit Bv VaSpec Base MemL RegR Ax MemC PutC MemC3 TzC OkS SpA SpB SpC SpF SpH SpI SpJ LaA LaB LaC LaD LaE LaF LaG LiA LiB LiC LiD LiE LiF SpL SpN SpO RfA RfB RfC RfD RlA RlB LjB LjC LkA LkB LkC
open BitsC PteSpec
set_option maxRecDepth 10000
set_option maxHeartbeats 1000000
theorem zzu (cd cp sz : Int) (xs : List (Int × Int)) (t l : Int) (q : Pte) (a : Int) (hm : 0 ≤ cp ∧ cp ≤ 64) : Ok 147 [za6 sz xs, .ag [cu cd, ci cp, cu 0], .ag (za3 t l q), iu a] (.tu [za6 sz xs, .ag [cu cd, ci cp, cu 0], ii 8]) := by
  have hf := zkd sz xs cd cp hm
  refine zad 105 Tryz.func147 rfl rfl rfl rfl ?_ GG.to
  intro W A hG
  repeat (first | (refine zaj rfl ?_; first | refine zak ?_ | refine gdr (zaa rfl rfl rfl (hf) (by kernel_rfl)) ?_) | (refine hK _ ?_; clear hK K) | refine zac rfl ?_ | refine zam (by kernel_rfl) (by kernel_rfl) rfl ?_ | exact zah (show zar _ _ _ = some _ by kernel_rfl) | refine zaf rfl rfl ?_ | refine zab (fun K hK => ?_))
def z56 (sz cd cp top lv addr zau : Int) (xs0 : List (Int × Int)) (f0 : Int) (xs : List (Int × Int)) (f : Int) : St := St.of [(2, .m (iu top)), (3, .m (ii lv)), (4, .m (iu addr)), (5, .m (ii zau)), (6, .m (.c (.p 6 0))), (7, .m (.c (.p 7 0))), (12, .m (.c (.p 12 0))), (13, .m (.c (.p 13 0))), (14, .m (.c (.p 14 0))), (15, .m (ii 0)), (16, .m (.c (.p 16 0))), (17, .m (.c (.p 17 0)))] [(6, .live (.box [cu sz, .s xs0.length 2 (fl xs0)])), (7, .live (.box [cu cd, ci cp, cu f0])), (12, .live (.box [cu 0, .v (.slice none 0 0)])), (13, .live (.box [cu 0, ci 0, cu 0])), (14, .live (.box (za3 0 0 zP))), (16, .live (.box [cu sz, .s xs.length 2 (fl xs)])), (17, .live (.box [cu cd, ci cp, cu f]))]
theorem z0p {cd cp sz sh : Int} (top addr zau : Int) (l : Nat) (xs0 : List (Int × Int)) (f0 : Int) (lv0 : Int → Int) (h : TI cd cp sz xs0 f0 sh lv0) (ht : Al cd cp f0 top) (hsh : Al cd cp f0 sh) (hlt : lv0 top = l) (ha : U addr) (hl : l ≤ 2) (hw : 0 ≤ zau) (hwl : zau ≤ (l : Int)) (hn : xs0.length ≤ 90000)
    (R : List (Int × Int) × Int × (Int × Int) × Int) (hR : R = toN sz cd addr zau top l l xs0 f0) :
    Ok 91 [za6 sz xs0, .ag [cu cd, ci cp, cu f0], iu top, ii l, iu addr, ii zau]
      (.tu (if R.2.2.2 = 0 then [za6 sz R.1, .ag [cu cd, ci cp, cu R.2.1], .ag (zfp sz R.1 addr R.2.2.1), ii 0] else [za6 sz xs0, .ag [cu cd, ci cp, cu f0], .ag (za3 0 0 zP), ii R.2.2.2])) := by
  have hcd := h.bd
  have hcp := h.bp
  obtain ⟨V, hV⟩ : ∃ V, V = (if R.2.2.2 = 0 then [za6 sz R.1, .ag [cu cd, ci cp, cu R.2.1], .ag (zfp sz R.1 addr R.2.2.1), ii 0] else [za6 sz xs0, .ag [cu cd, ci cp, cu f0], .ag (za3 0 0 zP), ii R.2.2.2]) := ⟨_, rfl⟩
  rw [← hV]
  have hcl : (zcl (.tu V) && [za6 sz xs0, .ag [cu cd, ci cp, cu f0], iu top, ii l, iu addr, ii zau].all zcd) = true := by
    rw [hV]; split <;> rfl
  refine zad 60 Tryz.func91 rfl hcl rfl rfl ?_ GG.to
  intro W A hG
  repeat (first | (refine zaj rfl ?_; first | refine zak ?_) | (refine hK _ ?_; clear hK K) | refine zac rfl ?_ | refine zag ?_ | refine zab (fun K hK => ?_))
  obtain ⟨r0, r1, r2, r3, r4, r5, r6, _⟩ := zci h addr zau hw l top ht hlt hwl
  refine zay (α := Nat × List (Int × Int) × Int × (Int → Int)) (fun q => TI cd cp sz q.2.1 q.2.2.1 sh q.2.2.2 ∧ Al cd cp q.2.2.1 top ∧ Al cd cp q.2.2.1 sh ∧ q.2.2.2 top = l ∧ q.2.1.length + 513 * q.1 ≤ 100000 ∧ toN sz cd addr zau top l q.1 q.2.1 q.2.2.1 = R ∧ (zav sz q.2.1 addr zau l top).2 ≤ zau + q.1)
    (fun q => z56 sz cd cp top l addr zau xs0 f0 q.2.1 q.2.2.1) (fun q => q.1) (l, xs0, f0, lv0) ⟨h, ht, hsh, hlt, by show xs0.length + 513 * l ≤ _; omega, hR.symm, by show (zav sz xs0 addr zau l top).2 ≤ zau + l; rw [r2]; show (r0 : Int) ≤ _; omega⟩ (zao _ _ ⟨by kernel_rfl, by kernel_rfl, by kernel_rfl, by kernel_rfl, by kernel_rfl, by kernel_rfl, by kernel_rfl, by kernel_rfl, by kernel_rfl, by kernel_rfl, by kernel_rfl, by kernel_rfl, trivial⟩ ⟨by kernel_rfl, by kernel_rfl, by kernel_rfl, by kernel_rfl, by kernel_rfl, by kernel_rfl, by kernel_rfl, trivial⟩ (by kernel_rfl)) ?_
  clear r2 r3 r4 r5 r6
  rintro ⟨n, xs, f, lv⟩ ⟨x1, x2, x3, x4, x5, x6, x7⟩
  have g1 : TI cd cp sz xs f sh lv := x1
  have g2 : Al cd cp f top := x2
  have g3 : Al cd cp f sh := x3
  have g4 : lv top = l := x4
  have g5 : xs.length + 513 * n ≤ 100000 := x5
  have g6 : toN sz cd addr zau top l n xs f = R := x6
  have g7 : (zav sz xs addr zau l top).2 ≤ zau + (n : Int) := x7
  clear x1 x2 x3 x4 x5 x6 x7
  show Aw _ _ _ _ (z56 sz cd cp top l addr zau xs0 f0 xs f)
  unfold z56
  obtain ⟨l', t', i1, i2, i3, i4, i5, i6, i7⟩ := zci g1 addr zau hw l top g2 g4 hwl
  have ub := g1.u
  have bt := g2.1
  have bt' := i4.1
  have hr := zew sz xs addr zau ha hw g1.s ub (by omega) l top hl ⟨by omega, by omega⟩
  rw [i1] at hr
  rw [i1] at g7
  have g7 : (l' : Int) ≤ zau + (n : Int) := g7
  have hi := idx_bd addr (l' : Int)
  have hstop : ((l' : Int) = zau ∨ za2 (atM sz xs t' (idx addr (l' : Int))) = false) → R = (xs, f, (t', (l' : Int)), 0) := fun hor => by
    rw [← g6]
    cases n with
    | zero => show (xs, f, zav sz xs addr zau l top, 0) = _; rw [i1]
    | succ n => unfold toN; rw [i1, if_pos hor]
  have hgo : ¬ ((l' : Int) = zau ∨ za2 (atM sz xs t' (idx addr (l' : Int))) = false) → ∃ m, n = m + 1 ∧ R = if f = 0 then (xs, f, (t', (l' : Int)), 8) else toN sz cd addr zau top l m (zga sz xs t' (idx addr (l' : Int)) (l' : Int) (atM sz xs t' (idx addr (l' : Int))) (cd + tzI f)) (zbr f (tzI f) 1 0) := fun hor => by
    cases n with
    | zero => exact absurd (.inl (by omega)) hor
    | succ n => exact ⟨n, rfl, by rw [← g6, zss, i1, if_neg hor]⟩
  have h3 := zgc (atM sz xs t' (idx addr (l' : Int)))
  have hk := g1.e.k t' _ hi
  obtain ⟨q, hq⟩ : ∃ q, q = atM sz xs t' (idx addr (l' : Int)) := ⟨_, rfl⟩
  unfold zfp at hr
  rw [show (t', (l' : Int)).1 = t' from rfl, show (t', (l' : Int)).2 = (l' : Int) from rfl] at hr
  by_cases c1 : (l' : Int) = zau
  · have e := hstop (.inl c1)
    subst e
    have hV : V = [za6 sz xs, .ag [cu cd, ci cp, cu f], .ag (za3 t' (l' : Int) (atM sz xs t' (idx addr (l' : Int)))), ii 0] := hV
    rw [← hq] at hV hr h3
    subst hV
    repeat (first | (refine zaj rfl ?_; first | refine zak ?_ | refine gdr (zaa rfl rfl rfl (hr) (by kernel_rfl)) ?_) | (refine hK _ ?_; clear hK K) | refine zac rfl ?_ | refine zam (by kernel_rfl) (by kernel_rfl) rfl ?_ | exact zah (show zar _ _ _ = some _ by kernel_rfl) | refine zaf rfl rfl ?_ | refine zag ?_ | refine zab (fun K hK => ?_))
  · cases hlf : za2 (atM sz xs t' (idx addr (l' : Int))) with
    | false =>
      have e := hstop (.inr hlf)
      subst e
      have hV : V = [za6 sz xs, .ag [cu cd, ci cp, cu f], .ag (za3 t' (l' : Int) (atM sz xs t' (idx addr (l' : Int)))), ii 0] := hV
      rw [hlf] at h3
      rw [← hq] at hV hr h3
      subst hV
      repeat (first | (refine zaj rfl ?_; first | refine zak ?_ | refine gdr (zaa rfl rfl rfl (hr) (by kernel_rfl)) ?_ | refine gdr (zaa rfl rfl rfl (h3) (by kernel_rfl)) ?_) | (refine hK _ ?_; clear hK K) | refine zac rfl ?_ | refine zam (by kernel_rfl) (by kernel_rfl) rfl ?_ | exact zah (show zar _ _ _ = some _ by kernel_rfl) | refine zaf rfl rfl ?_ | refine zag ?_ | refine zab (fun K hK => ?_))
    | true =>
      rw [hlf] at h3
      obtain ⟨m, rfl, e⟩ := hgo (by rw [hlf]; rintro (e | e); exact c1 e; cases e)
      have hbad : zc5 (atM sz xs t' (idx addr (l' : Int))) (l' : Int) = false := by
        rcases hk with e | ⟨_, _, ⟨_, e⟩ | ⟨e, _⟩⟩
        · rw [e] at hlf; cases hlf
        · rw [i5] at e; exact e
        · rw [(zco e).2.2] at hlf; cases hlf
      by_cases c4 : f = 0
      · rw [if_pos c4] at e
        subst e
        subst c4
        have hV : V = [za6 sz xs0, .ag [cu cd, ci cp, cu f0], .ag (za3 0 0 zP), ii 8] := hV
        subst hV
        have hlo := zzu cd cp sz xs t' (l' : Int) q addr ⟨by omega, by omega⟩
        rw [← hq] at hr h3
        repeat (first | (refine zaj rfl ?_; first | refine zak ?_ | refine gdr (zaa rfl rfl rfl (hr) (by kernel_rfl)) ?_ | refine gdr (zaa rfl rfl rfl (h3) (by kernel_rfl)) ?_ | refine gdr (zaa rfl rfl rfl (hlo) (by kernel_rfl)) ?_) | (refine hK _ ?_; clear hK K) | refine zac rfl ?_ | refine zam (by kernel_rfl) (by kernel_rfl) rfl ?_ | exact zah (show zar _ _ _ = some _ by kernel_rfl) | refine zaf rfl rfl ?_ | refine zae rfl rfl ?_ | refine zag ?_ | refine zai ?_ | refine zab (fun K hK => ?_))
      · rw [if_neg c4] at e
        obtain ⟨a0, a1, a2, a3⟩ := zdf g1 c4
        clear hk hgo hstop
        obtain ⟨p, rfl⟩ := Nat.exists_eq_add_one_of_ne_zero (show l' ≠ 0 from fun e => c1 (by rw [e] at i3 ⊢; exact Int.le_antisymm hw i3))
        have hT := zot g1 c4 i4 g3 hi i5 (by omega) rfl hlf hbad
        obtain ⟨s1, s2⟩ := zha g1 c4 addr zau hw i4 i5 (by omega) (by omega) hlf hbad
        have hre := (i7 _ s1).trans s2
        have hsl := zqp sz xs t' (idx addr ((p + 1 : Nat) : Int)) ((p + 1 : Nat) : Int) (atM sz xs t' (idx addr ((p + 1 : Nat) : Int))) (cd + tzI f)
        have hlo : Ok 147 [za6 sz xs, .ag [cu cd, ci cp, cu f], .ag (za3 t' ((p + 1 : Nat) : Int) (atM sz xs t' (idx addr ((p + 1 : Nat) : Int)))), iu addr] (.tu [za6 sz (zga sz xs t' (idx addr ((p + 1 : Nat) : Int)) ((p + 1 : Nat) : Int) (atM sz xs t' (idx addr ((p + 1 : Nat) : Int))) (cd + tzI f)), .ag [cu cd, ci cp, cu (zbr f (tzI f) 1 0)], ii 0]) := by
          rcases (by omega : p = 0 ∨ p = 1) with rfl | rfl
          · exact zxe g1 c4 (by omega) ha i4 rfl hlf hbad
          · exact zxf g1 c4 (by omega) ha i4 rfl hlf hbad
        have htop := (if_neg (a0 _ g2).2 : upL lv (cd + tzI f) (((p + 1 : Nat) : Int) - 1) top = lv top).trans g4
        generalize zga sz xs t' (idx addr ((p + 1 : Nat) : Int)) ((p + 1 : Nat) : Int) (atM sz xs t' (idx addr ((p + 1 : Nat) : Int))) (cd + tzI f) = xs2 at *
        rw [← hq] at hr h3 hlo
        repeat (first | (refine zaj rfl ?_; first | refine zak ?_ | refine gdr (zaa rfl rfl rfl (hr) (by kernel_rfl)) ?_ | refine gdr (zaa rfl rfl rfl (h3) (by kernel_rfl)) ?_ | refine gdr (zaa rfl rfl rfl (hlo) (by kernel_rfl)) ?_) | (refine hK _ ?_; clear hK K) | refine zac rfl ?_ | refine zae rfl rfl ?_ | refine zag ?_ | refine zai ?_ | refine zab (fun K hK => ?_))
        exact ⟨(m, xs2, zbr f (tzI f) 1 0, upL lv (cd + tzI f) (((p + 1 : Nat) : Int) - 1)), ⟨hT, (a0 _ g2).1, (a0 _ g3).1, htop, by show xs2.length + 513 * m ≤ 100000; omega, e.symm, by show (zav sz xs2 addr zau l top).2 ≤ zau + (m : Int); rw [hre]; show (p : Int) ≤ _; omega⟩, by show m < m + 1; omega, zao _ _ ⟨by kernel_rfl, by kernel_rfl, by kernel_rfl, by kernel_rfl, by kernel_rfl, by kernel_rfl, by kernel_rfl, by kernel_rfl, by kernel_rfl, by kernel_rfl, by kernel_rfl, by kernel_rfl, trivial⟩ ⟨by kernel_rfl, by kernel_rfl, by kernel_rfl, by kernel_rfl, by kernel_rfl, by kernel_rfl, by kernel_rfl, trivial⟩ (by kernel_rfl)⟩
end Go.Proofs.YtmkjfeamgknpfaaGreatDoor.LkD
namespace Go.Proofs.YtmkjfeamgknpfaaGreatDoor.LjA
open Go.RowKit Bv VaSpec Base MemL RegR Ax MemC PutC MemC3 TzC OkS SpA SpB SpC SpD SpE SpF SpG SpH SpI SpJ SpK SpN SpO RfA RfB RfC RfD RlA RlB LaA LaB LaC LaD LaE LaF LaG LaH LiA LiB LiC LiD LiE LiF
open BitsC PteSpec
set_option maxRecDepth 10000
set_option maxHeartbeats 1000000
theorem zzv (a : Int) : Ok 45 [iu a] (.m (.ag [cb true, cu a, cb false, cu 0])) := by
  refine zad 5 Tryz.func45 rfl rfl rfl rfl ?_ GG.to
  intro W A hG
  repeat (first | (refine zaj rfl ?_; first | refine zak ?_) | (refine hK _ ?_; clear hK K) | refine zac rfl ?_ | exact zah (show zar _ _ _ = some _ by kernel_rfl) | refine zab (fun K hK => ?_))
theorem z47 (n a : Int) : Ok 47 [iu n, iu a] (.m (.ag [cb true, cu a, cb true, cu n])) := by
  refine zad 8 Tryz.func47 rfl rfl rfl rfl ?_ GG.to
  intro W A hG
  repeat (first | (refine zaj rfl ?_; first | refine zak ?_) | (refine hK _ ?_; clear hK K) | refine zac rfl ?_ | exact zah (show zar _ _ _ = some _ by kernel_rfl) | refine zab (fun K hK => ?_))
theorem z2z (n a : Int) : zbv Tryz.prog GG 46 [spB 2000 [cu n]] [iu a, .c (.p 2000 0)] (.m (.ag [cb true, cu a, cb true, cu n])) := by
  refine zby 7 Tryz.func46 rfl rfl rfl rfl rfl ?_
  intro W A τ hG
  repeat (first | (refine zaj rfl ?_; first | refine zak ?_ | refine gdr (zaa rfl rfl rfl (z47 n a) rfl) ?_) | (refine hK _ ?_; clear hK K) | refine zac rfl ?_ | refine zab (fun K hK => ?_) | refine zah (show zar _ _ _ = some _ ∧ EndB _ _ from ⟨by kernel_rfl, ?_⟩))
  exact ⟨⟨_, rfl, rfl⟩, trivial⟩
theorem zsv {a l : Int} (ha : U a) (l0 : 0 ≤ l) (l2 : l ≤ 2) : U (VaSpec.base a l) := by
  obtain ⟨a0, a1⟩ := ha
  unfold VaSpec.base
  rcases (by omega : l = 0 ∨ l = 1 ∨ l = 2) with rfl | rfl | rfl
  · simp only [show VaSpec.sz 0 = 4096 from rfl]; exact ⟨by omega, by omega⟩
  · simp only [show VaSpec.sz 1 = 2097152 from rfl]; exact ⟨by omega, by omega⟩
  · simp only [show VaSpec.sz 2 = 1073741824 from rfl]; exact ⟨by omega, by omega⟩
theorem zo4 (sz : Int) (xs : List (Int × Int)) (t l : Int) (q : Pte) (a : Int) (ha : U a) (hs : Srt xs) (hu : Uw xs) (hq : 0 ≤ q.ppn ∧ q.ppn < 17592186044416) (l0 : 0 ≤ l) (l2 : l ≤ 2) (hl : zbc q = true → 1 ≤ l) :
    Ok 40 [za6 sz xs, .ag (za3 t l q), iu a] (.m (.c (.s (zax sz xs l q (VaSpec.base a l)).length 8 (flP (zax sz xs l q (VaSpec.base a l)))))) := by
  have hbU : U (VaSpec.base a l) := zsv ha l0 l2
  have h1 := zf5 q
  have h2 := zf2 q
  have h3 := zml q
  have h5 := zg3 a l ha l0 l2
  cases hlf : za2 q with
  | true =>
    have e : zax sz xs l q (VaSpec.base a l) = [⟨VaSpec.base a l, q.ppn * 4096, l, q.r, q.w, q.x, q.u, q.d⟩] := by unfold zax; rw [hlf]; rfl
    rw [e, zmk]
    rw [hlf] at h1
    refine zad 45 Tryz.func40 rfl rfl rfl rfl ?_ GG.to
    intro W A hG
    repeat (first | (refine zaj rfl ?_; first | refine zak ?_ | refine gdr (zaa rfl rfl rfl (h1) (by kernel_rfl)) ?_ | refine gdr (zaa rfl rfl rfl (h3) (by kernel_rfl)) ?_ | refine gdr (zaa rfl rfl rfl (h5) (by kernel_rfl)) ?_) | (refine hK _ ?_; clear hK K) | refine zac rfl ?_ | refine zam (by kernel_rfl) (by kernel_rfl) rfl ?_ | exact zah (show zar _ _ _ = some _ by kernel_rfl) | refine zaf rfl rfl ?_ | refine zag ?_ | refine zab (fun K hK => ?_))
  | false =>
    rw [hlf] at h1
    cases hlk : zbc q with
    | true =>
      rw [hlk] at h2
      have e : zax sz xs l q (VaSpec.base a l) = zbg sz xs (l - 1).toNat q.ppn (VaSpec.base a l) := by unfold zax; rw [hlf, hlk]; rfl
      rw [e]
      rcases (by have := hl hlk; omega : l = 1 ∨ l = 2) with rfl | rfl
      · have h4 := zqm sz xs hs hu q.ppn (VaSpec.base a 1) hq hbU
        rw [show ((1 : Int) - 1).toNat = 0 by decide]
        refine zad 45 Tryz.func40 rfl rfl rfl rfl ?_ GG.to
        intro W A hG
        repeat (first | (refine zaj rfl ?_; first | refine zak ?_ | refine gdr (zaa rfl rfl rfl (h1) (by kernel_rfl)) ?_ | refine gdr (zaa rfl rfl rfl (h2) (by kernel_rfl)) ?_ | refine gdr (zaa rfl rfl rfl (h4) (by kernel_rfl)) ?_ | refine gdr (zaa rfl rfl rfl (h5) (by kernel_rfl)) ?_) | (refine hK _ ?_; clear hK K) | refine zac rfl ?_ | refine zam (by kernel_rfl) (by kernel_rfl) rfl ?_ | exact zah (show zar _ _ _ = some _ by kernel_rfl) | refine zaf rfl rfl ?_ | refine zae rfl rfl ?_ | refine zag ?_ | refine zab (fun K hK => ?_))
      · have h4 := zmt sz xs hs hu q.ppn (VaSpec.base a 2) hq hbU
        rw [show ((2 : Int) - 1).toNat = 1 by decide]
        refine zad 45 Tryz.func40 rfl rfl rfl rfl ?_ GG.to
        intro W A hG
        repeat (first | (refine zaj rfl ?_; first | refine zak ?_ | refine gdr (zaa rfl rfl rfl (h1) (by kernel_rfl)) ?_ | refine gdr (zaa rfl rfl rfl (h2) (by kernel_rfl)) ?_ | refine gdr (zaa rfl rfl rfl (h4) (by kernel_rfl)) ?_ | refine gdr (zaa rfl rfl rfl (h5) (by kernel_rfl)) ?_) | (refine hK _ ?_; clear hK K) | refine zac rfl ?_ | refine zam (by kernel_rfl) (by kernel_rfl) rfl ?_ | exact zah (show zar _ _ _ = some _ by kernel_rfl) | refine zaf rfl rfl ?_ | refine zae rfl rfl ?_ | refine zag ?_ | refine zab (fun K hK => ?_))
    | false =>
      rw [hlk] at h2
      have e : zax sz xs l q (VaSpec.base a l) = [] := by unfold zax; rw [hlf, hlk]; rfl
      rw [e]
      refine zdu (r := .m (.c (.v (.slice none 0 0)))) ?_ rfl (zj7 8)
      refine zad 45 Tryz.func40 rfl rfl rfl rfl ?_ GG.to
      intro W A hG
      repeat (first | (refine zaj rfl ?_; first | refine zak ?_ | refine gdr (zaa rfl rfl rfl (h1) (by kernel_rfl)) ?_ | refine gdr (zaa rfl rfl rfl (h2) (by kernel_rfl)) ?_) | (refine hK _ ?_; clear hK K) | refine zac rfl ?_ | exact zah (show zar _ _ _ = some _ by kernel_rfl) | refine zae rfl rfl ?_ | refine zag ?_ | refine zai ?_ | refine zab (fun K hK => ?_))
theorem zki (sz : Int) (xs : List (Int × Int)) (t l : Int) (q : Pte) (a : Int) (ha : U a) (hs : Srt xs) (hu : Uw xs) (hn : xs.length ≤ 1000000) (hq : 0 ≤ q.ppn ∧ q.ppn < 17592186044416) (l0 : 0 ≤ l) (l2 : l ≤ 2) (hl : zbc q = true → 1 ≤ l) :
    Ok 44 [za6 sz xs, .ag (za3 t l q), iu a] (.m (.c (.s (zax sz xs l q (a)).length 8 (flP (zax sz xs l q (a)))))) := by
  have hbU : U (a) := by exact ha
  have h1 := zgc q
  have h2 := ziw q
  have h3 := zsm q
  cases hlf : za2 q with
  | true =>
    have e : zax sz xs l q (a) = [⟨a, 4096 * q.ppn, l, q.r, q.w, q.x, q.u, q.d⟩] := by unfold zax; rw [hlf]; rw [Int.mul_comm]; rfl
    rw [e, zmk]
    rw [hlf] at h1
    refine zad 37 Tryz.func44 rfl rfl rfl rfl ?_ GG.to
    intro W A hG
    repeat (first | (refine zaj rfl ?_; first | refine zak ?_ | refine gdr (zaa rfl rfl rfl (h1) (by kernel_rfl)) ?_ | refine gdr (zaa rfl rfl rfl (h3) (by kernel_rfl)) ?_) | (refine hK _ ?_; clear hK K) | refine zac rfl ?_ | refine zam (by kernel_rfl) (by kernel_rfl) rfl ?_ | exact zah (show zar _ _ _ = some _ by kernel_rfl) | refine zaf rfl rfl ?_ | refine zab (fun K hK => ?_))
  | false =>
    rw [hlf] at h1
    cases hlk : zbc q with
    | true =>
      rw [hlk] at h2
      have e : zax sz xs l q (a) = zbg sz xs (l - 1).toNat q.ppn (a) := by unfold zax; rw [hlf, hlk]; rfl
      rw [e]
      rcases (by have := hl hlk; omega : l = 1 ∨ l = 2) with rfl | rfl
      · have h4 := zm8 sz xs hs hu hn q.ppn (a) hq hbU
        rw [show ((1 : Int) - 1).toNat = 0 by decide]
        refine zad 37 Tryz.func44 rfl rfl rfl rfl ?_ GG.to
        intro W A hG
        repeat (first | (refine zaj rfl ?_; first | refine zak ?_ | refine gdr (zaa rfl rfl rfl (h1) (by kernel_rfl)) ?_ | refine gdr (zaa rfl rfl rfl (h2) (by kernel_rfl)) ?_ | refine gdr (zaa rfl rfl rfl (h4) (by kernel_rfl)) ?_) | (refine hK _ ?_; clear hK K) | refine zac rfl ?_ | exact zah (show zar _ _ _ = some _ by kernel_rfl) | refine zaf rfl rfl ?_ | refine zae rfl rfl ?_ | refine zai ?_ | refine zab (fun K hK => ?_))
      · have h4 := zsp sz xs hs hu hn q.ppn (a) hq hbU
        rw [show ((2 : Int) - 1).toNat = 1 by decide]
        refine zad 37 Tryz.func44 rfl rfl rfl rfl ?_ GG.to
        intro W A hG
        repeat (first | (refine zaj rfl ?_; first | refine zak ?_ | refine gdr (zaa rfl rfl rfl (h1) (by kernel_rfl)) ?_ | refine gdr (zaa rfl rfl rfl (h2) (by kernel_rfl)) ?_ | refine gdr (zaa rfl rfl rfl (h4) (by kernel_rfl)) ?_) | (refine hK _ ?_; clear hK K) | refine zac rfl ?_ | exact zah (show zar _ _ _ = some _ by kernel_rfl) | refine zaf rfl rfl ?_ | refine zae rfl rfl ?_ | refine zai ?_ | refine zab (fun K hK => ?_))
    | false =>
      rw [hlk] at h2
      have e : zax sz xs l q (a) = [] := by unfold zax; rw [hlf, hlk]; rfl
      rw [e]
      refine zdu (r := .m (.c (.v (.slice none 0 0)))) ?_ rfl (zj7 8)
      refine zad 37 Tryz.func44 rfl rfl rfl rfl ?_ GG.to
      intro W A hG
      repeat (first | (refine zaj rfl ?_; first | refine zak ?_ | refine gdr (zaa rfl rfl rfl (h1) (by kernel_rfl)) ?_ | refine gdr (zaa rfl rfl rfl (h2) (by kernel_rfl)) ?_) | (refine hK _ ?_; clear hK K) | refine zac rfl ?_ | exact zah (show zar _ _ _ = some _ by kernel_rfl) | refine zae rfl rfl ?_ | refine zai ?_ | refine zab (fun K hK => ?_))
theorem zxg {n : Nat} {k : Kr} {id a l : Int} (h : InvT n k) (he : (zas k id a l).2.2 = 0) : ∃ (l' : Nat) (t' : Int), zbs k.sz k.m a l (zas k id a l).2.1 (zas k id a l).1 = (t', (l' : Int)) ∧ l' ≤ 2 ∧ l ≤ (l' : Int) ∧ Al k.cd k.cp k.pf t' ∧ (zbc (atM k.sz k.m t' (idx a (l' : Int))) = true → 1 ≤ (l' : Int)) := by
  obtain ⟨lv, hT, hs, hr⟩ := h.t
  obtain ⟨w1, w2, w3, w4⟩ := zbt (id := id) (a := a) (l := l) h.l he
  obtain ⟨z1, _⟩ := h.top (id := id) (a := a) (l := l) he hs hr
  generalize zas k id a l = w at *
  obtain ⟨l', t', i1, i2, i3, i4, i5, i6, _⟩ := zci hT a l w1.1 w.2.1.toNat w.1 w2 (by omega) (by omega)
  refine ⟨l', t', i1, by omega, i3, i4, fun hlk => ?_⟩
  rcases hT.e.k t' _ (idx_bd a (l' : Int)) with e | ⟨_, _, ⟨e, _⟩ | ⟨_, e, _⟩⟩
  · rw [e] at hlk; cases hlk
  · rw [(zb2 e).1] at hlk; cases hlk
  · omega
theorem z0q {n : Nat} {k : Kr} (h : InvT n k) (hn : n ≤ 90000) (id a l : Int) (ha : U a) : Ok 15 [.ag k.ce, ii id, iu a, ii l] (.m (.c (.s (inR k id a l).length 8 (flP (inR k id a l))))) := by
  have hw := ziu k id a l ha
  unfold inR
  by_cases c0 : (zas k id a l).2.2 = 0
  rotate_left
  · rw [if_pos c0]
    generalize zas k id a l = w at *
    refine zdu (r := .m (.c (.v (.slice none 0 0)))) ?_ rfl (zj7 8)
    refine zad 34 Tryz.func15 rfl rfl rfl rfl ?_ GG.to
    intro W A hG
    repeat (first | (refine zaj rfl ?_; first | refine zak ?_ | refine gdr (zaa rfl rfl rfl (hw) (by kernel_rfl)) ?_) | (refine hK _ ?_; clear hK K) | refine zac rfl ?_ | exact zah (show zar _ _ _ = some _ by kernel_rfl) | refine zaf rfl rfl ?_ | refine zab (fun K hK => ?_))
  rw [if_neg (by omega)]
  obtain ⟨w1, w2, w3, w4⟩ := zbt (id := id) (a := a) (l := l) h.l c0
  obtain ⟨l', t', e1, e2, e3, e4, e5⟩ := zxg (id := id) (a := a) (l := l) h c0
  rw [c0] at hw
  have b1 := h.l.g.bd
  have b2 := h.l.g.bp
  have f1 := w2.1
  have hre := ze3 k.sz k.m (zas k id a l).1 (zas k id a l).2.1 a l ⟨by omega, by omega⟩ ha (by omega) (by omega) w1.1 h.l.g.s h.l.g.u
  rw [e1] at hre ⊢
  have hre : Ok 41 [za6 k.sz k.m, iu (zas k id a l).1, ii (zas k id a l).2.1, iu a, ii l] (.m (.ag (za3 t' (l' : Int) (atM k.sz k.m t' (idx a (l' : Int)))))) := hre
  have hun := zo4 k.sz k.m t' (l' : Int) (atM k.sz k.m t' (idx a (l' : Int))) a ha h.l.g.s h.l.g.u (zch ..) (by omega) (by omega) e5
  show Ok _ _ (.m (.c (.s (zax k.sz k.m (l' : Int) (atM k.sz k.m t' (idx a (l' : Int))) (VaSpec.base a (l' : Int))).length 8 (flP (zax k.sz k.m (l' : Int) (atM k.sz k.m t' (idx a (l' : Int))) (VaSpec.base a (l' : Int)))))))
  generalize zax k.sz k.m (l' : Int) (atM k.sz k.m t' (idx a (l' : Int))) (VaSpec.base a (l' : Int)) = U0 at *
  generalize atM k.sz k.m t' (idx a (l' : Int)) = q at *
  generalize (zas k id a l).1 = top at *
  generalize (zas k id a l).2.1 = lv at *
  refine zad 34 Tryz.func15 rfl rfl rfl rfl ?_ GG.to
  intro W A hG
  repeat (first | (refine zaj rfl ?_; first | refine zak ?_ | refine gdr (zaa rfl rfl rfl (hw) (by kernel_rfl)) ?_ | refine gdr (zaa rfl rfl rfl (hre) (by kernel_rfl)) ?_ | refine gdr (zaa rfl rfl rfl (hun) (by kernel_rfl)) ?_) | (refine hK _ ?_; clear hK K) | refine zac rfl ?_ | refine zam (by kernel_rfl) (by kernel_rfl) rfl ?_ | exact zah (show zar _ _ _ = some _ by kernel_rfl) | refine zae rfl rfl ?_ | refine zai ?_ | refine zab (fun K hK => ?_))
def z57 (k : Kr) (a t l : Int) (q : Pte) (i : Int) : St := St.of [(2, .m (iu a)), (4, .m (.c (.p 4 0))), (8, .m (.c (.v (.slice none 0 0)))), (12, .m (.c (.p 12 0))), (13, .m (iu (VaSpec.sz i))), (14, .m (ii i))] [(4, .live (.box k.ce)), (12, .live (.box (za3 t l q)))]
theorem zxh {n : Nat} {k : Kr} (h : InvT n k) (hn : n ≤ 90000) (id a l : Int) (ha : U a) : Ok 16 [.ag k.ce, ii id, iu a, ii l] (.m (.c (.s (inR k id a l).length 8 (flP (inR k id a l))))) := by
  have hw := zhe k id a l ha
  have hml := h.l.ml
  unfold inR
  by_cases c0 : (zas k id a l).2.2 = 0
  rotate_left
  · rw [if_pos c0]
    generalize zas k id a l = w at *
    refine zdu (r := .m (.c (.v (.slice none 0 0)))) ?_ rfl (zj7 8)
    refine zad 50 Tryz.func16 rfl rfl rfl rfl ?_ GG.to
    intro W A hG
    repeat (first | (refine zaj rfl ?_; first | refine zak ?_ | refine gdr (zaa rfl rfl rfl (hw) (by kernel_rfl)) ?_) | (refine hK _ ?_; clear hK K) | refine zac rfl ?_ | exact zah (show zar _ _ _ = some _ by kernel_rfl) | refine zaf rfl rfl ?_ | refine zab (fun K hK => ?_))
  rw [if_neg (by omega)]
  obtain ⟨w1, w2, w3, w4⟩ := zbt (id := id) (a := a) (l := l) h.l c0
  obtain ⟨l', t', e1, e2, e3, e4, e5⟩ := zxg (id := id) (a := a) (l := l) h c0
  rw [c0] at hw
  have b1 := h.l.g.bd
  have b2 := h.l.g.bp
  have f1 := w2.1
  obtain ⟨lw, hlw⟩ := Int.eq_ofNat_of_zero_le (show 0 ≤ (zas k id a l).2.1 by omega)
  have hre0 := zew k.sz k.m a l ha w1.1 h.l.g.s h.l.g.u (by omega) lw (zas k id a l).1 (by omega) ⟨by omega, by omega⟩
  rw [← hlw] at hre0
  have e1' : zav k.sz k.m a l lw (zas k id a l).1 = (t', (l' : Int)) := by rw [← e1]; unfold zbs; rw [hlw, Int.toNat_natCast]
  rw [e1'] at hre0
  rw [e1]
  have hre : Ok 43 [za6 k.sz k.m, iu (zas k id a l).1, ii (zas k id a l).2.1, iu a, ii l] (.m (.ag (za3 t' (l' : Int) (atM k.sz k.m t' (idx a (l' : Int)))))) := hre0
  clear hre0
  have hbU := zsv (l := (l' : Int)) ha (by omega) (by omega)
  have hun := zki k.sz k.m t' (l' : Int) (atM k.sz k.m t' (idx a (l' : Int))) (VaSpec.base a (l' : Int)) hbU h.l.g.s h.l.g.u (by omega) (zch ..) (by omega) (by omega) e5
  show Ok _ _ (.m (.c (.s (zax k.sz k.m (l' : Int) (atM k.sz k.m t' (idx a (l' : Int))) (VaSpec.base a (l' : Int))).length 8 (flP (zax k.sz k.m (l' : Int) (atM k.sz k.m t' (idx a (l' : Int))) (VaSpec.base a (l' : Int)))))))
  have hbe : VaSpec.base a (l' : Int) = a - a % VaSpec.sz (l' : Int) := rfl
  generalize zax k.sz k.m (l' : Int) (atM k.sz k.m t' (idx a (l' : Int))) (VaSpec.base a (l' : Int)) = U0 at *
  generalize atM k.sz k.m t' (idx a (l' : Int)) = q at *
  generalize (zas k id a l).1 = top at *
  generalize (zas k id a l).2.1 = lv at *
  rw [hbe] at hun hbU
  have ha0 := ha.1
  have ha1 := ha.2
  have hu0 := hbU.1
  have hu1 := hbU.2
  refine zad 50 Tryz.func16 rfl rfl rfl rfl ?_ GG.to
  intro W A hG
  repeat (first | (refine zaj rfl ?_; first | refine zak ?_ | refine gdr (zaa rfl rfl rfl (hw) (by kernel_rfl)) ?_ | refine gdr (zaa rfl rfl rfl (hre) (by kernel_rfl)) ?_) | (refine hK _ ?_; clear hK K) | refine zac rfl ?_ | refine zae rfl rfl ?_ | refine zag ?_ | refine zai ?_ | refine zab (fun K hK => ?_))
  refine zay (α := Nat) (fun i => i ≤ l') (fun i => z57 k a t' (l' : Int) q (i : Int)) (fun i => l' - i) 0 (by omega) (zao _ _ ⟨by kernel_rfl, by kernel_rfl, by kernel_rfl, by kernel_rfl, by kernel_rfl, by kernel_rfl, trivial⟩ ⟨by kernel_rfl, by kernel_rfl, trivial⟩ (by kernel_rfl)) ?_
  intro i hi
  show Aw _ _ _ _ (z57 k a t' (l' : Int) q (i : Int))
  unfold z57
  by_cases hlt : i < l'
  · rcases (by omega : i = 0 ∨ i = 1) with rfl | rfl
    · skip
      repeat (first | (refine zaj rfl ?_; first | refine zak ?_) | (refine hK _ ?_; clear hK K) | refine zac rfl ?_ | refine zaf rfl rfl ?_ | refine zag ?_ | refine zai ?_ | refine zab (fun K hK => ?_))
      exact ⟨1, by omega, by omega, zao _ _ ⟨by kernel_rfl, by kernel_rfl, by kernel_rfl, by kernel_rfl, by kernel_rfl, by kernel_rfl, trivial⟩ ⟨by kernel_rfl, by kernel_rfl, trivial⟩ (by kernel_rfl)⟩
    · skip
      repeat (first | (refine zaj rfl ?_; first | refine zak ?_) | (refine hK _ ?_; clear hK K) | refine zac rfl ?_ | refine zaf rfl rfl ?_ | refine zag ?_ | refine zai ?_ | refine zab (fun K hK => ?_))
      exact ⟨2, by omega, by omega, zao _ _ ⟨by kernel_rfl, by kernel_rfl, by kernel_rfl, by kernel_rfl, by kernel_rfl, by kernel_rfl, trivial⟩ ⟨by kernel_rfl, by kernel_rfl, trivial⟩ (by kernel_rfl)⟩
  · obtain rfl : i = l' := by omega
    have hzp := VaSpec.sz_pos (i : Int)
    generalize VaSpec.sz (i : Int) = z at *
    repeat (first | (refine zaj rfl ?_; first | refine zak ?_ | refine gdr (zaa rfl rfl rfl (hun) (by kernel_rfl)) ?_) | (refine hK _ ?_; clear hK K) | (rename_i K1 hK1; refine hK1 _ ?_; clear hK hK1; clear K) | refine zac rfl ?_ | refine zam (by kernel_rfl) (by kernel_rfl) rfl ?_ | exact zah (show zar _ _ _ = some _ by kernel_rfl) | refine zae rfl rfl ?_ | refine zal ?_ | refine zab (fun K hK => ?_))
def z20 (k : Kr) (id n : Int) (l : List Pg) (i m : Nat) (vs : List Value) : St := St.of [(6, .m (.c (.v (.slice none 0 0)))), (7, .m (.c (.v (.func (.func 45) #[] #[])))), (10, .m (.c (.o 1000))), (30, .m (.c (.s l.length 8 (flP l)))), (31, .m (ii l.length)), (32, .m (ii i))] [(1000, .live (.row 80 4 m vs))]
theorem zxi (k : Kr) (id : Int) (l : List Pg) (hid : id = -1) (hl : l.length ≤ 134217728) : Ok 17 [.ag k.ce, ii id, .c (.s l.length 8 (flP l))] (.m (.c (.s (zdp k id l).length 4 (flF (zdp k id l))))) := by
  by_cases c : 16 < l.length
  · have e : zdp k id l = [⟨false, 0, false, 0⟩] := by unfold zdp zub; rw [if_pos c, if_pos hid]
    rw [e]
    refine zad 45 Tryz.func17 rfl rfl rfl rfl ?_ GG.to
    intro W A hG
    repeat (first | (refine zaj rfl ?_; first | refine zak ?_) | (refine hK _ ?_; clear hK K) | refine zac rfl ?_ | exact zah (show zar _ _ _ = some _ by kernel_rfl) | refine zaf rfl rfl ?_ | refine zae rfl rfl ?_ | refine zai ?_ | refine zab (fun K hK => ?_))
  · have e : zdp k id l = l.map (zbq id (zb5 k id).asid) := by unfold zdp; rw [if_neg c]
    rw [e]
    obtain ⟨N, hN⟩ : ∃ N, N = (l.map (zbq id (zb5 k id).asid)).length := ⟨_, rfl⟩
    obtain ⟨XS, hXS⟩ : ∃ XS, XS = flF (l.map (zbq id (zb5 k id).asid)) := ⟨_, rfl⟩
    rw [← hN, ← hXS]
    refine zad 45 Tryz.func17 rfl rfl rfl rfl ?_ GG.to
    intro W A hG
    repeat (first | (refine zaj rfl ?_; first | refine zak ?_) | (refine hK _ ?_; clear hK K) | refine zac rfl ?_ | refine zae rfl rfl ?_ | refine zag ?_ | refine zai ?_ | refine zab (fun K hK => ?_))
    refine zay (α := Nat × Nat × List Value) (fun q => q.1 ≤ l.length ∧ q.2.1 = ((l.take q.1).map (zbq id (zb5 k id).asid)).length ∧ q.2.2 = flF ((l.take q.1).map (zbq id (zb5 k id).asid))) (fun q => z20 k id (zb5 k id).asid l q.1 q.2.1 q.2.2) (fun q => l.length - q.1) (0, 0, []) ⟨Nat.zero_le _, rfl, rfl⟩ (Sub.trans (zc9 10 1000 80 4 rfl rfl) (zao _ _ ⟨by kernel_rfl, by kernel_rfl, by kernel_rfl, by kernel_rfl, by kernel_rfl, by kernel_rfl, trivial⟩ ⟨by kernel_rfl, trivial⟩ (by kernel_rfl))) ?_
    rintro ⟨i, m, vs⟩ ⟨x1, x2, x3⟩
    have g1 : i ≤ l.length := x1
    have g2 : m = ((l.take i).map (zbq id (zb5 k id).asid)).length := x2
    have g3 : vs = flF ((l.take i).map (zbq id (zb5 k id).asid)) := x3
    show Aw _ _ _ _ (z20 k id (zb5 k id).asid l i m vs)
    unfold z20
    by_cases hlt : i < l.length
    · obtain ⟨p, hp⟩ : ∃ p, l[i]? = some p := ⟨_, List.getElem?_eq_getElem hlt⟩
      have hx : ((flP l).drop (i * 8)).take 8 = [.int .u64 p.va, .int .u64 p.pa, .int .i64 p.lev, .bool p.r, .bool p.w, .bool p.x, .bool p.u, .bool p.d] := zid hp
      have hm : m ≤ i := by rw [g2, List.length_map, List.length_take]; omega
      have et : (l.take (i + 1)).map (zbq id (zb5 k id).asid) = (l.take i).map (zbq id (zb5 k id).asid) ++ [(⟨true, p.va, false, 0⟩ : Fe)] := by
        rw [List.take_add_one, hp, List.map_append]
        show _ ++ [zbq id (zb5 k id).asid p] = _
        unfold zbq
        rw [if_pos hid]
      have hn1 : m + 1 = ((l.take (i + 1)).map (zbq id (zb5 k id).asid)).length := by rw [et, List.length_append, ← g2]; rfl
      have hv1 : vs ++ ((⟨true, p.va, false, 0⟩ : Fe)).vs = flF ((l.take (i + 1)).map (zbq id (zb5 k id).asid)) := by
        rw [et, g3]
        unfold flF
        rw [List.flatMap_append]
        simp
      clear g2 g3 x2 x3 hN hXS
      repeat (first | (refine zaj rfl ?_; first | refine zak ?_ | refine gdr (zfk rfl rfl rfl rfl (zzv p.va) rfl) ?_) | (refine hK _ ?_; clear hK K) | refine zac rfl ?_ | refine zaf rfl rfl ?_ | refine zag ?_ | refine zai ?_ | refine zab (fun K hK => ?_))
      refine zaj rfl ?_
      refine zdg (za1 rfl rfl rfl rfl rfl rfl rfl rfl rfl rfl rfl rfl rfl (by omega)) (by kernel_rfl) ?_
      repeat (first | (refine zaj rfl ?_; first | refine zak ?_) | (refine hK _ ?_; clear hK K) | refine zac rfl ?_)
      exact ⟨(i + 1, m + 1, vs ++ ((⟨true, p.va, false, 0⟩ : Fe)).vs), ⟨by show i + 1 ≤ l.length; omega, hn1, hv1⟩, by show l.length - (i + 1) < l.length - i; omega, Sub.trans (zao [(6, .m (.c (.v (.slice none 0 0)))), (7, .m (.c (.v (.func (.func 45) #[] #[])))), (10, .m (.c (.o 42))), (30, .m (.c (.s l.length 8 (flP l)))), (31, .m (ii l.length)), (32, .m (ii ((i + 1 : Nat) : Int)))] [(42, .live (.row 80 4 (m + 1) (vs ++ (⟨true, p.va, false, 0⟩ : Fe).vs)))] ⟨by kernel_rfl, by kernel_rfl, by kernel_rfl, by kernel_rfl, by kernel_rfl, by kernel_rfl, trivial⟩ ⟨by kernel_rfl, trivial⟩ (by kernel_rfl)) (Sub.trans (zb4 (b := 42) (b' := 1000) rfl rfl) (zao _ _ ⟨by kernel_rfl, by kernel_rfl, by kernel_rfl, by kernel_rfl, by kernel_rfl, by kernel_rfl, trivial⟩ ⟨by kernel_rfl, trivial⟩ (by kernel_rfl)))⟩
    · have ei : i = l.length := by omega
      rw [ei, List.take_length] at g2 g3
      obtain rfl : N = m := by rw [hN, g2]
      obtain rfl : XS = vs := by rw [hXS, g3]
      repeat (first | (refine zaj rfl ?_; first | refine zak ?_) | (refine hK _ ?_; clear hK K) | (rename_i K1 hK1; refine hK1 _ ?_; clear hK hK1; clear K) | refine zac rfl ?_ | exact zah (show zar _ _ _ = some _ by kernel_rfl) | refine zae rfl rfl ?_ | refine zal ?_ | refine zab (fun K hK => ?_))
def z21 (k : Kr) (id n : Int) (l : List Pg) (i m : Nat) (vs : List Value) : St := St.of [(6, .m (.c (.v (.slice none 0 0)))), (7, .m (.c (.cl 46 [9]))), (10, .m (.c (.o 1000))), (30, .m (.c (.s l.length 8 (flP l)))), (31, .m (ii l.length)), (32, .m (ii i))] [(9, .live (.box [cu n])), (1000, .live (.row 80 4 m vs))]
theorem zxj (k : Kr) (id : Int) (l : List Pg) (hid : id ≠ -1) (hlv : zbd k id = true) (hl : l.length ≤ 134217728) : Ok 17 [.ag k.ce, ii id, .c (.s l.length 8 (flP l))] (.m (.c (.s (zdp k id l).length 4 (flF (zdp k id l))))) := by
  obtain ⟨y0, y1, y2, y3⟩ := zej hlv
  have hxs := zia y2
  by_cases c : 16 < l.length
  · have e : zdp k id l = [⟨false, 0, true, (zb5 k id).asid⟩] := by unfold zdp zub; rw [if_pos c, if_neg hid]
    rw [e]
    refine zad 45 Tryz.func17 rfl rfl rfl rfl ?_ GG.to
    intro W A hG
    repeat (first | (refine zaj rfl ?_; first | refine zak ?_ | refine gdr (zaa rfl rfl rfl (zme (zb5 k id).asid) (by kernel_rfl)) ?_) | (refine hK _ ?_; clear hK K) | refine zac rfl ?_ | exact zah (show zar _ _ _ = some _ by kernel_rfl) | refine zaf rfl rfl ?_ | refine zab (fun K hK => ?_))
  · have e : zdp k id l = l.map (zbq id (zb5 k id).asid) := by unfold zdp; rw [if_neg c]
    rw [e]
    obtain ⟨N, hN⟩ : ∃ N, N = (l.map (zbq id (zb5 k id).asid)).length := ⟨_, rfl⟩
    obtain ⟨XS, hXS⟩ : ∃ XS, XS = flF (l.map (zbq id (zb5 k id).asid)) := ⟨_, rfl⟩
    rw [← hN, ← hXS]
    refine zad 45 Tryz.func17 rfl rfl rfl rfl ?_ GG.to
    intro W A hG
    repeat (first | (refine zaj rfl ?_; first | refine zak ?_ | refine gdr (zaa rfl rfl rfl (zme (zb5 k id).asid) (by kernel_rfl)) ?_) | (refine hK _ ?_; clear hK K) | refine zac rfl ?_ | refine zaf rfl rfl ?_ | refine zae rfl rfl ?_ | refine zag ?_ | refine zai ?_ | refine zab (fun K hK => ?_))
    refine zay (α := Nat × Nat × List Value) (fun q => q.1 ≤ l.length ∧ q.2.1 = ((l.take q.1).map (zbq id (zb5 k id).asid)).length ∧ q.2.2 = flF ((l.take q.1).map (zbq id (zb5 k id).asid))) (fun q => z21 k id (zb5 k id).asid l q.1 q.2.1 q.2.2) (fun q => l.length - q.1) (0, 0, []) ⟨Nat.zero_le _, rfl, rfl⟩ (Sub.trans (zc9 10 1000 80 4 rfl rfl) (zao _ _ ⟨by kernel_rfl, by kernel_rfl, by kernel_rfl, by kernel_rfl, by kernel_rfl, by kernel_rfl, trivial⟩ ⟨by kernel_rfl, by kernel_rfl, trivial⟩ (by kernel_rfl))) ?_
    rintro ⟨i, m, vs⟩ ⟨x1, x2, x3⟩
    have g1 : i ≤ l.length := x1
    have g2 : m = ((l.take i).map (zbq id (zb5 k id).asid)).length := x2
    have g3 : vs = flF ((l.take i).map (zbq id (zb5 k id).asid)) := x3
    show Aw _ _ _ _ (z21 k id (zb5 k id).asid l i m vs)
    unfold z21
    by_cases hlt : i < l.length
    · obtain ⟨p, hp⟩ : ∃ p, l[i]? = some p := ⟨_, List.getElem?_eq_getElem hlt⟩
      have hx : ((flP l).drop (i * 8)).take 8 = [.int .u64 p.va, .int .u64 p.pa, .int .i64 p.lev, .bool p.r, .bool p.w, .bool p.x, .bool p.u, .bool p.d] := zid hp
      have hm : m ≤ i := by rw [g2, List.length_map, List.length_take]; omega
      have et : (l.take (i + 1)).map (zbq id (zb5 k id).asid) = (l.take i).map (zbq id (zb5 k id).asid) ++ [(⟨true, p.va, true, (zb5 k id).asid⟩ : Fe)] := by
        rw [List.take_add_one, hp, List.map_append]
        show _ ++ [zbq id (zb5 k id).asid p] = _
        unfold zbq
        rw [if_neg hid]
      have hn1 : m + 1 = ((l.take (i + 1)).map (zbq id (zb5 k id).asid)).length := by rw [et, List.length_append, ← g2]; rfl
      have hv1 : vs ++ ((⟨true, p.va, true, (zb5 k id).asid⟩ : Fe)).vs = flF ((l.take (i + 1)).map (zbq id (zb5 k id).asid)) := by
        rw [et, g3]
        unfold flF
        rw [List.flatMap_append]
        simp
      clear g2 g3 x2 x3 hN hXS
      repeat (first | (refine zaj rfl ?_; first | refine zak ?_ | refine gdr (zbw (fun _ => 9) (z2z (zb5 k id).asid p.va) rfl rfl rfl (by kernel_rfl) rfl rfl ⟨rfl, trivial⟩ (by kernel_rfl)) ?_) | (refine hK _ ?_; clear hK K) | refine zac rfl ?_ | refine zaf rfl rfl ?_ | refine zag ?_ | refine zai ?_ | refine zab (fun K hK => ?_))
      refine zaj rfl ?_
      refine zdg (za1 rfl rfl rfl rfl rfl rfl rfl rfl rfl rfl rfl rfl rfl (by omega)) (by kernel_rfl) ?_
      repeat (first | (refine zaj rfl ?_; first | refine zak ?_) | (refine hK _ ?_; clear hK K) | refine zac rfl ?_)
      exact ⟨(i + 1, m + 1, vs ++ ((⟨true, p.va, true, (zb5 k id).asid⟩ : Fe)).vs), ⟨by show i + 1 ≤ l.length; omega, hn1, hv1⟩, by show l.length - (i + 1) < l.length - i; omega, Sub.trans (zao [(6, .m (.c (.v (.slice none 0 0)))), (7, .m (.c (.cl 46 [9]))), (10, .m (.c (.o 42))), (30, .m (.c (.s l.length 8 (flP l)))), (31, .m (ii l.length)), (32, .m (ii ((i + 1 : Nat) : Int)))] [(9, .live (.box [cu (zb5 k id).asid])), (42, .live (.row 80 4 (m + 1) (vs ++ (⟨true, p.va, true, (zb5 k id).asid⟩ : Fe).vs)))] ⟨by kernel_rfl, by kernel_rfl, by kernel_rfl, by kernel_rfl, by kernel_rfl, by kernel_rfl, trivial⟩ ⟨by kernel_rfl, by kernel_rfl, trivial⟩ (by kernel_rfl)) (Sub.trans (zb4 (b := 42) (b' := 1000) rfl rfl) (zao _ _ ⟨by kernel_rfl, by kernel_rfl, by kernel_rfl, by kernel_rfl, by kernel_rfl, by kernel_rfl, trivial⟩ ⟨by kernel_rfl, by kernel_rfl, trivial⟩ (by kernel_rfl)))⟩
    · have ei : i = l.length := by omega
      rw [ei, List.take_length] at g2 g3
      obtain rfl : N = m := by rw [hN, g2]
      obtain rfl : XS = vs := by rw [hXS, g3]
      repeat (first | (refine zaj rfl ?_; first | refine zak ?_) | (refine hK _ ?_; clear hK K) | (rename_i K1 hK1; refine hK1 _ ?_; clear hK hK1; clear K) | refine zac rfl ?_ | exact zah (show zar _ _ _ = some _ by kernel_rfl) | refine zae rfl rfl ?_ | refine zal ?_ | refine zab (fun K hK => ?_))
def z22 (k : Kr) (id n : Int) (l : List Pg) (i m : Nat) (vs : List Value) : St := St.of [(1, .m (ii id)), (2, .m (.c (.s l.length 8 (flP l)))), (3, .m (.c (.p 3 0))), (6, .m (.c (.v (.slice none 0 0)))), (7, .m (.c (.o 1000))), (8, .m (ii i))] [(3, .live (.box k.ce)), (1000, .live (.row 80 4 m vs))]
theorem zxk (k : Kr) (id : Int) (l : List Pg) (hid : id = -1) (hl : l.length ≤ 134217728) : Ok 19 [.ag k.ce, ii id, .c (.s l.length 8 (flP l))] (.m (.c (.s (zdp k id l).length 4 (flF (zdp k id l))))) := by
  by_cases c : 16 < l.length
  · have e : zdp k id l = [⟨false, 0, false, 0⟩] := by unfold zdp zub; rw [if_pos c, if_pos hid]
    rw [e]
    refine zad 57 Tryz.func19 rfl rfl rfl rfl ?_ GG.to
    intro W A hG
    repeat (first | (refine zaj rfl ?_; first | refine zak ?_) | (refine hK _ ?_; clear hK K) | refine zac rfl ?_ | exact zah (show zar _ _ _ = some _ by kernel_rfl) | refine zaf rfl rfl ?_ | refine zab (fun K hK => ?_))
  · have e : zdp k id l = l.map (zbq id (zb5 k id).asid) := by unfold zdp; rw [if_neg c]
    rw [e]
    obtain ⟨N, hN⟩ : ∃ N, N = (l.map (zbq id (zb5 k id).asid)).length := ⟨_, rfl⟩
    obtain ⟨XS, hXS⟩ : ∃ XS, XS = flF (l.map (zbq id (zb5 k id).asid)) := ⟨_, rfl⟩
    rw [← hN, ← hXS]
    refine zad 57 Tryz.func19 rfl rfl rfl rfl ?_ GG.to
    intro W A hG
    repeat (first | (refine zaj rfl ?_; first | refine zak ?_) | (refine hK _ ?_; clear hK K) | refine zac rfl ?_ | refine zae rfl rfl ?_ | refine zag ?_ | refine zai ?_ | refine zab (fun K hK => ?_))
    refine zay (α := Nat × Nat × List Value) (fun q => q.1 ≤ l.length ∧ q.2.1 = ((l.take q.1).map (zbq id (zb5 k id).asid)).length ∧ q.2.2 = flF ((l.take q.1).map (zbq id (zb5 k id).asid))) (fun q => z22 k id (zb5 k id).asid l q.1 q.2.1 q.2.2) (fun q => l.length - q.1) (0, 0, []) ⟨Nat.zero_le _, rfl, rfl⟩ (Sub.trans (zc9 7 1000 80 4 rfl rfl) (zao _ _ ⟨by kernel_rfl, by kernel_rfl, by kernel_rfl, by kernel_rfl, by kernel_rfl, by kernel_rfl, trivial⟩ ⟨by kernel_rfl, by kernel_rfl, trivial⟩ (by kernel_rfl))) ?_
    rintro ⟨i, m, vs⟩ ⟨x1, x2, x3⟩
    have g1 : i ≤ l.length := x1
    have g2 : m = ((l.take i).map (zbq id (zb5 k id).asid)).length := x2
    have g3 : vs = flF ((l.take i).map (zbq id (zb5 k id).asid)) := x3
    show Aw _ _ _ _ (z22 k id (zb5 k id).asid l i m vs)
    unfold z22
    by_cases hlt : i < l.length
    · obtain ⟨p, hp⟩ : ∃ p, l[i]? = some p := ⟨_, List.getElem?_eq_getElem hlt⟩
      have hx : ((flP l).drop (i * 8)).take 8 = [.int .u64 p.va, .int .u64 p.pa, .int .i64 p.lev, .bool p.r, .bool p.w, .bool p.x, .bool p.u, .bool p.d] := zid hp
      have hm : m ≤ i := by rw [g2, List.length_map, List.length_take]; omega
      have et : (l.take (i + 1)).map (zbq id (zb5 k id).asid) = (l.take i).map (zbq id (zb5 k id).asid) ++ [(⟨true, p.va, false, 0⟩ : Fe)] := by
        rw [List.take_add_one, hp, List.map_append]
        show _ ++ [zbq id (zb5 k id).asid p] = _
        unfold zbq
        rw [if_pos hid]
      have hn1 : m + 1 = ((l.take (i + 1)).map (zbq id (zb5 k id).asid)).length := by rw [et, List.length_append, ← g2]; rfl
      have hv1 : vs ++ ((⟨true, p.va, false, 0⟩ : Fe)).vs = flF ((l.take (i + 1)).map (zbq id (zb5 k id).asid)) := by
        rw [et, g3]
        unfold flF
        rw [List.flatMap_append]
        simp
      clear g2 g3 x2 x3 hN hXS
      repeat (first | (refine zaj rfl ?_; first | refine zak ?_) | (refine hK _ ?_; clear hK K) | refine zac rfl ?_ | refine zaf rfl rfl ?_ | refine zae rfl rfl ?_ | refine zag ?_ | refine zai ?_ | refine zab (fun K hK => ?_))
      refine zaj rfl ?_
      refine zdg (za1 rfl rfl rfl rfl rfl rfl rfl rfl rfl rfl rfl rfl rfl (by omega)) (by kernel_rfl) ?_
      repeat (first | (refine zaj rfl ?_; first | refine zak ?_) | (refine hK _ ?_; clear hK K) | refine zac rfl ?_)
      exact ⟨(i + 1, m + 1, vs ++ ((⟨true, p.va, false, 0⟩ : Fe)).vs), ⟨by show i + 1 ≤ l.length; omega, hn1, hv1⟩, by show l.length - (i + 1) < l.length - i; omega, Sub.trans (zao [(1, .m (ii id)), (2, .m (.c (.s l.length 8 (flP l)))), (3, .m (.c (.p 3 0))), (6, .m (.c (.v (.slice none 0 0)))), (7, .m (.c (.o 55))), (8, .m (ii ((i + 1 : Nat) : Int)))] [(3, .live (.box k.ce)), (55, .live (.row 80 4 (m + 1) (vs ++ (⟨true, p.va, false, 0⟩ : Fe).vs)))] ⟨by kernel_rfl, by kernel_rfl, by kernel_rfl, by kernel_rfl, by kernel_rfl, by kernel_rfl, trivial⟩ ⟨by kernel_rfl, by kernel_rfl, trivial⟩ (by kernel_rfl)) (Sub.trans (zb4 (b := 55) (b' := 1000) rfl rfl) (zao _ _ ⟨by kernel_rfl, by kernel_rfl, by kernel_rfl, by kernel_rfl, by kernel_rfl, by kernel_rfl, trivial⟩ ⟨by kernel_rfl, by kernel_rfl, trivial⟩ (by kernel_rfl)))⟩
    · have ei : i = l.length := by omega
      rw [ei, List.take_length] at g2 g3
      obtain rfl : N = m := by rw [hN, g2]
      obtain rfl : XS = vs := by rw [hXS, g3]
      repeat (first | (refine zaj rfl ?_; first | refine zak ?_) | (refine hK _ ?_; clear hK K) | (rename_i K1 hK1; refine hK1 _ ?_; clear hK hK1; clear K) | refine zac rfl ?_ | exact zah (show zar _ _ _ = some _ by kernel_rfl) | refine zae rfl rfl ?_ | refine zal ?_ | refine zab (fun K hK => ?_))
def z23 (k : Kr) (id n : Int) (l : List Pg) (i m : Nat) (vs : List Value) : St := St.of [(1, .m (ii id)), (2, .m (.c (.s l.length 8 (flP l)))), (3, .m (.c (.p 3 0))), (6, .m (.c (.v (.slice none 0 0)))), (7, .m (.c (.o 1000))), (8, .m (ii i))] [(3, .live (.box k.ce)), (1000, .live (.row 80 4 m vs))]
theorem zxl (k : Kr) (id : Int) (l : List Pg) (hid : id ≠ -1) (hlv : zbd k id = true) (hl : l.length ≤ 134217728) : Ok 19 [.ag k.ce, ii id, .c (.s l.length 8 (flP l))] (.m (.c (.s (zdp k id l).length 4 (flF (zdp k id l))))) := by
  obtain ⟨y0, y1, y2, y3⟩ := zej hlv
  have hxs := zia y2
  by_cases c : 16 < l.length
  · have e : zdp k id l = [⟨false, 0, true, (zb5 k id).asid⟩] := by unfold zdp zub; rw [if_pos c, if_neg hid]
    rw [e]
    refine zad 57 Tryz.func19 rfl rfl rfl rfl ?_ GG.to
    intro W A hG
    repeat (first | (refine zaj rfl ?_; first | refine zak ?_) | (refine hK _ ?_; clear hK K) | refine zac rfl ?_ | exact zah (show zar _ _ _ = some _ by kernel_rfl) | refine zaf rfl rfl ?_ | refine zae rfl rfl ?_ | refine zai ?_ | refine zab (fun K hK => ?_))
  · have e : zdp k id l = l.map (zbq id (zb5 k id).asid) := by unfold zdp; rw [if_neg c]
    rw [e]
    obtain ⟨N, hN⟩ : ∃ N, N = (l.map (zbq id (zb5 k id).asid)).length := ⟨_, rfl⟩
    obtain ⟨XS, hXS⟩ : ∃ XS, XS = flF (l.map (zbq id (zb5 k id).asid)) := ⟨_, rfl⟩
    rw [← hN, ← hXS]
    refine zad 57 Tryz.func19 rfl rfl rfl rfl ?_ GG.to
    intro W A hG
    repeat (first | (refine zaj rfl ?_; first | refine zak ?_) | (refine hK _ ?_; clear hK K) | refine zac rfl ?_ | refine zae rfl rfl ?_ | refine zag ?_ | refine zai ?_ | refine zab (fun K hK => ?_))
    refine zay (α := Nat × Nat × List Value) (fun q => q.1 ≤ l.length ∧ q.2.1 = ((l.take q.1).map (zbq id (zb5 k id).asid)).length ∧ q.2.2 = flF ((l.take q.1).map (zbq id (zb5 k id).asid))) (fun q => z23 k id (zb5 k id).asid l q.1 q.2.1 q.2.2) (fun q => l.length - q.1) (0, 0, []) ⟨Nat.zero_le _, rfl, rfl⟩ (Sub.trans (zc9 7 1000 80 4 rfl rfl) (zao _ _ ⟨by kernel_rfl, by kernel_rfl, by kernel_rfl, by kernel_rfl, by kernel_rfl, by kernel_rfl, trivial⟩ ⟨by kernel_rfl, by kernel_rfl, trivial⟩ (by kernel_rfl))) ?_
    rintro ⟨i, m, vs⟩ ⟨x1, x2, x3⟩
    have g1 : i ≤ l.length := x1
    have g2 : m = ((l.take i).map (zbq id (zb5 k id).asid)).length := x2
    have g3 : vs = flF ((l.take i).map (zbq id (zb5 k id).asid)) := x3
    show Aw _ _ _ _ (z23 k id (zb5 k id).asid l i m vs)
    unfold z23
    by_cases hlt : i < l.length
    · obtain ⟨p, hp⟩ : ∃ p, l[i]? = some p := ⟨_, List.getElem?_eq_getElem hlt⟩
      have hx : ((flP l).drop (i * 8)).take 8 = [.int .u64 p.va, .int .u64 p.pa, .int .i64 p.lev, .bool p.r, .bool p.w, .bool p.x, .bool p.u, .bool p.d] := zid hp
      have hm : m ≤ i := by rw [g2, List.length_map, List.length_take]; omega
      have et : (l.take (i + 1)).map (zbq id (zb5 k id).asid) = (l.take i).map (zbq id (zb5 k id).asid) ++ [(⟨true, p.va, true, (zb5 k id).asid⟩ : Fe)] := by
        rw [List.take_add_one, hp, List.map_append]
        show _ ++ [zbq id (zb5 k id).asid p] = _
        unfold zbq
        rw [if_neg hid]
      have hn1 : m + 1 = ((l.take (i + 1)).map (zbq id (zb5 k id).asid)).length := by rw [et, List.length_append, ← g2]; rfl
      have hv1 : vs ++ ((⟨true, p.va, true, (zb5 k id).asid⟩ : Fe)).vs = flF ((l.take (i + 1)).map (zbq id (zb5 k id).asid)) := by
        rw [et, g3]
        unfold flF
        rw [List.flatMap_append]
        simp
      clear g2 g3 x2 x3 hN hXS
      repeat (first | (refine zaj rfl ?_; first | refine zak ?_) | (refine hK _ ?_; clear hK K) | refine zac rfl ?_ | refine zaf rfl rfl ?_ | refine zag ?_ | refine zai ?_ | refine zab (fun K hK => ?_))
      refine zaj rfl ?_
      refine zdg (za1 rfl rfl rfl rfl rfl rfl rfl rfl rfl rfl rfl rfl rfl (by omega)) (by kernel_rfl) ?_
      repeat (first | (refine zaj rfl ?_; first | refine zak ?_) | (refine hK _ ?_; clear hK K) | refine zac rfl ?_)
      exact ⟨(i + 1, m + 1, vs ++ ((⟨true, p.va, true, (zb5 k id).asid⟩ : Fe)).vs), ⟨by show i + 1 ≤ l.length; omega, hn1, hv1⟩, by show l.length - (i + 1) < l.length - i; omega, Sub.trans (zao [(1, .m (ii id)), (2, .m (.c (.s l.length 8 (flP l)))), (3, .m (.c (.p 3 0))), (6, .m (.c (.v (.slice none 0 0)))), (7, .m (.c (.o 55))), (8, .m (ii ((i + 1 : Nat) : Int)))] [(3, .live (.box k.ce)), (55, .live (.row 80 4 (m + 1) (vs ++ (⟨true, p.va, true, (zb5 k id).asid⟩ : Fe).vs)))] ⟨by kernel_rfl, by kernel_rfl, by kernel_rfl, by kernel_rfl, by kernel_rfl, by kernel_rfl, trivial⟩ ⟨by kernel_rfl, by kernel_rfl, trivial⟩ (by kernel_rfl)) (Sub.trans (zb4 (b := 55) (b' := 1000) rfl rfl) (zao _ _ ⟨by kernel_rfl, by kernel_rfl, by kernel_rfl, by kernel_rfl, by kernel_rfl, by kernel_rfl, trivial⟩ ⟨by kernel_rfl, by kernel_rfl, trivial⟩ (by kernel_rfl)))⟩
    · have ei : i = l.length := by omega
      rw [ei, List.take_length] at g2 g3
      obtain rfl : N = m := by rw [hN, g2]
      obtain rfl : XS = vs := by rw [hXS, g3]
      repeat (first | (refine zaj rfl ?_; first | refine zak ?_) | (refine hK _ ?_; clear hK K) | (rename_i K1 hK1; refine hK1 _ ?_; clear hK hK1; clear K) | refine zac rfl ?_ | exact zah (show zar _ _ _ = some _ by kernel_rfl) | refine zae rfl rfl ?_ | refine zal ?_ | refine zab (fun K hK => ?_))
end Go.Proofs.YtmkjfeamgknpfaaGreatDoor.LjA
namespace Go.Proofs.YtmkjfeamgknpfaaGreatDoor.LjF
open Go.RowKit Bv VaSpec Base MemL RegR Ax MemC PutC MemC3 TzC OkS SpA SpB SpC SpF SpH SpI SpJ LaA LaB LaC LaD LaE LaF LaG LiA LiB LiC LiD LiE LiF SpE SpG SpO LjA LjB LjC LjD LjE LiF
open BitsC PteSpec
set_option maxRecDepth 10000
set_option maxHeartbeats 1000000
section
variable {cd cp sz f sh : Int} {xs : List (Int × Int)} {lv : Int → Int}
theorem zzw (addr : Int) (ha : U addr) (h : TI cd cp sz xs f sh lv) (hn : xs.length ≤ 100000) (l : Nat) (t : Int) (h2 : l ≤ 2) (ht : Al cd cp f t) (hl : lv t = l) (hH : 2 ≤ l → idx addr 2 ≠ 511) :
    Ok 53 [za6 sz xs, .ag [cu cd, ci cp, cu f], iu t, ii l, iu addr] (.tu [za6 sz (prN sz cd cp addr l t (xs, f)).1, .ag [cu cd, ci cp, cu (prN sz cd cp addr l t (xs, f)).2]]) := by
  have hf := z2y addr ha h hn l t h2 ht hl hH
  generalize prN sz cd cp addr l t (xs, f) = p at *
  have hf : zbv Tryz.prog GG 123 [(2000, [cu sz, .s xs.length 2 (fl xs), cu cd, ci cp, cu f, cu addr], [cu sz, .s p.1.length 2 (fl p.1), cu cd, ci cp, cu p.2, cu addr])] [.c (.p 2000 0), iu t, ii l] (.tu []) := hf
  refine zad 30 Tryz.func53 rfl rfl rfl rfl ?_ GG.to
  intro W A hG
  repeat (first | (refine zaj rfl ?_; first | refine zak ?_ | refine gdr (zeh (fun _ => 17) hf rfl rfl (by kernel_rfl) rfl ⟨rfl, trivial⟩ (by kernel_rfl)) ?_) | (refine hK _ ?_; clear hK K) | refine zac rfl ?_ | refine zam (by kernel_rfl) (by kernel_rfl) rfl ?_ | exact zah (show zar _ _ _ = some _ by kernel_rfl) | refine zab (fun K hK => ?_))
theorem zrb (h : TI cd cp sz xs f sh lv) {t i : Int} (hi : 0 ≤ i ∧ i < 512) (c : zbc (atM sz xs t i) = true) : 1 ≤ lv t := by
  rcases h.e.k t i hi with e | ⟨_, _, ⟨e, _⟩ | ⟨e, _⟩⟩
  · rw [e] at c; cases c
  · rw [(zb2 e).1] at c; cases c
  · exact (zig h hi e).2.1.1
end
theorem z48 (n : Int) : U (ofv n) := by
  unfold ofv zkt
  split <;> exact ⟨by omega, by omega⟩
theorem ziz (sz : Int) (xs : List (Int × Int)) (l : Int) (q : Pte) (b : Int) (hb : U b) (l2 : l ≤ 2) : (zax sz xs l q b).length ≤ 262144 ∧ ∀ y ∈ zax sz xs l q b, U y.va := by
  have hpv : ∀ (m : Nat) (t b : Int), U b → ∀ y ∈ zbg sz xs m t b, U y.va := by
    intro m
    induction m with
    | zero =>
      intro t b hb y hy
      obtain ⟨i, _, hy⟩ := List.mem_flatMap.1 hy
      unfold zfs at hy
      split at hy
      · cases hy
      · split at hy
        · rw [List.mem_singleton.1 hy]; exact z48 _
        · cases hy
    | succ m IH =>
      intro t b hb y hy
      obtain ⟨i, _, hy⟩ := List.mem_flatMap.1 hy
      unfold zfs at hy
      split at hy
      · cases hy
      · split at hy
        · rw [List.mem_singleton.1 hy]; exact z48 _
        · exact IH _ _ (z1s _ _ _) y hy
  unfold zax
  split
  · exact ⟨by simp, fun y hy => by rw [List.mem_singleton.1 hy]; exact hb⟩
  · split
    · refine ⟨?_, hpv _ _ _ hb⟩
      rcases (by omega : (l - 1).toNat = 0 ∨ (l - 1).toNat = 1) with e | e
      · rw [e]; have := zf8 sz xs q.ppn b; omega
      · rw [e]; exact zf9 sz xs q.ppn b
    · exact ⟨by simp, fun y hy => by cases hy⟩
theorem zsw (k : Kr) (id : Int) (l : List Pg) (h : ∀ y ∈ l, U y.va) : ∀ f ∈ zdp k id l, U f.ad := by
  intro f hf
  unfold zdp at hf
  split at hf
  · rw [List.mem_singleton.1 hf]; unfold zub; split <;> exact ⟨by show (0 : Int) ≤ 0; decide, by show (0 : Int) < 18446744073709551616; decide⟩
  · obtain ⟨y, hy, rfl⟩ := List.mem_map.1 hf
    unfold zbq
    split <;> exact h y hy
theorem zxm (sz : Int) (xs : List (Int × Int)) (l : Nat) (t : Int) (h : l ≤ 1) : (frN sz xs l t).length ≤ 513 := by
  rcases (by omega : l = 0 ∨ l = 1) with rfl | rfl
  · simp [frN]
  · unfold frN
    rw [List.length_cons, List.length_flatMap]
    have : ∀ is : List Nat, (is.map fun (i : Nat) => (if za9 (atM sz xs t i) ((0 + 1 : Nat) : Int) then frN sz xs 0 (atM sz xs t i).ppn else []).length).sum ≤ is.length := by
      intro is
      induction is with
      | nil => exact Nat.le_refl _
      | cons i is IH =>
        rw [List.map_cons, List.sum_cons, List.length_cons]
        have : (if za9 (atM sz xs t i) ((0 + 1 : Nat) : Int) then frN sz xs 0 (atM sz xs t i).ppn else []).length ≤ 1 := by
          split
          · simp [frN]
          · simp
        omega
    have := this (List.range 512)
    rw [List.length_range] at this
    exact Nat.add_le_add_right this 1
def unH (k : Kr) (id a l top lw t l' : Int) (q : Pte) (PL : List Pg) (L : List Int) (m : List (Int × Int)) (f : Int) (i : Nat) : St := St.of [(1, .m (ii id)), (2, .m (iu a)), (3, .m (ii l)), (4, .m (.c (.p 4 0))), (8, .m (.c (.p 8 0))), (10, .m (iu top)), (11, .m (ii lw)), (13, .m (.c (.p 13 0))), (14, .m (.c (.p 14 0))), (15, .m (.c (.p 15 0))), (16, .m (.c (.s PL.length 8 (flP PL)))), (72, .m (.c (.s L.length 1 (vsI L)))), (73, .m (ii L.length)), (74, .m (ii i))]
  [(4, .live (.box k.ce)), (8, .live (.box zK)), (13, .live (.box [cu k.sz, .s m.length 2 (fl m)])), (14, .live (.box [cu k.pb, ci k.pm, cu f])), (15, .live (.box (za3 t l' q)))]
theorem zxn {n : Nat} {k : Kr} (h : InvT n k) (hn : n ≤ 88000) (id a l : Int) (ha : U a) : Ok 21 [.ag k.ce, ii id, iu a, ii l] (.tu [.ag (unR k id a l).1.ce, ii (unR k id a l).2]) := by
  have hw := ziu k id a l ha
  have hin := z0q h (by omega) id a l ha
  obtain ⟨R, hR⟩ : ∃ R, R = unR k id a l := ⟨_, rfl⟩
  rw [← hR]
  unfold unR at hR
  by_cases c0 : (zas k id a l).2.2 ≠ 0
  · rw [if_pos c0] at hR
    generalize zas k id a l = w at *
    subst hR
    refine zad 107 Tryz.func21 rfl rfl rfl rfl ?_ GG.to
    intro W A hG
    repeat (first | (refine zaj rfl ?_; first | refine zak ?_ | refine gdr (zaa rfl rfl rfl (hw) (by kernel_rfl)) ?_) | (refine hK _ ?_; clear hK K) | refine zac rfl ?_ | exact zah (show zar _ _ _ = some _ by kernel_rfl) | refine zaf rfl rfl ?_ | refine zab (fun K hK => ?_))
  rw [if_neg c0] at hR
  replace c0 : (zas k id a l).2.2 = 0 := by omega
  obtain ⟨lv, hT, hs, hr⟩ := h.t
  obtain ⟨w1, w2, w3, w4⟩ := zbt (id := id) (a := a) (l := l) h.l c0
  obtain ⟨z1, z2⟩ := h.top (a := a) (id := id) (l := l) c0 hs hr
  have hlive : id = -1 ∨ (id ≠ -1 ∧ zbd k id = true) := by
    rcases zfy h.l c0 with ⟨_, _, e⟩ | ⟨e1, e2, _⟩
    · exact .inl e
    · exact .inr ⟨e2, e1⟩
  rw [c0] at hw
  generalize (zas k id a l).1 = top at *
  generalize (zas k id a l).2.1 = lw at *
  have b1 := hT.bd
  have b2 := hT.bp
  have bt := w2.1
  have hml := h.l.ml
  have hfl := h.l.fl
  have hpb := h.l.pb
  have hpm := h.l.pm
  by_cases c1 : (inR k id a l).length = 0
  · rw [if_pos c1] at hR
    rw [List.length_eq_zero_iff.1 c1] at hin
    clear c1
    subst hR
    refine zad 107 Tryz.func21 rfl rfl rfl rfl ?_ GG.to
    intro W A hG
    repeat (first | (refine zaj rfl ?_; first | refine zak ?_ | refine gdr (zaa rfl rfl rfl (hw) (by kernel_rfl)) ?_ | refine gdr (zaa rfl rfl rfl (hin) (by kernel_rfl)) ?_) | (refine hK _ ?_; clear hK K) | refine zac rfl ?_ | exact zah (show zar _ _ _ = some _ by kernel_rfl) | refine zaf rfl rfl ?_ | refine zae rfl rfl ?_ | refine zai ?_ | refine zab (fun K hK => ?_))
  rw [if_neg c1] at hR
  generalize inR k id a l = IL at *
  obtain ⟨m, rfl⟩ := Int.eq_ofNat_of_zero_le (show 0 ≤ lw by omega)
  have hto := z42 top a l m k.m k.pf lv hT w2 h.l.sh z1 ha (by omega) w1.1 w3 (by omega) _ rfl
  obtain ⟨lv', P⟩ := zq1 a l top m w1.1 w3 (by omega) m k.m k.pf lv hT w2 h.l.sh z1
  unfold unT at hR
  rw [Int.toNat_natCast] at hR
  have hKe : ∀ T, unK k id top (m : Int) a l T = unK k id top (m : Int) a l T := fun _ => rfl
  generalize toN k.sz k.cd a l top m m k.m k.pf = T at *
  obtain ⟨xs, f, ⟨t, lt⟩, e⟩ := T
  obtain ⟨l', e1, e2, e3, e4, e5⟩ := P.p
  replace e1 : lt = (l' : Int) := e1
  subst e1
  have y4 : Al k.cd k.cp f t := e4
  have y5 : lv' t = (l' : Int) := e5
  by_cases c5 : e ≠ 0
  · rw [if_pos c5] at hR
    rw [if_neg (show ¬ (xs, f, (t, (l' : Int)), e).2.2.2 = 0 from c5)] at hto
    replace hto : Ok 49 [za6 k.sz k.m, .ag [cu k.cd, ci k.cp, cu k.pf], iu top, ii m, iu a, ii l] (.tu [za6 k.sz k.m, .ag [cu k.cd, ci k.cp, cu k.pf], .ag (za3 0 0 zP), ii e]) := hto
    rw [← hpb, ← hpm] at hto
    replace hR : R = (k, e) := hR
    subst hR
    refine zad 107 Tryz.func21 rfl rfl rfl rfl ?_ GG.to
    intro W A hG
    repeat (first | (refine zaj rfl ?_; first | refine zak ?_ | refine gdr (zaa rfl rfl rfl (hw) (by kernel_rfl)) ?_ | refine gdr (zaa rfl rfl rfl (hin) (by kernel_rfl)) ?_ | refine gdr (zaa rfl rfl rfl (hto) (by kernel_rfl)) ?_) | (refine hK _ ?_; clear hK K) | refine zac rfl ?_ | exact zah (show zar _ _ _ = some _ by kernel_rfl) | refine zaf rfl rfl ?_ | refine zae rfl rfl ?_ | refine zai ?_ | refine zab (fun K hK => ?_))
  rw [if_neg c5] at hR
  obtain rfl : e = 0 := by omega
  rw [if_pos (show (xs, f, (t, (l' : Int)), (0 : Int)).2.2.2 = 0 from rfl)] at hto
  replace hto : Ok 49 [za6 k.sz k.m, .ag [cu k.cd, ci k.cp, cu k.pf], iu top, ii m, iu a, ii l] (.tu [za6 k.sz xs, .ag [cu k.cd, ci k.cp, cu f], .ag (za3 t (l' : Int) (atM k.sz xs t (idx a (l' : Int)))), ii 0]) := hto
  have hPt : TI k.cd k.cp k.sz xs f k.sh lv' := P.t
  have ash := P.a _ h.l.sh
  have atop := P.a _ w2
  have hi := idx_bd a (l' : Int)
  have bt' := y4.1
  have hxl : xs.length ≤ k.m.length + 513 * m := P.n
  obtain ⟨c2, c3, c4, c6, c7⟩ := zw5 (a := a) (e := 0) (t := t) (xs := xs) (f := f) (lv := lv') hPt ash.1 y4 y5 (by omega) (fun hh => z2 (by omega))
  have hlt : lv' top = (m : Int) := atop.2.trans z1
  have atop2 := c3 _ atop.1 (.inr (by rw [hlt]; omega))
  have hq := zem hPt.u k.sz t (idx a (l' : Int))
  have hqp := zch (xs := xs) k.sz t (idx a (l' : Int))
  have hpl := zo4 k.sz xs t (l' : Int) (atM k.sz xs t (idx a (l' : Int))) a ha hPt.s hPt.u hqp (by omega) (by omega) (fun c => by have := zrb hPt hi c; omega)
  have hub := ziz k.sz xs (l' : Int) (atM k.sz xs t (idx a (l' : Int))) (VaSpec.base a (l' : Int)) (zsv ha (by omega) (by omega)) (by omega)
  have hU2 : Uw (zev k.sz k.cd k.cp (xs, f, (t, (l' : Int)), (0 : Int)) a).1 := fun c hc => by
    unfold zev at hc
    split at hc
    · exact hPt.u c ((zhb k.cd k.cp k.sz hPt.bp _ (xs, f) hPt.s hPt.bf).m c hc)
    · exact hPt.u c hc
  have hwt := zdz k.sz (zev k.sz k.cd k.cp (xs, f, (t, (l' : Int)), (0 : Int)) a).1 t (l' : Int) (atM k.sz xs t (idx a (l' : Int))) a ⟨false, false, false, false, false, false, false, false, 0, 0, 0⟩ ha zx5 (by omega) (by omega) ⟨by omega, by omega⟩ c6 hU2 (by omega)
  replace hwt : Ok 54 [za6 k.sz (zev k.sz k.cd k.cp (xs, f, (t, (l' : Int)), (0 : Int)) a).1, .ag (za3 t (l' : Int) (atM k.sz xs t (idx a (l' : Int)))), iu a, .ag (⟨false, false, false, false, false, false, false, false, 0, 0, 0⟩ : Pte).ce] (.m (za6 k.sz (zbf k.sz (zev k.sz k.cd k.cp (xs, f, (t, (l' : Int)), (0 : Int)) a).1 t (idx a (l' : Int)) zP))) := hwt
  have hpr := zzw a ha c2 (by omega) m top (by omega) atop2 hlt (fun hh => z2 (by omega))
  have hK : R = (zda { k with m := (prN k.sz k.cd k.cp a m top (zbf k.sz (zev k.sz k.cd k.cp (xs, f, (t, (l' : Int)), (0 : Int)) a).1 t (idx a (l' : Int)) zP, (zev k.sz k.cd k.cp (xs, f, (t, (l' : Int)), (0 : Int)) a).2)).1, pf := (prN k.sz k.cd k.cp a m top (zbf k.sz (zev k.sz k.cd k.cp (xs, f, (t, (l' : Int)), (0 : Int)) a).1 t (idx a (l' : Int)) zP, (zev k.sz k.cd k.cp (xs, f, (t, (l' : Int)), (0 : Int)) a).2)).2 } (zdp k id (zax k.sz xs (l' : Int) (atM k.sz xs t (idx a (l' : Int))) (VaSpec.base a (l' : Int)))), 0) := by
    rw [hR]
    unfold unK unM
    rw [Int.toNat_natCast]
  have hfb := zgb k id (zax k.sz xs (l' : Int) (atM k.sz xs t (idx a (l' : Int))) (VaSpec.base a (l' : Int)))
  have hfU := zsw k id _ hub.2
  generalize prN k.sz k.cd k.cp a m top (zbf k.sz (zev k.sz k.cd k.cp (xs, f, (t, (l' : Int)), (0 : Int)) a).1 t (idx a (l' : Int)) zP, (zev k.sz k.cd k.cp (xs, f, (t, (l' : Int)), (0 : Int)) a).2) = p4 at *
  obtain ⟨m4, f4⟩ := p4
  have hfe : Ok 17 [.ag ({ k with m := m4, pf := f4 } : Kr).ce, ii id, .c (.s (zax k.sz xs (l' : Int) (atM k.sz xs t (idx a (l' : Int))) (VaSpec.base a (l' : Int))).length 8 (flP (zax k.sz xs (l' : Int) (atM k.sz xs t (idx a (l' : Int))) (VaSpec.base a (l' : Int)))))] (.m (.c (.s (zdp k id (zax k.sz xs (l' : Int) (atM k.sz xs t (idx a (l' : Int))) (VaSpec.base a (l' : Int)))).length 4 (flF (zdp k id (zax k.sz xs (l' : Int) (atM k.sz xs t (idx a (l' : Int))) (VaSpec.base a (l' : Int)))))))) := by
    rcases hlive with e | ⟨e, e'⟩
    · exact zxi { k with m := m4, pf := f4 } id _ e (by omega)
    · exact zxj { k with m := m4, pf := f4 } id _ e e' (by omega)
  have hsf := zju { k with m := m4, pf := f4 } h.l.ts h.l.cs.2 (zdp k id (zax k.sz xs (l' : Int) (atM k.sz xs t (idx a (l' : Int))) (VaSpec.base a (l' : Int)))) hfU (by omega) (by show k.fs.length ≤ _; omega)
  generalize zdp k id (zax k.sz xs (l' : Int) (atM k.sz xs t (idx a (l' : Int))) (VaSpec.base a (l' : Int))) = FL at *
  generalize zax k.sz xs (l' : Int) (atM k.sz xs t (idx a (l' : Int))) (VaSpec.base a (l' : Int)) = PL at *
  have hlk := zf2 (atM k.sz xs t (idx a (l' : Int)))
  have hlk1 : zbc (atM k.sz xs t (idx a (l' : Int))) = true → lkP (atM k.sz xs t (idx a (l' : Int))) = true := fun c => by
    rcases hPt.e.k t _ hi with e | ⟨_, _, ⟨e, _⟩ | ⟨e, _⟩⟩
    · rw [e] at c; cases c
    · rw [(zb2 e).1] at c; cases c
    · exact e
  have hcut : zev k.sz k.cd k.cp (xs, f, (t, (l' : Int)), (0 : Int)) a = if zbc (atM k.sz xs t (idx a (l' : Int))) then bkN k.cd k.cp (frN k.sz xs ((l' : Int) - 1).toNat (atM k.sz xs t (idx a (l' : Int))).ppn) (xs, f) else (xs, f) := rfl
  clear hub hfb hfU hR c0 P
  generalize zbf k.sz (zev k.sz k.cd k.cp (xs, f, (t, (l' : Int)), (0 : Int)) a).1 t (idx a (l' : Int)) zP = m3 at *
  generalize zev k.sz k.cd k.cp (xs, f, (t, (l' : Int)), (0 : Int)) a = P2 at *
  cases c : zbc (atM k.sz xs t (idx a (l' : Int))) with
  | false =>
    rw [c] at hlk hcut
    rw [if_neg (by simp)] at hcut
    subst hcut
    generalize atM k.sz xs t (idx a (l' : Int)) = q at *
    rw [← hpb, ← hpm] at hto hpr
    subst hK
    refine zad 107 Tryz.func21 rfl rfl rfl rfl ?_ GG.to
    intro W A hG
    repeat (first | (refine zaj rfl ?_; first | refine zak ?_ | refine gdr (zaa rfl rfl rfl (hw) (by kernel_rfl)) ?_ | refine gdr (zaa rfl rfl rfl (hin) (by kernel_rfl)) ?_ | refine gdr (zaa rfl rfl rfl (hto) (by kernel_rfl)) ?_ | refine gdr (zaa rfl rfl rfl (hpl) (by kernel_rfl)) ?_ | refine gdr (zaa rfl rfl rfl (hlk) (by kernel_rfl)) ?_ | refine gdr (zaa rfl rfl rfl (hwt) (by kernel_rfl)) ?_ | refine gdr (zaa rfl rfl rfl (hpr) (by kernel_rfl)) ?_ | refine gdr (zaa rfl rfl rfl (hfe) (by kernel_rfl)) ?_ | refine gdr (zaa rfl rfl rfl (hsf) (by kernel_rfl)) ?_) | (refine hK _ ?_; clear hK K) | refine zac rfl ?_ | refine zam (by kernel_rfl) (by kernel_rfl) rfl ?_ | exact zah (show zar _ _ _ = some _ by kernel_rfl) | refine zae rfl rfl ?_ | refine zai ?_ | refine zab (fun K hK => ?_))
  | true =>
    obtain ⟨k1, k2, k3, k4⟩ := zig hPt hi (hlk1 c)
    rw [c] at hlk hcut
    rw [if_pos rfl] at hcut
    have hl12 : l' = 1 ∨ l' = 2 := by omega
    have hfr : Ok 51 [za6 k.sz xs, iu (atM k.sz xs t (idx a (l' : Int))).ppn, ii ((l' : Int) - 1)] (.m (.c (.s (frN k.sz xs ((l' : Int) - 1).toNat (atM k.sz xs t (idx a (l' : Int))).ppn).length 1 (vsI (frN k.sz xs ((l' : Int) - 1).toNat (atM k.sz xs t (idx a (l' : Int))).ppn))))) := by
      clear hwt hpr hfe hsf hcut hto hpl hin hw hlk c c2 c3 c4 c6 c7 k1 k4 hi hlk1 hqp hq y5 e5 e4 e2 e3
      have hqp := zch (xs := xs) k.sz t (idx a (l' : Int))
      generalize atM k.sz xs t (idx a (l' : Int)) = q at *
      rcases hl12 with rfl | rfl
      · exact zsl k.sz xs hPt.s hPt.u q.ppn hqp
      · exact zzn k.sz xs hPt.s hPt.u q.ppn hqp
    have hLl := zxm k.sz xs ((l' : Int) - 1).toNat (atM k.sz xs t (idx a (l' : Int))).ppn (by omega)
    have hLb : ∀ g ∈ frN k.sz xs ((l' : Int) - 1).toNat (atM k.sz xs t (idx a (l' : Int))).ppn, 0 ≤ g ∧ g < 1099511627776 := fun g hg => by
      have := (ziv hPt ((l' : Int) - 1).toNat _ k4 (by omega) g hg).1.1
      omega
    generalize frN k.sz xs ((l' : Int) - 1).toNat (atM k.sz xs t (idx a (l' : Int))).ppn = L at *
    have hxs := hPt.s
    have hxf := hPt.bf
    generalize atM k.sz xs t (idx a (l' : Int)) = q at *
    subst hK
    have hto' := hto
    have hpr' := hpr
    rw [← hpb, ← hpm] at hto' hpr'
    have b1p : 1 ≤ k.pb ∧ k.pb ≤ 524288 := by omega
    have b2p : 1 ≤ k.pm ∧ k.pm ≤ 64 := by omega
    clear hto hpr
    have hl0 : 1 ≤ (l' : Int) := by omega
    have hl2 : (l' : Int) ≤ 2 := by omega
    clear hl12 hlk1 k1 k2 k3 k4 c2 c3 c4 hPt y4 y5 e2 e3 e4 e5 hT hs hr hlive w2 atop atop2 ash hfl hlt z1 z2
    generalize (l' : Int) = li at *
    refine zad 107 Tryz.func21 rfl rfl rfl rfl ?_ GG.to
    intro W A hG
    repeat (first | (refine zaj rfl ?_; first | refine zak ?_ | refine gdr (zaa rfl rfl rfl (hw) (by kernel_rfl)) ?_ | refine gdr (zaa rfl rfl rfl (hin) (by kernel_rfl)) ?_ | refine gdr (zaa rfl rfl rfl (hto') (by kernel_rfl)) ?_ | refine gdr (zaa rfl rfl rfl (hpl) (by kernel_rfl)) ?_ | refine gdr (zaa rfl rfl rfl (hlk) (by kernel_rfl)) ?_ | refine gdr (zaa rfl rfl rfl (hfr) (by kernel_rfl)) ?_) | (refine hK _ ?_; clear hK K) | refine zac rfl ?_ | refine zaf rfl rfl ?_ | refine zae rfl rfl ?_ | refine zag ?_ | refine zai ?_ | refine zab (fun K hK => ?_))
    refine zay (α := Nat × List (Int × Int) × Int) (fun p => p.1 ≤ L.length ∧ bkN k.cd k.cp (L.drop p.1) (p.2.1, p.2.2) = P2 ∧ Srt p.2.1 ∧ p.2.1.length ≤ xs.length ∧ (0 ≤ p.2.2 ∧ p.2.2 < 2 ^ k.cp.toNat)) (fun p => unH k id a l top m t li q PL L p.2.1 p.2.2 p.1) (fun p => L.length - p.1) (0, xs, f) ⟨Nat.zero_le _, hcut.symm, hxs, Nat.le_refl _, hxf⟩ (zao _ _ ⟨by kernel_rfl, by kernel_rfl, by kernel_rfl, by kernel_rfl, by kernel_rfl, by kernel_rfl, by kernel_rfl, by kernel_rfl, by kernel_rfl, by kernel_rfl, by kernel_rfl, by kernel_rfl, by kernel_rfl, by kernel_rfl, trivial⟩ ⟨by kernel_rfl, by kernel_rfl, by kernel_rfl, by kernel_rfl, by kernel_rfl, trivial⟩ (by kernel_rfl)) ?_
    rintro ⟨i, mm, ff⟩ ⟨x1, x2, x3, x4, x5⟩
    have g1 : i ≤ L.length := x1
    have g2 : bkN k.cd k.cp (L.drop i) (mm, ff) = P2 := x2
    have g3 : Srt mm := x3
    have g4 : mm.length ≤ xs.length := x4
    have g5 : 0 ≤ ff ∧ ff < 2 ^ k.cp.toNat := x5
    clear x1 x2 x3 x4 x5
    show Aw _ _ _ _ (unH k id a l top m t li q PL L mm ff i)
    unfold unH
    by_cases hlt : i < L.length
    · have hgm := hLb _ (List.getElem_mem hlt)
      have hd0 : L.drop i = L[i] :: L.drop (i + 1) := List.drop_eq_getElem_cons hlt
      have hx : ((vsI L).drop (i * 1)).take 1 = [.int .u64 L[i]] := by rw [Nat.mul_one]; unfold vsI; rw [← List.map_drop, hd0]; rfl
      have hd := hd0
      rw [hd] at g2
      have hbk := zvv k.sz mm k.cd k.cp ff L[i] ⟨by omega, by omega⟩ (by omega) (zhw g5.1 g5.2 (by omega)) hgm g3 (by omega)
      clear hd hd0
      generalize L[i] = g at *
      replace g2 : bkN k.cd k.cp (L.drop (i + 1)) (TableC.za4 mm g, TableC2.zcu k.cd k.cp ff g) = P2 := g2
      have hws := zcn g g3
      have hwl := zdb mm g
      have hgb := zm2 (cd := k.cd) (g := g) b2 g5
      generalize TableC.za4 mm g = m5 at *
      generalize TableC2.zcu k.cd k.cp ff g = f5 at *
      rw [← hpb, ← hpm] at hbk
      repeat (first | (refine zaj rfl ?_; first | refine zak ?_ | refine gdr (zaa rfl rfl rfl (hbk) (by kernel_rfl)) ?_) | (refine hK _ ?_; clear hK K) | refine zac rfl ?_ | refine zaf rfl rfl ?_ | refine zag ?_ | refine zai ?_ | refine zab (fun K hK => ?_))
      exact ⟨(i + 1, m5, f5), ⟨by show i + 1 ≤ L.length; omega, g2, hws, by show m5.length ≤ _; omega, hgb⟩, by show L.length - (i + 1) < L.length - i; omega, zao _ _ ⟨by kernel_rfl, by kernel_rfl, by kernel_rfl, by kernel_rfl, by kernel_rfl, by kernel_rfl, by kernel_rfl, by kernel_rfl, by kernel_rfl, by kernel_rfl, by kernel_rfl, by kernel_rfl, by kernel_rfl, by kernel_rfl, trivial⟩ ⟨by kernel_rfl, by kernel_rfl, by kernel_rfl, by kernel_rfl, by kernel_rfl, trivial⟩ (by kernel_rfl)⟩
    · have ei : i = L.length := by omega
      rw [ei, List.drop_length] at g2
      replace g2 : (mm, ff) = P2 := g2
      subst g2
      repeat (first | (refine zaj rfl ?_; first | refine zak ?_ | refine gdr (zaa rfl rfl rfl (hwt) (by kernel_rfl)) ?_ | refine gdr (zaa rfl rfl rfl (hpr') (by kernel_rfl)) ?_ | refine gdr (zaa rfl rfl rfl (hfe) (by kernel_rfl)) ?_ | refine gdr (zaa rfl rfl rfl (hsf) (by kernel_rfl)) ?_) | (refine hK _ ?_; clear hK K) | (rename_i K1 hK1; refine hK1 _ ?_; clear hK hK1; clear K) | refine zac rfl ?_ | refine zam (by kernel_rfl) (by kernel_rfl) rfl ?_ | exact zah (show zar _ _ _ = some _ by kernel_rfl) | refine zae rfl rfl ?_ | refine zal ?_ | refine zab (fun K hK => ?_))
end Go.Proofs.YtmkjfeamgknpfaaGreatDoor.LjF
namespace Go.Proofs.YtmkjfeamgknpfaaGreatDoor.LkE
open Go.RowKit Bv VaSpec Base MemL RegR Ax MemC PutC MemC3 TzC OkS SpA SpB SpC SpF SpH SpI SpJ LaA LaB LaC LaD LaE LaF LaG LiA LiB LiC LiD LiE LiF SpE SpG SpO SpL SpN RfA RfB RfC RfD RlA RlB LjA LjB LjC LjD LjE LjF LiF LkA LkB LkC LkD
open BitsC PteSpec
set_option maxRecDepth 10000
set_option maxHeartbeats 1000000
theorem zsx {n : Nat} {k : Kr} {id a l : Int} (h : InvT n k) (c0 : (zas k id a l).2.2 = 0) (c1 : (inR k id a l).length ≠ 0) (c5 : (unT k (zas k id a l).1 (zas k id a l).2.1 a l).2.2.2 = 0) : (unT k (zas k id a l).1 (zas k id a l).2.1 a l).2.2.1.2 = l := by
  obtain ⟨lv, hT, hs, hr⟩ := h.t
  obtain ⟨w1, w2, w3, w4⟩ := zbt (id := id) (a := a) (l := l) h.l c0
  obtain ⟨z1, z2⟩ := h.top (a := a) (id := id) (l := l) c0 hs hr
  unfold inR at c1
  rw [if_neg (by omega)] at c1
  generalize zas k id a l = w at *
  obtain ⟨l', t', i1, i2, i3, i4, i5, i6, _⟩ := zci hT a l w1.1 w.2.1.toNat w.1 w2 (by omega) (by omega)
  rw [show zbs k.sz k.m a l w.2.1 w.1 = (t', (l' : Int)) from i1] at c1
  replace c1 : (zax k.sz k.m (l' : Int) (atM k.sz k.m t' (idx a (l' : Int))) (VaSpec.base a (l' : Int))).length ≠ 0 := c1
  refine z0m a l w.1 w.2.1.toNat w1.1 (by omega) (by omega) w.2.1.toNat k.m k.pf lv hT w2 h.l.sh (by omega) ?_ ?_ c5
  · rw [i1]; show (l' : Int) ≤ _; omega
  · rw [i1]
    show (l' : Int) = l ∨ za2 (atM k.sz k.m t' (idx a (l' : Int))) = true
    by_cases e : (l' : Int) = l
    · exact .inl e
    · refine .inr ?_
      have hnl := i6 (by omega)
      cases hlf : za2 (atM k.sz k.m t' (idx a (l' : Int))) with
      | true => rfl
      | false =>
        exfalso
        refine c1 ?_
        have hk : zbc (atM k.sz k.m t' (idx a (l' : Int))) = false := by
          rcases hT.e.k t' _ (idx_bd a (l' : Int)) with e | ⟨_, _, ⟨e, _⟩ | ⟨e, _⟩⟩
          · rw [e]; rfl
          · exact (zb2 e).1
          · rw [zek e (by omega)] at hnl; cases hnl
        unfold zax
        rw [hlf, hk]
        rfl
def z58 (k : Kr) (id a l top lw t l' : Int) (q : Pte) (PL : List Pg) (L : List Int) (m : List (Int × Int)) (f : Int) (i : Nat) : St := St.of [(1, .m (ii id)), (2, .m (iu a)), (3, .m (ii l)), (4, .m (.c (.p 4 0))), (8, .m (.c (.p 8 0))), (10, .m (iu top)), (11, .m (ii lw)), (13, .m (.c (.p 13 0))), (14, .m (.c (.p 14 0))), (15, .m (.c (.p 15 0))), (17, .m (.c (.s PL.length 8 (flP PL)))), (18, .m (.c (.s L.length 1 (vsI L)))), (19, .m (ii i))]
  [(4, .live (.box k.ce)), (8, .live (.box zK)), (13, .live (.box [cu k.sz, .s m.length 2 (fl m)])), (14, .live (.box [cu k.pb, ci k.pm, cu f])), (15, .live (.box (za3 t l' q)))]
theorem zud {n : Nat} {k : Kr} (h : InvT n k) (hn : n ≤ 88000) (id a l : Int) (ha : U a) : Ok 35 [.ag k.ce, ii id, iu a, ii l] (.tu [.ag (unR k id a l).1.ce, ii (unR k id a l).2]) := by
  have hw := zhe k id a l ha
  have hin := zxh h (by omega) id a l ha
  obtain ⟨R, hR⟩ : ∃ R, R = unR k id a l := ⟨_, rfl⟩
  rw [← hR]
  unfold unR at hR
  by_cases c0 : (zas k id a l).2.2 ≠ 0
  · rw [if_pos c0] at hR
    generalize zas k id a l = w at *
    subst hR
    refine zad 116 Tryz.func35 rfl rfl rfl rfl ?_ GG.to
    intro W A hG
    repeat (first | (refine zaj rfl ?_; first | refine zak ?_ | refine gdr (zaa rfl rfl rfl (hw) (by kernel_rfl)) ?_) | (refine hK _ ?_; clear hK K) | refine zac rfl ?_ | exact zah (show zar _ _ _ = some _ by kernel_rfl) | refine zaf rfl rfl ?_ | refine zab (fun K hK => ?_))
  rw [if_neg c0] at hR
  replace c0 : (zas k id a l).2.2 = 0 := by omega
  obtain ⟨lv, hT, hs, hr⟩ := h.t
  obtain ⟨w1, w2, w3, w4⟩ := zbt (id := id) (a := a) (l := l) h.l c0
  obtain ⟨z1, z2⟩ := h.top (a := a) (id := id) (l := l) c0 hs hr
  have hlive : id = -1 ∨ (id ≠ -1 ∧ zbd k id = true) := by
    rcases zfy h.l c0 with ⟨_, _, e⟩ | ⟨e1, e2, _⟩
    · exact .inl e
    · exact .inr ⟨e2, e1⟩
  have hlev := zsx h c0
  have hfb0 := zkf (zd5 c0)
  rw [c0] at hw
  generalize (zas k id a l).1 = top at *
  generalize (zas k id a l).2.1 = lw at *
  have b1 := hT.bd
  have b2 := hT.bp
  have bt := w2.1
  have hml := h.l.ml
  have hfl := h.l.fl
  have hpb := h.l.pb
  have hpm := h.l.pm
  by_cases c1 : (inR k id a l).length = 0
  · rw [if_pos c1] at hR
    rw [List.length_eq_zero_iff.1 c1] at hin
    clear c1
    subst hR
    refine zad 116 Tryz.func35 rfl rfl rfl rfl ?_ GG.to
    intro W A hG
    repeat (first | (refine zaj rfl ?_; first | refine zak ?_ | refine gdr (zaa rfl rfl rfl (hw) (by kernel_rfl)) ?_ | refine gdr (zaa rfl rfl rfl (hin) (by kernel_rfl)) ?_) | (refine hK _ ?_; clear hK K) | refine zac rfl ?_ | exact zah (show zar _ _ _ = some _ by kernel_rfl) | refine zaf rfl rfl ?_ | refine zae rfl rfl ?_ | refine zai ?_ | refine zab (fun K hK => ?_))
  rw [if_neg c1] at hR
  replace hlev := hlev c1
  generalize inR k id a l = IL at *
  obtain ⟨m, rfl⟩ := Int.eq_ofNat_of_zero_le (show 0 ≤ lw by omega)
  have hto := z0p top a l m k.m k.pf lv hT w2 h.l.sh z1 ha (by omega) w1.1 w3 (by omega) _ rfl
  obtain ⟨lv', P⟩ := zq1 a l top m w1.1 w3 (by omega) m k.m k.pf lv hT w2 h.l.sh z1
  unfold unT at hR hlev
  rw [Int.toNat_natCast] at hR hlev
  have hKe : ∀ T, unK k id top (m : Int) a l T = unK k id top (m : Int) a l T := fun _ => rfl
  generalize toN k.sz k.cd a l top m m k.m k.pf = T at *
  obtain ⟨xs, f, ⟨t, lt⟩, e⟩ := T
  obtain ⟨l', e1, e2, e3, e4, e5⟩ := P.p
  replace e1 : lt = (l' : Int) := e1
  subst e1
  have y4 : Al k.cd k.cp f t := e4
  have y5 : lv' t = (l' : Int) := e5
  by_cases c5 : e ≠ 0
  · rw [if_pos c5] at hR
    rw [if_neg (show ¬ (xs, f, (t, (l' : Int)), e).2.2.2 = 0 from c5)] at hto
    replace hto : Ok 91 [za6 k.sz k.m, .ag [cu k.cd, ci k.cp, cu k.pf], iu top, ii m, iu a, ii l] (.tu [za6 k.sz k.m, .ag [cu k.cd, ci k.cp, cu k.pf], .ag (za3 0 0 zP), ii e]) := hto
    rw [← hpb, ← hpm] at hto
    replace hR : R = (k, e) := hR
    subst hR
    refine zad 116 Tryz.func35 rfl rfl rfl rfl ?_ GG.to
    intro W A hG
    repeat (first | (refine zaj rfl ?_; first | refine zak ?_ | refine gdr (zaa rfl rfl rfl (hw) (by kernel_rfl)) ?_ | refine gdr (zaa rfl rfl rfl (hin) (by kernel_rfl)) ?_ | refine gdr (zaa rfl rfl rfl (hto) (by kernel_rfl)) ?_) | (refine hK _ ?_; clear hK K) | refine zac rfl ?_ | exact zah (show zar _ _ _ = some _ by kernel_rfl) | refine zaf rfl rfl ?_ | refine zae rfl rfl ?_ | refine zai ?_ | refine zab (fun K hK => ?_))
  rw [if_neg c5] at hR
  obtain rfl : e = 0 := by omega
  have hll : (l' : Int) = l := hlev rfl
  clear hlev
  rw [if_pos (show (xs, f, (t, (l' : Int)), (0 : Int)).2.2.2 = 0 from rfl)] at hto
  replace hto : Ok 91 [za6 k.sz k.m, .ag [cu k.cd, ci k.cp, cu k.pf], iu top, ii m, iu a, ii l] (.tu [za6 k.sz xs, .ag [cu k.cd, ci k.cp, cu f], .ag (za3 t (l' : Int) (atM k.sz xs t (idx a (l' : Int)))), ii 0]) := hto
  have hPt : TI k.cd k.cp k.sz xs f k.sh lv' := P.t
  have ash := P.a _ h.l.sh
  have atop := P.a _ w2
  have hi := idx_bd a (l' : Int)
  have bt' := y4.1
  have hxl : xs.length ≤ k.m.length + 513 * m := P.n
  obtain ⟨c2, c3, c4, c6, c7⟩ := zw5 (a := a) (e := 0) (t := t) (xs := xs) (f := f) (lv := lv') hPt ash.1 y4 y5 (by omega) (fun hh => z2 (by omega))
  have hlt : lv' top = (m : Int) := atop.2.trans z1
  have atop2 := c3 _ atop.1 (.inr (by rw [hlt]; omega))
  have hq := zem hPt.u k.sz t (idx a (l' : Int))
  have hqp := zch (xs := xs) k.sz t (idx a (l' : Int))
  have hpl := zki k.sz xs t (l' : Int) (atM k.sz xs t (idx a (l' : Int))) a ha hPt.s hPt.u (by omega) hqp (by omega) (by omega) (fun c => by have := zrb hPt hi c; omega)
  replace hpl : Ok 44 [za6 k.sz xs, .ag (za3 t (l' : Int) (atM k.sz xs t (idx a (l' : Int)))), iu a] (.m (.c (.s (zax k.sz xs (l' : Int) (atM k.sz xs t (idx a (l' : Int))) (VaSpec.base a (l' : Int))).length 8 (flP (zax k.sz xs (l' : Int) (atM k.sz xs t (idx a (l' : Int))) (VaSpec.base a (l' : Int))))))) := by
    rw [hll, hfb0, ← hll]; exact hpl
  have hub := ziz k.sz xs (l' : Int) (atM k.sz xs t (idx a (l' : Int))) (VaSpec.base a (l' : Int)) (zsv ha (by omega) (by omega)) (by omega)
  have hU2 : Uw (zev k.sz k.cd k.cp (xs, f, (t, (l' : Int)), (0 : Int)) a).1 := fun c hc => by
    unfold zev at hc
    split at hc
    · exact hPt.u c ((zhb k.cd k.cp k.sz hPt.bp _ (xs, f) hPt.s hPt.bf).m c hc)
    · exact hPt.u c hc
  have hbz := hPt.bz
  have hwt := ze8 k.sz (zev k.sz k.cd k.cp (xs, f, (t, (l' : Int)), (0 : Int)) a).1 t (l' : Int) (atM k.sz xs t (idx a (l' : Int))) a ⟨false, false, false, false, false, false, false, false, 0, 0, 0⟩ ha zx5 (by decide) (by omega) (by omega) ⟨by omega, by omega⟩ c6 (by omega)
  rw [show (⟨false, false, false, false, false, false, false, false, 0, 0, 0⟩ : Pte) = zP from rfl, ← zdd (sz := k.sz) zx5 (by omega) hi (by rw [hbz]; omega)] at hwt
  replace hwt : Ok 95 [za6 k.sz (zev k.sz k.cd k.cp (xs, f, (t, (l' : Int)), (0 : Int)) a).1, .ag (za3 t (l' : Int) (atM k.sz xs t (idx a (l' : Int)))), iu a, .ag (⟨false, false, false, false, false, false, false, false, 0, 0, 0⟩ : Pte).ce] (.m (za6 k.sz (zbf k.sz (zev k.sz k.cd k.cp (xs, f, (t, (l' : Int)), (0 : Int)) a).1 t (idx a (l' : Int)) zP))) := hwt
  have hpr := zxd a ha c2 (by omega) m top (by omega) atop2 hlt (fun hh => z2 (by omega))
  have hK : R = (zda { k with m := (prN k.sz k.cd k.cp a m top (zbf k.sz (zev k.sz k.cd k.cp (xs, f, (t, (l' : Int)), (0 : Int)) a).1 t (idx a (l' : Int)) zP, (zev k.sz k.cd k.cp (xs, f, (t, (l' : Int)), (0 : Int)) a).2)).1, pf := (prN k.sz k.cd k.cp a m top (zbf k.sz (zev k.sz k.cd k.cp (xs, f, (t, (l' : Int)), (0 : Int)) a).1 t (idx a (l' : Int)) zP, (zev k.sz k.cd k.cp (xs, f, (t, (l' : Int)), (0 : Int)) a).2)).2 } (zdp k id (zax k.sz xs (l' : Int) (atM k.sz xs t (idx a (l' : Int))) (VaSpec.base a (l' : Int)))), 0) := by
    rw [hR]
    unfold unK unM
    rw [Int.toNat_natCast]
  have hfb := zgb k id (zax k.sz xs (l' : Int) (atM k.sz xs t (idx a (l' : Int))) (VaSpec.base a (l' : Int)))
  have hfU := zsw k id _ hub.2
  generalize prN k.sz k.cd k.cp a m top (zbf k.sz (zev k.sz k.cd k.cp (xs, f, (t, (l' : Int)), (0 : Int)) a).1 t (idx a (l' : Int)) zP, (zev k.sz k.cd k.cp (xs, f, (t, (l' : Int)), (0 : Int)) a).2) = p4 at *
  obtain ⟨m4, f4⟩ := p4
  have hfe : Ok 19 [.ag ({ k with m := m4, pf := f4 } : Kr).ce, ii id, .c (.s (zax k.sz xs (l' : Int) (atM k.sz xs t (idx a (l' : Int))) (VaSpec.base a (l' : Int))).length 8 (flP (zax k.sz xs (l' : Int) (atM k.sz xs t (idx a (l' : Int))) (VaSpec.base a (l' : Int)))))] (.m (.c (.s (zdp k id (zax k.sz xs (l' : Int) (atM k.sz xs t (idx a (l' : Int))) (VaSpec.base a (l' : Int)))).length 4 (flF (zdp k id (zax k.sz xs (l' : Int) (atM k.sz xs t (idx a (l' : Int))) (VaSpec.base a (l' : Int)))))))) := by
    rcases hlive with e | ⟨e, e'⟩
    · exact zxk { k with m := m4, pf := f4 } id _ e (by omega)
    · exact zxl { k with m := m4, pf := f4 } id _ e e' (by omega)
  have hsf := zke { k with m := m4, pf := f4 } h.l.ts h.l.cs.2 (zdp k id (zax k.sz xs (l' : Int) (atM k.sz xs t (idx a (l' : Int))) (VaSpec.base a (l' : Int)))) (by omega) (by show k.fs.length ≤ _; omega)
  generalize zdp k id (zax k.sz xs (l' : Int) (atM k.sz xs t (idx a (l' : Int))) (VaSpec.base a (l' : Int))) = FL at *
  generalize zax k.sz xs (l' : Int) (atM k.sz xs t (idx a (l' : Int))) (VaSpec.base a (l' : Int)) = PL at *
  have hlk := ziw (atM k.sz xs t (idx a (l' : Int)))
  have hlk1 : zbc (atM k.sz xs t (idx a (l' : Int))) = true → lkP (atM k.sz xs t (idx a (l' : Int))) = true := fun c => by
    rcases hPt.e.k t _ hi with e | ⟨_, _, ⟨e, _⟩ | ⟨e, _⟩⟩
    · rw [e] at c; cases c
    · rw [(zb2 e).1] at c; cases c
    · exact e
  have hcut : zev k.sz k.cd k.cp (xs, f, (t, (l' : Int)), (0 : Int)) a = if zbc (atM k.sz xs t (idx a (l' : Int))) then bkN k.cd k.cp (frN k.sz xs ((l' : Int) - 1).toNat (atM k.sz xs t (idx a (l' : Int))).ppn) (xs, f) else (xs, f) := rfl
  clear hub hfb hfU hR c0 P
  generalize zbf k.sz (zev k.sz k.cd k.cp (xs, f, (t, (l' : Int)), (0 : Int)) a).1 t (idx a (l' : Int)) zP = m3 at *
  generalize zev k.sz k.cd k.cp (xs, f, (t, (l' : Int)), (0 : Int)) a = P2 at *
  cases c : zbc (atM k.sz xs t (idx a (l' : Int))) with
  | false =>
    rw [c] at hlk hcut
    rw [if_neg (by simp)] at hcut
    subst hcut
    generalize atM k.sz xs t (idx a (l' : Int)) = q at *
    rw [← hpb, ← hpm] at hto hpr
    subst hK
    refine zad 116 Tryz.func35 rfl rfl rfl rfl ?_ GG.to
    intro W A hG
    repeat (first | (refine zaj rfl ?_; first | refine zak ?_ | refine gdr (zaa rfl rfl rfl (hw) (by kernel_rfl)) ?_ | refine gdr (zaa rfl rfl rfl (hin) (by kernel_rfl)) ?_ | refine gdr (zaa rfl rfl rfl (hto) (by kernel_rfl)) ?_ | refine gdr (zaa rfl rfl rfl (hpl) (by kernel_rfl)) ?_ | refine gdr (zaa rfl rfl rfl (hlk) (by kernel_rfl)) ?_ | refine gdr (zaa rfl rfl rfl (hwt) (by kernel_rfl)) ?_ | refine gdr (zaa rfl rfl rfl (hpr) (by kernel_rfl)) ?_ | refine gdr (zaa rfl rfl rfl (hfe) (by kernel_rfl)) ?_ | refine gdr (zaa rfl rfl rfl (hsf) (by kernel_rfl)) ?_) | (refine hK _ ?_; clear hK K) | refine zac rfl ?_ | refine zam (by kernel_rfl) (by kernel_rfl) rfl ?_ | exact zah (show zar _ _ _ = some _ by kernel_rfl) | refine zae rfl rfl ?_ | refine zai ?_ | refine zab (fun K hK => ?_))
  | true =>
    obtain ⟨k1, k2, k3, k4⟩ := zig hPt hi (hlk1 c)
    rw [c] at hlk hcut
    rw [if_pos rfl] at hcut
    have hl12 : l' = 1 ∨ l' = 2 := by omega
    have hfr : Ok 93 [za6 k.sz xs, iu (atM k.sz xs t (idx a (l' : Int))).ppn, ii ((l' : Int) - 1)] (.m (.c (.s (frN k.sz xs ((l' : Int) - 1).toNat (atM k.sz xs t (idx a (l' : Int))).ppn).length 1 (vsI (frN k.sz xs ((l' : Int) - 1).toNat (atM k.sz xs t (idx a (l' : Int))).ppn))))) := by
      clear hwt hpr hfe hsf hcut hto hpl hin hw hlk c c2 c3 c4 c6 c7 k1 k4 hi hlk1 hqp hq y5 e5 e4 e2 e3
      have hqp := zch (xs := xs) k.sz t (idx a (l' : Int))
      generalize atM k.sz xs t (idx a (l' : Int)) = q at *
      rcases hl12 with rfl | rfl
      · exact zo0 k.sz xs hPt.s hPt.u (by omega) q.ppn hqp
      · exact zw9 k.sz xs hPt.s hPt.u (by omega) q.ppn hqp
    have hLl := zxm k.sz xs ((l' : Int) - 1).toNat (atM k.sz xs t (idx a (l' : Int))).ppn (by omega)
    have hLb : ∀ g ∈ frN k.sz xs ((l' : Int) - 1).toNat (atM k.sz xs t (idx a (l' : Int))).ppn, 0 ≤ g ∧ g < 268436480 := fun g hg => by
      have := (ziv hPt ((l' : Int) - 1).toNat _ k4 (by omega) g hg).1.1
      omega
    generalize frN k.sz xs ((l' : Int) - 1).toNat (atM k.sz xs t (idx a (l' : Int))).ppn = L at *
    have hxs := hPt.s
    have hxf := hPt.bf
    have hxr : ∀ c ∈ xs, 0 ≤ c.1 ∧ c.1 < 1099511627776 := fun c hc => by have := (hPt.r c hc).1; omega
    generalize atM k.sz xs t (idx a (l' : Int)) = q at *
    subst hK
    have hto' := hto
    have hpr' := hpr
    rw [← hpb, ← hpm] at hto' hpr'
    have b1p : 1 ≤ k.pb ∧ k.pb ≤ 524288 := by omega
    have b2p : 1 ≤ k.pm ∧ k.pm ≤ 64 := by omega
    clear hto hpr
    have hl0 : 1 ≤ (l' : Int) := by omega
    have hl2 : (l' : Int) ≤ 2 := by omega
    clear hl12 hlk1 k1 k2 k3 k4 c2 c3 c4 hPt y4 y5 e2 e3 e4 e5 hT hs hr hlive w2 atop atop2 ash hfl hlt z1 z2
    generalize (l' : Int) = li at *
    refine zad 116 Tryz.func35 rfl rfl rfl rfl ?_ GG.to
    intro W A hG
    repeat (first | (refine zaj rfl ?_; first | refine zak ?_ | refine gdr (zaa rfl rfl rfl (hw) (by kernel_rfl)) ?_ | refine gdr (zaa rfl rfl rfl (hin) (by kernel_rfl)) ?_ | refine gdr (zaa rfl rfl rfl (hto') (by kernel_rfl)) ?_ | refine gdr (zaa rfl rfl rfl (hpl) (by kernel_rfl)) ?_ | refine gdr (zaa rfl rfl rfl (hlk) (by kernel_rfl)) ?_ | refine gdr (zaa rfl rfl rfl (hfr) (by kernel_rfl)) ?_) | (refine hK _ ?_; clear hK K) | refine zac rfl ?_ | refine zaf rfl rfl ?_ | refine zae rfl rfl ?_ | refine zag ?_ | refine zai ?_ | refine zab (fun K hK => ?_))
    refine zay (α := Nat × List (Int × Int) × Int) (fun p => p.1 ≤ L.length ∧ bkN k.cd k.cp (L.drop p.1) (p.2.1, p.2.2) = P2 ∧ Srt p.2.1 ∧ p.2.1.length ≤ xs.length ∧ (0 ≤ p.2.2 ∧ p.2.2 < 2 ^ k.cp.toNat) ∧ ∀ c ∈ p.2.1, 0 ≤ c.1 ∧ c.1 < 1099511627776) (fun p => z58 k id a l top m t li q PL L p.2.1 p.2.2 p.1) (fun p => L.length - p.1) (0, xs, f) ⟨Nat.zero_le _, hcut.symm, hxs, Nat.le_refl _, hxf, hxr⟩ (zao _ _ ⟨by kernel_rfl, by kernel_rfl, by kernel_rfl, by kernel_rfl, by kernel_rfl, by kernel_rfl, by kernel_rfl, by kernel_rfl, by kernel_rfl, by kernel_rfl, by kernel_rfl, by kernel_rfl, by kernel_rfl, trivial⟩ ⟨by kernel_rfl, by kernel_rfl, by kernel_rfl, by kernel_rfl, by kernel_rfl, trivial⟩ (by kernel_rfl)) ?_
    rintro ⟨i, mm, ff⟩ ⟨x1, x2, x3, x4, x5, g6⟩
    have g1 : i ≤ L.length := x1
    have g2 : bkN k.cd k.cp (L.drop i) (mm, ff) = P2 := x2
    have g3 : Srt mm := x3
    have g4 : mm.length ≤ xs.length := x4
    replace g6 : ∀ c ∈ mm, 0 ≤ c.1 ∧ c.1 < 1099511627776 := g6
    have g5 : 0 ≤ ff ∧ ff < 2 ^ k.cp.toNat := x5
    clear x1 x2 x3 x4 x5
    show Aw _ _ _ _ (z58 k id a l top m t li q PL L mm ff i)
    unfold z58
    by_cases hlt : i < L.length
    · have hgm := hLb _ (List.getElem_mem hlt)
      have hd0 : L.drop i = L[i] :: L.drop (i + 1) := List.drop_eq_getElem_cons hlt
      have hx : ((vsI L).drop (i * 1)).take 1 = [.int .u64 L[i]] := by rw [Nat.mul_one]; unfold vsI; rw [← List.map_drop, hd0]; rfl
      have hd := hd0
      rw [hd] at g2
      have hbk := zsf k.sz mm k.cd k.cp ff L[i] ⟨by omega, by omega⟩ (by omega) (zhw g5.1 g5.2 (by omega)) hgm g3 (by omega) g6
      clear hd hd0
      generalize L[i] = g at *
      replace g2 : bkN k.cd k.cp (L.drop (i + 1)) (TableC.za4 mm g, TableC2.zcu k.cd k.cp ff g) = P2 := g2
      have hws := zcn g g3
      have hwm : ∀ c ∈ TableC.za4 mm g, 0 ≤ c.1 ∧ c.1 < 1099511627776 := fun c hc => g6 c (zei hc)
      have hwl := zdb mm g
      have hgb := zm2 (cd := k.cd) (g := g) b2 g5
      generalize TableC.za4 mm g = m5 at *
      generalize TableC2.zcu k.cd k.cp ff g = f5 at *
      rw [← hpb, ← hpm] at hbk
      repeat (first | (refine zaj rfl ?_; first | refine zak ?_ | refine gdr (zaa rfl rfl rfl (hbk) (by kernel_rfl)) ?_) | (refine hK _ ?_; clear hK K) | refine zac rfl ?_ | refine zam (by kernel_rfl) (by kernel_rfl) rfl ?_ | refine zaf rfl rfl ?_ | refine zag ?_ | refine zai ?_ | refine zab (fun K hK => ?_))
      exact ⟨(i + 1, m5, f5), ⟨by show i + 1 ≤ L.length; omega, g2, hws, by show m5.length ≤ _; omega, hgb, hwm⟩, by show L.length - (i + 1) < L.length - i; omega, zao _ _ ⟨by kernel_rfl, by kernel_rfl, by kernel_rfl, by kernel_rfl, by kernel_rfl, by kernel_rfl, by kernel_rfl, by kernel_rfl, by kernel_rfl, by kernel_rfl, by kernel_rfl, by kernel_rfl, by kernel_rfl, trivial⟩ ⟨by kernel_rfl, by kernel_rfl, by kernel_rfl, by kernel_rfl, by kernel_rfl, trivial⟩ (by kernel_rfl)⟩
    · have ei : i = L.length := by omega
      rw [ei, List.drop_length] at g2
      replace g2 : (mm, ff) = P2 := g2
      subst g2
      repeat (first | (refine zaj rfl ?_; first | refine zak ?_ | refine gdr (zaa rfl rfl rfl (hwt) (by kernel_rfl)) ?_ | refine gdr (zaa rfl rfl rfl (hpr') (by kernel_rfl)) ?_ | refine gdr (zaa rfl rfl rfl (hfe) (by kernel_rfl)) ?_ | refine gdr (zaa rfl rfl rfl (hsf) (by kernel_rfl)) ?_) | (refine hK _ ?_; clear hK K) | (rename_i K1 hK1; refine hK1 _ ?_; clear hK hK1; clear K) | refine zac rfl ?_ | refine zam (by kernel_rfl) (by kernel_rfl) rfl ?_ | exact zah (show zar _ _ _ = some _ by kernel_rfl) | refine zae rfl rfl ?_ | refine zal ?_ | refine zab (fun K hK => ?_))
end Go.Proofs.YtmkjfeamgknpfaaGreatDoor.LkE
namespace Go.Proofs.YtmkjfeamgknpfaaGreatDoor.LrA
open Go.RowKit Bv VaSpec Base MemL RegR Ax MemC PutC MemC3 TzC OkS SpA SpB SpC SpD SpE SpF SpG SpH SpI SpJ SpN SpO RfP RfQ RfE RfG RfJ RfK LaA LaB LaC LaD LaE LaF LaG LaH LiA LiB LiC LiD LiE LiF
open BitsC PteSpec
set_option maxRecDepth 10000
set_option maxHeartbeats 1000000
def NE (E : Int → Int → Pte) (sh : Int) : Prop := ∀ s i, (0 ≤ i ∧ i < 512) → lkP (E s i) = true → (E s i).ppn ≠ sh → ∃ j, (0 ≤ j ∧ j < 512) ∧ E (E s i).ppn j ≠ zP
def NEx (E : Int → Int → Pte) (sh g : Int) : Prop := ∀ s i, (0 ≤ i ∧ i < 512) → lkP (E s i) = true → (E s i).ppn ≠ sh → (E s i).ppn ≠ g → ∃ j, (0 ≤ j ∧ j < 512) ∧ E (E s i).ppn j ≠ zP
theorem NE.ex {E : Int → Int → Pte} {sh : Int} (h : NE E sh) (g : Int) : NEx E sh g := fun s j hj h1 h2 _ => h s j hj h1 h2
section
variable {cd cp sz sh : Int}
end
def m39 (a : Int) : Int := a % 549755813888
theorem zh4 {b i l : Int} (h0 : 0 ≤ l ∧ l ≤ 2) (hi : 0 ≤ i ∧ i < 512) (hb : m39 b % (512 * VaSpec.sz l) = 0) : m39 (adr b i l) = m39 b + i * VaSpec.sz l ∧ m39 b + 512 * VaSpec.sz l ≤ 549755813888 := by
  unfold adr
  rw [IntKind.wrap_u64, IntKind.wrap_u64]
  unfold m39 at *
  rcases (by omega : l = 0 ∨ l = 1 ∨ l = 2) with rfl | rfl | rfl
  · simp only [show VaSpec.sz 0 = 4096 from rfl] at *
    omega
  · simp only [show VaSpec.sz 1 = 2097152 from rfl] at *
    omega
  · simp only [show VaSpec.sz 2 = 1073741824 from rfl] at *
    omega
theorem zsy {a : Int} (h : m39 a % 4096 = 0) : m39 (ofv (num a)) = m39 a := by
  unfold m39 at *
  unfold ofv zkt num
  split <;> omega
theorem z24 (a l : Int) (h : 0 ≤ l ∧ l ≤ 2) : idx (m39 a) l = idx a l := by
  unfold idx m39
  rcases (by omega : l = 0 ∨ l = 1 ∨ l = 2) with rfl | rfl | rfl
  · simp only [show VaSpec.sz 0 = 4096 from rfl]; omega
  · simp only [show VaSpec.sz 1 = 2097152 from rfl]; omega
  · simp only [show VaSpec.sz 2 = 1073741824 from rfl]; omega
theorem sz_pos {l : Int} (h : 0 ≤ l ∧ l ≤ 2) : 0 < VaSpec.sz l := by
  rcases (by omega : l = 0 ∨ l = 1 ∨ l = 2) with rfl | rfl | rfl <;> decide
theorem zrc {l : Int} (h : 1 ≤ l ∧ l ≤ 2) : VaSpec.sz l = 512 * VaSpec.sz (l - 1) := by
  rcases (by omega : l = 1 ∨ l = 2) with rfl | rfl <;> rfl
theorem z0r {l : Int} (h : 0 ≤ l ∧ l ≤ 2) {m : Int} (hm : m % VaSpec.sz l = 0) : m % 4096 = 0 := by
  rcases (by omega : l = 0 ∨ l = 1 ∨ l = 2) with rfl | rfl | rfl
  · exact hm
  · have hm : m % 2097152 = 0 := hm
    omega
  · have hm : m % 1073741824 = 0 := hm
    omega
theorem zhg (sz : Int) (xs : List (Int × Int)) (l : Nat) (t b : Int) (y : Pg) : y ∈ zbg sz xs l t b ↔ ∃ i : Nat, i < 512 ∧ zc5 (atM sz xs t i) (l : Int) = false ∧
    ((za2 (atM sz xs t i) = true ∧ y = z4g (atM sz xs t i) (adr b i l) l) ∨ (za2 (atM sz xs t i) = false ∧ ∃ m, l = m + 1 ∧ y ∈ zbg sz xs m (atM sz xs t i).ppn (adr b i l))) := by
  have key : ∀ (rec : Int → Int → List Pg) (p : Pte) (a : Int), y ∈ zfs rec p (l : Int) a ↔ zc5 p (l : Int) = false ∧ ((za2 p = true ∧ y = z4g p a l) ∨ (za2 p = false ∧ y ∈ rec p.ppn a)) := fun rec p a => by
    unfold zfs
    cases zc5 p (l : Int) <;> cases za2 p <;> simp
  cases l with
  | zero =>
    simp only [zbg, List.mem_flatMap, List.mem_range]
    constructor
    · rintro ⟨i, hi, hy⟩
      obtain ⟨a, b | ⟨_, c⟩⟩ := (key _ _ _).1 hy
      · exact ⟨i, hi, a, .inl b⟩
      · cases c
    · rintro ⟨i, hi, a, b | ⟨_, m, e, _⟩⟩
      · exact ⟨i, hi, (key _ _ _).2 ⟨a, .inl b⟩⟩
      · omega
  | succ m =>
    simp only [zbg, List.mem_flatMap, List.mem_range]
    constructor
    · rintro ⟨i, hi, hy⟩
      obtain ⟨a, b | ⟨c, d⟩⟩ := (key _ _ _).1 hy
      · exact ⟨i, hi, a, .inl b⟩
      · exact ⟨i, hi, a, .inr ⟨c, m, rfl, d⟩⟩
    · rintro ⟨i, hi, a, b | ⟨c, m', e, d⟩⟩
      · exact ⟨i, hi, (key _ _ _).2 ⟨a, .inl b⟩⟩
      · obtain rfl : m' = m := by omega
        exact ⟨i, hi, (key _ _ _).2 ⟨a, .inr ⟨c, d⟩⟩⟩
theorem zzx (sz : Int) (xs : List (Int × Int)) : ∀ (l : Nat) (t b : Int) (y : Pg), l ≤ 2 → m39 b % (512 * VaSpec.sz l) = 0 → y ∈ zbg sz xs l t b → (0 ≤ y.lev ∧ y.lev ≤ l) ∧ m39 b ≤ m39 y.va ∧ m39 y.va + VaSpec.sz y.lev ≤ m39 b + 512 * VaSpec.sz l ∧ m39 y.va % VaSpec.sz y.lev = 0 ∧ y.va = ofv (num y.va) := by
  intro l
  induction l with
  | zero =>
    intro t b y hl hb hy
    obtain ⟨i, hi, _, ⟨_, rfl⟩ | ⟨_, m, e, _⟩⟩ := (zhg _ _ _ _ _ _).1 hy
    · obtain ⟨e1, e2⟩ := zh4 (b := b) (i := (i : Int)) (l := ((0 : Nat) : Int)) (by omega) (by omega) hb
      have hz : VaSpec.sz ((0 : Nat) : Int) = 4096 := rfl
      have e3 := zsy (a := adr b i ((0 : Nat) : Int)) (by rw [e1, hz]; rw [hz] at hb; omega)
      refine ⟨⟨by show (0 : Int) ≤ ((0 : Nat) : Int); omega, by show ((0 : Nat) : Int) ≤ ((0 : Nat) : Int); omega⟩, ?_⟩
      show m39 b ≤ m39 (ofv (num _)) ∧ m39 (ofv (num _)) + VaSpec.sz ((0 : Nat) : Int) ≤ _ ∧ m39 (ofv (num _)) % VaSpec.sz ((0 : Nat) : Int) = 0 ∧ _
      rw [e3, e1, hz]
      rw [hz] at hb
      refine ⟨by omega, by omega, by omega, ?_⟩
      show ofv (num _) = ofv (num (ofv (num _)))
      congr 1
      unfold num ofv zkt; split <;> omega
    · omega
  | succ l IH =>
    intro t b y hl hb hy
    obtain ⟨i, hi, _, ⟨_, rfl⟩ | ⟨_, m, e, hy⟩⟩ := (zhg _ _ _ _ _ _).1 hy
    · obtain ⟨e1, e2⟩ := zh4 (b := b) (i := (i : Int)) (l := ((l + 1 : Nat) : Int)) (by omega) (by omega) hb
      have hz := sz_pos (l := ((l + 1 : Nat) : Int)) (by omega)
      have hmod : (m39 b + (i : Int) * VaSpec.sz ((l + 1 : Nat) : Int)) % VaSpec.sz ((l + 1 : Nat) : Int) = 0 := by
        rcases (by omega : l = 0 ∨ l = 1) with rfl | rfl
        · have hb : m39 b % (512 * 2097152) = 0 := hb
          show (m39 b + (i : Int) * 2097152) % 2097152 = 0; omega
        · have hb : m39 b % (512 * 1073741824) = 0 := hb
          show (m39 b + (i : Int) * 1073741824) % 1073741824 = 0; omega
      have e3 := zsy (a := adr b i ((l + 1 : Nat) : Int)) (by rw [e1]; exact z0r (by omega) hmod)
      refine ⟨⟨by show (0 : Int) ≤ ((l + 1 : Nat) : Int); omega, by show ((l + 1 : Nat) : Int) ≤ ((l + 1 : Nat) : Int); omega⟩, ?_⟩
      show m39 b ≤ m39 (ofv (num _)) ∧ m39 (ofv (num _)) + VaSpec.sz ((l + 1 : Nat) : Int) ≤ _ ∧ m39 (ofv (num _)) % VaSpec.sz ((l + 1 : Nat) : Int) = 0 ∧ _
      rw [e3, e1]
      refine ⟨?_, ?_, hmod, ?_⟩
      · have : 0 ≤ (i : Int) * VaSpec.sz ((l + 1 : Nat) : Int) := Int.mul_nonneg (by omega) (by omega)
        omega
      · rcases (by omega : l = 0 ∨ l = 1) with rfl | rfl
        · show m39 b + (i : Int) * 2097152 + 2097152 ≤ m39 b + 512 * 2097152; omega
        · show m39 b + (i : Int) * 1073741824 + 1073741824 ≤ m39 b + 512 * 1073741824; omega
      · show ofv (num _) = ofv (num (ofv (num _)))
        congr 1
        unfold num ofv zkt; split <;> omega
    · obtain rfl : m = l := by omega
      obtain ⟨e1, e2⟩ := zh4 (b := b) (i := (i : Int)) (l := ((m + 1 : Nat) : Int)) (by omega) (by omega) hb
      have hs := zrc (l := ((m + 1 : Nat) : Int)) (by omega)
      rw [show ((m + 1 : Nat) : Int) - 1 = (m : Int) by omega] at hs
      have hmod : (m39 b + (i : Int) * VaSpec.sz ((m + 1 : Nat) : Int)) % (512 * VaSpec.sz (m : Int)) = 0 := by
        rw [← hs]
        rcases (by omega : m = 0 ∨ m = 1) with rfl | rfl
        · have hb : m39 b % (512 * 2097152) = 0 := hb
          show (m39 b + (i : Int) * 2097152) % 2097152 = 0; omega
        · have hb : m39 b % (512 * 1073741824) = 0 := hb
          show (m39 b + (i : Int) * 1073741824) % 1073741824 = 0; omega
      obtain ⟨r1, r2, r3, r4, r5⟩ := IH _ _ y (by omega) (by rw [e1]; exact hmod) hy
      rw [e1] at r2 r3
      refine ⟨⟨r1.1, by omega⟩, ?_, ?_, r4, r5⟩
      · have : 0 ≤ (i : Int) * VaSpec.sz ((m + 1 : Nat) : Int) := Int.mul_nonneg (by omega) (by have := sz_pos (l := ((m + 1 : Nat) : Int)) (by omega); omega)
        omega
      · rw [← hs] at r3
        rcases (by omega : m = 0 ∨ m = 1) with rfl | rfl
        · have r3 : m39 y.va + VaSpec.sz y.lev ≤ m39 b + (i : Int) * 2097152 + 2097152 := r3
          show m39 y.va + VaSpec.sz y.lev ≤ m39 b + 512 * 2097152; omega
        · have r3 : m39 y.va + VaSpec.sz y.lev ≤ m39 b + (i : Int) * 1073741824 + 1073741824 := r3
          show m39 y.va + VaSpec.sz y.lev ≤ m39 b + 512 * 1073741824; omega
end Go.Proofs.YtmkjfeamgknpfaaGreatDoor.LrA
namespace Go.Proofs.YtmkjfeamgknpfaaGreatDoor.LrB
open Go.RowKit Bv VaSpec Base MemL RegR Ax MemC PutC MemC3 TzC OkS SpA SpB SpC SpD SpE SpF SpG SpH SpI SpJ SpN SpO RfP RfQ RfE RfG RfJ RfK LaA LaB LaC LaD LaE LaF LaG LaH LiA LiB LiC LiD LiE LiF LrA
open BitsC PteSpec
set_option maxRecDepth 10000
set_option maxHeartbeats 1000000
section
variable {cd cp sz f sh : Int} {xs : List (Int × Int)} {lv : Int → Int}
theorem blk {m mb l : Int} (hl : 0 ≤ l ∧ l ≤ 2) (hb : mb % (512 * VaSpec.sz l) = 0) (h0 : mb ≤ m) (h1 : m < mb + 512 * VaSpec.sz l) : mb + idx m l * VaSpec.sz l ≤ m ∧ m < mb + idx m l * VaSpec.sz l + VaSpec.sz l := by
  unfold idx
  rcases (by omega : l = 0 ∨ l = 1 ∨ l = 2) with rfl | rfl | rfl
  · simp only [show VaSpec.sz 0 = 4096 from rfl] at *; omega
  · simp only [show VaSpec.sz 1 = 2097152 from rfl] at *; omega
  · simp only [show VaSpec.sz 2 = 1073741824 from rfl] at *; omega
end
theorem zm9 {a l : Int} (h : 0 ≤ l ∧ l ≤ 2) (hf : zil a l = true) : m39 a % VaSpec.sz l = 0 := by
  unfold zil off at hf
  simp only [Bool.and_eq_true, beq_iff_eq] at hf
  obtain ⟨_, hf⟩ := hf
  unfold m39
  rcases (by omega : l = 0 ∨ l = 1 ∨ l = 2) with rfl | rfl | rfl
  · simp only [show VaSpec.sz 0 = 4096 from rfl] at *; omega
  · simp only [show VaSpec.sz 1 = 2097152 from rfl] at *; omega
  · simp only [show VaSpec.sz 2 = 1073741824 from rfl] at *; omega
end Go.Proofs.YtmkjfeamgknpfaaGreatDoor.LrB
namespace Go.Proofs.YtmkjfeamgknpfaaGreatDoor.LrC
open Go.RowKit Bv VaSpec Base MemL RegR Ax MemC PutC MemC3 TzC OkS SpA SpB SpC SpD SpE SpF SpG SpH SpI SpJ SpN SpO RfP RfQ RfA RfE RfG RfJ RfK LaA LaB LaC LaD LaE LaF LaG LaH LiA LiB LiC LiD LiE LiF LrA LrB
open BitsC PteSpec
set_option maxRecDepth 10000
set_option maxHeartbeats 1000000
section
variable {cd cp sz sh : Int}
end
def ends (a s : Int) : Int := IntKind.u64.wrap (IntKind.u64.wrap (a + s) - 1)
end Go.Proofs.YtmkjfeamgknpfaaGreatDoor.LrC
namespace Go.Proofs.YtmkjfeamgknpfaaGreatDoor.LmA
open Go.RowKit Bv VaSpec Base MemL RegR Ax MemC PutC MemC3 TzC OkS SpA SpB SpC SpF SpH SpI SpJ LaA LaB LaC LaD LaE LaF LaG LiA LiB LiC LiD LiE LiF LrA LrB LrC LjA LjF LkE
open BitsC PteSpec
set_option maxRecDepth 10000
set_option maxHeartbeats 1000000
def zc4 (q : Pte) (p : Pm) : Pte := { q with r := p.r, w := p.w, x := p.x, u := p.u }
def zln (sz : Int) (xs : List (Int × Int)) (t i : Int) (p : Pm) : List (Int × Int) := zbf sz xs t i (zc4 (atM sz xs t i) p)
theorem ze9 {q : Pte} {p : Pm} {l : Int} (hU : q.U) (hm : zfe q = true) (hp : zc2 p = true) (h1 : za2 q = true) (h2 : zc5 q l = false) :
    (zc4 q p).U ∧ zfe (zc4 q p) = true ∧ za2 (zc4 q p) = true ∧ zc5 (zc4 q p) l = false := by
  obtain ⟨v, r, w, x, u, g, a, d, rsw, ppn, high⟩ := q
  obtain ⟨pr, pw, px, pu⟩ := p
  refine ⟨hU, hm, ?_, ?_⟩
  · revert hp h1
    unfold za2 zc4 zc2
    cases v <;> cases pr <;> cases pw <;> cases px <;> simp
  · revert hp h1 h2
    unfold za2 zc2 zc5 zbc zc4
    simp only
    generalize (high != 0) = e1
    generalize (ppn % (VaSpec.sz l / 4096) == 0) = e2
    generalize (l == 0 || a || d || u) = e3
    generalize (l == 0 || a || d || pu) = e4
    cases v <;> cases r <;> cases w <;> cases x <;> cases pr <;> cases pw <;> cases px <;> cases e1 <;> cases e2 <;> simp
theorem zsz : ∀ (xs : List (Int × Int)) (a v : Int), MemC.look xs a ≠ 0 → (zb7 xs a v).length ≤ xs.length
  | [], a, v, h => absurd (zmu a) h
  | c :: cs, a, v, h => by
    rw [zed] at h
    unfold zb7
    by_cases c1 : c.1 < a
    · rw [if_pos c1] at h ⊢
      have := zsz cs a v h
      show (zb7 cs a v).length + 1 ≤ cs.length + 1
      omega
    · rw [if_neg c1] at h ⊢
      by_cases c2 : c.1 = a
      · rw [if_pos c2]
        split
        · show cs.length ≤ cs.length + 1; omega
        · exact Nat.le_refl _
      · rw [if_neg c2] at h; exact absurd rfl h
section
variable {cd cp sz f sh : Int} {xs : List (Int × Int)} {lv : Int → Int}
theorem zi0 (h : TI cd cp sz xs f sh lv) {t i : Int} (hi : 0 ≤ i ∧ i < 512) (h1 : za2 (atM sz xs t i) = true) : Al cd cp f t ∧ (0 ≤ lv t ∧ lv t ≤ 2) ∧ zc5 (atM sz xs t i) (lv t) = false := by
  rcases h.e.k t i hi with e | ⟨a, b, ⟨_, e⟩ | ⟨e, _⟩⟩
  · rw [e] at h1; cases h1
  · exact ⟨a, b, e⟩
  · have := (zco e).2.2; rw [h1] at this; cases this
theorem zxo (h : TI cd cp sz xs f sh lv) {t i : Int} {p : Pm} (hi : 0 ≤ i ∧ i < 512) (h1 : za2 (atM sz xs t i) = true) (hp : zc2 p = true) :
    TI cd cp sz (zln sz xs t i p) f sh lv ∧ (∀ s j, (0 ≤ j ∧ j < 512) → atM sz (zln sz xs t i p) s j = if s = t ∧ j = i then zc4 (atM sz xs t i) p else atM sz xs s j) ∧ (zln sz xs t i p).length ≤ xs.length := by
  obtain ⟨ht, hl, h2⟩ := zi0 h hi h1
  have b1 := h.bd
  have bz := h.bz
  have bt := ht.1
  obtain ⟨p1, p2, p3, p4⟩ := ze9 (p := p) (zem h.u sz t i) (zgk h.u) hp h1 h2
  have e : zln sz xs t i p = zb7 xs (t * 512 + i) (PteC.zbu (zc4 (atM sz xs t i) p)) := zdd p1 (by omega) hi (by rw [bz]; omega)
  rw [e]
  have hb := zm1 p1 p2
  have hE : ∀ s j, (0 ≤ j ∧ j < 512) → atM sz (zb7 xs (t * 512 + i) (PteC.zbu (zc4 (atM sz xs t i) p))) s j = if s = t ∧ j = i then zc4 (atM sz xs t i) p else atM sz xs s j := fun s j hj => by
    by_cases hd : s * 4096 + j * 8 < sz
    · rw [zlg h.s hi hj hd, hb]
    · rw [if_neg (by rintro ⟨rfl, rfl⟩; omega)]
      unfold atM zb1
      rw [if_neg hd, if_neg hd]
  refine ⟨h.put bt hi (zfb _ p1) h.bf fun E' hE' => ?_, hE, zsz _ _ _ fun e0 => ?_⟩
  · rw [hb] at hE'
    exact h.e.leaf ht hl p3 p4 hE'
  · have : atM sz xs t i = zP := by
      unfold atM zb1
      rw [if_pos (by rw [bz]; omega), show (t * 4096 + i * 8) / 8 = t * 512 + i by omega, e0, zuh]
    rw [this] at h1; cases h1
def Shp (sz : Int) (p : Pm) (xs xs' : List (Int × Int)) : Prop := ∀ s j, (0 ≤ j ∧ j < 512) → atM sz xs' s j = atM sz xs s j ∨ (za2 (atM sz xs s j) = true ∧ za2 (atM sz xs' s j) = true ∧ atM sz xs' s j = zc4 (atM sz xs s j) p)
theorem Shp.refl (sz : Int) (p : Pm) (xs : List (Int × Int)) : Shp sz p xs xs := fun _ _ _ => .inl rfl
theorem zrd (q : Pte) (p : Pm) : zc4 (zc4 q p) p = zc4 q p := rfl
theorem Shp.trans {sz : Int} {p : Pm} {a b c : List (Int × Int)} (h : Shp sz p a b) (g : Shp sz p b c) : Shp sz p a c := fun s j hj => by
  rcases h s j hj with e | ⟨e1, e2, e3⟩ <;> rcases g s j hj with e' | ⟨e1', e2', e3'⟩
  · exact .inl (e'.trans e)
  · rw [e] at e1' e3'; exact .inr ⟨e1', e2', e3'⟩
  · rw [e'] ; exact .inr ⟨e1, e2, e3⟩
  · exact .inr ⟨e1, e2', by rw [e3', e3, zrd]⟩
theorem Shp.leaf {sz : Int} {p : Pm} {a b : List (Int × Int)} (h : Shp sz p a b) {s j : Int} (hj : 0 ≤ j ∧ j < 512) (hl : za2 (atM sz a s j) = true) : za2 (atM sz b s j) = true := by
  rcases h s j hj with e | ⟨_, e, _⟩
  · rw [e]; exact hl
  · exact e
theorem zlo {q : Pte} (l : Int) (h : za2 q = true) : za9 q l = false := by
  unfold za9
  rw [(zb2 h).1]; rfl
theorem Shp.reach {sz : Int} {p : Pm} {a b : List (Int × Int)} (h : Shp sz p a b) (addr zau : Int) : ∀ (l : Nat) (t : Int), zav sz b addr zau l t = zav sz a addr zau l t
  | 0, t => rfl
  | l + 1, t => by
    have hi := idx_bd addr ((l + 1 : Nat) : Int)
    unfold zav
    rcases h t _ hi with e | ⟨e1, e2, _⟩
    · rw [e, h.reach addr zau l]
    · rw [zlo _ e1, zlo _ e2, Bool.and_false]
      rfl
theorem zxp {v b i l : Int} (h0 : 0 ≤ l ∧ l ≤ 2) (hi : 0 ≤ i ∧ i < 512) (hb : m39 b % (512 * VaSpec.sz l) = 0) (h1 : m39 b + i * VaSpec.sz l ≤ m39 v) (h2 : m39 v < m39 b + i * VaSpec.sz l + VaSpec.sz l) : idx v l = i := by
  rw [← z24 v l h0]
  unfold idx
  rcases (by omega : l = 0 ∨ l = 1 ∨ l = 2) with rfl | rfl | rfl
  · simp only [show VaSpec.sz 0 = 4096 from rfl] at *; omega
  · simp only [show VaSpec.sz 1 = 2097152 from rfl] at *; omega
  · simp only [show VaSpec.sz 2 = 1073741824 from rfl] at *; omega
theorem zkj (h : TI cd cp sz xs f sh lv) : ∀ (l : Nat) (t b : Int) (y : Pg), l ≤ 2 → Al cd cp f t → lv t = l → m39 b % (512 * VaSpec.sz l) = 0 → y ∈ zbg sz xs l t b →
    ∃ t', zav sz xs y.va y.lev l t = (t', y.lev) ∧ (0 ≤ y.lev ∧ y.lev ≤ l) ∧ za2 (atM sz xs t' (idx y.va y.lev)) = true := by
  intro l
  induction l with
  | zero =>
    intro t b y h2 ht hl hb hy
    obtain ⟨i, hi, c0, ⟨c1, rfl⟩ | ⟨_, m, e, _⟩⟩ := (zhg _ _ _ _ _ _).1 hy
    · obtain ⟨e1, e2⟩ := zh4 (b := b) (i := (i : Int)) (l := ((0 : Nat) : Int)) (by omega) (by omega) hb
      have hz : VaSpec.sz ((0 : Nat) : Int) = 4096 := rfl
      have e3 := zsy (a := adr b i ((0 : Nat) : Int)) (by rw [e1, hz]; rw [hz] at hb; omega)
      have hix : idx (ofv (num (adr b i ((0 : Nat) : Int)))) ((0 : Nat) : Int) = (i : Int) := zxp (by omega) (by omega) hb (by rw [e3, e1]; omega) (by rw [e3, e1, hz]; omega)
      refine ⟨t, rfl, ⟨Int.le_refl 0, Int.le_refl 0⟩, ?_⟩
      show za2 (atM sz xs t (idx (ofv (num (adr b i ((0 : Nat) : Int)))) ((0 : Nat) : Int))) = true
      rw [hix]; exact c1
    · omega
  | succ m ih =>
    intro t b y h2 ht hl hb hy
    obtain ⟨i, hi, c0, ⟨c1, rfl⟩ | ⟨c1, m', e, hy'⟩⟩ := (zhg _ _ _ _ _ _).1 hy
    · obtain ⟨e1, e2⟩ := zh4 (b := b) (i := (i : Int)) (l := ((m + 1 : Nat) : Int)) (by omega) (by omega) hb
      have hsp := sz_pos (l := ((m + 1 : Nat) : Int)) (by omega)
      have hdv : m39 (adr b i ((m + 1 : Nat) : Int)) % VaSpec.sz ((m + 1 : Nat) : Int) = 0 := by
        rw [e1]
        rcases (by omega : m = 0 ∨ m = 1) with rfl | rfl
        · have hz : VaSpec.sz ((0 + 1 : Nat) : Int) = 2097152 := rfl
          rw [hz] at hb ⊢; omega
        · have hz : VaSpec.sz ((1 + 1 : Nat) : Int) = 1073741824 := rfl
          rw [hz] at hb ⊢; omega
      have e3 := zsy (a := adr b i ((m + 1 : Nat) : Int)) (z0r (l := ((m + 1 : Nat) : Int)) (by omega) hdv)
      have hix : idx (ofv (num (adr b i ((m + 1 : Nat) : Int)))) ((m + 1 : Nat) : Int) = (i : Int) := zxp (by omega) (by omega) hb (by rw [e3, e1]; omega) (by rw [e3, e1]; omega)
      refine ⟨t, ?_, ⟨by show (0 : Int) ≤ ((m + 1 : Nat) : Int); omega, by show ((m + 1 : Nat) : Int) ≤ ((m + 1 : Nat) : Int); omega⟩, ?_⟩
      · exact zbh (fun hh => absurd hh (by show ¬ ((m + 1 : Nat) : Int) < ((m + 1 : Nat) : Int); omega)) (by show (0 : Int) ≤ ((m + 1 : Nat) : Int); omega)
      · show za2 (atM sz xs t (idx (ofv (num (adr b i ((m + 1 : Nat) : Int)))) ((m + 1 : Nat) : Int))) = true
        rw [hix]; exact c1
    · obtain rfl : m' = m := by omega
      have hi' : (0 : Int) ≤ (i : Int) ∧ (i : Int) < 512 := by omega
      have hlk : lkP (atM sz xs t i) = true := by
        rcases h.e.k t i hi' with e | ⟨_, _, ⟨e, _⟩ | ⟨e, _⟩⟩
        · rw [e] at c0; cases c0
        · rw [e] at c1; cases c1
        · exact e
      obtain ⟨k1, k2, k3, k4⟩ := zig h hi' hlk
      obtain ⟨e1, e2⟩ := zh4 (b := b) (i := (i : Int)) (l := ((m' + 1 : Nat) : Int)) (by omega) (by omega) hb
      have hss := zrc (l := ((m' + 1 : Nat) : Int)) (by omega)
      have hsm : VaSpec.sz (((m' + 1 : Nat) : Int) - 1) = VaSpec.sz (m' : Int) := by rw [show ((m' + 1 : Nat) : Int) - 1 = (m' : Int) by omega]
      rw [hsm] at hss
      have hdv : m39 (adr b i ((m' + 1 : Nat) : Int)) % (512 * VaSpec.sz (m' : Int)) = 0 := by
        rw [e1, ← hss]
        rcases (by omega : m' = 0 ∨ m' = 1) with rfl | rfl
        · have hz : VaSpec.sz ((0 + 1 : Nat) : Int) = 2097152 := rfl
          rw [hz] at hb ⊢; omega
        · have hz : VaSpec.sz ((1 + 1 : Nat) : Int) = 1073741824 := rfl
          rw [hz] at hb ⊢; omega
      obtain ⟨q1, q2, q3, q4, q5⟩ := zzx sz xs m' (atM sz xs t i).ppn (adr b i ((m' + 1 : Nat) : Int)) y (by omega) hdv hy'
      have hsp := sz_pos (l := y.lev) (by omega)
      have hix : idx y.va ((m' + 1 : Nat) : Int) = (i : Int) := zxp (by omega) hi' hb (by rw [← e1]; exact q2) (by rw [hss] at e1 ⊢; omega)
      obtain ⟨t', r1, r2, r3⟩ := ih (atM sz xs t i).ppn (adr b i ((m' + 1 : Nat) : Int)) y (by omega) k4 (by rw [k3, hl]; omega) hdv hy'
      refine ⟨t', ?_, ⟨r2.1, by omega⟩, r3⟩
      rw [zb9 (by omega) (by rw [hix]; exact zek hlk (by omega)), hix]
      exact r1
def zne (sz : Int) (l : Nat) (top : Int) (p : Pm) : List Pg → List (Int × Int) → List (Int × Int)
  | [], xs => xs
  | y :: ys, xs => zne sz l top p ys (zln sz xs (zav sz xs y.va y.lev l top).1 (idx y.va (zav sz xs y.va y.lev l top).2) p)
structure Pnt (cd cp sz f sh : Int) (lv : Int → Int) (p : Pm) (xs xs' : List (Int × Int)) : Prop where
  t : TI cd cp sz xs' f sh lv
  s : Shp sz p xs xs'
  n : xs'.length ≤ xs.length
theorem Pnt.go {xs' : List (Int × Int)} {p : Pm} (h : TI cd cp sz xs f sh lv) (hp : zc2 p = true) (g : Pnt cd cp sz f sh lv p xs xs') {t i : Int} (hi : 0 ≤ i ∧ i < 512) (h1 : za2 (atM sz xs t i) = true) : Pnt cd cp sz f sh lv p xs (zln sz xs' t i p) := by
  have h2 := g.s.leaf hi h1
  obtain ⟨r1, r2, r3⟩ := zxo g.t hi h2 hp
  obtain ⟨_, _, hbad⟩ := zi0 g.t hi h2
  refine ⟨r1, g.s.trans fun s j hj => ?_, Nat.le_trans r3 g.n⟩
  rw [r2 s j hj]
  split
  · rename_i c
    obtain ⟨rfl, rfl⟩ := c
    exact .inr ⟨h2, (ze9 (p := p) (zem g.t.u sz _ _) (zgk g.t.u) hp h2 hbad).2.2.1, rfl⟩
  · exact .inl rfl
theorem zxq (h : TI cd cp sz xs f sh lv) {p : Pm} (hp : zc2 p = true) (l : Nat) (t b : Int) (hl2 : l ≤ 2) (ht : Al cd cp f t) (hl : lv t = l) (hb : m39 b % (512 * VaSpec.sz l) = 0) : ∀ (ys : List Pg), (∀ y ∈ ys, y ∈ zbg sz xs l t b) → ∀ xs', Pnt cd cp sz f sh lv p xs xs' → Pnt cd cp sz f sh lv p xs (zne sz l t p ys xs')
  | [], _, xs', g => g
  | y :: ys, hy, xs', g => by
    obtain ⟨t', r1, r2, r3⟩ := zkj h l t b y hl2 ht hl hb (hy y (by simp))
    unfold zne
    rw [g.s.reach, r1]
    exact zxq h hp l t b hl2 ht hl hb ys (fun z hz => hy z (by simp [hz])) _ (g.go h hp (idx_bd _ _) r3)
end
end Go.Proofs.YtmkjfeamgknpfaaGreatDoor.LmA
namespace Go.Proofs.YtmkjfeamgknpfaaGreatDoor.LmC
open Go.RowKit Bv VaSpec Base MemL RegR Ax MemC PutC MemC3 TzC OkS SpA SpB SpC SpF SpH SpI SpJ LaA LaB LaC LaD LaE LaF LaG LiA LiB LiC LiD LiE LiF RlB LrA LrB LrC LjA LjF LkE LmA
open BitsC PteSpec
set_option maxRecDepth 10000
set_option maxHeartbeats 1000000
def pcC (sz : Int) (xs : List (Int × Int)) (p : Pm) : List Ce := [cu sz, .s xs.length 2 (fl xs), cb p.r, cb p.w, cb p.x, cb p.u]
theorem zxr (sz : Int) (xs : List (Int × Int)) (t l addr : Int) (q : Pte) (p : Pm) (ha : U addr) (hU : (zc4 q p).U) (l0 : 0 ≤ l) (l2 : l ≤ 2) (ht : 0 ≤ t ∧ t < 1099511627776) (hs : Srt xs) (hu : Uw xs) (hn : xs.length ≤ 1000000) (R : List (Int × Int)) (hR : R = zbf sz xs t (idx addr l) (zc4 q p)) :
    zbv Tryz.prog GG 134 [(2000, pcC sz xs p, pcC sz R p)] [.c (.p 2000 0), .ag (za3 t l q), iu addr] (.tu []) := by
  have hw := zdz sz xs t l q addr (zc4 q p) ha hU l0 l2 ht hs hu (by omega)
  rw [← hR] at hw
  have hw : Ok 54 [za6 sz xs, .ag (za3 t l q), iu addr, .ag [cb q.v, cb p.r, cb p.w, cb p.x, cb p.u, cb q.g, cb q.a, cb q.d, cu q.rsw, cu q.ppn, cu q.high]] (.m (za6 sz R)) := hw
  refine zby 44 Tryz.func134 rfl rfl rfl rfl rfl ?_
  intro W A τ hG
  repeat (first | (refine zaj rfl ?_; first | refine zak ?_ | refine gdr (zaa rfl rfl rfl (hw) (by kernel_rfl)) ?_) | (refine hK _ ?_; clear hK K) | refine zac rfl ?_ | refine zam (by kernel_rfl) (by kernel_rfl) rfl ?_ | refine zab (fun K hK => ?_))
  exact ⟨by kernel_rfl, ⟨_, rfl, rfl⟩, trivial⟩
section
variable {cd cp sz f sh : Int} {xs : List (Int × Int)} {lv : Int → Int}
theorem zs0 (h : TI cd cp sz xs f sh lv) (hn : xs.length ≤ 1000000) {t addr : Int} (ha : U addr) {p : Pm} (hp : zc2 p = true) (l : Int) (l0 : 0 ≤ l) (l2 : l ≤ 2) (h1 : za2 (atM sz xs t (idx addr l)) = true) :
    zbv Tryz.prog GG 134 [(2000, pcC sz xs p, pcC sz (zln sz xs t (idx addr l) p) p)] [.c (.p 2000 0), .ag (za3 t l (atM sz xs t (idx addr l))), iu addr] (.tu []) := by
  obtain ⟨ht, _, hb⟩ := zi0 h (idx_bd addr l) h1
  have b1 := h.bd
  have b2 := h.bp
  have bt := ht.1
  exact zxr sz xs t l addr _ p ha (ze9 (zem h.u sz _ _) (zgk h.u) hp h1 hb).1 l0 l2 ⟨by omega, by omega⟩ h.s h.u hn _ rfl
def z59 (t a b l : Int) (q : Pte) (p : Pm) (sz : Int) (ys : List Pg) (i : Nat) (xs' : List (Int × Int)) : St := St.of [(0, .m (.c (.p 2000 0))), (2, .m (iu a)), (4, .m (.c (.p 4 0))), (6, .m (.c (.v (.slice none 0 0)))), (7, .m (.c (.cl (134 + 1000000) [2000]))), (8, .m (iu b)), (10, .m (.c (.s ys.length 8 (flP ys)))), (54, .m (.c (.s ys.length 8 (flP ys)))), (55, .m (ii ys.length)), (56, .m (ii i))] [(4, .live (.box (za3 t l q))), (2000, .live (.box (pcC sz xs' p)))]
theorem zxs (h : TI cd cp sz xs f sh lv) (hn : xs.length ≤ 1000000) {t a : Int} (ha : U a) {p : Pm} (hp : zc2 p = true) (l : Int) (l0 : 0 ≤ l) (l2 : l ≤ 2) (h1 : za2 (atM sz xs t (idx a l)) = true) (R : List (Int × Int)) (hR : R = zln sz xs t (idx a l) p) (q : Pte) (hq : q = atM sz xs t (idx a l)) :
    zbv Tryz.prog GG 65 [(2000, pcC sz xs p, pcC sz R p)] [.c (.p 2000 0), .ag (za3 t l q), iu a] (.m (.c (.s 1 8 (flP [⟨VaSpec.base a l, q.ppn * 4096, l, q.r, q.w, q.x, q.u, q.d⟩])))) := by
  have hl := zs0 h hn (t := t) ha hp l l0 l2 h1
  have hU := zem h.u sz t (idx a l)
  have hpp := zch (xs := xs) sz t (idx a l)
  rw [← hR, ← hq] at hl
  rw [← hq] at h1 hU hpp
  have h5 := zg3 a l ha l0 l2
  have h3 := zml q
  have h2 := zf5 q
  rw [h1] at h2
  clear hR
  refine zby 81 Tryz.func65 rfl rfl rfl rfl rfl ?_
  intro W A τ hG
  repeat (first | (refine zaj rfl ?_; first | refine zak ?_ | refine gdr (zaa rfl rfl rfl (h5) (by kernel_rfl)) ?_ | refine gdr (zaa rfl rfl rfl (h2) (by kernel_rfl)) ?_ | refine gdr (zaa rfl rfl rfl (h3) (by kernel_rfl)) ?_ | refine gdr (zld rfl rfl rfl) ?_ | refine gdr (zib (fun _ => 2000) hl rfl rfl rfl (by kernel_rfl) rfl rfl ⟨rfl, trivial⟩ (by kernel_rfl)) ?_) | (refine hK _ ?_; clear hK K) | refine zac rfl ?_ | refine zam (by kernel_rfl) (by kernel_rfl) rfl ?_ | refine zaf rfl rfl ?_ | refine zab (fun K hK => ?_) | refine zah (show zar _ _ _ = some _ ∧ EndB _ _ from ⟨by kernel_rfl, ?_⟩))
  exact ⟨⟨_, rfl, rfl⟩, trivial⟩
theorem zxt (h : TI cd cp sz xs f sh lv) (hn : xs.length ≤ 1000000) {t a : Int} (ha : U a) {p : Pm} (hp : zc2 p = true) (m : Nat) (m2 : m ≤ 1) (q : Pte) (hq : 0 ≤ q.ppn ∧ q.ppn < 17592186044416) (h1 : za2 q = false) (b : Int) (hb : b = VaSpec.base a ((m + 1 : Nat) : Int)) (bU : U b) (bm : m39 b % (512 * VaSpec.sz (m : Int)) = 0)
    (ht : Al cd cp f q.ppn) (hl : lv q.ppn = m) (ys : List Pg) (hys : ys = zbg sz xs m q.ppn b) (hyl : ys.length ≤ 134217728) (hyU : ∀ y ∈ ys, U y.va) (hpg : Ok 58 [za6 sz xs, iu q.ppn, ii m, iu b] (.m (.c (.s ys.length 8 (flP ys))))) (R : List (Int × Int)) (hR : R = zne sz m q.ppn p ys xs) :
    zbv Tryz.prog GG 65 [(2000, pcC sz xs p, pcC sz R p)] [.c (.p 2000 0), .ag (za3 t ((m + 1 : Nat) : Int) q), iu a] (.m (.c (.s ys.length 8 (flP ys)))) := by
  have h5 := zg3 a ((m + 1 : Nat) : Int) ha (by omega) (by omega)
  rw [← hb] at h5
  have h2 := zf5 q
  rw [h1] at h2
  have e1 : ((m + 1 : Nat) : Int) - 1 = (m : Int) := by omega
  generalize ((m + 1 : Nat) : Int) = li at *
  refine zby 81 Tryz.func65 rfl rfl rfl rfl rfl ?_
  intro W A τ hG
  have hpg2 : Ok 58 [za6 sz xs, iu q.ppn, ii (li - 1), iu b] (.m (.c (.s ys.length 8 (flP ys)))) := by rw [e1]; exact hpg
  repeat (first | (refine zaj rfl ?_; first | refine zak ?_ | refine gdr (zaa rfl rfl rfl (h5) (by kernel_rfl)) ?_ | refine gdr (zaa rfl rfl rfl (h2) (by kernel_rfl)) ?_ | refine gdr (zaa rfl rfl rfl (hpg2) (by kernel_rfl)) ?_ | refine gdr (zld rfl rfl rfl) ?_) | (refine hK _ ?_; clear hK K) | refine zac rfl ?_ | refine zam (by kernel_rfl) (by kernel_rfl) rfl ?_ | refine zae rfl rfl ?_ | refine zag ?_ | refine zai ?_ | refine zab (fun K hK => ?_))
  refine zay (α := Nat × List (Int × Int)) (fun w => w.1 ≤ ys.length ∧ Pnt cd cp sz f sh lv p xs w.2 ∧ zne sz m q.ppn p (ys.drop w.1) w.2 = R) (fun w => z59 t a b li q p sz ys w.1 w.2) (fun w => ys.length - w.1) (0, xs) ⟨Nat.zero_le _, ⟨h, Shp.refl _ _ _, Nat.le_refl _⟩, hR.symm⟩ (zao _ _ ⟨by kernel_rfl, by kernel_rfl, by kernel_rfl, by kernel_rfl, by kernel_rfl, by kernel_rfl, by kernel_rfl, by kernel_rfl, by kernel_rfl, by kernel_rfl, trivial⟩ ⟨by kernel_rfl, by kernel_rfl, trivial⟩ (by kernel_rfl)) ?_
  rintro ⟨i, xs'⟩ ⟨w1, w2, w3⟩
  have g1 : i ≤ ys.length := w1
  have g2 : Pnt cd cp sz f sh lv p xs xs' := w2
  have g3 : zne sz m q.ppn p (ys.drop i) xs' = R := w3
  show Aw _ _ _ _ (z59 t a b li q p sz ys i xs')
  unfold z59
  by_cases hlt : i < ys.length
  · obtain ⟨y, hy⟩ : ∃ y, ys[i]? = some y := ⟨_, List.getElem?_eq_getElem hlt⟩
    have hx : ((flP ys).drop (i * 8)).take 8 = [.int .u64 y.va, .int .u64 y.pa, .int .i64 y.lev, .bool y.r, .bool y.w, .bool y.x, .bool y.u, .bool y.d] := zid hy
    have hmem : y ∈ ys := List.mem_of_getElem? hy
    have yU := hyU y hmem
    obtain ⟨t', r1, r2, r3⟩ := zkj h m q.ppn b y (by omega) ht hl bm (hys ▸ hmem)
    have r4 := g2.s.leaf (idx_bd _ _) r3
    have hr := ze3 sz xs' q.ppn (li - 1) y.va y.lev hq yU (by omega) (by omega) r2.1 g2.t.s g2.t.u
    have e2 : zbs sz xs' y.va y.lev (li - 1) q.ppn = (t', y.lev) := by rw [e1]; show zav sz xs' y.va y.lev ((m : Int)).toNat q.ppn = _; rw [Int.toNat_natCast, g2.s.reach, r1]
    rw [e2] at hr
    have hr : Ok 41 [za6 sz xs', iu q.ppn, ii (li - 1), iu y.va, ii y.lev] (.m (.ag (za3 t' y.lev (atM sz xs' t' (idx y.va y.lev))))) := hr
    have hlf := zs0 g2.t (Nat.le_trans g2.n hn) (t := t') yU hp y.lev r2.1 (by omega) r4
    have gn := g2.go h hp (idx_bd _ _) r3
    have g4 : zne sz m q.ppn p (ys.drop (i + 1)) (zln sz xs' t' (idx y.va y.lev) p) = R := by
      rw [← g3, List.drop_eq_getElem_cons hlt]
      obtain rfl : ys[i] = y := Option.some.inj ((List.getElem?_eq_getElem hlt).symm.trans hy)
      show _ = zne sz m q.ppn p (ys.drop (i + 1)) (zln sz xs' (zav sz xs' ys[i].va ys[i].lev m q.ppn).1 (idx ys[i].va (zav sz xs' ys[i].va ys[i].lev m q.ppn).2) p)
      rw [g2.s.reach, r1]
    clear w1 w2 w3 g3 hR
    generalize zln sz xs' t' (idx y.va y.lev) p = zs at *
    generalize atM sz xs' t' (idx y.va y.lev) = qq at *
    repeat (first | (refine zaj rfl ?_; first | refine zak ?_ | refine gdr (zaa rfl rfl rfl (hr) (by kernel_rfl)) ?_) | (refine hK _ ?_; clear hK K) | refine zac rfl ?_ | refine zam (by kernel_rfl) (by kernel_rfl) rfl ?_ | refine zaf rfl rfl ?_ | refine zag ?_ | refine zai ?_ | refine zab (fun K hK => ?_))
    refine zaj rfl ?_
    refine zdg (zib (fun _ => 2000) hlf rfl rfl rfl (by kernel_rfl) rfl rfl ⟨rfl, trivial⟩ (by kernel_rfl)) (by kernel_rfl) ?_
    repeat (first | (refine zaj rfl ?_; first | refine zak ?_) | (refine hK _ ?_; clear hK K) | refine zac rfl ?_)
    exact ⟨(i + 1, zs), ⟨by show i + 1 ≤ ys.length; omega, gn, g4⟩, by show ys.length - (i + 1) < ys.length - i; omega, zao _ _ ⟨by kernel_rfl, by kernel_rfl, by kernel_rfl, by kernel_rfl, by kernel_rfl, by kernel_rfl, by kernel_rfl, by kernel_rfl, by kernel_rfl, by kernel_rfl, trivial⟩ ⟨by kernel_rfl, by kernel_rfl, trivial⟩ (by kernel_rfl)⟩
  · have ei : i = ys.length := by omega
    rw [ei, List.drop_length] at g3
    obtain rfl : R = xs' := g3.symm
    repeat (first | (refine zaj rfl ?_; first | refine zak ?_) | (refine hK _ ?_; clear hK K) | (rename_i K1 hK1; refine hK1 _ ?_; clear hK hK1; clear K) | refine zac rfl ?_ | refine zae rfl rfl ?_ | refine zal ?_ | refine zab (fun K hK => ?_) | refine zah (show zar _ _ _ = some _ ∧ EndB _ _ from ⟨by kernel_rfl, ?_⟩))
    exact ⟨⟨_, rfl, rfl⟩, trivial⟩
end
end Go.Proofs.YtmkjfeamgknpfaaGreatDoor.LmC
namespace Go.Proofs.YtmkjfeamgknpfaaGreatDoor.LmD
open Go.RowKit Bv VaSpec Base MemL RegR Ax MemC PutC MemC3 TzC OkS SpA SpB SpC SpF SpH SpI SpJ LaA LaB LaC LaD LaE LaF LaG LiA LiB LiC LiD LiE LiF RlA RlB LrA LrB LrC LjA LjF LkE LmA
open BitsC PteSpec
set_option maxRecDepth 10000
set_option maxHeartbeats 1000000
def z6a (t a l : Int) (q : Pte) (p : Pm) (sz : Int) (ys : List Pg) (i : Nat) (xs' : List (Int × Int)) : St := St.of [(2, .m (iu a)), (4, .m (.c (.p 4 0))), (5, .m (.c (.p 5 0))), (7, .m (.c (.p 7 0))), (8, .m (.c (.p 8 0))), (9, .m (.c (.p 9 0))), (10, .m (.c (.s ys.length 8 (flP ys)))), (11, .m (ii i))] [(4, .live (.box [cu sz, .s xs'.length 2 (fl xs')])), (5, .live (.box (za3 t l q))), (7, .live (.box [cb p.r, cb p.w, cb p.x, cb p.u])), (8, .live (.box [cu 0, .v (.slice none 0 0)])), (9, .live (.box [cb q.v, cb q.r, cb q.w, cb q.x, cb q.u, cb q.g, cb q.a, cb q.d, cu q.rsw, cu q.ppn, cu q.high]))]
section
variable {cd cp sz f sh : Int} {xs : List (Int × Int)} {lv : Int → Int}
theorem zlp (h : TI cd cp sz xs f sh lv) (hn : xs.length ≤ 1000000) {t a : Int} (ha : U a) {p : Pm} (hp : zc2 p = true) (l : Int) (l0 : 0 ≤ l) (l2 : l ≤ 2) (h1 : za2 (atM sz xs t (idx a l)) = true) (R : List (Int × Int)) (hR : R = zln sz xs t (idx a l) p) (q : Pte) (hq : q = atM sz xs t (idx a l)) :
    Ok 128 [za6 sz xs, .ag (za3 t l q), iu a, .ag [cb p.r, cb p.w, cb p.x, cb p.u]] (.m (za6 sz R)) := by
  obtain ⟨ht, _, hb⟩ := zi0 h (idx_bd a l) h1
  have b1 := h.bd
  have b2 := h.bp
  have bz := h.bz
  have bt := ht.1
  have hi := idx_bd a l
  obtain ⟨p1, p2, p3, p4⟩ := ze9 (p := p) (zem h.u sz t (idx a l)) (zgk h.u) hp h1 hb
  have hw := ze8 sz xs t l (atM sz xs t (idx a l)) a (zc4 (atM sz xs t (idx a l)) p) ha p1 p2 l0 l2 ⟨by omega, by omega⟩ h.s hn
  rw [show zb7 xs (t * 512 + idx a l) (PteC.zbu (zc4 (atM sz xs t (idx a l)) p)) = R by rw [hR]; exact (zdd p1 (by omega) hi (by rw [bz]; omega)).symm, ← hq] at hw
  have h2 := zgc q
  rw [← hq] at h1
  rw [h1] at h2
  have hw : Ok 95 [za6 sz xs, .ag (za3 t l q), iu a, .ag [cb q.v, cb p.r, cb p.w, cb p.x, cb p.u, cb q.g, cb q.a, cb q.d, cu q.rsw, cu q.ppn, cu q.high]] (.m (za6 sz R)) := hw
  clear hR hq
  refine zad 73 Tryz.func128 rfl rfl rfl rfl ?_ GG.to
  intro W A hG
  repeat (first | (refine zaj rfl ?_; first | refine zak ?_ | refine gdr (zaa rfl rfl rfl (h2) (by kernel_rfl)) ?_ | refine gdr (zaa rfl rfl rfl (hw) (by kernel_rfl)) ?_) | (refine hK _ ?_; clear hK K) | refine zac rfl ?_ | exact zah (show zar _ _ _ = some _ by kernel_rfl) | refine zaf rfl rfl ?_ | refine zab (fun K hK => ?_))
theorem zue (h : TI cd cp sz xs f sh lv) (hn : xs.length ≤ 1000000) {t a : Int} (ha : U a) {p : Pm} (hp : zc2 p = true) (m : Nat) (m2 : m ≤ 1) (q : Pte) (hq : 0 ≤ q.ppn ∧ q.ppn < 17592186044416) (h1 : za2 q = false) (bm : m39 a % (512 * VaSpec.sz (m : Int)) = 0)
    (ht : Al cd cp f q.ppn) (hl : lv q.ppn = m) (ys : List Pg) (hys : ys = zbg sz xs m q.ppn a) (hyl : ys.length ≤ 134217728) (hyU : ∀ y ∈ ys, U y.va) (hpg : Ok 118 [za6 sz xs, iu q.ppn, ii m, iu a] (.m (.c (.s ys.length 8 (flP ys))))) (R : List (Int × Int)) (hR : R = zne sz m q.ppn p ys xs) :
    Ok 128 [za6 sz xs, .ag (za3 t ((m + 1 : Nat) : Int) q), iu a, .ag [cb p.r, cb p.w, cb p.x, cb p.u]] (.m (za6 sz R)) := by
  have h2 := zgc q
  rw [h1] at h2
  have e1 : ((m + 1 : Nat) : Int) - 1 = (m : Int) := by omega
  generalize ((m + 1 : Nat) : Int) = li at *
  refine zad 73 Tryz.func128 rfl rfl rfl rfl ?_ GG.to
  intro W A hG
  have hpg2 : Ok 118 [za6 sz xs, iu q.ppn, ii (li - 1), iu a] (.m (.c (.s ys.length 8 (flP ys)))) := by rw [e1]; exact hpg
  repeat (first | (refine zaj rfl ?_; first | refine zak ?_ | refine gdr (zaa rfl rfl rfl (h2) (by kernel_rfl)) ?_ | refine gdr (zaa rfl rfl rfl (hpg2) (by kernel_rfl)) ?_) | (refine hK _ ?_; clear hK K) | refine zac rfl ?_ | refine zae rfl rfl ?_ | refine zag ?_ | refine zai ?_ | refine zab (fun K hK => ?_))
  refine zay (α := Nat × List (Int × Int)) (fun w => w.1 ≤ ys.length ∧ Pnt cd cp sz f sh lv p xs w.2 ∧ zne sz m q.ppn p (ys.drop w.1) w.2 = R) (fun w => z6a t a li q p sz ys w.1 w.2) (fun w => ys.length - w.1) (0, xs) ⟨Nat.zero_le _, ⟨h, Shp.refl _ _ _, Nat.le_refl _⟩, hR.symm⟩ (zao _ _ ⟨by kernel_rfl, by kernel_rfl, by kernel_rfl, by kernel_rfl, by kernel_rfl, by kernel_rfl, by kernel_rfl, by kernel_rfl, trivial⟩ ⟨by kernel_rfl, by kernel_rfl, by kernel_rfl, by kernel_rfl, by kernel_rfl, trivial⟩ (by kernel_rfl)) ?_
  rintro ⟨i, xs'⟩ ⟨w1, w2, w3⟩
  have g1 : i ≤ ys.length := w1
  have g2 : Pnt cd cp sz f sh lv p xs xs' := w2
  have g3 : zne sz m q.ppn p (ys.drop i) xs' = R := w3
  show Aw _ _ _ _ (z6a t a li q p sz ys i xs')
  unfold z6a
  by_cases hlt : i < ys.length
  · obtain ⟨y, hy⟩ : ∃ y, ys[i]? = some y := ⟨_, List.getElem?_eq_getElem hlt⟩
    have hx : ((flP ys).drop (i * 8)).take 8 = [.int .u64 y.va, .int .u64 y.pa, .int .i64 y.lev, .bool y.r, .bool y.w, .bool y.x, .bool y.u, .bool y.d] := zid hy
    have hmem : y ∈ ys := List.mem_of_getElem? hy
    have yU := hyU y hmem
    obtain ⟨t', r1, r2, r3⟩ := zkj h m q.ppn a y (by omega) ht hl bm (hys ▸ hmem)
    have r4 := g2.s.leaf (idx_bd _ _) r3
    have hr := zew sz xs' y.va y.lev yU r2.1 g2.t.s g2.t.u (Nat.le_trans g2.n hn) m q.ppn (by omega) hq
    rw [g2.s.reach, r1] at hr
    have hr : Ok 43 [za6 sz xs', iu q.ppn, ii (li - 1), iu y.va, ii y.lev] (.m (.ag (za3 t' y.lev (atM sz xs' t' (idx y.va y.lev))))) := by rw [e1]; exact hr
    have hlf := zlp g2.t (Nat.le_trans g2.n hn) (t := t') yU hp y.lev r2.1 (by omega) r4 _ rfl _ rfl
    have gn := g2.go h hp (idx_bd _ _) r3
    have g4 : zne sz m q.ppn p (ys.drop (i + 1)) (zln sz xs' t' (idx y.va y.lev) p) = R := by
      rw [← g3, List.drop_eq_getElem_cons hlt]
      obtain rfl : ys[i] = y := Option.some.inj ((List.getElem?_eq_getElem hlt).symm.trans hy)
      show _ = zne sz m q.ppn p (ys.drop (i + 1)) (zln sz xs' (zav sz xs' ys[i].va ys[i].lev m q.ppn).1 (idx ys[i].va (zav sz xs' ys[i].va ys[i].lev m q.ppn).2) p)
      rw [g2.s.reach, r1]
    clear w1 w2 w3 g3 hR
    generalize zln sz xs' t' (idx y.va y.lev) p = zs at *
    generalize atM sz xs' t' (idx y.va y.lev) = qq at *
    repeat (first | (refine zaj rfl ?_; first | refine zak ?_ | refine gdr (zaa rfl rfl rfl (hr) (by kernel_rfl)) ?_ | refine gdr (zaa rfl rfl rfl (hlf) (by kernel_rfl)) ?_) | (refine hK _ ?_; clear hK K) | refine zac rfl ?_ | refine zam (by kernel_rfl) (by kernel_rfl) rfl ?_ | refine zaf rfl rfl ?_ | refine zag ?_ | refine zai ?_ | refine zab (fun K hK => ?_))
    exact ⟨(i + 1, zs), ⟨by show i + 1 ≤ ys.length; omega, gn, g4⟩, by show ys.length - (i + 1) < ys.length - i; omega, zao _ _ ⟨by kernel_rfl, by kernel_rfl, by kernel_rfl, by kernel_rfl, by kernel_rfl, by kernel_rfl, by kernel_rfl, by kernel_rfl, trivial⟩ ⟨by kernel_rfl, by kernel_rfl, by kernel_rfl, by kernel_rfl, by kernel_rfl, trivial⟩ (by kernel_rfl)⟩
  · have ei : i = ys.length := by omega
    rw [ei, List.drop_length] at g3
    obtain rfl : R = xs' := g3.symm
    repeat (first | (refine zaj rfl ?_; first | refine zak ?_) | (refine hK _ ?_; clear hK K) | (rename_i K1 hK1; refine hK1 _ ?_; clear hK hK1; clear K) | refine zac rfl ?_ | exact zah (show zar _ _ _ = some _ by kernel_rfl) | refine zae rfl rfl ?_ | refine zal ?_ | refine zab (fun K hK => ?_))
end
end Go.Proofs.YtmkjfeamgknpfaaGreatDoor.LmD
namespace Go.Proofs.YtmkjfeamgknpfaaGreatDoor.LmB
open Go.RowKit Bv VaSpec Base MemL RegR Ax MemC PutC MemC3 TzC OkS SpA SpB SpC SpF SpH SpI SpJ LaA LaB LaC LaD LaE LaF LaG LiA LiB LiC LiD LiE LiF LjA RlA RlB
open BitsC PteSpec
set_option maxRecDepth 10000
set_option maxHeartbeats 1000000
def zhh (p q : Pm) : Bool := (q.r && !p.r) || (q.w && !p.w) || (q.x && !p.x) || (q.u != p.u)
def zuj (y : Pg) : Pm := ⟨y.r, y.w, y.x, y.u⟩
def zbm (l : List Pg) (p : Pm) : List Pg := l.filter fun y => zhh p (zuj y)
theorem b3 (a b : Bool) : a = false ∨ (a = true ∧ b = true) ∨ (a = true ∧ b = false) := by cases a <;> cases b <;> simp
set_option maxHeartbeats 40000000 in
theorem z25 (p q : Pm) : Ok 62 [.ag [cb p.r, cb p.w, cb p.x, cb p.u], .ag [cb q.r, cb q.w, cb q.x, cb q.u]] (.m (ib (zhh p q))) := by
  obtain ⟨pr, pw, px, pu⟩ := p
  obtain ⟨qr, qw, qx, qu⟩ := q
  unfold zhh
  simp only
  all_goals rcases b3 qr pr with rfl | ⟨rfl, rfl⟩ | ⟨rfl, rfl⟩
  all_goals
    try
      try simp only [Bool.false_and, Bool.true_and, Bool.not_true, Bool.not_false, Bool.false_or, Bool.true_or, Bool.and_false, Bool.or_false, Bool.or_true, Bool.and_true, bne_self_eq_false, Bool.bne_false, Bool.bne_true]
      refine zad 37 Tryz.func62 rfl rfl rfl rfl ?_ GG.to
      intro W A hG
      repeat (first | (refine zaj rfl ?_; first | refine zak ?_) | (refine hK _ ?_; clear hK K) | (rename_i K1 hK1; refine hK1 _ ?_; clear hK hK1; clear K) | (rename_i K1 hK1; refine hK1 _ ?_; clear hK1) | refine zac rfl ?_ | refine zam (by kernel_rfl) (by kernel_rfl) rfl ?_ | exact zah (show zar _ _ _ = some _ by kernel_rfl) | refine zaf rfl rfl ?_ | refine zae rfl rfl ?_ | refine zag ?_ | refine zal ?_ | refine zai ?_ | refine zab (fun K hK => ?_) | refine zan ?_ | refine zaq ?_ | refine zah (show zar _ _ _ = some _ ∧ EndB _ _ from ⟨by kernel_rfl, ?_⟩))
      done
  all_goals rcases b3 qw pw with rfl | ⟨rfl, rfl⟩ | ⟨rfl, rfl⟩
  all_goals
    try
      try simp only [Bool.false_and, Bool.true_and, Bool.not_true, Bool.not_false, Bool.false_or, Bool.true_or, Bool.and_false, Bool.or_false, Bool.or_true, Bool.and_true, bne_self_eq_false, Bool.bne_false, Bool.bne_true]
      refine zad 37 Tryz.func62 rfl rfl rfl rfl ?_ GG.to
      intro W A hG
      repeat (first | (refine zaj rfl ?_; first | refine zak ?_) | (refine hK _ ?_; clear hK K) | (rename_i K1 hK1; refine hK1 _ ?_; clear hK hK1; clear K) | (rename_i K1 hK1; refine hK1 _ ?_; clear hK1) | refine zac rfl ?_ | refine zam (by kernel_rfl) (by kernel_rfl) rfl ?_ | exact zah (show zar _ _ _ = some _ by kernel_rfl) | refine zaf rfl rfl ?_ | refine zae rfl rfl ?_ | refine zag ?_ | refine zal ?_ | refine zai ?_ | refine zab (fun K hK => ?_) | refine zan ?_ | refine zaq ?_ | refine zah (show zar _ _ _ = some _ ∧ EndB _ _ from ⟨by kernel_rfl, ?_⟩))
      done
  all_goals rcases b3 qx px with rfl | ⟨rfl, rfl⟩ | ⟨rfl, rfl⟩
  all_goals
    try
      try simp only [Bool.false_and, Bool.true_and, Bool.not_true, Bool.not_false, Bool.false_or, Bool.true_or, Bool.and_false, Bool.or_false, Bool.or_true, Bool.and_true, bne_self_eq_false, Bool.bne_false, Bool.bne_true]
      refine zad 37 Tryz.func62 rfl rfl rfl rfl ?_ GG.to
      intro W A hG
      repeat (first | (refine zaj rfl ?_; first | refine zak ?_) | (refine hK _ ?_; clear hK K) | (rename_i K1 hK1; refine hK1 _ ?_; clear hK hK1; clear K) | (rename_i K1 hK1; refine hK1 _ ?_; clear hK1) | refine zac rfl ?_ | refine zam (by kernel_rfl) (by kernel_rfl) rfl ?_ | exact zah (show zar _ _ _ = some _ by kernel_rfl) | refine zaf rfl rfl ?_ | refine zae rfl rfl ?_ | refine zag ?_ | refine zal ?_ | refine zai ?_ | refine zab (fun K hK => ?_) | refine zan ?_ | refine zaq ?_ | refine zah (show zar _ _ _ = some _ ∧ EndB _ _ from ⟨by kernel_rfl, ?_⟩))
      done
set_option maxHeartbeats 40000000 in
theorem zzy (p q : Pm) : Ok 63 [.ag [cb p.r, cb p.w, cb p.x, cb p.u], .ag [cb q.r, cb q.w, cb q.x, cb q.u]] (.m (ib (zhh p q))) := by
  obtain ⟨pr, pw, px, pu⟩ := p
  obtain ⟨qr, qw, qx, qu⟩ := q
  unfold zhh
  simp only
  have b4 : ∀ a b : Bool, a = true ∨ (a = false ∧ b = true) ∨ (a = false ∧ b = false) := by decide
  all_goals rcases b4 pr qr with rfl | ⟨rfl, rfl⟩ | ⟨rfl, rfl⟩
  all_goals
    try
      try simp only [Bool.false_and, Bool.true_and, Bool.not_true, Bool.not_false, Bool.false_or, Bool.true_or, Bool.and_false, Bool.or_false, Bool.or_true, Bool.and_true, bne_self_eq_false, Bool.bne_false, Bool.bne_true]
      refine zad 46 Tryz.func63 rfl rfl rfl rfl ?_ GG.to
      intro W A hG
      repeat (first | (refine zaj rfl ?_; first | refine zak ?_) | (refine hK _ ?_; clear hK K) | (rename_i K1 hK1; refine hK1 _ ?_; clear hK hK1; clear K) | (rename_i K1 hK1; refine hK1 _ ?_; clear hK1) | refine zac rfl ?_ | refine zam (by kernel_rfl) (by kernel_rfl) rfl ?_ | exact zah (show zar _ _ _ = some _ by kernel_rfl) | refine zaf rfl rfl ?_ | refine zae rfl rfl ?_ | refine zag ?_ | refine zal ?_ | refine zai ?_ | refine zab (fun K hK => ?_) | refine zan ?_ | refine zaq ?_ | refine zah (show zar _ _ _ = some _ ∧ EndB _ _ from ⟨by kernel_rfl, ?_⟩))
      done
  all_goals rcases b4 pw qw with rfl | ⟨rfl, rfl⟩ | ⟨rfl, rfl⟩
  all_goals
    try
      try simp only [Bool.false_and, Bool.true_and, Bool.not_true, Bool.not_false, Bool.false_or, Bool.true_or, Bool.and_false, Bool.or_false, Bool.or_true, Bool.and_true, bne_self_eq_false, Bool.bne_false, Bool.bne_true]
      refine zad 46 Tryz.func63 rfl rfl rfl rfl ?_ GG.to
      intro W A hG
      repeat (first | (refine zaj rfl ?_; first | refine zak ?_) | (refine hK _ ?_; clear hK K) | (rename_i K1 hK1; refine hK1 _ ?_; clear hK hK1; clear K) | (rename_i K1 hK1; refine hK1 _ ?_; clear hK1) | refine zac rfl ?_ | refine zam (by kernel_rfl) (by kernel_rfl) rfl ?_ | exact zah (show zar _ _ _ = some _ by kernel_rfl) | refine zaf rfl rfl ?_ | refine zae rfl rfl ?_ | refine zag ?_ | refine zal ?_ | refine zai ?_ | refine zab (fun K hK => ?_) | refine zan ?_ | refine zaq ?_ | refine zah (show zar _ _ _ = some _ ∧ EndB _ _ from ⟨by kernel_rfl, ?_⟩))
      done
  all_goals rcases b4 px qx with rfl | ⟨rfl, rfl⟩ | ⟨rfl, rfl⟩
  all_goals
    try
      try simp only [Bool.false_and, Bool.true_and, Bool.not_true, Bool.not_false, Bool.false_or, Bool.true_or, Bool.and_false, Bool.or_false, Bool.or_true, Bool.and_true, bne_self_eq_false, Bool.bne_false, Bool.bne_true]
      refine zad 46 Tryz.func63 rfl rfl rfl rfl ?_ GG.to
      intro W A hG
      repeat (first | (refine zaj rfl ?_; first | refine zak ?_) | (refine hK _ ?_; clear hK K) | (rename_i K1 hK1; refine hK1 _ ?_; clear hK hK1; clear K) | (rename_i K1 hK1; refine hK1 _ ?_; clear hK1) | refine zac rfl ?_ | refine zam (by kernel_rfl) (by kernel_rfl) rfl ?_ | exact zah (show zar _ _ _ = some _ by kernel_rfl) | refine zaf rfl rfl ?_ | refine zae rfl rfl ?_ | refine zag ?_ | refine zal ?_ | refine zai ?_ | refine zab (fun K hK => ?_) | refine zan ?_ | refine zaq ?_ | refine zah (show zar _ _ _ = some _ ∧ EndB _ _ from ⟨by kernel_rfl, ?_⟩))
      done
  all_goals rcases b4 pu qu with rfl | ⟨rfl, rfl⟩ | ⟨rfl, rfl⟩
  all_goals
    try
      try simp only [Bool.false_and, Bool.true_and, Bool.not_true, Bool.not_false, Bool.false_or, Bool.true_or, Bool.and_false, Bool.or_false, Bool.or_true, Bool.and_true, bne_self_eq_false, Bool.bne_false, Bool.bne_true]
      refine zad 46 Tryz.func63 rfl rfl rfl rfl ?_ GG.to
      intro W A hG
      repeat (first | (refine zaj rfl ?_; first | refine zak ?_) | (refine hK _ ?_; clear hK K) | (rename_i K1 hK1; refine hK1 _ ?_; clear hK hK1; clear K) | (rename_i K1 hK1; refine hK1 _ ?_; clear hK1) | refine zac rfl ?_ | refine zam (by kernel_rfl) (by kernel_rfl) rfl ?_ | exact zah (show zar _ _ _ = some _ by kernel_rfl) | refine zaf rfl rfl ?_ | refine zae rfl rfl ?_ | refine zag ?_ | refine zal ?_ | refine zai ?_ | refine zab (fun K hK => ?_) | refine zan ?_ | refine zaq ?_ | refine zah (show zar _ _ _ = some _ ∧ EndB _ _ from ⟨by kernel_rfl, ?_⟩))
      done
  all_goals cases qu
  all_goals
    try
      try simp only [Bool.false_and, Bool.true_and, Bool.not_true, Bool.not_false, Bool.false_or, Bool.true_or, Bool.and_false, Bool.or_false, Bool.or_true, Bool.and_true, bne_self_eq_false, Bool.bne_false, Bool.bne_true]
      refine zad 46 Tryz.func63 rfl rfl rfl rfl ?_ GG.to
      intro W A hG
      repeat (first | (refine zaj rfl ?_; first | refine zak ?_) | (refine hK _ ?_; clear hK K) | (rename_i K1 hK1; refine hK1 _ ?_; clear hK hK1; clear K) | (rename_i K1 hK1; refine hK1 _ ?_; clear hK1) | refine zac rfl ?_ | refine zam (by kernel_rfl) (by kernel_rfl) rfl ?_ | exact zah (show zar _ _ _ = some _ by kernel_rfl) | refine zaf rfl rfl ?_ | refine zae rfl rfl ?_ | refine zag ?_ | refine zal ?_ | refine zai ?_ | refine zab (fun K hK => ?_) | refine zan ?_ | refine zaq ?_ | refine zah (show zar _ _ _ = some _ ∧ EndB _ _ from ⟨by kernel_rfl, ?_⟩))
      done
theorem zzz (p : Pm) (y : Pg) : Ok 61 [.ag [cu y.va, cu y.pa, ci y.lev, cb y.r, cb y.w, cb y.x, cb y.u, cb y.d], .c (.q [.bool p.r, .bool p.w, .bool p.x, .bool p.u])] (.m (ib (!zhh p (zuj y)))) := by
  have h := z25 p (zuj y)
  generalize zhh p (zuj y) = b at *
  have h : Ok 62 [.ag [cb p.r, cb p.w, cb p.x, cb p.u], .ag [cb y.r, cb y.w, cb y.x, cb y.u]] (.m (ib b)) := h
  refine zad 9 Tryz.func61 rfl rfl rfl rfl ?_ GG.to
  intro W A hG
  repeat (first | (refine zaj rfl ?_; first | refine zak ?_ | refine gdr (zaa rfl rfl rfl (h) (by kernel_rfl)) ?_) | (refine hK _ ?_; clear hK K) | (rename_i K1 hK1; refine hK1 _ ?_; clear hK hK1; clear K) | (rename_i K1 hK1; refine hK1 _ ?_; clear hK1) | refine zac rfl ?_ | refine zam (by kernel_rfl) (by kernel_rfl) rfl ?_ | exact zah (show zar _ _ _ = some _ by kernel_rfl) | refine zaf rfl rfl ?_ | refine zae rfl rfl ?_ | refine zag ?_ | refine zal ?_ | refine zai ?_ | refine zab (fun K hK => ?_) | refine zan ?_ | refine zaq ?_ | refine zah (show zar _ _ _ = some _ ∧ EndB _ _ from ⟨by kernel_rfl, ?_⟩))
def z26 (l : List Pg) (p : Pm) (i m : Nat) (vs : List Value) : St := St.of [(0, .m (.c (.s l.length 8 (flP l)))), (3, .m (.c (.p 3 0))), (4, .m (.c (.v (.slice none 0 0)))), (5, .m (.c (.o 1000))), (6, .m (ii i))] [(3, .live (.box p.ce)), (1000, .live (.row 94 8 m vs))]
theorem zlq (l : List Pg) (p : Pm) (hl : l.length ≤ 134217728) : Ok 28 [.c (.s l.length 8 (flP l)), .ag p.ce] (.m (.c (.s (zbm l p).length 8 (flP (zbm l p))))) := by
  obtain ⟨N, hN⟩ : ∃ N, N = (zbm l p).length := ⟨_, rfl⟩
  obtain ⟨XS, hXS⟩ : ∃ XS, XS = flP (zbm l p) := ⟨_, rfl⟩
  rw [← hN, ← hXS]
  refine zad 28 Tryz.func28 rfl rfl rfl rfl ?_ GG.to
  intro W A hG
  repeat (first | (refine zaj rfl ?_; first | refine zak ?_) | (refine hK _ ?_; clear hK K) | (rename_i K1 hK1; refine hK1 _ ?_; clear hK hK1; clear K) | (rename_i K1 hK1; refine hK1 _ ?_; clear hK1) | refine zac rfl ?_ | refine zam (by kernel_rfl) (by kernel_rfl) rfl ?_ | exact zah (show zar _ _ _ = some _ by kernel_rfl) | refine zaf rfl rfl ?_ | refine zae rfl rfl ?_ | refine zag ?_ | refine zal ?_ | refine zai ?_ | refine zab (fun K hK => ?_) | refine zan ?_ | refine zaq ?_ | refine zah (show zar _ _ _ = some _ ∧ EndB _ _ from ⟨by kernel_rfl, ?_⟩))
  refine zay (α := Nat × Nat × List Value) (fun q => q.1 ≤ l.length ∧ q.2.1 = (zbm (l.take q.1) p).length ∧ q.2.2 = flP (zbm (l.take q.1) p)) (fun q => z26 l p q.1 q.2.1 q.2.2) (fun q => l.length - q.1) (0, 0, []) ⟨Nat.zero_le _, rfl, rfl⟩ (Sub.trans (zc9 5 1000 94 8 rfl rfl) (zao _ _ ⟨by kernel_rfl, by kernel_rfl, by kernel_rfl, by kernel_rfl, by kernel_rfl, trivial⟩ ⟨by kernel_rfl, by kernel_rfl, trivial⟩ (by kernel_rfl))) ?_
  rintro ⟨i, m, vs⟩ ⟨x1, x2, x3⟩
  have g1 : i ≤ l.length := x1
  have g2 : m = (zbm (l.take i) p).length := x2
  have g3 : vs = flP (zbm (l.take i) p) := x3
  show Aw _ _ _ _ (z26 l p i m vs)
  unfold z26
  by_cases hlt : i < l.length
  · obtain ⟨y, hy⟩ : ∃ y, l[i]? = some y := ⟨_, List.getElem?_eq_getElem hlt⟩
    have hx : ((flP l).drop (i * 8)).take 8 = [.int .u64 y.va, .int .u64 y.pa, .int .i64 y.lev, .bool y.r, .bool y.w, .bool y.x, .bool y.u, .bool y.d] := zid hy
    have hm : m ≤ i := by rw [g2]; unfold zbm; exact Nat.le_trans (List.length_filter_le ..) (by rw [List.length_take]; omega)
    have et : zbm (l.take (i + 1)) p = zbm (l.take i) p ++ (if zhh p (zuj y) then [y] else []) := by
      unfold zbm
      rw [List.take_add_one, hy, List.filter_append]
      show _ ++ [y].filter _ = _
      cases c : zhh p (zuj y) <;> simp [List.filter, c]
    have hq := zzy p (zuj y)
    cases c : zhh p (zuj y) with
    | true =>
      rw [c, if_pos rfl] at et
      rw [c] at hq
      have hn1 : m + 1 = (zbm (l.take (i + 1)) p).length := by rw [et, List.length_append, ← g2]; rfl
      have hv1 : vs ++ [.int .u64 y.va, .int .u64 y.pa, .int .i64 y.lev, .bool y.r, .bool y.w, .bool y.x, .bool y.u, .bool y.d] = flP (zbm (l.take (i + 1)) p) := by rw [et, g3, zmj]; show _ = _ ++ (([.int .u64 y.va, .int .u64 y.pa, .int .i64 y.lev, .bool y.r, .bool y.w, .bool y.x, .bool y.u, .bool y.d] : List Value) ++ []); rw [List.append_nil]
      clear g2 g3 x2 x3 hN hXS et
      repeat (first | (refine zaj rfl ?_; first | refine zak ?_ | refine gdr (zaa rfl rfl rfl (hq) (by kernel_rfl)) ?_) | (refine hK _ ?_; clear hK K) | (rename_i K1 hK1; refine hK1 _ ?_; clear hK hK1; clear K) | (rename_i K1 hK1; refine hK1 _ ?_; clear hK1) | refine zac rfl ?_ | refine zam (by kernel_rfl) (by kernel_rfl) rfl ?_ | exact zah (show zar _ _ _ = some _ by kernel_rfl) | refine zaf rfl rfl ?_ | refine zae rfl rfl ?_ | refine zag ?_ | refine zal ?_ | refine zai ?_ | refine zab (fun K hK => ?_) | refine zan ?_ | refine zaq ?_ | refine zah (show zar _ _ _ = some _ ∧ EndB _ _ from ⟨by kernel_rfl, ?_⟩))
      refine zaj rfl ?_
      refine zdg (za1 rfl rfl rfl rfl rfl rfl rfl rfl rfl rfl rfl rfl rfl (by omega)) (by kernel_rfl) ?_
      repeat (first | (refine zaj rfl ?_; first | refine zak ?_) | (refine hK _ ?_; clear hK K) | (rename_i K1 hK1; refine hK1 _ ?_; clear hK hK1; clear K) | (rename_i K1 hK1; refine hK1 _ ?_; clear hK1) | refine zac rfl ?_ | refine zam (by kernel_rfl) (by kernel_rfl) rfl ?_ | exact zah (show zar _ _ _ = some _ by kernel_rfl) | refine zaf rfl rfl ?_ | refine zae rfl rfl ?_ | refine zag ?_ | refine zal ?_ | refine zai ?_ | refine zab (fun K hK => ?_) | refine zan ?_ | refine zaq ?_ | refine zah (show zar _ _ _ = some _ ∧ EndB _ _ from ⟨by kernel_rfl, ?_⟩))
      exact ⟨(i + 1, m + 1, vs ++ [.int .u64 y.va, .int .u64 y.pa, .int .i64 y.lev, .bool y.r, .bool y.w, .bool y.x, .bool y.u, .bool y.d]), ⟨by show i + 1 ≤ l.length; omega, hn1, hv1⟩, by show l.length - (i + 1) < l.length - i; omega, Sub.trans (zao [(0, .m (.c (.s l.length 8 (flP l)))), (3, .m (.c (.p 3 0))), (4, .m (.c (.v (.slice none 0 0)))), (5, .m (.c (.o 26))), (6, .m (ii ((i + 1 : Nat) : Int)))] [(3, .live (.box p.ce)), (26, .live (.row 94 8 (m + 1) (vs ++ [.int .u64 y.va, .int .u64 y.pa, .int .i64 y.lev, .bool y.r, .bool y.w, .bool y.x, .bool y.u, .bool y.d])))] ⟨by kernel_rfl, by kernel_rfl, by kernel_rfl, by kernel_rfl, by kernel_rfl, trivial⟩ ⟨by kernel_rfl, by kernel_rfl, trivial⟩ (by kernel_rfl)) (Sub.trans (zb4 (b := 26) (b' := 1000) rfl rfl) (zao _ _ ⟨by kernel_rfl, by kernel_rfl, by kernel_rfl, by kernel_rfl, by kernel_rfl, trivial⟩ ⟨by kernel_rfl, by kernel_rfl, trivial⟩ (by kernel_rfl)))⟩
    | false =>
      rw [c, if_neg (by simp), List.append_nil] at et
      rw [c] at hq
      have hn1 : m = (zbm (l.take (i + 1)) p).length := by rw [et]; exact g2
      have hv1 : vs = flP (zbm (l.take (i + 1)) p) := by rw [et]; exact g3
      clear g2 g3 x2 x3 hN hXS et
      repeat (first | (refine zaj rfl ?_; first | refine zak ?_ | refine gdr (zaa rfl rfl rfl (hq) (by kernel_rfl)) ?_) | (refine hK _ ?_; clear hK K) | (rename_i K1 hK1; refine hK1 _ ?_; clear hK hK1; clear K) | (rename_i K1 hK1; refine hK1 _ ?_; clear hK1) | refine zac rfl ?_ | refine zam (by kernel_rfl) (by kernel_rfl) rfl ?_ | exact zah (show zar _ _ _ = some _ by kernel_rfl) | refine zaf rfl rfl ?_ | refine zae rfl rfl ?_ | refine zag ?_ | refine zal ?_ | refine zai ?_ | refine zab (fun K hK => ?_) | refine zan ?_ | refine zaq ?_ | refine zah (show zar _ _ _ = some _ ∧ EndB _ _ from ⟨by kernel_rfl, ?_⟩))
      exact ⟨(i + 1, m, vs), ⟨by show i + 1 ≤ l.length; omega, hn1, hv1⟩, by show l.length - (i + 1) < l.length - i; omega, zao _ _ ⟨by kernel_rfl, by kernel_rfl, by kernel_rfl, by kernel_rfl, by kernel_rfl, trivial⟩ ⟨by kernel_rfl, by kernel_rfl, trivial⟩ (by kernel_rfl)⟩
  · have ei : i = l.length := by omega
    rw [ei, List.take_length] at g2 g3
    obtain rfl : N = m := by rw [hN, g2]
    obtain rfl : XS = vs := by rw [hXS, g3]
    repeat (first | (refine zaj rfl ?_; first | refine zak ?_) | (refine hK _ ?_; clear hK K) | (rename_i K1 hK1; refine hK1 _ ?_; clear hK hK1; clear K) | (rename_i K1 hK1; refine hK1 _ ?_; clear hK1) | refine zac rfl ?_ | refine zam (by kernel_rfl) (by kernel_rfl) rfl ?_ | exact zah (show zar _ _ _ = some _ by kernel_rfl) | refine zaf rfl rfl ?_ | refine zae rfl rfl ?_ | refine zag ?_ | refine zal ?_ | refine zai ?_ | refine zab (fun K hK => ?_) | refine zan ?_ | refine zaq ?_ | refine zah (show zar _ _ _ = some _ ∧ EndB _ _ from ⟨by kernel_rfl, ?_⟩))
end Go.Proofs.YtmkjfeamgknpfaaGreatDoor.LmB
namespace Go.Proofs.YtmkjfeamgknpfaaGreatDoor.LmE
open Go.RowKit Bv VaSpec Base MemL RegR Ax MemC PutC MemC3 TzC OkS SpA SpB SpC SpD SpE SpF SpN SpO SpG SpH SpI SpJ LaA LaB LaC LaD LaE LaF LaG LiA LiB LiC LiD LiE LiF LrA LrB LrC LjA LjF LkE LmA LmB
open BitsC PteSpec
set_option maxRecDepth 10000
set_option maxHeartbeats 1000000
def prM (sz : Int) (T : List (Int × Int) × Int × (Int × Int) × Int) (a : Int) (p : Pm) : List (Int × Int) :=
  if za2 (atM sz T.1 T.2.2.1.1 (idx a T.2.2.1.2)) then zln sz T.1 T.2.2.1.1 (idx a T.2.2.1.2) p
  else zne sz (T.2.2.1.2 - 1).toNat (atM sz T.1 T.2.2.1.1 (idx a T.2.2.1.2)).ppn p (zbg sz T.1 (T.2.2.1.2 - 1).toNat (atM sz T.1 T.2.2.1.1 (idx a T.2.2.1.2)).ppn a) T.1
def prK (k : Kr) (id a : Int) (p : Pm) (T : List (Int × Int) × Int × (Int × Int) × Int) : Kr := zda { k with m := prM k.sz T a p, pf := T.2.1 } (zdp k id (zbm (zax k.sz T.1 T.2.2.1.2 (atM k.sz T.1 T.2.2.1.1 (idx a T.2.2.1.2)) a) p))
def prR (k : Kr) (id a l : Int) (p : Pm) : Kr × Int :=
  if (zas k id a l).2.2 ≠ 0 then (k, (zas k id a l).2.2)
  else if zc2 p = false then (k, 5)
  else if (inR k id a l).length = 0 then (k, 7)
  else if (unT k (zas k id a l).1 (zas k id a l).2.1 a l).2.2.2 ≠ 0 then (k, (unT k (zas k id a l).1 (zas k id a l).2.1 a l).2.2.2)
  else (prK k id a p (unT k (zas k id a l).1 (zas k id a l).2.1 a l), 0)
section
variable {cd cp sz sh : Int}
theorem zz0 (addr zau top : Int) (l : Nat) (hw : 0 ≤ zau) (hwl : zau ≤ (l : Int)) (hl2 : l ≤ 2) : ∀ (n : Nat) (xs : List (Int × Int)) (f : Int) (lv : Int → Int), TI cd cp sz xs f sh lv → Al cd cp f top → Al cd cp f sh → lv top = l →
    (za2 (atM sz xs (zav sz xs addr zau l top).1 (idx addr (zav sz xs addr zau l top).2)) = true ∨ lkP (atM sz xs (zav sz xs addr zau l top).1 (idx addr (zav sz xs addr zau l top).2)) = true) →
    (toN sz cd addr zau top l n xs f).2.2.2 = 0 → za2 (atM sz (toN sz cd addr zau top l n xs f).1 (toN sz cd addr zau top l n xs f).2.2.1.1 (idx addr (toN sz cd addr zau top l n xs f).2.2.1.2)) = true ∨ lkP (atM sz (toN sz cd addr zau top l n xs f).1 (toN sz cd addr zau top l n xs f).2.2.1.1 (idx addr (toN sz cd addr zau top l n xs f).2.2.1.2)) = true
  | 0, xs, f, lv, h, ht, _, hl, hor, _ => hor
  | n + 1, xs, f, lv, h, ht, hsh, hl, hor, he => by
    obtain ⟨l', t', i1, i2, i3, i4, i5, i6, i7⟩ := zci h addr zau hw l top ht hl hwl
    rw [i1] at hor
    unfold toN at he ⊢
    rw [i1] at he ⊢
    by_cases c1 : (l' : Int) = zau ∨ za2 (atM sz xs t' (idx addr (l' : Int))) = false
    · rw [if_pos c1]; exact hor
    · rw [if_neg c1] at he ⊢
      have c2 : ¬ (l' : Int) = zau := fun e => c1 (.inl e)
      have hlf : za2 (atM sz xs t' (idx addr (l' : Int))) = true := by
        cases e : za2 (atM sz xs t' (idx addr (l' : Int))) with
        | true => rfl
        | false => exact absurd (.inr e) c1
      by_cases c4 : f = 0
      · rw [if_pos c4] at he; cases he
      · rw [if_neg c4] at he ⊢
        obtain ⟨m, rfl⟩ : ∃ m : Nat, l' = m + 1 := ⟨l' - 1, by omega⟩
        have hi := idx_bd addr ((m + 1 : Nat) : Int)
        have hbad : zc5 (atM sz xs t' (idx addr ((m + 1 : Nat) : Int))) ((m + 1 : Nat) : Int) = false := by
          rcases h.e.k t' _ hi with e | ⟨_, _, ⟨_, e⟩ | ⟨e, _⟩⟩
          · rw [e] at hlf; cases hlf
          · rw [i5] at e; exact e
          · rw [(zco e).2.2] at hlf; cases hlf
        obtain ⟨a0, a1, a2, a3⟩ := zdf h c4
        have hT := zot h c4 i4 hsh hi i5 (by omega) rfl hlf hbad
        obtain ⟨s1, s2⟩ := zha h c4 addr zau hw i4 i5 (by omega) (by omega) hlf hbad
        have hre := (i7 _ s1).trans s2
        have hat := zsb h c4 i4 hi (l := ((m + 1 : Nat) : Int)) (by omega) rfl hlf hbad (cd + tzI f) (idx addr (m : Int)) (idx_bd addr _)
        rw [if_neg (by rintro ⟨e, _⟩; exact (a0 _ i4).2 e.symm), if_pos rfl] at hat
        refine zz0 addr zau top l hw hwl hl2 n _ _ _ hT (a0 _ ht).1 (a0 _ hsh).1 ((if_neg (a0 _ ht).2).trans hl) (.inl ?_) he
        show za2 (atM sz (zga sz xs t' (idx addr ((m + 1 : Nat) : Int)) ((m + 1 : Nat) : Int) (atM sz xs t' (idx addr ((m + 1 : Nat) : Int))) (cd + tzI f)) (zav sz (zga sz xs t' (idx addr ((m + 1 : Nat) : Int)) ((m + 1 : Nat) : Int) (atM sz xs t' (idx addr ((m + 1 : Nat) : Int))) (cd + tzI f)) addr zau l top).1 (idx addr (zav sz (zga sz xs t' (idx addr ((m + 1 : Nat) : Int)) ((m + 1 : Nat) : Int) (atM sz xs t' (idx addr ((m + 1 : Nat) : Int))) (cd + tzI f)) addr zau l top).2)) = true
        rw [hre]
        show za2 (atM sz (zga sz xs t' (idx addr ((m + 1 : Nat) : Int)) ((m + 1 : Nat) : Int) (atM sz xs t' (idx addr ((m + 1 : Nat) : Int))) (cd + tzI f)) (cd + tzI f) (idx addr (m : Int))) = true
        rw [hat]; exact hlf
end
theorem z27 {n : Nat} {k : Kr} {id a l : Int} (h : InvT n k) (c0 : (zas k id a l).2.2 = 0) (c1 : (inR k id a l).length ≠ 0) :
    za2 (atM k.sz k.m (zbs k.sz k.m a l (zas k id a l).2.1 (zas k id a l).1).1 (idx a (zbs k.sz k.m a l (zas k id a l).2.1 (zas k id a l).1).2)) = true ∨ lkP (atM k.sz k.m (zbs k.sz k.m a l (zas k id a l).2.1 (zas k id a l).1).1 (idx a (zbs k.sz k.m a l (zas k id a l).2.1 (zas k id a l).1).2)) = true := by
  obtain ⟨lv, hT, _, _⟩ := h.t
  unfold inR at c1
  rw [if_neg (by omega)] at c1
  unfold zax at c1
  generalize zbs k.sz k.m a l (zas k id a l).2.1 (zas k id a l).1 = r at *
  cases e1 : za2 (atM k.sz k.m r.1 (idx a r.2)) with
  | true => exact .inl rfl
  | false =>
    rw [e1, if_neg (by simp)] at c1
    cases e2 : zbc (atM k.sz k.m r.1 (idx a r.2)) with
    | false => rw [e2, if_neg (by simp)] at c1; exact absurd rfl c1
    | true =>
      rcases hT.e.k r.1 _ (idx_bd a r.2) with e | ⟨_, _, ⟨e, _⟩ | ⟨e, _⟩⟩
      · rw [e] at e2; cases e2
      · rw [e1] at e; cases e
      · exact .inr e
theorem zxu {a : Int} {m : Nat} (h2 : m ≤ 1) (h : m39 a % VaSpec.sz ((m + 1 : Nat) : Int) = 0) : m39 a % (512 * VaSpec.sz (m : Int)) = 0 := by
  have := zrc (l := ((m + 1 : Nat) : Int)) (by omega)
  rw [show ((m + 1 : Nat) : Int) - 1 = (m : Int) by omega] at this
  rw [← this]; exact h
theorem z49 {cd cp sz f sh : Int} {xs : List (Int × Int)} {lv : Int → Int} (h : TI cd cp sz xs f sh lv) {t a : Int} {l' : Nat} {e : Int} {p : Pm} (hp : zc2 p = true) (l2 : l' ≤ 2) (hlv : lv t = (l' : Int)) (hm : m39 a % VaSpec.sz (l' : Int) = 0)
    (hor : za2 (atM sz xs t (idx a (l' : Int))) = true ∨ lkP (atM sz xs t (idx a (l' : Int))) = true) : TI cd cp sz (prM sz (xs, f, (t, (l' : Int)), e) a p) f sh lv ∧ (prM sz (xs, f, (t, (l' : Int)), e) a p).length ≤ xs.length := by
  have hi := idx_bd a (l' : Int)
  unfold prM
  show TI cd cp sz (if za2 (atM sz xs t (idx a (l' : Int))) then zln sz xs t (idx a (l' : Int)) p else zne sz ((l' : Int) - 1).toNat (atM sz xs t (idx a (l' : Int))).ppn p (zbg sz xs ((l' : Int) - 1).toNat (atM sz xs t (idx a (l' : Int))).ppn a) xs) f sh lv ∧ (if za2 (atM sz xs t (idx a (l' : Int))) then zln sz xs t (idx a (l' : Int)) p else zne sz ((l' : Int) - 1).toNat (atM sz xs t (idx a (l' : Int))).ppn p (zbg sz xs ((l' : Int) - 1).toNat (atM sz xs t (idx a (l' : Int))).ppn a) xs).length ≤ xs.length
  rcases hor with h1 | h1
  · rw [if_pos h1]
    obtain ⟨r1, _, r3⟩ := zxo h hi h1 hp
    exact ⟨r1, r3⟩
  · rw [if_neg (by rw [(zco h1).2.2]; simp)]
    obtain ⟨_, k2, k3, k4⟩ := zig h hi h1
    obtain ⟨m, rfl⟩ : ∃ m : Nat, l' = m + 1 := ⟨l' - 1, by omega⟩
    rw [show (((m + 1 : Nat) : Int) - 1).toNat = m by omega]
    have g := zxq h hp m (atM sz xs t (idx a ((m + 1 : Nat) : Int))).ppn a (by omega) k4 (by rw [k3, hlv]; omega) (zxu (by omega) hm) (zbg sz xs m (atM sz xs t (idx a ((m + 1 : Nat) : Int))).ppn a) (fun y hy => hy) xs ⟨h, Shp.refl _ _ _, Nat.le_refl _⟩
    exact ⟨g.t, g.n⟩
theorem z0s {n : Nat} {k : Kr} {id a l : Int} {p : Pm} (h : InvT n k) : InvT (n + 1100) (prR k id a l p).1 := by
  have hm : InvT (n + 1100) k := ⟨{ h.l with ml := by have := h.l.ml; omega, fl := by have := h.l.fl; omega }, h.t⟩
  unfold prR
  split
  · exact hm
  · rename_i c0
    split
    · exact hm
    · rename_i cp
      have hp : zc2 p = true := by simpa using cp
      split
      · exact hm
      · rename_i c1
        split
        · exact hm
        · rename_i c5
          have c0' : (zas k id a l).2.2 = 0 := by omega
          have c5' : (unT k (zas k id a l).1 (zas k id a l).2.1 a l).2.2.2 = 0 := by omega
          have hlev := zsx h c0' c1 c5'
          have hlf := z27 h c0' c1
          have hfm := zd5 c0'
          obtain ⟨lv, hT, hs, hr⟩ := h.t
          obtain ⟨w1, w2, w3, w4⟩ := zbt (id := id) (a := a) (l := l) h.l c0'
          obtain ⟨z1, z2⟩ := h.top (a := a) (id := id) (l := l) c0' hs hr
          have hbm := zm9 w1 hfm
          generalize zas k id a l = w at *
          obtain ⟨lv', P⟩ := zq1 a l w.1 w.2.1.toNat w1.1 (by omega) (by omega) w.2.1.toNat k.m k.pf lv hT w2 h.l.sh (by omega)
          have hto := zz0 a l w.1 w.2.1.toNat w1.1 (by omega) (by omega) w.2.1.toNat k.m k.pf lv hT w2 h.l.sh (by omega) hlf c5'
          show InvT (n + 1100) (prK k id a p (unT k w.1 w.2.1 a l))
          have P : ToP k.cd k.cp k.sz k.pf k.sh a l w.1 w.2.1.toNat k.m lv w.2.1.toNat (unT k w.1 w.2.1 a l) lv' := P
          have hto : za2 (atM k.sz (unT k w.1 w.2.1 a l).1 (unT k w.1 w.2.1 a l).2.2.1.1 (idx a (unT k w.1 w.2.1 a l).2.2.1.2)) = true ∨ lkP (atM k.sz (unT k w.1 w.2.1 a l).1 (unT k w.1 w.2.1 a l).2.2.1.1 (idx a (unT k w.1 w.2.1 a l).2.2.1.2)) = true := hto
          generalize unT k w.1 w.2.1 a l = T at *
          obtain ⟨xs, f, ⟨t, lt⟩, e⟩ := T
          obtain ⟨l', e1, e2, e3, e4, e5⟩ := P.p
          have e1 : lt = (l' : Int) := e1
          subst e1
          have hll : (l' : Int) = l := hlev
          have hPt : TI k.cd k.cp k.sz xs f k.sh lv' := P.t
          have ash := P.a _ h.l.sh
          obtain ⟨q1, q2⟩ := z49 (t := t) (e := e) hPt hp (by omega) e5 (by rw [hll]; exact hbm) hto
          have hroot : ∀ s ∈ k.ss, s.live = true → lv' s.root = 2 ∧ Al k.cd k.cp f s.root := fun s hs' hl => by
            have a1 := P.a _ (h.l.ss s hs' hl)
            exact ⟨a1.2.trans (hr s hs' hl), a1.1⟩
          have hPn : xs.length ≤ k.m.length + 513 * w.2.1.toNat := P.n
          have hml := h.l.ml
          have hfl := h.l.fl
          refine ⟨{ g := q1.gm, cs := h.l.cs, pb := h.l.pb, pm := h.l.pm, sh := ash.1, ts := h.l.ts, ml := ?_, fl := ?_, sl := h.l.sl, ss := fun s hs' hl => (hroot s hs' hl).2 }, lv', q1, ash.2.trans hs, fun s hs' hl => (hroot s hs' hl).1⟩
          · show (prM k.sz (xs, f, (t, (l' : Int)), e) a p).length ≤ n + 1100
            omega
          · have := zgb k id (zbm (zax k.sz xs (l' : Int) (atM k.sz xs t (idx a (l' : Int))) a) p)
            show (k.fs ++ zdp k id (zbm (zax k.sz xs (l' : Int) (atM k.sz xs t (idx a (l' : Int))) a) p)).length ≤ n + 1100
            rw [List.length_append]; omega
end Go.Proofs.YtmkjfeamgknpfaaGreatDoor.LmE
namespace Go.Proofs.YtmkjfeamgknpfaaGreatDoor.DelFC
open Go.RowKit Bv Base MemL LaC
def pgV (y : Pg) : Value := .agg #[.int .u64 y.va, .int .u64 y.pa, .int .i64 y.lev, .bool y.r, .bool y.w, .bool y.x, .bool y.u, .bool y.d]
def fI (q : Pg → Bool) : List Pg → Nat → Int
  | [], _ => -1
  | y :: l, i => if q y then (i : Int) else fI q l (i + 1)
theorem z6b {q : Pg → Bool} {l : List Pg} {k : Nat} {y : Pg} (h : l[k]? = some y) : fI q (l.drop k) k = if q y then (k : Int) else fI q (l.drop (k + 1)) (k + 1) := by
  obtain ⟨hk, e⟩ := List.getElem?_eq_some_iff.1 h
  rw [List.drop_eq_getElem_cons hk, e]
  rfl
theorem zna : ∀ (l : List Pg) (i j : Nat) (y : Pg), l[i]? = some y → j < 8 → (flP l)[i * 8 + j]? = y.vs[j]?
  | [], i, j, y, h, _ => by simp at h
  | x :: l, 0, j, y, h, hj => by
    simp at h; subst h
    show (x.vs ++ flP l)[0 * 8 + j]? = _
    rw [Nat.zero_mul, Nat.zero_add, List.getElem?_append_left (by show j < 8; exact hj)]
  | x :: l, i + 1, j, y, h, hj => by
    have := zna l i j y (by simpa using h) hj
    show (x.vs ++ flP l)[(i + 1) * 8 + j]? = _
    rw [List.getElem?_append_right (by show 8 ≤ _; omega), show (i + 1) * 8 + j - x.vs.length = i * 8 + j by show (i + 1) * 8 + j - 8 = _; omega]
    exact this
def z28 (base : Nat) (W : World) (k : FuncId) (lb : Array Value) (q : Pg → Bool) : Prop := ∀ w y, Below base W w → Calls Tryz.prog k (#[pgV y] ++ lb) w fun e w' => e = .returned (.bool (q y)) ∧ Below w.heap.size w w'
theorem zii {P : Program} (w : World) {ops : Array Oper} {rest : List Oper} {o : Oper} {a : Act} {Q : Exit → Act → World → Prop} (hg : o.guard = none) (hd : o.dst = none) (ty : TypeId) (x y : Operand) (hop : o.op = .store ty x y) (b off : Nat) (cells : Array Value)
    (hx : a.eval x = .pointer (some ⟨b, off, none⟩)) (hy : a.eval y = .agg cells) (ht : w.there b off cells.size) (hi : (P.info? ty).map (·.size) = some cells.size) (h1 : cells.all (·.oneCell') = true) (h : wpList P ops Q rest a (w.setCells b off cells.toList)) : wpList P ops Q (o :: rest) a w := by
  refine wpList_plain hg fun K hK => ?_
  unfold Oper.wp
  have hr := run_storeVar_mid (P := P) w b off ty cells ht hi h1
  simp [execOp, hop, hx, hy, Instr.storeAt, Instr.sureAddr, hr, Result.andThen]
  refine hK _ _ ?_
  rw [hd]
  exact h
set_option maxHeartbeats 4000000 in
set_option maxRecDepth 1000000 in
theorem idx_calls (base : Nat) (W : World) (hB : base ≤ W.heap.size) (k : FuncId) (lb : Array Value) (q : Pg → Bool) (hk : ∀ args w, (callFunc k args).run Tryz.prog w = .ok (.enter k args) w) (hq : z28 base W k lb q) (g o n cap : Nat) (l : List Pg) (hn : l.length = n) (hmax : n ≤ 9223372036854775807)
    (hg : g < W.heap.size) (hc : ∀ t, t < n * 8 → W.cell? ⟨g, o + t, none⟩ = (flP l)[t]?) :
    Calls Tryz.prog 133 #[.slice (some ⟨g, o, none⟩) n cap, .func (.func k) #[] lb] W fun e w' => e = .returned (.int .i64 (fI q l 0)) ∧ Below W.heap.size W w' := by
  have HQ := Lib.hid hq
  have HC := Lib.hid hc
  have HN := Lib.hid hn
  clear hq hc hn
  go_enter Tryz.func133, Tryz.ntmps133
  go_wp2
  go_loopw [8] (fun i wr => ∃ j : Nat, j ≤ n ∧ i = .int .i64 j ∧ fI q (l.drop j) j = fI q l 0 ∧ Below W.heap.size W wr) (fun i _ => n - (intOf i).toNat)
  case atStart => exact ⟨0, by omega, rfl, rfl, Below.refl _ _⟩
  case round =>
    obtain ⟨j, hj, rfl, hf, br⟩ := hrel
    obtain ⟨cr, _⟩ := zn4 br
    by_cases hlt : j < n
    · obtain ⟨y, hy⟩ : ∃ y, l[j]? = some y := ⟨_, List.getElem?_eq_getElem (by rw [HN.out]; exact hlt)⟩
      have hfl := z6b (q := q) hy
      rw [hf] at hfl
      have cl : ∀ t, t < 8 → wr.cell? ⟨g, o + j * 8 + t, none⟩ = y.vs[t]? := fun t ht => by rw [cr _ _ hg, Nat.add_assoc, HC.out _ (by omega), zna l j t y hy ht]
      have r0 : wr.cell? ⟨g, o + j * 8, none⟩ = some (.int .u64 y.va) := cl 0 (by omega)
      have r1 : wr.cell? ⟨g, o + j * 8 + 1, none⟩ = some (.int .u64 y.pa) := cl 1 (by omega)
      have r2 : wr.cell? ⟨g, o + j * 8 + 2, none⟩ = some (.int .i64 y.lev) := cl 2 (by omega)
      have r3 : wr.cell? ⟨g, o + j * 8 + 3, none⟩ = some (.bool y.r) := cl 3 (by omega)
      have r4 : wr.cell? ⟨g, o + j * 8 + 4, none⟩ = some (.bool y.w) := cl 4 (by omega)
      have r5 : wr.cell? ⟨g, o + j * 8 + 5, none⟩ = some (.bool y.x) := cl 5 (by omega)
      have r6 : wr.cell? ⟨g, o + j * 8 + 6, none⟩ = some (.bool y.u) := cl 6 (by omega)
      have r7 : wr.cell? ⟨g, o + j * 8 + 7, none⟩ = some (.bool y.d) := cl 7 (by omega)
      have hcall := HQ.out wr y (br.mono hB)
      unfold pgV at hcall
      have HF := Lib.hid hfl
      have HL := Lib.hid hf
      clear cr cl hfl hf hy
      have hjz : (j : Int) < (n : Int) := by omega
      cases hb : q y with
      | true =>
        rw [hb] at hcall
        have hR : fI q l 0 = (j : Int) := by rw [HF.out, hb]; rfl
        clear hb
        go_wp2_with fail
        refine hcall.mono ?_
        rintro e w2 ⟨rfl, b2⟩
        go_wp2
        go_ret
        exact ⟨by rw [hR]; rfl, zaw br b2⟩
      | false =>
        rw [hb] at hcall
        have hR : fI q (l.drop (j + 1)) (j + 1) = fI q l 0 := by rw [HF.out, hb]; rfl
        clear hb
        go_wp2_with fail
        refine hcall.mono ?_
        rintro e w2 ⟨rfl, b2⟩
        go_wp2
        exact ⟨⟨j + 1, by omega, by go_num, hR, zaw br b2⟩, by simp [intOf]; omega⟩
    · obtain rfl : j = n := by omega
      have hjz : ¬ (j : Int) < (j : Int) := by omega
      have hR : fI q l 0 = -1 := by rw [← hf, List.drop_eq_nil_of_le (by rw [HN.out]; exact Nat.le_refl _)]; rfl
      go_wp2
      go_ret
      exact ⟨by first | (rw [hR]; rfl) | rfl, br⟩
set_option maxHeartbeats 4000000 in
theorem z29 (W : World) (fv : Value) : Calls Tryz.prog 133 #[.slice none 0 0, fv] W fun e w' => e = .returned (.int .i64 (-1)) ∧ Below W.heap.size W w' := by
  go_enter Tryz.func133, Tryz.ntmps133
  go_wp2
  go_loopw [8] (fun i wr => i = .int .i64 0 ∧ Below W.heap.size W wr) (fun i _ => 0)
  case atStart => exact ⟨rfl, Below.refl _ _⟩
  case round =>
    obtain ⟨rfl, br⟩ := hrel
    go_wp2
    go_ret
    exact ⟨rfl, br⟩
def keep (q : Pg → Bool) (l : List Pg) : List Pg := l.filter fun y => !q y
theorem zkk {q : Pg → Bool} {l : List Pg} {j : Nat} {y : Pg} (h : l[j]? = some y) : keep q (l.take (j + 1)) = if q y then keep q (l.take j) else keep q (l.take j) ++ [y] := by
  unfold keep
  rw [List.take_add_one, h, List.filter_append]
  show _ ++ [y].filter _ = _
  cases c : q y <;> simp [List.filter, c]
theorem zre (l : List Pg) : (flP l).length = l.length * 8 := by
  induction l with
  | nil => rfl
  | cons y l ih => show (y.vs ++ flP l).length = _; rw [List.length_append, ih]; show 8 + _ = (l.length + 1) * 8; omega
theorem zs1 : ∀ (l : List Pg) (j : Nat), flP (l.take j) = (flP l).take (j * 8)
  | [], j => by rw [List.take_nil]; show ([] : List Value) = List.take (j * 8) []; rw [List.take_nil]
  | y :: l, 0 => by rw [Nat.zero_mul, List.take_zero, List.take_zero]; rfl
  | y :: l, j + 1 => by
    show y.vs ++ flP (l.take j) = (y.vs ++ flP l).take ((j + 1) * 8)
    rw [zs1 l j, List.take_append, show (j + 1) * 8 - y.vs.length = j * 8 by show (j + 1) * 8 - 8 = _; omega, show List.take ((j + 1) * 8) y.vs = y.vs from List.take_of_length_le (by show 8 ≤ (j + 1) * 8; omega)]
theorem zxv (cu : Array Value) (o : Nat) (vs : List Value) (h : o + vs.length ≤ cu.size) (t : Nat) : (MemL.zdh cu o vs)[t]? = if t < o then cu[t]? else if t < o + vs.length then vs[t - o]? else cu[t]? := by
  rw [← Array.getElem?_toList, zce vs cu o h]
  have e9 : (cu.toList.take o).length = o := by rw [List.length_take, Array.length_toList]; omega
  by_cases h1 : t < o
  · rw [if_pos h1, List.append_assoc, List.getElem?_append_left (by rw [e9]; exact h1), List.getElem?_take_of_lt h1, Array.getElem?_toList]
  · rw [if_neg h1, List.append_assoc, List.getElem?_append_right (by rw [e9]; omega), e9]
    by_cases h2 : t < o + vs.length
    · rw [if_pos h2, List.getElem?_append_left (by omega)]
    · rw [if_neg h2, List.getElem?_append_right (by omega), List.getElem?_drop, Array.getElem?_toList, show o + vs.length + (t - o - vs.length) = t by omega]
structure DI (q : Pg → Bool) (l : List Pg) (n cap c j : Nat) (cu : Array Value) : Prop where
  sz : cu.size = cap * 8
  ct : c = (keep q (l.take j)).length
  lo : ∀ t, t < c * 8 → cu[t]? = (flP (keep q (l.take j)))[t]?
  hi : ∀ t, j * 8 ≤ t → t < n * 8 → cu[t]? = (flP l)[t]?
theorem DI.skip {q : Pg → Bool} {l : List Pg} {n cap c j : Nat} {cu : Array Value} (h : DI q l n cap c j cu) {y : Pg} (hy : l[j]? = some y) (hq : q y = true) : DI q l n cap c (j + 1) cu := by
  have hR : keep q (l.take (j + 1)) = keep q (l.take j) := by rw [zkk hy, hq, if_pos rfl]
  exact ⟨h.sz, by rw [hR]; exact h.ct, by rw [hR]; exact h.lo, fun t h1 h2 => h.hi t (by omega) h2⟩
theorem DI.keep {q : Pg → Bool} {l : List Pg} {n cap c j : Nat} {cu : Array Value} (h : DI q l n cap c j cu) {y : Pg} (hy : l[j]? = some y) (hq : q y = false) (hcj : c < j) (hj : j < n) (hn : n ≤ cap) : DI q l n cap (c + 1) (j + 1) (MemL.zdh cu (c * 8) y.vs) := by
  have hR : DelFC.keep q (l.take (j + 1)) = DelFC.keep q (l.take j) ++ [y] := by rw [zkk hy, hq, if_neg (by simp)]
  have hl8 : y.vs.length = 8 := rfl
  have hkl : (flP (DelFC.keep q (l.take j))).length = c * 8 := by rw [zre, ← h.ct]
  have hg := zxv cu (c * 8) y.vs (by rw [hl8, h.sz]; omega)
  rw [hl8] at hg
  refine ⟨by rw [zcc]; exact h.sz, by rw [hR, List.length_append, ← h.ct]; rfl, fun t ht => ?_, fun t h1 h2 => ?_⟩
  · rw [hg, hR, zmj]
    by_cases h1 : t < c * 8
    · rw [if_pos h1, List.getElem?_append_left (by rw [hkl]; exact h1)]
      exact h.lo t h1
    · rw [if_neg h1, if_pos (by omega), List.getElem?_append_right (by rw [hkl]; omega), hkl]
      show _ = (y.vs ++ [])[_]?
      rw [List.append_nil]
  · rw [hg, if_neg (by omega), if_neg (by omega)]
    exact h.hi t (by omega) h2
theorem zxw (q : Pg → Bool) : ∀ (l : List Pg) (i : Nat), (fI q l i = -1 ∧ keep q l = l) ∨ ∃ k y, l[k]? = some y ∧ fI q l i = ((i + k : Nat) : Int) ∧ keep q (l.take k) = l.take k ∧ q y = true
  | [], i => .inl ⟨rfl, rfl⟩
  | y :: l, i => by
    unfold fI
    cases c : q y with
    | true => exact .inr ⟨0, y, rfl, rfl, rfl, c⟩
    | false =>
      rcases zxw q l (i + 1) with ⟨h1, h2⟩ | ⟨k, z, h1, h2, h3, h4⟩
      · refine .inl ⟨h1, ?_⟩
        show (y :: l).filter _ = _
        rw [List.filter_cons, if_pos (by simp [c])]
        exact congrArg _ h2
      · refine .inr ⟨k + 1, z, by simpa using h1, ?_, ?_, h4⟩
        · show fI q l (i + 1) = _
          rw [h2]; congr 1; omega
        · show (y :: l.take k).filter _ = _
          rw [List.filter_cons, if_pos (by simp [c])]
          exact congrArg _ h3
set_option maxHeartbeats 8000000 in
set_option maxRecDepth 1000000 in
theorem zxx (base : Nat) (W : World) (hB : base ≤ W.heap.size) (k : FuncId) (lb : Array Value) (q : Pg → Bool) (hk : ∀ args w, (callFunc k args).run Tryz.prog w = .ok (.enter k args) w) (hq : z28 base W k lb q) (v : Value) (n : Nat) (l : List Pg) (hn : l.length = n)
    (hown : W.ownsRow base 94 8 v n (flP l)) :
    Calls Tryz.prog 59 #[v, .func (.func k) #[] lb] W fun e w' => ∃ v', e = .returned v' ∧ w'.ownsRow base 94 8 v' (keep q l).length (flP (keep q l)) ∧ Below base W w' := by
  have hown0 := hown
  obtain ⟨hl, hown⟩ := hown
  rcases hown with ⟨rfl, h0⟩ | ⟨g, cap, cur, rfl, hbg, hh, hnc, hmax, hsz, htk⟩
  · obtain rfl : n = 0 := h0
    obtain rfl := List.eq_nil_of_length_eq_zero hn
    go_enter Tryz.func59, Tryz.ntmps59
    go_wp2_with (go_at_call 133; refine (z29 _ _).mono ?_; rintro e w' ⟨rfl, b1⟩)
    go_ret
    exact ⟨_, rfl, ⟨rfl, .inl ⟨rfl, rfl⟩⟩, b1.mono hB⟩
  · have hgl : g < W.heap.size := Bx.lt ⟨_, hh⟩
    have hcur : ∀ t, t < n * 8 → cur[t]? = (flP l)[t]? := fun t ht => by rw [← htk, List.getElem?_take_of_lt ht, Array.getElem?_toList]
    have hidx := idx_calls base W hB k lb q hk hq g 0 n cap l hn (by unfold maxLen at hmax; omega) hgl (fun t ht => by rw [Nat.zero_add, Bx.cell ⟨_, hh⟩]; exact hcur t ht)
    rcases zxw q l 0 with ⟨e1, e2⟩ | ⟨k0, y0, e1, e2, e3, e4⟩
    · rw [e1] at hidx
      have HO := Lib.hid hown0
      have HE := Lib.hid e2
      have HN := Lib.hid hn
      clear hown0 e2 hh hsz htk hcur hl hn hq
      go_enter Tryz.func59, Tryz.ntmps59
      go_wp2_with (go_at_call 133; refine hidx.mono ?_; rintro e w' ⟨rfl, b1⟩)
      go_ret
      exact ⟨_, rfl, by rw [HE.out, HN.out]; exact PutC.zbx HO.out b1, b1.mono hB⟩
    · rw [e2, Nat.zero_add] at hidx
      have hk0 : k0 < n := by rw [← hn]; exact (List.getElem?_eq_some_iff.1 e1).1
      have hne1 : ((k0 : Int) == -1) = false := beq_eq_false_iff_ne.2 (by omega)
      have hs0 : keep q (l.take (k0 + 1)) = l.take k0 := by rw [zkk e1, e4, if_pos rfl, e3]
      unfold maxLen at hmax
      have HH := Lib.hid hh
      have HC := Lib.hid hcur
      have HZ := Lib.hid hsz
      have HN := Lib.hid hn
      have HQ := Lib.hid hq
      have HS := Lib.hid hs0
      clear hown0 hh hsz htk hcur hl hn hq e1 e2 e3 e4 hs0
      go_enter Tryz.func59, Tryz.ntmps59
      go_wp2_with (go_at_call 133; refine hidx.mono ?_; rintro e w0 ⟨rfl, b0⟩)
      go_loopw [5, 6, 7] (fun s5 s6 _ wr => ∃ (c j : Nat) (cu : Array Value), s5 = .int .i64 c ∧ s6 = .int .i64 j ∧ j ≤ n ∧ c < j ∧ Below base W wr ∧ Hid (wr.heap[g]? = some (.cells cu 94 (0, 0)) ∧ DI q l n cap c j cu)) (fun _ s6 _ _ => n - (intOf s6).toNat)
      case atStart =>
        have e5 : k0 = (keep q (l.take (k0 + 1))).length := by rw [HS.out, List.length_take, HN.out]; omega
        refine ⟨k0, k0 + 1, cur, rfl, by go_num, by omega, by omega, b0.mono hB, Lib.hid ⟨(b0.block g hgl).trans HH.out, HZ.out, e5, fun t ht => ?_, fun t _ h2 => HC.out t h2⟩⟩
        rw [HS.out, zs1, List.getElem?_take_of_lt ht]
        exact HC.out t (by omega)
      case round =>
        obtain ⟨c, j, cu, rfl, rfl, hj, hcj, br, HB⟩ := hrel
        by_cases hlt : j < n
        · obtain ⟨y, hy⟩ : ∃ y, l[j]? = some y := ⟨_, List.getElem?_eq_getElem (by rw [HN.out]; exact hlt)⟩
          have cl : ∀ t, t < 8 → wr.cell? ⟨g, j * 8 + t, none⟩ = y.vs[t]? := fun t ht => by rw [Bx.cell ⟨_, HB.out.1⟩, HB.out.2.hi _ (by omega) (by omega), zna l j t y hy ht]
          have r0 : wr.cell? ⟨g, j * 8, none⟩ = some (.int .u64 y.va) := cl 0 (by omega)
          have r1 : wr.cell? ⟨g, j * 8 + 1, none⟩ = some (.int .u64 y.pa) := cl 1 (by omega)
          have r2 : wr.cell? ⟨g, j * 8 + 2, none⟩ = some (.int .i64 y.lev) := cl 2 (by omega)
          have r3 : wr.cell? ⟨g, j * 8 + 3, none⟩ = some (.bool y.r) := cl 3 (by omega)
          have r4 : wr.cell? ⟨g, j * 8 + 4, none⟩ = some (.bool y.w) := cl 4 (by omega)
          have r5 : wr.cell? ⟨g, j * 8 + 5, none⟩ = some (.bool y.x) := cl 5 (by omega)
          have r6 : wr.cell? ⟨g, j * 8 + 6, none⟩ = some (.bool y.u) := cl 6 (by omega)
          have r7 : wr.cell? ⟨g, j * 8 + 7, none⟩ = some (.bool y.d) := cl 7 (by omega)
          have HY := Lib.hid hy
          clear cl hy
          have hjz : (j : Int) < (n : Int) := by omega
          have bB := Nat.le_trans hB br.size
          go_wp2_with fail
          refine (HQ.out _ y (br.alloc bB _)).mono ?_
          rintro e w2 ⟨rfl, b2⟩
          have x7 : Bx w2 wr.heap.size _ := Bx.below (Bx.new (w := wr)) b2
          have hx7 := Lib.hid x7
          have xg : w2.heap[g]? = some (.cells cu 94 (0, 0)) := by
            have hlt : g < wr.heap.size := Bx.lt ⟨_, HB.out.1⟩
            refine (b2.block g (by show g < (wr.heap.push _).size; rw [Array.size_push]; omega)).trans ?_
            show (wr.heap.push _)[g]? = _
            rw [Array.getElem?_push, if_neg (by omega)]; exact HB.out.1
          have b3 : Below base W w2 := (br.alloc bB _).trans (b2.mono (by show base ≤ (wr.heap.push _).size; rw [Array.size_push]; omega))
          have s0 : w2.cell? ⟨wr.heap.size, 0, none⟩ = some (.int .u64 y.va) := x7.cell 0
          have s1 : w2.cell? ⟨wr.heap.size, 1, none⟩ = some (.int .u64 y.pa) := x7.cell 1
          have s2 : w2.cell? ⟨wr.heap.size, 2, none⟩ = some (.int .i64 y.lev) := x7.cell 2
          have s3 : w2.cell? ⟨wr.heap.size, 3, none⟩ = some (.bool y.r) := x7.cell 3
          have s4 : w2.cell? ⟨wr.heap.size, 4, none⟩ = some (.bool y.w) := x7.cell 4
          have s5 : w2.cell? ⟨wr.heap.size, 5, none⟩ = some (.bool y.x) := x7.cell 5
          have s6 : w2.cell? ⟨wr.heap.size, 6, none⟩ = some (.bool y.u) := x7.cell 6
          have s7 : w2.cell? ⟨wr.heap.size, 7, none⟩ = some (.bool y.d) := x7.cell 7
          have XG := Lib.hid xg
          clear x7 xg r0 r1 r2 r3 r4 r5 r6 r7
          cases hb : q y with
          | true =>
            have HD := Lib.hid (HB.out.2.skip HY.out hb)
            clear hb
            go_wp2
            exact ⟨⟨c, j + 1, cu, rfl, by go_num, by omega, by omega, b3, Lib.hid ⟨XG.out, HD.out⟩⟩, by simp [intOf]; omega⟩
          | false =>
            have HD := Lib.hid (HB.out.2.keep HY.out hb hcj hlt hnc)
            have hcn : (c : Int) < (n : Int) := by omega
            clear hb
            have hth : w2.there g (c * 8) 8 := fun t ht => ⟨by rw [Bx.cell ⟨_, XG.out⟩, Array.getElem?_eq_getElem (by rw [HB.out.2.sz]; omega)]; rfl, Bx.free ⟨_, XG.out⟩ _⟩
            go_wp2_with (with_reducible refine zii w2 rfl rfl 94 (.tmp 33) (.tmp 32) rfl g (c * 8) #[.int .u64 y.va, .int .u64 y.pa, .int .i64 y.lev, .bool y.r, .bool y.w, .bool y.x, .bool y.u, .bool y.d] ?hs1 ?hs2 ?hs3 ?hs4 ?hs5 ?hs6)
            case hs1 => rfl
            case hs2 => rfl
            case hs3 => exact hth
            case hs4 => kernel_rfl
            case hs5 => kernel_rfl
            have hh2 := zbk (w := w2) y.vs (c * 8) w2 cu XG.out
            have bb := zcg hbg y.vs (c * 8) w2 b3
            exact ⟨⟨c + 1, j + 1, MemL.zdh cu (c * 8) y.vs, by go_num, by go_num, by omega, by omega, bb, Lib.hid ⟨hh2, HD.out⟩⟩, by simp [intOf]; omega⟩
        · have hjz : ¬ (j : Int) < (n : Int) := by omega
          obtain ⟨HG, HD⟩ := HB.out
          have HL : l.take j = l := List.take_of_length_le (by rw [HN.out]; omega)
          have hct := HD.ct
          have hlo := HD.lo
          rw [HL] at hct hlo
          have hsz := HD.sz
          have hicap : ¬ (cap = c) := by omega
          have hcn : c ≤ n := by omega
          have hcc : c ≤ cap := by omega
          have hcn2 : (c : Int) ≤ (n : Int) := by omega
          obtain ⟨zs, hzs⟩ : ∃ zs, zs = (Builtin.zeroCells (pgV ⟨0, 0, 0, false, false, false, false, false⟩).cells (n - c)).toList := ⟨_, rfl⟩
          have hzl : zs.length = (n - c) * 8 := by rw [hzs]; simp [Builtin.zeroCells, Value.cells, pgV]
          have hcl : ∀ ty, (Builtin.clear_ #[59] ty #[.slice (some ⟨g, c * 8, none⟩) (n - c) (cap - c)]).run Tryz.prog wr = .ok (.tuple #[]) (wr.setCells g (c * 8) zs) := fun ty => by
            rw [hzs]
            exact zgw wr _ 94 ty (pgV ⟨0, 0, 0, false, false, false, false, false⟩) 8 Tryz.underlying59 (fun _ => by kernel_rfl) rfl (by simp [Value.cells, Value.oneCell', pgV]) (by decide) g _ (n - c) _ (by omega)
              (fun t ht => by rw [Bx.cell ⟨_, HG⟩, Array.getElem?_eq_getElem (by rw [hsz]; omega)]; rfl) (fun t ht => Bx.free ⟨_, HG⟩ _)
          have hh2 := Lib.hid (zbk (w := wr) zs (c * 8) wr cu HG)
          have hb2 := Lib.hid (zcg hbg zs (c * 8) wr br)
          have hps : (MemL.zdh cu (c * 8) zs).size = cap * 8 := by rw [zcc]; exact hsz
          have htk : (MemL.zdh cu (c * 8) zs).toList.take (c * 8) = flP (keep q l) := by
            rw [zce zs cu (c * 8) (by rw [hzl, hsz]; omega), List.append_assoc, zgl (by rw [List.length_take, Array.length_toList, hsz]; omega)]
            refine List.ext_getElem? fun t => ?_
            by_cases ht : t < c * 8
            · rw [List.getElem?_take_of_lt ht, Array.getElem?_toList]; exact hlo t ht
            · rw [List.getElem?_eq_none (by rw [List.length_take]; omega), List.getElem?_eq_none (by rw [zre, ← hct]; omega)]
          have HT := Lib.hid htk
          have HP := Lib.hid hps
          have HCT := Lib.hid hct
          clear HG HD HL hct hlo hsz hzs hzl hps htk
          go_wp2
          go_ret
          refine ⟨_, rfl, ⟨by rw [zre], .inr ⟨g, cap, _, by rw [← HCT.out]; rfl, hbg, hh2.out, by rw [← HCT.out]; exact hcc, by unfold maxLen; omega, HP.out, by rw [← HCT.out]; exact HT.out⟩⟩, hb2.out⟩
end Go.Proofs.YtmkjfeamgknpfaaGreatDoor.DelFC
namespace Go.Proofs.YtmkjfeamgknpfaaGreatDoor.ClonePage
open Go.RowKit Bv Base MemL
theorem info : (Tryz.prog.info? 94).map (fun i => (i.zero, i.size, i.bytes)) = some (some (.agg #[.int .u64 0, .int .u64 0, .int .i64 0, .bool false, .bool false, .bool false, .bool false, .bool false]), 8, 32) := by kernel_rfl
set_option maxHeartbeats 2000000 in
theorem clone_calls (v : Value) (n : Nat) (xs : List Value) (W : World) (h1 : ∀ u ∈ xs, u.oneCell' = true) (hbig : n * 32 ≤ 140737488355328) (hv : Sl W v n 8 xs) :
    Calls Tryz.prog 60 #[v] W fun e w' => ∃ v', e = .returned v' ∧ w'.ownsRow W.heap.size 94 8 v' n xs ∧ Below W.heap.size W w' := by
  obtain ⟨hl, hv⟩ := hv
  have q : ∀ (w : World) (a : Option Addr) (n c n' c' : Nat), (binOp .eql 59 (.slice a n c) (.slice none n' c')).run Tryz.prog w = .ok (.bool a.isNone) w := fun w a n c n' c' => Lib.run_eql_slice_nil w _ _ a n c n' c' Tryz.underlying59
  rcases hv with ⟨rfl, rfl⟩ | ⟨b, o, cap, rfl, hb, hcap, hmax, hcell⟩
  · obtain rfl := List.eq_nil_of_length_eq_zero (by omega : xs.length = 0)
    go_enter Tryz.func60, Tryz.ntmps60
    go_wp2
    go_ret
    exact ⟨_, rfl, ⟨rfl, .inl ⟨rfl, rfl⟩⟩, Below.refl _ _⟩
  · obtain ⟨i0, hi, hz0, hz1, hz2⟩ := info_parts info
    have A := Lib.hid hcell
    have hl' := Lib.hid hl
    clear hcell hl
    go_enter Tryz.func60, Tryz.ntmps60
    go_wp2_with (at_builtin; refine wpList_append_own _ rfl _ _ 59 rfl W.heap.size 94 i0 (.agg #[.int .u64 0, .int .u64 0, .int .i64 0, .bool false, .bool false, .bool false, .bool false, .bool false]) 8 32 Tryz.underlying59 hi hz0 hz1 hz2 rfl (by decide) _ _ _ rfl (World.ownsRow_made W #[] 0 (Nat.le_refl _) (Nat.zero_le _) rfl) ⟨b, o, none⟩ n cap xs rfl ?qc1 ?qc2 ?qc3 ?qc4 ?qc5 ?qc6 ?_)
    case qc1 => exact hl'.out
    case qc2 =>
      intro j u hj
      have hjn : j < n * 8 := by
        have := (List.getElem?_eq_some_iff.1 hj).1
        have := hl'.out
        omega
      rw [Addr.add_lit]
      refine Lib.cell?_alloc_some _ ?_
      rw [A.out j hjn]; exact hj
    case qc3 => exact h1
    case qc4 => unfold maxLen at *; omega
    case qc5 => omega
    case qc6 => simp
    intro v' w1 hown hgrow hnil
    go_wp2
    go_ret
    refine ⟨v', rfl, by simpa using hown, ?_⟩
    exact ((Below.refl _ W).alloc (Nat.le_refl _) _).grown hgrow (by simp) (by intro k hk; simp [Value.ownBlock] at hk; omega)
end Go.Proofs.YtmkjfeamgknpfaaGreatDoor.ClonePage
namespace Go.Proofs.YtmkjfeamgknpfaaGreatDoor.LmF
open Go.RowKit Bv VaSpec Base MemL RegR Ax MemC PutC MemC3 TzC OkS SpA SpB SpC SpF SpH SpI SpJ LaA LaB LaC LaD LaE LaF LaG LiA LiB LiC LiD LiE LiF LmB DelFC
open BitsC PteSpec
set_option maxRecDepth 10000
set_option maxHeartbeats 1000000
theorem owns_le {w : World} {b b' e k n : Nat} {v : Value} {xs : List Value} (h : w.ownsRow b' e k v n xs) (hb : b ≤ b') : w.ownsRow b e k v n xs := by
  obtain ⟨h1, h2⟩ := h
  refine ⟨h1, ?_⟩
  rcases h2 with h2 | ⟨g, cap, cur, e1, h3, r⟩
  · exact .inl h2
  · exact .inr ⟨g, cap, cur, e1, Nat.le_trans hb h3, r⟩
theorem z6c {P : Program} {k : FuncId} (hk : zb3 P k = true) (args : Array Value) (w : World) : (callFunc k args).run P w = .ok (.enter k args) w := by
  unfold zb3 at hk
  split at hk
  · rename_i fn hf
    simp only [Bool.and_eq_true, Bool.not_eq_true'] at hk
    obtain ⟨h1, h2⟩ := hk
    have h2 : ¬ fn.name = "runtime.NumGoroutine" := by simpa using h2
    have h3 : ¬ fn.body = none := fun e => by rw [e] at h1; cases h1
    simp [callFunc, hf, h2, h3, mark]
  · cases hk
theorem zo5 (l : List Pg) (p : Pm) : keep (fun y => !zhh p (zuj y)) l = zbm l p := by
  unfold keep zbm
  congr 1
  funext y
  simp
theorem z3a (p : Pm) (base pb : Nat) (w1 : World) (hG : ∀ w, Below base w1 w → GG w) (hp : pb < base) (hc : ∀ w, Below base w1 w → pb < w.heap.size ∧ ∀ i, i < 4 → w.cell? ⟨pb, i, none⟩ = [Value.bool p.r, .bool p.w, .bool p.x, .bool p.u][i]?) :
    z28 base w1 61 #[.pointer (some ⟨pb, 0, none⟩)] (fun y => !zhh p (zuj y)) := fun w y hb => by
  obtain ⟨hlt, hcell⟩ := hc w hb
  have h := (zzz p y).2.2 (fun _ => True) w (#[pgV y] ++ #[.pointer (some ⟨pb, 0, none⟩)]) (hG w hb) (show All2 (Cm.R (en0 (fun _ => True) w)) [.ag [cu y.va, cu y.pa, ci y.lev, cb y.r, cb y.w, cb y.x, cb y.u, cb y.d], .c (.q [.bool p.r, .bool p.w, .bool p.x, .bool p.u])] [pgV y, .pointer (some ⟨pb, 0, none⟩)] from ⟨⟨#[_, _, _, _, _, _, _, _], rfl, rfl, rfl, rfl, rfl, rfl, rfl, rfl, rfl, trivial⟩, ⟨pb, 0, rfl, hlt, trivial, fun i hi => by rw [Nat.zero_add]; exact hcell i hi⟩, trivial⟩)
  refine h.mono ?_
  rintro e w' ⟨v, rfl, h1, h2⟩
  obtain rfl : v = .bool (!zhh p (zuj y)) := h2
  exact ⟨rfl, h1⟩
set_option maxHeartbeats 4000000 in
theorem zo6 (W : World) (v : Value) (l : List Pg) (p : Pm) (hG : GG W) (hl : l.length ≤ 134217728) (hv : Sl W v l.length 8 (flP l)) :
    Calls Tryz.prog 27 #[v, .agg #[.bool p.r, .bool p.w, .bool p.x, .bool p.u]] W fun e w' => ∃ v', e = .returned v' ∧ w'.ownsRow W.heap.size 94 8 v' (zbm l p).length (flP (zbm l p)) ∧ Below W.heap.size W w' := by
  have h1 : ∀ u ∈ flP l, u.oneCell' = true := fun u hu => by
    obtain ⟨y, _, hy⟩ := List.mem_flatMap.1 hu
    simp only [Pg.vs, List.mem_cons, List.not_mem_nil, or_false] at hy
    rcases hy with rfl | rfl | rfl | rfl | rfl | rfl | rfl | rfl <;> rfl
  have bA : Below W.heap.size W (W.alloc (.cells #[.bool p.r, .bool p.w, .bool p.x, .bool p.u] 52)) := (Below.refl _ W).alloc (Nat.le_refl _) _
  have hvA := hv.below bA
  have hxA : Bx (W.alloc (.cells #[.bool p.r, .bool p.w, .bool p.x, .bool p.u] 52)) W.heap.size #[.bool p.r, .bool p.w, .bool p.x, .bool p.u] := Bx.new
  have hsA : (W.alloc (.cells #[.bool p.r, .bool p.w, .bool p.x, .bool p.u] 52)).heap.size = W.heap.size + 1 := by show (W.heap.push _).size = _; rw [Array.size_push]
  have hcl := ClonePage.clone_calls v l.length (flP l) _ h1 (by omega) hvA
  have hkl := zo5 l p
  obtain ⟨W1, hW1⟩ : ∃ W1, W1 = W.alloc (.cells #[.bool p.r, .bool p.w, .bool p.x, .bool p.u] 52) := ⟨_, rfl⟩
  have HW := Lib.hid hW1
  have key : ∀ w1 v1, w1.ownsRow W1.heap.size 94 8 v1 l.length (flP l) → Below W1.heap.size W1 w1 → Calls Tryz.prog 59 #[v1, .func (.func 61) #[] #[.pointer (some ⟨W.heap.size, 0, none⟩)]] w1 fun e w' => ∃ v', e = .returned v' ∧ w'.ownsRow W1.heap.size 94 8 v' (zbm l p).length (flP (zbm l p)) ∧ Below W1.heap.size w1 w' := by
    intro w1 v1 ho hb
    have hB1 : ∀ w, Below W1.heap.size w1 w → Below W.heap.size W w := fun w hw => by
      have := hb.trans hw
      rw [hW1] at this
      exact bA.trans (this.mono (by rw [hsA]; omega))
    have := zxx W1.heap.size w1 hb.size 61 #[.pointer (some ⟨W.heap.size, 0, none⟩)] (fun y => !zhh p (zuj y)) (fun args w => z6c (by kernel_rfl) args w)
      (z3a p W1.heap.size W.heap.size w1 (fun w hw => GG.to _ _ hG (hB1 w hw)) (by rw [hW1, hsA]; omega) (fun w hw => by
        have hx : Bx w W.heap.size #[.bool p.r, .bool p.w, .bool p.x, .bool p.u] := by
          have h2 := hb.trans hw
          rw [hW1] at h2
          exact hxA.below h2
        exact ⟨hx.lt, fun i hi => by rw [hx.cell]; exact (Array.getElem?_toList ..).symm⟩)) v1 l.length l rfl ho
    rw [zo5] at this
    exact this
  rw [← hW1] at hcl hsA hvA hxA bA
  clear hW1
  go_enter Tryz.func27, Tryz.ntmps27
  go_wp2_with (first
    | (go_at_call 60; rw [← HW.out]; refine hcl.mono ?_; rintro e w1 ⟨v1, rfl, hown, b1⟩)
    | (go_at_call 59; refine (key _ _ hown b1).mono ?_; rintro e w2 ⟨v2, rfl, hown2, b2⟩))
  go_ret
  exact ⟨_, rfl, owns_le hown2 (by rw [hsA]; omega), bA.trans ((b1.trans b2).mono (by rw [hsA]; omega))⟩
theorem zhi (l : List Pg) (p : Pm) (hl : l.length ≤ 134217728) : Ok 27 [.c (.s l.length 8 (flP l)), .ag [cb p.r, cb p.w, cb p.x, cb p.u]] (.m (.c (.s (zbm l p).length 8 (flP (zbm l p))))) :=
  zcf rfl fun A W vs hG hR => by
    obtain ⟨v1, v2, rfl, h1, h2⟩ := zvu hR
    obtain ⟨vs2, rfl, h2⟩ := h2
    obtain ⟨l2⟩ := vs2
    match l2, h2 with
    | [a, b, c, d], ⟨e1, e2, e3, e4, _⟩ =>
      obtain rfl : a = .bool p.r := e1
      obtain rfl : b = .bool p.w := e2
      obtain rfl : c = .bool p.x := e3
      obtain rfl : d = .bool p.u := e4
      refine (zo6 W v1 l p hG hl h1.1).mono ?_
      rintro e w' ⟨v', rfl, h5, hb⟩
      exact ⟨_, rfl, hb, zvf h5⟩
end Go.Proofs.YtmkjfeamgknpfaaGreatDoor.LmF
