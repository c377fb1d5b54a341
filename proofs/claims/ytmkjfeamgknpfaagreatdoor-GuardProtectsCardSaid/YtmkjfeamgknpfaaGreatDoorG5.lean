/- Texts of this claim, one behind the other: RfJ, RfK, LaH, LiE, LiF, LjB, VaR3, RlA, RlB, RlC, LkA, LjC, AxZ, LjD, AxW, LjE, LkB. -/
import Derived.Test.YtmkjfeamgknpfaaGreatDoorG4
import Derived.Test.YtmkjfeamgknpfaaGreatDoorG3
import Derived.Defers
set_option linter.unusedVariables false
set_option linter.unusedSimpArgs false
set_option linter.unusedSectionVars false
namespace Go.Proofs.YtmkjfeamgknpfaaGreatDoor.RfJ
open Go.RowKit Bv VaSpec Base MemL RegR Ax MemC PutC MemC3 TzC OkS SpA SpB SpC SpD IterC SpE SpF SpG SpH SpI SpJ SpK SpN RfP RfQ RfE RfG
open BitsC PteSpec
def cnt (x : Int) : Nat := cs 64 (fun j => zhj x (j : Int))
theorem zqy {x i : Int} (hx : U x) (h0 : 0 ≤ i) (h1 : i < 64) (h : zhj x i = true) : cnt (zbr x i 1 0) + 1 = cnt x := by
  obtain ⟨n, rfl⟩ := Int.eq_ofNat_of_zero_le h0
  refine (z4v (i := n) ?_ h (fun j hj => ?_) 64 (by omega)).symm
  · rw [zgt hx h0 h1 h0 h1, if_pos rfl]; rfl
  · by_cases hj2 : j < 64
    · rw [zgt hx h0 h1 (by omega) (by omega), if_neg (by omega)]
    · rw [ze6 (by omega), ze6 (by omega)]
      rw [Int.toNat_natCast, BitVec.getLsbD_of_ge _ _ (by omega), BitVec.getLsbD_of_ge _ _ (by omega)]
theorem zh2 (x i j : Int) (hx : U x) (h0 : 0 ≤ i) (h1 : i < 64) (hj : 0 ≤ j) (hj1 : j < 64) : zhj (zbr x i 1 0) j = if j = i then false else zhj x j := by
  rw [zgt hx h0 h1 hj hj1]; rfl
theorem zix (n : Int) (j : Int) (hj : 0 ≤ j) (hj1 : j < 64) (h0 : 0 ≤ n) : zhj (zdw n) j = decide (j < n) := by
  rw [ze6 hj]
  unfold zdw zd8
  rw [X_B, ze1, show (0 : Int).toNat = 0 from rfl, Nat.zero_add, zr7 _ (by omega), Bool.and_true]
  by_cases h : j < n
  · rw [decide_eq_true h, decide_eq_true (by omega)]
  · rw [decide_eq_false h, decide_eq_false (by omega)]
theorem z4w {n : Int} (h0 : 1 ≤ n) (h : n ≤ 64) : tzI (zdw n) = 0 := by
  have l1 := zj4 (n := n) (by omega) h
  have l2 := zmq h0 h
  have u := zor n
  have t := zdc u l1.2 l2
  rcases (by omega : tzI (zdw n) = 0 ∨ 0 < tzI (zdw n)) with e | e
  · exact e
  · have := zj5 u l2 (Int.le_refl 0) e
    rw [zix n 0 (by omega) (by omega) (by omega), decide_eq_true (by omega)] at this
    cases this
def alv : List Sp → Nat
  | [] => 0
  | s :: l => (if s.live then 1 else 0) + alv l
theorem zqz : ∀ (l : List Sp) (s : Sp), s.live = true → alv (l ++ [s]) = alv l + 1
  | [], s, h => by simp [alv, h]
  | x :: l, s, h => by simp only [List.cons_append, alv]; rw [zqz l s h]; omega
theorem zw2 : ∀ (xs : List (Int × Int)) (k v : Int) (c : Int × Int), c ∈ xs → c.1 ≠ k → c ∈ zb7 xs k v
  | [], k, v, c, h, _ => by cases h
  | x :: xs, k, v, c, h, hk => by
    simp only [zb7]
    split
    · rcases List.mem_cons.1 h with rfl | h
      · simp
      · exact List.mem_cons_of_mem _ (zw2 xs k v c h hk)
    · split
      · rename_i hx
        rcases List.mem_cons.1 h with rfl | h
        · exact absurd hx hk
        · split
          · exact h
          · exact List.mem_cons_of_mem _ h
      · split
        · exact h
        · exact List.mem_cons_of_mem _ h
theorem zw3 : ∀ (xs : List (Int × Int)) (k v : Int), v ≠ 0 → (k, v) ∈ zb7 xs k v
  | [], k, v, h => by simp [zb7, h]
  | x :: xs, k, v, h => by
    simp only [zb7]
    split
    · exact List.mem_cons_of_mem _ (zw3 xs k v h)
    · split <;> simp [h]
structure Inv2 (k : Kr) : Prop where
  sh : k.sh = k.cd
  p0 : zhj k.pf 0 = false
  lv : ∀ s ∈ k.ss, s.live = true → s.root ≠ k.cd ∧ s.asid ≤ k.ca ∧ zhj k.pf (s.root - k.cd) = false ∧ zhj k.af (s.asid - 1) = false ∧ (s.root * 512 + 511, 33 + 1024 * k.sh) ∈ k.m
  ap : ∀ (i j : Nat) (s t : Sp), k.ss[i]? = some s → k.ss[j]? = some t → i ≠ j → s.live = true → t.live = true → s.root ≠ t.root ∧ s.asid ≠ t.asid
  cl : ∀ c ∈ k.m, ∃ s ∈ k.ss, s.live = true ∧ c = (s.root * 512 + 511, 33 + 1024 * k.sh)
  np : (cnt k.pf : Int) + 1 + alv k.ss = k.cp
  na : (cnt k.af : Int) + alv k.ss = k.ca
theorem zsh {a b c : Int} {n : Nat} (h : zge a b c n = true) : Inv2 (zug a b c n) := by
  obtain ⟨ha, hb, hc, hn⟩ := zde.1 h
  have tz := z4w (n := b) (by omega) (by omega)
  have e : (zug a b c n).pf = zbr (zdw b) 0 1 0 := by show zbr (zdw b) (tzI (zdw b)) 1 0 = _; rw [tz]
  have cb : cnt (zdw b) = b.toNat := by
    unfold cnt
    rw [zhf 64 _ (fun j => decide (j < b.toNat)) (fun j hj => by
      rw [zix b j (by omega) (by omega) (by omega)]
      by_cases h : (j : Int) < b
      · rw [decide_eq_true h, decide_eq_true (by omega)]
      · rw [decide_eq_false h, decide_eq_false (by omega)]), zzl 64 _ (by omega)]
  have cc : cnt (zdw c) = c.toNat := by
    unfold cnt
    rw [zhf 64 _ (fun j => decide (j < c.toNat)) (fun j hj => by
      rw [zix c j (by omega) (by omega) (by omega)]
      by_cases h : (j : Int) < c
      · rw [decide_eq_true h, decide_eq_true (by omega)]
      · rw [decide_eq_false h, decide_eq_false (by omega)]), zzl 64 _ (by omega)]
  have co := zqy (x := zdw b) (i := 0) (zor b) (by omega) (by omega) (by rw [zix b 0 (by omega) (by omega) (by omega), decide_eq_true (by omega)])
  refine ⟨by show a + tzI (zdw b) = a; rw [tz]; omega, ?_, fun s hs => (by cases hs), fun i j s t hs => (by simp [zug] at hs), fun c hc => (by cases hc), ?_, ?_⟩
  · rw [e, zh2 _ _ _ (zor b) (by omega) (by omega) (by omega) (by omega), if_pos rfl]
  · rw [e]
    show (cnt (zbr (zdw b) 0 1 0) : Int) + 1 + ((0 : Nat) : Int) = b
    omega
  · show (cnt (zdw c) : Int) + ((0 : Nat) : Int) = c
    omega
end Go.Proofs.YtmkjfeamgknpfaaGreatDoor.RfJ
namespace Go.Proofs.YtmkjfeamgknpfaaGreatDoor.RfK
open Go.RowKit Bv VaSpec Base MemL RegR Ax MemC PutC MemC3 TzC OkS SpA SpB SpC SpD IterC SpE SpF SpG SpH SpI SpJ SpK SpN RfP RfQ RfE RfG RfJ
open BitsC PteSpec
theorem zq0 {n : Nat} {k : Kr} (h : Inv n k) (g : Inv2 k) (ha : k.af ≠ 0) (hp : k.pf ≠ 0) : Inv2 (zbl k) := by
  have c1 := h.cp
  have c2 := h.ca
  have hcd := h.cd
  have hpb := h.pb
  have hsh := h.sh
  have t1 := zdc h.upf h.pf.2 hp
  have t2 := zdc h.uaf h.af.2 ha
  have low1 := zop h.upf hp
  have low2 := zop h.uaf ha
  have tn0 : tzI k.pf ≠ 0 := fun e => by rw [e, g.p0] at low1; cases low1
  have hne : ∀ s ∈ k.ss, s.live = true → s.root ≠ k.pb + tzI k.pf ∧ s.asid ≠ tzI k.af + 1 := fun s hs hl => by
    obtain ⟨_, _, b1, b2, _⟩ := g.lv s hs hl
    refine ⟨fun e => ?_, fun e => ?_⟩
    · rw [show s.root - k.cd = tzI k.pf by omega, low1] at b1; cases b1
    · rw [show s.asid - 1 = tzI k.af by omega, low2] at b2; cases b2
  have hwm : TableC.za4 k.m (k.pb + tzI k.pf) = k.m := by
    rw [zg9 _ _ h.m]
    refine List.filter_eq_self.2 fun c hc => ?_
    obtain ⟨s, hs, hl, rfl⟩ := g.cl c hc
    have := (hne s hs hl).1
    simp only [zkm, Bool.or_eq_true, decide_eq_true_eq]
    omega
  have hm : (zbl k).m = zb7 k.m (512 * (k.pb + tzI k.pf) + 511) (33 + 1024 * k.sh) := by
    show zpa k = _
    rw [zqw h hp, hwm]
  have hcells : ∀ s ∈ k.ss, s.live = true → (s.root * 512 + 511, 33 + 1024 * k.sh) ∈ (zbl k).m := fun s hs hl => by
    rw [hm]
    refine zw2 _ _ _ _ (g.lv s hs hl).2.2.2.2 ?_
    have := (hne s hs hl).1
    show s.root * 512 + 511 ≠ _; omega
  have hnew : (512 * (k.pb + tzI k.pf) + 511, 33 + 1024 * k.sh) ∈ (zbl k).m := by rw [hm]; exact zw3 _ _ _ (by omega)
  have hss : (zbl k).ss = k.ss ++ [⟨k.pb + tzI k.pf, tzI k.af + 1, true⟩] := rfl
  have epf : (zbl k).pf = zbr k.pf (tzI k.pf) 1 0 := rfl
  have eaf : (zbl k).af = zbr k.af (tzI k.af) 1 0 := rfl
  have n1 := zqy h.upf t1.1 (by omega) low1
  have n2 := zqy h.uaf t2.1 (by omega) low2
  refine ⟨g.sh, ?_, fun s hs hl => ?_, fun i j s t hs ht hij hl hl' => ?_, fun c hc => ?_, ?_, ?_⟩
  · rw [epf, zh2 _ _ _ h.upf t1.1 (by omega) (by omega) (by omega), if_neg (fun e => tn0 e.symm)]; exact g.p0
  · rw [hss] at hs
    rcases List.mem_append.1 hs with hs | hs
    · obtain ⟨a1, a2, a3, a4, a5⟩ := g.lv s hs hl
      obtain ⟨r1, r2⟩ := h.ss s hs hl
      refine ⟨a1, a2, ?_, ?_, hcells s hs hl⟩
      · show zhj (zbl k).pf (s.root - k.cd) = false
        rw [epf, zh2 _ _ _ h.upf t1.1 (by omega) (by omega) (by omega)]; split
        · rfl
        · exact a3
      · rw [eaf, zh2 _ _ _ h.uaf t2.1 (by omega) (by omega) (by omega)]; split
        · rfl
        · exact a4
    · rw [List.mem_singleton.1 hs]
      refine ⟨by show k.pb + tzI k.pf ≠ k.cd; omega, by show tzI k.af + 1 ≤ k.ca; omega, ?_, ?_, ?_⟩
      · show zhj (zbl k).pf (k.pb + tzI k.pf - k.cd) = false
        rw [show k.pb + tzI k.pf - k.cd = tzI k.pf by omega, epf, zh2 _ _ _ h.upf t1.1 (by omega) (by omega) (by omega), if_pos rfl]
      · show zhj (zbl k).af (tzI k.af + 1 - 1) = false
        rw [show tzI k.af + 1 - 1 = tzI k.af by omega, eaf, zh2 _ _ _ h.uaf t2.1 (by omega) (by omega) (by omega), if_pos rfl]
      · show ((k.pb + tzI k.pf) * 512 + 511, 33 + 1024 * k.sh) ∈ _
        rw [show (k.pb + tzI k.pf) * 512 + 511 = 512 * (k.pb + tzI k.pf) + 511 by omega]; exact hnew
  · rw [hss] at hs ht
    have look : ∀ (i : Nat) (s : Sp), (k.ss ++ [(⟨k.pb + tzI k.pf, tzI k.af + 1, true⟩ : Sp)])[i]? = some s → (i < k.ss.length ∧ k.ss[i]? = some s) ∨ (i = k.ss.length ∧ s = ⟨k.pb + tzI k.pf, tzI k.af + 1, true⟩) := fun i s hs => by
      by_cases hi : i < k.ss.length
      · rw [List.getElem?_append_left hi] at hs; exact .inl ⟨hi, hs⟩
      · rw [List.getElem?_append_right (by omega)] at hs
        obtain ⟨d, hd⟩ : ∃ d, d = i - k.ss.length := ⟨_, rfl⟩
        rw [← hd] at hs
        cases d with
        | zero => simp at hs; exact .inr ⟨by omega, hs.symm⟩
        | succ d => simp at hs
    rcases look i s hs with ⟨_, hs⟩ | ⟨ei, es⟩
    · rcases look j t ht with ⟨_, ht⟩ | ⟨ej, et⟩
      · exact g.ap i j s t hs ht hij hl hl'
      · rw [et]; exact hne s (List.mem_of_getElem? hs) hl
    · rcases look j t ht with ⟨_, ht⟩ | ⟨ej, et⟩
      · rw [es]
        have := hne t (List.mem_of_getElem? ht) hl'
        exact ⟨fun e => this.1 e.symm, fun e => this.2 e.symm⟩
      · omega
  · rw [hm] at hc
    rcases zc0 _ _ _ _ hc with hc | ⟨rfl, _⟩
    · obtain ⟨s, hs, hl, e⟩ := g.cl c hc
      exact ⟨s, by rw [hss]; exact List.mem_append_left _ hs, hl, e⟩
    · refine ⟨⟨k.pb + tzI k.pf, tzI k.af + 1, true⟩, by rw [hss]; simp, rfl, ?_⟩
      show (512 * (k.pb + tzI k.pf) + 511, _) = ((k.pb + tzI k.pf) * 512 + 511, _)
      rw [show 512 * (k.pb + tzI k.pf) + 511 = (k.pb + tzI k.pf) * 512 + 511 by omega]; rfl
  · have := g.np
    rw [epf, hss, zqz _ _ rfl]
    show _ = k.cp
    omega
  · have := g.na
    rw [eaf, hss, zqz _ _ rfl]
    show _ = k.ca
    omega
theorem ze7 {n : Nat} {k : Kr} (h : Inv n k) (g : Inv2 k) : Inv2 (zb6 k).1 := by
  unfold zb6
  by_cases c1 : 32 ≤ k.ss.length
  · rw [if_pos c1]; exact g
  rw [if_neg c1]
  by_cases c2 : k.af = 0
  · rw [if_pos c2]; exact g
  rw [if_neg c2]
  by_cases c3 : k.pf = 0
  · rw [if_pos c3]; exact g
  rw [if_neg c3]
  have := zq0 h g c2 c3
  split
  · exact { sh := this.sh, p0 := this.p0, lv := this.lv, ap := this.ap, cl := this.cl, np := this.np, na := this.na }
  · exact this
end Go.Proofs.YtmkjfeamgknpfaaGreatDoor.RfK
namespace Go.Proofs.YtmkjfeamgknpfaaGreatDoor.LaH
open Go.RowKit Bv VaSpec Base MemL RegR Ax MemC PutC MemC3 TzC OkS SpA SpB SpC SpD SpE SpF SpG SpH SpI SpJ SpK SpN SpO RfE RfJ RfK LaA LaB LaC LaD LaE LaF LaG
open BitsC PteSpec
set_option maxRecDepth 10000
set_option maxHeartbeats 1000000
theorem zw4 {n : Int} (h : 0 ≤ n ∧ n < 17592186044416) : za0 (33 + 1024 * n) = gP n := by
  have hm : zfe (gP n) = true := by rw [zcs]; unfold gP; simp; omega
  have hU : (gP n).U := by unfold Pte.U gP; simp; omega
  rw [← zw1 n h]
  unfold PteC.zbu
  rw [if_pos hm, zf1 _ hU hm]
theorem z4x {n : Nat} {k : Kr} (h : Inv n k) (g : Inv2 k) : InvL n k := by
  have b1 := h.cd
  have b2 := h.cp
  have hsh := h.sh
  have ash : Al k.cd k.cp k.pf k.sh := ⟨hsh, by rw [g.sh, show k.cd - k.cd = 0 by omega]; exact g.p0⟩
  have ass : ∀ s ∈ k.ss, s.live = true → Al k.cd k.cp k.pf s.root := fun s hs hl => ⟨(h.ss s hs hl).1, (g.lv s hs hl).2.2.1⟩
  refine { g := ⟨h.cd, h.cp, h.sz, h.pf, h.m, fun c hc => ?_⟩, cs := h.cs, pb := h.pb, pm := h.pm, sh := ash, ts := h.ts, ml := h.ml, fl := h.fl, sl := h.sl, ss := ass }
  obtain ⟨s, hs, hl, rfl⟩ := g.cl c hc
  refine ⟨?_, (h.mc _ hc).2.2.2, ?_⟩
  · show Al k.cd k.cp k.pf ((s.root * 512 + 511) / 512)
    rw [show (s.root * 512 + 511) / 512 = s.root by omega]
    exact ass s hs hl
  · show EOk k.cd k.cp k.pf (za0 (33 + 1024 * k.sh))
    rw [zw4 (by omega)]
    exact .inr ⟨rfl, ash⟩
noncomputable def bgK (a b c : Int) (n : Nat) : Kr := (zb6 (zb6 (zug a b c n)).1).1
theorem z4y {a b c : Int} {n : Nat} (h : zge a b c n = true) : Inv 0 (zug a b c n) ∧ Inv 1 (zb6 (zug a b c n)).1 ∧ InvL 2 (bgK a b c n) := by
  have h0 := zmr h
  have g0 := zsh h
  have h1 := zet h0
  have g1 := ze7 h0 g0
  exact ⟨h0, h1, z4x (zet h1) (ze7 h1 g1)⟩
def kr2 (m : List (Int × Int)) (pf af ao : Int) (ss : List Sp) : Kr := { cd := 4, cp := 8, ca := 2, cs := 1, sz := 49152, m := m, tn := 1, ts := zsL 1, sm := 0, sa := 0, sp := 0, priv := 0, su := false, mx := false, vic := -1, pb := 4, pm := 8, pf := pf, am := 2, af := af, ao := ao, ss := ss, now := -1, sh := 4, fs := [] }
def c0 : Kr := kr2 [] 254 3 0 []
def c1 : Kr := kr2 [(3071, 4129)] 252 2 1 [⟨5, 1, true⟩]
def c2 : Kr := kr2 [(3071, 4129), (3583, 4129)] 248 0 3 [⟨5, 1, true⟩, ⟨6, 2, true⟩]
def cA : Kr := kr2 [(2560, 7169), (3071, 4129), (3583, 4129), (3584, 8193), (4101, 1031)] 224 0 3 [⟨5, 1, true⟩, ⟨6, 2, true⟩]
theorem n0 : zug 4 8 2 1 = c0 := by kernel_rfl
theorem e1 : zb6 c0 = (c1, 0, 0) := by
  unfold zb6 zbl zpa
  rw [zoo]
  kernel_rfl
theorem e2 : zb6 c1 = (c2, 1, 0) := by
  unfold zb6 zbl zpa
  rw [zoo]
  kernel_rfl
theorem bg2 : bgK 4 8 2 1 = c2 := by
  unfold bgK
  rw [n0, e1, e2]
theorem i2 : InvL 2 c2 := by rw [← bg2]; exact (z4y (by decide)).2.2
def rw2 : Pm := ⟨true, true, false, false⟩
theorem mA : zpb c2 0 20480 4096 0 rw2 = (cA, 0) := by kernel_rfl
end Go.Proofs.YtmkjfeamgknpfaaGreatDoor.LaH
namespace Go.Proofs.YtmkjfeamgknpfaaGreatDoor.LiE
open Go.RowKit Bv VaSpec Base MemL RegR Ax MemC PutC MemC3 TzC OkS SpA SpB SpC SpD SpE SpF SpG SpH SpI SpJ SpN SpO RfP RfQ RfE RfJ LaA LaB LaC LaD LaE LaF LaG LaH LiA LiB LiC LiD
open BitsC PteSpec
set_option maxRecDepth 10000
set_option maxHeartbeats 1000000
structure InvT (n : Nat) (k : Kr) : Prop where
  l : InvL n k
  t : ∃ lv, TI k.cd k.cp k.sz k.m k.pf k.sh lv ∧ lv k.sh = 1 ∧ ∀ s ∈ k.ss, s.live = true → lv s.root = 2
theorem z4z {n l : Int} {p : Pm} {g : Bool} (hn : n % (VaSpec.sz l / 4096) = 0) (hp : zc2 p = true) : zc5 (mkP n p g) l = false := by
  obtain ⟨r, w, x, u⟩ := p
  revert hp
  unfold zc2 zc5 zbc mkP
  cases r <;> cases w <;> cases x <;> simp [hn]
section
variable {cd cp sz f sh : Int} {xs : List (Int × Int)} {lv : Int → Int}
theorem z2q (h : TI cd cp sz xs f sh lv) (h0 : f ≠ 0) {t i : Int} (ht : Al cd cp f t) (hsh : Al cd cp f sh) (hl : 1 ≤ lv t ∧ lv t ≤ 2) (hi : 0 ≤ i ∧ i < 512) (hn : zbc (atM sz xs t i) = false) :
    TI cd cp sz (zbf sz xs t i (lnk (cd + tzI f))) (zbr f (tzI f) 1 0) sh (upL lv (cd + tzI f) (lv t - 1)) := by
  obtain ⟨a0, a1, a2, a3⟩ := zdf h h0
  have b1 := h.bd
  have b2 := h.bp
  have hnn : 0 ≤ cd + tzI f ∧ cd + tzI f < 17592186044416 := by omega
  rw [h.gm.with ht hi (zgf hnn)]
  refine h.put ht.1 hi (zfb _ (zgf hnn)) a3 fun E' hE => ?_
  rw [zis hnn] at hE
  refine h.e.link a0 a1 ht hl hi hsh ?_ hE
  cases e : lkP (atM sz xs t i) with
  | false => rfl
  | true => rw [(zco e).1] at hn; cases hn
theorem z2r (addr zau : Int) (hw : 0 ≤ zau) : ∀ (l : Nat) (xs : List (Int × Int)) (f t : Int) (lv : Int → Int), TI cd cp sz xs f sh lv → Al cd cp f t → Al cd cp f sh → lv t = l → l ≤ 2 → zau ≤ (l : Int) →
    (dnN sz cd addr zau l xs f t).2.2.2 = 0 → ∃ lv', TI cd cp sz (dnN sz cd addr zau l xs f t).1 (dnN sz cd addr zau l xs f t).2.1 sh lv' ∧ lv' (dnN sz cd addr zau l xs f t).2.2.1 = zau ∧ Al cd cp (dnN sz cd addr zau l xs f t).2.1 (dnN sz cd addr zau l xs f t).2.2.1 ∧ ∀ s, Al cd cp f s → lv' s = lv s
  | 0, xs, f, t, lv, h, ht, _, hl, _, hwl, _ => ⟨lv, h, by show lv t = zau; omega, ht, fun s _ => rfl⟩
  | l + 1, xs, f, t, lv, h, ht, hsh, hl, h2, hwl, he => by
    have hi := idx_bd addr ((l + 1 : Nat) : Int)
    unfold dnN at he ⊢
    split
    · exact ⟨lv, h, by show lv t = zau; omega, ht, fun s _ => rfl⟩
    · rename_i c1
      rw [if_neg c1] at he
      split
      · rename_i c2; rw [if_pos c2] at he; cases he
      · rename_i c2
        rw [if_neg c2] at he
        have hk := h.e.k t _ hi
        split
        · rename_i c3
          rw [if_pos c3] at he
          rcases hk with e | ⟨_, _, ⟨e, _⟩ | ⟨e1, e2, e3, e4⟩⟩
          · rw [e] at c3; cases c3
          · exact absurd e c2
          · exact z2r addr zau hw l xs f _ lv h e4 hsh (by rw [e3, hl]; omega) (by omega) (by omega) he
        · rename_i c3
          rw [if_neg c3] at he
          split
          · rename_i c4; rw [if_pos c4] at he; cases he
          · rename_i c4
            rw [if_neg c4] at he
            obtain ⟨a0, a1, a2, a3⟩ := zdf h c4
            have hn : zbc (atM sz xs t (idx addr ((l + 1 : Nat) : Int))) = false := by
              unfold zbc
              rw [show (atM sz xs t (idx addr ((l + 1 : Nat) : Int))).v = false by simpa using c3]; rfl
            have hT := z2q h c4 ht hsh (by rw [hl]; omega) hi hn
            obtain ⟨lv', r1, r2, r3, r4⟩ := z2r addr zau hw l _ _ _ _ hT a1 (a0 _ hsh).1 (by rw [hl]; show upL lv (cd + tzI f) _ (cd + tzI f) = _; unfold upL; rw [if_pos rfl]; omega) (by omega) (by omega) he
            refine ⟨lv', r1, r2, r3, fun s hs => (r4 s (a0 s hs).1).trans ?_⟩
            exact if_neg (a0 s hs).2
end
theorem zfy {n : Nat} {k : Kr} {id a l : Int} (h : InvL n k) (he : (zas k id a l).2.2 = 0) : ((zas k id a l).1 = k.sh ∧ (zas k id a l).2.1 = 1 ∧ id = -1) ∨ (zbd k id = true ∧ id ≠ -1 ∧ (zas k id a l).1 = (zb5 k id).root ∧ (zas k id a l).2.1 = 2 ∧ idx a 2 ≠ 511) := by
  unfold zas at he ⊢
  by_cases c1 : 0 ≤ l ∧ l ≤ 2
  rotate_left
  · rw [if_pos c1] at he; cases he
  rw [if_neg (by simpa using c1)] at he ⊢
  by_cases c2 : id ≠ -1 ∧ zbd k id = false
  · rw [if_pos c2] at he; cases he
  rw [if_neg c2] at he ⊢
  by_cases c3 : zil a l = false
  · rw [if_pos c3] at he; cases he
  rw [if_neg c3] at he ⊢
  by_cases c4 : id = -1
  · rw [if_pos c4] at he ⊢
    by_cases c5 : idx a 2 = 511 ∧ l ≠ 2
    · rw [if_pos c5]; exact .inl ⟨rfl, rfl, c4⟩
    · rw [if_neg c5] at he; cases he
  · rw [if_neg c4] at he ⊢
    by_cases c5 : idx a 2 = 511
    · rw [if_pos c5] at he; cases he
    · rw [if_neg c5]
      have c6 : zbd k id = true := by
        cases e : zbd k id with
        | true => rfl
        | false => exact absurd ⟨c4, e⟩ c2
      exact .inr ⟨c6, c4, rfl, rfl, c5⟩
theorem zd5 {k : Kr} {id a l : Int} (he : (zas k id a l).2.2 = 0) : zil a l = true := by
  unfold zas at he
  split at he
  · cases he
  · split at he
    · cases he
    · split at he
      · cases he
      · rename_i c; simpa using c
theorem zkf {a l : Int} (h : zil a l = true) : VaSpec.base a l = a := by
  unfold zil off at h
  unfold VaSpec.base
  simp only [Bool.and_eq_true, beq_iff_eq] at h
  omega
theorem InvT.top {n : Nat} {k : Kr} {id a l : Int} (h : InvT n k) (he : (zas k id a l).2.2 = 0) {lv : Int → Int} (hs : lv k.sh = 1) (hr : ∀ s ∈ k.ss, s.live = true → lv s.root = 2) :
    lv (zas k id a l).1 = (zas k id a l).2.1 ∧ (2 ≤ (zas k id a l).2.1 → idx a 2 ≠ 511) := by
  rcases zfy h.l he with ⟨e1, e2, _⟩ | ⟨e1, _, e2, e3, e4⟩
  · rw [e1, e2]; exact ⟨hs, fun hh => by omega⟩
  · obtain ⟨h0, h1, h2, h3⟩ := zej e1
    rw [e2, e3]
    exact ⟨hr _ (List.mem_of_getElem? h2) h3, fun _ => e4⟩
theorem zzm {l : Int} (h : 0 ≤ l ∧ l ≤ 2) {pa : Int} (hp : pa % VaSpec.sz l = 0) : (pa / 4096) % (VaSpec.sz l / 4096) = 0 := by
  rcases (by omega : l = 0 ∨ l = 1 ∨ l = 2) with rfl | rfl | rfl
  · show (pa / 4096) % 1 = 0; omega
  · have hp : pa % 2097152 = 0 := hp
    show (pa / 4096) % 512 = 0; omega
  · have hp : pa % 1073741824 = 0 := hp
    show (pa / 4096) % 262144 = 0; omega
theorem zsi {n : Nat} {k : Kr} {id a pa l : Int} {p : Pm} (h : InvT n k) (hp : U pa) : InvT (n + 3) (zpb k id a pa l p).1 := by
  refine ⟨z2h h.l hp, ?_⟩
  obtain ⟨lv, hT, hs, hr⟩ := h.t
  unfold zpb
  split
  · exact ⟨lv, hT, hs, hr⟩
  · rename_i c0
    split
    · exact ⟨lv, hT, hs, hr⟩
    · rename_i c1
      split
      · exact ⟨lv, hT, hs, hr⟩
      · split
        · exact ⟨lv, hT, hs, hr⟩
        · rename_i c3
          split
          · exact ⟨lv, hT, hs, hr⟩
          · split
            · exact ⟨lv, hT, hs, hr⟩
            · rename_i c5
              obtain ⟨w1, w2, w3, w4⟩ := zbt (id := id) (a := a) (l := l) h.l (by omega)
              obtain ⟨z1, z2⟩ := h.top (id := id) (a := a) (l := l) (by omega) hs hr
              generalize zas k id a l = w at *
              have he : (zui k w.1 w.2.1 a l).2.2.2 = 0 := by omega
              obtain ⟨lv', r1, r2, r3, r4⟩ := z2r a l w1.1 w.2.1.toNat k.m k.pf w.1 lv hT w2 h.l.sh (by omega) (by omega) (by omega) he
              have hpm := zmy (p := p) (by omega)
              have hpn := zr9 (k := k) (l := l) hp (by have := h.l.g.bd; omega) (by omega)
              have hb := zit (n := pa / 4096) (p := p) (g := decide (id = -1)) hpn hpm
              have hzz : 0 < VaSpec.sz l := by rcases VaSpec.lev w1.1 w1.2 with rfl | rfl | rfl <;> decide
              have hmod : pa % VaSpec.sz l = 0 := by
                have e : lk0 pa l = 0 := by omega
                unfold lk0 zeq at e
                rw [if_neg (show ¬ VaSpec.sz l = 0 by omega)] at e
                split at e
                · rename_i c; simpa using c
                · cases e
              have hbad := z4z (g := decide (id = -1)) (zzm w1 hmod) hpm
              refine ⟨lv', ?_, (r4 _ h.l.sh).trans hs, fun s hs' hl => (r4 _ (h.l.ss s hs' hl)).trans (hr s hs' hl)⟩
              show TI k.cd k.cp k.sz (zbf k.sz (dnN k.sz k.cd a l w.2.1.toNat k.m k.pf w.1).1 (dnN k.sz k.cd a l w.2.1.toNat k.m k.pf w.1).2.2.1 (idx a l) (mkP (pa / 4096) p (decide (id = -1)))) (dnN k.sz k.cd a l w.2.1.toNat k.m k.pf w.1).2.1 k.sh lv'
              rw [r1.gm.with r3 (idx_bd a l) hb.2.1]
              refine r1.put r3.1 (idx_bd a l) (zfb _ hb.2.1) r1.bf fun E' hE => ?_
              rw [hb.1] at hE
              exact r1.e.leaf r3 (by rw [r2]; exact w1) hb.2.2 (by rw [r2]; exact hbad) hE
structure ToP (cd cp sz f sh addr zau top : Int) (l : Nat) (xs : List (Int × Int)) (lv : Int → Int) (n : Nat) (T : List (Int × Int) × Int × (Int × Int) × Int) (lv' : Int → Int) : Prop where
  t : TI cd cp sz T.1 T.2.1 sh lv'
  a : ∀ s, Al cd cp f s → Al cd cp T.2.1 s ∧ lv' s = lv s
  n : T.1.length ≤ xs.length + 513 * n
  r : zav sz T.1 addr zau l top = T.2.2.1
  p : ∃ l' : Nat, T.2.2.1.2 = (l' : Int) ∧ l' ≤ l ∧ zau ≤ (l' : Int) ∧ Al cd cp T.2.1 T.2.2.1.1 ∧ lv' T.2.2.1.1 = (l' : Int)
section
variable {cd cp sz sh : Int}
theorem zq1 (addr zau top : Int) (l : Nat) (hw : 0 ≤ zau) (hwl : zau ≤ (l : Int)) (hl2 : l ≤ 2) : ∀ (n : Nat) (xs : List (Int × Int)) (f : Int) (lv : Int → Int), TI cd cp sz xs f sh lv → Al cd cp f top → Al cd cp f sh → lv top = l →
    ∃ lv', ToP cd cp sz f sh addr zau top l xs lv n (toN sz cd addr zau top l n xs f) lv'
  | 0, xs, f, lv, h, ht, _, hl => by
    obtain ⟨l', t', i1, i2, i3, i4, i5, i6, _⟩ := zci h addr zau hw l top ht hl hwl
    exact ⟨lv, h, fun s hs => ⟨hs, rfl⟩, by show xs.length ≤ _; omega, rfl, l', by show (zav sz xs addr zau l top).2 = _; rw [i1], i2, i3, by show Al cd cp f (zav sz xs addr zau l top).1; rw [i1]; exact i4, by show lv (zav sz xs addr zau l top).1 = _; rw [i1]; exact i5⟩
  | n + 1, xs, f, lv, h, ht, hsh, hl => by
    obtain ⟨l', t', i1, i2, i3, i4, i5, i6, i7⟩ := zci h addr zau hw l top ht hl hwl
    have hstop : ∀ e, ToP cd cp sz f sh addr zau top l xs lv (n + 1) (xs, f, (t', (l' : Int)), e) lv := fun e => ⟨h, fun s hs => ⟨hs, rfl⟩, by show xs.length ≤ _; omega, i1, l', rfl, i2, i3, i4, i5⟩
    unfold toN
    rw [i1]
    split
    · exact ⟨lv, hstop 0⟩
    · rename_i c
      split
      · exact ⟨lv, hstop 8⟩
      · rename_i c4
        have c1 : ¬ (l' : Int) = zau := fun e => c (.inl e)
        obtain ⟨m, rfl⟩ : ∃ m : Nat, l' = m + 1 := ⟨l' - 1, by omega⟩
        have hlf : za2 (atM sz xs t' (idx addr ((m + 1 : Nat) : Int))) = true := by
          cases e : za2 (atM sz xs t' (idx addr ((m + 1 : Nat) : Int))) with
          | true => rfl
          | false => exact absurd (.inr e) c
        have hi := idx_bd addr ((m + 1 : Nat) : Int)
        have hbad : zc5 (atM sz xs t' (idx addr ((m + 1 : Nat) : Int))) ((m + 1 : Nat) : Int) = false := by
          rcases h.e.k t' _ hi with e | ⟨_, _, ⟨_, e⟩ | ⟨e, _⟩⟩
          · rw [e] at hlf; cases hlf
          · rw [i5] at e; exact e
          · rw [(zco e).2.2] at hlf; cases hlf
        obtain ⟨a0, a1, a2, a3⟩ := zdf h c4
        have hT := zot h c4 i4 hsh hi i5 (by omega) rfl hlf hbad
        obtain ⟨lv', P⟩ := zq1 addr zau top l hw hwl hl2 n _ _ _ hT (a0 _ ht).1 (a0 _ hsh).1 ((if_neg (a0 _ ht).2).trans hl)
        have hsl := zqp sz xs t' (idx addr ((m + 1 : Nat) : Int)) ((m + 1 : Nat) : Int) (atM sz xs t' (idx addr ((m + 1 : Nat) : Int))) (cd + tzI f)
        have hPn := P.n
        refine ⟨lv', P.t, fun s hs => ⟨(P.a s (a0 s hs).1).1, (P.a s (a0 s hs).1).2.trans (if_neg (a0 s hs).2)⟩, ?_, P.r, P.p⟩
        exact Nat.le_trans hPn (by omega)
theorem z0m (addr zau top : Int) (l : Nat) (hw : 0 ≤ zau) (hwl : zau ≤ (l : Int)) (hl2 : l ≤ 2) : ∀ (n : Nat) (xs : List (Int × Int)) (f : Int) (lv : Int → Int), TI cd cp sz xs f sh lv → Al cd cp f top → Al cd cp f sh → lv top = l →
    (zav sz xs addr zau l top).2 ≤ zau + n → ((zav sz xs addr zau l top).2 = zau ∨ za2 (atM sz xs (zav sz xs addr zau l top).1 (idx addr (zav sz xs addr zau l top).2)) = true) →
    (toN sz cd addr zau top l n xs f).2.2.2 = 0 → (toN sz cd addr zau top l n xs f).2.2.1.2 = zau
  | 0, xs, f, lv, h, ht, _, hl, hb, _, _ => by
    obtain ⟨l', t', i1, i2, i3, i4, i5, i6, _⟩ := zci h addr zau hw l top ht hl hwl
    show (zav sz xs addr zau l top).2 = zau
    rw [i1] at hb ⊢
    show (l' : Int) = zau
    have : (l' : Int) ≤ zau + (0 : Nat) := hb
    omega
  | n + 1, xs, f, lv, h, ht, hsh, hl, hb, hor, he => by
    obtain ⟨l', t', i1, i2, i3, i4, i5, i6, i7⟩ := zci h addr zau hw l top ht hl hwl
    rw [i1] at hb hor
    unfold toN at he ⊢
    rw [i1] at he ⊢
    by_cases c1 : (l' : Int) = zau
    · rw [if_pos (.inl c1)]; exact c1
    · have hlf : za2 (atM sz xs t' (idx addr (l' : Int))) = true := hor.resolve_left c1
      obtain ⟨m, rfl⟩ : ∃ m : Nat, l' = m + 1 := ⟨l' - 1, by omega⟩
      have hc : ¬ ((t', ((m + 1 : Nat) : Int)).2 = zau ∨ za2 (atM sz xs (t', ((m + 1 : Nat) : Int)).1 (idx addr (t', ((m + 1 : Nat) : Int)).2)) = false) := by
        rintro (e | e)
        · exact c1 e
        · have e : za2 (atM sz xs t' (idx addr ((m + 1 : Nat) : Int))) = false := e
          rw [hlf] at e; cases e
      rw [if_neg hc] at he ⊢
      by_cases c4 : f = 0
      · rw [if_pos c4] at he; cases he
      · rw [if_neg c4] at he ⊢
        have hi := idx_bd addr ((m + 1 : Nat) : Int)
        have hbad : zc5 (atM sz xs t' (idx addr ((m + 1 : Nat) : Int))) ((m + 1 : Nat) : Int) = false := by
          rcases h.e.k t' _ hi with e | ⟨_, _, ⟨_, e⟩ | ⟨e, _⟩⟩
          · rw [e] at hlf; cases hlf
          · rw [i5] at e; exact e
          · rw [(zco e).2.2] at hlf; cases hlf
        obtain ⟨a0, a1, a2, a3⟩ := zdf h c4
        have hT := zot h c4 i4 hsh hi i5 (by omega) rfl hlf hbad
        obtain ⟨s1, s2⟩ := zha h c4 addr zau hw i4 i5 (by omega) (by omega) hlf hbad
        have hre := (i7 _ s1).trans s2
        have hat := zsb h c4 i4 hi (l := ((m + 1 : Nat) : Int)) (by omega) rfl hlf hbad (cd + tzI f) (idx addr (m : Int)) (idx_bd addr _)
        rw [if_neg (by rintro ⟨e, _⟩; exact (a0 _ i4).2 e.symm), if_pos rfl] at hat
        refine z0m addr zau top l hw hwl hl2 n _ _ _ hT (a0 _ ht).1 (a0 _ hsh).1 ((if_neg (a0 _ ht).2).trans hl) ?_ ?_ he
        · have hb : ((m + 1 : Nat) : Int) ≤ zau + ((n + 1 : Nat) : Int) := hb
          show (zav sz (zga sz xs t' (idx addr ((m + 1 : Nat) : Int)) ((m + 1 : Nat) : Int) (atM sz xs t' (idx addr ((m + 1 : Nat) : Int))) (cd + tzI f)) addr zau l top).2 ≤ zau + (n : Int)
          rw [hre]
          show (m : Int) ≤ zau + n
          omega
        · refine .inr ?_
          show za2 (atM sz (zga sz xs t' (idx addr ((m + 1 : Nat) : Int)) ((m + 1 : Nat) : Int) (atM sz xs t' (idx addr ((m + 1 : Nat) : Int))) (cd + tzI f)) (zav sz (zga sz xs t' (idx addr ((m + 1 : Nat) : Int)) ((m + 1 : Nat) : Int) (atM sz xs t' (idx addr ((m + 1 : Nat) : Int))) (cd + tzI f)) addr zau l top).1 (idx addr (zav sz (zga sz xs t' (idx addr ((m + 1 : Nat) : Int)) ((m + 1 : Nat) : Int) (atM sz xs t' (idx addr ((m + 1 : Nat) : Int))) (cd + tzI f)) addr zau l top).2)) = true
          rw [hre]
          show za2 (atM sz (zga sz xs t' (idx addr ((m + 1 : Nat) : Int)) ((m + 1 : Nat) : Int) (atM sz xs t' (idx addr ((m + 1 : Nat) : Int))) (cd + tzI f)) (cd + tzI f) (idx addr (m : Int))) = true
          rw [hat]; exact hlf
end
def zax (sz : Int) (xs : List (Int × Int)) (l : Int) (q : Pte) (b : Int) : List Pg := if za2 q then [⟨b, q.ppn * 4096, l, q.r, q.w, q.x, q.u, q.d⟩] else if zbc q then zbg sz xs (l - 1).toNat q.ppn b else []
def inR (k : Kr) (id a l : Int) : List Pg :=
  if (zas k id a l).2.2 ≠ 0 then [] else
  zax k.sz k.m (zbs k.sz k.m a l (zas k id a l).2.1 (zas k id a l).1).2 (atM k.sz k.m (zbs k.sz k.m a l (zas k id a l).2.1 (zas k id a l).1).1 (idx a (zbs k.sz k.m a l (zas k id a l).2.1 (zas k id a l).1).2)) (VaSpec.base a (zbs k.sz k.m a l (zas k id a l).2.1 (zas k id a l).1).2)
def zbq (id n : Int) (p : Pg) : Fe := if id = -1 then ⟨true, p.va, false, 0⟩ else ⟨true, p.va, true, n⟩
def zub (id n : Int) : Fe := if id = -1 then ⟨false, 0, false, 0⟩ else ⟨false, 0, true, n⟩
def zdp (k : Kr) (id : Int) (l : List Pg) : List Fe := if 16 < l.length then [zub id (zb5 k id).asid] else l.map (zbq id (zb5 k id).asid)
theorem zgb (k : Kr) (id : Int) (l : List Pg) : (zdp k id l).length ≤ 16 := by
  unfold zdp
  split
  · simp
  · rw [List.length_map]; omega
def zev (sz cd cp : Int) (T : List (Int × Int) × Int × (Int × Int) × Int) (a : Int) : List (Int × Int) × Int :=
  if zbc (atM sz T.1 T.2.2.1.1 (idx a T.2.2.1.2)) then bkN cd cp (frN sz T.1 (T.2.2.1.2 - 1).toNat (atM sz T.1 T.2.2.1.1 (idx a T.2.2.1.2)).ppn) (T.1, T.2.1) else (T.1, T.2.1)
def unM (k : Kr) (T : List (Int × Int) × Int × (Int × Int) × Int) (top at' a : Int) : List (Int × Int) × Int :=
  prN k.sz k.cd k.cp a at'.toNat top (zbf k.sz (zev k.sz k.cd k.cp T a).1 T.2.2.1.1 (idx a T.2.2.1.2) zP, (zev k.sz k.cd k.cp T a).2)
def unT (k : Kr) (top at' a l : Int) : List (Int × Int) × Int × (Int × Int) × Int := toN k.sz k.cd a l top at'.toNat at'.toNat k.m k.pf
def unK (k : Kr) (id top at' a l : Int) (T : List (Int × Int) × Int × (Int × Int) × Int) : Kr := zda { k with m := (unM k T top at' a).1, pf := (unM k T top at' a).2 } (zdp k id (zax k.sz T.1 T.2.2.1.2 (atM k.sz T.1 T.2.2.1.1 (idx a T.2.2.1.2)) (VaSpec.base a T.2.2.1.2)))
def unR (k : Kr) (id a l : Int) : Kr × Int :=
  if (zas k id a l).2.2 ≠ 0 then (k, (zas k id a l).2.2)
  else if (inR k id a l).length = 0 then (k, 7)
  else if (unT k (zas k id a l).1 (zas k id a l).2.1 a l).2.2.2 ≠ 0 then (k, (unT k (zas k id a l).1 (zas k id a l).2.1 a l).2.2.2)
  else (unK k id (zas k id a l).1 (zas k id a l).2.1 a l (unT k (zas k id a l).1 (zas k id a l).2.1 a l), 0)
section
variable {cd cp sz f sh : Int} {xs : List (Int × Int)} {lv : Int → Int}
theorem z0n (cd cp : Int) : ∀ (l : List Int) (p : List (Int × Int) × Int), (bkN cd cp l p).1.length ≤ p.1.length
  | [], p => Nat.le_refl _
  | g :: l, p => Nat.le_trans (z0n cd cp l _) (zdb _ _)
theorem zw5 (h : TI cd cp sz xs f sh lv) (hsh : Al cd cp f sh) {t a e : Int} {l' : Nat} (ht : Al cd cp f t) (hlv : lv t = (l' : Int)) (hl2 : l' ≤ 2) (hH : l' = 2 → idx a 2 ≠ 511) :
    TI cd cp sz (zbf sz (zev sz cd cp (xs, f, (t, (l' : Int)), e) a).1 t (idx a (l' : Int)) zP) (zev sz cd cp (xs, f, (t, (l' : Int)), e) a).2 sh lv ∧
    (∀ s, Al cd cp f s → (s = sh ∨ (l' : Int) ≤ lv s) → Al cd cp (zev sz cd cp (xs, f, (t, (l' : Int)), e) a).2 s) ∧ (zbf sz (zev sz cd cp (xs, f, (t, (l' : Int)), e) a).1 t (idx a (l' : Int)) zP).length ≤ xs.length ∧ Srt (zev sz cd cp (xs, f, (t, (l' : Int)), e) a).1 ∧ (zev sz cd cp (xs, f, (t, (l' : Int)), e) a).1.length ≤ xs.length := by
  have hi := idx_bd a (l' : Int)
  have b1 := h.bd
  have bt := ht.1
  have hz : ∀ ys : List (Int × Int), zbf sz ys t (idx a (l' : Int)) zP = zb7 ys (t * 512 + idx a (l' : Int)) 0 := fun ys => by
    rw [zdd zx5 (by omega) hi (by rw [h.bz]; omega), zwg]
  have hlen : ∀ ys : List (Int × Int), Srt ys → (zb7 ys (t * 512 + idx a (l' : Int)) 0).length ≤ ys.length := fun ys hs => by rw [zg8 _ _ hs]; exact List.length_filter_le ..
  by_cases c : zbc (atM sz xs t (idx a (l' : Int))) = true
  · have hq : lkP (atM sz xs t (idx a (l' : Int))) = true := by
      rcases h.e.k t _ hi with e | ⟨_, _, ⟨e, _⟩ | ⟨e, _⟩⟩
      · rw [e] at c; cases c
      · rw [(zb2 e).1] at c; cases c
      · exact e
    obtain ⟨k1, k2, k3, k4⟩ := zig h hi hq
    obtain ⟨m, rfl⟩ : ∃ m : Nat, l' = m + 1 := ⟨l' - 1, by omega⟩
    have e1 : zev sz cd cp (xs, f, (t, ((m + 1 : Nat) : Int)), e) a = bkN cd cp (frN sz xs m (atM sz xs t (idx a ((m + 1 : Nat) : Int))).ppn) (xs, f) := by
      unfold zev
      show (if zbc (atM sz xs t (idx a ((m + 1 : Nat) : Int))) = true then bkN cd cp (frN sz xs (((m + 1 : Nat) : Int) - 1).toNat (atM sz xs t (idx a ((m + 1 : Nat) : Int))).ppn) (xs, f) else (xs, f)) = _
      rw [if_pos c, show (((m + 1 : Nat) : Int) - 1).toNat = m by omega]
    rw [e1, hz]
    obtain ⟨r1, r2⟩ := z2i h ht hlv hl2 hi (fun hh => by
      have e2 : m + 1 = 2 := hh.1
      have e3 := hh.2
      rw [show ((m + 1 : Nat) : Int) = 2 by omega] at e3
      exact hH e2 e3) hq
    have hbl := z0n cd cp (frN sz xs m (atM sz xs t (idx a ((m + 1 : Nat) : Int))).ppn) (xs, f)
    have hbs := (zhb cd cp sz h.bp (frN sz xs m (atM sz xs t (idx a ((m + 1 : Nat) : Int))).ppn) (xs, f) h.s h.bf).s
    exact ⟨r1, fun s hs hk => r2 s hs (by omega), Nat.le_trans (hlen _ hbs) hbl, hbs, hbl⟩
  · have e1 : zev sz cd cp (xs, f, (t, (l' : Int)), e) a = (xs, f) := by
      unfold zev
      exact if_neg c
    rw [e1, hz]
    refine ⟨h.put bt hi ⟨by omega, by omega⟩ h.bf fun E' hE => h.e.sub fun s j hj => ?_, fun s hs _ => hs, hlen _ h.s, h.s, Nat.le_refl _⟩
    rw [hE s j hj, zuh]
    split
    · exact .inl rfl
    · exact .inr rfl
end
theorem z40 {n : Nat} {k : Kr} {id a l : Int} (h : InvT n k) : InvT (n + 1100) (unR k id a l).1 := by
  have hm : InvT (n + 1100) k := ⟨{ h.l with ml := by have := h.l.ml; omega, fl := by have := h.l.fl; omega }, h.t⟩
  unfold unR
  split
  · exact hm
  · rename_i c0
    split
    · exact hm
    · split
      · exact hm
      · rename_i c5
        obtain ⟨lv, hT, hs, hr⟩ := h.t
        obtain ⟨w1, w2, w3, w4⟩ := zbt (id := id) (a := a) (l := l) h.l (by omega)
        obtain ⟨z1, z2⟩ := h.top (a := a) (id := id) (l := l) (by omega) hs hr
        generalize zas k id a l = w at *
        obtain ⟨lv', P⟩ := zq1 a l w.1 w.2.1.toNat w1.1 (by omega) (by omega) w.2.1.toNat k.m k.pf lv hT w2 h.l.sh (by omega)
        show InvT (n + 1100) (unK k id w.1 w.2.1 a l (unT k w.1 w.2.1 a l))
        have P : ToP k.cd k.cp k.sz k.pf k.sh a l w.1 w.2.1.toNat k.m lv w.2.1.toNat (unT k w.1 w.2.1 a l) lv' := P
        generalize unT k w.1 w.2.1 a l = T at *
        obtain ⟨xs, f, ⟨t, lt⟩, e⟩ := T
        obtain ⟨l', e1, e2, e3, e4, e5⟩ := P.p
        have e1 : lt = (l' : Int) := e1
        subst e1
        have e4 : Al k.cd k.cp f t := e4
        have e5 : lv' t = (l' : Int) := e5
        have hPt : TI k.cd k.cp k.sz xs f k.sh lv' := P.t
        have ash := P.a _ h.l.sh
        have atop := P.a _ w2
        obtain ⟨c1, c2, c3, _, _⟩ := zw5 (a := a) (e := e) hPt ash.1 e4 e5 (by omega) (fun hh => z2 (by omega))
        have hlt : lv' w.1 = w.2.1 := atop.2.trans z1
        have atop2 := c2 _ atop.1 (.inr (by rw [hlt]; omega))
        have ash2 := c2 _ ash.1 (.inl rfl)
        have Q := zhc a c1 w.2.1.toNat w.1 (by omega) atop2 (by rw [hlt]; omega) (fun hh => z2 (by omega))
        have hroot : ∀ s ∈ k.ss, s.live = true → lv' s.root = 2 ∧ Al k.cd k.cp (unM k (xs, f, (t, (l' : Int)), e) w.1 w.2.1 a).2 s.root := fun s hs' hl => by
          have a1 := P.a _ (h.l.ss s hs' hl)
          have a2 : lv' s.root = 2 := a1.2.trans (hr s hs' hl)
          have a3 := c2 _ a1.1 (.inr (by rw [a2]; omega))
          exact ⟨a2, Q.a _ a3 (.inr (by rw [a2]; omega))⟩
        have hTI : TI k.cd k.cp k.sz (unM k (xs, f, (t, (l' : Int)), e) w.1 w.2.1 a).1 (unM k (xs, f, (t, (l' : Int)), e) w.1 w.2.1 a).2 k.sh lv' := Q.t
        have hPn : xs.length ≤ k.m.length + 513 * w.2.1.toNat := P.n
        have hml := h.l.ml
        have hfl := h.l.fl
        have hlen : (unM k (xs, f, (t, (l' : Int)), e) w.1 w.2.1 a).1.length ≤ n + 1100 := by
          have : (unM k (xs, f, (t, (l' : Int)), e) w.1 w.2.1 a).1.length ≤ (zbf k.sz (zev k.sz k.cd k.cp (xs, f, (t, (l' : Int)), e) a).1 t (idx a (l' : Int)) zP).length := Q.n
          omega
        refine ⟨{ g := hTI.gm, cs := h.l.cs, pb := h.l.pb, pm := h.l.pm, sh := Q.a _ ash2 (.inl rfl), ts := h.l.ts, ml := hlen, fl := ?_, sl := h.l.sl, ss := fun s hs' hl => (hroot s hs' hl).2 }, lv', hTI, ash.2.trans hs, fun s hs' hl => (hroot s hs' hl).1⟩
        have := zgb k id (zax k.sz xs (l' : Int) (atM k.sz xs t (idx a (l' : Int))) (VaSpec.base a (l' : Int)))
        show (k.fs ++ zdp k id (zax k.sz xs (l' : Int) (atM k.sz xs t (idx a (l' : Int))) (VaSpec.base a (l' : Int)))).length ≤ n + 1100
        rw [List.length_append]; omega
end Go.Proofs.YtmkjfeamgknpfaaGreatDoor.LiE
namespace Go.Proofs.YtmkjfeamgknpfaaGreatDoor.LiF
open Go.RowKit Bv VaSpec Base MemL RegR Ax MemC PutC MemC3 TzC OkS SpA SpB SpC SpD SpE SpF SpG SpH SpI SpJ SpN SpO RfP RfQ RfE RfJ RfK LaA LaB LaC LaD LaE LaF LaG LaH LiA LiB LiC LiD LiE
open BitsC PteSpec
set_option maxRecDepth 10000
set_option maxHeartbeats 1000000
theorem z51 {n : Nat} {k : Kr} (h : Inv n k) (g : Inv2 k) : InvT n k := by
  have hl := z4x h g
  refine ⟨hl, fun s => if s = k.sh then 1 else 2, ⟨h.cd, h.cp, h.sz, h.pf, h.m, fun c hc => ?_, ?_⟩, if_pos rfl, fun s hs hv => ?_⟩
  · obtain ⟨s, hs, hv, rfl⟩ := g.cl c hc
    have hr := (h.ss s hs hv).1
    have hsh := h.sh
    have := h.cd
    have hu := (h.mc _ hc).2.2.2
    exact ⟨⟨by show k.cd * 512 ≤ s.root * 512 + 511; omega, by show s.root * 512 + 511 < (k.cd + k.cp) * 512; omega⟩, hu, by show 33 + 1024 * k.sh ≠ 0; omega⟩
  · have key : ∀ s i, (0 ≤ i ∧ i < 512) → atM k.sz k.m s i = zP ∨ (i = 511 ∧ s ≠ k.sh ∧ Al k.cd k.cp k.pf s ∧ atM k.sz k.m s i = gP k.sh) := fun s i hi => by
      unfold atM zb1
      split
      · rcases zwn (xs := k.m) (k := (s * 4096 + i * 8) / 8) with e | ⟨c, hc, e1, e2⟩
        · rw [e]; exact .inl zuh
        · obtain ⟨p, hp, hv, rfl⟩ := g.cl c hc
          have e1 : p.root * 512 + 511 = (s * 4096 + i * 8) / 8 := e1
          have hsh := h.sh
          have hcd := h.cd
          have hcp := h.cp
          have e3 : p.root = s := by omega
          rw [e2, show (33 + 1024 * k.sh : Int) = 33 + 1024 * k.sh from rfl, zw4 (by omega)]
          exact .inr ⟨by omega, by rw [← e3, g.sh]; exact (g.lv p hp hv).1, by rw [← e3]; exact hl.ss p hp hv, rfl⟩
      · exact .inl zuh
    refine ⟨fun s i hi => ?_, fun s i t j hi hj h1 h2 h3 h4 => ?_, fun s i hi h1 h2 => ?_⟩
    · rcases key s i hi with e | ⟨_, a, b, c⟩
      · exact .inl e
      · rw [c]
        refine .inr ⟨b, by dsimp only; rw [if_neg a]; omega, .inr ⟨rfl, by dsimp only; rw [if_neg a]; omega, ?_, hl.sh⟩⟩
        show (if k.sh = k.sh then (1 : Int) else 2) = (if s = k.sh then (1 : Int) else 2) - 1
        rw [if_pos rfl, if_neg a]; rfl
    · rcases key s i hi with e | ⟨_, _, _, c⟩
      · rw [e] at h1; cases h1
      · rw [c] at h4; exact absurd rfl h4
    · rcases key s i hi with e | ⟨a, b, _, c⟩
      · rw [e] at h1; cases h1
      · exact ⟨a, if_neg b⟩
  · have := (g.lv s hs hv).1
    rw [← g.sh] at this
    exact if_neg this
theorem zq2 {a b c : Int} {n : Nat} (h : zge a b c n = true) : InvT 2 (bgK a b c n) := by
  have h0 := zmr h
  have g0 := zsh h
  have h1 := zet h0
  have g1 := ze7 h0 g0
  exact z51 (zet h1) (ze7 h1 g1)
theorem t2 : InvT 2 c2 := by rw [← bg2]; exact zq2 (by decide)
def rr : Pm := ⟨true, false, false, false⟩
def kf (k : Kr) (fs : List Fe) : Kr := { k with fs := fs }
def dA : Kr := kr2 [(2560, 7169), (3071, 4129), (3583, 4129), (3584, 8193), (4101, 1027)] 224 0 3 [⟨5, 1, true⟩, ⟨6, 2, true⟩]
end Go.Proofs.YtmkjfeamgknpfaaGreatDoor.LiF
namespace Go.Proofs.YtmkjfeamgknpfaaGreatDoor.LjB
open Go.RowKit Bv VaSpec Base MemL RegR Ax MemC PutC MemC3 TzC OkS SpA SpB SpC SpF LaA IterE LaC LaD LiC
open BitsC PteSpec
set_option maxRecDepth 10000
set_option maxHeartbeats 1000000
def vI (n : Int) : Value := .int .u64 n
def vsI (l : List Int) : List Value := l.map vI
theorem zq3 : ∀ l : List Int, (vsI l).all (·.oneCell') = true
  | [] => rfl
  | p :: l => by rw [show vsI (p :: l) = vI p :: vsI l from rfl, List.all_cons, zq3 l]; rfl
theorem zw6 {α : Type} (E : α → List Int) : ∀ (ys : List α) (acc : Nat × List Value), ys.foldl (fun p x => (p.1 + (E x).length, p.2 ++ vsI (E x))) acc = (acc.1 + (ys.flatMap E).length, acc.2 ++ vsI (ys.flatMap E))
  | [], acc => by simp [vsI]
  | y :: ys, acc => by
    rw [List.foldl_cons, zw6 E ys, List.flatMap_cons, List.length_append]
    simp only [vsI, List.map_append, Nat.add_assoc, List.append_assoc]
theorem zsj {α : Type} (E : α → List Int) (M : Nat) (h : ∀ x, (E x).length ≤ M) : ∀ ys : List α, (ys.flatMap E).length ≤ ys.length * M
  | [] => by simp
  | y :: ys => by
    rw [List.flatMap_cons, List.length_append, List.length_cons, Nat.succ_mul]
    have := h y
    have := zsj E M h ys
    omega
theorem zm5 {sz : Int} {xs : List (Int × Int)} {f : Int} (E : Nat → List Int) (h : ∀ i, nzB sz xs f i = false → E i = []) : ∀ l : List Nat, (l.filter (nzB sz xs f)).flatMap E = l.flatMap E
  | [] => rfl
  | i :: l => by
    cases e : nzB sz xs f i with
    | true => rw [List.filter_cons, e]; simp only [if_true, List.flatMap_cons]; rw [zm5 E h l]
    | false => rw [List.filter_cons, e]; simp only [Bool.false_eq_true, if_false]; rw [List.flatMap_cons, h i e, zm5 E h l]; rfl
def zih (rec : Int → List Int) (p : Pte) (l : Int) : List Int := if za9 p l then rec p.ppn else []
def ts1 : List (Nat × Nat) := [(3, 3), (5, 5), (7, 7)]
def ns1 : List Nat := [3, 5, 7, 1001, 1002]
def bs1 (sz : Int) (xs : List (Int × Int)) (top lv : Int) (p : Nat × List Value) : List (Nat × Hs) := [(3, .live (.box [cu sz, .s xs.length 2 (fl xs)])), (5, .live (.box [ci lv])), (7, .live (.box [.o 1000])), (1000, .live (.row 25 1 p.1 p.2)), (1001, .live (.box [cu sz, .s xs.length 2 (fl xs)])), (1002, .live (.box [cu top]))]
theorem zlk (sz : Int) (xs : List (Int × Int)) (top lv : Int) (rec : Int → List Int) (ht : 0 ≤ top ∧ top < 17592186044416) (h0 : 0 ≤ lv) (h2 : lv ≤ 2) (hs : Srt xs) (hu : Uw xs) (hrec : ∀ t, (rec t).length ≤ 1000)
    (hIH : 1 ≤ lv → ∀ t, (0 ≤ t ∧ t < 17592186044416) → Ok 51 [za6 sz xs, iu t, ii (lv - 1)] (.m (.c (.s (rec t).length 1 (vsI (rec t))))))
    (L : List Int) (hL : L = top :: (List.range 512).flatMap fun (i : Nat) => zih rec (atM sz xs top i) lv) :
    Ok 51 [za6 sz xs, iu top, ii lv] (.m (.c (.s L.length 1 (vsI L)))) := by
  refine zfq 29 Tryz.func51 rfl rfl rfl ?_ GG.to
  intro W A hG
  refine zcy (fun K hK => ?_)
  repeat (first | (refine zaj rfl ?_; first | refine zak ?_) | (refine hK _ ?_; clear hK K) | refine zac rfl ?_)
  refine zcy (fun K hK => ?_)
  repeat (first | (refine zaj rfl ?_; first | refine zak ?_) | (refine hK _ ?_; clear hK K) | refine zac rfl ?_)
  refine zwa ?_
  refine zcy (fun K hK => ?_)
  repeat (first | (refine zaj rfl ?_; first | refine zak ?_ | refine gdr (ze5 (n1 := 1001) (n2 := 1002) rfl rfl rfl rfl rfl rfl) ?_) | (refine hK _ ?_; clear hK K) | refine zac rfl ?_)
  refine zjy ?_
  refine zjz (zao [(3, .m (.c (.p 3 0))), (5, .m (.c (.p 5 0))), (7, .m (.c (.p 7 0))), (14, .m (.c (.cl 162 [1001, 1002])))] [(3, .live (.box [cu sz, .s xs.length 2 (fl xs)])), (5, .live (.box [ci lv])), (7, .live (.box [.o 11])), (11, .live (.row 25 1 1 [.int .u64 top])), (1001, .live (.box [cu sz, .s xs.length 2 (fl xs)])), (1002, .live (.box [cu top]))]
    ⟨rfl, rfl, rfl, rfl, trivial⟩ ⟨rfl, rfl, rfl, rfl, rfl, rfl, trivial⟩ rfl) ?_
  refine zjz (zb4 (b := 11) (b' := 1000) rfl rfl) ?_
  intro a w ⟨τ0, s⟩
  have s' := zqe (ns := ns1) s (by
    intro b hb
    simp only [ns1, List.mem_cons, List.not_mem_nil, or_false] at hb
    rcases hb with rfl | rfl | rfl | rfl | rfl
    all_goals exact ⟨_, rfl⟩)
  refine z0i (β := Nat × List Value) ht hs hu rfl ts1 ns1 1001 1002 (bs1 sz xs top lv)
    (fun p x => St.of [(3, .m (.c (.p 3 0))), (5, .m (.c (.p 5 0))), (7, .m (.c (.p 7 0))), (9, .m (.c (.p 9 0)))] (bs1 sz xs top lv p ++ [(9, .live (.box (atM sz xs top x.1).ce))]))
    (fun p x => (p.1 + (zih rec (atM sz xs top x.1) lv).length, p.2 ++ vsI (zih rec (atM sz xs top x.1) lv))) (1, [.int .u64 top]) s' (show 14 < 29 by decide) rfl
    (by
      intro p hp
      simp only [ts1, List.mem_cons, List.not_mem_nil, or_false] at hp
      rcases hp with rfl | rfl | rfl
      all_goals exact ⟨rfl, by simp [ns1], by show _ < 29; decide⟩)
    (by
      intro b hb
      simp only [ns1, List.mem_cons, List.not_mem_nil, or_false] at hb
      rcases hb with rfl | rfl | rfl | rfl | rfl
      all_goals exact ⟨_, rfl⟩)
    ⟨rfl, rfl, rfl, rfl, rfl, rfl, trivial⟩ (by simp [ns1]) (by simp [ns1]) (fun _ => rfl) (fun _ => rfl) (fun _ => rfl) (fun _ _ => ⟨rfl, rfl, rfl, rfl, rfl, rfl, trivial⟩) (fun _ => ⟨rfl, rfl, rfl, rfl, rfl, rfl, trivial⟩)
    (by
      intro τ τ' a a' W o o' x h h'
      have := zwb (c := 7) (b := 1000) h h' (by simp [ns1]) rfl rfl rfl rfl
      exact Prod.ext this.1 this.2)
    ?_ (fun p => p.1 ≤ 1 + 512 * 1000) ?_ ?_ ?_
  · intro W l hk o x
    repeat (first | (refine zaj rfl ?_; first | refine zak ?_) | refine zac rfl ?_)
    exact zao _ _ ⟨rfl, rfl, rfl, rfl, trivial⟩ ⟨rfl, rfl, rfl, rfl, rfl, rfl, rfl, trivial⟩ rfl
  · intro pre hpre
    rw [zw6 (fun x : Ie sz xs top => zih rec (atM sz xs top x.1) lv)]
    have := zsj (fun x : Ie sz xs top => zih rec (atM sz xs top x.1) lv) 1000 (fun x => by unfold zih; split <;> first | exact hrec _ | simp) pre
    have h3 : pre.length * 1000 ≤ 512 * 1000 := Nat.mul_le_mul_right _ (by omega)
    show 1 + _ ≤ 1 + 512 * 1000
    omega
  · intro W' l hk o x ho
    have hx := x.2.1
    have hU := zem hu sz top (x.1 : Int)
    have hp := zch (xs := xs) sz top (x.1 : Int)
    have ho : o.1 ≤ 1 + 512 * 1000 := ho
    generalize hq : atM sz xs top (x.1 : Int) = q at hU hp ⊢
    have hmv : ∀ (S' : St) (n : Nat) (vs : List Value), EqT S' [] → EqB S' [(3, .live (.box [cu sz, .s xs.length 2 (fl xs)])), (5, .live (.box [ci lv])), (7, .live (.box [.o 27])), (27, .live (.row 25 1 n vs)), (1001, .live (.box [cu sz, .s xs.length 2 (fl xs)])), (1002, .live (.box [cu top]))] → Sub (cxR (Cx.of 29 W A GG hG) W' l τ0 ns1 hk) S' (St.of (ptT []) (bs1 sz xs top lv (n, vs))) := fun S' n vs h1 h2 =>
      Sub.trans (zao [] _ h1 h2 rfl) (Sub.trans (zb4 (b := 27) (b' := 1000) rfl rfl) (zao [] _ trivial ⟨rfl, rfl, rfl, rfl, rfl, rfl, trivial⟩ rfl))
    cases hlk : za9 q lv with
    | false =>
      have hE : zih rec q lv = [] := by unfold zih; rw [hlk]; rfl
      rw [hE]
      repeat (first | (refine zaj rfl ?_; first | refine zak ?_ | refine gdr (zaa rfl rfl rfl (hlk ▸ zin q hU lv h0 h2) rfl) ?_) | (refine hK _ ?_; clear hK K) | refine zac rfl ?_ | refine zae rfl rfl ?_ | refine zag ?_ | refine zai ?_ | refine zab (fun K hK => ?_))
      rw [show vsI [] = [] from rfl, List.append_nil]
      exact zao _ _ trivial ⟨rfl, rfl, rfl, rfl, rfl, rfl, trivial⟩ rfl
    | true =>
      have hlv : 1 ≤ lv := by
        rcases (by omega : lv = 0 ∨ 1 ≤ lv) with rfl | h
        · unfold za9 zc5 at hlk
          cases hk2 : zbc q with
          | false => rw [hk2] at hlk; cases hlk
          | true => rw [hk2] at hlk; simp at hlk
        · exact h
      have hE : zih rec q lv = rec q.ppn := by unfold zih; rw [hlk]; rfl
      rw [hE]
      have hi := hIH hlv q.ppn hp
      have hl := hrec q.ppn
      have ha := zq3 (rec q.ppn)
      repeat (first | (refine zaj rfl ?_; first | refine zak ?_ | refine gdr (zaa rfl rfl rfl (hlk ▸ zin q hU lv h0 h2) rfl) ?_ | refine gdr (zaa rfl rfl rfl (hi) rfl) ?_ | refine gdr (za1 rfl rfl rfl rfl rfl rfl rfl rfl rfl rfl rfl rfl ha (by omega)) ?_) | (refine hK _ ?_; clear hK K) | refine zac rfl ?_ | refine zam (by kernel_rfl) (by kernel_rfl) rfl ?_ | refine zaf rfl rfl ?_ | refine zag ?_ | refine zab (fun K hK => ?_))
      exact hmv _ _ _ trivial ⟨rfl, rfl, rfl, rfl, rfl, rfl, trivial⟩
  · intro D ys W hD hys hI hK
    have hfold : ys.foldl (fun (p : Nat × List Value) (x : Ie sz xs top) => (p.1 + (zih rec (atM sz xs top x.1) lv).length, p.2 ++ vsI (zih rec (atM sz xs top x.1) lv))) (1, [.int .u64 top]) = (L.length, vsI L) := by
      rw [zw6 (fun x : Ie sz xs top => zih rec (atM sz xs top x.1) lv)]
      have e : top :: ys.flatMap (fun x : Ie sz xs top => zih rec (atM sz xs top x.1) lv) = L := by
        rw [hL, ← zm5 (sz := sz) (xs := xs) (f := top) _ (fun i hi => ?_), ← hys, List.flatMap_map]
        have : zb1 sz xs (top * 4096 + (i : Int) * 8) = 0 := by unfold nzB at hi; simpa using hi
        unfold zih atM
        rw [this, LaD.zuh]
        rfl
      rw [← e]
      show (1 + _, [vI top] ++ _) = (_, vsI (top :: _))
      rw [List.length_cons, Nat.add_comm]; rfl
    rw [hfold] at hI
    obtain ⟨τ1, s1⟩ := hI
    have s2 : SimT (Cx.of 29 _ A GG hG) (St.of (ptT ts1) (bs1 sz xs top lv (L.length, vsI L))) τ1 a W := ⟨s1.size, s1.nodef, s1.bel, s1.tm, s1.hp, s1.own, s1.sep, s1.one, fun p hp => by cases hp⟩
    refine zle (t := 6) rfl (by decide) rfl s2 (Nat.le_trans s.bel.size hD) hK (fun hk hD => ?_)
    repeat (first | (refine zaj rfl ?_; first | refine zak ?_) | (refine hK _ ?_; clear hK K) | refine zac rfl ?_ | refine zab (fun K hK => ?_))
    exact zah ⟨.inr rfl, _, rfl, rfl⟩
section
variable (sz : Int) (xs : List (Int × Int)) (hs : Srt xs) (hu : Uw xs)
include hs hu
theorem zsk (t : Int) : frN sz xs 0 t = t :: (List.range 512).flatMap fun (i : Nat) => zih (fun _ => []) (atM sz xs t i) 0 := by
  have : ((List.range 512).flatMap fun (i : Nat) => zih (fun _ => []) (atM sz xs t i) 0) = [] := by
    rw [List.flatMap_eq_nil_iff]
    intro i _
    unfold zih
    split <;> rfl
  rw [this]; rfl
theorem zsl (t : Int) (ht : 0 ≤ t ∧ t < 17592186044416) : Ok 51 [za6 sz xs, iu t, ii 0] (.m (.c (.s (frN sz xs 0 t).length 1 (vsI (frN sz xs 0 t))))) :=
  zlk sz xs t 0 (fun _ => []) ht (by omega) (by omega) hs hu (fun _ => by simp) (fun h => by omega) _ (zsk sz xs hs hu t)
theorem zzn (t : Int) (ht : 0 ≤ t ∧ t < 17592186044416) : Ok 51 [za6 sz xs, iu t, ii 1] (.m (.c (.s (frN sz xs 1 t).length 1 (vsI (frN sz xs 1 t))))) :=
  zlk sz xs t 1 (frN sz xs 0) ht (by omega) (by omega) hs hu (fun _ => by simp [frN]) (fun _ t h1 => zsl sz xs hs hu t h1) _ rfl
end
end Go.Proofs.YtmkjfeamgknpfaaGreatDoor.LjB
namespace Go.Proofs.YtmkjfeamgknpfaaGreatDoor.VaR
open Go.RowKit Bv VaSpec Base BitsC VaC
theorem zw7 (n : Int) (w : World) (a0 : 0 ≤ n) (a1 : n < 18446744073709551616) : Calls Tryz.prog 160 #[.int .u64 n] w fun e w' => e = .returned (.int .u64 (ofv n)) ∧ Below w.heap.size w w' := by
  obtain ⟨x, hx⟩ := zma (a := n % 134217728 * 4096) (by omega) (by omega)
  have hs := zry x
  have Hv := Lib.hid (show B (zl9 x 39) = ofv n by rw [hs, ← hx, Int.emod_eq_of_lt (by omega) (by omega)]; rfl)
  have Hx := Lib.hid hx
  clear hx hs
  go_enter Tryz.func160, Tryz.ntmps160
  go_wp2_with fail
  rw [Hx.out]
  refine (RefS.zze x 39 _ (by omega) (by omega)).mono ?_
  rintro e w' ⟨rfl, bel⟩
  rw [Hv.out]
  go_wp2
  go_ret
  exact ⟨rfl, bel⟩
end Go.Proofs.YtmkjfeamgknpfaaGreatDoor.VaR
namespace Go.Proofs.YtmkjfeamgknpfaaGreatDoor.RlA
open Go.RowKit Bv VaSpec Base MemL RegR Ax MemC PutC MemC3 TzC OkS SpA SpB SpC SpD SpE SpF SpH SpI SpJ SpN SpO RfA RfB RfC RfD LaA LaB LaC LaD LaE
open BitsC PteSpec
set_option maxRecDepth 10000
set_option maxHeartbeats 1000000
def pv (p : Pte) : Value := .agg #[.bool p.v, .bool p.r, .bool p.w, .bool p.x, .bool p.u, .bool p.g, .bool p.a, .bool p.d, .int .u64 p.rsw, .int .u64 p.ppn, .int .u64 p.high]
theorem zgc (q : Pte) : Ok 116 [.ag q.ce] (.m (ib (za2 q))) :=
  za7 #[pv q] (.bool (za2 q)) fun W _ => (PteR.zkc q.v q.r q.w q.x q.u q.g q.a q.d q.rsw q.ppn q.high W).mono fun e w' h => h
theorem zsm (q : Pte) : Ok 117 [.ag q.ce] (.m (.ag [cb q.r, cb q.w, cb q.x, cb q.u])) :=
  za7 #[pv q] (.agg #[.bool q.r, .bool q.w, .bool q.x, .bool q.u]) fun W _ => (PteR.zqt q.v q.r q.w q.x q.u q.g q.a q.d q.rsw q.ppn q.high W).mono fun e w' h => h
theorem zsn (n : Int) (p : Pm) (g : Bool) : Ok 100 [iu n, .ag p.ce, ib g] (.m (.ag (mkP n p g).ce)) :=
  za7 #[.int .u64 n, .agg #[.bool p.r, .bool p.w, .bool p.x, .bool p.u], .bool g] (pv (mkP n p g)) fun W _ => (PteR.zqu n p.r p.w p.x p.u g W).mono fun e w' h => h
theorem zq4 (q : Pte) (h : q.U) (hm : zfe q = true) : Ok 149 [.ag q.ce] (.m (iu (PteC.zbu q))) := by
  rw [show PteC.zbu q = word q from if_pos hm]
  exact za7 #[pv q] (.int .u64 (word q)) fun W _ => (PteR.zt6 q.v q.r q.w q.x q.u q.g q.a q.d q.rsw q.ppn q.high W h.1 h.2.1 h.2.2 hm).mono fun e w' h => h
theorem zm6 (l : Int) (h0 : 0 ≤ l) (h2 : l ≤ 2) : Ok 97 [ii l] (.m (iu (VaSpec.sz l))) :=
  za7 #[.int .i64 l] (.int .u64 (VaSpec.sz l)) fun W _ => (VaR.zgu l W h0 h2).mono fun e w' ⟨he, hq⟩ => ⟨he, Q.below hq⟩
theorem z2s (a : Int) (ha : U a) : Ok 161 [iu a] (.m (iu (num a))) :=
  za7 #[.int .u64 a] (.int .u64 (num a)) fun W _ => (VaR.zt8 a W ha.1 ha.2).mono fun e w' ⟨he, hq⟩ => ⟨he, Q.below hq⟩
theorem z41 (a : Int) (ha : U a) : Ok 160 [iu a] (.m (iu (ofv a))) :=
  za7 #[.int .u64 a] (.int .u64 (ofv a)) fun W _ => (VaR.zw7 a W ha.1 ha.2).mono fun e w' h => h
theorem zso (p : Pm) : Ok 98 [.ag p.ce] (.m (ib (zc2 p))) := by
  obtain ⟨r, w, x, u⟩ := p
  cases r <;> cases w <;> cases x
  all_goals
    refine zad 18 Tryz.func98 rfl rfl rfl rfl ?_ GG.to
    intro W A hG
    repeat (first | (refine zaj rfl ?_; first | refine zak ?_) | (refine hK _ ?_; clear hK K) | refine zac rfl ?_ | exact zah (show zar _ _ _ = some _ by kernel_rfl) | refine zaf rfl rfl ?_ | refine zae rfl rfl ?_ | refine zai ?_ | refine zab (fun K hK => ?_))
theorem zh3 (sz : Int) (m : List (Int × Int)) (f i : Int) (hf : 0 ≤ f ∧ f < 17592186044416) (hi : 0 ≤ i ∧ i < 512) (hs : Srt m) (hu : Uw m) (hl : m.length ≤ 1000000) : Ok 114 [za6 sz m, iu f, ii i] (.m (.ag (atM sz m f i).ce)) := by
  have h1 := zzi sz m (4096 * f + 8 * i) ⟨by omega, by omega⟩ hs hl
  have h2 := z2n (zb1 sz m (4096 * f + 8 * i)) (zgq hu sz _)
  rw [show atM sz m f i = za0 (zb1 sz m (4096 * f + 8 * i)) by unfold atM; rw [show f * 4096 + i * 8 = 4096 * f + 8 * i by omega]]
  refine zad 16 Tryz.func114 rfl rfl rfl rfl ?_ GG.to
  intro W A hG
  repeat (first | (refine zaj rfl ?_; first | refine zak ?_ | refine gdr (zaa rfl rfl rfl (h1) (by kernel_rfl)) ?_ | refine gdr (zaa rfl rfl rfl (h2) (by kernel_rfl)) ?_) | (refine hK _ ?_; clear hK K) | refine zac rfl ?_ | exact zah (show zar _ _ _ = some _ by kernel_rfl) | refine zab (fun K hK => ?_))
theorem ze8 (sz : Int) (xs : List (Int × Int)) (t l : Int) (q : Pte) (addr : Int) (p : Pte) (ha : U addr) (hp : p.U) (hm : zfe p = true) (l0 : 0 ≤ l) (l2 : l ≤ 2) (ht : 0 ≤ t ∧ t < 1099511627776) (hs : Srt xs) (hl : xs.length ≤ 1000000) :
    Ok 95 [za6 sz xs, .ag (za3 t l q), iu addr, .ag p.ce] (.m (za6 sz (zb7 xs (t * 512 + idx addr l) (PteC.zbu p)))) := by
  have hi := idx_bd addr l
  have h1 := zh1 addr l ha l0 l2
  have h2 := zq4 p hp hm
  have h3 := zkb sz xs (512 * t + idx addr l) (PteC.zbu p) hs hl
  rw [show t * 512 + idx addr l = 512 * t + idx addr l by omega]
  refine zad 22 Tryz.func95 rfl rfl rfl rfl ?_ GG.to
  intro W A hG
  repeat (first | (refine zaj rfl ?_; first | refine zak ?_ | refine gdr (zaa rfl rfl rfl (h1) (by kernel_rfl)) ?_ | refine gdr (zaa rfl rfl rfl (h2) (by kernel_rfl)) ?_ | refine gdr (zaa rfl rfl rfl (h3) (by kernel_rfl)) ?_) | (refine hK _ ?_; clear hK K) | refine zac rfl ?_ | refine zam (by kernel_rfl) (by kernel_rfl) rfl ?_ | exact zah (show zar _ _ _ = some _ by kernel_rfl) | refine zab (fun K hK => ?_))
theorem zew (sz : Int) (xs : List (Int × Int)) (addr zau : Int) (ha : U addr) (hw : 0 ≤ zau) (hs : Srt xs) (hu : Uw xs) (hn : xs.length ≤ 1000000) : ∀ (l : Nat) (t : Int), l ≤ 2 → (0 ≤ t ∧ t < 17592186044416) →
    Ok 43 [za6 sz xs, iu t, ii l, iu addr, ii zau] (.m (.ag (zfp sz xs addr (zav sz xs addr zau l t))))
  | 0, t, hl, ht => by
    have hi := idx_bd addr ((0 : Nat) : Int)
    have h1 := zh1 addr ((0 : Nat) : Int) ha (by omega) (by omega)
    have h2 := zh3 sz xs t (idx addr ((0 : Nat) : Int)) ht hi hs hu hn
    rw [show zfp sz xs addr (zav sz xs addr zau 0 t) = za3 t ((0 : Nat) : Int) (atM sz xs t (idx addr ((0 : Nat) : Int))) from rfl]
    generalize atM sz xs t (idx addr ((0 : Nat) : Int)) = q at *
    generalize idx addr ((0 : Nat) : Int) = ix at *
    refine zad 38 Tryz.func43 rfl rfl rfl rfl ?_ GG.to
    intro W A hG
    repeat (first | (refine zaj rfl ?_; first | refine zak ?_ | refine gdr (zaa rfl rfl rfl (h1) (by kernel_rfl)) ?_ | refine gdr (zaa rfl rfl rfl (h2) (by kernel_rfl)) ?_) | (refine hK _ ?_; clear hK K) | refine zac rfl ?_ | refine zam (by kernel_rfl) (by kernel_rfl) rfl ?_ | exact zah (show zar _ _ _ = some _ by kernel_rfl) | refine zae rfl rfl ?_ | refine zai ?_ | refine zab (fun K hK => ?_))
  | l + 1, t, hl, ht => by
    have hi := idx_bd addr ((l + 1 : Nat) : Int)
    have h1 := zh1 addr ((l + 1 : Nat) : Int) ha (by omega) (by omega)
    have h2 := zh3 sz xs t (idx addr ((l + 1 : Nat) : Int)) ht hi hs hu hn
    have hA := zem hu sz t (idx addr ((l + 1 : Nat) : Int))
    have hp := zch (xs := xs) sz t (idx addr ((l + 1 : Nat) : Int))
    have h3 := zoy _ hA ((l + 1 : Nat) : Int) (by omega) (by omega)
    have IH := zew sz xs addr zau ha hw hs hu hn l _ (by omega) hp
    by_cases hlt : zau < ((l + 1 : Nat) : Int)
    · cases hlk : za9 (atM sz xs t (idx addr ((l + 1 : Nat) : Int))) ((l + 1 : Nat) : Int) with
      | true =>
        rw [zb9 hlt hlk]
        rw [hlk] at h3
        generalize zav sz xs addr zau l (atM sz xs t (idx addr ((l + 1 : Nat) : Int))).ppn = rr at *
        generalize atM sz xs t (idx addr ((l + 1 : Nat) : Int)) = q at *
        generalize idx addr ((l + 1 : Nat) : Int) = ix at *
        have IH : Ok 43 [za6 sz xs, iu q.ppn, ii (((l + 1 : Nat) : Int) - 1), iu addr, ii zau] (.m (.ag (zfp sz xs addr rr))) := by
          rw [show (((l + 1 : Nat) : Int) - 1) = (l : Int) by omega]; exact IH
        refine zad 38 Tryz.func43 rfl rfl rfl rfl ?_ GG.to
        intro W A hG
        repeat (first | (refine zaj rfl ?_; first | refine zak ?_ | refine gdr (zaa rfl rfl rfl (h1) (by kernel_rfl)) ?_ | refine gdr (zaa rfl rfl rfl (h2) (by kernel_rfl)) ?_ | refine gdr (zaa rfl rfl rfl (h3) (by kernel_rfl)) ?_ | refine gdr (zaa rfl rfl rfl (IH) (by kernel_rfl)) ?_) | (refine hK _ ?_; clear hK K) | refine zac rfl ?_ | refine zam (by kernel_rfl) (by kernel_rfl) rfl ?_ | exact zah (show zar _ _ _ = some _ by kernel_rfl) | refine zaf rfl rfl ?_ | refine zab (fun K hK => ?_))
      | false =>
        rw [zbh (fun _ => hlk) hw]
        rw [hlk] at h3
        rw [show zfp sz xs addr (t, ((l + 1 : Nat) : Int)) = za3 t ((l + 1 : Nat) : Int) (atM sz xs t (idx addr ((l + 1 : Nat) : Int))) from rfl]
        clear IH
        generalize atM sz xs t (idx addr ((l + 1 : Nat) : Int)) = q at *
        generalize idx addr ((l + 1 : Nat) : Int) = ix at *
        refine zad 38 Tryz.func43 rfl rfl rfl rfl ?_ GG.to
        intro W A hG
        repeat (first | (refine zaj rfl ?_; first | refine zak ?_ | refine gdr (zaa rfl rfl rfl (h1) (by kernel_rfl)) ?_ | refine gdr (zaa rfl rfl rfl (h2) (by kernel_rfl)) ?_ | refine gdr (zaa rfl rfl rfl (h3) (by kernel_rfl)) ?_) | (refine hK _ ?_; clear hK K) | refine zac rfl ?_ | refine zam (by kernel_rfl) (by kernel_rfl) rfl ?_ | exact zah (show zar _ _ _ = some _ by kernel_rfl) | refine zae rfl rfl ?_ | refine zai ?_ | refine zab (fun K hK => ?_))
    · rw [zbh (fun hh => absurd hh hlt) hw]
      rw [show zfp sz xs addr (t, ((l + 1 : Nat) : Int)) = za3 t ((l + 1 : Nat) : Int) (atM sz xs t (idx addr ((l + 1 : Nat) : Int))) from rfl]
      clear IH
      generalize atM sz xs t (idx addr ((l + 1 : Nat) : Int)) = q at *
      generalize idx addr ((l + 1 : Nat) : Int) = ix at *
      refine zad 38 Tryz.func43 rfl rfl rfl rfl ?_ GG.to
      intro W A hG
      repeat (first | (refine zaj rfl ?_; first | refine zak ?_ | refine gdr (zaa rfl rfl rfl (h1) (by kernel_rfl)) ?_ | refine gdr (zaa rfl rfl rfl (h2) (by kernel_rfl)) ?_) | (refine hK _ ?_; clear hK K) | refine zac rfl ?_ | refine zam (by kernel_rfl) (by kernel_rfl) rfl ?_ | exact zah (show zar _ _ _ = some _ by kernel_rfl) | refine zae rfl rfl ?_ | refine zai ?_ | refine zab (fun K hK => ?_))
def z52 (sz cd cp addr zau : Int) (xs0 : List (Int × Int)) (f0 : Int) (xs : List (Int × Int)) (f t : Int) (l : Nat) : St := St.of [(4, .m (iu addr)), (5, .m (ii zau)), (6, .m (.c (.p 6 0))), (7, .m (.c (.p 7 0))), (12, .m (.c (.p 12 0))), (13, .m (.c (.p 13 0))), (14, .m (.c (.p 14 0))), (15, .m (ii 0)), (16, .m (.c (.p 16 0))), (17, .m (.c (.p 17 0))), (18, .m (iu t)), (19, .m (ii l))]
  [(6, .live (.box [cu sz, .s xs0.length 2 (fl xs0)])), (7, .live (.box [cu cd, ci cp, cu f0])), (12, .live (.box [cu 0, .v (.slice none 0 0)])), (13, .live (.box [cu 0, ci 0, cu 0])), (14, .live (.box (za3 0 0 zP))), (16, .live (.box [cu sz, .s xs.length 2 (fl xs)])), (17, .live (.box [cu cd, ci cp, cu f]))]
theorem z0o (m : Nat) : AV.m (ii (((m + 1 : Nat) : Int) - 1)) = AV.m (ii (m : Int)) := by rw [show ((m + 1 : Nat) : Int) - 1 = (m : Int) by omega]
theorem zq5 {n : Int} (h : 0 ≤ n ∧ n < 17592186044416) : zfe (lnk n) = true := by rw [zcs]; unfold lnk; simp; omega
theorem zzo (cd cp sz top addr zau : Int) (lv : Nat) (xs0 : List (Int × Int)) (f0 : Int) (h : GM cd cp sz xs0 f0) (ht : Al cd cp f0 top) (ha : U addr) (hl : lv ≤ 2) (hw : 0 ≤ zau) (hwl : zau ≤ (lv : Int)) (hn : xs0.length ≤ 100000)
    (D : List (Int × Int) × Int × Int × Int) (hD : D = dnN sz cd addr zau lv xs0 f0 top) :
    Ok 99 [za6 sz xs0, .ag [cu cd, ci cp, cu f0], iu top, ii lv, iu addr, ii zau]
      (.tu (if D.2.2.2 = 0 then [za6 sz D.1, .ag [cu cd, ci cp, cu D.2.1], .ag (zfp sz D.1 addr (D.2.2.1, zau)), ii 0] else [za6 sz xs0, .ag [cu cd, ci cp, cu f0], .ag (za3 0 0 zP), ii D.2.2.2])) := by
  have hcd := h.bd
  have hcp := h.bp
  obtain ⟨R, hR⟩ : ∃ R, R = (if D.2.2.2 = 0 then [za6 sz D.1, .ag [cu cd, ci cp, cu D.2.1], .ag (zfp sz D.1 addr (D.2.2.1, zau)), ii 0] else [za6 sz xs0, .ag [cu cd, ci cp, cu f0], .ag (za3 0 0 zP), ii D.2.2.2]) := ⟨_, rfl⟩
  rw [← hR]
  have hcl : (zcl (.tu R) && [za6 sz xs0, .ag [cu cd, ci cp, cu f0], iu top, ii lv, iu addr, ii zau].all zcd) = true := by
    rw [hR]; split <;> rfl
  refine zad 91 Tryz.func99 rfl hcl rfl rfl ?_ GG.to
  intro W A hG
  repeat (first | (refine zaj rfl ?_; first | refine zak ?_) | (refine hK _ ?_; clear hK K) | refine zac rfl ?_ | refine zag ?_ | refine zab (fun K hK => ?_))
  refine zay (α := List (Int × Int) × Int × Nat × Int) (fun q => GM cd cp sz q.1 q.2.1 ∧ q.2.2.1 ≤ 2 ∧ zau ≤ (q.2.2.1 : Int) ∧ Al cd cp q.2.1 q.2.2.2 ∧ q.1.length + q.2.2.1 ≤ 100002 ∧ dnN sz cd addr zau q.2.2.1 q.1 q.2.1 q.2.2.2 = D)
    (fun q => z52 sz cd cp addr zau xs0 f0 q.1 q.2.1 q.2.2.2 q.2.2.1) (fun q => q.2.2.1) (xs0, f0, lv, top) ⟨h, hl, hwl, ht, by show xs0.length + lv ≤ _; omega, hD.symm⟩ (zao _ _ ⟨by kernel_rfl, by kernel_rfl, by kernel_rfl, by kernel_rfl, by kernel_rfl, by kernel_rfl, by kernel_rfl, by kernel_rfl, by kernel_rfl, by kernel_rfl, by kernel_rfl, by kernel_rfl, trivial⟩ ⟨by kernel_rfl, by kernel_rfl, by kernel_rfl, by kernel_rfl, by kernel_rfl, by kernel_rfl, by kernel_rfl, trivial⟩ (by kernel_rfl)) ?_
  rintro ⟨xs, f, l, t⟩ ⟨x1, x2, x3, x4, x5, x6⟩
  have g1 : GM cd cp sz xs f := x1
  have g2 : l ≤ 2 := x2
  have g3 : zau ≤ (l : Int) := x3
  have g4 : Al cd cp f t := x4
  have g5 : xs.length + l ≤ 100002 := x5
  have g6 : dnN sz cd addr zau l xs f t = D := x6
  show Aw _ _ _ _ (z52 sz cd cp addr zau xs0 f0 xs f t l)
  unfold z52
  have ub := g1.u
  have bt := g4.1
  by_cases c1 : (l : Int) = zau
  · have e : D = (xs, f, t, 0) := by
      rw [← g6]
      cases l with
      | zero => rfl
      | succ m => unfold dnN; rw [if_pos (by omega)]
    subst e
    have hR : R = [za6 sz xs, .ag [cu cd, ci cp, cu f], .ag (za3 t zau (atM sz xs t (idx addr zau))), ii 0] := hR
    have h1 := zh1 addr zau ha (by omega) (by omega)
    have h2 := zh3 sz xs t (idx addr zau) ⟨by omega, by omega⟩ (idx_bd addr zau) g1.s ub (by omega)
    generalize atM sz xs t (idx addr zau) = q at *
    generalize idx addr zau = ix at *
    subst hR
    repeat (first | (refine zaj rfl ?_; first | refine zak ?_ | refine gdr (zaa rfl rfl rfl (h1) (by kernel_rfl)) ?_ | refine gdr (zaa rfl rfl rfl (h2) (by kernel_rfl)) ?_) | (refine hK _ ?_; clear hK K) | (rename_i K1 hK1; refine hK1 _ ?_; clear hK hK1; clear K) | refine zac rfl ?_ | refine zam (by kernel_rfl) (by kernel_rfl) rfl ?_ | exact zah (show zar _ _ _ = some _ by kernel_rfl) | refine zae rfl rfl ?_ | refine zal ?_ | refine zab (fun K hK => ?_))
  · obtain ⟨m, rfl⟩ : ∃ m : Nat, l = m + 1 := ⟨l - 1, by omega⟩
    have hi := idx_bd addr ((m + 1 : Nat) : Int)
    have h1 := zh1 addr ((m + 1 : Nat) : Int) ha (by omega) (by omega)
    have h2 := zh3 sz xs t (idx addr ((m + 1 : Nat) : Int)) ⟨by omega, by omega⟩ hi g1.s ub (by omega)
    have h3 := zgc (atM sz xs t (idx addr ((m + 1 : Nat) : Int)))
    have hk := EOk.kinds (g1.at t (idx addr ((m + 1 : Nat) : Int))) (l := ((m + 1 : Nat) : Int)) (by omega)
    unfold dnN at g6
    rw [if_neg (by omega)] at g6
    cases hlf : za2 (atM sz xs t (idx addr ((m + 1 : Nat) : Int))) with
    | true =>
      rw [hlf, if_pos rfl] at g6
      rw [hlf] at h3
      subst g6
      have hR : R = [za6 sz xs0, .ag [cu cd, ci cp, cu f0], .ag (za3 0 0 zP), ii 6] := hR
      subst hR
      generalize atM sz xs t (idx addr ((m + 1 : Nat) : Int)) = q at *
      generalize idx addr ((m + 1 : Nat) : Int) = ix at *
      repeat (first | (refine zaj rfl ?_; first | refine zak ?_ | refine gdr (zaa rfl rfl rfl (h1) (by kernel_rfl)) ?_ | refine gdr (zaa rfl rfl rfl (h2) (by kernel_rfl)) ?_ | refine gdr (zaa rfl rfl rfl (h3) (by kernel_rfl)) ?_) | (refine hK _ ?_; clear hK K) | refine zac rfl ?_ | refine zam (by kernel_rfl) (by kernel_rfl) rfl ?_ | exact zah (show zar _ _ _ = some _ by kernel_rfl) | refine zaf rfl rfl ?_ | refine zag ?_ | refine zai ?_ | refine zab (fun K hK => ?_))
    | false =>
      rw [hlf, if_neg (by simp)] at g6
      rw [hlf] at h3
      cases hv : (atM sz xs t (idx addr ((m + 1 : Nat) : Int))).v with
      | true =>
        rw [hv, if_pos rfl] at g6
        have ha5 : Al cd cp f (atM sz xs t (idx addr ((m + 1 : Nat) : Int))).ppn := by
          rcases hk with ⟨k1, _⟩ | ⟨_, k2, _⟩ | ⟨_, _, _, _, k5⟩
          · rw [k1] at hv; cases hv
          · rw [k2] at hlf; cases hlf
          · exact k5
        clear hk
        generalize atM sz xs t (idx addr ((m + 1 : Nat) : Int)) = q at *
        generalize idx addr ((m + 1 : Nat) : Int) = ix at *
        obtain ⟨q0, q1, q2, q3, q4, q5, q6, q7, q8, q9, q10⟩ := q
        have hv : q0 = true := hv
        subst hv
        repeat (first | (refine zaj rfl ?_; first | refine zak ?_ | refine gdr (zaa rfl rfl rfl (h1) (by kernel_rfl)) ?_ | refine gdr (zaa rfl rfl rfl (h2) (by kernel_rfl)) ?_ | refine gdr (zaa rfl rfl rfl (h3) (by kernel_rfl)) ?_) | (refine hK _ ?_; clear hK K) | refine zac rfl ?_ | refine zam (by kernel_rfl) (by kernel_rfl) rfl ?_ | refine zaf rfl rfl ?_ | refine zae rfl rfl ?_ | refine zag ?_ | refine zai ?_ | refine zab (fun K hK => ?_))
        exact ⟨(xs, f, m, q9), ⟨g1, by show m ≤ 2; omega, by show zau ≤ (m : Int); omega, ha5, by show xs.length + m ≤ 100002; omega, g6⟩, by show m < m + 1; omega, zao _ _ ⟨by kernel_rfl, by kernel_rfl, by kernel_rfl, by kernel_rfl, by kernel_rfl, by kernel_rfl, by kernel_rfl, by kernel_rfl, by kernel_rfl, by kernel_rfl, by kernel_rfl, z0o m, trivial⟩ ⟨by kernel_rfl, by kernel_rfl, by kernel_rfl, by kernel_rfl, by kernel_rfl, by kernel_rfl, by kernel_rfl, trivial⟩ (by kernel_rfl)⟩
      | false =>
        rw [hv, if_neg (by simp)] at g6
        by_cases c4 : f = 0
        · rw [if_pos c4] at g6
          subst g6
          have hR : R = [za6 sz xs0, .ag [cu cd, ci cp, cu f0], .ag (za3 0 0 zP), ii 8] := hR
          subst hR
          subst c4
          have hf := zkd sz xs cd cp (by omega)
          clear hk
          generalize atM sz xs t (idx addr ((m + 1 : Nat) : Int)) = q at *
          generalize idx addr ((m + 1 : Nat) : Int) = ix at *
          obtain ⟨q0, q1, q2, q3, q4, q5, q6, q7, q8, q9, q10⟩ := q
          have hv : q0 = false := hv
          subst hv
          repeat (first | (refine zaj rfl ?_; first | refine zak ?_ | refine gdr (zaa rfl rfl rfl (h1) (by kernel_rfl)) ?_ | refine gdr (zaa rfl rfl rfl (h2) (by kernel_rfl)) ?_ | refine gdr (zaa rfl rfl rfl (h3) (by kernel_rfl)) ?_ | refine gdr (zaa rfl rfl rfl (hf) (by kernel_rfl)) ?_) | (refine hK _ ?_; clear hK K) | refine zac rfl ?_ | refine zam (by kernel_rfl) (by kernel_rfl) rfl ?_ | exact zah (show zar _ _ _ = some _ by kernel_rfl) | refine zaf rfl rfl ?_ | refine zae rfl rfl ?_ | refine zag ?_ | refine zai ?_ | refine zab (fun K hK => ?_))
        · rw [if_neg c4] at g6
          have hf := zfx sz xs cd cp f (by omega) (by omega) g1.bf c4 g1.s (by omega) (fun c hc => by have := (ub c hc).1; have := (g1.c c hc).1.1; omega)
          rw [g1.wipe c4] at hf
          obtain ⟨a1, a2⟩ := g1.al c4
          have hfr : 0 ≤ cd + tzI f ∧ cd + tzI f < 17592186044416 := by omega
          have hwt := ze8 sz xs t ((m + 1 : Nat) : Int) (lnk (cd + tzI f)) addr (lnk (cd + tzI f)) ha (zgf hfr) (zq5 hfr) (by omega) (by omega) (by omega) g1.s (by omega)
          rw [← g1.with g4 hi (zgf hfr)] at hwt
          have hgm := g1.hang c4 g4 hi
          have hln2 := zf7 sz xs t (idx addr ((m + 1 : Nat) : Int)) (lnk (cd + tzI f))
          clear hk
          generalize zbf sz xs t (idx addr ((m + 1 : Nat) : Int)) (lnk (cd + tzI f)) = xs2 at *
          generalize atM sz xs t (idx addr ((m + 1 : Nat) : Int)) = q at *
          generalize idx addr ((m + 1 : Nat) : Int) = ix at *
          obtain ⟨q0, q1, q2, q3, q4, q5, q6, q7, q8, q9, q10⟩ := q
          have hv : q0 = false := hv
          subst hv
          repeat (first | (refine zaj rfl ?_; first | refine zak ?_ | refine gdr (zaa rfl rfl rfl (h1) (by kernel_rfl)) ?_ | refine gdr (zaa rfl rfl rfl (h2) (by kernel_rfl)) ?_ | refine gdr (zaa rfl rfl rfl (h3) (by kernel_rfl)) ?_ | refine gdr (zaa rfl rfl rfl (hf) (by kernel_rfl)) ?_ | refine gdr (zaa rfl rfl rfl (hwt) (by kernel_rfl)) ?_) | (refine hK _ ?_; clear hK K) | refine zac rfl ?_ | refine zam (by kernel_rfl) (by kernel_rfl) rfl ?_ | refine zaf rfl rfl ?_ | refine zae rfl rfl ?_ | refine zag ?_ | refine zai ?_ | refine zab (fun K hK => ?_))
          exact ⟨(xs2, zbr f (tzI f) 1 0, m, cd + tzI f), ⟨hgm, by show m ≤ 2; omega, by show zau ≤ (m : Int); omega, a1, by show xs2.length + m ≤ 100002; omega, g6⟩, by show m < m + 1; omega, zao _ _ ⟨by kernel_rfl, by kernel_rfl, by kernel_rfl, by kernel_rfl, by kernel_rfl, by kernel_rfl, by kernel_rfl, by kernel_rfl, by kernel_rfl, by kernel_rfl, by kernel_rfl, z0o m, trivial⟩ ⟨by kernel_rfl, by kernel_rfl, by kernel_rfl, by kernel_rfl, by kernel_rfl, by kernel_rfl, by kernel_rfl, trivial⟩ (by kernel_rfl)⟩
end Go.Proofs.YtmkjfeamgknpfaaGreatDoor.RlA
namespace Go.Proofs.YtmkjfeamgknpfaaGreatDoor.RlB
open Go.RowKit Bv VaSpec Base MemL RegR Ax MemC PutC MemC3 TzC OkS SpA SpB SpC SpD SpE SpF SpH SpI SpJ SpN SpO RfA RfB RfC RfD LaA LaB LaC LaD LaE RlA
open BitsC PteSpec
set_option maxRecDepth 10000
set_option maxHeartbeats 1000000
def z53 (sz : Int) (xs : List (Int × Int)) (top lv base : Int) (i n : Nat) (vs : List Value) : St := St.of [(1, .m (iu top)), (2, .m (ii lv)), (3, .m (iu base)), (4, .m (.c (.p 4 0))), (8, .m (.c (.v (.slice none 0 0)))), (9, .m (.c (.o 1000))), (10, .m (ii i))] [(4, .live (.box [cu sz, .s xs.length 2 (fl xs)])), (1000, .live (.row 94 8 n vs))]
theorem zm7 {α : Type} (E : Nat → List α) (i : Nat) : (List.range (i + 1)).flatMap E = (List.range i).flatMap E ++ E i := by
  rw [List.range_succ, List.flatMap_append]; simp
theorem zll (sz : Int) (xs : List (Int × Int)) (top base lv : Int) (rec : Int → Int → List Pg) (ht : 0 ≤ top ∧ top < 17592186044416) (hb : U base) (h0 : 0 ≤ lv) (h2 : lv ≤ 2) (hs : Srt xs) (hu : Uw xs) (hn : xs.length ≤ 1000000) (hrec : ∀ t a, (rec t a).length ≤ 262144)
    (hIH : 1 ≤ lv → ∀ t a, (0 ≤ t ∧ t < 17592186044416) → U a → Ok 118 [za6 sz xs, iu t, ii (lv - 1), iu a] (.m (.c (.s (rec t a).length 8 (flP (rec t a))))))
    (L : List Pg) (hL : L = (List.range 512).flatMap fun (i : Nat) => zfs rec (atM sz xs top i) lv (adr base i lv)) :
    Ok 118 [za6 sz xs, iu top, ii lv, iu base] (.m (.c (.s L.length 8 (flP L)))) := by
  have hz := zok lv h0 h2
  obtain ⟨N, hN⟩ : ∃ N, N = L.length := ⟨_, rfl⟩
  obtain ⟨XS, hXS⟩ : ∃ XS, XS = flP L := ⟨_, rfl⟩
  rw [← hN, ← hXS]
  obtain ⟨E, hE0⟩ : ∃ E : Nat → List Pg, E = fun (i : Nat) => zfs rec (atM sz xs top i) lv (adr base i lv) := ⟨_, rfl⟩
  rw [← hE0] at hL
  have hEl : ∀ i, (E i).length ≤ 262144 := fun i => by rw [hE0]; exact zwc hrec _ _ _
  refine zad 58 Tryz.func118 rfl rfl rfl rfl ?_ GG.to
  intro W A hG
  repeat (first | (refine zaj rfl ?_; first | refine zak ?_) | (refine hK _ ?_; clear hK K) | refine zac rfl ?_ | refine zag ?_ | refine zab (fun K hK => ?_))
  refine zay (α := Nat × Nat × List Value) (fun q => q.1 ≤ 512 ∧ q.2.1 = ((List.range q.1).flatMap E).length ∧ q.2.2 = flP ((List.range q.1).flatMap E) ∧ q.2.1 ≤ q.1 * 262144) (fun q => z53 sz xs top lv base q.1 q.2.1 q.2.2) (fun q => 512 - q.1) (0, 0, []) ⟨by show 0 ≤ 512; omega, rfl, rfl, by show 0 ≤ 0 * 262144; omega⟩ (Sub.trans (zc9 9 1000 94 8 rfl rfl) (zao _ _ ⟨by kernel_rfl, by kernel_rfl, by kernel_rfl, by kernel_rfl, by kernel_rfl, by kernel_rfl, by kernel_rfl, trivial⟩ ⟨by kernel_rfl, by kernel_rfl, trivial⟩ (by kernel_rfl))) ?_
  rintro ⟨i, n, vs⟩ ⟨y1, y2, y3, y4⟩
  have g1 : i ≤ 512 := y1
  have g2 : n = ((List.range i).flatMap E).length := y2
  have g3 : vs = flP ((List.range i).flatMap E) := y3
  have g4 : n ≤ i * 262144 := y4
  show Aw _ _ _ _ (z53 sz xs top lv base i n vs)
  unfold z53
  by_cases hlt : i < 512
  · have h1 := zh3 sz xs top i ht ⟨by omega, by omega⟩ hs hu hn
    have h3 := zm6 lv h0 h2
    have hU := zem hu sz top (i : Int)
    have hp := zch (xs := xs) sz top (i : Int)
    have hA := z1s base i lv
    have hNu := z4i hA
    have hEi : E i = zfs rec (atM sz xs top i) lv (adr base i lv) := by rw [hE0]
    have hn1 : n + (E i).length = ((List.range (i + 1)).flatMap E).length := by rw [zm7, List.length_append, g2]
    have hv1 : vs ++ flP (E i) = flP ((List.range (i + 1)).flatMap E) := by rw [zm7, zmj, g3]
    have hn2 : n + (E i).length ≤ (i + 1) * 262144 := by have := hEl i; rw [Nat.succ_mul]; omega
    have h4 := zwz _ hU lv h0 h2
    have h5 := zgc (atM sz xs top (i : Int))
    have h6 := zsm (atM sz xs top (i : Int))
    have h7 := z2s _ hA
    have h8 := z41 _ hNu
    clear g2 g3 y2 y3 hL hE0 hEl
    generalize atM sz xs top (i : Int) = q at *
    cases hbad : zc5 q lv with
    | true =>
      have e : E i = [] := by rw [hEi]; unfold zfs; rw [hbad]; rfl
      rw [hbad] at h4
      rw [e, show flP [] = [] from rfl, List.append_nil] at hv1
      rw [e, List.length_nil, Nat.add_zero] at hn1 hn2
      repeat (first | (refine zaj rfl ?_; first | refine zak ?_ | refine gdr (zaa rfl rfl rfl (h1) (by kernel_rfl)) ?_ | refine gdr (zaa rfl rfl rfl (h3) (by kernel_rfl)) ?_ | refine gdr (zaa rfl rfl rfl (h4) (by kernel_rfl)) ?_) | (refine hK _ ?_; clear hK K) | (rename_i K1 hK1; refine hK1 _ ?_; clear hK hK1; clear K) | refine zac rfl ?_ | refine zaf rfl rfl ?_ | refine zag ?_ | refine zal ?_ | refine zai ?_ | refine zab (fun K hK => ?_))
      exact ⟨(i + 1, n, vs), ⟨by show i + 1 ≤ 512; omega, hn1, hv1, hn2⟩, by show 512 - (i + 1) < 512 - i; omega, zao _ _ ⟨by kernel_rfl, by kernel_rfl, by kernel_rfl, by kernel_rfl, by kernel_rfl, by kernel_rfl, by kernel_rfl, trivial⟩ ⟨by kernel_rfl, by kernel_rfl, trivial⟩ (by kernel_rfl)⟩
    | false =>
      rw [hbad] at h4
      cases hleaf : za2 q with
      | true =>
        rw [hleaf] at h5
        have e : E i = [⟨ofv (num (adr base i lv)), 4096 * q.ppn, lv, q.r, q.w, q.x, q.u, q.d⟩] := by rw [hEi]; unfold zfs z4g; rw [hbad, hleaf, Int.mul_comm]; rfl
        rw [e, zmk] at hv1
        rw [e, List.length_singleton] at hn1 hn2
        repeat (first | (refine zaj rfl ?_; first | refine zak ?_ | refine gdr (zaa rfl rfl rfl (h1) (by kernel_rfl)) ?_ | refine gdr (zaa rfl rfl rfl (h3) (by kernel_rfl)) ?_ | refine gdr (zaa rfl rfl rfl (h4) (by kernel_rfl)) ?_ | refine gdr (zaa rfl rfl rfl (h5) (by kernel_rfl)) ?_ | refine gdr (zaa rfl rfl rfl (h6) (by kernel_rfl)) ?_ | refine gdr (zaa rfl rfl rfl (h7) (by kernel_rfl)) ?_ | refine gdr (zaa rfl rfl rfl (h8) (by kernel_rfl)) ?_) | (refine hK _ ?_; clear hK K) | refine zac rfl ?_ | refine zam (by kernel_rfl) (by kernel_rfl) rfl ?_ | refine zaf rfl rfl ?_ | refine zae rfl rfl ?_ | refine zag ?_ | refine zai ?_ | refine zab (fun K hK => ?_))
        refine zaj rfl ?_
        refine zdg (za1 rfl rfl rfl rfl rfl rfl rfl rfl rfl rfl rfl rfl rfl (by omega)) (by kernel_rfl) ?_
        repeat (first | (refine zaj rfl ?_; first | refine zak ?_) | (refine hK _ ?_; clear hK K) | refine zac rfl ?_)
        exact ⟨(i + 1, n + 1, vs ++ (⟨ofv (num (adr base i lv)), 4096 * q.ppn, lv, q.r, q.w, q.x, q.u, q.d⟩ : Pg).vs), ⟨by show i + 1 ≤ 512; omega, hn1, hv1, hn2⟩, by show 512 - (i + 1) < 512 - i; omega, Sub.trans (zao [(1, .m (iu top)), (2, .m (ii lv)), (3, .m (iu base)), (4, .m (.c (.p 4 0))), (8, .m (.c (.v (.slice none 0 0)))), (9, .m (.c (.o 47))), (10, .m (ii ((i + 1 : Nat) : Int)))] [(4, .live (.box [cu sz, .s xs.length 2 (fl xs)])), (47, .live (.row 94 8 (n + 1) (vs ++ (⟨ofv (num (adr base i lv)), 4096 * q.ppn, lv, q.r, q.w, q.x, q.u, q.d⟩ : Pg).vs)))] ⟨by kernel_rfl, by kernel_rfl, by kernel_rfl, by kernel_rfl, by kernel_rfl, by kernel_rfl, by kernel_rfl, trivial⟩ ⟨by kernel_rfl, by kernel_rfl, trivial⟩ (by kernel_rfl)) (Sub.trans (zb4 (b := 47) (b' := 1000) rfl rfl) (zao _ _ ⟨by kernel_rfl, by kernel_rfl, by kernel_rfl, by kernel_rfl, by kernel_rfl, by kernel_rfl, by kernel_rfl, trivial⟩ ⟨by kernel_rfl, by kernel_rfl, trivial⟩ (by kernel_rfl)))⟩
      | false =>
        rw [hleaf] at h5
        have hlv : 1 ≤ lv := by
          rcases (by omega : lv = 0 ∨ 1 ≤ lv) with rfl | h
          · rw [zol hbad] at hleaf; cases hleaf
          · exact h
        have e : E i = rec q.ppn (adr base i lv) := by rw [hEi]; unfold zfs; rw [hbad, hleaf]; rfl
        rw [e] at hn1 hn2 hv1
        have hi := hIH hlv q.ppn (adr base i lv) hp hA
        have hl := hrec q.ppn (adr base i lv)
        have ha := zmm (rec q.ppn (adr base i lv))
        generalize rec q.ppn (adr base i lv) = ys at *
        repeat (first | (refine zaj rfl ?_; first | refine zak ?_ | refine gdr (zaa rfl rfl rfl (h1) (by kernel_rfl)) ?_ | refine gdr (zaa rfl rfl rfl (h3) (by kernel_rfl)) ?_ | refine gdr (zaa rfl rfl rfl (h4) (by kernel_rfl)) ?_ | refine gdr (zaa rfl rfl rfl (h5) (by kernel_rfl)) ?_ | refine gdr (zaa rfl rfl rfl (hi) (by kernel_rfl)) ?_ | refine gdr (za1 rfl rfl rfl rfl rfl rfl rfl rfl rfl rfl rfl rfl ha (by omega)) ?_) | (refine hK _ ?_; clear hK K) | refine zac rfl ?_ | refine zaf rfl rfl ?_ | refine zae rfl rfl ?_ | refine zag ?_ | refine zai ?_ | refine zab (fun K hK => ?_))
        exact ⟨(i + 1, n + ys.length, vs ++ flP ys), ⟨by show i + 1 ≤ 512; omega, hn1, hv1, hn2⟩, by show 512 - (i + 1) < 512 - i; omega, Sub.trans (zao [(1, .m (iu top)), (2, .m (ii lv)), (3, .m (iu base)), (4, .m (.c (.p 4 0))), (8, .m (.c (.v (.slice none 0 0)))), (9, .m (.c (.o 56))), (10, .m (ii ((i + 1 : Nat) : Int)))] [(4, .live (.box [cu sz, .s xs.length 2 (fl xs)])), (56, .live (.row 94 8 (n + ys.length) (vs ++ flP ys)))] ⟨by kernel_rfl, by kernel_rfl, by kernel_rfl, by kernel_rfl, by kernel_rfl, by kernel_rfl, by kernel_rfl, trivial⟩ ⟨by kernel_rfl, by kernel_rfl, trivial⟩ (by kernel_rfl)) (Sub.trans (zb4 (b := 56) (b' := 1000) rfl rfl) (zao _ _ ⟨by kernel_rfl, by kernel_rfl, by kernel_rfl, by kernel_rfl, by kernel_rfl, by kernel_rfl, by kernel_rfl, trivial⟩ ⟨by kernel_rfl, by kernel_rfl, trivial⟩ (by kernel_rfl)))⟩
  · have e : i = 512 := by omega
    subst e
    rw [← hL] at g2 g3
    obtain rfl : N = n := by rw [hN, g2]
    obtain rfl : XS = vs := by rw [hXS, g3]
    repeat (first | (refine zaj rfl ?_; first | refine zak ?_) | (refine hK _ ?_; clear hK K) | (rename_i K1 hK1; refine hK1 _ ?_; clear hK hK1; clear K) | refine zac rfl ?_ | exact zah (show zar _ _ _ = some _ by kernel_rfl) | refine zae rfl rfl ?_ | refine zal ?_ | refine zab (fun K hK => ?_))
section
variable (sz : Int) (xs : List (Int × Int)) (hs : Srt xs) (hu : Uw xs) (hn : xs.length ≤ 1000000)
include hs hu hn
theorem zm8 (t b : Int) (ht : 0 ≤ t ∧ t < 17592186044416) (hb : U b) : Ok 118 [za6 sz xs, iu t, ii 0, iu b] (.m (.c (.s (zbg sz xs 0 t b).length 8 (flP (zbg sz xs 0 t b))))) :=
  zll sz xs t b 0 (fun _ _ => []) ht hb (by omega) (by omega) hs hu hn (fun _ _ => by simp) (fun h => by omega) _ rfl
theorem zsp (t b : Int) (ht : 0 ≤ t ∧ t < 17592186044416) (hb : U b) : Ok 118 [za6 sz xs, iu t, ii 1, iu b] (.m (.c (.s (zbg sz xs 1 t b).length 8 (flP (zbg sz xs 1 t b))))) :=
  zll sz xs t b 1 (zbg sz xs 0) ht hb (by omega) (by omega) hs hu hn (fun t a => Nat.le_trans (zf8 sz xs t a) (by omega)) (fun _ t a h1 h2 => zm8 sz xs hs hu hn t a h1 h2) _ rfl
end
theorem zid {l : List Pg} {k : Nat} {p : Pg} (h : l[k]? = some p) : ((flP l).drop (k * 8)).take 8 = p.vs := zfo Pg.vs 8 (fun _ => rfl) l _ p h
theorem z2t (w : World) (x0 x1 x2 y0 y1 y2 : Int) (r w' x u d r' w'' x' u' d' : Bool) :
    (Op.equalIn 10000 94 (.agg #[.int .u64 x0, .int .u64 x1, .int .i64 x2, .bool r, .bool w', .bool x, .bool u, .bool d]) (.agg #[.int .u64 y0, .int .u64 y1, .int .i64 y2, .bool r', .bool w'', .bool x', .bool u', .bool d'])).run Tryz.prog w = .ok (x0 == y0 && (x1 == y1 && (x2 == y2 && ((r == r' && (w' == w'' && (x == x' && (u == u' && true)))) && (d == d' && true))))) w := by
  refine PoolC4.zc8 Tryz.underlying94 (by kernel_rfl) ?_
  refine PoolC4.zaz (by rfl) (by go_simp; rfl) (by go_simp; rfl) (by go_simp) ?_
  refine PoolC4.zaz (by rfl) (by go_simp; rfl) (by go_simp; rfl) (by go_simp) ?_
  refine PoolC4.zaz (by rfl) (by go_simp; rfl) (by go_simp; rfl) (by go_simp) ?_
  refine PoolC4.zaz (a := .agg #[.bool r, .bool w', .bool x, .bool u]) (b := .agg #[.bool r', .bool w'', .bool x', .bool u']) (by rfl) (by go_simp) (by go_simp) ?_ ?_
  · refine PoolC4.zc8 Tryz.underlying52 (by kernel_rfl) ?_
    refine PoolC4.zaz (by rfl) (by go_simp; rfl) (by go_simp; rfl) (by go_simp) ?_
    refine PoolC4.zaz (by rfl) (by go_simp; rfl) (by go_simp; rfl) (by go_simp) ?_
    refine PoolC4.zaz (by rfl) (by go_simp; rfl) (by go_simp; rfl) (by go_simp) ?_
    exact PoolC4.zaz (by rfl) (by go_simp; rfl) (by go_simp; rfl) (by go_simp) PoolC4.zcr
  · exact PoolC4.zaz (by rfl) (by go_simp; rfl) (by go_simp; rfl) (by go_simp) PoolC4.zcr
theorem zsq (l : List Pg) (hl : l.length ≤ 134217728) : Ok 14 [.c (.s l.length 8 (flP l)), .c (.s l.length 8 (flP l))] (.m (ib true)) := by
  refine zad 26 Tryz.func14 rfl rfl rfl rfl ?_ GG.to
  intro W A hG
  repeat (first | (refine zaj rfl ?_; first | refine zak ?_) | (refine hK _ ?_; clear hK K) | refine zac rfl ?_ | refine zae rfl rfl ?_ | refine zag ?_ | refine zai ?_ | refine zab (fun K hK => ?_))
  refine zay (α := Nat) (fun k => k ≤ l.length) (fun k => St.of [(0, .m (.c (.s l.length 8 (flP l)))), (1, .m (.c (.s l.length 8 (flP l)))), (5, .m (ii k))] []) (fun k => l.length - k) 0 (by omega) (zao _ _ ⟨rfl, rfl, rfl, trivial⟩ trivial rfl) ?_
  intro k hk
  by_cases hlt : k < l.length
  · obtain ⟨f, hf⟩ : ∃ f, l[k]? = some f := ⟨_, List.getElem?_eq_getElem hlt⟩
    have hx := zid hf
    have he : ∀ w, (Op.equalIn 10000 94 (.agg #[.int .u64 f.va, .int .u64 f.pa, .int .i64 f.lev, .bool f.r, .bool f.w, .bool f.x, .bool f.u, .bool f.d]) (.agg #[.int .u64 f.va, .int .u64 f.pa, .int .i64 f.lev, .bool f.r, .bool f.w, .bool f.x, .bool f.u, .bool f.d])).run Tryz.prog w = .ok true w := fun w => by rw [z2t]; simp
    repeat (first | (refine zaj rfl ?_; first | refine zak ?_ | refine gdr (zdr (us := [.int .u64 f.va, .int .u64 f.pa, .int .i64 f.lev, .bool f.r, .bool f.w, .bool f.x, .bool f.u, .bool f.d]) (vs := [.int .u64 f.va, .int .u64 f.pa, .int .i64 f.lev, .bool f.r, .bool f.w, .bool f.x, .bool f.u, .bool f.d]) he (by kernel_rfl) rfl rfl rfl rfl) ?_) | (refine hK _ ?_; clear hK K) | refine zac rfl ?_ | refine zam (by kernel_rfl) (by kernel_rfl) rfl ?_ | refine zaf rfl rfl ?_ | refine zae rfl rfl ?_ | refine zag ?_ | refine zai ?_ | refine zab (fun K hK => ?_))
    exact ⟨k + 1, by omega, by omega, zao _ _ ⟨rfl, rfl, rfl, trivial⟩ trivial rfl⟩
  · skip
    repeat (first | (refine zaj rfl ?_; first | refine zak ?_) | (refine hK _ ?_; clear hK K) | (rename_i K1 hK1; refine hK1 _ ?_; clear hK hK1; clear K) | refine zac rfl ?_ | exact zah (show zar _ _ _ = some _ by kernel_rfl) | refine zae rfl rfl ?_ | refine zal ?_ | refine zab (fun K hK => ?_))
end Go.Proofs.YtmkjfeamgknpfaaGreatDoor.RlB
namespace Go.Proofs.YtmkjfeamgknpfaaGreatDoor.RlC
open Go.RowKit Bv VaSpec Base MemL RegR Ax MemC PutC MemC3 TzC OkS SpA SpB SpC SpD SpE SpF SpH SpI SpJ SpN SpO RfA RfB RfC RfD LaA LaB LaC LaD LaE LaF LaG RlA RlB
open BitsC PteSpec
set_option maxRecDepth 10000
set_option maxHeartbeats 1000000
theorem zoz (k : Kr) (id : Int) : (zeu k id).length ≤ 134217728 := by
  unfold zeu
  split
  · exact Nat.le_trans (zf9 ..) (by omega)
  · split
    · simp
    · exact zt1 ..
theorem z2u {pa l : Int} (h : U pa) (hz : 0 < VaSpec.sz l) : lk0 pa l = if pa % VaSpec.sz l = 0 then 0 else 2 := by
  have e : zeq pa (VaSpec.sz l) = (pa % VaSpec.sz l == 0) := by unfold zeq; rw [if_neg (by omega)]
  unfold lk0
  rw [e]
  by_cases c : pa % VaSpec.sz l = 0 <;> simp [c]
theorem z2v {k : Kr} {pa l : Int} : lk1 k pa l = if pa < k.cd * 4096 ∧ VaSpec.sz l ≤ k.cd * 4096 - pa then 0 else 3 := by
  unfold lk1 inD
  by_cases c : pa < k.cd * 4096 <;> by_cases d : VaSpec.sz l ≤ k.cd * 4096 - pa <;> simp [c, d]
theorem zzp {n : Nat} {k : Kr} (h : InvL n k) (hn : n ≤ 90000) (id a pa l : Int) (p : Pm) (ha : U a) (hp : U pa) : Ok 36 [.ag k.ce, ii id, iu a, iu pa, ii l, .ag p.ce] (.tu [.ag (zpb k id a pa l p).1.ce, ii (zpb k id a pa l p).2]) := by
  have hw := zhe k id a l ha
  obtain ⟨R, hR⟩ : ∃ R, R = zpb k id a pa l p := ⟨_, rfl⟩
  rw [← hR]
  unfold zpb at hR
  by_cases c0 : (zas k id a l).2.2 ≠ 0
  · rw [if_pos c0] at hR
    generalize zas k id a l = w at *
    subst hR
    refine zad 105 Tryz.func36 rfl rfl rfl rfl ?_ GG.to
    intro W A hG
    repeat (first | (refine zaj rfl ?_; first | refine zak ?_ | refine gdr (zaa rfl rfl rfl (hw) (by kernel_rfl)) ?_) | (refine hK _ ?_; clear hK K) | refine zac rfl ?_ | exact zah (show zar _ _ _ = some _ by kernel_rfl) | refine zaf rfl rfl ?_ | refine zab (fun K hK => ?_))
  rw [if_neg c0] at hR
  obtain ⟨w1, w2, w3, w4⟩ := zbt (id := id) (a := a) (l := l) h (by omega)
  have c0 : (zas k id a l).2.2 = 0 := by omega
  rw [c0] at hw
  generalize (zas k id a l).1 = top at *
  generalize (zas k id a l).2.1 = lv at *
  have b1 := h.g.bd
  have b2 := h.g.bp
  have hz := zm6 l w1.1 w1.2
  have hzb := zok l w1.1 w1.2
  have hzp : 0 < VaSpec.sz l := by rcases VaSpec.lev w1.1 w1.2 with rfl | rfl | rfl <;> decide
  have ft : 0 ≤ top ∧ top < 17592186044416 := by have := w2.1; omega
  have hml := h.ml
  obtain ⟨lw, rfl⟩ := Int.eq_ofNat_of_zero_le (show 0 ≤ lv by omega)
  have hm := zso p
  have hre := zew k.sz k.m a l ha w1.1 h.g.s h.g.u (by omega) lw top (by omega) ft
  have hd := zzo k.cd k.cp k.sz top a l lw k.m k.pf h.g w2 ha (by omega) w1.1 w3 (by omega) _ rfl
  have hdg := zj6 k.cd k.cp k.sz a l w1.1 lw k.m k.pf top h.g w2
  have hpb := h.pb
  have hpm := h.pm
  have hmk := zit (n := pa / 4096) (p := p) (g := decide (id = -1))
  have hpn := zr9 (k := k) (pa := pa) (l := l) hp (by omega)
  have hpk := zmy (p := p)
  have e0 := z2u (l := l) hp hzp
  have e1 := z2v (k := k) (pa := pa) (l := l)
  have e2 : lk2 p = if zc2 p then 0 else 5 := rfl
  have e3 : lk3 k top lw a l = if !(atM k.sz k.m (zav k.sz k.m a l lw top).1 (idx a (zav k.sz k.m a l lw top).2)).v then 0 else 6 := rfl
  have hre : Ok 43 [za6 k.sz k.m, iu top, ii lw, iu a, ii l] (.m (.ag (za3 (zav k.sz k.m a l lw top).1 (zav k.sz k.m a l lw top).2 (atM k.sz k.m (zav k.sz k.m a l lw top).1 (idx a (zav k.sz k.m a l lw top).2))))) := hre
  unfold zui at hR
  rw [Int.toNat_natCast] at hR
  generalize lk0 pa l = q0 at *
  generalize lk1 k pa l = q1 at *
  generalize lk2 p = q2 at *
  generalize lk3 k top lw a l = q3 at *
  generalize VaSpec.sz l = z at *
  generalize dnN k.sz k.cd a l lw k.m k.pf top = D at *
  rw [← hpb, ← hpm] at hd
  generalize atM k.sz k.m (zav k.sz k.m a l lw top).1 (idx a (zav k.sz k.m a l lw top).2) = pe at *
  generalize (zav k.sz k.m a l lw top).1 = rt at *
  generalize (zav k.sz k.m a l lw top).2 = rl at *
  have p0 := hp.1
  have p1 := hp.2
  by_cases c1 : pa % z = 0
  rotate_left
  · rw [if_neg c1] at e0
    rw [if_pos (by omega), e0] at hR
    subst hR
    refine zad 105 Tryz.func36 rfl rfl rfl rfl ?_ GG.to
    intro W A hG
    repeat (first | (refine zaj rfl ?_; first | refine zak ?_ | refine gdr (zaa rfl rfl rfl (hw) (by kernel_rfl)) ?_ | refine gdr (zaa rfl rfl rfl (hz) (by kernel_rfl)) ?_) | (refine hK _ ?_; clear hK K) | refine zac rfl ?_ | exact zah (show zar _ _ _ = some _ by kernel_rfl) | refine zaf rfl rfl ?_ | refine zae rfl rfl ?_ | refine zai ?_ | refine zab (fun K hK => ?_))
  rw [if_pos c1] at e0
  rw [if_neg (by omega)] at hR
  by_cases c2 : pa < k.cd * 4096 ∧ z ≤ k.cd * 4096 - pa
  rotate_left
  · rw [if_neg c2] at e1
    rw [if_pos (by omega), e1] at hR
    subst hR
    by_cases c2' : k.cd * 4096 < z
    · refine zad 105 Tryz.func36 rfl rfl rfl rfl ?_ GG.to
      intro W A hG
      repeat (first | (refine zaj rfl ?_; first | refine zak ?_ | refine gdr (zaa rfl rfl rfl (hw) (by kernel_rfl)) ?_ | refine gdr (zaa rfl rfl rfl (hz) (by kernel_rfl)) ?_) | (refine hK _ ?_; clear hK K) | refine zac rfl ?_ | exact zah (show zar _ _ _ = some _ by kernel_rfl) | refine zaf rfl rfl ?_ | refine zae rfl rfl ?_ | refine zai ?_ | refine zab (fun K hK => ?_))
    · refine zad 105 Tryz.func36 rfl rfl rfl rfl ?_ GG.to
      intro W A hG
      repeat (first | (refine zaj rfl ?_; first | refine zak ?_ | refine gdr (zaa rfl rfl rfl (hw) (by kernel_rfl)) ?_ | refine gdr (zaa rfl rfl rfl (hz) (by kernel_rfl)) ?_) | (refine hK _ ?_; clear hK K) | refine zac rfl ?_ | exact zah (show zar _ _ _ = some _ by kernel_rfl) | refine zaf rfl rfl ?_ | refine zae rfl rfl ?_ | refine zai ?_ | refine zab (fun K hK => ?_))
  rw [if_pos c2] at e1
  rw [if_neg (by omega)] at hR
  cases hmay : zc2 p with
  | false =>
    rw [hmay] at hm e2
    rw [if_neg (by simp)] at e2
    rw [if_pos (by omega), e2] at hR
    subst hR
    refine zad 105 Tryz.func36 rfl rfl rfl rfl ?_ GG.to
    intro W A hG
    repeat (first | (refine zaj rfl ?_; first | refine zak ?_ | refine gdr (zaa rfl rfl rfl (hw) (by kernel_rfl)) ?_ | refine gdr (zaa rfl rfl rfl (hz) (by kernel_rfl)) ?_ | refine gdr (zaa rfl rfl rfl (hm) (by kernel_rfl)) ?_) | (refine hK _ ?_; clear hK K) | refine zac rfl ?_ | exact zah (show zar _ _ _ = some _ by kernel_rfl) | refine zaf rfl rfl ?_ | refine zae rfl rfl ?_ | refine zai ?_ | refine zab (fun K hK => ?_))
  | true =>
  rw [hmay] at hm e2
  rw [if_pos (by simp)] at e2
  rw [if_neg (by omega)] at hR
  obtain ⟨v0, v1, v2, v3, v4, v5, v6, v7, v8, v9, v10⟩ := pe
  cases v0 with
  | true =>
    rw [if_neg (by simp)] at e3
    rw [if_pos (by omega), e3] at hR
    subst hR
    refine zad 105 Tryz.func36 rfl rfl rfl rfl ?_ GG.to
    intro W A hG
    repeat (first | (refine zaj rfl ?_; first | refine zak ?_ | refine gdr (zaa rfl rfl rfl (hw) (by kernel_rfl)) ?_ | refine gdr (zaa rfl rfl rfl (hz) (by kernel_rfl)) ?_ | refine gdr (zaa rfl rfl rfl (hm) (by kernel_rfl)) ?_ | refine gdr (zaa rfl rfl rfl (hre) (by kernel_rfl)) ?_) | (refine hK _ ?_; clear hK K) | refine zac rfl ?_ | exact zah (show zar _ _ _ = some _ by kernel_rfl) | refine zaf rfl rfl ?_ | refine zae rfl rfl ?_ | refine zai ?_ | refine zab (fun K hK => ?_))
  | false =>
  rw [if_pos (by simp)] at e3
  rw [if_neg (by omega)] at hR
  obtain ⟨m2, f2, t2, e2'⟩ := D
  by_cases e : e2' = 0
  · subst e
    obtain ⟨d1, d2, d3, d4⟩ := hdg rfl
    have d1 : GM k.cd k.cp k.sz m2 f2 := d1
    have d2 : Al k.cd k.cp f2 t2 := d2
    have d3 : m2.length ≤ k.m.length + lw := d3
    have hd : Ok 99 [za6 k.sz k.m, .ag [cu k.pb, ci k.pm, cu k.pf], iu top, ii lw, iu a, ii l] (.tu [za6 k.sz m2, .ag [cu k.pb, ci k.pm, cu f2], .ag (za3 t2 l (atM k.sz m2 t2 (idx a l))), ii 0]) := hd
    have hR : R = (z5v k (m2, f2, t2, 0) a pa l p (decide (id = -1)), 0) := hR
    have hu := (hmk (hpn (by omega)) (hpk (by omega)))
    have hmy : zfe (mkP (pa / 4096) p (decide (id = -1))) = true := by rw [zcs]; unfold mkP; simp; have := hpn (by omega); omega
    have hwt := ze8 k.sz m2 t2 l (atM k.sz m2 t2 (idx a l)) a (mkP (pa / 4096) p (decide (id = -1))) ha hu.2.1 hmy w1.1 w1.2 ⟨by have := d2.1; omega, by have := d2.1; omega⟩ d1.s (by omega)
    rw [← d1.with d2 (idx_bd a l) hu.2.1] at hwt
    generalize atM k.sz m2 t2 (idx a l) = q at *
    by_cases c5 : id = -1
    · have hmp := zsn (pa / 4096) p true
      rw [decide_eq_true c5] at hwt hR
      subst hR
      refine zad 105 Tryz.func36 rfl rfl rfl rfl ?_ GG.to
      intro W A hG
      repeat (first | (refine zaj rfl ?_; first | refine zak ?_ | refine gdr (zaa rfl rfl rfl (hw) (by kernel_rfl)) ?_ | refine gdr (zaa rfl rfl rfl (hz) (by kernel_rfl)) ?_ | refine gdr (zaa rfl rfl rfl (hm) (by kernel_rfl)) ?_ | refine gdr (zaa rfl rfl rfl (hre) (by kernel_rfl)) ?_ | refine gdr (zaa rfl rfl rfl (hd) (by kernel_rfl)) ?_ | refine gdr (zaa rfl rfl rfl (hmp) (by kernel_rfl)) ?_ | refine gdr (zaa rfl rfl rfl (hwt) (by kernel_rfl)) ?_) | (refine hK _ ?_; clear hK K) | refine zac rfl ?_ | refine zam (by kernel_rfl) (by kernel_rfl) rfl ?_ | exact zah (show zar _ _ _ = some _ by kernel_rfl) | refine zae rfl rfl ?_ | refine zai ?_ | refine zab (fun K hK => ?_))
    · have hmp := zsn (pa / 4096) p false
      rw [decide_eq_false c5] at hwt hR
      subst hR
      refine zad 105 Tryz.func36 rfl rfl rfl rfl ?_ GG.to
      intro W A hG
      repeat (first | (refine zaj rfl ?_; first | refine zak ?_ | refine gdr (zaa rfl rfl rfl (hw) (by kernel_rfl)) ?_ | refine gdr (zaa rfl rfl rfl (hz) (by kernel_rfl)) ?_ | refine gdr (zaa rfl rfl rfl (hm) (by kernel_rfl)) ?_ | refine gdr (zaa rfl rfl rfl (hre) (by kernel_rfl)) ?_ | refine gdr (zaa rfl rfl rfl (hd) (by kernel_rfl)) ?_ | refine gdr (zaa rfl rfl rfl (hmp) (by kernel_rfl)) ?_ | refine gdr (zaa rfl rfl rfl (hwt) (by kernel_rfl)) ?_) | (refine hK _ ?_; clear hK K) | refine zac rfl ?_ | refine zam (by kernel_rfl) (by kernel_rfl) rfl ?_ | exact zah (show zar _ _ _ = some _ by kernel_rfl) | refine zae rfl rfl ?_ | refine zai ?_ | refine zab (fun K hK => ?_))
  · rw [if_neg (show ¬ (m2, f2, t2, e2').2.2.2 = 0 from e)] at hd
    rw [if_pos (show (m2, f2, t2, e2').2.2.2 ≠ 0 from e)] at hR
    have hd : Ok 99 [za6 k.sz k.m, .ag [cu k.pb, ci k.pm, cu k.pf], iu top, ii lw, iu a, ii l] (.tu [za6 k.sz k.m, .ag [cu k.pb, ci k.pm, cu k.pf], .ag (za3 0 0 zP), ii e2']) := hd
    have hR : R = (k, e2') := hR
    subst hR
    refine zad 105 Tryz.func36 rfl rfl rfl rfl ?_ GG.to
    intro W A hG
    repeat (first | (refine zaj rfl ?_; first | refine zak ?_ | refine gdr (zaa rfl rfl rfl (hw) (by kernel_rfl)) ?_ | refine gdr (zaa rfl rfl rfl (hz) (by kernel_rfl)) ?_ | refine gdr (zaa rfl rfl rfl (hm) (by kernel_rfl)) ?_ | refine gdr (zaa rfl rfl rfl (hre) (by kernel_rfl)) ?_ | refine gdr (zaa rfl rfl rfl (hd) (by kernel_rfl)) ?_) | (refine hK _ ?_; clear hK K) | refine zac rfl ?_ | exact zah (show zar _ _ _ = some _ by kernel_rfl) | refine zaf rfl rfl ?_ | refine zae rfl rfl ?_ | refine zai ?_ | refine zab (fun K hK => ?_))
end Go.Proofs.YtmkjfeamgknpfaaGreatDoor.RlC
namespace Go.Proofs.YtmkjfeamgknpfaaGreatDoor.LkA
open Go.RowKit Bv VaSpec Base MemL RegR Ax MemC PutC MemC3 TzC OkS SpA SpB SpC SpF SpH SpI SpJ LaA LaB LaC LaD LaE LaF LaG LiA LiB LiC LiD LiE LiF SpL SpN SpO RfA RfB RfC RfD RlA RlB LjB
open BitsC PteSpec
set_option maxRecDepth 10000
set_option maxHeartbeats 1000000
def reH (sz : Int) (xs : List (Int × Int)) (g : Int) (i : Nat) : St := St.of [(1, .m (iu g)), (2, .m (.c (.p 2 0))), (5, .m (ii i))] [(2, .live (.box [cu sz, .s xs.length 2 (fl xs)]))]
theorem zw8 (sz : Int) (xs : List (Int × Int)) (g : Int) (hg : U g) (hn : xs.length ≤ 1000000) (hc : ∀ c ∈ xs, U c.1) : Ok 150 [za6 sz xs, iu g] (.m (ib (zct xs g))) := by
  obtain ⟨R, hR⟩ : ∃ R, R = zct xs g := ⟨_, rfl⟩
  rw [← hR]
  refine zad 22 Tryz.func150 rfl rfl rfl rfl ?_ GG.to
  intro W A hG
  repeat (first | (refine zaj rfl ?_; first | refine zak ?_) | (refine hK _ ?_; clear hK K) | refine zac rfl ?_ | refine zag ?_ | refine zab (fun K hK => ?_))
  refine zay (α := Nat) (fun i => i ≤ xs.length ∧ ∀ c ∈ xs.take i, c.1 / 512 ≠ g) (fun i => reH sz xs g i) (fun i => xs.length - i) 0 ⟨Nat.zero_le _, fun c hc => by simp at hc⟩ (zao _ _ ⟨by kernel_rfl, by kernel_rfl, by kernel_rfl, trivial⟩ ⟨by kernel_rfl, trivial⟩ (by kernel_rfl)) ?_
  rintro i ⟨x1, x2⟩
  show Aw _ _ _ _ (reH sz xs g i)
  unfold reH
  by_cases hlt : i < xs.length
  · obtain ⟨c, hci⟩ : ∃ c, xs[i]? = some c := ⟨_, List.getElem?_eq_getElem hlt⟩
    have hx := SpL.zic hci
    have hcU := hc c (List.mem_of_getElem? hci)
    have hc0 := hcU.1
    have hc1 := hcU.2
    have ht : xs.take (i + 1) = xs.take i ++ [c] := by rw [List.take_add_one, hci]; rfl
    by_cases e : c.1 / 512 = g
    · have hf : R = false := by
        rw [hR]; unfold zct
        simp only [Bool.not_eq_false', List.any_eq_true, decide_eq_true_eq]
        exact ⟨c, List.mem_of_getElem? hci, e⟩
      subst hf
      clear hR x2 ht hci hc
      repeat (first | (refine zaj rfl ?_; first | refine zak ?_) | (refine hK _ ?_; clear hK K) | refine zac rfl ?_ | exact zah (show zar _ _ _ = some _ by kernel_rfl) | refine zaf rfl rfl ?_ | refine zag ?_ | refine zai ?_ | refine zab (fun K hK => ?_))
    · have x3 : ∀ c ∈ xs.take (i + 1), c.1 / 512 ≠ g := fun d hd => by
        rw [ht] at hd
        rcases List.mem_append.1 hd with h | h
        · exact x2 d h
        · rw [List.mem_singleton.1 h]; exact e
      clear hR x2 ht hci hc
      repeat (first | (refine zaj rfl ?_; first | refine zak ?_) | (refine hK _ ?_; clear hK K) | refine zac rfl ?_ | refine zaf rfl rfl ?_ | refine zae rfl rfl ?_ | refine zag ?_ | refine zai ?_ | refine zab (fun K hK => ?_))
      exact ⟨i + 1, ⟨by omega, x3⟩, by omega, zao _ _ ⟨by kernel_rfl, by kernel_rfl, by kernel_rfl, trivial⟩ ⟨by kernel_rfl, trivial⟩ (by kernel_rfl)⟩
  · have ei : i = xs.length := by omega
    rw [ei, List.take_length] at x2
    have hf : R = true := by
      rw [hR]; unfold zct
      simp only [Bool.not_eq_true', List.any_eq_false, decide_eq_true_eq]
      exact x2
    subst hf
    clear hR x2 hc
    repeat (first | (refine zaj rfl ?_; first | refine zak ?_) | (refine hK _ ?_; clear hK K) | (rename_i K1 hK1; refine hK1 _ ?_; clear hK hK1; clear K) | refine zac rfl ?_ | exact zah (show zar _ _ _ = some _ by kernel_rfl) | refine zae rfl rfl ?_ | refine zal ?_ | refine zab (fun K hK => ?_))
def z54 (sz : Int) (xs : List (Int × Int)) (top lv : Int) (i n : Nat) (vs : List Value) : St := St.of [(1, .m (iu top)), (2, .m (ii lv)), (3, .m (.c (.p 3 0))), (6, .m (.c (.v (.slice none 0 0)))), (7, .m (.c (.o 1000))), (8, .m (ii i))] [(3, .live (.box [cu sz, .s xs.length 2 (fl xs)])), (1000, .live (.row 25 1 n vs))]
theorem zkg (sz : Int) (xs : List (Int × Int)) (top lv : Int) (rec : Int → List Int) (ht : 0 ≤ top ∧ top < 17592186044416) (h0 : 0 ≤ lv) (h2 : lv ≤ 2) (hs : Srt xs) (hu : Uw xs) (hn : xs.length ≤ 1000000) (hrec : ∀ t, (rec t).length ≤ 1000)
    (hIH : 1 ≤ lv → ∀ t, (0 ≤ t ∧ t < 17592186044416) → Ok 93 [za6 sz xs, iu t, ii (lv - 1)] (.m (.c (.s (rec t).length 1 (vsI (rec t))))))
    (L : List Int) (hL : L = top :: (List.range 512).flatMap fun (i : Nat) => zih rec (atM sz xs top i) lv) :
    Ok 93 [za6 sz xs, iu top, ii lv] (.m (.c (.s L.length 1 (vsI L)))) := by
  obtain ⟨N, hN⟩ : ∃ N, N = L.length := ⟨_, rfl⟩
  obtain ⟨XS, hXS⟩ : ∃ XS, XS = vsI L := ⟨_, rfl⟩
  rw [← hN, ← hXS]
  obtain ⟨E, hE0⟩ : ∃ E : Nat → List Int, E = fun (i : Nat) => zih rec (atM sz xs top i) lv := ⟨_, rfl⟩
  rw [← hE0] at hL
  have hEl : ∀ i, (E i).length ≤ 1000 := fun i => by
    rw [hE0]
    show (zih rec (atM sz xs top i) lv).length ≤ 1000
    unfold zih
    split
    · exact hrec _
    · simp
  refine zad 32 Tryz.func93 rfl rfl rfl rfl ?_ GG.to
  intro W A hG
  repeat (first | (refine zaj rfl ?_; first | refine zak ?_) | (refine hK _ ?_; clear hK K) | refine zac rfl ?_ | refine zag ?_ | refine zab (fun K hK => ?_))
  refine zay (α := Nat × Nat × List Value) (fun q => q.1 ≤ 512 ∧ q.2.1 = (top :: (List.range q.1).flatMap E).length ∧ q.2.2 = vsI (top :: (List.range q.1).flatMap E) ∧ q.2.1 ≤ 1 + q.1 * 1000) (fun q => z54 sz xs top lv q.1 q.2.1 q.2.2) (fun q => 512 - q.1) (0, 1, [.int .u64 top]) ⟨by show 0 ≤ 512; omega, rfl, rfl, by show 1 ≤ 1 + 0 * 1000; omega⟩ (Sub.trans (zao [(1, .m (iu top)), (2, .m (ii lv)), (3, .m (.c (.p 3 0))), (6, .m (.c (.v (.slice none 0 0)))), (7, .m (.c (.o 11))), (8, .m (ii 0))] [(3, .live (.box [cu sz, .s xs.length 2 (fl xs)])), (11, .live (.row 25 1 1 [.int .u64 top]))] ⟨by kernel_rfl, by kernel_rfl, by kernel_rfl, by kernel_rfl, by kernel_rfl, by kernel_rfl, trivial⟩ ⟨by kernel_rfl, by kernel_rfl, trivial⟩ (by kernel_rfl)) (Sub.trans (zb4 (b := 11) (b' := 1000) rfl rfl) (zao _ _ ⟨by kernel_rfl, by kernel_rfl, by kernel_rfl, by kernel_rfl, by kernel_rfl, by kernel_rfl, trivial⟩ ⟨by kernel_rfl, by kernel_rfl, trivial⟩ (by kernel_rfl)))) ?_
  rintro ⟨i, n, vs⟩ ⟨y1, y2, y3, y4⟩
  have g1 : i ≤ 512 := y1
  have g2 : n = (top :: (List.range i).flatMap E).length := y2
  have g3 : vs = vsI (top :: (List.range i).flatMap E) := y3
  have g4 : n ≤ 1 + i * 1000 := y4
  clear y1 y2 y3 y4
  show Aw _ _ _ _ (z54 sz xs top lv i n vs)
  unfold z54
  by_cases hlt : i < 512
  · have h1 := zh3 sz xs top i ht ⟨by omega, by omega⟩ hs hu hn
    have hU := zem hu sz top (i : Int)
    have hp := zch (xs := xs) sz top (i : Int)
    have hEi : E i = zih rec (atM sz xs top i) lv := by rw [hE0]
    have hn1 : n + (E i).length = (top :: (List.range (i + 1)).flatMap E).length := by rw [zm7, List.length_cons, List.length_append, g2, List.length_cons]; omega
    have hv1 : vs ++ vsI (E i) = vsI (top :: (List.range (i + 1)).flatMap E) := by rw [zm7, g3]; unfold vsI; simp
    have hn2 : n + (E i).length ≤ 1 + (i + 1) * 1000 := by have := hEl i; omega
    have h4 := zoy _ hU lv h0 h2
    clear g2 g3 hL hE0 hEl hN hXS
    generalize atM sz xs top (i : Int) = q at *
    cases hlk : za9 q lv with
    | false =>
      have e : E i = [] := by rw [hEi]; unfold zih; rw [hlk]; rfl
      rw [hlk] at h4
      rw [e, show vsI [] = [] from rfl, List.append_nil] at hv1
      rw [e, List.length_nil, Nat.add_zero] at hn1 hn2
      clear hEi
      repeat (first | (refine zaj rfl ?_; first | refine zak ?_ | refine gdr (zaa rfl rfl rfl (h1) (by kernel_rfl)) ?_ | refine gdr (zaa rfl rfl rfl (h4) (by kernel_rfl)) ?_) | (refine hK _ ?_; clear hK K) | refine zac rfl ?_ | refine zaf rfl rfl ?_ | refine zae rfl rfl ?_ | refine zag ?_ | refine zai ?_ | refine zab (fun K hK => ?_))
      exact ⟨(i + 1, n, vs), ⟨by show i + 1 ≤ 512; omega, hn1, hv1, hn2⟩, by show 512 - (i + 1) < 512 - i; omega, zao _ _ ⟨by kernel_rfl, by kernel_rfl, by kernel_rfl, by kernel_rfl, by kernel_rfl, by kernel_rfl, trivial⟩ ⟨by kernel_rfl, by kernel_rfl, trivial⟩ (by kernel_rfl)⟩
    | true =>
      rw [hlk] at h4
      have hlv : 1 ≤ lv := by
        rcases (by omega : lv = 0 ∨ 1 ≤ lv) with rfl | h
        · exfalso
          unfold za9 at hlk
          simp only [Bool.and_eq_true, Bool.not_eq_true'] at hlk
          have : zc5 q 0 = true := by unfold zc5; rw [hlk.1]; simp
          rw [this] at hlk
          exact absurd hlk.2 (by simp)
        · exact h
      have e : E i = rec q.ppn := by rw [hEi]; unfold zih; rw [hlk]; rfl
      rw [e] at hn1 hn2 hv1
      have hi := hIH hlv q.ppn hp
      have hl := hrec q.ppn
      have ha := zq3 (rec q.ppn)
      clear hEi e
      generalize rec q.ppn = ys at *
      repeat (first | (refine zaj rfl ?_; first | refine zak ?_ | refine gdr (zaa rfl rfl rfl (h1) (by kernel_rfl)) ?_ | refine gdr (zaa rfl rfl rfl (h4) (by kernel_rfl)) ?_ | refine gdr (zaa rfl rfl rfl (hi) (by kernel_rfl)) ?_ | refine gdr (za1 rfl rfl rfl rfl rfl rfl rfl rfl rfl rfl rfl rfl ha (by omega)) ?_) | (refine hK _ ?_; clear hK K) | refine zac rfl ?_ | refine zaf rfl rfl ?_ | refine zag ?_ | refine zai ?_ | refine zab (fun K hK => ?_))
      exact ⟨(i + 1, n + ys.length, vs ++ vsI ys), ⟨by show i + 1 ≤ 512; omega, hn1, hv1, hn2⟩, by show 512 - (i + 1) < 512 - i; omega, Sub.trans (zao [(1, .m (iu top)), (2, .m (ii lv)), (3, .m (.c (.p 3 0))), (6, .m (.c (.v (.slice none 0 0)))), (7, .m (.c (.o 30))), (8, .m (ii ((i + 1 : Nat) : Int)))] [(3, .live (.box [cu sz, .s xs.length 2 (fl xs)])), (30, .live (.row 25 1 (n + ys.length) (vs ++ vsI ys)))] ⟨by kernel_rfl, by kernel_rfl, by kernel_rfl, by kernel_rfl, by kernel_rfl, by kernel_rfl, trivial⟩ ⟨by kernel_rfl, by kernel_rfl, trivial⟩ (by kernel_rfl)) (Sub.trans (zb4 (b := 30) (b' := 1000) rfl rfl) (zao _ _ ⟨by kernel_rfl, by kernel_rfl, by kernel_rfl, by kernel_rfl, by kernel_rfl, by kernel_rfl, trivial⟩ ⟨by kernel_rfl, by kernel_rfl, trivial⟩ (by kernel_rfl)))⟩
  · have e : i = 512 := by omega
    subst e
    rw [← hL] at g2 g3
    obtain rfl : N = n := by rw [hN, g2]
    obtain rfl : XS = vs := by rw [hXS, g3]
    repeat (first | (refine zaj rfl ?_; first | refine zak ?_) | (refine hK _ ?_; clear hK K) | (rename_i K1 hK1; refine hK1 _ ?_; clear hK hK1; clear K) | refine zac rfl ?_ | exact zah (show zar _ _ _ = some _ by kernel_rfl) | refine zae rfl rfl ?_ | refine zal ?_ | refine zab (fun K hK => ?_))
section
variable (sz : Int) (xs : List (Int × Int)) (hs : Srt xs) (hu : Uw xs) (hn : xs.length ≤ 1000000)
include hs hu hn
theorem zo0 (t : Int) (ht : 0 ≤ t ∧ t < 17592186044416) : Ok 93 [za6 sz xs, iu t, ii 0] (.m (.c (.s (frN sz xs 0 t).length 1 (vsI (frN sz xs 0 t))))) :=
  zkg sz xs t 0 (fun _ => []) ht (by omega) (by omega) hs hu hn (fun _ => by simp) (fun h => by omega) _ (zsk sz xs hs hu t)
theorem zw9 (t : Int) (ht : 0 ≤ t ∧ t < 17592186044416) : Ok 93 [za6 sz xs, iu t, ii 1] (.m (.c (.s (frN sz xs 1 t).length 1 (vsI (frN sz xs 1 t))))) :=
  zkg sz xs t 1 (frN sz xs 0) ht (by omega) (by omega) hs hu hn (fun _ => by simp [frN]) (fun _ t h1 => zo0 sz xs hs hu hn t h1) _ rfl
end
end Go.Proofs.YtmkjfeamgknpfaaGreatDoor.LkA
namespace Go.Proofs.YtmkjfeamgknpfaaGreatDoor.LjC
open Go.RowKit Bv VaSpec Base MemL RegR Ax MemC PutC MemC3 TzC OkS SpA SpB SpC SpF SpH SpI SpJ LaA LaB LaC LaD LaE LaF LaG LiA LiB LiC LiD LiE LiF
open BitsC PteSpec
set_option maxRecDepth 10000
set_option maxHeartbeats 1000000
def leH (sz cd cp a t l g b : Int) (q : Pte) (xs : List (Int × Int)) (f : Int) (i : Nat) (n : Int) : St := St.of [(3, .m (iu a)), (6, .m (.c (.p 6 0))), (8, .m (.c (.p 8 0))), (9, .m (.c (.p 9 0))), (10, .m (ii 0)), (11, .m (.c (.p 11 0))), (12, .m (.c (.p 12 0))), (13, .m (iu g)), (15, .m (.c (.p 15 0))), (16, .m (iu b)), (37, .m (iu i))] [(6, .live (.box (za3 t l q))), (8, .live (.box [cu 0, .v (.slice none 0 0)])), (9, .live (.box [cu 0, ci 0, cu 0])), (11, .live (.box [cu sz, .s xs.length 2 (fl xs)])), (12, .live (.box [cu cd, ci cp, cu f])), (15, .live (.box [cb q.v, cb q.r, cb q.w, cb q.x, cb q.u, cb q.g, cb q.a, cb q.d, cu q.rsw, cu n, cu q.high]))]
theorem zsr {a i : Int} (l : Int) (hl : l = 1 ∨ l = 2) (ha : U a) (hi : 0 ≤ i ∧ i < 512) : idx (VaSpec.base a l + i * VaSpec.sz (l - 1)) (l - 1) = i ∧ U (VaSpec.base a l + i * VaSpec.sz (l - 1)) ∧ U (VaSpec.base a l) ∧ VaSpec.base a l + 512 * VaSpec.sz (l - 1) ≤ 18446744073709551616 := by
  obtain ⟨a0, a1⟩ := ha
  unfold VaSpec.base idx
  rcases hl with rfl | rfl
  · simp only [show VaSpec.sz 1 = 2097152 from rfl, show VaSpec.sz (1 - 1) = 4096 from rfl]
    exact ⟨by omega, ⟨by omega, by omega⟩, ⟨by omega, by omega⟩, by omega⟩
  · simp only [show VaSpec.sz 2 = 1073741824 from rfl, show VaSpec.sz (2 - 1) = 2097152 from rfl]
    exact ⟨by omega, ⟨by omega, by omega⟩, ⟨by omega, by omega⟩, by omega⟩
theorem z2w (cd cp sz : Int) (xs : List (Int × Int)) (t l : Int) (q : Pte) (a : Int) (hb : 0 ≤ cd ∧ cd ≤ 268435456) (hm : 0 ≤ cp ∧ cp ≤ 64) : Ok 119 [za6 sz xs, .ag [cu cd, ci cp, cu 0], .ag (za3 t l q), iu a] (.tu [za6 sz xs, .ag [cu cd, ci cp, cu 0], ii 8]) := by
  have hf := zhu sz xs cd cp hb hm
  refine zad 76 Tryz.func119 rfl rfl rfl rfl ?_ GG.to
  intro W A hG
  repeat (first | (refine zaj rfl ?_; first | refine zak ?_ | refine gdr (zaa rfl rfl rfl (hf) (by kernel_rfl)) ?_) | (refine hK _ ?_; clear hK K) | refine zac rfl ?_ | refine zam (by kernel_rfl) (by kernel_rfl) rfl ?_ | exact zah (show zar _ _ _ = some _ by kernel_rfl) | refine zaf rfl rfl ?_ | refine zab (fun K hK => ?_))
theorem zzq {cd cp sz f sh : Int} {xs : List (Int × Int)} {lv : Int → Int} (h : TI cd cp sz xs f sh lv) (h0 : f ≠ 0) (hn : xs.length ≤ 100000) {t a : Int} {q : Pte} (ha : U a) (ht : Al cd cp f t) (hq : q = atM sz xs t (idx a 1)) (h1 : za2 q = true) (h2 : zc5 q 1 = false) :
    Ok 119 [za6 sz xs, .ag [cu cd, ci cp, cu f], .ag (za3 t 1 q), iu a] (.tu [za6 sz (zga sz xs t (idx a 1) 1 q (cd + tzI f)), .ag [cu cd, ci cp, cu (zbr f (tzI f) 1 0)], ii 0]) := by
  obtain ⟨a0, a1, a2, a3⟩ := zdf h h0
  have b1 := h.bd
  have b2 := h.bp
  have bz := h.bz
  have bt := ht.1
  have hqU : q.U := by rw [hq]; exact zem h.u _ _ _
  have hqm : zfe q = true := by rw [hq]; exact zgk h.u
  have hf := zf3 sz xs cd cp f (by omega) (by omega) h.uf h0 h.s (by omega)
  rw [h.gm.wipe h0] at hf
  have hg : 0 ≤ cd + tzI f ∧ cd + tzI f < 1099511627776 := by omega
  have hgz : (cd + tzI f) * 4096 + 4096 ≤ sz := by omega
  have hi := idx_bd a 1
  have hba := zg3 a 1 ha (by omega) (by omega)
  have hsz : Ok 66 [ii 0] (.m (iu 4096)) := zfr 0 (by omega) (by omega)
  have hsz1 : Ok 66 [ii 1] (.m (iu 2097152)) := zfr 1 (by omega) (by omega)
  have hln := zqn (cd + tzI f)
  have hlU := zgf (n := cd + tzI f) (by omega)
  have hRs := zfu (g := cd + tzI f) (v := fun j => PteC.zbu (prt q 1 j)) h.s
  have hRl := zhz xs (cd + tzI f) (fun j => PteC.zbu (prt q 1 j))
  have hRm := fun i => zm0 (xs := xs) (g := cd + tzI f) (v := fun j => PteC.zbu (prt q 1 j)) i
  have hxu := h.u
  have hpU : ∀ i : Int, (0 ≤ i ∧ i < 512) → (prt q 1 i).U := fun i hi => (zcp hqU hqm (by omega) h1 h2 hi).1
  have hRu : ∀ i, i ≤ 512 → Uw (zd2 xs (cd + tzI f) (fun j => PteC.zbu (prt q 1 j)) i) := fun i hi c hc => by
    rcases hRm i c hc with hc | ⟨j, hj, rfl, _⟩
    · exact hxu c hc
    · exact ⟨⟨by show 0 ≤ (cd + tzI f) * 512 + (j : Int); omega, by show (cd + tzI f) * 512 + (j : Int) < 18446744073709551616; omega⟩, zfb _ (hpU j (by omega))⟩
  have hfin := zdz sz (zd2 xs (cd + tzI f) (fun j => PteC.zbu (prt q 1 j)) 512) t 1 q a (lnk (cd + tzI f)) ha hlU (by omega) (by omega) (by omega) (hRs 512) (hRu 512 (by omega)) (by have := hRl 512; omega)
  have hpb : 0 ≤ q.ppn ∧ q.ppn < 17592186044416 := by rw [hq]; exact zch ..
  refine zad 76 Tryz.func119 rfl rfl rfl rfl ?_ GG.to
  intro W A hG
  unfold zga
  generalize hgen : cd + tzI f = g at *
  generalize zbr f (tzI f) 1 0 = f2 at *
  repeat (first | (refine zaj rfl ?_; first | refine zak ?_ | refine gdr (zaa rfl rfl rfl (hf) (by kernel_rfl)) ?_ | refine gdr (zaa rfl rfl rfl (hba) (by kernel_rfl)) ?_) | (refine hK _ ?_; clear hK K) | refine zac rfl ?_ | refine zae rfl rfl ?_ | refine zag ?_ | refine zai ?_ | refine zab (fun K hK => ?_))
  refine zay (α := Nat × Int) (fun p => p.1 ≤ 512) (fun p => leH sz cd cp a t 1 g (VaSpec.base a 1) q (zd2 xs g (fun j => PteC.zbu (prt q 1 j)) p.1) f2 p.1 p.2) (fun p => 512 - p.1) (0, q.ppn) (by show 0 ≤ 512; omega) (zao _ _ ⟨by kernel_rfl, by kernel_rfl, by kernel_rfl, by kernel_rfl, by kernel_rfl, by kernel_rfl, by kernel_rfl, by kernel_rfl, by kernel_rfl, by kernel_rfl, by kernel_rfl, trivial⟩ ⟨by kernel_rfl, by kernel_rfl, by kernel_rfl, by kernel_rfl, by kernel_rfl, by kernel_rfl, trivial⟩ (by kernel_rfl)) ?_
  rintro ⟨i, n⟩ x1
  have g1 : i ≤ 512 := x1
  show Aw _ _ _ _ (leH sz cd cp a t 1 g (VaSpec.base a 1) q (zd2 xs g (fun j => PteC.zbu (prt q 1 j)) i) f2 i n)
  unfold leH
  by_cases hlt : i < 512
  · obtain ⟨e1, e2, e3, e4⟩ := zsr (a := a) (i := (i : Int)) 1 (by omega) ha (by omega)
    have e1 : idx (VaSpec.base a 1 + (i : Int) * 4096) (1 - 1) = (i : Int) := e1
    have e2 : U (VaSpec.base a 1 + (i : Int) * 4096) := e2
    have e4 : VaSpec.base a 1 + 512 * 4096 ≤ 18446744073709551616 := e4
    have epp : q.ppn + (i : Int) * 4096 / 4096 = q.ppn + (i : Int) * 1 := by omega
    have hwt := zdz sz (zd2 xs g (fun j => PteC.zbu (prt q 1 j)) i) g (1 - 1) ⟨false, false, false, false, false, false, false, false, 0, 0, 0⟩ (VaSpec.base a 1 + (i : Int) * 4096) (prt q 1 i) e2 (hpU i (by omega)) (by omega) (by omega) hg (hRs i) (hRu i g1) (by have := hRl i; omega)
    rw [e1, zdd (hpU i (by omega)) hg.1 (by omega) (by omega)] at hwt
    have hrw : prt q 1 (i : Int) = ⟨q.v, q.r, q.w, q.x, q.u, q.g, q.a, q.d, q.rsw, q.ppn + (i : Int) * 4096 / 4096, q.high⟩ := by rw [epp]; rfl
    have hwt : Ok 54 [za6 sz (zd2 xs g (fun j => PteC.zbu (prt q 1 j)) i), .ag (za3 g (1 - 1) ⟨false, false, false, false, false, false, false, false, 0, 0, 0⟩), iu (VaSpec.base a 1 + (i : Int) * 4096), .ag (⟨q.v, q.r, q.w, q.x, q.u, q.g, q.a, q.d, q.rsw, q.ppn + (i : Int) * 4096 / 4096, q.high⟩ : Pte).ce] (.m (za6 sz (zd2 xs g (fun j => PteC.zbu (prt q 1 j)) (i + 1)))) := by
      rw [← hrw]; exact hwt
    obtain ⟨ys1, hys⟩ : ∃ ys1, ys1 = zd2 xs g (fun j => PteC.zbu (prt q 1 j)) (i + 1) := ⟨_, rfl⟩
    rw [← hys] at hwt
    generalize zd2 xs g (fun j => PteC.zbu (prt q 1 j)) i = ys at *
    have hb0 := e3.1
    generalize VaSpec.base a 1 = b at *
    repeat (first | (refine zaj rfl ?_; first | refine zak ?_ | refine gdr (zaa rfl rfl rfl (hsz) (by kernel_rfl)) ?_ | refine gdr (zaa rfl rfl rfl (hwt) (by kernel_rfl)) ?_) | (refine hK _ ?_; clear hK K) | refine zac rfl ?_ | refine zam (by kernel_rfl) (by kernel_rfl) rfl ?_ | refine zaf rfl rfl ?_ | refine zag ?_ | refine zai ?_ | refine zab (fun K hK => ?_))
    refine ⟨(i + 1, q.ppn + (i : Int) * 4096 / 4096), by show i + 1 ≤ 512; omega, by show 512 - (i + 1) < 512 - i; omega, ?_⟩
    show Sub _ _ (leH sz cd cp a t 1 g b q (zd2 xs g (fun j => PteC.zbu (prt q 1 j)) (i + 1)) f2 (i + 1) (q.ppn + (i : Int) * 4096 / 4096))
    rw [← hys]
    exact zao _ _ ⟨by kernel_rfl, by kernel_rfl, by kernel_rfl, by kernel_rfl, by kernel_rfl, by kernel_rfl, by kernel_rfl, by kernel_rfl, by kernel_rfl, by kernel_rfl, by kernel_rfl, trivial⟩ ⟨by kernel_rfl, by kernel_rfl, by kernel_rfl, by kernel_rfl, by kernel_rfl, by kernel_rfl, trivial⟩ (by kernel_rfl)
  · obtain rfl : i = 512 := by omega
    generalize zd2 xs g (fun j => PteC.zbu (prt q 1 j)) 512 = ys at *
    repeat (first | (refine zaj rfl ?_; first | refine zak ?_ | refine gdr (zaa rfl rfl rfl (hln) (by kernel_rfl)) ?_ | refine gdr (zaa rfl rfl rfl (hfin) (by kernel_rfl)) ?_) | (refine hK _ ?_; clear hK K) | (rename_i K1 hK1; refine hK1 _ ?_; clear hK hK1; clear K) | refine zac rfl ?_ | refine zam (by kernel_rfl) (by kernel_rfl) rfl ?_ | exact zah (show zar _ _ _ = some _ by kernel_rfl) | refine zae rfl rfl ?_ | refine zal ?_ | refine zab (fun K hK => ?_))
theorem zzr {cd cp sz f sh : Int} {xs : List (Int × Int)} {lv : Int → Int} (h : TI cd cp sz xs f sh lv) (h0 : f ≠ 0) (hn : xs.length ≤ 100000) {t a : Int} {q : Pte} (ha : U a) (ht : Al cd cp f t) (hq : q = atM sz xs t (idx a 2)) (h1 : za2 q = true) (h2 : zc5 q 2 = false) :
    Ok 119 [za6 sz xs, .ag [cu cd, ci cp, cu f], .ag (za3 t 2 q), iu a] (.tu [za6 sz (zga sz xs t (idx a 2) 2 q (cd + tzI f)), .ag [cu cd, ci cp, cu (zbr f (tzI f) 1 0)], ii 0]) := by
  obtain ⟨a0, a1, a2, a3⟩ := zdf h h0
  have b1 := h.bd
  have b2 := h.bp
  have bz := h.bz
  have bt := ht.1
  have hqU : q.U := by rw [hq]; exact zem h.u _ _ _
  have hqm : zfe q = true := by rw [hq]; exact zgk h.u
  have hf := zf3 sz xs cd cp f (by omega) (by omega) h.uf h0 h.s (by omega)
  rw [h.gm.wipe h0] at hf
  have hg : 0 ≤ cd + tzI f ∧ cd + tzI f < 1099511627776 := by omega
  have hgz : (cd + tzI f) * 4096 + 4096 ≤ sz := by omega
  have hi := idx_bd a 2
  have hba := zg3 a 2 ha (by omega) (by omega)
  have hsz : Ok 66 [ii 0] (.m (iu 4096)) := zfr 0 (by omega) (by omega)
  have hsz1 : Ok 66 [ii 1] (.m (iu 2097152)) := zfr 1 (by omega) (by omega)
  have hln := zqn (cd + tzI f)
  have hlU := zgf (n := cd + tzI f) (by omega)
  have hRs := zfu (g := cd + tzI f) (v := fun j => PteC.zbu (prt q 2 j)) h.s
  have hRl := zhz xs (cd + tzI f) (fun j => PteC.zbu (prt q 2 j))
  have hRm := fun i => zm0 (xs := xs) (g := cd + tzI f) (v := fun j => PteC.zbu (prt q 2 j)) i
  have hxu := h.u
  have hpU : ∀ i : Int, (0 ≤ i ∧ i < 512) → (prt q 2 i).U := fun i hi => (zcp hqU hqm (by omega) h1 h2 hi).1
  have hRu : ∀ i, i ≤ 512 → Uw (zd2 xs (cd + tzI f) (fun j => PteC.zbu (prt q 2 j)) i) := fun i hi c hc => by
    rcases hRm i c hc with hc | ⟨j, hj, rfl, _⟩
    · exact hxu c hc
    · exact ⟨⟨by show 0 ≤ (cd + tzI f) * 512 + (j : Int); omega, by show (cd + tzI f) * 512 + (j : Int) < 18446744073709551616; omega⟩, zfb _ (hpU j (by omega))⟩
  have hfin := zdz sz (zd2 xs (cd + tzI f) (fun j => PteC.zbu (prt q 2 j)) 512) t 2 q a (lnk (cd + tzI f)) ha hlU (by omega) (by omega) (by omega) (hRs 512) (hRu 512 (by omega)) (by have := hRl 512; omega)
  have hpb : 0 ≤ q.ppn ∧ q.ppn < 17592186044416 := by rw [hq]; exact zch ..
  refine zad 76 Tryz.func119 rfl rfl rfl rfl ?_ GG.to
  intro W A hG
  unfold zga
  generalize hgen : cd + tzI f = g at *
  generalize zbr f (tzI f) 1 0 = f2 at *
  repeat (first | (refine zaj rfl ?_; first | refine zak ?_ | refine gdr (zaa rfl rfl rfl (hf) (by kernel_rfl)) ?_ | refine gdr (zaa rfl rfl rfl (hba) (by kernel_rfl)) ?_) | (refine hK _ ?_; clear hK K) | refine zac rfl ?_ | refine zae rfl rfl ?_ | refine zag ?_ | refine zai ?_ | refine zab (fun K hK => ?_))
  refine zay (α := Nat × Int) (fun p => p.1 ≤ 512) (fun p => leH sz cd cp a t 2 g (VaSpec.base a 2) q (zd2 xs g (fun j => PteC.zbu (prt q 2 j)) p.1) f2 p.1 p.2) (fun p => 512 - p.1) (0, q.ppn) (by show 0 ≤ 512; omega) (zao _ _ ⟨by kernel_rfl, by kernel_rfl, by kernel_rfl, by kernel_rfl, by kernel_rfl, by kernel_rfl, by kernel_rfl, by kernel_rfl, by kernel_rfl, by kernel_rfl, by kernel_rfl, trivial⟩ ⟨by kernel_rfl, by kernel_rfl, by kernel_rfl, by kernel_rfl, by kernel_rfl, by kernel_rfl, trivial⟩ (by kernel_rfl)) ?_
  rintro ⟨i, n⟩ x1
  have g1 : i ≤ 512 := x1
  show Aw _ _ _ _ (leH sz cd cp a t 2 g (VaSpec.base a 2) q (zd2 xs g (fun j => PteC.zbu (prt q 2 j)) i) f2 i n)
  unfold leH
  by_cases hlt : i < 512
  · obtain ⟨e1, e2, e3, e4⟩ := zsr (a := a) (i := (i : Int)) 2 (by omega) ha (by omega)
    have e1 : idx (VaSpec.base a 2 + (i : Int) * 2097152) (2 - 1) = (i : Int) := e1
    have e2 : U (VaSpec.base a 2 + (i : Int) * 2097152) := e2
    have e4 : VaSpec.base a 2 + 512 * 2097152 ≤ 18446744073709551616 := e4
    have epp : q.ppn + (i : Int) * 2097152 / 4096 = q.ppn + (i : Int) * 512 := by omega
    have hwt := zdz sz (zd2 xs g (fun j => PteC.zbu (prt q 2 j)) i) g (2 - 1) ⟨false, false, false, false, false, false, false, false, 0, 0, 0⟩ (VaSpec.base a 2 + (i : Int) * 2097152) (prt q 2 i) e2 (hpU i (by omega)) (by omega) (by omega) hg (hRs i) (hRu i g1) (by have := hRl i; omega)
    rw [e1, zdd (hpU i (by omega)) hg.1 (by omega) (by omega)] at hwt
    have hrw : prt q 2 (i : Int) = ⟨q.v, q.r, q.w, q.x, q.u, q.g, q.a, q.d, q.rsw, q.ppn + (i : Int) * 2097152 / 4096, q.high⟩ := by rw [epp]; rfl
    have hwt : Ok 54 [za6 sz (zd2 xs g (fun j => PteC.zbu (prt q 2 j)) i), .ag (za3 g (2 - 1) ⟨false, false, false, false, false, false, false, false, 0, 0, 0⟩), iu (VaSpec.base a 2 + (i : Int) * 2097152), .ag (⟨q.v, q.r, q.w, q.x, q.u, q.g, q.a, q.d, q.rsw, q.ppn + (i : Int) * 2097152 / 4096, q.high⟩ : Pte).ce] (.m (za6 sz (zd2 xs g (fun j => PteC.zbu (prt q 2 j)) (i + 1)))) := by
      rw [← hrw]; exact hwt
    obtain ⟨ys1, hys⟩ : ∃ ys1, ys1 = zd2 xs g (fun j => PteC.zbu (prt q 2 j)) (i + 1) := ⟨_, rfl⟩
    rw [← hys] at hwt
    generalize zd2 xs g (fun j => PteC.zbu (prt q 2 j)) i = ys at *
    have hb0 := e3.1
    generalize VaSpec.base a 2 = b at *
    repeat (first | (refine zaj rfl ?_; first | refine zak ?_ | refine gdr (zaa rfl rfl rfl (hsz1) (by kernel_rfl)) ?_ | refine gdr (zaa rfl rfl rfl (hwt) (by kernel_rfl)) ?_) | (refine hK _ ?_; clear hK K) | refine zac rfl ?_ | refine zam (by kernel_rfl) (by kernel_rfl) rfl ?_ | refine zaf rfl rfl ?_ | refine zag ?_ | refine zai ?_ | refine zab (fun K hK => ?_))
    refine ⟨(i + 1, q.ppn + (i : Int) * 2097152 / 4096), by show i + 1 ≤ 512; omega, by show 512 - (i + 1) < 512 - i; omega, ?_⟩
    show Sub _ _ (leH sz cd cp a t 2 g b q (zd2 xs g (fun j => PteC.zbu (prt q 2 j)) (i + 1)) f2 (i + 1) (q.ppn + (i : Int) * 2097152 / 4096))
    rw [← hys]
    exact zao _ _ ⟨by kernel_rfl, by kernel_rfl, by kernel_rfl, by kernel_rfl, by kernel_rfl, by kernel_rfl, by kernel_rfl, by kernel_rfl, by kernel_rfl, by kernel_rfl, by kernel_rfl, trivial⟩ ⟨by kernel_rfl, by kernel_rfl, by kernel_rfl, by kernel_rfl, by kernel_rfl, by kernel_rfl, trivial⟩ (by kernel_rfl)
  · obtain rfl : i = 512 := by omega
    generalize zd2 xs g (fun j => PteC.zbu (prt q 2 j)) 512 = ys at *
    repeat (first | (refine zaj rfl ?_; first | refine zak ?_ | refine gdr (zaa rfl rfl rfl (hln) (by kernel_rfl)) ?_ | refine gdr (zaa rfl rfl rfl (hfin) (by kernel_rfl)) ?_) | (refine hK _ ?_; clear hK K) | (rename_i K1 hK1; refine hK1 _ ?_; clear hK hK1; clear K) | refine zac rfl ?_ | refine zam (by kernel_rfl) (by kernel_rfl) rfl ?_ | exact zah (show zar _ _ _ = some _ by kernel_rfl) | refine zae rfl rfl ?_ | refine zal ?_ | refine zab (fun K hK => ?_))
theorem zss (sz cd addr zau top : Int) (lv n : Nat) (xs : List (Int × Int)) (f : Int) : toN sz cd addr zau top lv (n + 1) xs f = if (zav sz xs addr zau lv top).2 = zau ∨ za2 (atM sz xs (zav sz xs addr zau lv top).1 (idx addr (zav sz xs addr zau lv top).2)) = false then (xs, f, zav sz xs addr zau lv top, 0)
    else if f = 0 then (xs, f, zav sz xs addr zau lv top, 8)
    else toN sz cd addr zau top lv n (zga sz xs (zav sz xs addr zau lv top).1 (idx addr (zav sz xs addr zau lv top).2) (zav sz xs addr zau lv top).2 (atM sz xs (zav sz xs addr zau lv top).1 (idx addr (zav sz xs addr zau lv top).2)) (cd + tzI f)) (zbr f (tzI f) 1 0) := rfl
def toH (sz cd cp top lv addr zau : Int) (xs0 : List (Int × Int)) (f0 : Int) (xs : List (Int × Int)) (f : Int) : St := St.of [(2, .m (iu top)), (3, .m (ii lv)), (4, .m (iu addr)), (5, .m (ii zau)), (6, .m (.c (.p 6 0))), (7, .m (.c (.p 7 0))), (12, .m (.c (.p 12 0))), (13, .m (.c (.p 13 0))), (14, .m (.c (.p 14 0))), (15, .m (ii 0)), (16, .m (.c (.p 16 0))), (17, .m (.c (.p 17 0)))] [(6, .live (.box [cu sz, .s xs0.length 2 (fl xs0)])), (7, .live (.box [cu cd, ci cp, cu f0])), (12, .live (.box [cu 0, .v (.slice none 0 0)])), (13, .live (.box [cu 0, ci 0, cu 0])), (14, .live (.box (za3 0 0 zP))), (16, .live (.box [cu sz, .s xs.length 2 (fl xs)])), (17, .live (.box [cu cd, ci cp, cu f]))]
theorem z42 {cd cp sz sh : Int} (top addr zau : Int) (l : Nat) (xs0 : List (Int × Int)) (f0 : Int) (lv0 : Int → Int) (h : TI cd cp sz xs0 f0 sh lv0) (ht : Al cd cp f0 top) (hsh : Al cd cp f0 sh) (hlt : lv0 top = l) (ha : U addr) (hl : l ≤ 2) (hw : 0 ≤ zau) (hwl : zau ≤ (l : Int)) (hn : xs0.length ≤ 90000)
    (R : List (Int × Int) × Int × (Int × Int) × Int) (hR : R = toN sz cd addr zau top l l xs0 f0) :
    Ok 49 [za6 sz xs0, .ag [cu cd, ci cp, cu f0], iu top, ii l, iu addr, ii zau]
      (.tu (if R.2.2.2 = 0 then [za6 sz R.1, .ag [cu cd, ci cp, cu R.2.1], .ag (zfp sz R.1 addr R.2.2.1), ii 0] else [za6 sz xs0, .ag [cu cd, ci cp, cu f0], .ag (za3 0 0 zP), ii R.2.2.2])) := by
  have hcd := h.bd
  have hcp := h.bp
  obtain ⟨V, hV⟩ : ∃ V, V = (if R.2.2.2 = 0 then [za6 sz R.1, .ag [cu cd, ci cp, cu R.2.1], .ag (zfp sz R.1 addr R.2.2.1), ii 0] else [za6 sz xs0, .ag [cu cd, ci cp, cu f0], .ag (za3 0 0 zP), ii R.2.2.2]) := ⟨_, rfl⟩
  rw [← hV]
  have hcl : (zcl (.tu V) && [za6 sz xs0, .ag [cu cd, ci cp, cu f0], iu top, ii l, iu addr, ii zau].all zcd) = true := by
    rw [hV]; split <;> rfl
  refine zad 60 Tryz.func49 rfl hcl rfl rfl ?_ GG.to
  intro W A hG
  repeat (first | (refine zaj rfl ?_; first | refine zak ?_) | (refine hK _ ?_; clear hK K) | refine zac rfl ?_ | refine zam (by kernel_rfl) (by kernel_rfl) rfl ?_ | refine zag ?_ | refine zab (fun K hK => ?_))
  obtain ⟨r0, r1, r2, r3, r4, r5, r6, _⟩ := zci h addr zau hw l top ht hlt hwl
  refine zay (α := Nat × List (Int × Int) × Int × (Int → Int)) (fun q => TI cd cp sz q.2.1 q.2.2.1 sh q.2.2.2 ∧ Al cd cp q.2.2.1 top ∧ Al cd cp q.2.2.1 sh ∧ q.2.2.2 top = l ∧ q.2.1.length + 513 * q.1 ≤ 100000 ∧ toN sz cd addr zau top l q.1 q.2.1 q.2.2.1 = R ∧ (zav sz q.2.1 addr zau l top).2 ≤ zau + q.1)
    (fun q => toH sz cd cp top l addr zau xs0 f0 q.2.1 q.2.2.1) (fun q => q.1) (l, xs0, f0, lv0) ⟨h, ht, hsh, hlt, by show xs0.length + 513 * l ≤ _; omega, hR.symm, by show (zav sz xs0 addr zau l top).2 ≤ zau + l; rw [r2]; show (r0 : Int) ≤ _; omega⟩ (zao _ _ ⟨by kernel_rfl, by kernel_rfl, by kernel_rfl, by kernel_rfl, by kernel_rfl, by kernel_rfl, by kernel_rfl, by kernel_rfl, by kernel_rfl, by kernel_rfl, by kernel_rfl, by kernel_rfl, trivial⟩ ⟨by kernel_rfl, by kernel_rfl, by kernel_rfl, by kernel_rfl, by kernel_rfl, by kernel_rfl, by kernel_rfl, trivial⟩ (by kernel_rfl)) ?_
  clear r2 r3 r4 r5 r6
  rintro ⟨n, xs, f, lv⟩ ⟨x1, x2, x3, x4, x5, x6, x7⟩
  have g1 : TI cd cp sz xs f sh lv := x1
  have g2 : Al cd cp f top := x2
  have g3 : Al cd cp f sh := x3
  have g4 : lv top = l := x4
  have g5 : xs.length + 513 * n ≤ 100000 := x5
  have g6 : toN sz cd addr zau top l n xs f = R := x6
  have g7 : (zav sz xs addr zau l top).2 ≤ zau + (n : Int) := x7
  clear x1 x2 x3 x4 x5 x6 x7
  show Aw _ _ _ _ (toH sz cd cp top l addr zau xs0 f0 xs f)
  unfold toH
  obtain ⟨l', t', i1, i2, i3, i4, i5, i6, i7⟩ := zci g1 addr zau hw l top g2 g4 hwl
  have ub := g1.u
  have bt := g2.1
  have bt' := i4.1
  have hr := ze3 sz xs top (l : Int) addr zau ⟨by omega, by omega⟩ ha (by omega) (by omega) hw g1.s ub
  rw [show zbs sz xs addr zau (l : Int) top = (t', (l' : Int)) by unfold zbs; rw [Int.toNat_natCast, i1]] at hr
  rw [i1] at g7
  have g7 : (l' : Int) ≤ zau + (n : Int) := g7
  have hi := idx_bd addr (l' : Int)
  have hstop : ((l' : Int) = zau ∨ za2 (atM sz xs t' (idx addr (l' : Int))) = false) → R = (xs, f, (t', (l' : Int)), 0) := fun hor => by
    rw [← g6]
    cases n with
    | zero => show (xs, f, zav sz xs addr zau l top, 0) = _; rw [i1]
    | succ n => unfold toN; rw [i1, if_pos hor]
  have hgo : ¬ ((l' : Int) = zau ∨ za2 (atM sz xs t' (idx addr (l' : Int))) = false) → ∃ m, n = m + 1 ∧ R = if f = 0 then (xs, f, (t', (l' : Int)), 8) else toN sz cd addr zau top l m (zga sz xs t' (idx addr (l' : Int)) (l' : Int) (atM sz xs t' (idx addr (l' : Int))) (cd + tzI f)) (zbr f (tzI f) 1 0) := fun hor => by
    cases n with
    | zero => exact absurd (.inl (by omega)) hor
    | succ n => exact ⟨n, rfl, by rw [← g6, zss, i1, if_neg hor]⟩
  have h3 := zf5 (atM sz xs t' (idx addr (l' : Int)))
  have hk := g1.e.k t' _ hi
  obtain ⟨q, hq⟩ : ∃ q, q = atM sz xs t' (idx addr (l' : Int)) := ⟨_, rfl⟩
  unfold zfp at hr
  rw [show (t', (l' : Int)).1 = t' from rfl, show (t', (l' : Int)).2 = (l' : Int) from rfl] at hr
  by_cases c1 : (l' : Int) = zau
  · have e := hstop (.inl c1)
    subst e
    have hV : V = [za6 sz xs, .ag [cu cd, ci cp, cu f], .ag (za3 t' (l' : Int) (atM sz xs t' (idx addr (l' : Int)))), ii 0] := hV
    rw [← hq] at hV hr h3
    subst hV
    repeat (first | (refine zaj rfl ?_; first | refine zak ?_ | refine gdr (zaa rfl rfl rfl (hr) (by kernel_rfl)) ?_) | (refine hK _ ?_; clear hK K) | refine zac rfl ?_ | refine zam (by kernel_rfl) (by kernel_rfl) rfl ?_ | exact zah (show zar _ _ _ = some _ by kernel_rfl) | refine zaf rfl rfl ?_ | refine zag ?_ | refine zab (fun K hK => ?_))
  · cases hlf : za2 (atM sz xs t' (idx addr (l' : Int))) with
    | false =>
      have e := hstop (.inr hlf)
      subst e
      have hV : V = [za6 sz xs, .ag [cu cd, ci cp, cu f], .ag (za3 t' (l' : Int) (atM sz xs t' (idx addr (l' : Int)))), ii 0] := hV
      rw [hlf] at h3
      rw [← hq] at hV hr h3
      subst hV
      repeat (first | (refine zaj rfl ?_; first | refine zak ?_ | refine gdr (zaa rfl rfl rfl (hr) (by kernel_rfl)) ?_ | refine gdr (zaa rfl rfl rfl (h3) (by kernel_rfl)) ?_) | (refine hK _ ?_; clear hK K) | refine zac rfl ?_ | refine zam (by kernel_rfl) (by kernel_rfl) rfl ?_ | exact zah (show zar _ _ _ = some _ by kernel_rfl) | refine zaf rfl rfl ?_ | refine zag ?_ | refine zab (fun K hK => ?_))
    | true =>
      rw [hlf] at h3
      obtain ⟨m, rfl, e⟩ := hgo (by rw [hlf]; rintro (e | e); exact c1 e; cases e)
      have hbad : zc5 (atM sz xs t' (idx addr (l' : Int))) (l' : Int) = false := by
        rcases hk with e | ⟨_, _, ⟨_, e⟩ | ⟨e, _⟩⟩
        · rw [e] at hlf; cases hlf
        · rw [i5] at e; exact e
        · rw [(zco e).2.2] at hlf; cases hlf
      by_cases c4 : f = 0
      · rw [if_pos c4] at e
        subst e
        subst c4
        have hV : V = [za6 sz xs0, .ag [cu cd, ci cp, cu f0], .ag (za3 0 0 zP), ii 8] := hV
        subst hV
        have hlo := z2w cd cp sz xs t' (l' : Int) q addr ⟨by omega, by omega⟩ ⟨by omega, by omega⟩
        rw [← hq] at hr h3
        repeat (first | (refine zaj rfl ?_; first | refine zak ?_ | refine gdr (zaa rfl rfl rfl (hr) (by kernel_rfl)) ?_ | refine gdr (zaa rfl rfl rfl (h3) (by kernel_rfl)) ?_ | refine gdr (zaa rfl rfl rfl (hlo) (by kernel_rfl)) ?_) | (refine hK _ ?_; clear hK K) | refine zac rfl ?_ | refine zam (by kernel_rfl) (by kernel_rfl) rfl ?_ | exact zah (show zar _ _ _ = some _ by kernel_rfl) | refine zaf rfl rfl ?_ | refine zae rfl rfl ?_ | refine zag ?_ | refine zai ?_ | refine zab (fun K hK => ?_))
      · rw [if_neg c4] at e
        obtain ⟨a0, a1, a2, a3⟩ := zdf g1 c4
        clear hk hgo hstop
        obtain ⟨p, rfl⟩ := Nat.exists_eq_add_one_of_ne_zero (show l' ≠ 0 from fun e => c1 (by rw [e] at i3 ⊢; exact Int.le_antisymm hw i3))
        have hT := zot g1 c4 i4 g3 hi i5 (by omega) rfl hlf hbad
        obtain ⟨s1, s2⟩ := zha g1 c4 addr zau hw i4 i5 (by omega) (by omega) hlf hbad
        have hre := (i7 _ s1).trans s2
        have hsl := zqp sz xs t' (idx addr ((p + 1 : Nat) : Int)) ((p + 1 : Nat) : Int) (atM sz xs t' (idx addr ((p + 1 : Nat) : Int))) (cd + tzI f)
        have hlo : Ok 119 [za6 sz xs, .ag [cu cd, ci cp, cu f], .ag (za3 t' ((p + 1 : Nat) : Int) (atM sz xs t' (idx addr ((p + 1 : Nat) : Int)))), iu addr] (.tu [za6 sz (zga sz xs t' (idx addr ((p + 1 : Nat) : Int)) ((p + 1 : Nat) : Int) (atM sz xs t' (idx addr ((p + 1 : Nat) : Int))) (cd + tzI f)), .ag [cu cd, ci cp, cu (zbr f (tzI f) 1 0)], ii 0]) := by
          rcases (by omega : p = 0 ∨ p = 1) with rfl | rfl
          · exact zzq g1 c4 (by omega) ha i4 rfl hlf hbad
          · exact zzr g1 c4 (by omega) ha i4 rfl hlf hbad
        have htop := (if_neg (a0 _ g2).2 : upL lv (cd + tzI f) (((p + 1 : Nat) : Int) - 1) top = lv top).trans g4
        generalize zga sz xs t' (idx addr ((p + 1 : Nat) : Int)) ((p + 1 : Nat) : Int) (atM sz xs t' (idx addr ((p + 1 : Nat) : Int))) (cd + tzI f) = xs2 at *
        rw [← hq] at hr h3 hlo
        repeat (first | (refine zaj rfl ?_; first | refine zak ?_ | refine gdr (zaa rfl rfl rfl (hr) (by kernel_rfl)) ?_ | refine gdr (zaa rfl rfl rfl (h3) (by kernel_rfl)) ?_ | refine gdr (zaa rfl rfl rfl (hlo) (by kernel_rfl)) ?_) | (refine hK _ ?_; clear hK K) | refine zac rfl ?_ | refine zam (by kernel_rfl) (by kernel_rfl) rfl ?_ | refine zae rfl rfl ?_ | refine zag ?_ | refine zai ?_ | refine zab (fun K hK => ?_))
        exact ⟨(m, xs2, zbr f (tzI f) 1 0, upL lv (cd + tzI f) (((p + 1 : Nat) : Int) - 1)), ⟨hT, (a0 _ g2).1, (a0 _ g3).1, htop, by show xs2.length + 513 * m ≤ 100000; omega, e.symm, by show (zav sz xs2 addr zau l top).2 ≤ zau + (m : Int); rw [hre]; show (p : Int) ≤ _; omega⟩, by show m < m + 1; omega, zao _ _ ⟨by kernel_rfl, by kernel_rfl, by kernel_rfl, by kernel_rfl, by kernel_rfl, by kernel_rfl, by kernel_rfl, by kernel_rfl, by kernel_rfl, by kernel_rfl, by kernel_rfl, by kernel_rfl, trivial⟩ ⟨by kernel_rfl, by kernel_rfl, by kernel_rfl, by kernel_rfl, by kernel_rfl, by kernel_rfl, by kernel_rfl, trivial⟩ (by kernel_rfl)⟩
end Go.Proofs.YtmkjfeamgknpfaaGreatDoor.LjC
namespace Go.Proofs.YtmkjfeamgknpfaaGreatDoor.Ax
open Go.RowKit MemL RegR MemC MemC3 PutC LaA IterE PteSpec BitsC OkS Go
section
variable {P : Program} {X : Cx} {S : St} {τ : Nat → Value} {a : Act} {w : World}
theorem zo1 {G : World → Prop} {N : Nat} {W0 : World} {A : Nat → Prop} {hG : ∀ w, Below W0.heap.size W0 w → G w} {fn : Func} {m : Cm} {D : Nat} {W : World} (hres : zel N fn.results.toList = true) (hcl : zcd m = true) (hkb : Kept (Cx.of N W0 A G hG).K (Cx.of N W0 A G hG).W0 W) (hlt : D < W.heap.size) (hDW : W0.heap.size ≤ D) (hK : W.heap[D]? = some (.deferred (some [])))
    {S' : St} {τ' : Nat → Value} {a' : Act} {w' : World} (s : SimT (cxD (Cx.of N W0 A G hG) W D hkb hlt) S' τ' a' w') (hra : zar P fn S' = some (.m m)) : LeavesInM Fence.wide 5 P fn a'.tmps (zqg W0 A (.m m)) a'.defers .returning w' := by
  have hK' : w'.heap[D]? = some (.deferred (some [])) := (s.bel.block D (.inr rfl)).trans hK
  let X2 : Cx := { cxD (Cx.of N W0 A G hG) W D hkb hlt with
    K := (Cx.of N W0 A G hG).K
    hK := fun g hg => Nat.lt_of_lt_of_le ((Cx.of N W0 A G hG).hK g hg) hkb.size
    hG := fun w h => hG w ((hkb.trans h).below (fun _ h => h)) }
  have s2 : SimT X2 S' τ' a' w' := ⟨s.size, s.nodef, s.bel.mono fun _ => .inl, s.tm, s.hp, fun b g hb ho => ⟨fun k => (s.own b g hb ho).1 (.inl k), (s.own b g hb ho).2⟩, s.sep, s.one, fun p hp => by cases hp⟩
  have s3 : SimT X2 S' τ' a' (w'.putObj D (.deferred none)) := zjw s2 (grownBy_putObj' w' D (.deferred none)) (fun r e => by cases e; exact ⟨⟨_, hK', rfl⟩, fun k => by
    have : D < W0.heap.size := (Cx.of N W0 A G hG).hK D k
    omega⟩)
  have b3 : Below W0.heap.size W0 (w'.putObj D (.deferred none)) := by
    have b1 : Below W0.heap.size W0 W := hkb.below fun _ h => h
    have b2 : Below W0.heap.size W w' := s.bel.below fun _ h => .inl h
    exact (b1.trans b2).trans ((Below.refl _ _).grown (grownBy_putObj' w' D (.deferred none)) (Nat.le_trans b1.size b2.size) (fun k e => by cases e; exact hDW))
  have hrun : ∃ v, (results fn a'.tmps).run P (w'.putObj D (.deferred none)) = .ok v (w'.putObj D (.deferred none)) ∧ zqg W0 A (.m m) (.returned v) (w'.putObj D (.deferred none)) := by
    unfold zar at hra
    split at hra
    · rename_i m' hm
      cases hra
      obtain ⟨vs', h1, h2⟩ := zeg s3 _ _ hres hm
      obtain ⟨v, rfl⟩ : ∃ v, vs' = [v] := by
        cases vs' with
        | nil => exact h2.elim
        | cons v l => cases l with | nil => exact ⟨v, rfl⟩ | cons _ _ => exact h2.2.elim
      refine ⟨v, ?_, v, rfl, b3, (zfh (E := ⟨_, _, τ', _⟩) (F := en0 (fun g => A g ∨ W0.heap.size ≤ g) (w'.putObj D (.deferred none))) rfl (fun g _ hg => hg) _ _ hcl h2.1 : Cm.R _ _ _)⟩
      rw [zdj, Array.mapM_eq_mapM_toList]
      simp only [Sem.run_bind, Sem.run_map, h1, Result.andThen_ok, Sem.run_pure]
      rfl
    · cases hra
    · cases hra
  obtain ⟨v, hv, hM⟩ := hrun
  rw [s.nodef]
  exact ⟨by simp, .inl ⟨_, _, rfl, run_takeDeferred hK', ⟨_, hv, hM⟩⟩⟩
theorem zq6 {G : World → Prop} {N : Nat} {W0 : World} {A : Nat → Prop} {hG : ∀ w, Below W0.heap.size W0 w → G w} {fn : Func} {rest : Code} {m : Cm} {D : Nat} {W : World} (hres : zel N fn.results.toList = true) (hcl : zcd m = true) (hs : SimT (Cx.of N W0 A G hG) S τ a W) (hDW : W0.heap.size ≤ D) (hK : W.heap[D]? = some (.deferred (some [])))
    (h : ∀ (hk : Kept (Cx.of N W0 A G hG).K (Cx.of N W0 A G hG).W0 W) (hD : D < W.heap.size), Aw P (cxD (Cx.of N W0 A G hG) W D hk hD) rest (fun e S' => (e = .normal ∨ e = .ret) ∧ zar P fn S' = some (.m m)) S) :
    rest.wp P (bodyPostM Fence.wide 5 P fn (zqg W0 A (.m m))) { a with defers := { target := .collected D, args := #[] } :: a.defers } W := by
  have hlt : D < W.heap.size := (Array.getElem?_eq_some_iff.1 hK).1
  have s1 := zqf hs rfl ⟨_, hK, rfl⟩ hlt
  refine wp_mono (ztx rfl (h hs.bel hlt) ⟨_, s1⟩) ?_
  intro e a' w' ⟨S', ⟨he, hra⟩, τ', s⟩
  have key := zo1 hres hcl hs.bel hlt hDW hK s hra
  rcases he with rfl | rfl
  · exact key
  · exact key
theorem zxa {G : World → Prop} {N : Nat} {W0 : World} {A : Nat → Prop} {hG : ∀ w, Below W0.heap.size W0 w → G w} {fn : Func} {m : Cm} {D : Nat} {W : World} {Q : Exit → Act → World → Prop} (hres : zel N fn.results.toList = true) (hcl : zcd m = true) (hs : SimT (Cx.of N W0 A G hG) S τ a W) (hDW : W0.heap.size ≤ D) (hK : W.heap[D]? = some (.deferred (some [])))
    (hra : zar P fn S = some (.m m)) (hQ : ∀ a' w', LeavesInM Fence.wide 5 P fn a'.tmps (zqg W0 A (.m m)) a'.defers .returning w' → Q .ret a' w') :
    Code.ret.wp P Q { a with defers := { target := .collected D, args := #[] } :: a.defers } W := by
  have hlt : D < W.heap.size := (Array.getElem?_eq_some_iff.1 hK).1
  have s1 := zqf hs rfl ⟨_, hK, rfl⟩ hlt
  exact wp_ret (hQ _ _ (zo1 hres hcl hs.bel hlt hDW hK s1 hra))
set_option maxHeartbeats 1000000 in
theorem z43 {X : Cx} {S : St} {τ0 : Nat → Value} {a : Act} {w : World} {t p1 p2 : Tmp} {assign body : Code} {Q : Exit → Act → World → Prop} {sz f : Int} {xs : List (Int × Int)} (hf : 0 ≤ f ∧ f < 17592186044416) (hs : Srt xs) (hu : Uw xs)
    (hdf : X.df = []) (ts : List (Nat × Nat)) (ns : List Nat) (n1 n2 : Nat) (bs : List (Nat × Hs)) (mid : Ie sz xs f → St)
    (hS : SimT (cxP X τ0 ns) S τ0 a w) (htN : t < X.N) (hcl : S.tm t = .m (.c (.cl 162 [n1, n2])))
    (hts : ∀ p ∈ ts, S.tm p.1 = .m (.c (.p p.2 0)) ∧ p.2 ∈ ns ∧ p.1 < X.N) (hns : ∀ b ∈ ns, ∃ cs, S.hp b = .live (.box cs)) (hb0 : EqB S bs) (m1 : n1 ∈ ns) (m2 : n2 ∈ ns)
    (hbs : (bs.all (fun p => (idK p.2).all (zn0 · bs)) && ns.all (fun b => zn0 b bs)) = true)
    (hn1 : look Hs.fresh bs n1 = .live (.box [.v (.int .u64 sz), .s xs.length 2 (fl xs)])) (hn2 : look Hs.fresh bs n2 = .live (.box [.v (.int .u64 f)]))
    (hmid : ∀ x, EqB (mid x) bs) (hself : EqB (St.of [] bs) bs)
    (hA : ∀ (W : World) (l : Nat) (hk : Kept X.K X.W0 W) (x : Ie sz xs f), Aw Tryz.prog (cxR X W l τ0 ns hk) assign (zkr (fun S' => Sub (cxR X W l τ0 ns hk) S' (mid x)) z5d) ((St.of (ptT ts) bs).two p1 p2 (.m (.c (.v (.int .i64 (x.1 : Int))))) (.m (.ag (atM sz xs f x.1).ce))))
    (hB : ∀ (W : World) (l : Nat) (hk : Kept X.K X.W0 W) (x : Ie sz xs f), Aw Tryz.prog (cxR X W l τ0 ns hk) body (fun e S' => e = .ret ∧ Sub (cxR X W l τ0 ns hk) S' (St.of (ptT []) bs)) (mid x))
    (hdone : ∀ (D : Nat) (W : World), w.heap.size ≤ D → (∀ i : Nat, i < 512 → nzB sz xs f i = false) → Sim (cxP X τ0 ns) (St.of (ptT ts) bs) a W → W.heap[D]? = some (.deferred (some [])) → Q .normal { a with defers := { target := .collected D, args := #[] } :: a.defers } W)
    (hstop : ∀ (D : Nat) (W : World) (x : Ie sz xs f), w.heap.size ≤ D → Sim (cxP X τ0 ns) (St.of (ptT ts) bs) a W → W.heap[D]? = some (.deferred (some [])) → Code.ret.wp Tryz.prog Q { a with defers := { target := .collected D, args := #[] } :: a.defers } W) :
    (Code.rangeFunc (.tmp t) #[p1, p2] assign body).wp Tryz.prog Q a w := by
  have hptr : ∀ b ∈ ns, ∃ g, τ0 b = .pointer (some ⟨g, 0, none⟩) := fun b hb => by
    obtain ⟨cs, e⟩ := hns b hb
    obtain ⟨g, vs, e1, _⟩ := hS.hp b _ e
    exact ⟨g, e1⟩
  obtain ⟨b1, e1⟩ := hptr n1 m1
  obtain ⟨b2, e2⟩ := hptr n2 m2
  have hval : a.eval (.tmp t) = .func (.func 162) #[] #[.pointer (some ⟨b1, 0, none⟩), .pointer (some ⟨b2, 0, none⟩)] := by
    have := hS.tm t htN
    rw [hcl] at this
    have this : a.tmps.getD t undef = .func (.func 162) #[] ([n1, n2].map τ0).toArray := this.1
    show a.tmps.getD t undef = _
    rw [this]; simp [e1, e2]
  have hts' : ∀ p ∈ ts, p.2 ∈ ns ∧ a.tmps.getD p.1 undef = τ0 p.2 ∧ ∃ g, τ0 p.2 = .pointer (some ⟨g, 0, none⟩) := fun p hp => by
    obtain ⟨q1, q2, q3⟩ := hts p hp
    have := hS.tm p.1 q3
    rw [q1] at this
    obtain ⟨_, g, r1, r2⟩ := this
    have r1 : τ0 p.2 = .pointer (some ⟨g, 0, none⟩) := r1
    exact ⟨q2, r2.trans r1.symm, g, r1⟩
  have hbs1 : (bs.all fun p => (idK p.2).all (zn0 · bs)) = true := by rw [Bool.and_eq_true] at hbs; exact hbs.1
  have hbs2 : (ns.all fun b => zn0 b bs) = true := by rw [Bool.and_eq_true] at hbs; exact hbs.2
  have hent : ∀ {S' : St} {τ' : Nat → Value} {a' : Act} {W' : World}, SimT (cxP X τ0 ns) S' τ' a' W' → EqB S' bs → Ent sz xs f b1 b2 W' := fun {S' τ' a' W'} s h => by
    have hl : ∀ n v, look Hs.fresh bs n = .live v → S'.hp n = .live v := fun n v hv => by
      rcases zl5 h n with e | e
      · rw [e] at hv; cases hv
      · rw [← e]; exact hv
    exact z0h s (hl _ _ hn1) (hl _ _ hn2) m1 m2 e1 e2
  have hE0 : Ent sz xs f b1 b2 w := hent hS hb0
  have hszW : X.W0.heap.size ≤ w.heap.size := hS.bel.size
  have hgr : ∀ (S' : St) (a' : Act), OwnFrom w.heap.size (fun (_ : Unit) W => Sim (cxP X τ0 ns) S' a' W) := fun S' a' _ W W' row ⟨τ', s⟩ hg hr => ⟨τ', zjw s hg fun r e => ⟨(hr r e).2, fun k => by
    have := X.hK r k; have := (hr r e).1; omega⟩⟩
  have hI0 : Sim (cxP X τ0 ns) (St.of (ptT ts) bs) a w := zf4 ⟨τ0, hS⟩ ts bs hb0 hbs1 hbs2 hts' hS.size hS.nodef
  refine (wpIn_wide (n := 5)).1 (wpIn_rangeFunc_ownH (w0 := w) rfl (by omega) (gf := 162) hval trivial (enters_of Tryz.func162 (by kernel_rfl) rfl)
    (zoj 4 (by omega) sz xs f b1 b2 w hE0 hf hs hu) KpE.trans (fun W l o o' _ hl ho _ => KpE.put W l o o' hl ho) (Below.refl _ _) (fun _ => rfl)
    (fun pre W => pre = [] ∧ Sim (cxP X τ0 ns) (St.of (ptT ts) bs) a W) (fun c pre W => c = .ret ∧ Nonempty (Ie sz xs f) ∧ Sim (cxP X τ0 ns) (St.of (ptT ts) bs) a W) (fun s W W' row hi hg hr => ⟨hi.1, hgr _ _ () W W' row hi.2 hg hr⟩) (fun c s W W' row hi hg hr => ⟨hi.1, hi.2.1, hgr _ _ () W W' row hi.2.2 hg hr⟩) ⟨rfl, hI0⟩
    (fun x a' W => Sim (cxP X τ0 ns) (mid x) a' W) (fun x a' _ W W' row hi hg hr => hgr _ _ () W W' row hi hg hr) ?_ ?_ ?_ ?_)
  · intro l pre x W K ⟨hp, hI⟩ hK
    obtain ⟨τ1, s1⟩ := hI
    have hk : Kept X.K X.W0 W := s1.bel
    have s2 := zv9 (p1 := p1) (p2 := p2) (v1 := .m (.c (.v (.int .i64 (x.1 : Int))))) (v2 := .m (.ag (atM sz xs f x.1).ce)) (u1 := .int .i64 (x.1 : Int)) (u2 := z3g (atM sz xs f x.1)) (show (cxP X τ0 ns).df = [] from hdf) s1 rfl ⟨_, rfl, rfl, rfl, rfl, rfl, rfl, rfl, rfl, rfl, rfl, rfl, rfl, trivial⟩
    have s3 := zg6 (l := l) s2 hk
    have ez : (#[p1, p2].zip (z3h sz xs f x)).foldl (fun t (p, v) => t.setIfInBounds p v) a.tmps = (a.tmps.setIfInBounds p1 (.int .i64 (x.1 : Int))).setIfInBounds p2 (z3g (atM sz xs f x.1)) := by simp [z3h]
    rw [ez]
    refine wpIn_mono (hA W l hk x _ W ⟨_, s3⟩ _) ?_
    intro e a' W' ⟨S', q, s4⟩
    cases e with
    | normal =>
      obtain ⟨τ5, s5⟩ := q _ _ s4
      have s6 := zg7 s5
      exact hK a' W' (ze4 s5 _) ⟨s5.bel.size, fun _ => hent s6 (hmid _)⟩ ⟨hp, zf4 ⟨_, s6⟩ ts _ (hmid x) hbs1 hbs2 hts' hS.size hS.nodef⟩ ⟨_, s6⟩
    | _ => exact q.elim
  · intro l pre x a' W hl hr hI ⟨τ2, s2⟩ hlen
    have hk : Kept X.K X.W0 W := s2.bel
    have s3 := zg6 (l := l) s2 hk
    refine wpIn_mono (hB W l hk x _ W ⟨_, s3⟩ _) ?_
    rintro e a2 W' ⟨S', ⟨rfl, q⟩, s4⟩
    obtain ⟨τ5, s5⟩ := q _ _ s4
    have s6 := zg7 s5
    have hq := zjx (S := St.of [] bs) (S' := St.of (ptT []) bs) rfl _ hself
    exact ⟨ze4 s5 _, rfl, ⟨x⟩, zf4 ⟨_, s6⟩ ts _ hq hbs1 hbs2 hts' hS.size hS.nodef⟩
  · intro D ys W hD hys ⟨hnil, hI⟩ hK
    refine hdone D W hD (fun i hi => ?_) hI hK
    subst hnil
    have hys : [] = (List.range 512).filter (nzB sz xs f) := hys
    cases e : nzB sz xs f i with
    | false => rfl
    | true =>
      have : i ∈ (List.range 512).filter (nzB sz xs f) := List.mem_filter.2 ⟨List.mem_range.2 hi, e⟩
      rw [← hys] at this; cases this
  · rintro D c pre W hD _ ⟨rfl, ⟨x⟩, hI⟩ hK
    exact wpIn_wide.2 (hstop D W x hD hI hK)
end
end Go.Proofs.YtmkjfeamgknpfaaGreatDoor.Ax
namespace Go.Proofs.YtmkjfeamgknpfaaGreatDoor.LjD
open Go.RowKit Bv VaSpec Base MemL RegR Ax MemC PutC MemC3 TzC OkS SpA SpB SpC SpF LaA IterE LaC LaD LiC
open BitsC PteSpec
set_option maxRecDepth 10000
set_option maxHeartbeats 1000000
def tsE : List (Nat × Nat) := [(2, 2), (4, 4)]
def nsE : List Nat := [2, 4, 1001, 1002]
def bsE (sz : Int) (xs : List (Int × Int)) (top : Int) : List (Nat × Hs) := [(2, .live (.box [cu sz, .s xs.length 2 (fl xs)])), (4, .live (.box [cb false])), (1001, .live (.box [cu sz, .s xs.length 2 (fl xs)])), (1002, .live (.box [cu top]))]
theorem zzs (sz : Int) (xs : List (Int × Int)) (top : Int) (b : Bool) (ht : 0 ≤ top ∧ top < 17592186044416) (hs : Srt xs) (hu : Uw xs) (hb1 : (∀ i : Nat, i < 512 → nzB sz xs top i = false) → b = true) (hb0 : (∃ i : Nat, i < 512 ∧ nzB sz xs top i = true) → b = false) :
    Ok 182 [za6 sz xs, iu top] (.m (ib b)) := by
  refine zfq 10 Tryz.func182 rfl rfl rfl ?_ GG.to
  intro W A hG
  refine zcy (fun K hK => ?_)
  repeat (first | (refine zaj rfl ?_; first | refine zak ?_) | (refine hK _ ?_; clear hK K) | refine zac rfl ?_)
  refine zwa ?_
  refine zcy (fun K hK => ?_)
  repeat (first | (refine zaj rfl ?_; first | refine zak ?_ | refine gdr (ze5 (n1 := 1001) (n2 := 1002) rfl rfl rfl rfl rfl rfl) ?_) | (refine hK _ ?_; clear hK K) | refine zac rfl ?_)
  refine zjy ?_
  refine zjz (zao [(2, .m (.c (.p 2 0))), (4, .m (.c (.p 4 0))), (7, .m (.c (.cl 162 [1001, 1002])))] (bsE sz xs top)
    ⟨rfl, rfl, rfl, trivial⟩ ⟨rfl, rfl, rfl, rfl, trivial⟩ rfl) ?_
  intro a w ⟨τ0, s⟩
  have s' := zqe (ns := nsE) s (by
    intro b hb
    simp only [nsE, List.mem_cons, List.not_mem_nil, or_false] at hb
    rcases hb with rfl | rfl | rfl | rfl
    all_goals exact ⟨_, rfl⟩)
  refine z43 ht hs hu rfl tsE nsE 1001 1002 (bsE sz xs top) (fun x => St.of [(2, .m (.c (.p 2 0))), (4, .m (.c (.p 4 0)))] (bsE sz xs top)) s' (show 7 < 10 by decide) rfl
    (by
      intro p hp
      simp only [tsE, List.mem_cons, List.not_mem_nil, or_false] at hp
      rcases hp with rfl | rfl
      all_goals exact ⟨rfl, by simp [nsE], by show _ < 10; decide⟩)
    (by
      intro b hb
      simp only [nsE, List.mem_cons, List.not_mem_nil, or_false] at hb
      rcases hb with rfl | rfl | rfl | rfl
      all_goals exact ⟨_, rfl⟩)
    ⟨rfl, rfl, rfl, rfl, trivial⟩ (by simp [nsE]) (by simp [nsE]) rfl rfl rfl (fun _ => ⟨rfl, rfl, rfl, rfl, trivial⟩) ⟨rfl, rfl, rfl, rfl, trivial⟩ ?_ ?_ ?_ ?_
  · intro W l hk x
    repeat (first | refine zai ?_)
    exact zao _ _ ⟨rfl, rfl, trivial⟩ ⟨rfl, rfl, rfl, rfl, trivial⟩ rfl
  · intro W' l hk x
    repeat (first | (refine zaj rfl ?_; first | refine zak ?_) | (refine hK _ ?_; clear hK K) | refine zac rfl ?_ | refine zag ?_ | refine zab (fun K hK => ?_))
    exact zah ⟨rfl, zao _ _ trivial ⟨rfl, rfl, rfl, rfl, trivial⟩ rfl⟩
  · intro D W hD hz hI hK
    have hb := hb1 hz
    subst hb
    obtain ⟨τ1, s1⟩ := hI
    have s2 : SimT (Cx.of 10 _ A GG hG) (St.of (ptT tsE) (bsE sz xs top)) τ1 a W := ⟨s1.size, s1.nodef, s1.bel, s1.tm, s1.hp, s1.own, s1.sep, s1.one, fun p hp => by cases hp⟩
    refine zq6 rfl rfl s2 (Nat.le_trans s.bel.size hD) hK (fun hk hD => ?_)
    repeat (first | (refine zaj rfl ?_; first | refine zak ?_) | (refine hK _ ?_; clear hK K) | refine zac rfl ?_ | refine zab (fun K hK => ?_))
    exact zah ⟨.inr rfl, rfl⟩
  · intro D W x hD hI hK
    have hb := hb0 ⟨x.1, x.2.1, by have := x.2.2; unfold nzB; simpa using this⟩
    subst hb
    obtain ⟨τ1, s1⟩ := hI
    have s2 : SimT (Cx.of 10 _ A GG hG) (St.of (ptT tsE) (bsE sz xs top)) τ1 a W := ⟨s1.size, s1.nodef, s1.bel, s1.tm, s1.hp, s1.own, s1.sep, s1.one, fun p hp => by cases hp⟩
    exact zxa rfl rfl s2 (Nat.le_trans s.bel.size hD) hK rfl (fun a' w' h => h)
theorem zuc {cd cp sz f sh : Int} {xs : List (Int × Int)} {lv : Int → Int} (h : LiA.TI cd cp sz xs f sh lv) {g : Int} (hg : cd ≤ g ∧ g < cd + cp) : Ok 182 [za6 sz xs, iu g] (.m (ib (zct xs g))) := by
  obtain ⟨e1, e2⟩ := zsc h hg
  have b1 := h.bd
  have b2 := h.bp
  refine zzs sz xs g _ ⟨by omega, by omega⟩ h.s h.u (fun hz => ?_) (fun ⟨i, hi, hn⟩ => ?_)
  · cases c : zct xs g with
    | true => rfl
    | false =>
      obtain ⟨j, hj, hne⟩ := e2 c
      have := hz j.toNat (by omega)
      unfold nzB at this
      rw [show ((j.toNat : Nat) : Int) = j by omega] at this
      simp at this
      exact absurd this hne
  · cases c : zct xs g with
    | false => rfl
    | true =>
      have := e1 c (i : Int) ⟨by omega, by omega⟩
      unfold nzB at hn
      simp at hn
      exact absurd this hn
end Go.Proofs.YtmkjfeamgknpfaaGreatDoor.LjD
namespace Go.Proofs.YtmkjfeamgknpfaaGreatDoor.Ax
open Go.RowKit MemL RegR Go
variable {P : Program} {ops : Array Oper} {X : Cx} {o : Oper} {S : St}
def CallsE (P : Program) (f : FuncId) (args : Array Value) (w : World) (R : Ending → World → Prop) : Prop := ∀ u, CallsD P f args u w fun e u' w' => u' = u ∧ R e w'
theorem CallsE.mono {f : FuncId} {args : Array Value} {w : World} {R R' : Ending → World → Prop} (h : CallsE P f args w R) (hr : ∀ e w', R e w' → R' e w') : CallsE P f args w R' := fun u => (h u).mono fun e u' w' k => ⟨k.1, hr e w' k.2⟩
theorem zo2 {f : FuncId} {fn : Func} {c : Code} {args : Array Value} {w : World} {R : Ending → World → Prop} (hf : P.funcs[f]? = some fn) (hb : fn.body = some c)
    (h : c.wp P (bodyPost P fn R) { tmps := args ++ Array.replicate (fn.ntmps - args.size) undef, defers := [] } w) : CallsE P f args w R := fun u => callsD_of_wp hf hb h
def zxb (W : World) (A : Nat → Prop) (τ : Nat → Value) (bs : List Ln) (r : AV) (e : Ending) (w' : World) : Prop := ∃ v, e = .returned v ∧ Kept (fun g => g < W.heap.size ∧ ¬ zo9 τ bs g) W w' ∧ r.R (en0 (fun g => A g ∨ W.heap.size ≤ g) w') v ∧
      ∀ p ∈ bs, ∃ g us, τ p.1 = .pointer (some ⟨g, 0, none⟩) ∧ Bx w' g us ∧ All2 (Ce.R (en0 (fun g => A g ∨ W.heap.size ≤ g) w')) p.2.2 us.toList
def ziy (P : Program) (G : World → Prop) (k : FuncId) (bs : List Ln) (args : List Cm) (r : AV) : Prop :=
  (zcl r && bs.all (fun p => p.2.1.all zbi && p.2.2.all zbi)) = true ∧ (args.flatMap idM).all (fun b => bs.any (fun p => Nat.beq p.1 b)) = true ∧
  ∀ (A : Nat → Prop) (W : World) (τ : Nat → Value) (vs : Array Value), (∀ w, Kept (fun g => g < W.heap.size ∧ ¬ zo9 τ bs g) W w → G w) →
    (∀ p ∈ bs, ∃ g us, τ p.1 = .pointer (some ⟨g, 0, none⟩) ∧ Bx W g us ∧ All2 (Ce.R (en0 A W)) p.2.1 us.toList ∧ ¬ A g) →
    (∀ p ∈ bs, ∀ q ∈ bs, p.1 ≠ q.1 → ∀ g, occ (τ p.1) = some g → occ (τ q.1) ≠ some g) →
    All2 (Cm.R ⟨A, fun b => ∃ p ∈ bs, p.1 = b, τ, W⟩) args vs.toList → CallsE P k vs W (zxb W A τ bs r)
theorem zlm {G : World → Prop} {fn : Func} {bs : List Ln} {args : List Cm} {r : AV} (N : Nat) {A : Nat → Prop} {W : World} {τ : Nat → Value} {vs : Array Value}
    (hcl : (zcl r && bs.all (fun p => p.2.1.all zbi && p.2.2.all zbi)) = true) (hid : (args.flatMap idM).all (fun b => bs.any (fun p => Nat.beq p.1 b)) = true) (hN : args.length + (fn.ntmps - args.length) = N)
    (hG : ∀ w, Kept (fun g => g < W.heap.size ∧ ¬ zo9 τ bs g) W w → G w)
    (hB : ∀ p ∈ bs, ∃ g us, τ p.1 = .pointer (some ⟨g, 0, none⟩) ∧ Bx W g us ∧ All2 (Ce.R (en0 A W)) p.2.1 us.toList ∧ ¬ A g)
    (hsep : ∀ p ∈ bs, ∀ q ∈ bs, p.1 ≠ q.1 → ∀ g, occ (τ p.1) = some g → occ (τ q.1) ≠ some g)
    (hR : All2 (Cm.R ⟨A, fun b => ∃ p ∈ bs, p.1 = b, τ, W⟩) args vs.toList) : Sim (cxW N W A G τ bs hG) (zfc bs args) { tmps := vs ++ Array.replicate (fn.ntmps - vs.size) undef, defers := [] } W := by
  simp only [Bool.and_eq_true, List.all_eq_true] at hcl
  obtain ⟨hcr, hcb⟩ := hcl
  have hlen := All2.length _ _ hR
  simp only [Array.length_toList] at hlen
  obtain ⟨τ', hτ'⟩ : ∃ τ' : Nat → Value, τ' = fun b => cond (bs.any fun p => Nat.beq p.1 b) (τ b) (.bool false) := ⟨_, rfl⟩
  have ht : ∀ p ∈ bs, τ' p.1 = τ p.1 := fun p hp => by
    rw [hτ']
    have : (bs.any fun q => Nat.beq q.1 p.1) = true := List.any_eq_true.2 ⟨p, hp, Nat.beq_refl _⟩
    simp only [this, cond]
  have hlive : ∀ b q, look .fresh (bs.map fun p => (p.1, Hs.live (.box p.2.1))) b = .live q → ∃ p ∈ bs, p.1 = b ∧ q = .box p.2.1 := fun b q hq => by
    obtain ⟨x, h1, h2, h3⟩ := look_mem _ b _ hq (fun e => by cases e)
    obtain ⟨p, hp, rfl⟩ := List.mem_map.1 h1
    exact ⟨p, hp, h2, by cases h3; rfl⟩
  have halw : ∀ g, A g → alw (cxW N W A G τ bs hG) (zfc bs args).hp τ' g := fun g hg => ⟨.inl hg, fun b ⟨q, hq⟩ ho => by
    obtain ⟨p, hp, rfl, _⟩ := hlive b q hq
    obtain ⟨g', us, e1, _, _, e4⟩ := hB p hp
    rw [ht p hp, e1] at ho
    cases ho; exact e4 hg⟩
  have hS : Sim (cxW N W A G τ bs hG) (zfc bs args) { tmps := vs ++ Array.replicate (fn.ntmps - vs.size) undef, defers := [] } W := by
    refine ⟨τ', by simp [← hN, hlen, cxW], rfl, Kept.refl _ _, fun t ht' => ?_, fun b k hk => ?_, fun b g hk ho => ?_, fun b b' g hne hk hk' ho => ?_, fun b => ?_, fun q hq => ?_⟩
    · show AV.R _ (match args[t]? with | some m => .m m | none => .m (.c (.v undef))) _
      have ht' : t < N := ht'
      by_cases hlt : t < args.length
      · obtain ⟨v, hv, hr⟩ := All2.get _ _ t _ hR (List.getElem?_eq_getElem hlt)
        rw [List.getElem?_eq_getElem hlt]
        have e : (vs ++ Array.replicate (fn.ntmps - vs.size) undef).getD t undef = v := by
          rw [Array.getD_eq_getD_getElem?, Array.getElem?_append_left (by omega)]
          simp only [Array.getElem?_toList] at hv
          rw [hv]; rfl
        rw [e]
        refine zrj (E := ⟨A, fun b => ∃ p ∈ bs, p.1 = b, τ, W⟩) (F := env (cxW N W A G τ bs hG) (zfc bs args).hp τ' W) ⟨fun b hb' => ?_, fun g _ hg => halw g hg, Nat.le_refl _, fun _ _ _ _ => rfl⟩ _ _ hr
        obtain ⟨p, hp, rfl⟩ := hb'
        refine ⟨?_, ht p hp⟩
        obtain ⟨q, q1, q2, q3⟩ := zjt (d := Hs.fresh) (bs.map fun p => (p.1, Hs.live (.box p.2.1))) (p.1, .live (.box p.2.1)) (List.mem_map.2 ⟨p, hp, rfl⟩)
        show look Hs.fresh (bs.map fun p => (p.1, Hs.live (.box p.2.1))) p.1 ≠ Hs.fresh
        rw [show look Hs.fresh (bs.map fun p => (p.1, Hs.live (.box p.2.1))) p.1 = q.2 from q3]
        obtain ⟨p', _, rfl⟩ := List.mem_map.1 q1
        intro e; cases e
      · rw [List.getElem?_eq_none (by omega)]
        show _ = undef
        rw [Array.getD_eq_getD_getElem?, Array.getElem?_append_right (by omega)]
        rw [Array.getElem?_replicate]; split <;> rfl
    · obtain ⟨p, hp, rfl, rfl⟩ := hlive b k hk
      obtain ⟨g, us, e1, e2, e3, _⟩ := hB p hp
      have := hcb p hp
      exact ⟨g, us, (ht p hp).trans e1, e2, zdn (E := en0 A W) (F := env (cxW N W A G τ bs hG) (zfc bs args).hp τ' W) rfl (fun g _ hg => halw g hg) _ _ (List.all_eq_true.2 this.1) e3⟩
    · obtain ⟨q, hq⟩ := hk
      obtain ⟨p, hp, rfl, rfl⟩ := hlive b q hq
      obtain ⟨g', us, e1, e2, e3, _⟩ := hB p hp
      rw [ht p hp] at ho
      refine ⟨fun hk => hk.2 ⟨p, hp, ho⟩, ?_⟩
      rw [e1] at ho; cases ho
      exact e2.lt
    · obtain ⟨q, hq⟩ := hk
      obtain ⟨q', hq'⟩ := hk'
      obtain ⟨p, hp, rfl, rfl⟩ := hlive b q hq
      obtain ⟨p', hp', rfl, rfl⟩ := hlive b' q' hq'
      rw [ht p hp] at ho
      rw [ht p' hp']
      exact hsep p hp p' hp' hne g ho
    · have e0 : τ' b = cond (bs.any fun p => Nat.beq p.1 b) (τ b) (.bool false) := by rw [hτ']
      rw [e0]
      cases e : bs.any fun p => Nat.beq p.1 b with
      | false => rfl
      | true =>
        obtain ⟨p, hp, e'⟩ := List.any_eq_true.1 e
        obtain rfl := Nat.eq_of_beq_eq_true e'
        obtain ⟨g, us, e1, _⟩ := hB p hp
        show (τ p.1).oneCell' = true
        rw [e1]; rfl
    · obtain ⟨p, hp, rfl⟩ := List.mem_map.1 hq
      refine ⟨?_, ht p hp⟩
      obtain ⟨q, q1, q2, q3⟩ := zjt (d := Hs.fresh) (bs.map fun p => (p.1, Hs.live (.box p.2.1))) (p.1, .live (.box p.2.1)) (List.mem_map.2 ⟨p, hp, rfl⟩)
      show look Hs.fresh (bs.map fun p => (p.1, Hs.live (.box p.2.1))) p.1 ≠ Hs.fresh
      rw [show look Hs.fresh (bs.map fun p => (p.1, Hs.live (.box p.2.1))) p.1 = q.2 from q3]
      obtain ⟨p', _, rfl⟩ := List.mem_map.1 q1
      intro e; cases e
  exact hS
def z2x (N : Nat) (W : World) (A : Nat → Prop) (G : World → Prop) (τ : Nat → Value) (bs : List Ln) (hG : ∀ w, Kept (fun g => g < W.heap.size ∧ ¬ zo9 τ bs g) W w → G w) (ds : List Deferred) : Cx := { cxW N W A G τ bs hG with df := ds }
theorem finW {G : World → Prop} {fn : Func} {bs : List Ln} {r : AV} {N : Nat} {A : Nat → Prop} {W : World} {τ : Nat → Value} {hG : ∀ w, Kept (fun g => g < W.heap.size ∧ ¬ zo9 τ bs g) W w → G w} {ds : List Deferred} {S' : St} {τe : Nat → Value} {a' : Act} {w' : World}
    (hcr : zcl r = true) (hcb : ∀ p ∈ bs, p.2.1.all zbi = true ∧ p.2.2.all zbi = true) (hres : zel N fn.results.toList = true) (s : SimT (z2x N W A G τ bs hG ds) S' τe a' w') (hr : zar P fn S' = some r) (hE : EndB S' bs) : ∃ v, (results fn a'.tmps).run P w' = .ok v w' ∧ zxb W A τ bs r (.returned v) w' := by
  have hbx : ∀ p ∈ bs, ∃ g us, τ p.1 = .pointer (some ⟨g, 0, none⟩) ∧ Bx w' g us ∧ All2 (Ce.R (en0 (fun g => A g ∨ W.heap.size ≤ g) w')) p.2.2 us.toList := fun p hp => by
    obtain ⟨cs, e1, e2⟩ := hE.mem p hp
    obtain ⟨g, us, e3, e4, e5⟩ := s.hp p.1 _ e1
    have hpin := (s.pin (p.1, τ p.1) (List.mem_map.2 ⟨p, hp, rfl⟩)).2
    have e6 := zmh s _ _ e5
    rw [e2] at e6
    have := hcb p hp
    exact ⟨g, us, by rw [← e3]; exact hpin.symm, e4, zdn (E := ⟨_, _, τe, w'⟩) (F := en0 (fun g => A g ∨ W.heap.size ≤ g) w') rfl (fun g _ hg => hg) _ _ this.2 e6⟩
  unfold zar at hr
  split at hr
  · rename_i m hm
    cases hr
    obtain ⟨vs', h1, h2⟩ := zeg s _ _ hres hm
    obtain ⟨v, rfl⟩ : ∃ v, vs' = [v] := by
      cases vs' with
      | nil => exact h2.elim
      | cons v l => cases l with | nil => exact ⟨v, rfl⟩ | cons _ _ => exact h2.2.elim
    refine ⟨v, ?_, v, rfl, s.bel, (zfh (E := ⟨_, _, τe, w'⟩) (F := en0 (fun g => A g ∨ W.heap.size ≤ g) w') rfl (fun g _ hg => hg) _ _ hcr h2.1 : Cm.R _ _ _), hbx⟩
    rw [zdj]
    rw [Array.mapM_eq_mapM_toList]
    simp only [Sem.run_bind, Sem.run_map, h1, Result.andThen_ok, Sem.run_pure]
    rfl
  · rename_i ms hne hm
    cases hr
    obtain ⟨vs', h1, h2⟩ := zeg s _ _ hres hm
    have hl := All2.length _ _ h2
    have hsz : vs'.length ≠ 1 := fun e => by
      cases ms with
      | nil => simp at hl; omega
      | cons m l => cases l with
        | nil => exact hne m rfl
        | cons _ _ => simp at hl; omega
    refine ⟨.tuple vs'.toArray, ?_, _, rfl, s.bel, ⟨_, rfl, zc6 (E := ⟨_, _, τe, w'⟩) (F := en0 (fun g => A g ∨ W.heap.size ≤ g) w') rfl (fun g _ hg => hg) _ _ hcr h2⟩, hbx⟩
    rw [zdj]
    rw [Array.mapM_eq_mapM_toList]
    simp only [Sem.run_bind, Sem.run_map, h1, Result.andThen_ok, Sem.run_pure]
    simp [hsz]
  · cases hr
theorem zkh {G : World → Prop} {k : FuncId} {fn : Func} {c : Code} {bs : List Ln} {args : List Cm} {r : AV} (N : Nat) (hf : P.funcs[k]? = some fn) (hb : fn.body = some c) (hcl : (zcl r && bs.all (fun p => p.2.1.all zbi && p.2.2.all zbi)) = true) (hid : (args.flatMap idM).all (fun b => bs.any (fun p => Nat.beq p.1 b)) = true)
    (hN : args.length + (fn.ntmps - args.length) = N) (hres : zel N fn.results.toList = true)
    (h : ∀ (W : World) (A : Nat → Prop) (τ : Nat → Value) (hG : ∀ w, Kept (fun g => g < W.heap.size ∧ ¬ zo9 τ bs g) W w → G w), Aw P (cxW N W A G τ bs hG) c (RetW P fn r bs) (zfc bs args)) : ziy P G k bs args r := by
  refine ⟨hcl, hid, fun A W τ vs hG hB hsep hR => zo2 hf hb ?_⟩
  have hS := zlm N hcl hid hN hG hB hsep hR
  simp only [Bool.and_eq_true, List.all_eq_true] at hcl
  obtain ⟨hcr, hcb⟩ := hcl
  have hcb : ∀ p ∈ bs, p.2.1.all zbi = true ∧ p.2.2.all zbi = true := fun p hp => by
    have := hcb p hp
    exact ⟨List.all_eq_true.2 this.1, List.all_eq_true.2 this.2⟩
  refine wp_mono (wpIn_wide.1 (h W A τ hG _ W hS 0)) ?_
  intro e a' w' ⟨S', q, τe, s⟩
  have key : zar P fn S' = some r ∧ EndB S' bs → a'.defers = [] ∧ ∃ v, (results fn a'.tmps).run P w' = .ok v w' ∧ zxb W A τ bs r (.returned v) w' := fun ⟨hr, hE⟩ => ⟨s.nodef, finW (hG := hG) (ds := []) hcr hcb hres s hr hE⟩
  cases e with
  | normal => exact key q
  | ret => exact key q
  | _ => exact q.elim
theorem zq7 {G : World → Prop} {k : FuncId} {fn : Func} {c : Code} {bs : List Ln} {args : List Cm} {r : AV} (N : Nat) (hf : P.funcs[k]? = some fn) (hb : fn.body = some c) (hcl : (zcl r && bs.all (fun p => p.2.1.all zbi && p.2.2.all zbi)) = true) (hid : (args.flatMap idM).all (fun b => bs.any (fun p => Nat.beq p.1 b)) = true)
    (hN : args.length + (fn.ntmps - args.length) = N)
    (h : ∀ (W : World) (A : Nat → Prop) (τ : Nat → Value) (hG : ∀ w, Kept (fun g => g < W.heap.size ∧ ¬ zo9 τ bs g) W w → G w), Aw2 P (cxW N W A G τ bs hG) c (bodyPostD P fn (zxb W A τ bs r)) (zfc bs args)) : zbv P G k bs args r :=
  ⟨hcl, hid, fun A W τ vs hG hB hsep hR => calls_of_wp_defers hf hb (h W A τ hG _ W (zlm N hcl hid hN hG hB hsep hR))⟩
theorem zq8 {k : FuncId} {bs : List Ln} {nm : Nat → Nat} {args : List Cm} {r : AV} {vals : Array Value} {τ : Nat → Value} {a : Act} {w : World} (hS : SimT X S τ a w) (hc : ziy P X.G k bs args r) (hb : ∀ p ∈ bs, S.hp (nm p.1) = .live (.box p.2.1)) (hin : z3e nm bs = true)
    (hok : args.all zoe = true) (hR : All2 (Cm.R (env X S.hp τ w)) (args.map (rnM nm)) vals.toList) {d : Option Tmp} {rd : List Rd} :
    CallsE P k vals w fun e w' => ∃ v, e = .returned v ∧ SimT X (S.app d ⟨r, upB nm bs, rd⟩) τ (a.put d v) w' := by
  obtain ⟨c1, c2, hc⟩ := hc
  simp only [Bool.and_eq_true, List.all_eq_true] at c1
  obtain ⟨c1, c3⟩ := c1
  have c3 : ∀ p ∈ bs, p.2.1.all zbi = true ∧ p.2.2.all zbi = true := fun p hp => by
    have := c3 p hp
    exact ⟨List.all_eq_true.2 this.1, List.all_eq_true.2 this.2⟩
  have hinj : ∀ p ∈ bs, ∀ q ∈ bs, p.1 ≠ q.1 → nm p.1 ≠ nm q.1 := fun p hp q hq hne e => by
    have := List.all_eq_true.1 (List.all_eq_true.1 hin p hp) q hq
    rw [e, Nat.beq_refl] at this
    simp at this
    exact hne this
  have hal : ∀ p ∈ bs, zck S.hp (nm p.1) := fun p hp => ⟨_, hb p hp⟩
  have hlent : ∀ g, zo9 (fun b => τ (nm b)) bs g → ∃ b, zck S.hp b ∧ occ (τ b) = some g := fun g ⟨p, hp, e⟩ => ⟨_, hal p hp, e⟩
  refine (hc (alw X S.hp τ) w (fun b => τ (nm b)) vals (fun w' hk => X.hG w' (hS.bel.trans (hk.mono fun g hg => ⟨Nat.lt_of_lt_of_le (X.hK g hg) hS.bel.size, fun hl => by
      obtain ⟨b, h1, h2⟩ := hlent g hl
      exact (hS.own b g h1 h2).1 hg⟩))) (fun p hp => ?_) (fun p hp q hq hne g ho => hS.sep _ _ g (hinj p hp q hq hne) (hal p hp) (hal q hq) ho) ?_).mono ?_
  · obtain ⟨g, us, e1, e2, e3⟩ := hS.hp _ _ (hb p hp)
    exact ⟨g, us, e1, e2, zdn (E := env X S.hp τ w) (F := en0 (alw X S.hp τ) w) rfl (fun _ _ h => h) _ _ (c3 p hp).1 e3, fun hA => hA.2 _ (hal p hp) (by rw [e1]; rfl)⟩
  · refine zvz (E := env X S.hp τ w) (nm := nm) (U := fun b => ∃ p ∈ bs, p.1 = b) (fun b _ => rfl) _ _ hok (fun b hb' => ?_) hR
    obtain ⟨p, hp, e⟩ := List.any_eq_true.1 (List.all_eq_true.1 c2 b hb')
    exact ⟨p, hp, Nat.eq_of_beq_eq_true e⟩
  rintro e w' ⟨v, rfl, hk, hr, hbx⟩
  refine ⟨v, rfl, ?_⟩
  have hal' : ∀ b, zck (upd (upB nm bs) S.hp) b → zck S.hp b := fun b ⟨q, hq⟩ => by
    rcases zeb (nm := nm) S.hp bs b with ⟨p, h1, rfl, _⟩ | ⟨_, h2⟩
    · exact hal p h1
    · rw [h2] at hq; exact ⟨q, hq⟩
  have hbel : Kept X.K X.W0 w' := hS.bel.trans (hk.mono fun g hg => ⟨Nat.lt_of_lt_of_le (X.hK g hg) hS.bel.size, fun hl => by
      obtain ⟨b, h1, h2⟩ := hlent g hl
      exact (hS.own b g h1 h2).1 hg⟩)
  have hle : (env X S.hp τ w).le (env X (upd (upB nm bs) S.hp) τ w') := by
    refine ⟨fun i hi => ⟨?_, rfl⟩, fun g _ ha => ⟨ha.1, fun i hi => ha.2 i (hal' i hi)⟩, hk.size, fun g o hg ha => hk.cell (p := ⟨g, o, none⟩) ⟨hg, fun hl => ?_⟩⟩
    · show upd (upB nm bs) S.hp i ≠ .fresh
      rcases zeb (nm := nm) S.hp bs i with ⟨p, h1, rfl, h3⟩ | ⟨_, h2⟩
      · rw [h3]; intro e; cases e
      · rw [h2]; exact hi
    · obtain ⟨b, h1, h2⟩ := hlent g hl
      exact ha.2 b h1 h2
  have hA' : ∀ g, g < w'.heap.size → (alw X S.hp τ g ∨ w.heap.size ≤ g) → alw X (upd (upB nm bs) S.hp) τ g := fun g _ hg => by
    rcases hg with hg | hg
    · exact ⟨hg.1, fun i hi => hg.2 i (hal' i hi)⟩
    · exact ⟨.inr (Nat.le_trans hS.bsz hg), fun i hi he => by have := (hS.own i g (hal' i hi) he).2; omega⟩
  refine hS.turn (u := upB nm bs) hle hbel (fun i q hq => ?_) (fun i g hi ho => ?_) (fun i j g hij hi hj ho => hS.sep i j g hij (hal' i hi) (hal' j hj) ho) hS.one ?_
  · rcases zeb (nm := nm) S.hp bs i with ⟨p, h1, rfl, h3⟩ | ⟨h1, h2⟩
    · rw [h3] at hq; cases hq
      obtain ⟨g, us, e1, e2, e3⟩ := hbx p h1
      exact ⟨g, us, e1, e2, zdn (E := en0 (fun g => alw X S.hp τ g ∨ w.heap.size ≤ g) w') (F := env X (upd (upB nm bs) S.hp) τ w') rfl (fun g hg h => hA' g hg h) _ _ (c3 p h1).2 e3⟩
    · rw [h2] at hq
      have hfar : ∀ g, occ (τ i) = some g → w'.heap[g]? = w.heap[g]? := fun g ho => hk.block g ⟨(hS.own i g ⟨q, hq⟩ ho).2, fun ⟨p, hp, e⟩ => hS.sep _ _ g (h1 p hp) (hal p hp) ⟨q, hq⟩ e ho⟩
      have hk' := hS.hp i q hq
      cases q with
      | box cs' =>
        obtain ⟨g', vs', x1, ⟨T', x2⟩, x3⟩ := hk'
        exact ⟨g', vs', x1, ⟨T', (hfar g' (by rw [x1]; rfl)).trans x2⟩, All2.mono (zcj hle) _ _ x3⟩
      | row e' k' n' xs' =>
        obtain ⟨x0, x1⟩ := hk'
        refine ⟨x0, ?_⟩
        rcases x1 with x1 | ⟨g', cap, cur, y1, y2, y3, y4⟩
        · exact .inl x1
        · exact .inr ⟨g', cap, cur, y1, y2, (hfar g' (by rw [y1]; rfl)).trans y3, y4⟩
  · have := hS.own i g (hal' i hi) ho
    exact ⟨this.1, Nat.lt_of_lt_of_le this.2 hk.size⟩
  · exact zjk (E := en0 (fun g => alw X S.hp τ g ∨ w.heap.size ≤ g) w') (F := env X (upd (upB nm bs) S.hp) τ w') rfl hA' _ _ c1 hr
theorem zie {Q : St → Prop} {Q' : Exit → Act → World → Prop} {l2 : List Nat} {n : Nat} (hQ : ∀ S a w, Q S → Sim X S a w → wpOpsIn (FX X) n P ops Q' l2 a w) (hN : ∀ o ∈ ops, ∀ t, t ∈ o.looksAt ops ∨ o.dst = some t → t < X.N) {anc : Nat → Nat → Bool} : ∀ (l : List Nat) (T : List (Nat × List Rd × List Rd)) (S : St) (a : Act) (w : World), Go P ops X Q anc l T S → Sim X S a w → wpOpsIn (FX X) n P ops Q' (l ++ l2) a w
  | [], T, S, a, w, hg, hS => hQ _ _ _ hg hS
  | i :: r, T, S, a, w, hg, hS => by
    obtain ⟨o, e, ho, hv, _, hg⟩ := hg
    rw [List.cons_append, wpOpsIn_cons]
    exact Step.wpIn ho (hv S a w (fun _ _ => rfl) (fun r _ => AgR.refl _ r) (hN o (Array.mem_of_getElem? ho)) hS) fun v w' hS' => zie hQ hN r _ _ _ _ hg hS'
theorem zxc {id : Nat} {l : List Oper} {rest : Code} {Q : Exit → Act → World → Prop} {R : St → Prop} {k : FuncId} {xs : Array Operand} {ts : Array TypeId} {od : Oper} (m : Nat) (hN : zk0 X.N l = true) (hm : List.range l.length = List.range m ++ [m]) (ho : l[m]? = some od) (hop : od.op = .defer { callee := .value (.func k), args := xs, argTypes := ts }) (hdst : od.dst = none) (hgd : od.guard = none)
    (hr : X.rd = none) (hg : Go P l.toArray X R (fun _ _ => true) (List.range m) [] S)
    (h : ∀ S' a w, R S' → Sim X S' a w → rest.wp P Q { a with defers := { target := .fn (.func k) #[], args := xs.map a.eval } :: a.defers } w) : Aw2 P X (.seq (.region id l.toArray false) rest) Q S := fun a w hs => wp_seq (by
  have key : ∀ n, (Code.region id l.toArray false).wpIn (FX X) n P (Exit.then (rest.wp P Q) Q) a w := fun n => wpIn_region (by
    have e : List.range l.toArray.size = List.range m ++ [m] := by simpa using hm
    rw [e]
    refine zie (Q := R) (fun S' a' w' hR hS' => ?_) (zpe hN) (List.range m) [] S a w hg hs
    rw [wpOpsIn_cons]
    unfold wpOpIn
    have ho' : l.toArray[m]? = some od := by simpa using ho
    simp only [ho']
    have hwt : Region.wanted od (yielded l.toArray a'.tmps) = true := by unfold Region.wanted; rw [hgd]
    simp only [hwt, if_true]
    refine ⟨fun f _ => trivial, ?_⟩
    have hx : FX X = Fence.wide := zhm hr
    rw [hx]
    show od.uponIn _ _ _ _ _ _ ((od.semAt none a'.eval).run P w')
    rw [Oper.semAt_none]
    have hex : (execOp a'.eval od).run P w' = .ok (.defer { target := .fn (.func k) #[], args := xs.map a'.eval }) w' := by
      simp [execOp, hop, resolve, Deferred.ofValue, Act.eval]
    rw [hex, Oper.uponIn_defer, hdst]
    exact h S' a' w' hR hS')
  have := key 0
  rw [zhm hr] at this
  exact wpIn_wide.1 this)
end Go.Proofs.YtmkjfeamgknpfaaGreatDoor.Ax
namespace Go.Proofs.YtmkjfeamgknpfaaGreatDoor.LjE
open Go.RowKit Bv VaSpec Base MemL RegR Ax MemC PutC MemC3 TzC OkS SpA SpB SpC SpF SpH SpI SpJ LaA LaB LaC LaD LaE LaF LaG LiA LiB LiC LiD LiE LiF LjD
open BitsC PteSpec
set_option maxRecDepth 10000
set_option maxHeartbeats 1000000
section
variable {P : Program}
theorem zq9 {k : FuncId} (hk : zb3 P k = true) (args : Array Value) (w : World) : (invoke (.fn (.func k) #[]) args).run P w = .ok (.enter k args) w := by
  unfold zb3 at hk
  split at hk
  · rename_i fn hf
    simp only [Bool.and_eq_true, Bool.not_eq_true'] at hk
    obtain ⟨h1, h2⟩ := hk
    have h2 : ¬ fn.name = "runtime.NumGoroutine" := by simpa using h2
    have h3 : ¬ fn.body = none := fun e => by rw [e] at h1; cases h1
    simp [invoke, callFunc, hf, h2, h3, mark]
  · cases hk
theorem z44 {G : World → Prop} {fn : Func} {bs bs1 : List Ln} {r r1 : AV} {N : Nat} {A : Nat → Prop} {W : World} {τ : Nat → Value} {hG : ∀ w, Kept (fun g => g < W.heap.size ∧ ¬ zo9 τ bs g) W w → G w} {k : FuncId} {vals : Array Value} {args : List Cm} {S' : St} {τe : Nat → Value} {a' : Act} {w' : World}
    (s : SimT (z2x N W A G τ bs hG [{ target := .fn (.func k) #[], args := vals }]) S' τe a' w') (nm : Nat → Nat) (hk : zb3 P k = true) (hc : ziy P G k bs1 args r1) (hb : ∀ p ∈ bs1, S'.hp (nm p.1) = .live (.box p.2.1)) (hin : z3e nm bs1 = true) (hok : args.all zoe = true)
    (hR : All2 (Cm.R (env (z2x N W A G τ bs hG [{ target := .fn (.func k) #[], args := vals }]) S'.hp τe w')) (args.map (rnM nm)) vals.toList)
    (hcl : (zcl r && bs.all (fun p => p.2.1.all zbi && p.2.2.all zbi)) = true) (hres : zel N fn.results.toList = true) (hr : zar P fn (S'.app none ⟨r1, upB nm bs1, []⟩) = some r) (hE : EndB (S'.app none ⟨r1, upB nm bs1, []⟩) bs) : bodyPostD P fn (zxb W A τ bs r) .normal a' w' := by
  simp only [Bool.and_eq_true, List.all_eq_true] at hcl
  obtain ⟨hcr, hcb⟩ := hcl
  have hcb : ∀ p ∈ bs, p.2.1.all zbi = true ∧ p.2.2.all zbi = true := fun p hp => by
    have := hcb p hp
    exact ⟨List.all_eq_true.2 this.1, List.all_eq_true.2 this.2⟩
  show Leaves P fn a'.tmps _ a'.defers .returning w'
  rw [show a'.defers = [{ target := .fn (.func k) #[], args := vals }] from s.nodef]
  refine leaves_cons (by simp) (zq9 hk vals w') ?_
  refine ((zq8 (d := none) (rd := []) s hc hb hin hok hR) .returning).mono ?_
  rintro e u w2 ⟨rfl, v, rfl, s2⟩
  exact finW hcr hcb hres s2 hr hE
end
def prC (sz cd cp addr : Int) (p : List (Int × Int) × Int) : List Ce := [cu sz, .s p.1.length 2 (fl p.1), cu cd, ci cp, cu p.2, cu addr]
section
variable {cd cp sz f sh : Int} {xs : List (Int × Int)} {lv : Int → Int}
theorem zzt (h : TI cd cp sz xs f sh lv) (hn : xs.length ≤ 100000) (t l addr : Int) (q : Pte) (ha : U addr) (ht : cd ≤ t ∧ t < cd + cp) (l0 : 0 ≤ l) (l2 : l ≤ 2) (hg : cd ≤ q.ppn ∧ q.ppn < cd + cp) (R : List (Int × Int) × Int)
    (hR : R = if zct xs q.ppn = true then (zbf sz (TableC.za4 xs q.ppn) t (idx addr l) zP, TableC2.zcu cd cp f q.ppn) else (xs, f)) :
    ziy Tryz.prog GG 165 [(2000, prC sz cd cp addr (xs, f), prC sz cd cp addr R)] [.c (.p 2000 0), .ag (za3 t l q)] (.tu []) := by
  have b1 := h.bd
  have b2 := h.bp
  have he := zuc h hg
  have hb := zvv sz xs cd cp f q.ppn ⟨by omega, by omega⟩ (by omega) h.uf ⟨by omega, by omega⟩ h.s (by omega)
  have hwl := zdb xs q.ppn
  have hwu : Uw (TableC.za4 xs q.ppn) := fun c hc => h.u c (zei hc)
  have hw := zdz sz (TableC.za4 xs q.ppn) t l q addr ⟨false, false, false, false, false, false, false, false, 0, 0, 0⟩ ha zx5 l0 l2 ⟨by omega, by omega⟩ (zcn _ h.s) hwu (by omega)
  have hw : Ok 54 [za6 sz (TableC.za4 xs q.ppn), .ag (za3 t l q), iu addr, .ag (⟨false, false, false, false, false, false, false, false, 0, 0, 0⟩ : Pte).ce] (.m (za6 sz (zbf sz (TableC.za4 xs q.ppn) t (idx addr l) zP))) := hw
  cases c : zct xs q.ppn with
  | true =>
    rw [c] at he
    rw [c, if_pos rfl] at hR
    subst hR
    generalize zbf sz (TableC.za4 xs q.ppn) t (idx addr l) zP = ys at *
    generalize TableC.za4 xs q.ppn = zs at *
    generalize TableC2.zcu cd cp f q.ppn = f2 at *
    refine zkh 47 Tryz.func165 rfl rfl rfl rfl rfl ?_
    intro W A τ hG
    repeat (first | (refine zaj rfl ?_; first | refine zak ?_ | refine gdr (zaa rfl rfl rfl (he) (by kernel_rfl)) ?_ | refine gdr (zaa rfl rfl rfl (hb) (by kernel_rfl)) ?_ | refine gdr (zaa rfl rfl rfl (hw) (by kernel_rfl)) ?_) | (refine hK _ ?_; clear hK K) | refine zac rfl ?_ | refine zam (by kernel_rfl) (by kernel_rfl) rfl ?_ | refine zaf rfl rfl ?_ | refine zab (fun K hK => ?_))
    exact ⟨by kernel_rfl, ⟨_, rfl, rfl⟩, trivial⟩
  | false =>
    rw [c] at he
    rw [c, if_neg (by simp)] at hR
    subst hR
    refine zkh 47 Tryz.func165 rfl rfl rfl rfl rfl ?_
    intro W A τ hG
    repeat (first | (refine zaj rfl ?_; first | refine zak ?_ | refine gdr (zaa rfl rfl rfl (he) (by kernel_rfl)) ?_) | (refine hK _ ?_; clear hK K) | refine zac rfl ?_ | refine zam (by kernel_rfl) (by kernel_rfl) rfl ?_ | refine zae rfl rfl ?_ | refine zai ?_ | refine zab (fun K hK => ?_))
    exact ⟨by kernel_rfl, ⟨_, rfl, rfl⟩, trivial⟩
def z45 (t m addr : Int) (sz cd cp : Int) (q : Pte) (p : List (Int × Int) × Int) : St := St.of [(0, .m (.c (.p 2000 0))), (1, .m (iu t)), (2, .m (ii (m + 1))), (6, .m (.c (.p 6 0))), (29, .m (.c (.p 2000 0))), (30, .m (.ag (za3 t (m + 1) q)))] [(6, .live (.box (za3 t (m + 1) q))), (2000, .live (.box (prC sz cd cp addr p)))]
theorem z2y (addr : Int) (ha : U addr) (h : TI cd cp sz xs f sh lv) (hn : xs.length ≤ 100000) : ∀ (l : Nat) (t : Int), l ≤ 2 → Al cd cp f t → lv t = l → (2 ≤ l → idx addr 2 ≠ 511) →
    zbv Tryz.prog GG 123 [(2000, prC sz cd cp addr (xs, f), prC sz cd cp addr (prN sz cd cp addr l t (xs, f)))] [.c (.p 2000 0), iu t, ii l] (.tu []) := by
  intro l
  induction l with
  | zero =>
    intro t h2 ht hl hH
    have b1 := h.bd
    have b2 := h.bp
    have bt := ht.1
    have hr := ze3 sz xs t 0 addr 0 ⟨by omega, by omega⟩ ha (by omega) (by omega) (by omega) h.s h.u
    rw [show zbs sz xs addr 0 0 t = (t, 0) from rfl] at hr
    have hr : Ok 41 [za6 sz xs, iu t, ii 0, iu addr, ii 0] (.m (.ag (za3 t 0 (atM sz xs t (idx addr 0))))) := hr
    have hU := zem h.u sz t (idx addr 0)
    have hk := zf2 (atM sz xs t (idx addr 0))
    have hbd := zhr (atM sz xs t (idx addr 0)) hU 0 (by omega) (by omega)
    rw [show prN sz cd cp addr 0 t (xs, f) = (xs, f) from rfl]
    generalize atM sz xs t (idx addr 0) = q at *
    cases c : zbc q with
    | false =>
      rw [c] at hk
      refine zby 38 Tryz.func123 rfl rfl rfl rfl rfl ?_
      intro W A τ hG
      repeat (first | (refine zaj rfl ?_; first | refine zak ?_ | refine gdr (zaa rfl rfl rfl (hr) (by kernel_rfl)) ?_ | refine gdr (zaa rfl rfl rfl (hk) (by kernel_rfl)) ?_) | (refine hK _ ?_; clear hK K) | refine zac rfl ?_ | refine zam (by kernel_rfl) (by kernel_rfl) rfl ?_ | refine zaf rfl rfl ?_ | refine zab (fun K hK => ?_) | refine zah (show zar _ _ _ = some _ ∧ EndB _ _ from ⟨by kernel_rfl, ?_⟩))
      exact ⟨⟨_, rfl, rfl⟩, trivial⟩
    | true =>
      rw [c] at hk
      have hb2 : zc5 q 0 = true := by unfold zc5; rw [c]; simp
      rw [hb2] at hbd
      refine zby 38 Tryz.func123 rfl rfl rfl rfl rfl ?_
      intro W A τ hG
      repeat (first | (refine zaj rfl ?_; first | refine zak ?_ | refine gdr (zaa rfl rfl rfl (hr) (by kernel_rfl)) ?_ | refine gdr (zaa rfl rfl rfl (hk) (by kernel_rfl)) ?_ | refine gdr (zaa rfl rfl rfl (hbd) (by kernel_rfl)) ?_) | (refine hK _ ?_; clear hK K) | refine zac rfl ?_ | refine zam (by kernel_rfl) (by kernel_rfl) rfl ?_ | refine zaf rfl rfl ?_ | refine zab (fun K hK => ?_) | refine zah (show zar _ _ _ = some _ ∧ EndB _ _ from ⟨by kernel_rfl, ?_⟩))
      exact ⟨⟨_, rfl, rfl⟩, trivial⟩
  | succ m IH =>
    intro t h2 ht hl hH
    have b1 := h.bd
    have b2 := h.bp
    have bt := ht.1
    have hi := idx_bd addr ((m + 1 : Nat) : Int)
    have hr := ze3 sz xs t ((m + 1 : Nat) : Int) addr ((m + 1 : Nat) : Int) ⟨by omega, by omega⟩ ha (by omega) (by omega) (by omega) h.s h.u
    rw [show zbs sz xs addr ((m + 1 : Nat) : Int) ((m + 1 : Nat) : Int) t = (t, ((m + 1 : Nat) : Int)) from zjv (by omega) (fun hh => by omega) (by omega)] at hr
    have hr : Ok 41 [za6 sz xs, iu t, ii ((m + 1 : Nat) : Int), iu addr, ii ((m + 1 : Nat) : Int)] (.m (.ag (za3 t ((m + 1 : Nat) : Int) (atM sz xs t (idx addr ((m + 1 : Nat) : Int)))))) := hr
    have hU := zem h.u sz t (idx addr ((m + 1 : Nat) : Int))
    have hk := zf2 (atM sz xs t (idx addr ((m + 1 : Nat) : Int)))
    have hbd := zhr (atM sz xs t (idx addr ((m + 1 : Nat) : Int))) hU ((m + 1 : Nat) : Int) (by omega) (by omega)
    cases c : za9 (atM sz xs t (idx addr ((m + 1 : Nat) : Int))) ((m + 1 : Nat) : Int) with
    | false =>
      have hnk : zbc (atM sz xs t (idx addr ((m + 1 : Nat) : Int))) = false := by
        rcases h.e.k t _ hi with e | ⟨_, _, ⟨e, _⟩ | ⟨e, _⟩⟩
        · rw [e]; rfl
        · exact (zb2 e).1
        · rw [zek e (by omega)] at c; cases c
      rw [hnk] at hk
      have hpr : prN sz cd cp addr (m + 1) t (xs, f) = (xs, f) := by unfold prN; rw [c]; rfl
      rw [hpr]
      generalize atM sz xs t (idx addr ((m + 1 : Nat) : Int)) = q at *
      refine zby 38 Tryz.func123 rfl rfl rfl rfl rfl ?_
      intro W A τ hG
      repeat (first | (refine zaj rfl ?_; first | refine zak ?_ | refine gdr (zaa rfl rfl rfl (hr) (by kernel_rfl)) ?_ | refine gdr (zaa rfl rfl rfl (hk) (by kernel_rfl)) ?_) | (refine hK _ ?_; clear hK K) | refine zac rfl ?_ | refine zam (by kernel_rfl) (by kernel_rfl) rfl ?_ | refine zaf rfl rfl ?_ | refine zab (fun K hK => ?_) | refine zah (show zar _ _ _ = some _ ∧ EndB _ _ from ⟨by kernel_rfl, ?_⟩))
      exact ⟨⟨_, rfl, rfl⟩, trivial⟩
    | true =>
      obtain ⟨k1, k2, k3, k4, k5⟩ := zqq h hi c
      have hls : lv (atM sz xs t (idx addr ((m + 1 : Nat) : Int))).ppn = (m : Int) := by rw [k4, hl]; omega
      have hIH := IH _ (by omega) k5 hls (fun hh => by omega)
      have P := zhc addr h m _ (by omega) k5 hls (fun hh => by omega)
      have hbw := zzt P.t (Nat.le_trans P.n hn) t ((m + 1 : Nat) : Int) addr (atM sz xs t (idx addr ((m + 1 : Nat) : Int))) ha bt (by omega) (by omega) k5.1 _ rfl
      have hpr : prN sz cd cp addr (m + 1) t (xs, f) = if zct (prN sz cd cp addr m (atM sz xs t (idx addr ((m + 1 : Nat) : Int))).ppn (xs, f)).1 (atM sz xs t (idx addr ((m + 1 : Nat) : Int))).ppn = true then (zbf sz (TableC.za4 (prN sz cd cp addr m (atM sz xs t (idx addr ((m + 1 : Nat) : Int))).ppn (xs, f)).1 (atM sz xs t (idx addr ((m + 1 : Nat) : Int))).ppn) t (idx addr ((m + 1 : Nat) : Int)) zP, TableC2.zcu cd cp (prN sz cd cp addr m (atM sz xs t (idx addr ((m + 1 : Nat) : Int))).ppn (xs, f)).2 (atM sz xs t (idx addr ((m + 1 : Nat) : Int))).ppn) else ((prN sz cd cp addr m (atM sz xs t (idx addr ((m + 1 : Nat) : Int))).ppn (xs, f)).1, (prN sz cd cp addr m (atM sz xs t (idx addr ((m + 1 : Nat) : Int))).ppn (xs, f)).2) := by
        conv => lhs; unfold prN
        rw [if_pos (show za9 (atM sz (xs, f).1 t (idx addr ((m + 1 : Nat) : Int))) ((m + 1 : Nat) : Int) = true from c)]
      rw [← hpr] at hbw
      rw [(zco k1).1] at hk
      have hnb : zc5 (atM sz xs t (idx addr ((m + 1 : Nat) : Int))) ((m + 1 : Nat) : Int) = false := by
        unfold za9 at c
        simp only [Bool.and_eq_true, Bool.not_eq_true'] at c
        exact c.2
      rw [hnb] at hbd
      clear hpr P IH
      generalize prN sz cd cp addr (m + 1) t (xs, f) = p2 at *
      generalize prN sz cd cp addr m (atM sz xs t (idx addr ((m + 1 : Nat) : Int))).ppn (xs, f) = p1 at *
      generalize atM sz xs t (idx addr ((m + 1 : Nat) : Int)) = q at *
      have hIH : zbv Tryz.prog GG 123 [(2000, prC sz cd cp addr (xs, f), prC sz cd cp addr p1)] [.c (.p 2000 0), iu q.ppn, ii (((m + 1 : Nat) : Int) - 1)] (.tu []) := by
        rw [show ((m + 1 : Nat) : Int) - 1 = (m : Int) by omega]; exact hIH
      have hcast : ((m + 1 : Nat) : Int) = (m : Int) + 1 := by omega
      rw [hcast] at hr hbd hIH hbw ⊢
      refine zq7 38 Tryz.func123 rfl rfl rfl rfl ?_
      intro W A τ hG
      refine zcy (fun K hK => ?_)
      repeat (first | (refine zaj rfl ?_; first | refine zak ?_ | refine gdr (zaa rfl rfl rfl (hr) (by kernel_rfl)) ?_) | (refine hK _ ?_; clear hK K) | refine zam (by kernel_rfl) (by kernel_rfl) rfl ?_)
      refine zcy (fun K hK => ?_)
      repeat (first | (refine zaj rfl ?_; first | refine zak ?_ | refine gdr (zaa rfl rfl rfl (hk) (by kernel_rfl)) ?_ | refine gdr (zaa rfl rfl rfl (hbd) (by kernel_rfl)) ?_) | (refine hK _ ?_; clear hK K) | refine zac rfl ?_ | refine zae rfl rfl ?_ | refine zai ?_ | refine zab (fun K hK => ?_))
      refine zxc (R := fun S' => Sub (cxW 38 W A GG τ _ hG) S' (z45 t m addr sz cd cp q (xs, f))) 2 (by rfl) (by rfl) (by rfl) (by rfl) (by rfl) (by rfl) (by rfl) ?_ ?_
      · skip
        repeat (first | (refine zaj rfl ?_; first | refine zak ?_))
        exact zao _ _ ⟨by kernel_rfl, by kernel_rfl, by kernel_rfl, by kernel_rfl, by kernel_rfl, by kernel_rfl, trivial⟩ ⟨by kernel_rfl, by kernel_rfl, trivial⟩ (by kernel_rfl)
      intro S' a w hsub hS'
      obtain ⟨τe, s⟩ := hsub a w hS'
      have hnd : a.defers = [] := s.nodef
      have e29 : Cm.R _ (.c (.p 2000 0)) (a.tmps.getD 29 undef) := s.tm 29 (by show 29 < 38; decide)
      have e30 : Cm.R _ (.ag (za3 t ((m : Int) + 1) q)) (a.tmps.getD 30 undef) := s.tm 30 (by show 30 < 38; decide)
      have ep := (s.pin (2000, τ 2000) (by simp [cxW])).2
      have hdf : ({ target := .fn (.func 165) #[], args := #[Operand.tmp 29, Operand.tmp 30].map a.eval } : Deferred) = { target := .fn (.func 165) #[], args := #[a.tmps.getD 29 undef, a.tmps.getD 30 undef] } := by simp [Act.eval]
      rw [hdf, hnd]
      generalize a.tmps.getD 29 undef = v29 at *
      generalize a.tmps.getD 30 undef = v30 at *
      have s' : SimT (z2x 38 W A GG τ _ hG [{ target := .fn (.func 165) #[], args := #[v29, v30] }]) (z45 t m addr sz cd cp q (xs, f)) τe { a with defers := [{ target := .fn (.func 165) #[], args := #[v29, v30] }] } w := ⟨s.size, rfl, s.bel, s.tm, s.hp, s.own, s.sep, s.one, s.pin⟩
      refine wp_mono (ztx (Q := fun e S'' => e = .normal ∧ Sub (z2x 38 W A GG τ _ hG [{ target := .fn (.func 165) #[], args := #[v29, v30] }]) S'' (St.of [] [(2000, .live (.box (prC sz cd cp addr p1)))])) rfl ?_ ⟨τe, s'⟩) ?_
      · skip
        repeat (first | (refine zaj rfl ?_; first | refine zak ?_ | refine gdr (zeh (fun _ => 2000) hIH rfl rfl (by kernel_rfl) rfl ⟨rfl, trivial⟩ (by kernel_rfl)) ?_) | refine zac rfl ?_)
        exact ⟨rfl, zao _ _ trivial ⟨by kernel_rfl, trivial⟩ (by kernel_rfl)⟩
      intro e a2 w2 ⟨S2, ⟨he, hs2⟩, hS2⟩
      subst he
      obtain ⟨τ2, t2⟩ := hs2 a2 w2 hS2
      have ep2 := (t2.pin (2000, τ 2000) (by simp [z2x, cxW])).2
      have hin2 := (t2.pin (2000, τ 2000) (by simp [z2x, cxW])).1
      refine z44 t2 (fun _ => 2000) (by kernel_rfl) hbw (by intro p hp; simp at hp; subst hp; rfl) (by kernel_rfl) (by kernel_rfl) ?_ (by kernel_rfl) (by kernel_rfl) (by kernel_rfl) ⟨⟨_, rfl, rfl⟩, trivial⟩
      obtain ⟨_, g, i1, i2⟩ := e29
      exact ⟨⟨hin2, g, by rw [← i1]; exact ep2.trans ep.symm, i2⟩, zyf _ _ (by kernel_rfl) e30, trivial⟩
end
end Go.Proofs.YtmkjfeamgknpfaaGreatDoor.LjE
namespace Go.Proofs.YtmkjfeamgknpfaaGreatDoor.LkB
open Go.RowKit Bv VaSpec Base MemL RegR Ax MemC PutC MemC3 TzC OkS SpA SpB SpC SpF SpH SpI SpJ LaA LaB LaC LaD LaE LaF LaG LiA LiB LiC LiD LiE LiF SpL SpN SpO RfA RfB RfC RfD RlA RlB LjB LkA
open BitsC PteSpec
set_option maxRecDepth 10000
set_option maxHeartbeats 1000000
section
variable {cd cp sz f sh : Int} {xs : List (Int × Int)} {lv : Int → Int}
theorem z46 (addr : Int) (h : TI cd cp sz xs f sh lv) {top : Int} {l : Nat} (h2 : l ≤ 2) (ht : Al cd cp f top) (hl : lv top = l) (hH : 2 ≤ l → idx addr 2 ≠ 511) (w : Nat) (hw : w ≤ l) : TI cd cp sz (zhk sz cd cp addr top l w (xs, f)).1 (zhk sz cd cp addr top l w (xs, f)).2 sh lv ∧ (zhk sz cd cp addr top l w (xs, f)).1.length ≤ xs.length ∧ Al cd cp (zhk sz cd cp addr top l w (xs, f)).2 top := by
  rw [zwr addr h h2 ht hl hH w hw]
  split
  · rename_i c
    obtain ⟨l', t', i1, i2, i3, i4, i5, _, _⟩ := zci h addr (w : Int) (by omega) l top ht hl (by omega)
    rw [i1] at c ⊢
    have c : (l' : Int) = (w : Int) := c
    have P := zhc addr h w t' (by omega) i4 (by omega) (fun hh => hH (by omega))
    exact ⟨P.t, P.n, P.a _ ht (.inr (by rw [hl]; omega))⟩
  · exact ⟨h, Nat.le_refl _, ht⟩
def z55 (sz cd cp top addr : Int) (l : Nat) (m : List (Int × Int)) (f : Int) (w : Nat) : St := St.of [(2, .m (iu top)), (3, .m (ii l)), (4, .m (iu addr)), (5, .m (.c (.p 5 0))), (6, .m (.c (.p 6 0))), (10, .m (.c (.p 10 0))), (11, .m (.c (.p 11 0))), (12, .m (ii w))] [(5, .live (.box [cu sz, .s m.length 2 (fl m)])), (6, .live (.box [cu cd, ci cp, cu f])), (10, .live (.box [cu 0, .v (.slice none 0 0)])), (11, .live (.box [cu 0, ci 0, cu 0]))]
theorem zxd (addr : Int) (ha : U addr) (h : TI cd cp sz xs f sh lv) (hn : xs.length ≤ 100000) (l : Nat) (top : Int) (h2 : l ≤ 2) (ht : Al cd cp f top) (hl : lv top = l) (hH : 2 ≤ l → idx addr 2 ≠ 511) :
    Ok 96 [za6 sz xs, .ag [cu cd, ci cp, cu f], iu top, ii l, iu addr] (.tu [za6 sz (prN sz cd cp addr l top (xs, f)).1, .ag [cu cd, ci cp, cu (prN sz cd cp addr l top (xs, f)).2]]) := by
  rw [← z4r addr h h2 ht hl hH]
  obtain ⟨R, hR⟩ : ∃ R, R = zhk sz cd cp addr top l l (xs, f) := ⟨_, rfl⟩
  rw [← hR]
  refine zad 64 Tryz.func96 rfl rfl rfl rfl ?_ GG.to
  intro W A hG
  repeat (first | (refine zaj rfl ?_; first | refine zak ?_) | (refine hK _ ?_; clear hK K) | refine zac rfl ?_ | refine zag ?_ | refine zab (fun K hK => ?_))
  refine zay (α := Nat × List (Int × Int) × Int) (fun p => p.1 ≤ l ∧ (p.2.1, p.2.2) = zhk sz cd cp addr top l p.1 (xs, f)) (fun p => z55 sz cd cp top addr l p.2.1 p.2.2 p.1) (fun p => l - p.1) (0, xs, f) ⟨Nat.zero_le _, rfl⟩ (zao _ _ ⟨by kernel_rfl, by kernel_rfl, by kernel_rfl, by kernel_rfl, by kernel_rfl, by kernel_rfl, by kernel_rfl, by kernel_rfl, trivial⟩ ⟨by kernel_rfl, by kernel_rfl, by kernel_rfl, by kernel_rfl, trivial⟩ (by kernel_rfl)) ?_
  rintro ⟨w, m, ff⟩ ⟨x1, x2⟩
  replace x1 : w ≤ l := x1
  replace x2 : (m, ff) = zhk sz cd cp addr top l w (xs, f) := x2
  show Aw _ _ _ _ (z55 sz cd cp top addr l m ff w)
  unfold z55
  by_cases hlt : w < l
  · obtain ⟨y1, y2, y3⟩ := z46 addr h h2 ht hl hH w x1
    have hst : zhk sz cd cp addr top l (w + 1) (xs, f) = if (zav sz m addr ((w + 1 : Nat) : Int) l top).2 = ((w + 1 : Nat) : Int) ∧ zbc (atM sz m (zav sz m addr ((w + 1 : Nat) : Int) l top).1 (idx addr ((w + 1 : Nat) : Int))) = true ∧ zct m (atM sz m (zav sz m addr ((w + 1 : Nat) : Int) l top).1 (idx addr ((w + 1 : Nat) : Int))).ppn = true
        then (zbf sz (TableC.za4 m (atM sz m (zav sz m addr ((w + 1 : Nat) : Int) l top).1 (idx addr ((w + 1 : Nat) : Int))).ppn) (zav sz m addr ((w + 1 : Nat) : Int) l top).1 (idx addr ((w + 1 : Nat) : Int)) zP, TableC2.zcu cd cp ff (atM sz m (zav sz m addr ((w + 1 : Nat) : Int) l top).1 (idx addr ((w + 1 : Nat) : Int))).ppn) else (m, ff) := by
      conv => lhs; unfold zhk
      rw [← x2]
    rw [← x2] at y1 y2 y3
    replace y1 : TI cd cp sz m ff sh lv := y1
    replace y2 : m.length ≤ xs.length := y2
    replace y3 : Al cd cp ff top := y3
    have b1 := y1.bd
    have b2 := y1.bp
    have bz := y1.bz
    have bt := y3.1
    have huf := y1.uf
    have hrc := zew sz m addr ((w + 1 : Nat) : Int) ha (by omega) y1.s y1.u (by omega) l top h2 ⟨by omega, by omega⟩
    obtain ⟨l', t', i1, i2, i3, i4, i5, i6, _⟩ := zci y1 addr ((w + 1 : Nat) : Int) (by omega) l top y3 hl (by omega)
    rw [i1] at hrc hst
    replace hrc : Ok 43 [za6 sz m, iu top, ii l, iu addr, ii ((w + 1 : Nat) : Int)] (.m (.ag (za3 t' (l' : Int) (atM sz m t' (idx addr (l' : Int)))))) := hrc
    replace hst : zhk sz cd cp addr top l (w + 1) (xs, f) = if (l' : Int) = ((w + 1 : Nat) : Int) ∧ zbc (atM sz m t' (idx addr ((w + 1 : Nat) : Int))) = true ∧ zct m (atM sz m t' (idx addr ((w + 1 : Nat) : Int))).ppn = true
        then (zbf sz (TableC.za4 m (atM sz m t' (idx addr ((w + 1 : Nat) : Int))).ppn) t' (idx addr ((w + 1 : Nat) : Int)) zP, TableC2.zcu cd cp ff (atM sz m t' (idx addr ((w + 1 : Nat) : Int))).ppn) else (m, ff) := hst
    by_cases c1 : (l' : Int) = ((w + 1 : Nat) : Int)
    · rw [c1] at hrc
      have hi := idx_bd addr ((w + 1 : Nat) : Int)
      have hlk := ziw (atM sz m t' (idx addr ((w + 1 : Nat) : Int)))
      have hlk1 : zbc (atM sz m t' (idx addr ((w + 1 : Nat) : Int))) = true → lkP (atM sz m t' (idx addr ((w + 1 : Nat) : Int))) = true := fun c => by
        rcases y1.e.k t' _ hi with e | ⟨_, _, ⟨e, _⟩ | ⟨e, _⟩⟩
        · rw [e] at c; cases c
        · rw [(zb2 e).1] at c; cases c
        · exact e
      cases c2 : zbc (atM sz m t' (idx addr ((w + 1 : Nat) : Int))) with
      | false =>
        rw [c2] at hlk
        rw [if_neg (fun hh => by rw [c2] at hh; exact absurd hh.2.1 (by simp))] at hst
        generalize atM sz m t' (idx addr ((w + 1 : Nat) : Int)) = q at *
        clear hR hlk1 y1 i1 i6 x2
        repeat (first | (refine zaj rfl ?_; first | refine zak ?_ | refine gdr (zaa rfl rfl rfl (hrc) (by kernel_rfl)) ?_ | refine gdr (zaa rfl rfl rfl (hlk) (by kernel_rfl)) ?_) | (refine hK _ ?_; clear hK K) | (rename_i K1 hK1; refine hK1 _ ?_; clear hK hK1; clear K) | refine zac rfl ?_ | refine zaf rfl rfl ?_ | refine zag ?_ | refine zal ?_ | refine zai ?_ | refine zab (fun K hK => ?_))
        exact ⟨(w + 1, m, ff), ⟨by show w + 1 ≤ l; omega, hst.symm⟩, by show l - (w + 1) < l - w; omega, zao _ _ ⟨by kernel_rfl, by kernel_rfl, by kernel_rfl, by kernel_rfl, by kernel_rfl, by kernel_rfl, by kernel_rfl, by kernel_rfl, trivial⟩ ⟨by kernel_rfl, by kernel_rfl, by kernel_rfl, by kernel_rfl, trivial⟩ (by kernel_rfl)⟩
      | true =>
        rw [c2] at hlk
        obtain ⟨k1, k2, k3, k4⟩ := zig y1 hi (hlk1 c2)
        have bq := k4.1
        have hem := zw8 sz m (atM sz m t' (idx addr ((w + 1 : Nat) : Int))).ppn ⟨by omega, by omega⟩ (by omega) (fun c hc => by have := (y1.r c hc).1; exact ⟨by omega, by omega⟩)
        cases c3 : zct m (atM sz m t' (idx addr ((w + 1 : Nat) : Int))).ppn with
        | false =>
          rw [c3] at hem
          rw [if_neg (fun hh => by rw [c3] at hh; exact absurd hh.2.2 (by simp))] at hst
          generalize atM sz m t' (idx addr ((w + 1 : Nat) : Int)) = q at *
          clear hR hlk1 y1 i1 i6 x2 k1 k2 k3 k4
          repeat (first | (refine zaj rfl ?_; first | refine zak ?_ | refine gdr (zaa rfl rfl rfl (hrc) (by kernel_rfl)) ?_ | refine gdr (zaa rfl rfl rfl (hlk) (by kernel_rfl)) ?_ | refine gdr (zaa rfl rfl rfl (hem) (by kernel_rfl)) ?_) | (refine hK _ ?_; clear hK K) | (rename_i K1 hK1; refine hK1 _ ?_; clear hK hK1; clear K) | refine zac rfl ?_ | refine zaf rfl rfl ?_ | refine zag ?_ | refine zal ?_ | refine zai ?_ | refine zab (fun K hK => ?_))
          exact ⟨(w + 1, m, ff), ⟨by show w + 1 ≤ l; omega, hst.symm⟩, by show l - (w + 1) < l - w; omega, zao _ _ ⟨by kernel_rfl, by kernel_rfl, by kernel_rfl, by kernel_rfl, by kernel_rfl, by kernel_rfl, by kernel_rfl, by kernel_rfl, trivial⟩ ⟨by kernel_rfl, by kernel_rfl, by kernel_rfl, by kernel_rfl, trivial⟩ (by kernel_rfl)⟩
        | true =>
          rw [c3] at hem
          rw [if_pos ⟨c1, c2, c3⟩] at hst
          have bt' := i4.1
          have hbk := zsf sz m cd cp ff (atM sz m t' (idx addr ((w + 1 : Nat) : Int))).ppn ⟨by omega, by omega⟩ (by omega) huf ⟨by omega, by omega⟩ y1.s (by omega) (fun c hc => by have := (y1.r c hc).1; omega)
          have hwl := zdb m (atM sz m t' (idx addr ((w + 1 : Nat) : Int))).ppn
          have hwt := ze8 sz (TableC.za4 m (atM sz m t' (idx addr ((w + 1 : Nat) : Int))).ppn) t' ((w + 1 : Nat) : Int) (atM sz m t' (idx addr ((w + 1 : Nat) : Int))) addr ⟨false, false, false, false, false, false, false, false, 0, 0, 0⟩ ha zx5 (by decide) (by omega) (by omega) ⟨by omega, by omega⟩ (zcn _ y1.s) (by omega)
          rw [show (⟨false, false, false, false, false, false, false, false, 0, 0, 0⟩ : Pte) = zP from rfl, ← zdd (sz := sz) zx5 (by omega) hi (by rw [bz]; omega)] at hwt
          replace hwt : Ok 95 [za6 sz (TableC.za4 m (atM sz m t' (idx addr ((w + 1 : Nat) : Int))).ppn), .ag (za3 t' ((w + 1 : Nat) : Int) (atM sz m t' (idx addr ((w + 1 : Nat) : Int)))), iu addr, .ag (⟨false, false, false, false, false, false, false, false, 0, 0, 0⟩ : Pte).ce] (.m (za6 sz (zbf sz (TableC.za4 m (atM sz m t' (idx addr ((w + 1 : Nat) : Int))).ppn) t' (idx addr ((w + 1 : Nat) : Int)) zP))) := hwt
          generalize zbf sz (TableC.za4 m (atM sz m t' (idx addr ((w + 1 : Nat) : Int))).ppn) t' (idx addr ((w + 1 : Nat) : Int)) zP = m3 at *
          generalize TableC.za4 m (atM sz m t' (idx addr ((w + 1 : Nat) : Int))).ppn = m2 at *
          generalize TableC2.zcu cd cp ff (atM sz m t' (idx addr ((w + 1 : Nat) : Int))).ppn = f3 at *
          generalize atM sz m t' (idx addr ((w + 1 : Nat) : Int)) = q at *
          clear hR hlk1 y1 i1 i6 x2 k1 k2 k3 k4
          repeat (first | (refine zaj rfl ?_; first | refine zak ?_ | refine gdr (zaa rfl rfl rfl (hrc) (by kernel_rfl)) ?_ | refine gdr (zaa rfl rfl rfl (hlk) (by kernel_rfl)) ?_ | refine gdr (zaa rfl rfl rfl (hem) (by kernel_rfl)) ?_ | refine gdr (zaa rfl rfl rfl (hbk) (by kernel_rfl)) ?_ | refine gdr (zaa rfl rfl rfl (hwt) (by kernel_rfl)) ?_) | (refine hK _ ?_; clear hK K) | refine zac rfl ?_ | refine zaf rfl rfl ?_ | refine zae rfl rfl ?_ | refine zag ?_ | refine zai ?_ | refine zab (fun K hK => ?_))
          exact ⟨(w + 1, m3, f3), ⟨by show w + 1 ≤ l; omega, hst.symm⟩, by show l - (w + 1) < l - w; omega, zao _ _ ⟨by kernel_rfl, by kernel_rfl, by kernel_rfl, by kernel_rfl, by kernel_rfl, by kernel_rfl, by kernel_rfl, by kernel_rfl, trivial⟩ ⟨by kernel_rfl, by kernel_rfl, by kernel_rfl, by kernel_rfl, trivial⟩ (by kernel_rfl)⟩
    · rw [if_neg (fun hh => c1 hh.1)] at hst
      generalize atM sz m t' (idx addr (l' : Int)) = q at *
      clear hR y1 i1 i6 x2
      repeat (first | (refine zaj rfl ?_; first | refine zak ?_ | refine gdr (zaa rfl rfl rfl (hrc) (by kernel_rfl)) ?_) | (refine hK _ ?_; clear hK K) | (rename_i K1 hK1; refine hK1 _ ?_; clear hK hK1; clear K) | refine zac rfl ?_ | refine zaf rfl rfl ?_ | refine zag ?_ | refine zal ?_ | refine zai ?_ | refine zab (fun K hK => ?_))
      exact ⟨(w + 1, m, ff), ⟨by show w + 1 ≤ l; omega, hst.symm⟩, by show l - (w + 1) < l - w; omega, zao _ _ ⟨by kernel_rfl, by kernel_rfl, by kernel_rfl, by kernel_rfl, by kernel_rfl, by kernel_rfl, by kernel_rfl, by kernel_rfl, trivial⟩ ⟨by kernel_rfl, by kernel_rfl, by kernel_rfl, by kernel_rfl, trivial⟩ (by kernel_rfl)⟩
  · obtain rfl : w = l := by omega
    rw [← x2] at hR
    subst hR
    clear x2
    repeat (first | (refine zaj rfl ?_; first | refine zak ?_) | (refine hK _ ?_; clear hK K) | (rename_i K1 hK1; refine hK1 _ ?_; clear hK hK1; clear K) | refine zac rfl ?_ | refine zam (by kernel_rfl) (by kernel_rfl) rfl ?_ | exact zah (show zar _ _ _ = some _ by kernel_rfl) | refine zae rfl rfl ?_ | refine zal ?_ | refine zab (fun K hK => ?_))
end
end Go.Proofs.YtmkjfeamgknpfaaGreatDoor.LkB
