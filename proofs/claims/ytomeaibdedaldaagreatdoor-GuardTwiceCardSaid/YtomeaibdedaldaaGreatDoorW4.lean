/- Texts of this claim, one behind the other: RfQ, LaD, SpO, LaE, LaF, LaG, LiA, LiB, LiC, LiD, RefS, RefSet, RfA, RfB, PteR, VaR, RfC, RfD, RfE, RfG, RfJ, RfK, LaH. -/
import Derived.Test.YtomeaibdedaldaaGreatDoorW3
import Derived.Test.YtomeaibdedaldaaGreatDoorW2
import Derived.OwnWalk
set_option linter.unusedVariables false
set_option linter.unusedSimpArgs false
set_option maxRecDepth 20000
set_option maxHeartbeats 4000000
namespace Go.Proofs.YtomeaibdedaldaaGreatDoor
namespace RfQ
open Go.RowKit Bv MemL RegR Ax MemC PutC OkS SpA SpB SpD IterC SpH SpI SpN
def zcv (p v : Int) (s : List (Int × Int) × Bool) (c : Int × Int) : List (Int × Int) × Bool :=
 if s.2 = false ∧ p < c.1 then (s.1 ++ [(p, v), c], true) else if c.1 = p then s else (s.1 ++ [c], s.2)
def z38 (p v : Int) (s : List (Int × Int) × Bool) : List (Int × Int) := if s.2 = false then s.1 ++ [(p, v)] else s.1
theorem zf9 (p v : Int) : ∀ (cs acc : List (Int × Int)), cs.foldl (zcv p v) (acc, true) = (acc ++ cs.filter (fun c => !decide (c.1 = p)), true)
 | [], acc => by simp
 | c :: cs, acc => by
  simp only [List.foldl_cons]; by_cases h : c.1 = p
  · rw [show zcv p v (acc, true) c = (acc, true) by simp [zcv, h], zf9 p v cs acc]; simp [h]
  · rw [show zcv p v (acc, true) c = (acc ++ [c], true) by simp [zcv, h], zf9 p v cs (acc ++ [c])]; simp [h]
theorem zjb {p : Int} {cs : List (Int × Int)} (h : ∀ c ∈ cs, c.1 ≠ p) : cs.filter (fun c => !decide (c.1 = p)) = cs :=
 List.filter_eq_self.2 fun c hc => by simp [h c hc]
theorem zs7 (p v : Int) (hv : v ≠ 0) : ∀ (cs acc : List (Int × Int)), Srt cs → z38 p v (cs.foldl (zcv p v) (acc, false)) = acc ++ zb3 cs p v
 | [], acc, _ => by simp [z38, zb3, hv]
 | c :: cs, acc, hs => by
  have hs' := List.pairwise_cons.1 hs; simp only [List.foldl_cons, zb3]; by_cases h1 : c.1 < p
  · rw [show zcv p v (acc, false) c = (acc ++ [c], false) by unfold zcv; rw [if_neg (by simp; omega), if_neg (by omega)], zs7 p v hv cs _ hs'.2, if_pos h1]
    simp
  · rw [if_neg h1]; by_cases h2 : c.1 = p
    · rw [show zcv p v (acc, false) c = (acc, false) by unfold zcv; rw [if_neg (by simp; omega), if_pos h2], if_pos h2, if_neg hv]
      cases cs with
      | nil => simp [z38]
      | cons d ds =>
       have hd := hs'.1 d (by simp); simp only [List.foldl_cons]; rw [show zcv p v (acc, false) d = (acc ++ [(p, v), d], true) by unfold zcv; rw [if_pos ⟨rfl, by omega⟩], zf9]
       rw [zjb (fun x hx => by have := hs'.1 x (List.mem_cons_of_mem _ hx); omega)]
       simp [z38]
    · rw [show zcv p v (acc, false) c = (acc ++ [(p, v), c], true) by unfold zcv; rw [if_pos ⟨rfl, by omega⟩], zf9, if_neg h2, if_neg hv]
      rw [zjb (fun x hx => by have := hs'.1 x hx; omega)]
      simp [z38]
theorem zhz (p : Int) : ∀ (cs : List (Int × Int)), Srt cs → zb3 cs p 0 = cs.filter (fun c => !decide (c.1 = p))
 | [], _ => by simp [zb3]
 | c :: cs, hs => by
  have hs' := List.pairwise_cons.1 hs; simp only [zb3]; by_cases h1 : c.1 < p
  · rw [if_pos h1, zhz p cs hs'.2, List.filter_cons_of_pos (by simp; omega)]
  · rw [if_neg h1]; by_cases h2 : c.1 = p
    · rw [if_pos h2, if_true, List.filter_cons_of_neg (by simp [h2]), zjb (fun x hx => by have := hs'.1 x hx; omega)]
    · rw [if_neg h2, if_true, List.filter_cons_of_pos (by simp [h2]), zjb (fun x hx => by have := hs'.1 x hx; omega)]
theorem z39 (p v : Int) (cs : List (Int × Int)) (hs : Srt cs) : z38 p v (cs.foldl (zcv p v) ([], decide (v = 0))) = zb3 cs p v := by
 by_cases hv : v = 0
 · subst hv; rw [decide_eq_true rfl, zf9, zhz p cs hs]; simp [z38]
 · rw [decide_eq_false hv, zs7 p v hv cs [] hs]; simp
def zlf (a b : Int) (c : Int × Int) : Bool := decide (c.1 < a) || decide (b ≤ c.1)
theorem z4a (xs : List (Int × Int)) (a : Int) (h : ∀ c ∈ xs, a ≤ c.1) : lb xs a = 0 := by
 cases xs with
 | nil => rfl
 | cons c cs => simp only [lb]; rw [if_neg (by have := h c (by simp); omega)]
theorem zmc (a b : Int) (hab : a ≤ b) : ∀ (xs : List (Int × Int)), Srt xs → ClearC.zbt xs a b = xs.filter (zlf a b)
 | [], _ => rfl
 | x :: xs, hs => by
  have hs' := List.pairwise_cons.1 hs; have ih := zmc a b hab xs hs'.2; unfold ClearC.zbt at ih ⊢; simp only [lb]; by_cases h1 : x.1 < a
  · rw [if_pos h1, if_pos (by omega), List.take_succ_cons, List.drop_succ_cons, List.cons_append, ih, List.filter_cons_of_pos (by simp [zlf, h1])]
  · rw [if_neg h1, List.take_zero, List.nil_append]; by_cases h2 : x.1 < b
    · rw [if_pos h2, List.drop_succ_cons, List.filter_cons_of_neg (by simp [zlf]; omega), ← ih, z4a xs a (fun c hc => by have := hs'.1 c hc; omega)]
      simp
    · rw [if_neg h2, List.drop_zero]
      symm
      exact List.filter_eq_self.2 fun c hc => by
       rcases List.mem_cons.1 hc with rfl | hc
       · simp [zlf]; omega
       · have := hs'.1 c hc; simp [zlf]; omega
theorem zh0 (f : Int) (xs : List (Int × Int)) (hs : Srt xs) : TableC.za6 xs f = xs.filter (zlf (f * 512) (f * 512 + 512)) := zmc _ _ (by omega) xs hs
end RfQ
namespace LaD
open Go.RowKit Bv VaSpec Base MemL RegR Ax MemC PutC MemC3 TzC OkS SpA SpB SpC SpF SpI SpJ SpN RfP RfQ LaA LaB LaC
open BitsC PteSpec
theorem zs8 {rec : Int → Int → List Pg} {M : Nat} (h1 : 1 ≤ M) (hrec : ∀ t a, (rec t a).length ≤ M) (p : Pte) (l a : Int) : (ze6 rec p l a).length ≤ M := by
 unfold ze6
 split
 · simp
 · split
   · simpa using h1
   · exact hrec _ _
theorem zgl (sz : Int) (xs : List (Int × Int)) (t b : Int) : (za7 sz xs 0 t b).length ≤ 512 := by
 have := znh (fun i : Nat => ze6 (fun _ _ => []) (atM sz xs t i) 0 (adr b i 0)) 1 (fun i => zs8 (by omega) (fun _ _ => by simp) _ _ _) (List.range 512); rw [List.length_range] at this; exact this
theorem zmd (sz : Int) (xs : List (Int × Int)) (t b : Int) : (za7 sz xs 1 t b).length ≤ 262144 := by
 have := znh (fun i : Nat => ze6 (za7 sz xs 0) (atM sz xs t i) (0 + 1 : Nat) (adr b i (0 + 1 : Nat))) 512 (fun i => zs8 (by omega) (fun t a => zgl sz xs t a) _ _ _) (List.range 512); rw [List.length_range] at this; exact this
section
variable (sz : Int) (xs : List (Int × Int)) (hs : Srt xs) (hu : Uw xs)
include hs hu
theorem zrr (t b : Int) (ht : 0 ≤ t ∧ t < 17592186044416) (hb : U b) : Ok 48 [zbm sz xs, iu t, ii 0, iu b] (.m (.c (.s (za7 sz xs 0 t b).length 8 (flP (za7 sz xs 0 t b))))) :=
 zkm sz xs t b 0 (fun _ _ => []) ht hb (by omega) (by omega) hs hu (fun _ _ => by simp) (fun h => by omega) _ rfl
theorem znn (t b : Int) (ht : 0 ≤ t ∧ t < 17592186044416) (hb : U b) : Ok 48 [zbm sz xs, iu t, ii 1, iu b] (.m (.c (.s (za7 sz xs 1 t b).length 8 (flP (za7 sz xs 1 t b))))) :=
 zkm sz xs t b 1 (za7 sz xs 0) ht hb (by omega) (by omega) hs hu (fun t a => Nat.le_trans (zgl sz xs t a) (by omega)) (fun _ t a h1 h2 => zrr sz xs hs hu t a h1 h2) _ rfl
theorem z4b (t b : Int) (ht : 0 ≤ t ∧ t < 17592186044416) (hb : U b) : Ok 48 [zbm sz xs, iu t, ii 2, iu b] (.m (.c (.s (za7 sz xs 2 t b).length 8 (flP (za7 sz xs 2 t b))))) :=
 zkm sz xs t b 2 (za7 sz xs 1) ht hb (by omega) (by omega) hs hu (fun t a => zmd sz xs t a) (fun _ t a h1 h2 => znn sz xs hs hu t a h1 h2) _ rfl
end
theorem zdd (c : Int × Int) (cs : List (Int × Int)) (a : Int) : MemC.look (c :: cs) a = if c.1 < a then MemC.look cs a else if c.1 = a then c.2 else 0 := by
 by_cases h : c.1 < a
 · have e : MemC.lb (c :: cs) a = MemC.lb cs a + 1 := by simp [MemC.lb, h]
   simp only [MemC.look, e, List.getElem?_cons_succ, if_pos h]
 · have e : MemC.lb (c :: cs) a = 0 := by simp [MemC.lb, h]
   simp only [MemC.look, e, List.getElem?_cons_zero, if_neg h]
theorem zno (a : Int) : MemC.look [] a = 0 := rfl
theorem znp (v : Int) : ∀ (xs : List (Int × Int)) (k a : Int), Srt xs → MemC.look (zb3 xs k v) a = if a = k then v else MemC.look xs a
 | [], k, a, _ => by
  simp only [zb3]
  (repeat' split) <;> (try simp only [zdd, zno]) <;> (repeat' split) <;> first | rfl | omega
 | c :: cs, k, a, hs => by
  have hs' := List.pairwise_cons.1 hs; have hgt : ∀ b : Int, b ≤ c.1 → MemC.look cs b = 0 := fun b hb => zdb fun d hd => by have := hs'.1 d hd; omega
  have IH := znp v cs k a hs'.2; simp only [zb3]
  (repeat' split) <;> (try simp only [zdd, IH]) <;> (repeat' split) <;> first | rfl | omega | (rw [hgt a (by omega)]; done) | (rw [hgt a (by omega)]; omega)
theorem zh1 {sz : Int} {xs : List (Int × Int)} {t i v s j : Int} (hs : Srt xs) (hi : 0 ≤ i ∧ i < 512) (hj : 0 ≤ j ∧ j < 512) (hd : s * 4096 + j * 8 < sz) : atM sz (zb3 xs (t * 512 + i) v) s j = if s = t ∧ j = i then zay v else atM sz xs s j := by
 unfold atM zbs; rw [if_pos hd, if_pos hd, znp v xs _ _ hs, show (s * 4096 + j * 8) / 8 = s * 512 + j by omega]; by_cases h : s = t ∧ j = i
 · obtain ⟨rfl, rfl⟩ := h; simp
 · rw [if_neg h, if_neg (by omega)]
def Al (cd cp f s : Int) : Prop := (cd ≤ s ∧ s < cd + cp) ∧ zfh f (s - cd) = false
def lkP (p : Pte) : Bool := p.v && !p.r && !p.w && !p.x && !p.u && !p.a && !p.d && (p.high == 0)
def EOk (cd cp f : Int) (p : Pte) : Prop := zas p = true ∨ (lkP p = true ∧ Al cd cp f p.ppn)
structure GM (cd cp : Int) (sz : Int) (xs : List (Int × Int)) (f : Int) : Prop where
 bd : 1 ≤ cd ∧ cd ≤ 524288
 bp : 1 ≤ cp ∧ cp ≤ 64
 bz : sz = (cd + cp) * 4096
 bf : 0 ≤ f ∧ f < 2 ^ cp.toNat
 s : Srt xs
 c : ∀ c ∈ xs, Al cd cp f (c.1 / 512) ∧ U c.2 ∧ EOk cd cp f (zay c.2)
theorem GM.uf {cd cp sz f : Int} {xs : List (Int × Int)} (h : GM cd cp sz xs f) : U f := zha h.bf.1 h.bf.2 (by have := h.bp; omega)
theorem GM.u {cd cp sz f : Int} {xs : List (Int × Int)} (h : GM cd cp sz xs f) : Uw xs := fun c hc => by
 obtain ⟨⟨⟨a, b⟩, _⟩, e, _⟩ := h.c c hc; have := h.bd; have := h.bp; exact ⟨⟨by omega, by omega⟩, e⟩
theorem znq {xs : List (Int × Int)} {k : Int} : MemC.look xs k = 0 ∨ ∃ c ∈ xs, c.1 = k ∧ MemC.look xs k = c.2 := by
 unfold MemC.look
 split
 · rename_i c hc
   split
   · rename_i h; exact .inr ⟨c, List.mem_of_getElem? hc, h, rfl⟩
   · exact .inl rfl
 · exact .inl rfl
theorem znr : zay 0 = zP := by decide
theorem GM.at {cd cp sz f : Int} {xs : List (Int × Int)} (h : GM cd cp sz xs f) (s i : Int) : atM sz xs s i = zP ∨ EOk cd cp f (atM sz xs s i) := by
 unfold atM zbs
 split
 · rcases znq (xs := xs) (k := (s * 4096 + i * 8) / 8) with e | ⟨c, hc, _, e⟩
   · rw [e]; exact .inl znr
   · rw [e]; exact .inr (h.c c hc).2.2
 · exact .inl znr
theorem zb7 {p : Pte} (h : lkP p = true) {l : Int} (hl : 1 ≤ l) : za2 p l = true := by
 obtain ⟨v, r, w, x, u, g, a, d, rsw, ppn, high⟩ := p; unfold lkP at h; unfold za2 zco zbf; simp only [Bool.and_eq_true, Bool.not_eq_true', beq_iff_eq] at h; obtain ⟨⟨⟨⟨⟨⟨⟨rfl, rfl⟩, rfl⟩, rfl⟩, rfl⟩, rfl⟩, rfl⟩, rfl⟩ := h; have : (l == 0) = false := by simpa using (by omega : ¬ l = 0)
 simp [this]
theorem zjc {p : Pte} {l : Int} (h : zbf p = false) : za2 p l = false := by unfold za2; rw [h]; rfl
theorem zbw {p : Pte} (h : zas p = true) : zbf p = false ∧ p.v = true := by
 obtain ⟨v, r, w, x, u, g, a, d, rsw, ppn, high⟩ := p; revert h; unfold zas zbf; cases v <;> cases r <;> cases x <;> simp
theorem za8 {p : Pte} (h : lkP p = true) : zbf p = true ∧ p.v = true ∧ zas p = false := by
 obtain ⟨v, r, w, x, u, g, a, d, rsw, ppn, high⟩ := p; revert h; unfold lkP zas zbf; cases v <;> cases r <;> cases x <;> simp
theorem EOk.kinds {cd cp f : Int} {p : Pte} (h : p = zP ∨ EOk cd cp f p) {l : Int} (hl : 1 ≤ l) :
 (p.v = false ∧ zas p = false ∧ za2 p l = false) ∨ (p.v = true ∧ zas p = true ∧ za2 p l = false) ∨ (p.v = true ∧ zas p = false ∧ za2 p l = true ∧ zbf p = true ∧ Al cd cp f p.ppn) := by
 rcases h with rfl | h | ⟨h, ha⟩
 · exact .inl ⟨rfl, rfl, rfl⟩
 · obtain ⟨a, b⟩ := zbw h; exact .inr (.inl ⟨b, h, zjc a⟩)
 · obtain ⟨a, b, c⟩ := za8 h; exact .inr (.inr ⟨b, c, zb7 h hl, a, ha⟩)
def lnk (n : Int) : Pte := ⟨true, false, false, false, false, false, false, false, 0, n, 0⟩
theorem zfj {n : Int} (h : 0 ≤ n ∧ n < 17592186044416) : zay (PteC.zc4 (lnk n)) = lnk n := by
 have hm : zhr (lnk n) = true := by rw [zdt]; unfold lnk; simp; omega
 have hU : (lnk n).U := by unfold Pte.U lnk; simp; omega
 unfold PteC.zc4; rw [if_pos hm, zgf _ hU hm]
theorem zhb {n : Int} (h : 0 ≤ n ∧ n < 17592186044416) : (lnk n).U := by unfold Pte.U lnk; simp; omega
def dnN (sz cd addr zam : Int) : Nat → List (Int × Int) → Int → Int → List (Int × Int) × Int × Int × Int
 | 0, xs, f, t => (xs, f, t, 0)
 | l + 1, xs, f, t =>
  if ((l + 1 : Nat) : Int) ≤ zam then (xs, f, t, 0)
  else if zas (atM sz xs t (idx addr ((l + 1 : Nat) : Int))) then (xs, f, t, 6)
  else if (atM sz xs t (idx addr ((l + 1 : Nat) : Int))).v then dnN sz cd addr zam l xs f (atM sz xs t (idx addr ((l + 1 : Nat) : Int))).ppn
  else if f = 0 then (xs, f, t, 8)
  else dnN sz cd addr zam l (zba sz xs t (idx addr ((l + 1 : Nat) : Int)) (lnk (cd + tzI f))) (zbx f (tzI f) 1 0) (cd + tzI f)
theorem GM.take {cd cp sz f : Int} {xs : List (Int × Int)} (h : GM cd cp sz xs f) (h0 : f ≠ 0) {s : Int} (hs : Al cd cp f s) : s ≠ cd + tzI f ∧ Al cd cp (zbx f (tzI f) 1 0) s := by
 have t1 := zct h.uf h.bf.2 h0; have hb := zmb h.uf h0; have hcp := h.bp; refine ⟨fun e => ?_, hs.1, ?_⟩
 · have := hs.2; rw [e, show cd + tzI f - cd = tzI f by omega, hb] at this; cases this
 · have := hs.1; rw [zfi h.uf t1.1 (by omega) (by omega) (by omega)]
   split
   · rfl
   · exact hs.2
theorem GM.al {cd cp sz f : Int} {xs : List (Int × Int)} (h : GM cd cp sz xs f) (h0 : f ≠ 0) : Al cd cp (zbx f (tzI f) 1 0) (cd + tzI f) ∧ (0 ≤ tzI f ∧ tzI f < cp) := by
 have t1 := zct h.uf h.bf.2 h0; have hcp := h.bp; refine ⟨⟨⟨by omega, by omega⟩, ?_⟩, t1.1, by omega⟩; rw [show cd + tzI f - cd = tzI f by omega, zfi h.uf t1.1 (by omega) t1.1 (by omega), if_pos rfl]
 rfl
theorem GM.wipe {cd cp sz f : Int} {xs : List (Int × Int)} (h : GM cd cp sz xs f) (h0 : f ≠ 0) : TableC.za6 xs (cd + tzI f) = xs := by
 rw [zh0 _ _ h.s]; refine List.filter_eq_self.2 fun c hc => ?_; have h1 := (h.take h0 (h.c c hc).1).1; unfold zlf; rw [Bool.or_eq_true, decide_eq_true_eq, decide_eq_true_eq]; omega
theorem GM.mono {cd cp sz f f' : Int} {xs : List (Int × Int)} (h : GM cd cp sz xs f) (hf : 0 ≤ f' ∧ f' < 2 ^ cp.toNat) (ha : ∀ s, Al cd cp f s → Al cd cp f' s) : GM cd cp sz xs f' :=
 ⟨h.bd, h.bp, h.bz, hf, h.s, fun c hc => by
  obtain ⟨a, b, d⟩ := h.c c hc; refine ⟨ha _ a, b, ?_⟩; rcases d with d | ⟨d, e⟩
  · exact .inl d
  · exact .inr ⟨d, ha _ e⟩⟩
theorem GM.put {cd cp sz f : Int} {xs : List (Int × Int)} (h : GM cd cp sz xs f) {t i v : Int} (ht : Al cd cp f t) (hi : 0 ≤ i ∧ i < 512) (hv : U v) (he : v ≠ 0 → EOk cd cp f (zay v)) : GM cd cp sz (zb3 xs (t * 512 + i) v) f :=
 ⟨h.bd, h.bp, h.bz, h.bf, zed _ _ _ h.s, fun c hc => by
  rcases zc2 _ _ _ _ hc with hc | ⟨rfl, hv0⟩
  · exact h.c c hc
  · refine ⟨?_, hv, he hv0⟩; show Al cd cp f ((t * 512 + i) / 512)
    rw [show (t * 512 + i) / 512 = t by omega]; exact ht⟩
theorem GM.with {cd cp sz f : Int} {xs : List (Int × Int)} (h : GM cd cp sz xs f) {t i : Int} {p : Pte} (ht : Al cd cp f t) (hi : 0 ≤ i ∧ i < 512) (hp : p.U) : zba sz xs t i p = zb3 xs (t * 512 + i) (PteC.zc4 p) :=
 zem hp (by have := h.bd; have := ht.1; omega) hi (by rw [h.bz]; have := ht.1; omega)
theorem GM.hang {cd cp sz f : Int} {xs : List (Int × Int)} (h : GM cd cp sz xs f) (h0 : f ≠ 0) {t i : Int} (ht : Al cd cp f t) (hi : 0 ≤ i ∧ i < 512) :
 GM cd cp sz (zba sz xs t i (lnk (cd + tzI f))) (zbx f (tzI f) 1 0) := by
 obtain ⟨ha, t1⟩ := h.al h0; have hcp := h.bp; have hcd := h.bd; have hn : 0 ≤ cd + tzI f ∧ cd + tzI f < 17592186044416 := by omega
 have h' := h.mono (f' := zbx f (tzI f) 1 0) ⟨(zfp _ _ _ _).1, zg9 h.uf h.bf.2 t1.1 (by omega)⟩ (fun s hs => (h.take h0 hs).2); rw [h.with ht hi (zhb hn)]; refine h'.put (h.take h0 ht).2 hi (zfq _ (zhb hn)) fun _ => ?_; rw [zfj hn]; exact .inr ⟨rfl, ha⟩
theorem zns (cd cp sz addr zam : Int) (hw : 0 ≤ zam) : ∀ (l : Nat) (xs : List (Int × Int)) (f t : Int), GM cd cp sz xs f → Al cd cp f t →
 (dnN sz cd addr zam l xs f t).2.2.2 = 0 → GM cd cp sz (dnN sz cd addr zam l xs f t).1 (dnN sz cd addr zam l xs f t).2.1 ∧ Al cd cp (dnN sz cd addr zam l xs f t).2.1 (dnN sz cd addr zam l xs f t).2.2.1 ∧ (dnN sz cd addr zam l xs f t).1.length ≤ xs.length + l ∧ (∀ s, Al cd cp f s → Al cd cp (dnN sz cd addr zam l xs f t).2.1 s)
 | 0, xs, f, t, h, ht, _ => ⟨h, ht, by show xs.length ≤ xs.length + 0; omega, fun s hs => hs⟩
 | l + 1, xs, f, t, h, ht, he => by
  have hi := idx_bd addr ((l + 1 : Nat) : Int); have hk := EOk.kinds (h.at t (idx addr ((l + 1 : Nat) : Int))) (l := ((l + 1 : Nat) : Int)) (by omega); unfold dnN at he ⊢
  split
  · exact ⟨h, ht, by show xs.length ≤ xs.length + (l + 1); omega, fun s hs => hs⟩
  · rename_i c1; rw [if_neg c1] at he
    split
    · rename_i c2; rw [if_pos c2] at he; cases he
    · rename_i c2; rw [if_neg c2] at he
      split
      · rename_i c3; rw [if_pos c3] at he; rcases hk with ⟨k1, _⟩ | ⟨_, k2, _⟩ | ⟨_, _, _, _, k5⟩
        · rw [k1] at c3; cases c3
        · exact absurd k2 c2
        · obtain ⟨i1, i2, i3, i4⟩ := zns cd cp sz addr zam hw l xs f _ h k5 he; exact ⟨i1, i2, by omega, i4⟩
      · rename_i c3; rw [if_neg c3] at he
        split
        · rename_i c4; rw [if_pos c4] at he; cases he
        · rename_i c4; rw [if_neg c4] at he; obtain ⟨i1, i2, i3, i4⟩ := zns cd cp sz addr zam hw l _ _ _ (h.hang c4 ht hi) (h.al c4).1 he; have := zhy sz xs t (idx addr ((l + 1 : Nat) : Int)) (lnk (cd + tzI f)); exact ⟨i1, i2, by omega, fun s hs => i4 s (h.take c4 hs).2⟩
theorem zgm (cd cp sz addr zam : Int) (hw : 0 ≤ zam) {xs : List (Int × Int)} {f : Int} (h : GM cd cp sz xs f) : ∀ (l : Nat) (t : Int), Al cd cp f t → zam ≤ (l : Int) →
 ∃ (l' : Nat) (t' : Int), zao sz xs addr zam l t = (t', (l' : Int)) ∧ l' ≤ l ∧ zam ≤ (l' : Int) ∧ Al cd cp f t' ∧ (zam < (l' : Int) → za2 (atM sz xs t' (idx addr (l' : Int))) (l' : Int) = false) ∧ dnN sz cd addr zam l xs f t = dnN sz cd addr zam l' xs f t' ∧
  (∀ xs', (∀ s i, Al cd cp f s → (0 ≤ i ∧ i < 512) → zbf (atM sz xs s i) = true → atM sz xs' s i = atM sz xs s i) → zao sz xs' addr zam l t = zao sz xs' addr zam l' t')
 | 0, t, ht, hl => ⟨0, t, rfl, Nat.le_refl _, hl, ht, fun hh => by omega, rfl, fun _ _ => rfl⟩
 | l + 1, t, ht, hl => by
  have hi := idx_bd addr ((l + 1 : Nat) : Int); have hk := EOk.kinds (h.at t (idx addr ((l + 1 : Nat) : Int))) (l := ((l + 1 : Nat) : Int)) (by omega); by_cases c1 : zam < ((l + 1 : Nat) : Int)
  · rcases hk with ⟨_, _, k3⟩ | ⟨_, _, k3⟩ | ⟨k1, k2, k3, k4, k5⟩
    · exact ⟨l + 1, t, zbh (fun _ => k3) hw, Nat.le_refl _, hl, ht, fun _ => k3, rfl, fun _ _ => rfl⟩
    · exact ⟨l + 1, t, zbh (fun _ => k3) hw, Nat.le_refl _, hl, ht, fun _ => k3, rfl, fun _ _ => rfl⟩
    · obtain ⟨l', t', i1, i2, i3, i4, i5, i6, i7⟩ := zgm cd cp sz addr zam hw h l _ k5 (by omega); refine ⟨l', t', (zbk c1 k3).trans i1, by omega, i3, i4, i5, ?_, fun xs' hx => ?_⟩
      · rw [← i6]
        conv => lhs; unfold dnN
        rw [if_neg (by omega), if_neg (by rw [k2]; simp), if_pos k1]
      · have e := hx t _ ht hi k4; rw [zbk c1 (by rw [e]; exact k3), e]
        exact i7 xs' hx
  · exact ⟨l + 1, t, zbh (fun hh => absurd hh c1) hw, Nat.le_refl _, hl, ht, fun hh => absurd hh c1, rfl, fun _ _ => rfl⟩
theorem zu0 {cd cp sz f : Int} {xs : List (Int × Int)} (h : GM cd cp sz xs f) (h0 : f ≠ 0) {t i : Int} (ht : Al cd cp f t) (hi : 0 ≤ i ∧ i < 512) (hn : (atM sz xs t i).v = false) :
 ∀ s j, Al cd cp f s → (0 ≤ j ∧ j < 512) → zbf (atM sz xs s j) = true → atM sz (zba sz xs t i (lnk (cd + tzI f))) s j = atM sz xs s j := fun s j hs hj hlk => by
 obtain ⟨ha, t1⟩ := h.al h0; have hcp := h.bp; have hcd := h.bd; have hz := h.bz; have b := hs.1; rw [h.with ht hi (zhb (by omega)), zh1 h.s hi hj (by rw [hz]; omega), if_neg]
 rintro ⟨rfl, rfl⟩; unfold zbf at hlk; rw [hn] at hlk; cases hlk
theorem z4c {cd cp sz f : Int} {xs : List (Int × Int)} (h : GM cd cp sz xs f) (h0 : f ≠ 0) {t i : Int} (ht : Al cd cp f t) (hi : 0 ≤ i ∧ i < 512) : atM sz (zba sz xs t i (lnk (cd + tzI f))) t i = lnk (cd + tzI f) := by
 obtain ⟨ha, t1⟩ := h.al h0; have hcp := h.bp; have hcd := h.bd; have hz := h.bz; have b := ht.1; rw [h.with ht hi (zhb (by omega)), zh1 h.s hi hi (by rw [hz]; omega), if_pos ⟨rfl, rfl⟩, zfj (by omega)]
theorem zu1 {cd cp sz f addr zam : Int} {xs : List (Int × Int)} (hw : 0 ≤ zam) (h : GM cd cp sz xs f) (h0 : f ≠ 0) {l' : Nat} {t' : Int} (ht : Al cd cp f t') (hlt : zam < ((l' + 1 : Nat) : Int)) :
 zao sz (zba sz xs t' (idx addr ((l' + 1 : Nat) : Int)) (lnk (cd + tzI f))) addr zam (l' + 1) t' = zao sz (zba sz xs t' (idx addr ((l' + 1 : Nat) : Int)) (lnk (cd + tzI f))) addr zam l' (cd + tzI f) := by
 have hi := idx_bd addr ((l' + 1 : Nat) : Int); have e := z4c h h0 ht hi; rw [zbk hlt (by rw [e]; exact zb7 rfl (by omega)), e]
 rfl
theorem zgn {n : Int} {p : Pm} {g : Bool} (h : 0 ≤ n ∧ n < 17592186044416) (hp : zcb p = true) : zay (PteC.zc4 (mkP n p g)) = mkP n p g ∧ (mkP n p g).U ∧ zas (mkP n p g) = true := by
 have hm : zhr (mkP n p g) = true := by rw [zdt]; unfold mkP; simp; omega
 have hU : (mkP n p g).U := by unfold Pte.U mkP; simp; omega
 refine ⟨?_, hU, ?_⟩
 · unfold PteC.zc4; rw [if_pos hm, zgf _ hU hm]
 · obtain ⟨r, w, x, u⟩ := p; revert hp; unfold zcb mkP zas; cases r <;> cases x <;> simp
end LaD
namespace SpO
open Go.RowKit Bv VaSpec Base MemL RegR Ax OkS SpA SpB SpD IterC SpE SpH SpJ SpN
open PteSpec
def kr (m : List (Int × Int)) (sm sa sp pf af ao : Int) (ss : List Sp) (now : Int) (fs : List Fe) : Kr := { cd := 4, cp := 4, ca := 1, cs := 1, sz := 32768, m := m, tn := 1, ts := zsL 1, sm := sm, sa := sa, sp := sp, priv := 0, su := false, mx := false, vic := -1, pb := 4, pm := 4, pf := pf, am := 1, af := af, ao := ao, ss := ss, now := now, sh := 4, fs := fs }
def k0 : Kr := kr [] 0 0 0 14 1 0 [] (-1) []
theorem n0 : zvi 4 4 1 1 = k0 := by kernel_rfl
theorem i0 : Inv 0 k0 := by rw [← n0]; exact zim (by decide)
def zal (k : Kr) (id a l : Int) : Int × Int × Int :=
 if ¬ (0 ≤ l ∧ l ≤ 2) then (0, 0, 1)
 else if id ≠ -1 ∧ za4 k id = false then (0, 0, 4)
 else if zhh a l = false then (0, 0, 2)
 else if id = -1 then (if idx a 2 = 511 ∧ l ≠ 2 then (k.sh, 1, 0) else (0, 0, 3))
 else if idx a 2 = 511 then (0, 0, 3) else ((zcw k id).root, 2, 0)
theorem zjd (k : Kr) (id a l : Int) (ha : U a) : Ok 50 [.ag k.ce, ii id, iu a, ii l] (.tu [iu (zal k id a l).1, ii (zal k id a l).2.1, ii (zal k id a l).2.2]) := by
 unfold zal; by_cases c1 : 0 ≤ l ∧ l ≤ 2; rotate_left
 · rw [if_pos c1]; have w0 := zkn c1; by_cases c0 : id = -1
   · refine zad 55 Tryz.func50 rfl rfl rfl rfl ?_ GG.to; intro W A hG
     repeat (first | (refine zai rfl ?_; first | refine zaj ?_ | refine gdr (zaa rfl rfl rfl (w0) (by kernel_rfl)) ?_) | (refine hK _ ?_; clear hK K) | refine zac rfl ?_ | exact zah (show zat _ _ _ = some _ by kernel_rfl) | refine zaf rfl rfl ?_ | refine zag ?_ | refine zab (fun K hK => ?_))
   · refine zad 55 Tryz.func50 rfl rfl rfl rfl ?_ GG.to; intro W A hG
     repeat (first | (refine zai rfl ?_; first | refine zaj ?_ | refine gdr (zaa rfl rfl rfl (w0) (by kernel_rfl)) ?_) | (refine hK _ ?_; clear hK K) | refine zac rfl ?_ | exact zah (show zat _ _ _ = some _ by kernel_rfl) | refine zaf rfl rfl ?_ | refine zag ?_ | refine zab (fun K hK => ?_))
 rw [if_neg (by simpa using c1)]; have w1 := zen c1; have hi := zl8 a 2 ha (by omega) (by omega); have hl := z0a k id; have hf := zz6 a l ha c1.1 c1.2; by_cases c0 : id = -1
 · rw [if_neg (by simp [c0])]; by_cases c2 : zhh a l = false
   · rw [if_pos c2]; rw [c2] at hf; refine zad 55 Tryz.func50 rfl rfl rfl rfl ?_ GG.to; intro W A hG
     repeat (first | (refine zai rfl ?_; first | refine zaj ?_ | refine gdr (zaa rfl rfl rfl (w1) (by kernel_rfl)) ?_ | refine gdr (zaa rfl rfl rfl (hf) (by kernel_rfl)) ?_) | (refine hK _ ?_; clear hK K) | refine zac rfl ?_ | exact zah (show zat _ _ _ = some _ by kernel_rfl) | refine zaf rfl rfl ?_ | refine zae rfl rfl ?_ | refine zag ?_ | refine zab (fun K hK => ?_))
   rw [if_neg c2, if_pos c0]; rw [show zhh a l = true by simpa using c2] at hf; by_cases c3 : idx a 2 = 511
   · by_cases c4 : l = 2
     · rw [if_neg (by simp [c4])]; refine zad 55 Tryz.func50 rfl rfl rfl rfl ?_ GG.to; intro W A hG
       repeat (first | (refine zai rfl ?_; first | refine zaj ?_ | refine gdr (zaa rfl rfl rfl (w1) (by kernel_rfl)) ?_ | refine gdr (zaa rfl rfl rfl (hf) (by kernel_rfl)) ?_ | refine gdr (zaa rfl rfl rfl (hi) (by kernel_rfl)) ?_) | (refine hK _ ?_; clear hK K) | refine zac rfl ?_ | exact zah (show zat _ _ _ = some _ by kernel_rfl) | refine zaf rfl rfl ?_ | refine zae rfl rfl ?_ | refine zag ?_ | refine zab (fun K hK => ?_))
     · rw [if_pos ⟨c3, c4⟩]; refine zad 55 Tryz.func50 rfl rfl rfl rfl ?_ GG.to; intro W A hG
       repeat (first | (refine zai rfl ?_; first | refine zaj ?_ | refine gdr (zaa rfl rfl rfl (w1) (by kernel_rfl)) ?_ | refine gdr (zaa rfl rfl rfl (hf) (by kernel_rfl)) ?_ | refine gdr (zaa rfl rfl rfl (hi) (by kernel_rfl)) ?_) | (refine hK _ ?_; clear hK K) | refine zac rfl ?_ | exact zah (show zat _ _ _ = some _ by kernel_rfl) | refine zaf rfl rfl ?_ | refine zae rfl rfl ?_ | refine zag ?_ | refine zab (fun K hK => ?_))
   · rw [if_neg (by simp [c3])]; refine zad 55 Tryz.func50 rfl rfl rfl rfl ?_ GG.to; intro W A hG
     repeat (first | (refine zai rfl ?_; first | refine zaj ?_ | refine gdr (zaa rfl rfl rfl (w1) (by kernel_rfl)) ?_ | refine gdr (zaa rfl rfl rfl (hf) (by kernel_rfl)) ?_ | refine gdr (zaa rfl rfl rfl (hi) (by kernel_rfl)) ?_) | (refine hK _ ?_; clear hK K) | refine zac rfl ?_ | exact zah (show zat _ _ _ = some _ by kernel_rfl) | refine zaf rfl rfl ?_ | refine zae rfl rfl ?_ | refine zag ?_ | refine zab (fun K hK => ?_))
 · by_cases c5 : za4 k id = false
   · rw [if_pos ⟨c0, c5⟩]; rw [c5] at hl; refine zad 55 Tryz.func50 rfl rfl rfl rfl ?_ GG.to; intro W A hG
     repeat (first | (refine zai rfl ?_; first | refine zaj ?_ | refine gdr (zaa rfl rfl rfl (w1) (by kernel_rfl)) ?_ | refine gdr (zaa rfl rfl rfl (hl) (by kernel_rfl)) ?_) | (refine hK _ ?_; clear hK K) | refine zac rfl ?_ | exact zah (show zat _ _ _ = some _ by kernel_rfl) | refine zaf rfl rfl ?_ | refine zae rfl rfl ?_ | refine zag ?_ | refine zab (fun K hK => ?_))
   rw [if_neg (by simp [c5])]; have c5 : za4 k id = true := by simpa using c5
   rw [c5] at hl; obtain ⟨y0, y1, y2, y3⟩ := zdc c5; have hx := zke y2; by_cases c2 : zhh a l = false
   · rw [if_pos c2]; rw [c2] at hf; refine zad 55 Tryz.func50 rfl rfl rfl rfl ?_ GG.to; intro W A hG
     repeat (first | (refine zai rfl ?_; first | refine zaj ?_ | refine gdr (zaa rfl rfl rfl (w1) (by kernel_rfl)) ?_ | refine gdr (zaa rfl rfl rfl (hl) (by kernel_rfl)) ?_ | refine gdr (zaa rfl rfl rfl (hf) (by kernel_rfl)) ?_) | (refine hK _ ?_; clear hK K) | refine zac rfl ?_ | exact zah (show zat _ _ _ = some _ by kernel_rfl) | refine zaf rfl rfl ?_ | refine zae rfl rfl ?_ | refine zag ?_ | refine zab (fun K hK => ?_))
   rw [if_neg c2, if_neg c0]; rw [show zhh a l = true by simpa using c2] at hf; by_cases c3 : idx a 2 = 511
   · rw [if_pos c3]; refine zad 55 Tryz.func50 rfl rfl rfl rfl ?_ GG.to; intro W A hG
     repeat (first | (refine zai rfl ?_; first | refine zaj ?_ | refine gdr (zaa rfl rfl rfl (w1) (by kernel_rfl)) ?_ | refine gdr (zaa rfl rfl rfl (hl) (by kernel_rfl)) ?_ | refine gdr (zaa rfl rfl rfl (hf) (by kernel_rfl)) ?_ | refine gdr (zaa rfl rfl rfl (hi) (by kernel_rfl)) ?_) | (refine hK _ ?_; clear hK K) | refine zac rfl ?_ | exact zah (show zat _ _ _ = some _ by kernel_rfl) | refine zaf rfl rfl ?_ | refine zae rfl rfl ?_ | refine zag ?_ | refine zab (fun K hK => ?_))
   · rw [if_neg c3]; refine zad 55 Tryz.func50 rfl rfl rfl rfl ?_ GG.to; intro W A hG
     repeat (first | (refine zai rfl ?_; first | refine zaj ?_ | refine gdr (zaa rfl rfl rfl (w1) (by kernel_rfl)) ?_ | refine gdr (zaa rfl rfl rfl (hl) (by kernel_rfl)) ?_ | refine gdr (zaa rfl rfl rfl (hf) (by kernel_rfl)) ?_ | refine gdr (zaa rfl rfl rfl (hi) (by kernel_rfl)) ?_) | (refine hK _ ?_; clear hK K) | refine zac rfl ?_ | exact zah (show zat _ _ _ = some _ by kernel_rfl) | refine zae rfl rfl ?_ | refine zag ?_ | refine zak ?_ | refine zab (fun K hK => ?_))
end SpO
namespace LaE
open Go.RowKit Bv VaSpec Base MemL RegR Ax MemC PutC TzC OkS SpA SpB SpC SpF SpH SpJ SpN LaA LaB LaC LaD
open BitsC PteSpec
theorem zrs (n : Int) : Ok 126 [iu n] (.m (.ag (lnk n).ce)) := by
 refine zad 5 Tryz.func126 rfl rfl rfl rfl ?_ GG.to; intro W A hG
 repeat (first | (refine zai rfl ?_; first | refine zaj ?_) | (refine hK _ ?_; clear hK K) | refine zac rfl ?_ | exact zah (show zat _ _ _ = some _ by kernel_rfl) | refine zab (fun K hK => ?_))
def dnH (sz cd cp top lv addr zam : Int) (xs0 : List (Int × Int)) (f0 : Int) (xs : List (Int × Int)) (f : Int) : St := St.of [(2, .m (iu top)), (3, .m (ii lv)), (4, .m (iu addr)), (5, .m (ii zam)), (6, .m (.c (.p 6 0))), (7, .m (.c (.p 7 0))), (12, .m (.c (.p 12 0))), (13, .m (.c (.p 13 0))), (14, .m (.c (.p 14 0))), (15, .m (ii 0)), (16, .m (.c (.p 16 0))), (17, .m (.c (.p 17 0)))]
 [(6, .live (.box [cu sz, .s xs0.length 2 (fl xs0)])), (7, .live (.box [cu cd, ci cp, cu f0])), (12, .live (.box [cu 0, .v (.slice none 0 0)])), (13, .live (.box [cu 0, ci 0, cu 0])), (14, .live (.box (zbq 0 0 zP))), (16, .live (.box [cu sz, .s xs.length 2 (fl xs)])), (17, .live (.box [cu cd, ci cp, cu f]))]
theorem z4d (cd cp sz top addr zam : Int) (lv : Nat) (xs0 : List (Int × Int)) (f0 : Int) (h : GM cd cp sz xs0 f0) (ht : Al cd cp f0 top) (ha : U addr) (hl : lv ≤ 2) (hw : 0 ≤ zam) (hwl : zam ≤ (lv : Int)) (hn : xs0.length ≤ 100000)
 (D : List (Int × Int) × Int × Int × Int) (hD : D = dnN sz cd addr zam lv xs0 f0 top) :
 Ok 60 [zbm sz xs0, .ag [cu cd, ci cp, cu f0], iu top, ii lv, iu addr, ii zam]
  (.tu (if D.2.2.2 = 0 then [zbm sz D.1, .ag [cu cd, ci cp, cu D.2.1], .ag (zi2 sz D.1 addr (D.2.2.1, zam)), ii 0] else [zbm sz xs0, .ag [cu cd, ci cp, cu f0], .ag (zbq 0 0 zP), ii D.2.2.2])) := by
 have hcd := h.bd; have hcp := h.bp; obtain ⟨R, hR⟩ : ∃ R, R = (if D.2.2.2 = 0 then [zbm sz D.1, .ag [cu cd, ci cp, cu D.2.1], .ag (zi2 sz D.1 addr (D.2.2.1, zam)), ii 0] else [zbm sz xs0, .ag [cu cd, ci cp, cu f0], .ag (zbq 0 0 zP), ii D.2.2.2]) := ⟨_, rfl⟩; rw [← hR]; have hcl : (zcu (.tu R) && [zbm sz xs0, .ag [cu cd, ci cp, cu f0], iu top, ii lv, iu addr, ii zam].all zcf) = true := by
  rw [hR]; split <;> rfl
 refine zad 67 Tryz.func60 rfl hcl rfl rfl ?_ GG.to; intro W A hG
 repeat (first | (refine zai rfl ?_; first | refine zaj ?_) | (refine hK _ ?_; clear hK K) | refine zac rfl ?_ | refine zaq (by kernel_rfl) (by kernel_rfl) rfl ?_ | refine zag ?_ | refine zab (fun K hK => ?_))
 refine za1 (α := List (Int × Int) × Int × Nat × Int) (fun q => GM cd cp sz q.1 q.2.1 ∧ q.2.2.1 ≤ 2 ∧ zam ≤ (q.2.2.1 : Int) ∧ Al cd cp q.2.1 q.2.2.2 ∧ Al cd cp q.2.1 top ∧ q.1.length + q.2.2.1 ≤ 100002 ∧ dnN sz cd addr zam q.2.2.1 q.1 q.2.1 q.2.2.2 = D ∧ zao sz q.1 addr zam lv top = zao sz q.1 addr zam q.2.2.1 q.2.2.2)
  (fun q => dnH sz cd cp top lv addr zam xs0 f0 q.1 q.2.1) (fun q => q.2.2.1) (xs0, f0, lv, top) ⟨h, hl, hwl, ht, ht, by show xs0.length + lv ≤ _; omega, hD.symm, rfl⟩ (sbq _ _) ?_
 rintro ⟨xs, f, l, t⟩ ⟨x1, x2, x3, x4, x5, x6, x7, x8⟩; have g1 : GM cd cp sz xs f := x1; have g2 : l ≤ 2 := x2; have g3 : zam ≤ (l : Int) := x3; have g4 : Al cd cp f t := x4; have g5 : Al cd cp f top := x5; have g6 : xs.length + l ≤ 100002 := x6; have g7 : dnN sz cd addr zam l xs f t = D := x7; have g8 : zao sz xs addr zam lv top = zao sz xs addr zam l t := x8; show Aw _ _ _ _ (dnH sz cd cp top lv addr zam xs0 f0 xs f); unfold dnH; obtain ⟨l', t', i1, i2, i3, i4, i5, i6, -⟩ := zgm cd cp sz addr zam hw g1 l t g4 g3; obtain ⟨l0', l1', l2', -, -, -, -, -, l7'⟩ := zgm cd cp sz addr zam hw g1 lv top g5 hwl; obtain ⟨e1, e2⟩ : t' = l1' ∧ l' = l0' := by
  have := l2'.symm.trans (g8.trans i1); simp only [Prod.mk.injEq] at this; exact ⟨this.1.symm, by omega⟩
 subst e1 e2; have ub := g1.u; have hr := zfd sz xs top lv addr zam ⟨by have := g5.1; omega, by have := g5.1; omega⟩ ha (by omega) (by omega) hw g1.s ub
 rw [show za0 sz xs addr zam lv top = (t', (l' : Int)) by unfold za0; rw [Int.toNat_natCast, g8, i1]] at hr
 have hi := idx_bd addr (l' : Int); have bt := i4.1; rw [i6] at g7; clear i1 i6; obtain ⟨q, hq⟩ : ∃ q, q = atM sz xs t' (idx addr (l' : Int)) := ⟨_, rfl⟩; unfold zi2 at hr; rw [show (t', (l' : Int)).1 = t' from rfl, show (t', (l' : Int)).2 = (l' : Int) from rfl, ← hq] at hr
 repeat (first | (refine zai rfl ?_; first | refine zaj ?_ | refine gdr (zaa rfl rfl rfl (hr) (by kernel_rfl)) ?_) | refine zac rfl ?_ | refine zag ?_ | refine zab (fun K hK => ?_))
 first
  | (refine hK _ ?_; clear hK K)
  | (rename_i K1 hK1; refine hK1 _ ?_; clear hK hK1; clear K)
  | (rename_i K1 hK1; refine hK1 _ ?_; clear hK1)
 refine zc7 (sbq [(2, .m (iu top)), (3, .m (ii lv)), (4, .m (iu addr)), (5, .m (ii zam)), (6, .m (.c (.p 6 0))), (7, .m (.c (.p 7 0))), (12, .m (.c (.p 12 0))), (13, .m (.c (.p 13 0))), (14, .m (.c (.p 14 0))), (15, .m (ii 0)), (16, .m (.c (.p 16 0))), (17, .m (.c (.p 17 0))), (18, .m (.c (.p 18 0)))] [(6, .live (.box [cu sz, .s xs0.length 2 (fl xs0)])), (7, .live (.box [cu cd, ci cp, cu f0])), (12, .live (.box [cu 0, .v (.slice none 0 0)])), (13, .live (.box [cu 0, ci 0, cu 0])), (14, .live (.box (zbq 0 0 zP))), (16, .live (.box [cu sz, .s xs.length 2 (fl xs)])), (17, .live (.box [cu cd, ci cp, cu f])), (18, .live (.box (zbq t' ((l' : Nat) : Int) q)))]) ?_; by_cases c1 : (l' : Int) = zam
 · have e : D = (xs, f, t', 0) := by
    rw [← g7]; cases l' with
    | zero => rfl
    | succ m => unfold dnN; rw [if_pos (by omega)]
   subst e; have hR : R = [zbm sz xs, .ag [cu cd, ci cp, cu f], .ag (zbq t' zam (atM sz xs t' (idx addr zam))), ii 0] := hR; rw [← c1, ← hq] at hR; subst hR
   repeat (first | (refine zai rfl ?_; first | refine zaj ?_) | (refine hK _ ?_; clear hK K) | refine zac rfl ?_ | refine zaq (by kernel_rfl) (by kernel_rfl) rfl ?_ | exact zah (show zat _ _ _ = some _ by kernel_rfl) | refine zaf rfl rfl ?_ | refine zag ?_ | refine zab (fun K hK => ?_))
 · obtain ⟨m, rfl⟩ : ∃ m : Nat, l' = m + 1 := ⟨l' - 1, by omega⟩; have hlk := i5 (by omega); rw [← hq] at hlk; have hk := EOk.kinds (g1.at t' (idx addr ((m + 1 : Nat) : Int))) (l := ((m + 1 : Nat) : Int)) (by omega); rw [← hq, hlk] at hk; unfold dnN at g7; rw [if_neg (by omega), ← hq] at g7; cases hv : q.v with
   | true =>
    have hlf : zas q = true := by
     rcases hk with ⟨k1, _⟩ | ⟨_, k2, _⟩ | ⟨_, _, k3, _⟩
     · rw [k1] at hv; cases hv
     · exact k2
     · cases k3
    rw [if_pos hlf] at g7; subst g7; have hR : R = [zbm sz xs0, .ag [cu cd, ci cp, cu f0], .ag (zbq 0 0 zP), ii 6] := hR; subst hR; obtain ⟨q0, q1, q2, q3, q4, q5, q6, q7, q8, q9, q10⟩ := q; have hv : q0 = true := hv; subst hv
    repeat (first | (refine zai rfl ?_; first | refine zaj ?_) | (refine hK _ ?_; clear hK K) | refine zac rfl ?_ | refine zaq (by kernel_rfl) (by kernel_rfl) rfl ?_ | exact zah (show zat _ _ _ = some _ by kernel_rfl) | refine zaf rfl rfl ?_ | refine zae rfl rfl ?_ | refine zag ?_ | refine zab (fun K hK => ?_))
   | false =>
    have hlf : zas q = false := by unfold zas; rw [hv]; rfl
    rw [hlf, hv, if_neg (by simp), if_neg (by simp)] at g7; obtain ⟨q0, q1, q2, q3, q4, q5, q6, q7, q8, q9, q10⟩ := q; have hv' : q0 = false := hv; subst hv'; by_cases c4 : f = 0
    · rw [if_pos c4] at g7; subst g7; have hR : R = [zbm sz xs0, .ag [cu cd, ci cp, cu f0], .ag (zbq 0 0 zP), ii 8] := hR; subst hR; subst c4; have hf := zij sz xs cd cp (by omega) (by omega)
      repeat (first | (refine zai rfl ?_; first | refine zaj ?_ | refine gdr (zaa rfl rfl rfl (hf) (by kernel_rfl)) ?_) | (refine hK _ ?_; clear hK K) | refine zac rfl ?_ | refine zaq (by kernel_rfl) (by kernel_rfl) rfl ?_ | exact zah (show zat _ _ _ = some _ by kernel_rfl) | refine zaf rfl rfl ?_ | refine zae rfl rfl ?_ | refine zag ?_ | refine zak ?_ | refine zab (fun K hK => ?_))
    · rw [if_neg c4] at g7; have hf := zgh sz xs cd cp f (by omega) (by omega) g1.uf c4 g1.s (by omega); rw [g1.wipe c4] at hf; obtain ⟨a1, a2⟩ := g1.al c4; have hfr : 0 ≤ cd + tzI f ∧ cd + tzI f < 17592186044416 := by omega
      have hln := zrs (cd + tzI f); have hwt := zd9 sz xs t' ((m + 1 : Nat) : Int) ⟨false, q1, q2, q3, q4, q5, q6, q7, q8, q9, q10⟩ addr (lnk (cd + tzI f)) ha (zhb hfr) (by omega) (by omega) (by omega) g1.s ub (by omega); have hgm := g1.hang c4 i4 hi; have hln2 := zhy sz xs t' (idx addr ((m + 1 : Nat) : Int)) (lnk (cd + tzI f)); have hre : zao sz (zba sz xs t' (idx addr ((m + 1 : Nat) : Int)) (lnk (cd + tzI f))) addr zam lv top = zao sz (zba sz xs t' (idx addr ((m + 1 : Nat) : Int)) (lnk (cd + tzI f))) addr zam m (cd + tzI f) := by
       rw [l7' _ (zu0 g1 c4 i4 hi (by rw [← hq]))]; exact zu1 hw g1 c4 i4 (by omega)
      revert hf hln hwt hgm hln2 hre g7; generalize zba sz xs t' (idx addr ((m + 1 : Nat) : Int)) (lnk (cd + tzI f)) = xs2; intro g7 hf hln hwt hgm hln2 hre
      repeat (first | (refine zai rfl ?_; first | refine zaj ?_ | refine gdr (zaa rfl rfl rfl (hf) (by kernel_rfl)) ?_ | refine gdr (zaa rfl rfl rfl (hln) (by kernel_rfl)) ?_ | refine gdr (zaa rfl rfl rfl (hwt) (by kernel_rfl)) ?_) | (refine hK _ ?_; clear hK K) | refine zac rfl ?_ | refine zaq (by kernel_rfl) (by kernel_rfl) rfl ?_ | refine zae rfl rfl ?_ | refine zag ?_ | refine zak ?_ | refine zab (fun K hK => ?_))
      exact ⟨(xs2, zbx f (tzI f) 1 0, m, cd + tzI f), ⟨hgm, by show m ≤ 2; omega, by show zam ≤ (m : Int); omega, a1, (g1.take c4 g5).2, by show xs2.length + m ≤ 100002; omega, g7, hre⟩, by show m < l; omega, sbq _ _⟩
end LaE
namespace LaF
open Go.RowKit Bv VaSpec Base MemL RegR Ax MemC PutC MemC3 OkS SpA SpB SpC SpD SpF SpH SpI SpJ SpN LaA LaB LaC LaD LaE
structure InvL (n : Nat) (k : Kr) : Prop where
 g : GM k.cd k.cp k.sz k.m k.pf
 cs : k.cs = k.tn ∧ k.tn ≤ 16
 pb : k.pb = k.cd
 pm : k.pm = k.cp
 sh : Al k.cd k.cp k.pf k.sh
 ts : k.ts = zsL k.tn
 ml : k.m.length ≤ n
 fl : k.fs.length ≤ n
 sl : k.ss.length ≤ 32
 ss : ∀ s ∈ k.ss, s.live = true → Al k.cd k.cp k.pf s.root
theorem z6u {n : Nat} {k : Kr} {s : Int} (h : InvL n k) (ha : Al k.cd k.cp k.pf s) : 0 ≤ s ∧ s < 1099511627776 := by
 have := h.g.bd; have := h.g.bp; have := ha.1; omega
theorem InvL.root {n : Nat} {k : Kr} (h : InvL n k) {id : Int} (hl : za4 k id = true) : Al k.cd k.cp k.pf (zcw k id).root := by
 obtain ⟨h0, h1, h2, h3⟩ := zdc hl; exact h.ss _ (List.mem_of_getElem? h2) h3
def z4e (k : Kr) (id : Int) : List (Int × Int) := zb3 k.m ((zcw k id).root * 512 + 511) 0
noncomputable def zkq (k : Kr) (id : Int) : List Pg := if id = -1 then za7 k.sz k.m 1 k.sh kA else if za4 k id = false then [] else za7 k.sz (z4e k id) 2 (zcw k id).root 0
theorem z6v {n : Nat} {k : Kr} (h : InvL n k) (id : Int) : Srt (z4e k id) ∧ Uw (z4e k id) := by
 refine ⟨zed _ _ _ h.g.s, fun c hc => ?_⟩; rcases zc2 _ _ _ _ hc with hc | ⟨_, hv⟩
 · exact h.g.u c hc
 · exact absurd rfl hv
theorem zkr (k : Nat) : AV.lt (.m (.c (.v (.slice none 0 0)))) (.m (.c (.s 0 k []))) := fun E v h => ltC.nil k E v h
theorem z0q {n : Nat} {k : Kr} (h : InvL n k) (hn : n ≤ 100000) (id : Int) : Ok 14 [.ag k.ce, ii id] (.m (.c (.s (zkq k id).length 8 (flP (zkq k id))))) := by
 have hml := h.ml; have hof : Ok 47 [iu 133955584] (.m (iu kA)) := by rw [z0e]; exact z3h _ ⟨by omega, by omega⟩
 unfold zkq; by_cases c0 : id = -1
 · rw [if_pos c0]; have f := z6u h h.sh; have hp := znn k.sz k.m h.g.s h.g.u k.sh kA ⟨by omega, by omega⟩ z7y; subst c0; refine zad 53 Tryz.func14 rfl rfl rfl rfl ?_ GG.to; intro W A hG
   repeat (first | (refine zai rfl ?_; first | refine zaj ?_ | refine gdr (zaa rfl rfl rfl (hof) (by kernel_rfl)) ?_ | refine gdr (zaa rfl rfl rfl (hp) (by kernel_rfl)) ?_) | (refine hK _ ?_; clear hK K) | refine zac rfl ?_ | exact zah (show zat _ _ _ = some _ by kernel_rfl) | refine zaf rfl rfl ?_ | refine zag ?_ | refine zab (fun K hK => ?_))
 · rw [if_neg c0]; by_cases c1 : za4 k id = false
   · rw [if_pos c1]; refine zd2 (r := .m (.c (.v (.slice none 0 0)))) ?_ rfl (zkr 8); by_cases c2 : id < 0
     · refine zad 53 Tryz.func14 rfl rfl rfl rfl ?_ GG.to; intro W A hG
       repeat (first | (refine zai rfl ?_; first | refine zaj ?_ | refine gdr (zaa rfl rfl rfl (hof) (by kernel_rfl)) ?_) | (refine hK _ ?_; clear hK K) | refine zac rfl ?_ | exact zah (show zat _ _ _ = some _ by kernel_rfl) | refine zaf rfl rfl ?_ | refine zae rfl rfl ?_ | refine zag ?_ | refine zab (fun K hK => ?_))
     by_cases c3 : id < k.ss.length
     · obtain ⟨s, hs⟩ : ∃ s, k.ss[id.toNat]? = some s := ⟨_, List.getElem?_eq_getElem (by omega)⟩; have hx := zke hs; have hlv : s.live = false := by
        have : za4 k id = s.live := by simp [za4, show 0 ≤ id by omega, hs]
        rw [← this]; exact c1
       rw [hlv] at hx; refine zad 53 Tryz.func14 rfl rfl rfl rfl ?_ GG.to; intro W A hG
       repeat (first | (refine zai rfl ?_; first | refine zaj ?_ | refine gdr (zaa rfl rfl rfl (hof) (by kernel_rfl)) ?_) | (refine hK _ ?_; clear hK K) | refine zac rfl ?_ | exact zah (show zat _ _ _ = some _ by kernel_rfl) | refine zaf rfl rfl ?_ | refine zae rfl rfl ?_ | refine zag ?_ | refine zab (fun K hK => ?_))
     · refine zad 53 Tryz.func14 rfl rfl rfl rfl ?_ GG.to; intro W A hG
       repeat (first | (refine zai rfl ?_; first | refine zaj ?_ | refine gdr (zaa rfl rfl rfl (hof) (by kernel_rfl)) ?_) | (refine hK _ ?_; clear hK K) | refine zac rfl ?_ | exact zah (show zat _ _ _ = some _ by kernel_rfl) | refine zaf rfl rfl ?_ | refine zae rfl rfl ?_ | refine zag ?_ | refine zab (fun K hK => ?_))
   · rw [if_neg c1]; have c1 : za4 k id = true := by simpa using c1
     obtain ⟨y0, y1, y2, y3⟩ := zdc c1; have hx := zke y2; rw [y3] at hx; have hrt := h.root c1; have f := z6u h hrt; have hw0 := zd9 k.sz k.m (zcw k id).root 2 ⟨false, false, false, false, false, false, false, false, 0, 0, 0⟩ kA zP z7y z17 (by omega) (by omega) f h.g.s h.g.u (by omega); rw [zpm, h.g.with hrt (by omega) z17, zpn] at hw0; have ho := z6v h id; have hp := z4b k.sz (z4e k id) ho.1 ho.2 (zcw k id).root 0 ⟨by omega, by omega⟩ ⟨by omega, by omega⟩; have hw : Ok 49 [zbm k.sz k.m, .ag (zbq (zcw k id).root 2 ⟨false, false, false, false, false, false, false, false, 0, 0, 0⟩), iu kA, .ag zP.ce] (.m (zbm k.sz (z4e k id))) := hw0; clear hw0; revert hw hp hx; generalize z4e k id = om; generalize zcw k id = sp; intro hx hp hw; refine zad 53 Tryz.func14 rfl rfl rfl rfl ?_ GG.to; intro W A hG
     repeat (first | (refine zai rfl ?_; first | refine zaj ?_ | refine gdr (zaa rfl rfl rfl (hof) (by kernel_rfl)) ?_ | refine gdr (zaa rfl rfl rfl (hw) (by kernel_rfl)) ?_ | refine gdr (zaa rfl rfl rfl (hp) (by kernel_rfl)) ?_) | (refine hK _ ?_; clear hK K) | refine zac rfl ?_ | exact zah (show zat _ _ _ = some _ by kernel_rfl) | refine zae rfl rfl ?_ | refine zag ?_ | refine zak ?_ | refine zab (fun K hK => ?_))
end LaF
namespace LaG
open Go.RowKit Bv VaSpec Base MemL RegR Ax MemC PutC OkS SpA SpB SpC SpD SpE SpF SpH SpJ SpN SpO LaA LaB LaC LaD LaE LaF
open BitsC PteSpec
theorem zbd {n : Nat} {k : Kr} {id a l : Int} (h : InvL n k) (he : (zal k id a l).2.2 = 0) : (0 ≤ l ∧ l ≤ 2) ∧ Al k.cd k.cp k.pf (zal k id a l).1 ∧ l ≤ (zal k id a l).2.1 ∧ (1 ≤ (zal k id a l).2.1 ∧ (zal k id a l).2.1 ≤ 2) := by
 unfold zal at he ⊢; by_cases c1 : 0 ≤ l ∧ l ≤ 2; rotate_left
 · rw [if_pos c1] at he; cases he
 rw [if_neg (by simpa using c1)] at he ⊢; by_cases c2 : id ≠ -1 ∧ za4 k id = false
 · rw [if_pos c2] at he; cases he
 rw [if_neg c2] at he ⊢; by_cases c3 : zhh a l = false
 · rw [if_pos c3] at he; cases he
 rw [if_neg c3] at he ⊢; by_cases c4 : id = -1
 · rw [if_pos c4] at he ⊢; by_cases c5 : idx a 2 = 511 ∧ l ≠ 2
   · rw [if_pos c5]; exact ⟨c1, h.sh, by show l ≤ 1; omega, by show (1 : Int) ≤ 1; omega, by show (1 : Int) ≤ 2; omega⟩
   · rw [if_neg c5] at he; cases he
 · rw [if_neg c4] at he ⊢; by_cases c5 : idx a 2 = 511
   · rw [if_pos c5] at he; cases he
   · rw [if_neg c5]; have c6 : za4 k id = true := by
      cases e : za4 k id with
      | true => rfl
      | false => exact absurd ⟨c4, e⟩ c2
     exact ⟨c1, h.root c6, by show l ≤ 2; omega, by show (1 : Int) ≤ 2; omega, by show (2 : Int) ≤ 2; omega⟩
def lk0 (pa l : Int) : Int := if zfu pa (VaSpec.sz l) then 0 else 2
def lk1 (k : Kr) (pa l : Int) : Int := if inD pa (k.cd * 4096) (VaSpec.sz l) then 0 else 3
def lk2 (p : Pm) : Int := if zcb p then 0 else 5
def lk3 (k : Kr) (top lv a l : Int) : Int := if !(atM k.sz k.m (za0 k.sz k.m a l lv top).1 (idx a (za0 k.sz k.m a l lv top).2)).v then 0 else 6
def zme (k : Kr) (top lv a l : Int) : List (Int × Int) × Int × Int × Int := dnN k.sz k.cd a l lv.toNat k.m k.pf top
def z5o (k : Kr) (D : List (Int × Int) × Int × Int × Int) (a pa l : Int) (p : Pm) (g : Bool) : Kr := { k with m := zba k.sz D.1 D.2.2.1 (idx a l) (mkP (pa / 4096) p g), pf := D.2.1 }
def zdh (k : Kr) (id a pa l : Int) (p : Pm) : Kr × Int :=
 if (zal k id a l).2.2 ≠ 0 then (k, (zal k id a l).2.2)
 else if lk0 pa l ≠ 0 then (k, lk0 pa l)
 else if lk1 k pa l ≠ 0 then (k, lk1 k pa l)
 else if lk2 p ≠ 0 then (k, lk2 p)
 else if lk3 k (zal k id a l).1 (zal k id a l).2.1 a l ≠ 0 then (k, lk3 k (zal k id a l).1 (zal k id a l).2.1 a l)
 else if (zme k (zal k id a l).1 (zal k id a l).2.1 a l).2.2.2 ≠ 0 then (k, (zme k (zal k id a l).1 (zal k id a l).2.1 a l).2.2.2)
 else (z5o k (zme k (zal k id a l).1 (zal k id a l).2.1 a l) a pa l p (decide (id = -1)), 0)
theorem zin {p : Pm} (h : lk2 p = 0) : zcb p = true := by
 unfold lk2 at h
 split at h
 · assumption
 · cases h
theorem zmf {k : Kr} {pa l : Int} (h : U pa) (hd : k.cd ≤ 524288) (hq : lk1 k pa l = 0) : 0 ≤ pa / 4096 ∧ pa / 4096 < 17592186044416 := by
 obtain ⟨h0, h1⟩ := h; unfold lk1 inD at hq
 split at hq
 · rename_i h2; simp only [Bool.and_eq_true, decide_eq_true_eq] at h2; omega
 · cases hq
theorem z4f {n : Nat} {k : Kr} {id a pa l : Int} {p : Pm} (h : InvL n k) (hp : U pa) : InvL (n + 3) (zdh k id a pa l p).1 := by
 have hm : InvL (n + 3) k := { h with ml := by have := h.ml; omega, fl := by have := h.fl; omega }
 unfold zdh
 split
 · exact hm
 · rename_i c0
   split
   · exact hm
   · split
     · exact hm
     · split
       · exact hm
       · rename_i c3
         split
         · exact hm
         · split
           · exact hm
           · rename_i c5; obtain ⟨w1, w2, w3, w4⟩ := zbd (id := id) (a := a) (l := l) h (by omega); generalize zal k id a l = w at *; have he : (zme k w.1 w.2.1 a l).2.2.2 = 0 := by omega
             obtain ⟨d1, d2, d3, d4⟩ := zns k.cd k.cp k.sz a l w1.1 w.2.1.toNat k.m k.pf w.1 h.g w2 he; have hb := zgn (n := pa / 4096) (p := p) (g := decide (id = -1)) (zmf (k := k) (l := l) hp (by have := h.g.bd; omega) (by omega)) (zin (by omega))
             have hw := d1.with (i := idx a l) d2 (idx_bd a l) hb.2.1; have hle := zhy k.sz (zme k w.1 w.2.1 a l).1 (zme k w.1 w.2.1 a l).2.2.1 (idx a l) (mkP (pa / 4096) p (decide (id = -1))); have hml := h.ml; refine { g := ?_, cs := h.cs, pb := h.pb, pm := h.pm, sh := d4 _ h.sh, ts := h.ts, ml := ?_, fl := by have := h.fl; show k.fs.length ≤ n + 3; omega, sl := h.sl, ss := fun s hs hl => d4 _ (h.ss s hs hl) }
             · show GM k.cd k.cp k.sz (zba k.sz (dnN k.sz k.cd a l w.2.1.toNat k.m k.pf w.1).1 (dnN k.sz k.cd a l w.2.1.toNat k.m k.pf w.1).2.2.1 (idx a l) (mkP (pa / 4096) p (decide (id = -1)))) (dnN k.sz k.cd a l w.2.1.toNat k.m k.pf w.1).2.1; rw [hw]; exact d1.put d2 (idx_bd a l) (zfq _ hb.2.1) fun _ => by rw [hb.1]; exact .inl hb.2.2
             · show (zba k.sz (zme k w.1 w.2.1 a l).1 (zme k w.1 w.2.1 a l).2.2.1 (idx a l) (mkP (pa / 4096) p (decide (id = -1)))).length ≤ n + 3; have d3' : (zme k w.1 w.2.1 a l).1.length ≤ k.m.length + w.2.1.toNat := d3; omega
def z8j (k : Kr) (id a pa l : Int) (p : Pm) (top lv z : Int) (i : Nat) : St := St.of [(1, .m (ii id)), (6, .m (.c (.p 6 0))), (8, .m (.c (.p 8 0))), (9, .m (.c (.p 9 0))), (10, .m (.c (.p 10 0))), (11, .m (.c (.p 11 0))), (12, .m (.c (.p 12 0))), (13, .m (ii 0)), (14, .m (.c (.p 14 0))), (15, .m (.c (.p 15 0))), (16, .m (ii 0)), (55, .m (.c (.bs 55 0 4))), (56, .m (ii 4)), (57, .m (ii i))]
 [(6, .live (.box k.ce)), (8, .live (.box [cu a])), (9, .live (.box [cu pa])), (10, .live (.box [ci l])), (11, .live (.box p.ce)), (12, .live (.box zK)), (14, .live (.box [cu top])), (15, .live (.box [ci lv])), (17, .live (.box [cu (k.cd * 4096)])), (18, .live (.box [cu z])), (55, .live (.box [.cl 55 [9, 18], .cl 57 [9, 17, 18], .cl 58 [11], .cl 52 [6, 14, 15, 8, 10]]))]
def nm1 (i : Nat) : Nat := if i = 2000 then 6 else if i = 2001 then 14 else if i = 2002 then 15 else if i = 2003 then 8 else 10
def nm2 (i : Nat) : Nat := if i = 2000 then 9 else 18
def nm3 (i : Nat) : Nat := if i = 2000 then 9 else if i = 2001 then 17 else 18
def nm4 (i : Nat) : Nat := 11
theorem zxr {n : Nat} {k : Kr} (h : InvL n k) (hn : n ≤ 90000) (id a pa l : Int) (p : Pm) (ha : U a) (hp : U pa) : Ok 15 [.ag k.ce, ii id, iu a, iu pa, ii l, .ag p.ce] (.tu [.ag (zdh k id a pa l p).1.ce, ii (zdh k id a pa l p).2]) := by
 have hw := zjd k id a l ha; obtain ⟨R, hR⟩ : ∃ R, R = zdh k id a pa l p := ⟨_, rfl⟩; rw [← hR]; unfold zdh at hR; by_cases c0 : (zal k id a l).2.2 ≠ 0
 · rw [if_pos c0] at hR; generalize zal k id a l = w at *; subst hR; refine zad 101 Tryz.func15 rfl rfl rfl rfl ?_ GG.to; intro W A hG
   repeat (first | (refine zai rfl ?_; first | refine zaj ?_ | refine gdr (zaa rfl rfl rfl (hw) (by kernel_rfl)) ?_) | (refine hK _ ?_; clear hK K) | refine zac rfl ?_ | exact zah (show zat _ _ _ = some _ by kernel_rfl) | refine zaf rfl rfl ?_ | refine zab (fun K hK => ?_))
 rw [if_neg c0] at hR; obtain ⟨w1, w2, w3, w4⟩ := zbd (id := id) (a := a) (l := l) h (by omega); have c0 : (zal k id a l).2.2 = 0 := by omega
 rw [c0] at hw; generalize (zal k id a l).1 = top at *; generalize (zal k id a l).2.1 = lv at *; have b1 := h.g.bd; have b2 := h.g.bp; have hz := zf7 l w1.1 w1.2; have hzb := zxh l w1.1 w1.2; have ft : 0 ≤ top ∧ top < 17592186044416 := by have := w2.1; omega
 have hml := h.ml; have m2 := z3r pa (VaSpec.sz l) hp ⟨by omega, by omega⟩; have m3 := z3s pa (k.cd * 4096) (VaSpec.sz l) hp ⟨by omega, by omega⟩ ⟨by omega, by omega⟩; have m4 := z3t p; have m1 := z3u k top lv a l ⟨h.g.s, h.g.u⟩ ft ha (by omega) (by omega) w1.1; obtain ⟨lw, rfl⟩ := Int.eq_ofNat_of_zero_le (show 0 ≤ lv by omega); have hd := z4d k.cd k.cp k.sz top a l lw k.m k.pf h.g w2 ha (by omega) w1.1 w3 (by omega) _ rfl; have hdg := zns k.cd k.cp k.sz a l w1.1 lw k.m k.pf top h.g w2; have hpb := h.pb; have hpm := h.pm; have h2 : zby Tryz.prog GG 55 [spB 2000 [cu pa], spB 2001 [cu (VaSpec.sz l)]] [.c (.p 2000 0), .c (.p 2001 0)] (.m (ii (lk0 pa l))) := m2; have h3 : zby Tryz.prog GG 57 [spB 2000 [cu pa], spB 2001 [cu (k.cd * 4096)], spB 2002 [cu (VaSpec.sz l)]] [.c (.p 2000 0), .c (.p 2001 0), .c (.p 2002 0)] (.m (ii (lk1 k pa l))) := m3; have h4 : zby Tryz.prog GG 58 [spB 2000 p.ce] [.c (.p 2000 0)] (.m (ii (lk2 p))) := m4; have h1 : zby Tryz.prog GG 52 [spB 2000 k.ce, spB 2001 [cu top], spB 2002 [ci (lw : Int)], spB 2003 [cu a], spB 2004 [ci l]] [.c (.p 2000 0), .c (.p 2001 0), .c (.p 2002 0), .c (.p 2003 0), .c (.p 2004 0)] (.m (ii (lk3 k top lw a l))) := m1; clear m1 m2 m3 m4; have hmk := zgn (n := pa / 4096) (p := p) (g := decide (id = -1)); have hpn := zmf (k := k) (pa := pa) (l := l) hp (by omega); have hpk := zin (p := p); generalize lk0 pa l = q0 at *; generalize lk1 k pa l = q1 at *; generalize lk2 p = q2 at *; generalize lk3 k top lw a l = q3 at *; generalize VaSpec.sz l = z at *; have hsz : k.sz = (k.cd + k.cp) * 4096 := h.g.bz; unfold zme at hR; rw [Int.toNat_natCast] at hR; generalize dnN k.sz k.cd a l lw k.m k.pf top = D at *; refine zad 101 Tryz.func15 rfl rfl rfl rfl ?_ GG.to; intro W A hG
 repeat (first | (refine zai rfl ?_; first | refine zaj ?_ | refine gdr (zaa rfl rfl rfl (hw) (by kernel_rfl)) ?_ | refine gdr (zaa rfl rfl rfl (hz) (by kernel_rfl)) ?_) | (refine hK _ ?_; clear hK K) | refine zac rfl ?_ | refine zaq (by kernel_rfl) (by kernel_rfl) rfl ?_ | refine zae rfl rfl ?_ | refine zag ?_ | refine zak ?_ | refine zab (fun K hK => ?_))
 refine za1 (α := Nat) (fun i => i ≤ 4 ∧ (0 < i → q0 = 0) ∧ (1 < i → q1 = 0) ∧ (2 < i → q2 = 0) ∧ (3 < i → q3 = 0)) (fun i => z8j k id a pa l p top lw z i) (fun i => 4 - i) 0 ⟨by omega, by omega, by omega, by omega, by omega⟩ (sbq _ _) ?_; rintro i ⟨x0, x1, x2, x3, x4⟩; show Aw _ _ _ _ (z8j k id a pa l p top lw z i); unfold z8j; have hi : i = 0 ∨ i = 1 ∨ i = 2 ∨ i = 3 ∨ i = 4 := by omega
 rcases hi with rfl | rfl | rfl | rfl | rfl
 · by_cases e : q0 = 0
   · skip
     repeat (first | (refine zai rfl ?_; first | refine zaj ?_ | refine gdr (zbz nm2 h2 rfl rfl rfl (by kernel_rfl) rfl rfl ⟨rfl, rfl, trivial⟩ (by kernel_rfl)) ?_) | (refine hK _ ?_; clear hK K) | refine zac rfl ?_ | refine zaf rfl rfl ?_ | refine zae rfl rfl ?_ | refine zag ?_ | refine zak ?_ | refine zab (fun K hK => ?_))
     exact ⟨1, ⟨by omega, by omega, by omega, by omega, by omega⟩, by omega, sbq _ _⟩
   · rw [if_pos e] at hR; subst hR
     repeat (first | (refine zai rfl ?_; first | refine zaj ?_ | refine gdr (zbz nm2 h2 rfl rfl rfl (by kernel_rfl) rfl rfl ⟨rfl, rfl, trivial⟩ (by kernel_rfl)) ?_) | (refine hK _ ?_; clear hK K) | refine zac rfl ?_ | exact zah (show zat _ _ _ = some _ by kernel_rfl) | refine zaf rfl rfl ?_ | refine zag ?_ | refine zak ?_ | refine zab (fun K hK => ?_))
 · by_cases e : q1 = 0
   · skip
     repeat (first | (refine zai rfl ?_; first | refine zaj ?_ | refine gdr (zbz nm3 h3 rfl rfl rfl (by kernel_rfl) rfl rfl ⟨rfl, rfl, rfl, trivial⟩ (by kernel_rfl)) ?_) | (refine hK _ ?_; clear hK K) | refine zac rfl ?_ | refine zaf rfl rfl ?_ | refine zae rfl rfl ?_ | refine zag ?_ | refine zak ?_ | refine zab (fun K hK => ?_))
     exact ⟨2, ⟨by omega, by omega, by omega, by omega, by omega⟩, by omega, sbq _ _⟩
   · rw [if_neg (show ¬ q0 ≠ 0 by omega)] at hR; rw [if_pos e] at hR; subst hR
     repeat (first | (refine zai rfl ?_; first | refine zaj ?_ | refine gdr (zbz nm3 h3 rfl rfl rfl (by kernel_rfl) rfl rfl ⟨rfl, rfl, rfl, trivial⟩ (by kernel_rfl)) ?_) | (refine hK _ ?_; clear hK K) | refine zac rfl ?_ | exact zah (show zat _ _ _ = some _ by kernel_rfl) | refine zaf rfl rfl ?_ | refine zag ?_ | refine zak ?_ | refine zab (fun K hK => ?_))
 · by_cases e : q2 = 0
   · skip
     repeat (first | (refine zai rfl ?_; first | refine zaj ?_ | refine gdr (zbz nm4 h4 rfl rfl rfl (by kernel_rfl) rfl rfl ⟨rfl, trivial⟩ (by kernel_rfl)) ?_) | (refine hK _ ?_; clear hK K) | refine zac rfl ?_ | refine zaf rfl rfl ?_ | refine zae rfl rfl ?_ | refine zag ?_ | refine zak ?_ | refine zab (fun K hK => ?_))
     exact ⟨3, ⟨by omega, by omega, by omega, by omega, by omega⟩, by omega, sbq _ _⟩
   · rw [if_neg (show ¬ q0 ≠ 0 by omega)] at hR; rw [if_neg (show ¬ q1 ≠ 0 by omega)] at hR; rw [if_pos e] at hR; subst hR
     repeat (first | (refine zai rfl ?_; first | refine zaj ?_ | refine gdr (zbz nm4 h4 rfl rfl rfl (by kernel_rfl) rfl rfl ⟨rfl, trivial⟩ (by kernel_rfl)) ?_) | (refine hK _ ?_; clear hK K) | refine zac rfl ?_ | exact zah (show zat _ _ _ = some _ by kernel_rfl) | refine zaf rfl rfl ?_ | refine zag ?_ | refine zak ?_ | refine zab (fun K hK => ?_))
 · by_cases e : q3 = 0
   · skip
     repeat (first | (refine zai rfl ?_; first | refine zaj ?_ | refine gdr (zbz nm1 h1 rfl rfl rfl (by kernel_rfl) rfl rfl ⟨rfl, rfl, rfl, rfl, rfl, trivial⟩ (by kernel_rfl)) ?_) | (refine hK _ ?_; clear hK K) | refine zac rfl ?_ | refine zaf rfl rfl ?_ | refine zae rfl rfl ?_ | refine zag ?_ | refine zak ?_ | refine zab (fun K hK => ?_))
     exact ⟨4, ⟨by omega, by omega, by omega, by omega, by omega⟩, by omega, sbq _ _⟩
   · rw [if_neg (show ¬ q0 ≠ 0 by omega)] at hR; rw [if_neg (show ¬ q1 ≠ 0 by omega)] at hR; rw [if_neg (show ¬ q2 ≠ 0 by omega)] at hR; rw [if_pos e] at hR; subst hR
     repeat (first | (refine zai rfl ?_; first | refine zaj ?_ | refine gdr (zbz nm1 h1 rfl rfl rfl (by kernel_rfl) rfl rfl ⟨rfl, rfl, rfl, rfl, rfl, trivial⟩ (by kernel_rfl)) ?_) | (refine hK _ ?_; clear hK K) | refine zac rfl ?_ | exact zah (show zat _ _ _ = some _ by kernel_rfl) | refine zaf rfl rfl ?_ | refine zag ?_ | refine zak ?_ | refine zab (fun K hK => ?_))
 · have y0 := x1 (by omega); have y1 := x2 (by omega); have y2 := x3 (by omega); have y3 := x4 (by omega); rw [if_neg (by omega), if_neg (by omega), if_neg (by omega), if_neg (by omega)] at hR; rw [← hpb, ← hpm] at hd; obtain ⟨m2, f2, t2, e2⟩ := D; by_cases e : e2 = 0
   · subst e; obtain ⟨d1, d2, d3, d4⟩ := hdg rfl; have d1 : GM k.cd k.cp k.sz m2 f2 := d1; have d2 : Al k.cd k.cp f2 t2 := d2; have d3 : m2.length ≤ k.m.length + lw := d3; have hd : Ok 60 [zbm k.sz k.m, .ag [cu k.pb, ci k.pm, cu k.pf], iu top, ii lw, iu a, ii l] (.tu [zbm k.sz m2, .ag [cu k.pb, ci k.pm, cu f2], .ag (zbq t2 l (atM k.sz m2 t2 (idx a l))), ii 0]) := hd; have hR : R = (z5o k (m2, f2, t2, 0) a pa l p (decide (id = -1)), 0) := hR; have hu := (hmk (hpn y1) (hpk y2)).2.1; have hwt := zd9 k.sz m2 t2 l (atM k.sz m2 t2 (idx a l)) a (mkP (pa / 4096) p (decide (id = -1))) ha hu w1.1 w1.2 ⟨by have := d2.1; omega, by have := d2.1; omega⟩ d1.s d1.u (by omega)
     generalize atM k.sz m2 t2 (idx a l) = q at *; have hp0 := hp.1; have hp1 := hp.2; by_cases c5 : id = -1
     · have hmp := zs3 (pa / 4096) p true; rw [decide_eq_true c5] at hwt hR; subst hR
       repeat (first | (refine zai rfl ?_; first | refine zaj ?_ | refine gdr (zaa rfl rfl rfl (hd) (by kernel_rfl)) ?_ | refine gdr (zaa rfl rfl rfl (hmp) (by kernel_rfl)) ?_ | refine gdr (zaa rfl rfl rfl (hwt) (by kernel_rfl)) ?_) | (refine hK _ ?_; clear hK K) | (rename_i K1 hK1; refine hK1 _ ?_; clear hK hK1; clear K) | refine zac rfl ?_ | refine zaq (by kernel_rfl) (by kernel_rfl) rfl ?_ | exact zah (show zat _ _ _ = some _ by kernel_rfl) | refine zae rfl rfl ?_ | refine zar ?_ | refine zak ?_ | refine zab (fun K hK => ?_))
     · have hmp := zs3 (pa / 4096) p false; rw [decide_eq_false c5] at hwt hR; subst hR
       repeat (first | (refine zai rfl ?_; first | refine zaj ?_ | refine gdr (zaa rfl rfl rfl (hd) (by kernel_rfl)) ?_ | refine gdr (zaa rfl rfl rfl (hmp) (by kernel_rfl)) ?_ | refine gdr (zaa rfl rfl rfl (hwt) (by kernel_rfl)) ?_) | (refine hK _ ?_; clear hK K) | (rename_i K1 hK1; refine hK1 _ ?_; clear hK hK1; clear K) | refine zac rfl ?_ | refine zaq (by kernel_rfl) (by kernel_rfl) rfl ?_ | exact zah (show zat _ _ _ = some _ by kernel_rfl) | refine zae rfl rfl ?_ | refine zar ?_ | refine zak ?_ | refine zab (fun K hK => ?_))
   · rw [if_neg (show ¬ (m2, f2, t2, e2).2.2.2 = 0 from e)] at hd; rw [if_pos (show (m2, f2, t2, e2).2.2.2 ≠ 0 from e)] at hR; have hd : Ok 60 [zbm k.sz k.m, .ag [cu k.pb, ci k.pm, cu k.pf], iu top, ii lw, iu a, ii l] (.tu [zbm k.sz k.m, .ag [cu k.pb, ci k.pm, cu k.pf], .ag (zbq 0 0 zP), ii e2]) := hd; have hR : R = (k, e2) := hR; subst hR
     repeat (first | (refine zai rfl ?_; first | refine zaj ?_ | refine gdr (zaa rfl rfl rfl (hd) (by kernel_rfl)) ?_) | (refine hK _ ?_; clear hK K) | (rename_i K1 hK1; refine hK1 _ ?_; clear hK hK1; clear K) | refine zac rfl ?_ | exact zah (show zat _ _ _ = some _ by kernel_rfl) | refine zaf rfl rfl ?_ | refine zae rfl rfl ?_ | refine zar ?_ | refine zab (fun K hK => ?_))
end LaG
namespace LiA
open Go.RowKit Bv VaSpec Base MemL RegR Ax MemC PutC MemC3 OkS SpA SpB SpD SpF SpH SpI SpJ SpN RfQ LaA LaB LaC LaD LaE LaG
open PteSpec
def KOk (al : Int → Prop) (lv : Int → Int) (s : Int) (p : Pte) : Prop := al s ∧ (0 ≤ lv s ∧ lv s ≤ 2) ∧ ((zas p = true ∧ zco p (lv s) = false) ∨ (lkP p = true ∧ 1 ≤ lv s ∧ lv p.ppn = lv s - 1 ∧ al p.ppn))
structure TE (E : Int → Int → Pte) (al : Int → Prop) (sh : Int) (lv : Int → Int) : Prop where
 k : ∀ s i, (0 ≤ i ∧ i < 512) → E s i = zP ∨ KOk al lv s (E s i)
 u : ∀ s i t j, (0 ≤ i ∧ i < 512) → (0 ≤ j ∧ j < 512) → lkP (E s i) = true → lkP (E t j) = true → (E s i).ppn = (E t j).ppn → (E s i).ppn ≠ sh → s = t ∧ i = j
 s : ∀ s i, (0 ≤ i ∧ i < 512) → lkP (E s i) = true → (E s i).ppn = sh → i = 511 ∧ lv s = 2
section
variable {E E' : Int → Int → Pte} {al al' : Int → Prop} {sh : Int} {lv lv' : Int → Int}
theorem TE.sub (h : TE E al sh lv) (hs : ∀ s i, (0 ≤ i ∧ i < 512) → E' s i = zP ∨ E' s i = E s i) : TE E' al sh lv := by
 have key : ∀ s i, (0 ≤ i ∧ i < 512) → lkP (E' s i) = true → E' s i = E s i := fun s i hi hl => by
  rcases hs s i hi with e | e
  · rw [e] at hl; cases hl
  · exact e
 refine ⟨fun s i hi => ?_, fun s i t j hi hj h1 h2 h3 h4 => ?_, fun s i hi h1 h2 => ?_⟩
 · rcases hs s i hi with e | e
   · exact .inl e
   · rw [e]; exact h.k s i hi
 · have e1 := key s i hi h1; have e2 := key t j hj h2; rw [e1] at h1 h3 h4; rw [e2] at h2 h3; exact h.u s i t j hi hj h1 h2 h3 h4
 · have e1 := key s i hi h1; rw [e1] at h1 h2; exact h.s s i hi h1 h2
theorem TE.fr (h : TE E al sh lv) (hs : ∀ s i, (0 ≤ i ∧ i < 512) → E s i ≠ zP → al' s) (hp : ∀ s i, (0 ≤ i ∧ i < 512) → lkP (E s i) = true → al' (E s i).ppn) : TE E al' sh lv := by
 refine ⟨fun s i hi => ?_, h.u, h.s⟩; by_cases e : E s i = zP
 · exact .inl e
 · rcases h.k s i hi with e2 | ⟨a, b, c⟩
   · exact absurd e2 e
   · refine .inr ⟨hs s i hi e, b, ?_⟩; rcases c with c | ⟨c1, c2, c3, c4⟩
     · exact .inl c
     · exact .inr ⟨c1, c2, c3, hp s i hi c1⟩
theorem TE.mono (h : TE E al sh lv) (ha : ∀ s, al s → al' s) : TE E al' sh lv :=
 h.fr (fun s i hi e => by
  rcases h.k s i hi with e2 | ⟨a, _⟩
  · exact absurd e2 e
  · exact ha _ a) (fun s i hi hl => by
  rcases h.k s i hi with e2 | ⟨_, _, ⟨c, _⟩ | ⟨_, _, _, c⟩⟩
  · rw [e2] at hl; cases hl
  · have := (za8 hl).2.2; rw [c] at this; cases this
  · exact ha _ c)
theorem zcg {p : Pte} (h : zas p = true) : lkP p = false := by
 cases e : lkP p with
 | false => rfl
 | true => have := (za8 e).2.2; rw [h] at this; cases this
theorem TE.leaf (h : TE E al sh lv) {t i : Int} {p : Pte} (ht : al t) (hl : 0 ≤ lv t ∧ lv t ≤ 2) (h1 : zas p = true) (h2 : zco p (lv t) = false) (he : ∀ s j, (0 ≤ j ∧ j < 512) → E' s j = if s = t ∧ j = i then p else E s j) : TE E' al sh lv := by
 have key : ∀ s j, (0 ≤ j ∧ j < 512) → lkP (E' s j) = true → E' s j = E s j := fun s j hj hlk => by
  rw [he s j hj] at hlk ⊢
  split
  · rename_i c; rw [if_pos c, zcg h1] at hlk; cases hlk
  · rfl
 refine ⟨fun s j hj => ?_, fun s i t j hi hj a1 a2 a3 a4 => ?_, fun s i hi a1 a2 => ?_⟩
 · rw [he s j hj]
   split
   · rename_i c; rw [c.1]; exact .inr ⟨ht, hl, .inl ⟨h1, h2⟩⟩
   · exact h.k s j hj
 · have e1 := key s i hi a1; have e2 := key t j hj a2; rw [e1] at a1 a3 a4; rw [e2] at a2 a3; exact h.u s i t j hi hj a1 a2 a3 a4
 · have e1 := key s i hi a1; rw [e1] at a1 a2; exact h.s s i hi a1 a2
def upL (lv : Int → Int) (g l : Int) : Int → Int := fun s => if s = g then l else lv s
theorem TE.link (h : TE E al sh lv) {t i g : Int} (ha : ∀ s, al s → al' s ∧ s ≠ g) (hg : al' g) (ht : al t) (hl : 1 ≤ lv t ∧ lv t ≤ 2) (hi : 0 ≤ i ∧ i < 512) (hsh : al sh) (hn : lkP (E t i) = false)
 (he : ∀ s j, (0 ≤ j ∧ j < 512) → E' s j = if s = t ∧ j = i then lnk g else E s j) : TE E' al' sh (upL lv g (lv t - 1)) := by
 have hgs : g ≠ sh := fun e => (ha _ hsh).2 e.symm; have hgt : t ≠ g := (ha _ ht).2; have hlv : ∀ s, al s → upL lv g (lv t - 1) s = lv s := fun s hs => if_neg (ha s hs).2; have nog : ∀ s j, (0 ≤ j ∧ j < 512) → lkP (E s j) = true → (E s j).ppn ≠ g := fun s j hj hlk => by
  rcases h.k s j hj with e2 | ⟨_, _, ⟨c, _⟩ | ⟨_, _, _, c⟩⟩
  · rw [e2] at hlk; cases hlk
  · rw [zcg c] at hlk; cases hlk
  · exact (ha _ c).2
 refine ⟨fun s j hj => ?_, fun s a t' b ha' hb h1 h2 h3 h4 => ?_, fun s j hj h1 h2 => ?_⟩
 · rw [he s j hj]
   split
   · rename_i c; rw [c.1]; refine .inr ⟨(ha _ ht).1, by rw [hlv t ht]; omega, .inr ⟨rfl, by rw [hlv t ht]; exact hl.1, ?_, hg⟩⟩
     rw [hlv t ht]; exact if_pos rfl
   · rcases h.k s j hj with e | ⟨a, b, c⟩
     · exact .inl e
     · refine .inr ⟨(ha _ a).1, by rw [hlv s a]; exact b, ?_⟩
       rw [hlv s a]; rcases c with c | ⟨c1, c2, c3, c4⟩
       · exact .inl c
       · exact .inr ⟨c1, c2, by rw [hlv _ c4]; exact c3, (ha _ c4).1⟩
 · rw [he s a ha'] at h1 h3 h4; rw [he t' b hb] at h2 h3; by_cases c1 : s = t ∧ a = i
   · by_cases c2 : t' = t ∧ b = i
     · exact ⟨c1.1.trans c2.1.symm, c1.2.trans c2.2.symm⟩
     · rw [if_pos c1, if_neg c2] at h3; rw [if_neg c2] at h2; exact absurd h3.symm (nog t' b hb h2)
   · by_cases c2 : t' = t ∧ b = i
     · rw [if_neg c1, if_pos c2] at h3; rw [if_neg c1] at h1; exact absurd h3 (nog s a ha' h1)
     · rw [if_neg c1] at h1 h3 h4; rw [if_neg c2] at h2 h3; exact h.u s a t' b ha' hb h1 h2 h3 h4
 · rw [he s j hj] at h1 h2; by_cases c : s = t ∧ j = i
   · rw [if_pos c] at h2; exact absurd h2 hgs
   · rw [if_neg c] at h1 h2; obtain ⟨a1, a2⟩ := h.s s j hj h1 h2; refine ⟨a1, ?_⟩; rcases h.k s j hj with e | ⟨a, _⟩
     · rw [e] at h1; cases h1
     · rw [hlv s a]; exact a2
end
theorem zpr (A B : Int) : ∀ (xs : List (Int × Int)) (a : Int), Srt xs → MemC.look (xs.filter (zlf A B)) a = if A ≤ a ∧ a < B then 0 else MemC.look xs a
 | [], a, _ => by rw [show MemC.look (([] : List (Int × Int)).filter (zlf A B)) a = 0 from rfl, zno]; split <;> rfl
 | c :: cs, a, hs => by
  have hs' := List.pairwise_cons.1 hs; have hgt : ∀ b : Int, b ≤ c.1 → MemC.look cs b = 0 := fun b hb => zdb fun d hd => by have := hs'.1 d hd; omega
  have IH := zpr A B cs a hs'.2; by_cases h : zlf A B c = true
  · rw [List.filter_cons, if_pos h, zdd, zdd, IH]; unfold zlf at h; rw [Bool.or_eq_true, decide_eq_true_eq, decide_eq_true_eq] at h
    (repeat' split) <;> first | rfl | omega
  · rw [List.filter_cons, if_neg h, IH, zdd]; unfold zlf at h; rw [Bool.or_eq_true, decide_eq_true_eq, decide_eq_true_eq] at h
    (repeat' split) <;> first | rfl | omega | (rw [hgt a (by omega)]; done) | (rw [hgt a (by omega)]; omega)
structure TI (cd cp sz : Int) (xs : List (Int × Int)) (f sh : Int) (lv : Int → Int) : Prop where
 bd : 1 ≤ cd ∧ cd ≤ 524288
 bp : 1 ≤ cp ∧ cp ≤ 64
 bz : sz = (cd + cp) * 4096
 bf : 0 ≤ f ∧ f < 2 ^ cp.toNat
 s : Srt xs
 r : ∀ c ∈ xs, (cd * 512 ≤ c.1 ∧ c.1 < (cd + cp) * 512) ∧ U c.2 ∧ c.2 ≠ 0
 e : TE (atM sz xs) (Al cd cp f) sh lv
theorem look_mem : ∀ {xs : List (Int × Int)} {c : Int × Int}, Srt xs → c ∈ xs → MemC.look xs c.1 = c.2
 | x :: xs, c, hs, hc => by
  have hs' := List.pairwise_cons.1 hs; rw [zdd]; rcases List.mem_cons.1 hc with rfl | hc
  · rw [if_neg (by omega), if_pos rfl]
  · rw [if_pos (hs'.1 c hc), look_mem hs'.2 hc]
section
variable {cd cp sz f sh : Int} {xs : List (Int × Int)} {lv : Int → Int}
theorem TI.mem (h : TI cd cp sz xs f sh lv) {c : Int × Int} (hc : c ∈ xs) : atM sz xs (c.1 / 512) (c.1 % 512) = zay c.2 := by
 obtain ⟨⟨a, b⟩, _⟩ := h.r c hc; have hz := h.bz; unfold atM zbs; rw [if_pos (by rw [hz]; omega), show (c.1 / 512 * 4096 + c.1 % 512 * 8) / 8 = c.1 by omega, look_mem h.s hc]
theorem z2b {v : Int} (hv : U v) (h : v ≠ 0) : zay v ≠ zP := fun e => h (by
 have := zif v hv.1 hv.2; rw [e] at this
 exact this.symm.trans (by decide))
theorem TI.gm (h : TI cd cp sz xs f sh lv) : GM cd cp sz xs f := ⟨h.bd, h.bp, h.bz, h.bf, h.s, fun c hc => by
 obtain ⟨_, hu, h0⟩ := h.r c hc; have hk := h.e.k (c.1 / 512) (c.1 % 512) (by omega); rw [h.mem hc] at hk; rcases hk with e | ⟨a, _, k⟩
 · exact absurd e (z2b hu h0)
 · refine ⟨a, hu, ?_⟩; rcases k with k | k
   · exact .inl k.1
   · exact .inr ⟨k.1, k.2.2.2⟩⟩
theorem TI.uf (h : TI cd cp sz xs f sh lv) : U f := h.gm.uf
theorem TI.u (h : TI cd cp sz xs f sh lv) : Uw xs := h.gm.u
theorem TI.put (h : TI cd cp sz xs f sh lv) {t i v : Int} {f' : Int} {lv' : Int → Int} (ht : cd ≤ t ∧ t < cd + cp) (hi : 0 ≤ i ∧ i < 512) (hv : U v) (hf : 0 ≤ f' ∧ f' < 2 ^ cp.toNat)
 (he : ∀ E', (∀ s j, (0 ≤ j ∧ j < 512) → E' s j = if s = t ∧ j = i then zay v else atM sz xs s j) → TE E' (Al cd cp f') sh lv') : TI cd cp sz (zb3 xs (t * 512 + i) v) f' sh lv' :=
 ⟨h.bd, h.bp, h.bz, hf, zed _ _ _ h.s, fun c hc => by
  rcases zc2 _ _ _ _ hc with hc | ⟨rfl, hv0⟩
  · exact h.r c hc
  · exact ⟨⟨by show cd * 512 ≤ t * 512 + i; omega, by show t * 512 + i < (cd + cp) * 512; omega⟩, hv, hv0⟩, he _ fun s j hj => by
  by_cases hd : s * 4096 + j * 8 < sz
  · exact zh1 h.s hi hj hd
  · have hz := h.bz; rw [if_neg (by rintro ⟨rfl, rfl⟩; omega)]
    unfold atM zbs
    rw [if_neg hd, if_neg hd]⟩
theorem znt (hs : Srt xs) (g s j : Int) (hj : 0 ≤ j ∧ j < 512) : atM sz (TableC.za6 xs g) s j = if s = g then zP else atM sz xs s j := by
 unfold atM zbs; by_cases d : s * 4096 + j * 8 < sz
 · rw [if_pos d, if_pos d, zh0 _ _ hs, zpr _ _ _ _ hs, show (s * 4096 + j * 8) / 8 = s * 512 + j by omega]; by_cases c : s = g
   · rw [if_pos (show g * 512 ≤ s * 512 + j ∧ s * 512 + j < g * 512 + 512 by omega), if_pos c]; exact znr
   · rw [if_neg (show ¬ (g * 512 ≤ s * 512 + j ∧ s * 512 + j < g * 512 + 512) by omega), if_neg c]
 · rw [if_neg d, if_neg d, znr]
   split <;> rfl
theorem TI.wipe (h : TI cd cp sz xs f sh lv) (g : Int) {f' : Int} (hf : 0 ≤ f' ∧ f' < 2 ^ cp.toNat) (he : ∀ E', (∀ s j, (0 ≤ j ∧ j < 512) → E' s j = if s = g then zP else atM sz xs s j) → TE E' (Al cd cp f') sh lv) : TI cd cp sz (TableC.za6 xs g) f' sh lv :=
 ⟨h.bd, h.bp, h.bz, hf, zcr _ h.s, fun c hc => h.r c (zfg hc), he _ fun s j hj => znt h.s g s j hj⟩
end
end LiA
namespace LiB
open Go.RowKit Bv VaSpec Base MemL RegR Ax MemC PutC MemC3 TzC OkS SpA SpB SpC SpD SpH SpI SpJ SpN RfQ LaA LaB LaC LaD LaE LaG LiA
open BitsC PteSpec
def prt (q : Pte) (l i : Int) : Pte := { q with ppn := q.ppn + i * (VaSpec.sz (l - 1) / 4096) }
def zgo (xs : List (Int × Int)) (g : Int) (v : Nat → Int) : Nat → List (Int × Int)
 | 0 => xs
 | n + 1 => zb3 (zgo xs g v n) (g * 512 + n) (v n)
theorem zio {xs : List (Int × Int)} {g : Int} {v : Nat → Int} (h : Srt xs) : ∀ n, Srt (zgo xs g v n)
 | 0 => h
 | n + 1 => zed _ _ _ (zio h n)
theorem znu (xs : List (Int × Int)) (g : Int) (v : Nat → Int) : ∀ n, (zgo xs g v n).length ≤ xs.length + n
 | 0 => Nat.le_refl _
 | n + 1 => by
  have := zi9 (zgo xs g v n) (g * 512 + n) (v n); have := znu xs g v n; show (zb3 (zgo xs g v n) (g * 512 + n) (v n)).length ≤ _; omega
theorem znv {xs : List (Int × Int)} {g : Int} {v : Nat → Int} : ∀ (n : Nat) (c : Int × Int), c ∈ zgo xs g v n → c ∈ xs ∨ ∃ i : Nat, i < n ∧ c = (g * 512 + i, v i) ∧ v i ≠ 0
 | 0, c, h => .inl h
 | n + 1, c, h => by
  rcases zc2 _ _ _ _ h with h | ⟨e, hv⟩
  · rcases znv n c h with h | ⟨i, hi, e⟩
    · exact .inl h
    · exact .inr ⟨i, by omega, e⟩
  · exact .inr ⟨n, by omega, e, hv⟩
theorem zs9 {xs : List (Int × Int)} {g : Int} {v : Nat → Int} (h : Srt xs) (a : Int) : ∀ n : Nat, MemC.look (zgo xs g v n) a = if g * 512 ≤ a ∧ a < g * 512 + n then v (a - g * 512).toNat else MemC.look xs a
 | 0 => by rw [if_neg (by omega)]; rfl
 | n + 1 => by
  show MemC.look (zb3 (zgo xs g v n) (g * 512 + n) (v n)) a = _; rw [znp _ _ _ _ (zio h n), zs9 h a n]; by_cases c : a = g * 512 + n
  · rw [if_pos c, if_pos (by omega)]
    congr 1; omega
  · rw [if_neg c]; by_cases d : g * 512 ≤ a ∧ a < g * 512 + n
    · rw [if_pos d, if_pos (by omega)]
    · rw [if_neg d, if_neg (by omega)]
theorem z6w {sz : Int} {xs : List (Int × Int)} {g : Int} {v : Nat → Int} (h : Srt xs) (hg : g * 4096 + 4096 ≤ sz) (s j : Int) (hj : 0 ≤ j ∧ j < 512) : atM sz (zgo xs g v 512) s j = if s = g then zay (v j.toNat) else atM sz xs s j := by
 unfold atM zbs; by_cases d : s * 4096 + j * 8 < sz
 · rw [if_pos d, if_pos d, zs9 h, show (s * 4096 + j * 8) / 8 = s * 512 + j by omega]; by_cases c : s = g
   · subst c; rw [if_pos rfl, if_pos (by omega), show s * 512 + j - s * 512 = j by omega]
   · rw [if_neg c, if_neg (by omega)]
 · rw [if_neg d, if_neg d, if_neg (by rintro rfl; omega)]
theorem z8k {l : Int} (h : 1 ≤ l ∧ l ≤ 2) : l = 1 ∨ l = 2 := by omega
theorem zd4 {q : Pte} {l i : Int} (hU : q.U) (hm : zhr q = true) (hl : 1 ≤ l ∧ l ≤ 2) (h1 : zas q = true) (h2 : zco q l = false) (hi : 0 ≤ i ∧ i < 512) :
 (prt q l i).U ∧ zhr (prt q l i) = true ∧ zas (prt q l i) = true ∧ zco (prt q l i) (l - 1) = false := by
 obtain ⟨v, r, w, x, u, g, a, d, rsw, ppn, high⟩ := q; rw [zdt] at hm; have hlk := (zbw h1).1; unfold Pte.U at hU; unfold zco at h2; simp only at hm hU h2
 split at h2
 · cases h2
 · rename_i h3; rw [hlk] at h2; rw [if_neg (by simp)] at h2; have hmod : ppn % (VaSpec.sz l / 4096) = 0 := by simpa using h2
   have hlk2 : zbf (prt ⟨v, r, w, x, u, g, a, d, rsw, ppn, high⟩ l i) = false := hlk; have hb : ∀ n, (prt ⟨v, r, w, x, u, g, a, d, rsw, ppn, high⟩ l i).ppn = n → n % (VaSpec.sz (l - 1) / 4096) = 0 → zco (prt ⟨v, r, w, x, u, g, a, d, rsw, ppn, high⟩ l i) (l - 1) = false := fun n e hn => by
    unfold zco; rw [hlk2, e, hn]; show (if (!v || w && !r || high != 0) = true then true else if (false = true) then _ else !(0 == 0)) = false; rw [if_neg h3]
    rfl
   rcases z8k hl with rfl | rfl
   · have hmod : ppn % 512 = 0 := hmod; have e : (prt ⟨v, r, w, x, u, g, a, d, rsw, ppn, high⟩ 1 i).ppn = ppn + i * 1 := rfl; refine ⟨?_, ?_, h1, hb _ e (by show (ppn + i * 1) % 1 = 0; omega)⟩
     · unfold Pte.U; rw [e]; show _ ∧ (0 ≤ ppn + i * 1 ∧ _) ∧ _; refine ⟨hU.1, by omega, hU.2.2⟩
     · rw [zdt, e]; refine ⟨hm.1, by omega, hm.2.2⟩
   · have hmod : ppn % 262144 = 0 := hmod; have e : (prt ⟨v, r, w, x, u, g, a, d, rsw, ppn, high⟩ 2 i).ppn = ppn + i * 512 := rfl; refine ⟨?_, ?_, h1, hb _ e (by show (ppn + i * 512) % 512 = 0; omega)⟩
     · unfold Pte.U; rw [e]; show _ ∧ (0 ≤ ppn + i * 512 ∧ _) ∧ _; refine ⟨hU.1, by omega, hU.2.2⟩
     · rw [zdt, e]; refine ⟨hm.1, by omega, hm.2.2⟩
theorem zta {q : Pte} (hU : q.U) (hm : zhr q = true) : zay (PteC.zc4 q) = q := by
 unfold PteC.zc4; rw [if_pos hm, zgf _ hU hm]
theorem TE.row {E E' : Int → Int → Pte} {al : Int → Prop} {sh : Int} {lv : Int → Int} (h : TE E al sh lv) {g : Int} {p : Int → Pte} (hg : al g) (hl : 0 ≤ lv g ∧ lv g ≤ 2) (hp : ∀ j, (0 ≤ j ∧ j < 512) → zas (p j) = true ∧ zco (p j) (lv g) = false)
 (he : ∀ s j, (0 ≤ j ∧ j < 512) → E' s j = if s = g then p j else E s j) : TE E' al sh lv := by
 have key : ∀ s j, (0 ≤ j ∧ j < 512) → lkP (E' s j) = true → E' s j = E s j := fun s j hj hlk => by
  rw [he s j hj] at hlk ⊢
  split
  · rename_i c; rw [if_pos c, zcg (hp j hj).1] at hlk; cases hlk
  · rfl
 refine ⟨fun s j hj => ?_, fun s i t j hi hj a1 a2 a3 a4 => ?_, fun s i hi a1 a2 => ?_⟩
 · rw [he s j hj]
   split
   · rename_i c; rw [c]; exact .inr ⟨hg, hl, .inl (hp j hj)⟩
   · exact h.k s j hj
 · have e1 := key s i hi a1; have e2 := key t j hj a2; rw [e1] at a1 a3 a4; rw [e2] at a2 a3; exact h.u s i t j hi hj a1 a2 a3 a4
 · have e1 := key s i hi a1; rw [e1] at a1 a2; exact h.s s i hi a1 a2
def zfk (sz : Int) (xs : List (Int × Int)) (t i l : Int) (q : Pte) (g : Int) : List (Int × Int) := zba sz (zgo xs g (fun j => PteC.zc4 (prt q l j)) 512) t i (lnk g)
section
variable {cd cp sz f sh : Int} {xs : List (Int × Int)} {lv : Int → Int}
theorem zg0 {sz s i : Int} {xs : List (Int × Int)} (hu : Uw xs) : zhr (atM sz xs s i) = true := zwp _ (zf5 hu _ _).1 (zf5 hu _ _).2
theorem zch (h : TI cd cp sz xs f sh lv) (h0 : f ≠ 0) : (∀ s, Al cd cp f s → Al cd cp (zbx f (tzI f) 1 0) s ∧ s ≠ cd + tzI f) ∧ Al cd cp (zbx f (tzI f) 1 0) (cd + tzI f) ∧ (0 ≤ tzI f ∧ tzI f < cp) ∧ (0 ≤ zbx f (tzI f) 1 0 ∧ zbx f (tzI f) 1 0 < 2 ^ cp.toNat) := by
 have hb := h.bp; obtain ⟨a1, a2⟩ := h.gm.al h0; have t1 := zct h.uf h.bf.2 h0; exact ⟨fun s hs => ⟨(h.gm.take h0 hs).2, (h.gm.take h0 hs).1⟩, a1, a2, ⟨(zfp _ _ _ _).1, zg9 h.uf h.bf.2 t1.1 (by omega)⟩⟩
theorem zks (h : TI cd cp sz xs f sh lv) (h0 : f ≠ 0) {t i l : Int} {q : Pte} (ht : Al cd cp f t) (hi : 0 ≤ i ∧ i < 512) (hl : 1 ≤ l ∧ l ≤ 2) (hq : q = atM sz xs t i) (h1 : zas q = true) (h2 : zco q l = false) (s j : Int) (hj : 0 ≤ j ∧ j < 512) :
 atM sz (zfk sz xs t i l q (cd + tzI f)) s j = if s = t ∧ j = i then lnk (cd + tzI f) else if s = cd + tzI f then prt q l j else atM sz xs s j := by
 obtain ⟨a0, a1, a2, a3⟩ := zch h h0; have b1 := h.bd; have b2 := h.bp; have bz := h.bz; have bt := ht.1; have hU : q.U := by rw [hq]; exact ze5 h.u _ _ _
 have hm : zhr q = true := by rw [hq]; exact zg0 h.u
 have hn : 0 ≤ cd + tzI f ∧ cd + tzI f < 17592186044416 := by omega
 have hrow := fun s j hj => z6w (sz := sz) (v := fun j => PteC.zc4 (prt q l j)) h.s (show (cd + tzI f) * 4096 + 4096 ≤ sz by omega) s j hj; have hpr : ∀ j, (0 ≤ j ∧ j < 512) → zay (PteC.zc4 (prt q l ((j.toNat : Nat) : Int))) = prt q l j := fun j hj => by
  obtain ⟨f1, f2, _, _⟩ := zd4 hU hm hl h1 h2 hj; rw [show ((j.toNat : Nat) : Int) = j by omega]; exact zta f1 f2
 unfold zfk; rw [zem (zhb hn) (by omega) hi (by omega)]; by_cases hd : s * 4096 + j * 8 < sz
 · rw [zh1 (zio h.s 512) hi hj hd, hrow s j hj, zfj hn, hpr j hj]
 · have hs1 : ¬ (s = t ∧ j = i) := by rintro ⟨rfl, rfl⟩; omega
   have hs2 : s ≠ cd + tzI f := by rintro rfl; omega
   rw [if_neg hs1, if_neg hs2]; unfold atM zbs; rw [if_neg hd, if_neg hd]
theorem zkt (h : TI cd cp sz xs f sh lv) (h0 : f ≠ 0) {t i l : Int} {q : Pte} (ht : Al cd cp f t) (hsh : Al cd cp f sh) (hi : 0 ≤ i ∧ i < 512) (hlv : lv t = l) (hl : 1 ≤ l ∧ l ≤ 2) (hq : q = atM sz xs t i) (h1 : zas q = true) (h2 : zco q l = false) :
 TI cd cp sz (zfk sz xs t i l q (cd + tzI f)) (zbx f (tzI f) 1 0) sh (upL lv (cd + tzI f) (l - 1)) := by
 obtain ⟨a0, a1, a2, a3⟩ := zch h h0; have b1 := h.bd; have b2 := h.bp; have bz := h.bz; have bt := ht.1; have hU : q.U := by rw [hq]; exact ze5 h.u _ _ _
 have hm : zhr q = true := by rw [hq]; exact zg0 h.u
 have hn : 0 ≤ cd + tzI f ∧ cd + tzI f < 17592186044416 := by omega
 have hw : zfk sz xs t i l q (cd + tzI f) = zb3 (zgo xs (cd + tzI f) (fun j => PteC.zc4 (prt q l j)) 512) (t * 512 + i) (PteC.zc4 (lnk (cd + tzI f))) := by
  unfold zfk; rw [zem (zhb hn) (by omega) hi (by omega)]
 refine ⟨h.bd, h.bp, h.bz, a3, ?_, fun c hc => ?_, ?_⟩
 · rw [hw]; exact zed _ _ _ (zio h.s 512)
 · rw [hw] at hc; rcases zc2 _ _ _ _ hc with hc | ⟨rfl, hv⟩
   · rcases znv _ _ hc with hc | ⟨j, hj, rfl, hv⟩
     · exact h.r c hc
     · obtain ⟨f1, f2, _, _⟩ := zd4 hU hm hl h1 h2 (i := (j : Int)) (by omega); exact ⟨⟨by show cd * 512 ≤ (cd + tzI f) * 512 + j; omega, by show (cd + tzI f) * 512 + j < (cd + cp) * 512; omega⟩, zfq _ f1, hv⟩
   · exact ⟨⟨by show cd * 512 ≤ t * 512 + i; omega, by show t * 512 + i < (cd + cp) * 512; omega⟩, zfq _ (zhb hn), hv⟩
 · have hgt : cd + tzI f ≠ t := fun e => (a0 _ ht).2 e.symm; have E1 := h.e.link (E' := fun s j => if s = t ∧ j = i then lnk (cd + tzI f) else atM sz xs s j) (g := cd + tzI f) a0 a1 ht (by omega) hi hsh (by rw [← hq]; exact zcg h1) (fun s j _ => rfl)
   rw [hlv] at E1; have hlg : upL lv (cd + tzI f) (l - 1) (cd + tzI f) = l - 1 := if_pos rfl; refine TE.row E1 (g := cd + tzI f) (p := fun j => prt q l j) a1 (by rw [hlg]; omega) (fun j hj => ?_) (fun s j hj => ?_)
   · obtain ⟨_, _, f3, f4⟩ := zd4 hU hm hl h1 h2 hj; rw [hlg]; exact ⟨f3, f4⟩
   · rw [zks h h0 ht hi hl hq h1 h2 s j hj]; by_cases c : s = t ∧ j = i
     · rw [if_pos c, if_neg (by rw [c.1]; exact fun e => hgt e.symm), if_pos c]
     · rw [if_neg c]; by_cases d : s = cd + tzI f
       · rw [if_pos d, if_pos d]
       · rw [if_neg d, if_neg d, if_neg c]
theorem zxs (sz : Int) (xs : List (Int × Int)) (t i l : Int) (q : Pte) (g : Int) : (zfk sz xs t i l q g).length ≤ xs.length + 513 := by
 unfold zfk; have := zhy sz (zgo xs g (fun j => PteC.zc4 (prt q l j)) 512) t i (lnk g); have := znu xs g (fun j => PteC.zc4 (prt q l j)) 512; omega
theorem zci (h : TI cd cp sz xs f sh lv) (addr zam : Int) (hw : 0 ≤ zam) : ∀ (l : Nat) (t : Int), Al cd cp f t → lv t = l → zam ≤ (l : Int) →
 ∃ (l' : Nat) (t' : Int), zao sz xs addr zam l t = (t', (l' : Int)) ∧ l' ≤ l ∧ zam ≤ (l' : Int) ∧ Al cd cp f t' ∧ lv t' = (l' : Int) ∧ (zam < (l' : Int) → za2 (atM sz xs t' (idx addr (l' : Int))) (l' : Int) = false) ∧
  (∀ xs', (∀ s i, Al cd cp f s → (0 ≤ i ∧ i < 512) → zbf (atM sz xs s i) = true → atM sz xs' s i = atM sz xs s i) → zao sz xs' addr zam l t = zao sz xs' addr zam l' t')
 | 0, t, ht, hl, hwl => ⟨0, t, rfl, Nat.le_refl _, hwl, ht, hl, fun hh => by omega, fun _ _ => rfl⟩
 | l + 1, t, ht, hl, hwl => by
  have hi := idx_bd addr ((l + 1 : Nat) : Int); have hk := EOk.kinds (h.gm.at t (idx addr ((l + 1 : Nat) : Int))) (l := ((l + 1 : Nat) : Int)) (by omega); by_cases c1 : zam < ((l + 1 : Nat) : Int)
  · rcases hk with ⟨_, _, k3⟩ | ⟨_, _, k3⟩ | ⟨k1, k2, k3, k4, k5⟩
    · exact ⟨l + 1, t, zbh (fun _ => k3) hw, Nat.le_refl _, hwl, ht, hl, fun _ => k3, fun _ _ => rfl⟩
    · exact ⟨l + 1, t, zbh (fun _ => k3) hw, Nat.le_refl _, hwl, ht, hl, fun _ => k3, fun _ _ => rfl⟩
    · have hlk : lv (atM sz xs t (idx addr ((l + 1 : Nat) : Int))).ppn = (l : Int) := by
       rcases h.e.k t _ hi with e | ⟨_, _, ⟨c, _⟩ | ⟨_, _, c, _⟩⟩
       · rw [e] at k1; cases k1
       · rw [k2] at c; cases c
       · rw [c, hl]; omega
      obtain ⟨l', t', i1, i2, i3, i4, i5, i6, i7⟩ := zci h addr zam hw l _ k5 hlk (by omega); refine ⟨l', t', (zbk c1 k3).trans i1, by omega, i3, i4, i5, i6, fun xs' hx => ?_⟩; have e := hx t _ ht hi k4; rw [zbk c1 (by rw [e]; exact k3), e]
      exact i7 xs' hx
  · exact ⟨l + 1, t, zbh (fun hh => absurd hh c1) hw, Nat.le_refl _, hwl, ht, hl, fun hh => absurd hh c1, fun _ _ => rfl⟩
end
def toN (sz cd addr zam top : Int) (lv : Nat) : Nat → List (Int × Int) → Int → List (Int × Int) × Int × (Int × Int) × Int
 | 0, xs, f => (xs, f, zao sz xs addr zam lv top, 0)
 | n + 1, xs, f =>
  if (zao sz xs addr zam lv top).2 = zam ∨ zas (atM sz xs (zao sz xs addr zam lv top).1 (idx addr (zao sz xs addr zam lv top).2)) = false then (xs, f, zao sz xs addr zam lv top, 0)
  else if f = 0 then (xs, f, zao sz xs addr zam lv top, 8)
  else toN sz cd addr zam top lv n (zfk sz xs (zao sz xs addr zam lv top).1 (idx addr (zao sz xs addr zam lv top).2) (zao sz xs addr zam lv top).2 (atM sz xs (zao sz xs addr zam lv top).1 (idx addr (zao sz xs addr zam lv top).2)) (cd + tzI f)) (zbx f (tzI f) 1 0)
section
variable {cd cp sz f sh : Int} {xs : List (Int × Int)} {lv : Int → Int}
theorem zh2 (h : TI cd cp sz xs f sh lv) (h0 : f ≠ 0) (addr zam : Int) (hw : 0 ≤ zam) {l : Nat} {t : Int} (ht : Al cd cp f t) (hlv : lv t = (l + 1 : Nat)) (hl : l + 1 ≤ 2) (hlt : zam < ((l + 1 : Nat) : Int)) (h1 : zas (atM sz xs t (idx addr ((l + 1 : Nat) : Int))) = true) (h2 : zco (atM sz xs t (idx addr ((l + 1 : Nat) : Int))) ((l + 1 : Nat) : Int) = false) :
 (∀ s i, Al cd cp f s → (0 ≤ i ∧ i < 512) → zbf (atM sz xs s i) = true → atM sz (zfk sz xs t (idx addr ((l + 1 : Nat) : Int)) ((l + 1 : Nat) : Int) (atM sz xs t (idx addr ((l + 1 : Nat) : Int))) (cd + tzI f)) s i = atM sz xs s i) ∧
 zao sz (zfk sz xs t (idx addr ((l + 1 : Nat) : Int)) ((l + 1 : Nat) : Int) (atM sz xs t (idx addr ((l + 1 : Nat) : Int))) (cd + tzI f)) addr zam (l + 1) t = (cd + tzI f, (l : Int)) := by
 obtain ⟨a0, a1, a2, a3⟩ := zch h h0; have hi := idx_bd addr ((l + 1 : Nat) : Int); have hi2 := idx_bd addr (l : Int); have hgt : cd + tzI f ≠ t := fun e => (a0 _ ht).2 e.symm; have hat := fun s j hj => zks h h0 ht hi (l := ((l + 1 : Nat) : Int)) (by omega) rfl h1 h2 s j hj; refine ⟨fun s i hs hj hlk => ?_, ?_⟩
 · rw [hat s i hj, if_neg, if_neg (a0 s hs).2]; rintro ⟨rfl, rfl⟩; rw [(zbw h1).1] at hlk; cases hlk
 · have e1 := hat t _ hi; rw [if_pos ⟨rfl, rfl⟩] at e1; rw [zbk hlt (by rw [e1]; exact zb7 rfl (by omega)), e1]
   show zao _ _ _ _ l (cd + tzI f) = _; refine zbh (fun _ => ?_) hw; have e2 := hat (cd + tzI f) _ hi2; rw [if_neg (by rintro ⟨c, _⟩; exact hgt c), if_pos rfl] at e2
   rw [e2]; have h3 : zas (prt (atM sz xs t (idx addr ((l + 1 : Nat) : Int))) ((l + 1 : Nat) : Int) (idx addr (l : Int))) = true := h1; exact zjc (zbw h3).1
end
end LiB
namespace LiC
open Go.RowKit Bv VaSpec Base MemL RegR Ax MemC PutC OkS SpA SpB SpC SpD SpF SpH SpI SpJ SpN RfP RfQ LaA LaB LaC LaD LaE LaG LiA LiB
open BitsC PteSpec
def zec (xs : List (Int × Int)) (g : Int) : Bool := !(xs.any fun c => decide (c.1 / 512 = g))
theorem zrt {cd cp f g : Int} (hb : 1 ≤ cp ∧ cp ≤ 64) (hf : 0 ≤ f ∧ f < 2 ^ cp.toNat) : 0 ≤ TableC2.zdz cd cp f g ∧ TableC2.zdz cd cp f g < 2 ^ cp.toNat := by
 have hu : U f := zha hf.1 hf.2 (by omega); unfold TableC2.zdz
 split
 · rename_i h; unfold PoolC.isP PoolC.inP at h; simp only [Bool.and_eq_true, decide_eq_true_eq] at h; exact ⟨(zfp _ _ _ _).1, zg9 hu hf.2 (by omega) (by omega)⟩
 · exact hf
theorem zru {cd cp f g s : Int} (hb : 1 ≤ cp ∧ cp ≤ 64) (hf : 0 ≤ f ∧ f < 2 ^ cp.toNat) : Al cd cp (TableC2.zdz cd cp f g) s ↔ Al cd cp f s ∧ s ≠ g := by
 have hu : U f := zha hf.1 hf.2 (by omega); unfold TableC2.zdz
 split
 · rename_i h; unfold PoolC.isP PoolC.inP at h; simp only [Bool.and_eq_true, decide_eq_true_eq] at h; obtain ⟨⟨h1, h2⟩, _⟩ := h; constructor
   · rintro ⟨a, b⟩; rw [zfi hu (by omega) (by omega) (by omega) (by omega)] at b
     split at b
     · cases b
     · rename_i c; exact ⟨⟨a, b⟩, fun e => c (by rw [e])⟩
   · rintro ⟨⟨a, b⟩, c⟩; refine ⟨a, ?_⟩; rw [zfi hu (by omega) (by omega) (by omega) (by omega), if_neg (by omega)]; exact b
 · rename_i h; constructor
   · intro a; refine ⟨a, fun e => h ?_⟩; subst e; obtain ⟨⟨a1, a2⟩, a3⟩ := a; unfold PoolC.isP PoolC.inP; rw [decide_eq_true (by omega), decide_eq_true (by omega), znm _ _ (by omega), a3]; rfl
   · exact fun a => a.1
def bkN (cd cp : Int) : List Int → List (Int × Int) × Int → List (Int × Int) × Int
 | [], p => p
 | g :: l, p => bkN cd cp l (TableC.za6 p.1 g, TableC2.zdz cd cp p.2 g)
structure BkP (cd cp sz : Int) (l : List Int) (p q : List (Int × Int) × Int) : Prop where
 s : Srt q.1
 m : ∀ c ∈ q.1, c ∈ p.1
 f : 0 ≤ q.2 ∧ q.2 < 2 ^ cp.toNat
 a : ∀ s, Al cd cp q.2 s ↔ Al cd cp p.2 s ∧ s ∉ l
 e : ∀ s j, (0 ≤ j ∧ j < 512) → atM sz q.1 s j = if s ∈ l then zP else atM sz p.1 s j
 n : q.1.length ≤ p.1.length
theorem zgp (cd cp sz : Int) (hb : 1 ≤ cp ∧ cp ≤ 64) : ∀ (l : List Int) (p : List (Int × Int) × Int), Srt p.1 → (0 ≤ p.2 ∧ p.2 < 2 ^ cp.toNat) → BkP cd cp sz l p (bkN cd cp l p)
 | [], p, hs, hf => ⟨hs, fun c h => h, hf, fun s => by simp [bkN], fun s j hj => by simp [bkN], Nat.le_refl _⟩
 | g :: l, p, hs, hf => by
  have IH := zgp cd cp sz hb l (TableC.za6 p.1 g, TableC2.zdz cd cp p.2 g) (zcr _ hs) (zrt hb hf); refine ⟨IH.s, fun c hc => zfg (IH.m c hc), IH.f, fun s => ?_, fun s j hj => ?_, Nat.le_trans IH.n (zee _ _)⟩
  · have e := IH.a s; have e2 : Al cd cp (TableC2.zdz cd cp p.2 g) s ↔ Al cd cp p.2 s ∧ s ≠ g := zru hb hf; show Al cd cp (bkN cd cp l (TableC.za6 p.1 g, TableC2.zdz cd cp p.2 g)).2 s ↔ _; rw [e]; show Al cd cp (TableC2.zdz cd cp p.2 g) s ∧ s ∉ l ↔ _; rw [e2, List.mem_cons]; constructor
    · rintro ⟨⟨a, b⟩, c⟩; exact ⟨a, fun h => h.elim b c⟩
    · rintro ⟨a, b⟩; exact ⟨⟨a, fun h => b (.inl h)⟩, fun h => b (.inr h)⟩
  · show atM sz (bkN cd cp l (TableC.za6 p.1 g, TableC2.zdz cd cp p.2 g)).1 s j = _; rw [IH.e s j hj]; show (if s ∈ l then zP else atM sz (TableC.za6 p.1 g) s j) = _; rw [znt hs g s j hj]; by_cases c : s ∈ l
    · rw [if_pos c, if_pos (List.mem_cons_of_mem _ c)]
    · rw [if_neg c]; by_cases d : s = g
      · rw [if_pos d, if_pos (by rw [d]; exact List.mem_cons_self ..)]
      · rw [if_neg d, if_neg (by rw [List.mem_cons]; exact fun h => h.elim d c)]
def frN (sz : Int) (xs : List (Int × Int)) : Nat → Int → List Int
 | 0, t => [t]
 | l + 1, t => t :: (List.range 512).flatMap fun (i : Nat) => if za2 (atM sz xs t i) ((l + 1 : Nat) : Int) then frN sz xs l (atM sz xs t i).ppn else []
section
variable {cd cp sz f sh : Int} {xs : List (Int × Int)} {lv : Int → Int}
theorem z2c (h : TI cd cp sz xs f sh lv) {xs' : List (Int × Int)} {f' : Int} (hs : Srt xs') (hm : ∀ c ∈ xs', c ∈ xs) (hf : 0 ≤ f' ∧ f' < 2 ^ cp.toNat) (ha : ∀ s j, (0 ≤ j ∧ j < 512) → atM sz xs' s j = zP ∨ atM sz xs' s j = atM sz xs s j)
 (h1 : ∀ s j, (0 ≤ j ∧ j < 512) → atM sz xs' s j ≠ zP → Al cd cp f' s) (h2 : ∀ s j, (0 ≤ j ∧ j < 512) → lkP (atM sz xs' s j) = true → Al cd cp f' (atM sz xs' s j).ppn) : TI cd cp sz xs' f' sh lv :=
 ⟨h.bd, h.bp, h.bz, hf, hs, fun c hc => h.r c (hm c hc), (h.e.sub ha).fr h1 h2⟩
theorem zh3 (h : TI cd cp sz xs f sh lv) {s i : Int} (hi : 0 ≤ i ∧ i < 512) {l : Int} (hl : za2 (atM sz xs s i) l = true) : lkP (atM sz xs s i) = true ∧ Al cd cp f s ∧ (1 ≤ lv s ∧ lv s ≤ 2) ∧ lv (atM sz xs s i).ppn = lv s - 1 ∧ Al cd cp f (atM sz xs s i).ppn := by
 rcases h.e.k s i hi with e | ⟨a, b, ⟨c, _⟩ | ⟨c1, c2, c3, c4⟩⟩
 · rw [e] at hl; cases hl
 · rw [zjc (zbw c).1] at hl; cases hl
 · exact ⟨c1, a, ⟨c2, b.2⟩, c3, c4⟩
theorem zb5 (h : TI cd cp sz xs f sh lv) {s i : Int} (hi : 0 ≤ i ∧ i < 512) (hl : lkP (atM sz xs s i) = true) : Al cd cp f s ∧ (1 ≤ lv s ∧ lv s ≤ 2) ∧ lv (atM sz xs s i).ppn = lv s - 1 ∧ Al cd cp f (atM sz xs s i).ppn := (zh3 h hi (zb7 hl (Int.le_refl 1))).2
theorem zbc (h : TI cd cp sz xs f sh lv) : ∀ (l : Nat) (t : Int), Al cd cp f t → lv t = l → ∀ g ∈ frN sz xs l t, Al cd cp f g ∧ (0 ≤ lv g ∧ lv g ≤ l) ∧ (g = t ∨ ∃ s ∈ frN sz xs l t, ∃ j, (0 ≤ j ∧ j < 512) ∧ lkP (atM sz xs s j) = true ∧ (atM sz xs s j).ppn = g ∧ lv s ≤ l)
 | 0, t, ht, hl, g, hg => by
  have e : g = t := by simpa [frN] using hg
  subst e; exact ⟨ht, by omega, .inl rfl⟩
 | l + 1, t, ht, hl, g, hg => by
  simp only [frN, List.mem_cons] at hg; rcases hg with rfl | hg
  · exact ⟨ht, by omega, .inl rfl⟩
  · obtain ⟨i, hi, hg⟩ := List.mem_flatMap.1 hg; have hi := List.mem_range.1 hi
    split at hg
    · rename_i hlk; obtain ⟨k1, k2, k3, k4, k5⟩ := zh3 h (by omega) hlk; obtain ⟨r1, r2, r3⟩ := zbc h l _ k5 (by rw [k4, hl]; omega) g hg
      have mem : ∀ s, s ∈ frN sz xs l (atM sz xs t i).ppn → s ∈ frN sz xs (l + 1) t := fun s hs => by
       simp only [frN, List.mem_cons]; exact .inr (List.mem_flatMap.2 ⟨i, List.mem_range.2 hi, by rw [if_pos hlk]; exact hs⟩)
      refine ⟨r1, by omega, .inr ?_⟩; rcases r3 with rfl | ⟨s, hs, j, q1, q2, q3, q4⟩
      · exact ⟨t, by simp [frN], i, by omega, k1, rfl, by omega⟩
      · exact ⟨s, mem s hs, j, q1, q2, q3, by omega⟩
    · cases hg
theorem zhc (hs : Srt xs) (hz : sz = (cd + cp) * 4096) {t i : Int} (ht : 0 ≤ t ∧ t < cd + cp) (hi : 0 ≤ i ∧ i < 512) (s j : Int) (hj : 0 ≤ j ∧ j < 512) : atM sz (zb3 xs (t * 512 + i) 0) s j = if s = t ∧ j = i then zP else atM sz xs s j := by
 by_cases hd : s * 4096 + j * 8 < sz
 · rw [zh1 hs hi hj hd, znr]
 · rw [if_neg (by rintro ⟨rfl, rfl⟩; omega)]
   unfold atM zbs; rw [if_neg hd, if_neg hd]
theorem z4g (h : TI cd cp sz xs f sh lv) {t i : Int} {l : Nat} (ht : Al cd cp f t) (hlv : lv t = (l + 1 : Nat)) (hl : l + 1 ≤ 2) (hi : 0 ≤ i ∧ i < 512) (hH : ¬ (l + 1 = 2 ∧ i = 511)) (hq : lkP (atM sz xs t i) = true) :
 TI cd cp sz (zb3 (bkN cd cp (frN sz xs l (atM sz xs t i).ppn) (xs, f)).1 (t * 512 + i) 0) (bkN cd cp (frN sz xs l (atM sz xs t i).ppn) (xs, f)).2 sh lv ∧
 (∀ s, Al cd cp f s → (s = sh ∨ (l : Int) < lv s) → Al cd cp (bkN cd cp (frN sz xs l (atM sz xs t i).ppn) (xs, f)).2 s) := by
 have hb := zgp cd cp sz h.bp (frN sz xs l (atM sz xs t i).ppn) (xs, f) h.s h.bf; obtain ⟨k1, k2, k3, k4⟩ := zb5 h hi hq; have hfr := zbc h l _ k4 (by rw [k3, hlv]; omega)
 have hrs : (atM sz xs t i).ppn ≠ sh := fun e => by
  obtain ⟨a, b⟩ := h.e.s t i hi hq e; exact hH ⟨by omega, a⟩
 have hgs : ∀ g ∈ frN sz xs l (atM sz xs t i).ppn, g ≠ sh := fun g hg e => by
  obtain ⟨_, _, r⟩ := hfr g hg; rcases r with r | ⟨s, hs, j, q1, q2, q3, q4⟩
  · exact hrs (r.symm.trans e)
  · obtain ⟨_, b⟩ := h.e.s s j q1 q2 (q3.trans e); omega
 have hbt := ht.1; have hcd := h.bd; have hat := fun s j hj => zhc (cd := cd) (cp := cp) (t := t) (i := i) (sz := sz) hb.s h.bz (by omega) hi s j hj; generalize hF : frN sz xs l (atM sz xs t i).ppn = F at *; generalize bkN cd cp F (xs, f) = r at *; have hmem : ∀ s j, (0 ≤ j ∧ j < 512) → atM sz (zb3 r.1 (t * 512 + i) 0) s j ≠ zP → s ∉ F ∧ ¬ (s = t ∧ j = i) ∧ atM sz (zb3 r.1 (t * 512 + i) 0) s j = atM sz xs s j := fun s j hj hne => by
  rw [hat s j hj] at hne ⊢; by_cases c : s = t ∧ j = i
  · rw [if_pos c] at hne; exact absurd rfl hne
  · rw [if_neg c] at hne ⊢; rw [hb.e s j hj] at hne ⊢; by_cases d : s ∈ F
    · rw [if_pos d] at hne; exact absurd rfl hne
    · rw [if_neg d]; exact ⟨d, c, rfl⟩
 refine ⟨z2c h (zed _ _ _ hb.s) (fun c hc => ?_) hb.f (fun s j hj => ?_) (fun s j hj hne => ?_) (fun s j hj hlk => ?_), fun s hs hk => ?_⟩
 · rcases zc2 _ _ _ _ hc with hc | ⟨_, hv⟩
   · exact hb.m c hc
   · exact absurd rfl hv
 · by_cases c : atM sz (zb3 r.1 (t * 512 + i) 0) s j = zP
   · exact .inl c
   · exact .inr (hmem s j hj c).2.2
 · obtain ⟨a, _, c⟩ := hmem s j hj hne; refine (hb.a s).2 ⟨?_, a⟩; rcases h.e.k s j hj with e | ⟨k, _⟩
   · rw [c] at hne; exact absurd e hne
   · exact k
 · have hne : atM sz (zb3 r.1 (t * 512 + i) 0) s j ≠ zP := fun e => by rw [e] at hlk; cases hlk
   obtain ⟨a, b, c⟩ := hmem s j hj hne; rw [c] at hlk ⊢; obtain ⟨_, _, _, k⟩ := zb5 h hj hlk; refine (hb.a _).2 ⟨k, fun hin => ?_⟩; obtain ⟨_, _, r3⟩ := hfr _ hin; rcases r3 with e | ⟨s', hs', j', q1, q2, q3, q4⟩
   · exact b (h.e.u s j t i hj hi hlk hq e (by rw [e]; exact hrs))
   · obtain ⟨e1, e2⟩ := h.e.u s j s' j' hj q1 hlk q2 q3.symm (fun e => by
      obtain ⟨_, b⟩ := h.e.s s' j' q1 q2 (q3.trans e)
      omega)
     exact a (e1 ▸ hs')
 · refine (hb.a s).2 ⟨hs, fun hin => ?_⟩; rcases hk with e | hk
   · exact hgs s hin e
   · have := (hfr s hin).2.1; omega
def prN (sz cd cp addr : Int) : Nat → Int → List (Int × Int) × Int → List (Int × Int) × Int
 | 0, _, p => p
 | l + 1, t, p =>
  if za2 (atM sz p.1 t (idx addr ((l + 1 : Nat) : Int))) ((l + 1 : Nat) : Int) then
   if zec (prN sz cd cp addr l (atM sz p.1 t (idx addr ((l + 1 : Nat) : Int))).ppn p).1 (atM sz p.1 t (idx addr ((l + 1 : Nat) : Int))).ppn then
    (zba sz (TableC.za6 (prN sz cd cp addr l (atM sz p.1 t (idx addr ((l + 1 : Nat) : Int))).ppn p).1 (atM sz p.1 t (idx addr ((l + 1 : Nat) : Int))).ppn) t (idx addr ((l + 1 : Nat) : Int)) zP,
     TableC2.zdz cd cp (prN sz cd cp addr l (atM sz p.1 t (idx addr ((l + 1 : Nat) : Int))).ppn p).2 (atM sz p.1 t (idx addr ((l + 1 : Nat) : Int))).ppn)
   else prN sz cd cp addr l (atM sz p.1 t (idx addr ((l + 1 : Nat) : Int))).ppn p
  else p
theorem znw (h : TI cd cp sz xs f sh lv) {g : Int} (hg : cd ≤ g ∧ g < cd + cp) : (zec xs g = true → ∀ j, (0 ≤ j ∧ j < 512) → zbs sz xs (g * 4096 + j * 8) = 0) ∧ (zec xs g = false → ∃ j, (0 ≤ j ∧ j < 512) ∧ zbs sz xs (g * 4096 + j * 8) ≠ 0) := by
 have hz := h.bz; constructor
 · intro he j hj; unfold zbs
   split
   · refine zdb fun c hc e => ?_; unfold zec at he; rw [Bool.not_eq_true'] at he; have := List.any_eq_false.1 he c hc; simp only [decide_eq_true_eq] at this; omega
   · rfl
 · intro he; unfold zec at he; rw [Bool.not_eq_false'] at he; obtain ⟨c, hc, e⟩ := List.any_eq_true.1 he; rw [decide_eq_true_eq] at e; obtain ⟨⟨r1, r2⟩, r3, r4⟩ := h.r c hc; refine ⟨c.1 % 512, by omega, ?_⟩; unfold zbs; rw [if_pos (by omega), show (g * 4096 + c.1 % 512 * 8) / 8 = c.1 by omega, look_mem h.s hc]; exact r4
structure PrP (cd cp sz f sh : Int) (xs : List (Int × Int)) (lv : Int → Int) (l : Nat) (q : List (Int × Int) × Int) : Prop where
 t : TI cd cp sz q.1 q.2 sh lv
 m : ∀ c ∈ q.1, c ∈ xs
 n : q.1.length ≤ xs.length
 a : ∀ s, Al cd cp f s → (s = sh ∨ (l : Int) ≤ lv s) → Al cd cp q.2 s
 b : ∀ s, Al cd cp q.2 s → Al cd cp f s
 e : ∀ s j, (0 ≤ j ∧ j < 512) → atM sz q.1 s j = zP ∨ atM sz q.1 s j = atM sz xs s j
 u : ∀ s j, (0 ≤ j ∧ j < 512) → Al cd cp f s → (l : Int) < lv s → atM sz q.1 s j = atM sz xs s j
theorem zgq (addr : Int) (h : TI cd cp sz xs f sh lv) : ∀ (l : Nat) (t : Int), l ≤ 2 → Al cd cp f t → lv t = l → (2 ≤ l → idx addr 2 ≠ 511) → PrP cd cp sz f sh xs lv l (prN sz cd cp addr l t (xs, f))
 | 0, t, _, ht, hl, _ => ⟨h, fun c hc => hc, Nat.le_refl _, fun s hs _ => hs, fun s hs => hs, fun s j _ => .inr rfl, fun s j _ _ _ => rfl⟩
 | l + 1, t, h2, ht, hl, hH => by
  have hi := idx_bd addr ((l + 1 : Nat) : Int); unfold prN
  split
  rotate_left
  · exact ⟨h, fun c hc => hc, Nat.le_refl _, fun s hs _ => hs, fun s hs => hs, fun s j _ => .inr rfl, fun s j _ _ _ => rfl⟩
  rename_i hlk; have hlk : za2 (atM sz xs t (idx addr ((l + 1 : Nat) : Int))) ((l + 1 : Nat) : Int) = true := hlk; obtain ⟨k1, k2, k3, k4, k5⟩ := zh3 h hi hlk; have hls : lv (atM sz xs t (idx addr ((l + 1 : Nat) : Int))).ppn = (l : Int) := by rw [k4, hl]; omega
  have P := zgq addr h l _ (by omega) k5 hls (fun hh => by omega); have hgs : (atM sz xs t (idx addr ((l + 1 : Nat) : Int))).ppn ≠ sh := fun e => by
   obtain ⟨a, b⟩ := h.e.s t _ hi k1 e; have e2 : l + 1 = 2 := by omega
   rw [show ((l + 1 : Nat) : Int) = 2 by omega] at a; exact hH (by omega) a
  have hut := P.u t (idx addr ((l + 1 : Nat) : Int)) hi ht (by rw [hl]; omega)
  have hag := P.a _ k5 (.inr (by rw [hls]; omega))
  have hat := P.a t ht (.inr (by rw [hl]; omega))
  show PrP cd cp sz f sh xs lv (l + 1) (if zec (prN sz cd cp addr l (atM sz xs t (idx addr ((l + 1 : Nat) : Int))).ppn (xs, f)).1 (atM sz xs t (idx addr ((l + 1 : Nat) : Int))).ppn = true then _ else prN sz cd cp addr l (atM sz xs t (idx addr ((l + 1 : Nat) : Int))).ppn (xs, f)); generalize prN sz cd cp addr l (atM sz xs t (idx addr ((l + 1 : Nat) : Int))).ppn (xs, f) = r at *; generalize idx addr ((l + 1 : Nat) : Int) = i at *
  split
  rotate_left
  · exact ⟨P.t, P.m, P.n, fun s hs hk => P.a s hs (by omega), P.b, P.e, fun s j hj hs hk => P.u s j hj hs (by omega)⟩
  rename_i hem; have hT := P.t; have hbt := ht.1; have hcd := h.bd; have hw := hT.gm.wipe; have hz := (znw hT hag.1).1 hem; have hzp : ∀ j, (0 ≤ j ∧ j < 512) → atM sz r.1 (atM sz xs t i).ppn j = zP := fun j hj => by unfold atM; rw [show zbs sz r.1 ((zay (zbs sz xs (t * 4096 + i * 8))).ppn * 4096 + j * 8) = 0 from hz j hj, znr]
  have hwi : zba sz (TableC.za6 r.1 (atM sz xs t i).ppn) t i zP = zb3 (TableC.za6 r.1 (atM sz xs t i).ppn) (t * 512 + i) 0 := by
   rw [zem z17 (by omega) hi (by rw [h.bz]; omega), zpn]
  show PrP cd cp sz f sh xs lv (l + 1) (zba sz (TableC.za6 r.1 (atM sz xs t i).ppn) t i zP, TableC2.zdz cd cp r.2 (atM sz xs t i).ppn); rw [hwi]; have hA := fun s => zru (cd := cd) (g := (atM sz xs t i).ppn) (s := s) h.bp hT.bf; have hE : ∀ s j, (0 ≤ j ∧ j < 512) → atM sz (zb3 (TableC.za6 r.1 (atM sz xs t i).ppn) (t * 512 + i) 0) s j = if s = t ∧ j = i then zP else atM sz r.1 s j := fun s j hj => by
   rw [zhc (cd := cd) (cp := cp) (zcr _ hT.s) h.bz (by omega) hi s j hj, znt hT.s _ s j hj]
   split
   · rfl
   · split
     · rename_i e; rw [e, hzp j hj]
     · rfl
  generalize hg : (atM sz xs t i).ppn = g at *; have hsub : ∀ s j, (0 ≤ j ∧ j < 512) → atM sz (zb3 (TableC.za6 r.1 g) (t * 512 + i) 0) s j ≠ zP → ¬ (s = t ∧ j = i) ∧ s ≠ g ∧ atM sz (zb3 (TableC.za6 r.1 g) (t * 512 + i) 0) s j = atM sz r.1 s j := fun s j hj hne => by
   rw [hE s j hj] at hne ⊢; by_cases c : s = t ∧ j = i
   · rw [if_pos c] at hne; exact absurd rfl hne
   · rw [if_neg c] at hne ⊢; exact ⟨c, fun e => hne (by rw [e]; exact hzp j hj), rfl⟩
  have hTI : TI cd cp sz (zb3 (TableC.za6 r.1 g) (t * 512 + i) 0) (TableC2.zdz cd cp r.2 g) sh lv := by
   refine z2c hT (zed _ _ _ (zcr _ hT.s)) (fun c hc => ?_) (zrt h.bp hT.bf) (fun s j hj => ?_) (fun s j hj hne => ?_) (fun s j hj hl2 => ?_)
   · rcases zc2 _ _ _ _ hc with hc | ⟨_, hv⟩
     · exact zfg hc
     · exact absurd rfl hv
   · by_cases c : atM sz (zb3 (TableC.za6 r.1 g) (t * 512 + i) 0) s j = zP
     · exact .inl c
     · exact .inr (hsub s j hj c).2.2
   · obtain ⟨_, a, c⟩ := hsub s j hj hne; refine (hA s).2 ⟨?_, a⟩; rcases hT.e.k s j hj with e | ⟨k, _⟩
     · rw [c] at hne; exact absurd e hne
     · exact k
   · have hne : atM sz (zb3 (TableC.za6 r.1 g) (t * 512 + i) 0) s j ≠ zP := fun e => by rw [e] at hl2; cases hl2
     obtain ⟨b, _, c⟩ := hsub s j hj hne; rw [c] at hl2 ⊢; obtain ⟨_, _, _, k⟩ := zb5 hT hj hl2; refine (hA _).2 ⟨k, fun e => b ?_⟩; exact hT.e.u s j t i hj hi hl2 (by rw [hut]; exact k1) (by rw [hut, hg]; exact e) (by rw [e]; exact hgs)
  refine ⟨hTI, fun c hc => ?_, ?_, fun s hs hk => ?_, fun s hs => P.b s ((hA s).1 hs).1, fun s j hj => ?_, fun s j hj hs hk => ?_⟩
  · rcases zc2 _ _ _ _ hc with hc | ⟨_, hv⟩
    · exact P.m c (zfg hc)
    · exact absurd rfl hv
  · have e1 := zee r.1 g; have e2 := P.n; have e3 : (zb3 (TableC.za6 r.1 g) (t * 512 + i) 0).length ≤ (TableC.za6 r.1 g).length := by
     rw [zhz _ _ (zcr _ hT.s)]; exact List.length_filter_le ..
    show (zb3 (TableC.za6 r.1 g) (t * 512 + i) 0).length ≤ _; omega
  · refine (hA s).2 ⟨P.a s hs (by omega), fun e => ?_⟩; rcases hk with hk | hk
    · exact hgs (e.symm.trans hk)
    · rw [e, hls] at hk; omega
  · show atM sz (zb3 (TableC.za6 r.1 g) (t * 512 + i) 0) s j = zP ∨ _; rw [hE s j hj]
    split
    · exact .inl rfl
    · exact P.e s j hj
  · show atM sz (zb3 (TableC.za6 r.1 g) (t * 512 + i) 0) s j = _; rw [hE s j hj, if_neg (by rintro ⟨rfl, _⟩; rw [hl] at hk; omega)]
    exact P.u s j hj hs (by omega)
end
end LiC
namespace LiD
open Go.RowKit Bv VaSpec MemL RegR Ax MemC3 SpA SpD SpH SpN LaA LaB LaC LaE LaG LiA LiB
section
variable {cd cp sz f sh : Int} {xs : List (Int × Int)} {lv : Int → Int}
end
def finW (row : List (Int × Int)) (s : List (Int × Int) × Bool) : List (Int × Int) := if s.2 = false then s.1 ++ row else s.1
end LiD
namespace RefS
open Go.RowKit Bv Base
def hi (f : Nat → Bool) : Nat → Nat
 | 0 => 0
 | k + 1 => 2 * hi f k + (f (63 - k)).toNat
theorem zrv (f : Nat → Bool) (k : Nat) : hi f (k + 1) = 2 * hi f k + (f (63 - k)).toNat := rfl
theorem z8l (f : Nat → Bool) (k : Nat) : hi f k < 2 ^ k := by
 induction k with
 | zero => simp [hi]
 | succ k ih => rw [zrv]; have := Bool.toNat_le (f (63 - k)); rw [Nat.pow_succ]; omega
set_option maxHeartbeats 400000 in
set_option maxRecDepth 100000 in
theorem of_calls (f : Nat → Bool) (cs : Array Value) (w : World) (hsz : cs.size = 64) (hget : ∀ k, k < 64 → cs[k]? = some (.bool (f k))) :
 Calls Tryz.prog 181 #[.agg cs] w fun e w' => e = .returned (.int .u64 (hi f 64)) ∧ Below w.heap.size w w' := by
 have Hs := Lib.hid hsz; clear hsz; have Hg := Lib.hid hget; clear hget
 go_enter Tryz.func181, Tryz.ntmps181
 go_wp2
 go_loop [3, 4] (fun x i => ∃ k : Nat, k ≤ 64 ∧ i = .int .i64 (63 - k) ∧ x = .int .u64 (hi f k)) (fun _ i => (intOf i + 1).toNat)
 case atStart => exact ⟨0, by omega, rfl, rfl⟩
 case round =>
  obtain ⟨k, hk, rfl, rfl⟩ := hrel; by_cases hlt : k < 64
  · obtain ⟨j, hj⟩ : ∃ j : Nat, j = 63 - k := ⟨_, rfl⟩; have hb := z8l f k; have hp : 2 ^ k ≤ 2 ^ 63 := Nat.pow_le_pow_right (by decide) (by omega); have hb2 : (hi f k : Int) ≤ 9223372036854775807 := by omega
    clear hb hp; have hc : (w.alloc (.cells cs 240)).cell? ⟨w.heap.size, j, none⟩ = some (.bool (f j)) := by
     rw [cell_of_row _ _ _ cs 240 (0, 0) (heap_alloc_new w _)]; exact Hg.out j (by omega)
    rw [show (63 : Int) - k = (j : Int) by omega]; have hj2 : j < 64 := by omega
    have Hj := Lib.hid hj; clear hj; cases hf : f j
    all_goals
     rw [hf] at hc
     go_wp2
     go_round
     case rel =>
      refine ⟨k + 1, by omega, by rw [show (j : Int) - 1 = 63 - ((k + 1 : Nat) : Int) by have := Hj.out; omega], ?_⟩
      rw [zrv, ← Hj.out, hf]; go_num
     case measure => have := Hj.out; simp [intOf]
  · obtain rfl : k = 64 := by omega
    go_wp2
    go_ret
    exact ⟨rfl, (Below.refl _ _).alloc (Nat.le_refl _) _⟩
theorem z0r (y : BitVec 64) (f : Nat → Bool) (h : ∀ j, j < 64 → f j = y.getLsbD j) : ∀ k, k ≤ 64 → hi f k = y.toNat / 2 ^ (64 - k) := by
 intro k
 induction k with
 | zero => intro _; have := y.isLt; rw [Nat.div_eq_of_lt (by simpa using this)]; rfl
 | succ k ih =>
  intro hk; rw [zrv, ih (by omega), h _ (by omega), BitVec.getLsbD, Nat.testBit, Nat.shiftRight_eq_div_pow, Nat.and_comm, Nat.and_one_is_mod, show 64 - k = (63 - k) + 1 by omega, show 64 - (k + 1) = 63 - k by omega, Nat.pow_succ, ← Nat.div_div_eq_div_mul]; generalize y.toNat / 2 ^ (63 - k) = q; rcases Nat.mod_two_eq_zero_or_one q with e | e <;> rw [e] <;> simp <;> omega
theorem z2d (y : BitVec 64) (f : Nat → Bool) (h : ∀ j, j < 64 → f j = y.getLsbD j) : ((hi f 64 : Nat) : Int) = B y := by
 rw [z0r y f h 64 (by omega)]; simp [B]
def bt (x : BitVec 64) (i : Nat) : Bool := x.getLsbD i
theorem z0s (x : BitVec 64) (j : Nat) : IntKind.u64.wrap (Int.tdiv (B (x >>> j)) 2) = B (x >>> (j + 1)) := by
 rw [show Int.tdiv (B (x >>> j)) 2 = (((x >>> j).toNat / 2 : Nat) : Int) from rfl, wrap_u64]; unfold B; rw [BitVec.toNat_ushiftRight, BitVec.toNat_ushiftRight, Nat.shiftRight_eq_div_pow, Nat.shiftRight_eq_div_pow, Nat.div_div_eq_div_mul, ← Nat.pow_succ]; rw [Nat.succ_eq_add_one]; have h1 := x.isLt; have h2 : x.toNat / 2 ^ (j + 1) ≤ x.toNat := Nat.div_le_self _ _; generalize x.toNat / 2 ^ (j + 1) = q at *; omega
theorem z4h (x : BitVec 64) (j : Nat) : (Int.tmod (B (x >>> j)) 2 == 1) = bt x j := by
 unfold B bt; rw [BitVec.toNat_ushiftRight, BitVec.getLsbD, Nat.testBit, Nat.shiftRight_eq_div_pow]; rw [show Int.tmod ((x.toNat / 2 ^ j : Nat) : Int) 2 = ((x.toNat / 2 ^ j % 2 : Nat) : Int) from rfl]; rw [Nat.and_comm, Nat.and_one_is_mod]; rcases Nat.mod_two_eq_zero_or_one (x.toNat / 2 ^ j) with h | h <;> rw [h] <;> rfl
theorem z4i (x : BitVec 64) (j : Nat) : B (x >>> j) / 2 = B (x >>> (j + 1)) := by
 rw [← z0s, show Int.tdiv (B (x >>> j)) 2 = (((x >>> j).toNat / 2 : Nat) : Int) from rfl, wrap_u64]; unfold B; have := (x >>> j).isLt; omega
theorem z6x (x : BitVec 64) (j : Nat) : (B (x >>> j) % 2 == 1) = bt x j := by
 rw [← z4h]; rfl
set_option maxHeartbeats 400000 in
set_option maxRecDepth 100000 in
theorem ztb (x : BitVec 64) (i : Int) (w : World) (h0 : 0 ≤ i) (h : i ≤ 200) :
 Calls Tryz.prog 72 #[.int .u64 (B x), .int .i64 i] w fun e w' => e = .returned (.bool (bt x i.toNat)) ∧ w' = w := by
 obtain ⟨n, rfl⟩ := Int.eq_ofNat_of_zero_le h0; by_cases h63 : n ≤ 63
 · go_enter Tryz.func72, Tryz.ntmps72
   go_wp2
   go_loop [0, 5] (fun y k => ∃ j : Nat, j ≤ n ∧ k = .int .i64 j ∧ y = .int .u64 (B (x >>> j))) (fun _ k => n - (intOf k).toNat)
   case atStart => exact ⟨0, by omega, rfl, by simp⟩
   case round =>
    obtain ⟨j, hj, rfl, rfl⟩ := hrel; have hb := zm5 (x >>> j); have hb2 := z78 (x >>> j); by_cases hlt : j < n
    · go_wp2
      refine ⟨⟨j + 1, by omega, by go_num, by rw [z4i]⟩, ?_⟩; simp [intOf]; omega
    · obtain rfl : j = n := by omega
      have Ho := Lib.hid (z6x x j)
      go_wp2
      go_ret
      refine ⟨?_, rfl⟩; exact congrArg (fun z => Ending.returned (.bool z)) Ho.out
 · have hf := Lib.hid (show bt x n = false by unfold bt; exact BitVec.getLsbD_of_ge _ _ (by omega))
   go_enter Tryz.func72, Tryz.ntmps72
   go_wp2
   go_ret
   refine ⟨?_, rfl⟩; exact congrArg (fun z => Ending.returned (.bool z)) hf.out.symm
theorem zku (x : BitVec 64) (i : Int) (w : World) (h0 : 0 ≤ i) (h : i ≤ 200) :
 Calls Tryz.prog 72 #[.int .u64 (B x), .int .i64 i] w fun e w' => e = .returned (.bool (bt x i.toNat)) ∧ Q w w' := (ztb x i w h0 h).mono fun _ _ ⟨a, b⟩ => ⟨a, by subst b; exact Q.refl _⟩
def Arr (w : World) (b : Nat) (f : Nat → Bool) : Prop := ∃ cs, w.heap[b]? = some (Obj.cells cs 240 (0, 0)) ∧ cs.size = 64 ∧ ∀ k, k < 64 → cs[k]? = some (.bool (f k))
theorem Arr.cell {w : World} {b : Nat} {f : Nat → Bool} (h : Arr w b f) (k : Nat) (hk : k < 64) : w.cell? ⟨b, k, none⟩ = some (.bool (f k)) := by
 obtain ⟨cs, h1, _, h3⟩ := h; rw [cell_of_row _ _ _ cs 240 (0, 0) h1]; exact h3 k hk
theorem Arr.frozen {w : World} {b : Nat} {f : Nat → Bool} (h : Arr w b f) (k : Nat) : w.frozen? ⟨b, k, none⟩ = false := by
 obtain ⟨cs, h1, _, h3⟩ := h; exact frozen_of_row _ _ _ cs 240 h1
theorem Arr.drewN {w : World} {b : Nat} {f : Nat → Bool} (h : Arr w b f) (n : Nat) : Arr (w.drewN n) b f := h
theorem Arr.set {w : World} {b : Nat} {f : Nat → Bool} (h : Arr w b f) (k : Nat) (v : Bool) : Arr (w.setCell ⟨b, k, none⟩ (.bool v)) b (fun j => if j = k then v else f j) := by
 obtain ⟨cs, h1, h2, h3⟩ := h; refine ⟨_, heap_setCell_same w b k cs 240 _ h1, by simp [h2], ?_⟩; intro j hj; rw [Array.getElem?_setIfInBounds]; by_cases e : k = j
 · subst e; simp [h2, hj]
 · simp [e, Ne.symm e, h3 j hj]
theorem Arr.congr {w : World} {b : Nat} {f g : Nat → Bool} (h : Arr w b f) (e : ∀ k, k < 64 → f k = g k) : Arr w b g := by
 obtain ⟨cs, h1, h2, h3⟩ := h; exact ⟨cs, h1, h2, fun k hk => by rw [h3 k hk, e k hk]⟩
theorem Arr.zero (w : World) : Arr (w.alloc (Obj.cells #[.bool false, .bool false, .bool false, .bool false, .bool false, .bool false, .bool false, .bool false, .bool false, .bool false, .bool false, .bool false, .bool false, .bool false, .bool false, .bool false, .bool false, .bool false, .bool false, .bool false, .bool false, .bool false, .bool false, .bool false, .bool false, .bool false, .bool false, .bool false, .bool false, .bool false, .bool false, .bool false, .bool false, .bool false, .bool false, .bool false, .bool false, .bool false, .bool false, .bool false, .bool false, .bool false, .bool false, .bool false, .bool false, .bool false, .bool false, .bool false, .bool false, .bool false, .bool false, .bool false, .bool false, .bool false, .bool false, .bool false, .bool false, .bool false, .bool false, .bool false, .bool false, .bool false, .bool false, .bool false] 240)) w.heap.size (fun _ => false) := by
 refine ⟨_, heap_alloc_new w _, by rfl, ?_⟩; intro k hk; have : ∀ k : Fin 64, (Array.replicate 64 (Value.bool false))[k.val]? = some (.bool false) := by intro k; simp
 exact this ⟨k, hk⟩
theorem Arr.next {wr : World} {b k nd : Nat} {g : Nat → Bool} {v : Bool} (ha : Arr wr b (fun j => decide (j < k) && g j)) (e : v = g k) :
 Arr ((wr.drewN nd).setCell ⟨b, k, none⟩ (.bool v)) b (fun j => decide (j < k + 1) && g j) := by
 refine (Arr.set (w := wr.drewN nd) ha k _).congr ?_; intro j hj; by_cases e1 : j = k
 · subst e1; simp [e]
 · rw [if_neg e1]; by_cases e2 : j < k
   · simp [e2, show j < k + 1 by omega]
   · simp [e2, show ¬ j < k + 1 by omega]
theorem Arr.next2 {wr : World} {b k nd nd2 : Nat} {g : Nat → Bool} {u v : Bool} (ha : Arr wr b (fun j => decide (j < k) && g j)) (e : v = g k) :
 Arr ((((wr.drewN nd).setCell ⟨b, k, none⟩ (.bool u)).drewN nd2).setCell ⟨b, k, none⟩ (.bool v)) b (fun j => decide (j < k + 1) && g j) := by
 refine (Arr.set (Arr.drewN (Arr.set (w := wr.drewN nd) ha k u) nd2) k v).congr ?_; intro j hj; by_cases e1 : j = k
 · subst e1; simp [e]
 · rw [if_neg e1, if_neg e1]; by_cases e2 : j < k
   · simp [e2, show j < k + 1 by omega]
   · simp [e2, show ¬ j < k + 1 by omega]
theorem zh4 {w wr : World} (hb : Below w.heap.size w wr) (k nd : Nat) (v : Value) : Below w.heap.size w ((wr.drewN nd).setCell ⟨w.heap.size, k, none⟩ v) :=
 (hb.trans ((Q.below ⟨nd, rfl⟩).mono hb.size)).setCell (Nat.le_refl _) _
set_option maxHeartbeats 400000 in
set_option maxRecDepth 100000 in
theorem z0t (x : BitVec 64) (n : Nat) (w : World) (h1n : 1 ≤ n) (hn : n ≤ 64) :
 Calls Tryz.prog 149 #[.int .u64 (B x), .int .i64 n] w fun e w' => e = .returned (.int .u64 (B (zm7 x n))) ∧ Below w.heap.size w w' := by
 go_enter Tryz.func149, Tryz.ntmps149
 go_wp2
 go_loopw [6] (fun i wr => ∃ k : Nat, k ≤ 64 ∧ i = .int .i64 k ∧ Arr wr w.heap.size (fun j => decide (j < k) && bt x (min j (n - 1))) ∧ Below w.heap.size w wr) (fun i _ => 64 - (intOf i).toNat)
 case atStart => exact ⟨0, by omega, rfl, (Arr.zero w).congr (by intro k _; simp), (Below.refl _ _).alloc (Nat.le_refl _) _⟩
 case round =>
  obtain ⟨k, hk, rfl, ha, hb⟩ := hrel; by_cases hlt : k < 64
  · have hc := ha.cell k (by omega); have hz := ha.frozen k; by_cases hm : k ≤ n - 1
    all_goals
     go_wp2_with (go_at_call 72; (with_reducible refine (zku _ _ _ (by omega) (by omega)).mono ?_); rintro e w' ⟨rfl, ⟨nd, rfl⟩⟩)
     refine ⟨⟨k + 1, by omega, by go_num, ha.next (by congr 1; omega), (hb.trans ((Q.below ⟨nd, rfl⟩).mono hb.size)).setCell (Nat.le_refl _) _⟩, ?_⟩
     simp [intOf]; omega
  · obtain rfl : k = 64 := by omega
    obtain ⟨cs, h1, h2, h3⟩ := ha; have Hh := Lib.hid h1; clear h1; have Hs := Lib.hid h2; clear h2; have H3 := Lib.hid h3; clear h3
    go_wp2_with (first | (with_reducible refine wpList_load_row rfl 240 _ rfl w.heap.size rfl 240 cs (0, 0) _ Hh.out Tryz.underlying240 rfl (by rw [Hs.out]; kernel_rfl) ?_) | (go_at_call 181; refine (of_calls _ cs _ Hs.out H3.out).mono ?_; rintro e w' ⟨rfl, bel⟩))
    go_ret
    refine ⟨?_, hb.trans (bel.mono hb.size)⟩; show Ending.returned (.int .u64 (hi (fun j => decide (j < 64) && bt x (min j (n - 1))) 64 : Nat)) = _; rw [z2d (zm7 x n) _ (fun j hj => by rw [zo1 _ _ _ h1n hn]; rfl)]
end RefS
namespace RefSet
open Go.RowKit Bv Base RefS
def g1 (x v : BitVec 64) (lo : Nat) (j : Nat) : Bool := if j = lo then bt v 0 else bt x j
set_option maxHeartbeats 400000 in
set_option maxRecDepth 100000 in
theorem z4j (x v : BitVec 64) (lo : Nat) (w : World) (hlo : lo < 64) :
 Calls Tryz.prog 161 #[.int .u64 (B x), .int .i64 lo, .int .i64 1, .int .u64 (B v)] w fun e w' => e = .returned (.int .u64 (B (zvh x lo 1 v))) ∧ Below w.heap.size w w' := by
 have hw1 : IntKind.i64.wrap ((lo : Int) + 1) = (lo : Int) + 1 := by rw [IntKind.wrap_i64]; omega
 go_enter Tryz.func161, Tryz.ntmps161
 go_wp2
 go_loopw [10] (fun i wr => ∃ k : Nat, k ≤ 64 ∧ i = .int .i64 k ∧ Arr wr w.heap.size (fun j => decide (j < k) && g1 x v lo j) ∧ Below w.heap.size w wr) (fun i _ => 64 - (intOf i).toNat)
 case atStart => exact ⟨0, by omega, rfl, (Arr.zero w).congr (by intro k _; simp), (Below.refl _ _).alloc (Nat.le_refl _) _⟩
 case round =>
  obtain ⟨k, hk, rfl, ha, hb⟩ := hrel; by_cases hlt : k < 64
  · have hc := ha.cell k (by omega); have hz := ha.frozen k; rcases Nat.lt_trichotomy k lo with hm | rfl | hm
    · go_wp2_with (go_at_call 72; (with_reducible refine (zku _ _ _ (by omega) (by omega)).mono ?_); rintro e w' ⟨rfl, ⟨nd, rfl⟩⟩)
      refine ⟨⟨k + 1, by omega, by go_num, ha.next (by unfold g1; rw [if_neg (by omega)]), zh4 hb _ _ _⟩, ?_⟩
      simp [intOf]; omega
    · go_wp2_with (go_at_call 72; (with_reducible refine (zku _ _ _ (by omega) (by omega)).mono ?_); rintro e w' ⟨rfl, ⟨nd, rfl⟩⟩)
      refine ⟨⟨k + 1, by omega, by go_num, ha.next2 (by unfold g1; rw [if_pos rfl]), zh4 (zh4 hb _ _ _) _ _ _⟩, ?_⟩
      simp [intOf]; omega
    · go_wp2_with (go_at_call 72; (with_reducible refine (zku _ _ _ (by omega) (by omega)).mono ?_); rintro e w' ⟨rfl, ⟨nd, rfl⟩⟩)
      refine ⟨⟨k + 1, by omega, by go_num, ha.next (by unfold g1; rw [if_neg (by omega)]), zh4 hb _ _ _⟩, ?_⟩
      simp [intOf]; omega
  · obtain rfl : k = 64 := by omega
    obtain ⟨cs, h1, h2, h3⟩ := ha; have Hh := Lib.hid h1; clear h1; have Hs := Lib.hid h2; clear h2; have H3 := Lib.hid h3; clear h3
    go_wp2_with (first | (with_reducible refine wpList_load_row rfl 240 _ rfl w.heap.size rfl 240 cs (0, 0) _ Hh.out Tryz.underlying240 rfl (by rw [Hs.out]; kernel_rfl) ?_) | (go_at_call 181; refine (of_calls _ cs _ Hs.out H3.out).mono ?_; rintro e w' ⟨rfl, bel⟩))
    go_ret
    refine ⟨?_, hb.trans (bel.mono hb.size)⟩; show Ending.returned (.int .u64 (hi (fun j => decide (j < 64) && g1 x v lo j) 64 : Nat)) = _
    rw [z2d (zvh x lo 1 v) _ (fun j hj => by
     rw [zfb, decide_eq_true hj]; unfold g1; by_cases e : j = lo
     · subst e; rw [if_pos rfl, if_pos ⟨Nat.le_refl _, by omega⟩, Nat.sub_self]; rfl
     · rw [if_neg e, if_neg (by omega)]; rfl)]
end RefSet
namespace RfA
open Go.RowKit Bv Base MemL RegR Ax MemC PutC MemC3 TzC OkS SpA SpB SpC SpD IterC SpH SpI SpJ SpN RfP
open BitsC PteSpec
theorem zfl (a i : Int) (ha : U a) (h0 : 0 ≤ i) (h : i < 64) : Ok 72 [iu a, ii i] (.m (ib (zfh a i))) :=
 zbb #[.int .u64 a, .int .i64 i] (.bool (zfh a i)) fun W _ => by
  have := RefS.zku (X a) i W h0 (by omega); rw [B_X ha] at this; refine this.mono fun e w' ⟨he, hq⟩ => ⟨?_, Q.below hq⟩; rw [he, zea h0]; rfl
theorem zkv (a i v : Int) (ha : U a) (hv : U v) (h0 : 0 ≤ i) (h : i < 64) : Ok 161 [iu a, ii i, ii 1, iu v] (.m (iu (zbx a i 1 v))) := by
 obtain ⟨n, rfl⟩ := Int.eq_ofNat_of_zero_le h0; exact zbb #[.int .u64 a, .int .i64 n, .int .i64 1, .int .u64 v] (.int .u64 (zbx a n 1 v)) fun W _ => by
  have := RefSet.z4j (X a) (X v) n W (by omega); rw [B_X ha, B_X hv] at this; exact this
attribute [local irreducible] Ax.zbr
theorem z0u (b m : Int) (hm : 0 ≤ m ∧ m ≤ 64) : Ok 100 [iu b, ii m] (.m (.ag [cu b, ci m, cu (zd6 m)])) := by
 refine zad 21 Tryz.func100 rfl rfl rfl rfl ?_ GG.to; intro W A hG
 repeat (first | (refine zai rfl ?_; first | refine zaj ?_) | (refine hK _ ?_; clear hK K) | refine zac rfl ?_ | refine zag ?_ | refine zab (fun K hK => ?_))
 refine za1 (α := Nat × Int) (fun p => (p.1 : Int) ≤ m ∧ p.2 = zd6 p.1) (fun p => St.of [(1, .m (ii m)), (4, .m (.c (.p 4 0))), (5, .m (.c (.p 5 0))), (6, .m (ii p.1))] [(4, .live (.box [cu 0, ci 0, cu 0])), (5, .live (.box [cu b, ci m, cu p.2]))]) (fun p => m.toNat - p.1) (0, 0) ⟨by show ((0 : Nat) : Int) ≤ m; omega, allI_zero.symm⟩ (zaw _ _ ⟨rfl, rfl, rfl, rfl, trivial⟩ ⟨rfl, rfl, trivial⟩ rfl) ?_
 rintro ⟨i, x⟩ ⟨hi0, hx0⟩; have hi : (i : Int) ≤ m := hi0; have hx : x = zd6 i := hx0; show Aw _ _ _ _ (St.of [(1, .m (ii m)), (4, .m (.c (.p 4 0))), (5, .m (.c (.p 5 0))), (6, .m (ii i))] [(4, .live (.box [cu 0, ci 0, cu 0])), (5, .live (.box [cu b, ci m, cu x]))]); by_cases hlt : (i : Int) < m
 · have hs := zkv x i 1 (hx ▸ zpq i) ⟨by omega, by omega⟩ (by omega) (by omega)
   repeat (first | (refine zai rfl ?_; first | refine zaj ?_ | refine gdr (zaa rfl rfl rfl (hs) (by kernel_rfl)) ?_) | (refine hK _ ?_; clear hK K) | refine zac rfl ?_ | refine zaf rfl rfl ?_ | refine zag ?_ | refine zak ?_ | refine zab (fun K hK => ?_))
   exact ⟨(i + 1, zbx x i 1 1), ⟨by show ((i + 1 : Nat) : Int) ≤ m; omega, by show zbx x i 1 1 = zd6 ((i + 1 : Nat) : Int); rw [hx, zpp _ (by omega) (by omega)]; rfl⟩, by show m.toNat - (i + 1) < m.toNat - i; omega, zaw _ _ ⟨rfl, rfl, rfl, rfl, trivial⟩ ⟨rfl, rfl, trivial⟩ rfl⟩
 · obtain rfl : m = i := by omega
   subst hx
   repeat (first | (refine zai rfl ?_; first | refine zaj ?_) | (refine hK _ ?_; clear hK K) | (rename_i K1 hK1; refine hK1 _ ?_; clear hK hK1; clear K) | refine zac rfl ?_ | exact zah (show zat _ _ _ = some _ by kernel_rfl) | refine zae rfl rfl ?_ | refine zar ?_ | refine zab (fun K hK => ?_))
theorem z0v (m : Int) (hm : 0 ≤ m ∧ m ≤ 64) : Ok 101 [ii m] (.m (.ag [ci m, cu (zd6 m), cu 0])) := by
 refine zad 18 Tryz.func101 rfl rfl rfl rfl ?_ GG.to; intro W A hG
 repeat (first | (refine zai rfl ?_; first | refine zaj ?_) | (refine hK _ ?_; clear hK K) | refine zac rfl ?_ | refine zag ?_ | refine zab (fun K hK => ?_))
 refine za1 (α := Nat × Int) (fun p => (p.1 : Int) ≤ m ∧ p.2 = zd6 p.1) (fun p => St.of [(0, .m (ii m)), (2, .m (.c (.p 2 0))), (3, .m (.c (.p 3 0))), (4, .m (ii p.1))] [(2, .live (.box [ci 0, cu 0, cu 0])), (3, .live (.box [ci m, cu p.2, cu 0]))]) (fun p => m.toNat - p.1) (0, 0) ⟨by show ((0 : Nat) : Int) ≤ m; omega, allI_zero.symm⟩ (zaw _ _ ⟨rfl, rfl, rfl, rfl, trivial⟩ ⟨rfl, rfl, trivial⟩ rfl) ?_
 rintro ⟨i, x⟩ ⟨hi0, hx0⟩; have hi : (i : Int) ≤ m := hi0; have hx : x = zd6 i := hx0; show Aw _ _ _ _ (St.of [(0, .m (ii m)), (2, .m (.c (.p 2 0))), (3, .m (.c (.p 3 0))), (4, .m (ii i))] [(2, .live (.box [ci 0, cu 0, cu 0])), (3, .live (.box [ci m, cu x, cu 0]))]); by_cases hlt : (i : Int) < m
 · have hs := zkv x i 1 (hx ▸ zpq i) ⟨by omega, by omega⟩ (by omega) (by omega)
   repeat (first | (refine zai rfl ?_; first | refine zaj ?_ | refine gdr (zaa rfl rfl rfl (hs) (by kernel_rfl)) ?_) | (refine hK _ ?_; clear hK K) | refine zac rfl ?_ | refine zaf rfl rfl ?_ | refine zag ?_ | refine zak ?_ | refine zab (fun K hK => ?_))
   exact ⟨(i + 1, zbx x i 1 1), ⟨by show ((i + 1 : Nat) : Int) ≤ m; omega, by show zbx x i 1 1 = zd6 ((i + 1 : Nat) : Int); rw [hx, zpp _ (by omega) (by omega)]; rfl⟩, by show m.toNat - (i + 1) < m.toNat - i; omega, zaw _ _ ⟨rfl, rfl, rfl, rfl, trivial⟩ ⟨rfl, rfl, trivial⟩ rfl⟩
 · obtain rfl : m = i := by omega
   subst hx
   repeat (first | (refine zai rfl ?_; first | refine zaj ?_) | (refine hK _ ?_; clear hK K) | (rename_i K1 hK1; refine hK1 _ ?_; clear hK hK1; clear K) | refine zac rfl ?_ | exact zah (show zat _ _ _ = some _ by kernel_rfl) | refine zae rfl rfl ?_ | refine zar ?_ | refine zab (fun K hK => ?_))
theorem zps (b m f : Int) (hb : 0 ≤ b ∧ b ≤ 268435456) (hm : 0 ≤ m ∧ m ≤ 64) (hf : 0 ≤ f ∧ f < 2 ^ m.toNat) (h0 : f ≠ 0) : Ok 102 [.ag [cu b, ci m, cu f]] (.tu [.ag [cu b, ci m, cu (zbx f (tzI f) 1 0)], iu (b + tzI f), ii 0]) := by
 have hu : U f := zha hf.1 hf.2 (by omega); have ht := zct hu hf.2 h0; refine zad 28 Tryz.func102 rfl rfl rfl rfl ?_ GG.to; intro W A hG
 repeat (first | (refine zai rfl ?_; first | refine zaj ?_) | (refine hK _ ?_; clear hK K) | refine zac rfl ?_ | refine zag ?_ | refine zab (fun K hK => ?_))
 refine za1 (α := Nat) (fun i => (i : Int) ≤ tzI f) (fun i => St.of [(1, .m (.c (.p 1 0))), (2, .m (.c (.p 2 0))), (5, .m (ii i))] [(1, .live (.box [cu b, ci m, cu f])), (2, .live (.box [cu 0, ci 0, cu 0]))]) (fun i => m.toNat - i) 0 (by show ((0 : Nat) : Int) ≤ _; omega) (zaw _ _ ⟨rfl, rfl, rfl, trivial⟩ ⟨rfl, rfl, trivial⟩ rfl) ?_
 intro i hi; by_cases hlt : (i : Int) < tzI f
 · have hbt := zfl f i hu (by omega) (by omega); rw [zkp hu h0 (by omega) hlt] at hbt
   repeat (first | (refine zai rfl ?_; first | refine zaj ?_ | refine gdr (zaa rfl rfl rfl (hbt) (by kernel_rfl)) ?_) | (refine hK _ ?_; clear hK K) | refine zac rfl ?_ | refine zaf rfl rfl ?_ | refine zae rfl rfl ?_ | refine zag ?_ | refine zak ?_ | refine zab (fun K hK => ?_))
   exact ⟨i + 1, by show ((i + 1 : Nat) : Int) ≤ _; omega, by omega, zaw _ _ ⟨rfl, rfl, rfl, trivial⟩ ⟨rfl, rfl, trivial⟩ rfl⟩
 · have e : tzI f = i := by omega
   have hbt := zfl f i hu (by omega) (by omega); rw [← e, zmb hu h0, e] at hbt; have hs := zkv f i 0 hu ⟨by omega, by omega⟩ (by omega) (by omega); rw [e]
   repeat (first | (refine zai rfl ?_; first | refine zaj ?_ | refine gdr (zaa rfl rfl rfl (hbt) (by kernel_rfl)) ?_ | refine gdr (zaa rfl rfl rfl (hs) (by kernel_rfl)) ?_) | (refine hK _ ?_; clear hK K) | refine zac rfl ?_ | refine zaq (by kernel_rfl) (by kernel_rfl) rfl ?_ | exact zah (show zat _ _ _ = some _ by kernel_rfl) | refine zaf rfl rfl ?_ | refine zag ?_ | refine zak ?_ | refine zab (fun K hK => ?_))
theorem zxt (b m : Int) (hm : 0 ≤ m ∧ m ≤ 64) : Ok 102 [.ag [cu b, ci m, cu 0]] (.tu [.ag [cu b, ci m, cu 0], iu 0, ii 8]) := by
 refine zad 28 Tryz.func102 rfl rfl rfl rfl ?_ GG.to; intro W A hG
 repeat (first | (refine zai rfl ?_; first | refine zaj ?_) | (refine hK _ ?_; clear hK K) | refine zac rfl ?_ | refine zag ?_ | refine zab (fun K hK => ?_))
 refine za1 (α := Nat) (fun i => (i : Int) ≤ m) (fun i => St.of [(1, .m (.c (.p 1 0))), (2, .m (.c (.p 2 0))), (5, .m (ii i))] [(1, .live (.box [cu b, ci m, cu 0])), (2, .live (.box [cu 0, ci 0, cu 0]))]) (fun i => m.toNat - i) 0 (by show ((0 : Nat) : Int) ≤ _; omega) (zaw _ _ ⟨rfl, rfl, rfl, trivial⟩ ⟨rfl, rfl, trivial⟩ rfl) ?_
 intro i hi; by_cases hlt : (i : Int) < m
 · have hbt := zfl 0 i ⟨by omega, by omega⟩ (by omega) (by omega); rw [zs5 i (by omega)] at hbt
   repeat (first | (refine zai rfl ?_; first | refine zaj ?_ | refine gdr (zaa rfl rfl rfl (hbt) (by kernel_rfl)) ?_) | (refine hK _ ?_; clear hK K) | refine zac rfl ?_ | refine zaf rfl rfl ?_ | refine zae rfl rfl ?_ | refine zag ?_ | refine zak ?_ | refine zab (fun K hK => ?_))
   exact ⟨i + 1, by show ((i + 1 : Nat) : Int) ≤ _; omega, by omega, zaw _ _ ⟨rfl, rfl, rfl, trivial⟩ ⟨rfl, rfl, trivial⟩ rfl⟩
 · skip
   repeat (first | (refine zai rfl ?_; first | refine zaj ?_) | (refine hK _ ?_; clear hK K) | (rename_i K1 hK1; refine hK1 _ ?_; clear hK hK1; clear K) | refine zac rfl ?_ | exact zah (show zat _ _ _ = some _ by kernel_rfl) | refine zae rfl rfl ?_ | refine zar ?_ | refine zab (fun K hK => ?_))
theorem zkw (m f o : Int) (hm : 0 ≤ m ∧ m ≤ 64) (hf : 0 ≤ f ∧ f < 2 ^ m.toNat) (ho : U o) (h0 : f ≠ 0) : Ok 107 [.ag [ci m, cu f, cu o]] (.tu [.ag [ci m, cu (zgy f), cu (zgz f o)], iu (tzI f + 1), ib (zfh o (tzI f)), ii 0]) := by
 have hu : U f := zha hf.1 hf.2 (by omega); have ht := zct hu hf.2 h0; refine zad 38 Tryz.func107 rfl rfl rfl rfl ?_ GG.to; intro W A hG
 repeat (first | (refine zai rfl ?_; first | refine zaj ?_) | (refine hK _ ?_; clear hK K) | refine zac rfl ?_ | refine zag ?_ | refine zab (fun K hK => ?_))
 refine za1 (α := Nat) (fun i => (i : Int) ≤ tzI f) (fun i => St.of [(1, .m (.c (.p 1 0))), (2, .m (.c (.p 2 0))), (6, .m (ii i))] [(1, .live (.box [ci m, cu f, cu o])), (2, .live (.box [ci 0, cu 0, cu 0]))]) (fun i => m.toNat - i) 0 (by show ((0 : Nat) : Int) ≤ _; omega) (zaw _ _ ⟨rfl, rfl, rfl, trivial⟩ ⟨rfl, rfl, trivial⟩ rfl) ?_
 intro i hi; by_cases hlt : (i : Int) < tzI f
 · have hbt := zfl f i hu (by omega) (by omega); rw [zkp hu h0 (by omega) hlt] at hbt
   repeat (first | (refine zai rfl ?_; first | refine zaj ?_ | refine gdr (zaa rfl rfl rfl (hbt) (by kernel_rfl)) ?_) | (refine hK _ ?_; clear hK K) | refine zac rfl ?_ | refine zaf rfl rfl ?_ | refine zae rfl rfl ?_ | refine zag ?_ | refine zak ?_ | refine zab (fun K hK => ?_))
   exact ⟨i + 1, by show ((i + 1 : Nat) : Int) ≤ _; omega, by omega, zaw _ _ ⟨rfl, rfl, rfl, trivial⟩ ⟨rfl, rfl, trivial⟩ rfl⟩
 · have e : tzI f = i := by omega
   have hbt := zfl f i hu (by omega) (by omega); rw [← e, zmb hu h0, e] at hbt; have hbo := zfl o i ho (by omega) (by omega); have hs := zkv f i 0 hu ⟨by omega, by omega⟩ (by omega) (by omega); have hs2 := zkv o i 1 ho ⟨by omega, by omega⟩ (by omega) (by omega); unfold zgy zgz; rw [e]
   repeat (first | (refine zai rfl ?_; first | refine zaj ?_ | (refine znd 17 rfl ?_; refine gdr (zaa rfl rfl rfl (hbt) (by kernel_rfl)) ?_) | (refine znd 21 rfl ?_; refine gdr (zaa rfl rfl rfl (hbo) (by kernel_rfl)) ?_) | (refine znd 25 rfl ?_; refine gdr (zaa rfl rfl rfl (hs) (by kernel_rfl)) ?_) | (refine znd 30 rfl ?_; refine gdr (zaa rfl rfl rfl (hs2) (by kernel_rfl)) ?_)) | (refine hK _ ?_; clear hK K) | refine zac rfl ?_ | exact zah (show zat _ _ _ = some _ by kernel_rfl) | refine zaf rfl rfl ?_ | refine zag ?_ | refine zak ?_ | refine zab (fun K hK => ?_))
theorem zxu (m o : Int) (hm : 0 ≤ m ∧ m ≤ 64) : Ok 107 [.ag [ci m, cu 0, cu o]] (.tu [.ag [ci m, cu 0, cu o], iu 0, ib false, ii 9]) := by
 refine zad 38 Tryz.func107 rfl rfl rfl rfl ?_ GG.to; intro W A hG
 repeat (first | (refine zai rfl ?_; first | refine zaj ?_) | (refine hK _ ?_; clear hK K) | refine zac rfl ?_ | refine zag ?_ | refine zab (fun K hK => ?_))
 refine za1 (α := Nat) (fun i => (i : Int) ≤ m) (fun i => St.of [(1, .m (.c (.p 1 0))), (2, .m (.c (.p 2 0))), (6, .m (ii i))] [(1, .live (.box [ci m, cu 0, cu o])), (2, .live (.box [ci 0, cu 0, cu 0]))]) (fun i => m.toNat - i) 0 (by show ((0 : Nat) : Int) ≤ _; omega) (zaw _ _ ⟨rfl, rfl, rfl, trivial⟩ ⟨rfl, rfl, trivial⟩ rfl) ?_
 intro i hi; by_cases hlt : (i : Int) < m
 · have hbt := zfl 0 i ⟨by omega, by omega⟩ (by omega) (by omega); rw [zs5 i (by omega)] at hbt
   repeat (first | (refine zai rfl ?_; first | refine zaj ?_ | refine gdr (zaa rfl rfl rfl (hbt) (by kernel_rfl)) ?_) | (refine hK _ ?_; clear hK K) | refine zac rfl ?_ | refine zaf rfl rfl ?_ | refine zae rfl rfl ?_ | refine zag ?_ | refine zak ?_ | refine zab (fun K hK => ?_))
   exact ⟨i + 1, by show ((i + 1 : Nat) : Int) ≤ _; omega, by omega, zaw _ _ ⟨rfl, rfl, rfl, trivial⟩ ⟨rfl, rfl, trivial⟩ rfl⟩
 · skip
   repeat (first | (refine zai rfl ?_; first | refine zaj ?_) | (refine hK _ ?_; clear hK K) | (rename_i K1 hK1; refine hK1 _ ?_; clear hK hK1; clear K) | refine zac rfl ?_ | exact zah (show zat _ _ _ = some _ by kernel_rfl) | refine zae rfl rfl ?_ | refine zar ?_ | refine zab (fun K hK => ?_))
theorem z4k (b m f n : Int) (hb : 0 ≤ b ∧ b ≤ 268435456) (hm : 0 ≤ m ∧ m ≤ 64) (hf : U f) (hn : U n) : Ok 68 [.ag [cu b, ci m, cu f], iu n] (.m (ib (PoolC.isP b m f n))) := by
 by_cases hin : b ≤ n ∧ n - b < m
 · rw [show PoolC.isP b m f n = !zfh f (n - b) by
    unfold PoolC.isP PoolC.inP
    rw [decide_eq_true hin.1, decide_eq_true hin.2, znm _ _ (by omega)]; rfl]
   refine zad 24 Tryz.func68 rfl rfl rfl rfl ?_ GG.to; intro W A hG
   repeat (first | (refine zai rfl ?_; first | refine zaj ?_) | (refine hK _ ?_; clear hK K) | (rename_i K1 hK1; refine hK1 _ ?_; clear hK hK1; clear K) | (rename_i K1 hK1; refine hK1 _ ?_; clear hK1) | refine zac rfl ?_ | refine zaq (by kernel_rfl) (by kernel_rfl) rfl ?_ | exact zah (show zat _ _ _ = some _ by kernel_rfl) | refine zaf rfl rfl ?_ | refine zae rfl rfl ?_ | refine zag ?_ | refine zar ?_ | refine zak ?_ | refine zab (fun K hK => ?_) | refine zaz ?_ | refine za3 ?_ | refine zah (show zat _ _ _ = some _ ∧ EndB _ _ from ⟨by kernel_rfl, ?_⟩))
   refine za1 (α := Nat) (fun i => (i : Int) ≤ n - b) (fun i => St.of [(1, .m (iu n)), (2, .m (.c (.p 2 0))), (5, .m (ii i))] [(2, .live (.box [cu b, ci m, cu f]))]) (fun i => m.toNat - i) 0 (by show ((0 : Nat) : Int) ≤ _; omega) (zaw _ _ ⟨rfl, rfl, rfl, trivial⟩ ⟨rfl, trivial⟩ rfl) ?_
   intro i hi; by_cases hlt : (i : Int) < n - b
   · skip
     repeat (first | (refine zai rfl ?_; first | refine zaj ?_) | (refine hK _ ?_; clear hK K) | (rename_i K1 hK1; refine hK1 _ ?_; clear hK hK1; clear K) | (rename_i K1 hK1; refine hK1 _ ?_; clear hK1) | refine zac rfl ?_ | refine zaq (by kernel_rfl) (by kernel_rfl) rfl ?_ | exact zah (show zat _ _ _ = some _ by kernel_rfl) | refine zaf rfl rfl ?_ | refine zae rfl rfl ?_ | refine zag ?_ | refine zar ?_ | refine zak ?_ | refine zab (fun K hK => ?_) | refine zaz ?_ | refine za3 ?_ | refine zah (show zat _ _ _ = some _ ∧ EndB _ _ from ⟨by kernel_rfl, ?_⟩))
     exact ⟨i + 1, by show ((i + 1 : Nat) : Int) ≤ _; omega, by omega, zaw _ _ ⟨rfl, rfl, rfl, trivial⟩ ⟨rfl, trivial⟩ rfl⟩
   · have e : n - b = i := by omega
     have hbt := zfl f i hf (by omega) (by omega); rw [e]
     repeat (first | (refine zai rfl ?_; first | refine zaj ?_ | refine gdr (zaa rfl rfl rfl (hbt) (by kernel_rfl)) ?_) | (refine hK _ ?_; clear hK K) | (rename_i K1 hK1; refine hK1 _ ?_; clear hK hK1; clear K) | (rename_i K1 hK1; refine hK1 _ ?_; clear hK1) | refine zac rfl ?_ | refine zaq (by kernel_rfl) (by kernel_rfl) rfl ?_ | exact zah (show zat _ _ _ = some _ by kernel_rfl) | refine zaf rfl rfl ?_ | refine zae rfl rfl ?_ | refine zag ?_ | refine zar ?_ | refine zak ?_ | refine zab (fun K hK => ?_) | refine zaz ?_ | refine za3 ?_ | refine zah (show zat _ _ _ = some _ ∧ EndB _ _ from ⟨by kernel_rfl, ?_⟩))
 · rw [show PoolC.isP b m f n = false by
    unfold PoolC.isP PoolC.inP; by_cases h1 : b ≤ n
    · rw [decide_eq_false (show ¬ n - b < m by omega), Bool.and_false, Bool.false_and]
    · rw [decide_eq_false h1, Bool.false_and, Bool.false_and]]
   refine zad 24 Tryz.func68 rfl rfl rfl rfl ?_ GG.to; intro W A hG
   repeat (first | (refine zai rfl ?_; first | refine zaj ?_) | (refine hK _ ?_; clear hK K) | (rename_i K1 hK1; refine hK1 _ ?_; clear hK hK1; clear K) | (rename_i K1 hK1; refine hK1 _ ?_; clear hK1) | refine zac rfl ?_ | refine zaq (by kernel_rfl) (by kernel_rfl) rfl ?_ | exact zah (show zat _ _ _ = some _ by kernel_rfl) | refine zaf rfl rfl ?_ | refine zae rfl rfl ?_ | refine zag ?_ | refine zar ?_ | refine zak ?_ | refine zab (fun K hK => ?_) | refine zaz ?_ | refine za3 ?_ | refine zah (show zat _ _ _ = some _ ∧ EndB _ _ from ⟨by kernel_rfl, ?_⟩))
   refine za1 (α := Nat) (fun i => (i : Int) ≤ m) (fun i => St.of [(1, .m (iu n)), (2, .m (.c (.p 2 0))), (5, .m (ii i))] [(2, .live (.box [cu b, ci m, cu f]))]) (fun i => m.toNat - i) 0 (by show ((0 : Nat) : Int) ≤ _; omega) (zaw _ _ ⟨rfl, rfl, rfl, trivial⟩ ⟨rfl, trivial⟩ rfl) ?_
   intro i hi; by_cases hlt : (i : Int) < m
   · skip
     repeat (first | (refine zai rfl ?_; first | refine zaj ?_) | (refine hK _ ?_; clear hK K) | (rename_i K1 hK1; refine hK1 _ ?_; clear hK hK1; clear K) | (rename_i K1 hK1; refine hK1 _ ?_; clear hK1) | refine zac rfl ?_ | refine zaq (by kernel_rfl) (by kernel_rfl) rfl ?_ | exact zah (show zat _ _ _ = some _ by kernel_rfl) | refine zaf rfl rfl ?_ | refine zae rfl rfl ?_ | refine zag ?_ | refine zar ?_ | refine zak ?_ | refine zab (fun K hK => ?_) | refine zaz ?_ | refine za3 ?_ | refine zah (show zat _ _ _ = some _ ∧ EndB _ _ from ⟨by kernel_rfl, ?_⟩))
     exact ⟨i + 1, by show ((i + 1 : Nat) : Int) ≤ _; omega, by omega, zaw _ _ ⟨rfl, rfl, rfl, trivial⟩ ⟨rfl, trivial⟩ rfl⟩
   · skip
     repeat (first | (refine zai rfl ?_; first | refine zaj ?_) | (refine hK _ ?_; clear hK K) | (rename_i K1 hK1; refine hK1 _ ?_; clear hK hK1; clear K) | (rename_i K1 hK1; refine hK1 _ ?_; clear hK1) | refine zac rfl ?_ | refine zaq (by kernel_rfl) (by kernel_rfl) rfl ?_ | exact zah (show zat _ _ _ = some _ by kernel_rfl) | refine zaf rfl rfl ?_ | refine zae rfl rfl ?_ | refine zag ?_ | refine zar ?_ | refine zak ?_ | refine zab (fun K hK => ?_) | refine zaz ?_ | refine za3 ?_ | refine zah (show zat _ _ _ = some _ ∧ EndB _ _ from ⟨by kernel_rfl, ?_⟩))
end RfA
namespace RfB
open Go.RowKit Bv VaSpec Base MemL RegR Ax MemC PutC MemC3 OkS SpA SpB SpD IterC SpH SpI SpN RfQ
attribute [local irreducible] Ax.zbr
theorem zga (l : List (Int × Int)) (c : Int × Int) : fl (l ++ [c]) = fl l ++ [.int .u64 c.1, .int .u64 c.2] := zdx l [c]
theorem zxv {sz : Int} {l : List (Int × Int)} {n : Nat} {xs : List Value} (h1 : n = l.length) (h2 : xs = fl l) : zbm sz l = .ag [cu sz, .s n 2 xs] := by rw [h1, h2]
theorem zpt {α β : Type} (f : β → α → β) (b : β) (l : List α) (i : Nat) (a : α) (h : l[i]? = some a) : (l.take (i + 1)).foldl f b = f ((l.take i).foldl f b) a := by
 rw [List.take_add_one, h]; simp
theorem zxw {α : Type} (f : α → Bool) (l : List α) (i : Nat) (a : α) (h : l[i]? = some a) : (l.take (i + 1)).filter f = (l.take i).filter f ++ [a].filter f := by
 rw [List.take_add_one, h]; simp
def z5p (sz p v : Int) (m : List (Int × Int)) (i : Nat) (d : Bool) (n : Nat) (xs : List Value) : St := St.of [(1, .m (iu p)), (2, .m (iu v)), (3, .m (.c (.p 3 0))), (6, .m (.c (.p 6 0))), (7, .m (.c (.o 1000))), (8, .m (ib d)), (9, .m (ii i))] [(3, .live (.box [cu sz, .s m.length 2 (fl m)])), (6, .live (.box [cu 0, .v (.slice none 0 0)])), (1000, .live (.row 204 2 n xs))]
theorem zkx (sz : Int) (m : List (Int × Int)) (p v : Int) (hs : Srt m) (hl : m.length ≤ 1000000) : Ok 67 [zbm sz m, iu p, iu v] (.m (zbm sz (zb3 m p v))) := by
 have hput := z39 p v m hs; obtain ⟨b0, hb0⟩ : ∃ b0, b0 = decide (v = 0) := ⟨_, rfl⟩; rw [← hb0] at hput; obtain ⟨N, hN⟩ : ∃ N, N = (zb3 m p v).length := ⟨_, rfl⟩; obtain ⟨XS, hXS⟩ : ∃ XS, XS = fl (zb3 m p v) := ⟨_, rfl⟩; rw [zxv (sz := sz) hN hXS]; have hvb : v = 0 ∧ b0 = true ∨ v ≠ 0 ∧ b0 = false := by by_cases h : v = 0 <;> simp [hb0, h]
 clear hb0; rcases hvb with ⟨hv, rfl⟩ | ⟨hv, rfl⟩
 · refine zad 64 Tryz.func67 rfl rfl rfl rfl ?_ GG.to; intro W A hG
   repeat (first | (refine zai rfl ?_; first | refine zaj ?_) | (refine hK _ ?_; clear hK K) | refine zac rfl ?_ | refine zag ?_ | refine zab (fun K hK => ?_))
   refine za1 (α := Nat × List (Int × Int) × Bool × Nat × List Value) (fun q => q.1 ≤ m.length ∧ (q.2.1, q.2.2.1) = (m.take q.1).foldl (zcv p v) ([], true) ∧ q.2.2.2.1 = q.2.1.length ∧ q.2.2.2.2 = fl q.2.1 ∧ q.2.1.length ≤ 2 * q.1) (fun q => z5p sz p v m q.1 q.2.2.1 q.2.2.2.1 q.2.2.2.2) (fun q => m.length - q.1) (0, [], true, 0, []) ⟨Nat.zero_le _, rfl, rfl, rfl, Nat.le_refl _⟩ (Sub.trans (zg7 7 1000 204 2 rfl rfl) (zaw _ _ ⟨rfl, rfl, rfl, rfl, rfl, rfl, rfl, trivial⟩ ⟨rfl, rfl, rfl, trivial⟩ (by kernel_rfl))) ?_; rintro ⟨i, l, d, n, xs⟩ ⟨h1, h2, h3, h4, h5⟩; have g1 : i ≤ m.length := h1; have g2 : (l, d) = (m.take i).foldl (zcv p v) ([], true) := h2; have g3 : n = l.length := h3; have g4 : xs = fl l := h4; have g5 : l.length ≤ 2 * i := h5; show Aw _ _ _ _ (z5p sz p v m i d n xs); unfold z5p; by_cases hlt : i < m.length
   · obtain ⟨c, hc⟩ : ∃ c, m[i]? = some c := ⟨_, List.getElem?_eq_getElem hlt⟩; have hx := SpL.zpo hc; have hf := zpt (zcv p v) ([], true) m i c hc; rw [← g2] at hf; by_cases a1 : d = false ∧ p < c.1
     · obtain ⟨rfl, a1⟩ := a1; rw [show zcv p v (l, false) c = (l ++ [(p, v), c], true) by unfold zcv; rw [if_pos ⟨rfl, a1⟩]] at hf
       repeat (first | (refine zai rfl ?_; first | refine zaj ?_ | refine gdr (zbg rfl rfl rfl rfl rfl rfl rfl rfl rfl rfl rfl rfl rfl (by omega)) ?_) | (refine hK _ ?_; clear hK K) | refine zac rfl ?_ | refine zaf rfl rfl ?_ | refine zag ?_ | refine zak ?_ | refine zab (fun K hK => ?_))
       exact ⟨(i + 1, l ++ [(p, v), c], true, n + 1 + 1, xs ++ [.int .u64 p, .int .u64 v] ++ [.int .u64 c.1, .int .u64 c.2]), ⟨by show i + 1 ≤ m.length; omega, hf.symm, by show n + 1 + 1 = (l ++ [(p, v), c]).length; simp [g3], by show _ = fl (l ++ [(p, v), c]); rw [g4, zdx, List.append_assoc]; rfl, by show (l ++ [(p, v), c]).length ≤ 2 * (i + 1); simp; omega⟩, by show m.length - (i + 1) < m.length - i; omega, Sub.trans (zaw [(1, .m (iu p)), (2, .m (iu v)), (3, .m (.c (.p 3 0))), (6, .m (.c (.p 6 0))), (7, .m (.c (.o 52))), (8, .m (ib true)), (9, .m (ii ((i + 1 : Nat) : Int)))] [(3, .live (.box [cu sz, .s m.length 2 (fl m)])), (6, .live (.box [cu 0, .v (.slice none 0 0)])), (52, .live (.row 204 2 (n + 1 + 1) (xs ++ [.int .u64 p, .int .u64 v] ++ [.int .u64 c.1, .int .u64 c.2])))] ⟨rfl, rfl, rfl, rfl, rfl, rfl, rfl, trivial⟩ ⟨rfl, rfl, rfl, trivial⟩ rfl) (Sub.trans (zd1 (b := 52) (b' := 1000) rfl rfl) (zaw _ _ ⟨rfl, rfl, rfl, rfl, rfl, rfl, rfl, trivial⟩ ⟨rfl, rfl, rfl, trivial⟩ rfl))⟩
     · by_cases a2 : c.1 = p
       · rw [show zcv p v (l, d) c = (l, d) by unfold zcv; rw [if_neg a1, if_pos a2]] at hf
         have hd : d = true ∨ ¬ p < c.1 := by cases d <;> simp_all
         cases d
         · skip
           repeat (first | (refine zai rfl ?_; first | refine zaj ?_) | (refine hK _ ?_; clear hK K) | refine zac rfl ?_ | refine zaf rfl rfl ?_ | refine zae rfl rfl ?_ | refine zag ?_ | refine zak ?_ | refine zab (fun K hK => ?_))
           exact ⟨(i + 1, l, false, n, xs), ⟨by show i + 1 ≤ m.length; omega, hf.symm, g3, g4, by show l.length ≤ 2 * (i + 1); omega⟩, by show m.length - (i + 1) < m.length - i; omega, zaw _ _ ⟨rfl, rfl, rfl, rfl, rfl, rfl, rfl, trivial⟩ ⟨rfl, rfl, rfl, trivial⟩ (by kernel_rfl)⟩
         · skip
           repeat (first | (refine zai rfl ?_; first | refine zaj ?_) | (refine hK _ ?_; clear hK K) | refine zac rfl ?_ | refine zaf rfl rfl ?_ | refine zae rfl rfl ?_ | refine zag ?_ | refine zak ?_ | refine zab (fun K hK => ?_))
           exact ⟨(i + 1, l, true, n, xs), ⟨by show i + 1 ≤ m.length; omega, hf.symm, g3, g4, by show l.length ≤ 2 * (i + 1); omega⟩, by show m.length - (i + 1) < m.length - i; omega, zaw _ _ ⟨rfl, rfl, rfl, rfl, rfl, rfl, rfl, trivial⟩ ⟨rfl, rfl, rfl, trivial⟩ (by kernel_rfl)⟩
       · rw [show zcv p v (l, d) c = (l ++ [c], d) by unfold zcv; rw [if_neg a1, if_neg a2]] at hf
         cases d
         · have hd : ¬ p < c.1 := fun h => a1 ⟨rfl, h⟩
           repeat (first | (refine zai rfl ?_; first | refine zaj ?_ | refine gdr (zbg rfl rfl rfl rfl rfl rfl rfl rfl rfl rfl rfl rfl rfl (by omega)) ?_) | (refine hK _ ?_; clear hK K) | refine zac rfl ?_ | refine zaf rfl rfl ?_ | refine zae rfl rfl ?_ | refine zag ?_ | refine zak ?_ | refine zab (fun K hK => ?_))
           exact ⟨(i + 1, l ++ [c], false, n + 1, xs ++ [.int .u64 c.1, .int .u64 c.2]), ⟨by show i + 1 ≤ m.length; omega, hf.symm, by show n + 1 = (l ++ [c]).length; simp [g3], by show _ = fl (l ++ [c]); rw [g4, zga], by show (l ++ [c]).length ≤ 2 * (i + 1); simp; omega⟩, by show m.length - (i + 1) < m.length - i; omega, Sub.trans (zaw [(1, .m (iu p)), (2, .m (iu v)), (3, .m (.c (.p 3 0))), (6, .m (.c (.p 6 0))), (7, .m (.c (.o 52))), (8, .m (ib false)), (9, .m (ii ((i + 1 : Nat) : Int)))] [(3, .live (.box [cu sz, .s m.length 2 (fl m)])), (6, .live (.box [cu 0, .v (.slice none 0 0)])), (52, .live (.row 204 2 (n + 1) (xs ++ [.int .u64 c.1, .int .u64 c.2])))] ⟨rfl, rfl, rfl, rfl, rfl, rfl, rfl, trivial⟩ ⟨rfl, rfl, rfl, trivial⟩ rfl) (Sub.trans (zd1 (b := 52) (b' := 1000) rfl rfl) (zaw _ _ ⟨rfl, rfl, rfl, rfl, rfl, rfl, rfl, trivial⟩ ⟨rfl, rfl, rfl, trivial⟩ rfl))⟩
         · skip
           repeat (first | (refine zai rfl ?_; first | refine zaj ?_ | refine gdr (zbg rfl rfl rfl rfl rfl rfl rfl rfl rfl rfl rfl rfl rfl (by omega)) ?_) | (refine hK _ ?_; clear hK K) | refine zac rfl ?_ | refine zaf rfl rfl ?_ | refine zae rfl rfl ?_ | refine zag ?_ | refine zak ?_ | refine zab (fun K hK => ?_))
           exact ⟨(i + 1, l ++ [c], true, n + 1, xs ++ [.int .u64 c.1, .int .u64 c.2]), ⟨by show i + 1 ≤ m.length; omega, hf.symm, by show n + 1 = (l ++ [c]).length; simp [g3], by show _ = fl (l ++ [c]); rw [g4, zga], by show (l ++ [c]).length ≤ 2 * (i + 1); simp; omega⟩, by show m.length - (i + 1) < m.length - i; omega, Sub.trans (zaw [(1, .m (iu p)), (2, .m (iu v)), (3, .m (.c (.p 3 0))), (6, .m (.c (.p 6 0))), (7, .m (.c (.o 52))), (8, .m (ib true)), (9, .m (ii ((i + 1 : Nat) : Int)))] [(3, .live (.box [cu sz, .s m.length 2 (fl m)])), (6, .live (.box [cu 0, .v (.slice none 0 0)])), (52, .live (.row 204 2 (n + 1) (xs ++ [.int .u64 c.1, .int .u64 c.2])))] ⟨rfl, rfl, rfl, rfl, rfl, rfl, rfl, trivial⟩ ⟨rfl, rfl, rfl, trivial⟩ rfl) (Sub.trans (zd1 (b := 52) (b' := 1000) rfl rfl) (zaw _ _ ⟨rfl, rfl, rfl, rfl, rfl, rfl, rfl, trivial⟩ ⟨rfl, rfl, rfl, trivial⟩ rfl))⟩
   · have hi : i = m.length := by omega
     rw [hi, List.take_length] at g2; rw [← g2] at hput; cases d
     · have e : zb3 m p v = l ++ [(p, v)] := hput.symm; obtain rfl : N = n + 1 := by rw [hN, e, g3]; simp
       obtain rfl : XS = xs ++ [.int .u64 p, .int .u64 v] := by rw [hXS, e, g4, zga]
       repeat (first | (refine zai rfl ?_; first | refine zaj ?_ | refine gdr (zbg rfl rfl rfl rfl rfl rfl rfl rfl rfl rfl rfl rfl rfl (by omega)) ?_) | (refine hK _ ?_; clear hK K) | (rename_i K1 hK1; refine hK1 _ ?_; clear hK hK1; clear K) | refine zac rfl ?_ | exact zah (show zat _ _ _ = some _ by kernel_rfl) | refine zaf rfl rfl ?_ | refine zae rfl rfl ?_ | refine zar ?_ | refine zab (fun K hK => ?_))
     · have e : zb3 m p v = l := hput.symm; obtain rfl : N = n := by rw [hN, e, g3]
       obtain rfl : XS = xs := by rw [hXS, e, g4]
       repeat (first | (refine zai rfl ?_; first | refine zaj ?_) | (refine hK _ ?_; clear hK K) | (rename_i K1 hK1; refine hK1 _ ?_; clear hK hK1; clear K) | refine zac rfl ?_ | exact zah (show zat _ _ _ = some _ by kernel_rfl) | refine zae rfl rfl ?_ | refine zar ?_ | refine zak ?_ | refine zab (fun K hK => ?_))
 · refine zad 64 Tryz.func67 rfl rfl rfl rfl ?_ GG.to; intro W A hG
   repeat (first | (refine zai rfl ?_; first | refine zaj ?_) | (refine hK _ ?_; clear hK K) | refine zac rfl ?_ | refine zag ?_ | refine zab (fun K hK => ?_))
   refine za1 (α := Nat × List (Int × Int) × Bool × Nat × List Value) (fun q => q.1 ≤ m.length ∧ (q.2.1, q.2.2.1) = (m.take q.1).foldl (zcv p v) ([], false) ∧ q.2.2.2.1 = q.2.1.length ∧ q.2.2.2.2 = fl q.2.1 ∧ q.2.1.length ≤ 2 * q.1) (fun q => z5p sz p v m q.1 q.2.2.1 q.2.2.2.1 q.2.2.2.2) (fun q => m.length - q.1) (0, [], false, 0, []) ⟨Nat.zero_le _, rfl, rfl, rfl, Nat.le_refl _⟩ (Sub.trans (zg7 7 1000 204 2 rfl rfl) (zaw _ _ ⟨rfl, rfl, rfl, rfl, rfl, rfl, rfl, trivial⟩ ⟨rfl, rfl, rfl, trivial⟩ (by kernel_rfl))) ?_; rintro ⟨i, l, d, n, xs⟩ ⟨h1, h2, h3, h4, h5⟩; have g1 : i ≤ m.length := h1; have g2 : (l, d) = (m.take i).foldl (zcv p v) ([], false) := h2; have g3 : n = l.length := h3; have g4 : xs = fl l := h4; have g5 : l.length ≤ 2 * i := h5; show Aw _ _ _ _ (z5p sz p v m i d n xs); unfold z5p; by_cases hlt : i < m.length
   · obtain ⟨c, hc⟩ : ∃ c, m[i]? = some c := ⟨_, List.getElem?_eq_getElem hlt⟩; have hx := SpL.zpo hc; have hf := zpt (zcv p v) ([], false) m i c hc; rw [← g2] at hf; by_cases a1 : d = false ∧ p < c.1
     · obtain ⟨rfl, a1⟩ := a1; rw [show zcv p v (l, false) c = (l ++ [(p, v), c], true) by unfold zcv; rw [if_pos ⟨rfl, a1⟩]] at hf
       repeat (first | (refine zai rfl ?_; first | refine zaj ?_ | refine gdr (zbg rfl rfl rfl rfl rfl rfl rfl rfl rfl rfl rfl rfl rfl (by omega)) ?_) | (refine hK _ ?_; clear hK K) | refine zac rfl ?_ | refine zaf rfl rfl ?_ | refine zag ?_ | refine zak ?_ | refine zab (fun K hK => ?_))
       exact ⟨(i + 1, l ++ [(p, v), c], true, n + 1 + 1, xs ++ [.int .u64 p, .int .u64 v] ++ [.int .u64 c.1, .int .u64 c.2]), ⟨by show i + 1 ≤ m.length; omega, hf.symm, by show n + 1 + 1 = (l ++ [(p, v), c]).length; simp [g3], by show _ = fl (l ++ [(p, v), c]); rw [g4, zdx, List.append_assoc]; rfl, by show (l ++ [(p, v), c]).length ≤ 2 * (i + 1); simp; omega⟩, by show m.length - (i + 1) < m.length - i; omega, Sub.trans (zaw [(1, .m (iu p)), (2, .m (iu v)), (3, .m (.c (.p 3 0))), (6, .m (.c (.p 6 0))), (7, .m (.c (.o 52))), (8, .m (ib true)), (9, .m (ii ((i + 1 : Nat) : Int)))] [(3, .live (.box [cu sz, .s m.length 2 (fl m)])), (6, .live (.box [cu 0, .v (.slice none 0 0)])), (52, .live (.row 204 2 (n + 1 + 1) (xs ++ [.int .u64 p, .int .u64 v] ++ [.int .u64 c.1, .int .u64 c.2])))] ⟨rfl, rfl, rfl, rfl, rfl, rfl, rfl, trivial⟩ ⟨rfl, rfl, rfl, trivial⟩ rfl) (Sub.trans (zd1 (b := 52) (b' := 1000) rfl rfl) (zaw _ _ ⟨rfl, rfl, rfl, rfl, rfl, rfl, rfl, trivial⟩ ⟨rfl, rfl, rfl, trivial⟩ rfl))⟩
     · by_cases a2 : c.1 = p
       · rw [show zcv p v (l, d) c = (l, d) by unfold zcv; rw [if_neg a1, if_pos a2]] at hf
         have hd : d = true ∨ ¬ p < c.1 := by cases d <;> simp_all
         cases d
         · skip
           repeat (first | (refine zai rfl ?_; first | refine zaj ?_) | (refine hK _ ?_; clear hK K) | refine zac rfl ?_ | refine zaf rfl rfl ?_ | refine zae rfl rfl ?_ | refine zag ?_ | refine zak ?_ | refine zab (fun K hK => ?_))
           exact ⟨(i + 1, l, false, n, xs), ⟨by show i + 1 ≤ m.length; omega, hf.symm, g3, g4, by show l.length ≤ 2 * (i + 1); omega⟩, by show m.length - (i + 1) < m.length - i; omega, zaw _ _ ⟨rfl, rfl, rfl, rfl, rfl, rfl, rfl, trivial⟩ ⟨rfl, rfl, rfl, trivial⟩ (by kernel_rfl)⟩
         · skip
           repeat (first | (refine zai rfl ?_; first | refine zaj ?_) | (refine hK _ ?_; clear hK K) | refine zac rfl ?_ | refine zaf rfl rfl ?_ | refine zae rfl rfl ?_ | refine zag ?_ | refine zak ?_ | refine zab (fun K hK => ?_))
           exact ⟨(i + 1, l, true, n, xs), ⟨by show i + 1 ≤ m.length; omega, hf.symm, g3, g4, by show l.length ≤ 2 * (i + 1); omega⟩, by show m.length - (i + 1) < m.length - i; omega, zaw _ _ ⟨rfl, rfl, rfl, rfl, rfl, rfl, rfl, trivial⟩ ⟨rfl, rfl, rfl, trivial⟩ (by kernel_rfl)⟩
       · rw [show zcv p v (l, d) c = (l ++ [c], d) by unfold zcv; rw [if_neg a1, if_neg a2]] at hf
         cases d
         · have hd : ¬ p < c.1 := fun h => a1 ⟨rfl, h⟩
           repeat (first | (refine zai rfl ?_; first | refine zaj ?_ | refine gdr (zbg rfl rfl rfl rfl rfl rfl rfl rfl rfl rfl rfl rfl rfl (by omega)) ?_) | (refine hK _ ?_; clear hK K) | refine zac rfl ?_ | refine zaf rfl rfl ?_ | refine zae rfl rfl ?_ | refine zag ?_ | refine zak ?_ | refine zab (fun K hK => ?_))
           exact ⟨(i + 1, l ++ [c], false, n + 1, xs ++ [.int .u64 c.1, .int .u64 c.2]), ⟨by show i + 1 ≤ m.length; omega, hf.symm, by show n + 1 = (l ++ [c]).length; simp [g3], by show _ = fl (l ++ [c]); rw [g4, zga], by show (l ++ [c]).length ≤ 2 * (i + 1); simp; omega⟩, by show m.length - (i + 1) < m.length - i; omega, Sub.trans (zaw [(1, .m (iu p)), (2, .m (iu v)), (3, .m (.c (.p 3 0))), (6, .m (.c (.p 6 0))), (7, .m (.c (.o 52))), (8, .m (ib false)), (9, .m (ii ((i + 1 : Nat) : Int)))] [(3, .live (.box [cu sz, .s m.length 2 (fl m)])), (6, .live (.box [cu 0, .v (.slice none 0 0)])), (52, .live (.row 204 2 (n + 1) (xs ++ [.int .u64 c.1, .int .u64 c.2])))] ⟨rfl, rfl, rfl, rfl, rfl, rfl, rfl, trivial⟩ ⟨rfl, rfl, rfl, trivial⟩ rfl) (Sub.trans (zd1 (b := 52) (b' := 1000) rfl rfl) (zaw _ _ ⟨rfl, rfl, rfl, rfl, rfl, rfl, rfl, trivial⟩ ⟨rfl, rfl, rfl, trivial⟩ rfl))⟩
         · skip
           repeat (first | (refine zai rfl ?_; first | refine zaj ?_ | refine gdr (zbg rfl rfl rfl rfl rfl rfl rfl rfl rfl rfl rfl rfl rfl (by omega)) ?_) | (refine hK _ ?_; clear hK K) | refine zac rfl ?_ | refine zaf rfl rfl ?_ | refine zae rfl rfl ?_ | refine zag ?_ | refine zak ?_ | refine zab (fun K hK => ?_))
           exact ⟨(i + 1, l ++ [c], true, n + 1, xs ++ [.int .u64 c.1, .int .u64 c.2]), ⟨by show i + 1 ≤ m.length; omega, hf.symm, by show n + 1 = (l ++ [c]).length; simp [g3], by show _ = fl (l ++ [c]); rw [g4, zga], by show (l ++ [c]).length ≤ 2 * (i + 1); simp; omega⟩, by show m.length - (i + 1) < m.length - i; omega, Sub.trans (zaw [(1, .m (iu p)), (2, .m (iu v)), (3, .m (.c (.p 3 0))), (6, .m (.c (.p 6 0))), (7, .m (.c (.o 52))), (8, .m (ib true)), (9, .m (ii ((i + 1 : Nat) : Int)))] [(3, .live (.box [cu sz, .s m.length 2 (fl m)])), (6, .live (.box [cu 0, .v (.slice none 0 0)])), (52, .live (.row 204 2 (n + 1) (xs ++ [.int .u64 c.1, .int .u64 c.2])))] ⟨rfl, rfl, rfl, rfl, rfl, rfl, rfl, trivial⟩ ⟨rfl, rfl, rfl, trivial⟩ rfl) (Sub.trans (zd1 (b := 52) (b' := 1000) rfl rfl) (zaw _ _ ⟨rfl, rfl, rfl, rfl, rfl, rfl, rfl, trivial⟩ ⟨rfl, rfl, rfl, trivial⟩ rfl))⟩
   · have hi : i = m.length := by omega
     rw [hi, List.take_length] at g2; rw [← g2] at hput; cases d
     · have e : zb3 m p v = l ++ [(p, v)] := hput.symm; obtain rfl : N = n + 1 := by rw [hN, e, g3]; simp
       obtain rfl : XS = xs ++ [.int .u64 p, .int .u64 v] := by rw [hXS, e, g4, zga]
       repeat (first | (refine zai rfl ?_; first | refine zaj ?_ | refine gdr (zbg rfl rfl rfl rfl rfl rfl rfl rfl rfl rfl rfl rfl rfl (by omega)) ?_) | (refine hK _ ?_; clear hK K) | (rename_i K1 hK1; refine hK1 _ ?_; clear hK hK1; clear K) | refine zac rfl ?_ | exact zah (show zat _ _ _ = some _ by kernel_rfl) | refine zaf rfl rfl ?_ | refine zae rfl rfl ?_ | refine zar ?_ | refine zab (fun K hK => ?_))
     · have e : zb3 m p v = l := hput.symm; obtain rfl : N = n := by rw [hN, e, g3]
       obtain rfl : XS = xs := by rw [hXS, e, g4]
       repeat (first | (refine zai rfl ?_; first | refine zaj ?_) | (refine hK _ ?_; clear hK K) | (rename_i K1 hK1; refine hK1 _ ?_; clear hK hK1; clear K) | refine zac rfl ?_ | exact zah (show zat _ _ _ = some _ by kernel_rfl) | refine zae rfl rfl ?_ | refine zar ?_ | refine zak ?_ | refine zab (fun K hK => ?_))
def z8m (sz p v : Int) (m : List (Int × Int)) (i : Nat) (n : Nat) (xs : List Value) : St := St.of [(1, .m (iu p)), (2, .m (iu v)), (3, .m (.c (.p 3 0))), (6, .m (.c (.p 6 0))), (7, .m (.c (.o 1000))), (8, .m (ii i))] [(3, .live (.box [cu sz, .s m.length 2 (fl m)])), (6, .live (.box [cu 0, .v (.slice none 0 0)])), (1000, .live (.row 204 2 n xs))]
theorem zxx (sz : Int) (m : List (Int × Int)) (f : Int) (hs : Srt m) (hl : m.length ≤ 1000000) (hf0 : 0 ≤ f ∧ f < 268436480) (hb : ∀ c ∈ m, 0 ≤ c.1 ∧ c.1 < 1099511627776) : Ok 164 [zbm sz m, iu (4096 * f), iu 4096] (.m (zbm sz (TableC.za6 m f))) := by
 have hput := zh0 f m hs; obtain ⟨N, hN⟩ : ∃ N, N = (TableC.za6 m f).length := ⟨_, rfl⟩; obtain ⟨XS, hXS⟩ : ∃ XS, XS = fl (TableC.za6 m f) := ⟨_, rfl⟩; rw [zxv (sz := sz) hN hXS]; obtain ⟨p, hp⟩ : ∃ p, p = 4096 * f := ⟨_, rfl⟩; obtain ⟨v, hv⟩ : ∃ v : Int, v = 4096 := ⟨_, rfl⟩; rw [← hp]; rw [show iu (4096 : Int) = iu v by rw [hv]]; refine zad 49 Tryz.func164 rfl rfl rfl rfl ?_ GG.to; intro W A hG
 repeat (first | (refine zai rfl ?_; first | refine zaj ?_) | (refine hK _ ?_; clear hK K) | refine zac rfl ?_ | refine zag ?_ | refine zab (fun K hK => ?_))
 refine za1 (α := Nat × List (Int × Int) × Nat × List Value) (fun q => q.1 ≤ m.length ∧ q.2.1 = (m.take q.1).filter (zlf (f * 512) (f * 512 + 512)) ∧ q.2.2.1 = q.2.1.length ∧ q.2.2.2 = fl q.2.1) (fun q => z8m sz p v m q.1 q.2.2.1 q.2.2.2) (fun q => m.length - q.1) (0, [], 0, []) ⟨Nat.zero_le _, rfl, rfl, rfl⟩ (Sub.trans (zg7 7 1000 204 2 rfl rfl) (zaw _ _ ⟨rfl, rfl, rfl, rfl, rfl, rfl, trivial⟩ ⟨rfl, rfl, rfl, trivial⟩ (by kernel_rfl))) ?_; rintro ⟨i, l, n, xs⟩ ⟨h1, h2, h3, h4⟩; have g1 : i ≤ m.length := h1; have g2 : l = (m.take i).filter (zlf (f * 512) (f * 512 + 512)) := h2; have g3 : n = l.length := h3; have g4 : xs = fl l := h4; have g5 : l.length ≤ m.length := by rw [g2]; exact Nat.le_trans (List.length_filter_le _ _) (by rw [List.length_take]; omega)
 show Aw _ _ _ _ (z8m sz p v m i n xs); unfold z8m; by_cases hlt : i < m.length
 · obtain ⟨c, hc⟩ : ∃ c, m[i]? = some c := ⟨_, List.getElem?_eq_getElem hlt⟩; have hx := SpL.zpo hc; have hcb := hb c (List.mem_of_getElem? hc); have hf := zxw (zlf (f * 512) (f * 512 + 512)) m i c hc; rw [← g2] at hf; by_cases a1 : c.1 < f * 512
   · rw [show [c].filter (zlf (f * 512) (f * 512 + 512)) = [c] from List.filter_eq_self.2 (fun x hx => by simp at hx; subst hx; simp [zlf, a1])] at hf
     repeat (first | (refine zai rfl ?_; first | refine zaj ?_ | refine gdr (zbg rfl rfl rfl rfl rfl rfl rfl rfl rfl rfl rfl rfl rfl (by omega)) ?_) | (refine hK _ ?_; clear hK K) | refine zac rfl ?_ | refine zaf rfl rfl ?_ | refine zag ?_ | refine zak ?_ | refine zab (fun K hK => ?_))
     exact ⟨(i + 1, l ++ [c], n + 1, xs ++ [.int .u64 c.1, .int .u64 c.2]), ⟨by show i + 1 ≤ m.length; omega, hf.symm, by show n + 1 = (l ++ [c]).length; simp [g3], by show _ = fl (l ++ [c]); rw [g4, zga]⟩, by show m.length - (i + 1) < m.length - i; omega, Sub.trans (zaw [(1, .m (iu p)), (2, .m (iu v)), (3, .m (.c (.p 3 0))), (6, .m (.c (.p 6 0))), (7, .m (.c (.o 45))), (8, .m (ii ((i + 1 : Nat) : Int)))] [(3, .live (.box [cu sz, .s m.length 2 (fl m)])), (6, .live (.box [cu 0, .v (.slice none 0 0)])), (45, .live (.row 204 2 (n + 1) (xs ++ [.int .u64 c.1, .int .u64 c.2])))] ⟨rfl, rfl, rfl, rfl, rfl, rfl, trivial⟩ ⟨rfl, rfl, rfl, trivial⟩ rfl) (Sub.trans (zd1 (b := 45) (b' := 1000) rfl rfl) (zaw _ _ ⟨rfl, rfl, rfl, rfl, rfl, rfl, trivial⟩ ⟨rfl, rfl, rfl, trivial⟩ rfl))⟩
   · by_cases a2 : f * 512 + 512 ≤ c.1
     · rw [show [c].filter (zlf (f * 512) (f * 512 + 512)) = [c] from List.filter_eq_self.2 (fun x hx => by simp at hx; subst hx; simp [zlf, a2])] at hf
       repeat (first | (refine zai rfl ?_; first | refine zaj ?_ | refine gdr (zbg rfl rfl rfl rfl rfl rfl rfl rfl rfl rfl rfl rfl rfl (by omega)) ?_) | (refine hK _ ?_; clear hK K) | refine zac rfl ?_ | refine zaf rfl rfl ?_ | refine zag ?_ | refine zak ?_ | refine zab (fun K hK => ?_))
       exact ⟨(i + 1, l ++ [c], n + 1, xs ++ [.int .u64 c.1, .int .u64 c.2]), ⟨by show i + 1 ≤ m.length; omega, hf.symm, by show n + 1 = (l ++ [c]).length; simp [g3], by show _ = fl (l ++ [c]); rw [g4, zga]⟩, by show m.length - (i + 1) < m.length - i; omega, Sub.trans (zaw [(1, .m (iu p)), (2, .m (iu v)), (3, .m (.c (.p 3 0))), (6, .m (.c (.p 6 0))), (7, .m (.c (.o 45))), (8, .m (ii ((i + 1 : Nat) : Int)))] [(3, .live (.box [cu sz, .s m.length 2 (fl m)])), (6, .live (.box [cu 0, .v (.slice none 0 0)])), (45, .live (.row 204 2 (n + 1) (xs ++ [.int .u64 c.1, .int .u64 c.2])))] ⟨rfl, rfl, rfl, rfl, rfl, rfl, trivial⟩ ⟨rfl, rfl, rfl, trivial⟩ rfl) (Sub.trans (zd1 (b := 45) (b' := 1000) rfl rfl) (zaw _ _ ⟨rfl, rfl, rfl, rfl, rfl, rfl, trivial⟩ ⟨rfl, rfl, rfl, trivial⟩ rfl))⟩
     · rw [show [c].filter (zlf (f * 512) (f * 512 + 512)) = [] from List.filter_eq_nil_iff.2 (fun x hx => by simp at hx; subst hx; simp [zlf]; omega), List.append_nil] at hf
       repeat (first | (refine zai rfl ?_; first | refine zaj ?_) | (refine hK _ ?_; clear hK K) | refine zac rfl ?_ | refine zaf rfl rfl ?_ | refine zae rfl rfl ?_ | refine zag ?_ | refine zak ?_ | refine zab (fun K hK => ?_))
       exact ⟨(i + 1, l, n, xs), ⟨by show i + 1 ≤ m.length; omega, hf.symm, g3, g4⟩, by show m.length - (i + 1) < m.length - i; omega, zaw _ _ ⟨rfl, rfl, rfl, rfl, rfl, rfl, trivial⟩ ⟨rfl, rfl, rfl, trivial⟩ (by kernel_rfl)⟩
 · have hi : i = m.length := by omega
   rw [hi, List.take_length] at g2; rw [← g2] at hput; obtain rfl : N = n := by rw [hN, hput, g3]
   obtain rfl : XS = xs := by rw [hXS, hput, g4]
   repeat (first | (refine zai rfl ?_; first | refine zaj ?_) | (refine hK _ ?_; clear hK K) | (rename_i K1 hK1; refine hK1 _ ?_; clear hK hK1; clear K) | refine zac rfl ?_ | exact zah (show zat _ _ _ = some _ by kernel_rfl) | refine zae rfl rfl ?_ | refine zar ?_ | refine zab (fun K hK => ?_))
end RfB
namespace PteR
open Go.RowKit Bv VaSpec Base PteSpec PteC
theorem zky (v r w x u g a d : Bool) (rsw ppn high : Int) (W : World) :
 Calls Tryz.prog 153 #[.agg #[.bool v, .bool r, .bool w, .bool x, .bool u, .bool g, .bool a, .bool d, .int .u64 rsw, .int .u64 ppn, .int .u64 high]] W fun e w' => e = .returned (.bool (zas ⟨v, r, w, x, u, g, a, d, rsw, ppn, high⟩)) ∧ Below W.heap.size W w' := by
 go_enter Tryz.func153, Tryz.ntmps153
 go_wp2
 all_goals
  go_ret
  refine ⟨congrArg (fun z => Ending.returned (.bool z)) (by simp [zas, *]), (by repeat (first | (with_reducible exact Below.refl _ _) | (with_reducible apply zbi) | (with_reducible apply zap) | (with_reducible apply zav; rotate_left; with_reducible assumption) | (with_reducible refine zan _ _ _ (by first | omega | (simp; done) | (simp; omega) | (simp at *; omega)) ?_)))⟩
theorem zpu (v r w x u g a d : Bool) (rsw ppn high : Int) : (v && !zas ⟨v, r, w, x, u, g, a, d, rsw, ppn, high⟩) = zbf ⟨v, r, w, x, u, g, a, d, rsw, ppn, high⟩ := by
 cases v <;> cases r <;> cases x <;> rfl
theorem zrw (v r w x u g a d : Bool) (rsw ppn high : Int) (W : World) :
 Calls Tryz.prog 134 #[.agg #[.bool v, .bool r, .bool w, .bool x, .bool u, .bool g, .bool a, .bool d, .int .u64 rsw, .int .u64 ppn, .int .u64 high]] W fun e w' => e = .returned (.bool (zbf ⟨v, r, w, x, u, g, a, d, rsw, ppn, high⟩)) ∧ Below W.heap.size W w' := by
 have H := Lib.hid (zpu v r w x u g a d rsw ppn high)
 go_enter Tryz.func134, Tryz.ntmps134
 go_wp2_with (go_at_call 153; (with_reducible refine (zky _ _ _ _ _ _ _ _ _ _ _ _).mono ?_); rintro e w1 ⟨rfl, hb⟩)
 all_goals
  go_ret
  refine ⟨congrArg (fun z => Ending.returned (.bool z)) (by rw [← H.out]; simp [*]), (by repeat (first | (with_reducible exact Below.refl _ _) | (with_reducible apply zbi) | (with_reducible apply zap) | (with_reducible apply zav; rotate_left; with_reducible assumption) | (with_reducible refine zan _ _ _ (by first | omega | (simp; done) | (simp; omega) | (simp at *; omega)) ?_)))⟩
theorem zrx (v r w x u g a d : Bool) (rsw ppn high : Int) (W : World) :
 Calls Tryz.prog 39 #[.agg #[.bool v, .bool r, .bool w, .bool x, .bool u, .bool g, .bool a, .bool d, .int .u64 rsw, .int .u64 ppn, .int .u64 high]] W fun e w' => e = .returned (.agg #[.bool r, .bool w, .bool x, .bool u]) ∧ Below W.heap.size W w' := by
 go_enter Tryz.func39, Tryz.ntmps39
 go_wp2
 exact bodyPost_ret (v := .agg #[.bool r, .bool w, .bool x, .bool u]) (by simp [results, Tryz.results39, go_sem]) rfl ⟨rfl, (by repeat (first | (with_reducible exact Below.refl _ _) | (with_reducible apply zbi) | (with_reducible apply zap) | (with_reducible apply zav; rotate_left; with_reducible assumption) | (with_reducible refine zan _ _ _ (by first | omega | (simp; done) | (simp; omega) | (simp at *; omega)) ?_)))⟩
set_option maxHeartbeats 800000 in
theorem zu2 (v r w x u g a d : Bool) (rsw ppn high : Int) (l : Int) (W : World) (h1 : U rsw) (h2 : U ppn) (h3 : U high) (l0 : 0 ≤ l) (l2 : l ≤ 2) :
 Calls Tryz.prog 133 #[.agg #[.bool v, .bool r, .bool w, .bool x, .bool u, .bool g, .bool a, .bool d, .int .u64 rsw, .int .u64 ppn, .int .u64 high], .int .i64 l] W fun e w' => e = .returned (.bool (zco ⟨v, r, w, x, u, g, a, d, rsw, ppn, high⟩ l)) ∧ Below W.heap.size W w' := by
 rcases lev l0 l2 with rfl | rfl | rfl
 all_goals
  go_enter Tryz.func133, Tryz.ntmps133
  go_wp2
  all_goals
   go_ret
   refine ⟨congrArg (fun z => Ending.returned (.bool z)) ?_, (by repeat (first | (with_reducible exact Below.refl _ _) | (with_reducible apply zbi) | (with_reducible apply zap) | (with_reducible apply zav; rotate_left; with_reducible assumption) | (with_reducible refine zan _ _ _ (by first | omega | (simp; done) | (simp; omega) | (simp at *; omega)) ?_)))⟩
   first
    | (simp [zco, zbf, sz, *]; done)
    | (simp [zco, zbf, sz, *]; omega)
    | (simp_all [zco, zbf, sz]; done)
    | (simp_all [zco, zbf, sz]; omega)
    | (rw [Bool.eq_iff_iff]; simp_all [zco, zbf, sz]; omega)
set_option maxHeartbeats 800000 in
theorem zu3 (x : Int) (W : World) (hx : U x) :
 Calls Tryz.prog 129 #[.int .u64 x] W fun e w' => e = .returned (.agg #[.bool (zay x).v, .bool (zay x).r, .bool (zay x).w, .bool (zay x).x, .bool (zay x).u, .bool (zay x).g, .bool (zay x).a, .bool (zay x).d, .int .u64 (zay x).rsw, .int .u64 (zay x).ppn, .int .u64 (zay x).high]) ∧ Below W.heap.size W w' := by
 obtain ⟨x0, x1⟩ := hx; obtain ⟨y, hy⟩ := zm8 x0 x1
 have Hb : ∀ i : Nat, i ≤ 7 → Hid (RefS.bt y i = zez x i) := fun i hi => Lib.hid (by
  unfold RefS.bt zez; rw [hy]; unfold B; rw [BitVec.getLsbD, Nat.testBit, Nat.shiftRight_eq_div_pow, Nat.and_comm, Nat.and_one_is_mod, Int.toNat_natCast]
  rw [show ((y.toNat : Int) / 2 ^ i % 2 == 1) = ((y.toNat / 2 ^ i % 2 : Nat) == 1) by
   rw [Bool.eq_iff_iff, beq_iff_eq, beq_iff_eq]; norm_cast]
  rcases Nat.mod_two_eq_zero_or_one (y.toNat / 2 ^ i) with h | h <;> rw [h] <;> rfl)
 have HY := Lib.hid hy; clear hy
 go_enter Tryz.func129, Tryz.ntmps129
 go_wp2_with (go_at_call 72; rw [HY.out]; (with_reducible refine (RefS.ztb _ _ _ (by omega) (by omega)).mono ?_); rw [← HY.out]; rintro e w' ⟨rfl, rfl⟩)
 have hb : ∀ i : Nat, i ≤ 7 → RefS.bt y i = zez x i := fun i hi => (Hb i hi).out; rw [hb 0 (by omega), hb 1 (by omega), hb 2 (by omega), hb 3 (by omega), hb 4 (by omega), hb 5 (by omega), hb 6 (by omega), hb 7 (by omega)]; refine bodyPost_ret (v := .agg #[.bool (zay x).v, .bool (zay x).r, .bool (zay x).w, .bool (zay x).x, .bool (zay x).u, .bool (zay x).g, .bool (zay x).a, .bool (zay x).d, .int .u64 (zay x).rsw, .int .u64 (zay x).ppn, .int .u64 (zay x).high]) ?_ rfl ?_
 · simp [results, Tryz.results129, go_sem, zay]
 · exact ⟨rfl, (by repeat (first | (with_reducible exact Below.refl _ _) | (with_reducible apply zbi) | (with_reducible apply zap) | (with_reducible apply zav; rotate_left; with_reducible assumption) | (with_reducible refine zan _ _ _ (by first | omega | (simp; done) | (simp; omega) | (simp at *; omega)) ?_)))⟩
def f8 (v r w x u g a d : Bool) : Nat → Bool
 | 0 => v
 | 1 => r
 | 2 => w
 | 3 => x
 | 4 => u
 | 5 => g
 | 6 => a
 | _ => d
theorem row_low8 (v r w x u g a d : Bool) (rsw ppn high : Int) : zrd (f8 v r w x u g a d) 8 = zrb ⟨v, r, w, x, u, g, a, d, rsw, ppn, high⟩ := by
 unfold zrb; simp only [zrd, f8]; omega
end PteR
namespace VaR
open Go.RowKit Bv VaSpec Base BitsC
theorem zxy (a : Int) (w : World) : Calls Tryz.prog 24 #[.int .u64 a] w fun e w' => e = .returned (.bool (isv a)) ∧ Q w w' := by
 have H := Lib.hid (show (decide (a < 274877906944) || decide (18446743798831644672 ≤ a)) = isv a from rfl); by_cases h : a < 274877906944
 · have H2 := Lib.hid (show isv a = true by unfold isv; simp [h])
   go_enter Tryz.func24, Tryz.ntmps24
   go_wp2
   go_ret
   exact ⟨congrArg (fun z => Ending.returned (.bool z)) H2.out.symm, Q.refl _⟩
 · have hd : decide (a < 274877906944) = false := by simpa using h
   by_cases h2 : 18446743798831644672 ≤ a
   · have H2 := Lib.hid (show isv a = true by unfold isv; simp [h2])
     go_enter Tryz.func24, Tryz.ntmps24
     go_wp2
     go_ret
     exact ⟨congrArg (fun z => Ending.returned (.bool z)) H2.out.symm, Q.refl _⟩
   · have H2 := Lib.hid (show isv a = false by unfold isv; simp [h2]; omega)
     go_enter Tryz.func24, Tryz.ntmps24
     go_wp2
     go_ret
     exact ⟨congrArg (fun z => Ending.returned (.bool z)) H2.out.symm, Q.refl _⟩
set_option maxHeartbeats 400000 in
theorem zhd (l : Int) (w : World) (h0 : 0 ≤ l) (h2 : l ≤ 2) : Calls Tryz.prog 18 #[.int .i64 l] w fun e w' => e = .returned (.int .u64 (sz l)) ∧ Q w w' := by
 obtain ⟨n, rfl⟩ := Int.eq_ofNat_of_zero_le h0
 go_enter Tryz.func18, Tryz.ntmps18
 go_wp2
 go_loop [3, 4] (fun x k => ∃ j : Nat, j ≤ n ∧ k = .int .i64 j ∧ x = .int .u64 (sz j)) (fun _ k => n - (intOf k).toNat)
 case atStart => exact ⟨0, by omega, rfl, rfl⟩
 case round =>
  obtain ⟨j, hj, rfl, rfl⟩ := hrel; by_cases hlt : j < n
  · have hp := sz_pos j; have hq := z8a j
    go_wp2
    refine ⟨⟨j + 1, by omega, by go_num, ?_⟩, ?_⟩
    · have : j = 0 ∨ j = 1 := by omega
      rcases this with rfl | rfl <;> rfl
    · simp [intOf]; omega
  · obtain rfl : j = n := by omega
    go_wp2
    go_ret
    exact ⟨rfl, Q.refl _⟩
theorem zu4 (a l : Int) (w : World) (a0 : 0 ≤ a) (a1 : a < 18446744073709551616) (h0 : 0 ≤ l) (h2 : l ≤ 2) : Calls Tryz.prog 132 #[.int .u64 a, .int .i64 l] w fun e w' => e = .returned (.int .i64 (idx a l)) ∧ Q w w' := by
 have hz : (sz l == 0) = false := by simpa using z24 l
 have hp := sz_pos l
 go_enter Tryz.func132, Tryz.ntmps132
 go_wp2_with (go_at_call 18; refine (zhd l _ h0 h2).mono ?_; rintro e w' ⟨rfl, ⟨nd, rfl⟩⟩)
 go_ret
 refine ⟨?_, by repeat (first | exact Q.refl _ | apply Q.step)⟩; have h1 : 0 ≤ a / sz l := Int.ediv_nonneg a0 (by omega); exact congrArg (fun z => Ending.returned (.int .i64 z)) (by rw [Int.tmod_eq_emod_of_nonneg h1]; unfold idx wrap64; omega)
theorem zu5 (a : Int) (w : World) (a0 : 0 ≤ a) (a1 : a < 18446744073709551616) : Calls Tryz.prog 28 #[.int .u64 a] w fun e w' => e = .returned (.int .u64 (num a)) ∧ Q w w' := by
 go_enter Tryz.func28, Tryz.ntmps28
 go_wp2
 go_ret
 exact ⟨rfl, Q.refl _⟩
theorem zu6 (a l : Int) (w : World) (a0 : 0 ≤ a) (a1 : a < 18446744073709551616) (h0 : 0 ≤ l) (h2 : l ≤ 2) : Calls Tryz.prog 71 #[.int .u64 a, .int .i64 l] w fun e w' => e = .returned (.int .u64 (off a l)) ∧ Q w w' := by
 have hz : (sz l == 0) = false := by simpa using z24 l
 have hp := sz_pos l
 go_enter Tryz.func71, Tryz.ntmps71
 go_wp2_with (go_at_call 18; refine (zhd l _ h0 h2).mono ?_; rintro e w' ⟨rfl, ⟨nd, rfl⟩⟩)
 go_ret
 exact ⟨rfl, by repeat (first | exact Q.refl _ | apply Q.step)⟩
theorem zry (a l : Int) (w : World) (a0 : 0 ≤ a) (a1 : a < 18446744073709551616) (h0 : 0 ≤ l) (h2 : l ≤ 2) : Calls Tryz.prog 152 #[.int .u64 a, .int .i64 l] w fun e w' => e = .returned (.bool (zhh a l)) ∧ Q w w' := by
 cases hi : isv a
 all_goals
  have hf : zhh a l = (isv a && (off a l == 0)) := rfl; rw [hi] at hf; have Hf := Lib.hid hf; clear hf; have Hi := Lib.hid hi; clear hi
  go_enter Tryz.func152, Tryz.ntmps152
  go_wp2_with (first | (go_at_call 24; refine (zxy a _).mono ?_; rw [Hi.out]; rintro e w' ⟨rfl, ⟨nd, rfl⟩⟩) | (go_at_call 71; refine (zu6 a l _ a0 a1 h0 h2).mono ?_; rintro e w' ⟨rfl, ⟨nd, rfl⟩⟩))
  go_ret
  refine ⟨?_, by repeat (first | exact Q.refl _ | apply Q.step)⟩; rw [Hf.out]; rfl
end VaR
namespace RfC
open Go.RowKit Bv VaSpec Base MemL RegR Ax MemC PutC MemC3 TzC OkS SpA SpB SpD IterC SpH SpI SpJ SpN RfQ RfA RfB
open BitsC PteSpec
theorem zxz (x : Int) (hx : U x) : Ok 129 [iu x] (.m (.ag (zay x).ce)) :=
 zbb #[.int .u64 x] (.agg #[.bool (zay x).v, .bool (zay x).r, .bool (zay x).w, .bool (zay x).x, .bool (zay x).u, .bool (zay x).g, .bool (zay x).a, .bool (zay x).d, .int .u64 (zay x).rsw, .int .u64 (zay x).ppn, .int .u64 (zay x).high]) fun W _ => (PteR.zu3 x W hx).mono fun e w' h => h
theorem ztc (q : Pte) : Ok 134 [.ag q.ce] (.m (ib (zbf q))) :=
 zbb #[.agg #[.bool q.v, .bool q.r, .bool q.w, .bool q.x, .bool q.u, .bool q.g, .bool q.a, .bool q.d, .int .u64 q.rsw, .int .u64 q.ppn, .int .u64 q.high]] (.bool (zbf q)) fun W _ => (PteR.zrw q.v q.r q.w q.x q.u q.g q.a q.d q.rsw q.ppn q.high W).mono fun e w' h => h
theorem zx0 (q : Pte) (h : q.U) (l : Int) (l0 : 0 ≤ l) (l2 : l ≤ 2) : Ok 133 [.ag q.ce, ii l] (.m (ib (zco q l))) :=
 zbb #[.agg #[.bool q.v, .bool q.r, .bool q.w, .bool q.x, .bool q.u, .bool q.g, .bool q.a, .bool q.d, .int .u64 q.rsw, .int .u64 q.ppn, .int .u64 q.high], .int .i64 l] (.bool (zco q l)) fun W _ => (PteR.zu2 q.v q.r q.w q.x q.u q.g q.a q.d q.rsw q.ppn q.high l W h.1 h.2.1 h.2.2 l0 l2).mono fun e w' h => h
theorem zrz (a l : Int) (ha : U a) (h0 : 0 ≤ l) (h2 : l ≤ 2) : Ok 132 [iu a, ii l] (.m (ii (idx a l))) :=
 zbb #[.int .u64 a, .int .i64 l] (.int .i64 (idx a l)) fun W _ => (VaR.zu4 a l W ha.1 ha.2 h0 h2).mono fun e w' ⟨he, hq⟩ => ⟨he, Q.below hq⟩
theorem z0w (a l : Int) (ha : U a) (h0 : 0 ≤ l) (h2 : l ≤ 2) : Ok 152 [iu a, ii l] (.m (ib (zhh a l))) :=
 zbb #[.int .u64 a, .int .i64 l] (.bool (zhh a l)) fun W _ => (VaR.zry a l W ha.1 ha.2 h0 h2).mono fun e w' ⟨he, hq⟩ => ⟨he, Q.below hq⟩
attribute [local irreducible] Ax.zbr
theorem ztd (sz : Int) (m : List (Int × Int)) (a : Int) (ha : U a) (hs : Srt m) (hl : m.length ≤ 1000000) : Ok 130 [zbm sz m, iu a] (.m (iu (zbs sz m a))) := by
 unfold zbs; by_cases hlt : a < sz; rotate_left
 · rw [if_neg hlt]; refine zad 49 Tryz.func130 rfl rfl rfl rfl ?_ GG.to; intro W A hG
   repeat (first | (refine zai rfl ?_; first | refine zaj ?_) | (refine hK _ ?_; clear hK K) | refine zac rfl ?_ | exact zah (show zat _ _ _ = some _ by kernel_rfl) | refine zaf rfl rfl ?_ | refine zab (fun K hK => ?_))
 rw [if_pos hlt]; obtain ⟨r, hr⟩ : ∃ r, r = MemC.look m (a / 8) := ⟨_, rfl⟩; rw [← hr]; refine zad 49 Tryz.func130 rfl rfl rfl rfl ?_ GG.to; intro W A hG
 repeat (first | (refine zai rfl ?_; first | refine zaj ?_) | (refine hK _ ?_; clear hK K) | refine zac rfl ?_ | refine zae rfl rfl ?_ | refine zag ?_ | refine zak ?_ | refine zab (fun K hK => ?_))
 refine za1 (α := Nat × Nat) (fun q => q.1 ≤ lb m (a / 8) ∧ lb m (a / 8) ≤ q.2 ∧ q.2 ≤ m.length ∧ (q.2 = m.length ∨ ∃ c, m[q.2]? = some c ∧ a / 8 < c.1)) (fun q => St.of [(1, .m (iu a)), (2, .m (.c (.p 2 0))), (5, .m (ii q.1)), (6, .m (ii q.2))] [(2, .live (.box [cu sz, .s m.length 2 (fl m)]))]) (fun q => q.2 - q.1) (0, m.length) ⟨Nat.zero_le _, zwk _ _, Nat.le_refl _, .inl rfl⟩ (zaw _ _ ⟨rfl, rfl, rfl, rfl, trivial⟩ ⟨rfl, trivial⟩ rfl) ?_; rintro ⟨lo, hi⟩ ⟨h1, h2, h3, h4⟩; have g1 : lo ≤ lb m (a / 8) := h1; have g2 : lb m (a / 8) ≤ hi := h2; have g3 : hi ≤ m.length := h3; have g4 : hi = m.length ∨ ∃ c, m[hi]? = some c ∧ a / 8 < c.1 := h4; clear h1 h2 h3 h4; show Aw _ _ _ _ (St.of [(1, .m (iu a)), (2, .m (.c (.p 2 0))), (5, .m (ii lo)), (6, .m (ii hi))] [(2, .live (.box [cu sz, .s m.length 2 (fl m)]))]); by_cases hlo : lo < hi
 · have hmid : ((lo : Int) + (hi : Int)) / 2 = (((lo + hi) / 2 : Nat) : Int) := by omega
   have hml : (lo + hi) / 2 < m.length := by omega
   obtain ⟨c, hc⟩ : ∃ c, m[(lo + hi) / 2]? = some c := ⟨_, List.getElem?_eq_getElem hml⟩; have hx : ((fl m).drop ((((lo : Int) + (hi : Int)) / 2).toNat * 2)).take 2 = [.int .u64 c.1, .int .u64 c.2] := by rw [hmid, Int.toNat_natCast]; exact SpL.zpo hc
   have hlb := z25 m (a / 8) hs ((lo + hi) / 2) hml; have hce : m[(lo + hi) / 2] = c := by rw [List.getElem?_eq_getElem hml] at hc; exact Option.some.inj hc
   rw [hce] at hlb; by_cases e1 : c.1 = a / 8
   · have hlk : MemC.look m (a / 8) = c.2 := by
      have hle : lb m (a / 8) = (lo + hi) / 2 := by
       have n1 : ¬ (lo + hi) / 2 < lb m (a / 8) := fun h => by have := hlb.2 h; omega
       rcases Nat.lt_or_ge (lb m (a / 8)) ((lo + hi) / 2) with h | h
       · have hl2 := z25 m (a / 8) hs (lb m (a / 8)) (by omega); have hp := List.pairwise_iff_getElem.1 hs (lb m (a / 8)) ((lo + hi) / 2) (by omega) hml h; rw [hce] at hp; have := hl2.1 (by omega); omega
       · omega
      unfold MemC.look; rw [hle, hc]; simp [e1]
     obtain rfl : r = c.2 := hr.trans hlk
     repeat (first | (refine zai rfl ?_; first | refine zaj ?_) | (refine hK _ ?_; clear hK K) | refine zac rfl ?_ | exact zah (show zat _ _ _ = some _ by kernel_rfl) | refine zaf rfl rfl ?_ | refine zag ?_ | refine zak ?_ | refine zab (fun K hK => ?_))
   · by_cases e2 : c.1 < a / 8
     · have := hlb.1 e2
       repeat (first | (refine zai rfl ?_; first | refine zaj ?_) | (refine hK _ ?_; clear hK K) | refine zac rfl ?_ | refine zaf rfl rfl ?_ | refine zae rfl rfl ?_ | refine zag ?_ | refine zak ?_ | refine zab (fun K hK => ?_))
       exact ⟨((lo + hi) / 2 + 1, hi), ⟨by show (lo + hi) / 2 + 1 ≤ _; omega, g2, g3, g4⟩, by show hi - ((lo + hi) / 2 + 1) < hi - lo; omega, zaw _ _ ⟨rfl, rfl, rfl, rfl, trivial⟩ ⟨rfl, trivial⟩ rfl⟩
     · have : ¬ (lo + hi) / 2 < lb m (a / 8) := fun h => e2 (hlb.2 h)
       repeat (first | (refine zai rfl ?_; first | refine zaj ?_) | (refine hK _ ?_; clear hK K) | refine zac rfl ?_ | refine zaf rfl rfl ?_ | refine zae rfl rfl ?_ | refine zag ?_ | refine zak ?_ | refine zab (fun K hK => ?_))
       exact ⟨(lo, (lo + hi) / 2), ⟨g1, by show lb m (a / 8) ≤ (lo + hi) / 2; omega, by show (lo + hi) / 2 ≤ m.length; omega, .inr ⟨c, hc, by omega⟩⟩, by show (lo + hi) / 2 - lo < hi - lo; omega, zaw _ _ ⟨rfl, rfl, rfl, rfl, trivial⟩ ⟨rfl, trivial⟩ rfl⟩
 · have hlk : MemC.look m (a / 8) = 0 := by
    have e : lb m (a / 8) = hi := by omega
    unfold MemC.look; rw [e]; rcases g4 with h | ⟨c, hc, hlt⟩
    · rw [h, List.getElem?_eq_none (Nat.le_refl _)]
    · rw [hc]; simp; omega
   obtain rfl : r = 0 := hr.trans hlk
   repeat (first | (refine zai rfl ?_; first | refine zaj ?_) | (refine hK _ ?_; clear hK K) | (rename_i K1 hK1; refine hK1 _ ?_; clear hK hK1; clear K) | refine zac rfl ?_ | exact zah (show zat _ _ _ = some _ by kernel_rfl) | refine zae rfl rfl ?_ | refine zar ?_ | refine zab (fun K hK => ?_))
theorem z2e (sz : Int) (m : List (Int × Int)) (f i : Int) (hf : 0 ≤ f ∧ f < 1099511627776) (hi : 0 ≤ i ∧ i < 512) (hs : Srt m) (hu : Uw m) (hl : m.length ≤ 1000000) : Ok 66 [zbm sz m, iu f, ii i] (.m (.ag (zay (zbs sz m (4096 * f + 8 * i))).ce)) := by
 have h1 := ztd sz m (4096 * f + 8 * i) ⟨by omega, by omega⟩ hs hl; have h2 := zxz (zbs sz m (4096 * f + 8 * i)) (hu.word sz _); refine zad 16 Tryz.func66 rfl rfl rfl rfl ?_ GG.to; intro W A hG
 repeat (first | (refine zai rfl ?_; first | refine zaj ?_ | refine gdr (zaa rfl rfl rfl (h1) (by kernel_rfl)) ?_ | refine gdr (zaa rfl rfl rfl (h2) (by kernel_rfl)) ?_) | (refine hK _ ?_; clear hK K) | refine zac rfl ?_ | exact zah (show zat _ _ _ = some _ by kernel_rfl) | refine zab (fun K hK => ?_))
theorem zpv (q : Pte) (h : q.U) (l : Int) (l0 : 0 ≤ l) (l2 : l ≤ 2) : Ok 128 [.ag q.ce, ii l] (.m (ib (za2 q l))) := by
 have hk := ztc q; have hb := zx0 q h l l0 l2; cases hl : zbf q with
 | false =>
  rw [hl] at hk; rw [show za2 q l = false by simp [za2, hl]]; refine zad 13 Tryz.func128 rfl rfl rfl rfl ?_ GG.to; intro W A hG
  repeat (first | (refine zai rfl ?_; first | refine zaj ?_ | refine gdr (zaa rfl rfl rfl (hk) (by kernel_rfl)) ?_) | (refine hK _ ?_; clear hK K) | refine zac rfl ?_ | exact zah (show zat _ _ _ = some _ by kernel_rfl) | refine zab (fun K hK => ?_))
 | true =>
  rw [hl] at hk; rw [show za2 q l = !zco q l by simp [za2, hl]]; refine zad 13 Tryz.func128 rfl rfl rfl rfl ?_ GG.to; intro W A hG
  repeat (first | (refine zai rfl ?_; first | refine zaj ?_ | refine gdr (zaa rfl rfl rfl (hk) (by kernel_rfl)) ?_ | refine gdr (zaa rfl rfl rfl (hb) (by kernel_rfl)) ?_) | (refine hK _ ?_; clear hK K) | refine zac rfl ?_ | exact zah (show zat _ _ _ = some _ by kernel_rfl) | refine zab (fun K hK => ?_))
theorem zpw (sz : Int) (m : List (Int × Int)) (b n f : Int) (hb : 0 ≤ b ∧ b ≤ 268435456) (hm : 0 ≤ n ∧ n ≤ 64) (hf : 0 ≤ f ∧ f < 2 ^ n.toNat) (h0 : f ≠ 0) (hs : Srt m) (hl : m.length ≤ 1000000) (hc : ∀ c ∈ m, 0 ≤ c.1 ∧ c.1 < 1099511627776) :
 Ok 108 [zbm sz m, .ag [cu b, ci n, cu f]] (.tu [zbm sz (TableC.za6 m (b + tzI f)), .ag [cu b, ci n, cu (zbx f (tzI f) 1 0)], iu (b + tzI f), ii 0]) := by
 have ht := zct (zha hf.1 hf.2 (by omega)) hf.2 h0; have h1 := zps b n f hb hm hf h0; have h2 := zxx sz m (b + tzI f) hs hl ⟨by omega, by omega⟩ hc; refine zad 28 Tryz.func108 rfl rfl rfl rfl ?_ GG.to; intro W A hG
 repeat (first | (refine zai rfl ?_; first | refine zaj ?_ | refine gdr (zaa rfl rfl rfl (h1) (by kernel_rfl)) ?_ | refine gdr (zaa rfl rfl rfl (h2) (by kernel_rfl)) ?_) | (refine hK _ ?_; clear hK K) | refine zac rfl ?_ | refine zaq (by kernel_rfl) (by kernel_rfl) rfl ?_ | exact zah (show zat _ _ _ = some _ by kernel_rfl) | refine zae rfl rfl ?_ | refine zak ?_ | refine zab (fun K hK => ?_))
theorem zx1 (sz : Int) (m : List (Int × Int)) (b n : Int) (hm : 0 ≤ n ∧ n ≤ 64) :
 Ok 108 [zbm sz m, .ag [cu b, ci n, cu 0]] (.tu [zbm sz m, .ag [cu b, ci n, cu 0], iu 0, ii 8]) := by
 have h1 := zxt b n hm; refine zad 28 Tryz.func108 rfl rfl rfl rfl ?_ GG.to; intro W A hG
 repeat (first | (refine zai rfl ?_; first | refine zaj ?_ | refine gdr (zaa rfl rfl rfl (h1) (by kernel_rfl)) ?_) | (refine hK _ ?_; clear hK K) | refine zac rfl ?_ | refine zaq (by kernel_rfl) (by kernel_rfl) rfl ?_ | exact zah (show zat _ _ _ = some _ by kernel_rfl) | refine zaf rfl rfl ?_ | refine zab (fun K hK => ?_))
theorem zu7 (f : Fe) : Ok 144 [.ag (Fe.ce f), .ag zE] (.m (ib false)) := by
 refine zad 38 Tryz.func144 rfl rfl rfl rfl ?_ GG.to; intro W A hG
 repeat (first | (refine zai rfl ?_; first | refine zaj ?_) | (refine hK _ ?_; clear hK K) | refine zac rfl ?_ | exact zah (show zat _ _ _ = some _ by kernel_rfl) | refine zaf rfl rfl ?_ | refine zab (fun K hK => ?_))
theorem z0x (n : Nat) : zsL (n + 1) = zsL n ++ zS := by
 induction n with
 | zero => rfl
 | succ n ih =>
  have e : zsL (n + 1 + 1) = zS ++ zsL (n + 1) := rfl; have e2 : zsL (n + 1) = zS ++ zsL n := rfl; rw [e, ih, ← List.append_assoc, ← e2, ih]
def z8n (n : Nat) (f : Fe) (i : Nat) (xs : List Value) : St := St.of [(2, .m (.c (.p 2 0))), (3, .m (.c (.p 3 0))), (4, .m (.c (.p 4 0))), (5, .m (.c (.o 1000))), (6, .m (ii i))] [(2, .live (.box [.s n 45 (zsL n)])), (3, .live (.box (Fe.ce f))), (4, .live (.box [.v (.slice none 0 0)])), (1000, .live (.row 154 45 i xs))]
def rdoL (n : Nat) (f : Fe) (i w : Nat) (xs : List Value) : St := St.of [(2, .m (.c (.p 2 0))), (3, .m (.c (.p 3 0))), (4, .m (.c (.p 4 0))), (5, .m (.c (.o 1000))), (6, .m (ii i)), (7, .m (.c (.p 7 0))), (8, .m (ii w))] [(2, .live (.box [.s n 45 (zsL n)])), (3, .live (.box (Fe.ce f))), (4, .live (.box [.v (.slice none 0 0)])), (7, .live (.box (zS.map .v))), (1000, .live (.row 154 45 i xs))]
theorem z4l (f : Fe) (n : Nat) (hn : n ≤ 16) : Ok 81 [.ag [.s n 45 (zsL n)], .ag (Fe.ce f)] (.m (.ag [.s n 45 (zsL n)])) := by
 have hm := zu7 f; refine zad 41 Tryz.func81 rfl rfl rfl rfl ?_ GG.to; intro W A hG
 repeat (first | (refine zai rfl ?_; first | refine zaj ?_) | (refine hK _ ?_; clear hK K) | refine zac rfl ?_ | refine zag ?_ | refine zab (fun K hK => ?_))
 refine za1 (α := Nat × List Value) (fun q => q.1 ≤ n ∧ q.2 = zsL q.1) (fun q => z8n n f q.1 q.2) (fun q => n - q.1) (0, []) ⟨Nat.zero_le _, rfl⟩ (Sub.trans (zg7 5 1000 154 45 rfl rfl) (zaw _ _ ⟨rfl, rfl, rfl, rfl, rfl, trivial⟩ ⟨rfl, rfl, rfl, rfl, trivial⟩ rfl)) ?_; rintro ⟨i, xs⟩ ⟨h1, h2⟩; have g1 : i ≤ n := h1; have g2 : xs = zsL i := h2; clear h1 h2; show Aw _ _ _ _ (z8n n f i xs); unfold z8n; by_cases hlt : i < n
 · have hx : ((zsL n).drop (i * 45)).take 45 = zS := zw6 n i hlt
   repeat (first | (refine zai rfl ?_; first | refine zaj ?_) | (refine hK _ ?_; clear hK K) | refine zac rfl ?_ | refine zaf rfl rfl ?_ | refine zag ?_ | refine zak ?_ | refine zab (fun K hK => ?_))
   refine za1 (α := Nat) (fun w => w ≤ 4) (fun w => rdoL n f i w xs) (fun w => 4 - w) 0 (by omega) (zaw _ _ ⟨rfl, rfl, rfl, rfl, rfl, rfl, rfl, trivial⟩ ⟨rfl, rfl, rfl, rfl, rfl, trivial⟩ rfl) ?_; intro w hw; unfold rdoL; rcases (by omega : w = 0 ∨ w = 1 ∨ w = 2 ∨ w = 3 ∨ w = 4) with rfl | rfl | rfl | rfl | rfl
   · skip
     repeat (first | (refine zai rfl ?_; first | refine zaj ?_ | refine gdr (zaa rfl rfl rfl (hm) (by kernel_rfl)) ?_) | (refine hK _ ?_; clear hK K) | refine zac rfl ?_ | refine zaq (by kernel_rfl) (by kernel_rfl) rfl ?_ | refine zaf rfl rfl ?_ | refine zae rfl rfl ?_ | refine zag ?_ | refine zak ?_ | refine zab (fun K hK => ?_))
     exact ⟨1, by omega, by omega, zaw _ _ ⟨rfl, rfl, rfl, rfl, rfl, rfl, rfl, trivial⟩ ⟨rfl, rfl, rfl, rfl, rfl, trivial⟩ rfl⟩
   · skip
     repeat (first | (refine zai rfl ?_; first | refine zaj ?_ | refine gdr (zaa rfl rfl rfl (hm) (by kernel_rfl)) ?_) | (refine hK _ ?_; clear hK K) | refine zac rfl ?_ | refine zaq (by kernel_rfl) (by kernel_rfl) rfl ?_ | refine zaf rfl rfl ?_ | refine zae rfl rfl ?_ | refine zag ?_ | refine zak ?_ | refine zab (fun K hK => ?_))
     exact ⟨2, by omega, by omega, zaw _ _ ⟨rfl, rfl, rfl, rfl, rfl, rfl, rfl, trivial⟩ ⟨rfl, rfl, rfl, rfl, rfl, trivial⟩ rfl⟩
   · skip
     repeat (first | (refine zai rfl ?_; first | refine zaj ?_ | refine gdr (zaa rfl rfl rfl (hm) (by kernel_rfl)) ?_) | (refine hK _ ?_; clear hK K) | refine zac rfl ?_ | refine zaq (by kernel_rfl) (by kernel_rfl) rfl ?_ | refine zaf rfl rfl ?_ | refine zae rfl rfl ?_ | refine zag ?_ | refine zak ?_ | refine zab (fun K hK => ?_))
     exact ⟨3, by omega, by omega, zaw _ _ ⟨rfl, rfl, rfl, rfl, rfl, rfl, rfl, trivial⟩ ⟨rfl, rfl, rfl, rfl, rfl, trivial⟩ rfl⟩
   · skip
     repeat (first | (refine zai rfl ?_; first | refine zaj ?_ | refine gdr (zaa rfl rfl rfl (hm) (by kernel_rfl)) ?_) | (refine hK _ ?_; clear hK K) | refine zac rfl ?_ | refine zaq (by kernel_rfl) (by kernel_rfl) rfl ?_ | refine zaf rfl rfl ?_ | refine zae rfl rfl ?_ | refine zag ?_ | refine zak ?_ | refine zab (fun K hK => ?_))
     exact ⟨4, by omega, by omega, zaw _ _ ⟨rfl, rfl, rfl, rfl, rfl, rfl, rfl, trivial⟩ ⟨rfl, rfl, rfl, rfl, rfl, trivial⟩ rfl⟩
   · skip
     repeat (first | (refine zai rfl ?_; first | refine zaj ?_ | refine gdr (zbg rfl rfl rfl rfl rfl rfl rfl rfl rfl rfl rfl rfl rfl (by omega)) ?_) | (refine hK _ ?_; clear hK K) | (rename_i K1 hK1; refine hK1 _ ?_; clear hK hK1; clear K) | refine zac rfl ?_ | refine zae rfl rfl ?_ | refine zar ?_ | refine zab (fun K hK => ?_))
     exact ⟨(i + 1, xs ++ zS), ⟨by show i + 1 ≤ n; omega, by show xs ++ zS = zsL (i + 1); rw [z0x, g2]⟩, by show n - (i + 1) < n - i; omega, Sub.trans (zaw [(2, .m (.c (.p 2 0))), (3, .m (.c (.p 3 0))), (4, .m (.c (.p 4 0))), (5, .m (.c (.o 38))), (6, .m (ii ((i + 1 : Nat) : Int)))] [(2, .live (.box [.s n 45 (zsL n)])), (3, .live (.box (Fe.ce f))), (4, .live (.box [.v (.slice none 0 0)])), (38, .live (.row 154 45 (i + 1) (xs ++ zS)))] ⟨rfl, rfl, rfl, rfl, rfl, trivial⟩ ⟨rfl, rfl, rfl, rfl, trivial⟩ rfl) (Sub.trans (zd1 (b := 38) (b' := 1000) rfl rfl) (zaw _ _ ⟨rfl, rfl, rfl, rfl, rfl, trivial⟩ ⟨rfl, rfl, rfl, rfl, trivial⟩ rfl))⟩
 · obtain rfl : i = n := by omega
   subst g2
   repeat (first | (refine zai rfl ?_; first | refine zaj ?_) | (refine hK _ ?_; clear hK K) | (rename_i K1 hK1; refine hK1 _ ?_; clear hK hK1; clear K) | refine zac rfl ?_ | exact zah (show zat _ _ _ = some _ by kernel_rfl) | refine zae rfl rfl ?_ | refine zar ?_ | refine zab (fun K hK => ?_))
theorem z0y (l : List Fe) (hl : l.length ≤ 1000000) (n : Nat) (hn : n ≤ 16) : Ok 30 [.ag [.s n 45 (zsL n)], .c (.s l.length 4 (flF l))] (.m (.ag [.s n 45 (zsL n)])) := by
 refine zad 19 Tryz.func30 rfl rfl rfl rfl ?_ GG.to; intro W A hG
 repeat (first | (refine zai rfl ?_; first | refine zaj ?_) | (refine hK _ ?_; clear hK K) | refine zac rfl ?_ | refine zag ?_ | refine zab (fun K hK => ?_))
 refine za1 (α := Nat) (fun k => k ≤ l.length) (fun k => St.of [(1, .m (.c (.s l.length 4 (flF l)))), (2, .m (.c (.p 2 0))), (4, .m (.c (.p 4 0))), (5, .m (ii k))] [(2, .live (.box [.s n 45 (zsL n)])), (4, .live (.box [.v (.slice none 0 0)]))]) (fun k => l.length - k) 0 (by omega) (zaw _ _ ⟨rfl, rfl, rfl, rfl, trivial⟩ ⟨rfl, rfl, trivial⟩ rfl) ?_; intro k hk; by_cases hlt : k < l.length
 · obtain ⟨f, hf⟩ : ∃ f, l[k]? = some f := ⟨_, List.getElem?_eq_getElem hlt⟩; have hx := zw8 hf; have hd := z4l f n hn
   repeat (first | (refine zai rfl ?_; first | refine zaj ?_ | refine gdr (zaa rfl rfl rfl (hd) (by kernel_rfl)) ?_) | (refine hK _ ?_; clear hK K) | refine zac rfl ?_ | refine zaq (by kernel_rfl) (by kernel_rfl) rfl ?_ | refine zaf rfl rfl ?_ | refine zag ?_ | refine zak ?_ | refine zab (fun K hK => ?_))
   exact ⟨k + 1, by omega, by omega, zaw _ _ ⟨rfl, rfl, rfl, rfl, trivial⟩ ⟨rfl, rfl, trivial⟩ rfl⟩
 · skip
   repeat (first | (refine zai rfl ?_; first | refine zaj ?_) | (refine hK _ ?_; clear hK K) | (rename_i K1 hK1; refine hK1 _ ?_; clear hK hK1; clear K) | refine zac rfl ?_ | exact zah (show zat _ _ _ = some _ by kernel_rfl) | refine zae rfl rfl ?_ | refine zar ?_ | refine zab (fun K hK => ?_))
end RfC
namespace RfD
open Go.RowKit Bv VaSpec Base MemL RegR Ax MemC PutC TzC OkS SpA SpB SpD IterC SpE SpH SpJ SpN RfQ RfA RfC SpO
open BitsC PteSpec
attribute [local irreducible] Ax.zbr
theorem zx2 (k : Kr) (id : Int) : Ok 151 [.ag k.ce, ii id] (.m (ib (za4 k id))) := by
 by_cases h0 : 0 ≤ id
 · by_cases h : id < k.ss.length
   · obtain ⟨s, hs⟩ : ∃ s, k.ss[id.toNat]? = some s := ⟨_, List.getElem?_eq_getElem (by omega)⟩; have hx := zke hs; rw [show za4 k id = s.live by simp [za4, h0, hs]]; refine zad 22 Tryz.func151 rfl rfl rfl rfl ?_ GG.to; intro W A hG
     repeat (first | (refine zai rfl ?_; first | refine zaj ?_) | (refine hK _ ?_; clear hK K) | refine zac rfl ?_ | exact zah (show zat _ _ _ = some _ by kernel_rfl) | refine zab (fun K hK => ?_))
   · rw [show za4 k id = false by simp [za4, List.getElem?_eq_none (show k.ss.length ≤ id.toNat by omega)]]; refine zad 22 Tryz.func151 rfl rfl rfl rfl ?_ GG.to; intro W A hG
     repeat (first | (refine zai rfl ?_; first | refine zaj ?_) | (refine hK _ ?_; clear hK K) | refine zac rfl ?_ | exact zah (show zat _ _ _ = some _ by kernel_rfl) | refine zab (fun K hK => ?_))
 · rw [show za4 k id = false by simp [za4, h0]]; refine zad 22 Tryz.func151 rfl rfl rfl rfl ?_ GG.to; intro W A hG
   repeat (first | (refine zai rfl ?_; first | refine zaj ?_) | (refine hK _ ?_; clear hK K) | refine zac rfl ?_ | exact zah (show zat _ _ _ = some _ by kernel_rfl) | refine zab (fun K hK => ?_))
theorem zx3 (k : Kr) (ht : k.ts = zsL k.tn) (hn : k.tn ≤ 16) (l : List Fe) (hl : l.length ≤ 1000000) (hk : k.fs.length ≤ 1000000) : Ok 109 [.ag k.ce, .c (.s l.length 4 (flF l))] (.m (.ag (zda k l).ce)) := by
 rw [ce_z k ht, show (zda k l).ce = k.raw k.tn (zsL k.tn) k.ss.length (flS k.ss) (k.fs.length + l.length) (flF k.fs ++ flF l) from by rw [← ht]; simp [zda, Kr.ce, Kr.raw, flF]]
 have ha := z0y l hl k.tn hn; refine zad 20 Tryz.func109 rfl rfl rfl rfl ?_ GG.to; intro W A hG
 repeat (first | (refine zai rfl ?_; first | refine zaj ?_ | refine gdr (zaa rfl rfl rfl (ha) (by kernel_rfl)) ?_ | refine gdr (zdm rfl rfl rfl rfl rfl rfl rfl rfl rfl rfl rfl rfl (zrf k.fs) (by omega)) ?_ | refine gdr (zbg rfl rfl rfl rfl rfl rfl rfl rfl rfl rfl rfl rfl (zrf l) (by omega)) ?_) | (refine hK _ ?_; clear hK K) | refine zac rfl ?_ | exact zah (show zat _ _ _ = some _ by kernel_rfl) | refine zab (fun K hK => ?_))
theorem z4m (a b c : Int) (n : Nat) (h : zf8 a b c n = true) : Ok 44 [znk a b c n] (.m (.ag (zvi a b c n).ce)) := by
 obtain ⟨ha, hb, hc, hn⟩ := zd3.1 h; have l1 := zko (n := b) (by omega) (by omega); have l2 := znl (n := b) (by omega) (by omega); have h2 := z0u a b (by omega); have h3 := z0v c (by omega); have h5 := zps a b (zd6 b) (by omega) (by omega) l1 l2; obtain ⟨i, z, hi, hz, hs, hby⟩ := TlbNewC.z6a; obtain ⟨z', hz', hzc⟩ := zset; obtain rfl : z' = z := by rw [hi] at hz'; exact Option.some.inj (hz'.symm.trans hz)
 have hmd := zxp n z' hzc; have key : Ok 44 [znk a b c n] (.m (.ag [ci a, ci b, ci c, ci n, cu ((a + b) * 4096), .v (.slice none 0 0), .s n 45 (zsL n), cu 0, cu 0, cu 0, ci 0, cb false, cb false, ci (-1), cu a, ci b, cu (zbx (zd6 b) (tzI (zd6 b)) 1 0), ci c, cu (zd6 c), cu 0, .v (.slice none 0 0), ci (-1), cu (a + tzI (zd6 b)), .v (.slice none 0 0)])) := by
  rw [show (a + b) * 4096 = 4096 * (a + b) by omega]; refine zad 49 Tryz.func44 rfl rfl rfl rfl ?_ GG.to; intro W A hG
  repeat (first | (refine zai rfl ?_; first | refine zaj ?_ | refine gdr (zaa rfl rfl rfl (h2) (by kernel_rfl)) ?_ | refine gdr (zaa rfl rfl rfl (h3) (by kernel_rfl)) ?_ | refine gdr (zaa rfl rfl rfl (h5) (by kernel_rfl)) ?_ | refine gdr (zud rfl rfl rfl rfl rfl rfl rfl hi hz hs (by rw [hby]; omega) (by unfold maxLen; omega) hmd) ?_) | (refine hK _ ?_; clear hK K) | refine zac rfl ?_ | exact zah (show zat _ _ _ = some _ by kernel_rfl) | refine zab (fun K hK => ?_))
 refine zd2 key rfl (m_lt ?_); exact ⟨ltC.rf _, ltC.rf _, ltC.rf _, ltC.rf _, ltC.rf _, ltC.nil 2, ltC.rf _, ltC.rf _, ltC.rf _, ltC.rf _, ltC.rf _, ltC.rf _, ltC.rf _, ltC.rf _, ltC.rf _, ltC.rf _, ltC.rf _, ltC.rf _, ltC.rf _, ltC.rf _, ltC.nil 3, ltC.rf _, ltC.rf _, ltC.nil 4, trivial⟩
theorem zx4 (k : Kr) (id a l : Int) (ha : U a) : Ok 87 [.ag k.ce, ii id, iu a, ii l] (.tu [iu (zal k id a l).1, ii (zal k id a l).2.1, ii (zal k id a l).2.2]) := by
 have hl := zx2 k id; unfold zal; by_cases c1 : 0 ≤ l ∧ l ≤ 2; rotate_left
 · rw [if_pos c1]; by_cases c0 : l < 0
   · refine zad 50 Tryz.func87 rfl rfl rfl rfl ?_ GG.to; intro W A hG
     repeat (first | (refine zai rfl ?_; first | refine zaj ?_) | (refine hK _ ?_; clear hK K) | refine zac rfl ?_ | exact zah (show zat _ _ _ = some _ by kernel_rfl) | refine zaf rfl rfl ?_ | refine zab (fun K hK => ?_))
   · refine zad 50 Tryz.func87 rfl rfl rfl rfl ?_ GG.to; intro W A hG
     repeat (first | (refine zai rfl ?_; first | refine zaj ?_) | (refine hK _ ?_; clear hK K) | refine zac rfl ?_ | exact zah (show zat _ _ _ = some _ by kernel_rfl) | refine zaf rfl rfl ?_ | refine zab (fun K hK => ?_))
 rw [if_neg (by simpa using c1)]; have hi := zrz a 2 ha (by omega) (by omega); have hf := z0w a l ha c1.1 c1.2; by_cases c0 : id = -1
 · rw [if_neg (by simp [c0])]; by_cases c2 : zhh a l = false
   · rw [if_pos c2]; rw [c2] at hf; refine zad 50 Tryz.func87 rfl rfl rfl rfl ?_ GG.to; intro W A hG
     repeat (first | (refine zai rfl ?_; first | refine zaj ?_ | refine gdr (zaa rfl rfl rfl (hf) (by kernel_rfl)) ?_) | (refine hK _ ?_; clear hK K) | refine zac rfl ?_ | exact zah (show zat _ _ _ = some _ by kernel_rfl) | refine zaf rfl rfl ?_ | refine zae rfl rfl ?_ | refine zak ?_ | refine zab (fun K hK => ?_))
   rw [if_neg c2, if_pos c0]; rw [show zhh a l = true by simpa using c2] at hf; by_cases c3 : idx a 2 = 511
   · by_cases c4 : l = 2
     · rw [if_neg (by simp [c4])]; refine zad 50 Tryz.func87 rfl rfl rfl rfl ?_ GG.to; intro W A hG
       repeat (first | (refine zai rfl ?_; first | refine zaj ?_ | refine gdr (zaa rfl rfl rfl (hf) (by kernel_rfl)) ?_ | refine gdr (zaa rfl rfl rfl (hi) (by kernel_rfl)) ?_) | (refine hK _ ?_; clear hK K) | refine zac rfl ?_ | exact zah (show zat _ _ _ = some _ by kernel_rfl) | refine zaf rfl rfl ?_ | refine zae rfl rfl ?_ | refine zak ?_ | refine zab (fun K hK => ?_))
     · rw [if_pos ⟨c3, c4⟩]; refine zad 50 Tryz.func87 rfl rfl rfl rfl ?_ GG.to; intro W A hG
       repeat (first | (refine zai rfl ?_; first | refine zaj ?_ | refine gdr (zaa rfl rfl rfl (hf) (by kernel_rfl)) ?_ | refine gdr (zaa rfl rfl rfl (hi) (by kernel_rfl)) ?_) | (refine hK _ ?_; clear hK K) | refine zac rfl ?_ | exact zah (show zat _ _ _ = some _ by kernel_rfl) | refine zaf rfl rfl ?_ | refine zae rfl rfl ?_ | refine zak ?_ | refine zab (fun K hK => ?_))
   · rw [if_neg (by simp [c3])]; refine zad 50 Tryz.func87 rfl rfl rfl rfl ?_ GG.to; intro W A hG
     repeat (first | (refine zai rfl ?_; first | refine zaj ?_ | refine gdr (zaa rfl rfl rfl (hf) (by kernel_rfl)) ?_ | refine gdr (zaa rfl rfl rfl (hi) (by kernel_rfl)) ?_) | (refine hK _ ?_; clear hK K) | refine zac rfl ?_ | exact zah (show zat _ _ _ = some _ by kernel_rfl) | refine zaf rfl rfl ?_ | refine zae rfl rfl ?_ | refine zak ?_ | refine zab (fun K hK => ?_))
 · by_cases c5 : za4 k id = false
   · rw [if_pos ⟨c0, c5⟩]; rw [c5] at hl; refine zad 50 Tryz.func87 rfl rfl rfl rfl ?_ GG.to; intro W A hG
     repeat (first | (refine zai rfl ?_; first | refine zaj ?_ | refine gdr (zaa rfl rfl rfl (hl) (by kernel_rfl)) ?_) | (refine hK _ ?_; clear hK K) | refine zac rfl ?_ | exact zah (show zat _ _ _ = some _ by kernel_rfl) | refine zaf rfl rfl ?_ | refine zae rfl rfl ?_ | refine zak ?_ | refine zab (fun K hK => ?_))
   rw [if_neg (by simp [c5])]; have c5 : za4 k id = true := by simpa using c5
   rw [c5] at hl; obtain ⟨y0, y1, y2, y3⟩ := zdc c5; have hx := zke y2; by_cases c2 : zhh a l = false
   · rw [if_pos c2]; rw [c2] at hf; refine zad 50 Tryz.func87 rfl rfl rfl rfl ?_ GG.to; intro W A hG
     repeat (first | (refine zai rfl ?_; first | refine zaj ?_ | refine gdr (zaa rfl rfl rfl (hl) (by kernel_rfl)) ?_ | refine gdr (zaa rfl rfl rfl (hf) (by kernel_rfl)) ?_) | (refine hK _ ?_; clear hK K) | refine zac rfl ?_ | exact zah (show zat _ _ _ = some _ by kernel_rfl) | refine zaf rfl rfl ?_ | refine zae rfl rfl ?_ | refine zak ?_ | refine zab (fun K hK => ?_))
   rw [if_neg c2, if_neg c0]; rw [show zhh a l = true by simpa using c2] at hf; by_cases c3 : idx a 2 = 511
   · rw [if_pos c3]; refine zad 50 Tryz.func87 rfl rfl rfl rfl ?_ GG.to; intro W A hG
     repeat (first | (refine zai rfl ?_; first | refine zaj ?_ | refine gdr (zaa rfl rfl rfl (hl) (by kernel_rfl)) ?_ | refine gdr (zaa rfl rfl rfl (hf) (by kernel_rfl)) ?_ | refine gdr (zaa rfl rfl rfl (hi) (by kernel_rfl)) ?_) | (refine hK _ ?_; clear hK K) | refine zac rfl ?_ | exact zah (show zat _ _ _ = some _ by kernel_rfl) | refine zaf rfl rfl ?_ | refine zae rfl rfl ?_ | refine zak ?_ | refine zab (fun K hK => ?_))
   · rw [if_neg c3]; refine zad 50 Tryz.func87 rfl rfl rfl rfl ?_ GG.to; intro W A hG
     repeat (first | (refine zai rfl ?_; first | refine zaj ?_ | refine gdr (zaa rfl rfl rfl (hl) (by kernel_rfl)) ?_ | refine gdr (zaa rfl rfl rfl (hf) (by kernel_rfl)) ?_ | refine gdr (zaa rfl rfl rfl (hi) (by kernel_rfl)) ?_) | (refine hK _ ?_; clear hK K) | refine zac rfl ?_ | exact zah (show zat _ _ _ = some _ by kernel_rfl) | refine zae rfl rfl ?_ | refine zak ?_ | refine zab (fun K hK => ?_))
end RfD
namespace RfE
open Go.RowKit Bv VaSpec Base MemL RegR Ax MemC PutC TzC OkS SpA SpB SpC SpD IterC SpE SpF SpG SpH SpI SpJ SpN RfQ RfA RfB RfC RfD
open BitsC PteSpec
attribute [local irreducible] Ax.zbr
theorem zx5 (n : Int) (h : 0 ≤ n ∧ n < 17592186044416) : PteC.zc4 (gP n) = 33 + 1024 * n := by
 have hm : zhr (gP n) = true := by
  unfold zhr gP; simp; omega
 unfold PteC.zc4; rw [if_pos hm]; show zrb (gP n) + 0 * 256 + n * 1024 + 0 * 18014398509481984 = _; rw [show zrb (gP n) = 33 from rfl]; omega
theorem zr0 {n : Nat} {k : Kr} (h : Inv n k) (hp : k.pf ≠ 0) : zqd k = zb3 (TableC.za6 k.m (k.pb + tzI k.pf)) (512 * (k.pb + tzI k.pf) + 511) (33 + 1024 * k.sh) := by
 have t1 := zct h.upf h.pf.2 hp; have h1 := h.cd; have h2 := h.cp; have h3 := h.pb; have h4 := h.pm; have h8 := h.sh; have hP : (gP k.sh).U := ⟨by show (0 : Int) ≤ 0 ∧ (0 : Int) < _; omega, by show 0 ≤ k.sh ∧ k.sh < _; omega, by show (0 : Int) ≤ 0 ∧ (0 : Int) < _; omega⟩
 unfold zqd; rw [zpm, zem hP (by omega) (by omega) (by rw [h.sz]; omega), zx5 _ (by omega), show (k.pb + tzI k.pf) * 512 + 511 = 512 * (k.pb + tzI k.pf) + 511 by omega]
theorem zte {n : Nat} {k : Kr} (h : Inv n k) : ∀ c ∈ k.m, 0 ≤ c.1 ∧ c.1 < 1099511627776 := fun c hc => by
 obtain ⟨a, b, _, _⟩ := h.mc c hc; have h1 := h.cd; have h2 := h.cp; constructor <;> omega
theorem znx {n : Nat} {k : Kr} (h : Inv n k) (hn : n ≤ 100000) (h32 : k.ss.length < 32) (h0 : k.af ≠ 0) (hp0 : k.pf ≠ 0) (hown : zfh k.ao (tzI k.af) = false) :
 Ok 46 [.ag k.ce] (.tu [.ag (zbo k).ce, ii k.ss.length, ii 0]) := by
 have h1 := h.cd; have h2 := h.cp; have h3 := h.pb; have h4 := h.pm; have h5 := h.ml; have h6 := h.ca; have h7 := h.am; have h8 := h.sh; have t1 := zct h.upf h.pf.2 hp0; have t2 := zct h.uaf h.af.2 h0; have hw := zee k.m (k.pb + tzI k.pf); have ht := zkw k.am k.af k.ao (by omega) (by rw [h.am]; exact h.af) h.uao h0
 rw [hown] at ht; have hf := zpw k.sz k.m k.pb k.pm k.pf (by omega) (by omega) (by rw [h.pm]; exact h.pf) hp0 h.m (by omega) (zte h)
 have hs := zkx k.sz (TableC.za6 k.m (k.pb + tzI k.pf)) (512 * (k.pb + tzI k.pf) + 511) (33 + 1024 * k.sh) (zcr _ h.m) (by omega); rw [← zr0 h hp0] at hs; rw [zgk]; refine zad 80 Tryz.func46 rfl rfl rfl rfl ?_ GG.to; intro W A hG
 repeat (first | (refine zai rfl ?_; first | refine zaj ?_ | refine gdr (zaa rfl rfl rfl (ht) (by kernel_rfl)) ?_ | refine gdr (zaa rfl rfl rfl (hf) (by kernel_rfl)) ?_ | refine gdr (zaa rfl rfl rfl (hs) (by kernel_rfl)) ?_ | refine gdr (zdm rfl rfl rfl rfl rfl rfl rfl rfl rfl rfl rfl rfl (SpM.flS_one k.ss) (by omega)) ?_ | refine gdr (zbg rfl rfl rfl rfl rfl rfl rfl rfl rfl rfl rfl rfl rfl (by omega)) ?_) | (refine hK _ ?_; clear hK K) | refine zac rfl ?_ | exact zah (show zat _ _ _ = some _ by kernel_rfl) | refine zae rfl rfl ?_ | refine zak ?_ | refine zab (fun K hK => ?_))
theorem zny {n : Nat} {k : Kr} (h : Inv n k) (hn : n ≤ 100000) (h32 : k.ss.length < 32) (h0 : k.af ≠ 0) (hp0 : k.pf ≠ 0) (hown : zfh k.ao (tzI k.af) = true) :
 Ok 46 [.ag k.ce] (.tu [.ag (zda (zbo k) [aFe (tzI k.af + 1)]).ce, ii k.ss.length, ii 0]) := by
 have h1 := h.cd; have h2 := h.cp; have h3 := h.pb; have h4 := h.pm; have h5 := h.ml; have h6 := h.ca; have h7 := h.am; have h8 := h.sh; have h9 := h.fl; have t1 := zct h.upf h.pf.2 hp0; have t2 := zct h.uaf h.af.2 h0; have hw := zee k.m (k.pb + tzI k.pf); have ht := zkw k.am k.af k.ao (by omega) (by rw [h.am]; exact h.af) h.uao h0
 rw [hown] at ht; have hf := zpw k.sz k.m k.pb k.pm k.pf (by omega) (by omega) (by rw [h.pm]; exact h.pf) hp0 h.m (by omega) (zte h)
 have hs := zkx k.sz (TableC.za6 k.m (k.pb + tzI k.pf)) (512 * (k.pb + tzI k.pf) + 511) (33 + 1024 * k.sh) (zcr _ h.m) (by omega); rw [← zr0 h hp0] at hs; have hfe : Ok 109 [.ag (({ k with m := zqd k, pf := zbx k.pf (tzI k.pf) 1 0, af := zgy k.af, ao := zgz k.af k.ao } : Kr).raw k.tn k.ts (k.ss.length + 1) (flS k.ss ++ (⟨k.pb + tzI k.pf, tzI k.af + 1, true⟩ : Sp).vs) k.fs.length (flF k.fs)), .c (.s 1 4 (flF [aFe (tzI k.af + 1)]))] (.m (.ag (zda (zbo k) [aFe (tzI k.af + 1)]).ce)) := by
  rw [← zgk]; exact zx3 (zbo k) h.ts h.cs.2 [aFe (tzI k.af + 1)] (by simp) (by show k.fs.length ≤ _; omega)
 refine zad 80 Tryz.func46 rfl rfl rfl rfl ?_ GG.to; intro W A hG
 repeat (first | (refine zai rfl ?_; first | refine zaj ?_ | refine gdr (zaa rfl rfl rfl (ht) (by kernel_rfl)) ?_ | refine gdr (zaa rfl rfl rfl (hf) (by kernel_rfl)) ?_ | refine gdr (zaa rfl rfl rfl (hs) (by kernel_rfl)) ?_ | refine gdr (zdm rfl rfl rfl rfl rfl rfl rfl rfl rfl rfl rfl rfl (SpM.flS_one k.ss) (by omega)) ?_) | (refine hK _ ?_; clear hK K) | refine zac rfl ?_ | refine zae rfl rfl ?_ | refine zak ?_ | refine zab (fun K hK => ?_))
 refine zai rfl ?_; refine gdr (zbg rfl rfl rfl rfl rfl rfl rfl rfl rfl rfl rfl rfl rfl (by omega)) ?_
 repeat (first | (refine zai rfl ?_; first | refine zaj ?_))
 first
  | (refine hK _ ?_; clear hK K)
  | (rename_i K1 hK1; refine hK1 _ ?_; clear hK hK1; clear K)
  | (rename_i K1 hK1; refine hK1 _ ?_; clear hK1)
 refine zc7 (Sub.trans (z1y (b := 70) rfl) (sbq [(1, .m (.c (.p 1 0))), (2, .m (.c (.p 2 0))), (6, .m (iu (tzI k.af + 1))), (7, .m (ib true)), (13, .m (ii k.ss.length))] [(1, .live (.box (({ k with m := zqd k, pf := zbx k.pf (tzI k.pf) 1 0, af := zgy k.af, ao := zgz k.af k.ao } : Kr).raw k.tn k.ts (k.ss.length + 1) (flS k.ss ++ (⟨k.pb + tzI k.pf, tzI k.af + 1, true⟩ : Sp).vs) k.fs.length (flF k.fs)))), (2, .live (.box zK))])) ?_
 repeat (first | (refine zai rfl ?_; first | refine zaj ?_ | refine gdr (zd0 (b := 76) rfl rfl rfl rfl rfl rfl (zhx (by kernel_rfl) hfe)) ?_) | (refine hK _ ?_; clear hK K) | refine zac rfl ?_ | exact zah (show zat _ _ _ = some _ by kernel_rfl) | refine zaf rfl rfl ?_ | refine zab (fun K hK => ?_))
theorem zr1 {n : Nat} {k : Kr} (h : Inv n k) (hn : n ≤ 100000) : Ok 46 [.ag k.ce] (.tu [.ag (zb4 k).1.ce, ii (zb4 k).2.1, ii (zb4 k).2.2]) := by
 have h3 := h.pb; have h4 := h.pm; have h5 := h.ml; have h6 := h.sl; have h1 := h.cd; have h2 := h.cp; have h7 := h.am; have h8 := h.ca; unfold zb4; by_cases c1 : 32 ≤ k.ss.length
 · rw [if_pos c1]; refine zad 80 Tryz.func46 rfl rfl rfl rfl ?_ GG.to; intro W A hG
   repeat (first | (refine zai rfl ?_; first | refine zaj ?_) | (refine hK _ ?_; clear hK K) | refine zac rfl ?_ | exact zah (show zat _ _ _ = some _ by kernel_rfl) | refine zaf rfl rfl ?_ | refine zab (fun K hK => ?_))
 rw [if_neg c1]; by_cases c2 : k.af = 0
 · rw [if_pos c2]; have ht : Ok 107 [.ag [ci k.am, cu k.af, cu k.ao]] (.tu [.ag [ci k.am, cu k.af, cu k.ao], iu 0, ib false, ii 9]) := by rw [c2]; exact zxu k.am k.ao (by omega)
   refine zad 80 Tryz.func46 rfl rfl rfl rfl ?_ GG.to; intro W A hG
   repeat (first | (refine zai rfl ?_; first | refine zaj ?_ | refine gdr (zaa rfl rfl rfl (ht) (by kernel_rfl)) ?_) | (refine hK _ ?_; clear hK K) | refine zac rfl ?_ | exact zah (show zat _ _ _ = some _ by kernel_rfl) | refine zaf rfl rfl ?_ | refine zae rfl rfl ?_ | refine zak ?_ | refine zab (fun K hK => ?_))
 rw [if_neg c2]; by_cases c3 : k.pf = 0
 · rw [if_pos c3]; have t2 := zct h.uaf h.af.2 c2; have ht := zkw k.am k.af k.ao (by omega) (by rw [h.am]; exact h.af) h.uao c2
   have hf : Ok 108 [zbm k.sz k.m, .ag [cu k.pb, ci k.pm, cu k.pf]] (.tu [zbm k.sz k.m, .ag [cu k.pb, ci k.pm, cu k.pf], iu 0, ii 8]) := by rw [c3]; exact zx1 k.sz k.m k.pb k.pm (by omega)
   refine zad 80 Tryz.func46 rfl rfl rfl rfl ?_ GG.to; intro W A hG
   repeat (first | (refine zai rfl ?_; first | refine zaj ?_ | refine gdr (zaa rfl rfl rfl (ht) (by kernel_rfl)) ?_ | refine gdr (zaa rfl rfl rfl (hf) (by kernel_rfl)) ?_) | (refine hK _ ?_; clear hK K) | refine zac rfl ?_ | exact zah (show zat _ _ _ = some _ by kernel_rfl) | refine zaf rfl rfl ?_ | refine zae rfl rfl ?_ | refine zak ?_ | refine zab (fun K hK => ?_))
 rw [if_neg c3]; by_cases c4 : (zei k.ao (tzI k.af) 1 == 1) = true
 · rw [if_pos c4]; exact zny h hn (by omega) c2 c3 c4
 · rw [if_neg c4]; exact znx h hn (by omega) c2 c3 (by unfold zfh; cases e : (zei k.ao (tzI k.af) 1 == 1) with | false => rfl | true => exact absurd e c4)
end RfE
namespace RfG
open Go.RowKit Bv SpI
def cs : Nat → (Nat → Bool) → Nat
 | 0, _ => 0
 | n + 1, f => cs n f + (f n).toNat
theorem zh5 : ∀ (n : Nat) (f g : Nat → Bool), (∀ j, j < n → f j = g j) → cs n f = cs n g
 | 0, _, _, _ => rfl
 | n + 1, f, g, h => by simp only [cs]; rw [zh5 n f g (fun j hj => h j (by omega)), h n (by omega)]
theorem z6y {f g : Nat → Bool} {i : Nat} (hi : f i = false) (gi : g i = true) (h : ∀ j, j ≠ i → g j = f j) : ∀ n, i < n → cs n g = cs n f + 1
 | 0, hn => by omega
 | n + 1, hn => by
  simp only [cs]; by_cases e : i = n
  · subst e; rw [hi, gi, zh5 i g f (fun j hj => h j (by omega))]; rfl
  · rw [z6y hi gi h n (by omega), h n (fun e' => e e'.symm)]; omega
theorem z0z : ∀ (n m : Nat), m ≤ n → cs n (fun j => decide (j < m)) = m
 | 0, m, h => by simp [cs]; omega
 | n + 1, m, h => by
  simp only [cs]; by_cases e : m = n + 1
  · rw [zh5 n _ (fun j => decide (j < n)) (fun j hj => by simp [hj]; omega), z0z n n (Nat.le_refl _)]
    simp [e]
  · rw [z0z n m (by omega)]; simp; omega
def cb : Nat → Nat → Nat
 | 0, _ => 0
 | f + 1, x => x % 2 + cb f (x / 2)
def M (m : Nat) : Nat → Nat
 | 0 => 0
 | k + 1 => m + 256 * M m k
def f1 (k x : Nat) : Nat := (x / 2 &&& M 85 k) + (x &&& M 85 k)
def f2 (k x : Nat) : Nat := (x / 4 &&& M 51 k) + (x &&& M 51 k)
def f3 (k x : Nat) : Nat := (x / 16 + x) &&& M 15 k
theorem d1 : ∀ a, a < 256 → ∀ c, c < 2 → (a / 2 + 128 * c) &&& 85 = a / 2 &&& 85 := by decide +kernel
theorem d2 : ∀ a, a < 256 → ∀ c, c < 4 → (a / 4 + 64 * c) &&& 51 = a / 4 &&& 51 := by decide +kernel
def g1 (a : Nat) : Nat := (a / 2 &&& 85) + (a &&& 85)
def g2 (a : Nat) : Nat := (a / 4 &&& 51) + (a &&& 51)
def g3 (a : Nat) : Nat := (a / 16 + a) % 16
theorem d3 : ∀ a, a < 256 → g1 a < 256 ∧ g2 (g1 a) < 256 ∧ g2 (g1 a) % 16 ≤ 4 ∧ g2 (g1 a) / 16 ≤ 4 ∧ g3 (g2 (g1 a)) = cb 8 a ∧ cb 8 a ≤ 8 := by decide +kernel
def h3 (k x : Nat) : Nat := f3 k (f2 k (f1 k x))
end RfG
namespace RfJ
open Go.RowKit Bv Base MemL RegR Ax MemC PutC TzC OkS SpA SpB SpD IterC SpE SpH SpI SpN RfP RfQ RfG
open BitsC PteSpec
def cnt (x : Int) : Nat := cs 64 (fun j => zfh x (j : Int))
theorem znz {x i : Int} (hx : U x) (h0 : 0 ≤ i) (h1 : i < 64) (h : zfh x i = true) : cnt (zbx x i 1 0) + 1 = cnt x := by
 obtain ⟨n, rfl⟩ := Int.eq_ofNat_of_zero_le h0; refine (z6y (i := n) ?_ h (fun j hj => ?_) 64 (by omega)).symm
 · rw [zfi hx h0 h1 h0 h1, if_pos rfl]; rfl
 · by_cases hj2 : j < 64
   · rw [zfi hx h0 h1 (by omega) (by omega), if_neg (by omega)]
   · rw [zea (by omega), zea (by omega)]; rw [Int.toNat_natCast, BitVec.getLsbD_of_ge _ _ (by omega), BitVec.getLsbD_of_ge _ _ (by omega)]
theorem ziq (x i j : Int) (hx : U x) (h0 : 0 ≤ i) (h1 : i < 64) (hj : 0 ≤ j) (hj1 : j < 64) : zfh (zbx x i 1 0) j = if j = i then false else zfh x j := by
 rw [zfi hx h0 h1 hj hj1]; rfl
theorem zje (n : Int) (j : Int) (hj : 0 ≤ j) (hj1 : j < 64) (h0 : 0 ≤ n) : zfh (zd6 n) j = decide (j < n) := by
 rw [zea hj]; unfold zd6 zei; rw [X_B, zfa, show (0 : Int).toNat = 0 from rfl, Nat.zero_add, zs6 _ (by omega), Bool.and_true]; by_cases h : j < n
 · rw [decide_eq_true h, decide_eq_true (by omega)]
 · rw [decide_eq_false h, decide_eq_false (by omega)]
theorem z6z {n : Int} (h0 : 1 ≤ n) (h : n ≤ 64) : tzI (zd6 n) = 0 := by
 have l1 := zko (n := n) (by omega) h; have l2 := znl h0 h; have u := zpq n; have t := zct u l1.2 l2; rcases (by omega : tzI (zd6 n) = 0 ∨ 0 < tzI (zd6 n)) with e | e
 · exact e
 · have := zkp u l2 (Int.le_refl 0) e; rw [zje n 0 (by omega) (by omega) (by omega), decide_eq_true (by omega)] at this; cases this
def alv : List Sp → Nat
 | [] => 0
 | s :: l => (if s.live then 1 else 0) + alv l
theorem zr2 : ∀ (l : List Sp) (s : Sp), s.live = true → alv (l ++ [s]) = alv l + 1
 | [], s, h => by simp [alv, h]
 | x :: l, s, h => by simp only [List.cons_append, alv]; rw [zr2 l s h]; omega
theorem zx6 : ∀ (xs : List (Int × Int)) (k v : Int) (c : Int × Int), c ∈ xs → c.1 ≠ k → c ∈ zb3 xs k v
 | [], k, v, c, h, _ => by cases h
 | x :: xs, k, v, c, h, hk => by
  simp only [zb3]
  split
  · rcases List.mem_cons.1 h with rfl | h
    · simp
    · exact List.mem_cons_of_mem _ (zx6 xs k v c h hk)
  · split
    · rename_i hx; rcases List.mem_cons.1 h with rfl | h
      · exact absurd hx hk
      · split
        · exact h
        · exact List.mem_cons_of_mem _ h
    · split
      · exact h
      · exact List.mem_cons_of_mem _ h
theorem zx7 : ∀ (xs : List (Int × Int)) (k v : Int), v ≠ 0 → (k, v) ∈ zb3 xs k v
 | [], k, v, h => by simp [zb3, h]
 | x :: xs, k, v, h => by
  simp only [zb3]
  split
  · exact List.mem_cons_of_mem _ (zx7 xs k v h)
  · split <;> simp [h]
structure Inv2 (k : Kr) : Prop where
 sh : k.sh = k.cd
 p0 : zfh k.pf 0 = false
 lv : ∀ s ∈ k.ss, s.live = true → s.root ≠ k.cd ∧ s.asid ≤ k.ca ∧ zfh k.pf (s.root - k.cd) = false ∧ zfh k.af (s.asid - 1) = false ∧ (s.root * 512 + 511, 33 + 1024 * k.sh) ∈ k.m
 ap : ∀ (i j : Nat) (s t : Sp), k.ss[i]? = some s → k.ss[j]? = some t → i ≠ j → s.live = true → t.live = true → s.root ≠ t.root ∧ s.asid ≠ t.asid
 cl : ∀ c ∈ k.m, ∃ s ∈ k.ss, s.live = true ∧ c = (s.root * 512 + 511, 33 + 1024 * k.sh)
 np : (cnt k.pf : Int) + 1 + alv k.ss = k.cp
 na : (cnt k.af : Int) + alv k.ss = k.ca
theorem zjf {a b c : Int} {n : Nat} (h : zf8 a b c n = true) : Inv2 (zvi a b c n) := by
 obtain ⟨ha, hb, hc, hn⟩ := zd3.1 h; have tz := z6z (n := b) (by omega) (by omega); have e : (zvi a b c n).pf = zbx (zd6 b) 0 1 0 := by show zbx (zd6 b) (tzI (zd6 b)) 1 0 = _; rw [tz]
 have cb : cnt (zd6 b) = b.toNat := by
  unfold cnt
  rw [zh5 64 _ (fun j => decide (j < b.toNat)) (fun j hj => by
   rw [zje b j (by omega) (by omega) (by omega)]; by_cases h : (j : Int) < b
   · rw [decide_eq_true h, decide_eq_true (by omega)]
   · rw [decide_eq_false h, decide_eq_false (by omega)]), z0z 64 _ (by omega)]
 have cc : cnt (zd6 c) = c.toNat := by
  unfold cnt
  rw [zh5 64 _ (fun j => decide (j < c.toNat)) (fun j hj => by
   rw [zje c j (by omega) (by omega) (by omega)]; by_cases h : (j : Int) < c
   · rw [decide_eq_true h, decide_eq_true (by omega)]
   · rw [decide_eq_false h, decide_eq_false (by omega)]), z0z 64 _ (by omega)]
 have co := znz (x := zd6 b) (i := 0) (zpq b) (by omega) (by omega) (by rw [zje b 0 (by omega) (by omega) (by omega), decide_eq_true (by omega)]); refine ⟨by show a + tzI (zd6 b) = a; rw [tz]; omega, ?_, fun s hs => (by cases hs), fun i j s t hs => (by simp [zvi] at hs), fun c hc => (by cases hc), ?_, ?_⟩
 · rw [e, ziq _ _ _ (zpq b) (by omega) (by omega) (by omega) (by omega), if_pos rfl]
 · rw [e]; show (cnt (zbx (zd6 b) 0 1 0) : Int) + 1 + ((0 : Nat) : Int) = b; omega
 · show (cnt (zd6 c) : Int) + ((0 : Nat) : Int) = c; omega
end RfJ
namespace RfK
open Go.RowKit Bv Base MemL RegR Ax MemC PutC TzC OkS SpA SpB SpD IterC SpE SpG SpH SpI SpJ SpN RfP RfQ RfE RfG RfJ
open BitsC
theorem zr3 {n : Nat} {k : Kr} (h : Inv n k) (g : Inv2 k) (ha : k.af ≠ 0) (hp : k.pf ≠ 0) : Inv2 (zbo k) := by
 have c1 := h.cp; have c2 := h.ca; have hcd := h.cd; have hpb := h.pb; have hsh := h.sh; have t1 := zct h.upf h.pf.2 hp; have t2 := zct h.uaf h.af.2 ha; have low1 := zmb h.upf hp; have low2 := zmb h.uaf ha; have tn0 : tzI k.pf ≠ 0 := fun e => by rw [e, g.p0] at low1; cases low1
 have hne : ∀ s ∈ k.ss, s.live = true → s.root ≠ k.pb + tzI k.pf ∧ s.asid ≠ tzI k.af + 1 := fun s hs hl => by
  obtain ⟨_, _, b1, b2, _⟩ := g.lv s hs hl; refine ⟨fun e => ?_, fun e => ?_⟩
  · rw [show s.root - k.cd = tzI k.pf by omega, low1] at b1; cases b1
  · rw [show s.asid - 1 = tzI k.af by omega, low2] at b2; cases b2
 have hwm : TableC.za6 k.m (k.pb + tzI k.pf) = k.m := by
  rw [zh0 _ _ h.m]; refine List.filter_eq_self.2 fun c hc => ?_; obtain ⟨s, hs, hl, rfl⟩ := g.cl c hc; have := (hne s hs hl).1; simp only [zlf, Bool.or_eq_true, decide_eq_true_eq]; omega
 have hm : (zbo k).m = zb3 k.m (512 * (k.pb + tzI k.pf) + 511) (33 + 1024 * k.sh) := by
  show zqd k = _; rw [zr0 h hp, hwm]
 have hcells : ∀ s ∈ k.ss, s.live = true → (s.root * 512 + 511, 33 + 1024 * k.sh) ∈ (zbo k).m := fun s hs hl => by
  rw [hm]; refine zx6 _ _ _ _ (g.lv s hs hl).2.2.2.2 ?_; have := (hne s hs hl).1; show s.root * 512 + 511 ≠ _; omega
 have hnew : (512 * (k.pb + tzI k.pf) + 511, 33 + 1024 * k.sh) ∈ (zbo k).m := by rw [hm]; exact zx7 _ _ _ (by omega)
 have hss : (zbo k).ss = k.ss ++ [⟨k.pb + tzI k.pf, tzI k.af + 1, true⟩] := rfl; have epf : (zbo k).pf = zbx k.pf (tzI k.pf) 1 0 := rfl; have eaf : (zbo k).af = zbx k.af (tzI k.af) 1 0 := rfl; have n1 := znz h.upf t1.1 (by omega) low1; have n2 := znz h.uaf t2.1 (by omega) low2; refine ⟨g.sh, ?_, fun s hs hl => ?_, fun i j s t hs ht hij hl hl' => ?_, fun c hc => ?_, ?_, ?_⟩
 · rw [epf, ziq _ _ _ h.upf t1.1 (by omega) (by omega) (by omega), if_neg (fun e => tn0 e.symm)]; exact g.p0
 · rw [hss] at hs; rcases List.mem_append.1 hs with hs | hs
   · obtain ⟨a1, a2, a3, a4, a5⟩ := g.lv s hs hl; obtain ⟨r1, r2⟩ := h.ss s hs hl; refine ⟨a1, a2, ?_, ?_, hcells s hs hl⟩
     · show zfh (zbo k).pf (s.root - k.cd) = false; rw [epf, ziq _ _ _ h.upf t1.1 (by omega) (by omega) (by omega)]; split
       · rfl
       · exact a3
     · rw [eaf, ziq _ _ _ h.uaf t2.1 (by omega) (by omega) (by omega)]; split
       · rfl
       · exact a4
   · rw [List.mem_singleton.1 hs]; refine ⟨by show k.pb + tzI k.pf ≠ k.cd; omega, by show tzI k.af + 1 ≤ k.ca; omega, ?_, ?_, ?_⟩
     · show zfh (zbo k).pf (k.pb + tzI k.pf - k.cd) = false; rw [show k.pb + tzI k.pf - k.cd = tzI k.pf by omega, epf, ziq _ _ _ h.upf t1.1 (by omega) (by omega) (by omega), if_pos rfl]
     · show zfh (zbo k).af (tzI k.af + 1 - 1) = false; rw [show tzI k.af + 1 - 1 = tzI k.af by omega, eaf, ziq _ _ _ h.uaf t2.1 (by omega) (by omega) (by omega), if_pos rfl]
     · show ((k.pb + tzI k.pf) * 512 + 511, 33 + 1024 * k.sh) ∈ _; rw [show (k.pb + tzI k.pf) * 512 + 511 = 512 * (k.pb + tzI k.pf) + 511 by omega]; exact hnew
 · rw [hss] at hs ht; have look : ∀ (i : Nat) (s : Sp), (k.ss ++ [(⟨k.pb + tzI k.pf, tzI k.af + 1, true⟩ : Sp)])[i]? = some s → (i < k.ss.length ∧ k.ss[i]? = some s) ∨ (i = k.ss.length ∧ s = ⟨k.pb + tzI k.pf, tzI k.af + 1, true⟩) := fun i s hs => by
    by_cases hi : i < k.ss.length
    · rw [List.getElem?_append_left hi] at hs; exact .inl ⟨hi, hs⟩
    · rw [List.getElem?_append_right (by omega)] at hs; obtain ⟨d, hd⟩ : ∃ d, d = i - k.ss.length := ⟨_, rfl⟩; rw [← hd] at hs; cases d with
      | zero => simp at hs; exact .inr ⟨by omega, hs.symm⟩
      | succ d => simp at hs
   rcases look i s hs with ⟨_, hs⟩ | ⟨ei, es⟩
   · rcases look j t ht with ⟨_, ht⟩ | ⟨ej, et⟩
     · exact g.ap i j s t hs ht hij hl hl'
     · rw [et]; exact hne s (List.mem_of_getElem? hs) hl
   · rcases look j t ht with ⟨_, ht⟩ | ⟨ej, et⟩
     · rw [es]; have := hne t (List.mem_of_getElem? ht) hl'; exact ⟨fun e => this.1 e.symm, fun e => this.2 e.symm⟩
     · omega
 · rw [hm] at hc; rcases zc2 _ _ _ _ hc with hc | ⟨rfl, _⟩
   · obtain ⟨s, hs, hl, e⟩ := g.cl c hc; exact ⟨s, by rw [hss]; exact List.mem_append_left _ hs, hl, e⟩
   · refine ⟨⟨k.pb + tzI k.pf, tzI k.af + 1, true⟩, by rw [hss]; simp, rfl, ?_⟩
     show (512 * (k.pb + tzI k.pf) + 511, _) = ((k.pb + tzI k.pf) * 512 + 511, _); rw [show 512 * (k.pb + tzI k.pf) + 511 = (k.pb + tzI k.pf) * 512 + 511 by omega]; rfl
 · have := g.np; rw [epf, hss, zr2 _ _ rfl]; show _ = k.cp; omega
 · have := g.na; rw [eaf, hss, zr2 _ _ rfl]; show _ = k.ca; omega
theorem zcm {n : Nat} {k : Kr} (h : Inv n k) (g : Inv2 k) : Inv2 (zb4 k).1 := by
 unfold zb4; by_cases c1 : 32 ≤ k.ss.length
 · rw [if_pos c1]; exact g
 rw [if_neg c1]; by_cases c2 : k.af = 0
 · rw [if_pos c2]; exact g
 rw [if_neg c2]; by_cases c3 : k.pf = 0
 · rw [if_pos c3]; exact g
 rw [if_neg c3]; have := zr3 h g c2 c3
 split
 · exact { sh := this.sh, p0 := this.p0, lv := this.lv, ap := this.ap, cl := this.cl, np := this.np, na := this.na }
 · exact this
end RfK
namespace LaH
open Go.RowKit Bv VaSpec Base MemL RegR Ax MemC PutC OkS SpA SpB SpD SpE SpG SpH SpJ SpN SpO RfE RfJ RfK LaA LaB LaC LaD LaE LaF LaG
open PteSpec
theorem zkz {n : Int} (h : 0 ≤ n ∧ n < 17592186044416) : zay (33 + 1024 * n) = gP n := by
 have hm : zhr (gP n) = true := by rw [zdt]; unfold gP; simp; omega
 have hU : (gP n).U := by unfold Pte.U gP; simp; omega
 rw [← zx5 n h]; unfold PteC.zc4; rw [if_pos hm, zgf _ hU hm]
theorem z60 {n : Nat} {k : Kr} (h : Inv n k) (g : Inv2 k) : InvL n k := by
 have b1 := h.cd; have b2 := h.cp; have hsh := h.sh; have ash : Al k.cd k.cp k.pf k.sh := ⟨hsh, by rw [g.sh, show k.cd - k.cd = 0 by omega]; exact g.p0⟩
 have ass : ∀ s ∈ k.ss, s.live = true → Al k.cd k.cp k.pf s.root := fun s hs hl => ⟨(h.ss s hs hl).1, (g.lv s hs hl).2.2.1⟩; refine { g := ⟨h.cd, h.cp, h.sz, h.pf, h.m, fun c hc => ?_⟩, cs := h.cs, pb := h.pb, pm := h.pm, sh := ash, ts := h.ts, ml := h.ml, fl := h.fl, sl := h.sl, ss := ass }; obtain ⟨s, hs, hl, rfl⟩ := g.cl c hc; refine ⟨?_, (h.mc _ hc).2.2.2, ?_⟩
 · show Al k.cd k.cp k.pf ((s.root * 512 + 511) / 512); rw [show (s.root * 512 + 511) / 512 = s.root by omega]; exact ass s hs hl
 · show EOk k.cd k.cp k.pf (zay (33 + 1024 * k.sh)); rw [zkz (by omega)]; exact .inr ⟨rfl, ash⟩
noncomputable def bgK (a b c : Int) (n : Nat) : Kr := (zb4 (zb4 (zvi a b c n)).1).1
theorem z61 {a b c : Int} {n : Nat} (h : zf8 a b c n = true) : Inv 0 (zvi a b c n) ∧ Inv 1 (zb4 (zvi a b c n)).1 ∧ InvL 2 (bgK a b c n) := by
 have h0 := zim h; have g0 := zjf h; have h1 := zcs h0; have g1 := zcm h0 g0; exact ⟨h0, h1, z60 (zcs h1) (zcm h1 g1)⟩
def kr2 (m : List (Int × Int)) (pf af ao : Int) (ss : List Sp) : Kr := { cd := 4, cp := 8, ca := 2, cs := 1, sz := 49152, m := m, tn := 1, ts := zsL 1, sm := 0, sa := 0, sp := 0, priv := 0, su := false, mx := false, vic := -1, pb := 4, pm := 8, pf := pf, am := 2, af := af, ao := ao, ss := ss, now := -1, sh := 4, fs := [] }
def c0 : Kr := kr2 [] 254 3 0 []
def c1 : Kr := kr2 [(3071, 4129)] 252 2 1 [⟨5, 1, true⟩]
def c2 : Kr := kr2 [(3071, 4129), (3583, 4129)] 248 0 3 [⟨5, 1, true⟩, ⟨6, 2, true⟩]
def cA : Kr := kr2 [(2560, 7169), (3071, 4129), (3583, 4129), (3584, 8193), (4101, 1031)] 224 0 3 [⟨5, 1, true⟩, ⟨6, 2, true⟩]
theorem n0 : zvi 4 8 2 1 = c0 := by kernel_rfl
theorem e1 : zb4 c0 = (c1, 0, 0) := by
 unfold zb4 zbo zqd; rw [zpm]
 kernel_rfl
theorem e2 : zb4 c1 = (c2, 1, 0) := by
 unfold zb4 zbo zqd; rw [zpm]
 kernel_rfl
theorem bg2 : bgK 4 8 2 1 = c2 := by
 unfold bgK; rw [n0, e1, e2]
theorem i2 : InvL 2 c2 := by rw [← bg2]; exact (z61 (by decide)).2.2
def rw2 : Pm := ⟨true, true, false, false⟩
theorem mA : zdh c2 0 20480 4096 0 rw2 = (cA, 0) := by kernel_rfl
end LaH
end Go.Proofs.YtomeaibdedaldaaGreatDoor
