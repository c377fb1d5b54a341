/- Texts of this claim, one behind the other: LrD, LoB, LoC, LoD, LoG, LoH, LoI, LoJ, LoK. -/
import Derived.Test.YtomeaibdedaldaaGreatDoorV5
import Derived.Test.YtomeaibdedaldaaGreatDoorV4
set_option linter.unusedVariables false
set_option linter.unusedSimpArgs false
namespace Go.Proofs.YtomeaibdedaldaaGreatDoor.LrD
open Go.RowKit Bv VaSpec Base MemL RegR Ax MemC PutC MemC3 TzC OkS SpA SpB SpC SpD SpE SpF SpG SpH SpI SpJ SpK SpN RfA RfD RfE RfG RfJ LaA LaB LaC LaD LaE LaF LaG LaH LaI LaJ RlA RlB RlC LiE LiF LrA LrB LrC
open BitsC PteSpec
set_option maxRecDepth 10000
set_option maxHeartbeats 1000000
attribute [local irreducible] Ax.zbn
def frH (b m f : Int) (i n : Nat) : St := St.of [(1, .m (.c (.p 1 0))), (2, .m (ii 0)), (3, .m (ii n)), (4, .m (ii i))] [(1, .live (.box [cu b, ci m, cu f]))]
theorem zye (b m f : Int) (hf : U f) : Ok 21 [.ag [cu b, ci m, cu f]] (.m (ii (cnt f))) := by
  obtain ⟨R, hR⟩ : ∃ R : Nat, R = cnt f := ⟨_, rfl⟩
  rw [← hR]
  refine zah 16 Tryz.func21 rfl rfl rfl rfl ?_ GG.to
  intro W A hG
  repeat (first | (refine zaj rfl ?_; first | refine zak ?_) | (refine hK _ ?_; clear hK K) | refine zac rfl ?_ | refine zad ?_ | refine zab (fun K hK => ?_))
  refine za3 (α := Nat × Nat) (fun p => p.1 ≤ 64 ∧ p.2 = cs p.1 (fun j => zeo f (j : Int)) ∧ p.2 ≤ p.1) (fun p => frH b m f p.1 p.2) (fun p => 64 - p.1) (0, 0) ⟨by show 0 ≤ 64; omega, rfl, by show 0 ≤ 0; omega⟩ (sbq _ _) ?_
  rintro ⟨i, n⟩ ⟨x1, x2, x3⟩
  have g1 : i ≤ 64 := x1
  have g2 : n = cs i (fun j => zeo f (j : Int)) := x2
  have g3 : n ≤ i := x3
  show Aw _ _ _ _ (frH b m f i n)
  unfold frH
  by_cases hlt : i < 64
  · have h1 := zer f (i : Int) hf (by omega) (by omega)
    cases hb : zeo f (i : Int) with
    | true =>
      rw [hb] at h1
      repeat (first | (refine zaj rfl ?_; first | refine zak ?_ | refine gdr (zaa rfl rfl rfl (h1) (by kernel_rfl)) ?_) | (refine hK _ ?_; clear hK K) | refine zac rfl ?_ | refine zag rfl rfl ?_ | refine zad ?_ | refine zai ?_ | refine zab (fun K hK => ?_))
      exact ⟨(i + 1, n + 1), ⟨by show i + 1 ≤ 64; omega, by show n + 1 = cs i (fun j => zeo f (j : Int)) + (zeo f (i : Int)).toNat; rw [hb, g2]; rfl, by show n + 1 ≤ i + 1; omega⟩, by show 64 - (i + 1) < 64 - i; omega, sbq _ _⟩
    | false =>
      rw [hb] at h1
      repeat (first | (refine zaj rfl ?_; first | refine zak ?_ | refine gdr (zaa rfl rfl rfl (h1) (by kernel_rfl)) ?_) | (refine hK _ ?_; clear hK K) | refine zac rfl ?_ | refine zag rfl rfl ?_ | refine zae rfl rfl ?_ | refine zad ?_ | refine zai ?_ | refine zab (fun K hK => ?_))
      exact ⟨(i + 1, n), ⟨by show i + 1 ≤ 64; omega, by show n = cs i (fun j => zeo f (j : Int)) + (zeo f (i : Int)).toNat; rw [hb, g2]; rfl, by show n ≤ i + 1; omega⟩, by show 64 - (i + 1) < 64 - i; omega, sbq _ _⟩
  · have e : i = 64 := by omega
    subst e
    have e2 : R = n := by rw [hR, g2]; rfl
    subst e2
    repeat (first | (refine zaj rfl ?_; first | refine zak ?_) | (refine hK _ ?_; clear hK K) | (rename_i K1 hK1; refine hK1 _ ?_; clear hK hK1; clear K) | refine zac rfl ?_ | exact zaf (show zav _ _ _ = some _ by kernel_rfl) | refine zae rfl rfl ?_ | refine zan ?_ | refine zab (fun K hK => ?_))
end Go.Proofs.YtomeaibdedaldaaGreatDoor.LrD
namespace Go.Proofs.YtomeaibdedaldaaGreatDoor.LoB
open Go.RowKit Bv VaSpec Base MemL RegR Ax MemC PutC MemC3 TzC OkS SpA SpB SpC SpD SpE SpF SpN SpO SpG SpH SpI SpJ LaA LaB LaC LaD LaE LaF LaG LiA LiB LiC LiD LiE LiF LrA LrB LrC LjA LjF LkE LmA LmB LmE LnA LnB BitsC PteSpec RfE RfG RfJ RfK LaH RfA RfP RfQ LnD LnF LnG LnH RfC RfD RlA RlB LoA LrD RfB SpG
open BitsC PteSpec
set_option maxRecDepth 10000
set_option maxHeartbeats 1000000
theorem z4j (w : World) (q : Pte) :
    (Op.equalIn 10000 65 (.agg #[.bool q.v, .bool q.r, .bool q.w, .bool q.x, .bool q.u, .bool q.g, .bool q.a, .bool q.d, .int .u64 q.rsw, .int .u64 q.ppn, .int .u64 q.high]) (.agg #[.bool q.v, .bool q.r, .bool q.w, .bool q.x, .bool q.u, .bool q.g, .bool q.a, .bool q.d, .int .u64 q.rsw, .int .u64 q.ppn, .int .u64 q.high])).run Tryz.prog w = .ok true w := by
  have : (Op.equalIn 10000 65 (.agg #[.bool q.v, .bool q.r, .bool q.w, .bool q.x, .bool q.u, .bool q.g, .bool q.a, .bool q.d, .int .u64 q.rsw, .int .u64 q.ppn, .int .u64 q.high]) (.agg #[.bool q.v, .bool q.r, .bool q.w, .bool q.x, .bool q.u, .bool q.g, .bool q.a, .bool q.d, .int .u64 q.rsw, .int .u64 q.ppn, .int .u64 q.high])).run Tryz.prog w = .ok (q.v == q.v && (q.r == q.r && (q.w == q.w && (q.x == q.x && (q.u == q.u && (q.g == q.g && (q.a == q.a && (q.d == q.d && (q.rsw == q.rsw && (q.ppn == q.ppn && (q.high == q.high && true))))))))))) w := by
    refine PoolC4.zck Tryz.underlying65 (by kernel_rfl) ?_
    refine PoolC4.zar (by rfl) (by go_simp; rfl) (by go_simp; rfl) (by go_simp) ?_
    refine PoolC4.zar (by rfl) (by go_simp; rfl) (by go_simp; rfl) (by go_simp) ?_
    refine PoolC4.zar (by rfl) (by go_simp; rfl) (by go_simp; rfl) (by go_simp) ?_
    refine PoolC4.zar (by rfl) (by go_simp; rfl) (by go_simp; rfl) (by go_simp) ?_
    refine PoolC4.zar (by rfl) (by go_simp; rfl) (by go_simp; rfl) (by go_simp) ?_
    refine PoolC4.zar (by rfl) (by go_simp; rfl) (by go_simp; rfl) (by go_simp) ?_
    refine PoolC4.zar (by rfl) (by go_simp; rfl) (by go_simp; rfl) (by go_simp) ?_
    refine PoolC4.zar (by rfl) (by go_simp; rfl) (by go_simp; rfl) (by go_simp) ?_
    refine PoolC4.zar (by rfl) (by go_simp; rfl) (by go_simp; rfl) (by go_simp) ?_
    refine PoolC4.zar (by rfl) (by go_simp; rfl) (by go_simp; rfl) (by go_simp) ?_
    exact PoolC4.zar (by rfl) (by go_simp; rfl) (by go_simp; rfl) (by go_simp) PoolC4.zb1
  rw [this]; simp
attribute [local irreducible] Ax.zbn
def zsw (k : Kr) (s : Sp) : List Int := frN k.sz (zbq k.m (s.root * 512 + 511) 0) 2 s.root
def zd8 (k : Kr) (l : List Sp) : List Int := frN k.sz k.m 1 k.sh ++ l.flatMap fun s => if s.live then zsw k s else []
theorem zv6 (k : Kr) (l : List Sp) (s : Sp) : zd8 k (l ++ [s]) = zd8 k l ++ (if s.live then zsw k s else []) := by
  unfold zd8
  rw [List.flatMap_append, ← List.append_assoc]
  simp
theorem zyf (k : Kr) (l r : List Sp) : ∃ q, zd8 k (l ++ r) = zd8 k l ++ q := by
  unfold zd8
  rw [List.flatMap_append, ← List.append_assoc]
  exact ⟨_, rfl⟩
theorem z5v {cd cp f x : Int} (h : Al cd cp f x) : PoolC.isP cd cp f x = true := by
  obtain ⟨h1, h2⟩ := h
  unfold PoolC.isP PoolC.inP
  rw [decide_eq_true (by omega), decide_eq_true (by omega), zlt _ _ (by omega), h2]
  rfl
def trH (k : Kr) (i n : Nat) (xs : List Value) : St := St.of [(1, .m (.c (.p 1 0))), (3, .m (.c (.s n 1 xs))), (4, .m (ib true)), (5, .m (ii i))] [(1, .live (.box k.ce))]
theorem z17 {l : List Sp} {i : Nat} {s : Sp} (h : l[i]? = some s) : l.take (i + 1) = l.take i ++ [s] := by rw [List.take_add_one, h]; rfl
theorem zrh {cd cp sz f sh : Int} {xs : List (Int × Int)} {lv : Int → Int} (h : TI cd cp sz xs f sh lv) {rt : Int} (ha : Al cd cp f rt) : TI cd cp sz (zbq xs (rt * 512 + 511) 0) f sh lv ∧ ∀ s j, (0 ≤ j ∧ j < 512) → atM sz (zbq xs (rt * 512 + 511) 0) s j = if s = rt ∧ j = 511 then zP else atM sz xs s j := by
  have b1 := h.bd
  have bt := ha.1
  refine ⟨h.put bt (by omega) ⟨by omega, by omega⟩ h.bf fun E' hE => h.e.sub fun s j hj => ?_, fun s j hj => zfg (cd := cd) (cp := cp) h.s h.bz (by omega) (by omega) s j hj⟩
  rw [hE s j hj, zly]
  split
  · exact .inl rfl
  · exact .inr rfl
theorem zv7 {n : Nat} {k : Kr} (h : InvT n k) (hn : n ≤ 100000) (hg : ∀ s ∈ k.ss, s.live = true → atM k.sz k.m s.root 511 = gP k.sh) (hnd : (zd8 k k.ss).Nodup) (hal : ∀ x ∈ zd8 k k.ss, Al k.cd k.cp k.pf x) (hc : ((zd8 k k.ss).length : Int) + cnt k.pf = k.cp) : Ok 17 [.ag k.ce] (.m (ib true)) := by
  obtain ⟨lv, hT, hs, hr⟩ := h.t
  have b1 := hT.bd
  have b2 := hT.bp
  have bz := hT.bz
  have hml := h.l.ml
  have hsl := h.l.sl
  have hpb := h.l.pb
  have hpm := h.l.pm
  have hsh := h.l.sh
  have bsh := hsh.1
  have pre : ∀ l r, k.ss = l ++ r → (zd8 k l).Nodup ∧ (zd8 k l).length ≤ 64 := fun l r e => by
    obtain ⟨q, hq⟩ := zyf k l r
    rw [← e] at hq
    rw [hq] at hnd hc
    rw [List.nodup_append] at hnd
    rw [List.length_append] at hc
    exact ⟨hnd.1, by omega⟩
  have p0 := pre [] k.ss rfl
  have m0 : zd8 k [] = frN k.sz k.m 1 k.sh := by unfold zd8; simp
  rw [m0] at p0
  have hr0 := zkt hT (by omega) 1 k.sh [] (by omega) hsh (by rw [hs]; rfl) (by simpa using p0.1) (by simpa using p0.2)
  have hr1 : Ok 65 [zb2 k.sz k.m, iu k.sh, ii 1, .c (.v (.slice none 0 0))] (.tu [.c (.s (zd8 k []).length 1 (flU (zd8 k []))), ib true]) := by
    rw [m0]
    exact zph hr0 rfl ⟨fun _ _ h => h, fun _ _ h => h, fun _ _ h => h, fun E v hv => ltC.nil 1 E v hv, trivial⟩
  have hfree := zye k.pb k.pm k.pf hT.uf
  refine zah 97 Tryz.func17 rfl rfl rfl rfl ?_ GG.to
  intro W A hG
  repeat (first | (refine zaj rfl ?_; first | refine zak ?_ | refine gdr (zaa rfl rfl rfl (hr1) (by kernel_rfl)) ?_) | (refine hK _ ?_; clear hK K) | (rename_i K1 hK1; refine hK1 _ ?_; clear hK hK1; clear K) | (rename_i K1 hK1; refine hK1 _ ?_; clear hK1) | refine zac rfl ?_ | refine zas (by kernel_rfl) (by kernel_rfl) rfl ?_ | exact zaf (show zav _ _ _ = some _ by kernel_rfl) | refine zag rfl rfl ?_ | refine zae rfl rfl ?_ | refine zad ?_ | refine zan ?_ | refine zai ?_ | refine zab (fun K hK => ?_) | refine zap ?_ | refine zau ?_ | refine zaf (show zav _ _ _ = some _ ∧ EndB _ _ from ⟨by kernel_rfl, ?_⟩))
  refine za3 (α := Nat) (fun i => i ≤ k.ss.length) (fun i => trH k i (zd8 k (k.ss.take i)).length (flU (zd8 k (k.ss.take i)))) (fun i => k.ss.length - i) 0 (Nat.zero_le _) (sbq _ _) ?_
  intro i hi
  show Aw _ _ _ _ (trH k i (zd8 k (k.ss.take i)).length (flU (zd8 k (k.ss.take i))))
  unfold trH
  by_cases hlt : i < k.ss.length
  · obtain ⟨s, hs0⟩ : ∃ s, k.ss[i]? = some s := ⟨_, List.getElem?_eq_getElem hlt⟩
    have hx : ((flS k.ss).drop (i * 3)).take 3 = [.int .u64 s.root, .int .u64 s.asid, .bool s.live] := zd7 Sp.vs 3 (fun _ => rfl) k.ss _ s hs0
    have hsm := List.mem_of_getElem? hs0
    have htk := z17 hs0
    have hsn := zv6 k (k.ss.take i) s
    rw [← htk] at hsn
    have hp := pre (k.ss.take (i + 1)) (k.ss.drop (i + 1)) (List.take_append_drop _ _).symm
    cases hl : s.live with
    | false =>
      rw [hl] at hx hsn
      replace hsn : zd8 k (k.ss.take (i + 1)) = zd8 k (k.ss.take i) := by rw [hsn]; simp
      repeat (first | (refine zaj rfl ?_; first | refine zak ?_) | (refine hK _ ?_; clear hK K) | (rename_i K1 hK1; refine hK1 _ ?_; clear hK hK1; clear K) | (rename_i K1 hK1; refine hK1 _ ?_; clear hK1) | refine zac rfl ?_ | refine zas (by kernel_rfl) (by kernel_rfl) rfl ?_ | exact zaf (show zav _ _ _ = some _ by kernel_rfl) | refine zag rfl rfl ?_ | refine zae rfl rfl ?_ | refine zad ?_ | refine zan ?_ | refine zai ?_ | refine zab (fun K hK => ?_) | refine zap ?_ | refine zau ?_ | refine zaf (show zav _ _ _ = some _ ∧ EndB _ _ from ⟨by kernel_rfl, ?_⟩))
      refine ⟨i + 1, hlt, by omega, ?_⟩
      rw [hsn]
      exact sbq _ _
    | true =>
      rw [hl] at hx hsn
      replace hsn : zd8 k (k.ss.take (i + 1)) = zd8 k (k.ss.take i) ++ zsw k s := by rw [hsn]; simp
      have har := h.l.ss s hsm hl
      have hrl := hr s hsm hl
      have bar := har.1
      have ha := zy1 k.sz k.m s.root 511 ⟨by omega, by omega⟩ ⟨by omega, by omega⟩ hT.s hT.u (by omega)
      rw [show zay (zbj k.sz k.m (4096 * s.root + 8 * 511)) = gP k.sh from by
        rw [show 4096 * s.root + 8 * 511 = s.root * 4096 + 511 * 8 by omega]; exact hg s hsm hl] at ha
      have hpl := zic k.m (512 * s.root + 511) 0
      have hst := zjl k.sz k.m (512 * s.root + 511) 0 hT.s (by omega)
      have hTo := (zrh hT har).1
      have e5 : s.root * 512 + 511 = 512 * s.root + 511 := by omega
      have hrr := zkt hTo (by rw [e5]; omega) 2 s.root (zd8 k (k.ss.take i)) (by omega) har hrl (by
        have := hp.1; rw [hsn] at this; exact this) (by
        have := hp.2; rw [hsn] at this; exact this)
      replace hrr : Ok 65 [zb2 k.sz (zbq k.m (s.root * 512 + 511) 0), iu s.root, ii 2, .c (.s (zd8 k (k.ss.take i)).length 1 (flU (zd8 k (k.ss.take i))))] (.tu [.c (.s (zd8 k (k.ss.take i) ++ zsw k s).length 1 (flU (zd8 k (k.ss.take i) ++ zsw k s))), ib true]) := hrr
      rw [← hsn] at hrr
      rw [e5] at hrr
      clear hsn hp
      generalize zd8 k (k.ss.take i) = M0 at *
      repeat (first | (refine zaj rfl ?_; first | refine zak ?_ | refine gdr (zaa rfl rfl rfl (ha) (by kernel_rfl)) ?_ | refine gdr (zaa rfl rfl rfl (hst) (by kernel_rfl)) ?_ | refine gdr (zaa rfl rfl rfl (hrr) (by kernel_rfl)) ?_ | refine gdr (zdf (us := [.bool true, .bool false, .bool false, .bool false, .bool false, .bool true, .bool false, .bool false, .int .u64 0, .int .u64 k.sh, .int .u64 0]) (vs := [.bool true, .bool false, .bool false, .bool false, .bool false, .bool true, .bool false, .bool false, .int .u64 0, .int .u64 k.sh, .int .u64 0]) (fun w => z4j w (gP k.sh)) (by kernel_rfl) rfl rfl (by kernel_rfl) (by kernel_rfl)) ?_) | (refine hK _ ?_; clear hK K) | (rename_i K1 hK1; refine hK1 _ ?_; clear hK hK1; clear K) | (rename_i K1 hK1; refine hK1 _ ?_; clear hK1) | refine zac rfl ?_ | refine zas (by kernel_rfl) (by kernel_rfl) rfl ?_ | exact zaf (show zav _ _ _ = some _ by kernel_rfl) | refine zag rfl rfl ?_ | refine zae rfl rfl ?_ | refine zad ?_ | refine zan ?_ | refine zai ?_ | refine zab (fun K hK => ?_) | refine zap ?_ | refine zau ?_ | refine zaf (show zav _ _ _ = some _ ∧ EndB _ _ from ⟨by kernel_rfl, ?_⟩))
      exact ⟨i + 1, hlt, by omega, sbq _ _⟩
  · have hi' : i = k.ss.length := by omega
    rw [hi', List.take_length]
    have hi2 : ¬ i < k.ss.length := hlt
    clear pre p0 m0 hr0 hr1
    have hcb : ((zd8 k k.ss).length : Int) = k.pm - (cnt k.pf : Int) := by omega
    clear hnd
    generalize hM : zd8 k k.ss = M at *
    subst hi'
    repeat (first | (refine zaj rfl ?_; first | refine zak ?_ | refine gdr (zaa rfl rfl rfl (hfree) (by kernel_rfl)) ?_) | (refine hK _ ?_; clear hK K) | (rename_i K1 hK1; refine hK1 _ ?_; clear hK hK1; clear K) | (rename_i K1 hK1; refine hK1 _ ?_; clear hK1) | refine zac rfl ?_ | refine zas (by kernel_rfl) (by kernel_rfl) rfl ?_ | exact zaf (show zav _ _ _ = some _ by kernel_rfl) | refine zag rfl rfl ?_ | refine zae rfl rfl ?_ | refine zad ?_ | refine zan ?_ | refine zai ?_ | refine zab (fun K hK => ?_) | refine zap ?_ | refine zau ?_ | refine zaf (show zav _ _ _ = some _ ∧ EndB _ _ from ⟨by kernel_rfl, ?_⟩))
    refine za3 (α := Nat) (fun j => j ≤ M.length) (fun j => St.of [(1, .m (.c (.p 1 0))), (3, .m (.c (.s M.length 1 (flU M)))), (7, .m (ii j))] [(1, .live (.box k.ce))]) (fun j => M.length - j) 0 (Nat.zero_le _) (sbq _ _) ?_
    intro j hj
    by_cases hjt : j < M.length
    · obtain ⟨x, hx0⟩ : ∃ x, M[j]? = some x := ⟨_, List.getElem?_eq_getElem hjt⟩
      have hx := zzk hx0
      have hin := hal x (List.mem_of_getElem? hx0)
      have bin := hin.1
      have his := z1p k.pb k.pm k.pf x (by omega) (by omega) hT.uf ⟨by omega, by omega⟩
      rw [hpb, hpm, z5v hin, ← hpb, ← hpm] at his
      repeat (first | (refine zaj rfl ?_; first | refine zak ?_ | refine gdr (zaa rfl rfl rfl (his) (by kernel_rfl)) ?_) | (refine hK _ ?_; clear hK K) | (rename_i K1 hK1; refine hK1 _ ?_; clear hK hK1; clear K) | (rename_i K1 hK1; refine hK1 _ ?_; clear hK1) | refine zac rfl ?_ | refine zas (by kernel_rfl) (by kernel_rfl) rfl ?_ | exact zaf (show zav _ _ _ = some _ by kernel_rfl) | refine zag rfl rfl ?_ | refine zae rfl rfl ?_ | refine zad ?_ | refine zan ?_ | refine zai ?_ | refine zab (fun K hK => ?_) | refine zap ?_ | refine zau ?_ | refine zaf (show zav _ _ _ = some _ ∧ EndB _ _ from ⟨by kernel_rfl, ?_⟩))
      exact ⟨j + 1, by omega, by omega, sbq _ _⟩
    · skip
      repeat (first | (refine zaj rfl ?_; first | refine zak ?_) | (refine hK _ ?_; clear hK K) | (rename_i K1 hK1; refine hK1 _ ?_; clear hK hK1; clear K) | (rename_i K1 hK1; refine hK1 _ ?_; clear hK1) | refine zac rfl ?_ | refine zas (by kernel_rfl) (by kernel_rfl) rfl ?_ | exact zaf (show zav _ _ _ = some _ by kernel_rfl) | refine zag rfl rfl ?_ | refine zae rfl rfl ?_ | refine zad ?_ | refine zan ?_ | refine zai ?_ | refine zab (fun K hK => ?_) | refine zap ?_ | refine zau ?_ | refine zaf (show zav _ _ _ = some _ ∧ EndB _ _ from ⟨by kernel_rfl, ?_⟩))
end Go.Proofs.YtomeaibdedaldaaGreatDoor.LoB
namespace Go.Proofs.YtomeaibdedaldaaGreatDoor.LoC
open Go.RowKit Bv VaSpec Base MemL RegR Ax MemC PutC MemC3 TzC OkS SpA SpB SpC SpD SpE SpF SpN SpO SpG SpH SpI SpJ LaA LaB LaC LaD LaE LaF LaG LiA LiB LiC LiD LiE LiF LrA LrB LrC LjA LjF LkE LmA LmB LmE LnA LnB BitsC PteSpec RfE RfG RfJ RfK LaH RfA RfP RfQ LnD LnF LnG LnH RfC RfD RlA RlB LoA LrD RfB SpG LoB
open BitsC PteSpec
set_option maxRecDepth 10000
set_option maxHeartbeats 1000000
theorem zv8 (p : Nat → Bool) : ∀ n : Nat, ((List.range n).filter fun j => !p j).length + cs n p = n
  | 0 => rfl
  | n + 1 => by
    have I := zv8 p n
    rw [List.range_succ, List.filter_append, List.length_append]
    have e : cs (n + 1) p = cs n p + (p n).toNat := by simp [cs]
    rw [e]
    cases h : p n <;> simp [h] <;> omega
theorem z4k (p : Nat → Bool) (m : Nat) (hp : ∀ j, m ≤ j → p j = false) : ∀ d : Nat, cs (m + d) p = cs m p
  | 0 => rfl
  | d + 1 => by
    have e : cs (m + (d + 1)) p = cs (m + d) p + (p (m + d)).toNat := by
      rw [show m + (d + 1) = (m + d) + 1 by omega]; simp [cs]
    rw [e, z4k p m hp d, hp _ (by omega)]; rfl
theorem z4l {f : Int} {c : Nat} (hu : U f) (hf : f < 2 ^ c) (j : Nat) (hj : c ≤ j) : zeo f (j : Int) = false := by
  rw [zdm (by omega), Int.toNat_natCast]
  have e : (X f).toNat = f.toNat := zpn hu
  have : (X f).toNat < 2 ^ j := by
    rw [e]
    have h1 : (2 : Int) ^ c = ((2 ^ c : Nat) : Int) := by push_cast; rfl
    have h2 : 2 ^ c ≤ 2 ^ j := Nat.pow_le_pow_right (by omega) hj
    have := hu.1
    omega
  rw [BitVec.getLsbD]
  exact Nat.testBit_lt_two_pow this
def alL (cd cp f : Int) : List Int := ((List.range cp.toNat).filter fun (j : Nat) => !zeo f (j : Int)).map fun (j : Nat) => cd + (j : Int)
theorem zv9 {cd cp f s : Int} : s ∈ alL cd cp f ↔ Al cd cp f s := by
  unfold alL Al
  rw [List.mem_map]
  constructor
  · rintro ⟨j, hj, rfl⟩
    obtain ⟨h1, h2⟩ := List.mem_filter.1 hj
    have h1 := List.mem_range.1 h1
    rw [Bool.not_eq_true'] at h2
    exact ⟨⟨by omega, by omega⟩, by rw [show cd + (j : Int) - cd = (j : Int) by omega]; exact h2⟩
  · rintro ⟨⟨h1, h2⟩, h3⟩
    refine ⟨(s - cd).toNat, List.mem_filter.2 ⟨List.mem_range.2 (by omega), ?_⟩, by omega⟩
    rw [show (((s - cd).toNat : Nat) : Int) = s - cd by omega, h3]; rfl
theorem z4m (cd cp f : Int) : (alL cd cp f).Nodup := by
  unfold alL
  refine List.Pairwise.map _ ?_ ((List.nodup_range (n := cp.toNat)).sublist List.filter_sublist)
  intro a b hab e
  exact hab (by omega)
theorem zwa {cd cp f : Int} (hb : 1 ≤ cp ∧ cp ≤ 64) (hf : 0 ≤ f ∧ f < 2 ^ cp.toNat) : ((alL cd cp f).length : Int) + cnt f = cp := by
  have hu : U f := zgs hf.1 hf.2 (by omega)
  have h1 := zv8 (fun j => zeo f (j : Int)) cp.toNat
  have h2 := z4k (fun j => zeo f (j : Int)) cp.toNat (fun j hj => z4l hu hf.2 j hj) (64 - cp.toNat)
  rw [show cp.toNat + (64 - cp.toNat) = 64 by omega] at h2
  unfold alL cnt
  rw [List.length_map, h2]
  omega
structure GI (E : Int → Int → Pte) (al : Int → Prop) (sh : Int) (rs : List Int) : Prop where
  r : ∀ r ∈ rs, E r 511 = gP sh
  g : ∀ s i, (0 ≤ i ∧ i < 512) → lkP (E s i) = true → (E s i).ppn ≠ sh → (E s i).g = false
  c : ∀ s, al s → s = sh ∨ s ∈ rs ∨ ∃ t i, (0 ≤ i ∧ i < 512) ∧ lkP (E t i) = true ∧ (E t i).ppn = s
theorem zyg (n : Int) : lkP (gP n) = true ∧ (gP n).ppn = n := ⟨rfl, rfl⟩
theorem GI.grow {E E' : Int → Int → Pte} {al al' : Int → Prop} {sh : Int} {rs : List Int} (h : GI E al sh rs) (h1 : ∀ s i, (0 ≤ i ∧ i < 512) → lkP (E s i) = true → E' s i = E s i) (h2 : ∀ s i, (0 ≤ i ∧ i < 512) → lkP (E' s i) = true → (E' s i).ppn ≠ sh → E' s i = E s i ∨ (E' s i).g = false) (h3 : ∀ s, al' s → al s ∨ ∃ t i, (0 ≤ i ∧ i < 512) ∧ lkP (E' t i) = true ∧ (E' t i).ppn = s) : GI E' al' sh rs := by
  refine ⟨fun r hr => ?_, fun s i hi k1 k2 => ?_, fun s hs => ?_⟩
  · have e := h.r r hr
    rw [h1 r 511 (by omega) (by rw [e]; exact (zyg sh).1), e]
  · rcases h2 s i hi k1 k2 with e | e
    · rw [e] at k1 k2 ⊢; exact h.g s i hi k1 k2
    · exact e
  · rcases h3 s hs with q | q
    · rcases h.c s q with e | e | ⟨t, i, hi, q1, q2⟩
      · exact .inl e
      · exact .inr (.inl e)
      · have e := h1 t i hi q1
        exact .inr (.inr ⟨t, i, hi, by rw [e]; exact q1, by rw [e]; exact q2⟩)
    · exact .inr (.inr q)
section
variable {cd cp sz sh : Int} {rs : List Int}
theorem z4n (addr zam : Int) (hw : 0 ≤ zam) : ∀ (l : Nat) (xs : List (Int × Int)) (f t : Int) (lv : Int → Int), TI cd cp sz xs f sh lv → GI (atM sz xs) (Al cd cp f) sh rs → Al cd cp f t → Al cd cp f sh → lv t = l → l ≤ 2 → zam ≤ (l : Int) → (atM sz xs t (idx addr (l : Int))).v = false → (dnN sz cd addr zam l xs f t).2.2.2 = 0 →
    GI (atM sz (dnN sz cd addr zam l xs f t).1) (Al cd cp (dnN sz cd addr zam l xs f t).2.1) sh rs ∧ (atM sz (dnN sz cd addr zam l xs f t).1 (dnN sz cd addr zam l xs f t).2.2.1 (idx addr zam)).v = false
  | 0, xs, f, t, lv, h, g, ht, _, hl, _, hwl, hv, _ => ⟨g, by
    have e : zam = ((0 : Nat) : Int) := by omega
    rw [e]; exact hv⟩
  | l + 1, xs, f, t, lv, h, g, ht, hsh, hl, h2, hwl, hv, he => by
    have hi := idx_bd addr ((l + 1 : Nat) : Int)
    have hlf : zaz (atM sz xs t (idx addr ((l + 1 : Nat) : Int))) = false := by unfold zaz; rw [hv]; rfl
    have hn : zbk (atM sz xs t (idx addr ((l + 1 : Nat) : Int))) = false := by unfold zbk; rw [hv]; rfl
    have hnl : lkP (atM sz xs t (idx addr ((l + 1 : Nat) : Int))) = false := by
      cases e : lkP (atM sz xs t (idx addr ((l + 1 : Nat) : Int))) with
      | false => rfl
      | true => rw [(zbs e).1] at hn; cases hn
    unfold dnN at he ⊢
    by_cases c1 : ((l + 1 : Nat) : Int) ≤ zam
    · rw [if_pos c1]
      have e : zam = ((l + 1 : Nat) : Int) := by omega
      exact ⟨g, by rw [e]; exact hv⟩
    · rw [if_neg c1, if_neg (by rw [hlf]; simp), if_neg (by rw [hv]; simp)] at he ⊢
      by_cases c4 : f = 0
      · rw [if_pos c4] at he; cases he
      · rw [if_neg c4] at he ⊢
        obtain ⟨a0, a1, a2, a3⟩ := zff h c4
        have b1 := h.bd
        have b2 := h.bp
        have hbt := ht.1
        have hnn : 0 ≤ cd + tzI f ∧ cd + tzI f < 17592186044416 := by omega
        have hT := zl7 h c4 ht hsh (by rw [hl]; omega) hi hn
        have hat := fun s j hj => zmc h ht hi (zhp hnn) (zeq hnn) s j hj
        have hcp : cp ≤ 64 := b2.2
        refine z4n addr zam hw l _ _ _ _ hT ?_ a1 (a0 _ hsh).1 (by rw [hl]; show upL lv (cd + tzI f) _ (cd + tzI f) = _; unfold upL; rw [if_pos rfl]; omega) (by omega) (by omega) ?_ he
        · refine g.grow (fun s i hi' hk => ?_) (fun s i hi' k1 k2 => ?_) (fun s hs => ?_)
          · rw [hat s i hi', if_neg]
            rintro ⟨rfl, rfl⟩
            rw [hnl] at hk; cases hk
          · rw [hat s i hi']
            by_cases c : s = t ∧ i = idx addr ((l + 1 : Nat) : Int)
            · rw [if_pos c]; exact .inr rfl
            · rw [if_neg c]; exact .inl rfl
          · by_cases c : s = cd + tzI f
            · refine .inr ⟨t, _, hi, ?_, ?_⟩
              · rw [hat t _ hi, if_pos ⟨rfl, rfl⟩]; rfl
              · rw [hat t _ hi, if_pos ⟨rfl, rfl⟩]; exact c.symm
            · refine .inl ⟨hs.1, ?_⟩
              have := hs.2
              have t1 := zcl h.uf h.bf.2 c4
              rw [zfb h.uf t1.1 (by omega) (by have := hs.1; omega) (by have := hs.1; omega), if_neg (by omega)] at this
              exact this
        · have hj := idx_bd addr (l : Int)
          rw [hat _ _ hj, if_neg (by rintro ⟨e, _⟩; exact (a0 _ ht).2 e.symm)]
          rcases h.e.k (cd + tzI f) _ hj with e | ⟨e, _⟩
          · rw [e]; rfl
          · exact absurd rfl (a0 _ e).2
end
def rtL (k : Kr) : List Int := (k.ss.filter (·.live)).map (·.root)
structure InvG (k : Kr) : Prop where
  g : GI (atM k.sz k.m) (Al k.cd k.cp k.pf) k.sh (rtL k)
  d : Rts k
theorem z4o {n : Nat} {k : Kr} {id a pa l : Int} {p : Pm} (h : InvT n k) (g : InvG k) (hp : U pa) : InvG (zb6 k id a pa l p).1 := by
  refine ⟨?_, zp3 g.d id a pa l p⟩
  have g := g.g
  unfold zb6
  by_cases c0 : (zao k id a l).2.2 ≠ 0
  · rw [if_pos c0]; exact g
  rw [if_neg c0]
  by_cases c1 : lk0 pa l ≠ 0
  · rw [if_pos c1]; exact g
  rw [if_neg c1]
  by_cases c2 : lk1 k pa l ≠ 0
  · rw [if_pos c2]; exact g
  rw [if_neg c2]
  by_cases c3 : lk2 p ≠ 0
  · rw [if_pos c3]; exact g
  rw [if_neg c3]
  by_cases c4 : lk3 k (zao k id a l).1 (zao k id a l).2.1 a l ≠ 0
  · rw [if_pos c4]; exact g
  rw [if_neg c4]
  by_cases c5 : (zko k (zao k id a l).1 (zao k id a l).2.1 a l).2.2.2 ≠ 0
  · rw [if_pos c5]; exact g
  rw [if_neg c5]
  obtain ⟨lv, hT, hs, hr⟩ := h.t
  obtain ⟨w1, w2, w3, w4⟩ := zbt (id := id) (a := a) (l := l) h.l (by omega)
  obtain ⟨z1, z2⟩ := h.top (id := id) (a := a) (l := l) (by omega) hs hr
  have hv := zza k (zao k id a l).1 (zao k id a l).2.1 a l
  generalize zao k id a l = w at *
  obtain ⟨m, hm⟩ : ∃ m : Nat, w.2.1 = (m : Int) := ⟨w.2.1.toNat, by omega⟩
  have hre : za6 k.sz k.m a l w.2.1 w.1 = zat k.sz k.m a l m w.1 := by unfold za6; rw [hm, Int.toNat_natCast]
  have hD : zko k w.1 w.2.1 a l = dnN k.sz k.cd a l m k.m k.pf w.1 := by unfold zko; rw [hm, Int.toNat_natCast]
  rw [hre] at hv
  have hv : (atM k.sz k.m (zat k.sz k.m a l m w.1).1 (idx a (zat k.sz k.m a l m w.1).2)).v = false := by
    rcases hv with e | e
    · exact e.2
    · exact absurd e (by omega)
  obtain ⟨l', t', i1, i2, i3, i4, i5, i6, i7⟩ := zfv k.cd k.cp k.sz a l w1.1 hT.gm m w.1 w2 (by omega)
  obtain ⟨l'', t'', j1, j2, j3, j4, j5, j6, _⟩ := zfz hT a l w1.1 m w.1 w2 (by omega) (by omega)
  have ee := i1.symm.trans j1
  simp only [Prod.mk.injEq] at ee
  have ht : t' = t'' := ee.1
  have hl' : l' = l'' := by omega
  subst ht hl'
  rw [i1] at hv
  rw [hD] at c5 ⊢
  obtain ⟨lv', r1, r2, r3, r4⟩ := zvs a l w1.1 m k.m k.pf w.1 lv hT w2 h.l.sh (by omega) (by omega) (by omega) (by omega)
  rw [i6] at c5 r1 r2 r3 ⊢
  obtain ⟨q1, q2⟩ := z4n a l w1.1 l' k.m k.pf t' lv hT g i4 h.l.sh j5 (by omega) i3 hv (by omega)
  have hpm := zhq (p := p) (by omega)
  have hpn := zji (k := k) (l := l) hp (by have := h.l.g.bd; omega) (by omega)
  have hb := zfw (n := pa / 4096) (p := p) (g := decide (id = -1)) hpn hpm
  have hi := idx_bd a l
  show GI (atM k.sz (za7 k.sz (dnN k.sz k.cd a l l' k.m k.pf t').1 (dnN k.sz k.cd a l l' k.m k.pf t').2.2.1 (idx a l) (mkP (pa / 4096) p (decide (id = -1))))) (Al k.cd k.cp (dnN k.sz k.cd a l l' k.m k.pf t').2.1) k.sh (rtL k)
  generalize dnN k.sz k.cd a l l' k.m k.pf t' = D at *
  have hat := fun s j hj => zmc r1 r3 hi hb.2.1 hb.1 s j hj
  refine q1.grow (fun s j hj hk => ?_) (fun s j hj k1 k2 => ?_) (fun s hs' => .inl hs')
  · rw [hat s j hj, if_neg]
    rintro ⟨rfl, rfl⟩
    rw [(zbs hk).2.1] at q2; cases q2
  · rw [hat s j hj] at k1 ⊢
    by_cases c : s = D.2.2.1 ∧ j = idx a l
    · rw [if_pos c, zc8 hb.2.2] at k1; cases k1
    · rw [if_neg c]; exact .inl rfl
theorem zfl {k : Kr} {r : Int} : r ∈ rtL k ↔ ∃ s ∈ k.ss, s.live = true ∧ s.root = r := by
  unfold rtL
  rw [List.mem_map]
  constructor
  · rintro ⟨s, hs, rfl⟩
    obtain ⟨h1, h2⟩ := List.mem_filter.1 hs
    exact ⟨s, h1, h2, rfl⟩
  · rintro ⟨s, h1, h2, rfl⟩
    exact ⟨s, List.mem_filter.2 ⟨h1, h2⟩, rfl⟩
theorem z4p {k : Kr} (h : Rts k) : (rtL k).Nodup := by
  unfold rtL
  have hp : k.ss.Pairwise (fun s t => s.live = true → t.live = true → s.root ≠ t.root) := by
    rw [List.pairwise_iff_getElem]
    intro i j hi hj hij
    exact h.r i j _ _ (List.getElem?_eq_getElem hi) (List.getElem?_eq_getElem hj) (by omega)
  refine List.Pairwise.map (R := fun s t => s.root ≠ t.root) _ (fun a b hab => hab) ?_
  rw [List.pairwise_filter]
  exact hp
theorem z18 (k : Kr) : (rtL k).length = alv k.ss := by
  unfold rtL
  rw [List.length_map]
  have : ∀ l : List Sp, (l.filter (·.live)).length = alv l := fun l => by
    induction l with
    | nil => rfl
    | cons s l ih =>
      cases h : s.live
      · rw [List.filter_cons, if_neg (by rw [h]; simp), ih]; simp [alv, h]
      · rw [List.filter_cons, if_pos h, List.length_cons, ih]; simp [alv, h]; omega
  exact this _
theorem z5w {n : Nat} {k : Kr} (h : Inv n k) (g : Inv2 k) : InvG k := by
  obtain ⟨lv, hT, hs, hr⟩ := (zx5 h g).t
  have hl := (zx5 h g).l
  have hcd := h.cd
  have hcp := h.cp
  have hsh := h.sh
  have hrts : Rts k := ⟨fun i j s t h1 h2 h3 h4 h5 => (g.ap i j s t h1 h2 h3 h4 h5).1⟩
  refine ⟨⟨fun r hr' => ?_, fun s i hi k1 k2 => ?_, fun s hs' => ?_⟩, hrts⟩
  · obtain ⟨s, h1, h2, rfl⟩ := zfl.1 hr'
    have hm := (g.lv s h1 h2).2.2.2.2
    have := hT.mem hm
    rw [zjm (by omega)] at this
    rw [show (s.root * 512 + 511, 33 + 1024 * k.sh).1 = s.root * 512 + 511 from rfl, show (s.root * 512 + 511) / 512 = s.root by omega, show (s.root * 512 + 511) % 512 = 511 by omega] at this
    exact this
  · exfalso
    unfold atM zbj at k1 k2
    split at k1
    · rename_i hlt
      rw [if_pos hlt] at k2
      rcases zlx (xs := k.m) (k := (s * 4096 + i * 8) / 8) with e | ⟨c, hc, e1, e2⟩
      · rw [e, zly] at k1; cases k1
      · obtain ⟨p, hp, hv, rfl⟩ := g.cl c hc
        rw [e2] at k2
        have k2 : (zay (33 + 1024 * k.sh)).ppn ≠ k.sh := k2
        rw [zjm (by omega)] at k2
        exact k2 rfl
    · rw [zly] at k1; cases k1
  · refine Classical.byContradiction fun hc => ?_
    have hnd : (s :: k.sh :: rtL k).Nodup := by
      rw [List.nodup_cons, List.nodup_cons]
      refine ⟨fun hm => ?_, fun hm => ?_, z4p hrts⟩
      · rcases List.mem_cons.1 hm with e | e
        · exact hc (.inl e)
        · exact hc (.inr (.inl e))
      · obtain ⟨q, h1, h2, h3⟩ := zfl.1 hm
        have := hr q h1 h2
        rw [h3, hs] at this; omega
    have hsub : (s :: k.sh :: rtL k) ⊆ alL k.cd k.cp k.pf := fun x hx => by
      rw [zv9]
      rcases List.mem_cons.1 hx with rfl | hx
      · exact hs'
      · rcases List.mem_cons.1 hx with rfl | hx
        · exact hl.sh
        · obtain ⟨q, h1, h2, rfl⟩ := zfl.1 hx
          exact hl.ss q h1 h2
    have h1 := hnd.length_le_of_subset hsub
    have h2 := zwa (cd := k.cd) hT.bp hT.bf
    have h3 := g.np
    rw [List.length_cons, List.length_cons, z18] at h1
    omega
theorem bg_g {a b c : Int} {n : Nat} (h : zez a b c n = true) : InvG (bgK a b c n) := by
  have h0 := zhn h
  have g0 := zig h
  have h1 := zb3 h0
  have g1 := zb8 h0 g0
  exact z5w (zb3 h1) (zb8 h1 g1)
end Go.Proofs.YtomeaibdedaldaaGreatDoor.LoC
namespace Go.Proofs.YtomeaibdedaldaaGreatDoor.LoD
open Go.RowKit Bv VaSpec Base MemL RegR Ax MemC PutC MemC3 TzC OkS SpA SpB SpC SpD SpE SpF SpN SpO SpG SpH SpI SpJ LaA LaB LaC LaD LaE LaF LaG LiA LiB LiC LiD LiE LiF LrA LrB LrC LjA LjF LkE LmA LmB LmE LnA LnB BitsC PteSpec RfE RfG RfJ RfK LaH RfA RfP RfQ LnD LnF LnG LnH RfC RfD RlA RlB LoA LrD RfB SpG LoB LoC
open BitsC PteSpec
set_option maxRecDepth 10000
set_option maxHeartbeats 1000000
section
variable {cd cp sz f sh : Int} {xs xs' : List (Int × Int)} {lv : Int → Int}
theorem zzm (sz : Int) (xs : List (Int × Int)) (l : Nat) (t s : Int) : s ∈ frN sz xs (l + 1) t ↔ s = t ∨ ∃ j, (0 ≤ j ∧ j < 512) ∧ za0 (atM sz xs t j) ((l + 1 : Nat) : Int) = true ∧ s ∈ frN sz xs l (atM sz xs t j).ppn := by
  simp only [frN, List.mem_cons]
  refine or_congr Iff.rfl ?_
  rw [List.mem_flatMap]
  constructor
  · rintro ⟨i, hi, hs⟩
    have hi := List.mem_range.1 hi
    split at hs
    · rename_i h; exact ⟨i, by omega, h, hs⟩
    · cases hs
  · rintro ⟨j, hj, h1, h2⟩
    refine ⟨j.toNat, List.mem_range.2 (by omega), ?_⟩
    rw [show ((j.toNat : Nat) : Int) = j by omega, if_pos h1]
    exact h2
theorem z19 (h : TI cd cp sz xs f sh lv) : ∀ (l : Nat) (t : Int), l ≤ 2 → Al cd cp f t → lv t = l → (l = 2 → ∀ j, (0 ≤ j ∧ j < 512) → lkP (atM sz xs t j) = true → (atM sz xs t j).ppn ≠ sh) → (frN sz xs l t).Nodup
  | 0, t, _, _, _, _ => by simp [frN]
  | l + 1, t, h2, ha, hl, hns => by
    have child : ∀ j, (0 ≤ j ∧ j < 512) → za0 (atM sz xs t j) ((l + 1 : Nat) : Int) = true → lkP (atM sz xs t j) = true ∧ Al cd cp f (atM sz xs t j).ppn ∧ lv (atM sz xs t j).ppn = l := fun j hj hk => by
      obtain ⟨k1, k2, k3, k4, k5⟩ := zg2 h hj hk
      exact ⟨k1, k5, by rw [k4, hl]; omega⟩
    have hnsh : ∀ j, (0 ≤ j ∧ j < 512) → lkP (atM sz xs t j) = true → (atM sz xs t j).ppn ≠ sh := fun j hj hk e => by
      by_cases c : l + 1 = 2
      · exact hns c j hj hk e
      · have := (h.e.s t j hj hk e).2; omega
    rw [frN, List.nodup_cons]
    constructor
    · intro hm
      obtain ⟨i, hi, hs⟩ := List.mem_flatMap.1 hm
      have hi := List.mem_range.1 hi
      split at hs
      · rename_i hk
        obtain ⟨c1, c2, c3⟩ := child i (by omega) hk
        have := (zbb h l _ c2 c3 t hs).2.1
        omega
      · cases hs
    · refine List.pairwise_flatMap.2 ⟨fun i hi => ?_, ?_⟩
      · have hi := List.mem_range.1 hi
        split
        · rename_i hk
          obtain ⟨c1, c2, c3⟩ := child i (by omega) hk
          exact z19 h l _ (by omega) c2 c3 (fun hh => by omega)
        · exact .nil
      · refine List.Pairwise.imp_of_mem ?_ (List.pairwise_lt_range (n := 512))
        intro i j hi hj hij x hx y hy e
        have hi := List.mem_range.1 hi
        have hj := List.mem_range.1 hj
        subst e
        split at hx
        · rename_i hk
          split at hy
          · rename_i hk'
            obtain ⟨c1, c2, c3⟩ := child i (by omega) hk
            obtain ⟨d1, d2, d3⟩ := child j (by omega) hk'
            have := zp1 h hl (by omega) (by omega) (by omega) c1 d1 (.inl (hnsh i (by omega) c1)) hx hy
            omega
          · cases hy
        · cases hx
theorem zwb : ∀ (l : Nat) (t : Int), (∀ s ∈ frN sz xs l t, ∀ j, (0 ≤ j ∧ j < 512) → atM sz xs' s j = atM sz xs s j) → frN sz xs' l t = frN sz xs l t
  | 0, t, _ => rfl
  | l + 1, t, h => by
    simp only [frN]
    congr 1
    refine zfj fun i hi => ?_
    have hi := List.mem_range.1 hi
    rw [h t (zb0 _ _ _ _) i (by omega)]
    split
    · rename_i hk
      exact zwb l _ fun s hs j hj => h s ((zzm sz xs l t s).2 (.inr ⟨i, by omega, hk, hs⟩)) j hj
    · rfl
theorem zew (h : TI cd cp sz xs f sh lv) {r : Int} (ha : Al cd cp f r) (hr : lv r = 2) (x : Int) : x ∈ frN sz (zbq xs (r * 512 + 511) 0) 2 r ↔ x = r ∨ ∃ j, (0 ≤ j ∧ j < 512) ∧ j ≠ 511 ∧ lkP (atM sz xs r j) = true ∧ x ∈ frN sz xs 1 (atM sz xs r j).ppn := by
  obtain ⟨ho, hat⟩ := zrh h ha
  rw [zzm]
  refine or_congr Iff.rfl ?_
  have key : ∀ j, (0 ≤ j ∧ j < 512) → j ≠ 511 → atM sz (zbq xs (r * 512 + 511) 0) r j = atM sz xs r j := fun j hj c => by rw [hat r j hj, if_neg (fun hh => c hh.2)]
  have same : ∀ j, (0 ≤ j ∧ j < 512) → lkP (atM sz xs r j) = true → frN sz (zbq xs (r * 512 + 511) 0) 1 (atM sz xs r j).ppn = frN sz xs 1 (atM sz xs r j).ppn := fun j hj hk => by
    obtain ⟨_, _, k3, k4⟩ := zbz h hj hk
    refine zwb 1 _ fun s hs j' hj' => ?_
    rw [hat s j' hj', if_neg]
    rintro ⟨rfl, _⟩
    have := (zbb h 1 _ k4 (by rw [k3, hr]; rfl) s hs).2.1
    omega
  constructor
  · rintro ⟨j, hj, h1, h2⟩
    by_cases c : j = 511
    · subst c
      rw [hat r 511 hj, if_pos ⟨rfl, rfl⟩] at h1
      cases h1
    · rw [key j hj c] at h1 h2
      have hk := (zg2 h hj h1).1
      rw [same j hj hk] at h2
      exact ⟨j, hj, c, hk, h2⟩
  · rintro ⟨j, hj, c, hk, h2⟩
    refine ⟨j, hj, by rw [key j hj c]; exact zbo hk (by omega), ?_⟩
    rw [key j hj c, same j hj hk]
    exact h2
end
theorem z2a {n : Nat} {k : Kr} (h : InvT n k) {lv : Int → Int} (hT : TI k.cd k.cp k.sz k.m k.pf k.sh lv) (hs : lv k.sh = 1) (hr : ∀ s ∈ k.ss, s.live = true → lv s.root = 2) (g : InvG k) (x : Int) : x ∈ zd8 k k.ss ↔ Al k.cd k.cp k.pf x := by
  have memR : ∀ s ∈ k.ss, s.live = true → ∀ y, y ∈ zsw k s → y ∈ zd8 k k.ss := fun s h1 h2 y hy => by
    unfold zd8
    exact List.mem_append.2 (.inr (List.mem_flatMap.2 ⟨s, h1, by rw [if_pos h2]; exact hy⟩))
  constructor
  · intro hx
    unfold zd8 at hx
    rcases List.mem_append.1 hx with hx | hx
    · exact (zbb hT 1 k.sh h.l.sh hs x hx).1
    · obtain ⟨s, h1, h2⟩ := List.mem_flatMap.1 hx
      split at h2
      · rename_i hl
        obtain ⟨ho, _⟩ := zrh hT (h.l.ss s h1 hl)
        exact (zbb ho 2 s.root (h.l.ss s h1 hl) (hr s h1 hl) x h2).1
      · cases h2
  · -- climbing
    have key : ∀ (d : Nat) (x : Int), 2 - lv x ≤ d → Al k.cd k.cp k.pf x → x ∈ zd8 k k.ss := by
      intro d
      induction d with
      | zero =>
        intro x hd hx
        rcases g.g.c x hx with rfl | e | ⟨t, i, hi, c1, c2⟩
        · rw [hs] at hd; omega
        · obtain ⟨s, h1, h2, rfl⟩ := zfl.1 e
          exact memR s h1 h2 _ (zb0 _ _ _ _)
        · obtain ⟨_, q2, q3, _⟩ := zbz hT hi c1
          rw [c2] at q3; omega
      | succ d ih =>
        intro x hd hx
        rcases g.g.c x hx with rfl | e | ⟨t, i, hi, c1, c2⟩
        · unfold zd8
          exact List.mem_append.2 (.inl (zb0 _ _ _ _))
        · obtain ⟨s, h1, h2, rfl⟩ := zfl.1 e
          exact memR s h1 h2 _ (zb0 _ _ _ _)
        · obtain ⟨q1, q2, q3, q4⟩ := zbz hT hi c1
          rw [c2] at q3
          have ht := ih t (by omega) q1
          unfold zd8 at ht
          rcases List.mem_append.1 ht with ht | ht
          · unfold zd8
            have := zjt hT 1 k.sh h.l.sh hs t ht i hi c1
            rw [c2] at this
            exact List.mem_append.2 (.inl this)
          · obtain ⟨s, h1, h2⟩ := List.mem_flatMap.1 ht
            split at h2
            · rename_i hl
              have har := h.l.ss s h1 hl
              have hrl := hr s h1 hl
              rcases (zew hT har hrl t).1 h2 with rfl | ⟨j, hj, hj5, hk, hm⟩
              · by_cases c : i = 511
                · have := g.g.r s.root (zfl.2 ⟨s, h1, hl, rfl⟩)
                  rw [c, this] at c2
                  have c2 : k.sh = x := c2
                  rw [← c2]
                  unfold zd8
                  exact List.mem_append.2 (.inl (zb0 _ _ _ _))
                · refine memR s h1 hl x ((zew hT har hrl x).2 (.inr ⟨i, hi, c, c1, ?_⟩))
                  rw [c2]; exact zb0 _ _ _ _
              · obtain ⟨_, _, k3, k4⟩ := zbz hT hj hk
                have := zjt hT 1 _ k4 (by rw [k3, hrl]; rfl) t hm i hi c1
                rw [c2] at this
                exact memR s h1 hl x ((zew hT har hrl x).2 (.inr ⟨j, hj, hj5, hk, this⟩))
            · cases h2
    exact fun hx => key (2 - lv x).toNat x (by omega) hx
theorem z4q {n : Nat} {k : Kr} (h : InvT n k) {lv : Int → Int} (hT : TI k.cd k.cp k.sz k.m k.pf k.sh lv) (hs : lv k.sh = 1) (hr : ∀ s ∈ k.ss, s.live = true → lv s.root = 2) (g : InvG k) : (zd8 k k.ss).Nodup := by
  have nsh : ∀ {r : Int}, ∀ j, (0 ≤ j ∧ j < 512) → j ≠ 511 → lkP (atM k.sz k.m r j) = true → (atM k.sz k.m r j).ppn ≠ k.sh := fun j hj h5 hk e => h5 (hT.e.s _ j hj hk e).1
  unfold zd8
  rw [List.nodup_append]
  refine ⟨z19 hT 1 k.sh (by omega) h.l.sh hs (fun hh => by omega), ?_, ?_⟩
  · refine List.pairwise_flatMap.2 ⟨fun s h1 => ?_, ?_⟩
    · split
      · rename_i hl
        obtain ⟨ho, hat⟩ := zrh hT (h.l.ss s h1 hl)
        refine z19 ho 2 s.root (by omega) (h.l.ss s h1 hl) (hr s h1 hl) fun _ j hj hk => ?_
        rw [hat _ j hj] at hk ⊢
        by_cases c : s.root = s.root ∧ j = 511
        · rw [if_pos c] at hk; cases hk
        · rw [if_neg c] at hk ⊢
          exact nsh j hj (fun e => c ⟨rfl, e⟩) hk
      · exact .nil
    · rw [List.pairwise_iff_getElem]
      intro i j hi hj hij x hx y hy e
      subst e
      split at hx
      · rename_i l1
        split at hy
        · rename_i l2
          have a1 := h.l.ss _ (List.getElem_mem hi) l1
          have a2 := h.l.ss _ (List.getElem_mem hj) l2
          have r1 := hr _ (List.getElem_mem hi) l1
          have r2 := hr _ (List.getElem_mem hj) l2
          have hne := g.d.r i j _ _ (List.getElem?_eq_getElem hi) (List.getElem?_eq_getElem hj) (by omega) l1 l2
          rcases (zew hT a1 r1 x).1 hx with e | ⟨p, hp, hp5, pk, pm⟩
          · rcases (zew hT a2 r2 x).1 hy with e' | ⟨q, hq, hq5, qk, qm⟩
            · exact hne (e.symm.trans e')
            · obtain ⟨_, _, k3, k4⟩ := zbz hT hq qk
              have := (zbb hT 1 _ k4 (by rw [k3, r2]; rfl) x qm).2.1
              rw [e, r1] at this; omega
          · obtain ⟨_, _, k3, k4⟩ := zbz hT hp pk
            have e3 : lv (atM k.sz k.m (k.ss[i]).root p).ppn = (1 : Nat) := by rw [k3, r1]; rfl
            rcases (zew hT a2 r2 x).1 hy with e' | ⟨q, hq, hq5, qk, qm⟩
            · have := (zbb hT 1 _ k4 e3 x pm).2.1
              rw [e', r2] at this; omega
            · obtain ⟨_, _, m3, m4⟩ := zbz hT hq qk
              have e4 : lv (atM k.sz k.m (k.ss[j]).root q).ppn = (1 : Nat) := by rw [m3, r2]; rfl
              have hx1 := (zbb hT 1 _ m4 e4 x qm).2.1
              have hm := zsu hT k4 m4 e3 e4 (Nat.le_refl _) (zn5 hT m4 e4 (Nat.le_refl _)) 1 x (by omega) pm qm
              obtain ⟨_, _, v⟩ := zbb hT 1 _ k4 e3 _ hm
              rcases v with e' | ⟨s', _, j', p1, p2, p3, p4⟩
              · exact hne (hT.e.u _ p _ q hp hq pk qk e'.symm (nsh p hp hp5 pk)).1
              · obtain ⟨_, _, rr, _⟩ := zbz hT p1 p2
                rw [p3] at rr; omega
        · cases hy
      · cases hx
  · intro x hx y hy e
    subst e
    obtain ⟨s, h1, h2⟩ := List.mem_flatMap.1 hy
    split at h2
    · rename_i hl
      have har := h.l.ss s h1 hl
      have hrl := hr s h1 hl
      have q2 := (zbb hT 1 k.sh h.l.sh hs x hx).2.1
      rcases (zew hT har hrl x).1 h2 with e | ⟨j, hj, hj5, hk, hm⟩
      · rw [e, hrl] at q2; omega
      · obtain ⟨_, _, k3, k4⟩ := zbz hT hj hk
        have e3 : lv (atM k.sz k.m s.root j).ppn = (1 : Nat) := by rw [k3, hrl]; rfl
        have hm2 := zsu hT k4 h.l.sh e3 (l2 := 1) hs (Nat.le_refl _) (zn5 hT h.l.sh hs (Nat.le_refl _)) 1 x (by omega) hm hx
        by_cases c : k.sh = (atM k.sz k.m s.root j).ppn
        · exact nsh j hj hj5 hk c.symm
        · exact zn5 hT k4 e3 (Nat.le_refl _) k.sh hm2 c rfl
    · cases h2
theorem z2b {n : Nat} {k : Kr} (h : InvT n k) (hn : n ≤ 100000) (g : InvG k) : Ok 17 [.ag k.ce] (.m (ib true)) := by
  obtain ⟨lv, hT, hs, hr⟩ := h.t
  have hm := z2a h hT hs hr g
  have hnd := z4q h hT hs hr g
  refine zv7 h hn (fun s h1 h2 => g.g.r s.root (zfl.2 ⟨s, h1, h2, rfl⟩)) hnd (fun x hx => (hm x).1 hx) ?_
  have hp : (zd8 k k.ss).Perm (alL k.cd k.cp k.pf) := (List.perm_ext_iff_of_nodup hnd (z4m _ _ _)).2 fun x => by rw [hm x, zv9]
  rw [hp.length_eq]
  exact zwa hT.bp hT.bf
end Go.Proofs.YtomeaibdedaldaaGreatDoor.LoD
namespace Go.Proofs.YtomeaibdedaldaaGreatDoor.LoG
open Go.RowKit Bv VaSpec Base MemL RegR Ax MemC PutC MemC3 TzC OkS SpA SpB SpC SpD SpE SpF SpN SpO SpG SpH SpI SpJ LaA LaB LaC LaD LaE LaF LaG LiA LiB LiC LiD LiE LiF LrA LrB LrC LjA LjF LkE LmA LmB LmE LnA LnB BitsC PteSpec RfE RfG RfJ RfK LaH RfA RfP RfQ LnD LnF LnG LnH RfC RfD RlA RlB LoA LrD RfB SpG LoB LoC LoD RlA
open BitsC PteSpec
set_option maxRecDepth 10000
set_option maxHeartbeats 1000000
def zLf : List Ce := ci 0 :: cu 0 :: zP.ce
def lfC (l at' : Int) (q : Pte) : List Ce := ci l :: cu at' :: q.ce
def ftC (va : Int) : List Ce := [cb true, ci 13, cu va]
def nfC : List Ce := [cb false, ci 0, cu 0]
theorem z2c (a l : Int) (ha : U a) (h0 : 0 ≤ l) (h2 : l ≤ 2) : Ok 71 [iu a, ii l] (.m (iu (off a l))) :=
  za9 #[.int .u64 a, .int .i64 l] (.int .u64 (off a l)) fun W _ => (VaR.zsq a l W ha.1 ha.2 h0 h2).mono fun e w' ⟨he, hq⟩ => ⟨he, Q.below hq⟩
attribute [local irreducible] Ax.zbn
theorem z2d : Ok 131 [ii 3, ii 1] (.m (ii 13)) := by
  refine zah 18 Tryz.func131 rfl rfl rfl rfl ?_ GG.to
  intro W A hG
  repeat (first | (refine zaj rfl ?_; first | refine zak ?_) | (refine hK _ ?_; clear hK K) | (rename_i K1 hK1; refine hK1 _ ?_; clear hK hK1; clear K) | (rename_i K1 hK1; refine hK1 _ ?_; clear hK1) | refine zac rfl ?_ | refine zas (by kernel_rfl) (by kernel_rfl) rfl ?_ | exact zaf (show zav _ _ _ = some _ by kernel_rfl) | refine zag rfl rfl ?_ | refine zae rfl rfl ?_ | refine zad ?_ | refine zan ?_ | refine zai ?_ | refine zab (fun K hK => ?_) | refine zap ?_ | refine zau ?_ | refine zaf (show zav _ _ _ = some _ ∧ EndB _ _ from ⟨by kernel_rfl, ?_⟩))
theorem z2e (va : Int) (h : U va) : Ok 69 [ii 3, ii 1, iu va] (.m (.ag (ftC va))) := by
  refine zah 12 Tryz.func69 rfl rfl rfl rfl ?_ GG.to
  intro W A hG
  repeat (first | (refine zaj rfl ?_; first | refine zak ?_ | refine gdr (zaa rfl rfl rfl (z2d) (by kernel_rfl)) ?_) | (refine hK _ ?_; clear hK K) | (rename_i K1 hK1; refine hK1 _ ?_; clear hK hK1; clear K) | (rename_i K1 hK1; refine hK1 _ ?_; clear hK1) | refine zac rfl ?_ | refine zas (by kernel_rfl) (by kernel_rfl) rfl ?_ | exact zaf (show zav _ _ _ = some _ by kernel_rfl) | refine zag rfl rfl ?_ | refine zae rfl rfl ?_ | refine zad ?_ | refine zan ?_ | refine zai ?_ | refine zab (fun K hK => ?_) | refine zap ?_ | refine zau ?_ | refine zaf (show zav _ _ _ = some _ ∧ EndB _ _ from ⟨by kernel_rfl, ?_⟩))
section
variable {sz : Int} {xs : List (Int × Int)} {t va l i W0 : Int} {q : Pte}
theorem zzn (g : Bool) (ht : 0 ≤ t ∧ t < 1099511627776) (hva : U va) (hib : 0 ≤ i ∧ i < 512) (hsz : 4096 * t + 8 * i < sz) (hi : Ok 132 [iu va, ii l] (.m (ii i))) (hw : Ok 130 [zb2 sz xs, iu (4096 * t + 8 * i)] (.m (iu W0))) (hg : Ok 129 [iu W0] (.m (.ag q.ce))) (hb : Ok 133 [.ag q.ce, ii l] (.m (ib true))) :
    Ok 70 [zb2 sz xs, iu t, iu va, ii 1, ii l, ib g] (.tu [.ag zLf, .ag (ftC va)]) := by
  have hf := z2e va hva
  refine zah 71 Tryz.func70 rfl rfl rfl rfl ?_ GG.to
  intro W A hG
  repeat (first | (refine zaj rfl ?_; first | refine zak ?_ | refine gdr (zaa rfl rfl rfl (hi) (by kernel_rfl)) ?_ | refine gdr (zaa rfl rfl rfl (hw) (by kernel_rfl)) ?_ | refine gdr (zaa rfl rfl rfl (hg) (by kernel_rfl)) ?_ | refine gdr (zaa rfl rfl rfl (hb) (by kernel_rfl)) ?_ | refine gdr (zaa rfl rfl rfl (hf) (by kernel_rfl)) ?_) | (refine hK _ ?_; clear hK K) | (rename_i K1 hK1; refine hK1 _ ?_; clear hK hK1; clear K) | (rename_i K1 hK1; refine hK1 _ ?_; clear hK1) | refine zac rfl ?_ | refine zas (by kernel_rfl) (by kernel_rfl) rfl ?_ | exact zaf (show zav _ _ _ = some _ by kernel_rfl) | refine zag rfl rfl ?_ | refine zae rfl rfl ?_ | refine zad ?_ | refine zan ?_ | refine zai ?_ | refine zab (fun K hK => ?_) | refine zap ?_ | refine zau ?_ | refine zaf (show zav _ _ _ = some _ ∧ EndB _ _ from ⟨by kernel_rfl, ?_⟩))
theorem z2f {l' a' : Int} {q' : Pte} (g : Bool) (ht : 0 ≤ t ∧ t < 1099511627776) (hva : U va) (hib : 0 ≤ i ∧ i < 512) (hsz : 4096 * t + 8 * i < sz) (hl : 0 ≤ l ∧ l ≤ 2) (hi : Ok 132 [iu va, ii l] (.m (ii i))) (hw : Ok 130 [zb2 sz xs, iu (4096 * t + 8 * i)] (.m (iu W0))) (hg : Ok 129 [iu W0] (.m (.ag q.ce))) (hb : Ok 133 [.ag q.ce, ii l] (.m (ib false))) (hk : Ok 134 [.ag q.ce] (.m (ib true)))
    (hr : Ok 70 [zb2 sz xs, iu q.ppn, iu va, ii 1, ii (l - 1), ib (g || q.g)] (.tu [.ag (lfC l' a' q'), .ag nfC])) : Ok 70 [zb2 sz xs, iu t, iu va, ii 1, ii l, ib g] (.tu [.ag (lfC l' a' q'), .ag nfC]) := by
  obtain ⟨v, r, w, x, u, qg, a, d, rsw, ppn, high⟩ := q
  cases g <;> cases qg
  all_goals
    refine zah 71 Tryz.func70 rfl rfl rfl rfl ?_ GG.to
    intro W A hG
    repeat (first | (refine zaj rfl ?_; first | refine zak ?_ | refine gdr (zaa rfl rfl rfl (hi) (by kernel_rfl)) ?_ | refine gdr (zaa rfl rfl rfl (hw) (by kernel_rfl)) ?_ | refine gdr (zaa rfl rfl rfl (hg) (by kernel_rfl)) ?_ | refine gdr (zaa rfl rfl rfl (hb) (by kernel_rfl)) ?_ | refine gdr (zaa rfl rfl rfl (hk) (by kernel_rfl)) ?_ | refine gdr (zaa rfl rfl rfl (hr) (by kernel_rfl)) ?_) | (refine hK _ ?_; clear hK K) | (rename_i K1 hK1; refine hK1 _ ?_; clear hK hK1; clear K) | (rename_i K1 hK1; refine hK1 _ ?_; clear hK1) | refine zac rfl ?_ | refine zas (by kernel_rfl) (by kernel_rfl) rfl ?_ | exact zaf (show zav _ _ _ = some _ by kernel_rfl) | refine zag rfl rfl ?_ | refine zae rfl rfl ?_ | refine zad ?_ | refine zan ?_ | refine zai ?_ | refine zab (fun K hK => ?_) | refine zap ?_ | refine zau ?_ | refine zaf (show zav _ _ _ = some _ ∧ EndB _ _ from ⟨by kernel_rfl, ?_⟩))
theorem zyh (g : Bool) (ht : 0 ≤ t ∧ t < 1099511627776) (hva : U va) (hib : 0 ≤ i ∧ i < 512) (hsz : 4096 * t + 8 * i < sz) (hl : 0 ≤ l ∧ l ≤ 2) (hi : Ok 132 [iu va, ii l] (.m (ii i))) (hw : Ok 130 [zb2 sz xs, iu (4096 * t + 8 * i)] (.m (iu W0))) (hg : Ok 129 [iu W0] (.m (.ag q.ce))) (hb : Ok 133 [.ag q.ce, ii l] (.m (ib false))) (hk : Ok 134 [.ag q.ce] (.m (ib true)))
    (hr : Ok 70 [zb2 sz xs, iu q.ppn, iu va, ii 1, ii (l - 1), ib (g || q.g)] (.tu [.ag zLf, .ag (ftC va)])) : Ok 70 [zb2 sz xs, iu t, iu va, ii 1, ii l, ib g] (.tu [.ag zLf, .ag (ftC va)]) := by
  obtain ⟨v, r, w, x, u, qg, a, d, rsw, ppn, high⟩ := q
  cases g <;> cases qg
  all_goals
    refine zah 71 Tryz.func70 rfl rfl rfl rfl ?_ GG.to
    intro W A hG
    repeat (first | (refine zaj rfl ?_; first | refine zak ?_ | refine gdr (zaa rfl rfl rfl (hi) (by kernel_rfl)) ?_ | refine gdr (zaa rfl rfl rfl (hw) (by kernel_rfl)) ?_ | refine gdr (zaa rfl rfl rfl (hg) (by kernel_rfl)) ?_ | refine gdr (zaa rfl rfl rfl (hb) (by kernel_rfl)) ?_ | refine gdr (zaa rfl rfl rfl (hk) (by kernel_rfl)) ?_ | refine gdr (zaa rfl rfl rfl (hr) (by kernel_rfl)) ?_) | (refine hK _ ?_; clear hK K) | (rename_i K1 hK1; refine hK1 _ ?_; clear hK hK1; clear K) | (rename_i K1 hK1; refine hK1 _ ?_; clear hK1) | refine zac rfl ?_ | refine zas (by kernel_rfl) (by kernel_rfl) rfl ?_ | exact zaf (show zav _ _ _ = some _ by kernel_rfl) | refine zag rfl rfl ?_ | refine zae rfl rfl ?_ | refine zad ?_ | refine zan ?_ | refine zai ?_ | refine zab (fun K hK => ?_) | refine zap ?_ | refine zau ?_ | refine zaf (show zav _ _ _ = some _ ∧ EndB _ _ from ⟨by kernel_rfl, ?_⟩))
theorem zwc (g : Bool) (ht : 0 ≤ t ∧ t < 1099511627776) (hva : U va) (hib : 0 ≤ i ∧ i < 512) (hsz : 4096 * t + 8 * i < sz) (hi : Ok 132 [iu va, ii l] (.m (ii i))) (hw : Ok 130 [zb2 sz xs, iu (4096 * t + 8 * i)] (.m (iu W0))) (hg : Ok 129 [iu W0] (.m (.ag q.ce))) (hb : Ok 133 [.ag q.ce, ii l] (.m (ib false))) (hk : Ok 134 [.ag q.ce] (.m (ib false))) :
    Ok 70 [zb2 sz xs, iu t, iu va, ii 1, ii l, ib g] (.tu [.ag (lfC l (4096 * t + 8 * i) { q with g := q.g || g }), .ag nfC]) := by
  obtain ⟨v, r, w, x, u, qg, a, d, rsw, ppn, high⟩ := q
  cases g <;> cases qg
  all_goals
    refine zah 71 Tryz.func70 rfl rfl rfl rfl ?_ GG.to
    intro W A hG
    repeat (first | (refine zaj rfl ?_; first | refine zak ?_ | refine gdr (zaa rfl rfl rfl (hi) (by kernel_rfl)) ?_ | refine gdr (zaa rfl rfl rfl (hw) (by kernel_rfl)) ?_ | refine gdr (zaa rfl rfl rfl (hg) (by kernel_rfl)) ?_ | refine gdr (zaa rfl rfl rfl (hb) (by kernel_rfl)) ?_ | refine gdr (zaa rfl rfl rfl (hk) (by kernel_rfl)) ?_) | (refine hK _ ?_; clear hK K) | (rename_i K1 hK1; refine hK1 _ ?_; clear hK hK1; clear K) | (rename_i K1 hK1; refine hK1 _ ?_; clear hK1) | refine zac rfl ?_ | refine zas (by kernel_rfl) (by kernel_rfl) rfl ?_ | exact zaf (show zav _ _ _ = some _ by kernel_rfl) | refine zag rfl rfl ?_ | refine zae rfl rfl ?_ | refine zad ?_ | refine zan ?_ | refine zai ?_ | refine zab (fun K hK => ?_) | refine zap ?_ | refine zau ?_ | refine zaf (show zav _ _ _ = some _ ∧ EndB _ _ from ⟨by kernel_rfl, ?_⟩))
end
end Go.Proofs.YtomeaibdedaldaaGreatDoor.LoG
namespace Go.Proofs.YtomeaibdedaldaaGreatDoor.LoH
open Go.RowKit Bv VaSpec Base MemL RegR Ax MemC PutC MemC3 TzC OkS SpA SpB SpC SpD SpE SpF SpN SpO SpG SpH SpI SpJ LaA LaB LaC LaD LaE LaF LaG LiA LiB LiC LiD LiE LiF LrA LrB LrC LjA LjF LkE LmA LmB LmE LnA LnB BitsC PteSpec RfE RfG RfJ RfK LaH RfA RfP RfQ LnD LnF LnG LnH RfC RfD RlA RlB LoA LrD RfB SpG LoB LoC LoD
open BitsC PteSpec
set_option maxRecDepth 10000
set_option maxHeartbeats 1000000
def lkE (v : Int) : Nat → Tr → Option (Nat × Pte)
  | l, .lf p => some (l, p)
  | l + 1, .tb f => lkE v l (f (idx v (l : Int)))
  | _, _ => none
def lkT (v : Int) (l : Nat) (f : Int → Tr) : Option (Nat × Pte) := lkE v l (f (idx v (l : Int)))
theorem zri (v : Int) (l : Nat) (p : Pte) : lkE v l (.lf p) = some (l, p) := by cases l <;> rfl
theorem zzo (v : Int) (l : Nat) : lkE v l .no = none := by cases l <;> rfl
theorem z4r (a w v : Int) (q : Pte) (hw : 0 ≤ w) : ∀ (l : Nat) (tr A : Tr), w ≤ (l : Int) → (∀ m, w ≤ m → m < (l : Int) → idx v m = idx a m) → zgj a w q l tr = some A → lkE v l A = some (w.toNat, q) := by
  intro l
  induction l with
  | zero =>
    intro tr A hwl _ h
    rw [zfi (by omega)] at h
    split at h
    · simp only [Option.some.injEq] at h
      rw [← h, zri, show w.toNat = 0 by omega]
    · cases h
  | succ l ih =>
    intro tr A hwl hx h
    by_cases w1 : w = ((l + 1 : Nat) : Int)
    · rw [zfi w1] at h
      split at h
      · simp only [Option.some.injEq] at h
        rw [← h, zri, show w.toNat = l + 1 by omega]
      · cases h
    have l1 : zzc tr = false := by
      cases tr with
      | lf p => rw [zh0] at h; cases h
      | no => rfl
      | tb f => rfl
    rw [zd6 w1 l1] at h
    obtain ⟨F, hF, rfl⟩ := Option.map_eq_some_iff.1 h
    unfold zdi at hF
    obtain ⟨r, hr, rfl⟩ := Option.map_eq_some_iff.1 hF
    show lkE v l (upd (zih tr) (idx a (l : Int)) r (idx v (l : Int))) = _
    rw [hx (l : Int) (by omega) (by omega), zd4]
    exact ih _ _ (by omega) (fun m h1 h2 => hx m h1 (by omega)) hr
theorem z2g {a w v : Int} {q : Pte} {l : Nat} {F A : Int → Tr} (hw : 0 ≤ w) (hwl : w ≤ (l : Int)) (hx : ∀ m, w ≤ m → m ≤ (l : Int) → idx v m = idx a m) (h : zdi a w q l F = some A) : lkT v l A = some (w.toNat, q) := by
  unfold zdi at h
  obtain ⟨r, hr, rfl⟩ := Option.map_eq_some_iff.1 h
  unfold lkT
  rw [hx (l : Int) hwl (Int.le_refl _), zd4]
  exact z4r a w v q hw l _ _ hwl (fun m h1 h2 => hx m h1 (by omega)) hr
section
variable {cd cp sz f sh : Int} {xs : List (Int × Int)} {lv : Int → Int}
theorem zrj (h : TI cd cp sz xs f sh lv) (v : Int) : ∀ (l : Nat) (t : Int), lv t = l → ∀ (w : Nat) (q : Pte), lkT v l (zc2 sz xs l t) = some (w, q) → ∃ t', zat sz xs v 0 l t = (t', (w : Int)) ∧ atM sz xs t' (idx v (w : Int)) = q ∧ zaz q = true := by
  intro l
  induction l with
  | zero =>
    intro t hl w q hq
    have hi := idx_bd v ((0 : Nat) : Int)
    unfold lkT at hq
    rw [zc9 hi] at hq
    rcases h.e.k t _ hi with e | ⟨_, _, ⟨e1, e2⟩ | ⟨e1, e2, _⟩⟩
    · rw [e, zef, zzo] at hq; cases hq
    · rw [zda e1, zri] at hq
      simp only [Option.some.injEq, Prod.mk.injEq] at hq
      obtain ⟨rfl, rfl⟩ := hq
      exact ⟨t, rfl, rfl, e1⟩
    · omega
  | succ l ih =>
    intro t hl w q hq
    have hi := idx_bd v ((l + 1 : Nat) : Int)
    unfold lkT at hq
    rw [zc9 hi] at hq
    rcases h.e.k t _ hi with e | ⟨_, _, ⟨e1, e2⟩ | ⟨e1, e2, e3, _⟩⟩
    · rw [e, zef, zzo] at hq; cases hq
    · rw [zda e1, zri] at hq
      simp only [Option.some.injEq, Prod.mk.injEq] at hq
      obtain ⟨rfl, rfl⟩ := hq
      exact ⟨t, za1 (fun _ => zfu (zbp e1).1) (Int.le_refl 0), rfl, e1⟩
    · rw [zdn e1] at hq
      obtain ⟨t', r1, r2, r3⟩ := ih _ (by rw [e3, hl]; omega) w q hq
      exact ⟨t', (zba (by omega) (zbo e1 (by omega))).trans r1, r2, r3⟩
end
theorem zrk {β : Type} (f g : Nat → List β) (i : Nat) (hi : i < 512) (h : ∀ j, j < 512 → j ≠ i → g j = f j) : ∃ L1 L2, (List.range 512).flatMap f = L1 ++ f i ++ L2 ∧ (List.range 512).flatMap g = L1 ++ g i ++ L2 := by
  have key : ∀ n : Nat, n ≤ 512 → (n ≤ i → (List.range n).flatMap g = (List.range n).flatMap f) ∧ (i < n → ∃ L1 L2, (List.range n).flatMap f = L1 ++ f i ++ L2 ∧ (List.range n).flatMap g = L1 ++ g i ++ L2) := by
    intro n
    induction n with
    | zero => exact fun _ => ⟨fun _ => rfl, fun hh => by omega⟩
    | succ n ih =>
      intro hn
      obtain ⟨i1, i2⟩ := ih (by omega)
      rw [List.range_succ, List.flatMap_append, List.flatMap_append]
      refine ⟨fun hh => ?_, fun hh => ?_⟩
      · rw [i1 (by omega)]
        simp [h n (by omega) (by omega)]
      · by_cases c : i = n
        · subst c
          rw [i1 (Nat.le_refl _)]
          exact ⟨(List.range i).flatMap f, [], by simp, by simp⟩
        · obtain ⟨L1, L2, e1, e2⟩ := i2 (by omega)
          rw [e1, e2]
          exact ⟨L1, L2 ++ f n, by simp, by simp [h n (by omega) (fun hh => c hh.symm)]⟩
  exact (key 512 (Nat.le_refl _)).2 hi
theorem z2h {a b : Int} (h : m39 a = m39 b) : num a = num b := by
  unfold m39 at h
  unfold num
  omega
theorem z2i (a w : Int) (q : Pte) (hw : 0 ≤ w) (hva : a = ofv (num a)) (hma : m39 a % VaSpec.sz w = 0) : ∀ (l : Nat) (b : Int) (tr A : Tr), l ≤ 2 → w ≤ (l : Int) → m39 b % VaSpec.sz l = 0 → m39 b ≤ m39 a → m39 a < m39 b + VaSpec.sz l → zgj a w q l tr = some A → ∃ L1 L2, zp2 l b tr = L1 ++ L2 ∧ zp2 l b A = L1 ++ ⟨a, q.ppn * 4096, w, q.r, q.w, q.x, q.u, q.d⟩ :: L2 := by
  have leaf : ∀ (l : Nat) (b : Int) (tr A : Tr), l ≤ 2 → w = (l : Int) → m39 b % VaSpec.sz l = 0 → m39 b ≤ m39 a → m39 a < m39 b + VaSpec.sz l → zgj a w q l tr = some A → ∃ L1 L2, zp2 l b tr = L1 ++ L2 ∧ zp2 l b A = L1 ++ ⟨a, q.ppn * 4096, w, q.r, q.w, q.x, q.u, q.d⟩ :: L2 := fun l b tr A h2 hwl hb h0 h1 h => by
    rw [zfi hwl] at h
    cases tr with
    | no =>
      have h : some (Tr.lf q) = some A := h
      simp only [Option.some.injEq] at h
      subst h
      have hmm : m39 b = m39 a := by
        rw [hwl] at hma
        rcases (by omega : l = 0 ∨ l = 1 ∨ l = 2) with rfl | rfl | rfl
        · simp only [show VaSpec.sz ((0 : Nat) : Int) = 4096 from rfl] at *; omega
        · simp only [show VaSpec.sz ((1 : Nat) : Int) = 2097152 from rfl] at *; omega
        · simp only [show VaSpec.sz ((2 : Nat) : Int) = 1073741824 from rfl] at *; omega
      have hva2 : ofv (num b) = a := by rw [z2h hmm]; exact hva.symm
      refine ⟨[], [], by cases l <;> rfl, ?_⟩
      rw [hwl]
      cases l with
      | zero => show [zmf q b 0] = _; unfold zmf; rw [hva2]; rfl
      | succ l => show [zmf q b ((l + 1 : Nat) : Int)] = _; unfold zmf; rw [hva2]; rfl
    | lf p => rw [if_neg (by simp [zx6])] at h; cases h
    | tb f => rw [if_neg (by simp [zx6])] at h; cases h
  intro l
  induction l with
  | zero => exact fun b tr A h2 hwl hb h0 h1 h => leaf 0 b tr A h2 (by omega) hb h0 h1 h
  | succ l ih =>
    intro b tr A h2 hwl hb h0 h1 h
    by_cases w1 : w = ((l + 1 : Nat) : Int)
    · exact leaf (l + 1) b tr A h2 w1 hb h0 h1 h
    have l1 : zzc tr = false := by
      cases tr with
      | lf p => rw [zh0] at h; cases h
      | no => rfl
      | tb f => rfl
    rw [zd6 w1 l1] at h
    obtain ⟨F, hF, rfl⟩ := Option.map_eq_some_iff.1 h
    unfold zdi at hF
    obtain ⟨r, hr, rfl⟩ := Option.map_eq_some_iff.1 hF
    have hi := idx_bd a (l : Int)
    have hss := zet (l := ((l + 1 : Nat) : Int)) (by omega)
    rw [show ((l + 1 : Nat) : Int) - 1 = (l : Int) by omega] at hss
    rw [hss] at hb h1
    obtain ⟨k1, k2⟩ := blk (l := (l : Int)) (by omega) hb h0 h1
    rw [zgh a _ (by omega)] at k1 k2
    obtain ⟨e1, e2⟩ := zb4 (b := b) (i := idx a (l : Int)) (l := (l : Int)) (by omega) hi hb
    have hmod : (m39 b + idx a (l : Int) * VaSpec.sz (l : Int)) % VaSpec.sz (l : Int) = 0 := by
      rcases (by omega : l = 0 ∨ l = 1) with rfl | rfl
      · have hz : VaSpec.sz ((0 : Nat) : Int) = 4096 := rfl
        rw [hz] at hb ⊢; omega
      · have hz : VaSpec.sz ((1 : Nat) : Int) = 2097152 := rfl
        rw [hz] at hb ⊢; omega
    obtain ⟨L1, L2, c1, c2⟩ := ih (adr b (idx a (l : Int)) (l : Int)) _ _ (by omega) (by omega) (by rw [e1]; exact hmod) (by rw [e1]; exact k1) (by rw [e1]; exact k2) hr
    have hpt : zp2 (l + 1) b tr = (List.range 512).flatMap fun (i : Nat) => zp2 l (adr b i (l : Int)) (zih tr i) := by
      cases tr with
      | no =>
        show ([] : List Pg) = _
        rw [zfj (g := fun _ => []) fun i _ => by cases l <;> rfl]
        simp
      | lf p => cases l1
      | tb f => rfl
    rw [hpt]
    show ∃ L1 L2, _ ∧ (List.range 512).flatMap (fun (i : Nat) => zp2 l (adr b i (l : Int)) (upd (zih tr) (idx a (l : Int)) r i)) = _
    obtain ⟨M1, M2, d1, d2⟩ := zrk (fun (i : Nat) => zp2 l (adr b i (l : Int)) (zih tr i)) (fun (i : Nat) => zp2 l (adr b i (l : Int)) (upd (zih tr) (idx a (l : Int)) r i)) (idx a (l : Int)).toNat (by omega) (fun j hj hne => by
      show zp2 l (adr b j (l : Int)) (upd (zih tr) (idx a (l : Int)) r j) = _
      rw [zd5 _ _ (by omega)])
    rw [d1, d2]
    have hj : (((idx a (l : Int)).toNat : Nat) : Int) = idx a (l : Int) := by omega
    rw [hj, zd4, c1, c2]
    exact ⟨M1 ++ L1, L2 ++ M2, by simp, by simp⟩
theorem zrl {a w : Int} {q : Pte} {l : Nat} {b : Int} {F A : Int → Tr} (hw : 0 ≤ w) (hva : a = ofv (num a)) (hma : m39 a % VaSpec.sz w = 0) (h2 : l ≤ 2) (hwl : w ≤ (l : Int)) (hb : m39 b % (512 * VaSpec.sz l) = 0) (h0 : m39 b ≤ m39 a) (h1 : m39 a < m39 b + 512 * VaSpec.sz l) (h : zdi a w q l F = some A) : ∃ L1 L2, z11 l b F = L1 ++ L2 ∧ z11 l b A = L1 ++ ⟨a, q.ppn * 4096, w, q.r, q.w, q.x, q.u, q.d⟩ :: L2 := by
  unfold zdi at h
  obtain ⟨r, hr, rfl⟩ := Option.map_eq_some_iff.1 h
  have hi := idx_bd a (l : Int)
  obtain ⟨k1, k2⟩ := blk (l := (l : Int)) (by omega) hb h0 h1
  rw [zgh a _ (by omega)] at k1 k2
  obtain ⟨e1, e2⟩ := zb4 (b := b) (i := idx a (l : Int)) (l := (l : Int)) (by omega) hi hb
  have hmod : (m39 b + idx a (l : Int) * VaSpec.sz (l : Int)) % VaSpec.sz (l : Int) = 0 := by
    rcases (by omega : l = 0 ∨ l = 1 ∨ l = 2) with rfl | rfl | rfl
    · have hz : VaSpec.sz ((0 : Nat) : Int) = 4096 := rfl
      rw [hz] at hb ⊢; omega
    · have hz : VaSpec.sz ((1 : Nat) : Int) = 2097152 := rfl
      rw [hz] at hb ⊢; omega
    · have hz : VaSpec.sz ((2 : Nat) : Int) = 1073741824 := rfl
      rw [hz] at hb ⊢; omega
  obtain ⟨L1, L2, c1, c2⟩ := z2i a w q hw hva hma l (adr b (idx a (l : Int)) (l : Int)) _ _ h2 hwl (by rw [e1]; exact hmod) (by rw [e1]; exact k1) (by rw [e1]; exact k2) hr
  unfold z11
  obtain ⟨M1, M2, d1, d2⟩ := zrk (fun (i : Nat) => zp2 l (adr b i (l : Int)) (F i)) (fun (i : Nat) => zp2 l (adr b i (l : Int)) (upd F (idx a (l : Int)) r i)) (idx a (l : Int)).toNat (by omega) (fun j hj hne => by
    show zp2 l (adr b j (l : Int)) (upd F (idx a (l : Int)) r j) = _
    rw [zd5 _ _ (by omega)])
  rw [d1, d2]
  have hj : (((idx a (l : Int)).toNat : Nat) : Int) = idx a (l : Int) := by omega
  rw [hj, zd4, c1, c2]
  exact ⟨M1 ++ L1, L2 ++ M2, by simp, by simp⟩
end Go.Proofs.YtomeaibdedaldaaGreatDoor.LoH
namespace Go.Proofs.YtomeaibdedaldaaGreatDoor.LoI
open Go.RowKit Bv VaSpec Base MemL RegR Ax MemC PutC MemC3 TzC OkS SpA SpB SpC SpD SpE SpF SpN SpO SpG SpH SpI SpJ LaA LaB LaC LaD LaE LaF LaG LiA LiB LiC LiD LiE LiF LrA LrB LrC LjA LjF LkE LmA LmB LmE LnA LnB BitsC PteSpec RfE RfG RfJ RfK LaH RfA RfP RfQ LnD LnF LnG LnH RfC RfD RlA RlB LoA LrD RfB SpG LoB LoC LoD RlA LoG LoH
open BitsC PteSpec
set_option maxRecDepth 10000
set_option maxHeartbeats 1000000
def zp4 (sz : Int) (xs : List (Int × Int)) (va : Int) (g : Bool) (r : Int × Int) : AV :=
  if zaz (atM sz xs r.1 (idx va r.2)) then .tu [.ag (lfC r.2 (4096 * r.1 + 8 * idx va r.2) { atM sz xs r.1 (idx va r.2) with g := (atM sz xs r.1 (idx va r.2)).g || g }), .ag nfC] else .tu [.ag zLf, .ag (ftC va)]
section
variable {cd cp sz f sh : Int} {xs : List (Int × Int)} {lv : Int → Int}
theorem zyi (h : TI cd cp sz xs f sh lv) (hx : xs.length ≤ 1000000) (hg1 : ∀ s i, (0 ≤ i ∧ i < 512) → lkP (atM sz xs s i) = true → (atM sz xs s i).ppn ≠ sh → (atM sz xs s i).g = false) (hg2 : ∀ s i, (0 ≤ i ∧ i < 512) → lkP (atM sz xs s i) = true → (atM sz xs s i).ppn = sh → (atM sz xs s i).g = true) (va : Int) (hva : U va) : ∀ (l : Nat) (t : Int) (g : Bool), l ≤ 2 → Al cd cp f t → lv t = l →
    Ok 70 [zb2 sz xs, iu t, iu va, ii 1, ii l, ib g] (zp4 sz xs va (g || (decide (l = 2) && (lkP (atM sz xs t (idx va (l : Int))) && decide ((atM sz xs t (idx va (l : Int))).ppn = sh)))) (zat sz xs va 0 l t)) := by
  have b1 := h.bd
  have b2 := h.bp
  have bz := h.bz
  have pieces : ∀ (l : Nat) (t : Int), l ≤ 2 → Al cd cp f t → (0 ≤ t ∧ t < 1099511627776) ∧ 4096 * t + 8 * idx va (l : Int) < sz ∧ Ok 132 [iu va, ii l] (.m (ii (idx va (l : Int)))) ∧ Ok 130 [zb2 sz xs, iu (4096 * t + 8 * idx va (l : Int))] (.m (iu (zbj sz xs (4096 * t + 8 * idx va (l : Int))))) ∧ Ok 129 [iu (zbj sz xs (4096 * t + 8 * idx va (l : Int)))] (.m (.ag (atM sz xs t (idx va (l : Int))).ce)) ∧ Ok 133 [.ag (atM sz xs t (idx va (l : Int))).ce, ii l] (.m (ib (zc3 (atM sz xs t (idx va (l : Int))) (l : Int)))) ∧ Ok 134 [.ag (atM sz xs t (idx va (l : Int))).ce] (.m (ib (zbk (atM sz xs t (idx va (l : Int)))))) := fun l t h2 ha => by
    have bt := ha.1
    have hi := idx_bd va (l : Int)
    have hget := zve (zbj sz xs (4096 * t + 8 * idx va (l : Int))) (zfa h.u _ _)
    have e : zay (zbj sz xs (4096 * t + 8 * idx va (l : Int))) = atM sz xs t (idx va (l : Int)) := by
      unfold atM
      rw [show 4096 * t + 8 * idx va (l : Int) = t * 4096 + idx va (l : Int) * 8 by omega]
    rw [e] at hget
    exact ⟨⟨by omega, by omega⟩, by omega, z1q va (l : Int) hva (by omega) (by omega), zqz sz xs _ ⟨by omega, by omega⟩ h.s hx, hget, zvf _ (znj h.u _ _ _) (l : Int) (by omega) (by omega), zqy _⟩
  intro l
  induction l with
  | zero =>
    intro t g _ ha hl
    have hi := idx_bd va ((0 : Nat) : Int)
    obtain ⟨p1, p2, p3, p4, p5, p6, p7⟩ := pieces 0 t (by omega) ha
    show Ok 70 _ (zp4 sz xs va (g || (decide (0 = 2) && _)) (t, ((0 : Nat) : Int)))
    rw [show decide ((0 : Nat) = 2) = false from rfl, Bool.false_and, Bool.or_false]
    unfold zp4
    rcases h.e.k t _ hi with e | ⟨_, _, ⟨e1, e2⟩ | ⟨e1, e2, _⟩⟩
    · rw [show zc3 (atM sz xs t (idx va ((0 : Nat) : Int))) ((0 : Nat) : Int) = true by rw [e]; rfl] at p6
      rw [if_neg (by show ¬ zaz (atM sz xs t (idx va ((0 : Nat) : Int))) = true; rw [e]; unfold zaz zP; simp)]
      exact zzn g p1 hva hi p2 p3 p4 p5 p6
    · rw [hl] at e2
      rw [e2] at p6
      rw [(zbp e1).1] at p7
      rw [if_pos e1]
      exact zwc g p1 hva hi p2 p3 p4 p5 p6 p7
    · omega
  | succ l ih =>
    intro t g h2 ha hl
    have hi := idx_bd va ((l + 1 : Nat) : Int)
    obtain ⟨p1, p2, p3, p4, p5, p6, p7⟩ := pieces (l + 1) t h2 ha
    rcases h.e.k t _ hi with e | ⟨_, _, ⟨e1, e2⟩ | ⟨e1, e2, e3, e4⟩⟩
    · have hr : zat sz xs va 0 (l + 1) t = (t, ((l + 1 : Nat) : Int)) := za1 (fun _ => by rw [e]; rfl) (Int.le_refl 0)
      rw [hr, show zc3 (atM sz xs t (idx va ((l + 1 : Nat) : Int))) ((l + 1 : Nat) : Int) = true by rw [e]; rfl] at *
      unfold zp4
      rw [if_neg (by show ¬ zaz (atM sz xs t (idx va ((l + 1 : Nat) : Int))) = true; rw [e]; unfold zaz zP; simp)]
      exact zzn g p1 hva hi p2 p3 p4 p5 p6
    · have hr : zat sz xs va 0 (l + 1) t = (t, ((l + 1 : Nat) : Int)) := za1 (fun _ => zfu (zbp e1).1) (Int.le_refl 0)
      rw [hr, zc8 e1, Bool.false_and, Bool.and_false, Bool.or_false]
      rw [hl] at e2
      rw [e2] at p6
      rw [(zbp e1).1] at p7
      unfold zp4
      rw [if_pos e1]
      exact zwc g p1 hva hi p2 p3 p4 p5 p6 p7
    · have hbad : zc3 (atM sz xs t (idx va ((l + 1 : Nat) : Int))) ((l + 1 : Nat) : Int) = false := by
        have := zbo e1 (l := ((l + 1 : Nat) : Int)) (by omega)
        unfold za0 at this
        simp only [Bool.and_eq_true, Bool.not_eq_true'] at this
        exact this.2
      rw [hbad] at p6
      rw [(zbs e1).1] at p7
      have hr : zat sz xs va 0 (l + 1) t = zat sz xs va 0 l (atM sz xs t (idx va ((l + 1 : Nat) : Int))).ppn := zba (by omega) (zbo e1 (by omega))
      have hgl : lv (atM sz xs t (idx va ((l + 1 : Nat) : Int))).ppn = l := by rw [e3, hl]; omega
      have hG : (g || (atM sz xs t (idx va ((l + 1 : Nat) : Int))).g) = (g || (decide (l + 1 = 2) && (lkP (atM sz xs t (idx va ((l + 1 : Nat) : Int))) && decide ((atM sz xs t (idx va ((l + 1 : Nat) : Int))).ppn = sh)))) := by
        congr 1
        rw [e1, Bool.true_and]
        by_cases c : (atM sz xs t (idx va ((l + 1 : Nat) : Int))).ppn = sh
        · have c2 : l + 1 = 2 := by have := (h.e.s t _ hi e1 c).2; omega
          rw [hg2 t _ hi e1 c, decide_eq_true c, decide_eq_true c2]; rfl
        · rw [hg1 t _ hi e1 c, decide_eq_false c, Bool.and_false]
      have I := ih _ (g || (atM sz xs t (idx va ((l + 1 : Nat) : Int))).g) (by omega) e4 hgl
      rw [show decide (l = 2) = false from decide_eq_false (by omega), Bool.false_and, Bool.or_false, hG] at I
      rw [show (l : Int) = ((l + 1 : Nat) : Int) - 1 by omega] at I
      rw [hr]
      generalize (g || (decide (l + 1 = 2) && (lkP (atM sz xs t (idx va ((l + 1 : Nat) : Int))) && decide ((atM sz xs t (idx va ((l + 1 : Nat) : Int))).ppn = sh)))) = g' at *
      unfold zp4 at I ⊢
      by_cases c : zaz (atM sz xs (zat sz xs va 0 l (atM sz xs t (idx va ((l + 1 : Nat) : Int))).ppn).1 (idx va (zat sz xs va 0 l (atM sz xs t (idx va ((l + 1 : Nat) : Int))).ppn).2)) = true
      · rw [if_pos c] at I ⊢
        exact z2f g p1 hva hi p2 (by omega) p3 p4 p5 p6 p7 (by rw [hG]; exact I)
      · rw [if_neg c] at I ⊢
        exact zyh g p1 hva hi p2 (by omega) p3 p4 p5 p6 p7 (by rw [hG]; exact I)
end
attribute [local irreducible] Ax.zbn
theorem z2j {sz : Int} {xs : List (Int × Int)} {t va l' a' : Int} {q : Pte} (hv : isv va = true) (h : Ok 70 [zb2 sz xs, iu t, iu va, ii 1, ii 2, ib false] (.tu [.ag (lfC l' a' q), .ag nfC])) : Ok 19 [zb2 sz xs, iu t, iu va, ii 1] (.tu [.ag (lfC l' a' q), .ag nfC]) := by
  have hi := z3y va
  rw [hv] at hi
  refine zah 24 Tryz.func19 rfl rfl rfl rfl ?_ GG.to
  intro W A hG
  repeat (first | (refine zaj rfl ?_; first | refine zak ?_ | refine gdr (zaa rfl rfl rfl (hi) (by kernel_rfl)) ?_ | refine gdr (zaa rfl rfl rfl (h) (by kernel_rfl)) ?_) | (refine hK _ ?_; clear hK K) | (rename_i K1 hK1; refine hK1 _ ?_; clear hK hK1; clear K) | (rename_i K1 hK1; refine hK1 _ ?_; clear hK1) | refine zac rfl ?_ | refine zas (by kernel_rfl) (by kernel_rfl) rfl ?_ | exact zaf (show zav _ _ _ = some _ by kernel_rfl) | refine zag rfl rfl ?_ | refine zae rfl rfl ?_ | refine zad ?_ | refine zan ?_ | refine zai ?_ | refine zab (fun K hK => ?_) | refine zap ?_ | refine zau ?_ | refine zaf (show zav _ _ _ = some _ ∧ EndB _ _ from ⟨by kernel_rfl, ?_⟩))
theorem off_bd (va l : Int) (hl : 0 ≤ l ∧ l ≤ 2) : 0 ≤ off va l ∧ off va l < VaSpec.sz l ∧ VaSpec.sz l ≤ 1073741824 := by
  unfold off
  rcases (by omega : l = 0 ∨ l = 1 ∨ l = 2) with rfl | rfl | rfl
  · simp only [show VaSpec.sz 0 = 4096 from rfl]; omega
  · simp only [show VaSpec.sz 1 = 2097152 from rfl]; omega
  · simp only [show VaSpec.sz 2 = 1073741824 from rfl]; omega
theorem z2k (l' a' va : Int) (q : Pte) (hl : 0 ≤ l' ∧ l' ≤ 2) (hva : U va) (hq : 0 ≤ q.ppn ∧ q.ppn < 17592186044416) : Ok 20 [.ag (lfC l' a' q), iu va] (.m (iu (4096 * q.ppn + off va l'))) := by
  have ho := z2c va l' hva hl.1 hl.2
  have hb := off_bd va l' hl
  generalize off va l' = o at *
  refine zah 14 Tryz.func20 rfl rfl rfl rfl ?_ GG.to
  intro W A hG
  repeat (first | (refine zaj rfl ?_; first | refine zak ?_ | refine gdr (zaa rfl rfl rfl (ho) (by kernel_rfl)) ?_) | (refine hK _ ?_; clear hK K) | (rename_i K1 hK1; refine hK1 _ ?_; clear hK hK1; clear K) | (rename_i K1 hK1; refine hK1 _ ?_; clear hK1) | refine zac rfl ?_ | refine zas (by kernel_rfl) (by kernel_rfl) rfl ?_ | exact zaf (show zav _ _ _ = some _ by kernel_rfl) | refine zag rfl rfl ?_ | refine zae rfl rfl ?_ | refine zad ?_ | refine zan ?_ | refine zai ?_ | refine zab (fun K hK => ?_) | refine zap ?_ | refine zau ?_ | refine zaf (show zav _ _ _ = some _ ∧ EndB _ _ from ⟨by kernel_rfl, ?_⟩))
end Go.Proofs.YtomeaibdedaldaaGreatDoor.LoI
namespace Go.Proofs.YtomeaibdedaldaaGreatDoor.LoJ
open Go.RowKit Bv VaSpec Base MemL RegR Ax MemC PutC MemC3 TzC OkS SpA SpB SpC SpD SpE SpF SpN SpO SpG SpH SpI SpJ LaA LaB LaC LaD LaE LaF LaG LiA LiB LiC LiD LiE LiF LrA LrB LrC LjA LjF LkE LmA LmB LmE LnA LnB BitsC PteSpec RfE RfG RfJ RfK LaH RfA RfP RfQ LnD LnF LnG LnH RfC RfD RlA RlB LoA LrD RfB SpG LoB LoC LoD RlA LoG LoH LoI
open BitsC PteSpec
set_option maxRecDepth 10000
set_option maxHeartbeats 1000000
theorem z2l {a l o : Int} (hU : U a) (hl : 0 ≤ l ∧ l ≤ 2) (hf : zhw a l = true) (ho : 0 ≤ o ∧ o < VaSpec.sz l) : (0 ≤ a + o ∧ a + o < 18446744073709551616) ∧ isv (a + o) = true ∧ m39 (a + o) = m39 a + o ∧ off (a + o) l = o ∧ ∀ m, l ≤ m → m ≤ 2 → idx (a + o) m = idx a m := by
  have hb := zg5 hl hf
  have hv : isv a = true ∧ a % VaSpec.sz l = 0 := by
    unfold zhw off at hf
    simp only [Bool.and_eq_true, beq_iff_eq] at hf
    exact hf
  obtain ⟨hv, hm⟩ := hv
  have hU0 := hU.1
  have hU1 := hU.2
  have hr : (a < 274877906944) ∨ (18446743798831644672 ≤ a) := by
    unfold isv at hv
    rw [Bool.or_eq_true, decide_eq_true_eq, decide_eq_true_eq] at hv
    exact hv
  have e39 : m39 (a + o) = m39 a + o := by
    unfold m39 at *
    rcases (by omega : l = 0 ∨ l = 1 ∨ l = 2) with rfl | rfl | rfl
    · simp only [show VaSpec.sz 0 = 4096 from rfl] at *; omega
    · simp only [show VaSpec.sz 1 = 2097152 from rfl] at *; omega
    · simp only [show VaSpec.sz 2 = 1073741824 from rfl] at *; omega
  refine ⟨?_, ?_, e39, ?_, fun m h1 h2 => zzj hl ⟨h1, h2⟩ hb (by rw [e39]; omega) (by rw [e39]; omega)⟩
  · rcases (by omega : l = 0 ∨ l = 1 ∨ l = 2) with rfl | rfl | rfl
    · simp only [show VaSpec.sz 0 = 4096 from rfl] at *; omega
    · simp only [show VaSpec.sz 1 = 2097152 from rfl] at *; omega
    · simp only [show VaSpec.sz 2 = 1073741824 from rfl] at *; omega
  · unfold isv
    rw [Bool.or_eq_true, decide_eq_true_eq, decide_eq_true_eq]
    rcases (by omega : l = 0 ∨ l = 1 ∨ l = 2) with rfl | rfl | rfl
    · simp only [show VaSpec.sz 0 = 4096 from rfl] at *; omega
    · simp only [show VaSpec.sz 1 = 2097152 from rfl] at *; omega
    · simp only [show VaSpec.sz 2 = 1073741824 from rfl] at *; omega
  · unfold off
    rcases (by omega : l = 0 ∨ l = 1 ∨ l = 2) with rfl | rfl | rfl
    · simp only [show VaSpec.sz 0 = 4096 from rfl] at *; omega
    · simp only [show VaSpec.sz 1 = 2097152 from rfl] at *; omega
    · simp only [show VaSpec.sz 2 = 1073741824 from rfl] at *; omega
theorem g_sh {n : Nat} {k : Kr} (h : InvT n k) (g : InvG k) : ∀ s i, (0 ≤ i ∧ i < 512) → lkP (atM k.sz k.m s i) = true → (atM k.sz k.m s i).ppn = k.sh → (atM k.sz k.m s i).g = true := fun s i hi h1 h2 => by
  obtain ⟨lv, hT, hs, hr⟩ := h.t
  obtain ⟨q1, q2⟩ := hT.e.s s i hi h1 h2
  obtain ⟨a1, a2, _, _⟩ := zbz hT hi h1
  rcases g.g.c s a1 with e | e | ⟨t, j, hj, c1, c2⟩
  · rw [e, hs] at q2; omega
  · rw [q1, g.g.r s e]; rfl
  · obtain ⟨_, b2, b3, _⟩ := zbz hT hj c1
    rw [c2] at b3; omega
theorem zzp {pa l : Int} (hl : 0 ≤ l ∧ l ≤ 2) (h : lk0 pa l = 0) : pa / 4096 * 4096 = pa := by
  unfold lk0 zem at h
  have hz := sz_pos hl
  rw [if_neg (show ¬ VaSpec.sz l = 0 by omega)] at h
  have hm : pa % VaSpec.sz l = 0 := by
    split at h
    · rename_i c; simpa using c
    · cases h
  have := zg4 hl hm
  omega
theorem z5x {n : Nat} {k : Kr} {id a pa l o : Int} {p : Pm} (h : InvT n k) (hn : n ≤ 90000) (g : InvG k) (ha : U a) (hp : U pa) (he : (zb6 k id a pa l p).2 = 0) (ho : 0 ≤ o ∧ o < VaSpec.sz l) {i : Nat} {s : Sp} (hs : k.ss[i]? = some s) (hl : s.live = true) (hid : id = -1 ∨ id = (i : Int)) :
    (∃ A', Ok 19 [zb2 k.sz (zb6 k id a pa l p).1.m, iu s.root, iu (a + o), ii 1] (.tu [.ag (lfC l A' (mkP (pa / 4096) p (decide (id = -1)))), .ag nfC])) ∧ (0 ≤ l ∧ l ≤ 2) ∧ U (a + o) ∧ 4096 * (pa / 4096) + off (a + o) l = pa + o ∧ (0 ≤ pa / 4096 ∧ pa / 4096 < 17592186044416) := by
  have hf := zjr he
  obtain ⟨w1, w2, w3, w4⟩ := zbt (id := id) (a := a) (l := l) h.l hf.w
  obtain ⟨x1, x2, x3, x4, x5⟩ := z2l ha w1 (zf0 hf.w) ho
  have hpm := zzp w1 hf.a
  have hpn := zji (k := k) (l := l) hp (by have := h.l.g.bd; omega) hf.b
  refine ⟨?_, w1, x1, by rw [x4]; omega, hpn⟩
  have h1 := zes (id := id) (a := a) (pa := pa) (l := l) (p := p) h hp
  have g1 := z4o (id := id) (a := a) (pa := pa) (l := l) (p := p) h g hp
  obtain ⟨q1, q2⟩ := zgi h g.d hp hf
  obtain ⟨A, hA⟩ : ∃ A, zdi a l (mkP (pa / 4096) p (decide (id = -1))) (zkr id) (zh2 k id) = some A := by
    cases e : zdi a l (mkP (pa / 4096) p (decide (id = -1))) (zkr id) (zh2 k id) with
    | none => have := q1 e; omega
    | some A => exact ⟨A, rfl⟩
  rcases q2 A hA with ⟨_, s1, _, _⟩ | ⟨s0, _⟩
  rotate_left
  · omega
  obtain ⟨hss, hsh, hcd, hsz⟩ := zrf k id a pa l p
  have hwt := zc1 h.l hf.w
  have hidx := zg6 (id := id) (a := a) (l := l) hf.w
  generalize (zb6 k id a pa l p).1 = K at *
  have hgs := g_sh h1 g1
  obtain ⟨lv, hT, hs1, hr1⟩ := h1.t
  have hml := h1.l.ml
  have hsK : s ∈ K.ss := by rw [hss]; exact List.mem_of_getElem? hs
  have har := h1.l.ss s hsK hl
  have hrl := hr1 s hsK hl
  have hgr := g1.g.r s.root (zfl.2 ⟨s, hsK, hl, rfl⟩)
  have hD := zyi hT (by omega) g1.g.g hgs (a + o) x1 2 s.root false (by omega) har hrl
  have hiv := idx_bd (a + o) 2
  have hle : l ≤ (zkr id : Int) := by
    unfold zkr
    split
    · rename_i e
      rcases hwt with ⟨_, e2, _⟩ | ⟨_, e2, _⟩
      · rw [e2] at w3; exact w3
      · exact absurd e e2
    · exact w1.2
  have hlk := z2g (v := a + o) w1.1 hle (fun m m1 m2 => x5 m m1 (by have : (zkr id : Int) ≤ 2 := (by unfold zkr; split <;> decide); omega)) hA
  have x52 : idx (a + o) 2 = idx a 2 := x5 2 w1.2 (Int.le_refl 2)
  -- the way's end
  have hend : ∃ t', zat K.sz K.m (a + o) 0 2 s.root = (t', l) ∧ atM K.sz K.m t' (idx (a + o) l) = mkP (pa / 4096) p (decide (id = -1)) ∧ zaz (mkP (pa / 4096) p (decide (id = -1))) = true ∧ (decide (2 = 2) && (lkP (atM K.sz K.m s.root (idx (a + o) 2)) && decide ((atM K.sz K.m s.root (idx (a + o) 2)).ppn = K.sh))) = decide (id = -1) := by
    by_cases c : id = -1
    · subst c
      have ht : zkr (-1) = 1 := rfl
      rw [ht, ← s1, zhs] at hlk
      obtain ⟨t', r1, r2, r3⟩ := zrj hT (a + o) 1 K.sh hs1 l.toNat _ hlk
      have hi5 : idx (a + o) 2 = 511 := x52.trans (hidx rfl)
      refine ⟨t', ?_, ?_, r3, ?_⟩
      · rw [show zat K.sz K.m (a + o) 0 2 s.root = zat K.sz K.m (a + o) 0 1 K.sh from ?_, r1]
        · rw [show ((l.toNat : Nat) : Int) = l by omega]
        · have : za0 (atM K.sz K.m s.root (idx (a + o) ((1 + 1 : Nat) : Int))) ((1 + 1 : Nat) : Int) = true := by
            rw [show idx (a + o) ((1 + 1 : Nat) : Int) = 511 from hi5, hgr]
            exact zbo (zyg _).1 (by omega)
          rw [zba (l := 1) (by omega) this, show idx (a + o) ((1 + 1 : Nat) : Int) = 511 from hi5, hgr]
          rfl
      · rw [show ((l.toNat : Nat) : Int) = l by omega] at r2
        exact r2
      · rw [hi5, hgr, (zyg K.sh).1, (zyg K.sh).2]
        simp
    · have hidi : id = (i : Int) := hid.resolve_left c
      have ht : zkr id = 2 := if_neg c
      have hne : idx a 2 ≠ 511 := by
        rcases hwt with ⟨_, _, e⟩ | ⟨_, _, _, _, e⟩
        · exact absurd e c
        · exact e
      have hsp : zfc K id = s := by
        unfold zfc
        rw [hss, hidi, Int.toNat_natCast, hs]; rfl
      rw [ht, ← s1, zfk K c, hsp] at hlk
      have hlk2 : lkT (a + o) 2 (zc2 K.sz K.m 2 s.root) = some (l.toNat, mkP (pa / 4096) p (decide (id = -1))) := by
        unfold lkT at hlk ⊢
        rw [zd5 _ _ (show idx (a + o) ((2 : Nat) : Int) ≠ 511 by show idx (a + o) 2 ≠ 511; rw [x52]; exact hne)] at hlk
        exact hlk
      obtain ⟨t', r1, r2, r3⟩ := zrj hT (a + o) 2 s.root hrl l.toNat _ hlk2
      refine ⟨t', ?_, ?_, r3, ?_⟩
      · rw [r1, show ((l.toNat : Nat) : Int) = l by omega]
      · rw [show ((l.toNat : Nat) : Int) = l by omega] at r2
        exact r2
      · rw [decide_eq_false c]
        cases ek : lkP (atM K.sz K.m s.root (idx (a + o) 2)) with
        | false => rfl
        | true =>
          have : (atM K.sz K.m s.root (idx (a + o) 2)).ppn ≠ K.sh := fun ee => hne (by rw [← x52]; exact (hT.e.s s.root _ hiv ek ee).1)
          rw [decide_eq_false this]; rfl
  obtain ⟨t', r1, r2, r3, r4⟩ := hend
  rw [show ((2 : Nat) : Int) = 2 from rfl] at hD
  rw [r4, r1] at hD
  unfold zp4 at hD
  rw [if_pos (by show zaz (atM K.sz K.m t' (idx (a + o) l)) = true; rw [r2]; exact r3)] at hD
  have hq : ({ atM K.sz K.m t' (idx (a + o) l) with g := (atM K.sz K.m t' (idx (a + o) l)).g || (false || decide (id = -1)) } : Pte) = mkP (pa / 4096) p (decide (id = -1)) := by
    rw [r2]
    unfold mkP
    cases decide (id = -1) <;> rfl
  refine ⟨4096 * t' + 8 * idx (a + o) l, z2j x2 ?_⟩
  rw [← hsz]
  have hD2 : Ok 70 [zb2 K.sz K.m, iu s.root, iu (a + o), ii 1, ii 2, ib false] (.tu [.ag (lfC l (4096 * t' + 8 * idx (a + o) l) { atM K.sz K.m t' (idx (a + o) l) with g := (atM K.sz K.m t' (idx (a + o) l)).g || (false || decide (id = -1)) }), .ag nfC]) := hD
  rw [hq] at hD2
  exact hD2
theorem lays {n : Nat} {k : Kr} {id a pa l : Int} {p : Pm} (h : InvT n k) (gn : InvN k) (g : InvG k) (ha : U a) (hp : U pa) (he : (zb6 k id a pa l p).2 = 0) :
    ∃ L1 L2, zcf k id = L1 ++ L2 ∧ zcf (zb6 k id a pa l p).1 id = L1 ++ ⟨a, pa, l, p.r, p.w, p.x, p.u, false⟩ :: L2 ∧ (⟨a, pa, l, p.r, p.w, p.x, p.u, false⟩ : Pg) ∉ zcf k id := by
  have hf := zjr he
  obtain ⟨w1, w2, w3, w4⟩ := zbt (id := id) (a := a) (l := l) h.l hf.w
  have hfm := zf0 hf.w
  have hbm := zg5 w1 hfm
  have hcan := z4b ha w1 hfm
  have hpm := zzp w1 hf.a
  have h1 := zes (id := id) (a := a) (pa := pa) (l := l) (p := p) h hp
  obtain ⟨q1, q2⟩ := zgi h g.d hp hf
  obtain ⟨A, hA⟩ : ∃ A, zdi a l (mkP (pa / 4096) p (decide (id = -1))) (zkr id) (zh2 k id) = some A := by
    cases e : zdi a l (mkP (pa / 4096) p (decide (id = -1))) (zkr id) (zh2 k id) with
    | none => have := q1 e; omega
    | some A => exact ⟨A, rfl⟩
  rcases q2 A hA with ⟨_, s1, _, _⟩ | ⟨s0, _⟩
  rotate_left
  · omega
  have hwt := zc1 h.l hf.w
  have hidx := zg6 (id := id) (a := a) (l := l) hf.w
  have hlv := zb9 k id a pa l p id
  have hnot : (⟨a, pa, l, p.r, p.w, p.x, p.u, false⟩ : Pg) ∉ zcf k id := fun hm => by
    have h3 := (zss h gn hf.w).2 ⟨_, hm, by
      show zhz (m39 a) (VaSpec.sz l) (m39 a) (VaSpec.sz l)
      have := sz_pos w1
      exact ⟨by omega, by omega⟩⟩
    have h0 := hf.w
    have hfa := hf.a
    have hfb := hf.b
    have hfc := hf.c
    unfold zb6 at he
    rw [if_neg (by omega), if_neg (by omega), if_neg (by omega), if_neg (by omega), if_pos h3] at he
    exact h3 he
  have hq : (⟨a, (mkP (pa / 4096) p (decide (id = -1))).ppn * 4096, l, (mkP (pa / 4096) p (decide (id = -1))).r, (mkP (pa / 4096) p (decide (id = -1))).w, (mkP (pa / 4096) p (decide (id = -1))).x, (mkP (pa / 4096) p (decide (id = -1))).u, (mkP (pa / 4096) p (decide (id = -1))).d⟩ : Pg) = ⟨a, pa, l, p.r, p.w, p.x, p.u, false⟩ := by
    unfold mkP
    show (⟨a, pa / 4096 * 4096, l, p.r, p.w, p.x, p.u, false⟩ : Pg) = _
    rw [hpm]
  rw [zg7 h id, zg7 h1 id, hlv, s1]
  rw [zg7 h id] at hnot
  by_cases c : id = -1
  · subst c
    rw [if_pos rfl] at hnot ⊢
    rw [if_pos rfl]
    have hz : (512 : Int) * VaSpec.sz ((1 : Nat) : Int) = 1073741824 := rfl
    have hid := hidx rfl
    have hr39 : 548682072064 ≤ m39 a ∧ m39 a < 548682072064 + 1073741824 := by
      unfold idx at hid
      simp only [show VaSpec.sz 2 = 1073741824 from rfl] at hid
      unfold m39; omega
    have hl1 : l ≤ 1 := by
      rcases hwt with ⟨_, e2, _⟩ | ⟨_, e2, _⟩
      · rw [e2] at w3; exact w3
      · exact absurd rfl e2
    obtain ⟨L1, L2, c1, c2⟩ := zrl (l := 1) (b := kA) w1.1 hcan hbm (by omega) (by omega) (by rw [hz, zkq]; decide) (by rw [zkq]; exact hr39.1) (by rw [hz, zkq]; exact hr39.2) hA
    rw [hq] at c2
    exact ⟨L1, L2, c1, c2, hnot⟩
  · have hlive : za5 k id = true := by
      rcases hwt with ⟨_, _, e⟩ | ⟨e, _⟩
      · exact absurd e c
      · exact e
    rw [if_neg c, hlive, if_neg (by simp)] at hnot ⊢
    rw [if_neg c, if_neg (by simp)]
    have hz : (512 : Int) * VaSpec.sz ((2 : Nat) : Int) = 549755813888 := rfl
    have hr39 : 0 ≤ m39 a ∧ m39 a < 549755813888 := by unfold m39; omega
    have hA2 : zdi a l (mkP (pa / 4096) p (decide (id = -1))) 2 (zh2 k id) = some A := by
      rw [show zkr id = 2 from if_neg c] at hA
      exact hA
    obtain ⟨L1, L2, c1, c2⟩ := zrl (l := 2) (b := 0) w1.1 hcan hbm (by omega) (by omega) (by rw [hz]; decide) (by rw [show m39 0 = 0 from rfl]; exact hr39.1) (by rw [hz, show m39 0 = 0 from rfl]; omega) hA2
    rw [hq] at c2
    exact ⟨L1, L2, c1, c2, hnot⟩
theorem z4s (k : Kr) (id a pa l : Int) (p : Pm) : (zb6 k id a pa l p).1.fs = k.fs := by
  rcases zre k id a pa l p with e | ⟨D, g, e⟩ <;> rw [e] <;> rfl
theorem zyj {k : Kr} {id a pa l : Int} {p : Pm} (h : (zb6 k id a pa l p).2 ≠ 0) : (zb6 k id a pa l p).1 = k := by
  unfold zb6 at h ⊢
  (repeat' split) <;> first | rfl | (exfalso; simp_all)
end Go.Proofs.YtomeaibdedaldaaGreatDoor.LoJ
namespace Go.Proofs.YtomeaibdedaldaaGreatDoor.LoK
open BitsC PteSpec RfE RfG RfJ RfK LaH RfA RfP RfQ Go.RowKit Bv VaSpec Base MemL RegR Ax MemC PutC MemC3 TzC OkS SpA SpB SpC SpD SpE SpF SpG SpH SpI SpJ SpK SpN RfD LaA LaB LaC LaD LaE LaF LaG LaI RlB RlC LnD LaJ LrD LiF SpO LiA LiB LiC LiD LiE LrA LrB LrC LjA LjF LkE LmA LmB LmE LnA LnB LnF LnG LnH RfC RlA LoA RfB LoB LoC LoD LoG LoH LoI LoJ
open BitsC PteSpec
set_option maxRecDepth 10000
set_option maxHeartbeats 2000000
theorem eqg (w : World) (a b : Pg) : (Op.equalIn 10000 60 (.agg #[.int .u64 a.va, .int .u64 a.pa, .int .i64 a.lev, .bool a.r, .bool a.w, .bool a.x, .bool a.u, .bool a.d]) (.agg #[.int .u64 b.va, .int .u64 b.pa, .int .i64 b.lev, .bool b.r, .bool b.w, .bool b.x, .bool b.u, .bool b.d])).run Tryz.prog w = .ok (decide (a = b)) w := by
  rw [zvm]
  congr 1
  obtain ⟨a1, a2, a3, a4, a5, a6, a7, a8⟩ := a
  obtain ⟨b1, b2, b3, b4, b5, b6, b7, b8⟩ := b
  rw [Bool.eq_iff_iff]
  simp only [Bool.and_eq_true, beq_iff_eq, decide_eq_true_eq, Pg.mk.injEq]
  constructor
  · rintro ⟨h1, h2, h3, ⟨h4, h5, h6, h7, _⟩, h8, _⟩
    exact ⟨h1, h2, h3, h4, h5, h6, h7, h8⟩
  · rintro ⟨h1, h2, h3, h4, h5, h6, h7, h8⟩
    exact ⟨h1, h2, h3, ⟨h4, h5, h6, h7, trivial⟩, h8, trivial⟩
theorem zwd (w : World) (a : Pg) : (Op.equalIn 10000 60 (.agg #[.int .u64 a.va, .int .u64 a.pa, .int .i64 a.lev, .bool a.r, .bool a.w, .bool a.x, .bool a.u, .bool a.d]) (.agg #[.int .u64 a.va, .int .u64 a.pa, .int .i64 a.lev, .bool a.r, .bool a.w, .bool a.x, .bool a.u, .bool a.d])).run Tryz.prog w = .ok true w := by
  rw [eqg, decide_eq_true rfl]
theorem z4t (w : World) (a b : Pg) (h : a ≠ b) : (Op.equalIn 10000 60 (.agg #[.int .u64 a.va, .int .u64 a.pa, .int .i64 a.lev, .bool a.r, .bool a.w, .bool a.x, .bool a.u, .bool a.d]) (.agg #[.int .u64 b.va, .int .u64 b.pa, .int .i64 b.lev, .bool b.r, .bool b.w, .bool b.x, .bool b.u, .bool b.d])).run Tryz.prog w = .ok false w := by
  rw [eqg, decide_eq_false h]
theorem z5y : ((List.range 17).all fun c => decide (zbw (zcu c) (tzI (zcu c)) 1 0 = 0) || !(zdo (zbw 0 (tzI (zcu c)) 1 1) (tzI (zbw (zcu c) (tzI (zcu c)) 1 0)) 1 == 1)) = true := by kernel_rfl
theorem ao_z : ((List.range 17).all fun c => !(zdo 0 (tzI (zcu c)) 1 == 1)) = true := by kernel_rfl
theorem z5z {a b c : Int} {n : Nat} (h : zez a b c n = true) : (bgK a b c n).fs = [] := by
  obtain ⟨_, _, hc, _⟩ := zcz.1 h
  have key := List.all_eq_true.1 z5y c.toNat (List.mem_range.2 (by omega))
  rw [show ((c.toNat : Nat) : Int) = c by omega] at key
  have g0 : (zdo 0 (tzI (zcu c)) 1 == 1) = false := by
    have key2 := List.all_eq_true.1 ao_z c.toNat (List.mem_range.2 (by omega))
    rw [show ((c.toNat : Nat) : Int) = c by omega] at key2
    simpa using key2
  have step : ∀ k : Kr, k.fs = [] → (k.af = 0 ∨ (zdo k.ao (tzI k.af) 1 == 1) = false) → (zbh k).1.fs = [] ∧ ((zbh k).1 = k ∨ ((zbh k).1.ao = zbw k.ao (tzI k.af) 1 1 ∧ (zbh k).1.af = zbw k.af (tzI k.af) 1 0)) := fun k h1 h2 => by
    unfold zbh
    by_cases c1 : 32 ≤ k.ss.length
    · rw [if_pos c1]; exact ⟨h1, .inl rfl⟩
    rw [if_neg c1]
    by_cases c2 : k.af = 0
    · rw [if_pos c2]; exact ⟨h1, .inl rfl⟩
    rw [if_neg c2]
    by_cases c3 : k.pf = 0
    · rw [if_pos c3]; exact ⟨h1, .inl rfl⟩
    rw [if_neg c3]
    rcases h2 with e | e
    · exact absurd e c2
    · rw [e, if_neg (by simp)]
      exact ⟨h1, .inr ⟨rfl, rfl⟩⟩
  obtain ⟨q1, q2⟩ := step (zoc a b c n) rfl (.inr g0)
  refine (step (zbh (zoc a b c n)).1 q1 ?_).1
  rcases q2 with e | ⟨e1, e2⟩
  · rw [e]; exact .inr g0
  · rw [e1, e2]
    have e3 : (zoc a b c n).af = zcu c := rfl
    have e4 : (zoc a b c n).ao = 0 := rfl
    rw [e3, e4]
    rw [Bool.or_eq_true, decide_eq_true_eq, Bool.not_eq_true'] at key
    exact key
attribute [local irreducible] Ax.zbn
theorem z50 {n : Nat} {k : Kr} (h : InvL n k) (hn : n ≤ 100000) : Ok 16 [.ag k.ce, .ag k.ce] (.m (ib true)) := by
  have b1 := h.ml
  have b2 := h.fl
  have b3 := h.sl
  exact SpM.z05 k h.ts h.cs.2 (by omega) (by omega) (by omega)
def ldO (l : List Rq) (off : Int) (i : Nat) (k : Kr) : St := St.of [(1, .m (.c (.s l.length 8 (flQ l)))), (2, .m (iu off)), (6, .m (ib false)), (7, .m (.c (.p 7 0))), (9, .m (ii i))] [(7, .live (.box k.ce))]
def ldA (l : List Rq) (off : Int) (i : Nat) (k : Kr) (x : Rq) (was now : List Pg) (fnd : Bool) (j m : Nat) : St := St.of [(1, .m (.c (.s l.length 8 (flQ l)))), (2, .m (iu off)), (6, .m (ib false)), (7, .m (.c (.p 7 0))), (9, .m (ii i)), (10, .m (.c (.p 10 0))), (11, .m (.c (.s was.length 8 (flP was)))), (14, .m (.c (.s now.length 8 (flP now)))), (15, .m (.c (.p 15 0))), (16, .m (ib fnd)), (17, .m (ii j)), (18, .m (ii m))] [(7, .live (.box k.ce)), (10, .live (.box x.ce)), (15, .live (.box [cu x.va, cu x.pa, ci x.lev, cb x.p.r, cb x.p.w, cb x.p.x, cb x.p.u, cb false]))]
def ldB (l : List Rq) (off : Int) (i : Nat) (k : Kr) (x : Rq) (s : Nat) : St := St.of [(1, .m (.c (.s l.length 8 (flQ l)))), (2, .m (iu off)), (6, .m (ib false)), (7, .m (.c (.p 7 0))), (9, .m (ii i)), (10, .m (.c (.p 10 0))), (19, .m (ii s))] [(7, .live (.box k.ce)), (10, .live (.box x.ce))]
def zn8 (x : Rq) : Pg := ⟨x.va, x.pa, x.lev, x.p.r, x.p.w, x.p.x, x.p.u, false⟩
set_option maxHeartbeats 40000000 in
theorem leads_ok (a b c d : Int) (l : List Rq) (off : Int) (hl : ∀ x ∈ l, UQ x) (hoff : U off) : Ok 3 [zlr a b c d, .c (.s l.length 8 (flQ l)), iu off] (.m (ib true)) := by
  have hm := z06 a b c d
  cases hc : zez a b c d with
  | false =>
    rw [hc] at hm
    refine zah 232 Tryz.func3 rfl rfl rfl rfl ?_ GG.to
    intro W A hG
    repeat (first | (refine zaj rfl ?_; first | refine zak ?_ | refine gdr (zaa rfl rfl rfl (zl4) (by kernel_rfl)) ?_ | refine gdr (zaa rfl rfl rfl (hm) (by kernel_rfl)) ?_) | (refine hK _ ?_; clear hK K) | (rename_i K1 hK1; refine hK1 _ ?_; clear hK hK1; clear K) | (rename_i K1 hK1; refine hK1 _ ?_; clear hK1) | refine zac rfl ?_ | refine zas (by kernel_rfl) (by kernel_rfl) rfl ?_ | exact zaf (show zav _ _ _ = some _ by kernel_rfl) | refine zag rfl rfl ?_ | refine zae rfl rfl ?_ | refine zad ?_ | refine zan ?_ | refine zai ?_ | refine zab (fun K hK => ?_) | refine zap ?_ | refine zau ?_ | refine zaf (show zav _ _ _ = some _ ∧ EndB _ _ from ⟨by kernel_rfl, ?_⟩))
  | true =>
    rw [hc] at hm
    by_cases hlen : 25 < l.length
    · refine zah 232 Tryz.func3 rfl rfl rfl rfl ?_ GG.to
      intro W A hG
      repeat (first | (refine zaj rfl ?_; first | refine zak ?_ | refine gdr (zaa rfl rfl rfl (zl4) (by kernel_rfl)) ?_ | refine gdr (zaa rfl rfl rfl (hm) (by kernel_rfl)) ?_) | (refine hK _ ?_; clear hK K) | (rename_i K1 hK1; refine hK1 _ ?_; clear hK hK1; clear K) | (rename_i K1 hK1; refine hK1 _ ?_; clear hK1) | refine zac rfl ?_ | refine zas (by kernel_rfl) (by kernel_rfl) rfl ?_ | exact zaf (show zav _ _ _ = some _ by kernel_rfl) | refine zag rfl rfl ?_ | refine zae rfl rfl ?_ | refine zad ?_ | refine zan ?_ | refine zai ?_ | refine zab (fun K hK => ?_) | refine zap ?_ | refine zau ?_ | refine zaf (show zav _ _ _ = some _ ∧ EndB _ _ from ⟨by kernel_rfl, ?_⟩))
    obtain ⟨n, rfl⟩ := Int.eq_ofNat_of_zero_le (zcz.1 hc).2.2.2.1
    have hb := zq1 a b c n hc
    have hbi := zvu hc
    have hbn := bg_n hc
    have hbg := bg_g hc
    have hbf := z5z hc
    generalize bgK a b c n = bk at *
    refine zah 232 Tryz.func3 rfl rfl rfl rfl ?_ GG.to
    intro W A hG
    repeat (first | (refine zaj rfl ?_; first | refine zak ?_ | refine gdr (zaa rfl rfl rfl (zl4) (by kernel_rfl)) ?_ | refine gdr (zaa rfl rfl rfl (hm) (by kernel_rfl)) ?_ | refine gdr (zaa rfl rfl rfl (hb) (by kernel_rfl)) ?_) | (refine hK _ ?_; clear hK K) | (rename_i K1 hK1; refine hK1 _ ?_; clear hK hK1; clear K) | (rename_i K1 hK1; refine hK1 _ ?_; clear hK1) | refine zac rfl ?_ | refine zas (by kernel_rfl) (by kernel_rfl) rfl ?_ | exact zaf (show zav _ _ _ = some _ by kernel_rfl) | refine zag rfl rfl ?_ | refine zae rfl rfl ?_ | refine zad ?_ | refine zan ?_ | refine zai ?_ | refine zab (fun K hK => ?_) | refine zap ?_ | refine zau ?_ | refine zaf (show zav _ _ _ = some _ ∧ EndB _ _ from ⟨by kernel_rfl, ?_⟩))
    refine za3 (α := Nat × Kr) (fun w => w.1 ≤ l.length ∧ InvT (2 + 3 * w.1) w.2 ∧ InvN w.2 ∧ InvG w.2 ∧ w.2.fs = []) (fun w => ldO l off w.1 w.2) (fun w => l.length - w.1) (0, bk) ⟨Nat.zero_le _, hbi, hbn, hbg, hbf⟩ (sbq _ _) ?_
    rintro ⟨i, k⟩ ⟨hi0, hk0, hn0, hg0, hf0⟩
    have hi : i ≤ l.length := hi0
    have hk : InvT (2 + 3 * i) k := hk0
    have hn : InvN k := hn0
    have hg : InvG k := hg0
    have hf : k.fs = [] := hf0
    clear hi0 hk0 hn0 hg0 hf0 hb hbi hbn hbg hbf hm
    show Aw _ _ _ _ (ldO l off i k)
    unfold ldO
    by_cases hlt : i < l.length
    · obtain ⟨x, hx0⟩ : ∃ x, l[i]? = some x := ⟨_, List.getElem?_eq_getElem hlt⟩
      have hx := z33 hx0
      have h8 := hl x (List.mem_of_getElem? hx0)
      have hd := z5o hk.l (by omega) x h8
      have hls := zfx hk.l (by omega) x.id
      have hI : InvT (2 + 3 * i + 3) (mq k x).1 := zes hk h8.2
      have hN : InvN (mq k x).1 := z4a hk hn h8.2
      have hG2 : InvG (mq k x).1 := z4o hk hg h8.2
      have hF : (mq k x).1.fs = [] := by rw [show (mq k x).1 = (zb6 k x.id x.va x.pa x.lev x.p).1 from rfl, z4s]; exact hf
      have hsm : (mq k x).2 ≠ 0 → (mq k x).1 = k := fun e => zyj e
      have hlay : (mq k x).2 = 0 → ∃ L1 L2, zcf k x.id = L1 ++ L2 ∧ zcf (mq k x).1 x.id = L1 ++ zn8 x :: L2 ∧ zn8 x ∉ zcf k x.id := fun e => lays hk hn hg h8.1 h8.2 e
      have hled : (mq k x).2 = 0 → ∀ o, (0 ≤ o ∧ o < VaSpec.sz x.lev) → ∀ (s : Nat) (sp : Sp), k.ss[s]? = some sp → sp.live = true → (x.id = -1 ∨ x.id = (s : Int)) → (∃ A', Ok 19 [zb2 k.sz (mq k x).1.m, iu sp.root, iu (x.va + o), ii 1] (.tu [.ag (lfC x.lev A' (mkP (x.pa / 4096) x.p (decide (x.id = -1)))), .ag nfC])) ∧ (0 ≤ x.lev ∧ x.lev ≤ 2) ∧ U (x.va + o) ∧ 4096 * (x.pa / 4096) + VaSpec.off (x.va + o) x.lev = x.pa + o ∧ (0 ≤ x.pa / 4096 ∧ x.pa / 4096 < 17592186044416) := fun e o ho s sp h1 h2 h3 => z5x hk (by omega) hg h8.1 h8.2 e ho h1 h2 h3
      have hlev : (mq k x).2 = 0 → (0 ≤ x.lev ∧ x.lev ≤ 2) := fun e => (zbt hk.l (zjr e).w).1
      have hssz : (mq k x).1.ss = k.ss ∧ (mq k x).1.sz = k.sz := ⟨(zrf k x.id x.va x.pa x.lev x.p).1, (zrf k x.id x.va x.pa x.lev x.p).2.2.2⟩
      have hls2 := zfx hI.l (by omega) x.id
      have htr := z2b hI (by omega) hG2
      have hkl := z50 hk.l (by omega)
      have hwl := zn1 k x.id
      have hnl := zn1 (mq k x).1 x.id
      have hq1 := h8.1
      have hq2 := h8.2
      generalize hwas : zcf k x.id = was at *
      generalize hnow : zcf (mq k x).1 x.id = now at *
      clear hwas hnow
      generalize mq k x = rr at *
      obtain ⟨kn, en⟩ := rr
      repeat (first | (refine zaj rfl ?_; first | refine zak ?_) | refine zac rfl ?_ | refine zas (by kernel_rfl) (by kernel_rfl) rfl ?_ | exact zaf (show zav _ _ _ = some _ by kernel_rfl) | refine zag rfl rfl ?_ | refine zae rfl rfl ?_ | refine zad ?_ | refine zan ?_ | refine zai ?_ | refine zab (fun K hK => ?_) | refine zap ?_ | refine zau ?_ | refine zaf (show zav _ _ _ = some _ ∧ EndB _ _ from ⟨by kernel_rfl, ?_⟩))
      first
        | (refine hK _ ?_; clear hK K)
        | (rename_i K1 hK1; refine hK1 _ ?_; clear hK hK1; clear K)
        | (rename_i K1 hK1; refine hK1 _ ?_; clear hK1)
      repeat (first | (refine zaj rfl ?_; first | refine zak ?_) | refine zac rfl ?_ | refine zas (by kernel_rfl) (by kernel_rfl) rfl ?_ | exact zaf (show zav _ _ _ = some _ by kernel_rfl) | refine zag rfl rfl ?_ | refine zae rfl rfl ?_ | refine zad ?_ | refine zan ?_ | refine zai ?_ | refine zab (fun K hK => ?_) | refine zap ?_ | refine zau ?_ | refine zaf (show zav _ _ _ = some _ ∧ EndB _ _ from ⟨by kernel_rfl, ?_⟩))
      first
        | (refine hK _ ?_; clear hK K)
        | (rename_i K1 hK1; refine hK1 _ ?_; clear hK hK1; clear K)
        | (rename_i K1 hK1; refine hK1 _ ?_; clear hK1)
      repeat (first | (refine zaj rfl ?_; first | refine zak ?_) | refine zac rfl ?_ | refine zas (by kernel_rfl) (by kernel_rfl) rfl ?_ | exact zaf (show zav _ _ _ = some _ by kernel_rfl) | refine zag rfl rfl ?_ | refine zae rfl rfl ?_ | refine zad ?_ | refine zan ?_ | refine zai ?_ | refine zab (fun K hK => ?_) | refine zap ?_ | refine zau ?_ | refine zaf (show zav _ _ _ = some _ ∧ EndB _ _ from ⟨by kernel_rfl, ?_⟩))
      first
        | (refine hK _ ?_; clear hK K)
        | (rename_i K1 hK1; refine hK1 _ ?_; clear hK hK1; clear K)
        | (rename_i K1 hK1; refine hK1 _ ?_; clear hK1)
      repeat (first | (refine zaj rfl ?_; first | refine zak ?_ | refine gdr (zaa rfl rfl rfl (hls) (by kernel_rfl)) ?_) | refine zac rfl ?_ | refine zas (by kernel_rfl) (by kernel_rfl) rfl ?_ | exact zaf (show zav _ _ _ = some _ by kernel_rfl) | refine zag rfl rfl ?_ | refine zae rfl rfl ?_ | refine zad ?_ | refine zan ?_ | refine zai ?_ | refine zab (fun K hK => ?_) | refine zap ?_ | refine zau ?_ | refine zaf (show zav _ _ _ = some _ ∧ EndB _ _ from ⟨by kernel_rfl, ?_⟩))
      first
        | (refine hK _ ?_; clear hK K)
        | (rename_i K1 hK1; refine hK1 _ ?_; clear hK hK1; clear K)
        | (rename_i K1 hK1; refine hK1 _ ?_; clear hK1)
      repeat (first | (refine zaj rfl ?_; first | refine zak ?_ | refine gdr (zaa rfl rfl rfl (hd) (by kernel_rfl)) ?_) | refine zac rfl ?_ | refine zas (by kernel_rfl) (by kernel_rfl) rfl ?_ | exact zaf (show zav _ _ _ = some _ by kernel_rfl) | refine zag rfl rfl ?_ | refine zae rfl rfl ?_ | refine zad ?_ | refine zan ?_ | refine zai ?_ | refine zab (fun K hK => ?_) | refine zap ?_ | refine zau ?_ | refine zaf (show zav _ _ _ = some _ ∧ EndB _ _ from ⟨by kernel_rfl, ?_⟩))
      first
        | (refine hK _ ?_; clear hK K)
        | (rename_i K1 hK1; refine hK1 _ ?_; clear hK hK1; clear K)
        | (rename_i K1 hK1; refine hK1 _ ?_; clear hK1)
      refine zci (sbq [(1, .m (.c (.s l.length 8 (flQ l)))), (2, .m (iu off)), (6, .m (ib false)), (7, .m (.c (.p 7 0))), (9, .m (ii i)), (10, .m (.c (.p 10 0))), (11, .m (.c (.s was.length 8 (flP was)))), (12, .m (.c (.p 12 0))), (13, .m (ii en))] [(7, .live (.box k.ce)), (10, .live (.box x.ce)), (12, .live (.box kn.ce))]) ?_
      by_cases c0 : en = 0
      · subst c0
        obtain ⟨L1, L2, e1, e2, e3⟩ := hlay rfl
        replace hled := hled rfl
        replace hlev := hlev rfl
        replace hF : kn.fs = [] := hF
        replace hssz : kn.ss = k.ss ∧ kn.sz = k.sz := hssz
        have hfl : kn.fs.length = 0 := by rw [hF]; rfl
        have hle : now.length = was.length + 1 := by rw [e1]; replace e2 : now = L1 ++ zn8 x :: L2 := e2; rw [e2]; simp; omega
        clear hlay hsm
        repeat (first | (refine zaj rfl ?_; first | refine zak ?_) | refine zac rfl ?_ | refine zas (by kernel_rfl) (by kernel_rfl) rfl ?_ | exact zaf (show zav _ _ _ = some _ by kernel_rfl) | refine zag rfl rfl ?_ | refine zae rfl rfl ?_ | refine zad ?_ | refine zan ?_ | refine zai ?_ | refine zab (fun K hK => ?_) | refine zap ?_ | refine zau ?_ | refine zaf (show zav _ _ _ = some _ ∧ EndB _ _ from ⟨by kernel_rfl, ?_⟩))
        first
          | (refine hK _ ?_; clear hK K)
          | (rename_i K1 hK1; refine hK1 _ ?_; clear hK hK1; clear K)
          | (rename_i K1 hK1; refine hK1 _ ?_; clear hK1)
        repeat (first | (refine zaj rfl ?_; first | refine zak ?_) | refine zac rfl ?_ | refine zas (by kernel_rfl) (by kernel_rfl) rfl ?_ | exact zaf (show zav _ _ _ = some _ by kernel_rfl) | refine zag rfl rfl ?_ | refine zae rfl rfl ?_ | refine zad ?_ | refine zan ?_ | refine zai ?_ | refine zab (fun K hK => ?_) | refine zap ?_ | refine zau ?_ | refine zaf (show zav _ _ _ = some _ ∧ EndB _ _ from ⟨by kernel_rfl, ?_⟩))
        first
          | (refine hK _ ?_; clear hK K)
          | (rename_i K1 hK1; refine hK1 _ ?_; clear hK hK1; clear K)
          | (rename_i K1 hK1; refine hK1 _ ?_; clear hK1)
        repeat (first | (refine zaj rfl ?_; first | refine zak ?_ | refine gdr (zaa rfl rfl rfl (hls2) (by kernel_rfl)) ?_) | refine zac rfl ?_ | refine zas (by kernel_rfl) (by kernel_rfl) rfl ?_ | exact zaf (show zav _ _ _ = some _ by kernel_rfl) | refine zag rfl rfl ?_ | refine zae rfl rfl ?_ | refine zad ?_ | refine zan ?_ | refine zai ?_ | refine zab (fun K hK => ?_) | refine zap ?_ | refine zau ?_ | refine zaf (show zav _ _ _ = some _ ∧ EndB _ _ from ⟨by kernel_rfl, ?_⟩))
        first
          | (refine hK _ ?_; clear hK K)
          | (rename_i K1 hK1; refine hK1 _ ?_; clear hK hK1; clear K)
          | (rename_i K1 hK1; refine hK1 _ ?_; clear hK1)
        refine zci (sbq [(1, .m (.c (.s l.length 8 (flQ l)))), (2, .m (iu off)), (6, .m (ib false)), (7, .m (.c (.p 7 0))), (9, .m (ii i)), (10, .m (.c (.p 10 0))), (11, .m (.c (.s was.length 8 (flP was)))), (12, .m (.c (.p 12 0))), (14, .m (.c (.s now.length 8 (flP now))))] [(7, .live (.box k.ce)), (10, .live (.box x.ce)), (12, .live (.box kn.ce))]) ?_
        repeat (first | (refine zaj rfl ?_; first | refine zak ?_ | refine gdr (zaa rfl rfl rfl (htr) (by kernel_rfl)) ?_) | refine zac rfl ?_ | refine zas (by kernel_rfl) (by kernel_rfl) rfl ?_ | exact zaf (show zav _ _ _ = some _ by kernel_rfl) | refine zag rfl rfl ?_ | refine zae rfl rfl ?_ | refine zad ?_ | refine zan ?_ | refine zai ?_ | refine zab (fun K hK => ?_) | refine zap ?_ | refine zau ?_ | refine zaf (show zav _ _ _ = some _ ∧ EndB _ _ from ⟨by kernel_rfl, ?_⟩))
        first
          | (refine hK _ ?_; clear hK K)
          | (rename_i K1 hK1; refine hK1 _ ?_; clear hK hK1; clear K)
          | (rename_i K1 hK1; refine hK1 _ ?_; clear hK1)
        repeat (first | (refine zaj rfl ?_; first | refine zak ?_) | refine zac rfl ?_ | refine zas (by kernel_rfl) (by kernel_rfl) rfl ?_ | exact zaf (show zav _ _ _ = some _ by kernel_rfl) | refine zag rfl rfl ?_ | refine zae rfl rfl ?_ | refine zad ?_ | refine zan ?_ | refine zai ?_ | refine zab (fun K hK => ?_) | refine zap ?_ | refine zau ?_ | refine zaf (show zav _ _ _ = some _ ∧ EndB _ _ from ⟨by kernel_rfl, ?_⟩))
        first
          | (refine hK _ ?_; clear hK K)
          | (rename_i K1 hK1; refine hK1 _ ?_; clear hK hK1; clear K)
          | (rename_i K1 hK1; refine hK1 _ ?_; clear hK1)
        repeat (first | (refine zaj rfl ?_; first | refine zak ?_) | refine zac rfl ?_ | refine zas (by kernel_rfl) (by kernel_rfl) rfl ?_ | exact zaf (show zav _ _ _ = some _ by kernel_rfl) | refine zag rfl rfl ?_ | refine zae rfl rfl ?_ | refine zad ?_ | refine zan ?_ | refine zai ?_ | refine zab (fun K hK => ?_) | refine zap ?_ | refine zau ?_ | refine zaf (show zav _ _ _ = some _ ∧ EndB _ _ from ⟨by kernel_rfl, ?_⟩))
        first
          | (refine hK _ ?_; clear hK K)
          | (rename_i K1 hK1; refine hK1 _ ?_; clear hK hK1; clear K)
          | (rename_i K1 hK1; refine hK1 _ ?_; clear hK1)
        repeat (first | (refine zaj rfl ?_; first | refine zak ?_) | refine zac rfl ?_ | refine zas (by kernel_rfl) (by kernel_rfl) rfl ?_ | exact zaf (show zav _ _ _ = some _ by kernel_rfl) | refine zag rfl rfl ?_ | refine zae rfl rfl ?_ | refine zad ?_ | refine zan ?_ | refine zai ?_ | refine zab (fun K hK => ?_) | refine zap ?_ | refine zau ?_ | refine zaf (show zav _ _ _ = some _ ∧ EndB _ _ from ⟨by kernel_rfl, ?_⟩))
        first
          | (refine hK _ ?_; clear hK K)
          | (rename_i K1 hK1; refine hK1 _ ?_; clear hK hK1; clear K)
          | (rename_i K1 hK1; refine hK1 _ ?_; clear hK1)
        refine zci (sbq [(1, .m (.c (.s l.length 8 (flQ l)))), (2, .m (iu off)), (6, .m (ib false)), (7, .m (.c (.p 7 0))), (9, .m (ii i)), (10, .m (.c (.p 10 0))), (11, .m (.c (.s was.length 8 (flP was)))), (14, .m (.c (.s now.length 8 (flP now)))), (15, .m (.c (.p 15 0)))] [(7, .live (.box kn.ce)), (10, .live (.box x.ce)), (15, .live (.box [cu x.va, cu x.pa, ci x.lev, cb x.p.r, cb x.p.w, cb x.p.x, cb x.p.u, cb false]))]) ?_
        repeat (first | (refine zaj rfl ?_; first | refine zak ?_) | (refine hK _ ?_; clear hK K) | (rename_i K1 hK1; refine hK1 _ ?_; clear hK hK1; clear K) | (rename_i K1 hK1; refine hK1 _ ?_; clear hK1) | refine zac rfl ?_ | refine zas (by kernel_rfl) (by kernel_rfl) rfl ?_ | exact zaf (show zav _ _ _ = some _ by kernel_rfl) | refine zag rfl rfl ?_ | refine zae rfl rfl ?_ | refine zad ?_ | refine zan ?_ | refine zai ?_ | refine zab (fun K hK => ?_) | refine zap ?_ | refine zau ?_ | refine zaf (show zav _ _ _ = some _ ∧ EndB _ _ from ⟨by kernel_rfl, ?_⟩))
        refine za3 (α := Nat) (fun m => m ≤ now.length) (fun m => ldA l off i kn x was now (decide (L1.length < m)) (if m ≤ L1.length then m else m - 1) m) (fun m => now.length - m) 0 (Nat.zero_le _) (sbq _ _) ?_
        intro m hm
        show Aw _ _ _ _ (ldA l off i kn x was now (decide (L1.length < m)) (if m ≤ L1.length then m else m - 1) m)
        replace e2 : now = L1 ++ zn8 x :: L2 := e2
        by_cases hmt : m < now.length
        · obtain ⟨y, hy⟩ : ∃ y, now[m]? = some y := ⟨_, List.getElem?_eq_getElem hmt⟩
          have hxm := zy2 hy
          by_cases c1 : m = L1.length
          · have hyw : y = zn8 x := by
              rw [e2, c1] at hy
              simpa using hy.symm
            have hE := fun w => zwd w (zn8 x)
            rw [hyw] at hxm
            rw [decide_eq_false (show ¬ L1.length < m by omega), if_pos (show m ≤ L1.length by omega)]
            unfold ldA
            repeat (first | (refine zaj rfl ?_; first | refine zak ?_ | refine gdr (zcj (us := [.int .u64 x.va, .int .u64 x.pa, .int .i64 x.lev, .bool x.p.r, .bool x.p.w, .bool x.p.x, .bool x.p.u, .bool false]) (vs := [.int .u64 x.va, .int .u64 x.pa, .int .i64 x.lev, .bool x.p.r, .bool x.p.w, .bool x.p.x, .bool x.p.u, .bool false]) hE (by kernel_rfl) rfl rfl rfl rfl) ?_) | (refine hK _ ?_; clear hK K) | (rename_i K1 hK1; refine hK1 _ ?_; clear hK hK1; clear K) | (rename_i K1 hK1; refine hK1 _ ?_; clear hK1) | refine zac rfl ?_ | refine zas (by kernel_rfl) (by kernel_rfl) rfl ?_ | exact zaf (show zav _ _ _ = some _ by kernel_rfl) | refine zag rfl rfl ?_ | refine zae rfl rfl ?_ | refine zad ?_ | refine zan ?_ | refine zai ?_ | refine zab (fun K hK => ?_) | refine zap ?_ | refine zau ?_ | refine zaf (show zav _ _ _ = some _ ∧ EndB _ _ from ⟨by kernel_rfl, ?_⟩))
            refine ⟨m + 1, hmt, by omega, ?_⟩
            rw [decide_eq_true (show L1.length < m + 1 by omega), if_neg (show ¬ m + 1 ≤ L1.length by omega), show m + 1 - 1 = m by omega]
            exact sbq _ _
          · have hj : ∃ j : Nat, j < was.length ∧ was[j]? = some y ∧ (if m ≤ L1.length then m else m - 1) = j ∧ (if m + 1 ≤ L1.length then m + 1 else m + 1 - 1) = j + 1 ∧ decide (L1.length < m + 1) = decide (L1.length < m) := by
              by_cases c2 : m < L1.length
              · refine ⟨m, by rw [e1]; simp; omega, ?_, if_pos (by omega), if_pos (by omega), ?_⟩
                · rw [e2, List.getElem?_append_left c2] at hy
                  rw [e1, List.getElem?_append_left c2]; exact hy
                · rw [decide_eq_false (by omega), decide_eq_false (by omega)]
              · refine ⟨m - 1, by omega, ?_, if_neg (by omega), by rw [if_neg (by omega)]; omega, ?_⟩
                · rw [e2, List.getElem?_append_right (by omega)] at hy
                  rw [e1, List.getElem?_append_right (by omega)]
                  rw [show m - L1.length = (m - 1 - L1.length) + 1 by omega, List.getElem?_cons_succ] at hy
                  exact hy
                · rw [decide_eq_true (by omega), decide_eq_true (by omega)]
            obtain ⟨j, j1, j2, j3, j4, j5⟩ := hj
            have hxw := zy2 j2
            have hne : y ≠ zn8 x := fun e => e3 (by rw [← e]; exact List.mem_of_getElem? j2)
            have hE := fun w => z4t w y (zn8 x) hne
            have hE2 := fun w => zwd w y
            rw [j3]
            generalize decide (L1.length < m) = fd at *
            unfold ldA
            repeat (first | (refine zaj rfl ?_; first | refine zak ?_ | refine gdr (zcj (us := [.int .u64 y.va, .int .u64 y.pa, .int .i64 y.lev, .bool y.r, .bool y.w, .bool y.x, .bool y.u, .bool y.d]) (vs := [.int .u64 x.va, .int .u64 x.pa, .int .i64 x.lev, .bool x.p.r, .bool x.p.w, .bool x.p.x, .bool x.p.u, .bool false]) hE (by kernel_rfl) rfl rfl rfl rfl) ?_ | refine gdr (zcj (us := [.int .u64 y.va, .int .u64 y.pa, .int .i64 y.lev, .bool y.r, .bool y.w, .bool y.x, .bool y.u, .bool y.d]) (vs := [.int .u64 y.va, .int .u64 y.pa, .int .i64 y.lev, .bool y.r, .bool y.w, .bool y.x, .bool y.u, .bool y.d]) hE2 (by kernel_rfl) rfl rfl rfl rfl) ?_) | (refine hK _ ?_; clear hK K) | (rename_i K1 hK1; refine hK1 _ ?_; clear hK hK1; clear K) | (rename_i K1 hK1; refine hK1 _ ?_; clear hK1) | refine zac rfl ?_ | refine zas (by kernel_rfl) (by kernel_rfl) rfl ?_ | exact zaf (show zav _ _ _ = some _ by kernel_rfl) | refine zag rfl rfl ?_ | refine zae rfl rfl ?_ | refine zad ?_ | refine zan ?_ | refine zai ?_ | refine zab (fun K hK => ?_) | refine zap ?_ | refine zau ?_ | refine zaf (show zav _ _ _ = some _ ∧ EndB _ _ from ⟨by kernel_rfl, ?_⟩))
            refine ⟨m + 1, hmt, by omega, ?_⟩
            rw [j4, j5]
            exact sbq _ _
        · have hme : m = now.length := by omega
          have hwe : was.length = L1.length + L2.length := by rw [e1]; simp
          have hj : (if m ≤ L1.length then m else m - 1) = was.length := by rw [if_neg (by omega)]; omega
          have hfd : decide (L1.length < m) = true := decide_eq_true (by omega)
          rw [hj, hfd]
          have hmt2 : ¬ m < now.length := hmt
          clear e1 e2 e3 hj hfd
          unfold ldA
          repeat (first | (refine zaj rfl ?_; first | refine zak ?_) | (refine hK _ ?_; clear hK K) | (rename_i K1 hK1; refine hK1 _ ?_; clear hK hK1; clear K) | (rename_i K1 hK1; refine hK1 _ ?_; clear hK1) | refine zac rfl ?_ | refine zas (by kernel_rfl) (by kernel_rfl) rfl ?_ | exact zaf (show zav _ _ _ = some _ by kernel_rfl) | refine zag rfl rfl ?_ | refine zae rfl rfl ?_ | refine zad ?_ | refine zan ?_ | refine zai ?_ | refine zab (fun K hK => ?_) | refine zap ?_ | refine zau ?_ | refine zaf (show zav _ _ _ = some _ ∧ EndB _ _ from ⟨by kernel_rfl, ?_⟩))
          refine za3 (α := Nat) (fun s => s ≤ kn.ss.length) (fun s => ldB l off i kn x s) (fun s => kn.ss.length - s) 0 (Nat.zero_le _) (sbq _ _) ?_
          intro s hs
          show Aw _ _ _ _ (ldB l off i kn x s)
          unfold ldB
          have hssl : kn.ss.length ≤ 32 := hI.l.sl
          by_cases hst : s < kn.ss.length
          · obtain ⟨sp, hsp⟩ : ∃ sp, kn.ss[s]? = some sp := ⟨_, List.getElem?_eq_getElem hst⟩
            have hxs : ((flS kn.ss).drop (s * 3)).take 3 = [.int .u64 sp.root, .int .u64 sp.asid, .bool sp.live] := zd7 Sp.vs 3 (fun _ => rfl) kn.ss _ sp hsp
            have hszz := zx1 x.lev hlev.1 hlev.2
            have hzp := sz_pos (l := x.lev) hlev
            have hzb := (off_bd 0 x.lev hlev).2.2
            have ho : 0 ≤ off % VaSpec.sz x.lev ∧ off % VaSpec.sz x.lev < VaSpec.sz x.lev := ⟨Int.emod_nonneg _ (by omega), Int.emod_lt_of_pos _ hzp⟩
            have hll := hled (off % VaSpec.sz x.lev) ho s sp (by rw [← hssz.1]; exact hsp)
            have hphy := fun A' => z2k x.lev A' (x.va + off % VaSpec.sz x.lev) (mkP (x.pa / 4096) x.p (decide (x.id = -1))) hlev
            rw [← hssz.2] at hll
            clear hled
            cases hlv : sp.live with
            | false =>
              rw [hlv] at hxs
              clear hll hphy
              by_cases c1 : x.id = -1
              · have c2 : ¬ x.id ≠ -1 := by omega
                repeat (first | (refine zaj rfl ?_; first | refine zak ?_) | (refine hK _ ?_; clear hK K) | (rename_i K1 hK1; refine hK1 _ ?_; clear hK hK1; clear K) | (rename_i K1 hK1; refine hK1 _ ?_; clear hK1) | refine zac rfl ?_ | refine zas (by kernel_rfl) (by kernel_rfl) rfl ?_ | exact zaf (show zav _ _ _ = some _ by kernel_rfl) | refine zag rfl rfl ?_ | refine zae rfl rfl ?_ | refine zad ?_ | refine zan ?_ | refine zai ?_ | refine zab (fun K hK => ?_) | refine zap ?_ | refine zau ?_ | refine zaf (show zav _ _ _ = some _ ∧ EndB _ _ from ⟨by kernel_rfl, ?_⟩))
                exact ⟨s + 1, hst, by omega, sbq _ _⟩
              · by_cases c2 : x.id = (s : Int)
                · skip
                  repeat (first | (refine zaj rfl ?_; first | refine zak ?_) | (refine hK _ ?_; clear hK K) | (rename_i K1 hK1; refine hK1 _ ?_; clear hK hK1; clear K) | (rename_i K1 hK1; refine hK1 _ ?_; clear hK1) | refine zac rfl ?_ | refine zas (by kernel_rfl) (by kernel_rfl) rfl ?_ | exact zaf (show zav _ _ _ = some _ by kernel_rfl) | refine zag rfl rfl ?_ | refine zae rfl rfl ?_ | refine zad ?_ | refine zan ?_ | refine zai ?_ | refine zab (fun K hK => ?_) | refine zap ?_ | refine zau ?_ | refine zaf (show zav _ _ _ = some _ ∧ EndB _ _ from ⟨by kernel_rfl, ?_⟩))
                  exact ⟨s + 1, hst, by omega, sbq _ _⟩
                · skip
                  repeat (first | (refine zaj rfl ?_; first | refine zak ?_) | (refine hK _ ?_; clear hK K) | (rename_i K1 hK1; refine hK1 _ ?_; clear hK hK1; clear K) | (rename_i K1 hK1; refine hK1 _ ?_; clear hK1) | refine zac rfl ?_ | refine zas (by kernel_rfl) (by kernel_rfl) rfl ?_ | exact zaf (show zav _ _ _ = some _ by kernel_rfl) | refine zag rfl rfl ?_ | refine zae rfl rfl ?_ | refine zad ?_ | refine zan ?_ | refine zai ?_ | refine zab (fun K hK => ?_) | refine zap ?_ | refine zau ?_ | refine zaf (show zav _ _ _ = some _ ∧ EndB _ _ from ⟨by kernel_rfl, ?_⟩))
                  exact ⟨s + 1, hst, by omega, sbq _ _⟩
            | true =>
              rw [hlv] at hxs
              by_cases c1 : x.id = -1
              · obtain ⟨⟨A', hlook⟩, r2, r3, r4, r5⟩ := hll hlv (.inl c1)
                have hph := hphy A' r3 r5
                replace hph : Ok 20 [.ag (lfC x.lev A' (mkP (x.pa / 4096) x.p (decide (x.id = -1)))), iu (x.va + off % VaSpec.sz x.lev)] (.m (iu (4096 * (x.pa / 4096) + VaSpec.off (x.va + off % VaSpec.sz x.lev) x.lev))) := hph
                rw [r4] at hph
                rw [decide_eq_true c1] at hph hlook
                clear hphy hll r4
                generalize VaSpec.sz x.lev = z at *
                obtain ⟨r30, r31⟩ := r3
                obtain ⟨o0, o1⟩ := ho
                repeat (first | (refine zaj rfl ?_; first | refine zak ?_) | refine zac rfl ?_ | refine zas (by kernel_rfl) (by kernel_rfl) rfl ?_ | exact zaf (show zav _ _ _ = some _ by kernel_rfl) | refine zag rfl rfl ?_ | refine zae rfl rfl ?_ | refine zad ?_ | refine zan ?_ | refine zai ?_ | refine zab (fun K hK => ?_) | refine zap ?_ | refine zau ?_ | refine zaf (show zav _ _ _ = some _ ∧ EndB _ _ from ⟨by kernel_rfl, ?_⟩))
                first
                  | (refine hK _ ?_; clear hK K)
                  | (rename_i K1 hK1; refine hK1 _ ?_; clear hK hK1; clear K)
                  | (rename_i K1 hK1; refine hK1 _ ?_; clear hK1)
                repeat (first | (refine zaj rfl ?_; first | refine zak ?_) | refine zac rfl ?_ | refine zas (by kernel_rfl) (by kernel_rfl) rfl ?_ | exact zaf (show zav _ _ _ = some _ by kernel_rfl) | refine zag rfl rfl ?_ | refine zae rfl rfl ?_ | refine zad ?_ | refine zan ?_ | refine zai ?_ | refine zab (fun K hK => ?_) | refine zap ?_ | refine zau ?_ | refine zaf (show zav _ _ _ = some _ ∧ EndB _ _ from ⟨by kernel_rfl, ?_⟩))
                first
                  | (refine hK _ ?_; clear hK K)
                  | (rename_i K1 hK1; refine hK1 _ ?_; clear hK hK1; clear K)
                  | (rename_i K1 hK1; refine hK1 _ ?_; clear hK1)
                repeat (first | (refine zaj rfl ?_; first | refine zak ?_) | refine zac rfl ?_ | refine zas (by kernel_rfl) (by kernel_rfl) rfl ?_ | exact zaf (show zav _ _ _ = some _ by kernel_rfl) | refine zag rfl rfl ?_ | refine zae rfl rfl ?_ | refine zad ?_ | refine zan ?_ | refine zai ?_ | refine zab (fun K hK => ?_) | refine zap ?_ | refine zau ?_ | refine zaf (show zav _ _ _ = some _ ∧ EndB _ _ from ⟨by kernel_rfl, ?_⟩))
                first
                  | (refine hK _ ?_; clear hK K)
                  | (rename_i K1 hK1; refine hK1 _ ?_; clear hK hK1; clear K)
                  | (rename_i K1 hK1; refine hK1 _ ?_; clear hK1)
                repeat (first | (refine zaj rfl ?_; first | refine zak ?_) | refine zac rfl ?_ | refine zas (by kernel_rfl) (by kernel_rfl) rfl ?_ | exact zaf (show zav _ _ _ = some _ by kernel_rfl) | refine zag rfl rfl ?_ | refine zae rfl rfl ?_ | refine zad ?_ | refine zan ?_ | refine zai ?_ | refine zab (fun K hK => ?_) | refine zap ?_ | refine zau ?_ | refine zaf (show zav _ _ _ = some _ ∧ EndB _ _ from ⟨by kernel_rfl, ?_⟩))
                first
                  | (refine hK _ ?_; clear hK K)
                  | (rename_i K1 hK1; refine hK1 _ ?_; clear hK hK1; clear K)
                  | (rename_i K1 hK1; refine hK1 _ ?_; clear hK1)
                repeat (first | (refine zaj rfl ?_; first | refine zak ?_ | refine gdr (zaa rfl rfl rfl (hszz) (by kernel_rfl)) ?_) | refine zac rfl ?_ | refine zas (by kernel_rfl) (by kernel_rfl) rfl ?_ | exact zaf (show zav _ _ _ = some _ by kernel_rfl) | refine zag rfl rfl ?_ | refine zae rfl rfl ?_ | refine zad ?_ | refine zan ?_ | refine zai ?_ | refine zab (fun K hK => ?_) | refine zap ?_ | refine zau ?_ | refine zaf (show zav _ _ _ = some _ ∧ EndB _ _ from ⟨by kernel_rfl, ?_⟩))
                first
                  | (refine hK _ ?_; clear hK K)
                  | (rename_i K1 hK1; refine hK1 _ ?_; clear hK hK1; clear K)
                  | (rename_i K1 hK1; refine hK1 _ ?_; clear hK1)
                repeat (first | (refine zaj rfl ?_; first | refine zak ?_ | refine gdr (zaa rfl rfl rfl (hlook) (by kernel_rfl)) ?_) | refine zac rfl ?_ | refine zas (by kernel_rfl) (by kernel_rfl) rfl ?_ | exact zaf (show zav _ _ _ = some _ by kernel_rfl) | refine zag rfl rfl ?_ | refine zae rfl rfl ?_ | refine zad ?_ | refine zan ?_ | refine zai ?_ | refine zab (fun K hK => ?_) | refine zap ?_ | refine zau ?_ | refine zaf (show zav _ _ _ = some _ ∧ EndB _ _ from ⟨by kernel_rfl, ?_⟩))
                first
                  | (refine hK _ ?_; clear hK K)
                  | (rename_i K1 hK1; refine hK1 _ ?_; clear hK hK1; clear K)
                  | (rename_i K1 hK1; refine hK1 _ ?_; clear hK1)
                refine zci (sbq [(1, .m (.c (.s l.length 8 (flQ l)))), (2, .m (iu off)), (6, .m (ib false)), (7, .m (.c (.p 7 0))), (9, .m (ii i)), (10, .m (.c (.p 10 0))), (19, .m (ii s)), (20, .m (iu (x.va + off % z))), (21, .m (.c (.p 21 0))), (22, .m (.c (.p 22 0)))] [(7, .live (.box kn.ce)), (10, .live (.box x.ce)), (21, .live (.box (lfC x.lev A' (mkP (x.pa / 4096) x.p true)))), (22, .live (.box nfC))]) ?_
                repeat (first | (refine zaj rfl ?_; first | refine zak ?_ | refine gdr (zaa rfl rfl rfl (hszz) (by kernel_rfl)) ?_ | refine gdr (zaa rfl rfl rfl (hph) (by kernel_rfl)) ?_) | (refine hK _ ?_; clear hK K) | (rename_i K1 hK1; refine hK1 _ ?_; clear hK hK1; clear K) | (rename_i K1 hK1; refine hK1 _ ?_; clear hK1) | refine zac rfl ?_ | refine zas (by kernel_rfl) (by kernel_rfl) rfl ?_ | exact zaf (show zav _ _ _ = some _ by kernel_rfl) | refine zag rfl rfl ?_ | refine zae rfl rfl ?_ | refine zad ?_ | refine zan ?_ | refine zai ?_ | refine zab (fun K hK => ?_) | refine zap ?_ | refine zau ?_ | refine zaf (show zav _ _ _ = some _ ∧ EndB _ _ from ⟨by kernel_rfl, ?_⟩))
                exact ⟨s + 1, hst, by omega, sbq _ _⟩
              · by_cases c2 : x.id = (s : Int)
                · obtain ⟨⟨A', hlook⟩, r2, r3, r4, r5⟩ := hll hlv (.inr c2)
                  have hph := hphy A' r3 r5
                  replace hph : Ok 20 [.ag (lfC x.lev A' (mkP (x.pa / 4096) x.p (decide (x.id = -1)))), iu (x.va + off % VaSpec.sz x.lev)] (.m (iu (4096 * (x.pa / 4096) + VaSpec.off (x.va + off % VaSpec.sz x.lev) x.lev))) := hph
                  rw [r4] at hph
                  rw [decide_eq_false c1] at hph hlook
                  clear hphy hll r4
                  generalize VaSpec.sz x.lev = z at *
                  obtain ⟨r30, r31⟩ := r3
                  obtain ⟨o0, o1⟩ := ho
                  repeat (first | (refine zaj rfl ?_; first | refine zak ?_) | refine zac rfl ?_ | refine zas (by kernel_rfl) (by kernel_rfl) rfl ?_ | exact zaf (show zav _ _ _ = some _ by kernel_rfl) | refine zag rfl rfl ?_ | refine zae rfl rfl ?_ | refine zad ?_ | refine zan ?_ | refine zai ?_ | refine zab (fun K hK => ?_) | refine zap ?_ | refine zau ?_ | refine zaf (show zav _ _ _ = some _ ∧ EndB _ _ from ⟨by kernel_rfl, ?_⟩))
                  first
                    | (refine hK _ ?_; clear hK K)
                    | (rename_i K1 hK1; refine hK1 _ ?_; clear hK hK1; clear K)
                    | (rename_i K1 hK1; refine hK1 _ ?_; clear hK1)
                  repeat (first | (refine zaj rfl ?_; first | refine zak ?_) | refine zac rfl ?_ | refine zas (by kernel_rfl) (by kernel_rfl) rfl ?_ | exact zaf (show zav _ _ _ = some _ by kernel_rfl) | refine zag rfl rfl ?_ | refine zae rfl rfl ?_ | refine zad ?_ | refine zan ?_ | refine zai ?_ | refine zab (fun K hK => ?_) | refine zap ?_ | refine zau ?_ | refine zaf (show zav _ _ _ = some _ ∧ EndB _ _ from ⟨by kernel_rfl, ?_⟩))
                  first
                    | (refine hK _ ?_; clear hK K)
                    | (rename_i K1 hK1; refine hK1 _ ?_; clear hK hK1; clear K)
                    | (rename_i K1 hK1; refine hK1 _ ?_; clear hK1)
                  repeat (first | (refine zaj rfl ?_; first | refine zak ?_) | refine zac rfl ?_ | refine zas (by kernel_rfl) (by kernel_rfl) rfl ?_ | exact zaf (show zav _ _ _ = some _ by kernel_rfl) | refine zag rfl rfl ?_ | refine zae rfl rfl ?_ | refine zad ?_ | refine zan ?_ | refine zai ?_ | refine zab (fun K hK => ?_) | refine zap ?_ | refine zau ?_ | refine zaf (show zav _ _ _ = some _ ∧ EndB _ _ from ⟨by kernel_rfl, ?_⟩))
                  first
                    | (refine hK _ ?_; clear hK K)
                    | (rename_i K1 hK1; refine hK1 _ ?_; clear hK hK1; clear K)
                    | (rename_i K1 hK1; refine hK1 _ ?_; clear hK1)
                  repeat (first | (refine zaj rfl ?_; first | refine zak ?_) | refine zac rfl ?_ | refine zas (by kernel_rfl) (by kernel_rfl) rfl ?_ | exact zaf (show zav _ _ _ = some _ by kernel_rfl) | refine zag rfl rfl ?_ | refine zae rfl rfl ?_ | refine zad ?_ | refine zan ?_ | refine zai ?_ | refine zab (fun K hK => ?_) | refine zap ?_ | refine zau ?_ | refine zaf (show zav _ _ _ = some _ ∧ EndB _ _ from ⟨by kernel_rfl, ?_⟩))
                  first
                    | (refine hK _ ?_; clear hK K)
                    | (rename_i K1 hK1; refine hK1 _ ?_; clear hK hK1; clear K)
                    | (rename_i K1 hK1; refine hK1 _ ?_; clear hK1)
                  repeat (first | (refine zaj rfl ?_; first | refine zak ?_ | refine gdr (zaa rfl rfl rfl (hszz) (by kernel_rfl)) ?_) | refine zac rfl ?_ | refine zas (by kernel_rfl) (by kernel_rfl) rfl ?_ | exact zaf (show zav _ _ _ = some _ by kernel_rfl) | refine zag rfl rfl ?_ | refine zae rfl rfl ?_ | refine zad ?_ | refine zan ?_ | refine zai ?_ | refine zab (fun K hK => ?_) | refine zap ?_ | refine zau ?_ | refine zaf (show zav _ _ _ = some _ ∧ EndB _ _ from ⟨by kernel_rfl, ?_⟩))
                  first
                    | (refine hK _ ?_; clear hK K)
                    | (rename_i K1 hK1; refine hK1 _ ?_; clear hK hK1; clear K)
                    | (rename_i K1 hK1; refine hK1 _ ?_; clear hK1)
                  repeat (first | (refine zaj rfl ?_; first | refine zak ?_ | refine gdr (zaa rfl rfl rfl (hlook) (by kernel_rfl)) ?_) | refine zac rfl ?_ | refine zas (by kernel_rfl) (by kernel_rfl) rfl ?_ | exact zaf (show zav _ _ _ = some _ by kernel_rfl) | refine zag rfl rfl ?_ | refine zae rfl rfl ?_ | refine zad ?_ | refine zan ?_ | refine zai ?_ | refine zab (fun K hK => ?_) | refine zap ?_ | refine zau ?_ | refine zaf (show zav _ _ _ = some _ ∧ EndB _ _ from ⟨by kernel_rfl, ?_⟩))
                  first
                    | (refine hK _ ?_; clear hK K)
                    | (rename_i K1 hK1; refine hK1 _ ?_; clear hK hK1; clear K)
                    | (rename_i K1 hK1; refine hK1 _ ?_; clear hK1)
                  refine zci (sbq [(1, .m (.c (.s l.length 8 (flQ l)))), (2, .m (iu off)), (6, .m (ib false)), (7, .m (.c (.p 7 0))), (9, .m (ii i)), (10, .m (.c (.p 10 0))), (19, .m (ii s)), (20, .m (iu (x.va + off % z))), (21, .m (.c (.p 21 0))), (22, .m (.c (.p 22 0)))] [(7, .live (.box kn.ce)), (10, .live (.box x.ce)), (21, .live (.box (lfC x.lev A' (mkP (x.pa / 4096) x.p false)))), (22, .live (.box nfC))]) ?_
                  repeat (first | (refine zaj rfl ?_; first | refine zak ?_ | refine gdr (zaa rfl rfl rfl (hszz) (by kernel_rfl)) ?_ | refine gdr (zaa rfl rfl rfl (hph) (by kernel_rfl)) ?_) | (refine hK _ ?_; clear hK K) | (rename_i K1 hK1; refine hK1 _ ?_; clear hK hK1; clear K) | (rename_i K1 hK1; refine hK1 _ ?_; clear hK1) | refine zac rfl ?_ | refine zas (by kernel_rfl) (by kernel_rfl) rfl ?_ | exact zaf (show zav _ _ _ = some _ by kernel_rfl) | refine zag rfl rfl ?_ | refine zae rfl rfl ?_ | refine zad ?_ | refine zan ?_ | refine zai ?_ | refine zab (fun K hK => ?_) | refine zap ?_ | refine zau ?_ | refine zaf (show zav _ _ _ = some _ ∧ EndB _ _ from ⟨by kernel_rfl, ?_⟩))
                  exact ⟨s + 1, hst, by omega, sbq _ _⟩
                · clear hphy hll
                  repeat (first | (refine zaj rfl ?_; first | refine zak ?_) | (refine hK _ ?_; clear hK K) | (rename_i K1 hK1; refine hK1 _ ?_; clear hK hK1; clear K) | (rename_i K1 hK1; refine hK1 _ ?_; clear hK1) | refine zac rfl ?_ | refine zas (by kernel_rfl) (by kernel_rfl) rfl ?_ | exact zaf (show zav _ _ _ = some _ by kernel_rfl) | refine zag rfl rfl ?_ | refine zae rfl rfl ?_ | refine zad ?_ | refine zan ?_ | refine zai ?_ | refine zab (fun K hK => ?_) | refine zap ?_ | refine zau ?_ | refine zaf (show zav _ _ _ = some _ ∧ EndB _ _ from ⟨by kernel_rfl, ?_⟩))
                  exact ⟨s + 1, hst, by omega, sbq _ _⟩
          · have hI2 : InvT (2 + 3 * (i + 1)) kn := by
              rw [show 2 + 3 * (i + 1) = 2 + 3 * i + 3 by omega]; exact hI
            repeat (first | (refine zaj rfl ?_; first | refine zak ?_) | (refine hK _ ?_; clear hK K) | (rename_i K1 hK1; refine hK1 _ ?_; clear hK hK1; clear K) | (rename_i K1 hK1; refine hK1 _ ?_; clear hK1) | refine zac rfl ?_ | refine zas (by kernel_rfl) (by kernel_rfl) rfl ?_ | exact zaf (show zav _ _ _ = some _ by kernel_rfl) | refine zag rfl rfl ?_ | refine zae rfl rfl ?_ | refine zad ?_ | refine zan ?_ | refine zai ?_ | refine zab (fun K hK => ?_) | refine zap ?_ | refine zau ?_ | refine zaf (show zav _ _ _ = some _ ∧ EndB _ _ from ⟨by kernel_rfl, ?_⟩))
            exact ⟨(i + 1, kn), ⟨by show i + 1 ≤ l.length; omega, hI2, hN, hG2, hF⟩, by show l.length - (i + 1) < l.length - i; omega, sbq _ _⟩
      · have hke : kn = k := hsm c0
        subst hke
        have hI2 : InvT (2 + 3 * (i + 1)) kn := by
          rw [show 2 + 3 * (i + 1) = 2 + 3 * i + 3 by omega]; exact hI
        clear hlay hled hlev hsm
        repeat (first | (refine zaj rfl ?_; first | refine zak ?_ | refine gdr (zaa rfl rfl rfl (hkl) (by kernel_rfl)) ?_) | (refine hK _ ?_; clear hK K) | (rename_i K1 hK1; refine hK1 _ ?_; clear hK hK1; clear K) | (rename_i K1 hK1; refine hK1 _ ?_; clear hK1) | refine zac rfl ?_ | refine zas (by kernel_rfl) (by kernel_rfl) rfl ?_ | exact zaf (show zav _ _ _ = some _ by kernel_rfl) | refine zag rfl rfl ?_ | refine zae rfl rfl ?_ | refine zad ?_ | refine zan ?_ | refine zai ?_ | refine zab (fun K hK => ?_) | refine zap ?_ | refine zau ?_ | refine zaf (show zav _ _ _ = some _ ∧ EndB _ _ from ⟨by kernel_rfl, ?_⟩))
        exact ⟨(i + 1, kn), ⟨by show i + 1 ≤ l.length; omega, hI2, hn, hg, hf⟩, by show l.length - (i + 1) < l.length - i; omega, sbq _ _⟩
    · skip
      repeat (first | (refine zaj rfl ?_; first | refine zak ?_) | (refine hK _ ?_; clear hK K) | (rename_i K1 hK1; refine hK1 _ ?_; clear hK hK1; clear K) | (rename_i K1 hK1; refine hK1 _ ?_; clear hK1) | refine zac rfl ?_ | refine zas (by kernel_rfl) (by kernel_rfl) rfl ?_ | exact zaf (show zav _ _ _ = some _ by kernel_rfl) | refine zag rfl rfl ?_ | refine zae rfl rfl ?_ | refine zad ?_ | refine zan ?_ | refine zai ?_ | refine zab (fun K hK => ?_) | refine zap ?_ | refine zau ?_ | refine zaf (show zav _ _ _ = some _ ∧ EndB _ _ from ⟨by kernel_rfl, ?_⟩))
end Go.Proofs.YtomeaibdedaldaaGreatDoor.LoK
