/- Texts of this claim, one behind the other: RfL, RfM. -/
import Derived.Test.YtkffmaeiplgjeaaGreatDoorM20
/- The abstract walk: the document's Trees. -/
namespace Go.Proofs.YtkffmaeiplgjeaaGreatDoor.RfL
open Go.RowKit Go.Proofs.YtkffmaeiplgjeaaGreatDoor.Bv Go.Proofs.YtkffmaeiplgjeaaGreatDoor.VaSpec Go.Proofs.YtkffmaeiplgjeaaGreatDoor.Base Go.Proofs.YtkffmaeiplgjeaaGreatDoor.MemL Go.Proofs.YtkffmaeiplgjeaaGreatDoor.RegR Go.Proofs.YtkffmaeiplgjeaaGreatDoor.Ax Go.Proofs.YtkffmaeiplgjeaaGreatDoor.MemC Go.Proofs.YtkffmaeiplgjeaaGreatDoor.PutC Go.Proofs.YtkffmaeiplgjeaaGreatDoor.MemC3 Go.Proofs.YtkffmaeiplgjeaaGreatDoor.TzC Go.Proofs.YtkffmaeiplgjeaaGreatDoor.OkS Go.Proofs.YtkffmaeiplgjeaaGreatDoor.SpA Go.Proofs.YtkffmaeiplgjeaaGreatDoor.SpB Go.Proofs.YtkffmaeiplgjeaaGreatDoor.SpC Go.Proofs.YtkffmaeiplgjeaaGreatDoor.SpD Go.Proofs.YtkffmaeiplgjeaaGreatDoor.IterC Go.Proofs.YtkffmaeiplgjeaaGreatDoor.SpE Go.Proofs.YtkffmaeiplgjeaaGreatDoor.SpF Go.Proofs.YtkffmaeiplgjeaaGreatDoor.SpG Go.Proofs.YtkffmaeiplgjeaaGreatDoor.SpH Go.Proofs.YtkffmaeiplgjeaaGreatDoor.SpI Go.Proofs.YtkffmaeiplgjeaaGreatDoor.SpJ Go.Proofs.YtkffmaeiplgjeaaGreatDoor.SpK Go.Proofs.YtkffmaeiplgjeaaGreatDoor.SpN Go.Proofs.YtkffmaeiplgjeaaGreatDoor.RfP Go.Proofs.YtkffmaeiplgjeaaGreatDoor.RfQ Go.Proofs.YtkffmaeiplgjeaaGreatDoor.RfE Go.Proofs.YtkffmaeiplgjeaaGreatDoor.RfG Go.Proofs.YtkffmaeiplgjeaaGreatDoor.RfJ Go.Proofs.YtkffmaeiplgjeaaGreatDoor.RfK Go.Proofs.YtkffmaeiplgjeaaGreatDoor.RfA Go.Proofs.YtkffmaeiplgjeaaGreatDoor.RfB Go.Proofs.YtkffmaeiplgjeaaGreatDoor.RfC Go.Proofs.YtkffmaeiplgjeaaGreatDoor.SpO Go.Proofs.YtkffmaeiplgjeaaGreatDoor.SpP Go.Proofs.YtkffmaeiplgjeaaGreatDoor.SpQ Go.Proofs.YtkffmaeiplgjeaaGreatDoor.RfI
open Go.Proofs.YtkffmaeiplgjeaaGreatDoor.BitsC Go.Proofs.YtkffmaeiplgjeaaGreatDoor.PteSpec
set_option linter.unusedVariables false
set_option linter.unusedSimpArgs false
set_option maxRecDepth 10000
set_option maxHeartbeats 800000
attribute [local irreducible] Go.Proofs.YtkffmaeiplgjeaaGreatDoor.Ax.CallOk
/-! ### plain -/
def lr (l : List Sp) : List Int := (l.filter (·.live)).map (·.root)
theorem lr_len : ∀ l : List Sp, (lr l).length = alv l
  | [] => rfl
  | s :: l => by
    have := lr_len l
    unfold lr at this ⊢
    cases h : s.live <;> simp [alv, h, List.filter_cons] <;> simp at this <;> omega
theorem lr_snoc (l : List Sp) (s : Sp) : lr (l ++ [s]) = lr l ++ (if s.live then [s.root] else []) := by
  unfold lr
  rw [List.filter_append, List.map_append]
  cases h : s.live <;> simp [h]
theorem take_snoc {l : List Sp} {i : Nat} {s : Sp} (h : l[i]? = some s) : l.take (i + 1) = l.take i ++ [s] := by rw [List.take_add_one, h]; rfl
theorem alv_take (l : List Sp) (i : Nat) : alv (l.take i) ≤ alv l := by
  induction l generalizing i with
  | nil => simp [alv]
  | cons s l ih =>
    cases i with
    | zero => simp [alv]
    | succ i => simp only [List.take_succ_cons, alv]; have := ih i; omega
theorem lr_mem {l : List Sp} {x : Int} (h : x ∈ lr l) : ∃ s ∈ l, s.live = true ∧ x = s.root := by
  unfold lr at h
  obtain ⟨s, hs, rfl⟩ := List.mem_map.1 h
  obtain ⟨h1, h2⟩ := List.mem_filter.1 hs
  exact ⟨s, h1, h2, rfl⟩
theorem pte_gP (n : Int) (h : 0 ≤ n ∧ n < 17592186044416) : pteOf (33 + 1024 * n) = gP n := by
  have hw := (putE_gP n h).symm
  have hm : mayP (gP n) = true := by
    unfold mayP gP
    simp; omega
  unfold PteC.putE at hw
  rw [if_pos hm] at hw
  unfold pteOf gP
  simp only [Pte.mk.injEq]
  have e : ∀ (i : Nat) (b : Int), (33 + 1024 * n) / 2 ^ i % 2 = b → bitI (33 + 1024 * n) i = (b == 1) := fun i b h => by unfold bitI; rw [Int.toNat_natCast, h]
  refine ⟨(e 0 1 (by omega)).trans rfl, (e 1 0 (by omega)).trans rfl, (e 2 0 (by omega)).trans rfl, (e 3 0 (by omega)).trans rfl, (e 4 0 (by omega)).trans rfl, (e 5 1 (by omega)).trans rfl, (e 6 0 (by omega)).trans rfl, (e 7 0 (by omega)).trans rfl, by omega, by omega, by omega⟩
theorem isP_of {n : Nat} {k : Kr} (h : Inv n k) {r : Int} (h0 : k.cd ≤ r) (h1 : r < k.cd + k.cp) (hb : bitB k.pf (r - k.cd) = false) : PoolC.isP k.pb k.pm k.pf r = true := by
  have c1 := h.cp
  have hpb := h.pb
  have hpm := h.pm
  unfold PoolC.isP PoolC.inP
  rw [decide_eq_true (by omega), decide_eq_true (by omega), getI_bit _ _ (by omega), hpb, hb]; rfl
theorem sh_zero {n : Nat} {k : Kr} (h : Inv n k) (g : Inv2 k) (i : Int) (i0 : 0 ≤ i) (i1 : i < 512) : wordM k.sz k.m (4096 * k.sh + 8 * i) = 0 := by
  unfold wordM
  split
  · refine look_none fun c hc e => ?_
    obtain ⟨s, hs, hl, rfl⟩ := g.cl c hc
    have := (g.lv s hs hl).1
    have := g.sh
    simp only at e
    omega
  · rfl
theorem root_word {n : Nat} {k : Kr} (h : Inv n k) (g : Inv2 k) {s : Sp} (hs : s ∈ k.ss) (hl : s.live = true) : wordM k.sz k.m (4096 * s.root + 8 * 511) = 33 + 1024 * k.sh := by
  obtain ⟨r1, r2⟩ := h.ss s hs hl
  have hm := (g.lv s hs hl).2.2.2.2
  have hcd := h.cd
  have hsz := h.sz
  obtain ⟨i, hi⟩ := List.getElem?_of_mem hm
  have hlt := (List.getElem?_eq_some_iff.1 hi).1
  have hge : k.m[i] = (s.root * 512 + 511, 33 + 1024 * k.sh) := (List.getElem?_eq_some_iff.1 hi).2
  unfold wordM
  rw [if_pos (by omega), show (4096 * s.root + 8 * 511) / 8 = s.root * 512 + 511 by omega]
  have hle : lb k.m (s.root * 512 + 511) = i := by
    have a1 := lt_lb k.m (s.root * 512 + 511) h.m i hlt
    rw [hge] at a1
    rcases Nat.lt_or_ge (lb k.m (s.root * 512 + 511)) i with q | q
    · have a2 := lt_lb k.m (s.root * 512 + 511) h.m (lb k.m (s.root * 512 + 511)) (by omega)
      have hp := List.pairwise_iff_getElem.1 h.m (lb k.m (s.root * 512 + 511)) i (by omega) hlt q
      rw [hge] at hp
      have := a2.1 hp
      omega
    · rcases Nat.lt_or_ge i (lb k.m (s.root * 512 + 511)) with q2 | q2
      · have := a1.2 q2; simp at this
      · omega
  unfold MemC.look
  rw [hle, hi]
  simp
def metH (k : Kr) (i n : Nat) (xs : List Value) : St := St.of [(1, .m (.c (.p 1 0))), (3, .m (.c (.s n 1 xs))), (4, .m (ib true)), (5, .m (ii i))] [(1, .live (.box k.ce))]
theorem trees_ok {n : Nat} {k : Kr} (h : Inv n k) (g : Inv2 k) (hn : n ≤ 100000) : Ok 18 [.ag k.ce] (.m (ib true)) := by
  have hcd := h.cd
  have hcp := h.cp
  have hpb := h.pb
  have hpm := h.pm
  have hsz := h.sz
  have hml := h.ml
  have hsl := h.sl
  have hsh := h.sh
  have gsh := g.sh
  have gnp := g.np
  have hu : Uw k.m := cok_uw h.mc (by omega) (by omega)
  have hr0 := rright_ok k.sz k.m k.sh 1 [] ⟨by omega, by omega⟩ (by omega) (by omega) (by omega) h.m hu (by omega) (sh_zero h g) (by simp) (fun x hx => by cases hx)
  have hr1 : Ok 47 [memA k.sz k.m, iu k.sh, ii 1, .c (.v (.slice none 0 0))] (.tu [.c (.s 1 1 [.int .u64 k.sh]), ib true]) := callOk_args hr0 rfl ⟨fun _ _ h => h, fun _ _ h => h, fun _ _ h => h, fun E v hv => ltC.nil 1 E v hv, trivial⟩
  have hfree := rpfree_ok k.pb k.pm k.pf h.upf
  refine callOk_of 97 Tryz.func18 rfl rfl rfl rfl ?_ GG.to
  intro W A hG
  repeat (first
    | (refine go_at rfl ?_; first
        | refine go_do (valid_mv (.inl rfl) rfl) rfl ?_
        | (refine nxt_s 1 rfl ?_; refine go_do (valid_load_p tb rfl rfl rfl rfl rfl (by first | kernel_rfl | rfl)) (by first | kernel_rfl | rfl) ?_)
        | (refine nxt_s 1 rfl ?_; refine go_do (valid_fld_p tb rfl rfl rfl (by kernel_rfl)) rfl ?_)
        | refine go_do (valid_mv (.inr rfl) rfl) rfl ?_
        | refine go_do (valid_extract rfl rfl rfl rfl) rfl ?_
        | refine go_do (valid_box rfl rfl rfl rfl rfl rfl) rfl ?_
        | refine go_do (valid_call rfl rfl rfl (hr1) (by kernel_rfl)) rfl ?_)
    | (refine hK _ ?_; clear hK K)
    | refine aw_text rfl ?_
    | refine aw_block ?_
    | refine aw_seq_k (fun K hK => ?_))
  refine aw_loopH (α := Nat × Nat × List Value) (fun q => q.1 ≤ k.ss.length ∧ q.2.1 = (k.sh :: lr (k.ss.take q.1)).length ∧ q.2.2 = flU (k.sh :: lr (k.ss.take q.1))) (fun q => metH k q.1 q.2.1 q.2.2) (fun q => k.ss.length - q.1) (0, 1, [.int .u64 k.sh]) ⟨Nat.zero_le _, rfl, rfl⟩ (sub_of _ _ ⟨by kernel_rfl, by kernel_rfl, by kernel_rfl, by kernel_rfl, trivial⟩ ⟨by kernel_rfl, trivial⟩ (by kernel_rfl)) ?_
  rintro ⟨i, c, xs⟩ ⟨h1, h2, h3⟩
  have g1 : i ≤ k.ss.length := h1
  have g2 : c = (k.sh :: lr (k.ss.take i)).length := h2
  have g3 : xs = flU (k.sh :: lr (k.ss.take i)) := h3
  clear h1 h2 h3
  show Aw _ _ _ _ (metH k i c xs)
  unfold metH
  have hat := alv_take k.ss i
  have g2' : c = alv (k.ss.take i) + 1 := by rw [g2, List.length_cons, lr_len]
  by_cases hlt : i < k.ss.length
  · obtain ⟨s, hs0⟩ : ∃ s, k.ss[i]? = some s := ⟨_, List.getElem?_eq_getElem hlt⟩
    have hx : ((flS k.ss).drop (i * 3)).take 3 = [.int .u64 s.root, .int .u64 s.asid, .bool s.live] := flat_at Sp.vs 3 (fun _ => rfl) k.ss _ s hs0
    have hsm := List.mem_of_getElem? hs0
    have htk := take_snoc hs0
    have hls := lr_snoc (k.ss.take i) s
    rw [← htk] at hls
    cases hl : s.live with
    | false =>
      rw [hl] at hx hls
      have hls : lr (k.ss.take (i + 1)) = lr (k.ss.take i) := by rw [hls]; simp
      repeat (first
        | (refine go_at rfl ?_; first
            | refine go_do (valid_mv (.inl rfl) rfl) rfl ?_
            | (refine nxt_s 1 rfl ?_; refine go_do (valid_load_p tb rfl rfl rfl rfl rfl (by first | kernel_rfl | rfl)) (by first | kernel_rfl | rfl) ?_)
            | (refine nxt_s 1 rfl ?_; refine go_do (valid_fld_p tb rfl rfl rfl (by kernel_rfl)) rfl ?_)
            | refine go_do (valid_mv (.inr rfl) rfl) rfl ?_
            | refine go_do (valid_pick rfl rfl rfl) rfl ?_
            | refine go_do (valid_cmp rfl rfl rfl rfl (by first | exact .eql1 (by omega) | exact .eql0 (by omega) | exact .neq1 (by omega) | exact .neq0 (by omega) | exact .lss1 (by omega) | exact .lss0 (by omega) | exact .leq1 (by omega) | exact .leq0 (by omega) | exact .gtr1 (by omega) | exact .gtr0 (by omega) | exact .geq1 (by omega) | exact .geq0 (by omega) | constructor)) rfl ?_
            | refine go_do (valid_ar rfl rfl rfl rfl (by constructor) (by first | exact wr_u64 (by omega) (by omega) | exact wr_i64 (by omega) (by omega) | rfl)) rfl ?_
            | refine go_do (valid_len_s rfl rfl rfl rfl) rfl ?_
            | (refine nxt_s 3 rfl ?_; refine go_do (valid_load_q tb rfl rfl rfl rfl (by first | kernel_rfl | rfl)) rfl ?_)
            | (refine nxt_s 3 rfl ?_; refine go_do (valid_fld_q tb rfl rfl rfl rfl) rfl ?_)
            | refine go_do (valid_not rfl rfl rfl) rfl ?_
            | (refine nxt_s 4 rfl ?_; refine go_do (valid_idx_s rfl rfl rfl rfl rfl rfl (by omega) (by omega) _ (by assumption)) rfl ?_))
        | (refine hK _ ?_; clear hK K)
        | (rename_i K1 hK1; refine hK1 _ ?_; clear hK hK1; clear K)
        | refine aw_text rfl ?_
        | refine aw_cond1 rfl rfl ?_
        | refine aw_block ?_
        | refine aw_exit ?_
        | refine aw_skip ?_
        | refine aw_seq_k (fun K hK => ?_))
      exact ⟨(i + 1, c, xs), ⟨by show i + 1 ≤ k.ss.length; omega, by show c = (k.sh :: lr (k.ss.take (i + 1))).length; rw [hls]; exact g2, by show xs = flU (k.sh :: lr (k.ss.take (i + 1))); rw [hls]; exact g3⟩, by show k.ss.length - (i + 1) < k.ss.length - i; omega, sub_of _ _ ⟨by kernel_rfl, by kernel_rfl, by kernel_rfl, by kernel_rfl, trivial⟩ ⟨by kernel_rfl, trivial⟩ (by kernel_rfl)⟩
    | true =>
      rw [hl] at hx hls
      have hls : lr (k.ss.take (i + 1)) = lr (k.ss.take i) ++ [s.root] := by rw [hls]; simp
      obtain ⟨r1, r2⟩ := h.ss s hsm hl
      obtain ⟨a1, a2, a3, a4, a5⟩ := g.lv s hsm hl
      have hat1 := alv_take k.ss (i + 1)
      rw [htk, alv_app _ _ hl] at hat1
      have ha := rat_ok k.sz k.m s.root 511 ⟨by omega, by omega⟩ ⟨by omega, by omega⟩ h.m hu (by omega)
      rw [root_word h g hsm hl, pte_gP _ (by omega)] at ha
      have hpl := putM_len k.m (512 * s.root + 511) 0
      have hst := rset03_ok k.sz k.m (512 * s.root + 511) 0 h.m (by omega)
      have hz := off_zero h (s := s) r1
      rw [offM_is h r1] at hz
      have hmu : Uw (putM k.m (512 * s.root + 511) 0) := by
        intro d hd
        rcases putM_mem _ _ _ _ hd with hd | ⟨_, hv⟩
        · exact hu d hd
        · exact absurd rfl hv
      have hrr := rright_ok k.sz (putM k.m (512 * s.root + 511) 0) s.root 2 (k.sh :: lr (k.ss.take i)) ⟨by omega, by omega⟩ (by omega) (by omega) (by omega) (putM_srt _ _ _ h.m) hmu (by omega) (by
        intro j j0 j1
        rw [show 512 * s.root + 511 = s.root * 512 + 511 by omega, show 4096 * s.root + 8 * j = s.root * 4096 + j * 8 by omega]
        exact hz j j0 j1) (by rw [← g2, g2']; omega) (by
        intro x hx e
        rcases List.mem_cons.1 hx with rfl | hx
        · omega
        · obtain ⟨t, ht, hlt', rfl⟩ := lr_mem hx
          obtain ⟨j, hj⟩ := List.getElem?_of_mem ht
          have hji : j < i := by have := (List.getElem?_eq_some_iff.1 hj).1; rw [List.length_take] at this; omega
          rw [List.getElem?_take_of_lt hji] at hj
          exact (g.ap j i t s hj hs0 (by omega) hlt' hl).1 e)
      rw [← g2, ← g3] at hrr
      repeat (first
        | (refine go_at rfl ?_; first
            | refine go_do (valid_mv (.inl rfl) rfl) rfl ?_
            | (refine nxt_s 1 rfl ?_; refine go_do (valid_load_p tb rfl rfl rfl rfl rfl (by first | kernel_rfl | rfl)) (by first | kernel_rfl | rfl) ?_)
            | (refine nxt_s 1 rfl ?_; refine go_do (valid_fld_p tb rfl rfl rfl (by kernel_rfl)) rfl ?_)
            | refine go_do (valid_mv (.inr rfl) rfl) rfl ?_
            | refine go_do (valid_pick rfl rfl rfl) rfl ?_
            | refine go_do (valid_extract rfl rfl rfl rfl) rfl ?_
            | refine go_do (valid_cmp rfl rfl rfl rfl (by first | exact .eql1 (by omega) | exact .eql0 (by omega) | exact .neq1 (by omega) | exact .neq0 (by omega) | exact .lss1 (by omega) | exact .lss0 (by omega) | exact .leq1 (by omega) | exact .leq0 (by omega) | exact .gtr1 (by omega) | exact .gtr0 (by omega) | exact .geq1 (by omega) | exact .geq0 (by omega) | constructor)) rfl ?_
            | refine go_do (valid_ar rfl rfl rfl rfl (by constructor) (by first | exact wr_u64 (by omega) (by omega) | exact wr_i64 (by omega) (by omega) | rfl)) rfl ?_
            | refine go_do (valid_alloc rfl rfl rfl rfl rfl) rfl ?_
            | (refine nxt_s 1 rfl ?_; refine go_do (valid_store_p rfl rfl rfl rfl rfl rfl (by first | kernel_rfl | rfl) rfl) (by first | kernel_rfl | rfl) ?_)
            | refine go_do (valid_len_s rfl rfl rfl rfl) rfl ?_
            | (refine nxt_s 3 rfl ?_; refine go_do (valid_load_q tb rfl rfl rfl rfl (by first | kernel_rfl | rfl)) rfl ?_)
            | (refine nxt_s 3 rfl ?_; refine go_do (valid_fld_q tb rfl rfl rfl rfl) rfl ?_)
            | refine go_do (valid_not rfl rfl rfl) rfl ?_
            | refine go_do (valid_build rfl rfl rfl rfl) rfl ?_
            | (refine nxt_s 4 rfl ?_; refine go_do (valid_idx_s rfl rfl rfl rfl rfl rfl (by omega) (by omega) _ (by assumption)) rfl ?_)
            | refine go_do (valid_call rfl rfl rfl (ha) (by kernel_rfl)) rfl ?_
            | refine go_do (valid_call rfl rfl rfl (hst) (by kernel_rfl)) rfl ?_
            | refine go_do (valid_call rfl rfl rfl (hrr) (by kernel_rfl)) rfl ?_
            | refine go_do (valid_neq (us := [.bool true, .bool false, .bool false, .bool false, .bool false, .bool true, .bool false, .bool false, .int .u64 0, .int .u64 k.sh, .int .u64 0]) (vs := [.bool true, .bool false, .bool false, .bool false, .bool false, .bool true, .bool false, .bool false, .int .u64 0, .int .u64 k.sh, .int .u64 0]) (fun w => eq_pte w (gP k.sh)) (by kernel_rfl) rfl rfl (by kernel_rfl) (by kernel_rfl)) rfl ?_)
        | (refine hK _ ?_; clear hK K)
        | refine aw_text rfl ?_
        | refine aw_any (by kernel_rfl) (by kernel_rfl) rfl ?_
        | refine aw_cond1 rfl rfl ?_
        | refine aw_cond0 rfl rfl ?_
        | refine aw_block ?_
        | refine aw_skip ?_
        | refine aw_seq_k (fun K hK => ?_))
      exact ⟨(i + 1, c + 1, xs ++ [.int .u64 s.root]), ⟨by show i + 1 ≤ k.ss.length; omega, by show c + 1 = (k.sh :: lr (k.ss.take (i + 1))).length; rw [hls, g2]; simp, by show xs ++ [.int .u64 s.root] = flU (k.sh :: lr (k.ss.take (i + 1))); rw [hls, g3]; simp [flU]⟩, by show k.ss.length - (i + 1) < k.ss.length - i; omega, sub_of _ _ ⟨by kernel_rfl, by kernel_rfl, by kernel_rfl, by kernel_rfl, trivial⟩ ⟨by kernel_rfl, trivial⟩ (by kernel_rfl)⟩
  · have hi : i = k.ss.length := by omega
    rw [hi, List.take_length] at g2 g3 g2'
    have hcb : (c : Int) = k.pm - (cnt k.pf : Int) := by omega
    repeat (first
      | (refine go_at rfl ?_; first
          | refine go_do (valid_skip rfl) rfl ?_
          | refine go_do (valid_mv (.inl rfl) rfl) rfl ?_
          | (refine nxt_s 1 rfl ?_; refine go_do (valid_load_p tb rfl rfl rfl rfl rfl (by first | kernel_rfl | rfl)) (by first | kernel_rfl | rfl) ?_)
          | (refine nxt_s 1 rfl ?_; refine go_do (valid_fld_p tb rfl rfl rfl (by kernel_rfl)) rfl ?_)
          | refine go_do (valid_mv (.inr rfl) rfl) rfl ?_
          | refine go_do (valid_pick rfl rfl rfl) rfl ?_
          | refine go_do (valid_cmp rfl rfl rfl rfl (by first | exact .eql1 (by omega) | exact .eql0 (by omega) | exact .neq1 (by omega) | exact .neq0 (by omega) | exact .lss1 (by omega) | exact .lss0 (by omega) | exact .leq1 (by omega) | exact .leq0 (by omega) | exact .gtr1 (by omega) | exact .gtr0 (by omega) | exact .geq1 (by omega) | exact .geq0 (by omega) | constructor)) rfl ?_
          | refine go_do (valid_ar rfl rfl rfl rfl (by constructor) (by first | exact wr_u64 (by omega) (by omega) | exact wr_i64 (by omega) (by omega) | rfl)) rfl ?_
          | refine go_do (valid_len_s rfl rfl rfl rfl) rfl ?_
          | refine go_do (valid_not rfl rfl rfl) rfl ?_
          | refine go_do (valid_call rfl rfl rfl (hfree) (by kernel_rfl)) rfl ?_)
      | (refine hK _ ?_; clear hK K)
      | (rename_i K1 hK1; refine hK1 _ ?_; clear hK hK1; clear K)
      | refine aw_text rfl ?_
      | refine aw_any (by kernel_rfl) (by kernel_rfl) rfl ?_
      | refine aw_cond0 rfl rfl ?_
      | refine aw_block ?_
      | refine aw_exit ?_
      | refine aw_skip ?_
      | refine aw_seq_k (fun K hK => ?_))
    refine aw_loopH (α := Nat) (fun j => j ≤ c) (fun j => St.of [(1, .m (.c (.p 1 0))), (3, .m (.c (.s c 1 xs))), (7, .m (ii j))] [(1, .live (.box k.ce))]) (fun j => c - j) 0 (Nat.zero_le _) (sub_of _ _ ⟨by kernel_rfl, by kernel_rfl, by kernel_rfl, trivial⟩ ⟨by kernel_rfl, trivial⟩ (by kernel_rfl)) ?_
    intro j hj
    by_cases hjt : j < c
    · obtain ⟨x, hx0⟩ : ∃ x, (k.sh :: lr k.ss)[j]? = some x := ⟨_, List.getElem?_eq_getElem (by omega)⟩
      have hx := flU_at hx0
      rw [← g3] at hx
      have hxm := List.mem_of_getElem? hx0
      have hin : (k.cd ≤ x ∧ x < k.cd + k.cp) ∧ bitB k.pf (x - k.cd) = false := by
        rcases List.mem_cons.1 hxm with rfl | hxm
        · exact ⟨⟨by omega, by omega⟩, by rw [gsh, show k.cd - k.cd = 0 by omega]; exact g.p0⟩
        · obtain ⟨t, ht, hl, rfl⟩ := lr_mem hxm
          exact ⟨(h.ss t ht hl).1, (g.lv t ht hl).2.2.1⟩
      have his := rpis_ok k.pb k.pm k.pf x (by omega) (by omega) h.upf ⟨by omega, by omega⟩
      rw [isP_of h hin.1.1 hin.1.2 hin.2] at his
      repeat (first
        | (refine go_at rfl ?_; first
            | refine go_do (valid_mv (.inl rfl) rfl) rfl ?_
            | (refine nxt_s 1 rfl ?_; refine go_do (valid_load_p tb rfl rfl rfl rfl rfl (by first | kernel_rfl | rfl)) (by first | kernel_rfl | rfl) ?_)
            | (refine nxt_s 1 rfl ?_; refine go_do (valid_fld_p tb rfl rfl rfl (by kernel_rfl)) rfl ?_)
            | refine go_do (valid_mv (.inr rfl) rfl) rfl ?_
            | refine go_do (valid_cmp rfl rfl rfl rfl (by first | exact .eql1 (by omega) | exact .eql0 (by omega) | exact .neq1 (by omega) | exact .neq0 (by omega) | exact .lss1 (by omega) | exact .lss0 (by omega) | exact .leq1 (by omega) | exact .leq0 (by omega) | exact .gtr1 (by omega) | exact .gtr0 (by omega) | exact .geq1 (by omega) | exact .geq0 (by omega) | constructor)) rfl ?_
            | refine go_do (valid_ar rfl rfl rfl rfl (by constructor) (by first | exact wr_u64 (by omega) (by omega) | exact wr_i64 (by omega) (by omega) | rfl)) rfl ?_
            | refine go_do (valid_len_s rfl rfl rfl rfl) rfl ?_
            | (refine nxt_s 3 rfl ?_; refine go_do (valid_load_q tb rfl rfl rfl rfl (by first | kernel_rfl | rfl)) rfl ?_)
            | refine go_do (valid_not rfl rfl rfl) rfl ?_
            | (refine nxt_s 4 rfl ?_; refine go_do (valid_idx_s rfl rfl rfl rfl rfl rfl (by omega) (by omega) _ (by assumption)) rfl ?_)
            | refine go_do (valid_call rfl rfl rfl (his) (by kernel_rfl)) rfl ?_)
        | (refine hK _ ?_; clear hK K)
        | refine aw_text rfl ?_
        | refine aw_any (by kernel_rfl) (by kernel_rfl) rfl ?_
        | refine aw_cond1 rfl rfl ?_
        | refine aw_cond0 rfl rfl ?_
        | refine aw_block ?_
        | refine aw_skip ?_
        | refine aw_seq_k (fun K hK => ?_))
      exact ⟨j + 1, by omega, by omega, sub_of _ _ ⟨by kernel_rfl, by kernel_rfl, by kernel_rfl, trivial⟩ ⟨by kernel_rfl, trivial⟩ (by kernel_rfl)⟩
    · skip
      repeat (first
        | (refine go_at rfl ?_; first
            | refine go_do (valid_mv (.inl rfl) rfl) rfl ?_
            | refine go_do (valid_mv (.inr rfl) rfl) rfl ?_
            | refine go_do (valid_cmp rfl rfl rfl rfl (by first | exact .eql1 (by omega) | exact .eql0 (by omega) | exact .neq1 (by omega) | exact .neq0 (by omega) | exact .lss1 (by omega) | exact .lss0 (by omega) | exact .leq1 (by omega) | exact .leq0 (by omega) | exact .gtr1 (by omega) | exact .gtr0 (by omega) | exact .geq1 (by omega) | exact .geq0 (by omega) | constructor)) rfl ?_
            | refine go_do (valid_len_s rfl rfl rfl rfl) rfl ?_)
        | (refine hK _ ?_; clear hK K)
        | (rename_i K1 hK1; refine hK1 _ ?_; clear hK hK1; clear K)
        | refine aw_text rfl ?_
        | exact aw_ret (show resA _ _ _ = some _ by kernel_rfl)
        | refine aw_cond0 rfl rfl ?_
        | refine aw_exit ?_
        | refine aw_seq_k (fun K hK => ?_))
end Go.Proofs.YtkffmaeiplgjeaaGreatDoor.RfL
/- The abstract walk: the law SpaceCounts. -/
namespace Go.Proofs.YtkffmaeiplgjeaaGreatDoor.RfM
open Go.RowKit Go.Proofs.YtkffmaeiplgjeaaGreatDoor.Bv Go.Proofs.YtkffmaeiplgjeaaGreatDoor.VaSpec Go.Proofs.YtkffmaeiplgjeaaGreatDoor.Base Go.Proofs.YtkffmaeiplgjeaaGreatDoor.MemL Go.Proofs.YtkffmaeiplgjeaaGreatDoor.RegR Go.Proofs.YtkffmaeiplgjeaaGreatDoor.Ax Go.Proofs.YtkffmaeiplgjeaaGreatDoor.MemC Go.Proofs.YtkffmaeiplgjeaaGreatDoor.PutC Go.Proofs.YtkffmaeiplgjeaaGreatDoor.MemC3 Go.Proofs.YtkffmaeiplgjeaaGreatDoor.TzC Go.Proofs.YtkffmaeiplgjeaaGreatDoor.OkS Go.Proofs.YtkffmaeiplgjeaaGreatDoor.SpA Go.Proofs.YtkffmaeiplgjeaaGreatDoor.SpB Go.Proofs.YtkffmaeiplgjeaaGreatDoor.SpC Go.Proofs.YtkffmaeiplgjeaaGreatDoor.SpD Go.Proofs.YtkffmaeiplgjeaaGreatDoor.IterC Go.Proofs.YtkffmaeiplgjeaaGreatDoor.SpE Go.Proofs.YtkffmaeiplgjeaaGreatDoor.SpF Go.Proofs.YtkffmaeiplgjeaaGreatDoor.SpG Go.Proofs.YtkffmaeiplgjeaaGreatDoor.SpH Go.Proofs.YtkffmaeiplgjeaaGreatDoor.SpI Go.Proofs.YtkffmaeiplgjeaaGreatDoor.SpJ Go.Proofs.YtkffmaeiplgjeaaGreatDoor.SpK Go.Proofs.YtkffmaeiplgjeaaGreatDoor.SpN Go.Proofs.YtkffmaeiplgjeaaGreatDoor.RfP Go.Proofs.YtkffmaeiplgjeaaGreatDoor.RfQ Go.Proofs.YtkffmaeiplgjeaaGreatDoor.RfE Go.Proofs.YtkffmaeiplgjeaaGreatDoor.RfG Go.Proofs.YtkffmaeiplgjeaaGreatDoor.RfJ Go.Proofs.YtkffmaeiplgjeaaGreatDoor.RfK Go.Proofs.YtkffmaeiplgjeaaGreatDoor.RfA Go.Proofs.YtkffmaeiplgjeaaGreatDoor.RfB Go.Proofs.YtkffmaeiplgjeaaGreatDoor.RfC Go.Proofs.YtkffmaeiplgjeaaGreatDoor.SpO Go.Proofs.YtkffmaeiplgjeaaGreatDoor.SpP Go.Proofs.YtkffmaeiplgjeaaGreatDoor.SpQ Go.Proofs.YtkffmaeiplgjeaaGreatDoor.RfI Go.Proofs.YtkffmaeiplgjeaaGreatDoor.RfL
open Go.Proofs.YtkffmaeiplgjeaaGreatDoor.BitsC Go.Proofs.YtkffmaeiplgjeaaGreatDoor.PteSpec
set_option linter.unusedVariables false
set_option linter.unusedSimpArgs false
set_option maxRecDepth 10000
set_option maxHeartbeats 800000
attribute [local irreducible] Go.Proofs.YtkffmaeiplgjeaaGreatDoor.Ax.CallOk
def cntH (l : List (Int × Int)) (a b c d : Int) (kb : Kr) (i : Nat) (k : Kr) : St := St.of [(1, .m (.c (.s l.length 2 (flD l)))), (2, .m (.c (.p 2 0))), (5, .m (.c (.p 5 0))), (7, .m (.c (.p 7 0))), (8, .m (ii i))] [(2, .live (.box [ci a, ci b, ci c, ci d])), (5, .live (.box k.ce)), (7, .live (.box kb.ce))]
/-- the loop over spaces: 'x' so far -/
def cntA (l : List (Int × Int)) (a b c d : Int) (kb : Kr) (i : Nat) (k : Kr) (x j : Nat) : St := St.of [(1, .m (.c (.s l.length 2 (flD l)))), (2, .m (.c (.p 2 0))), (5, .m (.c (.p 5 0))), (7, .m (.c (.p 7 0))), (8, .m (ii i)), (12, .m (ii x)), (13, .m (ii j))] [(2, .live (.box [ci a, ci b, ci c, ci d])), (5, .live (.box k.ce)), (7, .live (.box kb.ce))]
def cntB (l : List (Int × Int)) (a b c d : Int) (kb : Kr) (i : Nat) (k : Kr) (x j q : Nat) : St := St.of [(1, .m (.c (.s l.length 2 (flD l)))), (2, .m (.c (.p 2 0))), (5, .m (.c (.p 5 0))), (7, .m (.c (.p 7 0))), (8, .m (ii i)), (12, .m (ii x)), (13, .m (ii j)), (14, .m (ii q))] [(2, .live (.box [ci a, ci b, ci c, ci d])), (5, .live (.box k.ce)), (7, .live (.box kb.ce))]
def cntE (kb k : Kr) (j : Nat) : St := St.of [(5, .m (.c (.p 5 0))), (7, .m (.c (.p 7 0))), (15, .m (ii j))] [(5, .live (.box k.ce)), (7, .live (.box kb.ce))]
theorem off_both {n : Nat} {k : Kr} {a b c : Int} (h : Inv n k) (g : Inv2 k) (f : Cf a b c k) : Inv n (offK k) ∧ Inv2 (offK k) ∧ Cf a b c (offK k) := by
  have h1 := sw_inv (id := -1) h
  have h2 := sw_inv2 (-1) g
  unfold switchR at h1 h2
  rw [if_pos rfl] at h1 h2
  exact ⟨h1, h2, ⟨f.cd, f.cp, f.ca⟩⟩
theorem de_cf {a b c : Int} {k : Kr} (id : Int) (h : Cf a b c k) : Cf a b c (destroyR k id).1 := by
  unfold destroyR
  repeat (first | exact h | (split; · exact ⟨h.cd, h.cp, h.ca⟩) | exact ⟨h.cd, h.cp, h.ca⟩)
theorem de_end {k : Kr} {L j : Nat} (hn : k.now = -1) (hL : k.ss.length = L) (hd : ∀ (i : Nat) (s : Sp), i < j → k.ss[i]? = some s → s.live = false) : (destroyR k j).1.now = -1 ∧ (destroyR k j).1.ss.length = L ∧ ∀ (i : Nat) (s : Sp), i < j + 1 → (destroyR k j).1.ss[i]? = some s → s.live = false := by
  unfold destroyR
  by_cases c1 : livesB k j = false
  · rw [if_pos c1]
    refine ⟨hn, hL, fun i s hi hs => ?_⟩
    have hs : k.ss[i]? = some s := hs
    by_cases e : i = j
    · subst e
      unfold livesB at c1
      rw [Int.toNat_natCast, hs, decide_eq_true (by omega), Bool.true_and] at c1
      exact c1
    · exact hd i s (by omega) hs
  · rw [if_neg c1, if_neg (by rw [hn]; omega)]
    have c1 : livesB k j = true := by simpa using c1
    obtain ⟨y0, y1, y2, y3⟩ := lives_at c1
    refine ⟨hn, ?_, fun i s hi hs => ?_⟩
    · show (k.ss.set _ zSp).length = L
      rw [List.length_set]; exact hL
    · have hs : (k.ss.set ((j : Int).toNat) zSp)[i]? = some s := hs
      rw [Int.toNat_natCast] at hs
      by_cases e : j = i
      · subst e
        rw [List.getElem?_set_self (by omega)] at hs
        cases hs; rfl
      · rw [List.getElem?_set_ne e] at hs
        exact hd i s (by omega) hs
theorem alv_snoc : ∀ (l : List Sp) (s : Sp), alv (l ++ [s]) = alv l + (if s.live then 1 else 0)
  | [], s => by simp [alv]
  | x :: l, s => by simp only [List.cons_append, alv]; rw [alv_snoc l s]; omega
theorem eq_poolz (w : World) (x0 x1 x2 : Int) : (Op.equalIn 10000 38 (.agg #[.int .u64 x0, .int .i64 x1, .int .u64 x2]) (.agg #[.int .u64 x0, .int .i64 x1, .int .u64 x2])).run Tryz.prog w = .ok true w := by rw [PoolC4.eq_pool 9998]; simp
theorem counts_ok (a b c d : Int) (l : List (Int × Int)) (hl : ∀ x ∈ l, D8 x) : Ok 5 [confA a b c d, .c (.s l.length 2 (flD l))] (.m (ib true)) := by
  have hm := rmay_ok a b c d
  cases hc : confB a b c d with
  | false =>
    rw [hc] at hm
    refine callOk_of 180 Tryz.func5 rfl rfl rfl rfl ?_ GG.to
    intro W A hG
    repeat (first
      | (refine go_at rfl ?_; first
          | refine go_do (valid_skip rfl) rfl ?_
          | refine go_do (valid_mv (.inl rfl) rfl) rfl ?_
          | (refine nxt_s 1 rfl ?_; refine go_do (valid_load_p tb rfl rfl rfl rfl rfl (by first | kernel_rfl | rfl)) (by first | kernel_rfl | rfl) ?_)
          | refine go_do (valid_mv (.inr rfl) rfl) rfl ?_
          | refine go_do (valid_pick rfl rfl rfl) rfl ?_
          | refine go_do (valid_box rfl rfl rfl rfl rfl rfl) rfl ?_
          | refine go_do (valid_not rfl rfl rfl) rfl ?_
          | refine go_do (valid_call rfl rfl rfl (awake_ok) (by kernel_rfl)) rfl ?_
          | refine go_do (valid_call rfl rfl rfl (hm) (by kernel_rfl)) rfl ?_)
      | (refine hK _ ?_; clear hK K)
      | refine aw_text rfl ?_
      | exact aw_ret (show resA _ _ _ = some _ by kernel_rfl)
      | refine aw_cond1 rfl rfl ?_
      | refine aw_seq_k (fun K hK => ?_))
  | true =>
    rw [hc] at hm
    by_cases hlen : 80 < l.length
    · refine callOk_of 180 Tryz.func5 rfl rfl rfl rfl ?_ GG.to
      intro W A hG
      repeat (first
        | (refine go_at rfl ?_; first
            | refine go_do (valid_mv (.inl rfl) rfl) rfl ?_
            | (refine nxt_s 1 rfl ?_; refine go_do (valid_load_p tb rfl rfl rfl rfl rfl (by first | kernel_rfl | rfl)) (by first | kernel_rfl | rfl) ?_)
            | refine go_do (valid_mv (.inr rfl) rfl) rfl ?_
            | refine go_do (valid_pick rfl rfl rfl) rfl ?_
            | refine go_do (valid_cmp rfl rfl rfl rfl (by first | exact .eql1 (by omega) | exact .eql0 (by omega) | exact .neq1 (by omega) | exact .neq0 (by omega) | exact .lss1 (by omega) | exact .lss0 (by omega) | exact .leq1 (by omega) | exact .leq0 (by omega) | exact .gtr1 (by omega) | exact .gtr0 (by omega) | exact .geq1 (by omega) | exact .geq0 (by omega) | constructor)) rfl ?_
            | refine go_do (valid_box rfl rfl rfl rfl rfl rfl) rfl ?_
            | refine go_do (valid_len_s rfl rfl rfl rfl) rfl ?_
            | refine go_do (valid_not rfl rfl rfl) rfl ?_
            | refine go_do (valid_call rfl rfl rfl (awake_ok) (by kernel_rfl)) rfl ?_
            | refine go_do (valid_call rfl rfl rfl (hm) (by kernel_rfl)) rfl ?_)
        | (refine hK _ ?_; clear hK K)
        | refine aw_text rfl ?_
        | exact aw_ret (show resA _ _ _ = some _ by kernel_rfl)
        | refine aw_cond1 rfl rfl ?_
        | refine aw_seq_k (fun K hK => ?_))
    obtain ⟨n, rfl⟩ := Int.eq_ofNat_of_zero_le (confB_iff.1 hc).2.2.2.1
    have hn := new_yes a b c n hc
    have hb0 := new_inv hc
    obtain ⟨kb, hkb⟩ : ∃ kb, kb = newK a b c n := ⟨_, rfl⟩
    refine callOk_of 180 Tryz.func5 rfl rfl rfl rfl ?_ GG.to
    intro W A hG
    repeat (first
      | (refine go_at rfl ?_; first
          | refine go_do (valid_mv (.inl rfl) rfl) rfl ?_
          | (refine nxt_s 1 rfl ?_; refine go_do (valid_load_p tb rfl rfl rfl rfl rfl (by first | kernel_rfl | rfl)) (by first | kernel_rfl | rfl) ?_)
          | refine go_do (valid_mv (.inr rfl) rfl) rfl ?_
          | refine go_do (valid_pick rfl rfl rfl) rfl ?_
          | refine go_do (valid_extract rfl rfl rfl rfl) rfl ?_
          | refine go_do (valid_cmp rfl rfl rfl rfl (by first | exact .eql1 (by omega) | exact .eql0 (by omega) | exact .neq1 (by omega) | exact .neq0 (by omega) | exact .lss1 (by omega) | exact .lss0 (by omega) | exact .leq1 (by omega) | exact .leq0 (by omega) | exact .gtr1 (by omega) | exact .gtr0 (by omega) | exact .geq1 (by omega) | exact .geq0 (by omega) | constructor)) rfl ?_
          | refine go_do (valid_box rfl rfl rfl rfl rfl rfl) rfl ?_
          | refine go_do (valid_alloc rfl rfl rfl rfl rfl) rfl ?_
          | (refine nxt_s 1 rfl ?_; refine go_do (valid_store_p rfl rfl rfl rfl rfl rfl (by first | kernel_rfl | rfl) rfl) (by first | kernel_rfl | rfl) ?_)
          | refine go_do (valid_len_s rfl rfl rfl rfl) rfl ?_
          | refine go_do (valid_not rfl rfl rfl) rfl ?_
          | refine go_do (valid_call rfl rfl rfl (awake_ok) (by kernel_rfl)) rfl ?_
          | refine go_do (valid_call rfl rfl rfl (hm) (by kernel_rfl)) rfl ?_
          | refine go_do (valid_call rfl rfl rfl (hn) (by kernel_rfl)) rfl ?_)
      | (refine hK _ ?_; clear hK K)
      | refine aw_text rfl ?_
      | refine aw_cond0 rfl rfl ?_
      | refine aw_block ?_
      | refine aw_skip ?_
      | refine aw_seq_k (fun K hK => ?_))
    refine aw_loopH (α := Nat × Kr) (fun p => p.1 ≤ l.length ∧ Inv p.1 p.2 ∧ Inv2 p.2 ∧ Cf a b c p.2) (fun p => cntH l a b c n (newK a b c n) p.1 p.2) (fun p => l.length - p.1) (0, newK a b c n) ⟨Nat.zero_le _, hb0, new_inv2 hc, ⟨rfl, rfl, rfl⟩⟩ (sub_of _ _ ⟨by kernel_rfl, by kernel_rfl, by kernel_rfl, by kernel_rfl, by kernel_rfl, trivial⟩ ⟨by kernel_rfl, by kernel_rfl, by kernel_rfl, trivial⟩ (by kernel_rfl)) ?_
    rw [← hkb]
    rintro ⟨i, k⟩ ⟨hi0, hk0, hg0, hf0⟩
    have hi : i ≤ l.length := hi0
    have hk : Inv i k := hk0
    have hg : Inv2 k := hg0
    have hf : Cf a b c k := hf0
    show Aw _ _ _ _ (cntH l a b c n kb i k)
    unfold cntH
    by_cases hlt : i < l.length
    · obtain ⟨y, hy0⟩ : ∃ y, l[i]? = some y := ⟨_, List.getElem?_eq_getElem hlt⟩
      have hx := flD_at hy0
      have h8 := hl y (List.mem_of_getElem? hy0)
      have hd := do_ok hk (by omega) y h8.1 h8.2
      have hdi := do_inv (d := y) hk
      have hdg := do_inv2 (d := y) hk hg
      have hdf := do_cf (d := y) hf
      have hde := do_err (k := k) (d := y)
      have b1 := hk.ml
      have b2 := hk.fl
      have b3 := hk.sl
      have hsm := SpM.same_ok k hk.ts hk.cs.2 (by omega) (by omega) (by omega)
      have htr := trees_ok hdi hdg (by omega)
      revert hd hdi hdg hdf hde htr
      generalize doR k y = rr
      intro hd hdi hdg hdf hde htr
      repeat (first
        | (refine go_at rfl ?_; first
            | refine go_do (valid_mv (.inl rfl) rfl) rfl ?_
            | refine go_do (valid_cmp rfl rfl rfl rfl (by first | exact .eql1 (by omega) | exact .eql0 (by omega) | exact .neq1 (by omega) | exact .neq0 (by omega) | exact .lss1 (by omega) | exact .lss0 (by omega) | exact .leq1 (by omega) | exact .leq0 (by omega) | exact .gtr1 (by omega) | exact .gtr0 (by omega) | exact .geq1 (by omega) | exact .geq0 (by omega) | constructor)) rfl ?_
            | refine go_do (valid_len_s rfl rfl rfl rfl) rfl ?_)
        | refine aw_text rfl ?_
        | refine aw_seq_k (fun K hK => ?_))
      first
        | (refine hK _ ?_; clear hK K)
        | (rename_i K1 hK1; refine hK1 _ ?_; clear hK hK1; clear K)
        | (rename_i K1 hK1; refine hK1 _ ?_; clear hK1)
      repeat (first
        | refine aw_cond1 rfl rfl ?_
        | refine aw_skip ?_)
      first
        | (refine hK _ ?_; clear hK K)
        | (rename_i K1 hK1; refine hK1 _ ?_; clear hK hK1; clear K)
        | (rename_i K1 hK1; refine hK1 _ ?_; clear hK1)
      repeat (first
        | (refine go_at rfl ?_; first
            | refine go_do (valid_mv (.inl rfl) rfl) rfl ?_
            | (refine nxt_s 1 rfl ?_; refine go_do (valid_load_p tb rfl rfl rfl rfl rfl (by first | kernel_rfl | rfl)) (by first | kernel_rfl | rfl) ?_)
            | refine go_do (valid_mv (.inr rfl) rfl) rfl ?_
            | refine go_do (valid_extract rfl rfl rfl rfl) rfl ?_
            | refine go_do (valid_alloc rfl rfl rfl rfl rfl) rfl ?_
            | (refine nxt_s 1 rfl ?_; refine go_do (valid_store_p rfl rfl rfl rfl rfl rfl (by first | kernel_rfl | rfl) rfl) (by first | kernel_rfl | rfl) ?_)
            | (refine nxt_s 3 rfl ?_; refine go_do (valid_load_q tb rfl rfl rfl rfl (by first | kernel_rfl | rfl)) rfl ?_)
            | (refine nxt_s 4 rfl ?_; refine go_do (valid_idx_s rfl rfl rfl rfl rfl rfl (by omega) (by omega) _ (by assumption)) rfl ?_)
            | refine go_do (valid_call rfl rfl rfl (hd) (by kernel_rfl)) rfl ?_)
        | refine aw_any (by kernel_rfl) (by kernel_rfl) rfl ?_
        | refine aw_block ?_
        | refine aw_seq_k (fun K hK => ?_))
      first
        | (refine hK _ ?_; clear hK K)
        | (rename_i K1 hK1; refine hK1 _ ?_; clear hK hK1; clear K)
        | (rename_i K1 hK1; refine hK1 _ ?_; clear hK1)
      obtain ⟨r1, r2, r3⟩ := rr
      have hdi : Inv (i + 1) r1 := hdi
      have hdg : Inv2 r1 := hdg
      have hdf : Cf a b c r1 := hdf
      have hde : r3 ≠ 0 → r1 = k := hde
      refine aw_sub (sub_of [(1, .m (.c (.s l.length 2 (flD l)))), (2, .m (.c (.p 2 0))), (5, .m (.c (.p 5 0))), (7, .m (.c (.p 7 0))), (8, .m (ii i)), (9, .m (.c (.p 9 0))), (11, .m (ii r3))] [(2, .live (.box [ci a, ci b, ci c, ci n])), (5, .live (.box k.ce)), (7, .live (.box kb.ce)), (9, .live (.box r1.ce))] ⟨by kernel_rfl, by kernel_rfl, by kernel_rfl, by kernel_rfl, by kernel_rfl, by kernel_rfl, by kernel_rfl, trivial⟩ ⟨by kernel_rfl, by kernel_rfl, by kernel_rfl, by kernel_rfl, trivial⟩ (by kernel_rfl)) ?_
      refine aw_seq_k (fun K0 hK0 => ?_)
      have hrest : ∀ S', Ax.Sub ⟨180, W, A, GG, hG⟩ S' (St.of [(1, .m (.c (.s l.length 2 (flD l)))), (2, .m (.c (.p 2 0))), (5, .m (.c (.p 5 0))), (7, .m (.c (.p 7 0))), (8, .m (ii i)), (9, .m (.c (.p 9 0)))] [(2, .live (.box [ci a, ci b, ci c, ci n])), (5, .live (.box k.ce)), (7, .live (.box kb.ce)), (9, .live (.box r1.ce))]) → K0 S' := fun S' hsub => by
        refine hK0 S' (aw_sub hsub ?_)
        clear hsub hK0
        clear K0
        repeat (first
          | (refine go_at rfl ?_; first
              | (refine nxt_s 1 rfl ?_; refine go_do (valid_load_p tb rfl rfl rfl rfl rfl (by first | kernel_rfl | rfl)) (by first | kernel_rfl | rfl) ?_)
              | refine go_do (valid_mv (.inr rfl) rfl) rfl ?_
              | (refine nxt_s 1 rfl ?_; refine go_do (valid_store_p rfl rfl rfl rfl rfl rfl (by first | kernel_rfl | rfl) rfl) (by first | kernel_rfl | rfl) ?_))
          | (refine hK _ ?_; clear hK K)
          | refine aw_text rfl ?_
          | refine aw_block ?_
          | refine aw_seq_k (fun K hK => ?_))
        refine aw_loopH (α := Nat × Nat) (fun q => q.2 ≤ r1.ss.length ∧ q.1 = alv (r1.ss.take q.2) ∧ q.1 ≤ q.2) (fun q => cntA l a b c n kb i r1 q.1 q.2) (fun q => r1.ss.length - q.2) (0, 0) ⟨Nat.zero_le _, rfl, Nat.le_refl _⟩ (sub_of _ _ ⟨by kernel_rfl, by kernel_rfl, by kernel_rfl, by kernel_rfl, by kernel_rfl, by kernel_rfl, by kernel_rfl, trivial⟩ ⟨by kernel_rfl, by kernel_rfl, by kernel_rfl, trivial⟩ (by kernel_rfl)) ?_
        rintro ⟨x, j⟩ ⟨h1, h2, h3⟩
        have g1 : j ≤ r1.ss.length := h1
        have g2 : x = alv (r1.ss.take j) := h2
        have g3 : x ≤ j := h3
        clear h1 h2 h3
        show Aw _ _ _ _ (cntA l a b c n kb i r1 x j)
        unfold cntA
        have b4 := hdi.sl
        by_cases hjt : j < r1.ss.length
        · obtain ⟨s, hs⟩ : ∃ s, r1.ss[j]? = some s := ⟨_, List.getElem?_eq_getElem hjt⟩
          have hxj : ((flS r1.ss).drop (j * 3)).take 3 = [.int .u64 s.root, .int .u64 s.asid, .bool s.live] := flat_at Sp.vs 3 (fun _ => rfl) r1.ss _ s hs
          have hal := alv_snoc (r1.ss.take j) s
          rw [← take_snoc hs] at hal
          cases hsl : s.live with
          | false =>
            rw [hsl] at hxj hal
            have hal : alv (r1.ss.take (j + 1)) = alv (r1.ss.take j) := by rw [hal]; rfl
            repeat (first
              | (refine go_at rfl ?_; first
                  | refine go_do (valid_mv (.inl rfl) rfl) rfl ?_
                  | (refine nxt_s 1 rfl ?_; refine go_do (valid_load_p tb rfl rfl rfl rfl rfl (by first | kernel_rfl | rfl)) (by first | kernel_rfl | rfl) ?_)
                  | (refine nxt_s 1 rfl ?_; refine go_do (valid_fld_p tb rfl rfl rfl (by kernel_rfl)) rfl ?_)
                  | refine go_do (valid_mv (.inr rfl) rfl) rfl ?_
                  | refine go_do (valid_cmp rfl rfl rfl rfl (by first | exact .eql1 (by omega) | exact .eql0 (by omega) | exact .neq1 (by omega) | exact .neq0 (by omega) | exact .lss1 (by omega) | exact .lss0 (by omega) | exact .leq1 (by omega) | exact .leq0 (by omega) | exact .gtr1 (by omega) | exact .gtr0 (by omega) | exact .geq1 (by omega) | exact .geq0 (by omega) | constructor)) rfl ?_
                  | refine go_do (valid_ar rfl rfl rfl rfl (by constructor) (by first | exact wr_u64 (by omega) (by omega) | exact wr_i64 (by omega) (by omega) | rfl)) rfl ?_
                  | refine go_do (valid_len_s rfl rfl rfl rfl) rfl ?_
                  | (refine nxt_s 3 rfl ?_; refine go_do (valid_load_q tb rfl rfl rfl rfl (by first | kernel_rfl | rfl)) rfl ?_)
                  | (refine nxt_s 3 rfl ?_; refine go_do (valid_fld_q tb rfl rfl rfl rfl) rfl ?_)
                  | refine go_do (valid_not rfl rfl rfl) rfl ?_
                  | (refine nxt_s 4 rfl ?_; refine go_do (valid_idx_s rfl rfl rfl rfl rfl rfl (by omega) (by omega) _ (by assumption)) rfl ?_))
              | (refine hK _ ?_; clear hK K)
              | (rename_i K1 hK1; refine hK1 _ ?_; clear hK hK1; clear K)
              | refine aw_text rfl ?_
              | refine aw_cond1 rfl rfl ?_
              | refine aw_block ?_
              | refine aw_exit ?_
              | refine aw_skip ?_
              | refine aw_seq_k (fun K hK => ?_))
            exact ⟨(x, j + 1), ⟨by show j + 1 ≤ r1.ss.length; omega, by show x = alv (r1.ss.take (j + 1)); omega, by show x ≤ j + 1; omega⟩, by show r1.ss.length - (j + 1) < r1.ss.length - j; omega, sub_of _ _ ⟨by kernel_rfl, by kernel_rfl, by kernel_rfl, by kernel_rfl, by kernel_rfl, by kernel_rfl, by kernel_rfl, trivial⟩ ⟨by kernel_rfl, by kernel_rfl, by kernel_rfl, trivial⟩ (by kernel_rfl)⟩
          | true =>
            rw [hsl] at hxj hal
            have hal : alv (r1.ss.take (j + 1)) = alv (r1.ss.take j) + 1 := by rw [hal]; rfl
            repeat (first
              | (refine go_at rfl ?_; first
                  | refine go_do (valid_mv (.inl rfl) rfl) rfl ?_
                  | (refine nxt_s 1 rfl ?_; refine go_do (valid_load_p tb rfl rfl rfl rfl rfl (by first | kernel_rfl | rfl)) (by first | kernel_rfl | rfl) ?_)
                  | (refine nxt_s 1 rfl ?_; refine go_do (valid_fld_p tb rfl rfl rfl (by kernel_rfl)) rfl ?_)
                  | refine go_do (valid_mv (.inr rfl) rfl) rfl ?_
                  | refine go_do (valid_cmp rfl rfl rfl rfl (by first | exact .eql1 (by omega) | exact .eql0 (by omega) | exact .neq1 (by omega) | exact .neq0 (by omega) | exact .lss1 (by omega) | exact .lss0 (by omega) | exact .leq1 (by omega) | exact .leq0 (by omega) | exact .gtr1 (by omega) | exact .gtr0 (by omega) | exact .geq1 (by omega) | exact .geq0 (by omega) | constructor)) rfl ?_
                  | refine go_do (valid_ar rfl rfl rfl rfl (by constructor) (by first | exact wr_u64 (by omega) (by omega) | exact wr_i64 (by omega) (by omega) | rfl)) rfl ?_
                  | refine go_do (valid_len_s rfl rfl rfl rfl) rfl ?_
                  | (refine nxt_s 3 rfl ?_; refine go_do (valid_load_q tb rfl rfl rfl rfl (by first | kernel_rfl | rfl)) rfl ?_)
                  | (refine nxt_s 3 rfl ?_; refine go_do (valid_fld_q tb rfl rfl rfl rfl) rfl ?_)
                  | refine go_do (valid_not rfl rfl rfl) rfl ?_
                  | (refine nxt_s 4 rfl ?_; refine go_do (valid_idx_s rfl rfl rfl rfl rfl rfl (by omega) (by omega) _ (by assumption)) rfl ?_))
              | (refine hK _ ?_; clear hK K)
              | refine aw_text rfl ?_
              | refine aw_cond1 rfl rfl ?_
              | refine aw_cond0 rfl rfl ?_
              | refine aw_block ?_
              | refine aw_skip ?_
              | refine aw_seq_k (fun K hK => ?_))
            refine aw_loopH (α := Nat) (fun q => q ≤ j) (fun q => cntB l a b c n kb i r1 (x + 1) j q) (fun q => j - q) 0 (Nat.zero_le _) (sub_of _ _ ⟨by kernel_rfl, by kernel_rfl, by kernel_rfl, by kernel_rfl, by kernel_rfl, by kernel_rfl, by kernel_rfl, by kernel_rfl, trivial⟩ ⟨by kernel_rfl, by kernel_rfl, by kernel_rfl, trivial⟩ (by kernel_rfl)) ?_
            intro q hq
            unfold cntB
            by_cases hqt : q < j
            · obtain ⟨u, hu⟩ : ∃ u, r1.ss[q]? = some u := ⟨_, List.getElem?_eq_getElem (by omega)⟩
              have hxq : ((flS r1.ss).drop (q * 3)).take 3 = [.int .u64 u.root, .int .u64 u.asid, .bool u.live] := flat_at Sp.vs 3 (fun _ => rfl) r1.ss _ u hu
              cases hul : u.live with
              | false =>
                rw [hul] at hxq
                repeat (first
                  | (refine go_at rfl ?_; first
                      | refine go_do (valid_skip rfl) rfl ?_
                      | refine go_do (valid_mv (.inl rfl) rfl) rfl ?_
                      | (refine nxt_s 1 rfl ?_; refine go_do (valid_load_p tb rfl rfl rfl rfl rfl (by first | kernel_rfl | rfl)) (by first | kernel_rfl | rfl) ?_)
                      | (refine nxt_s 1 rfl ?_; refine go_do (valid_fld_p tb rfl rfl rfl (by kernel_rfl)) rfl ?_)
                      | refine go_do (valid_mv (.inr rfl) rfl) rfl ?_
                      | refine go_do (valid_pick rfl rfl rfl) rfl ?_
                      | refine go_do (valid_cmp rfl rfl rfl rfl (by first | exact .eql1 (by omega) | exact .eql0 (by omega) | exact .neq1 (by omega) | exact .neq0 (by omega) | exact .lss1 (by omega) | exact .lss0 (by omega) | exact .leq1 (by omega) | exact .leq0 (by omega) | exact .gtr1 (by omega) | exact .gtr0 (by omega) | exact .geq1 (by omega) | exact .geq0 (by omega) | constructor)) rfl ?_
                      | refine go_do (valid_ar rfl rfl rfl rfl (by constructor) (by first | exact wr_u64 (by omega) (by omega) | exact wr_i64 (by omega) (by omega) | rfl)) rfl ?_
                      | (refine nxt_s 3 rfl ?_; refine go_do (valid_load_q tb rfl rfl rfl rfl (by first | kernel_rfl | rfl)) rfl ?_)
                      | (refine nxt_s 3 rfl ?_; refine go_do (valid_fld_q tb rfl rfl rfl rfl) rfl ?_)
                      | (refine nxt_s 4 rfl ?_; refine go_do (valid_idx_s rfl rfl rfl rfl rfl rfl (by omega) (by omega) _ (by assumption)) rfl ?_))
                  | (refine hK _ ?_; clear hK K)
                  | refine aw_text rfl ?_
                  | refine aw_any (by kernel_rfl) (by kernel_rfl) rfl ?_
                  | refine aw_cond1 rfl rfl ?_
                  | refine aw_cond0 rfl rfl ?_
                  | refine aw_block ?_
                  | refine aw_skip ?_
                  | refine aw_seq_k (fun K hK => ?_))
                exact ⟨q + 1, by show q + 1 ≤ j; omega, by show j - (q + 1) < j - q; omega, sub_of _ _ ⟨by kernel_rfl, by kernel_rfl, by kernel_rfl, by kernel_rfl, by kernel_rfl, by kernel_rfl, by kernel_rfl, by kernel_rfl, trivial⟩ ⟨by kernel_rfl, by kernel_rfl, by kernel_rfl, trivial⟩ (by kernel_rfl)⟩
              | true =>
                rw [hul] at hxq
                have hap := hdg.ap j q s u hs hu (by omega) hsl hul
                have ap1 := hap.1
                have ap2 := hap.2
                repeat (first
                  | (refine go_at rfl ?_; first
                      | refine go_do (valid_mv (.inl rfl) rfl) rfl ?_
                      | (refine nxt_s 1 rfl ?_; refine go_do (valid_load_p tb rfl rfl rfl rfl rfl (by first | kernel_rfl | rfl)) (by first | kernel_rfl | rfl) ?_)
                      | (refine nxt_s 1 rfl ?_; refine go_do (valid_fld_p tb rfl rfl rfl (by kernel_rfl)) rfl ?_)
                      | refine go_do (valid_mv (.inr rfl) rfl) rfl ?_
                      | refine go_do (valid_pick rfl rfl rfl) rfl ?_
                      | refine go_do (valid_cmp rfl rfl rfl rfl (by first | exact .eql1 (by omega) | exact .eql0 (by omega) | exact .neq1 (by omega) | exact .neq0 (by omega) | exact .lss1 (by omega) | exact .lss0 (by omega) | exact .leq1 (by omega) | exact .leq0 (by omega) | exact .gtr1 (by omega) | exact .gtr0 (by omega) | exact .geq1 (by omega) | exact .geq0 (by omega) | constructor)) rfl ?_
                      | refine go_do (valid_ar rfl rfl rfl rfl (by constructor) (by first | exact wr_u64 (by omega) (by omega) | exact wr_i64 (by omega) (by omega) | rfl)) rfl ?_
                      | (refine nxt_s 3 rfl ?_; refine go_do (valid_load_q tb rfl rfl rfl rfl (by first | kernel_rfl | rfl)) rfl ?_)
                      | (refine nxt_s 3 rfl ?_; refine go_do (valid_fld_q tb rfl rfl rfl rfl) rfl ?_)
                      | (refine nxt_s 4 rfl ?_; refine go_do (valid_idx_s rfl rfl rfl rfl rfl rfl (by omega) (by omega) _ (by assumption)) rfl ?_))
                  | (refine hK _ ?_; clear hK K)
                  | refine aw_text rfl ?_
                  | refine aw_any (by kernel_rfl) (by kernel_rfl) rfl ?_
                  | refine aw_cond1 rfl rfl ?_
                  | refine aw_cond0 rfl rfl ?_
                  | refine aw_block ?_
                  | refine aw_skip ?_
                  | refine aw_seq_k (fun K hK => ?_))
                exact ⟨q + 1, by show q + 1 ≤ j; omega, by show j - (q + 1) < j - q; omega, sub_of _ _ ⟨by kernel_rfl, by kernel_rfl, by kernel_rfl, by kernel_rfl, by kernel_rfl, by kernel_rfl, by kernel_rfl, by kernel_rfl, trivial⟩ ⟨by kernel_rfl, by kernel_rfl, by kernel_rfl, trivial⟩ (by kernel_rfl)⟩
            · skip
              repeat (first
                | (refine go_at rfl ?_; first
                    | refine go_do (valid_mv (.inl rfl) rfl) rfl ?_
                    | refine go_do (valid_mv (.inr rfl) rfl) rfl ?_
                    | refine go_do (valid_cmp rfl rfl rfl rfl (by first | exact .eql1 (by omega) | exact .eql0 (by omega) | exact .neq1 (by omega) | exact .neq0 (by omega) | exact .lss1 (by omega) | exact .lss0 (by omega) | exact .leq1 (by omega) | exact .leq0 (by omega) | exact .gtr1 (by omega) | exact .gtr0 (by omega) | exact .geq1 (by omega) | exact .geq0 (by omega) | constructor)) rfl ?_
                    | refine go_do (valid_ar rfl rfl rfl rfl (by constructor) (by first | exact wr_u64 (by omega) (by omega) | exact wr_i64 (by omega) (by omega) | rfl)) rfl ?_)
                | (refine hK _ ?_; clear hK K)
                | (rename_i K1 hK1; refine hK1 _ ?_; clear hK hK1; clear K)
                | refine aw_text rfl ?_
                | refine aw_cond0 rfl rfl ?_
                | refine aw_exit ?_
                | refine aw_seq_k (fun K hK => ?_))
              exact ⟨(x + 1, j + 1), ⟨by show j + 1 ≤ r1.ss.length; omega, by show x + 1 = alv (r1.ss.take (j + 1)); omega, by show x + 1 ≤ j + 1; omega⟩, by show r1.ss.length - (j + 1) < r1.ss.length - j; omega, sub_of _ _ ⟨by kernel_rfl, by kernel_rfl, by kernel_rfl, by kernel_rfl, by kernel_rfl, by kernel_rfl, by kernel_rfl, trivial⟩ ⟨by kernel_rfl, by kernel_rfl, by kernel_rfl, trivial⟩ (by kernel_rfl)⟩
        · have hj : j = r1.ss.length := by omega
          rw [hj, List.take_length] at g2
          have np := hdg.np
          have na := hdg.na
          have f2 := hdf.cp
          have f3 := hdf.ca
          have c2 := hdi.cp
          have c3 := hdi.ca
          have hfp := pfree_ok r1.pb r1.pm r1.pf hdi.upf
          have hfa := afree_ok r1.am r1.af r1.ao hdi.uaf
          repeat (first
            | (refine go_at rfl ?_; first
                | refine go_do (valid_mv (.inl rfl) rfl) rfl ?_
                | (refine nxt_s 1 rfl ?_; refine go_do (valid_load_p tb rfl rfl rfl rfl rfl (by first | kernel_rfl | rfl)) (by first | kernel_rfl | rfl) ?_)
                | (refine nxt_s 1 rfl ?_; refine go_do (valid_fld_p tb rfl rfl rfl (by kernel_rfl)) rfl ?_)
                | refine go_do (valid_mv (.inr rfl) rfl) rfl ?_
                | refine go_do (valid_pick rfl rfl rfl) rfl ?_
                | refine go_do (valid_cmp rfl rfl rfl rfl (by first | exact .eql1 (by omega) | exact .eql0 (by omega) | exact .neq1 (by omega) | exact .neq0 (by omega) | exact .lss1 (by omega) | exact .lss0 (by omega) | exact .leq1 (by omega) | exact .leq0 (by omega) | exact .gtr1 (by omega) | exact .gtr0 (by omega) | exact .geq1 (by omega) | exact .geq0 (by omega) | constructor)) rfl ?_
                | refine go_do (valid_ar rfl rfl rfl rfl (by constructor) (by first | exact wr_u64 (by omega) (by omega) | exact wr_i64 (by omega) (by omega) | rfl)) rfl ?_
                | refine go_do (valid_len_s rfl rfl rfl rfl) rfl ?_
                | refine go_do (valid_call rfl rfl rfl (hfp) (by kernel_rfl)) rfl ?_
                | refine go_do (valid_call rfl rfl rfl (hfa) (by kernel_rfl)) rfl ?_)
            | (refine hK _ ?_; clear hK K)
            | (rename_i K1 hK1; refine hK1 _ ?_; clear hK hK1; clear K)
            | refine aw_text rfl ?_
            | refine aw_any (by kernel_rfl) (by kernel_rfl) rfl ?_
            | refine aw_cond0 rfl rfl ?_
            | refine aw_exit ?_
            | refine aw_skip ?_
            | refine aw_seq_k (fun K hK => ?_))
          exact ⟨(i + 1, r1), ⟨by show i + 1 ≤ l.length; omega, hdi, hdg, hdf⟩, by show l.length - (i + 1) < l.length - i; omega, sub_of _ _ ⟨by kernel_rfl, by kernel_rfl, by kernel_rfl, by kernel_rfl, by kernel_rfl, trivial⟩ ⟨by kernel_rfl, by kernel_rfl, by kernel_rfl, trivial⟩ (by kernel_rfl)⟩
      by_cases he : r3 = 0
      · skip
        repeat (first
          | (refine go_at rfl ?_; first
              | refine go_do (valid_skip rfl) rfl ?_
              | refine go_do (valid_mv (.inl rfl) rfl) rfl ?_
              | (refine nxt_s 1 rfl ?_; refine go_do (valid_load_p tb rfl rfl rfl rfl rfl (by first | kernel_rfl | rfl)) (by first | kernel_rfl | rfl) ?_)
              | refine go_do (valid_pick rfl rfl rfl) rfl ?_
              | refine go_do (valid_cmp rfl rfl rfl rfl (by first | exact .eql1 (by omega) | exact .eql0 (by omega) | exact .neq1 (by omega) | exact .neq0 (by omega) | exact .lss1 (by omega) | exact .lss0 (by omega) | exact .leq1 (by omega) | exact .leq0 (by omega) | exact .gtr1 (by omega) | exact .gtr0 (by omega) | exact .geq1 (by omega) | exact .geq0 (by omega) | constructor)) rfl ?_
              | refine go_do (valid_not rfl rfl rfl) rfl ?_
              | refine go_do (valid_call rfl rfl rfl (htr) (by kernel_rfl)) rfl ?_)
          | refine aw_text rfl ?_
          | refine aw_seq_k (fun K hK => ?_))
        first
          | (refine hK _ ?_; clear hK K)
          | (rename_i K1 hK1; refine hK1 _ ?_; clear hK hK1; clear K)
          | (rename_i K1 hK1; refine hK1 _ ?_; clear hK1)
        repeat (first
          | refine aw_cond0 rfl rfl ?_
          | refine aw_skip ?_)
        exact hrest _ (sub_of _ _ ⟨by kernel_rfl, by kernel_rfl, by kernel_rfl, by kernel_rfl, by kernel_rfl, by kernel_rfl, trivial⟩ ⟨by kernel_rfl, by kernel_rfl, by kernel_rfl, by kernel_rfl, trivial⟩ (by kernel_rfl))
      · have e1 : r1 = k := hde he
        subst e1
        repeat (first
          | (refine go_at rfl ?_; first
              | refine go_do (valid_mv (.inl rfl) rfl) rfl ?_
              | (refine nxt_s 1 rfl ?_; refine go_do (valid_load_p tb rfl rfl rfl rfl rfl (by first | kernel_rfl | rfl)) (by first | kernel_rfl | rfl) ?_)
              | refine go_do (valid_pick rfl rfl rfl) rfl ?_
              | refine go_do (valid_cmp rfl rfl rfl rfl (by first | exact .eql1 (by omega) | exact .eql0 (by omega) | exact .neq1 (by omega) | exact .neq0 (by omega) | exact .lss1 (by omega) | exact .lss0 (by omega) | exact .leq1 (by omega) | exact .leq0 (by omega) | exact .gtr1 (by omega) | exact .gtr0 (by omega) | exact .geq1 (by omega) | exact .geq0 (by omega) | constructor)) rfl ?_
              | refine go_do (valid_not rfl rfl rfl) rfl ?_
              | (refine nxt_dst 56 rfl ?_; refine go_do (valid_call rfl rfl rfl (hsm) (by kernel_rfl)) rfl ?_)
              | refine go_do (valid_call rfl rfl rfl (htr) (by kernel_rfl)) rfl ?_)
          | refine aw_text rfl ?_
          | refine aw_seq_k (fun K hK => ?_))
        first
          | (refine hK _ ?_; clear hK K)
          | (rename_i K1 hK1; refine hK1 _ ?_; clear hK hK1; clear K)
          | (rename_i K1 hK1; refine hK1 _ ?_; clear hK1)
        repeat (first
          | refine aw_cond0 rfl rfl ?_
          | refine aw_skip ?_)
        exact hrest _ (sub_of _ _ ⟨by kernel_rfl, by kernel_rfl, by kernel_rfl, by kernel_rfl, by kernel_rfl, by kernel_rfl, trivial⟩ ⟨by kernel_rfl, by kernel_rfl, by kernel_rfl, by kernel_rfl, trivial⟩ (by kernel_rfl))
    · have b1 := hk.sl
      obtain ⟨o1, o2, o3⟩ := off_both hk hg hf
      have hsw := switch_all k (-1)
      rw [show switchR k (-1) = (offK k, 0) by unfold switchR; rw [if_pos rfl]] at hsw
      repeat (first
        | (refine go_at rfl ?_; first
            | refine go_do (valid_mv (.inl rfl) rfl) rfl ?_
            | (refine nxt_s 1 rfl ?_; refine go_do (valid_load_p tb rfl rfl rfl rfl rfl (by first | kernel_rfl | rfl)) (by first | kernel_rfl | rfl) ?_)
            | refine go_do (valid_mv (.inr rfl) rfl) rfl ?_
            | refine go_do (valid_extract rfl rfl rfl rfl) rfl ?_
            | refine go_do (valid_cmp rfl rfl rfl rfl (by first | exact .eql1 (by omega) | exact .eql0 (by omega) | exact .neq1 (by omega) | exact .neq0 (by omega) | exact .lss1 (by omega) | exact .lss0 (by omega) | exact .leq1 (by omega) | exact .leq0 (by omega) | exact .gtr1 (by omega) | exact .gtr0 (by omega) | exact .geq1 (by omega) | exact .geq0 (by omega) | constructor)) rfl ?_
            | (refine nxt_s 1 rfl ?_; refine go_do (valid_store_p rfl rfl rfl rfl rfl rfl (by first | kernel_rfl | rfl) rfl) (by first | kernel_rfl | rfl) ?_)
            | refine go_do (valid_len_s rfl rfl rfl rfl) rfl ?_
            | refine go_do (valid_call rfl rfl rfl (hsw) (by kernel_rfl)) rfl ?_)
        | (refine hK _ ?_; clear hK K)
        | (rename_i K1 hK1; refine hK1 _ ?_; clear hK hK1; clear K)
        | refine aw_text rfl ?_
        | refine aw_cond0 rfl rfl ?_
        | refine aw_block ?_
        | refine aw_exit ?_
        | refine aw_seq_k (fun K hK => ?_))
      refine aw_loopH (α := Nat × Kr) (fun q => q.1 ≤ k.ss.length ∧ Inv (i + q.1) q.2 ∧ Inv2 q.2 ∧ Cf a b c q.2 ∧ q.2.now = -1 ∧ q.2.ss.length = k.ss.length ∧ ∀ (e : Nat) (s : Sp), e < q.1 → q.2.ss[e]? = some s → s.live = false) (fun q => cntE kb q.2 q.1) (fun q => k.ss.length - q.1) (0, offK k) ⟨Nat.zero_le _, o1, o2, o3, rfl, rfl, fun e s he => by have he : e < 0 := he; omega⟩ (sub_of _ _ ⟨by kernel_rfl, by kernel_rfl, by kernel_rfl, trivial⟩ ⟨by kernel_rfl, by kernel_rfl, trivial⟩ (by kernel_rfl)) ?_
      clear hsw o1 o2 o3
      rintro ⟨j, w⟩ ⟨h1, h2, h3, h4, h5, h6, h7⟩
      have g1 : j ≤ k.ss.length := h1
      have g2 : Inv (i + j) w := h2
      have g3 : Inv2 w := h3
      have g4 : Cf a b c w := h4
      have g5 : w.now = -1 := h5
      have g6 : w.ss.length = k.ss.length := h6
      have g7 : ∀ (e : Nat) (s : Sp), e < j → w.ss[e]? = some s → s.live = false := h7
      clear h1 h2 h3 h4 h5 h6 h7
      show Aw _ _ _ _ (cntE kb w j)
      unfold cntE
      by_cases hjt : j < k.ss.length
      · have hd := destroy_all g2 (by omega) j
        have q1 := destroy_inv (id := j) g2
        have q2 := de_inv2 (j : Int) g2 g3
        have q3 := de_cf (j : Int) g4
        obtain ⟨q4, q5, q6⟩ := de_end (j := j) g5 g6 g7
        revert hd q1 q2 q3 q4 q5 q6
        generalize destroyR w j = dd
        intro hd q1 q2 q3 q4 q5 q6
        repeat (first
          | (refine go_at rfl ?_; first
              | refine go_do (valid_mv (.inl rfl) rfl) rfl ?_
              | (refine nxt_s 1 rfl ?_; refine go_do (valid_load_p tb rfl rfl rfl rfl rfl (by first | kernel_rfl | rfl)) (by first | kernel_rfl | rfl) ?_)
              | (refine nxt_s 1 rfl ?_; refine go_do (valid_fld_p tb rfl rfl rfl (by kernel_rfl)) rfl ?_)
              | refine go_do (valid_mv (.inr rfl) rfl) rfl ?_
              | refine go_do (valid_extract rfl rfl rfl rfl) rfl ?_
              | refine go_do (valid_cmp rfl rfl rfl rfl (by first | exact .eql1 (by omega) | exact .eql0 (by omega) | exact .neq1 (by omega) | exact .neq0 (by omega) | exact .lss1 (by omega) | exact .lss0 (by omega) | exact .leq1 (by omega) | exact .leq0 (by omega) | exact .gtr1 (by omega) | exact .gtr0 (by omega) | exact .geq1 (by omega) | exact .geq0 (by omega) | constructor)) rfl ?_
              | refine go_do (valid_ar rfl rfl rfl rfl (by constructor) (by first | exact wr_u64 (by omega) (by omega) | exact wr_i64 (by omega) (by omega) | rfl)) rfl ?_
              | (refine nxt_s 1 rfl ?_; refine go_do (valid_store_p rfl rfl rfl rfl rfl rfl (by first | kernel_rfl | rfl) rfl) (by first | kernel_rfl | rfl) ?_)
              | refine go_do (valid_len_s rfl rfl rfl rfl) rfl ?_
              | refine go_do (valid_call rfl rfl rfl (hd) (by kernel_rfl)) rfl ?_)
          | (refine hK _ ?_; clear hK K)
          | refine aw_text rfl ?_
          | refine aw_cond1 rfl rfl ?_
          | refine aw_block ?_
          | refine aw_skip ?_
          | refine aw_seq_k (fun K hK => ?_))
        exact ⟨(j + 1, dd.1), ⟨by show j + 1 ≤ k.ss.length; omega, q1, q2, q3, q4, q5, q6⟩, by show k.ss.length - (j + 1) < k.ss.length - j; omega, sub_of _ _ ⟨by kernel_rfl, by kernel_rfl, by kernel_rfl, trivial⟩ ⟨by kernel_rfl, by kernel_rfl, trivial⟩ (by kernel_rfl)⟩
      · obtain ⟨z1, z2, z3⟩ := all_free g2 g3 g4 hc (fun s hs => by
          obtain ⟨e, he⟩ := List.getElem?_of_mem hs
          have := (List.getElem?_eq_some_iff.1 he).1
          exact g7 e s (by omega) he)
        rw [← hkb] at z1 z2
        have k1 : w.pb = kb.pb := by rw [g2.pb, g4.cd, hkb]; rfl
        have k2 : w.pm = kb.pm := by rw [g2.pm, g4.cp, hkb]; rfl
        have k3 : w.sz = kb.sz := by rw [g2.sz, g4.cd, g4.cp, hkb]; rfl
        have k4 : kb.m = [] := by rw [hkb]; rfl
        have hsm : Ok 23 [memA w.sz w.m, memA kb.sz kb.m] (.m (ib true)) := by
          rw [z3, k4, k3]
          exact SpL.samem_ok kb.sz [] (by simp)
        have he : ∀ x, (Op.equalIn 10000 38 (.agg #[.int .u64 w.pb, .int .i64 w.pm, .int .u64 w.pf]) (.agg #[.int .u64 kb.pb, .int .i64 kb.pm, .int .u64 kb.pf])).run Tryz.prog x = .ok true x := fun x => by rw [k1, k2, z1]; exact eq_poolz x _ _ _
        repeat (first
          | (refine go_at rfl ?_; first
              | refine go_do (valid_mv (.inl rfl) rfl) rfl ?_
              | (refine nxt_s 1 rfl ?_; refine go_do (valid_load_p tb rfl rfl rfl rfl rfl (by first | kernel_rfl | rfl)) (by first | kernel_rfl | rfl) ?_)
              | (refine nxt_s 1 rfl ?_; refine go_do (valid_fld_p tb rfl rfl rfl (by kernel_rfl)) rfl ?_)
              | refine go_do (valid_mv (.inr rfl) rfl) rfl ?_
              | refine go_do (valid_pick rfl rfl rfl) rfl ?_
              | refine go_do (valid_cmp rfl rfl rfl rfl (by first | exact .eql1 (by omega) | exact .eql0 (by omega) | exact .neq1 (by omega) | exact .neq0 (by omega) | exact .lss1 (by omega) | exact .lss0 (by omega) | exact .leq1 (by omega) | exact .leq0 (by omega) | exact .gtr1 (by omega) | exact .gtr0 (by omega) | exact .geq1 (by omega) | exact .geq0 (by omega) | constructor)) rfl ?_
              | refine go_do (valid_len_s rfl rfl rfl rfl) rfl ?_
              | refine go_do (valid_call rfl rfl rfl (hsm) (by kernel_rfl)) rfl ?_
              | refine go_do (valid_eql (us := [.int .u64 w.pb, .int .i64 w.pm, .int .u64 w.pf]) (vs := [.int .u64 kb.pb, .int .i64 kb.pm, .int .u64 kb.pf]) he (by kernel_rfl) rfl rfl (by kernel_rfl) (by kernel_rfl)) rfl ?_)
          | (refine hK _ ?_; clear hK K)
          | (rename_i K1 hK1; refine hK1 _ ?_; clear hK hK1; clear K)
          | refine aw_text rfl ?_
          | exact aw_ret (show resA _ _ _ = some _ by kernel_rfl)
          | refine aw_cond0 rfl rfl ?_
          | refine aw_exit ?_
          | refine aw_seq_k (fun K hK => ?_))
end Go.Proofs.YtkffmaeiplgjeaaGreatDoor.RfM
