/- Texts of this claim, one behind the other: IterC, SpE, SpF. -/
import Derived.Test.YtkffmaeiplgjeaaDoorM12
import Derived.RangeFuncNested
import Derived.RangeFuncBound
import Derived.RangeFuncCalls
import Derived.RangeFuncLeaves
import Derived.RangeFuncFrom
import Derived.Shelf.Abstract
import Derived.Test.YtkffmaeiplgjeaaDoorM13
import Derived.Test.YtkffmaeiplgjeaaDoorM6
/- table.entries, and table.Frames, of a table that holds nothing. -/
namespace Go.Proofs.YtkffmaeiplgjeaaDoor.IterC
open Go.RowKit Go.Shelf Go.Proofs.YtkffmaeiplgjeaaDoor.Bv Go.Proofs.YtkffmaeiplgjeaaDoor.Base Go.Proofs.YtkffmaeiplgjeaaDoor.MemL Go.Proofs.YtkffmaeiplgjeaaDoor.MemC Go.Proofs.YtkffmaeiplgjeaaDoor.PutC Go.Proofs.YtkffmaeiplgjeaaDoor.TableC
open Go.Proofs.YtkffmaeiplgjeaaDoor.BitsC
set_option linter.unusedVariables false
set_option linter.unusedSimpArgs false
set_option maxRecDepth 20000
set_option maxHeartbeats 2000000 in
theorem entries_calls (sz f : Int) (v : Value) (W : World) : Calls Tryd.prog 55 #[.agg #[.int .u64 sz, v], .int .u64 f] W fun e w' => ∃ b1 b2, e = .returned (.func (.func 75) #[] #[.pointer (some ⟨b1, 0, none⟩), .pointer (some ⟨b2, 0, none⟩)]) ∧ Bx w' b1 #[.int .u64 sz, v] ∧ Bx w' b2 #[.int .u64 f] ∧ Below W.heap.size W w' := by
  go_enter Tryd.func55, Tryd.ntmps55
  go_wp2
  go_ret
  refine ⟨W.heap.size, W.heap.size + 1, rfl, Bx.alloc Bx.new, ?_, bel_alloc (bel_alloc (Below.refl _ _) _) _⟩
  have := Bx.new (w := W.alloc (.cells #[.int .u64 sz, v] 30)) (c := #[.int .u64 f]) (T := 27)
  rwa [World.size_alloc] at this
set_option maxHeartbeats 4000000 in
theorem none_calls (l : Nat) (b1 b2 : Nat) (sz f : Int) (v : Value) (xs : List (Int × Int)) (W : World) (h1 : Bx W b1 #[.int .u64 sz, v]) (h2 : Bx W b2 #[.int .u64 f]) (hf : 0 ≤ f ∧ f < 1099511627776) (hs : Srt xs) (hv : Sl W v xs.length 2 (fl xs)) (hz : ∀ i : Int, 0 ≤ i → i < 512 → wordM sz xs (f * 4096 + i * 8) = 0) :
    Calls Tryd.prog 75 #[.func (.yield l) #[] #[], .pointer (some ⟨b1, 0, none⟩), .pointer (some ⟨b2, 0, none⟩)] W fun e w' => e = .returned (.tuple #[]) ∧ Below W.heap.size W w' := by
  have HZ := Lib.hid hz
  clear hz
  go_enter Tryd.func75, Tryd.ntmps75
  have hlt1 := h1.lt
  have hlt2 := h2.lt
  go_wp2_with fail
  go_loopw [6] (fun i wr => ∃ k : Nat, k ≤ 512 ∧ i = .int .i64 k ∧ Below W.heap.size W wr) (fun i _ => 512 - (intOf i).toNat)
  case atStart => exact ⟨0, by omega, rfl, Below.refl _ _⟩
  case round =>
    obtain ⟨k, hk, rfl, hB⟩ := hrel
    have X1 := h1.of_below hB hlt1
    have X2 := h2.of_below hB hlt2
    have V := Sl.below hv hB
    have y0 := X1.cell 0
    have y1 := X1.cell 1
    have p0 := X2.cell 0
    simp at y0 y1 p0
    have l1 := X1.lt
    have l2 := X2.lt
    by_cases hlt : k < 512
    · have HZ0 := Lib.hid (HZ.out k (by omega) (by omega))
      have hU : U (f * 4096 + (k : Int) * 8) := ⟨by omega, by omega⟩
      go_wp2_with fail
      refine region_below (by kernel_rfl) (by kernel_rfl) ?_
      repeat (with_reducible refine wpQuiet_step (fun K hK => ?_)
              go_simp
              first
                | (refine hK _ ?_; clear hK K)
                | (refine ⟨_, fun _ _ => rfl, hK _ ?_⟩; clear hK K)
                | (apply Exists.intro
                   refine ⟨fun w' hw' => ?_, hK _ ?_⟩
                   · first
                     | (go_at_call 52; (with_reducible refine (place_calls _ _ _ hf ⟨by omega, by omega⟩).mono ?_); rintro e w2 ⟨rfl, hq⟩; exact ⟨rfl, hw'.trans (hq.below.mono hw'.size)⟩)
                     | (go_at_call 72; (with_reducible refine (word_calls _ _ xs _ _ hU hs (V.below hw')).mono ?_); rintro e w2 ⟨rfl, hb⟩; exact ⟨rfl, hw'.trans (hb.mono hw'.size)⟩)
                     | (obtain ⟨hcc, _⟩ := bcell hw'; go_simp; done)
                     | (obtain ⟨hcc, _⟩ := bcell hw'; go_simp; rfl)
                   clear hK K))
      refine wpQuiet_nil ?_
      intro w2 hb2
      have B2 := bel_trans hB hb2
      go_wp2_with fail
      go_round
      case rel => exact ⟨k + 1, by omega, by go_num, B2⟩
      case measure => simp [intOf]; omega
    · obtain rfl : k = 512 := by omega
      go_wp2
      go_end0
      exact ⟨rfl, hB⟩
/-- the iterator, where nothing comes -/
theorem none_stops (b1 b2 : Nat) (sz f : Int) (v : Value) (xs : List (Int × Int)) (W : World) (h1 : Bx W b1 #[.int .u64 sz, v]) (h2 : Bx W b2 #[.int .u64 f]) (hf : 0 ≤ f ∧ f < 1099511627776) (hs : Srt xs) (hv : Sl W v xs.length 2 (fl xs)) (hz : ∀ i : Int, 0 ≤ i → i < 512 → wordM sz xs (f * 4096 + i * 8) = 0) :
    SeqStopsK (α := Empty) Fence.wide 2 Tryd.prog 75 #[.pointer (some ⟨b1, 0, none⟩), .pointer (some ⟨b2, 0, none⟩)] (fun x => x.elim) (Below W.heap.size) (fun _ => True) (fun _ => False) 0 W := by
  intro l J Jx W1 hW hJ hJx hY h0
  refine callsIn_wide.2 ((none_calls l b1 b2 sz f v xs W1 (h1.below hW) (h2.below hW) hf hs (hv.below hW) hz).mono ?_)
  rintro e w' ⟨rfl, hb⟩
  exact ⟨⟨_, rfl⟩, .inl ⟨[], trivial, hJ [] W1 w' none h0 ⟨hb.os, hb.tape, hb.output, hb.size, fun k hk _ => hb.block k hk⟩ (fun r e => by cases e)⟩⟩
set_option maxHeartbeats 4000000 in
/-- the frames of a tree whose table holds nothing -/
theorem frames0_calls (sz top lev : Int) (v : Value) (xs : List (Int × Int)) (W : World) (hf : 0 ≤ top ∧ top < 1099511627776) (hs : Srt xs) (hv : Sl W v xs.length 2 (fl xs)) (hz : ∀ i : Int, 0 ≤ i → i < 512 → wordM sz xs (top * 4096 + i * 8) = 0) :
    Calls Tryd.prog 32 #[.agg #[.int .u64 sz, v], .int .u64 top, .int .i64 lev] W fun e w' => ∃ v', e = .returned v' ∧ w'.ownsRow W.heap.size 27 1 v' 1 [.int .u64 top] ∧ Below W.heap.size W w' := by
  refine (callsIn_wide (n := 3)).1 (callsIn_of_wp_marks Tryd.func32 rfl trivial ?_ rfl)
  simp only [Tryd.ntmps32, List.size_toArray, List.length_cons, List.length_nil, Nat.reduceAdd, Nat.reduceSub, Array.replicate_succ, Array.replicate_zero, List.push_toArray, List.append_toArray, List.nil_append, List.cons_append]
  refine wpIn_wide.2 ?_
  go_wp2_with fail
  have e1 : (W.alloc (.cells #[.int .u64 sz, v] 30)).heap.size = W.heap.size + 1 := World.size_alloc ..
  have X2 : Bx ((((W.alloc (.cells #[.int .u64 sz, v] 30)).alloc (.cells #[.int .i64 lev] 3)).alloc (.cells #[.int .u64 top] 27)).alloc (.cells #[.slice (some ⟨W.heap.size + 1 + 1, 0, none⟩) 1 1] 93)) (W.heap.size + 1 + 1) #[.int .u64 top] := by
    have := Bx.alloc (o := .cells #[.slice (some ⟨W.heap.size + 1 + 1, 0, none⟩) 1 1] 93) (Bx.new (w := (W.alloc (.cells #[.int .u64 sz, v] 30)).alloc (.cells #[.int .i64 lev] 3)) (c := #[.int .u64 top]) (T := 27))
    simp only [World.size_alloc] at this; exact this
  have H2 : ((((W.alloc (.cells #[.int .u64 sz, v] 30)).alloc (.cells #[.int .i64 lev] 3)).alloc (.cells #[.int .u64 top] 27)).alloc (.cells #[.slice (some ⟨W.heap.size + 1 + 1, 0, none⟩) 1 1] 93)).heap[W.heap.size + 1 + 1]? = some (.cells #[.int .u64 top] 27 (0, 0)) := by
    have := heap_alloc_new ((W.alloc (.cells #[.int .u64 sz, v] 30)).alloc (.cells #[.int .i64 lev] 3)) (.cells #[.int .u64 top] 27)
    simp only [World.size_alloc] at this
    rw [Below.heap_alloc _ _ _ (by simp)]; exact this
  have X3 : Bx ((((W.alloc (.cells #[.int .u64 sz, v] 30)).alloc (.cells #[.int .i64 lev] 3)).alloc (.cells #[.int .u64 top] 27)).alloc (.cells #[.slice (some ⟨W.heap.size + 1 + 1, 0, none⟩) 1 1] 93)) (W.heap.size + 1 + 1 + 1) #[.slice (some ⟨W.heap.size + 1 + 1, 0, none⟩) 1 1] := by
    have := Bx.new (w := ((W.alloc (.cells #[.int .u64 sz, v] 30)).alloc (.cells #[.int .i64 lev] 3)).alloc (.cells #[.int .u64 top] 27)) (c := #[.slice (some ⟨W.heap.size + 1 + 1, 0, none⟩) 1 1]) (T := 93)
    simp only [World.size_alloc] at this; exact this
  have B0 : Below W.heap.size W ((((W.alloc (.cells #[.int .u64 sz, v] 30)).alloc (.cells #[.int .i64 lev] 3)).alloc (.cells #[.int .u64 top] 27)).alloc (.cells #[.slice (some ⟨W.heap.size + 1 + 1, 0, none⟩) 1 1] 93)) := bel_alloc (bel_alloc (bel_alloc (bel_alloc (Below.refl _ _) _) _) _) _
  refine (entries_calls sz top v _).mono ?_
  rintro e w1 ⟨b1, b2, rfl, x1, x2, hb⟩
  have V1 := Sl.below (Sl.below hv B0) hb
  have Y2 := X2.below hb
  have Y3 := X3.below hb
  have B1 := bel_trans B0 hb
  have H3 := (hb.block (W.heap.size + 1 + 1) X2.lt).trans H2
  clear X2 X3 H2 B0 hb e1
  have HZ := Lib.hid hz
  clear hz
  have l2 := Y2.lt
  have l3 := Y3.lt
  go_wp2_with fail
  refine (wpIn_wide (n := 3)).1 (wpIn_rangeFunc_ownF (w0 := w1) rfl (by omega) (gf := 75) (lb := #[.pointer (some ⟨b1, 0, none⟩), .pointer (some ⟨b2, 0, none⟩)]) rfl trivial (enters_of Tryd.func75 (by kernel_rfl) rfl)
    (none_stops b1 b2 sz top v xs w1 x1 x2 hf hs V1 HZ.out) belowK_t (belowK_b (Nat.le_refl _)) (Below.refl _ _) (fun x => x.elim)
    (fun _ W2 => Below w1.heap.size w1 W2) (fun _ _ _ => False) (ownFrom_below (Nat.le_refl _) (Nat.le_refl _)) (fun _ _ _ _ _ hs _ _ => hs) (Below.refl _ _) (fun x => x.elim) (fun _ x => x.elim) (fun _ _ x => x.elim) ?_ (fun _ _ _ _ _ h => h.elim))
  intro D ys W2 hD _ hI hK
  have Z3 := (Y3.below hI).cell 0
  simp at Z3
  have H4 := (hI.block (W.heap.size + 1 + 1) l2).trans H3
  have B2 := bel_trans B1 hI
  go_wp2
  refine ⟨by simp, .inl ⟨_, _, rfl, run_takeDeferred hK, ?_⟩⟩
  have hs1 := B1.size
  refine ⟨_, results_tmp rfl _ _ _, _, rfl, ⟨rfl, .inr ⟨W.heap.size + 1 + 1, 1, #[.int .u64 top], rfl, by omega, ?_, by omega, by unfold maxLen; omega, rfl, rfl⟩⟩, ?_⟩
  · exact ((belowK_b (w := w1) (Nat.le_refl _) W2 D _ (.deferred none) hD hK rfl rfl).block _ l2).trans H4
  · exact B2.trans (belowK_b (w := w1) hs1 W2 D _ _ hD hK rfl rfl)
open Go.Proofs.YtkffmaeiplgjeaaDoor.Ax Go.Proofs.YtkffmaeiplgjeaaDoor.OkS in
theorem frames0_ok (sz top lev : Int) (xs : List (Int × Int)) (hf : 0 ≤ top ∧ top < 1099511627776) (hs : Srt xs) (hz : ∀ i : Int, 0 ≤ i → i < 512 → wordM sz xs (top * 4096 + i * 8) = 0) : Ok 32 [memA sz xs, iu top, ii lev] (.m (.c (.s 1 1 [.int .u64 top]))) :=
  callOk_calls rfl fun A W vs hG hR => by
    obtain ⟨v1, v2, v3, rfl, h1, h2, h3⟩ := args3 hR
    obtain ⟨u, rfl, hu'⟩ := arg_mem h1
    obtain rfl : v2 = .int .u64 top := h2
    obtain rfl : v3 = .int .i64 lev := h3
    refine (frames0_calls sz top lev u xs W hf hs hu'.1 hz).mono ?_
    rintro e w' ⟨v', rfl, h5, hb'⟩
    exact ⟨_, rfl, hb', own_s h5⟩
end Go.Proofs.YtkffmaeiplgjeaaDoor.IterC
/- The abstract walk: space.Fence, back, Destroy, Create, New, over a buffer of zeros. -/
namespace Go.Proofs.YtkffmaeiplgjeaaDoor.SpE
open Go.RowKit Go.Proofs.YtkffmaeiplgjeaaDoor.Bv Go.Proofs.YtkffmaeiplgjeaaDoor.VaSpec Go.Proofs.YtkffmaeiplgjeaaDoor.Base Go.Proofs.YtkffmaeiplgjeaaDoor.MemL Go.Proofs.YtkffmaeiplgjeaaDoor.RegR Go.Proofs.YtkffmaeiplgjeaaDoor.Ax Go.Proofs.YtkffmaeiplgjeaaDoor.MemC Go.Proofs.YtkffmaeiplgjeaaDoor.PutC Go.Proofs.YtkffmaeiplgjeaaDoor.MemC3 Go.Proofs.YtkffmaeiplgjeaaDoor.TzC Go.Proofs.YtkffmaeiplgjeaaDoor.OkS Go.Proofs.YtkffmaeiplgjeaaDoor.SpA Go.Proofs.YtkffmaeiplgjeaaDoor.SpB Go.Proofs.YtkffmaeiplgjeaaDoor.SpC Go.Proofs.YtkffmaeiplgjeaaDoor.SpD Go.Proofs.YtkffmaeiplgjeaaDoor.IterC
open Go.Proofs.YtkffmaeiplgjeaaDoor.BitsC Go.Proofs.YtkffmaeiplgjeaaDoor.PteSpec
set_option linter.unusedVariables false
set_option linter.unusedSimpArgs false
set_option maxRecDepth 10000
set_option maxHeartbeats 2000000
/-- a kernel's cells, its lists told by themselves -/
def _root_.Go.Proofs.YtkffmaeiplgjeaaDoor.SpB.Kr.raw (k : Kr) (tn : Nat) (ts : List Value) (sn : Nat) (ss : List Value) (fn : Nat) (fs : List Value) : List Ce := [ci k.cd, ci k.cp, ci k.ca, ci k.cs, cu k.sz, .s k.m.length 2 (fl k.m), .s tn 45 ts, cu k.sm, cu k.sa, cu k.sp, ci k.priv, cb k.su, cb k.mx, ci k.vic, cu k.pb, ci k.pm, cu k.pf, ci k.am, cu k.af, cu k.ao, .s sn 3 ss, ci k.now, cu k.sh, .s fn 4 fs]
def zK : List Ce := [ci 0, ci 0, ci 0, ci 0, cu 0, .v (.slice none 0 0), .v (.slice none 0 0), cu 0, cu 0, cu 0, ci 0, cb false, cb false, ci 0, cu 0, ci 0, cu 0, ci 0, cu 0, cu 0, .v (.slice none 0 0), ci 0, cu 0, .v (.slice none 0 0)]
def fenceK (k : Kr) (l : List Fe) : Kr := { k with fs := k.fs ++ l }
theorem ce_z (k : Kr) (ht : k.ts = zsL k.tn) : k.ce = k.raw k.tn (zsL k.tn) k.ss.length (flS k.ss) k.fs.length (flF k.fs) := by rw [← ht]; rfl
theorem sfence_ok (k : Kr) (ht : k.ts = zsL k.tn) (hn : k.tn ≤ 16) (l : List Fe) (h : ∀ f ∈ l, U f.ad) (hl : l.length ≤ 1000000) (hk : k.fs.length ≤ 1000000) : Ok 11 [.ag k.ce, .c (.s l.length 4 (flF l))] (.m (.ag (fenceK k l).ce)) := by
  rw [ce_z k ht, show (fenceK k l).ce = k.raw k.tn (zsL k.tn) k.ss.length (flS k.ss) (k.fs.length + l.length) (flF k.fs ++ flF l) from by rw [← ht]; simp [fenceK, Kr.ce, Kr.raw, flF]]
  refine callOk_of 25 Tryd.func11 rfl rfl rfl rfl ?_ GG.to
  intro W A hG
  repeat (first
    | (refine go_at rfl ?_; first
        | refine go_do (valid_skip rfl) rfl ?_
        | refine go_do (valid_mv (.inl rfl) rfl) rfl ?_
        | (refine nxt_s 1 rfl ?_; refine go_do (valid_load_p tb rfl rfl rfl rfl rfl (by first | kernel_rfl | rfl)) (by first | kernel_rfl | rfl) ?_)
        | (refine nxt_s 1 rfl ?_; refine go_do (valid_fld_p tb rfl rfl rfl (by kernel_rfl)) rfl ?_)
        | refine go_do (valid_mv (.inr rfl) rfl) rfl ?_
        | refine go_do (valid_pick rfl rfl rfl) rfl ?_
        | refine go_do (valid_extract rfl rfl rfl rfl) rfl ?_
        | refine go_do (valid_field tb rfl rfl rfl rfl rfl rfl) rfl ?_
        | refine go_do (valid_cmp rfl rfl rfl rfl (by first | exact .eql1 (by omega) | exact .eql0 (by omega) | exact .neq1 (by omega) | exact .neq0 (by omega) | exact .lss1 (by omega) | exact .lss0 (by omega) | exact .leq1 (by omega) | exact .leq0 (by omega) | exact .gtr1 (by omega) | exact .gtr0 (by omega) | exact .geq1 (by omega) | exact .geq0 (by omega) | constructor)) rfl ?_
        | refine go_do (valid_ar rfl rfl rfl rfl (by constructor) (by first | exact wr_u64 (by omega) (by omega) | exact wr_i64 (by omega) (by omega) | rfl)) rfl ?_
        | refine go_do (valid_cv rfl rfl rfl rfl rfl (by first | exact wr_u64 (by omega) (by omega) | exact wr_i64 (by omega) (by omega) | rfl)) rfl ?_
        | refine go_do (valid_quo rfl rfl rfl rfl (by omega) (by omega) (by first | exact wr_u64 (by omega) (by omega) | exact wr_i64 (by omega) (by omega))) rfl ?_
        | refine go_do (valid_rem rfl rfl rfl rfl (by omega) (by omega)) rfl ?_
        | refine go_do (valid_box rfl rfl rfl rfl rfl rfl) rfl ?_
        | refine go_do (valid_alloc rfl rfl rfl rfl rfl) rfl ?_
        | (refine nxt_s 1 rfl ?_; refine go_do (valid_store_p rfl rfl rfl rfl rfl rfl (by first | kernel_rfl | rfl) rfl) (by first | kernel_rfl | rfl) ?_)
        | refine go_do (valid_len_s rfl rfl rfl rfl) rfl ?_
        | (refine nxt_s 3 rfl ?_; refine go_do (valid_load_q tb rfl rfl rfl rfl (by first | kernel_rfl | rfl)) rfl ?_)
        | (refine nxt_s 3 rfl ?_; refine go_do (valid_fld_q tb rfl rfl rfl rfl) rfl ?_)
        | refine go_do (valid_not rfl rfl rfl) rfl ?_
        | refine go_do (valid_build rfl rfl rfl rfl) rfl ?_
        | refine go_do (valid_nil rfl rfl rfl rfl) rfl ?_
        | (refine nxt_s 4 rfl ?_; refine go_do (valid_idx_s rfl rfl rfl rfl rfl rfl (by omega) (by omega) _ (by assumption)) rfl ?_)
        | (refine nxt_s 5 rfl ?_; refine go_do (valid_store_rp rfl rfl rfl rfl rfl rfl rfl rfl rfl (by first | omega | (simp; omega)) rfl) rfl ?_)
        | (refine nxt_s 5 rfl ?_; refine go_do (valid_load_rp tb rfl rfl rfl rfl rfl rfl) rfl ?_)
        | (refine nxt_s 2 rfl ?_; refine go_do (valid_idx_o rfl rfl rfl rfl rfl rfl rfl (by omega) (by omega)) rfl ?_)
        | (refine nxt_s 1 rfl ?_; refine go_do (valid_idx_p rfl rfl rfl rfl rfl rfl (by omega) (by omega)) rfl ?_)
        | refine go_do (valid_index tb rfl rfl rfl rfl rfl rfl (by omega) (by omega) rfl) rfl ?_
        | refine go_do (valid_len_o rfl rfl rfl rfl rfl) rfl ?_
        | refine go_do (valid_len_v rfl rfl rfl rfl) rfl ?_
        | (refine nxt_s 5 rfl ?_; refine go_do (valid_fld_rp tb rfl rfl rfl rfl) rfl ?_)
        | refine go_do (valid_bslice rfl rfl rfl rfl rfl rfl rfl rfl rfl rfl rfl) rfl ?_
        | refine go_do (valid_bslice0 rfl rfl rfl rfl rfl rfl rfl) rfl ?_
        | refine go_do (valid_eqb rfl rfl rfl rfl rfl) rfl ?_
        | refine go_do (valid_neb rfl rfl rfl rfl rfl) rfl ?_
        | refine go_do (valid_call rfl rfl rfl (all0_ok l h hl k.tn hn) rfl) rfl ?_
        | refine go_do (valid_slice3 rfl rfl rfl rfl rfl rfl rfl) rfl ?_
        | refine go_do (valid_app_f rfl rfl rfl rfl rfl rfl rfl rfl rfl (flF_one l) (by omega)) rfl ?_)
    | (refine hK _ ?_; clear hK K)
    | (rename_i K1 hK1; refine hK1 _ ?_; clear hK hK1; clear K)
    | (rename_i K1 hK1; refine hK1 _ ?_; clear hK1)
    | refine aw_text rfl ?_
    | refine aw_any (by kernel_rfl) (by kernel_rfl) rfl ?_
    | exact aw_ret (show resA _ _ _ = some _ by kernel_rfl)
    | refine aw_cond1 rfl rfl ?_
    | refine aw_cond0 rfl rfl ?_
    | refine aw_block ?_
    | refine aw_exit ?_
    | refine aw_skip ?_
    | refine aw_seq_k (fun K hK => ?_))
/-- a frame is given back -/
def backK (k : Kr) (f : Int) : Kr := { k with m := TableC.wipeM k.m f, pf := TableC2.giveF k.pb k.pm k.pf f }
theorem back1_ok (k : Kr) (f : Int) (hb : U k.pb) (hm : 0 ≤ k.pm ∧ k.pm ≤ 64) (hr : U k.pf) (hf : 0 ≤ f ∧ f < 1099511627776) (hs : Srt k.m) (hbig : (k.m.length + 1) * 32 ≤ 140737488355328) : Ok 31 [.ag k.ce, .c (.s 1 1 [.int .u64 f])] (.m (.ag (backK k f).ce)) := by
  refine callOk_of 26 Tryd.func31 rfl rfl rfl rfl ?_ GG.to
  intro W A hG
  repeat (first
    | (refine go_at rfl ?_; first
        | refine go_do (valid_skip rfl) rfl ?_
        | refine go_do (valid_mv (.inl rfl) rfl) rfl ?_
        | (refine nxt_s 1 rfl ?_; refine go_do (valid_load_p tb rfl rfl rfl rfl rfl (by first | kernel_rfl | rfl)) (by first | kernel_rfl | rfl) ?_)
        | (refine nxt_s 1 rfl ?_; refine go_do (valid_fld_p tb rfl rfl rfl (by kernel_rfl)) rfl ?_)
        | refine go_do (valid_mv (.inr rfl) rfl) rfl ?_
        | refine go_do (valid_pick rfl rfl rfl) rfl ?_
        | refine go_do (valid_extract rfl rfl rfl rfl) rfl ?_
        | refine go_do (valid_field tb rfl rfl rfl rfl rfl rfl) rfl ?_
        | refine go_do (valid_cmp rfl rfl rfl rfl (by first | exact .eql1 (by omega) | exact .eql0 (by omega) | exact .neq1 (by omega) | exact .neq0 (by omega) | exact .lss1 (by omega) | exact .lss0 (by omega) | exact .leq1 (by omega) | exact .leq0 (by omega) | exact .gtr1 (by omega) | exact .gtr0 (by omega) | exact .geq1 (by omega) | exact .geq0 (by omega) | constructor)) rfl ?_
        | refine go_do (valid_ar rfl rfl rfl rfl (by constructor) (by first | exact wr_u64 (by omega) (by omega) | exact wr_i64 (by omega) (by omega) | rfl)) rfl ?_
        | refine go_do (valid_cv rfl rfl rfl rfl rfl (by first | exact wr_u64 (by omega) (by omega) | exact wr_i64 (by omega) (by omega) | rfl)) rfl ?_
        | refine go_do (valid_quo rfl rfl rfl rfl (by omega) (by omega) (by first | exact wr_u64 (by omega) (by omega) | exact wr_i64 (by omega) (by omega))) rfl ?_
        | refine go_do (valid_rem rfl rfl rfl rfl (by omega) (by omega)) rfl ?_
        | refine go_do (valid_box rfl rfl rfl rfl rfl rfl) rfl ?_
        | refine go_do (valid_alloc rfl rfl rfl rfl rfl) rfl ?_
        | (refine nxt_s 1 rfl ?_; refine go_do (valid_store_p rfl rfl rfl rfl rfl rfl (by first | kernel_rfl | rfl) rfl) (by first | kernel_rfl | rfl) ?_)
        | refine go_do (valid_len_s rfl rfl rfl rfl) rfl ?_
        | (refine nxt_s 3 rfl ?_; refine go_do (valid_load_q tb rfl rfl rfl rfl (by first | kernel_rfl | rfl)) rfl ?_)
        | (refine nxt_s 3 rfl ?_; refine go_do (valid_fld_q tb rfl rfl rfl rfl) rfl ?_)
        | refine go_do (valid_not rfl rfl rfl) rfl ?_
        | refine go_do (valid_build rfl rfl rfl rfl) rfl ?_
        | refine go_do (valid_nil rfl rfl rfl rfl) rfl ?_
        | (refine nxt_s 4 rfl ?_; refine go_do (valid_idx_s rfl rfl rfl rfl rfl rfl (by omega) (by omega) _ (by assumption)) rfl ?_)
        | (refine nxt_s 5 rfl ?_; refine go_do (valid_store_rp rfl rfl rfl rfl rfl rfl rfl rfl rfl (by first | omega | (simp; omega)) rfl) rfl ?_)
        | (refine nxt_s 5 rfl ?_; refine go_do (valid_load_rp tb rfl rfl rfl rfl rfl rfl) rfl ?_)
        | (refine nxt_s 2 rfl ?_; refine go_do (valid_idx_o rfl rfl rfl rfl rfl rfl rfl (by omega) (by omega)) rfl ?_)
        | (refine nxt_s 1 rfl ?_; refine go_do (valid_idx_p rfl rfl rfl rfl rfl rfl (by omega) (by omega)) rfl ?_)
        | refine go_do (valid_index tb rfl rfl rfl rfl rfl rfl (by omega) (by omega) rfl) rfl ?_
        | refine go_do (valid_len_o rfl rfl rfl rfl rfl) rfl ?_
        | refine go_do (valid_len_v rfl rfl rfl rfl) rfl ?_
        | (refine nxt_s 5 rfl ?_; refine go_do (valid_fld_rp tb rfl rfl rfl rfl) rfl ?_)
        | refine go_do (valid_bslice rfl rfl rfl rfl rfl rfl rfl rfl rfl rfl rfl) rfl ?_
        | refine go_do (valid_bslice0 rfl rfl rfl rfl rfl rfl rfl) rfl ?_
        | refine go_do (valid_eqb rfl rfl rfl rfl rfl) rfl ?_
        | refine go_do (valid_neb rfl rfl rfl rfl rfl) rfl ?_)
    | (refine hK _ ?_; clear hK K)
    | (rename_i K1 hK1; refine hK1 _ ?_; clear hK hK1; clear K)
    | (rename_i K1 hK1; refine hK1 _ ?_; clear hK1)
    | refine aw_text rfl ?_
    | refine aw_any (by kernel_rfl) (by kernel_rfl) rfl ?_
    | exact aw_ret (show resA _ _ _ = some _ by kernel_rfl)
    | refine aw_cond1 rfl rfl ?_
    | refine aw_cond0 rfl rfl ?_
    | refine aw_block ?_
    | refine aw_exit ?_
    | refine aw_skip ?_
    | refine aw_seq_k (fun K hK => ?_))
  refine aw_loopH (α := Nat) (fun i => i ≤ 1) (fun i => St.of [(2, .m (.c (.p 2 0))), (4, .m (.c (.p 4 0))), (7, .m (.c (.s 1 1 [.int .u64 f]))), (8, .m (ii 1)), (9, .m (ii i))] [(2, .live (.box (cond (Nat.beq i 0) k.ce (backK k f).ce))), (4, .live (.box zK))]) (fun i => 1 - i) 0 (by omega) (sub_of _ _ ⟨rfl, rfl, rfl, rfl, rfl, trivial⟩ ⟨rfl, rfl, trivial⟩ rfl) ?_
  intro i hi
  rcases (by omega : i = 0 ∨ i = 1) with rfl | rfl
  · have hx : ((([.int .u64 f] : List Value).drop (((0 : Nat) : Int).toNat * 1)).take 1) = [.int .u64 f] := rfl
    repeat (first
      | (refine go_at rfl ?_; first
          | refine go_do (valid_skip rfl) rfl ?_
          | refine go_do (valid_mv (.inl rfl) rfl) rfl ?_
          | (refine nxt_s 1 rfl ?_; refine go_do (valid_load_p tb rfl rfl rfl rfl rfl (by first | kernel_rfl | rfl)) (by first | kernel_rfl | rfl) ?_)
          | (refine nxt_s 1 rfl ?_; refine go_do (valid_fld_p tb rfl rfl rfl (by kernel_rfl)) rfl ?_)
          | refine go_do (valid_mv (.inr rfl) rfl) rfl ?_
          | refine go_do (valid_pick rfl rfl rfl) rfl ?_
          | refine go_do (valid_extract rfl rfl rfl rfl) rfl ?_
          | refine go_do (valid_field tb rfl rfl rfl rfl rfl rfl) rfl ?_
          | refine go_do (valid_cmp rfl rfl rfl rfl (by first | exact .eql1 (by omega) | exact .eql0 (by omega) | exact .neq1 (by omega) | exact .neq0 (by omega) | exact .lss1 (by omega) | exact .lss0 (by omega) | exact .leq1 (by omega) | exact .leq0 (by omega) | exact .gtr1 (by omega) | exact .gtr0 (by omega) | exact .geq1 (by omega) | exact .geq0 (by omega) | constructor)) rfl ?_
          | refine go_do (valid_ar rfl rfl rfl rfl (by constructor) (by first | exact wr_u64 (by omega) (by omega) | exact wr_i64 (by omega) (by omega) | rfl)) rfl ?_
          | refine go_do (valid_cv rfl rfl rfl rfl rfl (by first | exact wr_u64 (by omega) (by omega) | exact wr_i64 (by omega) (by omega) | rfl)) rfl ?_
          | refine go_do (valid_quo rfl rfl rfl rfl (by omega) (by omega) (by first | exact wr_u64 (by omega) (by omega) | exact wr_i64 (by omega) (by omega))) rfl ?_
          | refine go_do (valid_rem rfl rfl rfl rfl (by omega) (by omega)) rfl ?_
          | refine go_do (valid_box rfl rfl rfl rfl rfl rfl) rfl ?_
          | refine go_do (valid_alloc rfl rfl rfl rfl rfl) rfl ?_
          | (refine nxt_s 1 rfl ?_; refine go_do (valid_store_p rfl rfl rfl rfl rfl rfl (by first | kernel_rfl | rfl) rfl) (by first | kernel_rfl | rfl) ?_)
          | refine go_do (valid_len_s rfl rfl rfl rfl) rfl ?_
          | (refine nxt_s 3 rfl ?_; refine go_do (valid_load_q tb rfl rfl rfl rfl (by first | kernel_rfl | rfl)) rfl ?_)
          | (refine nxt_s 3 rfl ?_; refine go_do (valid_fld_q tb rfl rfl rfl rfl) rfl ?_)
          | refine go_do (valid_not rfl rfl rfl) rfl ?_
          | refine go_do (valid_build rfl rfl rfl rfl) rfl ?_
          | refine go_do (valid_nil rfl rfl rfl rfl) rfl ?_
          | (refine nxt_s 4 rfl ?_; refine go_do (valid_idx_s rfl rfl rfl rfl rfl rfl (by omega) (by omega) _ (by assumption)) rfl ?_)
          | (refine nxt_s 5 rfl ?_; refine go_do (valid_store_rp rfl rfl rfl rfl rfl rfl rfl rfl rfl (by first | omega | (simp; omega)) rfl) rfl ?_)
          | (refine nxt_s 5 rfl ?_; refine go_do (valid_load_rp tb rfl rfl rfl rfl rfl rfl) rfl ?_)
          | (refine nxt_s 2 rfl ?_; refine go_do (valid_idx_o rfl rfl rfl rfl rfl rfl rfl (by omega) (by omega)) rfl ?_)
          | (refine nxt_s 1 rfl ?_; refine go_do (valid_idx_p rfl rfl rfl rfl rfl rfl (by omega) (by omega)) rfl ?_)
          | refine go_do (valid_index tb rfl rfl rfl rfl rfl rfl (by omega) (by omega) rfl) rfl ?_
          | refine go_do (valid_len_o rfl rfl rfl rfl rfl) rfl ?_
          | refine go_do (valid_len_v rfl rfl rfl rfl) rfl ?_
          | (refine nxt_s 5 rfl ?_; refine go_do (valid_fld_rp tb rfl rfl rfl rfl) rfl ?_)
          | refine go_do (valid_bslice rfl rfl rfl rfl rfl rfl rfl rfl rfl rfl rfl) rfl ?_
          | refine go_do (valid_bslice0 rfl rfl rfl rfl rfl rfl rfl) rfl ?_
          | refine go_do (valid_eqb rfl rfl rfl rfl rfl) rfl ?_
          | refine go_do (valid_neb rfl rfl rfl rfl rfl) rfl ?_
          | refine go_do (valid_call rfl rfl rfl (back_ok k.sz k.m k.pb k.pm k.pf f hb hm hr hf hs hbig) rfl) rfl ?_)
      | (refine hK _ ?_; clear hK K)
      | (rename_i K1 hK1; refine hK1 _ ?_; clear hK hK1; clear K)
      | (rename_i K1 hK1; refine hK1 _ ?_; clear hK1)
      | refine aw_text rfl ?_
      | refine aw_any (by kernel_rfl) (by kernel_rfl) rfl ?_
      | exact aw_ret (show resA _ _ _ = some _ by kernel_rfl)
      | refine aw_cond1 rfl rfl ?_
      | refine aw_cond0 rfl rfl ?_
      | refine aw_block ?_
      | refine aw_exit ?_
      | refine aw_skip ?_
      | refine aw_seq_k (fun K hK => ?_))
    exact ⟨1, by omega, by omega, sub_of _ _ ⟨rfl, rfl, rfl, rfl, rfl, trivial⟩ ⟨by kernel_rfl, rfl, trivial⟩ rfl⟩
  · skip
    repeat (first
      | (refine go_at rfl ?_; first
          | refine go_do (valid_skip rfl) rfl ?_
          | refine go_do (valid_mv (.inl rfl) rfl) rfl ?_
          | (refine nxt_s 1 rfl ?_; refine go_do (valid_load_p tb rfl rfl rfl rfl rfl (by first | kernel_rfl | rfl)) (by first | kernel_rfl | rfl) ?_)
          | (refine nxt_s 1 rfl ?_; refine go_do (valid_fld_p tb rfl rfl rfl (by kernel_rfl)) rfl ?_)
          | refine go_do (valid_mv (.inr rfl) rfl) rfl ?_
          | refine go_do (valid_pick rfl rfl rfl) rfl ?_
          | refine go_do (valid_extract rfl rfl rfl rfl) rfl ?_
          | refine go_do (valid_field tb rfl rfl rfl rfl rfl rfl) rfl ?_
          | refine go_do (valid_cmp rfl rfl rfl rfl (by first | exact .eql1 (by omega) | exact .eql0 (by omega) | exact .neq1 (by omega) | exact .neq0 (by omega) | exact .lss1 (by omega) | exact .lss0 (by omega) | exact .leq1 (by omega) | exact .leq0 (by omega) | exact .gtr1 (by omega) | exact .gtr0 (by omega) | exact .geq1 (by omega) | exact .geq0 (by omega) | constructor)) rfl ?_
          | refine go_do (valid_ar rfl rfl rfl rfl (by constructor) (by first | exact wr_u64 (by omega) (by omega) | exact wr_i64 (by omega) (by omega) | rfl)) rfl ?_
          | refine go_do (valid_cv rfl rfl rfl rfl rfl (by first | exact wr_u64 (by omega) (by omega) | exact wr_i64 (by omega) (by omega) | rfl)) rfl ?_
          | refine go_do (valid_quo rfl rfl rfl rfl (by omega) (by omega) (by first | exact wr_u64 (by omega) (by omega) | exact wr_i64 (by omega) (by omega))) rfl ?_
          | refine go_do (valid_rem rfl rfl rfl rfl (by omega) (by omega)) rfl ?_
          | refine go_do (valid_box rfl rfl rfl rfl rfl rfl) rfl ?_
          | refine go_do (valid_alloc rfl rfl rfl rfl rfl) rfl ?_
          | (refine nxt_s 1 rfl ?_; refine go_do (valid_store_p rfl rfl rfl rfl rfl rfl (by first | kernel_rfl | rfl) rfl) (by first | kernel_rfl | rfl) ?_)
          | refine go_do (valid_len_s rfl rfl rfl rfl) rfl ?_
          | (refine nxt_s 3 rfl ?_; refine go_do (valid_load_q tb rfl rfl rfl rfl (by first | kernel_rfl | rfl)) rfl ?_)
          | (refine nxt_s 3 rfl ?_; refine go_do (valid_fld_q tb rfl rfl rfl rfl) rfl ?_)
          | refine go_do (valid_not rfl rfl rfl) rfl ?_
          | refine go_do (valid_build rfl rfl rfl rfl) rfl ?_
          | refine go_do (valid_nil rfl rfl rfl rfl) rfl ?_
          | (refine nxt_s 4 rfl ?_; refine go_do (valid_idx_s rfl rfl rfl rfl rfl rfl (by omega) (by omega) _ (by assumption)) rfl ?_)
          | (refine nxt_s 5 rfl ?_; refine go_do (valid_store_rp rfl rfl rfl rfl rfl rfl rfl rfl rfl (by first | omega | (simp; omega)) rfl) rfl ?_)
          | (refine nxt_s 5 rfl ?_; refine go_do (valid_load_rp tb rfl rfl rfl rfl rfl rfl) rfl ?_)
          | (refine nxt_s 2 rfl ?_; refine go_do (valid_idx_o rfl rfl rfl rfl rfl rfl rfl (by omega) (by omega)) rfl ?_)
          | (refine nxt_s 1 rfl ?_; refine go_do (valid_idx_p rfl rfl rfl rfl rfl rfl (by omega) (by omega)) rfl ?_)
          | refine go_do (valid_index tb rfl rfl rfl rfl rfl rfl (by omega) (by omega) rfl) rfl ?_
          | refine go_do (valid_len_o rfl rfl rfl rfl rfl) rfl ?_
          | refine go_do (valid_len_v rfl rfl rfl rfl) rfl ?_
          | (refine nxt_s 5 rfl ?_; refine go_do (valid_fld_rp tb rfl rfl rfl rfl) rfl ?_)
          | refine go_do (valid_bslice rfl rfl rfl rfl rfl rfl rfl rfl rfl rfl rfl) rfl ?_
          | refine go_do (valid_bslice0 rfl rfl rfl rfl rfl rfl rfl) rfl ?_
          | refine go_do (valid_eqb rfl rfl rfl rfl rfl) rfl ?_
          | refine go_do (valid_neb rfl rfl rfl rfl rfl) rfl ?_)
      | (refine hK _ ?_; clear hK K)
      | (rename_i K1 hK1; refine hK1 _ ?_; clear hK hK1; clear K)
      | (rename_i K1 hK1; refine hK1 _ ?_; clear hK1)
      | refine aw_text rfl ?_
      | refine aw_any (by kernel_rfl) (by kernel_rfl) rfl ?_
      | exact aw_ret (show resA _ _ _ = some _ by kernel_rfl)
      | refine aw_cond1 rfl rfl ?_
      | refine aw_cond0 rfl rfl ?_
      | refine aw_block ?_
      | refine aw_exit ?_
      | refine aw_skip ?_
      | refine aw_seq_k (fun K hK => ?_))
end Go.Proofs.YtkffmaeiplgjeaaDoor.SpE
/- The abstract walk: Destroy, Create, over a buffer of zeros. -/
namespace Go.Proofs.YtkffmaeiplgjeaaDoor.SpF
open Go.RowKit Go.Proofs.YtkffmaeiplgjeaaDoor.Bv Go.Proofs.YtkffmaeiplgjeaaDoor.VaSpec Go.Proofs.YtkffmaeiplgjeaaDoor.Base Go.Proofs.YtkffmaeiplgjeaaDoor.MemL Go.Proofs.YtkffmaeiplgjeaaDoor.RegR Go.Proofs.YtkffmaeiplgjeaaDoor.Ax Go.Proofs.YtkffmaeiplgjeaaDoor.MemC Go.Proofs.YtkffmaeiplgjeaaDoor.PutC Go.Proofs.YtkffmaeiplgjeaaDoor.MemC3 Go.Proofs.YtkffmaeiplgjeaaDoor.TzC Go.Proofs.YtkffmaeiplgjeaaDoor.OkS Go.Proofs.YtkffmaeiplgjeaaDoor.SpA Go.Proofs.YtkffmaeiplgjeaaDoor.SpB Go.Proofs.YtkffmaeiplgjeaaDoor.SpC Go.Proofs.YtkffmaeiplgjeaaDoor.SpD Go.Proofs.YtkffmaeiplgjeaaDoor.IterC Go.Proofs.YtkffmaeiplgjeaaDoor.SpE
open Go.Proofs.YtkffmaeiplgjeaaDoor.BitsC Go.Proofs.YtkffmaeiplgjeaaDoor.PteSpec
set_option linter.unusedVariables false
set_option linter.unusedSimpArgs false
set_option maxRecDepth 10000
set_option maxHeartbeats 800000
attribute [local irreducible] Go.Proofs.YtkffmaeiplgjeaaDoor.Ax.CallOk
def giveA (m f n : Int) : Int := if AsidC2.takenA m f n then setI f (n - 1) 1 1 else f
def giveE (m f n : Int) : Int := if AsidC2.takenA m f n then 0 else 1
theorem giveA_ok (m f o n : Int) (hm : 0 ≤ m ∧ m ≤ 64) (hf : U f) (ho : U o) (hn : U n) : Ok 33 [.ag [ci m, cu f, cu o], iu n] (.tu [.ag [ci m, cu (giveA m f n), cu o], ii (giveE m f n)]) := by
  have h := asidgive_ok m f o n hm hf ho hn
  unfold AsidC2.giveV at h
  unfold giveA giveE
  by_cases ht : AsidC2.takenA m f n = true
  · rw [if_pos ht] at h; rw [if_pos ht, if_pos ht]; exact h
  · rw [if_neg ht] at h; rw [if_neg ht, if_neg ht]; exact h
theorem kA_ex : ∃ a, a = ofv 133955584 := ⟨_, rfl⟩
/-- the address of what all share -/
noncomputable def kA : Int := Classical.choose kA_ex
theorem kA_eq : kA = ofv 133955584 := Classical.choose_spec kA_ex
theorem kA_U : U kA := by rw [kA_eq]; decide
theorem kaddr_ok' : Ok 30 [] (.m (iu kA)) := by rw [kA_eq]; exact kaddr_ok
def zP : Pte := ⟨false, false, false, false, false, false, false, false, 0, 0, 0⟩
theorem zP_U : zP.U := by unfold Pte.U zP; simp
noncomputable def offM (k : Kr) (s : Sp) : List (Int × Int) := withM k.sz k.m s.root (idx kA 2) zP
def zSp : Sp := ⟨0, 0, false⟩
theorem flS_one (l : List Sp) : ∀ u ∈ flS l, u.oneCell' = true := by
  intro v hv
  obtain ⟨f, _, hv⟩ := List.mem_flatMap.1 hv
  exact List.all_eq_true.1 (show f.vs.all (·.oneCell') = true from rfl) v hv
theorem putV_app : ∀ (vs : List Value) (o : Nat) (a b : List Value), putV (a ++ b) (a.length + o) vs = a ++ putV b o vs
  | [], _, _, _ => rfl
  | v :: r, o, a, b => by
    simp only [putV]
    rw [List.set_append_right _ _ (by omega), show a.length + o - a.length = o by omega, Nat.add_assoc, putV_app r (o + 1) a]
theorem flS_set : ∀ (l : List Sp) (i : Nat) (s : Sp), i < l.length → flS (l.set i s) = putV (flS l) (i * 3) s.vs
  | [], i, s, h => by simp at h
  | x :: l, 0, s, h => by simp [flS, Sp.vs, putV]
  | x :: l, i + 1, s, h => by
    have ih := flS_set l i s (by simpa using h)
    have e : (i + 1) * 3 = x.vs.length + i * 3 := by simp [Sp.vs]; omega
    simp only [List.set_cons_succ]
    show x.vs ++ flS (l.set i s) = putV (x.vs ++ flS l) _ _
    rw [e, putV_app, ih]
noncomputable def destroyK (k : Kr) (id : Int) (s : Sp) : Kr := { backK { k with m := offM k s } s.root with af := giveA k.am k.af s.asid, ss := k.ss.set id.toNat zSp }
noncomputable def destroyM (k : Kr) (s : Sp) : Kr := { backK { k with m := offM k s } s.root with af := giveA k.am k.af s.asid }
theorem destroy_no (k : Kr) (id : Int) (h : livesB k id = false) : Ok 15 [.ag k.ce, ii id] (.tu [.ag k.ce, ii 4]) := by
  refine callOk_of 61 Tryd.func15 rfl rfl rfl rfl ?_ GG.to
  intro W A hG
  repeat (first
    | (refine go_at rfl ?_; first
        | refine go_do (valid_skip rfl) rfl ?_
        | refine go_do (valid_mv (.inl rfl) rfl) rfl ?_
        | (refine nxt_s 1 rfl ?_; refine go_do (valid_load_p tb rfl rfl rfl rfl rfl (by first | kernel_rfl | rfl)) (by first | kernel_rfl | rfl) ?_)
        | (refine nxt_s 1 rfl ?_; refine go_do (valid_fld_p tb rfl rfl rfl (by kernel_rfl)) rfl ?_)
        | refine go_do (valid_mv (.inr rfl) rfl) rfl ?_
        | refine go_do (valid_pick rfl rfl rfl) rfl ?_
        | refine go_do (valid_extract rfl rfl rfl rfl) rfl ?_
        | refine go_do (valid_field tb rfl rfl rfl rfl rfl rfl) rfl ?_
        | refine go_do (valid_cmp rfl rfl rfl rfl (by first | exact .eql1 (by omega) | exact .eql0 (by omega) | exact .neq1 (by omega) | exact .neq0 (by omega) | exact .lss1 (by omega) | exact .lss0 (by omega) | exact .leq1 (by omega) | exact .leq0 (by omega) | exact .gtr1 (by omega) | exact .gtr0 (by omega) | exact .geq1 (by omega) | exact .geq0 (by omega) | constructor)) rfl ?_
        | refine go_do (valid_ar rfl rfl rfl rfl (by constructor) (by first | exact wr_u64 (by omega) (by omega) | exact wr_i64 (by omega) (by omega) | rfl)) rfl ?_
        | refine go_do (valid_cv rfl rfl rfl rfl rfl (by first | exact wr_u64 (by omega) (by omega) | exact wr_i64 (by omega) (by omega) | rfl)) rfl ?_
        | refine go_do (valid_quo rfl rfl rfl rfl (by omega) (by omega) (by first | exact wr_u64 (by omega) (by omega) | exact wr_i64 (by omega) (by omega))) rfl ?_
        | refine go_do (valid_rem rfl rfl rfl rfl (by omega) (by omega)) rfl ?_
        | refine go_do (valid_box rfl rfl rfl rfl rfl rfl) rfl ?_
        | refine go_do (valid_alloc rfl rfl rfl rfl rfl) rfl ?_
        | (refine nxt_s 1 rfl ?_; refine go_do (valid_store_p rfl rfl rfl rfl rfl rfl (by first | kernel_rfl | rfl) rfl) (by first | kernel_rfl | rfl) ?_)
        | refine go_do (valid_len_s rfl rfl rfl rfl) rfl ?_
        | (refine nxt_s 3 rfl ?_; refine go_do (valid_load_q tb rfl rfl rfl rfl (by first | kernel_rfl | rfl)) rfl ?_)
        | (refine nxt_s 3 rfl ?_; refine go_do (valid_fld_q tb rfl rfl rfl rfl) rfl ?_)
        | refine go_do (valid_not rfl rfl rfl) rfl ?_
        | refine go_do (valid_build rfl rfl rfl rfl) rfl ?_
        | refine go_do (valid_nil rfl rfl rfl rfl) rfl ?_
        | (refine nxt_s 4 rfl ?_; refine go_do (valid_idx_s rfl rfl rfl rfl rfl rfl (by omega) (by omega) _ (by assumption)) rfl ?_)
        | (refine nxt_s 5 rfl ?_; refine go_do (valid_store_rp rfl rfl rfl rfl rfl rfl rfl rfl rfl (by first | omega | (simp; omega)) rfl) rfl ?_)
        | (refine nxt_s 5 rfl ?_; refine go_do (valid_load_rp tb rfl rfl rfl rfl rfl rfl) rfl ?_)
        | (refine nxt_s 2 rfl ?_; refine go_do (valid_idx_o rfl rfl rfl rfl rfl rfl rfl (by omega) (by omega)) rfl ?_)
        | (refine nxt_s 1 rfl ?_; refine go_do (valid_idx_p rfl rfl rfl rfl rfl rfl (by omega) (by omega)) rfl ?_)
        | refine go_do (valid_index tb rfl rfl rfl rfl rfl rfl (by omega) (by omega) rfl) rfl ?_
        | refine go_do (valid_len_o rfl rfl rfl rfl rfl) rfl ?_
        | refine go_do (valid_len_v rfl rfl rfl rfl) rfl ?_
        | (refine nxt_s 5 rfl ?_; refine go_do (valid_fld_rp tb rfl rfl rfl rfl) rfl ?_)
        | refine go_do (valid_bslice rfl rfl rfl rfl rfl rfl rfl rfl rfl rfl rfl) rfl ?_
        | refine go_do (valid_bslice0 rfl rfl rfl rfl rfl rfl rfl) rfl ?_
        | refine go_do (valid_eqb rfl rfl rfl rfl rfl) rfl ?_
        | refine go_do (valid_neb rfl rfl rfl rfl rfl) rfl ?_
        | refine go_do (valid_call rfl rfl rfl (h ▸ lives_ok _ _) rfl) rfl ?_)
    | (refine hK _ ?_; clear hK K)
    | (rename_i K1 hK1; refine hK1 _ ?_; clear hK hK1; clear K)
    | (rename_i K1 hK1; refine hK1 _ ?_; clear hK1)
    | refine aw_text rfl ?_
    | refine aw_any (by kernel_rfl) (by kernel_rfl) rfl ?_
    | exact aw_ret (show resA _ _ _ = some _ by kernel_rfl)
    | refine aw_cond1 rfl rfl ?_
    | refine aw_cond0 rfl rfl ?_
    | refine aw_block ?_
    | refine aw_exit ?_
    | refine aw_skip ?_
    | refine aw_seq_k (fun K hK => ?_))
theorem destroy_busy (k : Kr) (id : Int) (h : livesB k id = true) (hn : id = k.now) : Ok 15 [.ag k.ce, ii id] (.tu [.ag k.ce, ii 10]) := by
  refine callOk_of 61 Tryd.func15 rfl rfl rfl rfl ?_ GG.to
  intro W A hG
  repeat (first
    | (refine go_at rfl ?_; first
        | refine go_do (valid_skip rfl) rfl ?_
        | refine go_do (valid_mv (.inl rfl) rfl) rfl ?_
        | (refine nxt_s 1 rfl ?_; refine go_do (valid_load_p tb rfl rfl rfl rfl rfl (by first | kernel_rfl | rfl)) (by first | kernel_rfl | rfl) ?_)
        | (refine nxt_s 1 rfl ?_; refine go_do (valid_fld_p tb rfl rfl rfl (by kernel_rfl)) rfl ?_)
        | refine go_do (valid_mv (.inr rfl) rfl) rfl ?_
        | refine go_do (valid_pick rfl rfl rfl) rfl ?_
        | refine go_do (valid_extract rfl rfl rfl rfl) rfl ?_
        | refine go_do (valid_field tb rfl rfl rfl rfl rfl rfl) rfl ?_
        | refine go_do (valid_cmp rfl rfl rfl rfl (by first | exact .eql1 (by omega) | exact .eql0 (by omega) | exact .neq1 (by omega) | exact .neq0 (by omega) | exact .lss1 (by omega) | exact .lss0 (by omega) | exact .leq1 (by omega) | exact .leq0 (by omega) | exact .gtr1 (by omega) | exact .gtr0 (by omega) | exact .geq1 (by omega) | exact .geq0 (by omega) | constructor)) rfl ?_
        | refine go_do (valid_ar rfl rfl rfl rfl (by constructor) (by first | exact wr_u64 (by omega) (by omega) | exact wr_i64 (by omega) (by omega) | rfl)) rfl ?_
        | refine go_do (valid_cv rfl rfl rfl rfl rfl (by first | exact wr_u64 (by omega) (by omega) | exact wr_i64 (by omega) (by omega) | rfl)) rfl ?_
        | refine go_do (valid_quo rfl rfl rfl rfl (by omega) (by omega) (by first | exact wr_u64 (by omega) (by omega) | exact wr_i64 (by omega) (by omega))) rfl ?_
        | refine go_do (valid_rem rfl rfl rfl rfl (by omega) (by omega)) rfl ?_
        | refine go_do (valid_box rfl rfl rfl rfl rfl rfl) rfl ?_
        | refine go_do (valid_alloc rfl rfl rfl rfl rfl) rfl ?_
        | (refine nxt_s 1 rfl ?_; refine go_do (valid_store_p rfl rfl rfl rfl rfl rfl (by first | kernel_rfl | rfl) rfl) (by first | kernel_rfl | rfl) ?_)
        | refine go_do (valid_len_s rfl rfl rfl rfl) rfl ?_
        | (refine nxt_s 3 rfl ?_; refine go_do (valid_load_q tb rfl rfl rfl rfl (by first | kernel_rfl | rfl)) rfl ?_)
        | (refine nxt_s 3 rfl ?_; refine go_do (valid_fld_q tb rfl rfl rfl rfl) rfl ?_)
        | refine go_do (valid_not rfl rfl rfl) rfl ?_
        | refine go_do (valid_build rfl rfl rfl rfl) rfl ?_
        | refine go_do (valid_nil rfl rfl rfl rfl) rfl ?_
        | (refine nxt_s 4 rfl ?_; refine go_do (valid_idx_s rfl rfl rfl rfl rfl rfl (by omega) (by omega) _ (by assumption)) rfl ?_)
        | (refine nxt_s 5 rfl ?_; refine go_do (valid_store_rp rfl rfl rfl rfl rfl rfl rfl rfl rfl (by first | omega | (simp; omega)) rfl) rfl ?_)
        | (refine nxt_s 5 rfl ?_; refine go_do (valid_load_rp tb rfl rfl rfl rfl rfl rfl) rfl ?_)
        | (refine nxt_s 2 rfl ?_; refine go_do (valid_idx_o rfl rfl rfl rfl rfl rfl rfl (by omega) (by omega)) rfl ?_)
        | (refine nxt_s 1 rfl ?_; refine go_do (valid_idx_p rfl rfl rfl rfl rfl rfl (by omega) (by omega)) rfl ?_)
        | refine go_do (valid_index tb rfl rfl rfl rfl rfl rfl (by omega) (by omega) rfl) rfl ?_
        | refine go_do (valid_len_o rfl rfl rfl rfl rfl) rfl ?_
        | refine go_do (valid_len_v rfl rfl rfl rfl) rfl ?_
        | (refine nxt_s 5 rfl ?_; refine go_do (valid_fld_rp tb rfl rfl rfl rfl) rfl ?_)
        | refine go_do (valid_bslice rfl rfl rfl rfl rfl rfl rfl rfl rfl rfl rfl) rfl ?_
        | refine go_do (valid_bslice0 rfl rfl rfl rfl rfl rfl rfl) rfl ?_
        | refine go_do (valid_eqb rfl rfl rfl rfl rfl) rfl ?_
        | refine go_do (valid_neb rfl rfl rfl rfl rfl) rfl ?_
        | refine go_do (valid_call rfl rfl rfl (h ▸ lives_ok _ _) rfl) rfl ?_)
    | (refine hK _ ?_; clear hK K)
    | (rename_i K1 hK1; refine hK1 _ ?_; clear hK hK1; clear K)
    | (rename_i K1 hK1; refine hK1 _ ?_; clear hK1)
    | refine aw_text rfl ?_
    | refine aw_any (by kernel_rfl) (by kernel_rfl) rfl ?_
    | exact aw_ret (show resA _ _ _ = some _ by kernel_rfl)
    | refine aw_cond1 rfl rfl ?_
    | refine aw_cond0 rfl rfl ?_
    | refine aw_block ?_
    | refine aw_exit ?_
    | refine aw_skip ?_
    | refine aw_seq_k (fun K hK => ?_))
theorem destroy_ok (k : Kr) (id : Int) (s : Sp) (h : livesB k id = true) (hn : id ≠ k.now) (h0 : 0 ≤ id) (hs : k.ss[id.toNat]? = some s) (hlt : id < k.ss.length) (hss : k.ss.length ≤ 1000)
    (hr : 0 ≤ s.root ∧ s.root < 1099511627776) (ha : U s.asid) (hm : Srt k.m) (hu : Uw k.m) (hbig : (k.m.length + 1) * 32 ≤ 140737488355328) (hm2 : Srt (offM k s)) (hbig2 : ((offM k s).length + 1) * 32 ≤ 140737488355328)
    (hz : ∀ i : Int, 0 ≤ i → i < 512 → wordM k.sz (offM k s) (s.root * 4096 + i * 8) = 0) (hb : U k.pb) (hpm : 0 ≤ k.pm ∧ k.pm ≤ 64) (hpf : U k.pf) (ham : 0 ≤ k.am ∧ k.am ≤ 64) (haf : U k.af) (hao : U k.ao) :
    Ok 15 [.ag k.ce, ii id] (.tu [.ag (destroyK k id s).ce, ii 0]) := by
  have hx := flS_at hs
  rw [show (destroyK k id s).ce = (destroyK k id s).raw k.tn k.ts k.ss.length (putV (flS k.ss) (id.toNat * 3) zSp.vs) k.fs.length (flF k.fs) from by
    rw [← flS_set k.ss id.toNat zSp (by omega)]
    show _ = Kr.raw _ _ _ _ _ _ _
    simp [destroyK, Kr.ce, Kr.raw, backK]]
  refine callOk_of 61 Tryd.func15 rfl rfl rfl rfl ?_ GG.to
  intro W A hG
  have hl : Ok 28 [.ag k.ce, ii id] (.m (ib true)) := h ▸ lives_ok k id
  have hw := with_ok k.sz k.m s.root 2 zP kA zP kA_U zP_U (by omega) (by omega) hr hm hu (by omega)
  repeat (first
    | (refine go_at rfl ?_; first
        | refine go_do (valid_skip rfl) rfl ?_
        | refine go_do (valid_mv (.inl rfl) rfl) rfl ?_
        | (refine nxt_s 1 rfl ?_; refine go_do (valid_load_p tb rfl rfl rfl rfl rfl (by first | kernel_rfl | rfl)) (by first | kernel_rfl | rfl) ?_)
        | (refine nxt_s 1 rfl ?_; refine go_do (valid_fld_p tb rfl rfl rfl (by kernel_rfl)) rfl ?_)
        | refine go_do (valid_mv (.inr rfl) rfl) rfl ?_
        | refine go_do (valid_pick rfl rfl rfl) rfl ?_
        | refine go_do (valid_extract rfl rfl rfl rfl) rfl ?_
        | refine go_do (valid_field tb rfl rfl rfl rfl rfl rfl) rfl ?_
        | refine go_do (valid_cmp rfl rfl rfl rfl (by first | exact .eql1 (by omega) | exact .eql0 (by omega) | exact .neq1 (by omega) | exact .neq0 (by omega) | exact .lss1 (by omega) | exact .lss0 (by omega) | exact .leq1 (by omega) | exact .leq0 (by omega) | exact .gtr1 (by omega) | exact .gtr0 (by omega) | exact .geq1 (by omega) | exact .geq0 (by omega) | constructor)) rfl ?_
        | refine go_do (valid_ar rfl rfl rfl rfl (by constructor) (by first | exact wr_u64 (by omega) (by omega) | exact wr_i64 (by omega) (by omega) | rfl)) rfl ?_
        | refine go_do (valid_cv rfl rfl rfl rfl rfl (by first | exact wr_u64 (by omega) (by omega) | exact wr_i64 (by omega) (by omega) | rfl)) rfl ?_
        | refine go_do (valid_quo rfl rfl rfl rfl (by omega) (by omega) (by first | exact wr_u64 (by omega) (by omega) | exact wr_i64 (by omega) (by omega))) rfl ?_
        | refine go_do (valid_rem rfl rfl rfl rfl (by omega) (by omega)) rfl ?_
        | refine go_do (valid_box rfl rfl rfl rfl rfl rfl) rfl ?_
        | refine go_do (valid_alloc rfl rfl rfl rfl rfl) rfl ?_
        | (refine nxt_s 1 rfl ?_; refine go_do (valid_store_p rfl rfl rfl rfl rfl rfl (by first | kernel_rfl | rfl) rfl) (by first | kernel_rfl | rfl) ?_)
        | refine go_do (valid_len_s rfl rfl rfl rfl) rfl ?_
        | (refine nxt_s 3 rfl ?_; refine go_do (valid_load_q tb rfl rfl rfl rfl (by first | kernel_rfl | rfl)) rfl ?_)
        | (refine nxt_s 3 rfl ?_; refine go_do (valid_fld_q tb rfl rfl rfl rfl) rfl ?_)
        | refine go_do (valid_not rfl rfl rfl) rfl ?_
        | refine go_do (valid_build rfl rfl rfl rfl) rfl ?_
        | refine go_do (valid_nil rfl rfl rfl rfl) rfl ?_
        | (refine nxt_s 4 rfl ?_; refine go_do (valid_idx_s rfl rfl rfl rfl rfl rfl (by omega) (by omega) _ (by assumption)) rfl ?_)
        | (refine nxt_s 5 rfl ?_; refine go_do (valid_store_rp rfl rfl rfl rfl rfl rfl rfl rfl rfl (by first | omega | (simp; omega)) rfl) rfl ?_)
        | (refine nxt_s 5 rfl ?_; refine go_do (valid_load_rp tb rfl rfl rfl rfl rfl rfl) rfl ?_)
        | (refine nxt_s 2 rfl ?_; refine go_do (valid_idx_o rfl rfl rfl rfl rfl rfl rfl (by omega) (by omega)) rfl ?_)
        | (refine nxt_s 1 rfl ?_; refine go_do (valid_idx_p rfl rfl rfl rfl rfl rfl (by omega) (by omega)) rfl ?_)
        | refine go_do (valid_index tb rfl rfl rfl rfl rfl rfl (by omega) (by omega) rfl) rfl ?_
        | refine go_do (valid_len_o rfl rfl rfl rfl rfl) rfl ?_
        | refine go_do (valid_len_v rfl rfl rfl rfl) rfl ?_
        | (refine nxt_s 5 rfl ?_; refine go_do (valid_fld_rp tb rfl rfl rfl rfl) rfl ?_)
        | refine go_do (valid_bslice rfl rfl rfl rfl rfl rfl rfl rfl rfl rfl rfl) rfl ?_
        | refine go_do (valid_bslice0 rfl rfl rfl rfl rfl rfl rfl) rfl ?_
        | refine go_do (valid_eqb rfl rfl rfl rfl rfl) rfl ?_
        | refine go_do (valid_neb rfl rfl rfl rfl rfl) rfl ?_
        | refine go_do (valid_call rfl rfl rfl (hl) (by kernel_rfl)) rfl ?_
        | refine go_do (valid_call rfl rfl rfl (kaddr_ok') (by kernel_rfl)) rfl ?_
        | refine go_do (valid_call rfl rfl rfl (hw) (by kernel_rfl)) rfl ?_
        | refine go_do (valid_call rfl rfl rfl (frames0_ok k.sz s.root 2 (offM k s) hr hm2 hz) (by kernel_rfl)) rfl ?_
        | refine go_do (valid_call rfl rfl rfl (back1_ok { k with m := offM k s } s.root hb hpm hpf hr hm2 hbig2) (by kernel_rfl)) rfl ?_
        | refine go_do (valid_call rfl rfl rfl (giveA_ok k.am k.af k.ao s.asid ham haf hao ha) (by kernel_rfl)) rfl ?_)
    | (refine hK _ ?_; clear hK K)
    | (rename_i K1 hK1; refine hK1 _ ?_; clear hK hK1; clear K)
    | (rename_i K1 hK1; refine hK1 _ ?_; clear hK1)
    | refine aw_text rfl ?_
    | refine aw_any (by kernel_rfl) (by kernel_rfl) rfl ?_
    | exact aw_ret (show resA _ _ _ = some _ by kernel_rfl)
    | refine aw_cond1 rfl rfl ?_
    | refine aw_cond0 rfl rfl ?_
    | refine aw_block ?_
    | refine aw_exit ?_
    | refine aw_skip ?_
    | refine aw_seq_k (fun K hK => ?_))
  refine go_at rfl ?_
  refine go_do (valid_call_own rfl rfl rfl rfl rfl (clonesp_own k.ss.length (flS k.ss) (flS_one _) (by omega)) (by kernel_rfl)) (by kernel_rfl) ?_
  refine go_at rfl ?_
  refine go_do (valid_fld_p tb rfl rfl rfl (by kernel_rfl)) rfl ?_
  refine go_at rfl ?_
  refine go_do (valid_store_p rfl rfl rfl rfl rfl rfl (by kernel_rfl) rfl) (by kernel_rfl) ?_
  first
    | (refine hK _ ?_; clear hK K)
    | (rename_i K1 hK1; refine hK1 _ ?_; clear hK hK1; clear K)
    | (rename_i K1 hK1; refine hK1 _ ?_; clear hK1)
  refine aw_sub (sub_of [(1, .m (ii id)), (2, .m (.c (.p 2 0))), (4, .m (.c (.p 4 0))), (7, .m (.c (.p 7 0)))] [(2, .live (.box k.ce)), (4, .live (.box zK)), (7, .live (.box ((destroyM k s).ce.set 20 (.o 53)))), (53, .live (.row 55 3 k.ss.length (flS k.ss)))] ⟨by kernel_rfl, by kernel_rfl, by kernel_rfl, by kernel_rfl, trivial⟩ ⟨by kernel_rfl, by kernel_rfl, by kernel_rfl, by kernel_rfl, trivial⟩ (by kernel_rfl)) ?_
  repeat (first
    | (refine go_at rfl ?_; first
        | refine go_do (valid_skip rfl) rfl ?_
        | refine go_do (valid_mv (.inl rfl) rfl) rfl ?_
        | (refine nxt_s 1 rfl ?_; refine go_do (valid_load_p tb rfl rfl rfl rfl rfl (by first | kernel_rfl | rfl)) (by first | kernel_rfl | rfl) ?_)
        | (refine nxt_s 1 rfl ?_; refine go_do (valid_fld_p tb rfl rfl rfl (by kernel_rfl)) rfl ?_)
        | refine go_do (valid_mv (.inr rfl) rfl) rfl ?_
        | refine go_do (valid_pick rfl rfl rfl) rfl ?_
        | refine go_do (valid_extract rfl rfl rfl rfl) rfl ?_
        | refine go_do (valid_field tb rfl rfl rfl rfl rfl rfl) rfl ?_
        | refine go_do (valid_cmp rfl rfl rfl rfl (by first | exact .eql1 (by omega) | exact .eql0 (by omega) | exact .neq1 (by omega) | exact .neq0 (by omega) | exact .lss1 (by omega) | exact .lss0 (by omega) | exact .leq1 (by omega) | exact .leq0 (by omega) | exact .gtr1 (by omega) | exact .gtr0 (by omega) | exact .geq1 (by omega) | exact .geq0 (by omega) | constructor)) rfl ?_
        | refine go_do (valid_ar rfl rfl rfl rfl (by constructor) (by first | exact wr_u64 (by omega) (by omega) | exact wr_i64 (by omega) (by omega) | rfl)) rfl ?_
        | refine go_do (valid_cv rfl rfl rfl rfl rfl (by first | exact wr_u64 (by omega) (by omega) | exact wr_i64 (by omega) (by omega) | rfl)) rfl ?_
        | refine go_do (valid_quo rfl rfl rfl rfl (by omega) (by omega) (by first | exact wr_u64 (by omega) (by omega) | exact wr_i64 (by omega) (by omega))) rfl ?_
        | refine go_do (valid_rem rfl rfl rfl rfl (by omega) (by omega)) rfl ?_
        | refine go_do (valid_box rfl rfl rfl rfl rfl rfl) rfl ?_
        | refine go_do (valid_alloc rfl rfl rfl rfl rfl) rfl ?_
        | (refine nxt_s 1 rfl ?_; refine go_do (valid_store_p rfl rfl rfl rfl rfl rfl (by first | kernel_rfl | rfl) rfl) (by first | kernel_rfl | rfl) ?_)
        | refine go_do (valid_len_s rfl rfl rfl rfl) rfl ?_
        | (refine nxt_s 3 rfl ?_; refine go_do (valid_load_q tb rfl rfl rfl rfl (by first | kernel_rfl | rfl)) rfl ?_)
        | (refine nxt_s 3 rfl ?_; refine go_do (valid_fld_q tb rfl rfl rfl rfl) rfl ?_)
        | refine go_do (valid_not rfl rfl rfl) rfl ?_
        | refine go_do (valid_build rfl rfl rfl rfl) rfl ?_
        | refine go_do (valid_nil rfl rfl rfl rfl) rfl ?_
        | (refine nxt_s 4 rfl ?_; refine go_do (valid_idx_s rfl rfl rfl rfl rfl rfl (by omega) (by omega) _ (by assumption)) rfl ?_)
        | (refine nxt_s 5 rfl ?_; refine go_do (valid_store_rp rfl rfl rfl rfl rfl rfl rfl rfl rfl (by first | omega | (simp; omega)) rfl) rfl ?_)
        | (refine nxt_s 5 rfl ?_; refine go_do (valid_load_rp tb rfl rfl rfl rfl rfl rfl) rfl ?_)
        | (refine nxt_s 2 rfl ?_; refine go_do (valid_idx_o rfl rfl rfl rfl rfl rfl rfl (by omega) (by omega)) rfl ?_)
        | (refine nxt_s 1 rfl ?_; refine go_do (valid_idx_p rfl rfl rfl rfl rfl rfl (by omega) (by omega)) rfl ?_)
        | refine go_do (valid_index tb rfl rfl rfl rfl rfl rfl (by omega) (by omega) rfl) rfl ?_
        | refine go_do (valid_len_o rfl rfl rfl rfl rfl) rfl ?_
        | refine go_do (valid_len_v rfl rfl rfl rfl) rfl ?_
        | (refine nxt_s 5 rfl ?_; refine go_do (valid_fld_rp tb rfl rfl rfl rfl) rfl ?_)
        | refine go_do (valid_bslice rfl rfl rfl rfl rfl rfl rfl rfl rfl rfl rfl) rfl ?_
        | refine go_do (valid_bslice0 rfl rfl rfl rfl rfl rfl rfl) rfl ?_
        | refine go_do (valid_eqb rfl rfl rfl rfl rfl) rfl ?_
        | refine go_do (valid_neb rfl rfl rfl rfl rfl) rfl ?_)
    | (refine hK _ ?_; clear hK K)
    | (rename_i K1 hK1; refine hK1 _ ?_; clear hK hK1; clear K)
    | (rename_i K1 hK1; refine hK1 _ ?_; clear hK1)
    | refine aw_text rfl ?_
    | refine aw_any (by kernel_rfl) (by kernel_rfl) rfl ?_
    | exact aw_ret (show resA _ _ _ = some _ by kernel_rfl)
    | refine aw_cond1 rfl rfl ?_
    | refine aw_cond0 rfl rfl ?_
    | refine aw_block ?_
    | refine aw_exit ?_
    | refine aw_skip ?_
    | refine aw_seq_k (fun K hK => ?_))
end Go.Proofs.YtkffmaeiplgjeaaDoor.SpF
