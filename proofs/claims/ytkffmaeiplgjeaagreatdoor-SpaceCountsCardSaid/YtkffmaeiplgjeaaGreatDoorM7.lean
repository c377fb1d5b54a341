/- Texts of this claim, one behind the other: MemC3, GrowCell, ConcatCell, ClearC, TableC, MemNewC, PoolC, PoolC2, PoolC3, TzC. -/
import Derived.Test.YtkffmaeiplgjeaaGreatDoorM6
import Derived.Test.YtkffmaeiplgjeaaGreatDoorM5
import Derived.Test.YtkffmaeiplgjeaaGreatDoorM2
import Derived.Lib.AppendZerosOnto
import Derived.Lib.Walk
import Derived.Lib.SliceRun
import Derived.Laws.AppendOwnNone
import Derived.Test.YtkffmaeiplgjeaaGreatDoorM1
import Derived.Shelf.Spec.TrailingZeros
/- The contracts of mem.wrong, mem.Store. -/
namespace Go.Proofs.YtkffmaeiplgjeaaGreatDoor.MemC3
open Go.RowKit Go.Proofs.YtkffmaeiplgjeaaGreatDoor.Bv Go.Proofs.YtkffmaeiplgjeaaGreatDoor.Base Go.Proofs.YtkffmaeiplgjeaaGreatDoor.MemL Go.Proofs.YtkffmaeiplgjeaaGreatDoor.MemC Go.Proofs.YtkffmaeiplgjeaaGreatDoor.PutC
open Go.Proofs.YtkffmaeiplgjeaaGreatDoor.BitsC
set_option linter.unusedVariables false
set_option linter.unusedSimpArgs false
/-- why so many bytes are not there -/
def wrongI (sz a n : Int) : Int := if sizeB n then (if evenI a n then (if a < sz then 0 else 3) else 2) else 1
theorem sizeB_le {n : Int} (h : sizeB n = true) : 1 ≤ n ∧ n ≤ 8 := by
  unfold sizeB at h
  simp at h
  omega
set_option maxHeartbeats 2000000 in
theorem wrong_calls (sz a n : Int) (v : Value) (W : World) (ha : U a) :
    Calls Tryz.prog 112 #[.agg #[.int .u64 sz, v], .int .u64 a, .int .i64 n] W fun e w' => e = .returned (.int .i64 (wrongI sz a n)) ∧ Below W.heap.size W w' := by
  have HW := Lib.hid (show wrongI sz a n = if sizeB n then (if evenI a n then (if a < sz then 0 else 3) else 2) else 1 from rfl)
  obtain ⟨a0, a1⟩ := ha
  go_enter Tryz.func112, Tryz.ntmps112
  go_wp2_with fail
  refine (bsize_calls n _).mono ?_
  rintro e w1 ⟨rfl, q1⟩
  have Y := Bx.below (Bx.new (w := W) (c := #[.int .u64 sz, v]) (T := 29)) q1.below
  have B1 := Q.bel (bel_alloc (Below.refl W.heap.size W) (.cells #[.int .u64 sz, v] 29)) q1
  clear q1
  cases h1 : sizeB n
  · have H := Lib.hid h1
    clear h1
    go_wp2
    go_ret
    exact ⟨by rw [HW.out, H.out]; rfl, B1⟩
  · have hn := sizeB_le h1
    have H := Lib.hid h1
    clear h1
    have hw : IntKind.u64.wrap n = n := by rw [wrap_u64]; omega
    go_wp2_with fail
    refine (even_calls a n _ ⟨a0, a1⟩ ⟨by omega, by omega⟩).mono ?_
    rintro e w2 ⟨rfl, q2⟩
    have B2 := Q.bel B1 q2
    have y0 : w2.cell? ⟨W.heap.size, 0, none⟩ = some (.int .u64 sz) := (Y.below q2.below).cell 0
    clear q2 Y
    cases h2 : evenI a n
    · have H' := Lib.hid h2
      clear h2
      go_wp2
      go_ret
      exact ⟨by rw [HW.out, H.out, H'.out]; rfl, B2⟩
    · have H' := Lib.hid h2
      clear h2
      by_cases h3 : a < sz
      · go_wp2
        go_ret
        exact ⟨by rw [HW.out, H.out, H'.out, if_pos rfl, if_pos rfl, if_pos h3]; rfl, B2⟩
      · go_wp2
        go_ret
        exact ⟨by rw [HW.out, H.out, H'.out, if_pos rfl, if_pos rfl, if_neg (by omega)]; rfl, B2⟩
/-- cells of words -/
def Uw (xs : List (Int × Int)) : Prop := ∀ c ∈ xs, U c.1 ∧ U c.2
theorem Uw.word {xs : List (Int × Int)} (h : Uw xs) (sz a : Int) : U (wordM sz xs a) := by
  unfold wordM
  split
  · unfold MemC.look
    split
    · rename_i c hc
      split
      · exact (h c (List.mem_of_getElem? hc)).2
      · exact ⟨by omega, by omega⟩
    · exact ⟨by omega, by omega⟩
  · exact ⟨by omega, by omega⟩
/-- a memory's cells, a number stored -/
def storeM (sz : Int) (xs : List (Int × Int)) (a n v : Int) : List (Int × Int) :=
  if wrongI sz a n = 0 then putM xs (a / 8) (setI (wordM sz xs a) (a % 8 * 8) (n * 8) v) else xs
/-- what stands while mem.Store's region goes on: the own block of the memory handed in, and that memory -/
structure CS (W : World) (m : Nat) (sz : Int) (v : Value) (w' : World) : Prop where
  box : Bx w' W.heap.size #[.int .u64 sz, v]
  size : m ≤ w'.heap.size
  bel : Below W.heap.size W w'
structure Shp (b k : Nat) (w' : World) : Prop where
  ex : ∃ c : Array Value, c.size = k ∧ Bx w' b c
theorem CS.below {W : World} {m : Nat} {sz : Int} {v : Value} {w w' : World} (h : CS W m sz v w) (b : Below w.heap.size w w') : CS W m sz v w' := ⟨h.box.below b, Nat.le_trans h.size b.size, bel_trans h.bel b⟩
theorem CS.row {W : World} {m : Nat} {sz : Int} {v : Value} {w : World} {b : Nat} (h : CS W m sz v w) (hb : W.heap.size < b) (d : Array Value) : CS W m sz v (w.setRow b d) :=
  ⟨h.box.row_far (by omega), by have := h.size; unfold World.setRow; simpa using this, below_row h.bel (by omega) d⟩
theorem Shp.below {b k : Nat} {w w' : World} (h : Shp b k w) (x : Below w.heap.size w w') : Shp b k w' := by
  obtain ⟨c, h1, h2⟩ := h.ex; exact ⟨c, h1, h2.below x⟩
theorem sl_slice {w : World} {v : Value} {n k : Nat} {xs : List Value} (h : Sl w v n k xs) : ∃ a c, v = .slice a n c := by
  obtain ⟨_, ⟨rfl, hn⟩ | ⟨b, o, cap, rfl, _⟩⟩ := h
  · exact ⟨_, _, by rw [hn]⟩
  · exact ⟨_, _, rfl⟩
theorem bel_one (w : World) : Below w.heap.size w w.drew := Q.below (w' := w.drew) ⟨⟨1, rfl⟩⟩
set_option maxHeartbeats 4000000 in
theorem store_calls (sz : Int) (v : Value) (xs : List (Int × Int)) (a n x : Int) (W : World) (ha : U a) (hx : U x) (hs : Srt xs) (hu : Uw xs) (hbig : (xs.length + 1) * 16 ≤ 140737488355328) (hv : Sl W v xs.length 2 (fl xs)) :
    Calls Tryz.prog 87 #[.agg #[.int .u64 sz, v], .int .u64 a, .int .i64 n, .int .u64 x] W fun e w' => ∃ v', e = .returned (.tuple #[.agg #[.int .u64 sz, v'], .int .i64 (wrongI sz a n)]) ∧ (if wrongI sz a n = 0 then w'.ownsRow W.heap.size 116 2 v' (storeM sz xs a n x).length (fl (storeM sz xs a n x)) else v' = v) ∧ Below W.heap.size W w' := by
  have HM := Lib.hid (show storeM sz xs a n x = if wrongI sz a n = 0 then putM xs (a / 8) (setI (wordM sz xs a) (a % 8 * 8) (n * 8) x) else xs from rfl)
  have B0 := bel_alloc (bel_alloc (Below.refl W.heap.size W) (.cells #[.int .u64 sz, v] 29)) (.cells #[.int .u64 0, .slice none 0 0] 29)
  have X0 : Bx ((W.alloc (.cells #[.int .u64 sz, v] 29)).alloc (.cells #[.int .u64 0, .slice none 0 0] 29)) W.heap.size #[.int .u64 sz, v] := Bx.alloc Bx.new
  have X1 : Bx ((W.alloc (.cells #[.int .u64 sz, v] 29)).alloc (.cells #[.int .u64 0, .slice none 0 0] 29)) (W.heap.size + 1) #[.int .u64 0, .slice none 0 0] := bx_new1
  have hv0 := hv
  obtain ⟨av, cv, rfl⟩ : ∃ a c, v = .slice a xs.length c := by
    obtain ⟨_, ⟨rfl, hn⟩ | ⟨b, o, cap, rfl, _⟩⟩ := hv0
    · exact ⟨_, _, by rw [hn]⟩
    · exact ⟨_, _, rfl⟩
  clear hv0
  go_enter Tryz.func87, Tryz.ntmps87
  go_wp2_with fail
  refine (wrong_calls sz a n _ _ ha).mono ?_
  rintro e w1 ⟨rfl, b1⟩
  have B1 := bel_trans B0 b1
  have Y0 := X0.below b1
  have Y1 := X1.below b1
  clear X0 X1 b1 B0
  have hsz := Y1.lt
  have y00 : w1.cell? ⟨W.heap.size, 0, none⟩ = some (.int .u64 sz) := Y0.cell 0
  have y01 : w1.cell? ⟨W.heap.size, 1, none⟩ = some (.slice av xs.length cv) := Y0.cell 1
  have g0 := Y1.free
  have q0 : w1.cell? ⟨W.heap.size + 1, 0, none⟩ = some (.int .u64 0) := Y1.cell 0
  have q1 : w1.cell? ⟨W.heap.size + 1, 1, none⟩ = some (.slice none 0 0) := Y1.cell 1
  by_cases hw : wrongI sz a n = 0
  · have HW := Lib.hid hw
    have hsb : sizeB n = true := by
      unfold wrongI at hw
      split at hw
      · assumption
      · omega
    have hn8 := sizeB_le hsb
    rw [hw]
    clear hw hsb
    obtain ⟨a0, a1⟩ := ha
    have ha : U a := ⟨a0, a1⟩
    have d1 : IntKind.u64.wrap (a.tdiv 8) = a / 8 := by rw [wrap_u64, Int.tdiv_eq_ediv_of_nonneg a0]; omega
    have d2 : a.tmod 8 = a % 8 := Int.tmod_eq_emod_of_nonneg a0
    have d3 : IntKind.i64.wrap (a % 8) = a % 8 := by rw [IntKind.wrap_i64]; omega
    have d4 : IntKind.i64.wrap (a % 8 * 8) = a % 8 * 8 := by rw [IntKind.wrap_i64]; omega
    have d5 : IntKind.i64.wrap (n * 8) = n * 8 := by rw [IntKind.wrap_i64]; omega
    have hwu := hu.word sz a
    go_wp2_with fail
    refine RegR.region_from (Θ := Option Addr × Nat) [0, 0, 0, 0, 0, 0, 0, 0, 0, 0, 0, 0, 0, 0, 1, 2, 0] [0, 1, 2, 3, 4, 5, 6, 7, 8, 9, 10, 11, 12, 13, 14, 15, 16]
      (CS W w1.heap.size sz (.slice av xs.length cv))
      (fun _ t => .agg #[.int .u64 sz, .slice t.1 (storeM sz xs a n x).length t.2])
      (fun _ t w' => w'.ownsRow w1.heap.size 116 2 (.slice t.1 (storeM sz xs a n x).length t.2) (storeM sz xs a n x).length (fl (storeM sz xs a n x)))
      (by kernel_rfl) (by kernel_rfl) (fun w w' h b => h.below b) (fun _ t w w' h b => owns_below h b)
      ⟨Y0.drew, Nat.le_refl _, bel_trans B1 (bel_one w1)⟩ (Shp (W.heap.size + 1) 2) (fun w w' h b => h.below b) ⟨_, rfl, Y1.drew⟩ ?_
    repeat (with_reducible refine RegR.can0 _ rfl rfl (fun K hK => ?_)
            go_simp
            first
              | (refine hK _ ?_; clear hK K)
              | (refine ⟨_, fun _ _ => rfl, hK _ ?_⟩; clear hK K)
              | (refine ⟨_, fun _ _ _ => rfl, hK _ ?_⟩; clear hK K)
              | (refine ⟨.agg #[.int .u64 sz, .slice av xs.length cv], fun w hc _ => ?_, hK _ ?_⟩
                 · have y0 := hc.box.cell 0
                   have y1 := hc.box.cell 1
                   simp at y0 y1
                   go_simp
                 clear hK K)
              | (refine ⟨_, fun w hc _ => (word_calls sz _ xs a w ha hs (hv.below hc.bel)).mono fun e w' h => h, hK _ ?_⟩; clear hK K)
              | (refine ⟨_, fun w hc _ => (set_calls _ _ _ _ w hwu hx (by omega) (by omega) (by omega) (by omega)).mono fun e w' h => ⟨h.1, h.2.below⟩, hK _ ?_⟩; clear hK K))
    refine RegR.can1_call _ rfl rfl rfl 113 #[.agg #[.int .u64 sz, .slice av xs.length cv], .int .u64 (a / 8), .int .u64 (setI (wordM sz xs a) (a % 8 * 8) (n * 8) x)] (fun w => by kernel_rfl) (fun w hc => ?_) (fun t => ?_)
    · refine (put_calls sz _ xs (a / 8) (setI (wordM sz xs a) (a % 8 * 8) (n * 8) x) w hs hbig (hv.below hc.bel)).mono ?_
      rintro e w' ⟨v', rfl, hsl, hb⟩
      have hE : storeM sz xs a n x = putM xs (a / 8) (setI (wordM sz xs a) (a % 8 * 8) (n * 8) x) := by rw [HM.out, if_pos HW.out]
      rw [← hE] at hsl
      obtain ⟨p, q, rfl⟩ := owns_slice hsl
      exact ⟨(p, q), rfl, hb, owns_le hc.size hsl⟩
    refine RegR.can2_store _ rfl rfl rfl 29 _ _ rfl (W.heap.size + 1) #[.int .u64 sz, .slice t.1 (storeM sz xs a n x).length t.2] rfl rfl (by kernel_rfl) (by simp [Value.oneCell']) rfl (fun w w' h b => ?_) (fun w h => h.1.ex) (fun w h => ?_) (fun w h => ?_) ?_
    · exact ⟨h.1.below b, owns_below h.2 b⟩
    · obtain ⟨c, e1, e2⟩ := h.1.ex
      exact ⟨⟨_, rfl, e2.row_same⟩, owns_row h.2 (by omega) _⟩
    · exact h.row (by omega) _
    with_reducible refine RegR.can0 _ rfl rfl (fun K hK => ?_)
    go_simp
    refine ⟨_, fun _ _ _ _ _ => rfl, hK _ ?_⟩
    clear hK K
    intro w3 C3 D3
    have Z1 := D3.2
    have g0 := Z1.free
    have q0 : w3.cell? ⟨W.heap.size + 1, 0, none⟩ = some (.int .u64 sz) := Z1.cell 0
    have q1 : w3.cell? ⟨W.heap.size + 1, 1, none⟩ = some (.slice t.1 (storeM sz xs a n x).length t.2) := Z1.cell 1
    have O3 := owns_le (base' := W.heap.size) (by omega) D3.1.2
    have B3 := C3.bel
    clear C3 D3
    go_wp2
    refine bodyPost_ret (v := .tuple #[.agg #[.int .u64 sz, .slice t.1 (storeM sz xs a n x).length t.2], .int .i64 0]) (by simp [results, Tryz.results87, go_sem, q0, q1]) rfl ⟨_, rfl, ?_, B3⟩
    first | (rw [if_pos rfl]; exact O3) | (rw [if_pos HW.out]; exact O3) | exact O3
  · go_wp2
    refine bodyPost_ret (v := .tuple #[.agg #[.int .u64 sz, .slice av xs.length cv], .int .i64 (wrongI sz a n)]) (by simp [results, Tryz.results87, go_sem, q0, q1]) rfl ⟨_, rfl, ?_, ?_⟩
    · first | rfl | rw [if_neg hw]
    · exact bel_setCell _ _ _ (by omega) (bel_setCell _ _ _ (by omega) B1)
end Go.Proofs.YtkffmaeiplgjeaaGreatDoor.MemC3
/- The contract of slices.Grow of the nil slice, at api.Cell. -/
namespace Go.Proofs.YtkffmaeiplgjeaaGreatDoor.GrowCell
open Go.RowKit Go.Proofs.YtkffmaeiplgjeaaGreatDoor.Bv Go.Proofs.YtkffmaeiplgjeaaGreatDoor.Base Go.Proofs.YtkffmaeiplgjeaaGreatDoor.MemL
set_option linter.unusedVariables false
set_option linter.unusedSimpArgs false
set_option maxHeartbeats 2000000 in
set_option maxRecDepth 100000 in
theorem grow_calls (n : Nat) (W : World) (hbig : n * 16 ≤ 140737488355328) :
    Calls Tryz.prog 138 #[.slice none 0 0, .int .i64 n] W fun e w' => ∃ v', e = .returned v' ∧ w'.ownsRow W.heap.size 116 2 v' 0 [] ∧ Below W.heap.size W w' := by
  obtain ⟨i0, hi0, hz0, hz1, hz2⟩ := info_parts CloneCell.info
  have h1 : ¬ ((n : Int) < 0) := by omega
  have h3 : wrap64 (n : Int) = n := by unfold wrap64; omega
  have h3' : IntKind.i64.wrap (n : Int) = n := by rw [IntKind.wrap_i64]; omega
  by_cases h0 : n = 0
  · subst h0
    go_enter Tryz.func138, Tryz.ntmps138
    go_wp2
    go_ret
    exact ⟨_, rfl, ⟨rfl, .inl ⟨rfl, rfl⟩⟩, Below.refl _ _⟩
  · have h4 : (n : Int) > 0 := by omega
    have hrz : ∀ ty, (Builtin.append_ #[27, 3] ty #[.slice none 0 0, .int .i64 (n : Int)]).run Tryz.prog W =
        .ok (.slice (some ⟨W.heap.size, 0, none⟩) n (grownCap W n 0 116)) (W.drew.alloc (.cells (#[] ++ Builtin.zeroCells (.agg #[.int .u64 0, .int .u64 0] : Value).cells n ++ Builtin.zeroCells (.agg #[.int .u64 0, .int .u64 0] : Value).cells (grownCap W n 0 116 - n)) 116)) := fun ty => by
      have h := Lib.run_append_grow_zeros W 27 3 ty 116 i0 (.agg #[.int .u64 0, .int .u64 0]) .i64 .i64 Tryz.underlying27 Tryz.underlying3 hi0 hz0 none 0 0 [] (run_firstCells_none W.drew _ 0 0 0) n (by omega) (by omega) (by omega) (by omega)
        (by rw [hz2]; omega) (growslice_fits (by omega) (by rw [hz2]; omega))
      simpa using h
    have hG : n ≤ grownCap W n 0 116 := grownCap_ge W _ _ _
    have hGm := grownCap_le_maxLen W n 0 116 (by unfold maxLen; omega)
    generalize grownCap W n 0 116 = G at hrz hG hGm
    unfold maxLen at hGm
    go_enter Tryz.func138, Tryz.ntmps138
    go_wp2_with (at_builtin; refine Lib.wpList_append_run _ rfl _ _ _ _ rfl _ _ rfl rfl _ _ (hrz _) ?_)
    all_goals
      go_ret
      refine ⟨_, rfl, ⟨rfl, .inr ⟨W.heap.size, G, _, rfl, Nat.le_refl _, heap_alloc_new _ _, by omega, by unfold maxLen; omega, ?_, rfl⟩⟩, ?_⟩
      · simp [Builtin.zeroCells, Value.cells]; omega
      · exact bel_alloc (bel_drewN (Below.refl _ _) 1) _
end Go.Proofs.YtkffmaeiplgjeaaGreatDoor.GrowCell
/- The contract of slices.Concat of two slices, at api.Cell. -/
namespace Go.Proofs.YtkffmaeiplgjeaaGreatDoor.ConcatCell
open Go.RowKit Go.Proofs.YtkffmaeiplgjeaaGreatDoor.Bv Go.Proofs.YtkffmaeiplgjeaaGreatDoor.Base Go.Proofs.YtkffmaeiplgjeaaGreatDoor.MemL
set_option linter.unusedVariables false
set_option linter.unusedSimpArgs false
/-- how many elements the first k have -/
def nk (n1 n2 : Nat) : Nat → Nat | 0 => 0 | 1 => n1 | _ => n1 + n2
def xk (x1 x2 : List Value) : Nat → List Value | 0 => [] | 1 => x1 | _ => x1 ++ x2
def vk (v1 v2 : Value) : Nat → Value | 0 => v1 | _ => v2
def ck (n1 n2 : Nat) : Nat → Nat | 0 => n1 | _ => n2
def yk (x1 x2 : List Value) : Nat → List Value | 0 => x1 | _ => x2
theorem nk_succ (n1 n2 k : Nat) (h : k < 2) : nk n1 n2 (k + 1) = nk n1 n2 k + ck n1 n2 k := by
  match k, h with
  | 0, _ => simp [nk, ck]
  | 1, _ => simp [nk, ck]
theorem xk_succ (n1 n2 : List Value) (k : Nat) (h : k < 2) : xk n1 n2 (k + 1) = xk n1 n2 k ++ yk n1 n2 k := by
  match k, h with
  | 0, _ => simp [xk, yk]
  | 1, _ => simp [xk, yk]
theorem nk_le (n1 n2 k : Nat) : nk n1 n2 k ≤ n1 + n2 := by
  match k with
  | 0 => simp [nk]
  | 1 => simp [nk]
  | k + 2 => simp [nk]
theorem sl_shape {w : World} {v : Value} {n k : Nat} {xs : List Value} (h : Sl w v n k xs) : ∃ a c, v = .slice a n c := by
  obtain ⟨_, ⟨rfl, hn⟩ | ⟨b, o, cap, rfl, _⟩⟩ := h
  · exact ⟨_, _, by rw [hn]⟩
  · exact ⟨_, _, rfl⟩
theorem sl_k {w : World} {v1 v2 : Value} {n1 n2 : Nat} {x1 x2 : List Value} (h1 : Sl w v1 n1 2 x1) (h2 : Sl w v2 n2 2 x2) (k : Nat) : Sl w (vk v1 v2 k) (ck n1 n2 k) 2 (yk x1 x2 k) := by
  cases k with
  | zero => exact h1
  | succ k => exact h2
theorem one_k {x1 x2 : List Value} (h1 : ∀ u ∈ x1, u.oneCell' = true) (h2 : ∀ u ∈ x2, u.oneCell' = true) (k : Nat) : ∀ u ∈ yk x1 x2 k, u.oneCell' = true := by
  cases k with
  | zero => exact h1
  | succ k => exact h2
set_option maxHeartbeats 4000000 in
set_option maxRecDepth 100000 in
theorem concat_calls (vb : Nat) (v1 v2 : Value) (n1 n2 : Nat) (x1 x2 : List Value) (W : World) (hc : Bx W vb #[v1, v2]) (s1 : Sl W v1 n1 2 x1) (s2 : Sl W v2 n2 2 x2) (o1 : ∀ u ∈ x1, u.oneCell' = true) (o2 : ∀ u ∈ x2, u.oneCell' = true)
    (hbig : (n1 + n2) * 16 ≤ 140737488355328) :
    Calls Tryz.prog 121 #[.slice (some ⟨vb, 0, none⟩) 2 2] W fun e w' => ∃ v', e = .returned v' ∧ w'.ownsRow W.heap.size 116 2 v' (n1 + n2) (x1 ++ x2) ∧ Below W.heap.size W w' := by
  obtain ⟨i0, hi0, hz0, hz1, hz2⟩ := info_parts CloneCell.info
  have hcell : ∀ k, k < 2 → W.cell? ⟨vb, k, none⟩ = some (vk v1 v2 k) := fun k hk => by
    match k, hk with
    | 0, _ => exact hc.cell 0
    | 1, _ => exact hc.cell 1
  have hsk := fun k => sl_k s1 s2 k
  have hok := fun k => one_k o1 o2 k
  go_enter Tryz.func121, Tryz.ntmps121
  go_wp2
  go_loopw [3, 11] (fun s i wr => ∃ k : Nat, k ≤ 2 ∧ i = .int .i64 k ∧ s = .int .i64 (nk n1 n2 k) ∧ Below W.heap.size W wr) (fun _ i _ => 2 - (intOf i).toNat)
  case atStart => exact ⟨0, by omega, rfl, rfl, Below.refl _ _⟩
  case round =>
    obtain ⟨k, hk, rfl, rfl, br⟩ := hrel
    by_cases hk2 : k < 2
    · have r0 : wr.cell? ⟨vb, k, none⟩ = some (vk v1 v2 k) := (br.cell (p := ⟨vb, k, none⟩) hc.lt).trans (hcell k hk2)
      obtain ⟨a, c, hv⟩ := sl_shape (hsk k)
      rw [hv] at r0
      have hs := nk_succ n1 n2 k hk2
      have hl := nk_le n1 n2 (k + 1)
      have hw : IntKind.i64.wrap (((nk n1 n2 k : Nat) : Int) + ((ck n1 n2 k : Nat) : Int)) = ((nk n1 n2 (k + 1) : Nat) : Int) := by rw [IntKind.wrap_i64]; omega
      have HS := Lib.hid hs
      clear hs
      go_wp2
      exact ⟨⟨k + 1, by omega, by go_num, rfl, br⟩, by simp [intOf]; omega⟩
    · obtain rfl : k = 2 := by omega
      have hn2 : nk n1 n2 2 = n1 + n2 := rfl
      go_wp2_with fail
      refine (Go.Proofs.YtkffmaeiplgjeaaGreatDoor.GrowCell.grow_calls (n1 + n2) wr hbig).mono ?_
      rintro e w2 ⟨v0, rfl, O2, b2⟩
      have B2 := bel_trans br b2
      have O2' : w2.ownsRow W.heap.size 116 2 v0 0 [] := by
        obtain ⟨p1, p2⟩ := O2
        refine ⟨p1, ?_⟩
        rcases p2 with p2 | ⟨g, cap, cur, hv, hg, r⟩
        · exact .inl p2
        · exact .inr ⟨g, cap, cur, hv, Nat.le_trans br.size hg, r⟩
      clear O2 b2 br
      go_wp2
      go_loopw [6, 27] (fun v i wr => ∃ k : Nat, k ≤ 2 ∧ i = .int .i64 k ∧ wr.ownsRow W.heap.size 116 2 v (nk n1 n2 k) (xk x1 x2 k) ∧ Below W.heap.size W wr) (fun _ i _ => 2 - (intOf i).toNat)
      case atStart => exact ⟨0, by omega, rfl, O2', B2⟩
      case round =>
        obtain ⟨k, hk, rfl, O, br⟩ := hrel
        by_cases hk2 : k < 2
        · have r0 : wr.cell? ⟨vb, k, none⟩ = some (vk v1 v2 k) := (br.cell (p := ⟨vb, k, none⟩) hc.lt).trans (hcell k hk2)
          have hs := nk_succ n1 n2 k hk2
          have hx := xk_succ x1 x2 k hk2
          have hl := nk_le n1 n2 (k + 1)
          have hsl := (hsk k).below br
          have ho := hok k
          obtain ⟨hyl, hsl⟩ := hsl
          have fin : ∀ v' w', w'.ownsRow W.heap.size 116 2 v' (nk n1 n2 k + ck n1 n2 k) (xk x1 x2 k ++ yk x1 x2 k) → Below W.heap.size W w' → w'.ownsRow W.heap.size 116 2 v' (nk n1 n2 (k + 1)) (xk x1 x2 (k + 1)) := fun v' w' h _ => by rw [hs, hx]; exact h
          have FIN := Lib.hid fin
          have HS := Lib.hid hs
          clear fin hs hx
          rcases hsl with ⟨hv, hn⟩ | ⟨b, o, cap, hv, hb, hcap, hmax, hce⟩
          · rw [hv] at r0
            have hy0 : yk x1 x2 k = [] := List.eq_nil_of_length_eq_zero (by rw [hyl, hn, Nat.zero_mul])
            go_wp2_with (at_builtin; refine wpList_append_own_none rfl _ _ 27 rfl W.heap.size 116 i0 2 Tryz.underlying27 hi0 _ _ _ rfl O rfl ?_)
            refine ⟨⟨k + 1, by omega, by go_num, ?_, br⟩, by simp [intOf]; omega⟩
            refine FIN.out _ _ ?_ br
            rw [hy0, hn, List.append_nil, Nat.add_zero]
            exact O
          · rw [hv] at r0
            have hsz := br.size
            have HC := Lib.hid hce
            have HY := Lib.hid hyl
            clear hce hyl
            unfold maxLen at hmax
            go_wp2_with (at_builtin; refine wpList_append_own _ rfl _ _ 27 rfl W.heap.size 116 i0 (.agg #[.int .u64 0, .int .u64 0]) 2 16 Tryz.underlying27 hi0 hz0 hz1 hz2 rfl (by decide) _ _ _ rfl O ⟨b, o, none⟩ (ck n1 n2 k) cap (yk x1 x2 k) rfl ?qc1 ?qc2 ?qc3 ?qc4 ?qc5 ?qc6 ?_)
            case qc1 => exact HY.out
            case qc2 =>
              intro j u hj
              have hjn : j < ck n1 n2 k * 2 := by
                have := (List.getElem?_eq_some_iff.1 hj).1
                have := HY.out
                omega
              rw [Addr.add_lit]
              rw [HC.out j hjn]; exact hj
            case qc3 => exact ho
            case qc4 => have := HS.out; unfold maxLen; omega
            case qc5 => have := HS.out; omega
            case qc6 => exact hsz
            intro v' w1 hown hgrow hnil
            go_wp2
            have br' : Below W.heap.size W w1 := br.grown hgrow hsz (fun g hg => (O.lt g hg).1)
            exact ⟨⟨k + 1, by omega, by go_num, FIN.out _ _ hown br', br'⟩, by simp [intOf]; omega⟩
        · obtain rfl : k = 2 := by omega
          go_wp2
          go_ret
          exact ⟨_, rfl, O, br⟩
end Go.Proofs.YtkffmaeiplgjeaaGreatDoor.ConcatCell
/- The contract of mem.Clear. -/
namespace Go.Proofs.YtkffmaeiplgjeaaGreatDoor.ClearC
open Go.RowKit Go.Proofs.YtkffmaeiplgjeaaGreatDoor.Bv Go.Proofs.YtkffmaeiplgjeaaGreatDoor.Base Go.Proofs.YtkffmaeiplgjeaaGreatDoor.MemL Go.Proofs.YtkffmaeiplgjeaaGreatDoor.MemC Go.Proofs.YtkffmaeiplgjeaaGreatDoor.PutC Go.Proofs.YtkffmaeiplgjeaaGreatDoor.MemC3
set_option linter.unusedVariables false
set_option linter.unusedSimpArgs false
/-- a memory's cells, but for those of some places -/
def clearM (xs : List (Int × Int)) (lo hi : Int) : List (Int × Int) := xs.take (lb xs lo) ++ xs.drop (lb xs hi)
theorem sl_take {w : World} {v : Value} {xs : List (Int × Int)} (h : Sl w v xs.length 2 (fl xs)) (k : Nat) (hk : k ≤ xs.length) (a : Option Addr) (c : Nat) (hv : v = .slice a xs.length c) : Sl w (.slice a k c) k 2 (fl (xs.take k)) := by
  obtain ⟨h1, h2⟩ := h
  refine ⟨by rw [fl_length, List.length_take]; omega, ?_⟩
  rcases h2 with ⟨e, hn⟩ | ⟨b, o, cap, e, h3, h4, h5, h6⟩
  · rw [hv] at e
    simp only [Value.slice.injEq] at e
    exact .inl ⟨by rw [e.1, e.2.2, show k = 0 by omega], by omega⟩
  · rw [hv] at e
    simp only [Value.slice.injEq, true_and] at e
    obtain ⟨rfl, rfl⟩ := e
    refine .inr ⟨b, o, _, rfl, h3, by omega, h5, fun i hi => ?_⟩
    rw [h6 i (by omega), ← fl_take, List.getElem?_take_of_lt hi]
theorem sl_drop {w : World} {xs : List (Int × Int)} {b o cap : Nat} (h : Sl w (.slice (some ⟨b, o, none⟩) xs.length cap) xs.length 2 (fl xs)) (k : Nat) (hk : k ≤ xs.length) (a : Option Addr) (ha : a = if cap = k then some ⟨b, o, none⟩ else some ⟨b, o + k * 2, none⟩) :
    Sl w (.slice a (xs.length - k) (cap - k)) (xs.length - k) 2 (fl (xs.drop k)) := by
  obtain ⟨h1, h2⟩ := h
  refine ⟨by rw [fl_length, List.length_drop], ?_⟩
  rcases h2 with ⟨e, hn⟩ | ⟨b', o', cap', e, h3, h4, h5, h6⟩
  · cases e
  · cases e
    by_cases hc : cap = k
    · rw [if_pos hc] at ha
      subst ha
      exact .inr ⟨b, o, _, rfl, h3, by omega, by omega, fun i hi => by omega⟩
    · rw [if_neg hc] at ha
      subst ha
      refine .inr ⟨b, _, _, rfl, h3, by omega, by omega, fun i hi => ?_⟩
      rw [show o + k * 2 + i = o + (k * 2 + i) by omega, h6 (k * 2 + i) (by omega), ← fl_drop, List.getElem?_drop]
/-- memory alone was made -/
structure CM (W : World) (m : Nat) (w' : World) : Prop where
  size : m ≤ w'.heap.size
  bel : Below W.heap.size W w'
theorem CM.below {W : World} {m : Nat} {w w' : World} (h : CM W m w) (b : Below w.heap.size w w') : CM W m w' := ⟨Nat.le_trans h.size b.size, bel_trans h.bel b⟩
set_option maxHeartbeats 4000000 in
theorem clear_calls (sz : Int) (v : Value) (xs : List (Int × Int)) (a n : Int) (W : World) (ha : U a) (hn : U n) (hsum : a + n < 18446744073709551616) (hs : Srt xs) (hbig : (xs.length + 1) * 32 ≤ 140737488355328) (hv : Sl W v xs.length 2 (fl xs)) :
    Calls Tryz.prog 99 #[.agg #[.int .u64 sz, v], .int .u64 a, .int .u64 n] W fun e w' => ∃ v', e = .returned (.agg #[.int .u64 sz, v']) ∧ w'.ownsRow W.heap.size 116 2 v' (clearM xs (a / 8) ((a + n) / 8)).length (fl (clearM xs (a / 8) ((a + n) / 8))) ∧ Below W.heap.size W w' := by
  have B0 := bel_alloc (bel_alloc (Below.refl W.heap.size W) (.cells #[.int .u64 sz, v] 29)) (.cells #[.int .u64 0, .slice none 0 0] 29)
  have X0 : Bx ((W.alloc (.cells #[.int .u64 sz, v] 29)).alloc (.cells #[.int .u64 0, .slice none 0 0] 29)) W.heap.size #[.int .u64 sz, v] := Bx.alloc Bx.new
  have X1 : Bx ((W.alloc (.cells #[.int .u64 sz, v] 29)).alloc (.cells #[.int .u64 0, .slice none 0 0] 29)) (W.heap.size + 1) #[.int .u64 0, .slice none 0 0] := bx_new1
  have hlo := lb_le xs (a / 8)
  have hhi := lb_le xs ((a + n) / 8)
  obtain ⟨a0, a1⟩ := ha
  obtain ⟨n0, n1⟩ := hn
  have d1 : IntKind.u64.wrap (a.tdiv 8) = a / 8 := by rw [wrap_u64, Int.tdiv_eq_ediv_of_nonneg a0]; omega
  have d2 : IntKind.u64.wrap (a + n) = a + n := by rw [wrap_u64]; omega
  have d3 : IntKind.u64.wrap ((a + n).tdiv 8) = (a + n) / 8 := by rw [wrap_u64, Int.tdiv_eq_ediv_of_nonneg (by omega)]; omega
  go_enter Tryz.func99, Tryz.ntmps99
  go_wp2_with fail
  refine (find_calls sz v xs (a / 8) _ hs (hv.below B0)).mono ?_
  rintro e w1 ⟨rfl, b1⟩
  have B1 := bel_trans B0 b1
  have Y0 := X0.below b1
  have Y1 := X1.below b1
  clear X0 X1 b1 B0
  have y00 : w1.cell? ⟨W.heap.size, 0, none⟩ = some (.int .u64 sz) := Y0.cell 0
  have y01 : w1.cell? ⟨W.heap.size, 1, none⟩ = some v := Y0.cell 1
  go_wp2_with fail
  refine (find_calls sz v xs ((a + n) / 8) _ hs (hv.below B1)).mono ?_
  rintro e w2 ⟨rfl, b2⟩
  have B2 := bel_trans B1 b2
  have Z0 := Y0.below b2
  have Z1 := Y1.below b2
  clear Y0 Y1 b2 B1 y00 y01 d1 d2 d3
  have hsz := Z1.lt
  have hM := Lib.hid (show clearM xs (a / 8) ((a + n) / 8) = xs.take (lb xs (a / 8)) ++ xs.drop (lb xs ((a + n) / 8)) from rfl)
  generalize lb xs (a / 8) = lo at *
  generalize lb xs ((a + n) / 8) = hi at *
  go_wp2_with fail
  have hs0 := hv
  obtain ⟨_, ⟨rfl, hn0⟩ | ⟨b, o, cap, rfl, hb, hcap, hmax, hcell⟩⟩ := hs0
  · obtain rfl : xs = [] := List.eq_nil_of_length_eq_zero hn0
    obtain rfl : lo = 0 := by simpa using hlo
    obtain rfl : hi = 0 := by simpa using hhi
    refine RegR.region_from (Θ := Option Addr × Nat) [0, 0, 0, 0, 0, 0, 0, 0, 1, 4, 0, 3] [0, 1, 2, 3, 4, 5, 6, 7, 10, 8, 9, 11]
      (CM W w2.heap.size)
      (fun i t => if i = 8 then .slice t.1 2 2 else .slice t.1 (clearM [] (a / 8) ((a + n) / 8)).length t.2)
      (fun i t w' => if i = 8 then ∃ nb, t.1 = some ⟨nb, 0, none⟩ ∧ Bx w' nb #[.slice none 0 0, .slice none 0 0]
        else w'.ownsRow w2.heap.size 116 2 (.slice t.1 (clearM [] (a / 8) ((a + n) / 8)).length t.2) (clearM [] (a / 8) ((a + n) / 8)).length (fl (clearM [] (a / 8) ((a + n) / 8))))
      (by kernel_rfl) (by kernel_rfl) (fun w w' h b => h.below b) ?_
      ⟨Nat.le_refl _, bel_trans B2 (bel_one w2)⟩ (fun w => Bx w W.heap.size #[.int .u64 sz, .slice none 0 0] ∧ Bx w (W.heap.size + 1) #[.int .u64 0, .slice none 0 0]) (fun w w' h b => ⟨h.1.below b, h.2.below b⟩) ⟨Z0.drew, Z1.drew⟩ ?_
    · intro i t w w' h bb
      by_cases hi8 : i = 8
      · simp only [hi8, if_true] at h ⊢
        obtain ⟨nb, e1, e2⟩ := h
        exact ⟨nb, e1, e2.below bb⟩
      · simp only [hi8, if_false] at h ⊢
        exact owns_below h bb
    repeat (with_reducible refine RegR.can0 _ rfl rfl (fun K hK => ?_)
            go_simp
            first
              | (refine hK _ ?_; clear hK K)
              | (refine ⟨_, fun _ _ => rfl, hK _ ?_⟩; clear hK K)
              | (refine ⟨_, fun _ _ _ => rfl, hK _ ?_⟩; clear hK K)
              | (refine ⟨_, fun _ _ _ _ => rfl, hK _ ?_⟩; clear hK K)
              | (refine ⟨.slice none 0 0, fun w _ hd _ => ?_, hK _ ?_⟩
                 · have y1 := hd.cell 1
                   simp at y1
                   go_simp
                 clear hK K))
    refine RegR.can1_run _ rfl rfl rfl (fun w hc => ⟨(some ⟨w.heap.size, 0, none⟩, 0), w.alloc (.cells #[.slice none 0 0, .slice none 0 0] 27), by kernel_rfl, (Below.refl _ _).alloc (Nat.le_refl _) _, ⟨w.heap.size, rfl, Bx.new⟩⟩) (fun t ht => ?_)
    obtain ⟨_, _, _, nb, ht, _⟩ := ht
    obtain ⟨t1, t2⟩ := t
    simp only at ht
    subst ht
    refine RegR.can4_call _ rfl rfl rfl 121 #[.slice (some ⟨nb, 0, none⟩) 2 2] (fun w => by kernel_rfl) (fun w hc hd => ?_) (fun t => ?_)
    · obtain ⟨_, hd⟩ := hd
      simp only [if_true] at hd
      obtain ⟨nb', e1, e2⟩ := hd
      simp only [Option.some.injEq, Addr.mk.injEq, and_true] at e1
      subst e1
      have hvw := hv.below hc.bel
      refine (Go.Proofs.YtkffmaeiplgjeaaGreatDoor.ConcatCell.concat_calls nb _ _ 0 0 (fl []) (fl []) w e2 ⟨rfl, .inl ⟨rfl, rfl⟩⟩ ⟨rfl, .inl ⟨rfl, rfl⟩⟩ (fl_one _) (fl_one _) (by omega)).mono ?_
      rintro e w' ⟨v', rfl, hown, hb'⟩
      have hlen : 0 + 0 = (clearM [] (a / 8) ((a + n) / 8)).length := by rw [hM.out]; rfl
      rw [hlen, ← fl_append, show ([] : List (Int × Int)) ++ [] = clearM [] (a / 8) ((a + n) / 8) by rw [hM.out]; rfl] at hown
      obtain ⟨p, q, rfl⟩ := owns_slice hown
      exact ⟨(p, q), rfl, hb', owns_le hc.size hown⟩
    obtain ⟨p, q⟩ := t
    simp only [if_true, show ¬ ((9 : Nat) = 8) by decide, if_false]
    refine RegR.can3s _ rfl rfl rfl rfl (fun w => Bx w W.heap.size #[.int .u64 sz, .slice p (clearM [] (a / 8) ((a + n) / 8)).length q] ∧ Bx w (W.heap.size + 1) #[.int .u64 0, .slice none 0 0] ∧ w.ownsRow w2.heap.size 116 2 (.slice p (clearM [] (a / 8) ((a + n) / 8)).length q) (clearM [] (a / 8) ((a + n) / 8)).length (fl (clearM [] (a / 8) ((a + n) / 8))))
      (fun w w' h b => ⟨h.1.below b, h.2.1.below b, owns_below h.2.2 b⟩) (fun w hc hd => ⟨w.setCell ⟨W.heap.size, 1, none⟩ (.slice p (clearM [] (a / 8) ((a + n) / 8)).length q), ?_, ?_, ?_, ?_, ?_⟩) ?_
    · have f := hd.1.1.1.free 1
      have y1 := hd.1.1.1.cell 1
      simp at y1
      clear hd
      go_simp
    · exact ⟨by have := hc.size; simpa [World.setCell] using this, bel_setCell _ _ _ (Nat.le_refl _) hc.bel⟩
    · exact hd.1.1.1.set_same
    · exact hd.1.1.2.set_far (by omega)
    · exact owns_down hd.2 _ _ (by omega) _
    intro w3 C3 D3
    obtain ⟨T0, T1, O3⟩ := D3
    have B3 := C3.bel
    have f0 := T0.free
    have z0 : w3.cell? ⟨W.heap.size, 0, none⟩ = some (.int .u64 sz) := T0.cell 0
    have z1 : w3.cell? ⟨W.heap.size, 1, none⟩ = some (.slice p (clearM [] (a / 8) ((a + n) / 8)).length q) := T0.cell 1
    have g0 := T1.free
    have q0 : w3.cell? ⟨W.heap.size + 1, 0, none⟩ = some (.int .u64 0) := T1.cell 0
    have q1 : w3.cell? ⟨W.heap.size + 1, 1, none⟩ = some (.slice none 0 0) := T1.cell 1
    clear C3
    go_wp2
    refine bodyPost_ret (v := .agg #[.int .u64 sz, .slice p (clearM [] (a / 8) ((a + n) / 8)).length q]) (by simp [results, Tryz.results99, go_sem, q0, q1]) rfl ⟨_, rfl, ?_, ?_⟩
    · exact owns_le (by omega) (owns_down (owns_down O3 (W.heap.size + 1) 0 (by omega) (.int .u64 sz)) (W.heap.size + 1) 1 (by omega) (.slice p (clearM [] (a / 8) ((a + n) / 8)).length q))
    · exact bel_setCell _ _ _ (by omega) (bel_setCell _ _ _ (by omega) B3)
  · unfold maxLen at hmax
    clear hcell
    have hlc : lo ≤ cap := by omega
    have hhc : hi ≤ cap := by omega
    refine RegR.region_from (Θ := Option Addr × Nat) [0, 0, 0, 0, 0, 0, 0, 0, 1, 4, 0, 3] [0, 1, 2, 3, 4, 5, 6, 7, 10, 8, 9, 11]
      (CM W w2.heap.size)
      (fun i t => if i = 8 then .slice t.1 2 2 else .slice t.1 (clearM xs (a / 8) ((a + n) / 8)).length t.2)
      (fun i t w' => if i = 8 then ∃ nb, t.1 = some ⟨nb, 0, none⟩ ∧ Bx w' nb #[.slice (some ⟨b, o, none⟩) lo cap, .slice (if cap = hi then some ⟨b, o, none⟩ else some ⟨b, o + hi * 2, none⟩) (xs.length - hi) (cap - hi)]
        else w'.ownsRow w2.heap.size 116 2 (.slice t.1 (clearM xs (a / 8) ((a + n) / 8)).length t.2) (clearM xs (a / 8) ((a + n) / 8)).length (fl (clearM xs (a / 8) ((a + n) / 8))))
      (by kernel_rfl) (by kernel_rfl) (fun w w' h b => h.below b) ?_
      ⟨Nat.le_refl _, bel_trans B2 (bel_one w2)⟩ (fun w => Bx w W.heap.size #[.int .u64 sz, .slice (some ⟨b, o, none⟩) xs.length cap] ∧ Bx w (W.heap.size + 1) #[.int .u64 0, .slice none 0 0]) (fun w w' h b => ⟨h.1.below b, h.2.below b⟩) ⟨Z0.drew, Z1.drew⟩ ?_
    · intro i t w w' h bb
      by_cases hi8 : i = 8
      · simp only [hi8, if_true] at h ⊢
        obtain ⟨nb, e1, e2⟩ := h
        exact ⟨nb, e1, e2.below bb⟩
      · simp only [hi8, if_false] at h ⊢
        exact owns_below h bb
    repeat (with_reducible refine RegR.can0 _ rfl rfl (fun K hK => ?_)
            go_simp
            first
              | (refine hK _ ?_; clear hK K)
              | (refine ⟨_, fun _ _ => rfl, hK _ ?_⟩; clear hK K)
              | (refine ⟨_, fun _ _ _ => rfl, hK _ ?_⟩; clear hK K)
              | (refine ⟨_, fun _ _ _ _ => rfl, hK _ ?_⟩; clear hK K)
              | (refine ⟨.slice (some ⟨b, o, none⟩) xs.length cap, fun w _ hd _ => ?_, hK _ ?_⟩
                 · have y1 := hd.cell 1
                   simp at y1
                   go_simp
                 clear hK K))
    generalize hA : (if cap = hi then (some ⟨b, o, none⟩ : Option Addr) else some ⟨b, o + hi * 2, none⟩) = A at *
    have HA := Lib.hid hA.symm
    clear hA
    refine RegR.can1_run _ rfl rfl rfl (fun w hc => ⟨(some ⟨w.heap.size, 0, none⟩, 0), w.alloc (.cells #[.slice (some ⟨b, o, none⟩) lo cap, .slice A (xs.length - hi) (cap - hi)] 27), by kernel_rfl, (Below.refl _ _).alloc (Nat.le_refl _) _, ⟨w.heap.size, rfl, Bx.new⟩⟩) (fun t ht => ?_)
    obtain ⟨_, _, _, nb, ht, _⟩ := ht
    obtain ⟨t1, t2⟩ := t
    simp only at ht
    subst ht
    refine RegR.can4_call _ rfl rfl rfl 121 #[.slice (some ⟨nb, 0, none⟩) 2 2] (fun w => by kernel_rfl) (fun w hc hd => ?_) (fun t => ?_)
    · obtain ⟨_, hd⟩ := hd
      simp only [if_true] at hd
      obtain ⟨nb', e1, e2⟩ := hd
      simp only [Option.some.injEq, Addr.mk.injEq, and_true] at e1
      subst e1
      have hvw := hv.below hc.bel
      refine (Go.Proofs.YtkffmaeiplgjeaaGreatDoor.ConcatCell.concat_calls nb _ _ lo (xs.length - hi) (fl (xs.take lo)) (fl (xs.drop hi)) w e2 (sl_take hvw lo hlo _ _ rfl) (sl_drop hvw hi hhi _ HA.out) (fl_one _) (fl_one _) (by omega)).mono ?_
      rintro e w' ⟨v', rfl, hown, hb'⟩
      have hlen : lo + (xs.length - hi) = (clearM xs (a / 8) ((a + n) / 8)).length := by rw [hM.out, List.length_append, List.length_take, List.length_drop]; omega
      rw [hlen, ← fl_append, ← hM.out] at hown
      obtain ⟨p, q, rfl⟩ := owns_slice hown
      exact ⟨(p, q), rfl, hb', owns_le hc.size hown⟩
    obtain ⟨p, q⟩ := t
    simp only [if_true, show ¬ ((9 : Nat) = 8) by decide, if_false]
    refine RegR.can3s _ rfl rfl rfl rfl (fun w => Bx w W.heap.size #[.int .u64 sz, .slice p (clearM xs (a / 8) ((a + n) / 8)).length q] ∧ Bx w (W.heap.size + 1) #[.int .u64 0, .slice none 0 0] ∧ w.ownsRow w2.heap.size 116 2 (.slice p (clearM xs (a / 8) ((a + n) / 8)).length q) (clearM xs (a / 8) ((a + n) / 8)).length (fl (clearM xs (a / 8) ((a + n) / 8))))
      (fun w w' h b => ⟨h.1.below b, h.2.1.below b, owns_below h.2.2 b⟩) (fun w hc hd => ⟨w.setCell ⟨W.heap.size, 1, none⟩ (.slice p (clearM xs (a / 8) ((a + n) / 8)).length q), ?_, ?_, ?_, ?_, ?_⟩) ?_
    · have f := hd.1.1.1.free 1
      have y1 := hd.1.1.1.cell 1
      simp at y1
      clear hd
      go_simp
    · exact ⟨by have := hc.size; simpa [World.setCell] using this, bel_setCell _ _ _ (Nat.le_refl _) hc.bel⟩
    · exact hd.1.1.1.set_same
    · exact hd.1.1.2.set_far (by omega)
    · exact owns_down hd.2 _ _ (by omega) _
    intro w3 C3 D3
    obtain ⟨T0, T1, O3⟩ := D3
    have B3 := C3.bel
    have f0 := T0.free
    have z0 : w3.cell? ⟨W.heap.size, 0, none⟩ = some (.int .u64 sz) := T0.cell 0
    have z1 : w3.cell? ⟨W.heap.size, 1, none⟩ = some (.slice p (clearM xs (a / 8) ((a + n) / 8)).length q) := T0.cell 1
    have g0 := T1.free
    have q0 : w3.cell? ⟨W.heap.size + 1, 0, none⟩ = some (.int .u64 0) := T1.cell 0
    have q1 : w3.cell? ⟨W.heap.size + 1, 1, none⟩ = some (.slice none 0 0) := T1.cell 1
    clear C3
    go_wp2
    refine bodyPost_ret (v := .agg #[.int .u64 sz, .slice p (clearM xs (a / 8) ((a + n) / 8)).length q]) (by simp [results, Tryz.results99, go_sem, q0, q1]) rfl ⟨_, rfl, ?_, ?_⟩
    · exact owns_le (by omega) (owns_down (owns_down O3 (W.heap.size + 1) 0 (by omega) (.int .u64 sz)) (W.heap.size + 1) 1 (by omega) (.slice p (clearM xs (a / 8) ((a + n) / 8)).length q))
    · exact bel_setCell _ _ _ (by omega) (bel_setCell _ _ _ (by omega) B3)
end Go.Proofs.YtkffmaeiplgjeaaGreatDoor.ClearC
/- The contracts of table.place, table.clear. -/
namespace Go.Proofs.YtkffmaeiplgjeaaGreatDoor.TableC
open Go.RowKit Go.Proofs.YtkffmaeiplgjeaaGreatDoor.Bv Go.Proofs.YtkffmaeiplgjeaaGreatDoor.Base Go.Proofs.YtkffmaeiplgjeaaGreatDoor.MemL Go.Proofs.YtkffmaeiplgjeaaGreatDoor.MemC Go.Proofs.YtkffmaeiplgjeaaGreatDoor.PutC Go.Proofs.YtkffmaeiplgjeaaGreatDoor.MemC3 Go.Proofs.YtkffmaeiplgjeaaGreatDoor.ClearC
set_option linter.unusedVariables false
set_option linter.unusedSimpArgs false
theorem place_calls (f i : Int) (W : World) (hf : 0 ≤ f ∧ f < 1099511627776) (hi : 0 ≤ i ∧ i < 512) :
    Calls Tryz.prog 88 #[.int .u64 f, .int .i64 i] W fun e w' => e = .returned (.int .u64 (f * 4096 + i * 8)) ∧ Q W w' := by
  obtain ⟨f0, f1⟩ := hf
  obtain ⟨i0, i1⟩ := hi
  have d1 : IntKind.u64.wrap (f * 4096) = f * 4096 := by rw [wrap_u64]; omega
  have d2 : IntKind.u64.wrap i = i := by rw [wrap_u64]; omega
  have d3 : IntKind.u64.wrap (i * 8) = i * 8 := by rw [wrap_u64]; omega
  have d4 : IntKind.u64.wrap (f * 4096 + i * 8) = f * 4096 + i * 8 := by rw [wrap_u64]; omega
  go_enter Tryz.func88, Tryz.ntmps88
  go_wp2
  go_ret
  exact ⟨rfl, Q.refl _⟩
/-- a memory's cells, a frame's words 0 -/
def wipeM (xs : List (Int × Int)) (f : Int) : List (Int × Int) := clearM xs (f * 512) (f * 512 + 512)
set_option maxHeartbeats 4000000 in
theorem wipe_calls (sz : Int) (v : Value) (xs : List (Int × Int)) (f : Int) (W : World) (hf : 0 ≤ f ∧ f < 1099511627776) (hs : Srt xs) (hbig : (xs.length + 1) * 32 ≤ 140737488355328) (hv : Sl W v xs.length 2 (fl xs)) :
    Calls Tryz.prog 67 #[.agg #[.int .u64 sz, v], .int .u64 f] W fun e w' => ∃ v', e = .returned (.agg #[.int .u64 sz, v']) ∧ w'.ownsRow W.heap.size 116 2 v' (wipeM xs f).length (fl (wipeM xs f)) ∧ Below W.heap.size W w' := by
  have B0 := bel_alloc (bel_alloc (Below.refl W.heap.size W) (.cells #[.int .u64 sz, v] 29)) (.cells #[.int .u64 0, .slice none 0 0] 29)
  have X1 : Bx ((W.alloc (.cells #[.int .u64 sz, v] 29)).alloc (.cells #[.int .u64 0, .slice none 0 0] 29)) (W.heap.size + 1) #[.int .u64 0, .slice none 0 0] := bx_new1
  obtain ⟨f0, f1⟩ := hf
  have d1 : IntKind.u64.wrap (f * 4096) = f * 4096 := by rw [wrap_u64]; omega
  have hw : wipeM xs f = clearM xs (f * 4096 / 8) ((f * 4096 + 4096) / 8) := by unfold wipeM; congr 1 <;> omega
  have HW := Lib.hid hw
  clear hw
  go_enter Tryz.func67, Tryz.ntmps67
  go_wp2_with fail
  refine (clear_calls sz v xs (f * 4096) 4096 _ ⟨by omega, by omega⟩ ⟨by omega, by omega⟩ (by omega) hs hbig (hv.below B0)).mono ?_
  rintro e w1 ⟨v1, rfl, O1, b1⟩
  obtain ⟨p, q, rfl⟩ := owns_slice O1
  have B1 := bel_trans B0 b1
  have Y1 := X1.below b1
  have hl := Y1.lt
  have hsz : ((W.alloc (.cells #[.int .u64 sz, v] 29)).alloc (.cells #[.int .u64 0, .slice none 0 0] 29)).heap.size = W.heap.size + 2 := by rw [World.size_alloc, World.size_alloc]
  rw [hsz] at O1
  have g0 := Y1.free
  have q0 : w1.cell? ⟨W.heap.size + 1, 0, none⟩ = some (.int .u64 0) := Y1.cell 0
  have q1 : w1.cell? ⟨W.heap.size + 1, 1, none⟩ = some (.slice none 0 0) := Y1.cell 1
  clear X1 Y1 b1 B0
  rw [← HW.out] at O1
  have e1 : clearM xs (f * 4096 / 8) ((f * 4096 + 4096) / 8) = wipeM xs f := HW.out.symm
  rw [e1]
  clear e1
  go_wp2
  refine bodyPost_ret (v := .agg #[.int .u64 sz, .slice p (wipeM xs f).length q]) (by simp [results, Tryz.results67, go_sem, q0, q1]) rfl ⟨_, rfl, ?_, ?_⟩
  · exact owns_le (by omega) (owns_down (owns_down O1 (W.heap.size + 1) 0 (by omega) (.int .u64 sz)) (W.heap.size + 1) 1 (by omega) (.slice p (wipeM xs f).length q))
  · exact bel_setCell _ _ _ (by omega) (bel_setCell _ _ _ (by omega) B1)
end Go.Proofs.YtkffmaeiplgjeaaGreatDoor.TableC
/- The contracts of mem.Right (of a memory without cells) and mem.New. -/
namespace Go.Proofs.YtkffmaeiplgjeaaGreatDoor.MemNewC
open Go.RowKit Go.Proofs.YtkffmaeiplgjeaaGreatDoor.Bv Go.Proofs.YtkffmaeiplgjeaaGreatDoor.Base Go.Proofs.YtkffmaeiplgjeaaGreatDoor.MemL
open Go.Proofs.YtkffmaeiplgjeaaGreatDoor.BitsC
set_option linter.unusedVariables false
set_option linter.unusedSimpArgs false
/-- whether a memory may have so many bytes -/
def rightN (sz : Int) : Bool := evenI sz 4096 && decide (sz ≤ 1099511627776)
set_option maxHeartbeats 2000000 in
theorem right_calls (sz : Int) (W : World) (hz : U sz) :
    Calls Tryz.prog 62 #[.agg #[.int .u64 sz, .slice none 0 0]] W fun e w' => e = .returned (.bool (rightN sz)) ∧ Below W.heap.size W w' := by
  have HR := Lib.hid (show rightN sz = (evenI sz 4096 && decide (sz ≤ 1099511627776)) from rfl)
  have B0 := bel_alloc (Below.refl W.heap.size W) (.cells #[.int .u64 sz, .slice none 0 0] 29)
  have X0 : Bx (W.alloc (.cells #[.int .u64 sz, .slice none 0 0] 29)) W.heap.size #[.int .u64 sz, .slice none 0 0] := Bx.new
  go_enter Tryz.func62, Tryz.ntmps62
  go_wp2
  go_loopw [8] (fun i wr => i = .int .i64 0 ∧ Bx wr W.heap.size #[.int .u64 sz, .slice none 0 0] ∧ Below W.heap.size W wr) (fun i _ => 0)
  case atStart => exact ⟨rfl, X0, B0⟩
  case round =>
    obtain ⟨rfl, Y0, br⟩ := hrel
    have y0 : wr.cell? ⟨W.heap.size, 0, none⟩ = some (.int .u64 sz) := Y0.cell 0
    have y1 : wr.cell? ⟨W.heap.size, 1, none⟩ = some (.slice none 0 0) := Y0.cell 1
    clear X0 B0
    go_wp2_with fail
    refine (even_calls sz 4096 _ hz ⟨by omega, by omega⟩).mono ?_
    rintro e w2 ⟨rfl, q2⟩
    have B2 := Q.bel br q2
    have z0 : w2.cell? ⟨W.heap.size, 0, none⟩ = some (.int .u64 sz) := (Y0.below q2.below).cell 0
    clear y0 y1 Y0 br q2
    cases h : evenI sz 4096
    · have H := Lib.hid h
      clear h
      go_wp2
      go_ret
      exact ⟨by rw [HR.out, H.out]; rfl, B2⟩
    · have H := Lib.hid h
      clear h
      go_wp2
      go_ret
      exact ⟨by rw [HR.out, H.out]; rfl, B2⟩
theorem bx_new1 {w : World} {o : Obj} {c : Array Value} {T : TypeId} : Bx ((w.alloc o).alloc (.cells c T)) (w.heap.size + 1) c := by
  have h : (w.alloc o).heap.size = w.heap.size + 1 := by unfold World.alloc; rw [Array.size_push]
  have := @Bx.new (w.alloc o) c T
  rwa [h] at this
/-- what comes of mem.New -/
def newV (sz : Int) : Value := if rightN sz then .tuple #[.agg #[.int .u64 sz, .slice none 0 0], .int .i64 0] else .tuple #[.agg #[.int .u64 0, .slice none 0 0], .int .i64 1]
set_option maxHeartbeats 2000000 in
theorem new_calls (sz : Int) (W : World) (hz : U sz) :
    Calls Tryz.prog 26 #[.int .u64 sz] W fun e w' => e = .returned (newV sz) ∧ Below W.heap.size W w' := by
  have B0 := bel_alloc (bel_alloc (Below.refl W.heap.size W) (.cells #[.int .u64 0, .slice none 0 0] 29)) (.cells #[.int .u64 sz, .slice none 0 0] 29)
  go_enter Tryz.func26, Tryz.ntmps26
  go_wp2_with fail
  have X0 : Bx ((W.alloc (.cells #[.int .u64 0, .slice none 0 0] 29)).alloc (.cells #[.int .u64 sz, .slice none 0 0] 29)) W.heap.size #[.int .u64 0, .slice none 0 0] := Bx.alloc Bx.new
  have X1 : Bx ((W.alloc (.cells #[.int .u64 0, .slice none 0 0] 29)).alloc (.cells #[.int .u64 sz, .slice none 0 0] 29)) (W.heap.size + 1) #[.int .u64 sz, .slice none 0 0] := bx_new1
  refine (right_calls sz _ hz).mono ?_
  rintro e w1 ⟨rfl, b1⟩
  have B1 := bel_trans B0 b1
  have Y0 := X0.below b1
  have Y1 := X1.below b1
  have hl := Y1.lt
  have f0 := Y0.free
  have q0 : w1.cell? ⟨W.heap.size, 0, none⟩ = some (.int .u64 0) := Y0.cell 0
  have q1 : w1.cell? ⟨W.heap.size, 1, none⟩ = some (.slice none 0 0) := Y0.cell 1
  have z0 : w1.cell? ⟨W.heap.size + 1, 0, none⟩ = some (.int .u64 sz) := Y1.cell 0
  have z1 : w1.cell? ⟨W.heap.size + 1, 1, none⟩ = some (.slice none 0 0) := Y1.cell 1
  clear X0 X1 Y0 Y1 b1 B0
  cases h : rightN sz
  · have H := Lib.hid (show newV sz = .tuple #[.agg #[.int .u64 0, .slice none 0 0], .int .i64 1] by unfold newV; rw [h]; rfl)
    clear h
    go_wp2
    exact bodyPost_ret (v := .tuple #[.agg #[.int .u64 0, .slice none 0 0], .int .i64 1]) (by simp [results, Tryz.results26, go_sem, q0, q1]) rfl ⟨by rw [H.out], bel_setCell _ _ _ (by omega) (bel_setCell _ _ _ (by omega) B1)⟩
  · have H := Lib.hid (show newV sz = .tuple #[.agg #[.int .u64 sz, .slice none 0 0], .int .i64 0] by unfold newV; rw [h]; rfl)
    clear h
    go_wp2
    exact bodyPost_ret (v := .tuple #[.agg #[.int .u64 sz, .slice none 0 0], .int .i64 0]) (by simp [results, Tryz.results26, go_sem, q0, q1]) rfl ⟨by rw [H.out], bel_setCell _ _ _ (by omega) (bel_setCell _ _ _ (by omega) B1)⟩
end Go.Proofs.YtkffmaeiplgjeaaGreatDoor.MemNewC
/- The contracts of package pool. -/
namespace Go.Proofs.YtkffmaeiplgjeaaGreatDoor.PoolC
open Go.RowKit Go.Proofs.YtkffmaeiplgjeaaGreatDoor.Bv Go.Proofs.YtkffmaeiplgjeaaGreatDoor.Base Go.Proofs.YtkffmaeiplgjeaaGreatDoor.MemL
open Go.Proofs.YtkffmaeiplgjeaaGreatDoor.BitsC Go.Proofs.YtkffmaeiplgjeaaGreatDoor.MemNewC
set_option linter.unusedVariables false
set_option linter.unusedSimpArgs false
/-- whether a frame is one of a pool -/
def inP (base many f : Int) : Bool := decide (base ≤ f) && decide (f - base < many)
def isP (base many free f : Int) : Bool := inP base many f && (getI free (f - base) 1 == 0)
theorem in_calls (base many free f : Int) (W : World) (hb : U base) (hf : U f) (hm : 0 ≤ many ∧ many ≤ 64) :
    Calls Tryz.prog 144 #[.agg #[.int .u64 base, .int .i64 many, .int .u64 free], .int .u64 f] W fun e w' => e = .returned (.bool (inP base many f)) ∧ Below W.heap.size W w' := by
  have HI := Lib.hid (show inP base many f = (decide (base ≤ f) && decide (f - base < many)) from rfl)
  obtain ⟨b0, b1⟩ := hb
  obtain ⟨f0, f1⟩ := hf
  obtain ⟨m0, m1⟩ := hm
  have d1 : IntKind.u64.wrap many = many := by rw [wrap_u64]; omega
  by_cases h : base ≤ f
  · have d2 : IntKind.u64.wrap (f - base) = f - base := by rw [wrap_u64]; omega
    go_enter Tryz.func144, Tryz.ntmps144
    go_wp2
    go_ret
    exact ⟨by rw [HI.out]; simp [h, go_sem], bel_alloc (Below.refl _ _) _⟩
  · go_enter Tryz.func144, Tryz.ntmps144
    go_wp2
    go_ret
    exact ⟨by rw [HI.out, show decide (base ≤ f) = false by simp; omega]; rfl, bel_alloc (Below.refl _ _) _⟩
theorem inP_b {base many f : Int} (h : inP base many f = true) (hm : many ≤ 64) : 0 ≤ f - base ∧ f - base < many := by
  unfold inP at h
  simp at h
  omega
theorem is_calls (base many free f : Int) (W : World) (hb : U base) (hf : U f) (hm : 0 ≤ many ∧ many ≤ 64) (hr : U free) :
    Calls Tryz.prog 132 #[.agg #[.int .u64 base, .int .i64 many, .int .u64 free], .int .u64 f] W fun e w' => e = .returned (.bool (isP base many free f)) ∧ Below W.heap.size W w' := by
  have HI := Lib.hid (show isP base many free f = (inP base many f && (getI free (f - base) 1 == 0)) from rfl)
  have X0 : Bx (W.alloc (.cells #[.int .u64 base, .int .i64 many, .int .u64 free] 38)) W.heap.size #[.int .u64 base, .int .i64 many, .int .u64 free] := Bx.new
  go_enter Tryz.func132, Tryz.ntmps132
  go_wp2_with fail
  refine (in_calls base many free f _ hb hf hm).mono ?_
  rintro e w1 ⟨rfl, b1⟩
  have B1 := bel_trans (bel_alloc (Below.refl W.heap.size W) (.cells #[.int .u64 base, .int .i64 many, .int .u64 free] 38)) b1
  have Y0 := X0.below b1
  have y0 : w1.cell? ⟨W.heap.size, 0, none⟩ = some (.int .u64 base) := Y0.cell 0
  have y2 : w1.cell? ⟨W.heap.size, 2, none⟩ = some (.int .u64 free) := Y0.cell 2
  clear X0 Y0 b1
  cases h : inP base many f
  · have H := Lib.hid h
    clear h
    go_wp2
    go_ret
    exact ⟨by rw [HI.out, H.out]; rfl, B1⟩
  · obtain ⟨l0, l1⟩ := inP_b h hm.2
    have H := Lib.hid h
    clear h
    have d1 : IntKind.u64.wrap (f - base) = f - base := by rw [wrap_u64]; omega
    have d2 : IntKind.i64.wrap (f - base) = f - base := by rw [IntKind.wrap_i64]; omega
    go_wp2_with fail
    refine (get_calls free (f - base) 1 _ hr (by omega) (by omega) (by omega) (by omega)).mono ?_
    rintro e w2 ⟨rfl, q2⟩
    have B2 := Q.bel B1 q2
    go_wp2
    go_ret
    exact ⟨by rw [HI.out, H.out]; rfl, B2⟩
end Go.Proofs.YtkffmaeiplgjeaaGreatDoor.PoolC
/- The contracts of package pool, on. -/
namespace Go.Proofs.YtkffmaeiplgjeaaGreatDoor.PoolC2
open Go.RowKit Go.Proofs.YtkffmaeiplgjeaaGreatDoor.Bv Go.Proofs.YtkffmaeiplgjeaaGreatDoor.Base Go.Proofs.YtkffmaeiplgjeaaGreatDoor.MemL
open Go.Proofs.YtkffmaeiplgjeaaGreatDoor.BitsC Go.Proofs.YtkffmaeiplgjeaaGreatDoor.MemNewC Go.Proofs.YtkffmaeiplgjeaaGreatDoor.PoolC
set_option linter.unusedVariables false
set_option linter.unusedSimpArgs false
/-- whether a pool is -/
def rightP (base many free : Int) : Bool := decide (0 ≤ many) && decide (many ≤ 64) && decide (base ≤ 268435456) && (getI free 0 many == free)
structure CP (W : World) (c : Array Value) (w' : World) : Prop where
  box : Bx w' W.heap.size c
  bel : Below W.heap.size W w'
theorem CP.below {W : World} {c : Array Value} {w w' : World} (h : CP W c w) (b : Below w.heap.size w w') : CP W c w' := ⟨h.box.below b, bel_trans h.bel b⟩
set_option maxHeartbeats 4000000 in
theorem right_calls (base many free : Int) (W : World) (hb : U base) (hm : 0 ≤ many ∧ many ≤ 64) (hr : U free) :
    Calls Tryz.prog 63 #[.agg #[.int .u64 base, .int .i64 many, .int .u64 free]] W fun e w' => e = .returned (.bool (rightP base many free)) ∧ Below W.heap.size W w' := by
  have HI := Lib.hid (show rightP base many free = (decide (0 ≤ many) && decide (many ≤ 64) && decide (base ≤ 268435456) && (getI free 0 many == free)) from rfl)
  obtain ⟨m0, m1⟩ := hm
  cases hbb : decide (base ≤ 268435456)
  all_goals
    go_enter Tryz.func63, Tryz.ntmps63
    go_wp2_with fail
    refine RegR.region (Θ := Unit) [0, 0, 0, 0, 0, 0, 0, 0, 0, 0, 0, 0, 0, 0, 0, 0, 0, 0, 0, 0, 0, 0, 0, 0] [0, 1, 2, 3, 4, 5, 6, 7, 8, 9, 10, 11, 12, 13, 14, 15, 16, 17, 18, 19, 20, 21, 22, 23]
      (CP W #[.int .u64 base, .int .i64 many, .int .u64 free]) (fun _ _ => .bool true) (fun _ _ _ => True) (by kernel_rfl) (by kernel_rfl) (fun w w' h b => h.below b) (fun _ _ _ _ _ _ => trivial) ⟨Bx.new.drew, bel_drewN (bel_alloc (Below.refl _ _) _) 1⟩ ?_
    repeat (with_reducible refine RegR.can0 _ rfl rfl (fun K hK => ?_)
            go_simp
            first
              | (refine hK _ ?_; clear hK K)
              | (refine ⟨_, fun _ _ => rfl, hK _ ?_⟩; clear hK K)
              | (apply Exists.intro
                 refine ⟨fun w hc => ?_, hK _ ?_⟩
                 · have y0 := hc.box.cell 0
                   have y1 := hc.box.cell 1
                   have y2 := hc.box.cell 2
                   simp at y0 y1 y2
                   first
                     | exact (get_calls free 0 many w hr (by omega) (by omega) m0 m1).mono fun e w' h => ⟨h.1, h.2.below⟩
                     | (go_simp; done)
                     | (go_simp; rfl)
                     | (simp; omega)
                 clear hK K))
    intro w1 C1 _
    have B1 := C1.bel
    clear C1
    go_wp2
    go_ret
    exact ⟨by rw [HI.out]; simp only [m0, m1, hbb, decide_true, decide_false, Bool.true_and, Bool.false_and]; rfl, B1⟩
/-- what comes of pool.New -/
def newV (base many : Int) : Value := if rightP base many 0 then .tuple #[.agg #[.int .u64 base, .int .i64 many, .int .u64 (getI 18446744073709551615 0 many)], .int .i64 0] else .tuple #[.agg #[.int .u64 0, .int .i64 0, .int .u64 0], .int .i64 1]
set_option maxHeartbeats 4000000 in
theorem new_calls (base many : Int) (W : World) (hb : U base) (hm : 0 ≤ many ∧ many ≤ 64) :
    Calls Tryz.prog 27 #[.int .u64 base, .int .i64 many] W fun e w' => e = .returned (newV base many) ∧ Below W.heap.size W w' := by
  have B0 := bel_alloc (bel_alloc (Below.refl W.heap.size W) (.cells #[.int .u64 0, .int .i64 0, .int .u64 0] 38)) (.cells #[.int .u64 base, .int .i64 many, .int .u64 0] 38)
  have X0 : Bx ((W.alloc (.cells #[.int .u64 0, .int .i64 0, .int .u64 0] 38)).alloc (.cells #[.int .u64 base, .int .i64 many, .int .u64 0] 38)) W.heap.size #[.int .u64 0, .int .i64 0, .int .u64 0] := Bx.alloc Bx.new
  have X1 : Bx ((W.alloc (.cells #[.int .u64 0, .int .i64 0, .int .u64 0] 38)).alloc (.cells #[.int .u64 base, .int .i64 many, .int .u64 0] 38)) (W.heap.size + 1) #[.int .u64 base, .int .i64 many, .int .u64 0] := MemNewC.bx_new1
  go_enter Tryz.func27, Tryz.ntmps27
  go_wp2_with fail
  refine (right_calls base many 0 _ hb hm ⟨by omega, by omega⟩).mono ?_
  rintro e w1 ⟨rfl, b1⟩
  have B1 := bel_trans B0 b1
  have Y0 := X0.below b1
  have Y1 := X1.below b1
  have hl := Y1.lt
  clear X0 X1 b1 B0
  cases h : rightP base many 0
  · have H := Lib.hid (show newV base many = .tuple #[.agg #[.int .u64 0, .int .i64 0, .int .u64 0], .int .i64 1] by unfold newV; rw [h]; rfl)
    clear h
    have f0 := Y0.free
    have q0 : w1.cell? ⟨W.heap.size, 0, none⟩ = some (.int .u64 0) := Y0.cell 0
    have q1 : w1.cell? ⟨W.heap.size, 1, none⟩ = some (.int .i64 0) := Y0.cell 1
    have q2 : w1.cell? ⟨W.heap.size, 2, none⟩ = some (.int .u64 0) := Y0.cell 2
    clear Y0 Y1
    go_wp2
    exact bodyPost_ret (v := .tuple #[.agg #[.int .u64 0, .int .i64 0, .int .u64 0], .int .i64 1]) (by simp [results, Tryz.results27, go_sem, q0, q1, q2]) rfl ⟨by rw [H.out], bel_setCell _ _ _ (by omega) (bel_setCell _ _ _ (by omega) (bel_setCell _ _ _ (by omega) B1))⟩
  · have H := Lib.hid (show newV base many = .tuple #[.agg #[.int .u64 base, .int .i64 many, .int .u64 (getI 18446744073709551615 0 many)], .int .i64 0] by unfold newV; rw [h]; rfl)
    clear h
    go_wp2_with fail
    refine (get_calls 18446744073709551615 0 many _ ⟨by omega, by omega⟩ (by omega) (by omega) hm.1 hm.2).mono ?_
    rintro e w2 ⟨rfl, q⟩
    have B2 := Q.bel B1 q
    have Z0 := Y0.below q.below
    have Z1 := Y1.below q.below
    clear Y0 Y1 q
    have f0 := Z0.free
    have q0 : w2.cell? ⟨W.heap.size, 0, none⟩ = some (.int .u64 0) := Z0.cell 0
    have q1 : w2.cell? ⟨W.heap.size, 1, none⟩ = some (.int .i64 0) := Z0.cell 1
    have q2 : w2.cell? ⟨W.heap.size, 2, none⟩ = some (.int .u64 0) := Z0.cell 2
    have g0 := Z1.free
    have z0 : w2.cell? ⟨W.heap.size + 1, 0, none⟩ = some (.int .u64 base) := Z1.cell 0
    have z1 : w2.cell? ⟨W.heap.size + 1, 1, none⟩ = some (.int .i64 many) := Z1.cell 1
    have z2 : w2.cell? ⟨W.heap.size + 1, 2, none⟩ = some (.int .u64 0) := Z1.cell 2
    clear Z0 Z1
    go_wp2
    exact bodyPost_ret (v := .tuple #[.agg #[.int .u64 base, .int .i64 many, .int .u64 (getI 18446744073709551615 0 many)], .int .i64 0]) (by simp [results, Tryz.results27, go_sem, q0, q1, q2, z0, z1, z2]) rfl ⟨by rw [H.out], bel_setCell _ _ _ (by omega) (bel_setCell _ _ _ (by omega) (bel_setCell _ _ _ (by omega) (bel_setCell _ _ _ (by omega) B2)))⟩
end Go.Proofs.YtkffmaeiplgjeaaGreatDoor.PoolC2
/- The contract of pool.Give. -/
namespace Go.Proofs.YtkffmaeiplgjeaaGreatDoor.PoolC3
open Go.RowKit Go.Proofs.YtkffmaeiplgjeaaGreatDoor.Bv Go.Proofs.YtkffmaeiplgjeaaGreatDoor.Base Go.Proofs.YtkffmaeiplgjeaaGreatDoor.MemL
open Go.Proofs.YtkffmaeiplgjeaaGreatDoor.BitsC Go.Proofs.YtkffmaeiplgjeaaGreatDoor.MemNewC Go.Proofs.YtkffmaeiplgjeaaGreatDoor.PoolC Go.Proofs.YtkffmaeiplgjeaaGreatDoor.PoolC2
set_option linter.unusedVariables false
set_option linter.unusedSimpArgs false
/-- what comes of pool.Give -/
def giveV (base many free f : Int) : Value := if isP base many free f then .tuple #[.agg #[.int .u64 base, .int .i64 many, .int .u64 (setI free (f - base) 1 1)], .int .i64 0] else .tuple #[.agg #[.int .u64 base, .int .i64 many, .int .u64 free], .int .i64 1]
set_option maxHeartbeats 4000000 in
theorem give_calls (base many free f : Int) (W : World) (hb : U base) (hm : 0 ≤ many ∧ many ≤ 64) (hr : U free) (hf : U f) :
    Calls Tryz.prog 115 #[.agg #[.int .u64 base, .int .i64 many, .int .u64 free], .int .u64 f] W fun e w' => e = .returned (giveV base many free f) ∧ Below W.heap.size W w' := by
  have B0 := bel_alloc (bel_alloc (Below.refl W.heap.size W) (.cells #[.int .u64 base, .int .i64 many, .int .u64 free] 38)) (.cells #[.int .u64 0, .int .i64 0, .int .u64 0] 38)
  have X0 : Bx ((W.alloc (.cells #[.int .u64 base, .int .i64 many, .int .u64 free] 38)).alloc (.cells #[.int .u64 0, .int .i64 0, .int .u64 0] 38)) W.heap.size #[.int .u64 base, .int .i64 many, .int .u64 free] := Bx.alloc Bx.new
  have X1 : Bx ((W.alloc (.cells #[.int .u64 base, .int .i64 many, .int .u64 free] 38)).alloc (.cells #[.int .u64 0, .int .i64 0, .int .u64 0] 38)) (W.heap.size + 1) #[.int .u64 0, .int .i64 0, .int .u64 0] := MemNewC.bx_new1
  go_enter Tryz.func115, Tryz.ntmps115
  go_wp2_with fail
  refine (is_calls base many free f _ hb hf hm hr).mono ?_
  rintro e w1 ⟨rfl, b1⟩
  have B1 := bel_trans B0 b1
  have Y0 := X0.below b1
  have Y1 := X1.below b1
  have hl := Y1.lt
  clear X0 X1 b1 B0
  have y0 : w1.cell? ⟨W.heap.size, 0, none⟩ = some (.int .u64 base) := Y0.cell 0
  have y1 : w1.cell? ⟨W.heap.size, 1, none⟩ = some (.int .i64 many) := Y0.cell 1
  have y2 : w1.cell? ⟨W.heap.size, 2, none⟩ = some (.int .u64 free) := Y0.cell 2
  cases h : isP base many free f
  · have H := Lib.hid (show giveV base many free f = .tuple #[.agg #[.int .u64 base, .int .i64 many, .int .u64 free], .int .i64 1] by unfold giveV; rw [h]; rfl)
    clear h
    have f0 := Y1.free
    have q0 : w1.cell? ⟨W.heap.size + 1, 0, none⟩ = some (.int .u64 0) := Y1.cell 0
    have q1 : w1.cell? ⟨W.heap.size + 1, 1, none⟩ = some (.int .i64 0) := Y1.cell 1
    have q2 : w1.cell? ⟨W.heap.size + 1, 2, none⟩ = some (.int .u64 0) := Y1.cell 2
    clear Y0 Y1
    go_wp2
    exact bodyPost_ret (v := .tuple #[.agg #[.int .u64 base, .int .i64 many, .int .u64 free], .int .i64 1]) (by simp [results, Tryz.results115, go_sem, q0, q1, q2]) rfl ⟨by rw [H.out], bel_setCell _ _ _ (by omega) (bel_setCell _ _ _ (by omega) (bel_setCell _ _ _ (by omega) B1))⟩
  · have H := Lib.hid (show giveV base many free f = .tuple #[.agg #[.int .u64 base, .int .i64 many, .int .u64 (setI free (f - base) 1 1)], .int .i64 0] by unfold giveV; rw [h]; rfl)
    obtain ⟨l0, l1⟩ : 0 ≤ f - base ∧ f - base < many := inP_b (by unfold isP at h; simp at h; exact h.1) hm.2
    have hm2 := hm.2
    clear h
    have d1 : IntKind.u64.wrap (f - base) = f - base := by rw [wrap_u64]; omega
    have d2 : IntKind.i64.wrap (f - base) = f - base := by rw [IntKind.wrap_i64]; omega
    go_wp2_with fail
    refine (set_calls free (f - base) 1 1 _ hr ⟨by omega, by omega⟩ (by omega) (by omega) (by omega) (by omega)).mono ?_
    rintro e w2 ⟨rfl, q⟩
    have B2 := Q.bel B1 q
    have Z0 := Y0.below q.below
    have Z1 := Y1.below q.below
    clear Y0 Y1 q y0 y1 y2
    have f0 := Z0.free
    have q0 : w2.cell? ⟨W.heap.size, 0, none⟩ = some (.int .u64 base) := Z0.cell 0
    have q1 : w2.cell? ⟨W.heap.size, 1, none⟩ = some (.int .i64 many) := Z0.cell 1
    have q2 : w2.cell? ⟨W.heap.size, 2, none⟩ = some (.int .u64 free) := Z0.cell 2
    have g0 := Z1.free
    have z0 : w2.cell? ⟨W.heap.size + 1, 0, none⟩ = some (.int .u64 0) := Z1.cell 0
    have z1 : w2.cell? ⟨W.heap.size + 1, 1, none⟩ = some (.int .i64 0) := Z1.cell 1
    have z2 : w2.cell? ⟨W.heap.size + 1, 2, none⟩ = some (.int .u64 0) := Z1.cell 2
    clear Z0 Z1
    go_wp2
    exact bodyPost_ret (v := .tuple #[.agg #[.int .u64 base, .int .i64 many, .int .u64 (setI free (f - base) 1 1)], .int .i64 0]) (by simp [results, Tryz.results115, go_sem, q0, q1, q2, z0, z1, z2]) rfl ⟨by rw [H.out], bel_setCell _ _ _ (by omega) (bel_setCell _ _ _ (by omega) (bel_setCell _ _ _ (by omega) (bel_setCell _ _ _ (by omega) B2)))⟩
end Go.Proofs.YtkffmaeiplgjeaaGreatDoor.PoolC3
/- The contract of math/bits.TrailingZeros64. -/
namespace Go.Proofs.YtkffmaeiplgjeaaGreatDoor.TzC
open Go.RowKit Go.Proofs.YtkffmaeiplgjeaaGreatDoor.Bv Go.Proofs.YtkffmaeiplgjeaaGreatDoor.Base
set_option linter.unusedVariables false
set_option linter.unusedSimpArgs false
/-- The library's table lies in memory as its text lays it. -/
def TabT (w : World) : Prop := Go.Proofs.TabAt 1 Lib.deBruijn64tab w
/-- how many of a word's least bits are 0 -/
def tzI (x : Int) : Int := (Lib.ctz 64 x.toNat : Nat)
set_option maxHeartbeats 2000000 in
theorem tz_core (x k idx : Nat) (w : World) (hx0 : ((x : Int) == 0) = false)
    (key : IntKind.u64.wrap (bits BinOp.and IntKind.u64 (x : Int) (IntKind.u64.wrap (-(x : Int))) * 285870213051353865) / 288230376151711744 = (idx : Int))
    (hi : idx < 64) (hk : k < 64) (hcell : w.cell? ⟨1, idx, none⟩ = some (.int .u8 k)) :
    Calls Tryz.prog 94 #[.int .u64 x] w fun e w' => e = .returned (.int .i64 k) ∧ Q w w' := by
  go_enter Tryz.func94, Tryz.ntmps94
  go_wp2_with (simp only [key])
  go_ret
  exact ⟨rfl, Q.refl _⟩
theorem tz_zero (w : World) : Calls Tryz.prog 94 #[.int .u64 0] w fun e w' => e = .returned (.int .i64 64) ∧ Q w w' := by
  go_enter Tryz.func94, Tryz.ntmps94
  go_wp2
  go_ret
  exact ⟨rfl, Q.refl _⟩
theorem tz_nat (x : Nat) (hx : x < 18446744073709551616) (w : World) (hT : x ≠ 0 → TabT w) :
    Calls Tryz.prog 94 #[.int .u64 x] w fun e w' => e = .returned (.int .i64 (Lib.ctz 64 x)) ∧ Q w w' := by
  by_cases hx0 : x = 0
  · subst hx0
    exact tz_zero w
  · obtain ⟨hlow, hk⟩ := Lib.lowest_bit 64 x hx0 hx
    obtain ⟨hi, htab⟩ := Lib.deBruijn64_at _ hk
    have hcell := hT hx0 _ hi
    rw [htab] at hcell
    exact tz_core x _ _ w (by simp; omega) (Go.Proofs.tz64_key x _ hx hx0 hlow) hi hk hcell
theorem tz_calls (x : Int) (W : World) (hx : U x) (hT : x ≠ 0 → TabT W) :
    Calls Tryz.prog 94 #[.int .u64 x] W fun e w' => e = .returned (.int .i64 (tzI x)) ∧ Q W w' := by
  obtain ⟨hx1, hx2⟩ := hx
  have e1 : ((x.toNat : Nat) : Int) = x := Int.toNat_of_nonneg hx1
  have h := tz_nat x.toNat (by omega) W (fun h => hT (by omega))
  rw [e1] at h
  exact h
end Go.Proofs.YtkffmaeiplgjeaaGreatDoor.TzC
