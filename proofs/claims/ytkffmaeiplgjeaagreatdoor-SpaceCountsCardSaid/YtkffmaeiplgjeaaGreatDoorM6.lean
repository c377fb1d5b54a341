/- Texts of this claim, one behind the other: BitsC, MemC2, CloneCell, DeleteCell, InsertCell, InsertCell2, PutC. -/
import Derived.Test.YtkffmaeiplgjeaaGreatDoorM5
import Derived.Test.YtkffmaeiplgjeaaGreatDoorM1
import Derived.Lib.SliceRun
import Derived.Test.YtkffmaeiplgjeaaGreatDoorM2
import Derived.Lib.Overlaps
import Derived.Lib.AppendZerosOnto
import Derived.Laws.Externs
import Derived.Lib.JoinLaws
/- The contracts of the layer bits: each call comes to a word of VaSpec's and Bv's. -/
namespace Go.Proofs.YtkffmaeiplgjeaaGreatDoor.BitsC
open Go.RowKit Go.Proofs.YtkffmaeiplgjeaaGreatDoor.Bv Go.Proofs.YtkffmaeiplgjeaaGreatDoor.VaSpec Go.Proofs.YtkffmaeiplgjeaaGreatDoor.Base
set_option linter.unusedVariables false
set_option linter.unusedSimpArgs false
def maskI (n : Int) : Int := B (mB n.toNat)
def getI (a lo n : Int) : Int := B (getB (X a) lo.toNat n.toNat)
def setI (a lo n v : Int) : Int := B (setB (X a) lo.toNat n.toNat (X v))
def signI (a n : Int) : Int := B (signB (X a) n.toNat)
def evenI (a b : Int) : Bool := if b = 0 then a == 0 else a % b == 0
theorem getI_U (a lo n : Int) : U (getI a lo n) := U.B _
theorem setI_U (a lo n v : Int) : U (setI a lo n v) := U.B _
theorem signI_U (a n : Int) : U (signI a n) := U.B _
theorem maskI_U (n : Int) : U (maskI n) := U.B _
theorem getI_val (a lo n : Int) (h : U a) (hn : n ≤ 64) : getI a lo n = a / 2 ^ lo.toNat % 2 ^ n.toNat := by
  unfold getI; rw [getB_val _ _ _ (by omega), B_X h]
theorem mask_same (n : Int) (w : World) (h0 : 0 ≤ n) (h : n ≤ 64) : Calls Tryz.prog 97 #[.int .i64 n] w fun e w' => e = .returned (.int .u64 (maskI n)) ∧ w' = w := by
  by_cases e : 64 ≤ n
  · obtain rfl : n = 64 := by omega
    go_enter Tryz.func97, Tryz.ntmps97
    go_wp2
    go_ret
    refine ⟨?_, rfl⟩
    exact congrArg (fun z => Ending.returned (.int .u64 z)) (by unfold maskI; exact mB_64.symm)
  · obtain ⟨k, rfl⟩ := Int.eq_ofNat_of_zero_le h0
    have hv := mB_val k (by omega)
    have h1 : (2 : Int) ^ k = ((2 ^ k : Nat) : Int) := by norm_cast
    have h2 : 2 ^ k < 2 ^ 64 := Nat.pow_lt_pow_right (by decide) (by omega)
    have h3 := Nat.two_pow_pos k
    have H := Lib.hid (show IntKind.u64.wrap (IntKind.u64.wrap (2 ^ k) - 1) = maskI (k : Int) by
      unfold maskI; rw [Int.toNat_natCast, hv, h1, wrap_u64, wrap_u64]; omega)
    clear hv h1 h2 h3
    go_enter Tryz.func97, Tryz.ntmps97
    go_wp2
    go_ret
    exact ⟨congrArg (fun z => Ending.returned (.int .u64 z)) H.out, rfl⟩
theorem get_same (a lo n : Int) (w : World) (ha : U a) (l0 : 0 ≤ lo) (l1 : lo ≤ 64) (h0 : 0 ≤ n) (h : n ≤ 64) : Calls Tryz.prog 64 #[.int .u64 a, .int .i64 lo, .int .i64 n] w fun e w' => e = .returned (.int .u64 (getI a lo n)) ∧ w' = w := by
  obtain ⟨x, rfl⟩ := u64_B ha.1 ha.2
  obtain ⟨l, rfl⟩ := Int.eq_ofNat_of_zero_le l0
  have H := Lib.hid (show Go.bits .and .u64 (B x / 2 ^ l) (maskI n) = getI (B x) (l : Int) n by
    have h1 := shr_B x l
    rw [Nat.min_eq_left (by omega)] at h1
    rw [h1]; unfold maskI getI; rw [and_B, X_B, Int.toNat_natCast]; rfl)
  go_enter Tryz.func64, Tryz.ntmps64
  go_wp2_with (go_at_call 97; (with_reducible refine (mask_same _ _ h0 h).mono ?_); rintro e w' ⟨rfl, rfl⟩)
  go_ret
  exact ⟨congrArg (fun z => Ending.returned (.int .u64 z)) H.out, rfl⟩
theorem Q.of_same {w w' : World} (h : w' = w) : Q w w' := by subst h; exact Q.refl _
theorem mask_calls (n : Int) (w : World) (h0 : 0 ≤ n) (h : n ≤ 64) : Calls Tryz.prog 97 #[.int .i64 n] w fun e w' => e = .returned (.int .u64 (maskI n)) ∧ Q w w' := (mask_same n w h0 h).mono fun _ _ ⟨a, b⟩ => ⟨a, Q.of_same b⟩
theorem get_calls (a lo n : Int) (w : World) (ha : U a) (l0 : 0 ≤ lo) (l1 : lo ≤ 64) (h0 : 0 ≤ n) (h : n ≤ 64) : Calls Tryz.prog 64 #[.int .u64 a, .int .i64 lo, .int .i64 n] w fun e w' => e = .returned (.int .u64 (getI a lo n)) ∧ Q w w' := (get_same a lo n w ha l0 l1 h0 h).mono fun _ _ ⟨a, b⟩ => ⟨a, Q.of_same b⟩
theorem set_calls (a lo n v : Int) (w : World) (ha : U a) (hv : U v) (l0 : 0 ≤ lo) (l1 : lo ≤ 64) (h0 : 0 ≤ n) (h : n ≤ 64) : Calls Tryz.prog 93 #[.int .u64 a, .int .i64 lo, .int .i64 n, .int .u64 v] w fun e w' => e = .returned (.int .u64 (setI a lo n v)) ∧ Q w w' := by
  obtain ⟨x, rfl⟩ := u64_B ha.1 ha.2
  obtain ⟨y, rfl⟩ := u64_B hv.1 hv.2
  obtain ⟨l, rfl⟩ := Int.eq_ofNat_of_zero_le l0
  have H := Lib.hid (show Go.bits .or .u64 (Go.bits .andNot .u64 (B x) (IntKind.u64.wrap (maskI n * 2 ^ l))) (Go.bits .and .u64 (IntKind.u64.wrap (B y * 2 ^ l)) (IntKind.u64.wrap (maskI n * 2 ^ l))) = setI (B x) (l : Int) n (B y) by
    have h1 := fun z => shl_B z l
    rw [Nat.min_eq_left (by omega)] at h1
    unfold maskI setI; rw [h1, h1, andNot_B, and_B, or_B, X_B, X_B, Int.toNat_natCast]; rfl)
  go_enter Tryz.func93, Tryz.ntmps93
  go_wp2_with (go_at_call 97; (with_reducible refine (mask_calls _ _ h0 h).mono ?_); rintro e w' ⟨rfl, ⟨nd, rfl⟩⟩)
  go_ret
  refine ⟨?_, ⟨_, rfl⟩⟩
  exact congrArg (fun z => Ending.returned (.int .u64 z)) H.out
theorem sign_calls (a n : Int) (w : World) (ha : U a) (h0 : 1 ≤ n) (h : n ≤ 64) : Calls Tryz.prog 104 #[.int .u64 a, .int .i64 n] w fun e w' => e = .returned (.int .u64 (signI a n)) ∧ Q w w' := by
  obtain ⟨x, rfl⟩ := u64_B ha.1 ha.2
  have H := Lib.hid (show IntKind.u64.wrap (wrap64 (IntKind.u64.wrap (B x * 2 ^ (64 - n).toNat)) / 2 ^ (64 - n).toNat) = signI (B x) n by
    have h1 := shl_B x (64 - n).toNat
    have h2 := sshr_B (x <<< (64 - n).toNat) (64 - n).toNat
    rw [Nat.min_eq_left (by omega)] at h1
    rw [show IntKind.bits .i64 = 64 from rfl, Nat.min_eq_left (by omega)] at h2
    rw [h1, wrap64_B, h2]; unfold signI signB; rw [X_B, show (64 - n).toNat = 64 - n.toNat by omega])
  go_enter Tryz.func104, Tryz.ntmps104
  go_wp2
  go_ret
  refine ⟨?_, Q.refl _⟩
  exact congrArg (fun z => Ending.returned (.int .u64 z)) H.out
theorem even_calls (a b : Int) (w : World) (ha : U a) (hb : U b) : Calls Tryz.prog 96 #[.int .u64 a, .int .u64 b] w fun e w' => e = .returned (.bool (evenI a b)) ∧ Q w w' := by
  obtain ⟨a0, a1⟩ := ha
  obtain ⟨b0, b1⟩ := hb
  by_cases e : b = 0
  · subst e
    have H := Lib.hid (show (a == 0) = evenI a 0 from rfl)
    go_enter Tryz.func96, Tryz.ntmps96
    go_wp2
    go_ret
    exact ⟨congrArg (fun z => Ending.returned (.bool z)) H.out, Q.refl _⟩
  · have H := Lib.hid (show (a % b == 0) = evenI a b by unfold evenI; rw [if_neg e])
    have he : (b == 0) = false := by simpa using e
    have hpos : 0 < b := by omega
    clear e
    go_enter Tryz.func96, Tryz.ntmps96
    go_wp2
    go_ret
    refine ⟨?_, Q.refl _⟩
    exact congrArg (fun z => Ending.returned (.bool z)) H.out
theorem bool_calls (b : Bool) (w : World) : Calls Tryz.prog 127 #[.bool b] w fun e w' => e = .returned (.int .u64 (bI b)) ∧ Q w w' := by
  cases b
  all_goals
    go_enter Tryz.func127, Tryz.ntmps127
    go_wp2
    go_ret
    exact ⟨rfl, Q.refl _⟩
end Go.Proofs.YtkffmaeiplgjeaaGreatDoor.BitsC
/- The contracts of the functions that look for a word of memory, on. -/
namespace Go.Proofs.YtkffmaeiplgjeaaGreatDoor.MemC
open Go.RowKit Go.Proofs.YtkffmaeiplgjeaaGreatDoor.Bv Go.Proofs.YtkffmaeiplgjeaaGreatDoor.Base Go.Proofs.YtkffmaeiplgjeaaGreatDoor.MemL
open Go.Proofs.YtkffmaeiplgjeaaGreatDoor.BitsC (even_calls)
set_option linter.unusedVariables false
set_option linter.unusedSimpArgs false
set_option maxHeartbeats 1000000 in
theorem find_calls (sz : Int) (v : Value) (xs : List (Int × Int)) (t : Int) (W : World) (hs : Srt xs) (hv : Sl W v xs.length 2 (fl xs)) :
    Calls Tryz.prog 120 #[.agg #[.int .u64 sz, v], .int .u64 t] W fun e w' => e = .returned (.tuple #[.int .i64 (lb xs t), .bool (has xs t)]) ∧ Below W.heap.size W w' := by
  go_enter Tryz.func120, Tryz.ntmps120
  go_wp2_with fail
  refine (search_calls v xs t _ hs (hv.below ((Below.refl _ _).alloc (Nat.le_refl _) _))).mono ?_
  rintro e w1 ⟨rfl, b1⟩
  go_wp2
  go_ret2
  exact ⟨rfl, bel_trans (bel_alloc (Below.refl _ _) _) b1⟩
/-- the number at a place, or 0 -/
def look (xs : List (Int × Int)) (k : Int) : Int := match xs[lb xs k]? with | some c => if c.1 = k then c.2 else 0 | none => 0
def wordM (sz : Int) (xs : List (Int × Int)) (a : Int) : Int := if a < sz then look xs (a / 8) else 0
set_option maxHeartbeats 4000000 in
theorem word_calls (sz : Int) (v : Value) (xs : List (Int × Int)) (a : Int) (W : World) (ha : U a) (hs : Srt xs) (hv : Sl W v xs.length 2 (fl xs)) :
    Calls Tryz.prog 114 #[.agg #[.int .u64 sz, v], .int .u64 a] W fun e w' => e = .returned (.int .u64 (wordM sz xs a)) ∧ Below W.heap.size W w' := by
  obtain ⟨a0, a1⟩ := ha
  have hv0 := hv
  obtain ⟨_, hv⟩ := hv
  have HW := Lib.hid (show wordM sz xs a = if a < sz then look xs (a / 8) else 0 from rfl)
  cases hh : has xs (a / 8)
  · have H0 : wordM sz xs a = 0 := by
      rw [HW.out]; unfold look
      unfold has at hh
      split
      · split
        · rename_i c hc; rw [hc] at hh; simp at hh; rw [if_neg hh]
        · rfl
      · rfl
    have HH := Lib.hid hh
    have H00 := Lib.hid H0
    clear hh H0
    go_enter Tryz.func114, Tryz.ntmps114
    go_wp2_with fail
    refine (find_calls sz v xs (a / 8) _ hs (hv0.below ((Below.refl _ _).alloc (Nat.le_refl _) _))).mono ?_
    rintro e w1 ⟨rfl, b1⟩
    rw [HH.out]
    go_wp2
    go_ret
    exact ⟨by rw [H00.out]; rfl, bel_trans (bel_alloc (Below.refl _ _) _) b1⟩
  · have hl : ∃ c, xs[lb xs (a / 8)]? = some c ∧ c.1 = a / 8 := by
      unfold has at hh
      split at hh
      · rename_i c hc; exact ⟨c, hc, by simpa using hh⟩
      · cases hh
    obtain ⟨⟨ca, cv⟩, hc, hca⟩ := hl
    simp only at hca
    have H1 : look xs (a / 8) = cv := by unfold look; rw [hc]; simp [hca]
    have hlt : lb xs (a / 8) < xs.length := (List.getElem?_eq_some_iff.1 hc).1
    have hg : xs[lb xs (a / 8)] = (ca, cv) := (List.getElem?_eq_some_iff.1 hc).2
    obtain ⟨c1, c2⟩ := fl_at xs (lb xs (a / 8)) hlt
    rw [hg] at c1 c2
    rcases hv with ⟨rfl, hn⟩ | ⟨b, o, cap, rfl, hb, hcap, hmax, hcell⟩
    · omega
    · unfold maxLen at hmax
      have k2 := hcell (lb xs (a / 8) * 2 + 1) (by omega)
      rw [c2] at k2
      have HH := Lib.hid hh
      have HL := Lib.hid H1
      clear hh H1 hc hca hg c1 c2 hcell
      by_cases hsz : a < sz
      · have H0 := Lib.hid (show wordM sz xs a = cv by rw [HW.out, if_pos hsz, HL.out])
        go_enter Tryz.func114, Tryz.ntmps114
        go_wp2_with fail
        refine (find_calls sz _ xs (a / 8) _ hs (hv0.below ((Below.refl _ _).alloc (Nat.le_refl _) _))).mono ?_
        rintro e w1 ⟨rfl, b1⟩
        rw [HH.out]
        have x0 := (Bx.below Bx.new b1).cell
        obtain ⟨c1, _⟩ := bcell b1
        have r2 : w1.cell? ⟨b, o + lb xs (a / 8) * 2 + 1, none⟩ = some (.int .u64 cv) := by
          rw [c1 _ _ (by simp; omega), World.cell?_alloc_lt _ _ _ hb]; exact k2
        clear c1
        generalize lb xs (a / 8) = p at *
        go_wp2
        go_ret
        exact ⟨by rw [H0.out]; rfl, bel_trans (bel_alloc (Below.refl _ _) _) b1⟩
      · have H0 := Lib.hid (show wordM sz xs a = 0 by rw [HW.out, if_neg hsz])
        go_enter Tryz.func114, Tryz.ntmps114
        go_wp2_with fail
        refine (find_calls sz _ xs (a / 8) _ hs (hv0.below ((Below.refl _ _).alloc (Nat.le_refl _) _))).mono ?_
        rintro e w1 ⟨rfl, b1⟩
        rw [HH.out]
        obtain ⟨c1, _⟩ := bcell b1
        go_wp2
        go_ret
        exact ⟨by rw [H0.out]; rfl, bel_trans (bel_alloc (Below.refl _ _) _) b1⟩
/-- whether a number is a size -/
def sizeB (n : Int) : Bool := n == 1 || n == 2 || n == 4 || n == 8
theorem bsize_calls (n : Int) (W : World) : Calls Tryz.prog 128 #[.int .i64 n] W fun e w' => e = .returned (.bool (sizeB n)) ∧ Q W w' := by
  have H := Lib.hid (show sizeB n = (n == 1 || n == 2 || n == 4 || n == 8) from rfl)
  cases h1 : (n == 1) <;> cases h2 : (n == 2) <;> cases h4 : (n == 4) <;> cases h8 : (n == 8)
  all_goals
    go_enter Tryz.func128, Tryz.ntmps128
    go_wp2
    go_ret
    exact ⟨by rw [H.out]; simp [*], by repeat (first | exact Q.refl _ | apply Q.step)⟩
end Go.Proofs.YtkffmaeiplgjeaaGreatDoor.MemC
/- The contract of slices.Clone at api.Cell. -/
namespace Go.Proofs.YtkffmaeiplgjeaaGreatDoor.CloneCell
open Go.RowKit Go.Proofs.YtkffmaeiplgjeaaGreatDoor.Bv Go.Proofs.YtkffmaeiplgjeaaGreatDoor.Base Go.Proofs.YtkffmaeiplgjeaaGreatDoor.MemL
set_option linter.unusedVariables false
set_option linter.unusedSimpArgs false
theorem info : (Tryz.prog.info? 116).map (fun i => (i.zero, i.size, i.bytes)) = some (some (.agg #[.int .u64 0, .int .u64 0]), 2, 16) := by kernel_rfl
set_option maxHeartbeats 2000000 in
theorem clone_calls (v : Value) (n : Nat) (xs : List Value) (W : World) (h1 : ∀ u ∈ xs, u.oneCell' = true) (hbig : n * 16 ≤ 140737488355328) (hv : Sl W v n 2 xs) :
    Calls Tryz.prog 129 #[v] W fun e w' => ∃ v', e = .returned v' ∧ w'.ownsRow W.heap.size 116 2 v' n xs ∧ Below W.heap.size W w' := by
  obtain ⟨hl, hv⟩ := hv
  have q : ∀ (w : World) (a : Option Addr) (n c n' c' : Nat), (binOp .eql 27 (.slice a n c) (.slice none n' c')).run Tryz.prog w = .ok (.bool a.isNone) w := fun w a n c n' c' => Lib.run_eql_slice_nil w _ _ a n c n' c' Tryz.underlying27
  rcases hv with ⟨rfl, rfl⟩ | ⟨b, o, cap, rfl, hb, hcap, hmax, hcell⟩
  · obtain rfl := List.eq_nil_of_length_eq_zero (by omega : xs.length = 0)
    go_enter Tryz.func129, Tryz.ntmps129
    go_wp2
    go_ret
    exact ⟨_, rfl, ⟨rfl, .inl ⟨rfl, rfl⟩⟩, Below.refl _ _⟩
  · obtain ⟨i0, hi, hz0, hz1, hz2⟩ := info_parts info
    have A := Lib.hid hcell
    have hl' := Lib.hid hl
    clear hcell hl
    go_enter Tryz.func129, Tryz.ntmps129
    go_wp2_with (at_builtin; refine wpList_append_own _ rfl _ _ 27 rfl W.heap.size 116 i0 (.agg #[.int .u64 0, .int .u64 0]) 2 16 Tryz.underlying27 hi hz0 hz1 hz2 rfl (by decide) _ _ _ rfl (World.ownsRow_made W #[] 0 (Nat.le_refl _) (Nat.zero_le _) rfl) ⟨b, o, none⟩ n cap xs rfl ?qc1 ?qc2 ?qc3 ?qc4 ?qc5 ?qc6 ?_)
    case qc1 => exact hl'.out
    case qc2 =>
      intro j u hj
      have hjn : j < n * 2 := by
        have := (List.getElem?_eq_some_iff.1 hj).1
        have := hl'.out
        omega
      rw [Addr.add_lit]
      refine Lib.cell?_alloc_some _ ?_
      rw [A.out j hjn]; exact hj
    case qc3 => exact h1
    case qc4 => unfold maxLen at *; omega
    case qc5 => omega
    case qc6 => simp
    intro v' w1 hown hgrow hnil
    go_wp2
    go_ret
    refine ⟨v', rfl, by simpa using hown, ?_⟩
    exact ((Below.refl _ W).alloc (Nat.le_refl _) _).grown hgrow (by simp) (by intro k hk; simp [Value.ownBlock] at hk; omega)
end Go.Proofs.YtkffmaeiplgjeaaGreatDoor.CloneCell
/- The contract of slices.Delete of one element, at api.Cell, of a row of the call's own. -/
namespace Go.Proofs.YtkffmaeiplgjeaaGreatDoor.DeleteCell
open Go.RowKit Go.Proofs.YtkffmaeiplgjeaaGreatDoor.Bv Go.Proofs.YtkffmaeiplgjeaaGreatDoor.Base Go.Proofs.YtkffmaeiplgjeaaGreatDoor.MemL
set_option linter.unusedVariables false
set_option linter.unusedSimpArgs false
/-- the cells of so many zero elements -/
def zeroCellsN (n : Nat) : List Value := (Builtin.zeroCells (.agg #[.int .u64 0, .int .u64 0] : Value).cells n).toList
set_option maxHeartbeats 4000000 in
set_option maxRecDepth 1000000 in
theorem delete_calls (base : Nat) (v : Value) (n i : Nat) (xs : List Value) (W : World) (h1 : ∀ u ∈ xs, u.oneCell' = true) (hi : i < n) (hown : W.ownsRow base 116 2 v n xs) :
    Calls Tryz.prog 130 #[v, .int .i64 i, .int .i64 ((i : Int) + 1)] W fun e w' => ∃ v', e = .returned v' ∧ w'.ownsRow base 116 2 v' (n - 1) (xs.take (i * 2) ++ xs.drop ((i + 1) * 2)) ∧ Below base W w' := by
  obtain ⟨hl, hown⟩ := hown
  rcases hown with ⟨_, hn⟩ | ⟨g, cap, cur, rfl, hbg, hh, hnc, hmax, hsz, htk⟩
  · omega
  obtain ⟨i0, hi0, hz0, hz1, hz2⟩ := info_parts CloneCell.info
  have hgl : g < W.heap.size := Bx.lt ⟨_, hh⟩
  have hxs : ∀ j, j < n * 2 → xs[j]? = cur[j]? := fun j hj => by
    rw [← htk, List.getElem?_take_of_lt hj, Array.getElem?_toList]
  -- what is moved to the left
  obtain ⟨news, hnews⟩ : ∃ news, news = xs.drop ((i + 1) * 2) := ⟨_, rfl⟩
  have hnl : news.length = (n - (i + 1)) * 2 := by rw [hnews, List.length_drop, hl]; omega
  have hn1 : ∀ u ∈ news, u.oneCell' = true := fun u hu => h1 u (by rw [hnews] at hu; exact List.mem_of_mem_drop hu)
  obtain ⟨A, hA, hsrc⟩ : ∃ A : Addr, (if cap = i + 1 then (some ⟨g, 0, none⟩ : Option Addr) else some ⟨g, (i + 1) * 2, none⟩) = some A ∧ (∀ w : World, w.heap[g]? = some (.cells cur 116 (0, 0)) → ∀ j u, news[j]? = some u → w.cell? (A.add j) = some u) := by
    by_cases h : cap = i + 1
    · refine ⟨⟨g, 0, none⟩, by simp [h], fun w hw j u hu => ?_⟩
      have : news.length = 0 := by rw [hnl, show n - (i + 1) = 0 by omega, Nat.zero_mul]
      rw [List.eq_nil_of_length_eq_zero this] at hu; simp at hu
    · refine ⟨⟨g, (i + 1) * 2, none⟩, by simp [h], fun w hw j u hu => ?_⟩
      have hj : j < news.length := (List.getElem?_eq_some_iff.1 hu).1
      rw [Addr.add_lit, Bx.cell ⟨_, hw⟩, ← hxs _ (by omega), ← hu, hnews, List.getElem?_drop]
  have hicap : ¬ (cap = n - 1) := by omega
  have hic : i ≤ cap := by omega
  have hjc : i + 1 ≤ cap := by omega
  have hjn : i + 1 ≤ n := by omega
  have hb1 : (0 : Int) ≤ (i : Int) + 1 := by omega
  have hb2 : (i : Int) + 1 ≤ (n : Int) := by omega
  unfold maxLen at hmax
  have HS := Lib.hid hsrc
  have HH := Lib.hid hh
  have HX := Lib.hid hxs
  have HN := Lib.hid hnews
  have HL := Lib.hid hnl
  have HZ := Lib.hid hsz
  have HT := Lib.hid htk
  have HL1 := Lib.hid hl
  clear hsrc hh hxs hnews hnl hsz htk hl
  go_enter Tryz.func130, Tryz.ntmps130
  go_wp2_with fail
  refine RegR.region_from (Θ := Nat) [0, 0, 0, 0, 0, 0, 3, 0] [0, 1, 2, 3, 4, 5, 6, 7] (fun w' => Below base W w') (fun _ _ => .int .i64 0) (fun _ _ _ => True) (by kernel_rfl) (by kernel_rfl)
    (fun w w' h b => h.trans (b.mono (by have := h.size; omega))) (fun _ _ _ _ _ _ => trivial) (Below.drew (Below.refl _ _)) (fun w' => w'.heap[g]? = some (.cells cur 116 (0, 0)))
    (fun w w' h b => (b.block g (Bx.lt ⟨_, h⟩)).trans h) HH.out ?_
  repeat (with_reducible refine RegR.can0 _ rfl rfl (fun K hK => ?_)
          go_simp
          first
            | (refine hK _ ?_; clear hK K)
            | (refine ⟨_, fun _ _ => rfl, hK _ ?_⟩; clear hK K)
            | (refine ⟨_, fun _ _ _ => rfl, hK _ ?_⟩; clear hK K))
  refine RegR.can3_append _ rfl rfl rfl _ _ 27 rfl 116 i0 2 Tryz.underlying27 hi0 hz1 g 0 i cap rfl A (n - (i + 1)) (cap - (i + 1)) news rfl HL.out hn1 (by omega) (fun w' => w'.heap[g]? = some (.cells (putAt cur (0 + i * 2) news) 116 (0, 0)))
    (fun w w' h b => (b.block g (Bx.lt ⟨_, h⟩)).trans h)
    (fun w hc hd => ⟨HS.out w hd, fun j hj => ?_⟩) (fun w hc hd => ⟨below_cells hbg _ _ _ hc, heap_setCells (w := w) _ _ _ _ hd⟩) ?_
  · have := HL.out; have := HZ.out
    exact ⟨by rw [Bx.cell ⟨_, hd⟩, Array.getElem?_eq_getElem (by omega)]; rfl, Bx.free ⟨_, hd⟩ _⟩
  repeat (with_reducible refine RegR.can0 _ rfl rfl (fun K hK => ?_)
          go_simp
          first
            | (refine hK _ ?_; clear hK K)
            | (refine ⟨_, fun _ _ => rfl, hK _ ?_⟩; clear hK K)
            | (refine ⟨_, fun _ _ _ => rfl, hK _ ?_⟩; clear hK K))
  intro w1 B1 H1
  have hq : i + (n - (i + 1)) = n - 1 := by omega
  have hz : (zeroCellsN 1).length = 1 * 2 := by simp [zeroCellsN, Builtin.zeroCells, Value.cells]
  have hcl : ∀ ty, (Builtin.clear_ #[27] ty #[.slice (some ⟨g, (i + (n - (i + 1))) * 2, none⟩) (n - (i + (n - (i + 1)))) (cap - (i + (n - (i + 1))))]).run Tryz.prog w1 = .ok (.tuple #[]) (w1.setCells g ((i + (n - (i + 1))) * 2) (zeroCellsN 1)) := fun ty => by
    rw [show n - (i + (n - (i + 1))) = 1 by omega]
    have hs2 := putAt_size news cur (0 + i * 2)
    have := HZ.out
    exact run_clear_any w1 _ 116 ty (.agg #[.int .u64 0, .int .u64 0] : Value) 2 Tryz.underlying27 (fun _ => by kernel_rfl) rfl (by simp [Value.cells, Value.oneCell']) (by decide) g _ 1 _ (by omega)
      (fun j hj => by rw [Bx.cell ⟨_, H1⟩, Array.getElem?_eq_getElem (by omega)]; rfl) (fun j hj => Bx.free ⟨_, H1⟩ _)
  have HH1 := Lib.hid H1
  have HQ := Lib.hid hq
  have HZZ := Lib.hid hz
  clear H1 hq hz
  go_wp2
  go_ret
  have hb2 := below_cells hbg (zeroCellsN 1) ((i + (n - (i + 1))) * 2) w1 B1
  have hh2 := heap_setCells (w := w1) (zeroCellsN 1) ((i + (n - (i + 1))) * 2) w1 _ HH1.out
  refine ⟨_, rfl, ⟨?_, .inr ⟨g, cap, _, by rw [HQ.out]; rfl, hbg, hh2, by omega, by unfold maxLen; omega, ?_, ?_⟩⟩, hb2⟩
  · rw [List.length_append, List.length_take, ← HN.out, HL.out, HL1.out]
    have : min (i * 2) (n * 2) = i * 2 := by omega
    omega
  · rw [putAt_size, putAt_size]; exact HZ.out
  · have := HZ.out; have := HL.out; have := HZZ.out
    rw [putAt_toList _ _ _ (by rw [putAt_size]; omega), putAt_toList _ _ _ (by omega)]
    simp only [Nat.zero_add]
    have e1 : (cur.toList.take (i * 2)).length = i * 2 := by rw [List.length_take, Array.length_toList]; omega
    have e2 : (cur.toList.take (i * 2) ++ news).length = (n - 1) * 2 := by rw [List.length_append, e1, HL.out]; omega
    rw [HQ.out, List.append_assoc, take_eq e2, take_eq e2, HN.out, ← HT.out, List.take_take]
    congr 2
    omega
end Go.Proofs.YtkffmaeiplgjeaaGreatDoor.DeleteCell
/- The contract of slices.Insert of one element, at api.Cell, into a row of the call's own. -/
namespace Go.Proofs.YtkffmaeiplgjeaaGreatDoor.InsertCell
open Go.RowKit Go.Proofs.YtkffmaeiplgjeaaGreatDoor.Bv Go.Proofs.YtkffmaeiplgjeaaGreatDoor.Base Go.Proofs.YtkffmaeiplgjeaaGreatDoor.MemL
set_option linter.unusedVariables false
set_option linter.unusedSimpArgs false
abbrev zv : Value := .agg #[.int .u64 0, .int .u64 0]
set_option maxHeartbeats 4000000 in
set_option maxRecDepth 1000000 in
/-- at the end -/
theorem end_calls (base : Nat) (v : Value) (n : Nat) (xs vs : List Value) (vb : Nat) (W : World) (hvl : vs.length = 2) (hv1 : ∀ u ∈ vs, u.oneCell' = true) (hbase : base ≤ W.heap.size) (hbig : (n + 1) * 16 ≤ 140737488355328)
    (hown : W.ownsRow base 116 2 v n xs) (hvs : ∀ j u, vs[j]? = some u → W.cell? ⟨vb, j, none⟩ = some u) :
    Calls Tryz.prog 131 #[v, .int .i64 n, .slice (some ⟨vb, 0, none⟩) 1 1] W fun e w' => ∃ v', e = .returned v' ∧ w'.ownsRow base 116 2 v' (n + 1) (xs ++ vs) ∧ Below base W w' := by
  obtain ⟨i0, hi0, hz0, hz1, hz2⟩ := info_parts CloneCell.info
  have HO := Lib.hid hown
  have HV := Lib.hid hvs
  have HL := Lib.hid hvl
  obtain ⟨_, hv⟩ := hown
  clear hvs hvl
  rcases hv with ⟨rfl, rfl⟩ | ⟨g, cap, cur, rfl, hbg, hh, hnc, hmax, hsz, htk⟩
  · go_enter Tryz.func131, Tryz.ntmps131
    go_wp2_with (at_builtin; refine wpList_append_own _ rfl _ _ 27 rfl base 116 i0 zv 2 16 Tryz.underlying27 hi0 hz0 hz1 hz2 rfl (by decide) _ _ _ rfl HO.out ⟨vb, 0, none⟩ 1 1 vs rfl ?qc1 ?qc2 ?qc3 ?qc4 ?qc5 ?qc6 ?_)
    case qc1 => exact HL.out
    case qc2 => intro j u hj; rw [Addr.add_lit, Nat.zero_add]; exact HV.out j u hj
    case qc3 => exact hv1
    case qc4 => unfold maxLen; omega
    case qc5 => omega
    case qc6 => omega
    intro v' w1 hown1 hgrow hnil
    go_wp2
    go_ret
    exact ⟨v', rfl, hown1, (Below.refl _ W).grown hgrow (by omega) (by intro k hk; simp [Value.ownBlock] at hk)⟩
  · have hgl : g < W.heap.size := Bx.lt ⟨_, hh⟩
    unfold maxLen at hmax
    clear hh htk hsz
    by_cases hcn : cap = n
    all_goals
      go_enter Tryz.func131, Tryz.ntmps131
      go_wp2_with (at_builtin; refine wpList_append_own _ rfl _ _ 27 rfl base 116 i0 zv 2 16 Tryz.underlying27 hi0 hz0 hz1 hz2 rfl (by decide) _ _ _ rfl HO.out ⟨vb, 0, none⟩ 1 1 vs rfl ?qc1 ?qc2 ?qc3 ?qc4 ?qc5 ?qc6 ?_)
      case qc1 => exact HL.out
      case qc2 => intro j u hj; rw [Addr.add_lit, Nat.zero_add]; exact HV.out j u hj
      case qc3 => exact hv1
      case qc4 => unfold maxLen; omega
      case qc5 => omega
      case qc6 => omega
      intro v' w1 hown1 hgrow hnil
      go_wp2
      go_ret
      exact ⟨v', rfl, hown1, (Below.refl _ W).grown hgrow (by omega) (by intro k hk; simp [Value.ownBlock] at hk; omega)⟩
set_option maxHeartbeats 8000000 in
set_option maxRecDepth 1000000 in
/-- ahead of the end, where there is room -/
theorem shift_calls (base g cap : Nat) (cur : Array Value) (n i : Nat) (xs vs : List Value) (vb : Nat) (cv : Array Value) (tA : TypeId) (W : World) (hvl : vs.length = 2) (hv1 : ∀ u ∈ vs, u.oneCell' = true) (hx1 : ∀ u ∈ xs, u.oneCell' = true)
    (hbg : base ≤ g) (hi : i < n) (hroom : n + 1 ≤ cap) (hmax : cap ≤ 9223372036854775807) (hl : xs.length = n * 2) (hh : W.heap[g]? = some (.cells cur 116 (0, 0))) (hsz : cur.size = cap * 2) (htk : cur.toList.take (n * 2) = xs)
    (hcv : W.heap[vb]? = some (.cells cv tA (0, 0))) (hcvl : cv.toList = vs) (hvb : vb ≠ g) :
    Calls Tryz.prog 131 #[.slice (some ⟨g, 0, none⟩) n cap, .int .i64 i, .slice (some ⟨vb, 0, none⟩) 1 1] W fun e w' => ∃ v', e = .returned v' ∧ w'.ownsRow base 116 2 v' (n + 1) (xs.take (i * 2) ++ vs ++ xs.drop (i * 2)) ∧ Below base W w' := by
  obtain ⟨i0, hi0, hz0, hz1, hz2⟩ := info_parts CloneCell.info
  have hgl : g < W.heap.size := Bx.lt ⟨_, hh⟩
  have hxs : ∀ j, j < n * 2 → xs[j]? = cur[j]? := fun j hj => by
    rw [← htk, List.getElem?_take_of_lt hj, Array.getElem?_toList]
  have hsz1 : (Tryz.prog.info? 116).map (·.size) = some 2 := by rw [hi0]; simp [hz1]
  have hov : ∀ lb cb, (callFunc 142 #[.slice (some ⟨vb, 0, none⟩) 1 1, .slice (some ⟨g, (i + 1) * 2, none⟩) lb cb]).run Tryz.prog W = .ok (.value (.bool false)) W := fun lb cb => by
    rw [run_callFunc_extern Tryz.func142 (by kernel_rfl) (by kernel_rfl) (by kernel_rfl) (e := Extern.SlicesOverlaps.overlaps #[27, 27] #[4]) (by kernel_rfl),
      Lib.run_overlaps_apart W 27 4 116 Tryz.underlying27 2 (fun _ => by kernel_rfl) ⟨vb, 0, none⟩ ⟨g, (i + 1) * 2, none⟩ 1 1 lb cb hvb tA 116 cv.size cur.size (by simp [World.shape?, hcv]) (by simp [World.shape?, hh]) (by omega) (Bx.free ⟨_, hcv⟩ 0) (Bx.free ⟨_, hcv⟩ _)]
    rfl
  have hdl : (xs.drop (i * 2)).length = (n - i) * 2 := by rw [List.length_drop, hl]; omega
  have hw1 : IntKind.i64.wrap ((i : Int) + 1) = (i : Int) + 1 := by rw [IntKind.wrap_i64]; omega
  have hb1 : (0 : Int) ≤ (i : Int) + 1 := by omega
  have hin : i ≤ n := by omega
  have htn : ((i : Int) + 1).toNat = i + 1 := by omega
  have hb2 : ¬ (cap = i + 1) := by omega
  have hb3 : (i : Int) ≤ (n : Int) + 1 := by omega
  have hb4 : ¬ (cap = i) := by omega
  have hb5 : ¬ ((i : Int) = (n : Int)) := by omega
  have hb6 : (i : Int) + 1 ≤ (n : Int) + 1 := by omega
  have HOV := hov
  have HH := Lib.hid hh
  have HX := Lib.hid hxs
  have HD := Lib.hid hdl
  have HZ := Lib.hid hsz
  have HT := Lib.hid htk
  have HL := Lib.hid hl
  have HC := Lib.hid hcv
  have HCL := Lib.hid hcvl
  have HVL := Lib.hid hvl
  clear hh hxs hdl hsz htk hl hcv hcvl hvl
  go_enter Tryz.func131, Tryz.ntmps131
  go_wp2_with (simp only [hov])
  refine RegR.region_from (Θ := Nat) [0, 0, 0, 0, 0, 0, 0, 0, 3] [0, 1, 2, 3, 4, 5, 6, 7, 8] (fun w' => Below base W w') (fun _ _ => .int .i64 0) (fun _ _ _ => True) (by kernel_rfl) (by kernel_rfl)
    (fun w w' h b => h.trans (b.mono (by have := h.size; omega))) (fun _ _ _ _ _ _ => trivial) (Below.drew (Below.refl _ _)) (fun w' => w'.heap[g]? = some (.cells cur 116 (0, 0)) ∧ w'.heap[vb]? = some (.cells cv tA (0, 0)))
    (fun w w' h b => ⟨(b.block g (Bx.lt ⟨_, h.1⟩)).trans h.1, (b.block vb (Bx.lt ⟨_, h.2⟩)).trans h.2⟩) ⟨HH.out, HC.out⟩ ?_
  repeat (with_reducible refine RegR.can0 _ rfl rfl (fun K hK => ?_)
          go_simp
          first
            | (refine hK _ ?_; clear hK K)
            | (refine ⟨_, fun _ _ => rfl, hK _ ?_⟩; clear hK K)
            | (refine ⟨_, fun _ _ _ => rfl, hK _ ?_⟩; clear hK K)
            | (refine ⟨_, fun _ _ _ _ => rfl, hK _ ?_⟩; clear hK K))
  refine RegR.can3_copy _ rfl rfl rfl _ _ 27 27 rfl (.slice (some ⟨g, (i + 1) * 2, none⟩) (n - i) (cap - (i + 1))) (.slice (some ⟨g, i * 2, none⟩) (n + 1 - i) (cap - i)) _ rfl rfl
    (fun w' => w'.heap[g]? = some (.cells (putAt cur ((i + 1) * 2) (xs.drop (i * 2))) 116 (0, 0)) ∧ w'.heap[vb]? = some (.cells cv tA (0, 0)))
    (fun w w' h b => ⟨(b.block g (Bx.lt ⟨_, h.1⟩)).trans h.1, (b.block vb (Bx.lt ⟨_, h.2⟩)).trans h.2⟩)
    (fun w hc hd => ⟨_, run_copy_any w 27 27 _ 116 2 g ((i + 1) * 2) (n - i) _ ⟨g, i * 2, none⟩ (n + 1 - i) _ (xs.drop (i * 2)) Tryz.underlying27 hsz1 ?_ ?_ ?_ ?_ ?_,
      below_cells hbg _ _ _ hc, heap_setCells (w := w) _ _ _ _ hd.1, (heap_cells_far hvb _ _ _).trans hd.2⟩) ?_
  · rw [HD.out]; congr 1; simp only [Nat.min_def]; split <;> omega
  · intro j u hj
    rw [Addr.add_lit, Bx.cell ⟨_, hd.1⟩]
    rw [List.getElem?_drop] at hj
    have := (List.getElem?_eq_some_iff.1 hj).1
    have := HL.out
    rw [← HX.out _ (by omega)]; exact hj
  · intro j hj
    have := HD.out; have := HZ.out
    rw [Bx.cell ⟨_, hd.1⟩, Array.getElem?_eq_getElem (by omega)]; rfl
  · intro j hj; exact Bx.free ⟨_, hd.1⟩ _
  · intro u hu; exact hx1 u (List.mem_of_mem_drop hu)
  repeat (with_reducible refine RegR.can0 _ rfl rfl (fun K hK => ?_)
          go_simp
          first
            | (refine hK _ ?_; clear hK K)
            | (refine ⟨_, fun _ _ => rfl, hK _ ?_⟩; clear hK K)
            | (refine ⟨_, fun _ _ _ => rfl, hK _ ?_⟩; clear hK K))
  intro w1 B1 H1
  have hs2 := putAt_size (xs.drop (i * 2)) cur ((i + 1) * 2)
  have hcp2 : ∀ ty dc, (Builtin.copy_ #[27, 27] ty #[.slice (some ⟨g, i * 2, none⟩) (n + 1 - i) dc, .slice (some ⟨vb, 0, none⟩) 1 1]).run Tryz.prog w1 = .ok (goInt (Nat.min 1 (n + 1 - i))) (w1.setCells g (i * 2) vs) := fun ty dc =>
    run_copy_any w1 27 27 ty 116 2 g (i * 2) (n + 1 - i) dc ⟨vb, 0, none⟩ 1 1 vs Tryz.underlying27 hsz1 (by rw [HVL.out]; simp only [Nat.min_def]; split <;> omega)
      (fun j u hj => by rw [Addr.add_lit, Bx.cell ⟨_, H1.2⟩, Nat.zero_add, ← Array.getElem?_toList, HCL.out]; exact hj)
      (fun j hj => by
        have := HVL.out; have := HZ.out
        rw [Bx.cell ⟨_, H1.1⟩, Array.getElem?_eq_getElem (by omega)]; rfl)
      (fun j hj => Bx.free ⟨_, H1.1⟩ _) hv1
  have HH1 := Lib.hid H1
  have HS2 := Lib.hid hs2
  clear H1 hs2
  go_wp2_with (at_builtin; refine wpList_copy_is rfl _ _ 27 27 rfl _ _ rfl rfl (hcp2 _ _) ?_)
  go_ret
  have hb2 := below_cells hbg vs (i * 2) w1 B1
  have hh2 := heap_setCells (w := w1) vs (i * 2) w1 _ HH1.out.1
  have q1 := HL.out; have q2 := HZ.out; have q3 := HD.out; have q4 := HVL.out
  refine ⟨_, rfl, ⟨?_, .inr ⟨g, cap, _, rfl, hbg, hh2, by omega, by unfold maxLen; omega, ?_, ?_⟩⟩, hb2⟩
  · rw [List.length_append, List.length_append, List.length_take, q3, q4]
    have : min (i * 2) xs.length = i * 2 := by omega
    omega
  · rw [putAt_size, HS2.out]; exact q2
  · have e0 : xs.drop (i * 2) = xs.drop (i * 2) := rfl
    rw [putAt_toList _ _ _ (by rw [HS2.out]; omega), putAt_toList _ _ _ (by omega)]
    have e1 : (cur.toList.take ((i + 1) * 2)).length = (i + 1) * 2 := by rw [List.length_take, Array.length_toList]; omega
    have e3 : (cur.toList.take ((i + 1) * 2) ++ xs.drop (i * 2)).length = (n + 1) * 2 := by rw [List.length_append, e1, q3]; omega
    have f1 : (cur.toList.take ((i + 1) * 2) ++ xs.drop (i * 2) ++ cur.toList.drop ((i + 1) * 2 + (xs.drop (i * 2)).length)).take (i * 2) = xs.take (i * 2) := by
      rw [List.append_assoc, List.take_append_of_le_length (by omega), List.take_take, ← HT.out, List.take_take]
      congr 1; omega
    have f2 : (cur.toList.take ((i + 1) * 2) ++ xs.drop (i * 2) ++ cur.toList.drop ((i + 1) * 2 + (xs.drop (i * 2)).length)).drop (i * 2 + vs.length) = xs.drop (i * 2) ++ cur.toList.drop ((i + 1) * 2 + (xs.drop (i * 2)).length) := by
      rw [List.append_assoc, q4, show i * 2 + 2 = (i + 1) * 2 by omega, List.drop_append_of_le_length (by omega), List.drop_of_length_le (by omega), List.nil_append]
    rw [f1, f2, ← List.append_assoc]
    refine take_eq ?_
    rw [List.length_append, List.length_append, List.length_take, q3, q4]
    have : min (i * 2) xs.length = i * 2 := by omega
    omega
set_option maxHeartbeats 8000000 in
set_option maxRecDepth 1000000 in
/-- ahead of the end, where there is no room -/
theorem grow_calls (base g cap : Nat) (cur : Array Value) (n i : Nat) (xs vs : List Value) (vb : Nat) (cv : Array Value) (tA : TypeId) (W : World) (hvl : vs.length = 2) (hv1 : ∀ u ∈ vs, u.oneCell' = true) (hx1 : ∀ u ∈ xs, u.oneCell' = true)
    (hbg : base ≤ g) (hi : i < n) (hnc : n ≤ cap) (hroom : cap < n + 1) (hbig : (n + 1) * 16 ≤ 140737488355328) (hl : xs.length = n * 2) (hh : W.heap[g]? = some (.cells cur 116 (0, 0))) (hsz : cur.size = cap * 2) (htk : cur.toList.take (n * 2) = xs)
    (hcv : W.heap[vb]? = some (.cells cv tA (0, 0))) (hcvl : cv.toList = vs) :
    Calls Tryz.prog 131 #[.slice (some ⟨g, 0, none⟩) n cap, .int .i64 i, .slice (some ⟨vb, 0, none⟩) 1 1] W fun e w' => ∃ v', e = .returned v' ∧ w'.ownsRow base 116 2 v' (n + 1) (xs.take (i * 2) ++ vs ++ xs.drop (i * 2)) ∧ Below base W w' := by
  obtain ⟨i0, hi0, hz0, hz1, hz2⟩ := info_parts CloneCell.info
  have hgl : g < W.heap.size := Bx.lt ⟨_, hh⟩
  have hvl' : vb < W.heap.size := Bx.lt ⟨_, hcv⟩
  have hxs : ∀ j, j < n * 2 → xs[j]? = cur[j]? := fun j hj => by
    rw [← htk, List.getElem?_take_of_lt hj, Array.getElem?_toList]
  have hsz1 : (Tryz.prog.info? 116).map (·.size) = some 2 := by rw [hi0]; simp [hz1]
  have hdl : (xs.drop (i * 2)).length = (n - i) * 2 := by rw [List.length_drop, hl]; omega
  have htl : (xs.take (i * 2)).length = i * 2 := by rw [List.length_take, hl]; omega
  have hold : (Builtin.firstCells i0.size i (.slice (some ⟨g, 0, none⟩) i cap)).run Tryz.prog W.drew = .ok (xs.take (i * 2)).toArray W.drew := by
    rw [hz1]
    refine run_firstCells_some W.drew 2 i ⟨g, 0, none⟩ i cap (xs.take (i * 2)) htl (fun j u hj => ?_)
    have hj' : j < i * 2 := by have := (List.getElem?_eq_some_iff.1 hj).1; omega
    rw [Addr.add_lit, Nat.zero_add, Bx.cell (w := W.drew) ⟨_, hh⟩, ← hxs _ (by omega)]
    rw [List.getElem?_take_of_lt hj'] at hj
    exact hj
  have hkk : (n : Int) + 1 - (i : Int) = ((n + 1 - i : Nat) : Int) := by omega
  have hik : i + (n + 1 - i) = n + 1 := by omega
  obtain ⟨G, hG⟩ : ∃ G, G = grownCap W (n + 1) cap 116 := ⟨_, rfl⟩
  obtain ⟨ROW, hROW⟩ : ∃ ROW : Array Value, ROW = (xs.take (i * 2)).toArray ++ Builtin.zeroCells zv.cells (n + 1 - i) ++ Builtin.zeroCells zv.cells (G - (n + 1)) := ⟨_, rfl⟩
  obtain ⟨W1, hW1⟩ : ∃ W1, W1 = W.drew.alloc (.cells ROW 116) := ⟨_, rfl⟩
  have hrz : ∀ ty, (Builtin.append_ #[27, 3] ty #[.slice (some ⟨g, 0, none⟩) i cap, .int .i64 ((n : Int) + 1 - (i : Int))]).run Tryz.prog W = .ok (.slice (some ⟨W.heap.size, 0, none⟩) (n + 1) G) W1 := fun ty => by
    have h := Lib.run_append_grow_zeros W 27 3 ty 116 i0 zv .i64 .i64 Tryz.underlying27 Tryz.underlying3 hi0 hz0 (some ⟨g, 0, none⟩) i cap (xs.take (i * 2)) hold (n + 1 - i) (by omega) (by omega) (by omega) (by omega) (by rw [hz2]; omega) (by rw [hz2, hik]; exact growslice_fits hroom hbig)
    rw [hik, ← hG, ← hROW, ← hW1] at h
    rw [hkk]; exact h
  have hGn : n + 1 ≤ G := by rw [hG]; exact grownCap_ge W _ _ _
  have hG63 : G ≤ 9223372036854775807 := by
    have := grownCap_le_maxLen W (n + 1) cap 116 (by unfold maxLen; omega)
    rw [← hG] at this
    unfold maxLen at this
    omega
  have hRs : ROW.size = G * 2 := by
    rw [hROW]; simp [Builtin.zeroCells, Value.cells, zv]; omega
  have hRt : ROW.toList.take (i * 2) = xs.take (i * 2) := by
    rw [hROW, Array.toList_append, Array.toList_append, List.append_assoc]
    exact take_eq htl
  have hN : W1.heap[W.heap.size]? = some (.cells ROW 116 (0, 0)) := by
    rw [hW1]; show (W.heap.push _)[W.heap.size]? = _; rw [Array.getElem?_push, if_pos rfl]
  have hB1 : Below W.heap.size W W1 := by rw [hW1]; exact ((Below.refl _ W).drew).alloc (Nat.le_refl _) _
  have hg1 : W1.heap[g]? = some (.cells cur 116 (0, 0)) := (hB1.block g hgl).trans hh
  have hv1b : W1.heap[vb]? = some (.cells cv tA (0, 0)) := (hB1.block vb hvl').trans hcv
  have hcp1 : ∀ ty dc, (Builtin.copy_ #[27, 27] ty #[.slice (some ⟨W.heap.size, i * 2, none⟩) (n + 1 - i) dc, .slice (some ⟨vb, 0, none⟩) 1 1]).run Tryz.prog W1 = .ok (goInt (Nat.min 1 (n + 1 - i))) (W1.setCells W.heap.size (i * 2) vs) := fun ty dc =>
    run_copy_any W1 27 27 ty 116 2 W.heap.size (i * 2) (n + 1 - i) dc ⟨vb, 0, none⟩ 1 1 vs Tryz.underlying27 hsz1 (by rw [hvl]; simp only [Nat.min_def]; split <;> omega)
      (fun j u hj => by rw [Addr.add_lit, Bx.cell ⟨_, hv1b⟩, Nat.zero_add, ← Array.getElem?_toList, hcvl]; exact hj)
      (fun j hj => by rw [Bx.cell ⟨_, hN⟩, Array.getElem?_eq_getElem (by omega)]; rfl)
      (fun j hj => Bx.free ⟨_, hN⟩ _) hv1
  obtain ⟨W2, hW2⟩ : ∃ W2, W2 = W1.setCells W.heap.size (i * 2) vs := ⟨_, rfl⟩
  rw [← hW2] at hcp1
  have hgN : g ≠ W.heap.size := by omega
  have hN2 : W2.heap[W.heap.size]? = some (.cells (putAt ROW (i * 2) vs) 116 (0, 0)) := by rw [hW2]; exact heap_setCells (w := W1) _ _ _ _ hN
  have hg2 : W2.heap[g]? = some (.cells cur 116 (0, 0)) := by rw [hW2]; exact (heap_cells_far hgN _ _ _).trans hg1
  have hB2 : Below W.heap.size W W2 := by rw [hW2]; exact below_cells (Nat.le_refl _) _ _ _ hB1
  have hs2 := putAt_size vs ROW (i * 2)
  have hgi : ¬ (G = i) := by omega
  have hgim : ¬ (G = i + 1) := by omega
  have hci : ¬ (cap = i) := by omega
  have hw1 : IntKind.i64.wrap ((i : Int) + 1) = (i : Int) + 1 := by rw [IntKind.wrap_i64]; omega
  have htn : ((i : Int) + 1).toNat = i + 1 := by omega
  have hb1 : (0 : Int) ≤ (i : Int) + 1 := by omega
  have hin : i ≤ n := by omega
  have hb3 : (i : Int) ≤ (n : Int) + 1 := by omega
  have hb5 : ¬ ((i : Int) = (n : Int)) := by omega
  have hb6 : (i : Int) + 1 ≤ (n : Int) + 1 := by omega
  have hb7 : (cap : Int) < (n : Int) + 1 := by omega
  have hic : i ≤ cap := by omega
  have H2 := Lib.hid (And.intro hN2 hg2)
  have HB2 := Lib.hid hB2
  have HX := Lib.hid hxs
  have HD := Lib.hid hdl
  have HTL := Lib.hid htl
  have HL := Lib.hid hl
  have HZ := Lib.hid hsz
  have HRS := Lib.hid hRs
  have HRT := Lib.hid hRt
  have HVL := Lib.hid hvl
  have HS2 := Lib.hid hs2
  clear hh hxs hdl htl hold hkk hik hG hROW hW1 hRs hRt hN hB1 hg1 hv1b hW2 hN2 hg2 hB2 hcv hcvl hl hsz htk hvl hs2
  go_enter Tryz.func131, Tryz.ntmps131
  go_wp2_with (first
    | (at_builtin; refine Lib.wpList_append_run _ rfl _ _ _ _ rfl _ _ rfl rfl _ _ (hrz _) ?_)
    | (at_builtin; refine wpList_copy_is rfl _ _ 27 27 rfl _ _ rfl rfl (hcp1 _ _) ?_))
  refine RegR.region_from (Θ := Nat) [0, 0, 0, 0, 0, 0, 0, 0, 3] [0, 1, 2, 3, 4, 5, 6, 7, 8] (fun w' => Below base W w') (fun _ _ => .int .i64 0) (fun _ _ _ => True) (by kernel_rfl) (by kernel_rfl)
    (fun w w' h b => h.trans (b.mono (by have := h.size; omega))) (fun _ _ _ _ _ _ => trivial) (Below.drew (HB2.out.mono (by omega))) (fun w' => w'.heap[W.heap.size]? = some (.cells (putAt ROW (i * 2) vs) 116 (0, 0)) ∧ w'.heap[g]? = some (.cells cur 116 (0, 0)))
    (fun w w' h b => ⟨(b.block _ (Bx.lt ⟨_, h.1⟩)).trans h.1, (b.block g (Bx.lt ⟨_, h.2⟩)).trans h.2⟩) H2.out ?_
  repeat (with_reducible refine RegR.can0 _ rfl rfl (fun K hK => ?_)
          go_simp
          first
            | (refine hK _ ?_; clear hK K)
            | (refine ⟨_, fun _ _ => rfl, hK _ ?_⟩; clear hK K)
            | (refine ⟨_, fun _ _ _ => rfl, hK _ ?_⟩; clear hK K)
            | (refine ⟨_, fun _ _ _ _ => rfl, hK _ ?_⟩; clear hK K))
  refine RegR.can3_copy _ rfl rfl rfl _ _ 27 27 rfl (.slice (some ⟨W.heap.size, (i + 1) * 2, none⟩) (n - i) (G - (i + 1))) (.slice (some ⟨g, i * 2, none⟩) (n - i) (cap - i)) _ rfl rfl
    (fun w' => w'.heap[W.heap.size]? = some (.cells (putAt (putAt ROW (i * 2) vs) ((i + 1) * 2) (xs.drop (i * 2))) 116 (0, 0)))
    (fun w w' h b => (b.block _ (Bx.lt ⟨_, h⟩)).trans h)
    (fun w hc hd => ⟨_, run_copy_any w 27 27 _ 116 2 W.heap.size ((i + 1) * 2) (n - i) _ ⟨g, i * 2, none⟩ (n - i) _ (xs.drop (i * 2)) Tryz.underlying27 hsz1 ?_ ?_ ?_ ?_ ?_,
      below_cells (by omega) _ _ _ hc, heap_setCells (w := w) _ _ _ _ hd.1⟩) ?_
  · rw [HD.out]; congr 1; simp only [Nat.min_def]; split <;> omega
  · intro j u hj
    rw [Addr.add_lit, Bx.cell ⟨_, hd.2⟩]
    rw [List.getElem?_drop] at hj
    have := (List.getElem?_eq_some_iff.1 hj).1
    have := HL.out
    rw [← HX.out _ (by omega)]; exact hj
  · intro j hj
    have := HD.out; have := HRS.out; have := HS2.out
    rw [Bx.cell ⟨_, hd.1⟩, Array.getElem?_eq_getElem (by omega)]; rfl
  · intro j hj; exact Bx.free ⟨_, hd.1⟩ _
  · intro u hu; exact hx1 u (List.mem_of_mem_drop hu)
  repeat (with_reducible refine RegR.can0 _ rfl rfl (fun K hK => ?_)
          go_simp
          first
            | (refine hK _ ?_; clear hK K)
            | (refine ⟨_, fun _ _ => rfl, hK _ ?_⟩; clear hK K)
            | (refine ⟨_, fun _ _ _ => rfl, hK _ ?_⟩; clear hK K))
  intro w3 B3 H3
  have HH3 := Lib.hid H3
  clear H3
  go_wp2
  go_ret
  have q1 := HL.out; have q2 := HRS.out; have q3 := HD.out; have q4 := HVL.out; have q5 := HS2.out
  refine ⟨_, rfl, ⟨?_, .inr ⟨W.heap.size, G, _, rfl, by omega, HH3.out, by omega, by unfold maxLen; omega, ?_, ?_⟩⟩, B3⟩
  · rw [List.length_append, List.length_append, List.length_take, q3, q4]
    have : min (i * 2) xs.length = i * 2 := by omega
    omega
  · rw [putAt_size, q5]; exact q2
  · have e1 : (ROW.toList.take (i * 2) ++ vs).length = (i + 1) * 2 := by rw [HRT.out, List.length_append, HTL.out, q4]; omega
    rw [putAt_toList _ _ _ (by rw [q5]; omega), putAt_toList _ _ _ (by omega), take_eq e1, HRT.out]
    refine take_eq ?_
    rw [List.length_append, List.length_append, HTL.out, q3, q4]
    omega
end Go.Proofs.YtkffmaeiplgjeaaGreatDoor.InsertCell
/- The contract of slices.Insert of one element, at api.Cell, whole. -/
namespace Go.Proofs.YtkffmaeiplgjeaaGreatDoor.InsertCell
open Go.RowKit Go.Proofs.YtkffmaeiplgjeaaGreatDoor.Bv Go.Proofs.YtkffmaeiplgjeaaGreatDoor.Base Go.Proofs.YtkffmaeiplgjeaaGreatDoor.MemL
set_option linter.unusedVariables false
theorem insert_calls (base : Nat) (v : Value) (n i : Nat) (xs vs : List Value) (vb : Nat) (cv : Array Value) (tA : TypeId) (W : World) (hvl : vs.length = 2) (hv1 : ∀ u ∈ vs, u.oneCell' = true) (hx1 : ∀ u ∈ xs, u.oneCell' = true)
    (hi : i ≤ n) (hbase : base ≤ W.heap.size) (hbig : (n + 1) * 16 ≤ 140737488355328) (hown : W.ownsRow base 116 2 v n xs) (hcv : W.heap[vb]? = some (.cells cv tA (0, 0))) (hcvl : cv.toList = vs) (hvb : ∀ g, v.ownBlock = some g → vb ≠ g) :
    Calls Tryz.prog 131 #[v, .int .i64 i, .slice (some ⟨vb, 0, none⟩) 1 1] W fun e w' => ∃ v', e = .returned v' ∧ w'.ownsRow base 116 2 v' (n + 1) (xs.take (i * 2) ++ vs ++ xs.drop (i * 2)) ∧ Below base W w' := by
  by_cases he : i = n
  · subst he
    have hl := hown.1
    refine (end_calls base v i xs vs vb W hvl hv1 hbase hbig hown (fun j u hj => by rw [Bx.cell ⟨_, hcv⟩, ← Array.getElem?_toList, hcvl]; exact hj)).mono ?_
    rintro e w' ⟨v', h1, h2, h3⟩
    refine ⟨v', h1, ?_, h3⟩
    rw [List.take_of_length_le (by omega), List.drop_of_length_le (by omega), List.append_nil]
    exact h2
  · obtain ⟨hl, ho⟩ := hown
    rcases ho with ⟨_, hn⟩ | ⟨g, cap, cur, rfl, hbg, hh, hnc, hmax, hsz, htk⟩
    · omega
    unfold maxLen at hmax
    by_cases hr : n + 1 ≤ cap
    · exact shift_calls base g cap cur n i xs vs vb cv tA W hvl hv1 hx1 hbg (by omega) hr hmax hl hh hsz htk hcv hcvl (hvb g rfl)
    · exact grow_calls base g cap cur n i xs vs vb cv tA W hvl hv1 hx1 hbg (by omega) hnc (by omega) hbig hl hh hsz htk hcv hcvl
end Go.Proofs.YtkffmaeiplgjeaaGreatDoor.InsertCell
/- The contract of mem.put: a word of memory, written. -/
namespace Go.Proofs.YtkffmaeiplgjeaaGreatDoor.PutC
open Go.RowKit Go.Proofs.YtkffmaeiplgjeaaGreatDoor.Bv Go.Proofs.YtkffmaeiplgjeaaGreatDoor.Base Go.Proofs.YtkffmaeiplgjeaaGreatDoor.MemL Go.Proofs.YtkffmaeiplgjeaaGreatDoor.MemC
set_option linter.unusedVariables false
set_option linter.unusedSimpArgs false
/-- a memory's cells, with another number at a place -/
def putM : List (Int × Int) → Int → Int → List (Int × Int)
  | [], k, v => if v = 0 then [] else [(k, v)]
  | c :: cs, k, v => if c.1 < k then c :: putM cs k v else if c.1 = k then (if v = 0 then cs else (k, v) :: cs) else (if v = 0 then c :: cs else (k, v) :: c :: cs)
theorem fl_one (xs : List (Int × Int)) : ∀ u ∈ fl xs, u.oneCell' = true := fun u hu => by
  unfold fl at hu
  obtain ⟨c, _, hc⟩ := List.mem_flatMap.1 hu
  simp at hc
  rcases hc with rfl | rfl <;> rfl
theorem fl_append (xs ys : List (Int × Int)) : fl (xs ++ ys) = fl xs ++ fl ys := by simp [fl]
theorem fl_take (xs : List (Int × Int)) : ∀ k, (fl xs).take (k * 2) = fl (xs.take k) := by
  induction xs with
  | nil => intro k; simp [fl]
  | cons c cs ih =>
    intro k
    cases k with
    | zero => simp [fl]
    | succ k => rw [show (k + 1) * 2 = k * 2 + 1 + 1 by omega, fl_cons, List.take_succ_cons, List.take_succ_cons, ih k, List.take_succ_cons, fl_cons]
theorem fl_drop (xs : List (Int × Int)) : ∀ k, (fl xs).drop (k * 2) = fl (xs.drop k) := by
  induction xs with
  | nil => intro k; simp [fl]
  | cons c cs ih =>
    intro k
    cases k with
    | zero => simp
    | succ k => rw [show (k + 1) * 2 = k * 2 + 1 + 1 by omega, fl_cons, List.drop_succ_cons, List.drop_succ_cons, ih k, List.drop_succ_cons]
theorem put_eq (xs : List (Int × Int)) (k v : Int) (hs : Srt xs) :
    putM xs k v = if has xs k then (if v = 0 then xs.take (lb xs k) ++ xs.drop (lb xs k + 1) else xs.take (lb xs k) ++ [(k, v)] ++ xs.drop (lb xs k + 1)) else (if v = 0 then xs else xs.take (lb xs k) ++ [(k, v)] ++ xs.drop (lb xs k)) := by
  induction xs with
  | nil => simp [putM, has, lb]
  | cons c cs ih =>
    have hs' := List.pairwise_cons.1 hs
    by_cases h1 : c.1 < k
    · have e : has (c :: cs) k = has cs k := by unfold has; simp only [lb, if_pos h1]; rfl
      simp only [putM, if_pos h1, e, lb]
      rw [ih hs'.2]
      cases has cs k <;> by_cases hv : v = 0 <;> simp [hv]
    · have e : has (c :: cs) k = (c.1 == k) := by unfold has; simp only [lb, if_neg h1]; rfl
      simp only [putM, if_neg h1, e, lb]
      by_cases h2 : c.1 = k
      · simp [h2]
      · simp [h2]
theorem bx_new1 {w : World} {o : Obj} {c : Array Value} {T : TypeId} : Bx ((w.alloc o).alloc (.cells c T)) (w.heap.size + 1) c := by
  have h : (w.alloc o).heap.size = w.heap.size + 1 := by unfold World.alloc; rw [Array.size_push]
  have := @Bx.new (w.alloc o) c T
  rwa [h] at this
theorem owns_slice {w : World} {base : Nat} {e : TypeId} {size : Nat} {v : Value} {n : Nat} {xs : List Value} (h : w.ownsRow base e size v n xs) : ∃ a c, v = .slice a n c := by
  obtain ⟨_, ⟨rfl, rfl⟩ | ⟨g, cap, cur, rfl, _⟩⟩ := h
  · exact ⟨_, _, rfl⟩
  · exact ⟨_, _, rfl⟩
theorem fl_set (B : List (Int × Int)) (k x y : Int) : ∀ A : List (Int × Int), fl (A ++ [(k, x)] ++ B) = (fl (A ++ [(k, y)] ++ B)).set (A.length * 2 + 1) (.int .u64 x)
  | [] => by simp [fl_cons]
  | c :: A => by
    have ih := fl_set B k x y A
    simp only [List.cons_append, fl_cons, List.length_cons]
    rw [show (A.length + 1) * 2 + 1 = (A.length * 2 + 1) + 1 + 1 by omega, List.set_cons_succ, List.set_cons_succ, ih]
theorem split_at (xs : List (Int × Int)) (i : Nat) (k : Int) (c : Int × Int) (h : xs[i]? = some c) (hk : c.1 = k) : xs = xs.take i ++ [(k, c.2)] ++ xs.drop (i + 1) := by
  obtain ⟨hi, rfl⟩ := List.getElem?_eq_some_iff.1 h
  subst hk
  show xs = xs.take i ++ [xs[i]] ++ xs.drop (i + 1)
  simp
theorem owns_le {w : World} {base base' : Nat} {e : TypeId} {size : Nat} {v : Value} {n : Nat} {xs : List Value} (hb : base' ≤ base) (h : w.ownsRow base e size v n xs) : w.ownsRow base' e size v n xs := by
  obtain ⟨h1, h2⟩ := h
  refine ⟨h1, ?_⟩
  rcases h2 with h2 | ⟨g, cap, cur, hv, hg, r⟩
  · exact .inl h2
  · exact .inr ⟨g, cap, cur, hv, Nat.le_trans hb hg, r⟩
theorem owns_below {w w' : World} {base : Nat} {e : TypeId} {size : Nat} {v : Value} {n : Nat} {xs : List Value} (h : w.ownsRow base e size v n xs) (b : Below w.heap.size w w') : w'.ownsRow base e size v n xs := by
  obtain ⟨h1, h2⟩ := h
  refine ⟨h1, ?_⟩
  rcases h2 with h2 | ⟨g, cap, cur, hv, hg, hh, r⟩
  · exact .inl h2
  · exact .inr ⟨g, cap, cur, hv, hg, (b.block g (Bx.lt ⟨_, hh⟩)).trans hh, r⟩
theorem owns_row {w : World} {base b : Nat} {e : TypeId} {size : Nat} {v : Value} {n : Nat} {xs : List Value} (h : w.ownsRow base e size v n xs) (hb : b < base) (d : Array Value) : (w.setRow b d).ownsRow base e size v n xs := by
  obtain ⟨h1, h2⟩ := h
  refine ⟨h1, ?_⟩
  rcases h2 with h2 | ⟨g, cap, cur, hv, hg, hh, r⟩
  · exact .inl h2
  · exact .inr ⟨g, cap, cur, hv, hg, by unfold World.setRow; simp only [Array.getElem?_modify]; rw [if_neg (by omega)]; exact hh, r⟩
theorem owns_down {w : World} {base : Nat} {e : TypeId} {size : Nat} {v : Value} {n : Nat} {xs : List Value} (h : w.ownsRow base e size v n xs) (b o : Nat) (hb : b < base) (u : Value) : (w.setCell ⟨b, o, none⟩ u).ownsRow base e size v n xs := ownsRow_setCell_below h hb u
theorem has_lt {xs : List (Int × Int)} {k : Int} (h : has xs k = true) : lb xs k < xs.length := by
  unfold has at h
  split at h
  · rename_i c hc; exact (List.getElem?_eq_some_iff.1 hc).1
  · cases h
set_option maxHeartbeats 4000000 in
theorem put_calls (sz : Int) (v : Value) (xs : List (Int × Int)) (k x : Int) (W : World) (hs : Srt xs) (hbig : (xs.length + 1) * 16 ≤ 140737488355328) (hv : Sl W v xs.length 2 (fl xs)) :
    Calls Tryz.prog 113 #[.agg #[.int .u64 sz, v], .int .u64 k, .int .u64 x] W fun e w' => ∃ v', e = .returned (.agg #[.int .u64 sz, v']) ∧ w'.ownsRow W.heap.size 116 2 v' (putM xs k x).length (fl (putM xs k x)) ∧ Below W.heap.size W w' := by
  have B0 := bel_alloc (bel_alloc (Below.refl W.heap.size W) (.cells #[.int .u64 sz, v] 29)) (.cells #[.int .u64 0, .slice none 0 0] 29)
  have X0 : Bx ((W.alloc (.cells #[.int .u64 sz, v] 29)).alloc (.cells #[.int .u64 0, .slice none 0 0] 29)) W.heap.size #[.int .u64 sz, v] := Bx.alloc Bx.new
  have X1 : Bx ((W.alloc (.cells #[.int .u64 sz, v] 29)).alloc (.cells #[.int .u64 0, .slice none 0 0] 29)) (W.heap.size + 1) #[.int .u64 0, .slice none 0 0] := bx_new1
  have S0 := hv.below B0
  go_enter Tryz.func113, Tryz.ntmps113
  go_wp2_with fail
  refine (find_calls sz v xs k _ hs (hv.below B0)).mono ?_
  rintro e w1 ⟨rfl, b1⟩
  have B1 := bel_trans B0 b1
  have Y0 := X0.below b1
  have Y1 := X1.below b1
  have S1 := S0.below b1
  clear X0 X1 S0 b1 B0 hv
  have hsz := Y1.lt
  have y00 : w1.cell? ⟨W.heap.size, 0, none⟩ = some (.int .u64 sz) := Y0.cell 0
  have y01 : w1.cell? ⟨W.heap.size, 1, none⟩ = some v := Y0.cell 1
  go_wp2_with fail
  refine (Go.Proofs.YtkffmaeiplgjeaaGreatDoor.CloneCell.clone_calls v xs.length (fl xs) _ (fl_one xs) (by omega) S1).mono ?_
  rintro e w2 ⟨v2, rfl, O2, b2⟩
  obtain ⟨a2, c2, rfl⟩ := owns_slice O2
  have B2 := bel_trans B1 b2
  have Z0 := Y0.below b2
  have Z1 := Y1.below b2
  clear Y0 Y1 y00 y01 S1
  have hlb := lb_le xs k
  have hfl := fl_length xs
  have hput := put_eq xs k x hs
  have h12 := b2.size
  have f0 := Z0.free
  have z0 : w2.cell? ⟨W.heap.size, 0, none⟩ = some (.int .u64 sz) := Z0.cell 0
  have z1 : w2.cell? ⟨W.heap.size, 1, none⟩ = some v := Z0.cell 1
  have g0 := Z1.free
  have q0 : w2.cell? ⟨W.heap.size + 1, 0, none⟩ = some (.int .u64 0) := Z1.cell 0
  have q1 : w2.cell? ⟨W.heap.size + 1, 1, none⟩ = some (.slice none 0 0) := Z1.cell 1
  by_cases hx : x = 0
  · subst hx
    cases hh : has xs k
    · rw [hh] at hput
      have HP := Lib.hid (show putM xs k 0 = xs by simpa using hput)
      clear hput hh
      go_wp2
      refine bodyPost_ret (v := .agg #[.int .u64 sz, .slice a2 xs.length c2]) (by simp [results, Tryz.results113, go_sem, q0, q1]) rfl ⟨_, rfl, ?_, ?_⟩
      · rw [HP.out]
        exact owns_le (by omega) (owns_down (owns_down (owns_down O2 W.heap.size 1 (by omega) (.slice a2 (xs.length) c2)) (W.heap.size + 1) 0 (by omega) (.int .u64 sz)) (W.heap.size + 1) 1 (by omega) (.slice a2 (xs.length) c2))
      · exact bel_setCell _ _ _ (by omega) (bel_setCell _ _ _ (by omega) (bel_setCell _ _ _ (by omega) B2))
    · rw [hh] at hput
      have hlt := has_lt hh
      have HP := Lib.hid (show putM xs k 0 = xs.take (lb xs k) ++ xs.drop (lb xs k + 1) by simpa using hput)
      clear hput hh
      have hbl : ((lb xs k : Nat) : Int) < (2 : Int) ^ 62 := by omega
      have hwr : IntKind.i64.wrap (((lb xs k : Nat) : Int) + 1) = ((lb xs k : Nat) : Int) + 1 := by rw [IntKind.wrap_i64]; omega
      go_wp2_with fail
      refine (Go.Proofs.YtkffmaeiplgjeaaGreatDoor.DeleteCell.delete_calls w1.heap.size _ xs.length (lb xs k) (fl xs) _ (fl_one xs) hlt O2).mono ?_
      rintro e w3 ⟨v3, rfl, O3, b3⟩
      have b3m : Below W.heap.size W w3 := B2.trans (b3.mono (by omega))
      obtain ⟨a3, c3, rfl⟩ := owns_slice O3
      have h23 := b3.size
      have B3 := b3m
      clear f0 z0 z1 g0 q0 q1
      have T0 := Z0.of_below b3 (by omega)
      have T1 := Z1.of_below b3 (by omega)
      have f0 := T0.free
      have z0 : w3.cell? ⟨W.heap.size, 0, none⟩ = some (.int .u64 sz) := T0.cell 0
      have z1 : w3.cell? ⟨W.heap.size, 1, none⟩ = some v := T0.cell 1
      have g0 := T1.free
      have q0 : w3.cell? ⟨W.heap.size + 1, 0, none⟩ = some (.int .u64 0) := T1.cell 0
      have q1 : w3.cell? ⟨W.heap.size + 1, 1, none⟩ = some (.slice none 0 0) := T1.cell 1
      go_wp2
      refine bodyPost_ret (v := .agg #[.int .u64 sz, .slice a3 (xs.length - 1) c3]) (by simp [results, Tryz.results113, go_sem, q0, q1]) rfl ⟨_, rfl, ?_, ?_⟩
      · rw [HP.out]
        have O4 := owns_le (base' := W.heap.size) (by omega) (owns_down (owns_down (owns_down O3 W.heap.size 1 (by omega) (.slice a3 (xs.length - 1) c3)) (W.heap.size + 1) 0 (by omega) (.int .u64 sz)) (W.heap.size + 1) 1 (by omega) (.slice a3 (xs.length - 1) c3))
 
        have e1 : (xs.take (lb xs k) ++ xs.drop (lb xs k + 1)).length = xs.length - 1 := by rw [List.length_append, List.length_take, List.length_drop]; omega
        rw [e1, fl_append, ← fl_take, ← fl_drop]
        exact O4
      · exact bel_setCell _ _ _ (by omega) (bel_setCell _ _ _ (by omega) (bel_setCell _ _ _ (by omega) B3))
  · cases hh : has xs k
    · rw [hh] at hput
      have HP := Lib.hid (show putM xs k x = xs.take (lb xs k) ++ [(k, x)] ++ xs.drop (lb xs k) by simpa [hx] using hput)
      clear hput hh
      go_wp2_with fail
      refine (Go.Proofs.YtkffmaeiplgjeaaGreatDoor.InsertCell.insert_calls w1.heap.size _ xs.length (lb xs k) (fl xs) [.int .u64 k, .int .u64 x] w2.heap.size #[.int .u64 k, .int .u64 x] _ _ rfl (by simp [Value.oneCell']) (fl_one xs) hlb (by rw [World.size_alloc]; omega) (by omega) (O2.alloc _) (heap_alloc_new _ _) rfl (fun g hg => by have := (O2.lt g hg).2; omega)).mono ?_
      rintro e w3 ⟨v3, rfl, O3, b3'⟩
      have b3 : Below w1.heap.size w2 w3 := ((Below.refl _ w2).alloc h12 _).trans b3'
      have b3m : Below W.heap.size W w3 := B2.trans (b3.mono (by omega))
      obtain ⟨a3, c3, rfl⟩ := owns_slice O3
      have h23 := b3.size
      have B3 := b3m
      clear f0 z0 z1 g0 q0 q1
      have T0 := Z0.of_below b3 (by omega)
      have T1 := Z1.of_below b3 (by omega)
      have f0 := T0.free
      have z0 : w3.cell? ⟨W.heap.size, 0, none⟩ = some (.int .u64 sz) := T0.cell 0
      have z1 : w3.cell? ⟨W.heap.size, 1, none⟩ = some v := T0.cell 1
      have g0 := T1.free
      have q0 : w3.cell? ⟨W.heap.size + 1, 0, none⟩ = some (.int .u64 0) := T1.cell 0
      have q1 : w3.cell? ⟨W.heap.size + 1, 1, none⟩ = some (.slice none 0 0) := T1.cell 1
      go_wp2
      refine bodyPost_ret (v := .agg #[.int .u64 sz, .slice a3 (xs.length + 1) c3]) (by simp [results, Tryz.results113, go_sem, q0, q1]) rfl ⟨_, rfl, ?_, ?_⟩
      · rw [HP.out]
        have O4 := owns_le (base' := W.heap.size) (by omega) (owns_down (owns_down (owns_down O3 W.heap.size 1 (by omega) (.slice a3 (xs.length + 1) c3)) (W.heap.size + 1) 0 (by omega) (.int .u64 sz)) (W.heap.size + 1) 1 (by omega) (.slice a3 (xs.length + 1) c3))

        have e1 : (xs.take (lb xs k) ++ [(k, x)] ++ xs.drop (lb xs k)).length = xs.length + 1 := by simp; omega
        rw [e1, fl_append, fl_append, ← fl_take, ← fl_drop]
        exact O4
      · exact bel_setCell _ _ _ (by omega) (bel_setCell _ _ _ (by omega) (bel_setCell _ _ _ (by omega) B3))
    · rw [hh] at hput
      have hlt := has_lt hh
      have HP := Lib.hid (show putM xs k x = xs.take (lb xs k) ++ [(k, x)] ++ xs.drop (lb xs k + 1) by simpa [hx] using hput)
      have HE : ∃ y, xs = xs.take (lb xs k) ++ [(k, y)] ++ xs.drop (lb xs k + 1) := by
        unfold has at hh
        split at hh
        · rename_i c hc
          exact ⟨_, split_at xs _ k c hc (by simpa using hh)⟩
        · cases hh
      have HE' := Lib.hid HE
      clear hput hh HE
      have O2h := O2
      obtain ⟨_, ⟨_, hn⟩ | ⟨g, cap, cur, hv2, hg, hgh, hcap, hmax, _, _⟩⟩ := O2h
      · omega
      · simp at hv2
        obtain ⟨rfl, rfl⟩ := hv2
        unfold maxLen at hmax
        have fg := O2.frozenAt
        have cg : ∀ j, j < xs.length * 2 → ∃ u, w2.cell? ⟨g, j, none⟩ = some u := fun j hj => by rw [O2.cellAt j hj]; exact ⟨_, List.getElem?_eq_getElem (by omega)⟩
        obtain ⟨u0, cg0⟩ := cg (lb xs k * 2 + 1) (by omega)
        have hgn : g ≠ W.heap.size := by omega
        have hgn' : g ≠ W.heap.size + 1 := by omega
        go_wp2
        have S4 := (O2.stored (lb xs k * 2 + 1) (.int .u64 x)).1
        refine bodyPost_ret (v := .agg #[.int .u64 sz, .slice (some ⟨g, 0, none⟩) xs.length c2]) (by simp [results, Tryz.results113, go_sem, q0, q1]) rfl ⟨_, rfl, ?_, ?_⟩
        · rw [HP.out]
          obtain ⟨y, hy⟩ := HE'.out
          have O4 := owns_le (base' := W.heap.size) (by omega) (owns_down (owns_down (owns_down S4 W.heap.size 1 (by omega) (.slice (some ⟨g, 0, none⟩) (xs.length) c2)) (W.heap.size + 1) 0 (by omega) (.int .u64 sz)) (W.heap.size + 1) 1 (by omega) (.slice (some ⟨g, 0, none⟩) (xs.length) c2))
          have e1 : (xs.take (lb xs k) ++ [(k, x)] ++ xs.drop (lb xs k + 1)).length = xs.length := by simp; omega
          have e2 := fl_set (xs.drop (lb xs k + 1)) k x y (xs.take (lb xs k))
          rw [← hy, List.length_take, Nat.min_eq_left hlb] at e2
          rw [e1, e2]
          exact O4
        · exact bel_setCell _ _ _ (by omega) (bel_setCell _ _ _ (by omega) (bel_setCell _ _ _ (by omega) (bel_setCell _ _ _ (by omega) B2)))
end Go.Proofs.YtkffmaeiplgjeaaGreatDoor.PutC
