/- The answers that the document fixes, of the laws of the layer entry. -/
import Derived.Test.YtjgnckhbafgalaaDoorEntryR3
namespace Go.Proofs.YtjgnckhbafgalaaDoor.EntryW
open Go.RowKit Go.Proofs.YtjgnckhbafgalaaDoor.Bv Go.Proofs.YtjgnckhbafgalaaDoor.VaSpec Go.Proofs.YtjgnckhbafgalaaDoor.Base Go.Proofs.YtjgnckhbafgalaaDoor.BitsC Go.Proofs.YtjgnckhbafgalaaDoor.VaC Go.Proofs.YtjgnckhbafgalaaDoor.PteSpec Go.Proofs.YtjgnckhbafgalaaDoor.EntrySpec Go.Proofs.YtjgnckhbafgalaaDoor.EqS Go.Proofs.YtjgnckhbafgalaaDoor.QTail
set_option linter.unusedVariables false
set_option linter.unusedSimpArgs false
attribute [local go_sem high] eq_perm eq_pte eq_ent
open Go.Proofs.YtjgnckhbafgalaaDoor.EntryC Go.Proofs.YtjgnckhbafgalaaDoor.EntryR
theorem carry {W w : World} {b : Nat} {l : List Value} (hb : Below W.heap.size W w) (h : b < W.heap.size) (hc : ∀ i, i < l.length → W.cell? ⟨b, i, none⟩ = l[i]?) : ∀ i, i < l.length → w.cell? ⟨b, i, none⟩ = l[i]? := fun i hi => by
  rw [(bcell hb).1 _ _ h]; exact hc i hi
theorem name_calls {P : Program} {Q : Ending → World → Prop} {a : Array Value} {w : World} {c : Nat} {F : World → Prop} (hF : F w) (h : ∀ w', F w' → Calls P c a w' Q) : Calls P c a w Q := h w hF
set_option maxHeartbeats 4000000 in
theorem awake_calls (W : World) (hG : G W) : Calls Tryd.prog 13 #[] W fun e w' => e = .returned (.bool true) ∧ Below W.heap.size W w' := by
  have e0 : num (base 2311527 1) = 512 := by decide +kernel
  have e99 : eqEnt ⟨true, 3, false, 1, 512, 1024, ⟨true, false, false, false⟩, true⟩ ⟨true, 3, false, 1, 512, 1024, ⟨true, false, false, false⟩, true⟩ = true := by decide +kernel
  have e1 : mayE ⟨true, 3, false, 1, 512, 1024, ⟨true, false, false, false⟩, true⟩ = true := by decide +kernel
  have e2 : coversE ⟨true, 3, false, 1, 512, 1024, ⟨true, false, false, false⟩, true⟩ 2097152 = true := by decide +kernel
  have e3 : coversE ⟨true, 3, false, 1, 512, 1024, ⟨true, false, false, false⟩, true⟩ 4194303 = true := by decide +kernel
  have e4 : coversE ⟨true, 3, false, 1, 512, 1024, ⟨true, false, false, false⟩, true⟩ 4194304 = false := by decide +kernel
  have e5 : matchesE ⟨true, 3, false, 1, 512, 1024, ⟨true, false, false, false⟩, true⟩ 3 2097152 = true := by decide +kernel
  have e6 : matchesE ⟨true, 3, false, 1, 512, 1024, ⟨true, false, false, false⟩, true⟩ 4 2097152 = false := by decide +kernel
  have e7 : matchesE ⟨true, 3, true, 1, 512, 1024, ⟨true, false, false, false⟩, true⟩ 4 2097152 = true := by decide +kernel
  have e8 : physE 1 1024 2097157 = 4194309 := by decide +kernel
  have e9 : overE ⟨true, 3, false, 1, 512, 1024, ⟨true, false, false, false⟩, true⟩ ⟨true, 0, false, 0, 513, 0, ⟨false, false, false, false⟩, false⟩ = true := by decide +kernel
  have e10 : overE ⟨true, 3, false, 1, 512, 1024, ⟨true, false, false, false⟩, true⟩ ⟨true, 0, false, 0, 511, 0, ⟨false, false, false, false⟩, false⟩ = false := by decide +kernel
  have e11 : mayE ⟨false, 1, false, 0, 0, 0, ⟨false, false, false, false⟩, false⟩ = false := by decide +kernel
  have e12 : mayE ⟨false, 0, false, 0, 0, 0, ⟨false, false, false, false⟩, false⟩ = true := by decide +kernel
  go_enter Tryd.func13, Tryd.ntmps13
  go_wp2_with fail
  refine (of_calls _ _ _ _ _ _ _ _ _ _ _ _ _ _ _ _ (by omega) (by omega) (by omega) (by omega) hG).mono ?_
  rintro e w1 ⟨rfl, b1⟩
  rw [e0]
  go_wp2_with fail
  refine name_calls (F := fun w9 => w9.cell? ⟨w1.heap.size, 0, none⟩ = some (.bool true) ∧ w9.cell? ⟨w1.heap.size, 1, none⟩ = some (.int .u64 3) ∧ w9.cell? ⟨w1.heap.size, 2, none⟩ = some (.bool false) ∧ w9.cell? ⟨w1.heap.size, 3, none⟩ = some (.int .i64 1) ∧ w9.cell? ⟨w1.heap.size, 4, none⟩ = some (.int .u64 512) ∧ w9.cell? ⟨w1.heap.size, 5, none⟩ = some (.int .u64 1024) ∧ w9.cell? ⟨w1.heap.size, 6, none⟩ = some (.bool true) ∧ w9.cell? ⟨w1.heap.size, 7, none⟩ = some (.bool false) ∧ w9.cell? ⟨w1.heap.size, 8, none⟩ = some (.bool false) ∧ w9.cell? ⟨w1.heap.size, 9, none⟩ = some (.bool false) ∧ w9.cell? ⟨w1.heap.size, 10, none⟩ = some (.bool true) ∧ w9.cell? ⟨w1.heap.size + 1, 0, none⟩ = some (.bool true) ∧ w9.cell? ⟨w1.heap.size + 1, 1, none⟩ = some (.int .u64 3) ∧ w9.cell? ⟨w1.heap.size + 1, 2, none⟩ = some (.bool true) ∧ w9.cell? ⟨w1.heap.size + 1, 3, none⟩ = some (.int .i64 1) ∧ w9.cell? ⟨w1.heap.size + 1, 4, none⟩ = some (.int .u64 512) ∧ w9.cell? ⟨w1.heap.size + 1, 5, none⟩ = some (.int .u64 1024) ∧ w9.cell? ⟨w1.heap.size + 1, 6, none⟩ = some (.bool true) ∧ w9.cell? ⟨w1.heap.size + 1, 7, none⟩ = some (.bool false) ∧ w9.cell? ⟨w1.heap.size + 1, 8, none⟩ = some (.bool false) ∧ w9.cell? ⟨w1.heap.size + 1, 9, none⟩ = some (.bool false) ∧ w9.cell? ⟨w1.heap.size + 1, 10, none⟩ = some (.bool true) ∧ w1.heap.size < w9.heap.size ∧ w1.heap.size + 1 < w9.heap.size ∧ Below W.heap.size W w9) (by
    refine ⟨?_, ?_, ?_, ?_, ?_, ?_, ?_, ?_, ?_, ?_, ?_, ?_, ?_, ?_, ?_, ?_, ?_, ?_, ?_, ?_, ?_, ?_, ?_, ?_, ?_⟩
    all_goals first | (simp; done) | (simp; omega) | (intro i; simp; done) | exact (by repeat (first | (with_reducible exact Below.refl _ _) | (with_reducible apply bel_drewN) | (with_reducible apply bel_alloc) | (with_reducible apply bel_trans; rotate_left; with_reducible assumption) | (with_reducible refine bel_setCell _ _ _ (by first | omega | (simp; done) | (simp; omega) | (simp at *; omega)) ?_)))) ?_
  rintro Wx ⟨p0, p1, p2, p3, p4, p5, p6, p7, p8, p9, p10, q0, q1, q2, q3, q4, q5, q6, q7, q8, q9, q10, hz0, hz1, BX⟩
  have hG0 : G Wx := hG.to BX
  refine (may_calls _ _ _ _ _ _ _ _ _ _ _ _ ⟨by omega, by omega⟩ ⟨by omega, by omega⟩ ⟨by omega, by omega⟩ hG0).mono ?_
  rintro e v0 ⟨rfl, b⟩
  rw [e1]
  obtain ⟨c, _⟩ := bcell b
  replace p0 : v0.cell? ⟨w1.heap.size, 0, none⟩ = some (.bool true) := by rw [c _ _ hz0]; exact p0
  replace p1 : v0.cell? ⟨w1.heap.size, 1, none⟩ = some (.int .u64 3) := by rw [c _ _ hz0]; exact p1
  replace p2 : v0.cell? ⟨w1.heap.size, 2, none⟩ = some (.bool false) := by rw [c _ _ hz0]; exact p2
  replace p3 : v0.cell? ⟨w1.heap.size, 3, none⟩ = some (.int .i64 1) := by rw [c _ _ hz0]; exact p3
  replace p4 : v0.cell? ⟨w1.heap.size, 4, none⟩ = some (.int .u64 512) := by rw [c _ _ hz0]; exact p4
  replace p5 : v0.cell? ⟨w1.heap.size, 5, none⟩ = some (.int .u64 1024) := by rw [c _ _ hz0]; exact p5
  replace p6 : v0.cell? ⟨w1.heap.size, 6, none⟩ = some (.bool true) := by rw [c _ _ hz0]; exact p6
  replace p7 : v0.cell? ⟨w1.heap.size, 7, none⟩ = some (.bool false) := by rw [c _ _ hz0]; exact p7
  replace p8 : v0.cell? ⟨w1.heap.size, 8, none⟩ = some (.bool false) := by rw [c _ _ hz0]; exact p8
  replace p9 : v0.cell? ⟨w1.heap.size, 9, none⟩ = some (.bool false) := by rw [c _ _ hz0]; exact p9
  replace p10 : v0.cell? ⟨w1.heap.size, 10, none⟩ = some (.bool true) := by rw [c _ _ hz0]; exact p10
  replace q0 : v0.cell? ⟨w1.heap.size + 1, 0, none⟩ = some (.bool true) := by rw [c _ _ hz1]; exact q0
  replace q1 : v0.cell? ⟨w1.heap.size + 1, 1, none⟩ = some (.int .u64 3) := by rw [c _ _ hz1]; exact q1
  replace q2 : v0.cell? ⟨w1.heap.size + 1, 2, none⟩ = some (.bool true) := by rw [c _ _ hz1]; exact q2
  replace q3 : v0.cell? ⟨w1.heap.size + 1, 3, none⟩ = some (.int .i64 1) := by rw [c _ _ hz1]; exact q3
  replace q4 : v0.cell? ⟨w1.heap.size + 1, 4, none⟩ = some (.int .u64 512) := by rw [c _ _ hz1]; exact q4
  replace q5 : v0.cell? ⟨w1.heap.size + 1, 5, none⟩ = some (.int .u64 1024) := by rw [c _ _ hz1]; exact q5
  replace q6 : v0.cell? ⟨w1.heap.size + 1, 6, none⟩ = some (.bool true) := by rw [c _ _ hz1]; exact q6
  replace q7 : v0.cell? ⟨w1.heap.size + 1, 7, none⟩ = some (.bool false) := by rw [c _ _ hz1]; exact q7
  replace q8 : v0.cell? ⟨w1.heap.size + 1, 8, none⟩ = some (.bool false) := by rw [c _ _ hz1]; exact q8
  replace q9 : v0.cell? ⟨w1.heap.size + 1, 9, none⟩ = some (.bool false) := by rw [c _ _ hz1]; exact q9
  replace q10 : v0.cell? ⟨w1.heap.size + 1, 10, none⟩ = some (.bool true) := by rw [c _ _ hz1]; exact q10
  replace hz0 : w1.heap.size < v0.heap.size := Nat.lt_of_lt_of_le hz0 b.size
  replace hz1 : w1.heap.size + 1 < v0.heap.size := Nat.lt_of_lt_of_le hz1 b.size
  replace BX := bel_trans BX b
  replace hG0 : G v0 := hG.to BX
  clear b c
  go_wp2_with fail
  refine (covers_calls _ _ _ _ _ _ _ _ _ _ _ _ _ (fun _ => ⟨by omega, by omega⟩) (by omega) (by omega) hG0).mono ?_
  rintro e v1 ⟨rfl, b⟩
  rw [e2]
  obtain ⟨c, _⟩ := bcell b
  replace p0 : v1.cell? ⟨w1.heap.size, 0, none⟩ = some (.bool true) := by rw [c _ _ hz0]; exact p0
  replace p1 : v1.cell? ⟨w1.heap.size, 1, none⟩ = some (.int .u64 3) := by rw [c _ _ hz0]; exact p1
  replace p2 : v1.cell? ⟨w1.heap.size, 2, none⟩ = some (.bool false) := by rw [c _ _ hz0]; exact p2
  replace p3 : v1.cell? ⟨w1.heap.size, 3, none⟩ = some (.int .i64 1) := by rw [c _ _ hz0]; exact p3
  replace p4 : v1.cell? ⟨w1.heap.size, 4, none⟩ = some (.int .u64 512) := by rw [c _ _ hz0]; exact p4
  replace p5 : v1.cell? ⟨w1.heap.size, 5, none⟩ = some (.int .u64 1024) := by rw [c _ _ hz0]; exact p5
  replace p6 : v1.cell? ⟨w1.heap.size, 6, none⟩ = some (.bool true) := by rw [c _ _ hz0]; exact p6
  replace p7 : v1.cell? ⟨w1.heap.size, 7, none⟩ = some (.bool false) := by rw [c _ _ hz0]; exact p7
  replace p8 : v1.cell? ⟨w1.heap.size, 8, none⟩ = some (.bool false) := by rw [c _ _ hz0]; exact p8
  replace p9 : v1.cell? ⟨w1.heap.size, 9, none⟩ = some (.bool false) := by rw [c _ _ hz0]; exact p9
  replace p10 : v1.cell? ⟨w1.heap.size, 10, none⟩ = some (.bool true) := by rw [c _ _ hz0]; exact p10
  replace q0 : v1.cell? ⟨w1.heap.size + 1, 0, none⟩ = some (.bool true) := by rw [c _ _ hz1]; exact q0
  replace q1 : v1.cell? ⟨w1.heap.size + 1, 1, none⟩ = some (.int .u64 3) := by rw [c _ _ hz1]; exact q1
  replace q2 : v1.cell? ⟨w1.heap.size + 1, 2, none⟩ = some (.bool true) := by rw [c _ _ hz1]; exact q2
  replace q3 : v1.cell? ⟨w1.heap.size + 1, 3, none⟩ = some (.int .i64 1) := by rw [c _ _ hz1]; exact q3
  replace q4 : v1.cell? ⟨w1.heap.size + 1, 4, none⟩ = some (.int .u64 512) := by rw [c _ _ hz1]; exact q4
  replace q5 : v1.cell? ⟨w1.heap.size + 1, 5, none⟩ = some (.int .u64 1024) := by rw [c _ _ hz1]; exact q5
  replace q6 : v1.cell? ⟨w1.heap.size + 1, 6, none⟩ = some (.bool true) := by rw [c _ _ hz1]; exact q6
  replace q7 : v1.cell? ⟨w1.heap.size + 1, 7, none⟩ = some (.bool false) := by rw [c _ _ hz1]; exact q7
  replace q8 : v1.cell? ⟨w1.heap.size + 1, 8, none⟩ = some (.bool false) := by rw [c _ _ hz1]; exact q8
  replace q9 : v1.cell? ⟨w1.heap.size + 1, 9, none⟩ = some (.bool false) := by rw [c _ _ hz1]; exact q9
  replace q10 : v1.cell? ⟨w1.heap.size + 1, 10, none⟩ = some (.bool true) := by rw [c _ _ hz1]; exact q10
  replace hz0 : w1.heap.size < v1.heap.size := Nat.lt_of_lt_of_le hz0 b.size
  replace hz1 : w1.heap.size + 1 < v1.heap.size := Nat.lt_of_lt_of_le hz1 b.size
  replace BX := bel_trans BX b
  replace hG0 : G v1 := hG.to BX
  clear b c
  go_wp2_with fail
  refine (covers_calls _ _ _ _ _ _ _ _ _ _ _ _ _ (fun _ => ⟨by omega, by omega⟩) (by omega) (by omega) hG0).mono ?_
  rintro e v2 ⟨rfl, b⟩
  rw [e3]
  obtain ⟨c, _⟩ := bcell b
  replace p0 : v2.cell? ⟨w1.heap.size, 0, none⟩ = some (.bool true) := by rw [c _ _ hz0]; exact p0
  replace p1 : v2.cell? ⟨w1.heap.size, 1, none⟩ = some (.int .u64 3) := by rw [c _ _ hz0]; exact p1
  replace p2 : v2.cell? ⟨w1.heap.size, 2, none⟩ = some (.bool false) := by rw [c _ _ hz0]; exact p2
  replace p3 : v2.cell? ⟨w1.heap.size, 3, none⟩ = some (.int .i64 1) := by rw [c _ _ hz0]; exact p3
  replace p4 : v2.cell? ⟨w1.heap.size, 4, none⟩ = some (.int .u64 512) := by rw [c _ _ hz0]; exact p4
  replace p5 : v2.cell? ⟨w1.heap.size, 5, none⟩ = some (.int .u64 1024) := by rw [c _ _ hz0]; exact p5
  replace p6 : v2.cell? ⟨w1.heap.size, 6, none⟩ = some (.bool true) := by rw [c _ _ hz0]; exact p6
  replace p7 : v2.cell? ⟨w1.heap.size, 7, none⟩ = some (.bool false) := by rw [c _ _ hz0]; exact p7
  replace p8 : v2.cell? ⟨w1.heap.size, 8, none⟩ = some (.bool false) := by rw [c _ _ hz0]; exact p8
  replace p9 : v2.cell? ⟨w1.heap.size, 9, none⟩ = some (.bool false) := by rw [c _ _ hz0]; exact p9
  replace p10 : v2.cell? ⟨w1.heap.size, 10, none⟩ = some (.bool true) := by rw [c _ _ hz0]; exact p10
  replace q0 : v2.cell? ⟨w1.heap.size + 1, 0, none⟩ = some (.bool true) := by rw [c _ _ hz1]; exact q0
  replace q1 : v2.cell? ⟨w1.heap.size + 1, 1, none⟩ = some (.int .u64 3) := by rw [c _ _ hz1]; exact q1
  replace q2 : v2.cell? ⟨w1.heap.size + 1, 2, none⟩ = some (.bool true) := by rw [c _ _ hz1]; exact q2
  replace q3 : v2.cell? ⟨w1.heap.size + 1, 3, none⟩ = some (.int .i64 1) := by rw [c _ _ hz1]; exact q3
  replace q4 : v2.cell? ⟨w1.heap.size + 1, 4, none⟩ = some (.int .u64 512) := by rw [c _ _ hz1]; exact q4
  replace q5 : v2.cell? ⟨w1.heap.size + 1, 5, none⟩ = some (.int .u64 1024) := by rw [c _ _ hz1]; exact q5
  replace q6 : v2.cell? ⟨w1.heap.size + 1, 6, none⟩ = some (.bool true) := by rw [c _ _ hz1]; exact q6
  replace q7 : v2.cell? ⟨w1.heap.size + 1, 7, none⟩ = some (.bool false) := by rw [c _ _ hz1]; exact q7
  replace q8 : v2.cell? ⟨w1.heap.size + 1, 8, none⟩ = some (.bool false) := by rw [c _ _ hz1]; exact q8
  replace q9 : v2.cell? ⟨w1.heap.size + 1, 9, none⟩ = some (.bool false) := by rw [c _ _ hz1]; exact q9
  replace q10 : v2.cell? ⟨w1.heap.size + 1, 10, none⟩ = some (.bool true) := by rw [c _ _ hz1]; exact q10
  replace hz0 : w1.heap.size < v2.heap.size := Nat.lt_of_lt_of_le hz0 b.size
  replace hz1 : w1.heap.size + 1 < v2.heap.size := Nat.lt_of_lt_of_le hz1 b.size
  replace BX := bel_trans BX b
  replace hG0 : G v2 := hG.to BX
  clear b c
  go_wp2_with fail
  refine (covers_calls _ _ _ _ _ _ _ _ _ _ _ _ _ (fun _ => ⟨by omega, by omega⟩) (by omega) (by omega) hG0).mono ?_
  rintro e v3 ⟨rfl, b⟩
  rw [e4]
  obtain ⟨c, _⟩ := bcell b
  replace p0 : v3.cell? ⟨w1.heap.size, 0, none⟩ = some (.bool true) := by rw [c _ _ hz0]; exact p0
  replace p1 : v3.cell? ⟨w1.heap.size, 1, none⟩ = some (.int .u64 3) := by rw [c _ _ hz0]; exact p1
  replace p2 : v3.cell? ⟨w1.heap.size, 2, none⟩ = some (.bool false) := by rw [c _ _ hz0]; exact p2
  replace p3 : v3.cell? ⟨w1.heap.size, 3, none⟩ = some (.int .i64 1) := by rw [c _ _ hz0]; exact p3
  replace p4 : v3.cell? ⟨w1.heap.size, 4, none⟩ = some (.int .u64 512) := by rw [c _ _ hz0]; exact p4
  replace p5 : v3.cell? ⟨w1.heap.size, 5, none⟩ = some (.int .u64 1024) := by rw [c _ _ hz0]; exact p5
  replace p6 : v3.cell? ⟨w1.heap.size, 6, none⟩ = some (.bool true) := by rw [c _ _ hz0]; exact p6
  replace p7 : v3.cell? ⟨w1.heap.size, 7, none⟩ = some (.bool false) := by rw [c _ _ hz0]; exact p7
  replace p8 : v3.cell? ⟨w1.heap.size, 8, none⟩ = some (.bool false) := by rw [c _ _ hz0]; exact p8
  replace p9 : v3.cell? ⟨w1.heap.size, 9, none⟩ = some (.bool false) := by rw [c _ _ hz0]; exact p9
  replace p10 : v3.cell? ⟨w1.heap.size, 10, none⟩ = some (.bool true) := by rw [c _ _ hz0]; exact p10
  replace q0 : v3.cell? ⟨w1.heap.size + 1, 0, none⟩ = some (.bool true) := by rw [c _ _ hz1]; exact q0
  replace q1 : v3.cell? ⟨w1.heap.size + 1, 1, none⟩ = some (.int .u64 3) := by rw [c _ _ hz1]; exact q1
  replace q2 : v3.cell? ⟨w1.heap.size + 1, 2, none⟩ = some (.bool true) := by rw [c _ _ hz1]; exact q2
  replace q3 : v3.cell? ⟨w1.heap.size + 1, 3, none⟩ = some (.int .i64 1) := by rw [c _ _ hz1]; exact q3
  replace q4 : v3.cell? ⟨w1.heap.size + 1, 4, none⟩ = some (.int .u64 512) := by rw [c _ _ hz1]; exact q4
  replace q5 : v3.cell? ⟨w1.heap.size + 1, 5, none⟩ = some (.int .u64 1024) := by rw [c _ _ hz1]; exact q5
  replace q6 : v3.cell? ⟨w1.heap.size + 1, 6, none⟩ = some (.bool true) := by rw [c _ _ hz1]; exact q6
  replace q7 : v3.cell? ⟨w1.heap.size + 1, 7, none⟩ = some (.bool false) := by rw [c _ _ hz1]; exact q7
  replace q8 : v3.cell? ⟨w1.heap.size + 1, 8, none⟩ = some (.bool false) := by rw [c _ _ hz1]; exact q8
  replace q9 : v3.cell? ⟨w1.heap.size + 1, 9, none⟩ = some (.bool false) := by rw [c _ _ hz1]; exact q9
  replace q10 : v3.cell? ⟨w1.heap.size + 1, 10, none⟩ = some (.bool true) := by rw [c _ _ hz1]; exact q10
  replace hz0 : w1.heap.size < v3.heap.size := Nat.lt_of_lt_of_le hz0 b.size
  replace hz1 : w1.heap.size + 1 < v3.heap.size := Nat.lt_of_lt_of_le hz1 b.size
  replace BX := bel_trans BX b
  replace hG0 : G v3 := hG.to BX
  clear b c
  go_wp2_with fail
  refine (matches_calls _ _ _ _ _ _ _ _ _ _ _ _ _ _ (fun _ => ⟨by omega, by omega⟩) (by omega) (by omega) hG0).mono ?_
  rintro e v4 ⟨rfl, b⟩
  rw [e5]
  obtain ⟨c, _⟩ := bcell b
  replace p0 : v4.cell? ⟨w1.heap.size, 0, none⟩ = some (.bool true) := by rw [c _ _ hz0]; exact p0
  replace p1 : v4.cell? ⟨w1.heap.size, 1, none⟩ = some (.int .u64 3) := by rw [c _ _ hz0]; exact p1
  replace p2 : v4.cell? ⟨w1.heap.size, 2, none⟩ = some (.bool false) := by rw [c _ _ hz0]; exact p2
  replace p3 : v4.cell? ⟨w1.heap.size, 3, none⟩ = some (.int .i64 1) := by rw [c _ _ hz0]; exact p3
  replace p4 : v4.cell? ⟨w1.heap.size, 4, none⟩ = some (.int .u64 512) := by rw [c _ _ hz0]; exact p4
  replace p5 : v4.cell? ⟨w1.heap.size, 5, none⟩ = some (.int .u64 1024) := by rw [c _ _ hz0]; exact p5
  replace p6 : v4.cell? ⟨w1.heap.size, 6, none⟩ = some (.bool true) := by rw [c _ _ hz0]; exact p6
  replace p7 : v4.cell? ⟨w1.heap.size, 7, none⟩ = some (.bool false) := by rw [c _ _ hz0]; exact p7
  replace p8 : v4.cell? ⟨w1.heap.size, 8, none⟩ = some (.bool false) := by rw [c _ _ hz0]; exact p8
  replace p9 : v4.cell? ⟨w1.heap.size, 9, none⟩ = some (.bool false) := by rw [c _ _ hz0]; exact p9
  replace p10 : v4.cell? ⟨w1.heap.size, 10, none⟩ = some (.bool true) := by rw [c _ _ hz0]; exact p10
  replace q0 : v4.cell? ⟨w1.heap.size + 1, 0, none⟩ = some (.bool true) := by rw [c _ _ hz1]; exact q0
  replace q1 : v4.cell? ⟨w1.heap.size + 1, 1, none⟩ = some (.int .u64 3) := by rw [c _ _ hz1]; exact q1
  replace q2 : v4.cell? ⟨w1.heap.size + 1, 2, none⟩ = some (.bool true) := by rw [c _ _ hz1]; exact q2
  replace q3 : v4.cell? ⟨w1.heap.size + 1, 3, none⟩ = some (.int .i64 1) := by rw [c _ _ hz1]; exact q3
  replace q4 : v4.cell? ⟨w1.heap.size + 1, 4, none⟩ = some (.int .u64 512) := by rw [c _ _ hz1]; exact q4
  replace q5 : v4.cell? ⟨w1.heap.size + 1, 5, none⟩ = some (.int .u64 1024) := by rw [c _ _ hz1]; exact q5
  replace q6 : v4.cell? ⟨w1.heap.size + 1, 6, none⟩ = some (.bool true) := by rw [c _ _ hz1]; exact q6
  replace q7 : v4.cell? ⟨w1.heap.size + 1, 7, none⟩ = some (.bool false) := by rw [c _ _ hz1]; exact q7
  replace q8 : v4.cell? ⟨w1.heap.size + 1, 8, none⟩ = some (.bool false) := by rw [c _ _ hz1]; exact q8
  replace q9 : v4.cell? ⟨w1.heap.size + 1, 9, none⟩ = some (.bool false) := by rw [c _ _ hz1]; exact q9
  replace q10 : v4.cell? ⟨w1.heap.size + 1, 10, none⟩ = some (.bool true) := by rw [c _ _ hz1]; exact q10
  replace hz0 : w1.heap.size < v4.heap.size := Nat.lt_of_lt_of_le hz0 b.size
  replace hz1 : w1.heap.size + 1 < v4.heap.size := Nat.lt_of_lt_of_le hz1 b.size
  replace BX := bel_trans BX b
  replace hG0 : G v4 := hG.to BX
  clear b c
  go_wp2_with fail
  refine (matches_calls _ _ _ _ _ _ _ _ _ _ _ _ _ _ (fun _ => ⟨by omega, by omega⟩) (by omega) (by omega) hG0).mono ?_
  rintro e v5 ⟨rfl, b⟩
  rw [e6]
  obtain ⟨c, _⟩ := bcell b
  replace p0 : v5.cell? ⟨w1.heap.size, 0, none⟩ = some (.bool true) := by rw [c _ _ hz0]; exact p0
  replace p1 : v5.cell? ⟨w1.heap.size, 1, none⟩ = some (.int .u64 3) := by rw [c _ _ hz0]; exact p1
  replace p2 : v5.cell? ⟨w1.heap.size, 2, none⟩ = some (.bool false) := by rw [c _ _ hz0]; exact p2
  replace p3 : v5.cell? ⟨w1.heap.size, 3, none⟩ = some (.int .i64 1) := by rw [c _ _ hz0]; exact p3
  replace p4 : v5.cell? ⟨w1.heap.size, 4, none⟩ = some (.int .u64 512) := by rw [c _ _ hz0]; exact p4
  replace p5 : v5.cell? ⟨w1.heap.size, 5, none⟩ = some (.int .u64 1024) := by rw [c _ _ hz0]; exact p5
  replace p6 : v5.cell? ⟨w1.heap.size, 6, none⟩ = some (.bool true) := by rw [c _ _ hz0]; exact p6
  replace p7 : v5.cell? ⟨w1.heap.size, 7, none⟩ = some (.bool false) := by rw [c _ _ hz0]; exact p7
  replace p8 : v5.cell? ⟨w1.heap.size, 8, none⟩ = some (.bool false) := by rw [c _ _ hz0]; exact p8
  replace p9 : v5.cell? ⟨w1.heap.size, 9, none⟩ = some (.bool false) := by rw [c _ _ hz0]; exact p9
  replace p10 : v5.cell? ⟨w1.heap.size, 10, none⟩ = some (.bool true) := by rw [c _ _ hz0]; exact p10
  replace q0 : v5.cell? ⟨w1.heap.size + 1, 0, none⟩ = some (.bool true) := by rw [c _ _ hz1]; exact q0
  replace q1 : v5.cell? ⟨w1.heap.size + 1, 1, none⟩ = some (.int .u64 3) := by rw [c _ _ hz1]; exact q1
  replace q2 : v5.cell? ⟨w1.heap.size + 1, 2, none⟩ = some (.bool true) := by rw [c _ _ hz1]; exact q2
  replace q3 : v5.cell? ⟨w1.heap.size + 1, 3, none⟩ = some (.int .i64 1) := by rw [c _ _ hz1]; exact q3
  replace q4 : v5.cell? ⟨w1.heap.size + 1, 4, none⟩ = some (.int .u64 512) := by rw [c _ _ hz1]; exact q4
  replace q5 : v5.cell? ⟨w1.heap.size + 1, 5, none⟩ = some (.int .u64 1024) := by rw [c _ _ hz1]; exact q5
  replace q6 : v5.cell? ⟨w1.heap.size + 1, 6, none⟩ = some (.bool true) := by rw [c _ _ hz1]; exact q6
  replace q7 : v5.cell? ⟨w1.heap.size + 1, 7, none⟩ = some (.bool false) := by rw [c _ _ hz1]; exact q7
  replace q8 : v5.cell? ⟨w1.heap.size + 1, 8, none⟩ = some (.bool false) := by rw [c _ _ hz1]; exact q8
  replace q9 : v5.cell? ⟨w1.heap.size + 1, 9, none⟩ = some (.bool false) := by rw [c _ _ hz1]; exact q9
  replace q10 : v5.cell? ⟨w1.heap.size + 1, 10, none⟩ = some (.bool true) := by rw [c _ _ hz1]; exact q10
  replace hz0 : w1.heap.size < v5.heap.size := Nat.lt_of_lt_of_le hz0 b.size
  replace hz1 : w1.heap.size + 1 < v5.heap.size := Nat.lt_of_lt_of_le hz1 b.size
  replace BX := bel_trans BX b
  replace hG0 : G v5 := hG.to BX
  clear b c
  go_wp2_with fail
  refine (matches_calls _ _ _ _ _ _ _ _ _ _ _ _ _ _ (fun _ => ⟨by omega, by omega⟩) (by omega) (by omega) hG0).mono ?_
  rintro e v6 ⟨rfl, b⟩
  rw [e7]
  obtain ⟨c, _⟩ := bcell b
  replace p0 : v6.cell? ⟨w1.heap.size, 0, none⟩ = some (.bool true) := by rw [c _ _ hz0]; exact p0
  replace p1 : v6.cell? ⟨w1.heap.size, 1, none⟩ = some (.int .u64 3) := by rw [c _ _ hz0]; exact p1
  replace p2 : v6.cell? ⟨w1.heap.size, 2, none⟩ = some (.bool false) := by rw [c _ _ hz0]; exact p2
  replace p3 : v6.cell? ⟨w1.heap.size, 3, none⟩ = some (.int .i64 1) := by rw [c _ _ hz0]; exact p3
  replace p4 : v6.cell? ⟨w1.heap.size, 4, none⟩ = some (.int .u64 512) := by rw [c _ _ hz0]; exact p4
  replace p5 : v6.cell? ⟨w1.heap.size, 5, none⟩ = some (.int .u64 1024) := by rw [c _ _ hz0]; exact p5
  replace p6 : v6.cell? ⟨w1.heap.size, 6, none⟩ = some (.bool true) := by rw [c _ _ hz0]; exact p6
  replace p7 : v6.cell? ⟨w1.heap.size, 7, none⟩ = some (.bool false) := by rw [c _ _ hz0]; exact p7
  replace p8 : v6.cell? ⟨w1.heap.size, 8, none⟩ = some (.bool false) := by rw [c _ _ hz0]; exact p8
  replace p9 : v6.cell? ⟨w1.heap.size, 9, none⟩ = some (.bool false) := by rw [c _ _ hz0]; exact p9
  replace p10 : v6.cell? ⟨w1.heap.size, 10, none⟩ = some (.bool true) := by rw [c _ _ hz0]; exact p10
  replace q0 : v6.cell? ⟨w1.heap.size + 1, 0, none⟩ = some (.bool true) := by rw [c _ _ hz1]; exact q0
  replace q1 : v6.cell? ⟨w1.heap.size + 1, 1, none⟩ = some (.int .u64 3) := by rw [c _ _ hz1]; exact q1
  replace q2 : v6.cell? ⟨w1.heap.size + 1, 2, none⟩ = some (.bool true) := by rw [c _ _ hz1]; exact q2
  replace q3 : v6.cell? ⟨w1.heap.size + 1, 3, none⟩ = some (.int .i64 1) := by rw [c _ _ hz1]; exact q3
  replace q4 : v6.cell? ⟨w1.heap.size + 1, 4, none⟩ = some (.int .u64 512) := by rw [c _ _ hz1]; exact q4
  replace q5 : v6.cell? ⟨w1.heap.size + 1, 5, none⟩ = some (.int .u64 1024) := by rw [c _ _ hz1]; exact q5
  replace q6 : v6.cell? ⟨w1.heap.size + 1, 6, none⟩ = some (.bool true) := by rw [c _ _ hz1]; exact q6
  replace q7 : v6.cell? ⟨w1.heap.size + 1, 7, none⟩ = some (.bool false) := by rw [c _ _ hz1]; exact q7
  replace q8 : v6.cell? ⟨w1.heap.size + 1, 8, none⟩ = some (.bool false) := by rw [c _ _ hz1]; exact q8
  replace q9 : v6.cell? ⟨w1.heap.size + 1, 9, none⟩ = some (.bool false) := by rw [c _ _ hz1]; exact q9
  replace q10 : v6.cell? ⟨w1.heap.size + 1, 10, none⟩ = some (.bool true) := by rw [c _ _ hz1]; exact q10
  replace hz0 : w1.heap.size < v6.heap.size := Nat.lt_of_lt_of_le hz0 b.size
  replace hz1 : w1.heap.size + 1 < v6.heap.size := Nat.lt_of_lt_of_le hz1 b.size
  replace BX := bel_trans BX b
  replace hG0 : G v6 := hG.to BX
  clear b c
  go_wp2_with fail
  refine (phys_calls _ _ _ _ _ _ _ _ _ _ _ _ _ (by omega) (by omega) (by omega) (by omega) (by omega) (by omega) hG0).mono ?_
  rintro e v7 ⟨rfl, b⟩
  rw [e8]
  obtain ⟨c, _⟩ := bcell b
  replace p0 : v7.cell? ⟨w1.heap.size, 0, none⟩ = some (.bool true) := by rw [c _ _ hz0]; exact p0
  replace p1 : v7.cell? ⟨w1.heap.size, 1, none⟩ = some (.int .u64 3) := by rw [c _ _ hz0]; exact p1
  replace p2 : v7.cell? ⟨w1.heap.size, 2, none⟩ = some (.bool false) := by rw [c _ _ hz0]; exact p2
  replace p3 : v7.cell? ⟨w1.heap.size, 3, none⟩ = some (.int .i64 1) := by rw [c _ _ hz0]; exact p3
  replace p4 : v7.cell? ⟨w1.heap.size, 4, none⟩ = some (.int .u64 512) := by rw [c _ _ hz0]; exact p4
  replace p5 : v7.cell? ⟨w1.heap.size, 5, none⟩ = some (.int .u64 1024) := by rw [c _ _ hz0]; exact p5
  replace p6 : v7.cell? ⟨w1.heap.size, 6, none⟩ = some (.bool true) := by rw [c _ _ hz0]; exact p6
  replace p7 : v7.cell? ⟨w1.heap.size, 7, none⟩ = some (.bool false) := by rw [c _ _ hz0]; exact p7
  replace p8 : v7.cell? ⟨w1.heap.size, 8, none⟩ = some (.bool false) := by rw [c _ _ hz0]; exact p8
  replace p9 : v7.cell? ⟨w1.heap.size, 9, none⟩ = some (.bool false) := by rw [c _ _ hz0]; exact p9
  replace p10 : v7.cell? ⟨w1.heap.size, 10, none⟩ = some (.bool true) := by rw [c _ _ hz0]; exact p10
  replace q0 : v7.cell? ⟨w1.heap.size + 1, 0, none⟩ = some (.bool true) := by rw [c _ _ hz1]; exact q0
  replace q1 : v7.cell? ⟨w1.heap.size + 1, 1, none⟩ = some (.int .u64 3) := by rw [c _ _ hz1]; exact q1
  replace q2 : v7.cell? ⟨w1.heap.size + 1, 2, none⟩ = some (.bool true) := by rw [c _ _ hz1]; exact q2
  replace q3 : v7.cell? ⟨w1.heap.size + 1, 3, none⟩ = some (.int .i64 1) := by rw [c _ _ hz1]; exact q3
  replace q4 : v7.cell? ⟨w1.heap.size + 1, 4, none⟩ = some (.int .u64 512) := by rw [c _ _ hz1]; exact q4
  replace q5 : v7.cell? ⟨w1.heap.size + 1, 5, none⟩ = some (.int .u64 1024) := by rw [c _ _ hz1]; exact q5
  replace q6 : v7.cell? ⟨w1.heap.size + 1, 6, none⟩ = some (.bool true) := by rw [c _ _ hz1]; exact q6
  replace q7 : v7.cell? ⟨w1.heap.size + 1, 7, none⟩ = some (.bool false) := by rw [c _ _ hz1]; exact q7
  replace q8 : v7.cell? ⟨w1.heap.size + 1, 8, none⟩ = some (.bool false) := by rw [c _ _ hz1]; exact q8
  replace q9 : v7.cell? ⟨w1.heap.size + 1, 9, none⟩ = some (.bool false) := by rw [c _ _ hz1]; exact q9
  replace q10 : v7.cell? ⟨w1.heap.size + 1, 10, none⟩ = some (.bool true) := by rw [c _ _ hz1]; exact q10
  replace hz0 : w1.heap.size < v7.heap.size := Nat.lt_of_lt_of_le hz0 b.size
  replace hz1 : w1.heap.size + 1 < v7.heap.size := Nat.lt_of_lt_of_le hz1 b.size
  replace BX := bel_trans BX b
  replace hG0 : G v7 := hG.to BX
  clear b c
  go_wp2_with fail
  refine (over_calls _ _ _ _ _ _ _ _ _ _ _ _ _ _ _ _ _ _ _ _ _ _ _ (fun _ => ⟨by omega, by omega⟩) (fun _ => ⟨by omega, by omega⟩) ⟨by omega, by omega⟩ ⟨by omega, by omega⟩ hG0).mono ?_
  rintro e v8 ⟨rfl, b⟩
  rw [e9]
  obtain ⟨c, _⟩ := bcell b
  replace p0 : v8.cell? ⟨w1.heap.size, 0, none⟩ = some (.bool true) := by rw [c _ _ hz0]; exact p0
  replace p1 : v8.cell? ⟨w1.heap.size, 1, none⟩ = some (.int .u64 3) := by rw [c _ _ hz0]; exact p1
  replace p2 : v8.cell? ⟨w1.heap.size, 2, none⟩ = some (.bool false) := by rw [c _ _ hz0]; exact p2
  replace p3 : v8.cell? ⟨w1.heap.size, 3, none⟩ = some (.int .i64 1) := by rw [c _ _ hz0]; exact p3
  replace p4 : v8.cell? ⟨w1.heap.size, 4, none⟩ = some (.int .u64 512) := by rw [c _ _ hz0]; exact p4
  replace p5 : v8.cell? ⟨w1.heap.size, 5, none⟩ = some (.int .u64 1024) := by rw [c _ _ hz0]; exact p5
  replace p6 : v8.cell? ⟨w1.heap.size, 6, none⟩ = some (.bool true) := by rw [c _ _ hz0]; exact p6
  replace p7 : v8.cell? ⟨w1.heap.size, 7, none⟩ = some (.bool false) := by rw [c _ _ hz0]; exact p7
  replace p8 : v8.cell? ⟨w1.heap.size, 8, none⟩ = some (.bool false) := by rw [c _ _ hz0]; exact p8
  replace p9 : v8.cell? ⟨w1.heap.size, 9, none⟩ = some (.bool false) := by rw [c _ _ hz0]; exact p9
  replace p10 : v8.cell? ⟨w1.heap.size, 10, none⟩ = some (.bool true) := by rw [c _ _ hz0]; exact p10
  replace q0 : v8.cell? ⟨w1.heap.size + 1, 0, none⟩ = some (.bool true) := by rw [c _ _ hz1]; exact q0
  replace q1 : v8.cell? ⟨w1.heap.size + 1, 1, none⟩ = some (.int .u64 3) := by rw [c _ _ hz1]; exact q1
  replace q2 : v8.cell? ⟨w1.heap.size + 1, 2, none⟩ = some (.bool true) := by rw [c _ _ hz1]; exact q2
  replace q3 : v8.cell? ⟨w1.heap.size + 1, 3, none⟩ = some (.int .i64 1) := by rw [c _ _ hz1]; exact q3
  replace q4 : v8.cell? ⟨w1.heap.size + 1, 4, none⟩ = some (.int .u64 512) := by rw [c _ _ hz1]; exact q4
  replace q5 : v8.cell? ⟨w1.heap.size + 1, 5, none⟩ = some (.int .u64 1024) := by rw [c _ _ hz1]; exact q5
  replace q6 : v8.cell? ⟨w1.heap.size + 1, 6, none⟩ = some (.bool true) := by rw [c _ _ hz1]; exact q6
  replace q7 : v8.cell? ⟨w1.heap.size + 1, 7, none⟩ = some (.bool false) := by rw [c _ _ hz1]; exact q7
  replace q8 : v8.cell? ⟨w1.heap.size + 1, 8, none⟩ = some (.bool false) := by rw [c _ _ hz1]; exact q8
  replace q9 : v8.cell? ⟨w1.heap.size + 1, 9, none⟩ = some (.bool false) := by rw [c _ _ hz1]; exact q9
  replace q10 : v8.cell? ⟨w1.heap.size + 1, 10, none⟩ = some (.bool true) := by rw [c _ _ hz1]; exact q10
  replace hz0 : w1.heap.size < v8.heap.size := Nat.lt_of_lt_of_le hz0 b.size
  replace hz1 : w1.heap.size + 1 < v8.heap.size := Nat.lt_of_lt_of_le hz1 b.size
  replace BX := bel_trans BX b
  replace hG0 : G v8 := hG.to BX
  clear b c
  go_wp2_with fail
  refine (over_calls _ _ _ _ _ _ _ _ _ _ _ _ _ _ _ _ _ _ _ _ _ _ _ (fun _ => ⟨by omega, by omega⟩) (fun _ => ⟨by omega, by omega⟩) ⟨by omega, by omega⟩ ⟨by omega, by omega⟩ hG0).mono ?_
  rintro e v9 ⟨rfl, b⟩
  rw [e10]
  obtain ⟨c, _⟩ := bcell b
  replace p0 : v9.cell? ⟨w1.heap.size, 0, none⟩ = some (.bool true) := by rw [c _ _ hz0]; exact p0
  replace p1 : v9.cell? ⟨w1.heap.size, 1, none⟩ = some (.int .u64 3) := by rw [c _ _ hz0]; exact p1
  replace p2 : v9.cell? ⟨w1.heap.size, 2, none⟩ = some (.bool false) := by rw [c _ _ hz0]; exact p2
  replace p3 : v9.cell? ⟨w1.heap.size, 3, none⟩ = some (.int .i64 1) := by rw [c _ _ hz0]; exact p3
  replace p4 : v9.cell? ⟨w1.heap.size, 4, none⟩ = some (.int .u64 512) := by rw [c _ _ hz0]; exact p4
  replace p5 : v9.cell? ⟨w1.heap.size, 5, none⟩ = some (.int .u64 1024) := by rw [c _ _ hz0]; exact p5
  replace p6 : v9.cell? ⟨w1.heap.size, 6, none⟩ = some (.bool true) := by rw [c _ _ hz0]; exact p6
  replace p7 : v9.cell? ⟨w1.heap.size, 7, none⟩ = some (.bool false) := by rw [c _ _ hz0]; exact p7
  replace p8 : v9.cell? ⟨w1.heap.size, 8, none⟩ = some (.bool false) := by rw [c _ _ hz0]; exact p8
  replace p9 : v9.cell? ⟨w1.heap.size, 9, none⟩ = some (.bool false) := by rw [c _ _ hz0]; exact p9
  replace p10 : v9.cell? ⟨w1.heap.size, 10, none⟩ = some (.bool true) := by rw [c _ _ hz0]; exact p10
  replace q0 : v9.cell? ⟨w1.heap.size + 1, 0, none⟩ = some (.bool true) := by rw [c _ _ hz1]; exact q0
  replace q1 : v9.cell? ⟨w1.heap.size + 1, 1, none⟩ = some (.int .u64 3) := by rw [c _ _ hz1]; exact q1
  replace q2 : v9.cell? ⟨w1.heap.size + 1, 2, none⟩ = some (.bool true) := by rw [c _ _ hz1]; exact q2
  replace q3 : v9.cell? ⟨w1.heap.size + 1, 3, none⟩ = some (.int .i64 1) := by rw [c _ _ hz1]; exact q3
  replace q4 : v9.cell? ⟨w1.heap.size + 1, 4, none⟩ = some (.int .u64 512) := by rw [c _ _ hz1]; exact q4
  replace q5 : v9.cell? ⟨w1.heap.size + 1, 5, none⟩ = some (.int .u64 1024) := by rw [c _ _ hz1]; exact q5
  replace q6 : v9.cell? ⟨w1.heap.size + 1, 6, none⟩ = some (.bool true) := by rw [c _ _ hz1]; exact q6
  replace q7 : v9.cell? ⟨w1.heap.size + 1, 7, none⟩ = some (.bool false) := by rw [c _ _ hz1]; exact q7
  replace q8 : v9.cell? ⟨w1.heap.size + 1, 8, none⟩ = some (.bool false) := by rw [c _ _ hz1]; exact q8
  replace q9 : v9.cell? ⟨w1.heap.size + 1, 9, none⟩ = some (.bool false) := by rw [c _ _ hz1]; exact q9
  replace q10 : v9.cell? ⟨w1.heap.size + 1, 10, none⟩ = some (.bool true) := by rw [c _ _ hz1]; exact q10
  replace hz0 : w1.heap.size < v9.heap.size := Nat.lt_of_lt_of_le hz0 b.size
  replace hz1 : w1.heap.size + 1 < v9.heap.size := Nat.lt_of_lt_of_le hz1 b.size
  replace BX := bel_trans BX b
  replace hG0 : G v9 := hG.to BX
  clear b c
  go_wp2_with fail
  refine (may_calls _ _ _ _ _ _ _ _ _ _ _ _ ⟨by omega, by omega⟩ ⟨by omega, by omega⟩ ⟨by omega, by omega⟩ hG0).mono ?_
  rintro e v10 ⟨rfl, b⟩
  rw [e11]
  obtain ⟨c, _⟩ := bcell b
  replace p0 : v10.cell? ⟨w1.heap.size, 0, none⟩ = some (.bool true) := by rw [c _ _ hz0]; exact p0
  replace p1 : v10.cell? ⟨w1.heap.size, 1, none⟩ = some (.int .u64 3) := by rw [c _ _ hz0]; exact p1
  replace p2 : v10.cell? ⟨w1.heap.size, 2, none⟩ = some (.bool false) := by rw [c _ _ hz0]; exact p2
  replace p3 : v10.cell? ⟨w1.heap.size, 3, none⟩ = some (.int .i64 1) := by rw [c _ _ hz0]; exact p3
  replace p4 : v10.cell? ⟨w1.heap.size, 4, none⟩ = some (.int .u64 512) := by rw [c _ _ hz0]; exact p4
  replace p5 : v10.cell? ⟨w1.heap.size, 5, none⟩ = some (.int .u64 1024) := by rw [c _ _ hz0]; exact p5
  replace p6 : v10.cell? ⟨w1.heap.size, 6, none⟩ = some (.bool true) := by rw [c _ _ hz0]; exact p6
  replace p7 : v10.cell? ⟨w1.heap.size, 7, none⟩ = some (.bool false) := by rw [c _ _ hz0]; exact p7
  replace p8 : v10.cell? ⟨w1.heap.size, 8, none⟩ = some (.bool false) := by rw [c _ _ hz0]; exact p8
  replace p9 : v10.cell? ⟨w1.heap.size, 9, none⟩ = some (.bool false) := by rw [c _ _ hz0]; exact p9
  replace p10 : v10.cell? ⟨w1.heap.size, 10, none⟩ = some (.bool true) := by rw [c _ _ hz0]; exact p10
  replace q0 : v10.cell? ⟨w1.heap.size + 1, 0, none⟩ = some (.bool true) := by rw [c _ _ hz1]; exact q0
  replace q1 : v10.cell? ⟨w1.heap.size + 1, 1, none⟩ = some (.int .u64 3) := by rw [c _ _ hz1]; exact q1
  replace q2 : v10.cell? ⟨w1.heap.size + 1, 2, none⟩ = some (.bool true) := by rw [c _ _ hz1]; exact q2
  replace q3 : v10.cell? ⟨w1.heap.size + 1, 3, none⟩ = some (.int .i64 1) := by rw [c _ _ hz1]; exact q3
  replace q4 : v10.cell? ⟨w1.heap.size + 1, 4, none⟩ = some (.int .u64 512) := by rw [c _ _ hz1]; exact q4
  replace q5 : v10.cell? ⟨w1.heap.size + 1, 5, none⟩ = some (.int .u64 1024) := by rw [c _ _ hz1]; exact q5
  replace q6 : v10.cell? ⟨w1.heap.size + 1, 6, none⟩ = some (.bool true) := by rw [c _ _ hz1]; exact q6
  replace q7 : v10.cell? ⟨w1.heap.size + 1, 7, none⟩ = some (.bool false) := by rw [c _ _ hz1]; exact q7
  replace q8 : v10.cell? ⟨w1.heap.size + 1, 8, none⟩ = some (.bool false) := by rw [c _ _ hz1]; exact q8
  replace q9 : v10.cell? ⟨w1.heap.size + 1, 9, none⟩ = some (.bool false) := by rw [c _ _ hz1]; exact q9
  replace q10 : v10.cell? ⟨w1.heap.size + 1, 10, none⟩ = some (.bool true) := by rw [c _ _ hz1]; exact q10
  replace hz0 : w1.heap.size < v10.heap.size := Nat.lt_of_lt_of_le hz0 b.size
  replace hz1 : w1.heap.size + 1 < v10.heap.size := Nat.lt_of_lt_of_le hz1 b.size
  replace BX := bel_trans BX b
  replace hG0 : G v10 := hG.to BX
  clear b c
  go_wp2_with fail
  refine (may_calls _ _ _ _ _ _ _ _ _ _ _ _ ⟨by omega, by omega⟩ ⟨by omega, by omega⟩ ⟨by omega, by omega⟩ hG0).mono ?_
  rintro e v11 ⟨rfl, b⟩
  rw [e12]
  obtain ⟨c, _⟩ := bcell b
  replace p0 : v11.cell? ⟨w1.heap.size, 0, none⟩ = some (.bool true) := by rw [c _ _ hz0]; exact p0
  replace p1 : v11.cell? ⟨w1.heap.size, 1, none⟩ = some (.int .u64 3) := by rw [c _ _ hz0]; exact p1
  replace p2 : v11.cell? ⟨w1.heap.size, 2, none⟩ = some (.bool false) := by rw [c _ _ hz0]; exact p2
  replace p3 : v11.cell? ⟨w1.heap.size, 3, none⟩ = some (.int .i64 1) := by rw [c _ _ hz0]; exact p3
  replace p4 : v11.cell? ⟨w1.heap.size, 4, none⟩ = some (.int .u64 512) := by rw [c _ _ hz0]; exact p4
  replace p5 : v11.cell? ⟨w1.heap.size, 5, none⟩ = some (.int .u64 1024) := by rw [c _ _ hz0]; exact p5
  replace p6 : v11.cell? ⟨w1.heap.size, 6, none⟩ = some (.bool true) := by rw [c _ _ hz0]; exact p6
  replace p7 : v11.cell? ⟨w1.heap.size, 7, none⟩ = some (.bool false) := by rw [c _ _ hz0]; exact p7
  replace p8 : v11.cell? ⟨w1.heap.size, 8, none⟩ = some (.bool false) := by rw [c _ _ hz0]; exact p8
  replace p9 : v11.cell? ⟨w1.heap.size, 9, none⟩ = some (.bool false) := by rw [c _ _ hz0]; exact p9
  replace p10 : v11.cell? ⟨w1.heap.size, 10, none⟩ = some (.bool true) := by rw [c _ _ hz0]; exact p10
  replace q0 : v11.cell? ⟨w1.heap.size + 1, 0, none⟩ = some (.bool true) := by rw [c _ _ hz1]; exact q0
  replace q1 : v11.cell? ⟨w1.heap.size + 1, 1, none⟩ = some (.int .u64 3) := by rw [c _ _ hz1]; exact q1
  replace q2 : v11.cell? ⟨w1.heap.size + 1, 2, none⟩ = some (.bool true) := by rw [c _ _ hz1]; exact q2
  replace q3 : v11.cell? ⟨w1.heap.size + 1, 3, none⟩ = some (.int .i64 1) := by rw [c _ _ hz1]; exact q3
  replace q4 : v11.cell? ⟨w1.heap.size + 1, 4, none⟩ = some (.int .u64 512) := by rw [c _ _ hz1]; exact q4
  replace q5 : v11.cell? ⟨w1.heap.size + 1, 5, none⟩ = some (.int .u64 1024) := by rw [c _ _ hz1]; exact q5
  replace q6 : v11.cell? ⟨w1.heap.size + 1, 6, none⟩ = some (.bool true) := by rw [c _ _ hz1]; exact q6
  replace q7 : v11.cell? ⟨w1.heap.size + 1, 7, none⟩ = some (.bool false) := by rw [c _ _ hz1]; exact q7
  replace q8 : v11.cell? ⟨w1.heap.size + 1, 8, none⟩ = some (.bool false) := by rw [c _ _ hz1]; exact q8
  replace q9 : v11.cell? ⟨w1.heap.size + 1, 9, none⟩ = some (.bool false) := by rw [c _ _ hz1]; exact q9
  replace q10 : v11.cell? ⟨w1.heap.size + 1, 10, none⟩ = some (.bool true) := by rw [c _ _ hz1]; exact q10
  replace hz0 : w1.heap.size < v11.heap.size := Nat.lt_of_lt_of_le hz0 b.size
  replace hz1 : w1.heap.size + 1 < v11.heap.size := Nat.lt_of_lt_of_le hz1 b.size
  replace BX := bel_trans BX b
  replace hG0 : G v11 := hG.to BX
  clear b c
  go_wp2_with fail
  go_ret
  exact ⟨rfl, BX⟩
end Go.Proofs.YtjgnckhbafgalaaDoor.EntryW
