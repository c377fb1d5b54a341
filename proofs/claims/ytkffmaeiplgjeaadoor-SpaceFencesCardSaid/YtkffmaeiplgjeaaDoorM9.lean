/- Texts of this claim, one behind the other: PoolC3, TzC, PoolC4, TableC2, TableC3, TableC4, AsidC, AsidC2. -/
import Derived.Test.YtkffmaeiplgjeaaDoorM8
import Derived.Test.YtkffmaeiplgjeaaDoorM6
import Derived.Shelf.Spec.TrailingZeros
import Derived.Laws.StructEq
/- The contract of pool.Give. -/
namespace Go.Proofs.YtkffmaeiplgjeaaDoor.PoolC3
open Go.RowKit Go.Proofs.YtkffmaeiplgjeaaDoor.Bv Go.Proofs.YtkffmaeiplgjeaaDoor.Base Go.Proofs.YtkffmaeiplgjeaaDoor.MemL
open Go.Proofs.YtkffmaeiplgjeaaDoor.BitsC Go.Proofs.YtkffmaeiplgjeaaDoor.MemNewC Go.Proofs.YtkffmaeiplgjeaaDoor.PoolC Go.Proofs.YtkffmaeiplgjeaaDoor.PoolC2
set_option linter.unusedVariables false
set_option linter.unusedSimpArgs false
/-- what comes of pool.Give -/
def giveV (base many free f : Int) : Value := if isP base many free f then .tuple #[.agg #[.int .u64 base, .int .i64 many, .int .u64 (setI free (f - base) 1 1)], .int .i64 0] else .tuple #[.agg #[.int .u64 base, .int .i64 many, .int .u64 free], .int .i64 1]
set_option maxHeartbeats 4000000 in
theorem give_calls (base many free f : Int) (W : World) (hb : U base) (hm : 0 ≤ many ∧ many ≤ 64) (hr : U free) (hf : U f) :
    Calls Tryd.prog 74 #[.agg #[.int .u64 base, .int .i64 many, .int .u64 free], .int .u64 f] W fun e w' => e = .returned (giveV base many free f) ∧ Below W.heap.size W w' := by
  have B0 := bel_alloc (bel_alloc (Below.refl W.heap.size W) (.cells #[.int .u64 base, .int .i64 many, .int .u64 free] 39)) (.cells #[.int .u64 0, .int .i64 0, .int .u64 0] 39)
  have X0 : Bx ((W.alloc (.cells #[.int .u64 base, .int .i64 many, .int .u64 free] 39)).alloc (.cells #[.int .u64 0, .int .i64 0, .int .u64 0] 39)) W.heap.size #[.int .u64 base, .int .i64 many, .int .u64 free] := Bx.alloc Bx.new
  have X1 : Bx ((W.alloc (.cells #[.int .u64 base, .int .i64 many, .int .u64 free] 39)).alloc (.cells #[.int .u64 0, .int .i64 0, .int .u64 0] 39)) (W.heap.size + 1) #[.int .u64 0, .int .i64 0, .int .u64 0] := MemNewC.bx_new1
  go_enter Tryd.func74, Tryd.ntmps74
  go_wp2_with fail
  refine (is_calls base many free f _ hb hf hm hr).mono ?_
  rintro e w1 ⟨rfl, b1⟩
  have B1 := bel_trans B0 b1
  have Y0 := X0.below b1
  have Y1 := X1.below b1
  have hl := Y1.lt
  clear X0 X1 b1 B0
  have y0 : w1.cell? ⟨W.heap.size, 0, none⟩ = some (.int .u64 base) := Y0.cell 0
  have y1 : w1.cell? ⟨W.heap.size, 1, none⟩ = some (.int .i64 many) := Y0.cell 1
  have y2 : w1.cell? ⟨W.heap.size, 2, none⟩ = some (.int .u64 free) := Y0.cell 2
  cases h : isP base many free f
  · have H := Lib.hid (show giveV base many free f = .tuple #[.agg #[.int .u64 base, .int .i64 many, .int .u64 free], .int .i64 1] by unfold giveV; rw [h]; rfl)
    clear h
    have f0 := Y1.free
    have q0 : w1.cell? ⟨W.heap.size + 1, 0, none⟩ = some (.int .u64 0) := Y1.cell 0
    have q1 : w1.cell? ⟨W.heap.size + 1, 1, none⟩ = some (.int .i64 0) := Y1.cell 1
    have q2 : w1.cell? ⟨W.heap.size + 1, 2, none⟩ = some (.int .u64 0) := Y1.cell 2
    clear Y0 Y1
    go_wp2
    exact bodyPost_ret (v := .tuple #[.agg #[.int .u64 base, .int .i64 many, .int .u64 free], .int .i64 1]) (by simp [results, Tryd.results74, go_sem, q0, q1, q2]) rfl ⟨by rw [H.out], bel_setCell _ _ _ (by omega) (bel_setCell _ _ _ (by omega) (bel_setCell _ _ _ (by omega) B1))⟩
  · have H := Lib.hid (show giveV base many free f = .tuple #[.agg #[.int .u64 base, .int .i64 many, .int .u64 (setI free (f - base) 1 1)], .int .i64 0] by unfold giveV; rw [h]; rfl)
    obtain ⟨l0, l1⟩ : 0 ≤ f - base ∧ f - base < many := inP_b (by unfold isP at h; simp at h; exact h.1) hm.2
    have hm2 := hm.2
    clear h
    have d1 : IntKind.u64.wrap (f - base) = f - base := by rw [wrap_u64]; omega
    have d2 : IntKind.i64.wrap (f - base) = f - base := by rw [IntKind.wrap_i64]; omega
    go_wp2_with fail
    refine (set_calls free (f - base) 1 1 _ hr ⟨by omega, by omega⟩ (by omega) (by omega) (by omega) (by omega)).mono ?_
    rintro e w2 ⟨rfl, q⟩
    have B2 := Q.bel B1 q
    have Z0 := Y0.below q.below
    have Z1 := Y1.below q.below
    clear Y0 Y1 q y0 y1 y2
    have f0 := Z0.free
    have q0 : w2.cell? ⟨W.heap.size, 0, none⟩ = some (.int .u64 base) := Z0.cell 0
    have q1 : w2.cell? ⟨W.heap.size, 1, none⟩ = some (.int .i64 many) := Z0.cell 1
    have q2 : w2.cell? ⟨W.heap.size, 2, none⟩ = some (.int .u64 free) := Z0.cell 2
    have g0 := Z1.free
    have z0 : w2.cell? ⟨W.heap.size + 1, 0, none⟩ = some (.int .u64 0) := Z1.cell 0
    have z1 : w2.cell? ⟨W.heap.size + 1, 1, none⟩ = some (.int .i64 0) := Z1.cell 1
    have z2 : w2.cell? ⟨W.heap.size + 1, 2, none⟩ = some (.int .u64 0) := Z1.cell 2
    clear Z0 Z1
    go_wp2
    exact bodyPost_ret (v := .tuple #[.agg #[.int .u64 base, .int .i64 many, .int .u64 (setI free (f - base) 1 1)], .int .i64 0]) (by simp [results, Tryd.results74, go_sem, q0, q1, q2, z0, z1, z2]) rfl ⟨by rw [H.out], bel_setCell _ _ _ (by omega) (bel_setCell _ _ _ (by omega) (bel_setCell _ _ _ (by omega) (bel_setCell _ _ _ (by omega) B2)))⟩
end Go.Proofs.YtkffmaeiplgjeaaDoor.PoolC3
/- The contract of math/bits.TrailingZeros64. -/
namespace Go.Proofs.YtkffmaeiplgjeaaDoor.TzC
open Go.RowKit Go.Proofs.YtkffmaeiplgjeaaDoor.Bv Go.Proofs.YtkffmaeiplgjeaaDoor.Base
set_option linter.unusedVariables false
set_option linter.unusedSimpArgs false
/-- The library's table lies in memory as its text lays it. -/
def TabT (w : World) : Prop := Go.Proofs.TabAt 0 Lib.deBruijn64tab w
/-- how many of a word's least bits are 0 -/
def tzI (x : Int) : Int := (Lib.ctz 64 x.toNat : Nat)
set_option maxHeartbeats 2000000 in
theorem tz_core (x k idx : Nat) (w : World) (hx0 : ((x : Int) == 0) = false)
    (key : IntKind.u64.wrap (bits BinOp.and IntKind.u64 (x : Int) (IntKind.u64.wrap (-(x : Int))) * 285870213051353865) / 288230376151711744 = (idx : Int))
    (hi : idx < 64) (hk : k < 64) (hcell : w.cell? ⟨0, idx, none⟩ = some (.int .u8 k)) :
    Calls Tryd.prog 58 #[.int .u64 x] w fun e w' => e = .returned (.int .i64 k) ∧ Q w w' := by
  go_enter Tryd.func58, Tryd.ntmps58
  go_wp2_with (simp only [key])
  go_ret
  exact ⟨rfl, Q.refl _⟩
theorem tz_zero (w : World) : Calls Tryd.prog 58 #[.int .u64 0] w fun e w' => e = .returned (.int .i64 64) ∧ Q w w' := by
  go_enter Tryd.func58, Tryd.ntmps58
  go_wp2
  go_ret
  exact ⟨rfl, Q.refl _⟩
theorem tz_nat (x : Nat) (hx : x < 18446744073709551616) (w : World) (hT : x ≠ 0 → TabT w) :
    Calls Tryd.prog 58 #[.int .u64 x] w fun e w' => e = .returned (.int .i64 (Lib.ctz 64 x)) ∧ Q w w' := by
  by_cases hx0 : x = 0
  · subst hx0
    exact tz_zero w
  · obtain ⟨hlow, hk⟩ := Lib.lowest_bit 64 x hx0 hx
    obtain ⟨hi, htab⟩ := Lib.deBruijn64_at _ hk
    have hcell := hT hx0 _ hi
    rw [htab] at hcell
    exact tz_core x _ _ w (by simp; omega) (Go.Proofs.tz64_key x _ hx hx0 hlow) hi hk hcell
theorem tz_calls (x : Int) (W : World) (hx : U x) (hT : x ≠ 0 → TabT W) :
    Calls Tryd.prog 58 #[.int .u64 x] W fun e w' => e = .returned (.int .i64 (tzI x)) ∧ Q W w' := by
  obtain ⟨hx1, hx2⟩ := hx
  have e1 : ((x.toNat : Nat) : Int) = x := Int.toNat_of_nonneg hx1
  have h := tz_nat x.toNat (by omega) W (fun h => hT (by omega))
  rw [e1] at h
  exact h
end Go.Proofs.YtkffmaeiplgjeaaDoor.TzC
/- The contract of pool.Take. -/
namespace Go.Proofs.YtkffmaeiplgjeaaDoor.PoolC4
open Go.RowKit Go.Proofs.YtkffmaeiplgjeaaDoor.Bv Go.Proofs.YtkffmaeiplgjeaaDoor.Base Go.Proofs.YtkffmaeiplgjeaaDoor.MemL
open Go.Proofs.YtkffmaeiplgjeaaDoor.BitsC Go.Proofs.YtkffmaeiplgjeaaDoor.MemNewC Go.Proofs.YtkffmaeiplgjeaaDoor.PoolC Go.Proofs.YtkffmaeiplgjeaaDoor.PoolC2 Go.Proofs.YtkffmaeiplgjeaaDoor.TzC
set_option linter.unusedVariables false
set_option linter.unusedSimpArgs false
section
variable {P : Program} {d : Nat} {xs ys : Array Value} {f : Field} {fs : List Field} {a b : Value} {r s : Bool} {w : World}
theorem fields_nil : (Op.eqFields d xs ys []).run P w = .ok true w := by simp [Op.eqFields]
theorem fields_cons (hn : (f.name == "_") = false) (ha : (part f.type xs f.offset).run P w = .ok a w) (hb : (part f.type ys f.offset).run P w = .ok b w) (he : (Op.equalIn d f.type a b).run P w = .ok r w) (hr : (Op.eqFields d xs ys fs).run P w = .ok s w) :
    (Op.eqFields d xs ys (f :: fs)).run P w = .ok (r && s) w := by
  have h : f.name ≠ "_" := by intro e; rw [e] at hn; exact absurd hn (by decide)
  simp only [Op.eqFields, if_pos h, Sem.run_bind, ha, hb, he, Result.andThen_ok]
  cases r with
  | true => simpa using hr
  | false => simp
theorem struct_of {t : TypeId} {l : Array Field} (hu : P.underlying t = some (.struct l)) (hp : P.stoodInHeld t = false) (h : (Op.eqFields d xs ys l.toList).run P w = .ok r w) : (Op.equalIn (d + 1) t (.agg xs) (.agg ys)).run P w = .ok r w := by
  have e : P.fieldsOf t = l := by unfold Program.fieldsOf; rw [hu]
  rw [run_equalIn_struct w d t xs ys (by rw [e]; exact hu) hp, e, h]
end
theorem eq_pool (d : Nat) (w : World) (x0 y0 x1 y1 x2 y2 : Int) :
    (Op.equalIn (d + 2) 39 (.agg #[.int .u64 x0, .int .i64 x1, .int .u64 x2]) (.agg #[.int .u64 y0, .int .i64 y1, .int .u64 y2])).run Tryd.prog w = .ok (x0 == y0 && (x1 == y1 && (x2 == y2 && true))) w := by
  refine struct_of Tryd.underlying39 (by kernel_rfl) ?_
  refine fields_cons (by rfl) (by go_simp; rfl) (by go_simp; rfl) (by go_simp) ?_
  refine fields_cons (by rfl) (by go_simp; rfl) (by go_simp; rfl) (by go_simp) ?_
  exact fields_cons (by rfl) (by go_simp; rfl) (by go_simp; rfl) (by go_simp) fields_nil
/-- what comes of pool.Take -/
def takeV (base many free : Int) : Value := if free = 0 then .tuple #[.agg #[.int .u64 base, .int .i64 many, .int .u64 0], .int .u64 0, .int .i64 8] else .tuple #[.agg #[.int .u64 base, .int .i64 many, .int .u64 (setI free (tzI free) 1 0)], .int .u64 (base + tzI free), .int .i64 0]
theorem tz_lt {x : Int} (hx : U x) (h : x ≠ 0) : 0 ≤ tzI x ∧ tzI x < 64 := by
  obtain ⟨h1, h2⟩ := hx
  obtain ⟨_, hk⟩ := Lib.lowest_bit 64 x.toNat (by omega) (by omega)
  unfold tzI
  omega
set_option maxHeartbeats 4000000 in
theorem take_calls (base many free : Int) (W : World) (hb : 0 ≤ base ∧ base ≤ 268435456) (hm : 0 ≤ many ∧ many ≤ 64) (hr : U free) (hT : TabT W) :
    Calls Tryd.prog 46 #[.agg #[.int .u64 base, .int .i64 many, .int .u64 free]] W fun e w' => e = .returned (takeV base many free) ∧ Below W.heap.size W w' := by
  have B0 := bel_alloc (bel_alloc (Below.refl W.heap.size W) (.cells #[.int .u64 base, .int .i64 many, .int .u64 free] 39)) (.cells #[.int .u64 0, .int .i64 0, .int .u64 0] 39)
  have X0 : Bx ((W.alloc (.cells #[.int .u64 base, .int .i64 many, .int .u64 free] 39)).alloc (.cells #[.int .u64 0, .int .i64 0, .int .u64 0] 39)) W.heap.size #[.int .u64 base, .int .i64 many, .int .u64 free] := Bx.alloc Bx.new
  have X1 : Bx ((W.alloc (.cells #[.int .u64 base, .int .i64 many, .int .u64 free] 39)).alloc (.cells #[.int .u64 0, .int .i64 0, .int .u64 0] 39)) (W.heap.size + 1) #[.int .u64 0, .int .i64 0, .int .u64 0] := MemNewC.bx_new1
  by_cases hf : free = 0
  · subst hf
    have H := Lib.hid (show takeV base many 0 = .tuple #[.agg #[.int .u64 base, .int .i64 many, .int .u64 0], .int .u64 0, .int .i64 8] from rfl)
    go_enter Tryd.func46, Tryd.ntmps46
    go_wp2
    exact bodyPost_ret (v := .tuple #[.agg #[.int .u64 base, .int .i64 many, .int .u64 0], .int .u64 0, .int .i64 8]) (by simp [results, Tryd.results46, go_sem]) rfl ⟨by rw [H.out], bel_alloc (bel_alloc (Below.refl _ _) _) _⟩
  · have H := Lib.hid (show takeV base many free = .tuple #[.agg #[.int .u64 base, .int .i64 many, .int .u64 (setI free (tzI free) 1 0)], .int .u64 (base + tzI free), .int .i64 0] by unfold takeV; rw [if_neg hf])
    obtain ⟨t0, t1⟩ := tz_lt hr hf
    have hfb : (free == 0) = false := by simpa using hf
    go_enter Tryd.func46, Tryd.ntmps46
    go_wp2_with fail
    refine (tz_calls free _ hr (fun _ => ?_)).mono ?_
    · intro j hj
      exact (B0.cell (p := ⟨0, j, none⟩) (block_lt_of_cell (hT j hj))).trans (hT j hj)
    rintro e w1 ⟨rfl, q1⟩
    have B1 := Q.bel B0 q1
    have Y0 := X0.below q1.below
    have Y1 := X1.below q1.below
    have hl := Y1.lt
    clear X0 X1 q1 B0
    have y0 : w1.cell? ⟨W.heap.size, 0, none⟩ = some (.int .u64 base) := Y0.cell 0
    have y1 : w1.cell? ⟨W.heap.size, 1, none⟩ = some (.int .i64 many) := Y0.cell 1
    have y2 : w1.cell? ⟨W.heap.size, 2, none⟩ = some (.int .u64 free) := Y0.cell 2
    generalize hz : tzI free = z at *
    go_wp2_with fail
    refine (set_calls free z 1 0 _ hr ⟨by omega, by omega⟩ (by omega) (by omega) (by omega) (by omega)).mono ?_
    rintro e w2 ⟨rfl, q2⟩
    have B2 := Q.bel B1 q2
    have Z0 := Y0.below q2.below
    have Z1 := Y1.below q2.below
    clear Y0 Y1 q2 y0 y1 y2
    have f0 := Z0.free
    have q0 : w2.cell? ⟨W.heap.size, 0, none⟩ = some (.int .u64 base) := Z0.cell 0
    have q1 : w2.cell? ⟨W.heap.size, 1, none⟩ = some (.int .i64 many) := Z0.cell 1
    have q2 : w2.cell? ⟨W.heap.size, 2, none⟩ = some (.int .u64 free) := Z0.cell 2
    go_wp2_with fail
    have V0 : Bx (w2.setCell ⟨W.heap.size, 2, none⟩ (.int .u64 (setI free z 1 0))) W.heap.size #[.int .u64 base, .int .i64 many, .int .u64 (setI free z 1 0)] := Z0.set_same
    have V1 := Z1.set_far (d := W.heap.size) (i := 2) (v := .int .u64 (setI free z 1 0)) (by omega)
    have B3 := bel_setCell W.heap.size 2 (.int .u64 (setI free z 1 0)) (Nat.le_refl _) B2
    have d1 : IntKind.u64.wrap z = z := by rw [wrap_u64]; omega
    have d2 : IntKind.u64.wrap (base + z) = base + z := by rw [wrap_u64]; omega
    generalize w2.setCell ⟨W.heap.size, 2, none⟩ (.int .u64 (setI free z 1 0)) = w4 at *
    clear q0 q1 q2 f0 Z0 Z1 B2
    refine RegR.region_from (Θ := Unit) [0, 0, 0, 0, 0, 0, 2, 0, 0] [0, 1, 2, 3, 4, 5, 6, 7, 8]
      (CP W #[.int .u64 base, .int .i64 many, .int .u64 (setI free z 1 0)]) (fun _ _ => .bool true) (fun _ _ _ => True) (by kernel_rfl) (by kernel_rfl) (fun w w' h b => h.below b) (fun _ _ _ _ _ _ => trivial) ⟨V0.drew, bel_drewN B3 1⟩
      (MemC3.Shp (W.heap.size + 1) 3) (fun w w' h b => h.below b) ⟨_, rfl, V1.drew⟩ ?_
    repeat (with_reducible refine RegR.can0 _ rfl rfl (fun K hK => ?_)
            go_simp
            first
              | (refine hK _ ?_; clear hK K)
              | (refine ⟨_, fun _ _ _ => rfl, hK _ ?_⟩; clear hK K)
              | (apply Exists.intro
                 refine ⟨fun w hc _ => ?_, hK _ ?_⟩
                 · have y0 := hc.box.cell 0
                   have y1 := hc.box.cell 1
                   have y2 := hc.box.cell 2
                   simp at y0 y1 y2
                   first
                     | (go_simp; done)
                     | (go_simp; rfl)
                 clear hK K))
    refine RegR.can2_store _ rfl rfl rfl 39 _ _ rfl (W.heap.size + 1) #[.int .u64 base, .int .i64 many, .int .u64 (setI free z 1 0)] rfl rfl (by kernel_rfl) (by simp [Value.oneCell']) rfl (fun w w' h b => h.below b) (fun w h => h.ex) (fun w h => ?_) (fun w h => ?_) ?_
    · obtain ⟨c, e1, e2⟩ := h.ex
      exact ⟨_, rfl, e2.row_same⟩
    · exact ⟨h.box.row_far (by omega), below_row h.bel (by omega) _⟩
    repeat (with_reducible refine RegR.can0 _ rfl rfl (fun K hK => ?_)
            go_simp
            first
              | (refine hK _ ?_; clear hK K)
              | (refine ⟨_, fun _ _ _ => rfl, hK _ ?_⟩; clear hK K)
              | (refine ⟨_, fun _ _ _ _ => rfl, hK _ ?_⟩; clear hK K))
    intro w5 C5 D5
    have B5 := C5.bel
    have U1 := D5.2
    have g0 := U1.free
    have z0 : w5.cell? ⟨W.heap.size + 1, 0, none⟩ = some (.int .u64 base) := U1.cell 0
    have z1 : w5.cell? ⟨W.heap.size + 1, 1, none⟩ = some (.int .i64 many) := U1.cell 1
    have z2 : w5.cell? ⟨W.heap.size + 1, 2, none⟩ = some (.int .u64 (setI free z 1 0)) := U1.cell 2
    clear C5 D5 U1
    go_wp2
    exact bodyPost_ret (v := .tuple #[.agg #[.int .u64 base, .int .i64 many, .int .u64 (setI free z 1 0)], .int .u64 (base + z), .int .i64 0]) (by simp [results, Tryd.results46, go_sem, z0, z1, z2]) rfl ⟨by rw [H.out], B5⟩
end Go.Proofs.YtkffmaeiplgjeaaDoor.PoolC4
/- The contract of table.Back. -/
namespace Go.Proofs.YtkffmaeiplgjeaaDoor.TableC2
open Go.RowKit Go.Proofs.YtkffmaeiplgjeaaDoor.Bv Go.Proofs.YtkffmaeiplgjeaaDoor.Base Go.Proofs.YtkffmaeiplgjeaaDoor.MemL Go.Proofs.YtkffmaeiplgjeaaDoor.MemC Go.Proofs.YtkffmaeiplgjeaaDoor.PutC Go.Proofs.YtkffmaeiplgjeaaDoor.MemC3 Go.Proofs.YtkffmaeiplgjeaaDoor.ClearC Go.Proofs.YtkffmaeiplgjeaaDoor.TableC
open Go.Proofs.YtkffmaeiplgjeaaDoor.BitsC Go.Proofs.YtkffmaeiplgjeaaDoor.PoolC Go.Proofs.YtkffmaeiplgjeaaDoor.PoolC3
set_option linter.unusedVariables false
set_option linter.unusedSimpArgs false
/-- the free frames, one given back -/
def giveF (base many free f : Int) : Int := if isP base many free f then setI free (f - base) 1 1 else free
theorem giveV_is (base many free f : Int) : ∃ k, giveV base many free f = .tuple #[.agg #[.int .u64 base, .int .i64 many, .int .u64 (giveF base many free f)], .int .i64 k] := by
  unfold giveV giveF
  split
  · exact ⟨_, rfl⟩
  · exact ⟨_, rfl⟩
/-- what stands while the region goes on -/
structure CB (W : World) (m : Nat) (c d : Array Value) (pb : Nat) (w' : World) : Prop where
  box : Bx w' W.heap.size c
  pool : Bx w' pb d
  size : m ≤ w'.heap.size
  bel : Below W.heap.size W w'
theorem CB.below {W : World} {m : Nat} {c d : Array Value} {pb : Nat} {w w' : World} (h : CB W m c d pb w) (b : Below w.heap.size w w') : CB W m c d pb w' := ⟨h.box.below b, h.pool.below b, Nat.le_trans h.size b.size, bel_trans h.bel b⟩
theorem CB.row {W : World} {m : Nat} {c d : Array Value} {pb : Nat} {w : World} {b : Nat} (h : CB W m c d pb w) (hb : W.heap.size < b) (hp : b ≠ pb) (x : Array Value) : CB W m c d pb (w.setRow b x) :=
  ⟨h.box.row_far (by omega), h.pool.row_far hp, by have := h.size; unfold World.setRow; simpa using this, below_row h.bel (by omega) x⟩
set_option maxHeartbeats 4000000 in
theorem back_calls (sz : Int) (v : Value) (xs : List (Int × Int)) (base many free f : Int) (W : World) (hb : U base) (hm : 0 ≤ many ∧ many ≤ 64) (hr : U free) (hf : 0 ≤ f ∧ f < 1099511627776) (hs : Srt xs) (hbig : (xs.length + 1) * 32 ≤ 140737488355328) (hv : Sl W v xs.length 2 (fl xs)) :
    Calls Tryd.prog 54 #[.agg #[.int .u64 sz, v], .agg #[.int .u64 base, .int .i64 many, .int .u64 free], .int .u64 f] W fun e w' => ∃ v', e = .returned (.tuple #[.agg #[.int .u64 sz, v'], .agg #[.int .u64 base, .int .i64 many, .int .u64 (giveF base many free f)]]) ∧ w'.ownsRow W.heap.size 85 2 v' (wipeM xs f).length (fl (wipeM xs f)) ∧ Below W.heap.size W w' := by
  have B0 := bel_alloc (bel_alloc (bel_alloc (bel_alloc (Below.refl W.heap.size W) (.cells #[.int .u64 sz, v] 30)) (.cells #[.int .u64 base, .int .i64 many, .int .u64 free] 39)) (.cells #[.int .u64 0, .slice none 0 0] 30)) (.cells #[.int .u64 0, .int .i64 0, .int .u64 0] 39)
  have hfu : U f := ⟨by omega, by omega⟩
  go_enter Tryd.func54, Tryd.ntmps54
  go_wp2_with fail
  have X0 : Bx ((((W.alloc (.cells #[.int .u64 sz, v] 30)).alloc (.cells #[.int .u64 base, .int .i64 many, .int .u64 free] 39)).alloc (.cells #[.int .u64 0, .slice none 0 0] 30)).alloc (.cells #[.int .u64 0, .int .i64 0, .int .u64 0] 39)) W.heap.size #[.int .u64 sz, v] := Bx.alloc (Bx.alloc (Bx.alloc Bx.new))
  have s1 : (W.alloc (.cells #[.int .u64 sz, v] 30)).heap.size = W.heap.size + 1 := by rw [World.size_alloc]
  have s2 : ((W.alloc (.cells #[.int .u64 sz, v] 30)).alloc (.cells #[.int .u64 base, .int .i64 many, .int .u64 free] 39)).heap.size = W.heap.size + 2 := by rw [World.size_alloc, s1]
  have X2 : Bx ((((W.alloc (.cells #[.int .u64 sz, v] 30)).alloc (.cells #[.int .u64 base, .int .i64 many, .int .u64 free] 39)).alloc (.cells #[.int .u64 0, .slice none 0 0] 30)).alloc (.cells #[.int .u64 0, .int .i64 0, .int .u64 0] 39)) (W.heap.size + 2) #[.int .u64 0, .slice none 0 0] := by rw [← s2]; exact Bx.alloc Bx.new
  have X3 : Bx ((((W.alloc (.cells #[.int .u64 sz, v] 30)).alloc (.cells #[.int .u64 base, .int .i64 many, .int .u64 free] 39)).alloc (.cells #[.int .u64 0, .slice none 0 0] 30)).alloc (.cells #[.int .u64 0, .int .i64 0, .int .u64 0] 39)) (W.heap.size + 3) #[.int .u64 0, .int .i64 0, .int .u64 0] := by
    have := bx_new1 (w := (W.alloc (.cells #[.int .u64 sz, v] 30)).alloc (.cells #[.int .u64 base, .int .i64 many, .int .u64 free] 39)) (o := .cells #[.int .u64 0, .slice none 0 0] 30) (c := #[.int .u64 0, .int .i64 0, .int .u64 0]) (T := 39)
    rwa [s2] at this
  refine (give_calls base many free f _ hb hm hr hfu).mono ?_
  rintro e w1 ⟨rfl, b1⟩
  have B1 := bel_trans B0 b1
  have Y0 := X0.below b1
  have Y2 := X2.below b1
  have Y3 := X3.below b1
  have hl := Y3.lt
  clear X0 X2 X3 b1 B0 s1 s2
  obtain ⟨k, hk⟩ := giveV_is base many free f
  rw [hk]
  clear hk
  generalize hG : giveF base many free f = G at *
  have HG := Lib.hid hG
  clear hG
  go_wp2_with fail
  have e2 : W.heap.size + 1 + 1 = W.heap.size + 2 := rfl
  have V0 := Y0.alloc (o := .cells #[.int .u64 base, .int .i64 many, .int .u64 G] 39)
  have V2 := Y2.alloc (o := .cells #[.int .u64 base, .int .i64 many, .int .u64 G] 39)
  have V3 := Y3.alloc (o := .cells #[.int .u64 base, .int .i64 many, .int .u64 G] 39)
  have V4 : Bx (w1.alloc (.cells #[.int .u64 base, .int .i64 many, .int .u64 G] 39)) w1.heap.size #[.int .u64 base, .int .i64 many, .int .u64 G] := Bx.new
  have B2 := bel_alloc B1 (.cells #[.int .u64 base, .int .i64 many, .int .u64 G] 39)
  have z2 : w1.heap.size ≤ (w1.alloc (.cells #[.int .u64 base, .int .i64 many, .int .u64 G] 39)).heap.size := by rw [World.size_alloc]; omega
  generalize w1.alloc (.cells #[.int .u64 base, .int .i64 many, .int .u64 G] 39) = w2 at *
  clear Y0 Y2 Y3 e2
  refine RegR.region_from (Θ := Option Addr × Nat) [0, 0, 1, 0, 2, 2] [0, 1, 3, 2, 4, 5]
    (CB W w1.heap.size #[.int .u64 sz, v] #[.int .u64 base, .int .i64 many, .int .u64 G] w1.heap.size)
    (fun _ t => .agg #[.int .u64 sz, .slice t.1 (wipeM xs f).length t.2])
    (fun _ t w' => w'.ownsRow w1.heap.size 85 2 (.slice t.1 (wipeM xs f).length t.2) (wipeM xs f).length (fl (wipeM xs f)))
    (by kernel_rfl) (by kernel_rfl) (fun w w' h b => h.below b) (fun _ t w w' h b => owns_below h b)
    ⟨V0.drew, V4.drew, z2, bel_drewN B2 1⟩ (fun w => Shp (W.heap.size + 2) 2 w ∧ Shp (W.heap.size + 3) 3 w) (fun w w' h b => ⟨h.1.below b, h.2.below b⟩) ⟨⟨_, rfl, V2.drew⟩, ⟨_, rfl, V3.drew⟩⟩ ?_
  repeat (with_reducible refine RegR.can0 _ rfl rfl (fun K hK => ?_)
          go_simp
          first
            | (refine hK _ ?_; clear hK K)
            | (refine ⟨_, fun _ _ _ _ => rfl, hK _ ?_⟩; clear hK K)
            | (apply Exists.intro
               refine ⟨fun w hc _ _ => ?_, hK _ ?_⟩
               · have y0 := hc.box.cell 0
                 have y1 := hc.box.cell 1
                 have p0 := hc.pool.cell 0
                 have p1 := hc.pool.cell 1
                 have p2 := hc.pool.cell 2
                 simp at y0 y1 p0 p1 p2
                 first
                   | (go_simp; done)
                   | (go_simp; rfl)
               clear hK K))
  refine RegR.can1_call _ rfl rfl rfl 47 #[.agg #[.int .u64 sz, v], .int .u64 f] (fun w => by kernel_rfl) (fun w hc => ?_) (fun t => ?_)
  · refine (wipe_calls sz v xs f w hf hs hbig (hv.below hc.bel)).mono ?_
    rintro e w' ⟨v', rfl, hown, hb'⟩
    obtain ⟨p, q, rfl⟩ := owns_slice hown
    exact ⟨(p, q), rfl, hb', owns_le hc.size hown⟩
  refine RegR.can2_store _ rfl rfl rfl 30 _ _ rfl (W.heap.size + 2) #[.int .u64 sz, .slice t.1 (wipeM xs f).length t.2] rfl rfl (by kernel_rfl) (by simp [Value.oneCell']) rfl (fun w w' h b => ⟨⟨h.1.1.below b, h.1.2.below b⟩, owns_below h.2 b⟩) (fun w h => h.1.1.ex) (fun w h => ?_) (fun w h => h.row (by omega) (by omega) _) ?_
  · obtain ⟨c, e1, e2⟩ := h.1.1.ex
    obtain ⟨c', e3, e4⟩ := h.1.2.ex
    exact ⟨⟨⟨_, rfl, e2.row_same⟩, ⟨_, e3, e4.row_far (by omega)⟩⟩, owns_row h.2 (by omega) _⟩
  refine RegR.can2_store _ rfl rfl rfl 39 _ _ rfl (W.heap.size + 3) #[.int .u64 base, .int .i64 many, .int .u64 G] rfl rfl (by kernel_rfl) (by simp [Value.oneCell']) rfl (fun w w' h b => ⟨⟨⟨h.1.1.1.below b, h.1.1.2.below b⟩, owns_below h.1.2 b⟩, h.2.below b⟩) (fun w h => h.1.1.2.ex) (fun w h => ?_) (fun w h => h.row (by omega) (by omega) _) ?_
  · obtain ⟨c, e1, e2⟩ := h.1.1.1.ex
    obtain ⟨c', e3, e4⟩ := h.1.1.2.ex
    exact ⟨⟨⟨⟨_, e1, e2.row_far (by omega)⟩, ⟨_, rfl, e4.row_same⟩⟩, owns_row h.1.2 (by omega) _⟩, h.2.row_far (by omega)⟩
  intro w5 C5 D5
  have B5 := C5.bel
  have U2 := D5.1.2
  have U3 := D5.2
  have O5 := owns_le (base' := W.heap.size) (by omega) D5.1.1.2
  have q0 : w5.cell? ⟨W.heap.size + 1 + 1, 0, none⟩ = some (.int .u64 sz) := U2.cell 0
  have q1 : w5.cell? ⟨W.heap.size + 1 + 1, 1, none⟩ = some (.slice t.1 (wipeM xs f).length t.2) := U2.cell 1
  have p0 : w5.cell? ⟨W.heap.size + 1 + 1 + 1, 0, none⟩ = some (.int .u64 base) := U3.cell 0
  have p1 : w5.cell? ⟨W.heap.size + 1 + 1 + 1, 1, none⟩ = some (.int .i64 many) := U3.cell 1
  have p2 : w5.cell? ⟨W.heap.size + 1 + 1 + 1, 2, none⟩ = some (.int .u64 G) := U3.cell 2
  clear C5 D5 U2 U3
  go_wp2
  exact bodyPost_ret (v := .tuple #[.agg #[.int .u64 sz, .slice t.1 (wipeM xs f).length t.2], .agg #[.int .u64 base, .int .i64 many, .int .u64 G]]) (by simp [results, Tryd.results54, go_sem, q0, q1, p0, p1, p2]) rfl ⟨_, by rw [HG.out], O5, B5⟩
end Go.Proofs.YtkffmaeiplgjeaaDoor.TableC2
/- The contract of table.Fresh. -/
namespace Go.Proofs.YtkffmaeiplgjeaaDoor.TableC3
open Go.RowKit Go.Proofs.YtkffmaeiplgjeaaDoor.Bv Go.Proofs.YtkffmaeiplgjeaaDoor.Base Go.Proofs.YtkffmaeiplgjeaaDoor.MemL Go.Proofs.YtkffmaeiplgjeaaDoor.MemC Go.Proofs.YtkffmaeiplgjeaaDoor.PutC Go.Proofs.YtkffmaeiplgjeaaDoor.MemC3 Go.Proofs.YtkffmaeiplgjeaaDoor.ClearC Go.Proofs.YtkffmaeiplgjeaaDoor.TableC Go.Proofs.YtkffmaeiplgjeaaDoor.TableC2 Go.Proofs.YtkffmaeiplgjeaaDoor.TzC Go.Proofs.YtkffmaeiplgjeaaDoor.PoolC4
open Go.Proofs.YtkffmaeiplgjeaaDoor.BitsC Go.Proofs.YtkffmaeiplgjeaaDoor.PoolC Go.Proofs.YtkffmaeiplgjeaaDoor.PoolC3
set_option linter.unusedVariables false
set_option linter.unusedSimpArgs false
set_option maxHeartbeats 4000000 in
theorem fresh_calls (sz : Int) (v : Value) (xs : List (Int × Int)) (base many free : Int) (W : World) (hb : 0 ≤ base ∧ base ≤ 268435456) (hm : 0 ≤ many ∧ many ≤ 64) (hr : U free) (hfr : free ≠ 0) (hT : TabT W) (hs : Srt xs) (hbig : (xs.length + 1) * 32 ≤ 140737488355328) (hv : Sl W v xs.length 2 (fl xs)) :
    Calls Tryd.prog 24 #[.agg #[.int .u64 sz, v], .agg #[.int .u64 base, .int .i64 many, .int .u64 free]] W fun e w' => ∃ v', e = .returned (.tuple #[.agg #[.int .u64 sz, v'], .agg #[.int .u64 base, .int .i64 many, .int .u64 (setI free (tzI free) 1 0)], .int .u64 (base + tzI free), .int .i64 0]) ∧ w'.ownsRow W.heap.size 85 2 v' (wipeM xs (base + tzI free)).length (fl (wipeM xs (base + tzI free))) ∧ Below W.heap.size W w' := by
  have B0 := bel_alloc (bel_alloc (bel_alloc (bel_alloc (Below.refl W.heap.size W) (.cells #[.int .u64 sz, v] 30)) (.cells #[.int .u64 base, .int .i64 many, .int .u64 free] 39)) (.cells #[.int .u64 0, .slice none 0 0] 30)) (.cells #[.int .u64 0, .int .i64 0, .int .u64 0] 39)
  obtain ⟨t0, t1⟩ := tz_lt hr hfr
  go_enter Tryd.func24, Tryd.ntmps24
  go_wp2_with fail
  have X0 : Bx ((((W.alloc (.cells #[.int .u64 sz, v] 30)).alloc (.cells #[.int .u64 base, .int .i64 many, .int .u64 free] 39)).alloc (.cells #[.int .u64 0, .slice none 0 0] 30)).alloc (.cells #[.int .u64 0, .int .i64 0, .int .u64 0] 39)) W.heap.size #[.int .u64 sz, v] := Bx.alloc (Bx.alloc (Bx.alloc Bx.new))
  have s1 : (W.alloc (.cells #[.int .u64 sz, v] 30)).heap.size = W.heap.size + 1 := by rw [World.size_alloc]
  have s2 : ((W.alloc (.cells #[.int .u64 sz, v] 30)).alloc (.cells #[.int .u64 base, .int .i64 many, .int .u64 free] 39)).heap.size = W.heap.size + 2 := by rw [World.size_alloc, s1]
  have X2 : Bx ((((W.alloc (.cells #[.int .u64 sz, v] 30)).alloc (.cells #[.int .u64 base, .int .i64 many, .int .u64 free] 39)).alloc (.cells #[.int .u64 0, .slice none 0 0] 30)).alloc (.cells #[.int .u64 0, .int .i64 0, .int .u64 0] 39)) (W.heap.size + 2) #[.int .u64 0, .slice none 0 0] := by rw [← s2]; exact Bx.alloc Bx.new
  have X3 : Bx ((((W.alloc (.cells #[.int .u64 sz, v] 30)).alloc (.cells #[.int .u64 base, .int .i64 many, .int .u64 free] 39)).alloc (.cells #[.int .u64 0, .slice none 0 0] 30)).alloc (.cells #[.int .u64 0, .int .i64 0, .int .u64 0] 39)) (W.heap.size + 3) #[.int .u64 0, .int .i64 0, .int .u64 0] := by
    have := bx_new1 (w := (W.alloc (.cells #[.int .u64 sz, v] 30)).alloc (.cells #[.int .u64 base, .int .i64 many, .int .u64 free] 39)) (o := .cells #[.int .u64 0, .slice none 0 0] 30) (c := #[.int .u64 0, .int .i64 0, .int .u64 0]) (T := 39)
    rwa [s2] at this
  refine (take_calls base many free _ hb hm hr (fun j hj => (B0.cell (p := ⟨0, j, none⟩) (block_lt_of_cell (hT j hj))).trans (hT j hj))).mono ?_
  rintro e w1 ⟨rfl, b1⟩
  have B1 := bel_trans B0 b1
  have Y0 := X0.below b1
  have Y2 := X2.below b1
  have Y3 := X3.below b1
  have hl := Y3.lt
  clear X0 X2 X3 b1 B0 s1 s2
  rw [show takeV base many free = .tuple #[.agg #[.int .u64 base, .int .i64 many, .int .u64 (setI free (tzI free) 1 0)], .int .u64 (base + tzI free), .int .i64 0] by unfold takeV; rw [if_neg hfr]]
  generalize hG : setI free (tzI free) 1 0 = G at *
  generalize hF : base + tzI free = f at *
  have HG := Lib.hid hG
  have HF := Lib.hid hF
  have hf : 0 ≤ f ∧ f < 1099511627776 := by omega
  clear hG hF t0 t1
  go_wp2_with fail
  have e2 : W.heap.size + 1 + 1 = W.heap.size + 2 := rfl
  have V0 := Y0.alloc (o := .cells #[.int .u64 base, .int .i64 many, .int .u64 G] 39)
  have V2 := Y2.alloc (o := .cells #[.int .u64 base, .int .i64 many, .int .u64 G] 39)
  have V3 := Y3.alloc (o := .cells #[.int .u64 base, .int .i64 many, .int .u64 G] 39)
  have V4 : Bx (w1.alloc (.cells #[.int .u64 base, .int .i64 many, .int .u64 G] 39)) w1.heap.size #[.int .u64 base, .int .i64 many, .int .u64 G] := Bx.new
  have B2 := bel_alloc B1 (.cells #[.int .u64 base, .int .i64 many, .int .u64 G] 39)
  have z2 : w1.heap.size ≤ (w1.alloc (.cells #[.int .u64 base, .int .i64 many, .int .u64 G] 39)).heap.size := by rw [World.size_alloc]; omega
  generalize w1.alloc (.cells #[.int .u64 base, .int .i64 many, .int .u64 G] 39) = w2 at *
  clear Y0 Y2 Y3 e2
  refine RegR.region_from (Θ := Option Addr × Nat) [0, 0, 1, 0, 0, 2, 2, 0, 0] [0, 1, 3, 4, 2, 5, 6, 7, 8]
    (CB W w1.heap.size #[.int .u64 sz, v] #[.int .u64 base, .int .i64 many, .int .u64 G] w1.heap.size)
    (fun _ t => .agg #[.int .u64 sz, .slice t.1 (wipeM xs f).length t.2])
    (fun _ t w' => w'.ownsRow w1.heap.size 85 2 (.slice t.1 (wipeM xs f).length t.2) (wipeM xs f).length (fl (wipeM xs f)))
    (by kernel_rfl) (by kernel_rfl) (fun w w' h b => h.below b) (fun _ t w w' h b => owns_below h b)
    ⟨V0.drew, V4.drew, z2, bel_drewN B2 1⟩ (fun w => Shp (W.heap.size + 2) 2 w ∧ Shp (W.heap.size + 3) 3 w) (fun w w' h b => ⟨h.1.below b, h.2.below b⟩) ⟨⟨_, rfl, V2.drew⟩, ⟨_, rfl, V3.drew⟩⟩ ?_
  repeat (with_reducible refine RegR.can0 _ rfl rfl (fun K hK => ?_)
          go_simp
          first
            | (refine hK _ ?_; clear hK K)
            | (refine ⟨_, fun _ _ _ _ => rfl, hK _ ?_⟩; clear hK K)
            | (apply Exists.intro
               refine ⟨fun w hc _ _ => ?_, hK _ ?_⟩
               · have y0 := hc.box.cell 0
                 have y1 := hc.box.cell 1
                 have p0 := hc.pool.cell 0
                 have p1 := hc.pool.cell 1
                 have p2 := hc.pool.cell 2
                 simp at y0 y1 p0 p1 p2
                 first
                   | (go_simp; done)
                   | (go_simp; rfl)
               clear hK K))
  refine RegR.can1_call _ rfl rfl rfl 47 #[.agg #[.int .u64 sz, v], .int .u64 f] (fun w => by kernel_rfl) (fun w hc => ?_) (fun t => ?_)
  · refine (wipe_calls sz v xs f w hf hs hbig (hv.below hc.bel)).mono ?_
    rintro e w' ⟨v', rfl, hown, hb'⟩
    obtain ⟨p, q, rfl⟩ := owns_slice hown
    exact ⟨(p, q), rfl, hb', owns_le hc.size hown⟩
  refine RegR.can2_store _ rfl rfl rfl 30 _ _ rfl (W.heap.size + 2) #[.int .u64 sz, .slice t.1 (wipeM xs f).length t.2] rfl rfl (by kernel_rfl) (by simp [Value.oneCell']) rfl (fun w w' h b => ⟨⟨h.1.1.below b, h.1.2.below b⟩, owns_below h.2 b⟩) (fun w h => h.1.1.ex) (fun w h => ?_) (fun w h => h.row (by omega) (by omega) _) ?_
  · obtain ⟨c, e1, e2⟩ := h.1.1.ex
    obtain ⟨c', e3, e4⟩ := h.1.2.ex
    exact ⟨⟨⟨_, rfl, e2.row_same⟩, ⟨_, e3, e4.row_far (by omega)⟩⟩, owns_row h.2 (by omega) _⟩
  refine RegR.can2_store _ rfl rfl rfl 39 _ _ rfl (W.heap.size + 3) #[.int .u64 base, .int .i64 many, .int .u64 G] rfl rfl (by kernel_rfl) (by simp [Value.oneCell']) rfl (fun w w' h b => ⟨⟨⟨h.1.1.1.below b, h.1.1.2.below b⟩, owns_below h.1.2 b⟩, h.2.below b⟩) (fun w h => h.1.1.2.ex) (fun w h => ?_) (fun w h => h.row (by omega) (by omega) _) ?_
  · obtain ⟨c, e1, e2⟩ := h.1.1.1.ex
    obtain ⟨c', e3, e4⟩ := h.1.1.2.ex
    exact ⟨⟨⟨⟨_, e1, e2.row_far (by omega)⟩, ⟨_, rfl, e4.row_same⟩⟩, owns_row h.1.2 (by omega) _⟩, h.2.row_far (by omega)⟩
  repeat (with_reducible refine RegR.can0 _ rfl rfl (fun K hK => ?_)
          go_simp
          first
            | (refine hK _ ?_; clear hK K)
            | (refine ⟨_, fun _ _ => rfl, hK _ ?_⟩; clear hK K)
            | (refine ⟨_, fun _ _ _ => rfl, hK _ ?_⟩; clear hK K)
            | (refine ⟨_, fun _ _ _ _ => rfl, hK _ ?_⟩; clear hK K)
            | (refine ⟨_, fun _ _ _ _ _ => rfl, hK _ ?_⟩; clear hK K)
            | (refine ⟨_, fun _ _ _ _ _ _ => rfl, hK _ ?_⟩; clear hK K)
            | (refine ⟨_, fun _ _ _ _ _ _ _ => rfl, hK _ ?_⟩; clear hK K))
  intro w5 C5 D5
  have B5 := C5.bel
  have U2 := D5.1.2
  have U3 := D5.2
  have O5 := owns_le (base' := W.heap.size) (by omega) D5.1.1.2
  have q0 : w5.cell? ⟨W.heap.size + 1 + 1, 0, none⟩ = some (.int .u64 sz) := U2.cell 0
  have q1 : w5.cell? ⟨W.heap.size + 1 + 1, 1, none⟩ = some (.slice t.1 (wipeM xs f).length t.2) := U2.cell 1
  have p0 : w5.cell? ⟨W.heap.size + 1 + 1 + 1, 0, none⟩ = some (.int .u64 base) := U3.cell 0
  have p1 : w5.cell? ⟨W.heap.size + 1 + 1 + 1, 1, none⟩ = some (.int .i64 many) := U3.cell 1
  have p2 : w5.cell? ⟨W.heap.size + 1 + 1 + 1, 2, none⟩ = some (.int .u64 G) := U3.cell 2
  clear C5 D5 U2 U3
  go_wp2
  exact bodyPost_ret (v := .tuple #[.agg #[.int .u64 sz, .slice t.1 (wipeM xs f).length t.2], .agg #[.int .u64 base, .int .i64 many, .int .u64 G], .int .u64 f, .int .i64 0]) (by simp [results, Tryd.results24, go_sem, q0, q1, p0, p1, p2]) rfl ⟨_, by rw [HG.out, HF.out], by rw [HF.out]; exact O5, B5⟩
end Go.Proofs.YtkffmaeiplgjeaaDoor.TableC3
/- The contract of table.Fresh where no frame is free. -/
namespace Go.Proofs.YtkffmaeiplgjeaaDoor.TableC4
open Go.RowKit Go.Proofs.YtkffmaeiplgjeaaDoor.Bv Go.Proofs.YtkffmaeiplgjeaaDoor.Base Go.Proofs.YtkffmaeiplgjeaaDoor.MemL Go.Proofs.YtkffmaeiplgjeaaDoor.MemC Go.Proofs.YtkffmaeiplgjeaaDoor.PutC Go.Proofs.YtkffmaeiplgjeaaDoor.MemC3 Go.Proofs.YtkffmaeiplgjeaaDoor.ClearC Go.Proofs.YtkffmaeiplgjeaaDoor.TableC Go.Proofs.YtkffmaeiplgjeaaDoor.TableC2 Go.Proofs.YtkffmaeiplgjeaaDoor.TzC Go.Proofs.YtkffmaeiplgjeaaDoor.PoolC4
open Go.Proofs.YtkffmaeiplgjeaaDoor.BitsC Go.Proofs.YtkffmaeiplgjeaaDoor.PoolC Go.Proofs.YtkffmaeiplgjeaaDoor.PoolC3
set_option linter.unusedVariables false
set_option linter.unusedSimpArgs false
set_option maxHeartbeats 4000000 in
theorem fresh_none (sz : Int) (a : Option Addr) (n c : Nat) (base many : Int) (W : World) (hb : 0 ≤ base ∧ base ≤ 268435456) (hm : 0 ≤ many ∧ many ≤ 64) (hT : TabT W) :
    Calls Tryd.prog 24 #[.agg #[.int .u64 sz, .slice a n c], .agg #[.int .u64 base, .int .i64 many, .int .u64 0]] W fun e w' => e = .returned (.tuple #[.agg #[.int .u64 sz, .slice a n c], .agg #[.int .u64 base, .int .i64 many, .int .u64 0], .int .u64 0, .int .i64 8]) ∧ Below W.heap.size W w' := by
  obtain ⟨v, hv⟩ : ∃ v, v = Value.slice a n c := ⟨_, rfl⟩
  have B0 := bel_alloc (bel_alloc (bel_alloc (bel_alloc (Below.refl W.heap.size W) (.cells #[.int .u64 sz, .slice a n c] 30)) (.cells #[.int .u64 base, .int .i64 many, .int .u64 0] 39)) (.cells #[.int .u64 0, .slice none 0 0] 30)) (.cells #[.int .u64 0, .int .i64 0, .int .u64 0] 39)
  go_enter Tryd.func24, Tryd.ntmps24
  go_wp2_with fail
  have X0 : Bx ((((W.alloc (.cells #[.int .u64 sz, .slice a n c] 30)).alloc (.cells #[.int .u64 base, .int .i64 many, .int .u64 0] 39)).alloc (.cells #[.int .u64 0, .slice none 0 0] 30)).alloc (.cells #[.int .u64 0, .int .i64 0, .int .u64 0] 39)) W.heap.size #[.int .u64 sz, .slice a n c] := Bx.alloc (Bx.alloc (Bx.alloc Bx.new))
  have s1 : (W.alloc (.cells #[.int .u64 sz, .slice a n c] 30)).heap.size = W.heap.size + 1 := by rw [World.size_alloc]
  have s2 : ((W.alloc (.cells #[.int .u64 sz, .slice a n c] 30)).alloc (.cells #[.int .u64 base, .int .i64 many, .int .u64 0] 39)).heap.size = W.heap.size + 2 := by rw [World.size_alloc, s1]
  have X1 : Bx ((((W.alloc (.cells #[.int .u64 sz, .slice a n c] 30)).alloc (.cells #[.int .u64 base, .int .i64 many, .int .u64 0] 39)).alloc (.cells #[.int .u64 0, .slice none 0 0] 30)).alloc (.cells #[.int .u64 0, .int .i64 0, .int .u64 0] 39)) (W.heap.size + 1) #[.int .u64 base, .int .i64 many, .int .u64 0] := Bx.alloc (Bx.alloc bx_new1)
  have X2 : Bx ((((W.alloc (.cells #[.int .u64 sz, .slice a n c] 30)).alloc (.cells #[.int .u64 base, .int .i64 many, .int .u64 0] 39)).alloc (.cells #[.int .u64 0, .slice none 0 0] 30)).alloc (.cells #[.int .u64 0, .int .i64 0, .int .u64 0] 39)) (W.heap.size + 2) #[.int .u64 0, .slice none 0 0] := by rw [← s2]; exact Bx.alloc Bx.new
  have X3 : Bx ((((W.alloc (.cells #[.int .u64 sz, .slice a n c] 30)).alloc (.cells #[.int .u64 base, .int .i64 many, .int .u64 0] 39)).alloc (.cells #[.int .u64 0, .slice none 0 0] 30)).alloc (.cells #[.int .u64 0, .int .i64 0, .int .u64 0] 39)) (W.heap.size + 3) #[.int .u64 0, .int .i64 0, .int .u64 0] := by
    have := bx_new1 (w := (W.alloc (.cells #[.int .u64 sz, .slice a n c] 30)).alloc (.cells #[.int .u64 base, .int .i64 many, .int .u64 0] 39)) (o := .cells #[.int .u64 0, .slice none 0 0] 30) (c := #[.int .u64 0, .int .i64 0, .int .u64 0]) (T := 39)
    rwa [s2] at this
  refine (take_calls base many 0 _ hb hm ⟨by omega, by omega⟩ (fun j hj => (B0.cell (p := ⟨0, j, none⟩) (block_lt_of_cell (hT j hj))).trans (hT j hj))).mono ?_
  rintro e w1 ⟨rfl, b1⟩
  have B1 := bel_trans B0 b1
  have Y0 := X0.below b1
  have Y1 := X1.below b1
  have Y2 := X2.below b1
  have Y3 := X3.below b1
  have hl := Y3.lt
  clear X0 X1 X2 X3 b1 B0 s1 s2
  rw [show takeV base many 0 = .tuple #[.agg #[.int .u64 base, .int .i64 many, .int .u64 0], .int .u64 0, .int .i64 8] from rfl]
  have V0 := Y0.alloc (o := .cells #[.int .u64 base, .int .i64 many, .int .u64 0] 39)
  have V1 := Y1.alloc (o := .cells #[.int .u64 base, .int .i64 many, .int .u64 0] 39)
  have V2 := Y2.alloc (o := .cells #[.int .u64 base, .int .i64 many, .int .u64 0] 39)
  have V3 := Y3.alloc (o := .cells #[.int .u64 base, .int .i64 many, .int .u64 0] 39)
  have B2 := bel_alloc B1 (.cells #[.int .u64 base, .int .i64 many, .int .u64 0] 39)
  have z2 : w1.heap.size ≤ (w1.alloc (.cells #[.int .u64 base, .int .i64 many, .int .u64 0] 39)).heap.size := by rw [World.size_alloc]; omega
  go_wp2_with fail
  generalize w1.alloc (.cells #[.int .u64 base, .int .i64 many, .int .u64 0] 39) = w2 at *
  clear Y0 Y1 Y2 Y3
  refine RegR.region_from (Θ := Unit) [0, 0, 0, 2, 2, 0, 0] [0, 1, 2, 3, 4, 5, 6]
    (CB W w1.heap.size #[.int .u64 sz, .slice a n c] #[.int .u64 base, .int .i64 many, .int .u64 0] (W.heap.size + 1))
    (fun _ _ => .bool true) (fun _ _ _ => True)
    (by kernel_rfl) (by kernel_rfl) (fun w w' h b => h.below b) (fun _ _ _ _ _ _ => trivial)
    ⟨V0.drew, V1.drew, z2, bel_drewN B2 1⟩ (fun w => Shp (W.heap.size + 2) 2 w ∧ Shp (W.heap.size + 3) 3 w) (fun w w' h b => ⟨h.1.below b, h.2.below b⟩) ⟨⟨_, rfl, V2.drew⟩, ⟨_, rfl, V3.drew⟩⟩ ?_
  repeat (with_reducible refine RegR.can0 _ rfl rfl (fun K hK => ?_)
          go_simp
          first
            | (refine hK _ ?_; clear hK K)
            | (refine ⟨_, fun _ _ _ _ => rfl, hK _ ?_⟩; clear hK K)
            | (apply Exists.intro
               refine ⟨fun w hc _ _ => ?_, hK _ ?_⟩
               · have y0 := hc.box.cell 0
                 have y1 := hc.box.cell 1
                 have p0 := hc.pool.cell 0
                 have p1 := hc.pool.cell 1
                 have p2 := hc.pool.cell 2
                 simp at y0 y1 p0 p1 p2
                 first
                   | (go_simp; done)
                   | (go_simp; rfl)
               clear hK K))
  refine RegR.can2_store _ rfl rfl rfl 30 _ _ rfl (W.heap.size + 2) #[.int .u64 sz, .slice a n c] rfl rfl (by kernel_rfl) (by simp [Value.oneCell']) rfl (fun w w' h b => ⟨h.1.below b, h.2.below b⟩) (fun w h => h.1.ex) (fun w h => ?_) (fun w h => h.row (by omega) (by omega) _) ?_
  · obtain ⟨c1, e1, e2⟩ := h.1.ex
    obtain ⟨c', e3, e4⟩ := h.2.ex
    exact ⟨⟨_, rfl, e2.row_same⟩, ⟨_, e3, e4.row_far (by omega)⟩⟩
  refine RegR.can2_store _ rfl rfl rfl 39 _ _ rfl (W.heap.size + 3) #[.int .u64 base, .int .i64 many, .int .u64 0] rfl rfl (by kernel_rfl) (by simp [Value.oneCell']) rfl (fun w w' h b => ⟨⟨h.1.1.below b, h.1.2.below b⟩, h.2.below b⟩) (fun w h => h.1.2.ex) (fun w h => ?_) (fun w h => h.row (by omega) (by omega) _) ?_
  · obtain ⟨c1, e1, e2⟩ := h.1.1.ex
    obtain ⟨c', e3, e4⟩ := h.1.2.ex
    exact ⟨⟨⟨_, e1, e2.row_far (by omega)⟩, ⟨_, rfl, e4.row_same⟩⟩, h.2.row_far (by omega)⟩
  repeat (with_reducible refine RegR.can0 _ rfl rfl (fun K hK => ?_)
          go_simp
          first
            | (refine hK _ ?_; clear hK K)
            | (refine ⟨_, fun _ _ => rfl, hK _ ?_⟩; clear hK K)
            | (refine ⟨_, fun _ _ _ => rfl, hK _ ?_⟩; clear hK K)
            | (refine ⟨_, fun _ _ _ _ => rfl, hK _ ?_⟩; clear hK K)
            | (refine ⟨_, fun _ _ _ _ _ => rfl, hK _ ?_⟩; clear hK K)
            | (refine ⟨_, fun _ _ _ _ _ _ => rfl, hK _ ?_⟩; clear hK K)
            | (refine ⟨_, fun _ _ _ _ _ _ _ => rfl, hK _ ?_⟩; clear hK K))
  intro w5 C5 D5
  have B5 := C5.bel
  have U2 := D5.1.2
  have U3 := D5.2
  have q0 : w5.cell? ⟨W.heap.size + 1 + 1, 0, none⟩ = some (.int .u64 sz) := U2.cell 0
  have q1 : w5.cell? ⟨W.heap.size + 1 + 1, 1, none⟩ = some (.slice a n c) := U2.cell 1
  have p0 : w5.cell? ⟨W.heap.size + 1 + 1 + 1, 0, none⟩ = some (.int .u64 base) := U3.cell 0
  have p1 : w5.cell? ⟨W.heap.size + 1 + 1 + 1, 1, none⟩ = some (.int .i64 many) := U3.cell 1
  have p2 : w5.cell? ⟨W.heap.size + 1 + 1 + 1, 2, none⟩ = some (.int .u64 0) := U3.cell 2
  clear C5 D5 U2 U3
  go_wp2
  exact bodyPost_ret (v := .tuple #[.agg #[.int .u64 sz, .slice a n c], .agg #[.int .u64 base, .int .i64 many, .int .u64 0], .int .u64 0, .int .i64 8]) (by simp [results, Tryd.results24, go_sem, q0, q1, p0, p1, p2]) rfl ⟨rfl, B5⟩
end Go.Proofs.YtkffmaeiplgjeaaDoor.TableC4
/- The contracts of package asid: within, Right, New, Give. -/
namespace Go.Proofs.YtkffmaeiplgjeaaDoor.AsidC
open Go.RowKit Go.Proofs.YtkffmaeiplgjeaaDoor.Bv Go.Proofs.YtkffmaeiplgjeaaDoor.Base Go.Proofs.YtkffmaeiplgjeaaDoor.MemL
open Go.Proofs.YtkffmaeiplgjeaaDoor.BitsC
set_option linter.unusedVariables false
set_option linter.unusedSimpArgs false
/-- whether no bit from a place on is set -/
def within (x many : Int) : Bool := getI x 0 many == x
theorem within_calls (x many : Int) (W : World) (hx : U x) (hm : 0 ≤ many ∧ many ≤ 64) :
    Calls Tryd.prog 64 #[.int .u64 x, .int .i64 many] W fun e w' => e = .returned (.bool (within x many)) ∧ Q W w' := by
  have H := Lib.hid (show within x many = (getI x 0 many == x) from rfl)
  go_enter Tryd.func64, Tryd.ntmps64
  go_wp2_with fail
  refine (get_calls x 0 many _ hx (by omega) (by omega) hm.1 hm.2).mono ?_
  rintro e w1 ⟨rfl, q1⟩
  go_wp2
  go_ret
  exact ⟨by rw [H.out]; rfl, q1⟩
def rightA (many free owned : Int) : Bool := decide (1 ≤ many) && decide (many ≤ 16) && within free many && within owned many
set_option maxHeartbeats 4000000 in
theorem right_calls (many free owned : Int) (W : World) (hf : U free) (ho : U owned) :
    Calls Tryd.prog 45 #[.agg #[.int .i64 many, .int .u64 free, .int .u64 owned]] W fun e w' => e = .returned (.bool (rightA many free owned)) ∧ Below W.heap.size W w' := by
  have HI := Lib.hid (show rightA many free owned = (decide (1 ≤ many) && decide (many ≤ 16) && within free many && within owned many) from rfl)
  have B0 := bel_alloc (Below.refl W.heap.size W) (.cells #[.int .i64 many, .int .u64 free, .int .u64 owned] 41)
  have X0 : Bx (W.alloc (.cells #[.int .i64 many, .int .u64 free, .int .u64 owned] 41)) W.heap.size #[.int .i64 many, .int .u64 free, .int .u64 owned] := Bx.new
  cases h1 : decide (1 ≤ many)
  · have H := Lib.hid (show rightA many free owned = false by rw [HI.out, h1]; rfl)
    go_enter Tryd.func45, Tryd.ntmps45
    go_wp2
    go_ret
    exact ⟨by rw [H.out]; rfl, B0⟩
  · cases h2 : decide (many ≤ 16)
    · have H := Lib.hid (show rightA many free owned = false by rw [HI.out, h1, h2]; rfl)
      go_enter Tryd.func45, Tryd.ntmps45
      go_wp2
      go_ret
      exact ⟨by rw [H.out]; rfl, B0⟩
    · have hm : 0 ≤ many ∧ many ≤ 64 := by simp at h1 h2; omega
      have H := Lib.hid (show rightA many free owned = (within free many && within owned many) by rw [HI.out, h1, h2]; rfl)
      go_enter Tryd.func45, Tryd.ntmps45
      go_wp2_with fail
      refine (within_calls free many _ hf hm).mono ?_
      rintro e w1 ⟨rfl, q1⟩
      have B1 := Q.bel B0 q1
      have Y0 := X0.below q1.below
      have y0 : w1.cell? ⟨W.heap.size, 0, none⟩ = some (.int .i64 many) := Y0.cell 0
      have y2 : w1.cell? ⟨W.heap.size, 2, none⟩ = some (.int .u64 owned) := Y0.cell 2
      clear X0 q1 B0
      cases h3 : within free many
      · have H' := Lib.hid (show rightA many free owned = false by rw [H.out, h3]; rfl)
        clear h3
        go_wp2
        go_ret
        exact ⟨by rw [H'.out]; rfl, B1⟩
      · have H' := Lib.hid (show rightA many free owned = within owned many by rw [H.out, h3]; rfl)
        clear h3
        go_wp2_with fail
        refine (within_calls owned many _ ho hm).mono ?_
        rintro e w2 ⟨rfl, q2⟩
        have B2 := Q.bel B1 q2
        go_wp2
        go_ret
        exact ⟨by rw [H'.out]; rfl, B2⟩
end Go.Proofs.YtkffmaeiplgjeaaDoor.AsidC
/- The contracts of asid.New, asid.Give. -/
namespace Go.Proofs.YtkffmaeiplgjeaaDoor.AsidC2
open Go.RowKit Go.Proofs.YtkffmaeiplgjeaaDoor.Bv Go.Proofs.YtkffmaeiplgjeaaDoor.Base Go.Proofs.YtkffmaeiplgjeaaDoor.MemL
open Go.Proofs.YtkffmaeiplgjeaaDoor.BitsC Go.Proofs.YtkffmaeiplgjeaaDoor.AsidC
set_option linter.unusedVariables false
set_option linter.unusedSimpArgs false
/-- what comes of asid.New -/
def newV (many : Int) : Value := if rightA many 0 0 then .tuple #[.agg #[.int .i64 many, .int .u64 (getI 18446744073709551615 0 many), .int .u64 0], .int .i64 0] else .tuple #[.agg #[.int .i64 0, .int .u64 0, .int .u64 0], .int .i64 1]
set_option maxHeartbeats 4000000 in
theorem new_calls (many : Int) (W : World) :
    Calls Tryd.prog 22 #[.int .i64 many] W fun e w' => e = .returned (newV many) ∧ Below W.heap.size W w' := by
  have B0 := bel_alloc (bel_alloc (Below.refl W.heap.size W) (.cells #[.int .i64 0, .int .u64 0, .int .u64 0] 41)) (.cells #[.int .i64 many, .int .u64 0, .int .u64 0] 41)
  have X0 : Bx ((W.alloc (.cells #[.int .i64 0, .int .u64 0, .int .u64 0] 41)).alloc (.cells #[.int .i64 many, .int .u64 0, .int .u64 0] 41)) W.heap.size #[.int .i64 0, .int .u64 0, .int .u64 0] := Bx.alloc Bx.new
  have X1 : Bx ((W.alloc (.cells #[.int .i64 0, .int .u64 0, .int .u64 0] 41)).alloc (.cells #[.int .i64 many, .int .u64 0, .int .u64 0] 41)) (W.heap.size + 1) #[.int .i64 many, .int .u64 0, .int .u64 0] := MemNewC.bx_new1
  go_enter Tryd.func22, Tryd.ntmps22
  go_wp2_with fail
  refine (right_calls many 0 0 _ ⟨by omega, by omega⟩ ⟨by omega, by omega⟩).mono ?_
  rintro e w1 ⟨rfl, b1⟩
  have B1 := bel_trans B0 b1
  have Y0 := X0.below b1
  have Y1 := X1.below b1
  have hl := Y1.lt
  clear X0 X1 b1 B0
  cases h : rightA many 0 0
  · have H := Lib.hid (show newV many = .tuple #[.agg #[.int .i64 0, .int .u64 0, .int .u64 0], .int .i64 1] by unfold newV; rw [h]; rfl)
    clear h
    have f0 := Y0.free
    have q0 : w1.cell? ⟨W.heap.size, 0, none⟩ = some (.int .i64 0) := Y0.cell 0
    have q1 : w1.cell? ⟨W.heap.size, 1, none⟩ = some (.int .u64 0) := Y0.cell 1
    have q2 : w1.cell? ⟨W.heap.size, 2, none⟩ = some (.int .u64 0) := Y0.cell 2
    clear Y0 Y1
    go_wp2
    exact bodyPost_ret (v := .tuple #[.agg #[.int .i64 0, .int .u64 0, .int .u64 0], .int .i64 1]) (by simp [results, Tryd.results22, go_sem, q0, q1, q2]) rfl ⟨by rw [H.out], bel_setCell _ _ _ (by omega) (bel_setCell _ _ _ (by omega) (bel_setCell _ _ _ (by omega) B1))⟩
  · have H := Lib.hid (show newV many = .tuple #[.agg #[.int .i64 many, .int .u64 (getI 18446744073709551615 0 many), .int .u64 0], .int .i64 0] by unfold newV; rw [h]; rfl)
    have hm : 0 ≤ many ∧ many ≤ 64 := by unfold rightA at h; simp at h; omega
    clear h
    go_wp2_with fail
    refine (get_calls 18446744073709551615 0 many _ ⟨by omega, by omega⟩ (by omega) (by omega) hm.1 hm.2).mono ?_
    rintro e w2 ⟨rfl, q⟩
    have B2 := Q.bel B1 q
    have Z0 := Y0.below q.below
    have Z1 := Y1.below q.below
    clear Y0 Y1 q
    have f0 := Z0.free
    have q0 : w2.cell? ⟨W.heap.size, 0, none⟩ = some (.int .i64 0) := Z0.cell 0
    have q1 : w2.cell? ⟨W.heap.size, 1, none⟩ = some (.int .u64 0) := Z0.cell 1
    have q2 : w2.cell? ⟨W.heap.size, 2, none⟩ = some (.int .u64 0) := Z0.cell 2
    have g0 := Z1.free
    have z0 : w2.cell? ⟨W.heap.size + 1, 0, none⟩ = some (.int .i64 many) := Z1.cell 0
    have z1 : w2.cell? ⟨W.heap.size + 1, 1, none⟩ = some (.int .u64 0) := Z1.cell 1
    have z2 : w2.cell? ⟨W.heap.size + 1, 2, none⟩ = some (.int .u64 0) := Z1.cell 2
    clear Z0 Z1
    go_wp2
    exact bodyPost_ret (v := .tuple #[.agg #[.int .i64 many, .int .u64 (getI 18446744073709551615 0 many), .int .u64 0], .int .i64 0]) (by simp [results, Tryd.results22, go_sem, q0, q1, q2, z0, z1, z2]) rfl ⟨by rw [H.out], bel_setCell _ _ _ (by omega) (bel_setCell _ _ _ (by omega) (bel_setCell _ _ _ (by omega) (bel_setCell _ _ _ (by omega) B2)))⟩
/-- whether a number may be given back -/
def takenA (many free n : Int) : Bool := decide (1 ≤ n) && decide (n ≤ many) && !(getI free (n - 1) 1 == 1)
/-- what comes of asid.Give -/
def giveV (many free owned n : Int) : Value := if takenA many free n then .tuple #[.agg #[.int .i64 many, .int .u64 (setI free (n - 1) 1 1), .int .u64 owned], .int .i64 0] else .tuple #[.agg #[.int .i64 many, .int .u64 free, .int .u64 owned], .int .i64 1]
set_option maxHeartbeats 4000000 in
theorem give_calls (many free owned n : Int) (W : World) (hm : 0 ≤ many ∧ many ≤ 64) (hf : U free) (ho : U owned) (hn : U n) :
    Calls Tryd.prog 33 #[.agg #[.int .i64 many, .int .u64 free, .int .u64 owned], .int .u64 n] W fun e w' => e = .returned (giveV many free owned n) ∧ Below W.heap.size W w' := by
  have B0 := bel_alloc (bel_alloc (Below.refl W.heap.size W) (.cells #[.int .i64 many, .int .u64 free, .int .u64 owned] 41)) (.cells #[.int .i64 0, .int .u64 0, .int .u64 0] 41)
  have X0 : Bx ((W.alloc (.cells #[.int .i64 many, .int .u64 free, .int .u64 owned] 41)).alloc (.cells #[.int .i64 0, .int .u64 0, .int .u64 0] 41)) W.heap.size #[.int .i64 many, .int .u64 free, .int .u64 owned] := Bx.alloc Bx.new
  have X1 : Bx ((W.alloc (.cells #[.int .i64 many, .int .u64 free, .int .u64 owned] 41)).alloc (.cells #[.int .i64 0, .int .u64 0, .int .u64 0] 41)) (W.heap.size + 1) #[.int .i64 0, .int .u64 0, .int .u64 0] := MemNewC.bx_new1
  have HT := Lib.hid (show takenA many free n = (decide (1 ≤ n) && decide (n ≤ many) && !(getI free (n - 1) 1 == 1)) from rfl)
  have HG := Lib.hid (fun (h : takenA many free n = false) => show giveV many free owned n = .tuple #[.agg #[.int .i64 many, .int .u64 free, .int .u64 owned], .int .i64 1] by unfold giveV; rw [h]; rfl)
  obtain ⟨m0, m1⟩ := hm
  obtain ⟨n0, n1⟩ := hn
  have d0 : IntKind.u64.wrap many = many := by rw [wrap_u64]; omega
  by_cases h1 : n < 1
  · have H := Lib.hid (HG.out (by rw [HT.out, show decide (1 ≤ n) = false by simp; omega]; rfl))
    go_enter Tryd.func33, Tryd.ntmps33
    go_wp2
    exact bodyPost_ret (v := .tuple #[.agg #[.int .i64 many, .int .u64 free, .int .u64 owned], .int .i64 1]) (by simp [results, Tryd.results33, go_sem]) rfl ⟨by rw [H.out], bel_alloc (bel_alloc (Below.refl _ _) _) _⟩
  · by_cases h2 : many < n
    · have H := Lib.hid (HG.out (by rw [HT.out, show decide (n ≤ many) = false by simp; omega]; simp))
      go_enter Tryd.func33, Tryd.ntmps33
      go_wp2
      exact bodyPost_ret (v := .tuple #[.agg #[.int .i64 many, .int .u64 free, .int .u64 owned], .int .i64 1]) (by simp [results, Tryd.results33, go_sem]) rfl ⟨by rw [H.out], bel_alloc (bel_alloc (Below.refl _ _) _) _⟩
    · have d1 : IntKind.u64.wrap (n - 1) = n - 1 := by rw [wrap_u64]; omega
      have d2 : IntKind.i64.wrap (n - 1) = n - 1 := by rw [IntKind.wrap_i64]; omega
      have HT2 := Lib.hid (show takenA many free n = !(getI free (n - 1) 1 == 1) by rw [HT.out, show decide (1 ≤ n) = true by simp; omega, show decide (n ≤ many) = true by simp; omega]; rfl)
      go_enter Tryd.func33, Tryd.ntmps33
      go_wp2_with fail
      refine (get_calls free (n - 1) 1 _ hf (by omega) (by omega) (by omega) (by omega)).mono ?_
      rintro e w1 ⟨rfl, q⟩
      have B1 := Q.bel B0 q
      have Y0 := X0.below q.below
      have Y1 := X1.below q.below
      clear X0 X1 q B0
      have y0 : w1.cell? ⟨W.heap.size, 0, none⟩ = some (.int .i64 many) := Y0.cell 0
      have y1 : w1.cell? ⟨W.heap.size, 1, none⟩ = some (.int .u64 free) := Y0.cell 1
      have y2 : w1.cell? ⟨W.heap.size, 2, none⟩ = some (.int .u64 owned) := Y0.cell 2
      generalize getI free (n - 1) 1 = gb at *
      by_cases hgb : gb = 1
      rotate_left
      · have h3 : (gb == 1) = false := by simpa using hgb
        have H := Lib.hid (show giveV many free owned n = .tuple #[.agg #[.int .i64 many, .int .u64 (setI free (n - 1) 1 1), .int .u64 owned], .int .i64 0] by unfold giveV; rw [HT2.out, h3]; rfl)
        go_wp2_with fail
        refine (set_calls free (n - 1) 1 1 _ hf ⟨by omega, by omega⟩ (by omega) (by omega) (by omega) (by omega)).mono ?_
        rintro e w2 ⟨rfl, q⟩
        have B2 := Q.bel B1 q
        have Z0 := Y0.below q.below
        have Z1 := Y1.below q.below
        clear Y0 Y1 q y0 y1 y2 h3
        have f0 := Z0.free
        have q0 : w2.cell? ⟨W.heap.size, 0, none⟩ = some (.int .i64 many) := Z0.cell 0
        have q1 : w2.cell? ⟨W.heap.size, 1, none⟩ = some (.int .u64 free) := Z0.cell 1
        have q2 : w2.cell? ⟨W.heap.size, 2, none⟩ = some (.int .u64 owned) := Z0.cell 2
        have g0 := Z1.free
        have z0 : w2.cell? ⟨W.heap.size + 1, 0, none⟩ = some (.int .i64 0) := Z1.cell 0
        have z1 : w2.cell? ⟨W.heap.size + 1, 1, none⟩ = some (.int .u64 0) := Z1.cell 1
        have z2 : w2.cell? ⟨W.heap.size + 1, 2, none⟩ = some (.int .u64 0) := Z1.cell 2
        clear Z0 Z1
        go_wp2
        exact bodyPost_ret (v := .tuple #[.agg #[.int .i64 many, .int .u64 (setI free (n - 1) 1 1), .int .u64 owned], .int .i64 0]) (by simp [results, Tryd.results33, go_sem, q0, q1, q2, z0, z1, z2]) rfl ⟨by rw [H.out], bel_setCell _ _ _ (by omega) (bel_setCell _ _ _ (by omega) (bel_setCell _ _ _ (by omega) (bel_setCell _ _ _ (by omega) B2)))⟩
      · subst hgb
        have H := Lib.hid (HG.out (by rw [HT2.out]; rfl))
        have g0 := Y1.free
        have z0 : w1.cell? ⟨W.heap.size + 1, 0, none⟩ = some (.int .i64 0) := Y1.cell 0
        have z1 : w1.cell? ⟨W.heap.size + 1, 1, none⟩ = some (.int .u64 0) := Y1.cell 1
        have z2 : w1.cell? ⟨W.heap.size + 1, 2, none⟩ = some (.int .u64 0) := Y1.cell 2
        clear Y0 Y1
        go_wp2
        exact bodyPost_ret (v := .tuple #[.agg #[.int .i64 many, .int .u64 free, .int .u64 owned], .int .i64 1]) (by simp [results, Tryd.results33, go_sem, z0, z1, z2]) rfl ⟨by rw [H.out], bel_setCell _ _ _ (by omega) (bel_setCell _ _ _ (by omega) (bel_setCell _ _ _ (by omega) B1))⟩
end Go.Proofs.YtkffmaeiplgjeaaDoor.AsidC2
