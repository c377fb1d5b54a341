/- Texts of this claim, one behind the other: PoolC4, TableC2, TableC3, TableC4, AsidC, AsidC2, TlbNewC, VaC, PteSpec. -/
import Derived.Test.YtkffmaeiplgjeaaGreatDoorM7
import Derived.Laws.StructEq
import Derived.Test.YtkffmaeiplgjeaaGreatDoorM6
import Derived.Laws.OwnMore
import Derived.Test.YtkffmaeiplgjeaaGreatDoorM5
/- The contract of pool.Take. -/
namespace Go.Proofs.YtkffmaeiplgjeaaGreatDoor.PoolC4
open Go.RowKit Go.Proofs.YtkffmaeiplgjeaaGreatDoor.Bv Go.Proofs.YtkffmaeiplgjeaaGreatDoor.Base Go.Proofs.YtkffmaeiplgjeaaGreatDoor.MemL
open Go.Proofs.YtkffmaeiplgjeaaGreatDoor.BitsC Go.Proofs.YtkffmaeiplgjeaaGreatDoor.MemNewC Go.Proofs.YtkffmaeiplgjeaaGreatDoor.PoolC Go.Proofs.YtkffmaeiplgjeaaGreatDoor.PoolC2 Go.Proofs.YtkffmaeiplgjeaaGreatDoor.TzC
set_option linter.unusedVariables false
set_option linter.unusedSimpArgs false
section
variable {P : Program} {d : Nat} {xs ys : Array Value} {f : Field} {fs : List Field} {a b : Value} {r s : Bool} {w : World}
theorem fields_nil : (Op.eqFields d xs ys []).run P w = .ok true w := by simp [Op.eqFields]
theorem fields_cons (hn : (f.name == "_") = false) (ha : (part f.type xs f.offset).run P w = .ok a w) (hb : (part f.type ys f.offset).run P w = .ok b w) (he : (Op.equalIn d f.type a b).run P w = .ok r w) (hr : (Op.eqFields d xs ys fs).run P w = .ok s w) :
    (Op.eqFields d xs ys (f :: fs)).run P w = .ok (r && s) w := by
  have h : f.name ≠ "_" := by intro e; rw [e] at hn; exact absurd hn (by decide)
  simp only [Op.eqFields, if_pos h, Sem.run_bind, ha, hb, he, Result.andThen_ok]
  cases r with
  | true => simpa using hr
  | false => simp
theorem struct_of {t : TypeId} {l : Array Field} (hu : P.underlying t = some (.struct l)) (hp : P.stoodInHeld t = false) (h : (Op.eqFields d xs ys l.toList).run P w = .ok r w) : (Op.equalIn (d + 1) t (.agg xs) (.agg ys)).run P w = .ok r w := by
  have e : P.fieldsOf t = l := by unfold Program.fieldsOf; rw [hu]
  rw [run_equalIn_struct w d t xs ys (by rw [e]; exact hu) hp, e, h]
end
theorem eq_pool (d : Nat) (w : World) (x0 y0 x1 y1 x2 y2 : Int) :
    (Op.equalIn (d + 2) 38 (.agg #[.int .u64 x0, .int .i64 x1, .int .u64 x2]) (.agg #[.int .u64 y0, .int .i64 y1, .int .u64 y2])).run Tryz.prog w = .ok (x0 == y0 && (x1 == y1 && (x2 == y2 && true))) w := by
  refine struct_of Tryz.underlying38 (by kernel_rfl) ?_
  refine fields_cons (by rfl) (by go_simp; rfl) (by go_simp; rfl) (by go_simp) ?_
  refine fields_cons (by rfl) (by go_simp; rfl) (by go_simp; rfl) (by go_simp) ?_
  exact fields_cons (by rfl) (by go_simp; rfl) (by go_simp; rfl) (by go_simp) fields_nil
/-- what comes of pool.Take -/
def takeV (base many free : Int) : Value := if free = 0 then .tuple #[.agg #[.int .u64 base, .int .i64 many, .int .u64 0], .int .u64 0, .int .i64 8] else .tuple #[.agg #[.int .u64 base, .int .i64 many, .int .u64 (setI free (tzI free) 1 0)], .int .u64 (base + tzI free), .int .i64 0]
theorem tz_lt {x : Int} (hx : U x) (h : x ≠ 0) : 0 ≤ tzI x ∧ tzI x < 64 := by
  obtain ⟨h1, h2⟩ := hx
  obtain ⟨_, hk⟩ := Lib.lowest_bit 64 x.toNat (by omega) (by omega)
  unfold tzI
  omega
set_option maxHeartbeats 4000000 in
theorem take_calls (base many free : Int) (W : World) (hb : 0 ≤ base ∧ base ≤ 268435456) (hm : 0 ≤ many ∧ many ≤ 64) (hr : U free) (hT : TabT W) :
    Calls Tryz.prog 66 #[.agg #[.int .u64 base, .int .i64 many, .int .u64 free]] W fun e w' => e = .returned (takeV base many free) ∧ Below W.heap.size W w' := by
  have B0 := bel_alloc (bel_alloc (Below.refl W.heap.size W) (.cells #[.int .u64 base, .int .i64 many, .int .u64 free] 38)) (.cells #[.int .u64 0, .int .i64 0, .int .u64 0] 38)
  have X0 : Bx ((W.alloc (.cells #[.int .u64 base, .int .i64 many, .int .u64 free] 38)).alloc (.cells #[.int .u64 0, .int .i64 0, .int .u64 0] 38)) W.heap.size #[.int .u64 base, .int .i64 many, .int .u64 free] := Bx.alloc Bx.new
  have X1 : Bx ((W.alloc (.cells #[.int .u64 base, .int .i64 many, .int .u64 free] 38)).alloc (.cells #[.int .u64 0, .int .i64 0, .int .u64 0] 38)) (W.heap.size + 1) #[.int .u64 0, .int .i64 0, .int .u64 0] := MemNewC.bx_new1
  by_cases hf : free = 0
  · subst hf
    have H := Lib.hid (show takeV base many 0 = .tuple #[.agg #[.int .u64 base, .int .i64 many, .int .u64 0], .int .u64 0, .int .i64 8] from rfl)
    go_enter Tryz.func66, Tryz.ntmps66
    go_wp2
    exact bodyPost_ret (v := .tuple #[.agg #[.int .u64 base, .int .i64 many, .int .u64 0], .int .u64 0, .int .i64 8]) (by simp [results, Tryz.results66, go_sem]) rfl ⟨by rw [H.out], bel_alloc (bel_alloc (Below.refl _ _) _) _⟩
  · have H := Lib.hid (show takeV base many free = .tuple #[.agg #[.int .u64 base, .int .i64 many, .int .u64 (setI free (tzI free) 1 0)], .int .u64 (base + tzI free), .int .i64 0] by unfold takeV; rw [if_neg hf])
    obtain ⟨t0, t1⟩ := tz_lt hr hf
    have hfb : (free == 0) = false := by simpa using hf
    go_enter Tryz.func66, Tryz.ntmps66
    go_wp2_with fail
    refine (tz_calls free _ hr (fun _ => ?_)).mono ?_
    · intro j hj
      exact (B0.cell (p := ⟨1, j, none⟩) (block_lt_of_cell (hT j hj))).trans (hT j hj)
    rintro e w1 ⟨rfl, q1⟩
    have B1 := Q.bel B0 q1
    have Y0 := X0.below q1.below
    have Y1 := X1.below q1.below
    have hl := Y1.lt
    clear X0 X1 q1 B0
    have y0 : w1.cell? ⟨W.heap.size, 0, none⟩ = some (.int .u64 base) := Y0.cell 0
    have y1 : w1.cell? ⟨W.heap.size, 1, none⟩ = some (.int .i64 many) := Y0.cell 1
    have y2 : w1.cell? ⟨W.heap.size, 2, none⟩ = some (.int .u64 free) := Y0.cell 2
    generalize hz : tzI free = z at *
    go_wp2_with fail
    refine (set_calls free z 1 0 _ hr ⟨by omega, by omega⟩ (by omega) (by omega) (by omega) (by omega)).mono ?_
    rintro e w2 ⟨rfl, q2⟩
    have B2 := Q.bel B1 q2
    have Z0 := Y0.below q2.below
    have Z1 := Y1.below q2.below
    clear Y0 Y1 q2 y0 y1 y2
    have f0 := Z0.free
    have q0 : w2.cell? ⟨W.heap.size, 0, none⟩ = some (.int .u64 base) := Z0.cell 0
    have q1 : w2.cell? ⟨W.heap.size, 1, none⟩ = some (.int .i64 many) := Z0.cell 1
    have q2 : w2.cell? ⟨W.heap.size, 2, none⟩ = some (.int .u64 free) := Z0.cell 2
    go_wp2_with fail
    have V0 : Bx (w2.setCell ⟨W.heap.size, 2, none⟩ (.int .u64 (setI free z 1 0))) W.heap.size #[.int .u64 base, .int .i64 many, .int .u64 (setI free z 1 0)] := Z0.set_same
    have V1 := Z1.set_far (d := W.heap.size) (i := 2) (v := .int .u64 (setI free z 1 0)) (by omega)
    have B3 := bel_setCell W.heap.size 2 (.int .u64 (setI free z 1 0)) (Nat.le_refl _) B2
    have d1 : IntKind.u64.wrap z = z := by rw [wrap_u64]; omega
    have d2 : IntKind.u64.wrap (base + z) = base + z := by rw [wrap_u64]; omega
    generalize w2.setCell ⟨W.heap.size, 2, none⟩ (.int .u64 (setI free z 1 0)) = w4 at *
    clear q0 q1 q2 f0 Z0 Z1 B2
    refine RegR.region_from (Θ := Unit) [0, 0, 0, 0, 0, 0, 2, 0, 0] [0, 1, 2, 3, 4, 5, 6, 7, 8]
      (CP W #[.int .u64 base, .int .i64 many, .int .u64 (setI free z 1 0)]) (fun _ _ => .bool true) (fun _ _ _ => True) (by kernel_rfl) (by kernel_rfl) (fun w w' h b => h.below b) (fun _ _ _ _ _ _ => trivial) ⟨V0.drew, bel_drewN B3 1⟩
      (MemC3.Shp (W.heap.size + 1) 3) (fun w w' h b => h.below b) ⟨_, rfl, V1.drew⟩ ?_
    repeat (with_reducible refine RegR.can0 _ rfl rfl (fun K hK => ?_)
            go_simp
            first
              | (refine hK _ ?_; clear hK K)
              | (refine ⟨_, fun _ _ _ => rfl, hK _ ?_⟩; clear hK K)
              | (apply Exists.intro
                 refine ⟨fun w hc _ => ?_, hK _ ?_⟩
                 · have y0 := hc.box.cell 0
                   have y1 := hc.box.cell 1
                   have y2 := hc.box.cell 2
                   simp at y0 y1 y2
                   first
                     | (go_simp; done)
                     | (go_simp; rfl)
                 clear hK K))
    refine RegR.can2_store _ rfl rfl rfl 38 _ _ rfl (W.heap.size + 1) #[.int .u64 base, .int .i64 many, .int .u64 (setI free z 1 0)] rfl rfl (by kernel_rfl) (by simp [Value.oneCell']) rfl (fun w w' h b => h.below b) (fun w h => h.ex) (fun w h => ?_) (fun w h => ?_) ?_
    · obtain ⟨c, e1, e2⟩ := h.ex
      exact ⟨_, rfl, e2.row_same⟩
    · exact ⟨h.box.row_far (by omega), below_row h.bel (by omega) _⟩
    repeat (with_reducible refine RegR.can0 _ rfl rfl (fun K hK => ?_)
            go_simp
            first
              | (refine hK _ ?_; clear hK K)
              | (refine ⟨_, fun _ _ _ => rfl, hK _ ?_⟩; clear hK K)
              | (refine ⟨_, fun _ _ _ _ => rfl, hK _ ?_⟩; clear hK K))
    intro w5 C5 D5
    have B5 := C5.bel
    have U1 := D5.2
    have g0 := U1.free
    have z0 : w5.cell? ⟨W.heap.size + 1, 0, none⟩ = some (.int .u64 base) := U1.cell 0
    have z1 : w5.cell? ⟨W.heap.size + 1, 1, none⟩ = some (.int .i64 many) := U1.cell 1
    have z2 : w5.cell? ⟨W.heap.size + 1, 2, none⟩ = some (.int .u64 (setI free z 1 0)) := U1.cell 2
    clear C5 D5 U1
    go_wp2
    exact bodyPost_ret (v := .tuple #[.agg #[.int .u64 base, .int .i64 many, .int .u64 (setI free z 1 0)], .int .u64 (base + z), .int .i64 0]) (by simp [results, Tryz.results66, go_sem, z0, z1, z2]) rfl ⟨by rw [H.out], B5⟩
end Go.Proofs.YtkffmaeiplgjeaaGreatDoor.PoolC4
/- The contract of table.Back. -/
namespace Go.Proofs.YtkffmaeiplgjeaaGreatDoor.TableC2
open Go.RowKit Go.Proofs.YtkffmaeiplgjeaaGreatDoor.Bv Go.Proofs.YtkffmaeiplgjeaaGreatDoor.Base Go.Proofs.YtkffmaeiplgjeaaGreatDoor.MemL Go.Proofs.YtkffmaeiplgjeaaGreatDoor.MemC Go.Proofs.YtkffmaeiplgjeaaGreatDoor.PutC Go.Proofs.YtkffmaeiplgjeaaGreatDoor.MemC3 Go.Proofs.YtkffmaeiplgjeaaGreatDoor.ClearC Go.Proofs.YtkffmaeiplgjeaaGreatDoor.TableC
open Go.Proofs.YtkffmaeiplgjeaaGreatDoor.BitsC Go.Proofs.YtkffmaeiplgjeaaGreatDoor.PoolC Go.Proofs.YtkffmaeiplgjeaaGreatDoor.PoolC3
set_option linter.unusedVariables false
set_option linter.unusedSimpArgs false
/-- the free frames, one given back -/
def giveF (base many free f : Int) : Int := if isP base many free f then setI free (f - base) 1 1 else free
theorem giveV_is (base many free f : Int) : ∃ k, giveV base many free f = .tuple #[.agg #[.int .u64 base, .int .i64 many, .int .u64 (giveF base many free f)], .int .i64 k] := by
  unfold giveV giveF
  split
  · exact ⟨_, rfl⟩
  · exact ⟨_, rfl⟩
/-- what stands while the region goes on -/
structure CB (W : World) (m : Nat) (c d : Array Value) (pb : Nat) (w' : World) : Prop where
  box : Bx w' W.heap.size c
  pool : Bx w' pb d
  size : m ≤ w'.heap.size
  bel : Below W.heap.size W w'
theorem CB.below {W : World} {m : Nat} {c d : Array Value} {pb : Nat} {w w' : World} (h : CB W m c d pb w) (b : Below w.heap.size w w') : CB W m c d pb w' := ⟨h.box.below b, h.pool.below b, Nat.le_trans h.size b.size, bel_trans h.bel b⟩
theorem CB.row {W : World} {m : Nat} {c d : Array Value} {pb : Nat} {w : World} {b : Nat} (h : CB W m c d pb w) (hb : W.heap.size < b) (hp : b ≠ pb) (x : Array Value) : CB W m c d pb (w.setRow b x) :=
  ⟨h.box.row_far (by omega), h.pool.row_far hp, by have := h.size; unfold World.setRow; simpa using this, below_row h.bel (by omega) x⟩
set_option maxHeartbeats 4000000 in
theorem back_calls (sz : Int) (v : Value) (xs : List (Int × Int)) (base many free f : Int) (W : World) (hb : U base) (hm : 0 ≤ many ∧ many ≤ 64) (hr : U free) (hf : 0 ≤ f ∧ f < 1099511627776) (hs : Srt xs) (hbig : (xs.length + 1) * 32 ≤ 140737488355328) (hv : Sl W v xs.length 2 (fl xs)) :
    Calls Tryz.prog 90 #[.agg #[.int .u64 sz, v], .agg #[.int .u64 base, .int .i64 many, .int .u64 free], .int .u64 f] W fun e w' => ∃ v', e = .returned (.tuple #[.agg #[.int .u64 sz, v'], .agg #[.int .u64 base, .int .i64 many, .int .u64 (giveF base many free f)]]) ∧ w'.ownsRow W.heap.size 116 2 v' (wipeM xs f).length (fl (wipeM xs f)) ∧ Below W.heap.size W w' := by
  have B0 := bel_alloc (bel_alloc (bel_alloc (bel_alloc (Below.refl W.heap.size W) (.cells #[.int .u64 sz, v] 29)) (.cells #[.int .u64 base, .int .i64 many, .int .u64 free] 38)) (.cells #[.int .u64 0, .slice none 0 0] 29)) (.cells #[.int .u64 0, .int .i64 0, .int .u64 0] 38)
  have hfu : U f := ⟨by omega, by omega⟩
  go_enter Tryz.func90, Tryz.ntmps90
  go_wp2_with fail
  have X0 : Bx ((((W.alloc (.cells #[.int .u64 sz, v] 29)).alloc (.cells #[.int .u64 base, .int .i64 many, .int .u64 free] 38)).alloc (.cells #[.int .u64 0, .slice none 0 0] 29)).alloc (.cells #[.int .u64 0, .int .i64 0, .int .u64 0] 38)) W.heap.size #[.int .u64 sz, v] := Bx.alloc (Bx.alloc (Bx.alloc Bx.new))
  have s1 : (W.alloc (.cells #[.int .u64 sz, v] 29)).heap.size = W.heap.size + 1 := by rw [World.size_alloc]
  have s2 : ((W.alloc (.cells #[.int .u64 sz, v] 29)).alloc (.cells #[.int .u64 base, .int .i64 many, .int .u64 free] 38)).heap.size = W.heap.size + 2 := by rw [World.size_alloc, s1]
  have X2 : Bx ((((W.alloc (.cells #[.int .u64 sz, v] 29)).alloc (.cells #[.int .u64 base, .int .i64 many, .int .u64 free] 38)).alloc (.cells #[.int .u64 0, .slice none 0 0] 29)).alloc (.cells #[.int .u64 0, .int .i64 0, .int .u64 0] 38)) (W.heap.size + 2) #[.int .u64 0, .slice none 0 0] := by rw [← s2]; exact Bx.alloc Bx.new
  have X3 : Bx ((((W.alloc (.cells #[.int .u64 sz, v] 29)).alloc (.cells #[.int .u64 base, .int .i64 many, .int .u64 free] 38)).alloc (.cells #[.int .u64 0, .slice none 0 0] 29)).alloc (.cells #[.int .u64 0, .int .i64 0, .int .u64 0] 38)) (W.heap.size + 3) #[.int .u64 0, .int .i64 0, .int .u64 0] := by
    have := bx_new1 (w := (W.alloc (.cells #[.int .u64 sz, v] 29)).alloc (.cells #[.int .u64 base, .int .i64 many, .int .u64 free] 38)) (o := .cells #[.int .u64 0, .slice none 0 0] 29) (c := #[.int .u64 0, .int .i64 0, .int .u64 0]) (T := 38)
    rwa [s2] at this
  refine (give_calls base many free f _ hb hm hr hfu).mono ?_
  rintro e w1 ⟨rfl, b1⟩
  have B1 := bel_trans B0 b1
  have Y0 := X0.below b1
  have Y2 := X2.below b1
  have Y3 := X3.below b1
  have hl := Y3.lt
  clear X0 X2 X3 b1 B0 s1 s2
  obtain ⟨k, hk⟩ := giveV_is base many free f
  rw [hk]
  clear hk
  generalize hG : giveF base many free f = G at *
  have HG := Lib.hid hG
  clear hG
  go_wp2_with fail
  have e2 : W.heap.size + 1 + 1 = W.heap.size + 2 := rfl
  have V0 := Y0.alloc (o := .cells #[.int .u64 base, .int .i64 many, .int .u64 G] 38)
  have V2 := Y2.alloc (o := .cells #[.int .u64 base, .int .i64 many, .int .u64 G] 38)
  have V3 := Y3.alloc (o := .cells #[.int .u64 base, .int .i64 many, .int .u64 G] 38)
  have V4 : Bx (w1.alloc (.cells #[.int .u64 base, .int .i64 many, .int .u64 G] 38)) w1.heap.size #[.int .u64 base, .int .i64 many, .int .u64 G] := Bx.new
  have B2 := bel_alloc B1 (.cells #[.int .u64 base, .int .i64 many, .int .u64 G] 38)
  have z2 : w1.heap.size ≤ (w1.alloc (.cells #[.int .u64 base, .int .i64 many, .int .u64 G] 38)).heap.size := by rw [World.size_alloc]; omega
  generalize w1.alloc (.cells #[.int .u64 base, .int .i64 many, .int .u64 G] 38) = w2 at *
  clear Y0 Y2 Y3 e2
  refine RegR.region_from (Θ := Option Addr × Nat) [0, 0, 1, 0, 2, 2] [0, 1, 3, 2, 4, 5]
    (CB W w1.heap.size #[.int .u64 sz, v] #[.int .u64 base, .int .i64 many, .int .u64 G] w1.heap.size)
    (fun _ t => .agg #[.int .u64 sz, .slice t.1 (wipeM xs f).length t.2])
    (fun _ t w' => w'.ownsRow w1.heap.size 116 2 (.slice t.1 (wipeM xs f).length t.2) (wipeM xs f).length (fl (wipeM xs f)))
    (by kernel_rfl) (by kernel_rfl) (fun w w' h b => h.below b) (fun _ t w w' h b => owns_below h b)
    ⟨V0.drew, V4.drew, z2, bel_drewN B2 1⟩ (fun w => Shp (W.heap.size + 2) 2 w ∧ Shp (W.heap.size + 3) 3 w) (fun w w' h b => ⟨h.1.below b, h.2.below b⟩) ⟨⟨_, rfl, V2.drew⟩, ⟨_, rfl, V3.drew⟩⟩ ?_
  repeat (with_reducible refine RegR.can0 _ rfl rfl (fun K hK => ?_)
          go_simp
          first
            | (refine hK _ ?_; clear hK K)
            | (refine ⟨_, fun _ _ _ _ => rfl, hK _ ?_⟩; clear hK K)
            | (apply Exists.intro
               refine ⟨fun w hc _ _ => ?_, hK _ ?_⟩
               · have y0 := hc.box.cell 0
                 have y1 := hc.box.cell 1
                 have p0 := hc.pool.cell 0
                 have p1 := hc.pool.cell 1
                 have p2 := hc.pool.cell 2
                 simp at y0 y1 p0 p1 p2
                 first
                   | (go_simp; done)
                   | (go_simp; rfl)
               clear hK K))
  refine RegR.can1_call _ rfl rfl rfl 67 #[.agg #[.int .u64 sz, v], .int .u64 f] (fun w => by kernel_rfl) (fun w hc => ?_) (fun t => ?_)
  · refine (wipe_calls sz v xs f w hf hs hbig (hv.below hc.bel)).mono ?_
    rintro e w' ⟨v', rfl, hown, hb'⟩
    obtain ⟨p, q, rfl⟩ := owns_slice hown
    exact ⟨(p, q), rfl, hb', owns_le hc.size hown⟩
  refine RegR.can2_store _ rfl rfl rfl 29 _ _ rfl (W.heap.size + 2) #[.int .u64 sz, .slice t.1 (wipeM xs f).length t.2] rfl rfl (by kernel_rfl) (by simp [Value.oneCell']) rfl (fun w w' h b => ⟨⟨h.1.1.below b, h.1.2.below b⟩, owns_below h.2 b⟩) (fun w h => h.1.1.ex) (fun w h => ?_) (fun w h => h.row (by omega) (by omega) _) ?_
  · obtain ⟨c, e1, e2⟩ := h.1.1.ex
    obtain ⟨c', e3, e4⟩ := h.1.2.ex
    exact ⟨⟨⟨_, rfl, e2.row_same⟩, ⟨_, e3, e4.row_far (by omega)⟩⟩, owns_row h.2 (by omega) _⟩
  refine RegR.can2_store _ rfl rfl rfl 38 _ _ rfl (W.heap.size + 3) #[.int .u64 base, .int .i64 many, .int .u64 G] rfl rfl (by kernel_rfl) (by simp [Value.oneCell']) rfl (fun w w' h b => ⟨⟨⟨h.1.1.1.below b, h.1.1.2.below b⟩, owns_below h.1.2 b⟩, h.2.below b⟩) (fun w h => h.1.1.2.ex) (fun w h => ?_) (fun w h => h.row (by omega) (by omega) _) ?_
  · obtain ⟨c, e1, e2⟩ := h.1.1.1.ex
    obtain ⟨c', e3, e4⟩ := h.1.1.2.ex
    exact ⟨⟨⟨⟨_, e1, e2.row_far (by omega)⟩, ⟨_, rfl, e4.row_same⟩⟩, owns_row h.1.2 (by omega) _⟩, h.2.row_far (by omega)⟩
  intro w5 C5 D5
  have B5 := C5.bel
  have U2 := D5.1.2
  have U3 := D5.2
  have O5 := owns_le (base' := W.heap.size) (by omega) D5.1.1.2
  have q0 : w5.cell? ⟨W.heap.size + 1 + 1, 0, none⟩ = some (.int .u64 sz) := U2.cell 0
  have q1 : w5.cell? ⟨W.heap.size + 1 + 1, 1, none⟩ = some (.slice t.1 (wipeM xs f).length t.2) := U2.cell 1
  have p0 : w5.cell? ⟨W.heap.size + 1 + 1 + 1, 0, none⟩ = some (.int .u64 base) := U3.cell 0
  have p1 : w5.cell? ⟨W.heap.size + 1 + 1 + 1, 1, none⟩ = some (.int .i64 many) := U3.cell 1
  have p2 : w5.cell? ⟨W.heap.size + 1 + 1 + 1, 2, none⟩ = some (.int .u64 G) := U3.cell 2
  clear C5 D5 U2 U3
  go_wp2
  exact bodyPost_ret (v := .tuple #[.agg #[.int .u64 sz, .slice t.1 (wipeM xs f).length t.2], .agg #[.int .u64 base, .int .i64 many, .int .u64 G]]) (by simp [results, Tryz.results90, go_sem, q0, q1, p0, p1, p2]) rfl ⟨_, by rw [HG.out], O5, B5⟩
end Go.Proofs.YtkffmaeiplgjeaaGreatDoor.TableC2
/- The contract of table.Fresh. -/
namespace Go.Proofs.YtkffmaeiplgjeaaGreatDoor.TableC3
open Go.RowKit Go.Proofs.YtkffmaeiplgjeaaGreatDoor.Bv Go.Proofs.YtkffmaeiplgjeaaGreatDoor.Base Go.Proofs.YtkffmaeiplgjeaaGreatDoor.MemL Go.Proofs.YtkffmaeiplgjeaaGreatDoor.MemC Go.Proofs.YtkffmaeiplgjeaaGreatDoor.PutC Go.Proofs.YtkffmaeiplgjeaaGreatDoor.MemC3 Go.Proofs.YtkffmaeiplgjeaaGreatDoor.ClearC Go.Proofs.YtkffmaeiplgjeaaGreatDoor.TableC Go.Proofs.YtkffmaeiplgjeaaGreatDoor.TableC2 Go.Proofs.YtkffmaeiplgjeaaGreatDoor.TzC Go.Proofs.YtkffmaeiplgjeaaGreatDoor.PoolC4
open Go.Proofs.YtkffmaeiplgjeaaGreatDoor.BitsC Go.Proofs.YtkffmaeiplgjeaaGreatDoor.PoolC Go.Proofs.YtkffmaeiplgjeaaGreatDoor.PoolC3
set_option linter.unusedVariables false
set_option linter.unusedSimpArgs false
set_option maxHeartbeats 4000000 in
theorem fresh_calls (sz : Int) (v : Value) (xs : List (Int × Int)) (base many free : Int) (W : World) (hb : 0 ≤ base ∧ base ≤ 268435456) (hm : 0 ≤ many ∧ many ≤ 64) (hr : U free) (hfr : free ≠ 0) (hT : TabT W) (hs : Srt xs) (hbig : (xs.length + 1) * 32 ≤ 140737488355328) (hv : Sl W v xs.length 2 (fl xs)) :
    Calls Tryz.prog 30 #[.agg #[.int .u64 sz, v], .agg #[.int .u64 base, .int .i64 many, .int .u64 free]] W fun e w' => ∃ v', e = .returned (.tuple #[.agg #[.int .u64 sz, v'], .agg #[.int .u64 base, .int .i64 many, .int .u64 (setI free (tzI free) 1 0)], .int .u64 (base + tzI free), .int .i64 0]) ∧ w'.ownsRow W.heap.size 116 2 v' (wipeM xs (base + tzI free)).length (fl (wipeM xs (base + tzI free))) ∧ Below W.heap.size W w' := by
  have B0 := bel_alloc (bel_alloc (bel_alloc (bel_alloc (Below.refl W.heap.size W) (.cells #[.int .u64 sz, v] 29)) (.cells #[.int .u64 base, .int .i64 many, .int .u64 free] 38)) (.cells #[.int .u64 0, .slice none 0 0] 29)) (.cells #[.int .u64 0, .int .i64 0, .int .u64 0] 38)
  obtain ⟨t0, t1⟩ := tz_lt hr hfr
  go_enter Tryz.func30, Tryz.ntmps30
  go_wp2_with fail
  have X0 : Bx ((((W.alloc (.cells #[.int .u64 sz, v] 29)).alloc (.cells #[.int .u64 base, .int .i64 many, .int .u64 free] 38)).alloc (.cells #[.int .u64 0, .slice none 0 0] 29)).alloc (.cells #[.int .u64 0, .int .i64 0, .int .u64 0] 38)) W.heap.size #[.int .u64 sz, v] := Bx.alloc (Bx.alloc (Bx.alloc Bx.new))
  have s1 : (W.alloc (.cells #[.int .u64 sz, v] 29)).heap.size = W.heap.size + 1 := by rw [World.size_alloc]
  have s2 : ((W.alloc (.cells #[.int .u64 sz, v] 29)).alloc (.cells #[.int .u64 base, .int .i64 many, .int .u64 free] 38)).heap.size = W.heap.size + 2 := by rw [World.size_alloc, s1]
  have X2 : Bx ((((W.alloc (.cells #[.int .u64 sz, v] 29)).alloc (.cells #[.int .u64 base, .int .i64 many, .int .u64 free] 38)).alloc (.cells #[.int .u64 0, .slice none 0 0] 29)).alloc (.cells #[.int .u64 0, .int .i64 0, .int .u64 0] 38)) (W.heap.size + 2) #[.int .u64 0, .slice none 0 0] := by rw [← s2]; exact Bx.alloc Bx.new
  have X3 : Bx ((((W.alloc (.cells #[.int .u64 sz, v] 29)).alloc (.cells #[.int .u64 base, .int .i64 many, .int .u64 free] 38)).alloc (.cells #[.int .u64 0, .slice none 0 0] 29)).alloc (.cells #[.int .u64 0, .int .i64 0, .int .u64 0] 38)) (W.heap.size + 3) #[.int .u64 0, .int .i64 0, .int .u64 0] := by
    have := bx_new1 (w := (W.alloc (.cells #[.int .u64 sz, v] 29)).alloc (.cells #[.int .u64 base, .int .i64 many, .int .u64 free] 38)) (o := .cells #[.int .u64 0, .slice none 0 0] 29) (c := #[.int .u64 0, .int .i64 0, .int .u64 0]) (T := 38)
    rwa [s2] at this
  refine (take_calls base many free _ hb hm hr (fun j hj => (B0.cell (p := ⟨1, j, none⟩) (block_lt_of_cell (hT j hj))).trans (hT j hj))).mono ?_
  rintro e w1 ⟨rfl, b1⟩
  have B1 := bel_trans B0 b1
  have Y0 := X0.below b1
  have Y2 := X2.below b1
  have Y3 := X3.below b1
  have hl := Y3.lt
  clear X0 X2 X3 b1 B0 s1 s2
  rw [show takeV base many free = .tuple #[.agg #[.int .u64 base, .int .i64 many, .int .u64 (setI free (tzI free) 1 0)], .int .u64 (base + tzI free), .int .i64 0] by unfold takeV; rw [if_neg hfr]]
  generalize hG : setI free (tzI free) 1 0 = G at *
  generalize hF : base + tzI free = f at *
  have HG := Lib.hid hG
  have HF := Lib.hid hF
  have hf : 0 ≤ f ∧ f < 1099511627776 := by omega
  clear hG hF t0 t1
  go_wp2_with fail
  have e2 : W.heap.size + 1 + 1 = W.heap.size + 2 := rfl
  have V0 := Y0.alloc (o := .cells #[.int .u64 base, .int .i64 many, .int .u64 G] 38)
  have V2 := Y2.alloc (o := .cells #[.int .u64 base, .int .i64 many, .int .u64 G] 38)
  have V3 := Y3.alloc (o := .cells #[.int .u64 base, .int .i64 many, .int .u64 G] 38)
  have V4 : Bx (w1.alloc (.cells #[.int .u64 base, .int .i64 many, .int .u64 G] 38)) w1.heap.size #[.int .u64 base, .int .i64 many, .int .u64 G] := Bx.new
  have B2 := bel_alloc B1 (.cells #[.int .u64 base, .int .i64 many, .int .u64 G] 38)
  have z2 : w1.heap.size ≤ (w1.alloc (.cells #[.int .u64 base, .int .i64 many, .int .u64 G] 38)).heap.size := by rw [World.size_alloc]; omega
  generalize w1.alloc (.cells #[.int .u64 base, .int .i64 many, .int .u64 G] 38) = w2 at *
  clear Y0 Y2 Y3 e2
  refine RegR.region_from (Θ := Option Addr × Nat) [0, 0, 1, 0, 0, 2, 2, 0, 0] [0, 1, 3, 4, 2, 5, 6, 7, 8]
    (CB W w1.heap.size #[.int .u64 sz, v] #[.int .u64 base, .int .i64 many, .int .u64 G] w1.heap.size)
    (fun _ t => .agg #[.int .u64 sz, .slice t.1 (wipeM xs f).length t.2])
    (fun _ t w' => w'.ownsRow w1.heap.size 116 2 (.slice t.1 (wipeM xs f).length t.2) (wipeM xs f).length (fl (wipeM xs f)))
    (by kernel_rfl) (by kernel_rfl) (fun w w' h b => h.below b) (fun _ t w w' h b => owns_below h b)
    ⟨V0.drew, V4.drew, z2, bel_drewN B2 1⟩ (fun w => Shp (W.heap.size + 2) 2 w ∧ Shp (W.heap.size + 3) 3 w) (fun w w' h b => ⟨h.1.below b, h.2.below b⟩) ⟨⟨_, rfl, V2.drew⟩, ⟨_, rfl, V3.drew⟩⟩ ?_
  repeat (with_reducible refine RegR.can0 _ rfl rfl (fun K hK => ?_)
          go_simp
          first
            | (refine hK _ ?_; clear hK K)
            | (refine ⟨_, fun _ _ _ _ => rfl, hK _ ?_⟩; clear hK K)
            | (apply Exists.intro
               refine ⟨fun w hc _ _ => ?_, hK _ ?_⟩
               · have y0 := hc.box.cell 0
                 have y1 := hc.box.cell 1
                 have p0 := hc.pool.cell 0
                 have p1 := hc.pool.cell 1
                 have p2 := hc.pool.cell 2
                 simp at y0 y1 p0 p1 p2
                 first
                   | (go_simp; done)
                   | (go_simp; rfl)
               clear hK K))
  refine RegR.can1_call _ rfl rfl rfl 67 #[.agg #[.int .u64 sz, v], .int .u64 f] (fun w => by kernel_rfl) (fun w hc => ?_) (fun t => ?_)
  · refine (wipe_calls sz v xs f w hf hs hbig (hv.below hc.bel)).mono ?_
    rintro e w' ⟨v', rfl, hown, hb'⟩
    obtain ⟨p, q, rfl⟩ := owns_slice hown
    exact ⟨(p, q), rfl, hb', owns_le hc.size hown⟩
  refine RegR.can2_store _ rfl rfl rfl 29 _ _ rfl (W.heap.size + 2) #[.int .u64 sz, .slice t.1 (wipeM xs f).length t.2] rfl rfl (by kernel_rfl) (by simp [Value.oneCell']) rfl (fun w w' h b => ⟨⟨h.1.1.below b, h.1.2.below b⟩, owns_below h.2 b⟩) (fun w h => h.1.1.ex) (fun w h => ?_) (fun w h => h.row (by omega) (by omega) _) ?_
  · obtain ⟨c, e1, e2⟩ := h.1.1.ex
    obtain ⟨c', e3, e4⟩ := h.1.2.ex
    exact ⟨⟨⟨_, rfl, e2.row_same⟩, ⟨_, e3, e4.row_far (by omega)⟩⟩, owns_row h.2 (by omega) _⟩
  refine RegR.can2_store _ rfl rfl rfl 38 _ _ rfl (W.heap.size + 3) #[.int .u64 base, .int .i64 many, .int .u64 G] rfl rfl (by kernel_rfl) (by simp [Value.oneCell']) rfl (fun w w' h b => ⟨⟨⟨h.1.1.1.below b, h.1.1.2.below b⟩, owns_below h.1.2 b⟩, h.2.below b⟩) (fun w h => h.1.1.2.ex) (fun w h => ?_) (fun w h => h.row (by omega) (by omega) _) ?_
  · obtain ⟨c, e1, e2⟩ := h.1.1.1.ex
    obtain ⟨c', e3, e4⟩ := h.1.1.2.ex
    exact ⟨⟨⟨⟨_, e1, e2.row_far (by omega)⟩, ⟨_, rfl, e4.row_same⟩⟩, owns_row h.1.2 (by omega) _⟩, h.2.row_far (by omega)⟩
  repeat (with_reducible refine RegR.can0 _ rfl rfl (fun K hK => ?_)
          go_simp
          first
            | (refine hK _ ?_; clear hK K)
            | (refine ⟨_, fun _ _ => rfl, hK _ ?_⟩; clear hK K)
            | (refine ⟨_, fun _ _ _ => rfl, hK _ ?_⟩; clear hK K)
            | (refine ⟨_, fun _ _ _ _ => rfl, hK _ ?_⟩; clear hK K)
            | (refine ⟨_, fun _ _ _ _ _ => rfl, hK _ ?_⟩; clear hK K)
            | (refine ⟨_, fun _ _ _ _ _ _ => rfl, hK _ ?_⟩; clear hK K)
            | (refine ⟨_, fun _ _ _ _ _ _ _ => rfl, hK _ ?_⟩; clear hK K))
  intro w5 C5 D5
  have B5 := C5.bel
  have U2 := D5.1.2
  have U3 := D5.2
  have O5 := owns_le (base' := W.heap.size) (by omega) D5.1.1.2
  have q0 : w5.cell? ⟨W.heap.size + 1 + 1, 0, none⟩ = some (.int .u64 sz) := U2.cell 0
  have q1 : w5.cell? ⟨W.heap.size + 1 + 1, 1, none⟩ = some (.slice t.1 (wipeM xs f).length t.2) := U2.cell 1
  have p0 : w5.cell? ⟨W.heap.size + 1 + 1 + 1, 0, none⟩ = some (.int .u64 base) := U3.cell 0
  have p1 : w5.cell? ⟨W.heap.size + 1 + 1 + 1, 1, none⟩ = some (.int .i64 many) := U3.cell 1
  have p2 : w5.cell? ⟨W.heap.size + 1 + 1 + 1, 2, none⟩ = some (.int .u64 G) := U3.cell 2
  clear C5 D5 U2 U3
  go_wp2
  exact bodyPost_ret (v := .tuple #[.agg #[.int .u64 sz, .slice t.1 (wipeM xs f).length t.2], .agg #[.int .u64 base, .int .i64 many, .int .u64 G], .int .u64 f, .int .i64 0]) (by simp [results, Tryz.results30, go_sem, q0, q1, p0, p1, p2]) rfl ⟨_, by rw [HG.out, HF.out], by rw [HF.out]; exact O5, B5⟩
end Go.Proofs.YtkffmaeiplgjeaaGreatDoor.TableC3
/- The contract of table.Fresh where no frame is free. -/
namespace Go.Proofs.YtkffmaeiplgjeaaGreatDoor.TableC4
open Go.RowKit Go.Proofs.YtkffmaeiplgjeaaGreatDoor.Bv Go.Proofs.YtkffmaeiplgjeaaGreatDoor.Base Go.Proofs.YtkffmaeiplgjeaaGreatDoor.MemL Go.Proofs.YtkffmaeiplgjeaaGreatDoor.MemC Go.Proofs.YtkffmaeiplgjeaaGreatDoor.PutC Go.Proofs.YtkffmaeiplgjeaaGreatDoor.MemC3 Go.Proofs.YtkffmaeiplgjeaaGreatDoor.ClearC Go.Proofs.YtkffmaeiplgjeaaGreatDoor.TableC Go.Proofs.YtkffmaeiplgjeaaGreatDoor.TableC2 Go.Proofs.YtkffmaeiplgjeaaGreatDoor.TzC Go.Proofs.YtkffmaeiplgjeaaGreatDoor.PoolC4
open Go.Proofs.YtkffmaeiplgjeaaGreatDoor.BitsC Go.Proofs.YtkffmaeiplgjeaaGreatDoor.PoolC Go.Proofs.YtkffmaeiplgjeaaGreatDoor.PoolC3
set_option linter.unusedVariables false
set_option linter.unusedSimpArgs false
set_option maxHeartbeats 4000000 in
theorem fresh_none (sz : Int) (a : Option Addr) (n c : Nat) (base many : Int) (W : World) (hb : 0 ≤ base ∧ base ≤ 268435456) (hm : 0 ≤ many ∧ many ≤ 64) (hT : TabT W) :
    Calls Tryz.prog 30 #[.agg #[.int .u64 sz, .slice a n c], .agg #[.int .u64 base, .int .i64 many, .int .u64 0]] W fun e w' => e = .returned (.tuple #[.agg #[.int .u64 sz, .slice a n c], .agg #[.int .u64 base, .int .i64 many, .int .u64 0], .int .u64 0, .int .i64 8]) ∧ Below W.heap.size W w' := by
  obtain ⟨v, hv⟩ : ∃ v, v = Value.slice a n c := ⟨_, rfl⟩
  have B0 := bel_alloc (bel_alloc (bel_alloc (bel_alloc (Below.refl W.heap.size W) (.cells #[.int .u64 sz, .slice a n c] 29)) (.cells #[.int .u64 base, .int .i64 many, .int .u64 0] 38)) (.cells #[.int .u64 0, .slice none 0 0] 29)) (.cells #[.int .u64 0, .int .i64 0, .int .u64 0] 38)
  go_enter Tryz.func30, Tryz.ntmps30
  go_wp2_with fail
  have X0 : Bx ((((W.alloc (.cells #[.int .u64 sz, .slice a n c] 29)).alloc (.cells #[.int .u64 base, .int .i64 many, .int .u64 0] 38)).alloc (.cells #[.int .u64 0, .slice none 0 0] 29)).alloc (.cells #[.int .u64 0, .int .i64 0, .int .u64 0] 38)) W.heap.size #[.int .u64 sz, .slice a n c] := Bx.alloc (Bx.alloc (Bx.alloc Bx.new))
  have s1 : (W.alloc (.cells #[.int .u64 sz, .slice a n c] 29)).heap.size = W.heap.size + 1 := by rw [World.size_alloc]
  have s2 : ((W.alloc (.cells #[.int .u64 sz, .slice a n c] 29)).alloc (.cells #[.int .u64 base, .int .i64 many, .int .u64 0] 38)).heap.size = W.heap.size + 2 := by rw [World.size_alloc, s1]
  have X1 : Bx ((((W.alloc (.cells #[.int .u64 sz, .slice a n c] 29)).alloc (.cells #[.int .u64 base, .int .i64 many, .int .u64 0] 38)).alloc (.cells #[.int .u64 0, .slice none 0 0] 29)).alloc (.cells #[.int .u64 0, .int .i64 0, .int .u64 0] 38)) (W.heap.size + 1) #[.int .u64 base, .int .i64 many, .int .u64 0] := Bx.alloc (Bx.alloc bx_new1)
  have X2 : Bx ((((W.alloc (.cells #[.int .u64 sz, .slice a n c] 29)).alloc (.cells #[.int .u64 base, .int .i64 many, .int .u64 0] 38)).alloc (.cells #[.int .u64 0, .slice none 0 0] 29)).alloc (.cells #[.int .u64 0, .int .i64 0, .int .u64 0] 38)) (W.heap.size + 2) #[.int .u64 0, .slice none 0 0] := by rw [← s2]; exact Bx.alloc Bx.new
  have X3 : Bx ((((W.alloc (.cells #[.int .u64 sz, .slice a n c] 29)).alloc (.cells #[.int .u64 base, .int .i64 many, .int .u64 0] 38)).alloc (.cells #[.int .u64 0, .slice none 0 0] 29)).alloc (.cells #[.int .u64 0, .int .i64 0, .int .u64 0] 38)) (W.heap.size + 3) #[.int .u64 0, .int .i64 0, .int .u64 0] := by
    have := bx_new1 (w := (W.alloc (.cells #[.int .u64 sz, .slice a n c] 29)).alloc (.cells #[.int .u64 base, .int .i64 many, .int .u64 0] 38)) (o := .cells #[.int .u64 0, .slice none 0 0] 29) (c := #[.int .u64 0, .int .i64 0, .int .u64 0]) (T := 38)
    rwa [s2] at this
  refine (take_calls base many 0 _ hb hm ⟨by omega, by omega⟩ (fun j hj => (B0.cell (p := ⟨1, j, none⟩) (block_lt_of_cell (hT j hj))).trans (hT j hj))).mono ?_
  rintro e w1 ⟨rfl, b1⟩
  have B1 := bel_trans B0 b1
  have Y0 := X0.below b1
  have Y1 := X1.below b1
  have Y2 := X2.below b1
  have Y3 := X3.below b1
  have hl := Y3.lt
  clear X0 X1 X2 X3 b1 B0 s1 s2
  rw [show takeV base many 0 = .tuple #[.agg #[.int .u64 base, .int .i64 many, .int .u64 0], .int .u64 0, .int .i64 8] from rfl]
  have V0 := Y0.alloc (o := .cells #[.int .u64 base, .int .i64 many, .int .u64 0] 38)
  have V1 := Y1.alloc (o := .cells #[.int .u64 base, .int .i64 many, .int .u64 0] 38)
  have V2 := Y2.alloc (o := .cells #[.int .u64 base, .int .i64 many, .int .u64 0] 38)
  have V3 := Y3.alloc (o := .cells #[.int .u64 base, .int .i64 many, .int .u64 0] 38)
  have B2 := bel_alloc B1 (.cells #[.int .u64 base, .int .i64 many, .int .u64 0] 38)
  have z2 : w1.heap.size ≤ (w1.alloc (.cells #[.int .u64 base, .int .i64 many, .int .u64 0] 38)).heap.size := by rw [World.size_alloc]; omega
  go_wp2_with fail
  generalize w1.alloc (.cells #[.int .u64 base, .int .i64 many, .int .u64 0] 38) = w2 at *
  clear Y0 Y1 Y2 Y3
  refine RegR.region_from (Θ := Unit) [0, 0, 0, 2, 2, 0, 0] [0, 1, 2, 3, 4, 5, 6]
    (CB W w1.heap.size #[.int .u64 sz, .slice a n c] #[.int .u64 base, .int .i64 many, .int .u64 0] (W.heap.size + 1))
    (fun _ _ => .bool true) (fun _ _ _ => True)
    (by kernel_rfl) (by kernel_rfl) (fun w w' h b => h.below b) (fun _ _ _ _ _ _ => trivial)
    ⟨V0.drew, V1.drew, z2, bel_drewN B2 1⟩ (fun w => Shp (W.heap.size + 2) 2 w ∧ Shp (W.heap.size + 3) 3 w) (fun w w' h b => ⟨h.1.below b, h.2.below b⟩) ⟨⟨_, rfl, V2.drew⟩, ⟨_, rfl, V3.drew⟩⟩ ?_
  repeat (with_reducible refine RegR.can0 _ rfl rfl (fun K hK => ?_)
          go_simp
          first
            | (refine hK _ ?_; clear hK K)
            | (refine ⟨_, fun _ _ _ _ => rfl, hK _ ?_⟩; clear hK K)
            | (apply Exists.intro
               refine ⟨fun w hc _ _ => ?_, hK _ ?_⟩
               · have y0 := hc.box.cell 0
                 have y1 := hc.box.cell 1
                 have p0 := hc.pool.cell 0
                 have p1 := hc.pool.cell 1
                 have p2 := hc.pool.cell 2
                 simp at y0 y1 p0 p1 p2
                 first
                   | (go_simp; done)
                   | (go_simp; rfl)
               clear hK K))
  refine RegR.can2_store _ rfl rfl rfl 29 _ _ rfl (W.heap.size + 2) #[.int .u64 sz, .slice a n c] rfl rfl (by kernel_rfl) (by simp [Value.oneCell']) rfl (fun w w' h b => ⟨h.1.below b, h.2.below b⟩) (fun w h => h.1.ex) (fun w h => ?_) (fun w h => h.row (by omega) (by omega) _) ?_
  · obtain ⟨c1, e1, e2⟩ := h.1.ex
    obtain ⟨c', e3, e4⟩ := h.2.ex
    exact ⟨⟨_, rfl, e2.row_same⟩, ⟨_, e3, e4.row_far (by omega)⟩⟩
  refine RegR.can2_store _ rfl rfl rfl 38 _ _ rfl (W.heap.size + 3) #[.int .u64 base, .int .i64 many, .int .u64 0] rfl rfl (by kernel_rfl) (by simp [Value.oneCell']) rfl (fun w w' h b => ⟨⟨h.1.1.below b, h.1.2.below b⟩, h.2.below b⟩) (fun w h => h.1.2.ex) (fun w h => ?_) (fun w h => h.row (by omega) (by omega) _) ?_
  · obtain ⟨c1, e1, e2⟩ := h.1.1.ex
    obtain ⟨c', e3, e4⟩ := h.1.2.ex
    exact ⟨⟨⟨_, e1, e2.row_far (by omega)⟩, ⟨_, rfl, e4.row_same⟩⟩, h.2.row_far (by omega)⟩
  repeat (with_reducible refine RegR.can0 _ rfl rfl (fun K hK => ?_)
          go_simp
          first
            | (refine hK _ ?_; clear hK K)
            | (refine ⟨_, fun _ _ => rfl, hK _ ?_⟩; clear hK K)
            | (refine ⟨_, fun _ _ _ => rfl, hK _ ?_⟩; clear hK K)
            | (refine ⟨_, fun _ _ _ _ => rfl, hK _ ?_⟩; clear hK K)
            | (refine ⟨_, fun _ _ _ _ _ => rfl, hK _ ?_⟩; clear hK K)
            | (refine ⟨_, fun _ _ _ _ _ _ => rfl, hK _ ?_⟩; clear hK K)
            | (refine ⟨_, fun _ _ _ _ _ _ _ => rfl, hK _ ?_⟩; clear hK K))
  intro w5 C5 D5
  have B5 := C5.bel
  have U2 := D5.1.2
  have U3 := D5.2
  have q0 : w5.cell? ⟨W.heap.size + 1 + 1, 0, none⟩ = some (.int .u64 sz) := U2.cell 0
  have q1 : w5.cell? ⟨W.heap.size + 1 + 1, 1, none⟩ = some (.slice a n c) := U2.cell 1
  have p0 : w5.cell? ⟨W.heap.size + 1 + 1 + 1, 0, none⟩ = some (.int .u64 base) := U3.cell 0
  have p1 : w5.cell? ⟨W.heap.size + 1 + 1 + 1, 1, none⟩ = some (.int .i64 many) := U3.cell 1
  have p2 : w5.cell? ⟨W.heap.size + 1 + 1 + 1, 2, none⟩ = some (.int .u64 0) := U3.cell 2
  clear C5 D5 U2 U3
  go_wp2
  exact bodyPost_ret (v := .tuple #[.agg #[.int .u64 sz, .slice a n c], .agg #[.int .u64 base, .int .i64 many, .int .u64 0], .int .u64 0, .int .i64 8]) (by simp [results, Tryz.results30, go_sem, q0, q1, p0, p1, p2]) rfl ⟨rfl, B5⟩
end Go.Proofs.YtkffmaeiplgjeaaGreatDoor.TableC4
/- The contracts of package asid: within, Right, New, Give. -/
namespace Go.Proofs.YtkffmaeiplgjeaaGreatDoor.AsidC
open Go.RowKit Go.Proofs.YtkffmaeiplgjeaaGreatDoor.Bv Go.Proofs.YtkffmaeiplgjeaaGreatDoor.Base Go.Proofs.YtkffmaeiplgjeaaGreatDoor.MemL
open Go.Proofs.YtkffmaeiplgjeaaGreatDoor.BitsC
set_option linter.unusedVariables false
set_option linter.unusedSimpArgs false
/-- whether no bit from a place on is set -/
def within (x many : Int) : Bool := getI x 0 many == x
theorem within_calls (x many : Int) (W : World) (hx : U x) (hm : 0 ≤ many ∧ many ≤ 64) :
    Calls Tryz.prog 98 #[.int .u64 x, .int .i64 many] W fun e w' => e = .returned (.bool (within x many)) ∧ Q W w' := by
  have H := Lib.hid (show within x many = (getI x 0 many == x) from rfl)
  go_enter Tryz.func98, Tryz.ntmps98
  go_wp2_with fail
  refine (get_calls x 0 many _ hx (by omega) (by omega) hm.1 hm.2).mono ?_
  rintro e w1 ⟨rfl, q1⟩
  go_wp2
  go_ret
  exact ⟨by rw [H.out]; rfl, q1⟩
def rightA (many free owned : Int) : Bool := decide (1 ≤ many) && decide (many ≤ 16) && within free many && within owned many
set_option maxHeartbeats 4000000 in
theorem right_calls (many free owned : Int) (W : World) (hf : U free) (ho : U owned) :
    Calls Tryz.prog 65 #[.agg #[.int .i64 many, .int .u64 free, .int .u64 owned]] W fun e w' => e = .returned (.bool (rightA many free owned)) ∧ Below W.heap.size W w' := by
  have HI := Lib.hid (show rightA many free owned = (decide (1 ≤ many) && decide (many ≤ 16) && within free many && within owned many) from rfl)
  have B0 := bel_alloc (Below.refl W.heap.size W) (.cells #[.int .i64 many, .int .u64 free, .int .u64 owned] 40)
  have X0 : Bx (W.alloc (.cells #[.int .i64 many, .int .u64 free, .int .u64 owned] 40)) W.heap.size #[.int .i64 many, .int .u64 free, .int .u64 owned] := Bx.new
  cases h1 : decide (1 ≤ many)
  · have H := Lib.hid (show rightA many free owned = false by rw [HI.out, h1]; rfl)
    go_enter Tryz.func65, Tryz.ntmps65
    go_wp2
    go_ret
    exact ⟨by rw [H.out]; rfl, B0⟩
  · cases h2 : decide (many ≤ 16)
    · have H := Lib.hid (show rightA many free owned = false by rw [HI.out, h1, h2]; rfl)
      go_enter Tryz.func65, Tryz.ntmps65
      go_wp2
      go_ret
      exact ⟨by rw [H.out]; rfl, B0⟩
    · have hm : 0 ≤ many ∧ many ≤ 64 := by simp at h1 h2; omega
      have H := Lib.hid (show rightA many free owned = (within free many && within owned many) by rw [HI.out, h1, h2]; rfl)
      go_enter Tryz.func65, Tryz.ntmps65
      go_wp2_with fail
      refine (within_calls free many _ hf hm).mono ?_
      rintro e w1 ⟨rfl, q1⟩
      have B1 := Q.bel B0 q1
      have Y0 := X0.below q1.below
      have y0 : w1.cell? ⟨W.heap.size, 0, none⟩ = some (.int .i64 many) := Y0.cell 0
      have y2 : w1.cell? ⟨W.heap.size, 2, none⟩ = some (.int .u64 owned) := Y0.cell 2
      clear X0 q1 B0
      cases h3 : within free many
      · have H' := Lib.hid (show rightA many free owned = false by rw [H.out, h3]; rfl)
        clear h3
        go_wp2
        go_ret
        exact ⟨by rw [H'.out]; rfl, B1⟩
      · have H' := Lib.hid (show rightA many free owned = within owned many by rw [H.out, h3]; rfl)
        clear h3
        go_wp2_with fail
        refine (within_calls owned many _ ho hm).mono ?_
        rintro e w2 ⟨rfl, q2⟩
        have B2 := Q.bel B1 q2
        go_wp2
        go_ret
        exact ⟨by rw [H'.out]; rfl, B2⟩
end Go.Proofs.YtkffmaeiplgjeaaGreatDoor.AsidC
/- The contracts of asid.New, asid.Give. -/
namespace Go.Proofs.YtkffmaeiplgjeaaGreatDoor.AsidC2
open Go.RowKit Go.Proofs.YtkffmaeiplgjeaaGreatDoor.Bv Go.Proofs.YtkffmaeiplgjeaaGreatDoor.Base Go.Proofs.YtkffmaeiplgjeaaGreatDoor.MemL
open Go.Proofs.YtkffmaeiplgjeaaGreatDoor.BitsC Go.Proofs.YtkffmaeiplgjeaaGreatDoor.AsidC
set_option linter.unusedVariables false
set_option linter.unusedSimpArgs false
/-- what comes of asid.New -/
def newV (many : Int) : Value := if rightA many 0 0 then .tuple #[.agg #[.int .i64 many, .int .u64 (getI 18446744073709551615 0 many), .int .u64 0], .int .i64 0] else .tuple #[.agg #[.int .i64 0, .int .u64 0, .int .u64 0], .int .i64 1]
set_option maxHeartbeats 4000000 in
theorem new_calls (many : Int) (W : World) :
    Calls Tryz.prog 28 #[.int .i64 many] W fun e w' => e = .returned (newV many) ∧ Below W.heap.size W w' := by
  have B0 := bel_alloc (bel_alloc (Below.refl W.heap.size W) (.cells #[.int .i64 0, .int .u64 0, .int .u64 0] 40)) (.cells #[.int .i64 many, .int .u64 0, .int .u64 0] 40)
  have X0 : Bx ((W.alloc (.cells #[.int .i64 0, .int .u64 0, .int .u64 0] 40)).alloc (.cells #[.int .i64 many, .int .u64 0, .int .u64 0] 40)) W.heap.size #[.int .i64 0, .int .u64 0, .int .u64 0] := Bx.alloc Bx.new
  have X1 : Bx ((W.alloc (.cells #[.int .i64 0, .int .u64 0, .int .u64 0] 40)).alloc (.cells #[.int .i64 many, .int .u64 0, .int .u64 0] 40)) (W.heap.size + 1) #[.int .i64 many, .int .u64 0, .int .u64 0] := MemNewC.bx_new1
  go_enter Tryz.func28, Tryz.ntmps28
  go_wp2_with fail
  refine (right_calls many 0 0 _ ⟨by omega, by omega⟩ ⟨by omega, by omega⟩).mono ?_
  rintro e w1 ⟨rfl, b1⟩
  have B1 := bel_trans B0 b1
  have Y0 := X0.below b1
  have Y1 := X1.below b1
  have hl := Y1.lt
  clear X0 X1 b1 B0
  cases h : rightA many 0 0
  · have H := Lib.hid (show newV many = .tuple #[.agg #[.int .i64 0, .int .u64 0, .int .u64 0], .int .i64 1] by unfold newV; rw [h]; rfl)
    clear h
    have f0 := Y0.free
    have q0 : w1.cell? ⟨W.heap.size, 0, none⟩ = some (.int .i64 0) := Y0.cell 0
    have q1 : w1.cell? ⟨W.heap.size, 1, none⟩ = some (.int .u64 0) := Y0.cell 1
    have q2 : w1.cell? ⟨W.heap.size, 2, none⟩ = some (.int .u64 0) := Y0.cell 2
    clear Y0 Y1
    go_wp2
    exact bodyPost_ret (v := .tuple #[.agg #[.int .i64 0, .int .u64 0, .int .u64 0], .int .i64 1]) (by simp [results, Tryz.results28, go_sem, q0, q1, q2]) rfl ⟨by rw [H.out], bel_setCell _ _ _ (by omega) (bel_setCell _ _ _ (by omega) (bel_setCell _ _ _ (by omega) B1))⟩
  · have H := Lib.hid (show newV many = .tuple #[.agg #[.int .i64 many, .int .u64 (getI 18446744073709551615 0 many), .int .u64 0], .int .i64 0] by unfold newV; rw [h]; rfl)
    have hm : 0 ≤ many ∧ many ≤ 64 := by unfold rightA at h; simp at h; omega
    clear h
    go_wp2_with fail
    refine (get_calls 18446744073709551615 0 many _ ⟨by omega, by omega⟩ (by omega) (by omega) hm.1 hm.2).mono ?_
    rintro e w2 ⟨rfl, q⟩
    have B2 := Q.bel B1 q
    have Z0 := Y0.below q.below
    have Z1 := Y1.below q.below
    clear Y0 Y1 q
    have f0 := Z0.free
    have q0 : w2.cell? ⟨W.heap.size, 0, none⟩ = some (.int .i64 0) := Z0.cell 0
    have q1 : w2.cell? ⟨W.heap.size, 1, none⟩ = some (.int .u64 0) := Z0.cell 1
    have q2 : w2.cell? ⟨W.heap.size, 2, none⟩ = some (.int .u64 0) := Z0.cell 2
    have g0 := Z1.free
    have z0 : w2.cell? ⟨W.heap.size + 1, 0, none⟩ = some (.int .i64 many) := Z1.cell 0
    have z1 : w2.cell? ⟨W.heap.size + 1, 1, none⟩ = some (.int .u64 0) := Z1.cell 1
    have z2 : w2.cell? ⟨W.heap.size + 1, 2, none⟩ = some (.int .u64 0) := Z1.cell 2
    clear Z0 Z1
    go_wp2
    exact bodyPost_ret (v := .tuple #[.agg #[.int .i64 many, .int .u64 (getI 18446744073709551615 0 many), .int .u64 0], .int .i64 0]) (by simp [results, Tryz.results28, go_sem, q0, q1, q2, z0, z1, z2]) rfl ⟨by rw [H.out], bel_setCell _ _ _ (by omega) (bel_setCell _ _ _ (by omega) (bel_setCell _ _ _ (by omega) (bel_setCell _ _ _ (by omega) B2)))⟩
/-- whether a number may be given back -/
def takenA (many free n : Int) : Bool := decide (1 ≤ n) && decide (n ≤ many) && !(getI free (n - 1) 1 == 1)
/-- what comes of asid.Give -/
def giveV (many free owned n : Int) : Value := if takenA many free n then .tuple #[.agg #[.int .i64 many, .int .u64 (setI free (n - 1) 1 1), .int .u64 owned], .int .i64 0] else .tuple #[.agg #[.int .i64 many, .int .u64 free, .int .u64 owned], .int .i64 1]
set_option maxHeartbeats 4000000 in
theorem give_calls (many free owned n : Int) (W : World) (hm : 0 ≤ many ∧ many ≤ 64) (hf : U free) (ho : U owned) (hn : U n) :
    Calls Tryz.prog 57 #[.agg #[.int .i64 many, .int .u64 free, .int .u64 owned], .int .u64 n] W fun e w' => e = .returned (giveV many free owned n) ∧ Below W.heap.size W w' := by
  have B0 := bel_alloc (bel_alloc (Below.refl W.heap.size W) (.cells #[.int .i64 many, .int .u64 free, .int .u64 owned] 40)) (.cells #[.int .i64 0, .int .u64 0, .int .u64 0] 40)
  have X0 : Bx ((W.alloc (.cells #[.int .i64 many, .int .u64 free, .int .u64 owned] 40)).alloc (.cells #[.int .i64 0, .int .u64 0, .int .u64 0] 40)) W.heap.size #[.int .i64 many, .int .u64 free, .int .u64 owned] := Bx.alloc Bx.new
  have X1 : Bx ((W.alloc (.cells #[.int .i64 many, .int .u64 free, .int .u64 owned] 40)).alloc (.cells #[.int .i64 0, .int .u64 0, .int .u64 0] 40)) (W.heap.size + 1) #[.int .i64 0, .int .u64 0, .int .u64 0] := MemNewC.bx_new1
  have HT := Lib.hid (show takenA many free n = (decide (1 ≤ n) && decide (n ≤ many) && !(getI free (n - 1) 1 == 1)) from rfl)
  have HG := Lib.hid (fun (h : takenA many free n = false) => show giveV many free owned n = .tuple #[.agg #[.int .i64 many, .int .u64 free, .int .u64 owned], .int .i64 1] by unfold giveV; rw [h]; rfl)
  obtain ⟨m0, m1⟩ := hm
  obtain ⟨n0, n1⟩ := hn
  have d0 : IntKind.u64.wrap many = many := by rw [wrap_u64]; omega
  by_cases h1 : n < 1
  · have H := Lib.hid (HG.out (by rw [HT.out, show decide (1 ≤ n) = false by simp; omega]; rfl))
    go_enter Tryz.func57, Tryz.ntmps57
    go_wp2
    exact bodyPost_ret (v := .tuple #[.agg #[.int .i64 many, .int .u64 free, .int .u64 owned], .int .i64 1]) (by simp [results, Tryz.results57, go_sem]) rfl ⟨by rw [H.out], bel_alloc (bel_alloc (Below.refl _ _) _) _⟩
  · by_cases h2 : many < n
    · have H := Lib.hid (HG.out (by rw [HT.out, show decide (n ≤ many) = false by simp; omega]; simp))
      go_enter Tryz.func57, Tryz.ntmps57
      go_wp2
      exact bodyPost_ret (v := .tuple #[.agg #[.int .i64 many, .int .u64 free, .int .u64 owned], .int .i64 1]) (by simp [results, Tryz.results57, go_sem]) rfl ⟨by rw [H.out], bel_alloc (bel_alloc (Below.refl _ _) _) _⟩
    · have d1 : IntKind.u64.wrap (n - 1) = n - 1 := by rw [wrap_u64]; omega
      have d2 : IntKind.i64.wrap (n - 1) = n - 1 := by rw [IntKind.wrap_i64]; omega
      have HT2 := Lib.hid (show takenA many free n = !(getI free (n - 1) 1 == 1) by rw [HT.out, show decide (1 ≤ n) = true by simp; omega, show decide (n ≤ many) = true by simp; omega]; rfl)
      go_enter Tryz.func57, Tryz.ntmps57
      go_wp2_with fail
      refine (get_calls free (n - 1) 1 _ hf (by omega) (by omega) (by omega) (by omega)).mono ?_
      rintro e w1 ⟨rfl, q⟩
      have B1 := Q.bel B0 q
      have Y0 := X0.below q.below
      have Y1 := X1.below q.below
      clear X0 X1 q B0
      have y0 : w1.cell? ⟨W.heap.size, 0, none⟩ = some (.int .i64 many) := Y0.cell 0
      have y1 : w1.cell? ⟨W.heap.size, 1, none⟩ = some (.int .u64 free) := Y0.cell 1
      have y2 : w1.cell? ⟨W.heap.size, 2, none⟩ = some (.int .u64 owned) := Y0.cell 2
      generalize getI free (n - 1) 1 = gb at *
      by_cases hgb : gb = 1
      rotate_left
      · have h3 : (gb == 1) = false := by simpa using hgb
        have H := Lib.hid (show giveV many free owned n = .tuple #[.agg #[.int .i64 many, .int .u64 (setI free (n - 1) 1 1), .int .u64 owned], .int .i64 0] by unfold giveV; rw [HT2.out, h3]; rfl)
        go_wp2_with fail
        refine (set_calls free (n - 1) 1 1 _ hf ⟨by omega, by omega⟩ (by omega) (by omega) (by omega) (by omega)).mono ?_
        rintro e w2 ⟨rfl, q⟩
        have B2 := Q.bel B1 q
        have Z0 := Y0.below q.below
        have Z1 := Y1.below q.below
        clear Y0 Y1 q y0 y1 y2 h3
        have f0 := Z0.free
        have q0 : w2.cell? ⟨W.heap.size, 0, none⟩ = some (.int .i64 many) := Z0.cell 0
        have q1 : w2.cell? ⟨W.heap.size, 1, none⟩ = some (.int .u64 free) := Z0.cell 1
        have q2 : w2.cell? ⟨W.heap.size, 2, none⟩ = some (.int .u64 owned) := Z0.cell 2
        have g0 := Z1.free
        have z0 : w2.cell? ⟨W.heap.size + 1, 0, none⟩ = some (.int .i64 0) := Z1.cell 0
        have z1 : w2.cell? ⟨W.heap.size + 1, 1, none⟩ = some (.int .u64 0) := Z1.cell 1
        have z2 : w2.cell? ⟨W.heap.size + 1, 2, none⟩ = some (.int .u64 0) := Z1.cell 2
        clear Z0 Z1
        go_wp2
        exact bodyPost_ret (v := .tuple #[.agg #[.int .i64 many, .int .u64 (setI free (n - 1) 1 1), .int .u64 owned], .int .i64 0]) (by simp [results, Tryz.results57, go_sem, q0, q1, q2, z0, z1, z2]) rfl ⟨by rw [H.out], bel_setCell _ _ _ (by omega) (bel_setCell _ _ _ (by omega) (bel_setCell _ _ _ (by omega) (bel_setCell _ _ _ (by omega) B2)))⟩
      · subst hgb
        have H := Lib.hid (HG.out (by rw [HT2.out]; rfl))
        have g0 := Y1.free
        have z0 : w1.cell? ⟨W.heap.size + 1, 0, none⟩ = some (.int .i64 0) := Y1.cell 0
        have z1 : w1.cell? ⟨W.heap.size + 1, 1, none⟩ = some (.int .u64 0) := Y1.cell 1
        have z2 : w1.cell? ⟨W.heap.size + 1, 2, none⟩ = some (.int .u64 0) := Y1.cell 2
        clear Y0 Y1
        go_wp2
        exact bodyPost_ret (v := .tuple #[.agg #[.int .i64 many, .int .u64 free, .int .u64 owned], .int .i64 1]) (by simp [results, Tryz.results57, go_sem, z0, z1, z2]) rfl ⟨by rw [H.out], bel_setCell _ _ _ (by omega) (bel_setCell _ _ _ (by omega) (bel_setCell _ _ _ (by omega) B1))⟩
end Go.Proofs.YtkffmaeiplgjeaaGreatDoor.AsidC2
/- The contract of tlb.New, where the number of sets may be. -/
namespace Go.Proofs.YtkffmaeiplgjeaaGreatDoor.TlbNewC
open Go.RowKit Go.Proofs.YtkffmaeiplgjeaaGreatDoor.Bv Go.Proofs.YtkffmaeiplgjeaaGreatDoor.Base Go.Proofs.YtkffmaeiplgjeaaGreatDoor.MemL
set_option linter.unusedVariables false
set_option linter.unusedSimpArgs false
theorem infoS : ∃ i z, Tryz.prog.info? 163 = some i ∧ i.zero = some z ∧ i.size = 45 ∧ i.bytes = 232 := by
  have h : (Tryz.prog.info? 163).map (fun i => (i.zero.isSome, i.size, i.bytes)) = some (true, 45, 232) := by kernel_rfl
  cases hi : Tryz.prog.info? 163 with
  | none => rw [hi] at h; simp at h
  | some i =>
    rw [hi] at h
    simp at h
    obtain ⟨h1, h2, h3⟩ := h
    cases hz : i.zero with
    | none => rw [hz] at h1; simp at h1
    | some z => exact ⟨i, z, rfl, hz, h2, h3⟩
set_option maxHeartbeats 2000000 in
set_option maxRecDepth 100000 in
theorem new_calls (n : Nat) (W : World) (hn : n ≤ 16) (z : Value) (hz : (Tryz.prog.info? 163).bind (·.zero) = some z) :
    Calls Tryz.prog 29 #[.int .i64 n] W fun e w' => ∃ a c, e = .returned (.tuple #[.agg #[.slice a n c], .int .i64 0]) ∧ w'.ownsRow W.heap.size 163 45 (.slice a n c) n (madeCells z.cells (n * 45)).toList ∧ Below W.heap.size W w' := by
  obtain ⟨i, z', hi, hz0, hsz, hby⟩ := infoS
  rw [hi] at hz
  simp only [Option.bind_some] at hz
  have X0 : Bx (W.alloc (.cells #[.slice none 0 0] 32)) W.heap.size #[.slice none 0 0] := Bx.new
  have hs1 : (W.alloc (.cells #[.slice none 0 0] 32)).heap.size = W.heap.size + 1 := by rw [World.size_alloc]
  obtain ⟨w1, hrun, hown, hgrow⟩ := run_make_full (P := Tryz.prog) (W.alloc (.cells #[.slice none 0 0] 32)) (W.heap.size + 1) 30 163 i z 45 Tryz.underlying30 hi hz hsz .i64 .i64 n (by rw [hby]; omega) (by unfold maxLen; omega) (by omega)
  rw [hs1] at hown hrun
  have d1 : decide ((n : Int) < 0) = false := by simp
  have d2 : decide ((16 : Int) < n) = false := by simp; omega
  have B1 : Below W.heap.size W w1 := (bel_alloc (Below.refl _ _) _).grown hgrow (by omega) (fun k hk => by simp at hk)
  have Y0 := X0.of_below ((Below.refl (W.heap.size + 1) (W.alloc (.cells #[.slice none 0 0] 32))).grown hgrow (by omega) (fun k hk => by simp at hk)) (by omega)
  have f0 := Y0.free
  have q0 : w1.cell? ⟨W.heap.size, 0, none⟩ = some (.slice none 0 0) := Y0.cell 0
  go_enter Tryz.func29, Tryz.ntmps29
  go_wp2
  refine bodyPost_ret (v := .tuple #[.agg #[.slice (some ⟨W.heap.size + 1, 0, none⟩) n n], .int .i64 0]) (by simp [results, Tryz.results29, go_sem, q0]) rfl ⟨_, _, rfl, ?_, ?_⟩
  · exact PutC.owns_le (by omega) (PutC.owns_down hown W.heap.size 0 (by omega) _)
  · exact bel_setCell _ _ _ (Nat.le_refl _) B1
end Go.Proofs.YtkffmaeiplgjeaaGreatDoor.TlbNewC
/- The contracts of the layer va: each call comes to the plain number of VaSpec, where the table of sizes reads as the program's text lays it. -/
namespace Go.Proofs.YtkffmaeiplgjeaaGreatDoor.VaC
open Go.RowKit Go.Proofs.YtkffmaeiplgjeaaGreatDoor.Bv Go.Proofs.YtkffmaeiplgjeaaGreatDoor.VaSpec Go.Proofs.YtkffmaeiplgjeaaGreatDoor.Base Go.Proofs.YtkffmaeiplgjeaaGreatDoor.BitsC
set_option linter.unusedVariables false
set_option linter.unusedSimpArgs false
theorem size_calls (l : Int) (w : World) (h0 : 0 ≤ l) (h2 : l ≤ 2) (hG : G w) : Calls Tryz.prog 134 #[.int .i64 l] w fun e w' => e = .returned (.int .u64 (sz l)) ∧ Q w w' := by
  obtain ⟨t0, t1, t2⟩ := hG.tabS
  rcases lev h0 h2 with rfl | rfl | rfl
  all_goals
    go_enter Tryz.func134, Tryz.ntmps134
    go_wp2
    go_ret
    exact ⟨rfl, Q.refl _⟩
theorem off_calls (a l : Int) (w : World) (a0 : 0 ≤ a) (a1 : a < 18446744073709551616) (h0 : 0 ≤ l) (h2 : l ≤ 2) (hG : G w) : Calls Tryz.prog 77 #[.int .u64 a, .int .i64 l] w fun e w' => e = .returned (.int .u64 (off a l)) ∧ Q w w' := by
  have m0 := Lib.hid (andMask a 12 (by decide) a0 a1)
  have m1 := Lib.hid (andMask a 21 (by decide) a0 a1)
  have m2 := Lib.hid (andMask a 30 (by decide) a0 a1)
  obtain ⟨t0, t1, t2⟩ := hG.tabS
  rcases lev h0 h2 with rfl | rfl | rfl
  all_goals
    go_enter Tryz.func77, Tryz.ntmps77
    go_wp2
    go_ret
    refine ⟨?_, Q.refl _⟩
  · exact congrArg (fun z => Ending.returned (.int .u64 z)) m0.out
  · exact congrArg (fun z => Ending.returned (.int .u64 z)) m1.out
  · exact congrArg (fun z => Ending.returned (.int .u64 z)) m2.out
theorem off_bd (a l : Int) (a0 : 0 ≤ a) : 0 ≤ off a l ∧ off a l < sz l ∧ off a l ≤ a := by
  have := sz_pos l
  unfold off
  refine ⟨Int.emod_nonneg _ (sz_ne l), Int.emod_lt_of_pos _ this, ?_⟩
  have h1 := Int.mul_ediv_add_emod a (sz l)
  have h2 : 0 ≤ sz l * (a / sz l) := Int.mul_nonneg (by omega) (Int.ediv_nonneg a0 (by omega))
  omega
theorem base_calls (a l : Int) (w : World) (a0 : 0 ≤ a) (a1 : a < 18446744073709551616) (h0 : 0 ≤ l) (h2 : l ≤ 2) (hG : G w) : Calls Tryz.prog 168 #[.int .u64 a, .int .i64 l] w fun e w' => e = .returned (.int .u64 (base a l)) ∧ Q w w' := by
  obtain ⟨b0, b1, b2⟩ := off_bd a l a0
  have hw := Lib.hid (show IntKind.u64.wrap (a - off a l) = a - off a l by rw [wrap_u64]; omega)
  clear b0 b1 b2
  go_enter Tryz.func168, Tryz.ntmps168
  go_wp2_with (go_at_call 77; refine (off_calls a l _ a0 a1 h0 h2 ?_).mono ?_; exact hG; rintro e w' ⟨rfl, ⟨nd, rfl⟩⟩)
  go_ret
  refine ⟨?_, by repeat (first | exact Q.refl _ | apply Q.step)⟩
  exact congrArg (fun z => Ending.returned (.int .u64 z)) (by first | exact hw.out | rfl)
theorem ext39_sign (a : Int) (h : U a) : signI a 39 = ext39 (a % 549755813888) := by
  unfold signI; rw [show (39 : Int).toNat = 39 from rfl, signB_39, B_X h]
theorem is_calls (a : Int) (w : World) (a0 : 0 ≤ a) (a1 : a < 18446744073709551616) : Calls Tryz.prog 76 #[.int .u64 a] w fun e w' => e = .returned (.bool (isv a)) ∧ Q w w' := by
  have H := Lib.hid (show (signI a 39 == a) = isv a by rw [ext39_sign a ⟨a0, a1⟩]; exact isv_ext a a0 a1)
  go_enter Tryz.func76, Tryz.ntmps76
  go_wp2_with (go_at_call 104; (with_reducible refine (sign_calls _ _ _ ⟨a0, a1⟩ (by omega) (by omega)).mono ?_); rintro e w' ⟨rfl, ⟨nd, rfl⟩⟩)
  go_ret
  exact ⟨congrArg (fun z => Ending.returned (.bool z)) H.out, ⟨_, rfl⟩⟩
theorem idx_bd (a l : Int) : 0 ≤ idx a l ∧ idx a l < 512 := by unfold idx; omega
theorem num_bd (a : Int) : 0 ≤ num a ∧ num a < 134217728 := by unfold num; omega
theorem ofv_bd (n : Int) : 0 ≤ ofv n ∧ ofv n < 18446744073709551616 := by unfold ofv ext39; split <;> omega
theorem sz_bd (l : Int) : 4096 ≤ sz l ∧ sz l ≤ 1073741824 := by unfold sz; split; decide; split <;> decide
theorem idx_calls (a l : Int) (w : World) (a0 : 0 ≤ a) (a1 : a < 18446744073709551616) (h0 : 0 ≤ l) (h2 : l ≤ 2) : Calls Tryz.prog 41 #[.int .u64 a, .int .i64 l] w fun e w' => e = .returned (.int .i64 (idx a l)) ∧ Q w w' := by
  have H := Lib.hid (show wrap64 (getI a (12 + 9 * l) 9) = idx a l by
    rw [getI_val a _ 9 ⟨a0, a1⟩ (by omega)]
    unfold idx wrap64
    rcases lev h0 h2 with rfl | rfl | rfl <;> simp only [show sz 0 = 4096 from rfl, show sz 1 = 2097152 from rfl, show sz 2 = 1073741824 from rfl, show (12 + 9 * 0 : Int).toNat = 12 from rfl, show (12 + 9 * 1 : Int).toNat = 21 from rfl, show (12 + 9 * 2 : Int).toNat = 30 from rfl, show (9 : Int).toNat = 9 from rfl] <;> omega)
  go_enter Tryz.func41, Tryz.ntmps41
  go_wp2_with (go_at_call 64; (with_reducible refine (get_calls _ _ _ _ ⟨a0, a1⟩ (by omega) (by omega) (by omega) (by omega)).mono ?_); rintro e w' ⟨rfl, ⟨nd, rfl⟩⟩)
  go_ret
  exact ⟨congrArg (fun z => Ending.returned (.int .i64 z)) H.out, ⟨_, rfl⟩⟩
theorem num_calls (a : Int) (w : World) (a0 : 0 ≤ a) (a1 : a < 18446744073709551616) : Calls Tryz.prog 167 #[.int .u64 a] w fun e w' => e = .returned (.int .u64 (num a)) ∧ Q w w' := by
  have H := Lib.hid (show getI a 12 27 = num a by rw [getI_val a 12 27 ⟨a0, a1⟩ (by omega)]; rfl)
  go_enter Tryz.func167, Tryz.ntmps167
  go_wp2_with (go_at_call 64; (with_reducible refine (get_calls _ _ _ _ ⟨a0, a1⟩ (by omega) (by omega) (by omega) (by omega)).mono ?_); rintro e w' ⟨rfl, ⟨nd, rfl⟩⟩)
  go_ret
  exact ⟨congrArg (fun z => Ending.returned (.int .u64 z)) H.out, ⟨_, rfl⟩⟩
theorem setI_zero (lo n v : Int) (h : U v) (h1 : 0 ≤ lo) (h0 : 0 ≤ n) (h2 : lo + n ≤ 64) : setI 0 lo n v = v % 2 ^ n.toNat * 2 ^ lo.toNat := by
  unfold setI; rw [show X 0 = 0#64 from rfl, setB_zero_val _ _ _ (by omega), B_X h]
theorem of_calls (n : Int) (w : World) (a0 : 0 ≤ n) (a1 : n < 18446744073709551616) : Calls Tryz.prog 89 #[.int .u64 n] w fun e w' => e = .returned (.int .u64 (ofv n)) ∧ Q w w' := by
  have hs := setI_zero 12 27 n ⟨a0, a1⟩ (by omega) (by omega) (by omega)
  have H := Lib.hid (show signI (setI 0 12 27 n) 39 = ofv n by
    rw [ext39_sign _ (setI_U _ _ _ _), hs]; unfold ofv; congr 1
    simp only [show (27 : Int).toNat = 27 from rfl, show (12 : Int).toNat = 12 from rfl]; omega)
  clear hs
  go_enter Tryz.func89, Tryz.ntmps89
  go_wp2_with (first
    | (go_at_call 93; (with_reducible refine (set_calls _ _ _ _ _ ⟨by omega, by omega⟩ ⟨a0, a1⟩ (by omega) (by omega) (by omega) (by omega)).mono ?_); rintro e w' ⟨rfl, ⟨nd, rfl⟩⟩)
    | (go_at_call 104; (with_reducible refine (sign_calls _ _ _ (setI_U _ _ _ _) (by omega) (by omega)).mono ?_); rintro e w' ⟨rfl, ⟨nd, rfl⟩⟩))
  go_ret
  exact ⟨congrArg (fun z => Ending.returned (.int .u64 z)) H.out, ⟨_, rfl⟩⟩
theorem fits_calls (a l : Int) (w : World) (a0 : 0 ≤ a) (a1 : a < 18446744073709551616) (h0 : 0 ≤ l) (h2 : l ≤ 2) (hG : G w) : Calls Tryz.prog 40 #[.int .u64 a, .int .i64 l] w fun e w' => e = .returned (.bool (fits a l)) ∧ Q w w' := by
  cases hi : isv a
  all_goals
    have hf : fits a l = (isv a && (off a l == 0)) := rfl
    rw [hi] at hf
    have Hf := Lib.hid hf; clear hf
    have Hi := Lib.hid hi; clear hi
    go_enter Tryz.func40, Tryz.ntmps40
    go_wp2_with (first | (go_at_call 76; refine (is_calls a _ a0 a1).mono ?_; rw [Hi.out]; rintro e w' ⟨rfl, ⟨nd, rfl⟩⟩) | (go_at_call 77; refine (off_calls a l _ a0 a1 h0 h2 ?_).mono ?_; exact hG; rintro e w' ⟨rfl, ⟨nd, rfl⟩⟩))
    go_ret
    refine ⟨?_, by repeat (first | exact Q.refl _ | apply Q.step)⟩
    rw [Hf.out]; rfl
end Go.Proofs.YtkffmaeiplgjeaaGreatDoor.VaC
/- What the functions of the layer pte answer, in plain data. No program here. -/
namespace Go.Proofs.YtkffmaeiplgjeaaGreatDoor.PteSpec
open Go.RowKit Go.Proofs.YtkffmaeiplgjeaaGreatDoor.Bv Go.Proofs.YtkffmaeiplgjeaaGreatDoor.VaSpec
set_option linter.unusedVariables false
set_option linter.unusedSimpArgs false
structure Perm where
  r : Bool
  w : Bool
  x : Bool
  u : Bool
deriving DecidableEq
structure Pte where
  v : Bool
  r : Bool
  w : Bool
  x : Bool
  u : Bool
  g : Bool
  a : Bool
  d : Bool
  rsw : Int
  ppn : Int
  high : Int
deriving DecidableEq
def Pte.U (p : Pte) : Prop := (0 ≤ p.rsw ∧ p.rsw < 18446744073709551616) ∧ (0 ≤ p.ppn ∧ p.ppn < 18446744073709551616) ∧ (0 ≤ p.high ∧ p.high < 18446744073709551616)
def mayP (p : Pte) : Bool := decide (p.rsw < 4) && decide (p.ppn < 17592186044416) && decide (p.high < 1024)
def low8 (p : Pte) : Int := bI p.v + bI p.r * 2 + bI p.w * 4 + bI p.x * 8 + bI p.u * 16 + bI p.g * 32 + bI p.a * 64 + bI p.d * 128
def word (p : Pte) : Int := low8 p + p.rsw * 256 + p.ppn * 1024 + p.high * 18014398509481984
def bitI (a i : Int) : Bool := a / 2 ^ i.toNat % 2 == 1
def pteOf (a : Int) : Pte := ⟨bitI a 0, bitI a 1, bitI a 2, bitI a 3, bitI a 4, bitI a 5, bitI a 6, bitI a 7, a / 256 % 4, a / 1024 % 17592186044416, a / 18014398509481984⟩
def leafP (p : Pte) : Bool := p.v && (p.r || p.x)
def linkP (p : Pte) : Bool := p.v && !p.r && !p.x
def badP (p : Pte) (l : Int) : Bool :=
  if !p.v || p.w && !p.r || p.high != 0 then true
  else if linkP p then l == 0 || p.a || p.d || p.u
  else !(p.ppn % (sz l / 4096) == 0)
def makeP (f : Int) (q : Perm) (g : Bool) : Pte := ⟨true, q.r, q.w, q.x, q.u, g, false, false, 0, f, 0⟩
def permP (p : Pte) : Perm := ⟨p.r, p.w, p.x, p.u⟩
theorem low8_bd (p : Pte) : 0 ≤ low8 p ∧ low8 p < 256 := by
  unfold low8
  have := bI_bd p.v; have := bI_bd p.r; have := bI_bd p.w; have := bI_bd p.x; have := bI_bd p.u; have := bI_bd p.g; have := bI_bd p.a; have := bI_bd p.d
  omega
theorem mayP_iff (p : Pte) : mayP p = true ↔ p.rsw < 4 ∧ p.ppn < 17592186044416 ∧ p.high < 1024 := by
  unfold mayP; simp [and_assoc]
theorem word_bd (p : Pte) (h : p.U) (hm : mayP p = true) : 0 ≤ word p ∧ word p < 18446744073709551616 := by
  rw [mayP_iff] at hm; have := low8_bd p; unfold Pte.U at h; unfold word; omega
theorem pteOf_U (a : Int) (h0 : 0 ≤ a) (h1 : a < 18446744073709551616) : (pteOf a).U := by unfold Pte.U pteOf; simp only; omega
theorem pteOf_may (a : Int) (h0 : 0 ≤ a) (h1 : a < 18446744073709551616) : mayP (pteOf a) = true := by rw [mayP_iff]; unfold pteOf; simp only; omega
theorem bI_bitI (a : Int) (i : Nat) (h0 : 0 ≤ a) : bI (bitI a i) = a / 2 ^ i % 2 := by
  unfold bI bitI; rw [Int.toNat_natCast]
  by_cases h : a / 2 ^ i % 2 = 1
  · simp [h]
  · have : a / 2 ^ i % 2 = 0 := by omega
    simp [this]
theorem word_pteOf (a : Int) (h0 : 0 ≤ a) (h1 : a < 18446744073709551616) : word (pteOf a) = a := by
  have e : ∀ i : Nat, bI (bitI a i) = a / 2 ^ i % 2 := fun i => bI_bitI a i h0
  have e0 := e 0; have e1 := e 1; have e2 := e 2; have e3 := e 3; have e4 := e 4; have e5 := e 5; have e6 := e 6; have e7 := e 7
  unfold word low8 pteOf
  simp only
  rw [show (bitI a 0) = bitI a ((0 : Nat) : Int) from rfl, show (bitI a 1) = bitI a ((1 : Nat) : Int) from rfl, show (bitI a 2) = bitI a ((2 : Nat) : Int) from rfl, show (bitI a 3) = bitI a ((3 : Nat) : Int) from rfl, show (bitI a 4) = bitI a ((4 : Nat) : Int) from rfl, show (bitI a 5) = bitI a ((5 : Nat) : Int) from rfl, show (bitI a 6) = bitI a ((6 : Nat) : Int) from rfl, show (bitI a 7) = bitI a ((7 : Nat) : Int) from rfl]
  rw [e 0, e 1, e 2, e 3, e 4, e 5, e 6, e 7]
  clear e e0 e1 e2 e3 e4 e5 e6 e7
  omega
theorem pteOf_word (p : Pte) (h : p.U) (hm : mayP p = true) : pteOf (word p) = p := by
  rw [mayP_iff] at hm
  obtain ⟨v, r, w, x, u, g, a, d, rsw, ppn, high⟩ := p
  unfold Pte.U at h; unfold word low8 pteOf
  simp only at *
  have q0 := bI_bd v; have q1 := bI_bd r; have q2 := bI_bd w; have q3 := bI_bd x; have q4 := bI_bd u; have q5 := bI_bd g; have q6 := bI_bd a; have q7 := bI_bd d
  have key : ∀ (b : Bool) (i : Nat) (n : Int), n / 2 ^ i % 2 = bI b → bitI n i = b := by
    intro b i n h; unfold bitI; rw [Int.toNat_natCast, h]; cases b <;> rfl
  have k0 := key v 0; have k1 := key r 1; have k2 := key w 2; have k3 := key x 3; have k4 := key u 4; have k5 := key g 5; have k6 := key a 6; have k7 := key d 7
  rw [Pte.mk.injEq]
  refine ⟨k0 _ ?_, k1 _ ?_, k2 _ ?_, k3 _ ?_, k4 _ ?_, k5 _ ?_, k6 _ ?_, k7 _ ?_, ?_, ?_, ?_⟩ <;> omega
end Go.Proofs.YtkffmaeiplgjeaaGreatDoor.PteSpec
