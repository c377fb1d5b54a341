/- '==' of the structs Perm, Pte and Entry: it is that of the plain data. -/
import Derived.Test.YtjgnckhbafgalaaDoorBase
import Derived.Test.YtjgnckhbafgalaaDoorPteSpec
import Derived.Test.YtjgnckhbafgalaaDoorEntrySpec
import Derived.Laws.StructEq
namespace Go.Proofs.YtjgnckhbafgalaaDoor.EqS
open Go.RowKit Go.Proofs.YtjgnckhbafgalaaDoor.Bv Go.Proofs.YtjgnckhbafgalaaDoor.VaSpec Go.Proofs.YtjgnckhbafgalaaDoor.Base Go.Proofs.YtjgnckhbafgalaaDoor.PteSpec Go.Proofs.YtjgnckhbafgalaaDoor.EntrySpec
set_option linter.unusedVariables false
set_option linter.unusedSimpArgs false
section
variable {P : Program} {d : Nat} {xs ys : Array Value} {f : Field} {fs : List Field} {a b : Value} {r s : Bool} {w : World}
theorem fields_nil : (Op.eqFields d xs ys []).run P w = .ok true w := by simp [Op.eqFields]
theorem fields_cons (hn : (f.name == "_") = false) (ha : (part f.type xs f.offset).run P w = .ok a w) (hb : (part f.type ys f.offset).run P w = .ok b w) (he : (Op.equalIn d f.type a b).run P w = .ok r w) (hr : (Op.eqFields d xs ys fs).run P w = .ok s w) :
    (Op.eqFields d xs ys (f :: fs)).run P w = .ok (r && s) w := by
  have h : f.name ≠ "_" := by intro e; rw [e] at hn; exact absurd hn (by decide)
  simp only [Op.eqFields, if_pos h, Sem.run_bind, ha, hb, he, Result.andThen_ok]
  cases r with
  | true => simpa using hr
  | false => simp
theorem struct_of {t : TypeId} {l : Array Field} (hu : P.underlying t = some (.struct l)) (hp : P.stoodInHeld t = false) (h : (Op.eqFields d xs ys l.toList).run P w = .ok r w) : (Op.equalIn (d + 1) t (.agg xs) (.agg ys)).run P w = .ok r w := by
  have e : P.fieldsOf t = l := by unfold Program.fieldsOf; rw [hu]
  rw [run_equalIn_struct w d t xs ys (by rw [e]; exact hu) hp, e, h]
end
def eqPerm (p q : Perm) : Bool := decide (p = q)
def eqPte (p q : Pte) : Bool := decide (p = q)
def eqEnt (p q : Ent) : Bool := decide (p = q)
theorem eqPerm_self (p : Perm) : eqPerm p p = true := by simp [eqPerm]
theorem eqPte_self (p : Pte) : eqPte p p = true := by simp [eqPte]
theorem eqEnt_self (p : Ent) : eqEnt p p = true := by simp [eqEnt]
theorem eq_perm (d : Nat) (w : World) (x0 y0 x1 y1 x2 y2 x3 y3 : Bool) :
    (Op.equalIn (d + 2) 28 (.agg #[.bool x0, .bool x1, .bool x2, .bool x3]) (.agg #[.bool y0, .bool y1, .bool y2, .bool y3])).run Tryd.prog w = .ok (eqPerm ⟨x0, x1, x2, x3⟩ ⟨y0, y1, y2, y3⟩) w := by
  have e : eqPerm ⟨x0, x1, x2, x3⟩ ⟨y0, y1, y2, y3⟩ = (x0 == y0 && (x1 == y1 && (x2 == y2 && (x3 == y3 && true)))) := by
    unfold eqPerm; rw [Bool.eq_iff_iff]; simp
  rw [e]
  refine struct_of Tryd.underlying28 (by kernel_rfl) ?_
  refine fields_cons (by rfl) (by go_simp; rfl) (by go_simp; rfl) (by go_simp) ?_
  refine fields_cons (by rfl) (by go_simp; rfl) (by go_simp; rfl) (by go_simp) ?_
  refine fields_cons (by rfl) (by go_simp; rfl) (by go_simp; rfl) (by go_simp) ?_
  exact fields_cons (by rfl) (by go_simp; rfl) (by go_simp; rfl) (by go_simp) fields_nil
theorem eq_pte (d : Nat) (w : World) (x0 y0 x1 y1 x2 y2 x3 y3 x4 y4 x5 y5 x6 y6 x7 y7 : Bool) (x8 y8 x9 y9 x10 y10 : Int) :
    (Op.equalIn (d + 2) 24 (.agg #[.bool x0, .bool x1, .bool x2, .bool x3, .bool x4, .bool x5, .bool x6, .bool x7, .int .u64 x8, .int .u64 x9, .int .u64 x10]) (.agg #[.bool y0, .bool y1, .bool y2, .bool y3, .bool y4, .bool y5, .bool y6, .bool y7, .int .u64 y8, .int .u64 y9, .int .u64 y10])).run Tryd.prog w = .ok (eqPte ⟨x0, x1, x2, x3, x4, x5, x6, x7, x8, x9, x10⟩ ⟨y0, y1, y2, y3, y4, y5, y6, y7, y8, y9, y10⟩) w := by
  have e : eqPte ⟨x0, x1, x2, x3, x4, x5, x6, x7, x8, x9, x10⟩ ⟨y0, y1, y2, y3, y4, y5, y6, y7, y8, y9, y10⟩ = (x0 == y0 && (x1 == y1 && (x2 == y2 && (x3 == y3 && (x4 == y4 && (x5 == y5 && (x6 == y6 && (x7 == y7 && (x8 == y8 && (x9 == y9 && (x10 == y10 && true))))))))))) := by
    unfold eqPte; rw [Bool.eq_iff_iff]; simp
  rw [e]
  refine struct_of Tryd.underlying24 (by kernel_rfl) ?_
  refine fields_cons (by rfl) (by go_simp; rfl) (by go_simp; rfl) (by go_simp) ?_
  refine fields_cons (by rfl) (by go_simp; rfl) (by go_simp; rfl) (by go_simp) ?_
  refine fields_cons (by rfl) (by go_simp; rfl) (by go_simp; rfl) (by go_simp) ?_
  refine fields_cons (by rfl) (by go_simp; rfl) (by go_simp; rfl) (by go_simp) ?_
  refine fields_cons (by rfl) (by go_simp; rfl) (by go_simp; rfl) (by go_simp) ?_
  refine fields_cons (by rfl) (by go_simp; rfl) (by go_simp; rfl) (by go_simp) ?_
  refine fields_cons (by rfl) (by go_simp; rfl) (by go_simp; rfl) (by go_simp) ?_
  refine fields_cons (by rfl) (by go_simp; rfl) (by go_simp; rfl) (by go_simp) ?_
  refine fields_cons (by rfl) (by go_simp; rfl) (by go_simp; rfl) (by go_simp) ?_
  refine fields_cons (by rfl) (by go_simp; rfl) (by go_simp; rfl) (by go_simp) ?_
  exact fields_cons (by rfl) (by go_simp; rfl) (by go_simp; rfl) (by go_simp) fields_nil
theorem eq_ent (d : Nat) (w : World) (x0 y0 : Bool) (x1 y1 : Int) (x2 y2 : Bool) (x3 y3 x4 y4 x5 y5 : Int) (x6 y6 x7 y7 x8 y8 x9 y9 x10 y10 : Bool) :
    (Op.equalIn (d + 3) 30 (.agg #[.bool x0, .int .u64 x1, .bool x2, .int .i64 x3, .int .u64 x4, .int .u64 x5, .bool x6, .bool x7, .bool x8, .bool x9, .bool x10]) (.agg #[.bool y0, .int .u64 y1, .bool y2, .int .i64 y3, .int .u64 y4, .int .u64 y5, .bool y6, .bool y7, .bool y8, .bool y9, .bool y10])).run Tryd.prog w = .ok (eqEnt ⟨x0, x1, x2, x3, x4, x5, ⟨x6, x7, x8, x9⟩, x10⟩ ⟨y0, y1, y2, y3, y4, y5, ⟨y6, y7, y8, y9⟩, y10⟩) w := by
  have e : eqEnt ⟨x0, x1, x2, x3, x4, x5, ⟨x6, x7, x8, x9⟩, x10⟩ ⟨y0, y1, y2, y3, y4, y5, ⟨y6, y7, y8, y9⟩, y10⟩ = (x0 == y0 && (x1 == y1 && (x2 == y2 && (x3 == y3 && (x4 == y4 && (x5 == y5 && (eqPerm ⟨x6, x7, x8, x9⟩ ⟨y6, y7, y8, y9⟩ && (x10 == y10 && true)))))))) := by
    unfold eqEnt eqPerm; rw [Bool.eq_iff_iff]; simp
  rw [e]
  refine struct_of Tryd.underlying30 (by kernel_rfl) ?_
  refine fields_cons (by rfl) (by go_simp; rfl) (by go_simp; rfl) (by go_simp) ?_
  refine fields_cons (by rfl) (by go_simp; rfl) (by go_simp; rfl) (by go_simp) ?_
  refine fields_cons (by rfl) (by go_simp; rfl) (by go_simp; rfl) (by go_simp) ?_
  refine fields_cons (by rfl) (by go_simp; rfl) (by go_simp; rfl) (by go_simp) ?_
  refine fields_cons (by rfl) (by go_simp; rfl) (by go_simp; rfl) (by go_simp) ?_
  refine fields_cons (by rfl) (by go_simp; rfl) (by go_simp; rfl) (by go_simp) ?_
  refine fields_cons (by rfl) (by go_simp) (by go_simp) (eq_perm d w _ _ _ _ _ _ _ _) ?_
  exact fields_cons (by rfl) (by go_simp; rfl) (by go_simp; rfl) (by go_simp) fields_nil
end Go.Proofs.YtjgnckhbafgalaaDoor.EqS
