/- Words of this session's own proofs: quiet calls, what stays below, the table of sizes. -/
import Derived.Test.YtjgnckhbafgalaaDoorProg
import Derived.Test.YtjgnckhbafgalaaDoorVaSpec
import Derived.Below
import Derived.WalkKit
import Derived.OwnWalk
import Derived.KernelRfl
import Derived.Laws.Rows
import Derived.Lib.Hide
import Derived.Deep.RegionWith
import Derived.Deep.QuietTactic
import Derived.BigQuiet
import Derived.Deep.LoopGhost
import Derived.StillTailTactics
namespace Go.Proofs.YtjgnckhbafgalaaDoor.Base
open Go.RowKit Go.Proofs.YtjgnckhbafgalaaDoor.Bv Go.Proofs.YtjgnckhbafgalaaDoor.VaSpec
set_option linter.unusedVariables false
/-- the world is as it was, but for draws -/
structure Q (w w' : World) : Prop where mk :: (out : ∃ n, w' = w.drewN n)
theorem Q.refl (w : World) : Q w w := ⟨⟨0, rfl⟩⟩
theorem Q.step {w w' : World} (h : Q w w') (n : Nat) : Q w (w'.drewN n) := by
  obtain ⟨m, rfl⟩ := h; exact ⟨⟨m + n, by rw [World.drewN_drewN]⟩⟩
theorem Q.trans {a b c : World} (h : Q a b) (k : Q b c) : Q a c := by
  obtain ⟨n, rfl⟩ := h; obtain ⟨m, rfl⟩ := k; exact Q.step ⟨n, rfl⟩ m
theorem heap_drewN (w : World) (n : Nat) : (w.drewN n).heap = w.heap := rfl
theorem below_drewN' {B : Nat} {a w : World} (h : Below B a w) (n : Nat) : Below B a (w.drewN n) := ⟨h.os, h.tape, h.output, h.size, h.block⟩
theorem Q.below {w w' : World} (h : Q w w') : Below w.heap.size w w' := by
  obtain ⟨n, rfl⟩ := h; exact below_drewN' (Below.refl _ _) n
theorem bcell {W w1 : World} {n : Nat} (hb : Below n W w1) : (∀ b o, b < n → w1.cell? ⟨b, o, none⟩ = W.cell? ⟨b, o, none⟩) ∧ (∀ b o, b < n → w1.frozen? ⟨b, o, none⟩ = W.frozen? ⟨b, o, none⟩) :=
  ⟨fun b o h => hb.cell (p := ⟨b, o, none⟩) h, fun b o h => hb.frozen (p := ⟨b, o, none⟩) h⟩
theorem bel_drewN {W w : World} (h : Below W.heap.size W w) (n : Nat) : Below W.heap.size W (w.drewN n) := below_drewN' h n
theorem bel_alloc {W w : World} (h : Below W.heap.size W w) (o : Obj) : Below W.heap.size W (w.alloc o) := h.alloc h.size o
theorem bel_trans {W w w' : World} (h : Below W.heap.size W w) (k : Below w.heap.size w w') : Below W.heap.size W w' := h.trans (k.mono h.size)
theorem bel_setCell {W w : World} (b o : Nat) (v : Value) (hb : W.heap.size ≤ b) (h : Below W.heap.size W w) : Below W.heap.size W (w.setCell ⟨b, o, none⟩ v) := h.setCell hb v
theorem Q.bel {W w w' : World} (h : Below W.heap.size W w) (k : Q w w') : Below W.heap.size W w' := bel_trans h k.below
/-- a region that draws its order: quiet operations that leave the world alone, then a tail in one order; the world between under one name -/
theorem still_tail {P : Program} {id : Nat} {Q : Exit → Act → World → Prop} {a : Act} {w : World} {l : List Oper} (n : Nat) (hm : P.follows .mixedOrders = true) (hB : Region.lexTailB .any l.toArray n = true)
    (h : ∀ w2, w2 = w.drewN 1 → wpStill P l.toArray w2 (fun a' => wpList P l.toArray Q (l.drop n) a' w2) (l.take n) a) : (Code.region id l.toArray true).wp P Q a w :=
  wp_region_still_tail n hm hB (h (w.drewN 1) rfl)
/-- a region that draws its order, whose operations read what lies below and whose callees make memory alone: one walk in the order of the text -/
theorem region_below {P : Program} {id : Nat} {Q : Exit → Act → World → Prop} {a : Act} {w : World} {l : List Oper} (hm : P.follows .mixedOrders = true) (hB : Region.lexB .any l.toArray = true)
    (h : wpQuiet P l.toArray (fun w' => Below w.heap.size w w') (fun a' => ∀ w', Below w.heap.size w w' → Q .normal a' w') l a) : (Code.region id l.toArray true).wp P Q a w :=
  wp_region_quiet (C := fun w' => Below w.heap.size w w') hm hB ((Below.refl _ _).drew) (by simpa using h)
/-- an unsigned word -/
abbrev U (a : Int) : Prop := 0 ≤ a ∧ a < 18446744073709551616
theorem U.b0 {a : Int} (h : U a) : 0 ≤ a := h.1
theorem U.b1 {a : Int} (h : U a) : a < 18446744073709551616 := h.2
theorem U.of {a : Int} (h : (Lit.int .u64 a).wf = true) : U a := bd_u64 h
theorem U.B (x : BitVec 64) : U (B x) := ⟨B_nonneg x, B_lt x⟩
def X (a : Int) : BitVec 64 := BitVec.ofInt 64 a
theorem B_X {a : Int} (h : U a) : B (X a) = a := by
  obtain ⟨x, rfl⟩ := u64_B h.1 h.2; unfold X; rw [ofInt_B]
theorem X_B (x : BitVec 64) : X (B x) = x := ofInt_B x
/-- The table of sizes lies in memory as the program's text lays it. -/
def TabS (w : World) : Prop := w.cell? ⟨0, 0, none⟩ = some (.int .u64 4096) ∧ w.cell? ⟨0, 1, none⟩ = some (.int .u64 2097152) ∧ w.cell? ⟨0, 2, none⟩ = some (.int .u64 1073741824)
theorem TabS.below {w w' : World} {n : Nat} (h : TabS w) (b : Below n w w') (hn : w.heap.size ≤ n) : TabS w' := by
  obtain ⟨h0, h1, h2⟩ := h
  have k : 0 < w.heap.size := block_lt_of_cell h0
  exact ⟨(b.cell (p := ⟨0, 0, none⟩) (Nat.lt_of_lt_of_le k hn)).trans h0, (b.cell (p := ⟨0, 1, none⟩) (Nat.lt_of_lt_of_le k hn)).trans h1, (b.cell (p := ⟨0, 2, none⟩) (Nat.lt_of_lt_of_le k hn)).trans h2⟩
/-- all that the program's text lays in the package-level variables that this seat's rows list -/
def G (w : World) : Prop := TabS w
theorem G.tabS {w : World} (h : G w) : TabS w := h
theorem G.below {w w' : World} {n : Nat} (h : G w) (b : Below n w w') (hn : w.heap.size ≤ n) : G w' := TabS.below h b hn
theorem G.drewN {w : World} (h : G w) (n : Nat) : G (w.drewN n) := h
theorem G.alloc {w : World} (h : G w) (o : Obj) : G (w.alloc o) := h.below ((Below.refl w.heap.size w).alloc (Nat.le_refl _) o) (Nat.le_refl _)
theorem G.to {w w' : World} (h : G w) (b : Below w.heap.size w w') : G w' := h.below b (Nat.le_refl _)
end Go.Proofs.YtjgnckhbafgalaaDoor.Base
