/- Texts of this claim, one behind the other: AxO, Bv, VaSpec, Base, MemC, BitsC, MemC2, CloneCell, DeleteCell, InsertCell, InsertCell2, PutC, MemC3, GrowCell, ConcatCell, ClearC, TableC, MemNewC, PoolC, PoolC2, PoolC3, TzC, PoolC4, TableC2, TableC3, TableC4, AsidC, AsidC2, TlbNewC, VaC, PteSpec, PteC, PteC2, PteC3, PteC4, CloneSpace, GrowSpace, ConcatSpace, OkS, SpA, SpB. -/
import Derived.Test.YtomeaibdedaldaaGreatDoorV1
import Derived.RowKit
import Derived.Laws.Entries
import Derived.Laws.BitsLemmas
import Derived.Test.YtomeaibdedaldaaGreatDoorProg
import Derived.Below
import Derived.WalkKit
import Derived.OwnWalk
import Derived.KernelRfl
import Derived.Laws.Rows
import Derived.Lib.Hide
import Derived.Deep.RegionWith
import Derived.Deep.QuietTactic
import Derived.BigQuiet
import Derived.Deep.LoopGhost
import Derived.StillTailTactics
import Derived.Outline
import Derived.Lib.SliceRun
import Derived.Lib.Overlaps
import Derived.Lib.AppendZerosOnto
import Derived.Laws.Externs
import Derived.Lib.JoinLaws
import Derived.Lib.Walk
import Derived.Laws.AppendOwnNone
import Derived.Shelf.Spec.TrailingZeros
import Derived.Laws.StructEq
import Derived.Laws.OwnMore
set_option linter.unusedVariables false
set_option linter.unusedSimpArgs false
namespace Go.Proofs.YtomeaibdedaldaaGreatDoor.Ax
open Go.RowKit MemL RegR
def z43 : Op → Operand
  | .load _ x => x
  | .store _ x _ => x
  | .fieldAddr _ x _ => x
  | .indexAddr _ x _ => x
  | _ => .const undef
def z44 : AV → Nat
  | .m (.c (.p _ _)) => 1
  | .m (.c (.o _)) => 2
  | .m (.c (.q _)) => 3
  | .m (.c (.s _ _ _)) => 4
  | .m (.c (.rp _ _)) => 5
  | .m (.c (.bs _ _ _)) => 6
  | _ => 0
variable {P : Program} {X : Cx} {S : St} {ops : Array Oper} {R : St → Prop} {anc : Nat → Nat → Bool} {i : Nat} {r : List Nat} {T : List (Nat × List Rd × List Rd)} {o : Oper}
def z45 : Op → Nat
  | .move .. | .assign .. => 1
  | .load .. => 2
  | .fieldAddr .. => 3
  | .binOp .eql .. | .binOp .neq .. | .binOp .lss .. | .binOp .leq .. | .binOp .gtr .. | .binOp .geq .. => 4
  | .binOp .. => 13
  | .pick .. => 5
  | .store .. => 6
  | .call .. => 7
  | .box .. | .alloc .. => 8
  | .extract .. | .field .. | .index .. => 9
  | .indexAddr .. => 10
  | .convert .. | .unOp .. | .build .. | .nilCheck .. => 11
  | .buildSlice .. | .makeFunc .. => 12
  | _ => 0
theorem zdk {P : Program} {ops : Array Oper} {X : Cx} {o : Oper} {S : St} {e : Ef} (n : Nat) (_ : z44 (S.ev (z43 o.op)) = n) (h : za4 P ops X o S e) : za4 P ops X o S e := h
theorem zc6 {P : Program} {ops : Array Oper} {X : Cx} {o : Oper} {S : St} {e : Ef} (n : Nat) (_ : z45 o.op = n) (h : za4 P ops X o S e) : za4 P ops X o S e := h
theorem zzz {P : Program} {ops : Array Oper} {X : Cx} {o : Oper} {S : St} {e : Ef} (_ : o.guard.isSome = true) (h : za4 P ops X o S e) : za4 P ops X o S e := h
theorem zak {P : Program} {ops : Array Oper} {X : Cx} {o : Oper} {S : St} {R : St → Prop} {anc : Nat → Nat → Bool} {r : List Nat} {T : List (Nat × List Rd × List Rd)} {i : Nat} {e : Ef} (h : Go P ops X R anc r ((i, e.up.map ze0, e.rd) :: T) (S.app o.dst e))
    (hv : za4 P ops X o S e ∧ (T.all fun p => zyl p.2.1 p.2.2 (e.up.map ze0) e.rd || anc p.1 i) = true := by
      apply And.intro
      first
        | (apply zzz rfl; exact zrq rfl)
        | (apply zc6 1 rfl; first
            | exact zp9 (.inl rfl) rfl
            | exact zp9 (.inr rfl) rfl)
        | (apply zc6 2 rfl; first
            | exact zdk 1 rfl (zmu tb rfl rfl rfl rfl rfl (by first | kernel_rfl | rfl))
            | exact zdk 3 rfl (zmv tb rfl rfl rfl rfl (by first | kernel_rfl | rfl))
            | exact zdk 5 rfl (zk4 tb rfl rfl rfl rfl rfl rfl))
        | (apply zc6 3 rfl; first
            | exact zdk 1 rfl (zoo tb rfl rfl rfl (by kernel_rfl))
            | exact zdk 3 rfl (zop tb rfl rfl rfl rfl)
            | exact zdk 5 rfl (zmy tb rfl rfl rfl rfl))
        | (apply zc6 4 rfl; first
            | exact ztl rfl rfl rfl rfl (by first | exact .eql1 (by omega) | exact .eql0 (by omega) | exact .neq1 (by omega) | exact .neq0 (by omega) | exact .lss1 (by omega) | exact .lss0 (by omega) | exact .leq1 (by omega) | exact .leq0 (by omega) | exact .gtr1 (by omega) | exact .gtr0 (by omega) | exact .geq1 (by omega) | exact .geq0 (by omega) | constructor)
            | exact ztr rfl rfl rfl rfl rfl
            | exact zts rfl rfl rfl rfl rfl)
        | (apply zc6 6 rfl; first
            | exact zdk 1 rfl (zgm rfl rfl rfl rfl rfl rfl (by first | kernel_rfl | rfl) rfl)
            | exact zdk 5 rfl (zj3 rfl rfl rfl rfl rfl rfl rfl rfl rfl (by first | omega | (simp; omega)) rfl))
        | (apply zc6 8 rfl; first
            | exact zti rfl rfl rfl rfl rfl rfl
            | exact zos rfl rfl rfl rfl rfl)
        | (apply zc6 5 rfl; exact zrr rfl rfl rfl)
        | (apply zc6 9 rfl; first
            | exact zk0 rfl rfl rfl rfl
            | exact zoh tb rfl rfl rfl rfl rfl rfl
            | exact zow tb rfl rfl rfl rfl rfl rfl (by omega) (by omega) rfl)
        | (apply zc6 10 rfl; first
            | exact zdk 4 rfl (zom rfl rfl rfl rfl rfl rfl (by omega) (by omega) _ (by assumption))
            | exact zdk 2 rfl (zon rfl rfl rfl rfl rfl rfl rfl (by omega) (by omega))
            | exact zdk 1 rfl (zol rfl rfl rfl rfl rfl rfl (by omega) (by omega))
            | exact zdk 6 rfl (zng rfl rfl rfl rfl rfl rfl (by omega) (by omega)))
        | (apply zc6 11 rfl; first
            | exact zwp rfl rfl rfl rfl rfl (by first | exact ztm (by omega) (by omega) | exact ztn (by omega) (by omega) | rfl)
            | exact ztq rfl rfl rfl
            | exact zoq rfl rfl rfl rfl
            | exact ztb rfl rfl rfl rfl)
        | (apply zc6 12 rfl; first
            | exact zm2 rfl rfl rfl rfl rfl rfl rfl rfl rfl rfl rfl
            | exact zld rfl rfl rfl rfl rfl rfl rfl
            | exact zse rfl rfl rfl
            | exact zj5 rfl rfl rfl rfl rfl rfl rfl rfl rfl rfl)
        | (apply zc6 13 rfl; first
            | exact zwo rfl rfl rfl rfl (by constructor) (by first | exact ztm (by omega) (by omega) | exact ztn (by omega) (by omega) | rfl)
            | exact zto rfl rfl rfl rfl (by omega) (by omega) (by first | exact ztm (by omega) (by omega) | exact ztn (by omega) (by omega))
            | exact ztp rfl rfl rfl rfl (by omega) (by omega))
        | (apply zc6 7 rfl; first
            | exact zoi rfl rfl rfl rfl
            | exact zok rfl rfl rfl rfl rfl
            | exact zoj rfl rfl rfl rfl
            | exact znh rfl rfl rfl rfl)
      first
        | kernel_rfl
        | exact rfl
    ) : Nxt P ops X anc R T S i r o := zrv hv.1 hv.2 h
end Go.Proofs.YtomeaibdedaldaaGreatDoor.Ax
namespace Go.Proofs.YtomeaibdedaldaaGreatDoor.Bv
open Go.RowKit
def B (x : BitVec 64) : Int := (x.toNat : Int)
theorem z46 (x : BitVec 64) : B x < 18446744073709551616 := by have := x.isLt; unfold B; omega
theorem zle (x : BitVec 64) : 0 ≤ B x := by unfold B; omega
theorem z20 {a : Int} (h : (Lit.int .u64 a).wf = true) : 0 ≤ a ∧ a < 18446744073709551616 := by
  simp [Lit.wf, IntKind.min, IntKind.max, IntKind.bits, IntKind.signed] at h; omega
theorem wrap_u64 (n : Int) : IntKind.u64.wrap n = n % 18446744073709551616 := by simp [IntKind.wrap, IntKind.bits, IntKind.signed]
theorem zty (x : BitVec 64) : IntKind.u64.wrap (B x) = B x := by rw [wrap_u64]; have := z46 x; have := zle x; omega
theorem zoy (x : BitVec 64) : BitVec.ofInt 64 (B x) = x := by
  apply BitVec.eq_of_toNat_eq; unfold B; rw [BitVec.ofInt_natCast, BitVec.toNat_ofNat]; exact Nat.mod_eq_of_lt x.isLt
theorem zfo (x : BitVec 64) : BitVec.ofInt (IntKind.bits .u64) (B x) = x := zoy x
theorem z21 (x y : BitVec 64) : Go.bits .and .u64 (B x) (B y) = B (x &&& y) := by
  show IntKind.u64.wrap _ = _
  rw [zfo, zfo]; exact zty _
theorem or_B (x y : BitVec 64) : Go.bits .or .u64 (B x) (B y) = B (x ||| y) := by
  show IntKind.u64.wrap _ = _
  rw [zfo, zfo]; exact zty _
theorem zws (x y : BitVec 64) : Go.bits .andNot .u64 (B x) (B y) = B (x &&& ~~~y) := by
  show IntKind.u64.wrap _ = _
  rw [zfo, zfo]; exact zty _
theorem z22 (x : BitVec 64) (n : Nat) : IntKind.u64.wrap (B x * 2 ^ min n 64) = B (x <<< n) := by
  rw [wrap_u64]; unfold B
  rw [BitVec.toNat_shiftLeft, Nat.shiftLeft_eq]
  by_cases h : n ≤ 64
  · rw [Nat.min_eq_left h, show ((2 : Int) ^ n) = ((2 ^ n : Nat) : Int) by norm_cast]; omega
  · rw [Nat.min_eq_right (by omega)]
    have e : x.toNat * 2 ^ n = (x.toNat * 2 ^ (n - 64)) * 2 ^ 64 := by rw [Nat.mul_assoc, ← Nat.pow_add]; congr 2; omega
    rw [e, Nat.mul_mod_left]; omega
theorem z47 (x : BitVec 64) (n : Nat) : B x / 2 ^ min n 64 = B (x >>> n) := by
  unfold B
  rw [BitVec.toNat_ushiftRight, Nat.shiftRight_eq_div_pow]
  by_cases h : n ≤ 64
  · rw [Nat.min_eq_left h]; norm_cast
  · rw [Nat.min_eq_right (by omega)]
    have hx := x.isLt
    have h1 : 2 ^ 64 ≤ 2 ^ n := Nat.pow_le_pow_right (by decide) (by omega)
    rw [Nat.div_eq_of_lt (Nat.lt_of_lt_of_le hx h1)]; omega
theorem zwt (x : BitVec 64) : wrap64 (B x) = x.toInt := by
  unfold B wrap64; rw [BitVec.toInt_eq_toNat_bmod, Int.bmod_def]; have := x.isLt; split <;> omega
theorem zrz (x : BitVec 64) : IntKind.u64.wrap x.toInt = B x := by
  rw [wrap_u64, BitVec.toInt_eq_toNat_bmod, Int.bmod_def]; have := x.isLt; unfold B; split <;> omega
theorem z23 (x : BitVec 64) (n : Nat) : IntKind.u64.wrap (x.toInt / 2 ^ min n (IntKind.bits .i64)) = B (x.sshiftRight n) := by
  rw [← zrz, BitVec.toInt_sshiftRight, Int.shiftRight_eq_div_pow, show IntKind.bits .i64 = 64 from rfl]
  by_cases h : n ≤ 64
  · rw [Nat.min_eq_left h]; norm_cast
  · rw [Nat.min_eq_right (by omega)]
    have h1 := BitVec.toInt_lt (x := x)
    have h2 := BitVec.le_toInt x
    have h3 : 2 ^ 64 ≤ 2 ^ n := Nat.pow_le_pow_right (by decide) (by omega)
    by_cases h0 : 0 ≤ x.toInt
    · rw [Int.ediv_eq_zero_of_lt h0 (by omega), Int.ediv_eq_zero_of_lt h0 (by omega)]
    · have e : ∀ m : Int, 2 ^ 63 ≤ m → x.toInt / m = -1 := by
        intro m hm
        have := Int.ediv_mul_le x.toInt (b := m) (by omega)
        rw [Int.ediv_eq_iff_of_pos (by omega)]; omega
      rw [e _ (by omega), e _ (by omega)]
def mB (n : Nat) : BitVec 64 := BitVec.ofNat 64 (2 ^ n - 1)
theorem zyp (n i : Nat) : (mB n).getLsbD i = (decide (i < 64) && decide (i < n)) := by
  unfold mB; rw [BitVec.getLsbD_ofNat, Nat.testBit_two_pow_sub_one]
theorem z24 (n : Nat) (h : n < 64) : B (mB n) = 2 ^ n - 1 := by
  unfold mB B; rw [BitVec.toNat_ofNat]
  have h1 : 2 ^ n < 2 ^ 64 := Nat.pow_lt_pow_right (by decide) h
  have h2 := Nat.two_pow_pos n
  rw [Nat.mod_eq_of_lt (by omega)]
  rw [Int.natCast_sub (by omega)]; norm_cast
theorem mB_64 : B (mB 64) = 18446744073709551615 := by decide +kernel
def zoa (w : BitVec 64) (lo n : Nat) : BitVec 64 := (w >>> lo) &&& mB n
def zsx (w : BitVec 64) (lo n : Nat) (v : BitVec 64) : BitVec 64 := (w &&& ~~~(mB n <<< lo)) ||| ((v <<< lo) &&& (mB n <<< lo))
def zr0 (w : BitVec 64) (n : Nat) : BitVec 64 := (w <<< (64 - n)).sshiftRight (64 - n)
theorem zfp (w : BitVec 64) (lo n i : Nat) : (zoa w lo n).getLsbD i = (decide (i < n) && w.getLsbD (lo + i)) := by
  unfold zoa; rw [BitVec.getLsbD_and, BitVec.getLsbD_ushiftRight, zyp]
  by_cases h : i < 64
  · simp [h, Bool.and_comm]
  · rw [BitVec.getLsbD_of_ge w (lo + i) (by omega)]; simp
theorem zel (w v : BitVec 64) (lo n i : Nat) : (zsx w lo n v).getLsbD i = (decide (i < 64) && (if lo ≤ i ∧ i < lo + n then v.getLsbD (i - lo) else w.getLsbD i)) := by
  unfold zsx
  rw [BitVec.getLsbD_or, BitVec.getLsbD_and, BitVec.getLsbD_and, BitVec.getLsbD_not, BitVec.getLsbD_shiftLeft, BitVec.getLsbD_shiftLeft, zyp]
  by_cases h : i < 64
  · by_cases h1 : lo ≤ i
    · by_cases h2 : i < lo + n
      · simp [h, h1, h2, show ¬ i < lo by omega, show i - lo < 64 by omega, show i - lo < n by omega]
      · simp [h, h1, h2, show ¬ i < lo by omega, show ¬ i - lo < n by omega]
    · simp [h, h1, show i < lo by omega]
  · simp [h]
theorem ztz (w : BitVec 64) (n i : Nat) (h1 : 1 ≤ n) (h : n ≤ 64) : (zr0 w n).getLsbD i = (decide (i < 64) && w.getLsbD (min i (n - 1))) := by
  unfold zr0
  rw [BitVec.getLsbD_sshiftRight]
  by_cases hi : i < 64
  · by_cases hj : 64 - n + i < 64
    · simp [hi, hj, show ¬ 64 ≤ i by omega, BitVec.getLsbD_shiftLeft, show ¬ 64 - n + i < 64 - n by omega, show 64 - n + i - (64 - n) = i by omega, Nat.min_eq_left (show i ≤ n - 1 by omega)]
    · simp [hi, hj, show ¬ 64 ≤ i by omega, BitVec.msb_eq_getLsbD_last, BitVec.getLsbD_shiftLeft, show ¬ 63 < 64 - n by omega, show 63 - (64 - n) = n - 1 by omega, Nat.min_eq_right (show n - 1 ≤ i by omega), BitVec.getLsbD_eq_getElem (show n - 1 < 64 by omega)]
  · simp [hi, show 64 ≤ i by omega]
theorem tm (n k : Nat) : Int.tmod (n : Int) (k : Int) = ((n % k : Nat) : Int) := rfl
theorem wa (a b : Nat) (h : a + b < 9223372036854775808) : wrap64 ((a : Int) + (b : Int)) = ((a + b : Nat) : Int) := by unfold wrap64; omega
end Go.Proofs.YtomeaibdedaldaaGreatDoor.Bv
namespace Go.Proofs.YtomeaibdedaldaaGreatDoor.VaSpec
open Go.RowKit Bv
def bI (b : Bool) : Int := if b then 1 else 0
theorem zey (b : Bool) : 0 ≤ bI b ∧ bI b ≤ 1 := by cases b <;> decide
def sz (l : Int) : Int := if l = 0 then 4096 else if l = 1 then 2097152 else 1073741824
def isv (a : Int) : Bool := decide (a < 274877906944) || decide (18446743798831644672 ≤ a)
def idx (a l : Int) : Int := a / sz l % 512
def num (a : Int) : Int := a / 4096 % 134217728
def zh3 (m : Int) : Int := if m < 274877906944 then m else m + 18446743523953737728
def ofv (n : Int) : Int := zh3 (n % 134217728 * 4096)
def off (a l : Int) : Int := a % sz l
def base (a l : Int) : Int := a - a % sz l
def zhw (a l : Int) : Bool := isv a && (off a l == 0)
theorem lev {l : Int} (h0 : 0 ≤ l) (h2 : l ≤ 2) : l = 0 ∨ l = 1 ∨ l = 2 := by omega
theorem sz_pos (l : Int) : 0 < sz l := by unfold sz; split; decide; split <;> decide
theorem zz0 (l : Int) : sz l ≠ 0 := by have := sz_pos l; omega
theorem z48 (l : Int) : sz l ≤ 1073741824 := by unfold sz; split; decide; split <;> decide
theorem zm5 {a : Int} (h0 : 0 ≤ a) (h : a < 18446744073709551616) : ∃ x, a = B x := ⟨BitVec.ofNat 64 a.toNat, by unfold B; rw [BitVec.toNat_ofNat]; omega⟩
theorem zqh (x : BitVec 64) (lo n : Nat) (hn : n ≤ 64) : B (zoa x lo n) = B x / 2 ^ lo % 2 ^ n := by
  unfold zoa B mB
  rw [BitVec.toNat_and, BitVec.toNat_ushiftRight, BitVec.toNat_ofNat, Nat.shiftRight_eq_div_pow]
  have h1 : 2 ^ n ≤ 2 ^ 64 := Nat.pow_le_pow_right (by decide) hn
  have h2 := Nat.two_pow_pos n
  rw [Nat.mod_eq_of_lt (show 2 ^ n - 1 < 2 ^ 64 by omega), Nat.and_two_pow_sub_one_eq_mod]
  norm_cast
theorem zwu (x : BitVec 64) : B (zr0 x 39) = zh3 (B x % 549755813888) := by
  have e : zr0 x 39 = (x.setWidth 39).signExtend 64 := by
    apply BitVec.eq_of_getLsbD_eq; intro i hi
    rw [ztz x 39 i (by omega) (by omega), BitVec.getLsbD_signExtend, BitVec.msb_eq_getLsbD_last]
    simp only [BitVec.getLsbD_setWidth]
    by_cases h : i < 39
    · simp [h, hi, Nat.min_eq_left (show i ≤ 38 by omega)]
    · simp [h, hi, Nat.min_eq_right (show 38 ≤ i by omega)]
  rw [e]; unfold B
  rw [BitVec.toNat_signExtend, BitVec.msb_eq_decide]
  simp only [BitVec.toNat_setWidth]
  have := x.isLt
  unfold zh3
  simp only [decide_eq_true_eq]
  split <;> split <;> simp at * <;> omega
theorem zlf (v : BitVec 64) (lo n : Nat) (h : lo + n ≤ 64) : B (zsx 0#64 lo n v) = B v % 2 ^ n * 2 ^ lo := by
  have e : zsx 0#64 lo n v = zoa v 0 n <<< lo := by
    apply BitVec.eq_of_getLsbD_eq; intro i hi
    rw [zel, BitVec.getLsbD_shiftLeft, zfp]; simp; grind
  rw [e]
  have h1 : B (zoa v 0 n) = B v % 2 ^ n := by rw [zqh v 0 n (by omega)]; simp
  rw [← h1]; unfold B at *
  rw [BitVec.toNat_shiftLeft, Nat.shiftLeft_eq]
  have h2 : (zoa v 0 n).toNat < 2 ^ n := by
    have : ((zoa v 0 n).toNat : Int) < 2 ^ n := by rw [h1]; exact Int.emod_lt_of_pos _ (by exact_mod_cast Nat.two_pow_pos n)
    exact_mod_cast this
  have h3 : (zoa v 0 n).toNat * 2 ^ lo < 2 ^ n * 2 ^ lo := Nat.mul_lt_mul_of_pos_right h2 (Nat.two_pow_pos lo)
  have h4 : 2 ^ n * 2 ^ lo ≤ 2 ^ 64 := by rw [← Nat.pow_add]; exact Nat.pow_le_pow_right (by decide) (by omega)
  rw [Nat.mod_eq_of_lt (by omega)]; norm_cast
theorem zoz (a : Int) (i : Nat) (hi : i ≤ 64) (h0 : 0 ≤ a) (h : a < 18446744073709551616) : Go.bits .and .u64 a (2 ^ i - 1) = a % 2 ^ i :=
  bits_mask .u64 64 (by decide) (fun n h0 h1 => by rw [wrap_u64]; omega) i hi a h0 (by omega)
theorem zo0 (a : Int) (h0 : 0 ≤ a) (h1 : a < 18446744073709551616) : (zh3 (a % 549755813888) == a) = isv a := by
  unfold isv zh3
  by_cases h : a % 549755813888 < 274877906944
  · rw [if_pos h]
    by_cases k : a < 274877906944
    · rw [decide_eq_true k, Bool.true_or, beq_iff_eq]; omega
    · rw [decide_eq_false k, Bool.false_or, decide_eq_false (by omega), beq_eq_false_iff_ne]; omega
  · rw [if_neg h]
    rw [decide_eq_false (by omega), Bool.false_or]
    by_cases k : 18446743798831644672 ≤ a
    · rw [decide_eq_true k, beq_iff_eq]; omega
    · rw [decide_eq_false k, beq_eq_false_iff_ne]; omega
end Go.Proofs.YtomeaibdedaldaaGreatDoor.VaSpec
namespace Go.Proofs.YtomeaibdedaldaaGreatDoor.Base
open Go.RowKit Bv VaSpec
structure Q (w w' : World) : Prop where mk :: (out : ∃ n, w' = w.drewN n)
theorem Q.refl (w : World) : Q w w := ⟨⟨0, rfl⟩⟩
theorem Q.step {w w' : World} (h : Q w w') (n : Nat) : Q w (w'.drewN n) := by
  obtain ⟨m, rfl⟩ := h; exact ⟨⟨m + n, by rw [World.drewN_drewN]⟩⟩
theorem Q.trans {a b c : World} (h : Q a b) (k : Q b c) : Q a c := by
  obtain ⟨n, rfl⟩ := h; obtain ⟨m, rfl⟩ := k; exact Q.step ⟨n, rfl⟩ m
theorem zhx {B : Nat} {a w : World} (h : Below B a w) (n : Nat) : Below B a (w.drewN n) := ⟨h.os, h.tape, h.output, h.size, h.block⟩
theorem Q.below {w w' : World} (h : Q w w') : Below w.heap.size w w' := by
  obtain ⟨n, rfl⟩ := h; exact zhx (Below.refl _ _) n
theorem zo1 {W w1 : World} {n : Nat} (hb : Below n W w1) : (∀ b o, b < n → w1.cell? ⟨b, o, none⟩ = W.cell? ⟨b, o, none⟩) ∧ (∀ b o, b < n → w1.frozen? ⟨b, o, none⟩ = W.frozen? ⟨b, o, none⟩) :=
  ⟨fun b o h => hb.cell (p := ⟨b, o, none⟩) h, fun b o h => hb.frozen (p := ⟨b, o, none⟩) h⟩
theorem zbe {W w : World} (h : Below W.heap.size W w) (n : Nat) : Below W.heap.size W (w.drewN n) := zhx h n
theorem zaq {W w : World} (h : Below W.heap.size W w) (o : Obj) : Below W.heap.size W (w.alloc o) := h.alloc h.size o
theorem zaw {W w w' : World} (h : Below W.heap.size W w) (k : Below w.heap.size w w') : Below W.heap.size W w' := h.trans (k.mono h.size)
theorem zal {W w : World} (b o : Nat) (v : Value) (hb : W.heap.size ≤ b) (h : Below W.heap.size W w) : Below W.heap.size W (w.setCell ⟨b, o, none⟩ v) := h.setCell hb v
theorem Q.bel {W w w' : World} (h : Below W.heap.size W w) (k : Q w w') : Below W.heap.size W w' := zaw h k.below
theorem zr1 {P : Program} {id : Nat} {Q : Exit → Act → World → Prop} {a : Act} {w : World} {l : List Oper} (n : Nat) (hm : P.follows .mixedOrders = true) (hB : Region.lexTailB .any l.toArray n = true)
    (h : ∀ w2, w2 = w.drewN 1 → wpStill P l.toArray w2 (fun a' => wpList P l.toArray Q (l.drop n) a' w2) (l.take n) a) : (Code.region id l.toArray true).wp P Q a w :=
  wp_region_still_tail n hm hB (h (w.drewN 1) rfl)
theorem zm6 {P : Program} {id : Nat} {Q : Exit → Act → World → Prop} {a : Act} {w : World} {l : List Oper} (hm : P.follows .mixedOrders = true) (hB : Region.lexB .any l.toArray = true)
    (h : wpQuiet P l.toArray (fun w' => Below w.heap.size w w') (fun a' => ∀ w', Below w.heap.size w w' → Q .normal a' w') l a) : (Code.region id l.toArray true).wp P Q a w :=
  wp_region_quiet (C := fun w' => Below w.heap.size w w') hm hB ((Below.refl _ _).drew) (by simpa using h)
abbrev U (a : Int) : Prop := 0 ≤ a ∧ a < 18446744073709551616
theorem U.b0 {a : Int} (h : U a) : 0 ≤ a := h.1
theorem U.b1 {a : Int} (h : U a) : a < 18446744073709551616 := h.2
theorem U.of {a : Int} (h : (Lit.int .u64 a).wf = true) : U a := z20 h
theorem U.B (x : BitVec 64) : U (B x) := ⟨zle x, z46 x⟩
def X (a : Int) : BitVec 64 := BitVec.ofInt 64 a
theorem B_X {a : Int} (h : U a) : B (X a) = a := by
  obtain ⟨x, rfl⟩ := zm5 h.1 h.2; unfold X; rw [zoy]
theorem X_B (x : BitVec 64) : X (B x) = x := zoy x
def TabS (w : World) : Prop := w.cell? ⟨0, 0, none⟩ = some (.int .u64 4096) ∧ w.cell? ⟨0, 1, none⟩ = some (.int .u64 2097152) ∧ w.cell? ⟨0, 2, none⟩ = some (.int .u64 1073741824)
theorem TabS.below {w w' : World} {n : Nat} (h : TabS w) (b : Below n w w') (hn : w.heap.size ≤ n) : TabS w' := by
  obtain ⟨h0, h1, h2⟩ := h
  have k : 0 < w.heap.size := block_lt_of_cell h0
  exact ⟨(b.cell (p := ⟨0, 0, none⟩) (Nat.lt_of_lt_of_le k hn)).trans h0, (b.cell (p := ⟨0, 1, none⟩) (Nat.lt_of_lt_of_le k hn)).trans h1, (b.cell (p := ⟨0, 2, none⟩) (Nat.lt_of_lt_of_le k hn)).trans h2⟩
def G (w : World) : Prop := TabS w
theorem G.tabS {w : World} (h : G w) : TabS w := h
theorem G.below {w w' : World} {n : Nat} (h : G w) (b : Below n w w') (hn : w.heap.size ≤ n) : G w' := TabS.below h b hn
theorem G.drewN {w : World} (h : G w) (n : Nat) : G (w.drewN n) := h
theorem G.alloc {w : World} (h : G w) (o : Obj) : G (w.alloc o) := h.below ((Below.refl w.heap.size w).alloc (Nat.le_refl _) o) (Nat.le_refl _)
theorem G.to {w w' : World} (h : G w) (b : Below w.heap.size w w') : G w' := h.below b (Nat.le_refl _)
end Go.Proofs.YtomeaibdedaldaaGreatDoor.Base
namespace Go.Proofs.YtomeaibdedaldaaGreatDoor.MemC
open Go.RowKit Bv Base MemL
def zwg (a b : Int) : Int := if a < b then -1 else if b < a then 1 else 0
theorem zgb (a : Int) (W : World) : Calls Tryz.prog 204 #[.int .u64 a] W fun e w' => e = .returned (.bool false) ∧ Q W w' := by
  go_enter Tryz.func204, Tryz.ntmps204
  go_wp2
  go_ret
  exact ⟨rfl, Q.refl _⟩
theorem zt0 (a b : Int) (W : World) : Calls Tryz.prog 198 #[.int .u64 a, .int .u64 b] W fun e w' => e = .returned (.int .i64 (zwg a b)) ∧ Q W w' := by
  have H := Lib.hid (show zwg a b = if a < b then -1 else if b < a then 1 else 0 from rfl)
  by_cases h1 : a < b
  · go_enter Tryz.func198, Tryz.ntmps198
    go_wp2_with (go_at_call 204; (with_reducible refine (zgb _ _).mono ?_); rintro e w' ⟨rfl, ⟨nd, rfl⟩⟩)
    go_ret
    exact ⟨congrArg (fun z => Ending.returned (.int .i64 z)) (by rw [H.out, if_pos h1]), by repeat (first | exact Q.refl _ | apply Q.step)⟩
  · by_cases h2 : b < a
    · go_enter Tryz.func198, Tryz.ntmps198
      go_wp2_with (go_at_call 204; (with_reducible refine (zgb _ _).mono ?_); rintro e w' ⟨rfl, ⟨nd, rfl⟩⟩)
      go_ret
      exact ⟨congrArg (fun z => Ending.returned (.int .i64 z)) (by rw [H.out, if_neg (by omega), if_pos (by omega)]), by repeat (first | exact Q.refl _ | apply Q.step)⟩
    · go_enter Tryz.func198, Tryz.ntmps198
      go_wp2_with (go_at_call 204; (with_reducible refine (zgb _ _).mono ?_); rintro e w' ⟨rfl, ⟨nd, rfl⟩⟩)
      go_ret
      exact ⟨congrArg (fun z => Ending.returned (.int .i64 z)) (by rw [H.out, if_neg (by omega), if_neg (by omega)]), by repeat (first | exact Q.refl _ | apply Q.step)⟩
theorem zi5 (a v b : Int) (W : World) : Calls Tryz.prog 197 #[.agg #[.int .u64 a, .int .u64 v], .int .u64 b] W fun e w' => e = .returned (.int .i64 (zwg a b)) ∧ Below W.heap.size W w' := by
  go_enter Tryz.func197, Tryz.ntmps197
  go_wp2_with (go_at_call 198; (with_reducible refine (zt0 _ _ _).mono ?_); rintro e w' ⟨rfl, hq⟩)
  go_ret
  exact ⟨rfl, Q.bel (zaq (Below.refl _ _) _) hq⟩
def lb : List (Int × Int) → Int → Nat
  | [], _ => 0
  | c :: cs, t => if c.1 < t then lb cs t + 1 else 0
def has (xs : List (Int × Int)) (t : Int) : Bool := match xs[lb xs t]? with | some c => c.1 == t | none => false
def Srt (xs : List (Int × Int)) : Prop := xs.Pairwise (fun a b => a.1 < b.1)
theorem zt1 (xs : List (Int × Int)) (t : Int) : lb xs t ≤ xs.length := by
  induction xs with
  | nil => simp [lb]
  | cons c cs ih => simp only [lb]; split <;> simp <;> omega
theorem zz1 (xs : List (Int × Int)) (t : Int) (hs : Srt xs) (h : Nat) (hh : h < xs.length) : xs[h].1 < t ↔ h < lb xs t := by
  induction xs generalizing h with
  | nil => simp at hh
  | cons c cs ih =>
    simp only [lb]
    have hs' := List.pairwise_cons.1 hs
    cases h with
    | zero => simp; split <;> simp_all
    | succ h =>
      simp only [List.length_cons] at hh
      simp only [List.getElem_cons_succ]
      split
      · rw [ih hs'.2 h (by omega)]; omega
      · have := hs'.1 cs[h] (List.getElem_mem _)
        constructor
        · intro k; omega
        · intro k; omega
def fl (xs : List (Int × Int)) : List Value := xs.flatMap fun c => [.int .u64 c.1, .int .u64 c.2]
theorem zhe (c : Int × Int) (cs : List (Int × Int)) : fl (c :: cs) = .int .u64 c.1 :: .int .u64 c.2 :: fl cs := rfl
theorem zi6 (xs : List (Int × Int)) : (fl xs).length = xs.length * 2 := by
  induction xs with
  | nil => rfl
  | cons c cs ih => rw [zhe]; simp only [List.length_cons, ih]; omega
theorem z49 (p q : Nat) (hp : (p : Int) ≤ 9223372036854775807) (hq : (q : Int) ≤ 9223372036854775807) : wrap64 (IntKind.u64.wrap (wrap64 ((p : Int) + (q : Int))) / 2) = (((p + q) / 2 : Nat) : Int) := by
  rw [wrap_u64]; unfold wrap64; omega
theorem zz2 (xs : List (Int × Int)) (h : Nat) (hh : h < xs.length) : (fl xs)[h * 2]? = some (.int .u64 xs[h].1) ∧ (fl xs)[h * 2 + 1]? = some (.int .u64 xs[h].2) := by
  induction xs generalizing h with
  | nil => simp at hh
  | cons c cs ih =>
    cases h with
    | zero => simp [fl]
    | succ h =>
      simp only [List.length_cons] at hh
      obtain ⟨h1, h2⟩ := ih h (by omega)
      have e1 : (h + 1) * 2 = h * 2 + 1 + 1 := by omega
      have e2 : (h + 1) * 2 + 1 = (h * 2 + 1) + 1 + 1 := by omega
      simp only [fl, List.flatMap_cons] at *
      exact ⟨by rw [e1]; simpa using h1, by rw [e2]; simpa using h2⟩
set_option maxHeartbeats 2000000 in
theorem zm7 (v : Value) (xs : List (Int × Int)) (t : Int) (W : World) (hs : Srt xs) (hv : Sl W v xs.length 2 (fl xs)) :
    Calls Tryz.prog 196 #[v, .int .u64 t, .func (.func 197) #[] #[]] W fun e w' => e = .returned (.tuple #[.int .i64 (lb xs t), .bool (has xs t)]) ∧ Below W.heap.size W w' := by
  obtain ⟨_, hv⟩ := hv
  rcases hv with ⟨rfl, hn⟩ | ⟨b, o, cap, rfl, hb, hcap, hmax, hcell⟩
  · obtain rfl := List.eq_nil_of_length_eq_zero hn
    go_enter Tryz.func196, Tryz.ntmps196
    go_wp2
    go_loopw [9, 10] (fun i j wr => i = .int .i64 0 ∧ j = .int .i64 0 ∧ Below W.heap.size W wr) (fun i j _ => (intOf j - intOf i).toNat)
    case atStart => exact ⟨rfl, rfl, Below.refl _ _⟩
    case round =>
      obtain ⟨rfl, rfl, br⟩ := hrel
      go_wp2
      go_ret2
      exact ⟨rfl, br⟩
  · unfold maxLen at hmax
    go_enter Tryz.func196, Tryz.ntmps196
    go_wp2
    go_loopw [9, 10] (fun i j wr => ∃ p q : Nat, p ≤ lb xs t ∧ lb xs t ≤ q ∧ q ≤ xs.length ∧ i = .int .i64 p ∧ j = .int .i64 q ∧ Below W.heap.size W wr) (fun i j _ => (intOf j - intOf i).toNat)
    case atStart => exact ⟨0, xs.length, by omega, zt1 _ _, by omega, rfl, rfl, Below.refl _ _⟩
    case round =>
      obtain ⟨p, q, hp, hq, hqn, rfl, rfl, br⟩ := hrel
      obtain ⟨cr, _⟩ := zo1 br
      by_cases hlt : p < q
      · have hm := z49 p q (by omega) (by omega)
        have hh1 : p ≤ (p + q) / 2 := by omega
        have hh2 : (p + q) / 2 < q := by omega
        generalize (p + q) / 2 = h at hm hh1 hh2
        obtain ⟨c1, c2⟩ := zz2 xs h (by omega)
        have hl := zz1 xs t hs h (by omega)
        generalize xs[h] = c at c1 c2 hl
        obtain ⟨ca, cv⟩ := c
        simp only at c1 c2 hl
        have k1 := hcell (h * 2) (by omega)
        have k2 := hcell (h * 2 + 1) (by omega)
        rw [c1] at k1
        rw [c2] at k2
        clear c1 c2
        have r1 : wr.cell? ⟨b, o + h * 2, none⟩ = some (.int .u64 ca) := (cr _ _ hb).trans k1
        have r2 : wr.cell? ⟨b, o + h * 2 + 1, none⟩ = some (.int .u64 cv) := (cr _ _ hb).trans k2
        have HL := Lib.hid hl
        clear cr k1 k2 hl
        by_cases hc : ca < t
        · have e1 : zwg ca t = -1 := by unfold zwg; rw [if_pos hc]
          have hlb := HL.out.1 hc
          clear hc HL
          go_wp2_with fail
          refine (zi5 _ _ _ _).mono ?_
          rintro e w2 ⟨rfl, b2⟩
          rw [e1]
          go_wp2
          exact ⟨⟨h + 1, q, by omega, hq, hqn, by go_num, rfl, zaw br b2⟩, by simp [intOf]; omega⟩
        · have hlb : lb xs t ≤ h := by
            rcases Nat.lt_or_ge h (lb xs t) with k | k
            · exact absurd (HL.out.2 k) hc
            · exact k
          have e1 : zwg ca t = 0 ∨ zwg ca t = 1 := by unfold zwg; rw [if_neg hc]; split <;> simp
          clear hc HL
          go_wp2_with fail
          refine (zi5 _ _ _ _).mono ?_
          rintro e w2 ⟨rfl, b2⟩
          rcases e1 with e1 | e1 <;>
          · rw [e1]
            go_wp2
            exact ⟨⟨p, h, hp, hlb, by omega, rfl, rfl, zaw br b2⟩, by simp [intOf]; omega⟩
      · obtain rfl : p = q := by omega
        have hp' : lb xs t = p := by omega
        have H1 := Lib.hid (show has xs t = (match xs[p]? with | some c => c.1 == t | none => false) by unfold has; rw [hp'])
        have HP := Lib.hid hp'
        clear hp' hp hq
        by_cases hpl : p < xs.length
        · obtain ⟨c1, c2⟩ := zz2 xs p hpl
          have H2 := Lib.hid (show xs[p]? = some xs[p] from List.getElem?_eq_getElem hpl)
          generalize xs[p] = c at c1 c2 H2
          obtain ⟨ca, cv⟩ := c
          simp only at c1 c2
          have k1 := hcell (p * 2) (by omega)
          have k2 := hcell (p * 2 + 1) (by omega)
          rw [c1] at k1
          rw [c2] at k2
          have r1 : wr.cell? ⟨b, o + p * 2, none⟩ = some (.int .u64 ca) := (cr _ _ hb).trans k1
          have r2 : wr.cell? ⟨b, o + p * 2 + 1, none⟩ = some (.int .u64 cv) := (cr _ _ hb).trans k2
          have H3 : has xs t = (ca == t) := by rw [H1.out, H2.out]
          have HH := Lib.hid H3
          clear c1 c2 cr k1 k2 H3 H1 H2
          have hz : ((zwg ca t) == 0) = (ca == t) := by
            unfold zwg; rw [Bool.eq_iff_iff]; simp only [beq_iff_eq]
            split
            · omega
            · split <;> omega
          go_wp2_with fail
          refine (zi5 _ _ _ _).mono ?_
          rintro e w2 ⟨rfl, b2⟩
          go_wp2
          go_ret2
          exact ⟨by rw [HP.out, HH.out]; first | rfl | rw [hz] | simp [hz], zaw br b2⟩
        · have H2 : has xs t = false := by rw [H1.out, List.getElem?_eq_none (by omega)]
          have HH := Lib.hid H2
          clear H1 H2
          go_wp2
          go_ret2
          exact ⟨by rw [HP.out, HH.out]; rfl, br⟩
end Go.Proofs.YtomeaibdedaldaaGreatDoor.MemC
namespace Go.Proofs.YtomeaibdedaldaaGreatDoor.BitsC
open Go.RowKit Bv VaSpec Base
def zj4 (n : Int) : Int := B (mB n.toNat)
def zdo (a lo n : Int) : Int := B (zoa (X a) lo.toNat n.toNat)
def zbw (a lo n v : Int) : Int := B (zsx (X a) lo.toNat n.toNat (X v))
def zo2 (a n : Int) : Int := B (zr0 (X a) n.toNat)
def zem (a b : Int) : Bool := if b = 0 then a == 0 else a % b == 0
theorem zt2 (a lo n : Int) : U (zdo a lo n) := U.B _
theorem zex (a lo n v : Int) : U (zbw a lo n v) := U.B _
theorem zcm (a lo n : Int) (h : U a) (hn : n ≤ 64) : zdo a lo n = a / 2 ^ lo.toNat % 2 ^ n.toNat := by
  unfold zdo; rw [zqh _ _ _ (by omega), B_X h]
theorem zm8 (n : Int) (w : World) (h0 : 0 ≤ n) (h : n ≤ 64) : Calls Tryz.prog 165 #[.int .i64 n] w fun e w' => e = .returned (.int .u64 (zj4 n)) ∧ w' = w := by
  by_cases e : 64 ≤ n
  · obtain rfl : n = 64 := by omega
    go_enter Tryz.func165, Tryz.ntmps165
    go_wp2
    go_ret
    refine ⟨?_, rfl⟩
    exact congrArg (fun z => Ending.returned (.int .u64 z)) (by unfold zj4; exact mB_64.symm)
  · obtain ⟨k, rfl⟩ := Int.eq_ofNat_of_zero_le h0
    have hv := z24 k (by omega)
    have h1 : (2 : Int) ^ k = ((2 ^ k : Nat) : Int) := by norm_cast
    have h2 : 2 ^ k < 2 ^ 64 := Nat.pow_lt_pow_right (by decide) (by omega)
    have h3 := Nat.two_pow_pos k
    have H := Lib.hid (show IntKind.u64.wrap (IntKind.u64.wrap (2 ^ k) - 1) = zj4 (k : Int) by
      unfold zj4; rw [Int.toNat_natCast, hv, h1, wrap_u64, wrap_u64]; omega)
    clear hv h1 h2 h3
    go_enter Tryz.func165, Tryz.ntmps165
    go_wp2
    go_ret
    exact ⟨congrArg (fun z => Ending.returned (.int .u64 z)) H.out, rfl⟩
theorem zlg (a lo n : Int) (w : World) (ha : U a) (l0 : 0 ≤ lo) (l1 : lo ≤ 64) (h0 : 0 ≤ n) (h : n ≤ 64) : Calls Tryz.prog 158 #[.int .u64 a, .int .i64 lo, .int .i64 n] w fun e w' => e = .returned (.int .u64 (zdo a lo n)) ∧ w' = w := by
  obtain ⟨x, rfl⟩ := zm5 ha.1 ha.2
  obtain ⟨l, rfl⟩ := Int.eq_ofNat_of_zero_le l0
  have H := Lib.hid (show Go.bits .and .u64 (B x / 2 ^ l) (zj4 n) = zdo (B x) (l : Int) n by
    have h1 := z47 x l
    rw [Nat.min_eq_left (by omega)] at h1
    rw [h1]; unfold zj4 zdo; rw [z21, X_B, Int.toNat_natCast]; rfl)
  go_enter Tryz.func158, Tryz.ntmps158
  go_wp2_with (go_at_call 165; (with_reducible refine (zm8 _ _ h0 h).mono ?_); rintro e w' ⟨rfl, rfl⟩)
  go_ret
  exact ⟨congrArg (fun z => Ending.returned (.int .u64 z)) H.out, rfl⟩
theorem Q.of_same {w w' : World} (h : w' = w) : Q w w' := by subst h; exact Q.refl _
theorem zr2 (n : Int) (w : World) (h0 : 0 ≤ n) (h : n ≤ 64) : Calls Tryz.prog 165 #[.int .i64 n] w fun e w' => e = .returned (.int .u64 (zj4 n)) ∧ Q w w' := (zm8 n w h0 h).mono fun _ _ ⟨a, b⟩ => ⟨a, Q.of_same b⟩
theorem zcv (a lo n : Int) (w : World) (ha : U a) (l0 : 0 ≤ lo) (l1 : lo ≤ 64) (h0 : 0 ≤ n) (h : n ≤ 64) : Calls Tryz.prog 158 #[.int .u64 a, .int .i64 lo, .int .i64 n] w fun e w' => e = .returned (.int .u64 (zdo a lo n)) ∧ Q w w' := (zlg a lo n w ha l0 l1 h0 h).mono fun _ _ ⟨a, b⟩ => ⟨a, Q.of_same b⟩
theorem zec (a lo n v : Int) (w : World) (ha : U a) (hv : U v) (l0 : 0 ≤ lo) (l1 : lo ≤ 64) (h0 : 0 ≤ n) (h : n ≤ 64) : Calls Tryz.prog 111 #[.int .u64 a, .int .i64 lo, .int .i64 n, .int .u64 v] w fun e w' => e = .returned (.int .u64 (zbw a lo n v)) ∧ Q w w' := by
  obtain ⟨x, rfl⟩ := zm5 ha.1 ha.2
  obtain ⟨y, rfl⟩ := zm5 hv.1 hv.2
  obtain ⟨l, rfl⟩ := Int.eq_ofNat_of_zero_le l0
  have H := Lib.hid (show Go.bits .or .u64 (Go.bits .andNot .u64 (B x) (IntKind.u64.wrap (zj4 n * 2 ^ l))) (Go.bits .and .u64 (IntKind.u64.wrap (B y * 2 ^ l)) (IntKind.u64.wrap (zj4 n * 2 ^ l))) = zbw (B x) (l : Int) n (B y) by
    have h1 := fun z => z22 z l
    rw [Nat.min_eq_left (by omega)] at h1
    unfold zj4 zbw; rw [h1, h1, zws, z21, or_B, X_B, X_B, Int.toNat_natCast]; rfl)
  go_enter Tryz.func111, Tryz.ntmps111
  go_wp2_with (go_at_call 165; (with_reducible refine (zr2 _ _ h0 h).mono ?_); rintro e w' ⟨rfl, ⟨nd, rfl⟩⟩)
  go_ret
  refine ⟨?_, ⟨_, rfl⟩⟩
  exact congrArg (fun z => Ending.returned (.int .u64 z)) H.out
theorem zka (a n : Int) (w : World) (ha : U a) (h0 : 1 ≤ n) (h : n ≤ 64) : Calls Tryz.prog 110 #[.int .u64 a, .int .i64 n] w fun e w' => e = .returned (.int .u64 (zo2 a n)) ∧ Q w w' := by
  obtain ⟨x, rfl⟩ := zm5 ha.1 ha.2
  have H := Lib.hid (show IntKind.u64.wrap (wrap64 (IntKind.u64.wrap (B x * 2 ^ (64 - n).toNat)) / 2 ^ (64 - n).toNat) = zo2 (B x) n by
    have h1 := z22 x (64 - n).toNat
    have h2 := z23 (x <<< (64 - n).toNat) (64 - n).toNat
    rw [Nat.min_eq_left (by omega)] at h1
    rw [show IntKind.bits .i64 = 64 from rfl, Nat.min_eq_left (by omega)] at h2
    rw [h1, zwt, h2]; unfold zo2 zr0; rw [X_B, show (64 - n).toNat = 64 - n.toNat by omega])
  go_enter Tryz.func110, Tryz.ntmps110
  go_wp2
  go_ret
  refine ⟨?_, Q.refl _⟩
  exact congrArg (fun z => Ending.returned (.int .u64 z)) H.out
theorem zed (a b : Int) (w : World) (ha : U a) (hb : U b) : Calls Tryz.prog 56 #[.int .u64 a, .int .u64 b] w fun e w' => e = .returned (.bool (zem a b)) ∧ Q w w' := by
  obtain ⟨a0, a1⟩ := ha
  obtain ⟨b0, b1⟩ := hb
  by_cases e : b = 0
  · subst e
    have H := Lib.hid (show (a == 0) = zem a 0 from rfl)
    go_enter Tryz.func56, Tryz.ntmps56
    go_wp2
    go_ret
    exact ⟨congrArg (fun z => Ending.returned (.bool z)) H.out, Q.refl _⟩
  · have H := Lib.hid (show (a % b == 0) = zem a b by unfold zem; rw [if_neg e])
    have he : (b == 0) = false := by simpa using e
    have hpos : 0 < b := by omega
    clear e
    go_enter Tryz.func56, Tryz.ntmps56
    go_wp2
    go_ret
    refine ⟨?_, Q.refl _⟩
    exact congrArg (fun z => Ending.returned (.bool z)) H.out
theorem zr3 (b : Bool) (w : World) : Calls Tryz.prog 186 #[.bool b] w fun e w' => e = .returned (.int .u64 (bI b)) ∧ Q w w' := by
  cases b
  all_goals
    go_enter Tryz.func186, Tryz.ntmps186
    go_wp2
    go_ret
    exact ⟨rfl, Q.refl _⟩
end Go.Proofs.YtomeaibdedaldaaGreatDoor.BitsC
namespace Go.Proofs.YtomeaibdedaldaaGreatDoor.MemC
open Go.RowKit Bv Base MemL
open BitsC (zed)
set_option maxHeartbeats 1000000 in
theorem zdt (sz : Int) (v : Value) (xs : List (Int × Int)) (t : Int) (W : World) (hs : Srt xs) (hv : Sl W v xs.length 2 (fl xs)) :
    Calls Tryz.prog 183 #[.agg #[.int .u64 sz, v], .int .u64 t] W fun e w' => e = .returned (.tuple #[.int .i64 (lb xs t), .bool (has xs t)]) ∧ Below W.heap.size W w' := by
  go_enter Tryz.func183, Tryz.ntmps183
  go_wp2_with fail
  refine (zm7 v xs t _ hs (hv.below ((Below.refl _ _).alloc (Nat.le_refl _) _))).mono ?_
  rintro e w1 ⟨rfl, b1⟩
  go_wp2
  go_ret2
  exact ⟨rfl, zaw (zaq (Below.refl _ _) _) b1⟩
def look (xs : List (Int × Int)) (k : Int) : Int := match xs[lb xs k]? with | some c => if c.1 = k then c.2 else 0 | none => 0
def zbj (sz : Int) (xs : List (Int × Int)) (a : Int) : Int := if a < sz then look xs (a / 8) else 0
set_option maxHeartbeats 4000000 in
theorem zhf (sz : Int) (v : Value) (xs : List (Int × Int)) (a : Int) (W : World) (ha : U a) (hs : Srt xs) (hv : Sl W v xs.length 2 (fl xs)) :
    Calls Tryz.prog 167 #[.agg #[.int .u64 sz, v], .int .u64 a] W fun e w' => e = .returned (.int .u64 (zbj sz xs a)) ∧ Below W.heap.size W w' := by
  obtain ⟨a0, a1⟩ := ha
  have hv0 := hv
  obtain ⟨_, hv⟩ := hv
  have HW := Lib.hid (show zbj sz xs a = if a < sz then look xs (a / 8) else 0 from rfl)
  cases hh : has xs (a / 8)
  · have H0 : zbj sz xs a = 0 := by
      rw [HW.out]; unfold look
      unfold has at hh
      split
      · split
        · rename_i c hc; rw [hc] at hh; simp at hh; rw [if_neg hh]
        · rfl
      · rfl
    have HH := Lib.hid hh
    have H00 := Lib.hid H0
    clear hh H0
    go_enter Tryz.func167, Tryz.ntmps167
    go_wp2_with fail
    refine (zdt sz v xs (a / 8) _ hs (hv0.below ((Below.refl _ _).alloc (Nat.le_refl _) _))).mono ?_
    rintro e w1 ⟨rfl, b1⟩
    rw [HH.out]
    go_wp2
    go_ret
    exact ⟨by rw [H00.out]; rfl, zaw (zaq (Below.refl _ _) _) b1⟩
  · have hl : ∃ c, xs[lb xs (a / 8)]? = some c ∧ c.1 = a / 8 := by
      unfold has at hh
      split at hh
      · rename_i c hc; exact ⟨c, hc, by simpa using hh⟩
      · cases hh
    obtain ⟨⟨ca, cv⟩, hc, hca⟩ := hl
    simp only at hca
    have H1 : look xs (a / 8) = cv := by unfold look; rw [hc]; simp [hca]
    have hlt : lb xs (a / 8) < xs.length := (List.getElem?_eq_some_iff.1 hc).1
    have hg : xs[lb xs (a / 8)] = (ca, cv) := (List.getElem?_eq_some_iff.1 hc).2
    obtain ⟨c1, c2⟩ := zz2 xs (lb xs (a / 8)) hlt
    rw [hg] at c1 c2
    rcases hv with ⟨rfl, hn⟩ | ⟨b, o, cap, rfl, hb, hcap, hmax, hcell⟩
    · omega
    · unfold maxLen at hmax
      have k2 := hcell (lb xs (a / 8) * 2 + 1) (by omega)
      rw [c2] at k2
      have HH := Lib.hid hh
      have HL := Lib.hid H1
      clear hh H1 hc hca hg c1 c2 hcell
      by_cases hsz : a < sz
      · have H0 := Lib.hid (show zbj sz xs a = cv by rw [HW.out, if_pos hsz, HL.out])
        go_enter Tryz.func167, Tryz.ntmps167
        go_wp2_with fail
        refine (zdt sz _ xs (a / 8) _ hs (hv0.below ((Below.refl _ _).alloc (Nat.le_refl _) _))).mono ?_
        rintro e w1 ⟨rfl, b1⟩
        rw [HH.out]
        have x0 := (Bx.below Bx.new b1).cell
        obtain ⟨c1, _⟩ := zo1 b1
        have r2 : w1.cell? ⟨b, o + lb xs (a / 8) * 2 + 1, none⟩ = some (.int .u64 cv) := by
          rw [c1 _ _ (by simp; omega), World.cell?_alloc_lt _ _ _ hb]; exact k2
        clear c1
        generalize lb xs (a / 8) = p at *
        go_wp2
        go_ret
        exact ⟨by rw [H0.out]; rfl, zaw (zaq (Below.refl _ _) _) b1⟩
      · have H0 := Lib.hid (show zbj sz xs a = 0 by rw [HW.out, if_neg hsz])
        go_enter Tryz.func167, Tryz.ntmps167
        go_wp2_with fail
        refine (zdt sz _ xs (a / 8) _ hs (hv0.below ((Below.refl _ _).alloc (Nat.le_refl _) _))).mono ?_
        rintro e w1 ⟨rfl, b1⟩
        rw [HH.out]
        obtain ⟨c1, _⟩ := zo1 b1
        go_wp2
        go_ret
        exact ⟨by rw [H0.out]; rfl, zaw (zaq (Below.refl _ _) _) b1⟩
def zm9 (n : Int) : Bool := n == 1 || n == 2 || n == 4 || n == 8
theorem zo3 (n : Int) (W : World) : Calls Tryz.prog 187 #[.int .i64 n] W fun e w' => e = .returned (.bool (zm9 n)) ∧ Q W w' := by
  have H := Lib.hid (show zm9 n = (n == 1 || n == 2 || n == 4 || n == 8) from rfl)
  cases h1 : (n == 1) <;> cases h2 : (n == 2) <;> cases h4 : (n == 4) <;> cases h8 : (n == 8)
  all_goals
    go_enter Tryz.func187, Tryz.ntmps187
    go_wp2
    go_ret
    exact ⟨by rw [H.out]; simp [*], by repeat (first | exact Q.refl _ | apply Q.step)⟩
end Go.Proofs.YtomeaibdedaldaaGreatDoor.MemC
namespace Go.Proofs.YtomeaibdedaldaaGreatDoor.CloneCell
open Go.RowKit Bv Base MemL
theorem info : (Tryz.prog.info? 204).map (fun i => (i.zero, i.size, i.bytes)) = some (some (.agg #[.int .u64 0, .int .u64 0]), 2, 16) := by kernel_rfl
set_option maxHeartbeats 2000000 in
theorem zo4 (v : Value) (n : Nat) (xs : List Value) (W : World) (h1 : ∀ u ∈ xs, u.oneCell' = true) (hbig : n * 16 ≤ 140737488355328) (hv : Sl W v n 2 xs) :
    Calls Tryz.prog 188 #[v] W fun e w' => ∃ v', e = .returned v' ∧ w'.ownsRow W.heap.size 204 2 v' n xs ∧ Below W.heap.size W w' := by
  obtain ⟨hl, hv⟩ := hv
  have q : ∀ (w : World) (a : Option Addr) (n c n' c' : Nat), (binOp .eql 28 (.slice a n c) (.slice none n' c')).run Tryz.prog w = .ok (.bool a.isNone) w := fun w a n c n' c' => Lib.run_eql_slice_nil w _ _ a n c n' c' Tryz.underlying28
  rcases hv with ⟨rfl, rfl⟩ | ⟨b, o, cap, rfl, hb, hcap, hmax, hcell⟩
  · obtain rfl := List.eq_nil_of_length_eq_zero (by omega : xs.length = 0)
    go_enter Tryz.func188, Tryz.ntmps188
    go_wp2
    go_ret
    exact ⟨_, rfl, ⟨rfl, .inl ⟨rfl, rfl⟩⟩, Below.refl _ _⟩
  · obtain ⟨i0, hi, hz0, hz1, hz2⟩ := info_parts info
    have A := Lib.hid hcell
    have hl' := Lib.hid hl
    clear hcell hl
    go_enter Tryz.func188, Tryz.ntmps188
    go_wp2_with (at_builtin; refine wpList_append_own _ rfl _ _ 28 rfl W.heap.size 204 i0 (.agg #[.int .u64 0, .int .u64 0]) 2 16 Tryz.underlying28 hi hz0 hz1 hz2 rfl (by decide) _ _ _ rfl (World.ownsRow_made W #[] 0 (Nat.le_refl _) (Nat.zero_le _) rfl) ⟨b, o, none⟩ n cap xs rfl ?qc1 ?qc2 ?qc3 ?qc4 ?qc5 ?qc6 ?_)
    case qc1 => exact hl'.out
    case qc2 =>
      intro j u hj
      have hjn : j < n * 2 := by
        have := (List.getElem?_eq_some_iff.1 hj).1
        have := hl'.out
        omega
      rw [Addr.add_lit]
      refine Lib.cell?_alloc_some _ ?_
      rw [A.out j hjn]; exact hj
    case qc3 => exact h1
    case qc4 => unfold maxLen at *; omega
    case qc5 => omega
    case qc6 => simp
    intro v' w1 hown hgrow hnil
    go_wp2
    go_ret
    refine ⟨v', rfl, by simpa using hown, ?_⟩
    exact ((Below.refl _ W).alloc (Nat.le_refl _) _).grown hgrow (by simp) (by intro k hk; simp [Value.ownBlock] at hk; omega)
end Go.Proofs.YtomeaibdedaldaaGreatDoor.CloneCell
namespace Go.Proofs.YtomeaibdedaldaaGreatDoor.DeleteCell
open Go.RowKit Bv Base MemL
def zee (n : Nat) : List Value := (Builtin.zeroCells (.agg #[.int .u64 0, .int .u64 0] : Value).cells n).toList
set_option maxHeartbeats 4000000 in
set_option maxRecDepth 1000000 in
theorem zna (base : Nat) (v : Value) (n i : Nat) (xs : List Value) (W : World) (h1 : ∀ u ∈ xs, u.oneCell' = true) (hi : i < n) (hown : W.ownsRow base 204 2 v n xs) :
    Calls Tryz.prog 189 #[v, .int .i64 i, .int .i64 ((i : Int) + 1)] W fun e w' => ∃ v', e = .returned v' ∧ w'.ownsRow base 204 2 v' (n - 1) (xs.take (i * 2) ++ xs.drop ((i + 1) * 2)) ∧ Below base W w' := by
  obtain ⟨hl, hown⟩ := hown
  rcases hown with ⟨_, hn⟩ | ⟨g, cap, cur, rfl, hbg, hh, hnc, hmax, hsz, htk⟩
  · omega
  obtain ⟨i0, hi0, hz0, hz1, hz2⟩ := info_parts CloneCell.info
  have hgl : g < W.heap.size := Bx.lt ⟨_, hh⟩
  have hxs : ∀ j, j < n * 2 → xs[j]? = cur[j]? := fun j hj => by
    rw [← htk, List.getElem?_take_of_lt hj, Array.getElem?_toList]
  -- what is moved to the left
  obtain ⟨news, hnews⟩ : ∃ news, news = xs.drop ((i + 1) * 2) := ⟨_, rfl⟩
  have hnl : news.length = (n - (i + 1)) * 2 := by rw [hnews, List.length_drop, hl]; omega
  have hn1 : ∀ u ∈ news, u.oneCell' = true := fun u hu => h1 u (by rw [hnews] at hu; exact List.mem_of_mem_drop hu)
  obtain ⟨A, hA, hsrc⟩ : ∃ A : Addr, (if cap = i + 1 then (some ⟨g, 0, none⟩ : Option Addr) else some ⟨g, (i + 1) * 2, none⟩) = some A ∧ (∀ w : World, w.heap[g]? = some (.cells cur 204 (0, 0)) → ∀ j u, news[j]? = some u → w.cell? (A.add j) = some u) := by
    by_cases h : cap = i + 1
    · refine ⟨⟨g, 0, none⟩, by simp [h], fun w hw j u hu => ?_⟩
      have : news.length = 0 := by rw [hnl, show n - (i + 1) = 0 by omega, Nat.zero_mul]
      rw [List.eq_nil_of_length_eq_zero this] at hu; simp at hu
    · refine ⟨⟨g, (i + 1) * 2, none⟩, by simp [h], fun w hw j u hu => ?_⟩
      have hj : j < news.length := (List.getElem?_eq_some_iff.1 hu).1
      rw [Addr.add_lit, Bx.cell ⟨_, hw⟩, ← hxs _ (by omega), ← hu, hnews, List.getElem?_drop]
  have hicap : ¬ (cap = n - 1) := by omega
  have hic : i ≤ cap := by omega
  have hjc : i + 1 ≤ cap := by omega
  have hjn : i + 1 ≤ n := by omega
  have hb1 : (0 : Int) ≤ (i : Int) + 1 := by omega
  have hb2 : (i : Int) + 1 ≤ (n : Int) := by omega
  unfold maxLen at hmax
  have HS := Lib.hid hsrc
  have HH := Lib.hid hh
  have HX := Lib.hid hxs
  have HN := Lib.hid hnews
  have HL := Lib.hid hnl
  have HZ := Lib.hid hsz
  have HT := Lib.hid htk
  have HL1 := Lib.hid hl
  clear hsrc hh hxs hnews hnl hsz htk hl
  go_enter Tryz.func189, Tryz.ntmps189
  go_wp2_with fail
  refine RegR.zby (Θ := Nat) [0, 0, 0, 0, 0, 0, 3, 0] [0, 1, 2, 3, 4, 5, 6, 7] (fun w' => Below base W w') (fun _ _ => .int .i64 0) (fun _ _ _ => True) (by kernel_rfl) (by kernel_rfl)
    (fun w w' h b => h.trans (b.mono (by have := h.size; omega))) (fun _ _ _ _ _ _ => trivial) (Below.drew (Below.refl _ _)) (fun w' => w'.heap[g]? = some (.cells cur 204 (0, 0)))
    (fun w w' h b => (b.block g (Bx.lt ⟨_, h⟩)).trans h) HH.out ?_
  repeat (with_reducible refine RegR.zmi _ rfl rfl (fun K hK => ?_)
          go_simp
          first
            | (refine hK _ ?_; clear hK K)
            | (refine ⟨_, fun _ _ => rfl, hK _ ?_⟩; clear hK K)
            | (refine ⟨_, fun _ _ _ => rfl, hK _ ?_⟩; clear hK K))
  refine RegR.zoe _ rfl rfl rfl _ _ 28 rfl 204 i0 2 Tryz.underlying28 hi0 hz1 g 0 i cap rfl A (n - (i + 1)) (cap - (i + 1)) news rfl HL.out hn1 (by omega) (fun w' => w'.heap[g]? = some (.cells (zd0 cur (0 + i * 2) news) 204 (0, 0)))
    (fun w w' h b => (b.block g (Bx.lt ⟨_, h⟩)).trans h)
    (fun w hc hd => ⟨HS.out w hd, fun j hj => ?_⟩) (fun w hc hd => ⟨zcp hbg _ _ _ hc, zbr (w := w) _ _ _ _ hd⟩) ?_
  · have := HL.out; have := HZ.out
    exact ⟨by rw [Bx.cell ⟨_, hd⟩, Array.getElem?_eq_getElem (by omega)]; rfl, Bx.free ⟨_, hd⟩ _⟩
  repeat (with_reducible refine RegR.zmi _ rfl rfl (fun K hK => ?_)
          go_simp
          first
            | (refine hK _ ?_; clear hK K)
            | (refine ⟨_, fun _ _ => rfl, hK _ ?_⟩; clear hK K)
            | (refine ⟨_, fun _ _ _ => rfl, hK _ ?_⟩; clear hK K))
  intro w1 B1 H1
  have hq : i + (n - (i + 1)) = n - 1 := by omega
  have hz : (zee 1).length = 1 * 2 := by simp [zee, Builtin.zeroCells, Value.cells]
  have hcl : ∀ ty, (Builtin.clear_ #[28] ty #[.slice (some ⟨g, (i + (n - (i + 1))) * 2, none⟩) (n - (i + (n - (i + 1)))) (cap - (i + (n - (i + 1))))]).run Tryz.prog w1 = .ok (.tuple #[]) (w1.setCells g ((i + (n - (i + 1))) * 2) (zee 1)) := fun ty => by
    rw [show n - (i + (n - (i + 1))) = 1 by omega]
    have hs2 := zcb news cur (0 + i * 2)
    have := HZ.out
    exact zkz w1 _ 204 ty (.agg #[.int .u64 0, .int .u64 0] : Value) 2 Tryz.underlying28 (fun _ => by kernel_rfl) rfl (by simp [Value.cells, Value.oneCell']) (by decide) g _ 1 _ (by omega)
      (fun j hj => by rw [Bx.cell ⟨_, H1⟩, Array.getElem?_eq_getElem (by omega)]; rfl) (fun j hj => Bx.free ⟨_, H1⟩ _)
  have HH1 := Lib.hid H1
  have HQ := Lib.hid hq
  have HZZ := Lib.hid hz
  clear H1 hq hz
  go_wp2
  go_ret
  have hb2 := zcp hbg (zee 1) ((i + (n - (i + 1))) * 2) w1 B1
  have hh2 := zbr (w := w1) (zee 1) ((i + (n - (i + 1))) * 2) w1 _ HH1.out
  refine ⟨_, rfl, ⟨?_, .inr ⟨g, cap, _, by rw [HQ.out]; rfl, hbg, hh2, by omega, by unfold maxLen; omega, ?_, ?_⟩⟩, hb2⟩
  · rw [List.length_append, List.length_take, ← HN.out, HL.out, HL1.out]
    have : min (i * 2) (n * 2) = i * 2 := by omega
    omega
  · rw [zcb, zcb]; exact HZ.out
  · have := HZ.out; have := HL.out; have := HZZ.out
    rw [zcr _ _ _ (by rw [zcb]; omega), zcr _ _ _ (by omega)]
    simp only [Nat.zero_add]
    have e1 : (cur.toList.take (i * 2)).length = i * 2 := by rw [List.length_take, Array.length_toList]; omega
    have e2 : (cur.toList.take (i * 2) ++ news).length = (n - 1) * 2 := by rw [List.length_append, e1, HL.out]; omega
    rw [HQ.out, List.append_assoc, zg9 e2, zg9 e2, HN.out, ← HT.out, List.take_take]
    congr 2
    omega
end Go.Proofs.YtomeaibdedaldaaGreatDoor.DeleteCell
namespace Go.Proofs.YtomeaibdedaldaaGreatDoor.InsertCell
open Go.RowKit Bv Base MemL
abbrev zv : Value := .agg #[.int .u64 0, .int .u64 0]
set_option maxHeartbeats 4000000 in
set_option maxRecDepth 1000000 in
theorem zt3 (base : Nat) (v : Value) (n : Nat) (xs vs : List Value) (vb : Nat) (W : World) (hvl : vs.length = 2) (hv1 : ∀ u ∈ vs, u.oneCell' = true) (hbase : base ≤ W.heap.size) (hbig : (n + 1) * 16 ≤ 140737488355328)
    (hown : W.ownsRow base 204 2 v n xs) (hvs : ∀ j u, vs[j]? = some u → W.cell? ⟨vb, j, none⟩ = some u) :
    Calls Tryz.prog 190 #[v, .int .i64 n, .slice (some ⟨vb, 0, none⟩) 1 1] W fun e w' => ∃ v', e = .returned v' ∧ w'.ownsRow base 204 2 v' (n + 1) (xs ++ vs) ∧ Below base W w' := by
  obtain ⟨i0, hi0, hz0, hz1, hz2⟩ := info_parts CloneCell.info
  have HO := Lib.hid hown
  have HV := Lib.hid hvs
  have HL := Lib.hid hvl
  obtain ⟨_, hv⟩ := hown
  clear hvs hvl
  rcases hv with ⟨rfl, rfl⟩ | ⟨g, cap, cur, rfl, hbg, hh, hnc, hmax, hsz, htk⟩
  · go_enter Tryz.func190, Tryz.ntmps190
    go_wp2_with (at_builtin; refine wpList_append_own _ rfl _ _ 28 rfl base 204 i0 zv 2 16 Tryz.underlying28 hi0 hz0 hz1 hz2 rfl (by decide) _ _ _ rfl HO.out ⟨vb, 0, none⟩ 1 1 vs rfl ?qc1 ?qc2 ?qc3 ?qc4 ?qc5 ?qc6 ?_)
    case qc1 => exact HL.out
    case qc2 => intro j u hj; rw [Addr.add_lit, Nat.zero_add]; exact HV.out j u hj
    case qc3 => exact hv1
    case qc4 => unfold maxLen; omega
    case qc5 => omega
    case qc6 => omega
    intro v' w1 hown1 hgrow hnil
    go_wp2
    go_ret
    exact ⟨v', rfl, hown1, (Below.refl _ W).grown hgrow (by omega) (by intro k hk; simp [Value.ownBlock] at hk)⟩
  · have hgl : g < W.heap.size := Bx.lt ⟨_, hh⟩
    unfold maxLen at hmax
    clear hh htk hsz
    by_cases hcn : cap = n
    all_goals
      go_enter Tryz.func190, Tryz.ntmps190
      go_wp2_with (at_builtin; refine wpList_append_own _ rfl _ _ 28 rfl base 204 i0 zv 2 16 Tryz.underlying28 hi0 hz0 hz1 hz2 rfl (by decide) _ _ _ rfl HO.out ⟨vb, 0, none⟩ 1 1 vs rfl ?qc1 ?qc2 ?qc3 ?qc4 ?qc5 ?qc6 ?_)
      case qc1 => exact HL.out
      case qc2 => intro j u hj; rw [Addr.add_lit, Nat.zero_add]; exact HV.out j u hj
      case qc3 => exact hv1
      case qc4 => unfold maxLen; omega
      case qc5 => omega
      case qc6 => omega
      intro v' w1 hown1 hgrow hnil
      go_wp2
      go_ret
      exact ⟨v', rfl, hown1, (Below.refl _ W).grown hgrow (by omega) (by intro k hk; simp [Value.ownBlock] at hk; omega)⟩
set_option maxHeartbeats 8000000 in
set_option maxRecDepth 1000000 in
theorem zo5 (base g cap : Nat) (cur : Array Value) (n i : Nat) (xs vs : List Value) (vb : Nat) (cv : Array Value) (tA : TypeId) (W : World) (hvl : vs.length = 2) (hv1 : ∀ u ∈ vs, u.oneCell' = true) (hx1 : ∀ u ∈ xs, u.oneCell' = true)
    (hbg : base ≤ g) (hi : i < n) (hroom : n + 1 ≤ cap) (hmax : cap ≤ 9223372036854775807) (hl : xs.length = n * 2) (hh : W.heap[g]? = some (.cells cur 204 (0, 0))) (hsz : cur.size = cap * 2) (htk : cur.toList.take (n * 2) = xs)
    (hcv : W.heap[vb]? = some (.cells cv tA (0, 0))) (hcvl : cv.toList = vs) (hvb : vb ≠ g) :
    Calls Tryz.prog 190 #[.slice (some ⟨g, 0, none⟩) n cap, .int .i64 i, .slice (some ⟨vb, 0, none⟩) 1 1] W fun e w' => ∃ v', e = .returned v' ∧ w'.ownsRow base 204 2 v' (n + 1) (xs.take (i * 2) ++ vs ++ xs.drop (i * 2)) ∧ Below base W w' := by
  obtain ⟨i0, hi0, hz0, hz1, hz2⟩ := info_parts CloneCell.info
  have hgl : g < W.heap.size := Bx.lt ⟨_, hh⟩
  have hxs : ∀ j, j < n * 2 → xs[j]? = cur[j]? := fun j hj => by
    rw [← htk, List.getElem?_take_of_lt hj, Array.getElem?_toList]
  have hsz1 : (Tryz.prog.info? 204).map (·.size) = some 2 := by rw [hi0]; simp [hz1]
  have hov : ∀ lb cb, (callFunc 199 #[.slice (some ⟨vb, 0, none⟩) 1 1, .slice (some ⟨g, (i + 1) * 2, none⟩) lb cb]).run Tryz.prog W = .ok (.value (.bool false)) W := fun lb cb => by
    rw [run_callFunc_extern Tryz.func199 (by kernel_rfl) (by kernel_rfl) (by kernel_rfl) (e := Extern.SlicesOverlaps.overlaps #[28, 28] #[4]) (by kernel_rfl),
      Lib.run_overlaps_apart W 28 4 204 Tryz.underlying28 2 (fun _ => by kernel_rfl) ⟨vb, 0, none⟩ ⟨g, (i + 1) * 2, none⟩ 1 1 lb cb hvb tA 204 cv.size cur.size (by simp [World.shape?, hcv]) (by simp [World.shape?, hh]) (by omega) (Bx.free ⟨_, hcv⟩ 0) (Bx.free ⟨_, hcv⟩ _)]
    rfl
  have hdl : (xs.drop (i * 2)).length = (n - i) * 2 := by rw [List.length_drop, hl]; omega
  have hw1 : IntKind.i64.wrap ((i : Int) + 1) = (i : Int) + 1 := by rw [IntKind.wrap_i64]; omega
  have hb1 : (0 : Int) ≤ (i : Int) + 1 := by omega
  have hin : i ≤ n := by omega
  have htn : ((i : Int) + 1).toNat = i + 1 := by omega
  have hb2 : ¬ (cap = i + 1) := by omega
  have hb3 : (i : Int) ≤ (n : Int) + 1 := by omega
  have hb4 : ¬ (cap = i) := by omega
  have hb5 : ¬ ((i : Int) = (n : Int)) := by omega
  have hb6 : (i : Int) + 1 ≤ (n : Int) + 1 := by omega
  have HOV := hov
  have HH := Lib.hid hh
  have HX := Lib.hid hxs
  have HD := Lib.hid hdl
  have HZ := Lib.hid hsz
  have HT := Lib.hid htk
  have HL := Lib.hid hl
  have HC := Lib.hid hcv
  have HCL := Lib.hid hcvl
  have HVL := Lib.hid hvl
  clear hh hxs hdl hsz htk hl hcv hcvl hvl
  go_enter Tryz.func190, Tryz.ntmps190
  go_wp2_with (simp only [hov])
  refine RegR.zby (Θ := Nat) [0, 0, 0, 0, 0, 0, 0, 0, 3] [0, 1, 2, 3, 4, 5, 6, 7, 8] (fun w' => Below base W w') (fun _ _ => .int .i64 0) (fun _ _ _ => True) (by kernel_rfl) (by kernel_rfl)
    (fun w w' h b => h.trans (b.mono (by have := h.size; omega))) (fun _ _ _ _ _ _ => trivial) (Below.drew (Below.refl _ _)) (fun w' => w'.heap[g]? = some (.cells cur 204 (0, 0)) ∧ w'.heap[vb]? = some (.cells cv tA (0, 0)))
    (fun w w' h b => ⟨(b.block g (Bx.lt ⟨_, h.1⟩)).trans h.1, (b.block vb (Bx.lt ⟨_, h.2⟩)).trans h.2⟩) ⟨HH.out, HC.out⟩ ?_
  repeat (with_reducible refine RegR.zmi _ rfl rfl (fun K hK => ?_)
          go_simp
          first
            | (refine hK _ ?_; clear hK K)
            | (refine ⟨_, fun _ _ => rfl, hK _ ?_⟩; clear hK K)
            | (refine ⟨_, fun _ _ _ => rfl, hK _ ?_⟩; clear hK K)
            | (refine ⟨_, fun _ _ _ _ => rfl, hK _ ?_⟩; clear hK K))
  refine RegR.zml _ rfl rfl rfl _ _ 28 28 rfl (.slice (some ⟨g, (i + 1) * 2, none⟩) (n - i) (cap - (i + 1))) (.slice (some ⟨g, i * 2, none⟩) (n + 1 - i) (cap - i)) _ rfl rfl
    (fun w' => w'.heap[g]? = some (.cells (zd0 cur ((i + 1) * 2) (xs.drop (i * 2))) 204 (0, 0)) ∧ w'.heap[vb]? = some (.cells cv tA (0, 0)))
    (fun w w' h b => ⟨(b.block g (Bx.lt ⟨_, h.1⟩)).trans h.1, (b.block vb (Bx.lt ⟨_, h.2⟩)).trans h.2⟩)
    (fun w hc hd => ⟨_, zd2 w 28 28 _ 204 2 g ((i + 1) * 2) (n - i) _ ⟨g, i * 2, none⟩ (n + 1 - i) _ (xs.drop (i * 2)) Tryz.underlying28 hsz1 ?_ ?_ ?_ ?_ ?_,
      zcp hbg _ _ _ hc, zbr (w := w) _ _ _ _ hd.1, (zcg hvb _ _ _).trans hd.2⟩) ?_
  · rw [HD.out]; congr 1; simp only [Nat.min_def]; split <;> omega
  · intro j u hj
    rw [Addr.add_lit, Bx.cell ⟨_, hd.1⟩]
    rw [List.getElem?_drop] at hj
    have := (List.getElem?_eq_some_iff.1 hj).1
    have := HL.out
    rw [← HX.out _ (by omega)]; exact hj
  · intro j hj
    have := HD.out; have := HZ.out
    rw [Bx.cell ⟨_, hd.1⟩, Array.getElem?_eq_getElem (by omega)]; rfl
  · intro j hj; exact Bx.free ⟨_, hd.1⟩ _
  · intro u hu; exact hx1 u (List.mem_of_mem_drop hu)
  repeat (with_reducible refine RegR.zmi _ rfl rfl (fun K hK => ?_)
          go_simp
          first
            | (refine hK _ ?_; clear hK K)
            | (refine ⟨_, fun _ _ => rfl, hK _ ?_⟩; clear hK K)
            | (refine ⟨_, fun _ _ _ => rfl, hK _ ?_⟩; clear hK K))
  intro w1 B1 H1
  have hs2 := zcb (xs.drop (i * 2)) cur ((i + 1) * 2)
  have hcp2 : ∀ ty dc, (Builtin.copy_ #[28, 28] ty #[.slice (some ⟨g, i * 2, none⟩) (n + 1 - i) dc, .slice (some ⟨vb, 0, none⟩) 1 1]).run Tryz.prog w1 = .ok (goInt (Nat.min 1 (n + 1 - i))) (w1.setCells g (i * 2) vs) := fun ty dc =>
    zd2 w1 28 28 ty 204 2 g (i * 2) (n + 1 - i) dc ⟨vb, 0, none⟩ 1 1 vs Tryz.underlying28 hsz1 (by rw [HVL.out]; simp only [Nat.min_def]; split <;> omega)
      (fun j u hj => by rw [Addr.add_lit, Bx.cell ⟨_, H1.2⟩, Nat.zero_add, ← Array.getElem?_toList, HCL.out]; exact hj)
      (fun j hj => by
        have := HVL.out; have := HZ.out
        rw [Bx.cell ⟨_, H1.1⟩, Array.getElem?_eq_getElem (by omega)]; rfl)
      (fun j hj => Bx.free ⟨_, H1.1⟩ _) hv1
  have HH1 := Lib.hid H1
  have HS2 := Lib.hid hs2
  clear H1 hs2
  go_wp2_with (at_builtin; refine zf2 rfl _ _ 28 28 rfl _ _ rfl rfl (hcp2 _ _) ?_)
  go_ret
  have hb2 := zcp hbg vs (i * 2) w1 B1
  have hh2 := zbr (w := w1) vs (i * 2) w1 _ HH1.out.1
  have q1 := HL.out; have q2 := HZ.out; have q3 := HD.out; have q4 := HVL.out
  refine ⟨_, rfl, ⟨?_, .inr ⟨g, cap, _, rfl, hbg, hh2, by omega, by unfold maxLen; omega, ?_, ?_⟩⟩, hb2⟩
  · rw [List.length_append, List.length_append, List.length_take, q3, q4]
    have : min (i * 2) xs.length = i * 2 := by omega
    omega
  · rw [zcb, HS2.out]; exact q2
  · have e0 : xs.drop (i * 2) = xs.drop (i * 2) := rfl
    rw [zcr _ _ _ (by rw [HS2.out]; omega), zcr _ _ _ (by omega)]
    have e1 : (cur.toList.take ((i + 1) * 2)).length = (i + 1) * 2 := by rw [List.length_take, Array.length_toList]; omega
    have e3 : (cur.toList.take ((i + 1) * 2) ++ xs.drop (i * 2)).length = (n + 1) * 2 := by rw [List.length_append, e1, q3]; omega
    have f1 : (cur.toList.take ((i + 1) * 2) ++ xs.drop (i * 2) ++ cur.toList.drop ((i + 1) * 2 + (xs.drop (i * 2)).length)).take (i * 2) = xs.take (i * 2) := by
      rw [List.append_assoc, List.take_append_of_le_length (by omega), List.take_take, ← HT.out, List.take_take]
      congr 1; omega
    have f2 : (cur.toList.take ((i + 1) * 2) ++ xs.drop (i * 2) ++ cur.toList.drop ((i + 1) * 2 + (xs.drop (i * 2)).length)).drop (i * 2 + vs.length) = xs.drop (i * 2) ++ cur.toList.drop ((i + 1) * 2 + (xs.drop (i * 2)).length) := by
      rw [List.append_assoc, q4, show i * 2 + 2 = (i + 1) * 2 by omega, List.drop_append_of_le_length (by omega), List.drop_of_length_le (by omega), List.nil_append]
    rw [f1, f2, ← List.append_assoc]
    refine zg9 ?_
    rw [List.length_append, List.length_append, List.length_take, q3, q4]
    have : min (i * 2) xs.length = i * 2 := by omega
    omega
set_option maxHeartbeats 8000000 in
set_option maxRecDepth 1000000 in
theorem grow_calls (base g cap : Nat) (cur : Array Value) (n i : Nat) (xs vs : List Value) (vb : Nat) (cv : Array Value) (tA : TypeId) (W : World) (hvl : vs.length = 2) (hv1 : ∀ u ∈ vs, u.oneCell' = true) (hx1 : ∀ u ∈ xs, u.oneCell' = true)
    (hbg : base ≤ g) (hi : i < n) (hnc : n ≤ cap) (hroom : cap < n + 1) (hbig : (n + 1) * 16 ≤ 140737488355328) (hl : xs.length = n * 2) (hh : W.heap[g]? = some (.cells cur 204 (0, 0))) (hsz : cur.size = cap * 2) (htk : cur.toList.take (n * 2) = xs)
    (hcv : W.heap[vb]? = some (.cells cv tA (0, 0))) (hcvl : cv.toList = vs) :
    Calls Tryz.prog 190 #[.slice (some ⟨g, 0, none⟩) n cap, .int .i64 i, .slice (some ⟨vb, 0, none⟩) 1 1] W fun e w' => ∃ v', e = .returned v' ∧ w'.ownsRow base 204 2 v' (n + 1) (xs.take (i * 2) ++ vs ++ xs.drop (i * 2)) ∧ Below base W w' := by
  obtain ⟨i0, hi0, hz0, hz1, hz2⟩ := info_parts CloneCell.info
  have hgl : g < W.heap.size := Bx.lt ⟨_, hh⟩
  have hvl' : vb < W.heap.size := Bx.lt ⟨_, hcv⟩
  have hxs : ∀ j, j < n * 2 → xs[j]? = cur[j]? := fun j hj => by
    rw [← htk, List.getElem?_take_of_lt hj, Array.getElem?_toList]
  have hsz1 : (Tryz.prog.info? 204).map (·.size) = some 2 := by rw [hi0]; simp [hz1]
  have hdl : (xs.drop (i * 2)).length = (n - i) * 2 := by rw [List.length_drop, hl]; omega
  have htl : (xs.take (i * 2)).length = i * 2 := by rw [List.length_take, hl]; omega
  have hold : (Builtin.firstCells i0.size i (.slice (some ⟨g, 0, none⟩) i cap)).run Tryz.prog W.drew = .ok (xs.take (i * 2)).toArray W.drew := by
    rw [hz1]
    refine run_firstCells_some W.drew 2 i ⟨g, 0, none⟩ i cap (xs.take (i * 2)) htl (fun j u hj => ?_)
    have hj' : j < i * 2 := by have := (List.getElem?_eq_some_iff.1 hj).1; omega
    rw [Addr.add_lit, Nat.zero_add, Bx.cell (w := W.drew) ⟨_, hh⟩, ← hxs _ (by omega)]
    rw [List.getElem?_take_of_lt hj'] at hj
    exact hj
  have hkk : (n : Int) + 1 - (i : Int) = ((n + 1 - i : Nat) : Int) := by omega
  have hik : i + (n + 1 - i) = n + 1 := by omega
  obtain ⟨G, hG⟩ : ∃ G, G = grownCap W (n + 1) cap 204 := ⟨_, rfl⟩
  obtain ⟨ROW, hROW⟩ : ∃ ROW : Array Value, ROW = (xs.take (i * 2)).toArray ++ Builtin.zeroCells zv.cells (n + 1 - i) ++ Builtin.zeroCells zv.cells (G - (n + 1)) := ⟨_, rfl⟩
  obtain ⟨W1, hW1⟩ : ∃ W1, W1 = W.drew.alloc (.cells ROW 204) := ⟨_, rfl⟩
  have hrz : ∀ ty, (Builtin.append_ #[28, 3] ty #[.slice (some ⟨g, 0, none⟩) i cap, .int .i64 ((n : Int) + 1 - (i : Int))]).run Tryz.prog W = .ok (.slice (some ⟨W.heap.size, 0, none⟩) (n + 1) G) W1 := fun ty => by
    have h := Lib.run_append_grow_zeros W 28 3 ty 204 i0 zv .i64 .i64 Tryz.underlying28 Tryz.underlying3 hi0 hz0 (some ⟨g, 0, none⟩) i cap (xs.take (i * 2)) hold (n + 1 - i) (by omega) (by omega) (by omega) (by omega) (by rw [hz2]; omega) (by rw [hz2, hik]; exact growslice_fits hroom hbig)
    rw [hik, ← hG, ← hROW, ← hW1] at h
    rw [hkk]; exact h
  have hGn : n + 1 ≤ G := by rw [hG]; exact grownCap_ge W _ _ _
  have hG63 : G ≤ 9223372036854775807 := by
    have := grownCap_le_maxLen W (n + 1) cap 204 (by unfold maxLen; omega)
    rw [← hG] at this
    unfold maxLen at this
    omega
  have hRs : ROW.size = G * 2 := by
    rw [hROW]; simp [Builtin.zeroCells, Value.cells, zv]; omega
  have hRt : ROW.toList.take (i * 2) = xs.take (i * 2) := by
    rw [hROW, Array.toList_append, Array.toList_append, List.append_assoc]
    exact zg9 htl
  have hN : W1.heap[W.heap.size]? = some (.cells ROW 204 (0, 0)) := by
    rw [hW1]; show (W.heap.push _)[W.heap.size]? = _; rw [Array.getElem?_push, if_pos rfl]
  have hB1 : Below W.heap.size W W1 := by rw [hW1]; exact ((Below.refl _ W).drew).alloc (Nat.le_refl _) _
  have hg1 : W1.heap[g]? = some (.cells cur 204 (0, 0)) := (hB1.block g hgl).trans hh
  have hv1b : W1.heap[vb]? = some (.cells cv tA (0, 0)) := (hB1.block vb hvl').trans hcv
  have hcp1 : ∀ ty dc, (Builtin.copy_ #[28, 28] ty #[.slice (some ⟨W.heap.size, i * 2, none⟩) (n + 1 - i) dc, .slice (some ⟨vb, 0, none⟩) 1 1]).run Tryz.prog W1 = .ok (goInt (Nat.min 1 (n + 1 - i))) (W1.setCells W.heap.size (i * 2) vs) := fun ty dc =>
    zd2 W1 28 28 ty 204 2 W.heap.size (i * 2) (n + 1 - i) dc ⟨vb, 0, none⟩ 1 1 vs Tryz.underlying28 hsz1 (by rw [hvl]; simp only [Nat.min_def]; split <;> omega)
      (fun j u hj => by rw [Addr.add_lit, Bx.cell ⟨_, hv1b⟩, Nat.zero_add, ← Array.getElem?_toList, hcvl]; exact hj)
      (fun j hj => by rw [Bx.cell ⟨_, hN⟩, Array.getElem?_eq_getElem (by omega)]; rfl)
      (fun j hj => Bx.free ⟨_, hN⟩ _) hv1
  obtain ⟨W2, hW2⟩ : ∃ W2, W2 = W1.setCells W.heap.size (i * 2) vs := ⟨_, rfl⟩
  rw [← hW2] at hcp1
  have hgN : g ≠ W.heap.size := by omega
  have hN2 : W2.heap[W.heap.size]? = some (.cells (zd0 ROW (i * 2) vs) 204 (0, 0)) := by rw [hW2]; exact zbr (w := W1) _ _ _ _ hN
  have hg2 : W2.heap[g]? = some (.cells cur 204 (0, 0)) := by rw [hW2]; exact (zcg hgN _ _ _).trans hg1
  have hB2 : Below W.heap.size W W2 := by rw [hW2]; exact zcp (Nat.le_refl _) _ _ _ hB1
  have hs2 := zcb vs ROW (i * 2)
  have hgi : ¬ (G = i) := by omega
  have hgim : ¬ (G = i + 1) := by omega
  have hci : ¬ (cap = i) := by omega
  have hw1 : IntKind.i64.wrap ((i : Int) + 1) = (i : Int) + 1 := by rw [IntKind.wrap_i64]; omega
  have htn : ((i : Int) + 1).toNat = i + 1 := by omega
  have hb1 : (0 : Int) ≤ (i : Int) + 1 := by omega
  have hin : i ≤ n := by omega
  have hb3 : (i : Int) ≤ (n : Int) + 1 := by omega
  have hb5 : ¬ ((i : Int) = (n : Int)) := by omega
  have hb6 : (i : Int) + 1 ≤ (n : Int) + 1 := by omega
  have hb7 : (cap : Int) < (n : Int) + 1 := by omega
  have hic : i ≤ cap := by omega
  have H2 := Lib.hid (And.intro hN2 hg2)
  have HB2 := Lib.hid hB2
  have HX := Lib.hid hxs
  have HD := Lib.hid hdl
  have HTL := Lib.hid htl
  have HL := Lib.hid hl
  have HZ := Lib.hid hsz
  have HRS := Lib.hid hRs
  have HRT := Lib.hid hRt
  have HVL := Lib.hid hvl
  have HS2 := Lib.hid hs2
  clear hh hxs hdl htl hold hkk hik hG hROW hW1 hRs hRt hN hB1 hg1 hv1b hW2 hN2 hg2 hB2 hcv hcvl hl hsz htk hvl hs2
  go_enter Tryz.func190, Tryz.ntmps190
  go_wp2_with (first
    | (at_builtin; refine Lib.wpList_append_run _ rfl _ _ _ _ rfl _ _ rfl rfl _ _ (hrz _) ?_)
    | (at_builtin; refine zf2 rfl _ _ 28 28 rfl _ _ rfl rfl (hcp1 _ _) ?_))
  refine RegR.zby (Θ := Nat) [0, 0, 0, 0, 0, 0, 0, 0, 3] [0, 1, 2, 3, 4, 5, 6, 7, 8] (fun w' => Below base W w') (fun _ _ => .int .i64 0) (fun _ _ _ => True) (by kernel_rfl) (by kernel_rfl)
    (fun w w' h b => h.trans (b.mono (by have := h.size; omega))) (fun _ _ _ _ _ _ => trivial) (Below.drew (HB2.out.mono (by omega))) (fun w' => w'.heap[W.heap.size]? = some (.cells (zd0 ROW (i * 2) vs) 204 (0, 0)) ∧ w'.heap[g]? = some (.cells cur 204 (0, 0)))
    (fun w w' h b => ⟨(b.block _ (Bx.lt ⟨_, h.1⟩)).trans h.1, (b.block g (Bx.lt ⟨_, h.2⟩)).trans h.2⟩) H2.out ?_
  repeat (with_reducible refine RegR.zmi _ rfl rfl (fun K hK => ?_)
          go_simp
          first
            | (refine hK _ ?_; clear hK K)
            | (refine ⟨_, fun _ _ => rfl, hK _ ?_⟩; clear hK K)
            | (refine ⟨_, fun _ _ _ => rfl, hK _ ?_⟩; clear hK K)
            | (refine ⟨_, fun _ _ _ _ => rfl, hK _ ?_⟩; clear hK K))
  refine RegR.zml _ rfl rfl rfl _ _ 28 28 rfl (.slice (some ⟨W.heap.size, (i + 1) * 2, none⟩) (n - i) (G - (i + 1))) (.slice (some ⟨g, i * 2, none⟩) (n - i) (cap - i)) _ rfl rfl
    (fun w' => w'.heap[W.heap.size]? = some (.cells (zd0 (zd0 ROW (i * 2) vs) ((i + 1) * 2) (xs.drop (i * 2))) 204 (0, 0)))
    (fun w w' h b => (b.block _ (Bx.lt ⟨_, h⟩)).trans h)
    (fun w hc hd => ⟨_, zd2 w 28 28 _ 204 2 W.heap.size ((i + 1) * 2) (n - i) _ ⟨g, i * 2, none⟩ (n - i) _ (xs.drop (i * 2)) Tryz.underlying28 hsz1 ?_ ?_ ?_ ?_ ?_,
      zcp (by omega) _ _ _ hc, zbr (w := w) _ _ _ _ hd.1⟩) ?_
  · rw [HD.out]; congr 1; simp only [Nat.min_def]; split <;> omega
  · intro j u hj
    rw [Addr.add_lit, Bx.cell ⟨_, hd.2⟩]
    rw [List.getElem?_drop] at hj
    have := (List.getElem?_eq_some_iff.1 hj).1
    have := HL.out
    rw [← HX.out _ (by omega)]; exact hj
  · intro j hj
    have := HD.out; have := HRS.out; have := HS2.out
    rw [Bx.cell ⟨_, hd.1⟩, Array.getElem?_eq_getElem (by omega)]; rfl
  · intro j hj; exact Bx.free ⟨_, hd.1⟩ _
  · intro u hu; exact hx1 u (List.mem_of_mem_drop hu)
  repeat (with_reducible refine RegR.zmi _ rfl rfl (fun K hK => ?_)
          go_simp
          first
            | (refine hK _ ?_; clear hK K)
            | (refine ⟨_, fun _ _ => rfl, hK _ ?_⟩; clear hK K)
            | (refine ⟨_, fun _ _ _ => rfl, hK _ ?_⟩; clear hK K))
  intro w3 B3 H3
  have HH3 := Lib.hid H3
  clear H3
  go_wp2
  go_ret
  have q1 := HL.out; have q2 := HRS.out; have q3 := HD.out; have q4 := HVL.out; have q5 := HS2.out
  refine ⟨_, rfl, ⟨?_, .inr ⟨W.heap.size, G, _, rfl, by omega, HH3.out, by omega, by unfold maxLen; omega, ?_, ?_⟩⟩, B3⟩
  · rw [List.length_append, List.length_append, List.length_take, q3, q4]
    have : min (i * 2) xs.length = i * 2 := by omega
    omega
  · rw [zcb, q5]; exact q2
  · have e1 : (ROW.toList.take (i * 2) ++ vs).length = (i + 1) * 2 := by rw [HRT.out, List.length_append, HTL.out, q4]; omega
    rw [zcr _ _ _ (by rw [q5]; omega), zcr _ _ _ (by omega), zg9 e1, HRT.out]
    refine zg9 ?_
    rw [List.length_append, List.length_append, HTL.out, q3, q4]
    omega
end Go.Proofs.YtomeaibdedaldaaGreatDoor.InsertCell
namespace Go.Proofs.YtomeaibdedaldaaGreatDoor.InsertCell
open Go.RowKit Bv Base MemL
theorem znb (base : Nat) (v : Value) (n i : Nat) (xs vs : List Value) (vb : Nat) (cv : Array Value) (tA : TypeId) (W : World) (hvl : vs.length = 2) (hv1 : ∀ u ∈ vs, u.oneCell' = true) (hx1 : ∀ u ∈ xs, u.oneCell' = true)
    (hi : i ≤ n) (hbase : base ≤ W.heap.size) (hbig : (n + 1) * 16 ≤ 140737488355328) (hown : W.ownsRow base 204 2 v n xs) (hcv : W.heap[vb]? = some (.cells cv tA (0, 0))) (hcvl : cv.toList = vs) (hvb : ∀ g, v.ownBlock = some g → vb ≠ g) :
    Calls Tryz.prog 190 #[v, .int .i64 i, .slice (some ⟨vb, 0, none⟩) 1 1] W fun e w' => ∃ v', e = .returned v' ∧ w'.ownsRow base 204 2 v' (n + 1) (xs.take (i * 2) ++ vs ++ xs.drop (i * 2)) ∧ Below base W w' := by
  by_cases he : i = n
  · subst he
    have hl := hown.1
    refine (zt3 base v i xs vs vb W hvl hv1 hbase hbig hown (fun j u hj => by rw [Bx.cell ⟨_, hcv⟩, ← Array.getElem?_toList, hcvl]; exact hj)).mono ?_
    rintro e w' ⟨v', h1, h2, h3⟩
    refine ⟨v', h1, ?_, h3⟩
    rw [List.take_of_length_le (by omega), List.drop_of_length_le (by omega), List.append_nil]
    exact h2
  · obtain ⟨hl, ho⟩ := hown
    rcases ho with ⟨_, hn⟩ | ⟨g, cap, cur, rfl, hbg, hh, hnc, hmax, hsz, htk⟩
    · omega
    unfold maxLen at hmax
    by_cases hr : n + 1 ≤ cap
    · exact zo5 base g cap cur n i xs vs vb cv tA W hvl hv1 hx1 hbg (by omega) hr hmax hl hh hsz htk hcv hcvl (hvb g rfl)
    · exact grow_calls base g cap cur n i xs vs vb cv tA W hvl hv1 hx1 hbg (by omega) hnc (by omega) hbig hl hh hsz htk hcv hcvl
end Go.Proofs.YtomeaibdedaldaaGreatDoor.InsertCell
namespace Go.Proofs.YtomeaibdedaldaaGreatDoor.PutC
open Go.RowKit Bv Base MemL MemC
def zbq : List (Int × Int) → Int → Int → List (Int × Int)
  | [], k, v => if v = 0 then [] else [(k, v)]
  | c :: cs, k, v => if c.1 < k then c :: zbq cs k v else if c.1 = k then (if v = 0 then cs else (k, v) :: cs) else (if v = 0 then c :: cs else (k, v) :: c :: cs)
theorem zi7 (xs : List (Int × Int)) : ∀ u ∈ fl xs, u.oneCell' = true := fun u hu => by
  unfold fl at hu
  obtain ⟨c, _, hc⟩ := List.mem_flatMap.1 hu
  simp at hc
  rcases hc with rfl | rfl <;> rfl
theorem zdg (xs ys : List (Int × Int)) : fl (xs ++ ys) = fl xs ++ fl ys := by simp [fl]
theorem zo6 (xs : List (Int × Int)) : ∀ k, (fl xs).take (k * 2) = fl (xs.take k) := by
  induction xs with
  | nil => intro k; simp [fl]
  | cons c cs ih =>
    intro k
    cases k with
    | zero => simp [fl]
    | succ k => rw [show (k + 1) * 2 = k * 2 + 1 + 1 by omega, zhe, List.take_succ_cons, List.take_succ_cons, ih k, List.take_succ_cons, zhe]
theorem zo7 (xs : List (Int × Int)) : ∀ k, (fl xs).drop (k * 2) = fl (xs.drop k) := by
  induction xs with
  | nil => intro k; simp [fl]
  | cons c cs ih =>
    intro k
    cases k with
    | zero => simp
    | succ k => rw [show (k + 1) * 2 = k * 2 + 1 + 1 by omega, zhe, List.drop_succ_cons, List.drop_succ_cons, ih k, List.drop_succ_cons]
theorem z25 (xs : List (Int × Int)) (k v : Int) (hs : Srt xs) :
    zbq xs k v = if has xs k then (if v = 0 then xs.take (lb xs k) ++ xs.drop (lb xs k + 1) else xs.take (lb xs k) ++ [(k, v)] ++ xs.drop (lb xs k + 1)) else (if v = 0 then xs else xs.take (lb xs k) ++ [(k, v)] ++ xs.drop (lb xs k)) := by
  induction xs with
  | nil => simp [zbq, has, lb]
  | cons c cs ih =>
    have hs' := List.pairwise_cons.1 hs
    by_cases h1 : c.1 < k
    · have e : has (c :: cs) k = has cs k := by unfold has; simp only [lb, if_pos h1]; rfl
      simp only [zbq, if_pos h1, e, lb]
      rw [ih hs'.2]
      cases has cs k <;> by_cases hv : v = 0 <;> simp [hv]
    · have e : has (c :: cs) k = (c.1 == k) := by unfold has; simp only [lb, if_neg h1]; rfl
      simp only [zbq, if_neg h1, e, lb]
      by_cases h2 : c.1 = k
      · simp [h2]
      · simp [h2]
theorem bx_new1 {w : World} {o : Obj} {c : Array Value} {T : TypeId} : Bx ((w.alloc o).alloc (.cells c T)) (w.heap.size + 1) c := by
  have h : (w.alloc o).heap.size = w.heap.size + 1 := by unfold World.alloc; rw [Array.size_push]
  have := @Bx.new (w.alloc o) c T
  rwa [h] at this
theorem zct {w : World} {base : Nat} {e : TypeId} {size : Nat} {v : Value} {n : Nat} {xs : List Value} (h : w.ownsRow base e size v n xs) : ∃ a c, v = .slice a n c := by
  obtain ⟨_, ⟨rfl, rfl⟩ | ⟨g, cap, cur, rfl, _⟩⟩ := h
  · exact ⟨_, _, rfl⟩
  · exact ⟨_, _, rfl⟩
theorem zyq (B : List (Int × Int)) (k x y : Int) : ∀ A : List (Int × Int), fl (A ++ [(k, x)] ++ B) = (fl (A ++ [(k, y)] ++ B)).set (A.length * 2 + 1) (.int .u64 x)
  | [] => by simp [zhe]
  | c :: A => by
    have ih := zyq B k x y A
    simp only [List.cons_append, zhe, List.length_cons]
    rw [show (A.length + 1) * 2 + 1 = (A.length * 2 + 1) + 1 + 1 by omega, List.set_cons_succ, List.set_cons_succ, ih]
theorem zwv (xs : List (Int × Int)) (i : Nat) (k : Int) (c : Int × Int) (h : xs[i]? = some c) (hk : c.1 = k) : xs = xs.take i ++ [(k, c.2)] ++ xs.drop (i + 1) := by
  obtain ⟨hi, rfl⟩ := List.getElem?_eq_some_iff.1 h
  subst hk
  show xs = xs.take i ++ [xs[i]] ++ xs.drop (i + 1)
  simp
theorem zcw {w : World} {base base' : Nat} {e : TypeId} {size : Nat} {v : Value} {n : Nat} {xs : List Value} (hb : base' ≤ base) (h : w.ownsRow base e size v n xs) : w.ownsRow base' e size v n xs := by
  obtain ⟨h1, h2⟩ := h
  refine ⟨h1, ?_⟩
  rcases h2 with h2 | ⟨g, cap, cur, hv, hg, r⟩
  · exact .inl h2
  · exact .inr ⟨g, cap, cur, hv, Nat.le_trans hb hg, r⟩
theorem zcc {w w' : World} {base : Nat} {e : TypeId} {size : Nat} {v : Value} {n : Nat} {xs : List Value} (h : w.ownsRow base e size v n xs) (b : Below w.heap.size w w') : w'.ownsRow base e size v n xs := by
  obtain ⟨h1, h2⟩ := h
  refine ⟨h1, ?_⟩
  rcases h2 with h2 | ⟨g, cap, cur, hv, hg, hh, r⟩
  · exact .inl h2
  · exact .inr ⟨g, cap, cur, hv, hg, (b.block g (Bx.lt ⟨_, hh⟩)).trans hh, r⟩
theorem zlh {w : World} {base b : Nat} {e : TypeId} {size : Nat} {v : Value} {n : Nat} {xs : List Value} (h : w.ownsRow base e size v n xs) (hb : b < base) (d : Array Value) : (w.setRow b d).ownsRow base e size v n xs := by
  obtain ⟨h1, h2⟩ := h
  refine ⟨h1, ?_⟩
  rcases h2 with h2 | ⟨g, cap, cur, hv, hg, hh, r⟩
  · exact .inl h2
  · exact .inr ⟨g, cap, cur, hv, hg, by unfold World.setRow; simp only [Array.getElem?_modify]; rw [if_neg (by omega)]; exact hh, r⟩
theorem zbd {w : World} {base : Nat} {e : TypeId} {size : Nat} {v : Value} {n : Nat} {xs : List Value} (h : w.ownsRow base e size v n xs) (b o : Nat) (hb : b < base) (u : Value) : (w.setCell ⟨b, o, none⟩ u).ownsRow base e size v n xs := ownsRow_setCell_below h hb u
theorem zyr {xs : List (Int × Int)} {k : Int} (h : has xs k = true) : lb xs k < xs.length := by
  unfold has at h
  split at h
  · rename_i c hc; exact (List.getElem?_eq_some_iff.1 hc).1
  · cases h
set_option maxHeartbeats 4000000 in
theorem put_calls (sz : Int) (v : Value) (xs : List (Int × Int)) (k x : Int) (W : World) (hs : Srt xs) (hbig : (xs.length + 1) * 16 ≤ 140737488355328) (hv : Sl W v xs.length 2 (fl xs)) :
    Calls Tryz.prog 172 #[.agg #[.int .u64 sz, v], .int .u64 k, .int .u64 x] W fun e w' => ∃ v', e = .returned (.agg #[.int .u64 sz, v']) ∧ w'.ownsRow W.heap.size 204 2 v' (zbq xs k x).length (fl (zbq xs k x)) ∧ Below W.heap.size W w' := by
  have B0 := zaq (zaq (Below.refl W.heap.size W) (.cells #[.int .u64 sz, v] 30)) (.cells #[.int .u64 0, .slice none 0 0] 30)
  have X0 : Bx ((W.alloc (.cells #[.int .u64 sz, v] 30)).alloc (.cells #[.int .u64 0, .slice none 0 0] 30)) W.heap.size #[.int .u64 sz, v] := Bx.alloc Bx.new
  have X1 : Bx ((W.alloc (.cells #[.int .u64 sz, v] 30)).alloc (.cells #[.int .u64 0, .slice none 0 0] 30)) (W.heap.size + 1) #[.int .u64 0, .slice none 0 0] := bx_new1
  have S0 := hv.below B0
  go_enter Tryz.func172, Tryz.ntmps172
  go_wp2_with fail
  refine (zdt sz v xs k _ hs (hv.below B0)).mono ?_
  rintro e w1 ⟨rfl, b1⟩
  have B1 := zaw B0 b1
  have Y0 := X0.below b1
  have Y1 := X1.below b1
  have S1 := S0.below b1
  clear X0 X1 S0 b1 B0 hv
  have hsz := Y1.lt
  have y00 : w1.cell? ⟨W.heap.size, 0, none⟩ = some (.int .u64 sz) := Y0.cell 0
  have y01 : w1.cell? ⟨W.heap.size, 1, none⟩ = some v := Y0.cell 1
  go_wp2_with fail
  refine (CloneCell.zo4 v xs.length (fl xs) _ (zi7 xs) (by omega) S1).mono ?_
  rintro e w2 ⟨v2, rfl, O2, b2⟩
  obtain ⟨a2, c2, rfl⟩ := zct O2
  have B2 := zaw B1 b2
  have Z0 := Y0.below b2
  have Z1 := Y1.below b2
  clear Y0 Y1 y00 y01 S1
  have hlb := zt1 xs k
  have hfl := zi6 xs
  have hput := z25 xs k x hs
  have h12 := b2.size
  have f0 := Z0.free
  have z0 : w2.cell? ⟨W.heap.size, 0, none⟩ = some (.int .u64 sz) := Z0.cell 0
  have z1 : w2.cell? ⟨W.heap.size, 1, none⟩ = some v := Z0.cell 1
  have g0 := Z1.free
  have q0 : w2.cell? ⟨W.heap.size + 1, 0, none⟩ = some (.int .u64 0) := Z1.cell 0
  have q1 : w2.cell? ⟨W.heap.size + 1, 1, none⟩ = some (.slice none 0 0) := Z1.cell 1
  by_cases hx : x = 0
  · subst hx
    cases hh : has xs k
    · rw [hh] at hput
      have HP := Lib.hid (show zbq xs k 0 = xs by simpa using hput)
      clear hput hh
      go_wp2
      refine bodyPost_ret (v := .agg #[.int .u64 sz, .slice a2 xs.length c2]) (by simp [results, Tryz.results172, go_sem, q0, q1]) rfl ⟨_, rfl, ?_, ?_⟩
      · rw [HP.out]
        exact zcw (by omega) (zbd (zbd (zbd O2 W.heap.size 1 (by omega) (.slice a2 (xs.length) c2)) (W.heap.size + 1) 0 (by omega) (.int .u64 sz)) (W.heap.size + 1) 1 (by omega) (.slice a2 (xs.length) c2))
      · exact zal _ _ _ (by omega) (zal _ _ _ (by omega) (zal _ _ _ (by omega) B2))
    · rw [hh] at hput
      have hlt := zyr hh
      have HP := Lib.hid (show zbq xs k 0 = xs.take (lb xs k) ++ xs.drop (lb xs k + 1) by simpa using hput)
      clear hput hh
      have hbl : ((lb xs k : Nat) : Int) < (2 : Int) ^ 62 := by omega
      have hwr : IntKind.i64.wrap (((lb xs k : Nat) : Int) + 1) = ((lb xs k : Nat) : Int) + 1 := by rw [IntKind.wrap_i64]; omega
      go_wp2_with fail
      refine (DeleteCell.zna w1.heap.size _ xs.length (lb xs k) (fl xs) _ (zi7 xs) hlt O2).mono ?_
      rintro e w3 ⟨v3, rfl, O3, b3⟩
      have b3m : Below W.heap.size W w3 := B2.trans (b3.mono (by omega))
      obtain ⟨a3, c3, rfl⟩ := zct O3
      have h23 := b3.size
      have B3 := b3m
      clear f0 z0 z1 g0 q0 q1
      have T0 := Z0.of_below b3 (by omega)
      have T1 := Z1.of_below b3 (by omega)
      have f0 := T0.free
      have z0 : w3.cell? ⟨W.heap.size, 0, none⟩ = some (.int .u64 sz) := T0.cell 0
      have z1 : w3.cell? ⟨W.heap.size, 1, none⟩ = some v := T0.cell 1
      have g0 := T1.free
      have q0 : w3.cell? ⟨W.heap.size + 1, 0, none⟩ = some (.int .u64 0) := T1.cell 0
      have q1 : w3.cell? ⟨W.heap.size + 1, 1, none⟩ = some (.slice none 0 0) := T1.cell 1
      go_wp2
      refine bodyPost_ret (v := .agg #[.int .u64 sz, .slice a3 (xs.length - 1) c3]) (by simp [results, Tryz.results172, go_sem, q0, q1]) rfl ⟨_, rfl, ?_, ?_⟩
      · rw [HP.out]
        have O4 := zcw (base' := W.heap.size) (by omega) (zbd (zbd (zbd O3 W.heap.size 1 (by omega) (.slice a3 (xs.length - 1) c3)) (W.heap.size + 1) 0 (by omega) (.int .u64 sz)) (W.heap.size + 1) 1 (by omega) (.slice a3 (xs.length - 1) c3))
        have e1 : (xs.take (lb xs k) ++ xs.drop (lb xs k + 1)).length = xs.length - 1 := by rw [List.length_append, List.length_take, List.length_drop]; omega
        rw [e1, zdg, ← zo6, ← zo7]
        exact O4
      · exact zal _ _ _ (by omega) (zal _ _ _ (by omega) (zal _ _ _ (by omega) B3))
  · cases hh : has xs k
    · rw [hh] at hput
      have HP := Lib.hid (show zbq xs k x = xs.take (lb xs k) ++ [(k, x)] ++ xs.drop (lb xs k) by simpa [hx] using hput)
      clear hput hh
      go_wp2_with fail
      refine (InsertCell.znb w1.heap.size _ xs.length (lb xs k) (fl xs) [.int .u64 k, .int .u64 x] w2.heap.size #[.int .u64 k, .int .u64 x] _ _ rfl (by simp [Value.oneCell']) (zi7 xs) hlb (by rw [World.size_alloc]; omega) (by omega) (O2.alloc _) (heap_alloc_new _ _) rfl (fun g hg => by have := (O2.lt g hg).2; omega)).mono ?_
      rintro e w3 ⟨v3, rfl, O3, b3'⟩
      have b3 : Below w1.heap.size w2 w3 := ((Below.refl _ w2).alloc h12 _).trans b3'
      have b3m : Below W.heap.size W w3 := B2.trans (b3.mono (by omega))
      obtain ⟨a3, c3, rfl⟩ := zct O3
      have h23 := b3.size
      have B3 := b3m
      clear f0 z0 z1 g0 q0 q1
      have T0 := Z0.of_below b3 (by omega)
      have T1 := Z1.of_below b3 (by omega)
      have f0 := T0.free
      have z0 : w3.cell? ⟨W.heap.size, 0, none⟩ = some (.int .u64 sz) := T0.cell 0
      have z1 : w3.cell? ⟨W.heap.size, 1, none⟩ = some v := T0.cell 1
      have g0 := T1.free
      have q0 : w3.cell? ⟨W.heap.size + 1, 0, none⟩ = some (.int .u64 0) := T1.cell 0
      have q1 : w3.cell? ⟨W.heap.size + 1, 1, none⟩ = some (.slice none 0 0) := T1.cell 1
      go_wp2
      refine bodyPost_ret (v := .agg #[.int .u64 sz, .slice a3 (xs.length + 1) c3]) (by simp [results, Tryz.results172, go_sem, q0, q1]) rfl ⟨_, rfl, ?_, ?_⟩
      · rw [HP.out]
        have O4 := zcw (base' := W.heap.size) (by omega) (zbd (zbd (zbd O3 W.heap.size 1 (by omega) (.slice a3 (xs.length + 1) c3)) (W.heap.size + 1) 0 (by omega) (.int .u64 sz)) (W.heap.size + 1) 1 (by omega) (.slice a3 (xs.length + 1) c3))
        have e1 : (xs.take (lb xs k) ++ [(k, x)] ++ xs.drop (lb xs k)).length = xs.length + 1 := by simp; omega
        rw [e1, zdg, zdg, ← zo6, ← zo7]
        exact O4
      · exact zal _ _ _ (by omega) (zal _ _ _ (by omega) (zal _ _ _ (by omega) B3))
    · rw [hh] at hput
      have hlt := zyr hh
      have HP := Lib.hid (show zbq xs k x = xs.take (lb xs k) ++ [(k, x)] ++ xs.drop (lb xs k + 1) by simpa [hx] using hput)
      have HE : ∃ y, xs = xs.take (lb xs k) ++ [(k, y)] ++ xs.drop (lb xs k + 1) := by
        unfold has at hh
        split at hh
        · rename_i c hc
          exact ⟨_, zwv xs _ k c hc (by simpa using hh)⟩
        · cases hh
      have HE' := Lib.hid HE
      clear hput hh HE
      have O2h := O2
      obtain ⟨_, ⟨_, hn⟩ | ⟨g, cap, cur, hv2, hg, hgh, hcap, hmax, _, _⟩⟩ := O2h
      · omega
      · simp at hv2
        obtain ⟨rfl, rfl⟩ := hv2
        unfold maxLen at hmax
        have fg := O2.frozenAt
        have cg : ∀ j, j < xs.length * 2 → ∃ u, w2.cell? ⟨g, j, none⟩ = some u := fun j hj => by rw [O2.cellAt j hj]; exact ⟨_, List.getElem?_eq_getElem (by omega)⟩
        obtain ⟨u0, cg0⟩ := cg (lb xs k * 2 + 1) (by omega)
        have hgn : g ≠ W.heap.size := by omega
        have hgn' : g ≠ W.heap.size + 1 := by omega
        go_wp2
        have S4 := (O2.stored (lb xs k * 2 + 1) (.int .u64 x)).1
        refine bodyPost_ret (v := .agg #[.int .u64 sz, .slice (some ⟨g, 0, none⟩) xs.length c2]) (by simp [results, Tryz.results172, go_sem, q0, q1]) rfl ⟨_, rfl, ?_, ?_⟩
        · rw [HP.out]
          obtain ⟨y, hy⟩ := HE'.out
          have O4 := zcw (base' := W.heap.size) (by omega) (zbd (zbd (zbd S4 W.heap.size 1 (by omega) (.slice (some ⟨g, 0, none⟩) (xs.length) c2)) (W.heap.size + 1) 0 (by omega) (.int .u64 sz)) (W.heap.size + 1) 1 (by omega) (.slice (some ⟨g, 0, none⟩) (xs.length) c2))
          have e1 : (xs.take (lb xs k) ++ [(k, x)] ++ xs.drop (lb xs k + 1)).length = xs.length := by simp; omega
          have e2 := zyq (xs.drop (lb xs k + 1)) k x y (xs.take (lb xs k))
          rw [← hy, List.length_take, Nat.min_eq_left hlb] at e2
          rw [e1, e2]
          exact O4
        · exact zal _ _ _ (by omega) (zal _ _ _ (by omega) (zal _ _ _ (by omega) (zal _ _ _ (by omega) B2)))
end Go.Proofs.YtomeaibdedaldaaGreatDoor.PutC
namespace Go.Proofs.YtomeaibdedaldaaGreatDoor.MemC3
open Go.RowKit Bv Base MemL MemC PutC
open BitsC
def zdh (sz a n : Int) : Int := if zm9 n then (if zem a n then (if a < sz then 0 else 3) else 2) else 1
theorem zqi {n : Int} (h : zm9 n = true) : 1 ≤ n ∧ n ≤ 8 := by
  unfold zm9 at h
  simp at h
  omega
set_option maxHeartbeats 2000000 in
theorem zo8 (sz a n : Int) (v : Value) (W : World) (ha : U a) :
    Calls Tryz.prog 171 #[.agg #[.int .u64 sz, v], .int .u64 a, .int .i64 n] W fun e w' => e = .returned (.int .i64 (zdh sz a n)) ∧ Below W.heap.size W w' := by
  have HW := Lib.hid (show zdh sz a n = if zm9 n then (if zem a n then (if a < sz then 0 else 3) else 2) else 1 from rfl)
  obtain ⟨a0, a1⟩ := ha
  go_enter Tryz.func171, Tryz.ntmps171
  go_wp2_with fail
  refine (zo3 n _).mono ?_
  rintro e w1 ⟨rfl, q1⟩
  have Y := Bx.below (Bx.new (w := W) (c := #[.int .u64 sz, v]) (T := 30)) q1.below
  have B1 := Q.bel (zaq (Below.refl W.heap.size W) (.cells #[.int .u64 sz, v] 30)) q1
  clear q1
  cases h1 : zm9 n
  · have H := Lib.hid h1
    clear h1
    go_wp2
    go_ret
    exact ⟨by rw [HW.out, H.out]; rfl, B1⟩
  · have hn := zqi h1
    have H := Lib.hid h1
    clear h1
    have hw : IntKind.u64.wrap n = n := by rw [wrap_u64]; omega
    go_wp2_with fail
    refine (zed a n _ ⟨a0, a1⟩ ⟨by omega, by omega⟩).mono ?_
    rintro e w2 ⟨rfl, q2⟩
    have B2 := Q.bel B1 q2
    have y0 : w2.cell? ⟨W.heap.size, 0, none⟩ = some (.int .u64 sz) := (Y.below q2.below).cell 0
    clear q2 Y
    cases h2 : zem a n
    · have H' := Lib.hid h2
      clear h2
      go_wp2
      go_ret
      exact ⟨by rw [HW.out, H.out, H'.out]; rfl, B2⟩
    · have H' := Lib.hid h2
      clear h2
      by_cases h3 : a < sz
      · go_wp2
        go_ret
        exact ⟨by rw [HW.out, H.out, H'.out, if_pos rfl, if_pos rfl, if_pos h3]; rfl, B2⟩
      · go_wp2
        go_ret
        exact ⟨by rw [HW.out, H.out, H'.out, if_pos rfl, if_pos rfl, if_neg (by omega)]; rfl, B2⟩
def Uw (xs : List (Int × Int)) : Prop := ∀ c ∈ xs, U c.1 ∧ U c.2
theorem Uw.word {xs : List (Int × Int)} (h : Uw xs) (sz a : Int) : U (zbj sz xs a) := by
  unfold zbj
  split
  · unfold MemC.look
    split
    · rename_i c hc
      split
      · exact (h c (List.mem_of_getElem? hc)).2
      · exact ⟨by omega, by omega⟩
    · exact ⟨by omega, by omega⟩
  · exact ⟨by omega, by omega⟩
def zdp (sz : Int) (xs : List (Int × Int)) (a n v : Int) : List (Int × Int) :=
  if zdh sz a n = 0 then zbq xs (a / 8) (zbw (zbj sz xs a) (a % 8 * 8) (n * 8) v) else xs
structure CS (W : World) (m : Nat) (sz : Int) (v : Value) (w' : World) : Prop where
  box : Bx w' W.heap.size #[.int .u64 sz, v]
  size : m ≤ w'.heap.size
  bel : Below W.heap.size W w'
structure Shp (b k : Nat) (w' : World) : Prop where
  ex : ∃ c : Array Value, c.size = k ∧ Bx w' b c
theorem CS.below {W : World} {m : Nat} {sz : Int} {v : Value} {w w' : World} (h : CS W m sz v w) (b : Below w.heap.size w w') : CS W m sz v w' := ⟨h.box.below b, Nat.le_trans h.size b.size, zaw h.bel b⟩
theorem CS.row {W : World} {m : Nat} {sz : Int} {v : Value} {w : World} {b : Nat} (h : CS W m sz v w) (hb : W.heap.size < b) (d : Array Value) : CS W m sz v (w.setRow b d) :=
  ⟨h.box.row_far (by omega), by have := h.size; unfold World.setRow; simpa using this, zik h.bel (by omega) d⟩
theorem Shp.below {b k : Nat} {w w' : World} (h : Shp b k w) (x : Below w.heap.size w w') : Shp b k w' := by
  obtain ⟨c, h1, h2⟩ := h.ex; exact ⟨c, h1, h2.below x⟩
theorem zww {w : World} {v : Value} {n k : Nat} {xs : List Value} (h : Sl w v n k xs) : ∃ a c, v = .slice a n c := by
  obtain ⟨_, ⟨rfl, hn⟩ | ⟨b, o, cap, rfl, _⟩⟩ := h
  · exact ⟨_, _, by rw [hn]⟩
  · exact ⟨_, _, rfl⟩
theorem zo9 (w : World) : Below w.heap.size w w.drew := Q.below (w' := w.drew) ⟨⟨1, rfl⟩⟩
set_option maxHeartbeats 4000000 in
theorem zi8 (sz : Int) (v : Value) (xs : List (Int × Int)) (a n x : Int) (W : World) (ha : U a) (hx : U x) (hs : Srt xs) (hu : Uw xs) (hbig : (xs.length + 1) * 16 ≤ 140737488355328) (hv : Sl W v xs.length 2 (fl xs)) :
    Calls Tryz.prog 118 #[.agg #[.int .u64 sz, v], .int .u64 a, .int .i64 n, .int .u64 x] W fun e w' => ∃ v', e = .returned (.tuple #[.agg #[.int .u64 sz, v'], .int .i64 (zdh sz a n)]) ∧ (if zdh sz a n = 0 then w'.ownsRow W.heap.size 204 2 v' (zdp sz xs a n x).length (fl (zdp sz xs a n x)) else v' = v) ∧ Below W.heap.size W w' := by
  have HM := Lib.hid (show zdp sz xs a n x = if zdh sz a n = 0 then zbq xs (a / 8) (zbw (zbj sz xs a) (a % 8 * 8) (n * 8) x) else xs from rfl)
  have B0 := zaq (zaq (Below.refl W.heap.size W) (.cells #[.int .u64 sz, v] 30)) (.cells #[.int .u64 0, .slice none 0 0] 30)
  have X0 : Bx ((W.alloc (.cells #[.int .u64 sz, v] 30)).alloc (.cells #[.int .u64 0, .slice none 0 0] 30)) W.heap.size #[.int .u64 sz, v] := Bx.alloc Bx.new
  have X1 : Bx ((W.alloc (.cells #[.int .u64 sz, v] 30)).alloc (.cells #[.int .u64 0, .slice none 0 0] 30)) (W.heap.size + 1) #[.int .u64 0, .slice none 0 0] := bx_new1
  have hv0 := hv
  obtain ⟨av, cv, rfl⟩ : ∃ a c, v = .slice a xs.length c := by
    obtain ⟨_, ⟨rfl, hn⟩ | ⟨b, o, cap, rfl, _⟩⟩ := hv0
    · exact ⟨_, _, by rw [hn]⟩
    · exact ⟨_, _, rfl⟩
  clear hv0
  go_enter Tryz.func118, Tryz.ntmps118
  go_wp2_with fail
  refine (zo8 sz a n _ _ ha).mono ?_
  rintro e w1 ⟨rfl, b1⟩
  have B1 := zaw B0 b1
  have Y0 := X0.below b1
  have Y1 := X1.below b1
  clear X0 X1 b1 B0
  have hsz := Y1.lt
  have y00 : w1.cell? ⟨W.heap.size, 0, none⟩ = some (.int .u64 sz) := Y0.cell 0
  have y01 : w1.cell? ⟨W.heap.size, 1, none⟩ = some (.slice av xs.length cv) := Y0.cell 1
  have g0 := Y1.free
  have q0 : w1.cell? ⟨W.heap.size + 1, 0, none⟩ = some (.int .u64 0) := Y1.cell 0
  have q1 : w1.cell? ⟨W.heap.size + 1, 1, none⟩ = some (.slice none 0 0) := Y1.cell 1
  by_cases hw : zdh sz a n = 0
  · have HW := Lib.hid hw
    have hsb : zm9 n = true := by
      unfold zdh at hw
      split at hw
      · assumption
      · omega
    have hn8 := zqi hsb
    rw [hw]
    clear hw hsb
    obtain ⟨a0, a1⟩ := ha
    have ha : U a := ⟨a0, a1⟩
    have d1 : IntKind.u64.wrap (a.tdiv 8) = a / 8 := by rw [wrap_u64, Int.tdiv_eq_ediv_of_nonneg a0]; omega
    have d2 : a.tmod 8 = a % 8 := Int.tmod_eq_emod_of_nonneg a0
    have d3 : IntKind.i64.wrap (a % 8) = a % 8 := by rw [IntKind.wrap_i64]; omega
    have d4 : IntKind.i64.wrap (a % 8 * 8) = a % 8 * 8 := by rw [IntKind.wrap_i64]; omega
    have d5 : IntKind.i64.wrap (n * 8) = n * 8 := by rw [IntKind.wrap_i64]; omega
    have hwu := hu.word sz a
    go_wp2_with fail
    refine RegR.zby (Θ := Option Addr × Nat) [0, 0, 0, 0, 0, 0, 0, 0, 0, 0, 0, 0, 0, 0, 1, 2, 0] [0, 1, 2, 3, 4, 5, 6, 7, 8, 9, 10, 11, 12, 13, 14, 15, 16]
      (CS W w1.heap.size sz (.slice av xs.length cv))
      (fun _ t => .agg #[.int .u64 sz, .slice t.1 (zdp sz xs a n x).length t.2])
      (fun _ t w' => w'.ownsRow w1.heap.size 204 2 (.slice t.1 (zdp sz xs a n x).length t.2) (zdp sz xs a n x).length (fl (zdp sz xs a n x)))
      (by kernel_rfl) (by kernel_rfl) (fun w w' h b => h.below b) (fun _ t w w' h b => zcc h b)
      ⟨Y0.drew, Nat.le_refl _, zaw B1 (zo9 w1)⟩ (Shp (W.heap.size + 1) 2) (fun w w' h b => h.below b) ⟨_, rfl, Y1.drew⟩ ?_
    repeat (with_reducible refine RegR.zmi _ rfl rfl (fun K hK => ?_)
            go_simp
            first
              | (refine hK _ ?_; clear hK K)
              | (refine ⟨_, fun _ _ => rfl, hK _ ?_⟩; clear hK K)
              | (refine ⟨_, fun _ _ _ => rfl, hK _ ?_⟩; clear hK K)
              | (refine ⟨.agg #[.int .u64 sz, .slice av xs.length cv], fun w hc _ => ?_, hK _ ?_⟩
                 · have y0 := hc.box.cell 0
                   have y1 := hc.box.cell 1
                   simp at y0 y1
                   go_simp
                 clear hK K)
              | (refine ⟨_, fun w hc _ => (zhf sz _ xs a w ha hs (hv.below hc.bel)).mono fun e w' h => h, hK _ ?_⟩; clear hK K)
              | (refine ⟨_, fun w hc _ => (zec _ _ _ _ w hwu hx (by omega) (by omega) (by omega) (by omega)).mono fun e w' h => ⟨h.1, h.2.below⟩, hK _ ?_⟩; clear hK K))
    refine RegR.zmj _ rfl rfl rfl 172 #[.agg #[.int .u64 sz, .slice av xs.length cv], .int .u64 (a / 8), .int .u64 (zbw (zbj sz xs a) (a % 8 * 8) (n * 8) x)] (fun w => by kernel_rfl) (fun w hc => ?_) (fun t => ?_)
    · refine (put_calls sz _ xs (a / 8) (zbw (zbj sz xs a) (a % 8 * 8) (n * 8) x) w hs hbig (hv.below hc.bel)).mono ?_
      rintro e w' ⟨v', rfl, hsl, hb⟩
      have hE : zdp sz xs a n x = zbq xs (a / 8) (zbw (zbj sz xs a) (a % 8 * 8) (n * 8) x) := by rw [HM.out, if_pos HW.out]
      rw [← hE] at hsl
      obtain ⟨p, q, rfl⟩ := zct hsl
      exact ⟨(p, q), rfl, hb, zcw hc.size hsl⟩
    refine RegR.zds _ rfl rfl rfl 30 _ _ rfl (W.heap.size + 1) #[.int .u64 sz, .slice t.1 (zdp sz xs a n x).length t.2] rfl rfl (by kernel_rfl) (by simp [Value.oneCell']) rfl (fun w w' h b => ?_) (fun w h => h.1.ex) (fun w h => ?_) (fun w h => ?_) ?_
    · exact ⟨h.1.below b, zcc h.2 b⟩
    · obtain ⟨c, e1, e2⟩ := h.1.ex
      exact ⟨⟨_, rfl, e2.row_same⟩, zlh h.2 (by omega) _⟩
    · exact h.row (by omega) _
    with_reducible refine RegR.zmi _ rfl rfl (fun K hK => ?_)
    go_simp
    refine ⟨_, fun _ _ _ _ _ => rfl, hK _ ?_⟩
    clear hK K
    intro w3 C3 D3
    have Z1 := D3.2
    have g0 := Z1.free
    have q0 : w3.cell? ⟨W.heap.size + 1, 0, none⟩ = some (.int .u64 sz) := Z1.cell 0
    have q1 : w3.cell? ⟨W.heap.size + 1, 1, none⟩ = some (.slice t.1 (zdp sz xs a n x).length t.2) := Z1.cell 1
    have O3 := zcw (base' := W.heap.size) (by omega) D3.1.2
    have B3 := C3.bel
    clear C3 D3
    go_wp2
    refine bodyPost_ret (v := .tuple #[.agg #[.int .u64 sz, .slice t.1 (zdp sz xs a n x).length t.2], .int .i64 0]) (by simp [results, Tryz.results118, go_sem, q0, q1]) rfl ⟨_, rfl, ?_, B3⟩
    first | (rw [if_pos rfl]; exact O3) | (rw [if_pos HW.out]; exact O3) | exact O3
  · go_wp2
    refine bodyPost_ret (v := .tuple #[.agg #[.int .u64 sz, .slice av xs.length cv], .int .i64 (zdh sz a n)]) (by simp [results, Tryz.results118, go_sem, q0, q1]) rfl ⟨_, rfl, ?_, ?_⟩
    · first | rfl | rw [if_neg hw]
    · exact zal _ _ _ (by omega) (zal _ _ _ (by omega) B1)
end Go.Proofs.YtomeaibdedaldaaGreatDoor.MemC3
namespace Go.Proofs.YtomeaibdedaldaaGreatDoor.GrowCell
open Go.RowKit Bv Base MemL
set_option maxHeartbeats 2000000 in
set_option maxRecDepth 100000 in
theorem grow_calls (n : Nat) (W : World) (hbig : n * 16 ≤ 140737488355328) :
    Calls Tryz.prog 201 #[.slice none 0 0, .int .i64 n] W fun e w' => ∃ v', e = .returned v' ∧ w'.ownsRow W.heap.size 204 2 v' 0 [] ∧ Below W.heap.size W w' := by
  obtain ⟨i0, hi0, hz0, hz1, hz2⟩ := info_parts CloneCell.info
  have h1 : ¬ ((n : Int) < 0) := by omega
  have h3 : wrap64 (n : Int) = n := by unfold wrap64; omega
  have h3' : IntKind.i64.wrap (n : Int) = n := by rw [IntKind.wrap_i64]; omega
  by_cases h0 : n = 0
  · subst h0
    go_enter Tryz.func201, Tryz.ntmps201
    go_wp2
    go_ret
    exact ⟨_, rfl, ⟨rfl, .inl ⟨rfl, rfl⟩⟩, Below.refl _ _⟩
  · have h4 : (n : Int) > 0 := by omega
    have hrz : ∀ ty, (Builtin.append_ #[28, 3] ty #[.slice none 0 0, .int .i64 (n : Int)]).run Tryz.prog W =
        .ok (.slice (some ⟨W.heap.size, 0, none⟩) n (grownCap W n 0 204)) (W.drew.alloc (.cells (#[] ++ Builtin.zeroCells (.agg #[.int .u64 0, .int .u64 0] : Value).cells n ++ Builtin.zeroCells (.agg #[.int .u64 0, .int .u64 0] : Value).cells (grownCap W n 0 204 - n)) 204)) := fun ty => by
      have h := Lib.run_append_grow_zeros W 28 3 ty 204 i0 (.agg #[.int .u64 0, .int .u64 0]) .i64 .i64 Tryz.underlying28 Tryz.underlying3 hi0 hz0 none 0 0 [] (run_firstCells_none W.drew _ 0 0 0) n (by omega) (by omega) (by omega) (by omega)
        (by rw [hz2]; omega) (growslice_fits (by omega) (by rw [hz2]; omega))
      simpa using h
    have hG : n ≤ grownCap W n 0 204 := grownCap_ge W _ _ _
    have hGm := grownCap_le_maxLen W n 0 204 (by unfold maxLen; omega)
    generalize grownCap W n 0 204 = G at hrz hG hGm
    unfold maxLen at hGm
    go_enter Tryz.func201, Tryz.ntmps201
    go_wp2_with (at_builtin; refine Lib.wpList_append_run _ rfl _ _ _ _ rfl _ _ rfl rfl _ _ (hrz _) ?_)
    all_goals
      go_ret
      refine ⟨_, rfl, ⟨rfl, .inr ⟨W.heap.size, G, _, rfl, Nat.le_refl _, heap_alloc_new _ _, by omega, by unfold maxLen; omega, ?_, rfl⟩⟩, ?_⟩
      · simp [Builtin.zeroCells, Value.cells]; omega
      · exact zaq (zbe (Below.refl _ _) 1) _
end Go.Proofs.YtomeaibdedaldaaGreatDoor.GrowCell
namespace Go.Proofs.YtomeaibdedaldaaGreatDoor.ConcatCell
open Go.RowKit Bv Base MemL
def nk (n1 n2 : Nat) : Nat → Nat | 0 => 0 | 1 => n1 | _ => n1 + n2
def xk (x1 x2 : List Value) : Nat → List Value | 0 => [] | 1 => x1 | _ => x1 ++ x2
def vk (v1 v2 : Value) : Nat → Value | 0 => v1 | _ => v2
def ck (n1 n2 : Nat) : Nat → Nat | 0 => n1 | _ => n2
def yk (x1 x2 : List Value) : Nat → List Value | 0 => x1 | _ => x2
theorem nk_succ (n1 n2 k : Nat) (h : k < 2) : nk n1 n2 (k + 1) = nk n1 n2 k + ck n1 n2 k := by
  match k, h with
  | 0, _ => simp [nk, ck]
  | 1, _ => simp [nk, ck]
theorem xk_succ (n1 n2 : List Value) (k : Nat) (h : k < 2) : xk n1 n2 (k + 1) = xk n1 n2 k ++ yk n1 n2 k := by
  match k, h with
  | 0, _ => simp [xk, yk]
  | 1, _ => simp [xk, yk]
theorem nk_le (n1 n2 k : Nat) : nk n1 n2 k ≤ n1 + n2 := by
  match k with
  | 0 => simp [nk]
  | 1 => simp [nk]
  | k + 2 => simp [nk]
theorem sl_shape {w : World} {v : Value} {n k : Nat} {xs : List Value} (h : Sl w v n k xs) : ∃ a c, v = .slice a n c := by
  obtain ⟨_, ⟨rfl, hn⟩ | ⟨b, o, cap, rfl, _⟩⟩ := h
  · exact ⟨_, _, by rw [hn]⟩
  · exact ⟨_, _, rfl⟩
theorem sl_k {w : World} {v1 v2 : Value} {n1 n2 : Nat} {x1 x2 : List Value} (h1 : Sl w v1 n1 2 x1) (h2 : Sl w v2 n2 2 x2) (k : Nat) : Sl w (vk v1 v2 k) (ck n1 n2 k) 2 (yk x1 x2 k) := by
  cases k with
  | zero => exact h1
  | succ k => exact h2
theorem one_k {x1 x2 : List Value} (h1 : ∀ u ∈ x1, u.oneCell' = true) (h2 : ∀ u ∈ x2, u.oneCell' = true) (k : Nat) : ∀ u ∈ yk x1 x2 k, u.oneCell' = true := by
  cases k with
  | zero => exact h1
  | succ k => exact h2
set_option maxHeartbeats 4000000 in
set_option maxRecDepth 100000 in
theorem concat_calls (vb : Nat) (v1 v2 : Value) (n1 n2 : Nat) (x1 x2 : List Value) (W : World) (hc : Bx W vb #[v1, v2]) (s1 : Sl W v1 n1 2 x1) (s2 : Sl W v2 n2 2 x2) (o1 : ∀ u ∈ x1, u.oneCell' = true) (o2 : ∀ u ∈ x2, u.oneCell' = true)
    (hbig : (n1 + n2) * 16 ≤ 140737488355328) :
    Calls Tryz.prog 192 #[.slice (some ⟨vb, 0, none⟩) 2 2] W fun e w' => ∃ v', e = .returned v' ∧ w'.ownsRow W.heap.size 204 2 v' (n1 + n2) (x1 ++ x2) ∧ Below W.heap.size W w' := by
  obtain ⟨i0, hi0, hz0, hz1, hz2⟩ := info_parts CloneCell.info
  have hcell : ∀ k, k < 2 → W.cell? ⟨vb, k, none⟩ = some (vk v1 v2 k) := fun k hk => by
    match k, hk with
    | 0, _ => exact hc.cell 0
    | 1, _ => exact hc.cell 1
  have hsk := fun k => sl_k s1 s2 k
  have hok := fun k => one_k o1 o2 k
  go_enter Tryz.func192, Tryz.ntmps192
  go_wp2
  go_loopw [3, 11] (fun s i wr => ∃ k : Nat, k ≤ 2 ∧ i = .int .i64 k ∧ s = .int .i64 (nk n1 n2 k) ∧ Below W.heap.size W wr) (fun _ i _ => 2 - (intOf i).toNat)
  case atStart => exact ⟨0, by omega, rfl, rfl, Below.refl _ _⟩
  case round =>
    obtain ⟨k, hk, rfl, rfl, br⟩ := hrel
    by_cases hk2 : k < 2
    · have r0 : wr.cell? ⟨vb, k, none⟩ = some (vk v1 v2 k) := (br.cell (p := ⟨vb, k, none⟩) hc.lt).trans (hcell k hk2)
      obtain ⟨a, c, hv⟩ := sl_shape (hsk k)
      rw [hv] at r0
      have hs := nk_succ n1 n2 k hk2
      have hl := nk_le n1 n2 (k + 1)
      have hw : IntKind.i64.wrap (((nk n1 n2 k : Nat) : Int) + ((ck n1 n2 k : Nat) : Int)) = ((nk n1 n2 (k + 1) : Nat) : Int) := by rw [IntKind.wrap_i64]; omega
      have HS := Lib.hid hs
      clear hs
      go_wp2
      exact ⟨⟨k + 1, by omega, by go_num, rfl, br⟩, by simp [intOf]; omega⟩
    · obtain rfl : k = 2 := by omega
      have hn2 : nk n1 n2 2 = n1 + n2 := rfl
      go_wp2_with fail
      refine (GrowCell.grow_calls (n1 + n2) wr hbig).mono ?_
      rintro e w2 ⟨v0, rfl, O2, b2⟩
      have B2 := zaw br b2
      have O2' : w2.ownsRow W.heap.size 204 2 v0 0 [] := by
        obtain ⟨p1, p2⟩ := O2
        refine ⟨p1, ?_⟩
        rcases p2 with p2 | ⟨g, cap, cur, hv, hg, r⟩
        · exact .inl p2
        · exact .inr ⟨g, cap, cur, hv, Nat.le_trans br.size hg, r⟩
      clear O2 b2 br
      go_wp2
      go_loopw [6, 27] (fun v i wr => ∃ k : Nat, k ≤ 2 ∧ i = .int .i64 k ∧ wr.ownsRow W.heap.size 204 2 v (nk n1 n2 k) (xk x1 x2 k) ∧ Below W.heap.size W wr) (fun _ i _ => 2 - (intOf i).toNat)
      case atStart => exact ⟨0, by omega, rfl, O2', B2⟩
      case round =>
        obtain ⟨k, hk, rfl, O, br⟩ := hrel
        by_cases hk2 : k < 2
        · have r0 : wr.cell? ⟨vb, k, none⟩ = some (vk v1 v2 k) := (br.cell (p := ⟨vb, k, none⟩) hc.lt).trans (hcell k hk2)
          have hs := nk_succ n1 n2 k hk2
          have hx := xk_succ x1 x2 k hk2
          have hl := nk_le n1 n2 (k + 1)
          have hsl := (hsk k).below br
          have ho := hok k
          obtain ⟨hyl, hsl⟩ := hsl
          have fin : ∀ v' w', w'.ownsRow W.heap.size 204 2 v' (nk n1 n2 k + ck n1 n2 k) (xk x1 x2 k ++ yk x1 x2 k) → Below W.heap.size W w' → w'.ownsRow W.heap.size 204 2 v' (nk n1 n2 (k + 1)) (xk x1 x2 (k + 1)) := fun v' w' h _ => by rw [hs, hx]; exact h
          have FIN := Lib.hid fin
          have HS := Lib.hid hs
          clear fin hs hx
          rcases hsl with ⟨hv, hn⟩ | ⟨b, o, cap, hv, hb, hcap, hmax, hce⟩
          · rw [hv] at r0
            have hy0 : yk x1 x2 k = [] := List.eq_nil_of_length_eq_zero (by rw [hyl, hn, Nat.zero_mul])
            go_wp2_with (at_builtin; refine wpList_append_own_none rfl _ _ 28 rfl W.heap.size 204 i0 2 Tryz.underlying28 hi0 _ _ _ rfl O rfl ?_)
            refine ⟨⟨k + 1, by omega, by go_num, ?_, br⟩, by simp [intOf]; omega⟩
            refine FIN.out _ _ ?_ br
            rw [hy0, hn, List.append_nil, Nat.add_zero]
            exact O
          · rw [hv] at r0
            have hsz := br.size
            have HC := Lib.hid hce
            have HY := Lib.hid hyl
            clear hce hyl
            unfold maxLen at hmax
            go_wp2_with (at_builtin; refine wpList_append_own _ rfl _ _ 28 rfl W.heap.size 204 i0 (.agg #[.int .u64 0, .int .u64 0]) 2 16 Tryz.underlying28 hi0 hz0 hz1 hz2 rfl (by decide) _ _ _ rfl O ⟨b, o, none⟩ (ck n1 n2 k) cap (yk x1 x2 k) rfl ?qc1 ?qc2 ?qc3 ?qc4 ?qc5 ?qc6 ?_)
            case qc1 => exact HY.out
            case qc2 =>
              intro j u hj
              have hjn : j < ck n1 n2 k * 2 := by
                have := (List.getElem?_eq_some_iff.1 hj).1
                have := HY.out
                omega
              rw [Addr.add_lit]
              rw [HC.out j hjn]; exact hj
            case qc3 => exact ho
            case qc4 => have := HS.out; unfold maxLen; omega
            case qc5 => have := HS.out; omega
            case qc6 => exact hsz
            intro v' w1 hown hgrow hnil
            go_wp2
            have br' : Below W.heap.size W w1 := br.grown hgrow hsz (fun g hg => (O.lt g hg).1)
            exact ⟨⟨k + 1, by omega, by go_num, FIN.out _ _ hown br', br'⟩, by simp [intOf]; omega⟩
        · obtain rfl : k = 2 := by omega
          go_wp2
          go_ret
          exact ⟨_, rfl, O, br⟩
end Go.Proofs.YtomeaibdedaldaaGreatDoor.ConcatCell
namespace Go.Proofs.YtomeaibdedaldaaGreatDoor.ClearC
open Go.RowKit Bv Base MemL MemC PutC MemC3
def zbm (xs : List (Int × Int)) (lo hi : Int) : List (Int × Int) := xs.take (lb xs lo) ++ xs.drop (lb xs hi)
theorem zz3 {w : World} {v : Value} {xs : List (Int × Int)} (h : Sl w v xs.length 2 (fl xs)) (k : Nat) (hk : k ≤ xs.length) (a : Option Addr) (c : Nat) (hv : v = .slice a xs.length c) : Sl w (.slice a k c) k 2 (fl (xs.take k)) := by
  obtain ⟨h1, h2⟩ := h
  refine ⟨by rw [zi6, List.length_take]; omega, ?_⟩
  rcases h2 with ⟨e, hn⟩ | ⟨b, o, cap, e, h3, h4, h5, h6⟩
  · rw [hv] at e
    simp only [Value.slice.injEq] at e
    exact .inl ⟨by rw [e.1, e.2.2, show k = 0 by omega], by omega⟩
  · rw [hv] at e
    simp only [Value.slice.injEq, true_and] at e
    obtain ⟨rfl, rfl⟩ := e
    refine .inr ⟨b, o, _, rfl, h3, by omega, h5, fun i hi => ?_⟩
    rw [h6 i (by omega), ← zo6, List.getElem?_take_of_lt hi]
theorem zz4 {w : World} {xs : List (Int × Int)} {b o cap : Nat} (h : Sl w (.slice (some ⟨b, o, none⟩) xs.length cap) xs.length 2 (fl xs)) (k : Nat) (hk : k ≤ xs.length) (a : Option Addr) (ha : a = if cap = k then some ⟨b, o, none⟩ else some ⟨b, o + k * 2, none⟩) :
    Sl w (.slice a (xs.length - k) (cap - k)) (xs.length - k) 2 (fl (xs.drop k)) := by
  obtain ⟨h1, h2⟩ := h
  refine ⟨by rw [zi6, List.length_drop], ?_⟩
  rcases h2 with ⟨e, hn⟩ | ⟨b', o', cap', e, h3, h4, h5, h6⟩
  · cases e
  · cases e
    by_cases hc : cap = k
    · rw [if_pos hc] at ha
      subst ha
      exact .inr ⟨b, o, _, rfl, h3, by omega, by omega, fun i hi => by omega⟩
    · rw [if_neg hc] at ha
      subst ha
      refine .inr ⟨b, _, _, rfl, h3, by omega, by omega, fun i hi => ?_⟩
      rw [show o + k * 2 + i = o + (k * 2 + i) by omega, h6 (k * 2 + i) (by omega), ← zo7, List.getElem?_drop]
structure CM (W : World) (m : Nat) (w' : World) : Prop where
  size : m ≤ w'.heap.size
  bel : Below W.heap.size W w'
theorem CM.below {W : World} {m : Nat} {w w' : World} (h : CM W m w) (b : Below w.heap.size w w') : CM W m w' := ⟨Nat.le_trans h.size b.size, zaw h.bel b⟩
set_option maxHeartbeats 4000000 in
theorem zpa (sz : Int) (v : Value) (xs : List (Int × Int)) (a n : Int) (W : World) (ha : U a) (hn : U n) (hsum : a + n < 18446744073709551616) (hs : Srt xs) (hbig : (xs.length + 1) * 32 ≤ 140737488355328) (hv : Sl W v xs.length 2 (fl xs)) :
    Calls Tryz.prog 176 #[.agg #[.int .u64 sz, v], .int .u64 a, .int .u64 n] W fun e w' => ∃ v', e = .returned (.agg #[.int .u64 sz, v']) ∧ w'.ownsRow W.heap.size 204 2 v' (zbm xs (a / 8) ((a + n) / 8)).length (fl (zbm xs (a / 8) ((a + n) / 8))) ∧ Below W.heap.size W w' := by
  have B0 := zaq (zaq (Below.refl W.heap.size W) (.cells #[.int .u64 sz, v] 30)) (.cells #[.int .u64 0, .slice none 0 0] 30)
  have X0 : Bx ((W.alloc (.cells #[.int .u64 sz, v] 30)).alloc (.cells #[.int .u64 0, .slice none 0 0] 30)) W.heap.size #[.int .u64 sz, v] := Bx.alloc Bx.new
  have X1 : Bx ((W.alloc (.cells #[.int .u64 sz, v] 30)).alloc (.cells #[.int .u64 0, .slice none 0 0] 30)) (W.heap.size + 1) #[.int .u64 0, .slice none 0 0] := bx_new1
  have hlo := zt1 xs (a / 8)
  have hhi := zt1 xs ((a + n) / 8)
  obtain ⟨a0, a1⟩ := ha
  obtain ⟨n0, n1⟩ := hn
  have d1 : IntKind.u64.wrap (a.tdiv 8) = a / 8 := by rw [wrap_u64, Int.tdiv_eq_ediv_of_nonneg a0]; omega
  have d2 : IntKind.u64.wrap (a + n) = a + n := by rw [wrap_u64]; omega
  have d3 : IntKind.u64.wrap ((a + n).tdiv 8) = (a + n) / 8 := by rw [wrap_u64, Int.tdiv_eq_ediv_of_nonneg (by omega)]; omega
  go_enter Tryz.func176, Tryz.ntmps176
  go_wp2_with fail
  refine (zdt sz v xs (a / 8) _ hs (hv.below B0)).mono ?_
  rintro e w1 ⟨rfl, b1⟩
  have B1 := zaw B0 b1
  have Y0 := X0.below b1
  have Y1 := X1.below b1
  clear X0 X1 b1 B0
  have y00 : w1.cell? ⟨W.heap.size, 0, none⟩ = some (.int .u64 sz) := Y0.cell 0
  have y01 : w1.cell? ⟨W.heap.size, 1, none⟩ = some v := Y0.cell 1
  go_wp2_with fail
  refine (zdt sz v xs ((a + n) / 8) _ hs (hv.below B1)).mono ?_
  rintro e w2 ⟨rfl, b2⟩
  have B2 := zaw B1 b2
  have Z0 := Y0.below b2
  have Z1 := Y1.below b2
  clear Y0 Y1 b2 B1 y00 y01 d1 d2 d3
  have hsz := Z1.lt
  have hM := Lib.hid (show zbm xs (a / 8) ((a + n) / 8) = xs.take (lb xs (a / 8)) ++ xs.drop (lb xs ((a + n) / 8)) from rfl)
  generalize lb xs (a / 8) = lo at *
  generalize lb xs ((a + n) / 8) = hi at *
  go_wp2_with fail
  have hs0 := hv
  obtain ⟨_, ⟨rfl, hn0⟩ | ⟨b, o, cap, rfl, hb, hcap, hmax, hcell⟩⟩ := hs0
  · obtain rfl : xs = [] := List.eq_nil_of_length_eq_zero hn0
    obtain rfl : lo = 0 := by simpa using hlo
    obtain rfl : hi = 0 := by simpa using hhi
    refine RegR.zby (Θ := Option Addr × Nat) [0, 0, 0, 0, 0, 0, 0, 0, 1, 4, 0, 3] [0, 1, 2, 3, 4, 5, 6, 7, 10, 8, 9, 11]
      (CM W w2.heap.size)
      (fun i t => if i = 8 then .slice t.1 2 2 else .slice t.1 (zbm [] (a / 8) ((a + n) / 8)).length t.2)
      (fun i t w' => if i = 8 then ∃ nb, t.1 = some ⟨nb, 0, none⟩ ∧ Bx w' nb #[.slice none 0 0, .slice none 0 0]
        else w'.ownsRow w2.heap.size 204 2 (.slice t.1 (zbm [] (a / 8) ((a + n) / 8)).length t.2) (zbm [] (a / 8) ((a + n) / 8)).length (fl (zbm [] (a / 8) ((a + n) / 8))))
      (by kernel_rfl) (by kernel_rfl) (fun w w' h b => h.below b) ?_
      ⟨Nat.le_refl _, zaw B2 (zo9 w2)⟩ (fun w => Bx w W.heap.size #[.int .u64 sz, .slice none 0 0] ∧ Bx w (W.heap.size + 1) #[.int .u64 0, .slice none 0 0]) (fun w w' h b => ⟨h.1.below b, h.2.below b⟩) ⟨Z0.drew, Z1.drew⟩ ?_
    · intro i t w w' h bb
      by_cases hi8 : i = 8
      · simp only [hi8, if_true] at h ⊢
        obtain ⟨nb, e1, e2⟩ := h
        exact ⟨nb, e1, e2.below bb⟩
      · simp only [hi8, if_false] at h ⊢
        exact zcc h bb
    repeat (with_reducible refine RegR.zmi _ rfl rfl (fun K hK => ?_)
            go_simp
            first
              | (refine hK _ ?_; clear hK K)
              | (refine ⟨_, fun _ _ => rfl, hK _ ?_⟩; clear hK K)
              | (refine ⟨_, fun _ _ _ => rfl, hK _ ?_⟩; clear hK K)
              | (refine ⟨_, fun _ _ _ _ => rfl, hK _ ?_⟩; clear hK K)
              | (refine ⟨.slice none 0 0, fun w _ hd _ => ?_, hK _ ?_⟩
                 · have y1 := hd.cell 1
                   simp at y1
                   go_simp
                 clear hK K))
    refine RegR.zp6 _ rfl rfl rfl (fun w hc => ⟨(some ⟨w.heap.size, 0, none⟩, 0), w.alloc (.cells #[.slice none 0 0, .slice none 0 0] 28), by kernel_rfl, (Below.refl _ _).alloc (Nat.le_refl _) _, ⟨w.heap.size, rfl, Bx.new⟩⟩) (fun t ht => ?_)
    obtain ⟨_, _, _, nb, ht, _⟩ := ht
    obtain ⟨t1, t2⟩ := t
    simp only at ht
    subst ht
    refine RegR.zmk _ rfl rfl rfl 192 #[.slice (some ⟨nb, 0, none⟩) 2 2] (fun w => by kernel_rfl) (fun w hc hd => ?_) (fun t => ?_)
    · obtain ⟨_, hd⟩ := hd
      simp only [if_true] at hd
      obtain ⟨nb', e1, e2⟩ := hd
      simp only [Option.some.injEq, Addr.mk.injEq, and_true] at e1
      subst e1
      have hvw := hv.below hc.bel
      refine (ConcatCell.concat_calls nb _ _ 0 0 (fl []) (fl []) w e2 ⟨rfl, .inl ⟨rfl, rfl⟩⟩ ⟨rfl, .inl ⟨rfl, rfl⟩⟩ (zi7 _) (zi7 _) (by omega)).mono ?_
      rintro e w' ⟨v', rfl, hown, hb'⟩
      have hlen : 0 + 0 = (zbm [] (a / 8) ((a + n) / 8)).length := by rw [hM.out]; rfl
      rw [hlen, ← zdg, show ([] : List (Int × Int)) ++ [] = zbm [] (a / 8) ((a + n) / 8) by rw [hM.out]; rfl] at hown
      obtain ⟨p, q, rfl⟩ := zct hown
      exact ⟨(p, q), rfl, hb', zcw hc.size hown⟩
    obtain ⟨p, q⟩ := t
    simp only [if_true, show ¬ ((9 : Nat) = 8) by decide, if_false]
    refine RegR.z2r _ rfl rfl rfl rfl (fun w => Bx w W.heap.size #[.int .u64 sz, .slice p (zbm [] (a / 8) ((a + n) / 8)).length q] ∧ Bx w (W.heap.size + 1) #[.int .u64 0, .slice none 0 0] ∧ w.ownsRow w2.heap.size 204 2 (.slice p (zbm [] (a / 8) ((a + n) / 8)).length q) (zbm [] (a / 8) ((a + n) / 8)).length (fl (zbm [] (a / 8) ((a + n) / 8))))
      (fun w w' h b => ⟨h.1.below b, h.2.1.below b, zcc h.2.2 b⟩) (fun w hc hd => ⟨w.setCell ⟨W.heap.size, 1, none⟩ (.slice p (zbm [] (a / 8) ((a + n) / 8)).length q), ?_, ?_, ?_, ?_, ?_⟩) ?_
    · have f := hd.1.1.1.free 1
      have y1 := hd.1.1.1.cell 1
      simp at y1
      clear hd
      go_simp
    · exact ⟨by have := hc.size; simpa [World.setCell] using this, zal _ _ _ (Nat.le_refl _) hc.bel⟩
    · exact hd.1.1.1.set_same
    · exact hd.1.1.2.set_far (by omega)
    · exact zbd hd.2 _ _ (by omega) _
    intro w3 C3 D3
    obtain ⟨T0, T1, O3⟩ := D3
    have B3 := C3.bel
    have f0 := T0.free
    have z0 : w3.cell? ⟨W.heap.size, 0, none⟩ = some (.int .u64 sz) := T0.cell 0
    have z1 : w3.cell? ⟨W.heap.size, 1, none⟩ = some (.slice p (zbm [] (a / 8) ((a + n) / 8)).length q) := T0.cell 1
    have g0 := T1.free
    have q0 : w3.cell? ⟨W.heap.size + 1, 0, none⟩ = some (.int .u64 0) := T1.cell 0
    have q1 : w3.cell? ⟨W.heap.size + 1, 1, none⟩ = some (.slice none 0 0) := T1.cell 1
    clear C3
    go_wp2
    refine bodyPost_ret (v := .agg #[.int .u64 sz, .slice p (zbm [] (a / 8) ((a + n) / 8)).length q]) (by simp [results, Tryz.results176, go_sem, q0, q1]) rfl ⟨_, rfl, ?_, ?_⟩
    · exact zcw (by omega) (zbd (zbd O3 (W.heap.size + 1) 0 (by omega) (.int .u64 sz)) (W.heap.size + 1) 1 (by omega) (.slice p (zbm [] (a / 8) ((a + n) / 8)).length q))
    · exact zal _ _ _ (by omega) (zal _ _ _ (by omega) B3)
  · unfold maxLen at hmax
    clear hcell
    have hlc : lo ≤ cap := by omega
    have hhc : hi ≤ cap := by omega
    refine RegR.zby (Θ := Option Addr × Nat) [0, 0, 0, 0, 0, 0, 0, 0, 1, 4, 0, 3] [0, 1, 2, 3, 4, 5, 6, 7, 10, 8, 9, 11]
      (CM W w2.heap.size)
      (fun i t => if i = 8 then .slice t.1 2 2 else .slice t.1 (zbm xs (a / 8) ((a + n) / 8)).length t.2)
      (fun i t w' => if i = 8 then ∃ nb, t.1 = some ⟨nb, 0, none⟩ ∧ Bx w' nb #[.slice (some ⟨b, o, none⟩) lo cap, .slice (if cap = hi then some ⟨b, o, none⟩ else some ⟨b, o + hi * 2, none⟩) (xs.length - hi) (cap - hi)]
        else w'.ownsRow w2.heap.size 204 2 (.slice t.1 (zbm xs (a / 8) ((a + n) / 8)).length t.2) (zbm xs (a / 8) ((a + n) / 8)).length (fl (zbm xs (a / 8) ((a + n) / 8))))
      (by kernel_rfl) (by kernel_rfl) (fun w w' h b => h.below b) ?_
      ⟨Nat.le_refl _, zaw B2 (zo9 w2)⟩ (fun w => Bx w W.heap.size #[.int .u64 sz, .slice (some ⟨b, o, none⟩) xs.length cap] ∧ Bx w (W.heap.size + 1) #[.int .u64 0, .slice none 0 0]) (fun w w' h b => ⟨h.1.below b, h.2.below b⟩) ⟨Z0.drew, Z1.drew⟩ ?_
    · intro i t w w' h bb
      by_cases hi8 : i = 8
      · simp only [hi8, if_true] at h ⊢
        obtain ⟨nb, e1, e2⟩ := h
        exact ⟨nb, e1, e2.below bb⟩
      · simp only [hi8, if_false] at h ⊢
        exact zcc h bb
    repeat (with_reducible refine RegR.zmi _ rfl rfl (fun K hK => ?_)
            go_simp
            first
              | (refine hK _ ?_; clear hK K)
              | (refine ⟨_, fun _ _ => rfl, hK _ ?_⟩; clear hK K)
              | (refine ⟨_, fun _ _ _ => rfl, hK _ ?_⟩; clear hK K)
              | (refine ⟨_, fun _ _ _ _ => rfl, hK _ ?_⟩; clear hK K)
              | (refine ⟨.slice (some ⟨b, o, none⟩) xs.length cap, fun w _ hd _ => ?_, hK _ ?_⟩
                 · have y1 := hd.cell 1
                   simp at y1
                   go_simp
                 clear hK K))
    generalize hA : (if cap = hi then (some ⟨b, o, none⟩ : Option Addr) else some ⟨b, o + hi * 2, none⟩) = A at *
    have HA := Lib.hid hA.symm
    clear hA
    refine RegR.zp6 _ rfl rfl rfl (fun w hc => ⟨(some ⟨w.heap.size, 0, none⟩, 0), w.alloc (.cells #[.slice (some ⟨b, o, none⟩) lo cap, .slice A (xs.length - hi) (cap - hi)] 28), by kernel_rfl, (Below.refl _ _).alloc (Nat.le_refl _) _, ⟨w.heap.size, rfl, Bx.new⟩⟩) (fun t ht => ?_)
    obtain ⟨_, _, _, nb, ht, _⟩ := ht
    obtain ⟨t1, t2⟩ := t
    simp only at ht
    subst ht
    refine RegR.zmk _ rfl rfl rfl 192 #[.slice (some ⟨nb, 0, none⟩) 2 2] (fun w => by kernel_rfl) (fun w hc hd => ?_) (fun t => ?_)
    · obtain ⟨_, hd⟩ := hd
      simp only [if_true] at hd
      obtain ⟨nb', e1, e2⟩ := hd
      simp only [Option.some.injEq, Addr.mk.injEq, and_true] at e1
      subst e1
      have hvw := hv.below hc.bel
      refine (ConcatCell.concat_calls nb _ _ lo (xs.length - hi) (fl (xs.take lo)) (fl (xs.drop hi)) w e2 (zz3 hvw lo hlo _ _ rfl) (zz4 hvw hi hhi _ HA.out) (zi7 _) (zi7 _) (by omega)).mono ?_
      rintro e w' ⟨v', rfl, hown, hb'⟩
      have hlen : lo + (xs.length - hi) = (zbm xs (a / 8) ((a + n) / 8)).length := by rw [hM.out, List.length_append, List.length_take, List.length_drop]; omega
      rw [hlen, ← zdg, ← hM.out] at hown
      obtain ⟨p, q, rfl⟩ := zct hown
      exact ⟨(p, q), rfl, hb', zcw hc.size hown⟩
    obtain ⟨p, q⟩ := t
    simp only [if_true, show ¬ ((9 : Nat) = 8) by decide, if_false]
    refine RegR.z2r _ rfl rfl rfl rfl (fun w => Bx w W.heap.size #[.int .u64 sz, .slice p (zbm xs (a / 8) ((a + n) / 8)).length q] ∧ Bx w (W.heap.size + 1) #[.int .u64 0, .slice none 0 0] ∧ w.ownsRow w2.heap.size 204 2 (.slice p (zbm xs (a / 8) ((a + n) / 8)).length q) (zbm xs (a / 8) ((a + n) / 8)).length (fl (zbm xs (a / 8) ((a + n) / 8))))
      (fun w w' h b => ⟨h.1.below b, h.2.1.below b, zcc h.2.2 b⟩) (fun w hc hd => ⟨w.setCell ⟨W.heap.size, 1, none⟩ (.slice p (zbm xs (a / 8) ((a + n) / 8)).length q), ?_, ?_, ?_, ?_, ?_⟩) ?_
    · have f := hd.1.1.1.free 1
      have y1 := hd.1.1.1.cell 1
      simp at y1
      clear hd
      go_simp
    · exact ⟨by have := hc.size; simpa [World.setCell] using this, zal _ _ _ (Nat.le_refl _) hc.bel⟩
    · exact hd.1.1.1.set_same
    · exact hd.1.1.2.set_far (by omega)
    · exact zbd hd.2 _ _ (by omega) _
    intro w3 C3 D3
    obtain ⟨T0, T1, O3⟩ := D3
    have B3 := C3.bel
    have f0 := T0.free
    have z0 : w3.cell? ⟨W.heap.size, 0, none⟩ = some (.int .u64 sz) := T0.cell 0
    have z1 : w3.cell? ⟨W.heap.size, 1, none⟩ = some (.slice p (zbm xs (a / 8) ((a + n) / 8)).length q) := T0.cell 1
    have g0 := T1.free
    have q0 : w3.cell? ⟨W.heap.size + 1, 0, none⟩ = some (.int .u64 0) := T1.cell 0
    have q1 : w3.cell? ⟨W.heap.size + 1, 1, none⟩ = some (.slice none 0 0) := T1.cell 1
    clear C3
    go_wp2
    refine bodyPost_ret (v := .agg #[.int .u64 sz, .slice p (zbm xs (a / 8) ((a + n) / 8)).length q]) (by simp [results, Tryz.results176, go_sem, q0, q1]) rfl ⟨_, rfl, ?_, ?_⟩
    · exact zcw (by omega) (zbd (zbd O3 (W.heap.size + 1) 0 (by omega) (.int .u64 sz)) (W.heap.size + 1) 1 (by omega) (.slice p (zbm xs (a / 8) ((a + n) / 8)).length q))
    · exact zal _ _ _ (by omega) (zal _ _ _ (by omega) B3)
end Go.Proofs.YtomeaibdedaldaaGreatDoor.ClearC
namespace Go.Proofs.YtomeaibdedaldaaGreatDoor.TableC
open Go.RowKit Bv Base MemL MemC PutC MemC3 ClearC
theorem zpb (f i : Int) (W : World) (hf : 0 ≤ f ∧ f < 1099511627776) (hi : 0 ≤ i ∧ i < 512) :
    Calls Tryz.prog 119 #[.int .u64 f, .int .i64 i] W fun e w' => e = .returned (.int .u64 (f * 4096 + i * 8)) ∧ Q W w' := by
  obtain ⟨f0, f1⟩ := hf
  obtain ⟨i0, i1⟩ := hi
  have d1 : IntKind.u64.wrap (f * 4096) = f * 4096 := by rw [wrap_u64]; omega
  have d2 : IntKind.u64.wrap i = i := by rw [wrap_u64]; omega
  have d3 : IntKind.u64.wrap (i * 8) = i * 8 := by rw [wrap_u64]; omega
  have d4 : IntKind.u64.wrap (f * 4096 + i * 8) = f * 4096 + i * 8 := by rw [wrap_u64]; omega
  go_enter Tryz.func119, Tryz.ntmps119
  go_wp2
  go_ret
  exact ⟨rfl, Q.refl _⟩
def zbc (xs : List (Int × Int)) (f : Int) : List (Int × Int) := zbm xs (f * 512) (f * 512 + 512)
set_option maxHeartbeats 4000000 in
theorem zr4 (sz : Int) (v : Value) (xs : List (Int × Int)) (f : Int) (W : World) (hf : 0 ≤ f ∧ f < 1099511627776) (hs : Srt xs) (hbig : (xs.length + 1) * 32 ≤ 140737488355328) (hv : Sl W v xs.length 2 (fl xs)) :
    Calls Tryz.prog 141 #[.agg #[.int .u64 sz, v], .int .u64 f] W fun e w' => ∃ v', e = .returned (.agg #[.int .u64 sz, v']) ∧ w'.ownsRow W.heap.size 204 2 v' (zbc xs f).length (fl (zbc xs f)) ∧ Below W.heap.size W w' := by
  have B0 := zaq (zaq (Below.refl W.heap.size W) (.cells #[.int .u64 sz, v] 30)) (.cells #[.int .u64 0, .slice none 0 0] 30)
  have X1 : Bx ((W.alloc (.cells #[.int .u64 sz, v] 30)).alloc (.cells #[.int .u64 0, .slice none 0 0] 30)) (W.heap.size + 1) #[.int .u64 0, .slice none 0 0] := bx_new1
  obtain ⟨f0, f1⟩ := hf
  have d1 : IntKind.u64.wrap (f * 4096) = f * 4096 := by rw [wrap_u64]; omega
  have hw : zbc xs f = zbm xs (f * 4096 / 8) ((f * 4096 + 4096) / 8) := by unfold zbc; congr 1 <;> omega
  have HW := Lib.hid hw
  clear hw
  go_enter Tryz.func141, Tryz.ntmps141
  go_wp2_with fail
  refine (zpa sz v xs (f * 4096) 4096 _ ⟨by omega, by omega⟩ ⟨by omega, by omega⟩ (by omega) hs hbig (hv.below B0)).mono ?_
  rintro e w1 ⟨v1, rfl, O1, b1⟩
  obtain ⟨p, q, rfl⟩ := zct O1
  have B1 := zaw B0 b1
  have Y1 := X1.below b1
  have hl := Y1.lt
  have hsz : ((W.alloc (.cells #[.int .u64 sz, v] 30)).alloc (.cells #[.int .u64 0, .slice none 0 0] 30)).heap.size = W.heap.size + 2 := by rw [World.size_alloc, World.size_alloc]
  rw [hsz] at O1
  have g0 := Y1.free
  have q0 : w1.cell? ⟨W.heap.size + 1, 0, none⟩ = some (.int .u64 0) := Y1.cell 0
  have q1 : w1.cell? ⟨W.heap.size + 1, 1, none⟩ = some (.slice none 0 0) := Y1.cell 1
  clear X1 Y1 b1 B0
  rw [← HW.out] at O1
  have e1 : zbm xs (f * 4096 / 8) ((f * 4096 + 4096) / 8) = zbc xs f := HW.out.symm
  rw [e1]
  clear e1
  go_wp2
  refine bodyPost_ret (v := .agg #[.int .u64 sz, .slice p (zbc xs f).length q]) (by simp [results, Tryz.results141, go_sem, q0, q1]) rfl ⟨_, rfl, ?_, ?_⟩
  · exact zcw (by omega) (zbd (zbd O1 (W.heap.size + 1) 0 (by omega) (.int .u64 sz)) (W.heap.size + 1) 1 (by omega) (.slice p (zbc xs f).length q))
  · exact zal _ _ _ (by omega) (zal _ _ _ (by omega) B1)
end Go.Proofs.YtomeaibdedaldaaGreatDoor.TableC
namespace Go.Proofs.YtomeaibdedaldaaGreatDoor.MemNewC
open Go.RowKit Bv Base MemL
open BitsC
def zkb (sz : Int) : Bool := zem sz 4096 && decide (sz ≤ 1099511627776)
set_option maxHeartbeats 2000000 in
theorem right_calls (sz : Int) (W : World) (hz : U sz) :
    Calls Tryz.prog 156 #[.agg #[.int .u64 sz, .slice none 0 0]] W fun e w' => e = .returned (.bool (zkb sz)) ∧ Below W.heap.size W w' := by
  have HR := Lib.hid (show zkb sz = (zem sz 4096 && decide (sz ≤ 1099511627776)) from rfl)
  have B0 := zaq (Below.refl W.heap.size W) (.cells #[.int .u64 sz, .slice none 0 0] 30)
  have X0 : Bx (W.alloc (.cells #[.int .u64 sz, .slice none 0 0] 30)) W.heap.size #[.int .u64 sz, .slice none 0 0] := Bx.new
  go_enter Tryz.func156, Tryz.ntmps156
  go_wp2
  go_loopw [8] (fun i wr => i = .int .i64 0 ∧ Bx wr W.heap.size #[.int .u64 sz, .slice none 0 0] ∧ Below W.heap.size W wr) (fun i _ => 0)
  case atStart => exact ⟨rfl, X0, B0⟩
  case round =>
    obtain ⟨rfl, Y0, br⟩ := hrel
    have y0 : wr.cell? ⟨W.heap.size, 0, none⟩ = some (.int .u64 sz) := Y0.cell 0
    have y1 : wr.cell? ⟨W.heap.size, 1, none⟩ = some (.slice none 0 0) := Y0.cell 1
    clear X0 B0
    go_wp2_with fail
    refine (zed sz 4096 _ hz ⟨by omega, by omega⟩).mono ?_
    rintro e w2 ⟨rfl, q2⟩
    have B2 := Q.bel br q2
    have z0 : w2.cell? ⟨W.heap.size, 0, none⟩ = some (.int .u64 sz) := (Y0.below q2.below).cell 0
    clear y0 y1 Y0 br q2
    cases h : zem sz 4096
    · have H := Lib.hid h
      clear h
      go_wp2
      go_ret
      exact ⟨by rw [HR.out, H.out]; rfl, B2⟩
    · have H := Lib.hid h
      clear h
      go_wp2
      go_ret
      exact ⟨by rw [HR.out, H.out]; rfl, B2⟩
theorem bx_new1 {w : World} {o : Obj} {c : Array Value} {T : TypeId} : Bx ((w.alloc o).alloc (.cells c T)) (w.heap.size + 1) c := by
  have h : (w.alloc o).heap.size = w.heap.size + 1 := by unfold World.alloc; rw [Array.size_push]
  have := @Bx.new (w.alloc o) c T
  rwa [h] at this
def newV (sz : Int) : Value := if zkb sz then .tuple #[.agg #[.int .u64 sz, .slice none 0 0], .int .i64 0] else .tuple #[.agg #[.int .u64 0, .slice none 0 0], .int .i64 1]
set_option maxHeartbeats 2000000 in
theorem new_calls (sz : Int) (W : World) (hz : U sz) :
    Calls Tryz.prog 95 #[.int .u64 sz] W fun e w' => e = .returned (newV sz) ∧ Below W.heap.size W w' := by
  have B0 := zaq (zaq (Below.refl W.heap.size W) (.cells #[.int .u64 0, .slice none 0 0] 30)) (.cells #[.int .u64 sz, .slice none 0 0] 30)
  go_enter Tryz.func95, Tryz.ntmps95
  go_wp2_with fail
  have X0 : Bx ((W.alloc (.cells #[.int .u64 0, .slice none 0 0] 30)).alloc (.cells #[.int .u64 sz, .slice none 0 0] 30)) W.heap.size #[.int .u64 0, .slice none 0 0] := Bx.alloc Bx.new
  have X1 : Bx ((W.alloc (.cells #[.int .u64 0, .slice none 0 0] 30)).alloc (.cells #[.int .u64 sz, .slice none 0 0] 30)) (W.heap.size + 1) #[.int .u64 sz, .slice none 0 0] := bx_new1
  refine (right_calls sz _ hz).mono ?_
  rintro e w1 ⟨rfl, b1⟩
  have B1 := zaw B0 b1
  have Y0 := X0.below b1
  have Y1 := X1.below b1
  have hl := Y1.lt
  have f0 := Y0.free
  have q0 : w1.cell? ⟨W.heap.size, 0, none⟩ = some (.int .u64 0) := Y0.cell 0
  have q1 : w1.cell? ⟨W.heap.size, 1, none⟩ = some (.slice none 0 0) := Y0.cell 1
  have z0 : w1.cell? ⟨W.heap.size + 1, 0, none⟩ = some (.int .u64 sz) := Y1.cell 0
  have z1 : w1.cell? ⟨W.heap.size + 1, 1, none⟩ = some (.slice none 0 0) := Y1.cell 1
  clear X0 X1 Y0 Y1 b1 B0
  cases h : zkb sz
  · have H := Lib.hid (show newV sz = .tuple #[.agg #[.int .u64 0, .slice none 0 0], .int .i64 1] by unfold newV; rw [h]; rfl)
    clear h
    go_wp2
    exact bodyPost_ret (v := .tuple #[.agg #[.int .u64 0, .slice none 0 0], .int .i64 1]) (by simp [results, Tryz.results95, go_sem, q0, q1]) rfl ⟨by rw [H.out], zal _ _ _ (by omega) (zal _ _ _ (by omega) B1)⟩
  · have H := Lib.hid (show newV sz = .tuple #[.agg #[.int .u64 sz, .slice none 0 0], .int .i64 0] by unfold newV; rw [h]; rfl)
    clear h
    go_wp2
    exact bodyPost_ret (v := .tuple #[.agg #[.int .u64 sz, .slice none 0 0], .int .i64 0]) (by simp [results, Tryz.results95, go_sem, q0, q1]) rfl ⟨by rw [H.out], zal _ _ _ (by omega) (zal _ _ _ (by omega) B1)⟩
end Go.Proofs.YtomeaibdedaldaaGreatDoor.MemNewC
namespace Go.Proofs.YtomeaibdedaldaaGreatDoor.PoolC
open Go.RowKit Bv Base MemL
open BitsC MemNewC
def inP (base many f : Int) : Bool := decide (base ≤ f) && decide (f - base < many)
def isP (base many free f : Int) : Bool := inP base many f && (zdo free (f - base) 1 == 0)
theorem zwx (base many free f : Int) (W : World) (hb : U base) (hf : U f) (hm : 0 ≤ many ∧ many ≤ 64) :
    Calls Tryz.prog 191 #[.agg #[.int .u64 base, .int .i64 many, .int .u64 free], .int .u64 f] W fun e w' => e = .returned (.bool (inP base many f)) ∧ Below W.heap.size W w' := by
  have HI := Lib.hid (show inP base many f = (decide (base ≤ f) && decide (f - base < many)) from rfl)
  obtain ⟨b0, b1⟩ := hb
  obtain ⟨f0, f1⟩ := hf
  obtain ⟨m0, m1⟩ := hm
  have d1 : IntKind.u64.wrap many = many := by rw [wrap_u64]; omega
  by_cases h : base ≤ f
  · have d2 : IntKind.u64.wrap (f - base) = f - base := by rw [wrap_u64]; omega
    go_enter Tryz.func191, Tryz.ntmps191
    go_wp2
    go_ret
    exact ⟨by rw [HI.out]; simp [h, go_sem], zaq (Below.refl _ _) _⟩
  · go_enter Tryz.func191, Tryz.ntmps191
    go_wp2
    go_ret
    exact ⟨by rw [HI.out, show decide (base ≤ f) = false by simp; omega]; rfl, zaq (Below.refl _ _) _⟩
theorem z5a {base many f : Int} (h : inP base many f = true) (hm : many ≤ 64) : 0 ≤ f - base ∧ f - base < many := by
  unfold inP at h
  simp at h
  omega
theorem is_calls (base many free f : Int) (W : World) (hb : U base) (hf : U f) (hm : 0 ≤ many ∧ many ≤ 64) (hr : U free) :
    Calls Tryz.prog 175 #[.agg #[.int .u64 base, .int .i64 many, .int .u64 free], .int .u64 f] W fun e w' => e = .returned (.bool (isP base many free f)) ∧ Below W.heap.size W w' := by
  have HI := Lib.hid (show isP base many free f = (inP base many f && (zdo free (f - base) 1 == 0)) from rfl)
  have X0 : Bx (W.alloc (.cells #[.int .u64 base, .int .i64 many, .int .u64 free] 39)) W.heap.size #[.int .u64 base, .int .i64 many, .int .u64 free] := Bx.new
  go_enter Tryz.func175, Tryz.ntmps175
  go_wp2_with fail
  refine (zwx base many free f _ hb hf hm).mono ?_
  rintro e w1 ⟨rfl, b1⟩
  have B1 := zaw (zaq (Below.refl W.heap.size W) (.cells #[.int .u64 base, .int .i64 many, .int .u64 free] 39)) b1
  have Y0 := X0.below b1
  have y0 : w1.cell? ⟨W.heap.size, 0, none⟩ = some (.int .u64 base) := Y0.cell 0
  have y2 : w1.cell? ⟨W.heap.size, 2, none⟩ = some (.int .u64 free) := Y0.cell 2
  clear X0 Y0 b1
  cases h : inP base many f
  · have H := Lib.hid h
    clear h
    go_wp2
    go_ret
    exact ⟨by rw [HI.out, H.out]; rfl, B1⟩
  · obtain ⟨l0, l1⟩ := z5a h hm.2
    have H := Lib.hid h
    clear h
    have d1 : IntKind.u64.wrap (f - base) = f - base := by rw [wrap_u64]; omega
    have d2 : IntKind.i64.wrap (f - base) = f - base := by rw [IntKind.wrap_i64]; omega
    go_wp2_with fail
    refine (zcv free (f - base) 1 _ hr (by omega) (by omega) (by omega) (by omega)).mono ?_
    rintro e w2 ⟨rfl, q2⟩
    have B2 := Q.bel B1 q2
    go_wp2
    go_ret
    exact ⟨by rw [HI.out, H.out]; rfl, B2⟩
end Go.Proofs.YtomeaibdedaldaaGreatDoor.PoolC
namespace Go.Proofs.YtomeaibdedaldaaGreatDoor.PoolC2
open Go.RowKit Bv Base MemL
open BitsC MemNewC PoolC
def zkc (base many free : Int) : Bool := decide (0 ≤ many) && decide (many ≤ 64) && decide (base ≤ 268435456) && (zdo free 0 many == free)
structure CP (W : World) (c : Array Value) (w' : World) : Prop where
  box : Bx w' W.heap.size c
  bel : Below W.heap.size W w'
theorem CP.below {W : World} {c : Array Value} {w w' : World} (h : CP W c w) (b : Below w.heap.size w w') : CP W c w' := ⟨h.box.below b, zaw h.bel b⟩
set_option maxHeartbeats 4000000 in
theorem right_calls (base many free : Int) (W : World) (hb : U base) (hm : 0 ≤ many ∧ many ≤ 64) (hr : U free) :
    Calls Tryz.prog 157 #[.agg #[.int .u64 base, .int .i64 many, .int .u64 free]] W fun e w' => e = .returned (.bool (zkc base many free)) ∧ Below W.heap.size W w' := by
  have HI := Lib.hid (show zkc base many free = (decide (0 ≤ many) && decide (many ≤ 64) && decide (base ≤ 268435456) && (zdo free 0 many == free)) from rfl)
  obtain ⟨m0, m1⟩ := hm
  cases hbb : decide (base ≤ 268435456)
  all_goals
    go_enter Tryz.func157, Tryz.ntmps157
    go_wp2_with fail
    refine RegR.region (Θ := Unit) [0, 0, 0, 0, 0, 0, 0, 0, 0, 0, 0, 0, 0, 0, 0, 0, 0, 0, 0, 0, 0, 0, 0, 0] [0, 1, 2, 3, 4, 5, 6, 7, 8, 9, 10, 11, 12, 13, 14, 15, 16, 17, 18, 19, 20, 21, 22, 23]
      (CP W #[.int .u64 base, .int .i64 many, .int .u64 free]) (fun _ _ => .bool true) (fun _ _ _ => True) (by kernel_rfl) (by kernel_rfl) (fun w w' h b => h.below b) (fun _ _ _ _ _ _ => trivial) ⟨Bx.new.drew, zbe (zaq (Below.refl _ _) _) 1⟩ ?_
    repeat (with_reducible refine RegR.zmi _ rfl rfl (fun K hK => ?_)
            go_simp
            first
              | (refine hK _ ?_; clear hK K)
              | (refine ⟨_, fun _ _ => rfl, hK _ ?_⟩; clear hK K)
              | (apply Exists.intro
                 refine ⟨fun w hc => ?_, hK _ ?_⟩
                 · have y0 := hc.box.cell 0
                   have y1 := hc.box.cell 1
                   have y2 := hc.box.cell 2
                   simp at y0 y1 y2
                   first
                     | exact (zcv free 0 many w hr (by omega) (by omega) m0 m1).mono fun e w' h => ⟨h.1, h.2.below⟩
                     | (go_simp; done)
                     | (go_simp; rfl)
                     | (simp; omega)
                 clear hK K))
    intro w1 C1 _
    have B1 := C1.bel
    clear C1
    go_wp2
    go_ret
    exact ⟨by rw [HI.out]; simp only [m0, m1, hbb, decide_true, decide_false, Bool.true_and, Bool.false_and]; rfl, B1⟩
def newV (base many : Int) : Value := if zkc base many 0 then .tuple #[.agg #[.int .u64 base, .int .i64 many, .int .u64 (zdo 18446744073709551615 0 many)], .int .i64 0] else .tuple #[.agg #[.int .u64 0, .int .i64 0, .int .u64 0], .int .i64 1]
set_option maxHeartbeats 4000000 in
theorem new_calls (base many : Int) (W : World) (hb : U base) (hm : 0 ≤ many ∧ many ≤ 64) :
    Calls Tryz.prog 96 #[.int .u64 base, .int .i64 many] W fun e w' => e = .returned (newV base many) ∧ Below W.heap.size W w' := by
  have B0 := zaq (zaq (Below.refl W.heap.size W) (.cells #[.int .u64 0, .int .i64 0, .int .u64 0] 39)) (.cells #[.int .u64 base, .int .i64 many, .int .u64 0] 39)
  have X0 : Bx ((W.alloc (.cells #[.int .u64 0, .int .i64 0, .int .u64 0] 39)).alloc (.cells #[.int .u64 base, .int .i64 many, .int .u64 0] 39)) W.heap.size #[.int .u64 0, .int .i64 0, .int .u64 0] := Bx.alloc Bx.new
  have X1 : Bx ((W.alloc (.cells #[.int .u64 0, .int .i64 0, .int .u64 0] 39)).alloc (.cells #[.int .u64 base, .int .i64 many, .int .u64 0] 39)) (W.heap.size + 1) #[.int .u64 base, .int .i64 many, .int .u64 0] := MemNewC.bx_new1
  go_enter Tryz.func96, Tryz.ntmps96
  go_wp2_with fail
  refine (right_calls base many 0 _ hb hm ⟨by omega, by omega⟩).mono ?_
  rintro e w1 ⟨rfl, b1⟩
  have B1 := zaw B0 b1
  have Y0 := X0.below b1
  have Y1 := X1.below b1
  have hl := Y1.lt
  clear X0 X1 b1 B0
  cases h : zkc base many 0
  · have H := Lib.hid (show newV base many = .tuple #[.agg #[.int .u64 0, .int .i64 0, .int .u64 0], .int .i64 1] by unfold newV; rw [h]; rfl)
    clear h
    have f0 := Y0.free
    have q0 : w1.cell? ⟨W.heap.size, 0, none⟩ = some (.int .u64 0) := Y0.cell 0
    have q1 : w1.cell? ⟨W.heap.size, 1, none⟩ = some (.int .i64 0) := Y0.cell 1
    have q2 : w1.cell? ⟨W.heap.size, 2, none⟩ = some (.int .u64 0) := Y0.cell 2
    clear Y0 Y1
    go_wp2
    exact bodyPost_ret (v := .tuple #[.agg #[.int .u64 0, .int .i64 0, .int .u64 0], .int .i64 1]) (by simp [results, Tryz.results96, go_sem, q0, q1, q2]) rfl ⟨by rw [H.out], zal _ _ _ (by omega) (zal _ _ _ (by omega) (zal _ _ _ (by omega) B1))⟩
  · have H := Lib.hid (show newV base many = .tuple #[.agg #[.int .u64 base, .int .i64 many, .int .u64 (zdo 18446744073709551615 0 many)], .int .i64 0] by unfold newV; rw [h]; rfl)
    clear h
    go_wp2_with fail
    refine (zcv 18446744073709551615 0 many _ ⟨by omega, by omega⟩ (by omega) (by omega) hm.1 hm.2).mono ?_
    rintro e w2 ⟨rfl, q⟩
    have B2 := Q.bel B1 q
    have Z0 := Y0.below q.below
    have Z1 := Y1.below q.below
    clear Y0 Y1 q
    have f0 := Z0.free
    have q0 : w2.cell? ⟨W.heap.size, 0, none⟩ = some (.int .u64 0) := Z0.cell 0
    have q1 : w2.cell? ⟨W.heap.size, 1, none⟩ = some (.int .i64 0) := Z0.cell 1
    have q2 : w2.cell? ⟨W.heap.size, 2, none⟩ = some (.int .u64 0) := Z0.cell 2
    have g0 := Z1.free
    have z0 : w2.cell? ⟨W.heap.size + 1, 0, none⟩ = some (.int .u64 base) := Z1.cell 0
    have z1 : w2.cell? ⟨W.heap.size + 1, 1, none⟩ = some (.int .i64 many) := Z1.cell 1
    have z2 : w2.cell? ⟨W.heap.size + 1, 2, none⟩ = some (.int .u64 0) := Z1.cell 2
    clear Z0 Z1
    go_wp2
    exact bodyPost_ret (v := .tuple #[.agg #[.int .u64 base, .int .i64 many, .int .u64 (zdo 18446744073709551615 0 many)], .int .i64 0]) (by simp [results, Tryz.results96, go_sem, q0, q1, q2, z0, z1, z2]) rfl ⟨by rw [H.out], zal _ _ _ (by omega) (zal _ _ _ (by omega) (zal _ _ _ (by omega) (zal _ _ _ (by omega) B2)))⟩
end Go.Proofs.YtomeaibdedaldaaGreatDoor.PoolC2
namespace Go.Proofs.YtomeaibdedaldaaGreatDoor.PoolC3
open Go.RowKit Bv Base MemL
open BitsC MemNewC PoolC PoolC2
end Go.Proofs.YtomeaibdedaldaaGreatDoor.PoolC3
namespace Go.Proofs.YtomeaibdedaldaaGreatDoor.TzC
open Go.RowKit Bv Base
def zys (w : World) : Prop := Go.Proofs.TabAt 1 Lib.deBruijn64tab w
def tzI (x : Int) : Int := (Lib.ctz 64 x.toNat : Nat)
set_option maxHeartbeats 2000000 in
theorem zz5 (x k idx : Nat) (w : World) (hx0 : ((x : Int) == 0) = false)
    (key : IntKind.u64.wrap (bits BinOp.and IntKind.u64 (x : Int) (IntKind.u64.wrap (-(x : Int))) * 285870213051353865) / 288230376151711744 = (idx : Int))
    (hi : idx < 64) (hk : k < 64) (hcell : w.cell? ⟨1, idx, none⟩ = some (.int .u8 k)) :
    Calls Tryz.prog 162 #[.int .u64 x] w fun e w' => e = .returned (.int .i64 k) ∧ Q w w' := by
  go_enter Tryz.func162, Tryz.ntmps162
  go_wp2_with (simp only [key])
  go_ret
  exact ⟨rfl, Q.refl _⟩
theorem zz6 (w : World) : Calls Tryz.prog 162 #[.int .u64 0] w fun e w' => e = .returned (.int .i64 64) ∧ Q w w' := by
  go_enter Tryz.func162, Tryz.ntmps162
  go_wp2
  go_ret
  exact ⟨rfl, Q.refl _⟩
theorem z26 (x : Nat) (hx : x < 18446744073709551616) (w : World) (hT : x ≠ 0 → zys w) :
    Calls Tryz.prog 162 #[.int .u64 x] w fun e w' => e = .returned (.int .i64 (Lib.ctz 64 x)) ∧ Q w w' := by
  by_cases hx0 : x = 0
  · subst hx0
    exact zz6 w
  · obtain ⟨hlow, hk⟩ := Lib.lowest_bit 64 x hx0 hx
    obtain ⟨hi, htab⟩ := Lib.deBruijn64_at _ hk
    have hcell := hT hx0 _ hi
    rw [htab] at hcell
    exact zz5 x _ _ w (by simp; omega) (Go.Proofs.tz64_key x _ hx hx0 hlow) hi hk hcell
theorem zqj (x : Int) (W : World) (hx : U x) (hT : x ≠ 0 → zys W) :
    Calls Tryz.prog 162 #[.int .u64 x] W fun e w' => e = .returned (.int .i64 (tzI x)) ∧ Q W w' := by
  obtain ⟨hx1, hx2⟩ := hx
  have e1 : ((x.toNat : Nat) : Int) = x := Int.toNat_of_nonneg hx1
  have h := z26 x.toNat (by omega) W (fun h => hT (by omega))
  rw [e1] at h
  exact h
end Go.Proofs.YtomeaibdedaldaaGreatDoor.TzC
namespace Go.Proofs.YtomeaibdedaldaaGreatDoor.PoolC4
open Go.RowKit Bv Base MemL
open BitsC MemNewC PoolC PoolC2 TzC
section
variable {P : Program} {d : Nat} {xs ys : Array Value} {f : Field} {fs : List Field} {a b : Value} {r s : Bool} {w : World}
theorem zb1 : (Op.eqFields d xs ys []).run P w = .ok true w := by simp [Op.eqFields]
theorem zar (hn : (f.name == "_") = false) (ha : (part f.type xs f.offset).run P w = .ok a w) (hb : (part f.type ys f.offset).run P w = .ok b w) (he : (Op.equalIn d f.type a b).run P w = .ok r w) (hr : (Op.eqFields d xs ys fs).run P w = .ok s w) :
    (Op.eqFields d xs ys (f :: fs)).run P w = .ok (r && s) w := by
  have h : f.name ≠ "_" := by intro e; rw [e] at hn; exact absurd hn (by decide)
  simp only [Op.eqFields, if_pos h, Sem.run_bind, ha, hb, he, Result.andThen_ok]
  cases r with
  | true => simpa using hr
  | false => simp
theorem zck {t : TypeId} {l : Array Field} (hu : P.underlying t = some (.struct l)) (hp : P.stoodInHeld t = false) (h : (Op.eqFields d xs ys l.toList).run P w = .ok r w) : (Op.equalIn (d + 1) t (.agg xs) (.agg ys)).run P w = .ok r w := by
  have e : P.fieldsOf t = l := by unfold Program.fieldsOf; rw [hu]
  rw [run_equalIn_struct w d t xs ys (by rw [e]; exact hu) hp, e, h]
end
theorem zz7 (d : Nat) (w : World) (x0 y0 x1 y1 x2 y2 : Int) :
    (Op.equalIn (d + 2) 39 (.agg #[.int .u64 x0, .int .i64 x1, .int .u64 x2]) (.agg #[.int .u64 y0, .int .i64 y1, .int .u64 y2])).run Tryz.prog w = .ok (x0 == y0 && (x1 == y1 && (x2 == y2 && true))) w := by
  refine zck Tryz.underlying39 (by kernel_rfl) ?_
  refine zar (by rfl) (by go_simp; rfl) (by go_simp; rfl) (by go_simp) ?_
  refine zar (by rfl) (by go_simp; rfl) (by go_simp; rfl) (by go_simp) ?_
  exact zar (by rfl) (by go_simp; rfl) (by go_simp; rfl) (by go_simp) zb1
def zpc (base many free : Int) : Value := if free = 0 then .tuple #[.agg #[.int .u64 base, .int .i64 many, .int .u64 0], .int .u64 0, .int .i64 8] else .tuple #[.agg #[.int .u64 base, .int .i64 many, .int .u64 (zbw free (tzI free) 1 0)], .int .u64 (base + tzI free), .int .i64 0]
theorem zz8 {x : Int} (hx : U x) (h : x ≠ 0) : 0 ≤ tzI x ∧ tzI x < 64 := by
  obtain ⟨h1, h2⟩ := hx
  obtain ⟨_, hk⟩ := Lib.lowest_bit 64 x.toNat (by omega) (by omega)
  unfold tzI
  omega
set_option maxHeartbeats 4000000 in
theorem zkd (base many free : Int) (W : World) (hb : 0 ≤ base ∧ base ≤ 268435456) (hm : 0 ≤ many ∧ many ≤ 64) (hr : U free) (hT : zys W) :
    Calls Tryz.prog 160 #[.agg #[.int .u64 base, .int .i64 many, .int .u64 free]] W fun e w' => e = .returned (zpc base many free) ∧ Below W.heap.size W w' := by
  have B0 := zaq (zaq (Below.refl W.heap.size W) (.cells #[.int .u64 base, .int .i64 many, .int .u64 free] 39)) (.cells #[.int .u64 0, .int .i64 0, .int .u64 0] 39)
  have X0 : Bx ((W.alloc (.cells #[.int .u64 base, .int .i64 many, .int .u64 free] 39)).alloc (.cells #[.int .u64 0, .int .i64 0, .int .u64 0] 39)) W.heap.size #[.int .u64 base, .int .i64 many, .int .u64 free] := Bx.alloc Bx.new
  have X1 : Bx ((W.alloc (.cells #[.int .u64 base, .int .i64 many, .int .u64 free] 39)).alloc (.cells #[.int .u64 0, .int .i64 0, .int .u64 0] 39)) (W.heap.size + 1) #[.int .u64 0, .int .i64 0, .int .u64 0] := MemNewC.bx_new1
  by_cases hf : free = 0
  · subst hf
    have H := Lib.hid (show zpc base many 0 = .tuple #[.agg #[.int .u64 base, .int .i64 many, .int .u64 0], .int .u64 0, .int .i64 8] from rfl)
    go_enter Tryz.func160, Tryz.ntmps160
    go_wp2
    exact bodyPost_ret (v := .tuple #[.agg #[.int .u64 base, .int .i64 many, .int .u64 0], .int .u64 0, .int .i64 8]) (by simp [results, Tryz.results160, go_sem]) rfl ⟨by rw [H.out], zaq (zaq (Below.refl _ _) _) _⟩
  · have H := Lib.hid (show zpc base many free = .tuple #[.agg #[.int .u64 base, .int .i64 many, .int .u64 (zbw free (tzI free) 1 0)], .int .u64 (base + tzI free), .int .i64 0] by unfold zpc; rw [if_neg hf])
    obtain ⟨t0, t1⟩ := zz8 hr hf
    have hfb : (free == 0) = false := by simpa using hf
    go_enter Tryz.func160, Tryz.ntmps160
    go_wp2_with fail
    refine (zqj free _ hr (fun _ => ?_)).mono ?_
    · intro j hj
      exact (B0.cell (p := ⟨1, j, none⟩) (block_lt_of_cell (hT j hj))).trans (hT j hj)
    rintro e w1 ⟨rfl, q1⟩
    have B1 := Q.bel B0 q1
    have Y0 := X0.below q1.below
    have Y1 := X1.below q1.below
    have hl := Y1.lt
    clear X0 X1 q1 B0
    have y0 : w1.cell? ⟨W.heap.size, 0, none⟩ = some (.int .u64 base) := Y0.cell 0
    have y1 : w1.cell? ⟨W.heap.size, 1, none⟩ = some (.int .i64 many) := Y0.cell 1
    have y2 : w1.cell? ⟨W.heap.size, 2, none⟩ = some (.int .u64 free) := Y0.cell 2
    generalize hz : tzI free = z at *
    go_wp2_with fail
    refine (zec free z 1 0 _ hr ⟨by omega, by omega⟩ (by omega) (by omega) (by omega) (by omega)).mono ?_
    rintro e w2 ⟨rfl, q2⟩
    have B2 := Q.bel B1 q2
    have Z0 := Y0.below q2.below
    have Z1 := Y1.below q2.below
    clear Y0 Y1 q2 y0 y1 y2
    have f0 := Z0.free
    have q0 : w2.cell? ⟨W.heap.size, 0, none⟩ = some (.int .u64 base) := Z0.cell 0
    have q1 : w2.cell? ⟨W.heap.size, 1, none⟩ = some (.int .i64 many) := Z0.cell 1
    have q2 : w2.cell? ⟨W.heap.size, 2, none⟩ = some (.int .u64 free) := Z0.cell 2
    go_wp2_with fail
    have V0 : Bx (w2.setCell ⟨W.heap.size, 2, none⟩ (.int .u64 (zbw free z 1 0))) W.heap.size #[.int .u64 base, .int .i64 many, .int .u64 (zbw free z 1 0)] := Z0.set_same
    have V1 := Z1.set_far (d := W.heap.size) (i := 2) (v := .int .u64 (zbw free z 1 0)) (by omega)
    have B3 := zal W.heap.size 2 (.int .u64 (zbw free z 1 0)) (Nat.le_refl _) B2
    have d1 : IntKind.u64.wrap z = z := by rw [wrap_u64]; omega
    have d2 : IntKind.u64.wrap (base + z) = base + z := by rw [wrap_u64]; omega
    generalize w2.setCell ⟨W.heap.size, 2, none⟩ (.int .u64 (zbw free z 1 0)) = w4 at *
    clear q0 q1 q2 f0 Z0 Z1 B2
    refine RegR.zby (Θ := Unit) [0, 0, 0, 0, 0, 0, 2, 0, 0] [0, 1, 2, 3, 4, 5, 6, 7, 8]
      (CP W #[.int .u64 base, .int .i64 many, .int .u64 (zbw free z 1 0)]) (fun _ _ => .bool true) (fun _ _ _ => True) (by kernel_rfl) (by kernel_rfl) (fun w w' h b => h.below b) (fun _ _ _ _ _ _ => trivial) ⟨V0.drew, zbe B3 1⟩
      (MemC3.Shp (W.heap.size + 1) 3) (fun w w' h b => h.below b) ⟨_, rfl, V1.drew⟩ ?_
    repeat (with_reducible refine RegR.zmi _ rfl rfl (fun K hK => ?_)
            go_simp
            first
              | (refine hK _ ?_; clear hK K)
              | (refine ⟨_, fun _ _ _ => rfl, hK _ ?_⟩; clear hK K)
              | (apply Exists.intro
                 refine ⟨fun w hc _ => ?_, hK _ ?_⟩
                 · have y0 := hc.box.cell 0
                   have y1 := hc.box.cell 1
                   have y2 := hc.box.cell 2
                   simp at y0 y1 y2
                   first
                     | (go_simp; done)
                     | (go_simp; rfl)
                 clear hK K))
    refine RegR.zds _ rfl rfl rfl 39 _ _ rfl (W.heap.size + 1) #[.int .u64 base, .int .i64 many, .int .u64 (zbw free z 1 0)] rfl rfl (by kernel_rfl) (by simp [Value.oneCell']) rfl (fun w w' h b => h.below b) (fun w h => h.ex) (fun w h => ?_) (fun w h => ?_) ?_
    · obtain ⟨c, e1, e2⟩ := h.ex
      exact ⟨_, rfl, e2.row_same⟩
    · exact ⟨h.box.row_far (by omega), zik h.bel (by omega) _⟩
    repeat (with_reducible refine RegR.zmi _ rfl rfl (fun K hK => ?_)
            go_simp
            first
              | (refine hK _ ?_; clear hK K)
              | (refine ⟨_, fun _ _ _ => rfl, hK _ ?_⟩; clear hK K)
              | (refine ⟨_, fun _ _ _ _ => rfl, hK _ ?_⟩; clear hK K))
    intro w5 C5 D5
    have B5 := C5.bel
    have U1 := D5.2
    have g0 := U1.free
    have z0 : w5.cell? ⟨W.heap.size + 1, 0, none⟩ = some (.int .u64 base) := U1.cell 0
    have z1 : w5.cell? ⟨W.heap.size + 1, 1, none⟩ = some (.int .i64 many) := U1.cell 1
    have z2 : w5.cell? ⟨W.heap.size + 1, 2, none⟩ = some (.int .u64 (zbw free z 1 0)) := U1.cell 2
    clear C5 D5 U1
    go_wp2
    exact bodyPost_ret (v := .tuple #[.agg #[.int .u64 base, .int .i64 many, .int .u64 (zbw free z 1 0)], .int .u64 (base + z), .int .i64 0]) (by simp [results, Tryz.results160, go_sem, z0, z1, z2]) rfl ⟨by rw [H.out], B5⟩
end Go.Proofs.YtomeaibdedaldaaGreatDoor.PoolC4
namespace Go.Proofs.YtomeaibdedaldaaGreatDoor.TableC2
open Go.RowKit Bv Base MemL MemC PutC MemC3 ClearC TableC
open BitsC PoolC PoolC3
def zf1 (base many free f : Int) : Int := if isP base many free f then zbw free (f - base) 1 1 else free
structure CB (W : World) (m : Nat) (c d : Array Value) (pb : Nat) (w' : World) : Prop where
  box : Bx w' W.heap.size c
  pool : Bx w' pb d
  size : m ≤ w'.heap.size
  bel : Below W.heap.size W w'
theorem CB.below {W : World} {m : Nat} {c d : Array Value} {pb : Nat} {w w' : World} (h : CB W m c d pb w) (b : Below w.heap.size w w') : CB W m c d pb w' := ⟨h.box.below b, h.pool.below b, Nat.le_trans h.size b.size, zaw h.bel b⟩
theorem CB.row {W : World} {m : Nat} {c d : Array Value} {pb : Nat} {w : World} {b : Nat} (h : CB W m c d pb w) (hb : W.heap.size < b) (hp : b ≠ pb) (x : Array Value) : CB W m c d pb (w.setRow b x) :=
  ⟨h.box.row_far (by omega), h.pool.row_far hp, by have := h.size; unfold World.setRow; simpa using this, zik h.bel (by omega) x⟩
end Go.Proofs.YtomeaibdedaldaaGreatDoor.TableC2
namespace Go.Proofs.YtomeaibdedaldaaGreatDoor.TableC3
open Go.RowKit Bv Base MemL MemC PutC MemC3 ClearC TableC TableC2 TzC PoolC4
open BitsC PoolC PoolC3
set_option maxHeartbeats 4000000 in
theorem zpd (sz : Int) (v : Value) (xs : List (Int × Int)) (base many free : Int) (W : World) (hb : 0 ≤ base ∧ base ≤ 268435456) (hm : 0 ≤ many ∧ many ≤ 64) (hr : U free) (hfr : free ≠ 0) (hT : zys W) (hs : Srt xs) (hbig : (xs.length + 1) * 32 ≤ 140737488355328) (hv : Sl W v xs.length 2 (fl xs)) :
    Calls Tryz.prog 99 #[.agg #[.int .u64 sz, v], .agg #[.int .u64 base, .int .i64 many, .int .u64 free]] W fun e w' => ∃ v', e = .returned (.tuple #[.agg #[.int .u64 sz, v'], .agg #[.int .u64 base, .int .i64 many, .int .u64 (zbw free (tzI free) 1 0)], .int .u64 (base + tzI free), .int .i64 0]) ∧ w'.ownsRow W.heap.size 204 2 v' (zbc xs (base + tzI free)).length (fl (zbc xs (base + tzI free))) ∧ Below W.heap.size W w' := by
  have B0 := zaq (zaq (zaq (zaq (Below.refl W.heap.size W) (.cells #[.int .u64 sz, v] 30)) (.cells #[.int .u64 base, .int .i64 many, .int .u64 free] 39)) (.cells #[.int .u64 0, .slice none 0 0] 30)) (.cells #[.int .u64 0, .int .i64 0, .int .u64 0] 39)
  obtain ⟨t0, t1⟩ := zz8 hr hfr
  go_enter Tryz.func99, Tryz.ntmps99
  go_wp2_with fail
  have X0 : Bx ((((W.alloc (.cells #[.int .u64 sz, v] 30)).alloc (.cells #[.int .u64 base, .int .i64 many, .int .u64 free] 39)).alloc (.cells #[.int .u64 0, .slice none 0 0] 30)).alloc (.cells #[.int .u64 0, .int .i64 0, .int .u64 0] 39)) W.heap.size #[.int .u64 sz, v] := Bx.alloc (Bx.alloc (Bx.alloc Bx.new))
  have s1 : (W.alloc (.cells #[.int .u64 sz, v] 30)).heap.size = W.heap.size + 1 := by rw [World.size_alloc]
  have s2 : ((W.alloc (.cells #[.int .u64 sz, v] 30)).alloc (.cells #[.int .u64 base, .int .i64 many, .int .u64 free] 39)).heap.size = W.heap.size + 2 := by rw [World.size_alloc, s1]
  have X2 : Bx ((((W.alloc (.cells #[.int .u64 sz, v] 30)).alloc (.cells #[.int .u64 base, .int .i64 many, .int .u64 free] 39)).alloc (.cells #[.int .u64 0, .slice none 0 0] 30)).alloc (.cells #[.int .u64 0, .int .i64 0, .int .u64 0] 39)) (W.heap.size + 2) #[.int .u64 0, .slice none 0 0] := by rw [← s2]; exact Bx.alloc Bx.new
  have X3 : Bx ((((W.alloc (.cells #[.int .u64 sz, v] 30)).alloc (.cells #[.int .u64 base, .int .i64 many, .int .u64 free] 39)).alloc (.cells #[.int .u64 0, .slice none 0 0] 30)).alloc (.cells #[.int .u64 0, .int .i64 0, .int .u64 0] 39)) (W.heap.size + 3) #[.int .u64 0, .int .i64 0, .int .u64 0] := by
    have := bx_new1 (w := (W.alloc (.cells #[.int .u64 sz, v] 30)).alloc (.cells #[.int .u64 base, .int .i64 many, .int .u64 free] 39)) (o := .cells #[.int .u64 0, .slice none 0 0] 30) (c := #[.int .u64 0, .int .i64 0, .int .u64 0]) (T := 39)
    rwa [s2] at this
  refine (zkd base many free _ hb hm hr (fun j hj => (B0.cell (p := ⟨1, j, none⟩) (block_lt_of_cell (hT j hj))).trans (hT j hj))).mono ?_
  rintro e w1 ⟨rfl, b1⟩
  have B1 := zaw B0 b1
  have Y0 := X0.below b1
  have Y2 := X2.below b1
  have Y3 := X3.below b1
  have hl := Y3.lt
  clear X0 X2 X3 b1 B0 s1 s2
  rw [show zpc base many free = .tuple #[.agg #[.int .u64 base, .int .i64 many, .int .u64 (zbw free (tzI free) 1 0)], .int .u64 (base + tzI free), .int .i64 0] by unfold zpc; rw [if_neg hfr]]
  generalize hG : zbw free (tzI free) 1 0 = G at *
  generalize hF : base + tzI free = f at *
  have HG := Lib.hid hG
  have HF := Lib.hid hF
  have hf : 0 ≤ f ∧ f < 1099511627776 := by omega
  clear hG hF t0 t1
  go_wp2_with fail
  have e2 : W.heap.size + 1 + 1 = W.heap.size + 2 := rfl
  have V0 := Y0.alloc (o := .cells #[.int .u64 base, .int .i64 many, .int .u64 G] 39)
  have V2 := Y2.alloc (o := .cells #[.int .u64 base, .int .i64 many, .int .u64 G] 39)
  have V3 := Y3.alloc (o := .cells #[.int .u64 base, .int .i64 many, .int .u64 G] 39)
  have V4 : Bx (w1.alloc (.cells #[.int .u64 base, .int .i64 many, .int .u64 G] 39)) w1.heap.size #[.int .u64 base, .int .i64 many, .int .u64 G] := Bx.new
  have B2 := zaq B1 (.cells #[.int .u64 base, .int .i64 many, .int .u64 G] 39)
  have z2 : w1.heap.size ≤ (w1.alloc (.cells #[.int .u64 base, .int .i64 many, .int .u64 G] 39)).heap.size := by rw [World.size_alloc]; omega
  generalize w1.alloc (.cells #[.int .u64 base, .int .i64 many, .int .u64 G] 39) = w2 at *
  clear Y0 Y2 Y3 e2
  refine RegR.zby (Θ := Option Addr × Nat) [0, 0, 1, 0, 0, 2, 2, 0, 0] [0, 1, 3, 4, 2, 5, 6, 7, 8]
    (CB W w1.heap.size #[.int .u64 sz, v] #[.int .u64 base, .int .i64 many, .int .u64 G] w1.heap.size)
    (fun _ t => .agg #[.int .u64 sz, .slice t.1 (zbc xs f).length t.2])
    (fun _ t w' => w'.ownsRow w1.heap.size 204 2 (.slice t.1 (zbc xs f).length t.2) (zbc xs f).length (fl (zbc xs f)))
    (by kernel_rfl) (by kernel_rfl) (fun w w' h b => h.below b) (fun _ t w w' h b => zcc h b)
    ⟨V0.drew, V4.drew, z2, zbe B2 1⟩ (fun w => Shp (W.heap.size + 2) 2 w ∧ Shp (W.heap.size + 3) 3 w) (fun w w' h b => ⟨h.1.below b, h.2.below b⟩) ⟨⟨_, rfl, V2.drew⟩, ⟨_, rfl, V3.drew⟩⟩ ?_
  repeat (with_reducible refine RegR.zmi _ rfl rfl (fun K hK => ?_)
          go_simp
          first
            | (refine hK _ ?_; clear hK K)
            | (refine ⟨_, fun _ _ _ _ => rfl, hK _ ?_⟩; clear hK K)
            | (apply Exists.intro
               refine ⟨fun w hc _ _ => ?_, hK _ ?_⟩
               · have y0 := hc.box.cell 0
                 have y1 := hc.box.cell 1
                 have p0 := hc.pool.cell 0
                 have p1 := hc.pool.cell 1
                 have p2 := hc.pool.cell 2
                 simp at y0 y1 p0 p1 p2
                 first
                   | (go_simp; done)
                   | (go_simp; rfl)
               clear hK K))
  refine RegR.zmj _ rfl rfl rfl 141 #[.agg #[.int .u64 sz, v], .int .u64 f] (fun w => by kernel_rfl) (fun w hc => ?_) (fun t => ?_)
  · refine (zr4 sz v xs f w hf hs hbig (hv.below hc.bel)).mono ?_
    rintro e w' ⟨v', rfl, hown, hb'⟩
    obtain ⟨p, q, rfl⟩ := zct hown
    exact ⟨(p, q), rfl, hb', zcw hc.size hown⟩
  refine RegR.zds _ rfl rfl rfl 30 _ _ rfl (W.heap.size + 2) #[.int .u64 sz, .slice t.1 (zbc xs f).length t.2] rfl rfl (by kernel_rfl) (by simp [Value.oneCell']) rfl (fun w w' h b => ⟨⟨h.1.1.below b, h.1.2.below b⟩, zcc h.2 b⟩) (fun w h => h.1.1.ex) (fun w h => ?_) (fun w h => h.row (by omega) (by omega) _) ?_
  · obtain ⟨c, e1, e2⟩ := h.1.1.ex
    obtain ⟨c', e3, e4⟩ := h.1.2.ex
    exact ⟨⟨⟨_, rfl, e2.row_same⟩, ⟨_, e3, e4.row_far (by omega)⟩⟩, zlh h.2 (by omega) _⟩
  refine RegR.zds _ rfl rfl rfl 39 _ _ rfl (W.heap.size + 3) #[.int .u64 base, .int .i64 many, .int .u64 G] rfl rfl (by kernel_rfl) (by simp [Value.oneCell']) rfl (fun w w' h b => ⟨⟨⟨h.1.1.1.below b, h.1.1.2.below b⟩, zcc h.1.2 b⟩, h.2.below b⟩) (fun w h => h.1.1.2.ex) (fun w h => ?_) (fun w h => h.row (by omega) (by omega) _) ?_
  · obtain ⟨c, e1, e2⟩ := h.1.1.1.ex
    obtain ⟨c', e3, e4⟩ := h.1.1.2.ex
    exact ⟨⟨⟨⟨_, e1, e2.row_far (by omega)⟩, ⟨_, rfl, e4.row_same⟩⟩, zlh h.1.2 (by omega) _⟩, h.2.row_far (by omega)⟩
  repeat (with_reducible refine RegR.zmi _ rfl rfl (fun K hK => ?_)
          go_simp
          first
            | (refine hK _ ?_; clear hK K)
            | (refine ⟨_, fun _ _ => rfl, hK _ ?_⟩; clear hK K)
            | (refine ⟨_, fun _ _ _ => rfl, hK _ ?_⟩; clear hK K)
            | (refine ⟨_, fun _ _ _ _ => rfl, hK _ ?_⟩; clear hK K)
            | (refine ⟨_, fun _ _ _ _ _ => rfl, hK _ ?_⟩; clear hK K)
            | (refine ⟨_, fun _ _ _ _ _ _ => rfl, hK _ ?_⟩; clear hK K)
            | (refine ⟨_, fun _ _ _ _ _ _ _ => rfl, hK _ ?_⟩; clear hK K))
  intro w5 C5 D5
  have B5 := C5.bel
  have U2 := D5.1.2
  have U3 := D5.2
  have O5 := zcw (base' := W.heap.size) (by omega) D5.1.1.2
  have q0 : w5.cell? ⟨W.heap.size + 1 + 1, 0, none⟩ = some (.int .u64 sz) := U2.cell 0
  have q1 : w5.cell? ⟨W.heap.size + 1 + 1, 1, none⟩ = some (.slice t.1 (zbc xs f).length t.2) := U2.cell 1
  have p0 : w5.cell? ⟨W.heap.size + 1 + 1 + 1, 0, none⟩ = some (.int .u64 base) := U3.cell 0
  have p1 : w5.cell? ⟨W.heap.size + 1 + 1 + 1, 1, none⟩ = some (.int .i64 many) := U3.cell 1
  have p2 : w5.cell? ⟨W.heap.size + 1 + 1 + 1, 2, none⟩ = some (.int .u64 G) := U3.cell 2
  clear C5 D5 U2 U3
  go_wp2
  exact bodyPost_ret (v := .tuple #[.agg #[.int .u64 sz, .slice t.1 (zbc xs f).length t.2], .agg #[.int .u64 base, .int .i64 many, .int .u64 G], .int .u64 f, .int .i64 0]) (by simp [results, Tryz.results99, go_sem, q0, q1, p0, p1, p2]) rfl ⟨_, by rw [HG.out, HF.out], by rw [HF.out]; exact O5, B5⟩
end Go.Proofs.YtomeaibdedaldaaGreatDoor.TableC3
namespace Go.Proofs.YtomeaibdedaldaaGreatDoor.TableC4
open Go.RowKit Bv Base MemL MemC PutC MemC3 ClearC TableC TableC2 TzC PoolC4
open BitsC PoolC PoolC3
set_option maxHeartbeats 4000000 in
theorem zr5 (sz : Int) (a : Option Addr) (n c : Nat) (base many : Int) (W : World) (hb : 0 ≤ base ∧ base ≤ 268435456) (hm : 0 ≤ many ∧ many ≤ 64) (hT : zys W) :
    Calls Tryz.prog 99 #[.agg #[.int .u64 sz, .slice a n c], .agg #[.int .u64 base, .int .i64 many, .int .u64 0]] W fun e w' => e = .returned (.tuple #[.agg #[.int .u64 sz, .slice a n c], .agg #[.int .u64 base, .int .i64 many, .int .u64 0], .int .u64 0, .int .i64 8]) ∧ Below W.heap.size W w' := by
  obtain ⟨v, hv⟩ : ∃ v, v = Value.slice a n c := ⟨_, rfl⟩
  have B0 := zaq (zaq (zaq (zaq (Below.refl W.heap.size W) (.cells #[.int .u64 sz, .slice a n c] 30)) (.cells #[.int .u64 base, .int .i64 many, .int .u64 0] 39)) (.cells #[.int .u64 0, .slice none 0 0] 30)) (.cells #[.int .u64 0, .int .i64 0, .int .u64 0] 39)
  go_enter Tryz.func99, Tryz.ntmps99
  go_wp2_with fail
  have X0 : Bx ((((W.alloc (.cells #[.int .u64 sz, .slice a n c] 30)).alloc (.cells #[.int .u64 base, .int .i64 many, .int .u64 0] 39)).alloc (.cells #[.int .u64 0, .slice none 0 0] 30)).alloc (.cells #[.int .u64 0, .int .i64 0, .int .u64 0] 39)) W.heap.size #[.int .u64 sz, .slice a n c] := Bx.alloc (Bx.alloc (Bx.alloc Bx.new))
  have s1 : (W.alloc (.cells #[.int .u64 sz, .slice a n c] 30)).heap.size = W.heap.size + 1 := by rw [World.size_alloc]
  have s2 : ((W.alloc (.cells #[.int .u64 sz, .slice a n c] 30)).alloc (.cells #[.int .u64 base, .int .i64 many, .int .u64 0] 39)).heap.size = W.heap.size + 2 := by rw [World.size_alloc, s1]
  have X1 : Bx ((((W.alloc (.cells #[.int .u64 sz, .slice a n c] 30)).alloc (.cells #[.int .u64 base, .int .i64 many, .int .u64 0] 39)).alloc (.cells #[.int .u64 0, .slice none 0 0] 30)).alloc (.cells #[.int .u64 0, .int .i64 0, .int .u64 0] 39)) (W.heap.size + 1) #[.int .u64 base, .int .i64 many, .int .u64 0] := Bx.alloc (Bx.alloc bx_new1)
  have X2 : Bx ((((W.alloc (.cells #[.int .u64 sz, .slice a n c] 30)).alloc (.cells #[.int .u64 base, .int .i64 many, .int .u64 0] 39)).alloc (.cells #[.int .u64 0, .slice none 0 0] 30)).alloc (.cells #[.int .u64 0, .int .i64 0, .int .u64 0] 39)) (W.heap.size + 2) #[.int .u64 0, .slice none 0 0] := by rw [← s2]; exact Bx.alloc Bx.new
  have X3 : Bx ((((W.alloc (.cells #[.int .u64 sz, .slice a n c] 30)).alloc (.cells #[.int .u64 base, .int .i64 many, .int .u64 0] 39)).alloc (.cells #[.int .u64 0, .slice none 0 0] 30)).alloc (.cells #[.int .u64 0, .int .i64 0, .int .u64 0] 39)) (W.heap.size + 3) #[.int .u64 0, .int .i64 0, .int .u64 0] := by
    have := bx_new1 (w := (W.alloc (.cells #[.int .u64 sz, .slice a n c] 30)).alloc (.cells #[.int .u64 base, .int .i64 many, .int .u64 0] 39)) (o := .cells #[.int .u64 0, .slice none 0 0] 30) (c := #[.int .u64 0, .int .i64 0, .int .u64 0]) (T := 39)
    rwa [s2] at this
  refine (zkd base many 0 _ hb hm ⟨by omega, by omega⟩ (fun j hj => (B0.cell (p := ⟨1, j, none⟩) (block_lt_of_cell (hT j hj))).trans (hT j hj))).mono ?_
  rintro e w1 ⟨rfl, b1⟩
  have B1 := zaw B0 b1
  have Y0 := X0.below b1
  have Y1 := X1.below b1
  have Y2 := X2.below b1
  have Y3 := X3.below b1
  have hl := Y3.lt
  clear X0 X1 X2 X3 b1 B0 s1 s2
  rw [show zpc base many 0 = .tuple #[.agg #[.int .u64 base, .int .i64 many, .int .u64 0], .int .u64 0, .int .i64 8] from rfl]
  have V0 := Y0.alloc (o := .cells #[.int .u64 base, .int .i64 many, .int .u64 0] 39)
  have V1 := Y1.alloc (o := .cells #[.int .u64 base, .int .i64 many, .int .u64 0] 39)
  have V2 := Y2.alloc (o := .cells #[.int .u64 base, .int .i64 many, .int .u64 0] 39)
  have V3 := Y3.alloc (o := .cells #[.int .u64 base, .int .i64 many, .int .u64 0] 39)
  have B2 := zaq B1 (.cells #[.int .u64 base, .int .i64 many, .int .u64 0] 39)
  have z2 : w1.heap.size ≤ (w1.alloc (.cells #[.int .u64 base, .int .i64 many, .int .u64 0] 39)).heap.size := by rw [World.size_alloc]; omega
  go_wp2_with fail
  generalize w1.alloc (.cells #[.int .u64 base, .int .i64 many, .int .u64 0] 39) = w2 at *
  clear Y0 Y1 Y2 Y3
  refine RegR.zby (Θ := Unit) [0, 0, 0, 2, 2, 0, 0] [0, 1, 2, 3, 4, 5, 6]
    (CB W w1.heap.size #[.int .u64 sz, .slice a n c] #[.int .u64 base, .int .i64 many, .int .u64 0] (W.heap.size + 1))
    (fun _ _ => .bool true) (fun _ _ _ => True)
    (by kernel_rfl) (by kernel_rfl) (fun w w' h b => h.below b) (fun _ _ _ _ _ _ => trivial)
    ⟨V0.drew, V1.drew, z2, zbe B2 1⟩ (fun w => Shp (W.heap.size + 2) 2 w ∧ Shp (W.heap.size + 3) 3 w) (fun w w' h b => ⟨h.1.below b, h.2.below b⟩) ⟨⟨_, rfl, V2.drew⟩, ⟨_, rfl, V3.drew⟩⟩ ?_
  repeat (with_reducible refine RegR.zmi _ rfl rfl (fun K hK => ?_)
          go_simp
          first
            | (refine hK _ ?_; clear hK K)
            | (refine ⟨_, fun _ _ _ _ => rfl, hK _ ?_⟩; clear hK K)
            | (apply Exists.intro
               refine ⟨fun w hc _ _ => ?_, hK _ ?_⟩
               · have y0 := hc.box.cell 0
                 have y1 := hc.box.cell 1
                 have p0 := hc.pool.cell 0
                 have p1 := hc.pool.cell 1
                 have p2 := hc.pool.cell 2
                 simp at y0 y1 p0 p1 p2
                 first
                   | (go_simp; done)
                   | (go_simp; rfl)
               clear hK K))
  refine RegR.zds _ rfl rfl rfl 30 _ _ rfl (W.heap.size + 2) #[.int .u64 sz, .slice a n c] rfl rfl (by kernel_rfl) (by simp [Value.oneCell']) rfl (fun w w' h b => ⟨h.1.below b, h.2.below b⟩) (fun w h => h.1.ex) (fun w h => ?_) (fun w h => h.row (by omega) (by omega) _) ?_
  · obtain ⟨c1, e1, e2⟩ := h.1.ex
    obtain ⟨c', e3, e4⟩ := h.2.ex
    exact ⟨⟨_, rfl, e2.row_same⟩, ⟨_, e3, e4.row_far (by omega)⟩⟩
  refine RegR.zds _ rfl rfl rfl 39 _ _ rfl (W.heap.size + 3) #[.int .u64 base, .int .i64 many, .int .u64 0] rfl rfl (by kernel_rfl) (by simp [Value.oneCell']) rfl (fun w w' h b => ⟨⟨h.1.1.below b, h.1.2.below b⟩, h.2.below b⟩) (fun w h => h.1.2.ex) (fun w h => ?_) (fun w h => h.row (by omega) (by omega) _) ?_
  · obtain ⟨c1, e1, e2⟩ := h.1.1.ex
    obtain ⟨c', e3, e4⟩ := h.1.2.ex
    exact ⟨⟨⟨_, e1, e2.row_far (by omega)⟩, ⟨_, rfl, e4.row_same⟩⟩, h.2.row_far (by omega)⟩
  repeat (with_reducible refine RegR.zmi _ rfl rfl (fun K hK => ?_)
          go_simp
          first
            | (refine hK _ ?_; clear hK K)
            | (refine ⟨_, fun _ _ => rfl, hK _ ?_⟩; clear hK K)
            | (refine ⟨_, fun _ _ _ => rfl, hK _ ?_⟩; clear hK K)
            | (refine ⟨_, fun _ _ _ _ => rfl, hK _ ?_⟩; clear hK K)
            | (refine ⟨_, fun _ _ _ _ _ => rfl, hK _ ?_⟩; clear hK K)
            | (refine ⟨_, fun _ _ _ _ _ _ => rfl, hK _ ?_⟩; clear hK K)
            | (refine ⟨_, fun _ _ _ _ _ _ _ => rfl, hK _ ?_⟩; clear hK K))
  intro w5 C5 D5
  have B5 := C5.bel
  have U2 := D5.1.2
  have U3 := D5.2
  have q0 : w5.cell? ⟨W.heap.size + 1 + 1, 0, none⟩ = some (.int .u64 sz) := U2.cell 0
  have q1 : w5.cell? ⟨W.heap.size + 1 + 1, 1, none⟩ = some (.slice a n c) := U2.cell 1
  have p0 : w5.cell? ⟨W.heap.size + 1 + 1 + 1, 0, none⟩ = some (.int .u64 base) := U3.cell 0
  have p1 : w5.cell? ⟨W.heap.size + 1 + 1 + 1, 1, none⟩ = some (.int .i64 many) := U3.cell 1
  have p2 : w5.cell? ⟨W.heap.size + 1 + 1 + 1, 2, none⟩ = some (.int .u64 0) := U3.cell 2
  clear C5 D5 U2 U3
  go_wp2
  exact bodyPost_ret (v := .tuple #[.agg #[.int .u64 sz, .slice a n c], .agg #[.int .u64 base, .int .i64 many, .int .u64 0], .int .u64 0, .int .i64 8]) (by simp [results, Tryz.results99, go_sem, q0, q1, p0, p1, p2]) rfl ⟨rfl, B5⟩
end Go.Proofs.YtomeaibdedaldaaGreatDoor.TableC4
namespace Go.Proofs.YtomeaibdedaldaaGreatDoor.AsidC
open Go.RowKit Bv Base MemL
open BitsC
def ze5 (x many : Int) : Bool := zdo x 0 many == x
theorem zhy (x many : Int) (W : World) (hx : U x) (hm : 0 ≤ many ∧ many ≤ 64) :
    Calls Tryz.prog 182 #[.int .u64 x, .int .i64 many] W fun e w' => e = .returned (.bool (ze5 x many)) ∧ Q W w' := by
  have H := Lib.hid (show ze5 x many = (zdo x 0 many == x) from rfl)
  go_enter Tryz.func182, Tryz.ntmps182
  go_wp2_with fail
  refine (zcv x 0 many _ hx (by omega) (by omega) hm.1 hm.2).mono ?_
  rintro e w1 ⟨rfl, q1⟩
  go_wp2
  go_ret
  exact ⟨by rw [H.out]; rfl, q1⟩
def ze6 (many free owned : Int) : Bool := decide (1 ≤ many) && decide (many ≤ 16) && ze5 free many && ze5 owned many
set_option maxHeartbeats 4000000 in
theorem right_calls (many free owned : Int) (W : World) (hf : U free) (ho : U owned) :
    Calls Tryz.prog 159 #[.agg #[.int .i64 many, .int .u64 free, .int .u64 owned]] W fun e w' => e = .returned (.bool (ze6 many free owned)) ∧ Below W.heap.size W w' := by
  have HI := Lib.hid (show ze6 many free owned = (decide (1 ≤ many) && decide (many ≤ 16) && ze5 free many && ze5 owned many) from rfl)
  have B0 := zaq (Below.refl W.heap.size W) (.cells #[.int .i64 many, .int .u64 free, .int .u64 owned] 41)
  have X0 : Bx (W.alloc (.cells #[.int .i64 many, .int .u64 free, .int .u64 owned] 41)) W.heap.size #[.int .i64 many, .int .u64 free, .int .u64 owned] := Bx.new
  cases h1 : decide (1 ≤ many)
  · have H := Lib.hid (show ze6 many free owned = false by rw [HI.out, h1]; rfl)
    go_enter Tryz.func159, Tryz.ntmps159
    go_wp2
    go_ret
    exact ⟨by rw [H.out]; rfl, B0⟩
  · cases h2 : decide (many ≤ 16)
    · have H := Lib.hid (show ze6 many free owned = false by rw [HI.out, h1, h2]; rfl)
      go_enter Tryz.func159, Tryz.ntmps159
      go_wp2
      go_ret
      exact ⟨by rw [H.out]; rfl, B0⟩
    · have hm : 0 ≤ many ∧ many ≤ 64 := by simp at h1 h2; omega
      have H := Lib.hid (show ze6 many free owned = (ze5 free many && ze5 owned many) by rw [HI.out, h1, h2]; rfl)
      go_enter Tryz.func159, Tryz.ntmps159
      go_wp2_with fail
      refine (zhy free many _ hf hm).mono ?_
      rintro e w1 ⟨rfl, q1⟩
      have B1 := Q.bel B0 q1
      have Y0 := X0.below q1.below
      have y0 : w1.cell? ⟨W.heap.size, 0, none⟩ = some (.int .i64 many) := Y0.cell 0
      have y2 : w1.cell? ⟨W.heap.size, 2, none⟩ = some (.int .u64 owned) := Y0.cell 2
      clear X0 q1 B0
      cases h3 : ze5 free many
      · have H' := Lib.hid (show ze6 many free owned = false by rw [H.out, h3]; rfl)
        clear h3
        go_wp2
        go_ret
        exact ⟨by rw [H'.out]; rfl, B1⟩
      · have H' := Lib.hid (show ze6 many free owned = ze5 owned many by rw [H.out, h3]; rfl)
        clear h3
        go_wp2_with fail
        refine (zhy owned many _ ho hm).mono ?_
        rintro e w2 ⟨rfl, q2⟩
        have B2 := Q.bel B1 q2
        go_wp2
        go_ret
        exact ⟨by rw [H'.out]; rfl, B2⟩
end Go.Proofs.YtomeaibdedaldaaGreatDoor.AsidC
namespace Go.Proofs.YtomeaibdedaldaaGreatDoor.AsidC2
open Go.RowKit Bv Base MemL
open BitsC AsidC
def newV (many : Int) : Value := if ze6 many 0 0 then .tuple #[.agg #[.int .i64 many, .int .u64 (zdo 18446744073709551615 0 many), .int .u64 0], .int .i64 0] else .tuple #[.agg #[.int .i64 0, .int .u64 0, .int .u64 0], .int .i64 1]
set_option maxHeartbeats 4000000 in
theorem new_calls (many : Int) (W : World) :
    Calls Tryz.prog 97 #[.int .i64 many] W fun e w' => e = .returned (newV many) ∧ Below W.heap.size W w' := by
  have B0 := zaq (zaq (Below.refl W.heap.size W) (.cells #[.int .i64 0, .int .u64 0, .int .u64 0] 41)) (.cells #[.int .i64 many, .int .u64 0, .int .u64 0] 41)
  have X0 : Bx ((W.alloc (.cells #[.int .i64 0, .int .u64 0, .int .u64 0] 41)).alloc (.cells #[.int .i64 many, .int .u64 0, .int .u64 0] 41)) W.heap.size #[.int .i64 0, .int .u64 0, .int .u64 0] := Bx.alloc Bx.new
  have X1 : Bx ((W.alloc (.cells #[.int .i64 0, .int .u64 0, .int .u64 0] 41)).alloc (.cells #[.int .i64 many, .int .u64 0, .int .u64 0] 41)) (W.heap.size + 1) #[.int .i64 many, .int .u64 0, .int .u64 0] := MemNewC.bx_new1
  go_enter Tryz.func97, Tryz.ntmps97
  go_wp2_with fail
  refine (right_calls many 0 0 _ ⟨by omega, by omega⟩ ⟨by omega, by omega⟩).mono ?_
  rintro e w1 ⟨rfl, b1⟩
  have B1 := zaw B0 b1
  have Y0 := X0.below b1
  have Y1 := X1.below b1
  have hl := Y1.lt
  clear X0 X1 b1 B0
  cases h : ze6 many 0 0
  · have H := Lib.hid (show newV many = .tuple #[.agg #[.int .i64 0, .int .u64 0, .int .u64 0], .int .i64 1] by unfold newV; rw [h]; rfl)
    clear h
    have f0 := Y0.free
    have q0 : w1.cell? ⟨W.heap.size, 0, none⟩ = some (.int .i64 0) := Y0.cell 0
    have q1 : w1.cell? ⟨W.heap.size, 1, none⟩ = some (.int .u64 0) := Y0.cell 1
    have q2 : w1.cell? ⟨W.heap.size, 2, none⟩ = some (.int .u64 0) := Y0.cell 2
    clear Y0 Y1
    go_wp2
    exact bodyPost_ret (v := .tuple #[.agg #[.int .i64 0, .int .u64 0, .int .u64 0], .int .i64 1]) (by simp [results, Tryz.results97, go_sem, q0, q1, q2]) rfl ⟨by rw [H.out], zal _ _ _ (by omega) (zal _ _ _ (by omega) (zal _ _ _ (by omega) B1))⟩
  · have H := Lib.hid (show newV many = .tuple #[.agg #[.int .i64 many, .int .u64 (zdo 18446744073709551615 0 many), .int .u64 0], .int .i64 0] by unfold newV; rw [h]; rfl)
    have hm : 0 ≤ many ∧ many ≤ 64 := by unfold ze6 at h; simp at h; omega
    clear h
    go_wp2_with fail
    refine (zcv 18446744073709551615 0 many _ ⟨by omega, by omega⟩ (by omega) (by omega) hm.1 hm.2).mono ?_
    rintro e w2 ⟨rfl, q⟩
    have B2 := Q.bel B1 q
    have Z0 := Y0.below q.below
    have Z1 := Y1.below q.below
    clear Y0 Y1 q
    have f0 := Z0.free
    have q0 : w2.cell? ⟨W.heap.size, 0, none⟩ = some (.int .i64 0) := Z0.cell 0
    have q1 : w2.cell? ⟨W.heap.size, 1, none⟩ = some (.int .u64 0) := Z0.cell 1
    have q2 : w2.cell? ⟨W.heap.size, 2, none⟩ = some (.int .u64 0) := Z0.cell 2
    have g0 := Z1.free
    have z0 : w2.cell? ⟨W.heap.size + 1, 0, none⟩ = some (.int .i64 many) := Z1.cell 0
    have z1 : w2.cell? ⟨W.heap.size + 1, 1, none⟩ = some (.int .u64 0) := Z1.cell 1
    have z2 : w2.cell? ⟨W.heap.size + 1, 2, none⟩ = some (.int .u64 0) := Z1.cell 2
    clear Z0 Z1
    go_wp2
    exact bodyPost_ret (v := .tuple #[.agg #[.int .i64 many, .int .u64 (zdo 18446744073709551615 0 many), .int .u64 0], .int .i64 0]) (by simp [results, Tryz.results97, go_sem, q0, q1, q2, z0, z1, z2]) rfl ⟨by rw [H.out], zal _ _ _ (by omega) (zal _ _ _ (by omega) (zal _ _ _ (by omega) (zal _ _ _ (by omega) B2)))⟩
end Go.Proofs.YtomeaibdedaldaaGreatDoor.AsidC2
namespace Go.Proofs.YtomeaibdedaldaaGreatDoor.TlbNewC
open Go.RowKit Bv Base MemL
theorem z27 : ∃ i z, Tryz.prog.info? 154 = some i ∧ i.zero = some z ∧ i.size = 45 ∧ i.bytes = 232 := by
  have h : (Tryz.prog.info? 154).map (fun i => (i.zero.isSome, i.size, i.bytes)) = some (true, 45, 232) := by kernel_rfl
  cases hi : Tryz.prog.info? 154 with
  | none => rw [hi] at h; simp at h
  | some i =>
    rw [hi] at h
    simp at h
    obtain ⟨h1, h2, h3⟩ := h
    cases hz : i.zero with
    | none => rw [hz] at h1; simp at h1
    | some z => exact ⟨i, z, rfl, hz, h2, h3⟩
set_option maxHeartbeats 2000000 in
set_option maxRecDepth 100000 in
theorem new_calls (n : Nat) (W : World) (hn : n ≤ 16) (z : Value) (hz : (Tryz.prog.info? 154).bind (·.zero) = some z) :
    Calls Tryz.prog 98 #[.int .i64 n] W fun e w' => ∃ a c, e = .returned (.tuple #[.agg #[.slice a n c], .int .i64 0]) ∧ w'.ownsRow W.heap.size 154 45 (.slice a n c) n (madeCells z.cells (n * 45)).toList ∧ Below W.heap.size W w' := by
  obtain ⟨i, z', hi, hz0, hsz, hby⟩ := z27
  rw [hi] at hz
  simp only [Option.bind_some] at hz
  have X0 : Bx (W.alloc (.cells #[.slice none 0 0] 33)) W.heap.size #[.slice none 0 0] := Bx.new
  have hs1 : (W.alloc (.cells #[.slice none 0 0] 33)).heap.size = W.heap.size + 1 := by rw [World.size_alloc]
  obtain ⟨w1, hrun, hown, hgrow⟩ := run_make_full (P := Tryz.prog) (W.alloc (.cells #[.slice none 0 0] 33)) (W.heap.size + 1) 31 154 i z 45 Tryz.underlying31 hi hz hsz .i64 .i64 n (by rw [hby]; omega) (by unfold maxLen; omega) (by omega)
  rw [hs1] at hown hrun
  have d1 : decide ((n : Int) < 0) = false := by simp
  have d2 : decide ((16 : Int) < n) = false := by simp; omega
  have B1 : Below W.heap.size W w1 := (zaq (Below.refl _ _) _).grown hgrow (by omega) (fun k hk => by simp at hk)
  have Y0 := X0.of_below ((Below.refl (W.heap.size + 1) (W.alloc (.cells #[.slice none 0 0] 33))).grown hgrow (by omega) (fun k hk => by simp at hk)) (by omega)
  have f0 := Y0.free
  have q0 : w1.cell? ⟨W.heap.size, 0, none⟩ = some (.slice none 0 0) := Y0.cell 0
  go_enter Tryz.func98, Tryz.ntmps98
  go_wp2
  refine bodyPost_ret (v := .tuple #[.agg #[.slice (some ⟨W.heap.size + 1, 0, none⟩) n n], .int .i64 0]) (by simp [results, Tryz.results98, go_sem, q0]) rfl ⟨_, _, rfl, ?_, ?_⟩
  · exact PutC.zcw (by omega) (PutC.zbd hown W.heap.size 0 (by omega) _)
  · exact zal _ _ _ (Nat.le_refl _) B1
end Go.Proofs.YtomeaibdedaldaaGreatDoor.TlbNewC
namespace Go.Proofs.YtomeaibdedaldaaGreatDoor.VaC
open Go.RowKit Bv VaSpec Base BitsC
theorem zke (l : Int) (w : World) (h0 : 0 ≤ l) (h2 : l ≤ 2) (hG : G w) : Calls Tryz.prog 51 #[.int .i64 l] w fun e w' => e = .returned (.int .u64 (sz l)) ∧ Q w w' := by
  obtain ⟨t0, t1, t2⟩ := hG.tabS
  rcases lev h0 h2 with rfl | rfl | rfl
  all_goals
    go_enter Tryz.func51, Tryz.ntmps51
    go_wp2
    go_ret
    exact ⟨rfl, Q.refl _⟩
theorem zt4 (a l : Int) (w : World) (a0 : 0 ≤ a) (a1 : a < 18446744073709551616) (h0 : 0 ≤ l) (h2 : l ≤ 2) (hG : G w) : Calls Tryz.prog 174 #[.int .u64 a, .int .i64 l] w fun e w' => e = .returned (.int .u64 (off a l)) ∧ Q w w' := by
  have m0 := Lib.hid (zoz a 12 (by decide) a0 a1)
  have m1 := Lib.hid (zoz a 21 (by decide) a0 a1)
  have m2 := Lib.hid (zoz a 30 (by decide) a0 a1)
  obtain ⟨t0, t1, t2⟩ := hG.tabS
  rcases lev h0 h2 with rfl | rfl | rfl
  all_goals
    go_enter Tryz.func174, Tryz.ntmps174
    go_wp2
    go_ret
    refine ⟨?_, Q.refl _⟩
  · exact congrArg (fun z => Ending.returned (.int .u64 z)) m0.out
  · exact congrArg (fun z => Ending.returned (.int .u64 z)) m1.out
  · exact congrArg (fun z => Ending.returned (.int .u64 z)) m2.out
theorem off_bd (a l : Int) (a0 : 0 ≤ a) : 0 ≤ off a l ∧ off a l < sz l ∧ off a l ≤ a := by
  have := sz_pos l
  unfold off
  refine ⟨Int.emod_nonneg _ (zz0 l), Int.emod_lt_of_pos _ this, ?_⟩
  have h1 := Int.mul_ediv_add_emod a (sz l)
  have h2 : 0 ≤ sz l * (a / sz l) := Int.mul_nonneg (by omega) (Int.ediv_nonneg a0 (by omega))
  omega
theorem zkf (a : Int) (h : U a) : zo2 a 39 = zh3 (a % 549755813888) := by
  unfold zo2; rw [show (39 : Int).toNat = 39 from rfl, zwu, B_X h]
theorem is_calls (a : Int) (w : World) (a0 : 0 ≤ a) (a1 : a < 18446744073709551616) : Calls Tryz.prog 173 #[.int .u64 a] w fun e w' => e = .returned (.bool (isv a)) ∧ Q w w' := by
  have H := Lib.hid (show (zo2 a 39 == a) = isv a by rw [zkf a ⟨a0, a1⟩]; exact zo0 a a0 a1)
  go_enter Tryz.func173, Tryz.ntmps173
  go_wp2_with (go_at_call 110; (with_reducible refine (zka _ _ _ ⟨a0, a1⟩ (by omega) (by omega)).mono ?_); rintro e w' ⟨rfl, ⟨nd, rfl⟩⟩)
  go_ret
  exact ⟨congrArg (fun z => Ending.returned (.bool z)) H.out, ⟨_, rfl⟩⟩
theorem idx_bd (a l : Int) : 0 ≤ idx a l ∧ idx a l < 512 := by unfold idx; omega
theorem z28 (n : Int) : 0 ≤ ofv n ∧ ofv n < 18446744073709551616 := by unfold ofv zh3; split <;> omega
theorem z5b (l : Int) : 4096 ≤ sz l ∧ sz l ≤ 1073741824 := by unfold sz; split; decide; split <;> decide
theorem zt5 (a l : Int) (w : World) (a0 : 0 ≤ a) (a1 : a < 18446744073709551616) (h0 : 0 ≤ l) (h2 : l ≤ 2) : Calls Tryz.prog 120 #[.int .u64 a, .int .i64 l] w fun e w' => e = .returned (.int .i64 (idx a l)) ∧ Q w w' := by
  have H := Lib.hid (show wrap64 (zdo a (12 + 9 * l) 9) = idx a l by
    rw [zcm a _ 9 ⟨a0, a1⟩ (by omega)]
    unfold idx wrap64
    rcases lev h0 h2 with rfl | rfl | rfl <;> simp only [show sz 0 = 4096 from rfl, show sz 1 = 2097152 from rfl, show sz 2 = 1073741824 from rfl, show (12 + 9 * 0 : Int).toNat = 12 from rfl, show (12 + 9 * 1 : Int).toNat = 21 from rfl, show (12 + 9 * 2 : Int).toNat = 30 from rfl, show (9 : Int).toNat = 9 from rfl] <;> omega)
  go_enter Tryz.func120, Tryz.ntmps120
  go_wp2_with (go_at_call 158; (with_reducible refine (zcv _ _ _ _ ⟨a0, a1⟩ (by omega) (by omega) (by omega) (by omega)).mono ?_); rintro e w' ⟨rfl, ⟨nd, rfl⟩⟩)
  go_ret
  exact ⟨congrArg (fun z => Ending.returned (.int .i64 z)) H.out, ⟨_, rfl⟩⟩
theorem zt6 (a : Int) (w : World) (a0 : 0 ≤ a) (a1 : a < 18446744073709551616) : Calls Tryz.prog 115 #[.int .u64 a] w fun e w' => e = .returned (.int .u64 (num a)) ∧ Q w w' := by
  have H := Lib.hid (show zdo a 12 27 = num a by rw [zcm a 12 27 ⟨a0, a1⟩ (by omega)]; rfl)
  go_enter Tryz.func115, Tryz.ntmps115
  go_wp2_with (go_at_call 158; (with_reducible refine (zcv _ _ _ _ ⟨a0, a1⟩ (by omega) (by omega) (by omega) (by omega)).mono ?_); rintro e w' ⟨rfl, ⟨nd, rfl⟩⟩)
  go_ret
  exact ⟨congrArg (fun z => Ending.returned (.int .u64 z)) H.out, ⟨_, rfl⟩⟩
theorem zt7 (lo n v : Int) (h : U v) (h1 : 0 ≤ lo) (h0 : 0 ≤ n) (h2 : lo + n ≤ 64) : zbw 0 lo n v = v % 2 ^ n.toNat * 2 ^ lo.toNat := by
  unfold zbw; rw [show X 0 = 0#64 from rfl, zlf _ _ _ (by omega), B_X h]
theorem of_calls (n : Int) (w : World) (a0 : 0 ≤ n) (a1 : n < 18446744073709551616) : Calls Tryz.prog 47 #[.int .u64 n] w fun e w' => e = .returned (.int .u64 (ofv n)) ∧ Q w w' := by
  have hs := zt7 12 27 n ⟨a0, a1⟩ (by omega) (by omega) (by omega)
  have H := Lib.hid (show zo2 (zbw 0 12 27 n) 39 = ofv n by
    rw [zkf _ (zex _ _ _ _), hs]; unfold ofv; congr 1
    simp only [show (27 : Int).toNat = 27 from rfl, show (12 : Int).toNat = 12 from rfl]; omega)
  clear hs
  go_enter Tryz.func47, Tryz.ntmps47
  go_wp2_with (first
    | (go_at_call 111; (with_reducible refine (zec _ _ _ _ _ ⟨by omega, by omega⟩ ⟨a0, a1⟩ (by omega) (by omega) (by omega) (by omega)).mono ?_); rintro e w' ⟨rfl, ⟨nd, rfl⟩⟩)
    | (go_at_call 110; (with_reducible refine (zka _ _ _ (zex _ _ _ _) (by omega) (by omega)).mono ?_); rintro e w' ⟨rfl, ⟨nd, rfl⟩⟩))
  go_ret
  exact ⟨congrArg (fun z => Ending.returned (.int .u64 z)) H.out, ⟨_, rfl⟩⟩
theorem fits_calls (a l : Int) (w : World) (a0 : 0 ≤ a) (a1 : a < 18446744073709551616) (h0 : 0 ≤ l) (h2 : l ≤ 2) (hG : G w) : Calls Tryz.prog 123 #[.int .u64 a, .int .i64 l] w fun e w' => e = .returned (.bool (zhw a l)) ∧ Q w w' := by
  cases hi : isv a
  all_goals
    have hf : zhw a l = (isv a && (off a l == 0)) := rfl
    rw [hi] at hf
    have Hf := Lib.hid hf; clear hf
    have Hi := Lib.hid hi; clear hi
    go_enter Tryz.func123, Tryz.ntmps123
    go_wp2_with (first | (go_at_call 173; refine (is_calls a _ a0 a1).mono ?_; rw [Hi.out]; rintro e w' ⟨rfl, ⟨nd, rfl⟩⟩) | (go_at_call 174; refine (zt4 a l _ a0 a1 h0 h2 ?_).mono ?_; exact hG; rintro e w' ⟨rfl, ⟨nd, rfl⟩⟩))
    go_ret
    refine ⟨?_, by repeat (first | exact Q.refl _ | apply Q.step)⟩
    rw [Hf.out]; rfl
end Go.Proofs.YtomeaibdedaldaaGreatDoor.VaC
namespace Go.Proofs.YtomeaibdedaldaaGreatDoor.PteSpec
open Go.RowKit Bv VaSpec
structure Perm where
  r : Bool
  w : Bool
  x : Bool
  u : Bool
deriving DecidableEq
structure Pte where
  v : Bool
  r : Bool
  w : Bool
  x : Bool
  u : Bool
  g : Bool
  a : Bool
  d : Bool
  rsw : Int
  ppn : Int
  high : Int
deriving DecidableEq
def Pte.U (p : Pte) : Prop := (0 ≤ p.rsw ∧ p.rsw < 18446744073709551616) ∧ (0 ≤ p.ppn ∧ p.ppn < 18446744073709551616) ∧ (0 ≤ p.high ∧ p.high < 18446744073709551616)
def zh4 (p : Pte) : Bool := decide (p.rsw < 4) && decide (p.ppn < 17592186044416) && decide (p.high < 1024)
def zpe (p : Pte) : Int := bI p.v + bI p.r * 2 + bI p.w * 4 + bI p.x * 8 + bI p.u * 16 + bI p.g * 32 + bI p.a * 64 + bI p.d * 128
def word (p : Pte) : Int := zpe p + p.rsw * 256 + p.ppn * 1024 + p.high * 18014398509481984
def zd9 (a i : Int) : Bool := a / 2 ^ i.toNat % 2 == 1
def zay (a : Int) : Pte := ⟨zd9 a 0, zd9 a 1, zd9 a 2, zd9 a 3, zd9 a 4, zd9 a 5, zd9 a 6, zd9 a 7, a / 256 % 4, a / 1024 % 17592186044416, a / 18014398509481984⟩
def zaz (p : Pte) : Bool := p.v && (p.r || p.x)
def zbk (p : Pte) : Bool := p.v && !p.r && !p.x
def zc3 (p : Pte) (l : Int) : Bool :=
  if !p.v || p.w && !p.r || p.high != 0 then true
  else if zbk p then l == 0 || p.a || p.d || p.u
  else !(p.ppn % (sz l / 4096) == 0)
theorem zpf (p : Pte) : 0 ≤ zpe p ∧ zpe p < 256 := by
  unfold zpe
  have := zey p.v; have := zey p.r; have := zey p.w; have := zey p.x; have := zey p.u; have := zey p.g; have := zey p.a; have := zey p.d
  omega
theorem zdc (p : Pte) : zh4 p = true ↔ p.rsw < 4 ∧ p.ppn < 17592186044416 ∧ p.high < 1024 := by
  unfold zh4; simp [and_assoc]
theorem zz9 (p : Pte) (h : p.U) (hm : zh4 p = true) : 0 ≤ word p ∧ word p < 18446744073709551616 := by
  rw [zdc] at hm; have := zpf p; unfold Pte.U at h; unfold word; omega
theorem z0a (a : Int) (h0 : 0 ≤ a) (h1 : a < 18446744073709551616) : (zay a).U := by unfold Pte.U zay; simp only; omega
theorem zt8 (a : Int) (h0 : 0 ≤ a) (h1 : a < 18446744073709551616) : zh4 (zay a) = true := by rw [zdc]; unfold zay; simp only; omega
theorem z0b (a : Int) (i : Nat) (h0 : 0 ≤ a) : bI (zd9 a i) = a / 2 ^ i % 2 := by
  unfold bI zd9; rw [Int.toNat_natCast]
  by_cases h : a / 2 ^ i % 2 = 1
  · simp [h]
  · have : a / 2 ^ i % 2 = 0 := by omega
    simp [this]
theorem zhg (a : Int) (h0 : 0 ≤ a) (h1 : a < 18446744073709551616) : word (zay a) = a := by
  have e : ∀ i : Nat, bI (zd9 a i) = a / 2 ^ i % 2 := fun i => z0b a i h0
  have e0 := e 0; have e1 := e 1; have e2 := e 2; have e3 := e 3; have e4 := e 4; have e5 := e 5; have e6 := e 6; have e7 := e 7
  unfold word zpe zay
  simp only
  rw [show (zd9 a 0) = zd9 a ((0 : Nat) : Int) from rfl, show (zd9 a 1) = zd9 a ((1 : Nat) : Int) from rfl, show (zd9 a 2) = zd9 a ((2 : Nat) : Int) from rfl, show (zd9 a 3) = zd9 a ((3 : Nat) : Int) from rfl, show (zd9 a 4) = zd9 a ((4 : Nat) : Int) from rfl, show (zd9 a 5) = zd9 a ((5 : Nat) : Int) from rfl, show (zd9 a 6) = zd9 a ((6 : Nat) : Int) from rfl, show (zd9 a 7) = zd9 a ((7 : Nat) : Int) from rfl]
  rw [e 0, e 1, e 2, e 3, e 4, e 5, e 6, e 7]
  clear e e0 e1 e2 e3 e4 e5 e6 e7
  omega
theorem zfq (p : Pte) (h : p.U) (hm : zh4 p = true) : zay (word p) = p := by
  rw [zdc] at hm
  obtain ⟨v, r, w, x, u, g, a, d, rsw, ppn, high⟩ := p
  unfold Pte.U at h; unfold word zpe zay
  simp only at *
  have q0 := zey v; have q1 := zey r; have q2 := zey w; have q3 := zey x; have q4 := zey u; have q5 := zey g; have q6 := zey a; have q7 := zey d
  have key : ∀ (b : Bool) (i : Nat) (n : Int), n / 2 ^ i % 2 = bI b → zd9 n i = b := by
    intro b i n h; unfold zd9; rw [Int.toNat_natCast, h]; cases b <;> rfl
  have k0 := key v 0; have k1 := key r 1; have k2 := key w 2; have k3 := key x 3; have k4 := key u 4; have k5 := key g 5; have k6 := key a 6; have k7 := key d 7
  rw [Pte.mk.injEq]
  refine ⟨k0 _ ?_, k1 _ ?_, k2 _ ?_, k3 _ ?_, k4 _ ?_, k5 _ ?_, k6 _ ?_, k7 _ ?_, ?_, ?_, ?_⟩ <;> omega
end Go.Proofs.YtomeaibdedaldaaGreatDoor.PteSpec
namespace Go.Proofs.YtomeaibdedaldaaGreatDoor.PteC
open Go.RowKit Bv VaSpec Base BitsC VaC PteSpec
def zr6 (n k : Int) : Bool := decide (n < 2 ^ k.toNat)
theorem zwy (n k : Int) (hn : U n) (h : k ≤ 64) : (zdo n 0 k == n) = zr6 n k := by
  rw [zcm n 0 k hn h]
  unfold zr6
  rw [show (0 : Int).toNat = 0 from rfl]
  have hp : (0 : Int) < 2 ^ k.toNat := by exact_mod_cast Nat.two_pow_pos k.toNat
  rw [Bool.eq_iff_iff, beq_iff_eq, decide_eq_true_eq]
  rw [show (2 : Int) ^ 0 = 1 from rfl, Int.ediv_one]
  constructor
  · intro e; rw [← e]; exact Int.emod_lt_of_pos _ hp
  · intro e; exact Int.emod_eq_of_lt hn.1 e
theorem fits_calls (n k : Int) (W : World) (hn : U n) (k0 : 0 ≤ k) (k1 : k ≤ 64) : Calls Tryz.prog 185 #[.int .u64 n, .int .i64 k] W fun e w' => e = .returned (.bool (zr6 n k)) ∧ Q W w' := by
  have H := Lib.hid (zwy n k hn k1)
  go_enter Tryz.func185, Tryz.ntmps185
  go_wp2_with (go_at_call 158; (with_reducible refine (zcv _ _ _ _ hn (by omega) (by omega) (by omega) (by omega)).mono ?_); rintro e w' ⟨rfl, ⟨nd, rfl⟩⟩)
  go_ret
  exact ⟨congrArg (fun z => Ending.returned (.bool z)) H.out, ⟨_, rfl⟩⟩
theorem zt9 (p : Pte) : (zr6 p.rsw 2 && zr6 p.ppn 44 && zr6 p.high 10) = zh4 p := rfl
theorem znc (v r w x u g a d : Bool) (rsw ppn high : Int) (W : World) (h1 : U rsw) (h2 : U ppn) (h3 : U high) :
    Calls Tryz.prog 169 #[.agg #[.bool v, .bool r, .bool w, .bool x, .bool u, .bool g, .bool a, .bool d, .int .u64 rsw, .int .u64 ppn, .int .u64 high]] W fun e w' => e = .returned (.bool (zh4 ⟨v, r, w, x, u, g, a, d, rsw, ppn, high⟩)) ∧ Below W.heap.size W w' := by
  have H := Lib.hid (zt9 ⟨v, r, w, x, u, g, a, d, rsw, ppn, high⟩)
  go_enter Tryz.func169, Tryz.ntmps169
  go_wp2_with (go_at_call 185; (with_reducible refine (fits_calls _ _ _ (by assumption) (by omega) (by omega)).mono ?_); rintro e w' ⟨rfl, ⟨nd, rfl⟩⟩)
  all_goals
    go_ret
    refine ⟨congrArg (fun z => Ending.returned (.bool z)) (by rw [← H.out]; simp [*]), (by repeat (first | (with_reducible exact Below.refl _ _) | (with_reducible apply zbe) | (with_reducible apply zaq) | (with_reducible apply zaw; rotate_left; with_reducible assumption) | (with_reducible refine zal _ _ _ (by first | omega | (simp; done) | (simp; omega) | (simp at *; omega)) ?_)))⟩
theorem zr7 (v r w x u g a d : Bool) (rsw ppn high : Int) (W : World) :
    Calls Tryz.prog 114 #[.agg #[.bool v, .bool r, .bool w, .bool x, .bool u, .bool g, .bool a, .bool d, .int .u64 rsw, .int .u64 ppn, .int .u64 high]] W fun e w' => e = .returned (.bool (zaz ⟨v, r, w, x, u, g, a, d, rsw, ppn, high⟩)) ∧ Below W.heap.size W w' := by
  go_enter Tryz.func114, Tryz.ntmps114
  go_wp2
  all_goals
    go_ret
    refine ⟨congrArg (fun z => Ending.returned (.bool z)) (by simp [zaz, *]), (by repeat (first | (with_reducible exact Below.refl _ _) | (with_reducible apply zbe) | (with_reducible apply zaq) | (with_reducible apply zaw; rotate_left; with_reducible assumption) | (with_reducible refine zal _ _ _ (by first | omega | (simp; done) | (simp; omega) | (simp at *; omega)) ?_)))⟩
theorem zkg (v r w x u g a d : Bool) (rsw ppn high : Int) (W : World) :
    Calls Tryz.prog 76 #[.agg #[.bool v, .bool r, .bool w, .bool x, .bool u, .bool g, .bool a, .bool d, .int .u64 rsw, .int .u64 ppn, .int .u64 high]] W fun e w' => e = .returned (.bool (zbk ⟨v, r, w, x, u, g, a, d, rsw, ppn, high⟩)) ∧ Below W.heap.size W w' := by
  go_enter Tryz.func76, Tryz.ntmps76
  go_wp2
  all_goals
    go_ret
    refine ⟨congrArg (fun z => Ending.returned (.bool z)) (by simp [zbk, *]), (by repeat (first | (with_reducible exact Below.refl _ _) | (with_reducible apply zbe) | (with_reducible apply zaq) | (with_reducible apply zaw; rotate_left; with_reducible assumption) | (with_reducible refine zal _ _ _ (by first | omega | (simp; done) | (simp; omega) | (simp at *; omega)) ?_)))⟩
theorem zr8 (v r w x u g a d : Bool) (rsw ppn high : Int) (W : World) :
    Calls Tryz.prog 116 #[.agg #[.bool v, .bool r, .bool w, .bool x, .bool u, .bool g, .bool a, .bool d, .int .u64 rsw, .int .u64 ppn, .int .u64 high]] W fun e w' => e = .returned (.agg #[.bool r, .bool w, .bool x, .bool u]) ∧ Below W.heap.size W w' := by
  go_enter Tryz.func116, Tryz.ntmps116
  go_wp2
  exact bodyPost_ret (v := .agg #[.bool r, .bool w, .bool x, .bool u]) (by simp [results, Tryz.results116, go_sem]) rfl ⟨rfl, (by repeat (first | (with_reducible exact Below.refl _ _) | (with_reducible apply zbe) | (with_reducible apply zaq) | (with_reducible apply zaw; rotate_left; with_reducible assumption) | (with_reducible refine zal _ _ _ (by first | omega | (simp; done) | (simp; omega) | (simp at *; omega)) ?_)))⟩
set_option maxHeartbeats 800000 in
theorem zua (v r w x u g a d : Bool) (rsw ppn high : Int) (l : Int) (W : World) (h1 : U rsw) (h2 : U ppn) (h3 : U high) (l0 : 0 ≤ l) (l2 : l ≤ 2) (hG : G W) :
    Calls Tryz.prog 113 #[.agg #[.bool v, .bool r, .bool w, .bool x, .bool u, .bool g, .bool a, .bool d, .int .u64 rsw, .int .u64 ppn, .int .u64 high], .int .i64 l] W fun e w' => e = .returned (.bool (zc3 ⟨v, r, w, x, u, g, a, d, rsw, ppn, high⟩ l)) ∧ Below W.heap.size W w' := by
  go_enter Tryz.func113, Tryz.ntmps113
  have hs := z5b l
  go_wp2_with (first
    | (go_at_call 76; (with_reducible refine (zkg _ _ _ _ _ _ _ _ _ _ _ _).mono ?_); rintro e w1 ⟨rfl, hb⟩; obtain ⟨hc, hf⟩ := zo1 hb)
    | fail)
  all_goals first
    | (go_ret; refine ⟨congrArg (fun z => Ending.returned (.bool z)) (by first | (simp [zc3, *]; done) | (simp_all [zc3, zbk]; done)), (by repeat (first | (with_reducible exact Below.refl _ _) | (with_reducible apply zbe) | (with_reducible apply zaq) | (with_reducible apply zaw; rotate_left; with_reducible assumption) | (with_reducible refine zal _ _ _ (by first | omega | (simp; done) | (simp; omega) | (simp at *; omega)) ?_)))⟩; done)
    | skip
  all_goals
    have h9 : w1.cell? ⟨W.heap.size, 9, none⟩ = some (.int .u64 ppn) := by rw [hc _ _ (by simp)]; simp
    clear hc hf
    have HG : G w1 := (by first | assumption | exact hG.to (by repeat (first | (with_reducible exact Below.refl _ _) | (with_reducible apply zbe) | (with_reducible apply zaq) | (with_reducible apply zaw; rotate_left; with_reducible assumption) | (with_reducible refine zal _ _ _ (by first | omega | (simp; done) | (simp; omega) | (simp at *; omega)) ?_))))
    go_quiet ((first | (go_at_call 51; exact Calls.quiet_of ((zke _ _ l0 l2 (HG.drewN _)).mono fun _ _ ⟨he, d⟩ => ⟨he, d.out⟩)) | (go_at_call 56; exact Calls.quiet_of ((zed _ _ _ h2 (by omega)).mono fun _ _ ⟨he, d⟩ => ⟨he, d.out⟩))))
    go_wp2
    go_ret
    refine ⟨congrArg (fun z => Ending.returned (.bool z)) ?_, (by repeat (first | (with_reducible exact Below.refl _ _) | (with_reducible apply zbe) | (with_reducible apply zaq) | (with_reducible apply zaw; rotate_left; with_reducible assumption) | (with_reducible refine zal _ _ _ (by first | omega | (simp; done) | (simp; omega) | (simp at *; omega)) ?_)))⟩
    unfold zem
    rw [if_neg (by omega)]
    first | (simp [zc3, *]; done) | (simp_all [zc3, zbk]; done)
end Go.Proofs.YtomeaibdedaldaaGreatDoor.PteC
namespace Go.Proofs.YtomeaibdedaldaaGreatDoor.PteC
open Go.RowKit Bv VaSpec Base BitsC VaC PteSpec
theorem zwz (x v : BitVec 64) (lo n : Nat) (h : lo + n ≤ 64) (hx : x.toNat < 2 ^ lo) (hv : v.toNat < 2 ^ n) : (zsx x lo n v).toNat = x.toNat + v.toNat * 2 ^ lo := by
  have e : zsx x lo n v = (v <<< lo) ||| x := by
    apply BitVec.eq_of_getLsbD_eq; intro i hi
    rw [zel, BitVec.getLsbD_or, BitVec.getLsbD_shiftLeft]
    have hxi : lo ≤ i → x.getLsbD i = false := fun hl => by
      rw [BitVec.getLsbD]; exact Nat.testBit_lt_two_pow (Nat.lt_of_lt_of_le hx (Nat.pow_le_pow_right (by decide) hl))
    have hvi : n ≤ i - lo → v.getLsbD (i - lo) = false := fun hl => by
      rw [BitVec.getLsbD]; exact Nat.testBit_lt_two_pow (Nat.lt_of_lt_of_le hv (Nat.pow_le_pow_right (by decide) hl))
    by_cases h1 : lo ≤ i
    · by_cases h2 : i < lo + n
      · simp only [hi, h1, h2, hxi h1, show ¬ i < lo by omega, and_self, if_true, decide_true, decide_false, Bool.not_false, Bool.true_and, Bool.or_false]
      · simp only [hi, h1, h2, hxi h1, hvi (by omega), show ¬ i < lo by omega, and_false, if_false, decide_true, decide_false, Bool.not_false, Bool.true_and, Bool.or_false, Bool.and_false]
    · simp only [hi, h1, show i < lo by omega, false_and, if_false, decide_true, Bool.not_true, Bool.and_false, Bool.false_and, Bool.false_or, Bool.true_and]
  rw [e, BitVec.toNat_or, BitVec.toNat_shiftLeft, Nat.shiftLeft_eq]
  have h3 : v.toNat * 2 ^ lo < 2 ^ n * 2 ^ lo := Nat.mul_lt_mul_of_pos_right hv (Nat.two_pow_pos lo)
  have h4 : 2 ^ n * 2 ^ lo ≤ 2 ^ 64 := by rw [← Nat.pow_add]; exact Nat.pow_le_pow_right (by decide) (by omega)
  rw [Nat.mod_eq_of_lt (by omega), ← Nat.shiftLeft_eq, ← Nat.shiftLeft_add_eq_or_of_lt hx]
  omega
theorem zh8 (a lo n v : Int) (ha : U a) (hv : U v) (l0 : 0 ≤ lo) (n0 : 0 ≤ n) (h : lo + n ≤ 64) (hx : a < 2 ^ lo.toNat) (hv2 : v < 2 ^ n.toNat) : zbw a lo n v = a + v * 2 ^ lo.toNat := by
  obtain ⟨x, rfl⟩ := zm5 ha.1 ha.2
  obtain ⟨y, rfl⟩ := zm5 hv.1 hv.2
  unfold zbw; rw [X_B, X_B]
  unfold B at *
  rw [zwz x y lo.toNat n.toNat (by omega) (by exact_mod_cast hx) (by exact_mod_cast hv2)]
  norm_cast
def zpg (f : Nat → Bool) : Nat → Int
  | 0 => 0
  | k + 1 => zpg f k + bI (f k) * 2 ^ k
theorem znd (f : Nat → Bool) (k : Nat) : zpg f (k + 1) = zpg f k + bI (f k) * 2 ^ k := rfl
theorem zub (f : Nat → Bool) (k : Nat) : 0 ≤ zpg f k ∧ zpg f k < 2 ^ k := by
  induction k with
  | zero => unfold zpg; decide
  | succ k ih =>
    rw [znd, Int.pow_succ]
    have hp : (0 : Int) < 2 ^ k := by exact_mod_cast Nat.two_pow_pos k
    unfold bI; split <;> omega
theorem zw0 (f : Nat → Bool) (k : Nat) (hk : k < 8) : zbw (zpg f k) (k : Int) 1 (bI (f k)) = zpg f (k + 1) := by
  have h1 := zub f k
  have h2 := zey (f k)
  have hp : (2 : Int) ^ k ≤ 128 := by
    have : 2 ^ k ≤ 2 ^ 7 := Nat.pow_le_pow_right (by decide) (by omega)
    exact_mod_cast this
  rw [znd, zh8 _ _ _ _ ⟨h1.1, by omega⟩ ⟨h2.1, by omega⟩ (by omega) (by omega) (by omega) (by rw [Int.toNat_natCast]; exact h1.2) (by show _ < (2 : Int) ^ 1; omega), Int.toNat_natCast]
set_option maxHeartbeats 400000 in
theorem zuc (f : Nat → Bool) (b : Nat) (W : World) (hc : ∀ i, i < 8 → W.cell? ⟨b, i, none⟩ = some (.bool (f i))) :
    Calls Tryz.prog 170 #[.slice (some ⟨b, 0, none⟩) 8 8] W fun e w' => e = .returned (.int .u64 (zpg f 8)) ∧ Q W w' := by
  have HC := Lib.hid hc; clear hc
  go_enter Tryz.func170, Tryz.ntmps170
  go_wp2
  go_loopw [3, 8] (fun x i wr => ∃ k : Nat, k ≤ 8 ∧ i = .int .i64 k ∧ x = .int .u64 (zpg f k) ∧ Q W wr) (fun _ i _ => 8 - (intOf i).toNat)
  case atStart => exact ⟨0, by omega, rfl, rfl, Q.refl _⟩
  case round =>
    obtain ⟨k, hk, rfl, rfl, hq⟩ := hrel
    by_cases hlt : k < 8
    · obtain ⟨n, rfl⟩ := hq
      have h1 := HC.out k hlt
      have h2 := Lib.hid (zw0 f k hlt)
      have h3 := zub f k
      have hp : (2 : Int) ^ k ≤ 128 := by
        have : 2 ^ k ≤ 2 ^ 7 := Nat.pow_le_pow_right (by decide) (by omega)
        exact_mod_cast this
      have h4 : U (zpg f k) := ⟨h3.1, by omega⟩
      clear hp h3
      have h5 : U (bI (f k)) := by have := zey (f k); exact ⟨by omega, by omega⟩
      go_wp2_with (first
        | (go_at_call 186; (with_reducible refine (zr3 _ _).mono ?_); rintro e w' ⟨rfl, ⟨nd, rfl⟩⟩)
        | (go_at_call 111; (with_reducible refine (zec _ _ _ _ _ h4 h5 (by omega) (by omega) (by omega) (by omega)).mono ?_); rintro e w' ⟨rfl, ⟨nd, rfl⟩⟩)
        | fail)
      refine ⟨⟨k + 1, by omega, by go_num, by rw [h2.out], by repeat (first | exact Q.refl _ | apply Q.step)⟩, ?_⟩
      simp [intOf]; omega
    · obtain rfl : k = 8 := by omega
      go_wp2
      go_ret
      exact ⟨rfl, hq⟩
end Go.Proofs.YtomeaibdedaldaaGreatDoor.PteC
namespace Go.Proofs.YtomeaibdedaldaaGreatDoor.PteC
open Go.RowKit Bv VaSpec Base BitsC VaC PteSpec
def f8 (v r w x u g a d : Bool) : Nat → Bool
  | 0 => v
  | 1 => r
  | 2 => w
  | 3 => x
  | 4 => u
  | 5 => g
  | 6 => a
  | _ => d
theorem row_low8 (v r w x u g a d : Bool) (rsw ppn high : Int) : zpg (f8 v r w x u g a d) 8 = zpe ⟨v, r, w, x, u, g, a, d, rsw, ppn, high⟩ := by
  unfold zpe; simp only [zpg, f8]; omega
theorem zw1 (p : Pte) (h : p.U) (hm : zh4 p = true) : zbw (zbw (zbw (zpe p) 8 2 p.rsw) 10 44 p.ppn) 54 10 p.high = word p := by
  rw [zdc] at hm
  have hl := zpf p
  obtain ⟨h1, h2, h3⟩ := h
  rw [zh8 (zpe p) 8 2 p.rsw ⟨by omega, by omega⟩ h1 (by omega) (by omega) (by omega) (by show _ < (2 : Int) ^ 8; omega) (by show _ < (2 : Int) ^ 2; omega)]
  rw [show (2 : Int) ^ (8 : Int).toNat = 256 from rfl]
  rw [zh8 _ 10 44 p.ppn ⟨by omega, by omega⟩ h2 (by omega) (by omega) (by omega) (by show _ < (2 : Int) ^ 10; omega) (by show _ < (2 : Int) ^ 44; omega)]
  rw [show (2 : Int) ^ (10 : Int).toNat = 1024 from rfl]
  rw [zh8 _ 54 10 p.high ⟨by omega, by omega⟩ h3 (by omega) (by omega) (by omega) (by show _ < (2 : Int) ^ 54; omega) (by show _ < (2 : Int) ^ 10; omega)]
  rw [show (2 : Int) ^ (54 : Int).toNat = 18014398509481984 from rfl]
  rfl
def ze7 (p : Pte) : Int := if zh4 p then word p else 0
def zi9 (p : Pte) : Int := if zh4 p then 0 else 1
set_option maxHeartbeats 1000000 in
theorem put_calls (v r w x u g a d : Bool) (rsw ppn high : Int) (W : World) (h1 : U rsw) (h2 : U ppn) (h3 : U high) :
    Calls Tryz.prog 117 #[.agg #[.bool v, .bool r, .bool w, .bool x, .bool u, .bool g, .bool a, .bool d, .int .u64 rsw, .int .u64 ppn, .int .u64 high]] W fun e w' => e = .returned (.tuple #[.int .u64 (ze7 ⟨v, r, w, x, u, g, a, d, rsw, ppn, high⟩), .int .i64 (zi9 ⟨v, r, w, x, u, g, a, d, rsw, ppn, high⟩)]) ∧ Below W.heap.size W w' := by
  cases hm : zh4 ⟨v, r, w, x, u, g, a, d, rsw, ppn, high⟩
  · have H1 := Lib.hid (show ze7 ⟨v, r, w, x, u, g, a, d, rsw, ppn, high⟩ = 0 by unfold ze7; rw [hm]; rfl)
    have H2 := Lib.hid (show zi9 ⟨v, r, w, x, u, g, a, d, rsw, ppn, high⟩ = 1 by unfold zi9; rw [hm]; rfl)
    have HM := Lib.hid hm; clear hm
    go_enter Tryz.func117, Tryz.ntmps117
    go_wp2_with (go_at_call 169; (with_reducible refine (znc _ _ _ _ _ _ _ _ _ _ _ _ h1 h2 h3).mono ?_); rw [HM.out]; rintro e w1 ⟨rfl, hb⟩)
    go_ret2
    rw [H1.out, H2.out]
    exact ⟨rfl, (by repeat (first | (with_reducible exact Below.refl _ _) | (with_reducible apply zbe) | (with_reducible apply zaq) | (with_reducible apply zaw; rotate_left; with_reducible assumption) | (with_reducible refine zal _ _ _ (by first | omega | (simp; done) | (simp; omega) | (simp at *; omega)) ?_)))⟩
  · have H1 := Lib.hid (show ze7 ⟨v, r, w, x, u, g, a, d, rsw, ppn, high⟩ = word ⟨v, r, w, x, u, g, a, d, rsw, ppn, high⟩ by unfold ze7; rw [hm]; rfl)
    have H2 := Lib.hid (show zi9 ⟨v, r, w, x, u, g, a, d, rsw, ppn, high⟩ = 0 by unfold zi9; rw [hm]; rfl)
    have H3 := Lib.hid (zw1 ⟨v, r, w, x, u, g, a, d, rsw, ppn, high⟩ ⟨h1, h2, h3⟩ hm)
    have H4 := Lib.hid (row_low8 v r w x u g a d rsw ppn high)
    have HM := Lib.hid hm; clear hm
    have hl := zpf ⟨v, r, w, x, u, g, a, d, rsw, ppn, high⟩
    have hlU : U (zpe ⟨v, r, w, x, u, g, a, d, rsw, ppn, high⟩) := ⟨hl.1, by omega⟩
    go_enter Tryz.func117, Tryz.ntmps117
    go_wp2_with (first
      | (go_at_call 169; (with_reducible refine (znc _ _ _ _ _ _ _ _ _ _ _ _ h1 h2 h3).mono ?_); rw [HM.out]; rintro e w1 ⟨rfl, hb⟩; obtain ⟨hc, hf⟩ := zo1 hb; have hz : W.heap.size < w1.heap.size := by have := hb.size; simp at this; omega)
      | fail)
    refine (zuc (f8 v r w x u g a d) _ _ ?_).mono ?_
    · intro i hi
      have : i = 0 ∨ i = 1 ∨ i = 2 ∨ i = 3 ∨ i = 4 ∨ i = 5 ∨ i = 6 ∨ i = 7 := by omega
      rcases this with rfl | rfl | rfl | rfl | rfl | rfl | rfl | rfl <;> simp [f8]
    rintro e w2 ⟨rfl, ⟨n2, rfl⟩⟩
    rw [H4.out]
    go_wp2_with (first
      | (go_at_call 111; (with_reducible refine (zec _ _ _ _ _ (by first | assumption | exact zex _ _ _ _) (by assumption) (by omega) (by omega) (by omega) (by omega)).mono ?_); rintro e w' ⟨rfl, ⟨nd, rfl⟩⟩)
      | fail)
    go_ret2
    rw [H1.out, H2.out, ← H3.out]
    exact ⟨rfl, (by repeat (first | (with_reducible exact Below.refl _ _) | (with_reducible apply zbe) | (with_reducible apply zaq) | (with_reducible apply zaw; rotate_left; with_reducible assumption) | (with_reducible refine zal _ _ _ (by first | omega | (simp; done) | (simp; omega) | (simp at *; omega)) ?_)))⟩
set_option maxHeartbeats 1000000 in
theorem zud (x i : Int) (b : Nat) (W : World) (hx : U x) (h0 : 0 ≤ i) (h1 : i ≤ 7) (hc : W.cell? ⟨b, 0, none⟩ = some (.int .u64 x)) :
    Calls Tryz.prog 184 #[.int .i64 i, .pointer (some ⟨b, 0, none⟩)] W fun e w' => e = .returned (.bool (zd9 x i)) ∧ w' = W := by
  have H := Lib.hid (show (zdo x i 1 == 1) = zd9 x i by rw [zcm x i 1 hx (by omega)]; rfl)
  go_enter Tryz.func184, Tryz.ntmps184
  go_wp2_with (go_at_call 158; (with_reducible refine (zlg _ _ _ _ hx (by omega) (by omega) (by omega) (by omega)).mono ?_); rintro e w' ⟨rfl, rfl⟩)
  go_ret
  exact ⟨congrArg (fun z => Ending.returned (.bool z)) H.out, rfl⟩
end Go.Proofs.YtomeaibdedaldaaGreatDoor.PteC
namespace Go.Proofs.YtomeaibdedaldaaGreatDoor.PteC
open Go.RowKit Bv VaSpec Base BitsC VaC PteSpec
set_option maxRecDepth 4000
set_option maxHeartbeats 1000000 in
theorem zkh (x : Int) (W : World) (hx : U x) :
    Calls Tryz.prog 168 #[.int .u64 x] W fun e w' => e = .returned (.agg #[.bool (zay x).v, .bool (zay x).r, .bool (zay x).w, .bool (zay x).x, .bool (zay x).u, .bool (zay x).g, .bool (zay x).a, .bool (zay x).d, .int .u64 (zay x).rsw, .int .u64 (zay x).ppn, .int .u64 (zay x).high]) ∧ Below W.heap.size W w' := by
  have Ha := Lib.hid (show zdo x 8 2 = (zay x).rsw by rw [zcm x 8 2 hx (by omega)]; rfl)
  have Hb := Lib.hid (show zdo x 10 44 = (zay x).ppn by rw [zcm x 10 44 hx (by omega)]; rfl)
  have Hc := Lib.hid (show zdo x 54 10 = (zay x).high by
    rw [zcm x 54 10 hx (by omega)]; show x / 2 ^ 54 % 2 ^ 10 = x / 18014398509481984; obtain ⟨p, q⟩ := hx; omega)
  go_enter Tryz.func168, Tryz.ntmps168
  go_wp2_with fail
  refine zr1 23 (by kernel_rfl) (by kernel_rfl) ?_
  intro W2 hW2
  simp only [List.take_succ_cons, List.take_zero, List.drop_succ_cons, List.drop_zero]
  have hcell : W2.cell? ⟨W.heap.size, 0, none⟩ = some (.int .u64 x) := by rw [hW2]; simp
  have hHW := Lib.hid hW2; clear hW2
  repeat (first | still_step | still_call (zud _ _ _ _ hx (by omega) (by omega) hcell) | still_call (zlg _ _ _ _ hx (by omega) (by omega) (by omega) (by omega)))
  refine wpStill_nil ?_
  rw [Ha.out, Hb.out, Hc.out, show zd9 x 0 = (zay x).v from rfl, show zd9 x 1 = (zay x).r from rfl, show zd9 x 2 = (zay x).w from rfl, show zd9 x 3 = (zay x).x from rfl, show zd9 x 4 = (zay x).u from rfl, show zd9 x 5 = (zay x).g from rfl, show zd9 x 6 = (zay x).a from rfl, show zd9 x 7 = (zay x).d from rfl]
  have hW2 := hHW.out
  clear hcell
  subst hW2
  go_wp2
  refine bodyPost_ret (v := .agg #[.bool (zay x).v, .bool (zay x).r, .bool (zay x).w, .bool (zay x).x, .bool (zay x).u, .bool (zay x).g, .bool (zay x).a, .bool (zay x).d, .int .u64 (zay x).rsw, .int .u64 (zay x).ppn, .int .u64 (zay x).high]) ?_ rfl ?_
  · simp [results, Tryz.results168, go_sem]
  · exact ⟨rfl, (by repeat (first | (with_reducible exact Below.refl _ _) | (with_reducible apply zbe) | (with_reducible apply zaq) | (with_reducible apply zaw; rotate_left; with_reducible assumption) | (with_reducible refine zal _ _ _ (by first | omega | (simp; done) | (simp; omega) | (simp at *; omega)) ?_)))⟩
end Go.Proofs.YtomeaibdedaldaaGreatDoor.PteC
namespace Go.Proofs.YtomeaibdedaldaaGreatDoor.CloneSpace
open Go.RowKit Bv Base MemL
theorem info : (Tryz.prog.info? 62).map (fun i => (i.zero, i.size, i.bytes)) = some (some (.agg #[.int .u64 0, .int .u64 0, .bool false]), 3, 24) := by kernel_rfl
end Go.Proofs.YtomeaibdedaldaaGreatDoor.CloneSpace
namespace Go.Proofs.YtomeaibdedaldaaGreatDoor.GrowSpace
open Go.RowKit Bv Base MemL
set_option maxHeartbeats 2000000 in
set_option maxRecDepth 100000 in
theorem grow_calls (n : Nat) (W : World) (hbig : n * 24 ≤ 140737488355328) :
    Calls Tryz.prog 163 #[.slice none 0 0, .int .i64 n] W fun e w' => ∃ v', e = .returned v' ∧ w'.ownsRow W.heap.size 62 3 v' 0 [] ∧ Below W.heap.size W w' := by
  obtain ⟨i0, hi0, hz0, hz1, hz2⟩ := info_parts CloneSpace.info
  have h1 : ¬ ((n : Int) < 0) := by omega
  have h3 : wrap64 (n : Int) = n := by unfold wrap64; omega
  have h3' : IntKind.i64.wrap (n : Int) = n := by rw [IntKind.wrap_i64]; omega
  by_cases h0 : n = 0
  · subst h0
    go_enter Tryz.func163, Tryz.ntmps163
    go_wp2
    go_ret
    exact ⟨_, rfl, ⟨rfl, .inl ⟨rfl, rfl⟩⟩, Below.refl _ _⟩
  · have h4 : (n : Int) > 0 := by omega
    have hrz : ∀ ty, (Builtin.append_ #[42, 3] ty #[.slice none 0 0, .int .i64 (n : Int)]).run Tryz.prog W =
        .ok (.slice (some ⟨W.heap.size, 0, none⟩) n (grownCap W n 0 62)) (W.drew.alloc (.cells (#[] ++ Builtin.zeroCells (.agg #[.int .u64 0, .int .u64 0, .bool false] : Value).cells n ++ Builtin.zeroCells (.agg #[.int .u64 0, .int .u64 0, .bool false] : Value).cells (grownCap W n 0 62 - n)) 62)) := fun ty => by
      have h := Lib.run_append_grow_zeros W 42 3 ty 62 i0 (.agg #[.int .u64 0, .int .u64 0, .bool false]) .i64 .i64 Tryz.underlying42 Tryz.underlying3 hi0 hz0 none 0 0 [] (run_firstCells_none W.drew _ 0 0 0) n (by omega) (by omega) (by omega) (by omega)
        (by rw [hz2]; omega) (growslice_fits (by omega) (by rw [hz2]; omega))
      simpa using h
    have hG : n ≤ grownCap W n 0 62 := grownCap_ge W _ _ _
    have hGm := grownCap_le_maxLen W n 0 62 (by unfold maxLen; omega)
    generalize grownCap W n 0 62 = G at hrz hG hGm
    unfold maxLen at hGm
    go_enter Tryz.func163, Tryz.ntmps163
    go_wp2_with (at_builtin; refine Lib.wpList_append_run _ rfl _ _ _ _ rfl _ _ rfl rfl _ _ (hrz _) ?_)
    all_goals
      go_ret
      refine ⟨_, rfl, ⟨rfl, .inr ⟨W.heap.size, G, _, rfl, Nat.le_refl _, heap_alloc_new _ _, by omega, by unfold maxLen; omega, ?_, rfl⟩⟩, ?_⟩
      · simp [Builtin.zeroCells, Value.cells]; omega
      · exact zaq (zbe (Below.refl _ _) 1) _
end Go.Proofs.YtomeaibdedaldaaGreatDoor.GrowSpace
namespace Go.Proofs.YtomeaibdedaldaaGreatDoor.ConcatSpace
open Go.RowKit Bv Base MemL
def nk (n1 n2 : Nat) : Nat → Nat | 0 => 0 | 1 => n1 | _ => n1 + n2
def xk (x1 x2 : List Value) : Nat → List Value | 0 => [] | 1 => x1 | _ => x1 ++ x2
def vk (v1 v2 : Value) : Nat → Value | 0 => v1 | _ => v2
def ck (n1 n2 : Nat) : Nat → Nat | 0 => n1 | _ => n2
def yk (x1 x2 : List Value) : Nat → List Value | 0 => x1 | _ => x2
theorem nk_succ (n1 n2 k : Nat) (h : k < 2) : nk n1 n2 (k + 1) = nk n1 n2 k + ck n1 n2 k := by
  match k, h with
  | 0, _ => simp [nk, ck]
  | 1, _ => simp [nk, ck]
theorem xk_succ (n1 n2 : List Value) (k : Nat) (h : k < 2) : xk n1 n2 (k + 1) = xk n1 n2 k ++ yk n1 n2 k := by
  match k, h with
  | 0, _ => simp [xk, yk]
  | 1, _ => simp [xk, yk]
theorem nk_le (n1 n2 k : Nat) : nk n1 n2 k ≤ n1 + n2 := by
  match k with
  | 0 => simp [nk]
  | 1 => simp [nk]
  | k + 2 => simp [nk]
theorem sl_shape {w : World} {v : Value} {n k : Nat} {xs : List Value} (h : Sl w v n k xs) : ∃ a c, v = .slice a n c := by
  obtain ⟨_, ⟨rfl, hn⟩ | ⟨b, o, cap, rfl, _⟩⟩ := h
  · exact ⟨_, _, by rw [hn]⟩
  · exact ⟨_, _, rfl⟩
theorem sl_k {w : World} {v1 v2 : Value} {n1 n2 : Nat} {x1 x2 : List Value} (h1 : Sl w v1 n1 3 x1) (h2 : Sl w v2 n2 3 x2) (k : Nat) : Sl w (vk v1 v2 k) (ck n1 n2 k) 3 (yk x1 x2 k) := by
  cases k with
  | zero => exact h1
  | succ k => exact h2
theorem one_k {x1 x2 : List Value} (h1 : ∀ u ∈ x1, u.oneCell' = true) (h2 : ∀ u ∈ x2, u.oneCell' = true) (k : Nat) : ∀ u ∈ yk x1 x2 k, u.oneCell' = true := by
  cases k with
  | zero => exact h1
  | succ k => exact h2
set_option maxHeartbeats 4000000 in
set_option maxRecDepth 100000 in
theorem concat_calls (vb : Nat) (v1 v2 : Value) (n1 n2 : Nat) (x1 x2 : List Value) (W : World) (hc : Bx W vb #[v1, v2]) (s1 : Sl W v1 n1 3 x1) (s2 : Sl W v2 n2 3 x2) (o1 : ∀ u ∈ x1, u.oneCell' = true) (o2 : ∀ u ∈ x2, u.oneCell' = true)
    (hbig : (n1 + n2) * 24 ≤ 140737488355328) :
    Calls Tryz.prog 105 #[.slice (some ⟨vb, 0, none⟩) 2 2] W fun e w' => ∃ v', e = .returned v' ∧ w'.ownsRow W.heap.size 62 3 v' (n1 + n2) (x1 ++ x2) ∧ Below W.heap.size W w' := by
  obtain ⟨i0, hi0, hz0, hz1, hz2⟩ := info_parts CloneSpace.info
  have hcell : ∀ k, k < 2 → W.cell? ⟨vb, k, none⟩ = some (vk v1 v2 k) := fun k hk => by
    match k, hk with
    | 0, _ => exact hc.cell 0
    | 1, _ => exact hc.cell 1
  have hsk := fun k => sl_k s1 s2 k
  have hok := fun k => one_k o1 o2 k
  go_enter Tryz.func105, Tryz.ntmps105
  go_wp2
  go_loopw [3, 11] (fun s i wr => ∃ k : Nat, k ≤ 2 ∧ i = .int .i64 k ∧ s = .int .i64 (nk n1 n2 k) ∧ Below W.heap.size W wr) (fun _ i _ => 2 - (intOf i).toNat)
  case atStart => exact ⟨0, by omega, rfl, rfl, Below.refl _ _⟩
  case round =>
    obtain ⟨k, hk, rfl, rfl, br⟩ := hrel
    by_cases hk2 : k < 2
    · have r0 : wr.cell? ⟨vb, k, none⟩ = some (vk v1 v2 k) := (br.cell (p := ⟨vb, k, none⟩) hc.lt).trans (hcell k hk2)
      obtain ⟨a, c, hv⟩ := sl_shape (hsk k)
      rw [hv] at r0
      have hs := nk_succ n1 n2 k hk2
      have hl := nk_le n1 n2 (k + 1)
      have hw : IntKind.i64.wrap (((nk n1 n2 k : Nat) : Int) + ((ck n1 n2 k : Nat) : Int)) = ((nk n1 n2 (k + 1) : Nat) : Int) := by rw [IntKind.wrap_i64]; omega
      have HS := Lib.hid hs
      clear hs
      go_wp2
      exact ⟨⟨k + 1, by omega, by go_num, rfl, br⟩, by simp [intOf]; omega⟩
    · obtain rfl : k = 2 := by omega
      have hn2 : nk n1 n2 2 = n1 + n2 := rfl
      go_wp2_with fail
      refine (GrowSpace.grow_calls (n1 + n2) wr hbig).mono ?_
      rintro e w2 ⟨v0, rfl, O2, b2⟩
      have B2 := zaw br b2
      have O2' : w2.ownsRow W.heap.size 62 3 v0 0 [] := by
        obtain ⟨p1, p2⟩ := O2
        refine ⟨p1, ?_⟩
        rcases p2 with p2 | ⟨g, cap, cur, hv, hg, r⟩
        · exact .inl p2
        · exact .inr ⟨g, cap, cur, hv, Nat.le_trans br.size hg, r⟩
      clear O2 b2 br
      go_wp2
      go_loopw [6, 27] (fun v i wr => ∃ k : Nat, k ≤ 2 ∧ i = .int .i64 k ∧ wr.ownsRow W.heap.size 62 3 v (nk n1 n2 k) (xk x1 x2 k) ∧ Below W.heap.size W wr) (fun _ i _ => 2 - (intOf i).toNat)
      case atStart => exact ⟨0, by omega, rfl, O2', B2⟩
      case round =>
        obtain ⟨k, hk, rfl, O, br⟩ := hrel
        by_cases hk2 : k < 2
        · have r0 : wr.cell? ⟨vb, k, none⟩ = some (vk v1 v2 k) := (br.cell (p := ⟨vb, k, none⟩) hc.lt).trans (hcell k hk2)
          have hs := nk_succ n1 n2 k hk2
          have hx := xk_succ x1 x2 k hk2
          have hl := nk_le n1 n2 (k + 1)
          have hsl := (hsk k).below br
          have ho := hok k
          obtain ⟨hyl, hsl⟩ := hsl
          have fin : ∀ v' w', w'.ownsRow W.heap.size 62 3 v' (nk n1 n2 k + ck n1 n2 k) (xk x1 x2 k ++ yk x1 x2 k) → Below W.heap.size W w' → w'.ownsRow W.heap.size 62 3 v' (nk n1 n2 (k + 1)) (xk x1 x2 (k + 1)) := fun v' w' h _ => by rw [hs, hx]; exact h
          have FIN := Lib.hid fin
          have HS := Lib.hid hs
          clear fin hs hx
          rcases hsl with ⟨hv, hn⟩ | ⟨b, o, cap, hv, hb, hcap, hmax, hce⟩
          · rw [hv] at r0
            have hy0 : yk x1 x2 k = [] := List.eq_nil_of_length_eq_zero (by rw [hyl, hn, Nat.zero_mul])
            go_wp2_with (at_builtin; refine wpList_append_own_none rfl _ _ 42 rfl W.heap.size 62 i0 3 Tryz.underlying42 hi0 _ _ _ rfl O rfl ?_)
            refine ⟨⟨k + 1, by omega, by go_num, ?_, br⟩, by simp [intOf]; omega⟩
            refine FIN.out _ _ ?_ br
            rw [hy0, hn, List.append_nil, Nat.add_zero]
            exact O
          · rw [hv] at r0
            have hsz := br.size
            have HC := Lib.hid hce
            have HY := Lib.hid hyl
            clear hce hyl
            unfold maxLen at hmax
            go_wp2_with (at_builtin; refine wpList_append_own _ rfl _ _ 42 rfl W.heap.size 62 i0 (.agg #[.int .u64 0, .int .u64 0, .bool false]) 3 24 Tryz.underlying42 hi0 hz0 hz1 hz2 rfl (by decide) _ _ _ rfl O ⟨b, o, none⟩ (ck n1 n2 k) cap (yk x1 x2 k) rfl ?qc1 ?qc2 ?qc3 ?qc4 ?qc5 ?qc6 ?_)
            case qc1 => exact HY.out
            case qc2 =>
              intro j u hj
              have hjn : j < ck n1 n2 k * 3 := by
                have := (List.getElem?_eq_some_iff.1 hj).1
                have := HY.out
                omega
              rw [Addr.add_lit]
              rw [HC.out j hjn]; exact hj
            case qc3 => exact ho
            case qc4 => have := HS.out; unfold maxLen; omega
            case qc5 => have := HS.out; omega
            case qc6 => exact hsz
            intro v' w1 hown hgrow hnil
            go_wp2
            have br' : Below W.heap.size W w1 := br.grown hgrow hsz (fun g hg => (O.lt g hg).1)
            exact ⟨⟨k + 1, by omega, by go_num, FIN.out _ _ hown br', br'⟩, by simp [intOf]; omega⟩
        · obtain rfl : k = 2 := by omega
          go_wp2
          go_ret
          exact ⟨_, rfl, O, br⟩
end Go.Proofs.YtomeaibdedaldaaGreatDoor.ConcatSpace
namespace Go.Proofs.YtomeaibdedaldaaGreatDoor.OkS
open Go.RowKit Bv VaSpec Base MemL RegR Ax MemC PutC MemC3 TzC
open BitsC PteSpec
def tb : Tb := ⟨fun t => Ax.look false [(7, true), (8, true), (13, true), (14, true), (18, true), (19, true), (22, true), (23, true), (29, true), (30, true), (32, true), (33, true), (34, true), (35, true), (36, true), (37, true), (38, true), (39, true), (40, true), (41, true), (44, true), (45, true), (48, true), (49, true), (50, true), (51, true), (59, true), (60, true), (61, true), (62, true), (64, true), (65, true), (66, true), (67, true), (68, true), (69, true), (78, true), (79, true), (85, true), (86, true), (96, true), (97, true), (113, true), (114, true), (121, true), (122, true), (140, true), (141, true), (152, true), (153, true), (154, true), (159, true), (160, true), (201, true), (203, true), (204, true), (214, true), (215, true), (240, true), (242, true), (263, true), (267, true), (268, true), (269, true), (270, true), (271, true), (280, true), (281, true)] t, fun t => Ax.look 1 [(7, 4), (8, 4), (13, 2), (14, 2), (22, 4), (23, 4), (29, 2), (30, 2), (34, 3), (35, 3), (36, 8), (37, 8), (38, 3), (39, 3), (40, 3), (41, 3), (44, 24), (45, 24), (48, 4), (49, 4), (50, 8), (51, 8), (59, 8), (60, 8), (61, 3), (62, 3), (64, 11), (65, 11), (66, 13), (67, 13), (68, 3), (69, 3), (78, 9), (79, 9), (85, 11), (86, 11), (96, 9), (97, 9), (113, 13), (114, 13), (140, 4), (141, 4), (152, 44), (153, 45), (154, 45), (159, 6), (160, 6), (201, 3), (203, 2), (204, 2), (214, 6), (215, 6), (240, 64), (242, 64), (263, 4), (267, 4), (268, 4), (269, 0), (270, 0), (271, 0), (280, 11), (281, 11)] t, fun t f => (Ax.look [] [(7, [0, 1, 2, 3]), (8, [0, 1, 2, 3]), (13, [0, 1]), (14, [0, 1]), (18, [0]), (19, [0]), (22, [0, 1, 2, 3]), (23, [0, 1, 2, 3]), (29, [0, 1]), (30, [0, 1]), (32, [0]), (33, [0]), (34, [0, 1, 2]), (35, [0, 1, 2]), (36, [0, 1, 4, 5, 6, 7]), (37, [0, 1, 4, 5, 6, 7]), (38, [0, 1, 2]), (39, [0, 1, 2]), (40, [0, 1, 2]), (41, [0, 1, 2]), (44, [0, 4, 6, 14, 17, 20, 21, 22, 23]), (45, [0, 4, 6, 14, 17, 20, 21, 22, 23]), (48, [0, 1, 2, 3]), (49, [0, 1, 2, 3]), (50, [0, 1, 2, 3, 4]), (51, [0, 1, 2, 3, 4]), (59, [0, 1, 2, 3, 7]), (60, [0, 1, 2, 3, 7]), (61, [0, 1, 2]), (62, [0, 1, 2]), (64, [0, 1, 2, 3, 4, 5, 6, 7, 8, 9, 10]), (65, [0, 1, 2, 3, 4, 5, 6, 7, 8, 9, 10]), (66, [0, 1, 2]), (67, [0, 1, 2]), (68, [0, 1, 2]), (69, [0, 1, 2]), (78, [0, 1, 2, 3, 4, 5]), (79, [0, 1, 2, 3, 4, 5]), (85, [0, 1, 2, 3, 4, 5, 6, 10]), (86, [0, 1, 2, 3, 4, 5, 6, 10]), (96, [0, 1, 2, 3, 4, 5]), (97, [0, 1, 2, 3, 4, 5]), (113, [0, 1, 2]), (114, [0, 1, 2]), (121, [0]), (122, [0]), (140, [0, 1, 2, 3]), (141, [0, 1, 2, 3]), (153, [0, 44]), (154, [0, 44]), (159, [0, 2]), (160, [0, 2]), (203, [0, 1]), (204, [0, 1]), (214, [0, 2, 5]), (215, [0, 2, 5]), (263, [0, 1, 2, 3]), (267, [0, 1, 2, 3]), (268, [0, 1, 2, 3]), (270, [0]), (271, [0]), (280, [0, 1, 2, 3, 4, 5, 6, 7, 8, 9, 10]), (281, [0, 1, 2, 3, 4, 5, 6, 7, 8, 9, 10])] t).getD f 0⟩
def z2n (i : Nat) : Value := if i = 0 then .func (.func 223) #[] #[] else .func (.func 225) #[] #[]
def z5c (w : World) : Prop := ∃ b o c, w.cell? ⟨2, 0, none⟩ = some (.slice (some ⟨b, o, none⟩) 2 c) ∧ w.cell? ⟨b, o, none⟩ = some (z2n 0) ∧ w.cell? ⟨b, o + 1, none⟩ = some (z2n 1)
theorem zr9 {w w' : World} (h : z5c w) (hb : Below w.heap.size w w') : z5c w' := by
  obtain ⟨b, o, c, h1, h2, h3⟩ := h
  exact ⟨b, o, c, (hb.cell (p := ⟨2, 0, none⟩) (block_lt_of_cell h1)).trans h1, (hb.cell (p := ⟨b, o, none⟩) (block_lt_of_cell h2)).trans h2, (hb.cell (p := ⟨b, o + 1, none⟩) (block_lt_of_cell h3)).trans h3⟩
structure GG (w : World) : Prop where
  s : G w
  t : zys w
  k : z5c w
theorem zsa {w w' : World} (h : zys w) (b : Below w.heap.size w w') : zys w' := fun j hj => (b.cell (p := ⟨1, j, none⟩) (block_lt_of_cell (h j hj))).trans (h j hj)
theorem GG.to (w w' : World) (h : GG w) (b : Below w.heap.size w w') : GG w' := ⟨h.s.to b, zsa h.t b, zr9 h.k b⟩
abbrev Ok (k : FuncId) (args : List Cm) (r : AV) : Prop := zbn Tryz.prog GG k args r
abbrev iu (n : Int) : Cm := .c (.v (.int .u64 n))
abbrev ii (n : Int) : Cm := .c (.v (.int .i64 n))
abbrev ib (b : Bool) : Cm := .c (.v (.bool b))
abbrev cu (n : Int) : Ce := .v (.int .u64 n)
abbrev ci (n : Int) : Ce := .v (.int .i64 n)
abbrev cb (b : Bool) : Ce := .v (.bool b)
def _root_.Go.Proofs.YtomeaibdedaldaaGreatDoor.PteSpec.Pte.ce (p : Pte) : List Ce := [cb p.v, cb p.r, cb p.w, cb p.x, cb p.u, cb p.g, cb p.a, cb p.d, cu p.rsw, cu p.ppn, cu p.high]
theorem z29 (a lo n : Int) (ha : U a) (l0 : 0 ≤ lo) (l1 : lo ≤ 64) (h0 : 0 ≤ n) (h : n ≤ 64) : Ok 158 [iu a, ii lo, ii n] (.m (iu (zdo a lo n))) :=
  za9 #[.int .u64 a, .int .i64 lo, .int .i64 n] (.int .u64 (zdo a lo n)) fun W _ => (zcv a lo n W ha l0 l1 h0 h).mono fun _ _ ⟨e, q⟩ => ⟨e, q.below⟩
theorem zyt (a lo n v : Int) (ha : U a) (hv : U v) (l0 : 0 ≤ lo) (l1 : lo ≤ 64) (h0 : 0 ≤ n) (h : n ≤ 64) : Ok 111 [iu a, ii lo, ii n, iu v] (.m (iu (zbw a lo n v))) :=
  za9 #[.int .u64 a, .int .i64 lo, .int .i64 n, .int .u64 v] (.int .u64 (zbw a lo n v)) fun W _ => (zec a lo n v W ha hv l0 l1 h0 h).mono fun _ _ ⟨e, q⟩ => ⟨e, q.below⟩
theorem z0c (a b : Int) (ha : U a) (hb : U b) : Ok 56 [iu a, iu b] (.m (ib (zem a b))) :=
  za9 #[.int .u64 a, .int .u64 b] (.bool (zem a b)) fun W _ => (zed a b W ha hb).mono fun _ _ ⟨e, q⟩ => ⟨e, q.below⟩
theorem zki (a l : Int) (ha : U a) (h0 : 0 ≤ l) (h2 : l ≤ 2) : Ok 120 [iu a, ii l] (.m (ii (idx a l))) :=
  za9 #[.int .u64 a, .int .i64 l] (.int .i64 (idx a l)) fun W _ => (VaC.zt5 a l W ha.1 ha.2 h0 h2).mono fun _ _ ⟨e, q⟩ => ⟨e, q.below⟩
theorem z0d (n : Int) (ha : U n) : Ok 47 [iu n] (.m (iu (ofv n))) :=
  za9 #[.int .u64 n] (.int .u64 (ofv n)) fun W _ => (VaC.of_calls n W ha.1 ha.2).mono fun _ _ ⟨e, q⟩ => ⟨e, q.below⟩
theorem zw2 (a l : Int) (ha : U a) (h0 : 0 ≤ l) (h2 : l ≤ 2) : Ok 123 [iu a, ii l] (.m (ib (zhw a l))) :=
  za9 #[.int .u64 a, .int .i64 l] (.bool (zhw a l)) fun W g => (VaC.fits_calls a l W ha.1 ha.2 h0 h2 g.s).mono fun _ _ ⟨e, q⟩ => ⟨e, q.below⟩
theorem zyu (a : Int) (ha : U a) : Ok 173 [iu a] (.m (ib (isv a))) :=
  za9 #[.int .u64 a] (.bool (isv a)) fun W g => (VaC.is_calls a W ha.1 ha.2).mono fun _ _ ⟨e, q⟩ => ⟨e, q.below⟩
theorem z0e (a : Int) (ha : U a) : Ok 115 [iu a] (.m (iu (num a))) :=
  za9 #[.int .u64 a] (.int .u64 (num a)) fun W g => (VaC.zt6 a W ha.1 ha.2).mono fun _ _ ⟨e, q⟩ => ⟨e, q.below⟩
theorem zqk (f i : Int) (hf : 0 ≤ f ∧ f < 1099511627776) (hi : 0 ≤ i ∧ i < 512) : Ok 119 [iu f, ii i] (.m (iu (f * 4096 + i * 8))) :=
  za9 #[.int .u64 f, .int .i64 i] (.int .u64 (f * 4096 + i * 8)) fun W _ => (TableC.zpb f i W hf hi).mono fun _ _ ⟨e, q⟩ => ⟨e, q.below⟩
theorem zue (p : Pte) (h : p.U) : Ok 117 [.ag p.ce] (.tu [iu (PteC.ze7 p), ii (PteC.zi9 p)]) :=
  za9 #[.agg #[.bool p.v, .bool p.r, .bool p.w, .bool p.x, .bool p.u, .bool p.g, .bool p.a, .bool p.d, .int .u64 p.rsw, .int .u64 p.ppn, .int .u64 p.high]] (.tuple #[.int .u64 (PteC.ze7 p), .int .i64 (PteC.zi9 p)])
    fun W _ => PteC.put_calls p.v p.r p.w p.x p.u p.g p.a p.d p.rsw p.ppn p.high W h.1 h.2.1 h.2.2
theorem zql (p : Pte) : Ok 76 [.ag p.ce] (.m (ib (zbk p))) :=
  za9 #[.agg #[.bool p.v, .bool p.r, .bool p.w, .bool p.x, .bool p.u, .bool p.g, .bool p.a, .bool p.d, .int .u64 p.rsw, .int .u64 p.ppn, .int .u64 p.high]] (.bool (zbk p))
    fun W _ => PteC.zkg p.v p.r p.w p.x p.u p.g p.a p.d p.rsw p.ppn p.high W
theorem zli (p : Pte) (h : p.U) (l : Int) (l0 : 0 ≤ l) (l2 : l ≤ 2) : Ok 113 [.ag p.ce, ii l] (.m (ib (zc3 p l))) :=
  za9 #[.agg #[.bool p.v, .bool p.r, .bool p.w, .bool p.x, .bool p.u, .bool p.g, .bool p.a, .bool p.d, .int .u64 p.rsw, .int .u64 p.ppn, .int .u64 p.high], .int .i64 l] (.bool (zc3 p l))
    fun W g => PteC.zua p.v p.r p.w p.x p.u p.g p.a p.d p.rsw p.ppn p.high l W h.1 h.2.1 h.2.2 l0 l2 g.s
theorem z0f (x : Int) (hx : U x) : Ok 168 [iu x] (.m (.ag (zay x).ce)) :=
  za9 #[.int .u64 x] (.agg #[.bool (zay x).v, .bool (zay x).r, .bool (zay x).w, .bool (zay x).x, .bool (zay x).u, .bool (zay x).g, .bool (zay x).a, .bool (zay x).d, .int .u64 (zay x).rsw, .int .u64 (zay x).ppn, .int .u64 (zay x).high])
    fun W g => PteC.zkh x W hx
theorem zuf (sz : Int) (hz : U sz) : Ok 95 [iu sz] (avV (MemNewC.newV sz)) :=
  za9 #[.int .u64 sz] (MemNewC.newV sz) fun W g => MemNewC.new_calls sz W hz
theorem zsb (b m : Int) (hb : U b) (hm : 0 ≤ m ∧ m ≤ 64) : Ok 96 [iu b, ii m] (avV (PoolC2.newV b m)) :=
  za9 #[.int .u64 b, .int .i64 m] (PoolC2.newV b m) fun W g => PoolC2.new_calls b m W hb hm
theorem zsc (m : Int) : Ok 97 [ii m] (avV (AsidC2.newV m)) :=
  za9 #[.int .i64 m] (AsidC2.newV m) fun W g => AsidC2.new_calls m W
theorem z5d (x : Int) (hx : U x) : Ok 162 [iu x] (.m (ii (tzI x))) :=
  za9 #[.int .u64 x] (.int .i64 (tzI x)) fun W g => (zqj x W hx (fun _ => g.t)).mono fun _ _ ⟨e, q⟩ => ⟨e, q.below⟩
theorem zhh {E : En} {sz : Int} {n k : Nat} {xs : List Value} {v : Value} (h : Cm.R E (.ag [cu sz, .s n k xs]) v) : ∃ u, v = .agg #[.int .u64 sz, u] ∧ Ce.R E (.s n k xs) u := by
  obtain ⟨vs, rfl, h⟩ := h
  obtain ⟨l⟩ := vs
  match l, h with
  | [a, b], h => exact ⟨b, by rw [show a = .int .u64 sz from h.1], h.2.1⟩
  | [], h => exact h.elim
  | [_], h => exact h.2.elim
  | _ :: _ :: _ :: _, h => exact h.2.2.elim
theorem z5e {E : En} {m : Cm} {vs : Array Value} (h : All2 (Cm.R E) [m] vs.toList) : ∃ v, vs = #[v] ∧ m.R E v := by
  obtain ⟨l⟩ := vs
  match l, h with
  | [a], h => exact ⟨a, rfl, h.1⟩
  | [], h => exact h.elim
  | _ :: _ :: _, h => exact h.2.elim
theorem zw3 {E : En} {m n : Cm} {vs : Array Value} (h : All2 (Cm.R E) [m, n] vs.toList) : ∃ v u, vs = #[v, u] ∧ m.R E v ∧ n.R E u := by
  obtain ⟨l⟩ := vs
  match l, h with
  | [a, b], h => exact ⟨a, b, rfl, h.1, h.2.1⟩
  | [], h => exact h.elim
  | [_], h => exact h.2.elim
  | _ :: _ :: _ :: _, h => exact h.2.2.elim
theorem z3a {E : En} {m n o p : Cm} {vs : Array Value} (h : All2 (Cm.R E) [m, n, o, p] vs.toList) : ∃ v u x y, vs = #[v, u, x, y] ∧ m.R E v ∧ n.R E u ∧ o.R E x ∧ p.R E y := by
  obtain ⟨l⟩ := vs
  match l, h with
  | [a, b, c, d], h => exact ⟨a, b, c, d, rfl, h.1, h.2.1, h.2.2.1, h.2.2.2.1⟩
  | [], h => exact h.elim
  | [_], h => exact h.2.elim
  | [_, _], h => exact h.2.2.elim
  | [_, _, _], h => exact h.2.2.2.elim
  | _ :: _ :: _ :: _ :: _ :: _, h => exact h.2.2.2.2.elim
abbrev zb2 (sz : Int) (xs : List (Int × Int)) : Cm := .ag [cu sz, .s xs.length 2 (fl xs)]
theorem z0g (sz : Int) (xs : List (Int × Int)) (a : Int) (ha : U a) (hs : Srt xs) : Ok 167 [zb2 sz xs, iu a] (.m (iu (zbj sz xs a))) :=
  zcs rfl fun A W vs hG hR => by
    obtain ⟨v1, v2, rfl, h1, h2⟩ := zw3 hR
    obtain ⟨u, rfl, hu⟩ := zhh h1
    obtain rfl : v2 = .int .u64 a := h2
    exact (zhf sz u xs a W ha hs hu.1).mono fun e w' ⟨he, hb⟩ => ⟨_, he, hb, rfl⟩
theorem zh9 {E : En} {sz : Int} {c : Ce} {u : Value} (h : c.R E u) : Cm.R E (.ag [cu sz, c]) (.agg #[.int .u64 sz, u]) := ⟨_, rfl, rfl, h, trivial⟩
theorem zw4 (sz : Int) (xs : List (Int × Int)) (a n x : Int) (ha : U a) (hx : U x) (hs : Srt xs) (hu : Uw xs) (hbig : (xs.length + 1) * 16 ≤ 140737488355328) (hw : zdh sz a n = 0) : Ok 118 [zb2 sz xs, iu a, ii n, iu x] (.tu [zb2 sz (zdp sz xs a n x), ii 0]) :=
  zcs rfl fun A W vs hG hR => by
    obtain ⟨v1, v2, v3, v4, rfl, h1, h2, h3, h4⟩ := z3a hR
    obtain ⟨u, rfl, hu'⟩ := zhh h1
    obtain rfl : v2 = .int .u64 a := h2
    obtain rfl : v3 = .int .i64 n := h3
    obtain rfl : v4 = .int .u64 x := h4
    refine (zi8 sz u xs a n x W ha hx hs hu hbig hu'.1).mono ?_
    rintro e w' ⟨v', rfl, h5, hb⟩
    rw [if_pos hw] at h5
    rw [hw]
    exact ⟨_, rfl, hb, _, rfl, zh9 (zzy h5), rfl, trivial⟩
theorem zw5 (sz : Int) (xs : List (Int × Int)) (a n x : Int) (ha : U a) (hx : U x) (hs : Srt xs) (hu : Uw xs) (hbig : (xs.length + 1) * 16 ≤ 140737488355328) (hw : zdh sz a n ≠ 0) : Ok 118 [zb2 sz xs, iu a, ii n, iu x] (.tu [zb2 sz xs, ii (zdh sz a n)]) :=
  zcs rfl fun A W vs hG hR => by
    obtain ⟨v1, v2, v3, v4, rfl, h1, h2, h3, h4⟩ := z3a hR
    obtain ⟨u, rfl, hu'⟩ := zhh h1
    obtain rfl : v2 = .int .u64 a := h2
    obtain rfl : v3 = .int .i64 n := h3
    obtain rfl : v4 = .int .u64 x := h4
    refine (zi8 sz u xs a n x W ha hx hs hu hbig hu'.1).mono ?_
    rintro e w' ⟨v', rfl, h5, hb⟩
    rw [if_neg hw] at h5
    subst h5
    exact ⟨_, rfl, hb, _, rfl, zh9 (z2z hu' hb), rfl, trivial⟩
theorem zia (sz : Int) (xs : List (Int × Int)) (base many free : Int) (hb : 0 ≤ base ∧ base ≤ 268435456) (hm : 0 ≤ many ∧ many ≤ 64) (hr : U free) (hfr : free ≠ 0) (hs : Srt xs) (hbig : (xs.length + 1) * 32 ≤ 140737488355328) :
    Ok 99 [zb2 sz xs, .ag [cu base, ci many, cu free]] (.tu [zb2 sz (TableC.zbc xs (base + tzI free)), .ag [cu base, ci many, cu (zbw free (tzI free) 1 0)], iu (base + tzI free), ii 0]) :=
  zcs rfl fun A W vs hG hR => by
    obtain ⟨v1, v2, rfl, h1, h2⟩ := zw3 hR
    obtain ⟨u, rfl, hu'⟩ := zhh h1
    obtain rfl := zqg (xs := [.int .u64 base, .int .i64 many, .int .u64 free]) h2
    refine (TableC3.zpd sz u xs base many free W hb hm hr hfr hG.t hs hbig hu'.1).mono ?_
    rintro e w' ⟨v', rfl, h5, hb'⟩
    exact ⟨_, rfl, hb', _, rfl, zh9 (zzy h5), ⟨_, rfl, rfl, rfl, rfl, trivial⟩, rfl, rfl, trivial⟩
theorem zug (n : Nat) (hn : n ≤ 16) (z : Value) (hz : (Tryz.prog.info? 154).bind (·.zero) = some z) : Ok 98 [ii n] (.tu [.ag [.s n 45 (madeCells z.cells (n * 45)).toList], ii 0]) :=
  zcs rfl fun A W vs hG hR => by
    obtain ⟨v1, rfl, h1⟩ := z5e hR
    obtain rfl : v1 = .int .i64 n := h1
    refine (TlbNewC.new_calls n W hn z hz).mono ?_
    rintro e w' ⟨a, c, rfl, h5, hb'⟩
    exact ⟨_, rfl, hb', _, rfl, ⟨_, rfl, zzy h5, trivial⟩, rfl, trivial⟩
end Go.Proofs.YtomeaibdedaldaaGreatDoor.OkS
namespace Go.Proofs.YtomeaibdedaldaaGreatDoor.SpA
open Go.RowKit Bv VaSpec Base MemL RegR Ax MemC PutC MemC3 TzC OkS
open BitsC PteSpec
set_option maxRecDepth 10000
theorem zw6 (n : Int) : Ok 106 [iu n] (.m (.ag [cb false, cu 0, cb true, cu n])) := by
  refine zah 5 Tryz.func106 rfl rfl rfl rfl ?_ GG.to
  intro W A hG
  repeat (first | (refine zaj rfl ?_; first | refine zak ?_) | (refine hK _ ?_; clear hK K) | refine zac rfl ?_ | exact zaf (show zav _ _ _ = some _ by kernel_rfl) | refine zab (fun K hK => ?_))
def zdl (n a b : Int) : Bool := decide (a ≤ n) && decide (n ≤ b)
theorem zne (n a b : Int) : Ok 121 [ii n, ii a, ii b] (.m (ib (zdl n a b))) := by
  by_cases h1 : a ≤ n
  · by_cases h2 : n ≤ b
    · rw [show zdl n a b = true by simp [zdl, h1, h2]]
      refine zah 15 Tryz.func121 rfl rfl rfl rfl ?_ GG.to
      intro W A hG
      repeat (first | (refine zaj rfl ?_; first | refine zak ?_) | (refine hK _ ?_; clear hK K) | refine zac rfl ?_ | exact zaf (show zav _ _ _ = some _ by kernel_rfl) | refine zab (fun K hK => ?_))
    · rw [show zdl n a b = false by simp [zdl, h2]]
      refine zah 15 Tryz.func121 rfl rfl rfl rfl ?_ GG.to
      intro W A hG
      repeat (first | (refine zaj rfl ?_; first | refine zak ?_) | (refine hK _ ?_; clear hK K) | refine zac rfl ?_ | exact zaf (show zav _ _ _ = some _ by kernel_rfl) | refine zab (fun K hK => ?_))
  · rw [show zdl n a b = false by simp [zdl, h1]]
    refine zah 15 Tryz.func121 rfl rfl rfl rfl ?_ GG.to
    intro W A hG
    repeat (first | (refine zaj rfl ?_; first | refine zak ?_) | (refine hK _ ?_; clear hK K) | refine zac rfl ?_ | exact zaf (show zav _ _ _ = some _ by kernel_rfl) | refine zab (fun K hK => ?_))
theorem zw7 : Ok 104 [] (.m (iu (ofv 133955584))) := by
  refine zah 2 Tryz.func104 rfl rfl rfl rfl ?_ GG.to
  intro W A hG
  repeat (first | (refine zaj rfl ?_; first | refine zak ?_ | refine gdr (zaa rfl rfl rfl (z0d _ ⟨by omega, by omega⟩) rfl) ?_) | (refine hK _ ?_; clear hK K) | refine zac rfl ?_ | exact zaf (show zav _ _ _ = some _ by kernel_rfl) | refine zab (fun K hK => ?_))
def za0 (p : Pte) (l : Int) : Bool := zbk p && !zc3 p l
theorem zqm (p : Pte) (h : p.U) (l : Int) (l0 : 0 ≤ l) (l2 : l ≤ 2) : Ok 125 [.ag p.ce, ii l] (.m (ib (za0 p l))) := by
  cases hl : zbk p with
  | false =>
    rw [show za0 p l = false by simp [za0, hl]]
    refine zah 13 Tryz.func125 rfl rfl rfl rfl ?_ GG.to
    intro W A hG
    repeat (first | (refine zaj rfl ?_; first | refine zak ?_ | refine gdr (zaa rfl rfl rfl (hl ▸ zql p) rfl) ?_) | (refine hK _ ?_; clear hK K) | refine zac rfl ?_ | exact zaf (show zav _ _ _ = some _ by kernel_rfl) | refine zab (fun K hK => ?_))
  | true =>
    rw [show za0 p l = !zc3 p l by simp [za0, hl]]
    refine zah 13 Tryz.func125 rfl rfl rfl rfl ?_ GG.to
    intro W A hG
    repeat (first | (refine zaj rfl ?_; first | refine zak ?_ | refine gdr (zaa rfl rfl rfl (hl ▸ zql p) rfl) ?_ | refine gdr (zaa rfl rfl rfl (zli p h l l0 l2) rfl) ?_) | (refine hK _ ?_; clear hK K) | refine zac rfl ?_ | exact zaf (show zav _ _ _ = some _ by kernel_rfl) | refine zab (fun K hK => ?_))
end Go.Proofs.YtomeaibdedaldaaGreatDoor.SpA
namespace Go.Proofs.YtomeaibdedaldaaGreatDoor.SpB
open Go.RowKit Bv VaSpec Base MemL RegR Ax MemC PutC MemC3 TzC OkS SpA
open BitsC PteSpec
set_option maxRecDepth 10000
set_option maxHeartbeats 1000000
structure Sp where
  root : Int
  asid : Int
  live : Bool
deriving DecidableEq
structure Fe where
  ha : Bool
  ad : Int
  hs : Bool
  sn : Int
deriving DecidableEq
def Sp.vs (s : Sp) : List Value := [.int .u64 s.root, .int .u64 s.asid, .bool s.live]
def Fe.vs (f : Fe) : List Value := [.bool f.ha, .int .u64 f.ad, .bool f.hs, .int .u64 f.sn]
def flS (l : List Sp) : List Value := l.flatMap Sp.vs
def flF (l : List Fe) : List Value := l.flatMap Fe.vs
structure Kr where
  cd : Int
  cp : Int
  ca : Int
  cs : Int
  sz : Int
  m : List (Int × Int)
  tn : Nat
  ts : List Value
  sm : Int
  sa : Int
  sp : Int
  priv : Int
  su : Bool
  mx : Bool
  vic : Int
  pb : Int
  pm : Int
  pf : Int
  am : Int
  af : Int
  ao : Int
  ss : List Sp
  now : Int
  sh : Int
  fs : List Fe
def Kr.ce (k : Kr) : List Ce := [ci k.cd, ci k.cp, ci k.ca, ci k.cs, cu k.sz, .s k.m.length 2 (fl k.m), .s k.tn 45 k.ts, cu k.sm, cu k.sa, cu k.sp, ci k.priv, cb k.su, cb k.mx, ci k.vic, cu k.pb, ci k.pm, cu k.pf, ci k.am, cu k.af, cu k.ao, .s k.ss.length 3 (flS k.ss), ci k.now, cu k.sh, .s k.fs.length 4 (flF k.fs)]
theorem zd7 {α : Type} (f : α → List Value) (k : Nat) (hk : ∀ a, (f a).length = k) : ∀ (l : List α) (i : Nat) (a : α), l[i]? = some a → ((l.flatMap f).drop (i * k)).take k = f a
  | [], i, a, h => by simp at h
  | x :: l, 0, a, h => by
    simp at h; subst h
    simp only [Nat.zero_mul, List.drop_zero, List.flatMap_cons]
    rw [← hk x]; simp
  | x :: l, i + 1, a, h => by
    have e : (i + 1) * k = (f x).length + i * k := by rw [hk, Nat.succ_mul]; omega
    rw [List.flatMap_cons, e, ← List.drop_drop]
    simp only [List.drop_left]
    exact zd7 f k hk l i a (by simpa using h)
theorem zqn {l : List Sp} {i : Int} {s : Sp} (h : l[i.toNat]? = some s) : ((flS l).drop (i.toNat * 3)).take 3 = [.int .u64 s.root, .int .u64 s.asid, .bool s.live] := zd7 Sp.vs 3 (fun _ => rfl) l _ s h
def za5 (k : Kr) (id : Int) : Bool := decide (0 ≤ id) && (match k.ss[id.toNat]? with | some s => s.live | none => false)
theorem zw8 (k : Kr) (id : Int) : Ok 122 [.ag k.ce, ii id] (.m (ib (za5 k id))) := by
  by_cases h0 : 0 ≤ id
  · by_cases h : id < k.ss.length
    · obtain ⟨s, hs⟩ : ∃ s, k.ss[id.toNat]? = some s := ⟨_, List.getElem?_eq_getElem (by omega)⟩
      have hx := zqn hs
      rw [show za5 k id = s.live by simp [za5, h0, hs]]
      refine zah 22 Tryz.func122 rfl rfl rfl rfl ?_ GG.to
      intro W A hG
      repeat (first | (refine zaj rfl ?_; first | refine zak ?_) | (refine hK _ ?_; clear hK K) | refine zac rfl ?_ | exact zaf (show zav _ _ _ = some _ by kernel_rfl) | refine zab (fun K hK => ?_))
    · rw [show za5 k id = false by simp [za5, List.getElem?_eq_none (show k.ss.length ≤ id.toNat by omega)]]
      refine zah 22 Tryz.func122 rfl rfl rfl rfl ?_ GG.to
      intro W A hG
      repeat (first | (refine zaj rfl ?_; first | refine zak ?_) | (refine hK _ ?_; clear hK K) | refine zac rfl ?_ | exact zaf (show zav _ _ _ = some _ by kernel_rfl) | refine zab (fun K hK => ?_))
  · rw [show za5 k id = false by simp [za5, h0]]
    refine zah 22 Tryz.func122 rfl rfl rfl rfl ?_ GG.to
    intro W A hG
    repeat (first | (refine zaj rfl ?_; first | refine zak ?_) | (refine hK _ ?_; clear hK K) | refine zac rfl ?_ | exact zaf (show zav _ _ _ = some _ by kernel_rfl) | refine zab (fun K hK => ?_))
def swK (k : Kr) (id : Int) (s : Sp) : Kr := { k with now := id, sm := 8, sa := s.asid, sp := s.root }
def offK (k : Kr) : Kr := { k with now := -1, sm := 0, sa := 0, sp := 0 }
def za7 (sz : Int) (xs : List (Int × Int)) (t i : Int) (p : Pte) : List (Int × Int) := if zdh sz (t * 4096 + i * 8) 8 = 0 then zdp sz xs (t * 4096 + i * 8) 8 (PteC.ze7 p) else xs
end Go.Proofs.YtomeaibdedaldaaGreatDoor.SpB
