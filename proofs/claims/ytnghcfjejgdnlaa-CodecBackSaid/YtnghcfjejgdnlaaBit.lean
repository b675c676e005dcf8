/-
  The program logic: shifts, bits, least and greatest. No condition.
-/
import Derived.Test.YtnghcfjejgdnlaaJn
set_option linter.unusedSimpArgs false
set_option linter.unusedVariables false
set_option linter.unusedSectionVars false
namespace Go.Proofs.Ytnghcfjejgdnlaa
open Go.RowKit

def shr6 (x : UInt64) (s : Nat) : UInt64 := UInt64.ofNat (x.toNat / 2 ^ s)
def shl6 (x : UInt64) (s : Nat) : UInt64 := UInt64.ofNat (x.toNat * 2 ^ s)
def or6 (x y : UInt64) : UInt64 := x ||| y
def and6 (x y : UInt64) : UInt64 := x &&& y
def xorB (x y : UInt8) : UInt8 := x ^^^ y
theorem ofInt_toNat (x : UInt64) : BitVec.ofInt 64 (x.toNat : Int) = x.toBitVec := by
  apply BitVec.eq_of_toNat_eq
  rw [BitVec.toNat_ofInt]
  have := x.toNat_lt
  simp
  omega
theorem wrap_small (n : Nat) (h : n < 18446744073709551616) : IntKind.u64.wrap (n : Int) = (n : Int) := by rw [IntKind.wrap_u64]; omega
theorem wrap_small8 (n : Nat) (h : n < 256) : IntKind.u8.wrap (n : Int) = (n : Int) := by rw [IntKind.wrap_u8]; omega
theorem ofInt_toNat8 (x : UInt8) : BitVec.ofInt 8 (x.toNat : Int) = x.toBitVec := by
  apply BitVec.eq_of_toNat_eq
  rw [BitVec.toNat_ofInt]
  have := x.toNat_lt
  simp
  omega
section
variable {P : Program} {k : Nat} {H : AH} {T : AT} {d : Option Tmp} {ty t t' : TypeId} {ps : String} {af : Array Edge} {gd : Option (Nat × Bool)} {x y : Operand}
theorem s_shrU {a : UInt64} {s : Nat} {k1 : IntKind} (hx : ev T x = some (.v (.int .u64 (a.toNat : Int)))) (hy : ev T y = some (.v (.int k1 (s : Int)))) (hs : s ≤ 64) : StepU P ⟨d, .binOp .shr t x y t', ty, ps, af, gd⟩ k [] H T (.v (.int .u64 ((shr6 a s).toNat : Int))) [] :=
  s_bin hx hy fun w => by
    have hn : ¬ ((s : Int) < 0) := by omega
    have hm : min (s : Int).toNat (IntKind.u64.bits) = s := by simp only [IntKind.bits, Int.toNat_natCast]; omega
    have : (a.toNat / 2 ^ s) < 18446744073709551616 := Nat.lt_of_le_of_lt (Nat.div_le_self _ _) a.toNat_lt
    have e : Int.fdiv (a.toNat : Int) (2 ^ s) = ((a.toNat / 2 ^ s : Nat) : Int) := by
      rw [Int.fdiv_eq_ediv_of_nonneg _ (by exact_mod_cast Nat.zero_le (2 ^ s))]; norm_cast
    simp only [guard_int, binOp, Op.shift, Sem.run_bind, Result.andThen_ok, hn, if_false, hm, Sem.run_pure, e, shr6]
    rw [UInt64.toNat_ofNat', Nat.mod_eq_of_lt this]
theorem s_shlU {a : UInt64} {s : Nat} {k1 : IntKind} (hx : ev T x = some (.v (.int .u64 (a.toNat : Int)))) (hy : ev T y = some (.v (.int k1 (s : Int)))) (hs : s ≤ 64) : StepU P ⟨d, .binOp .shl t x y t', ty, ps, af, gd⟩ k [] H T (.v (.int .u64 ((shl6 a s).toNat : Int))) [] :=
  s_bin hx hy fun w => by
    have hn : ¬ ((s : Int) < 0) := by omega
    have hm : min (s : Int).toNat (IntKind.u64.bits) = s := by simp only [IntKind.bits, Int.toNat_natCast]; omega
    have e : ((a.toNat : Int) * 2 ^ s) = ((a.toNat * 2 ^ s : Nat) : Int) := by norm_cast
    simp only [guard_int, binOp, Op.shift, Sem.run_bind, Result.andThen_ok, hn, if_false, hm, Sem.run_pure, e, shl6]
    rw [UInt64.toNat_ofNat', IntKind.wrap_u64]
    generalize a.toNat * 2 ^ s = m
    congr 2
theorem toU64_small (s : Nat) (h : s ≤ 64) : ((toU64 (s : Int)).toNat : Int) = (s : Int) := by
  rw [toU64, UInt64.toNat_ofNat']; omega
theorem s_shrUc {a : UInt64} {s : Nat} {k1 : IntKind} (hx : ev T x = some (.v (.int .u64 (a.toNat : Int)))) (hy : ev T y = some (.v (.int k1 ((toU64 (s : Int)).toNat : Int)))) (hs : s ≤ 64) : StepU P ⟨d, .binOp .shr t x y t', ty, ps, af, gd⟩ k [] H T (.v (.int .u64 ((shr6 a s).toNat : Int))) [] :=
  s_shrU hx (by rw [hy, toU64_small s hs]) hs
theorem s_shlUc {a : UInt64} {s : Nat} {k1 : IntKind} (hx : ev T x = some (.v (.int .u64 (a.toNat : Int)))) (hy : ev T y = some (.v (.int k1 ((toU64 (s : Int)).toNat : Int)))) (hs : s ≤ 64) : StepU P ⟨d, .binOp .shl t x y t', ty, ps, af, gd⟩ k [] H T (.v (.int .u64 ((shl6 a s).toNat : Int))) [] :=
  s_shlU hx (by rw [hy, toU64_small s hs]) hs
theorem s_orU {a b : UInt64} (hx : ev T x = some (.v (.int .u64 (a.toNat : Int)))) (hy : ev T y = some (.v (.int .u64 (b.toNat : Int)))) : StepU P ⟨d, .binOp .or t x y t', ty, ps, af, gd⟩ k [] H T (.v (.int .u64 ((or6 a b).toNat : Int))) [] :=
  s_bin hx hy fun w => by
    have e : (BitVec.ofInt 64 (a.toNat : Int) ||| BitVec.ofInt 64 (b.toNat : Int)).toNat = (or6 a b).toNat := by rw [ofInt_toNat, ofInt_toNat]; rfl
    simp only [guard_int, binOp, Op.intBits, Sem.run_bind, Result.andThen_ok, ne_eq, not_true_eq_false, if_false, Sem.run_pure]
    show Result.ok (Value.int IntKind.u64 (IntKind.u64.wrap ((BitVec.ofInt 64 (a.toNat : Int) ||| BitVec.ofInt 64 (b.toNat : Int)).toNat : Int))) w = _
    rw [e, wrap_small _ (or6 a b).toNat_lt]
theorem s_andU {a b : UInt64} (hx : ev T x = some (.v (.int .u64 (a.toNat : Int)))) (hy : ev T y = some (.v (.int .u64 (b.toNat : Int)))) : StepU P ⟨d, .binOp .and t x y t', ty, ps, af, gd⟩ k [] H T (.v (.int .u64 ((and6 a b).toNat : Int))) [] :=
  s_bin hx hy fun w => by
    have e : (BitVec.ofInt 64 (a.toNat : Int) &&& BitVec.ofInt 64 (b.toNat : Int)).toNat = (and6 a b).toNat := by rw [ofInt_toNat, ofInt_toNat]; rfl
    simp only [guard_int, binOp, Op.intBits, Sem.run_bind, Result.andThen_ok, ne_eq, not_true_eq_false, if_false, Sem.run_pure]
    show Result.ok (Value.int IntKind.u64 (IntKind.u64.wrap ((BitVec.ofInt 64 (a.toNat : Int) &&& BitVec.ofInt 64 (b.toNat : Int)).toNat : Int))) w = _
    rw [e, wrap_small _ (and6 a b).toNat_lt]
theorem s_xorB {a b : UInt8} (hx : ev T x = some (.v (.int .u8 (a.toNat : Int)))) (hy : ev T y = some (.v (.int .u8 (b.toNat : Int)))) : StepU P ⟨d, .binOp .xor t x y t', ty, ps, af, gd⟩ k [] H T (.v (.int .u8 ((xorB a b).toNat : Int))) [] :=
  s_bin hx hy fun w => by
    have e : (BitVec.ofInt 8 (a.toNat : Int) ^^^ BitVec.ofInt 8 (b.toNat : Int)).toNat = (xorB a b).toNat := by rw [ofInt_toNat8, ofInt_toNat8]; rfl
    simp only [guard_int, binOp, Op.intBits, Sem.run_bind, Result.andThen_ok, ne_eq, not_true_eq_false, if_false, Sem.run_pure]
    show Result.ok (Value.int IntKind.u8 (IntKind.u8.wrap ((BitVec.ofInt 8 (a.toNat : Int) ^^^ BitVec.ofInt 8 (b.toNat : Int)).toNat : Int))) w = _
    rw [e, wrap_small8 _ (xorB a b).toNat_lt]
/-- ints as masks -/
def andI (a b : Int) : Int := IntKind.i64.wrap ((BitVec.ofInt 64 a &&& BitVec.ofInt 64 b).toNat : Int)
def orI (a b : Int) : Int := IntKind.i64.wrap ((BitVec.ofInt 64 a ||| BitVec.ofInt 64 b).toNat : Int)
theorem s_andI {a b : Int} (hx : ev T x = some (.v (.int .i64 a))) (hy : ev T y = some (.v (.int .i64 b))) : StepU P ⟨d, .binOp .and t x y t', ty, ps, af, gd⟩ k [] H T (.v (.int .i64 (andI a b))) [] :=
  s_bin hx hy fun w => by simp only [guard_int, binOp, Op.intBits, Sem.run_bind, Result.andThen_ok, ne_eq, not_true_eq_false, if_false, Sem.run_pure]; rfl
theorem s_orI {a b : Int} (hx : ev T x = some (.v (.int .i64 a))) (hy : ev T y = some (.v (.int .i64 b))) : StepU P ⟨d, .binOp .or t x y t', ty, ps, af, gd⟩ k [] H T (.v (.int .i64 (orI a b))) [] :=
  s_bin hx hy fun w => by simp only [guard_int, binOp, Op.intBits, Sem.run_bind, Result.andThen_ok, ne_eq, not_true_eq_false, if_false, Sem.run_pure]; rfl
def shrI (a : Int) (s : Nat) : Int := a.fdiv (2 ^ (min s 64))
def shlI (a : Int) (s : Nat) : Int := IntKind.i64.wrap (a * 2 ^ (min s 64))
theorem s_shrI {a : Int} {s : Nat} {k1 : IntKind} (hx : ev T x = some (.v (.int .i64 a))) (hy : ev T y = some (.v (.int k1 (s : Int)))) : StepU P ⟨d, .binOp .shr t x y t', ty, ps, af, gd⟩ k [] H T (.v (.int .i64 (shrI a s))) [] :=
  s_bin hx hy fun w => by
    have hn : ¬ ((s : Int) < 0) := by omega
    simp only [guard_int, binOp, Op.shift, Sem.run_bind, Result.andThen_ok, hn, if_false, Sem.run_pure, shrI, Int.toNat_natCast, IntKind.bits]
theorem s_shlI {a : Int} {s : Nat} {k1 : IntKind} (hx : ev T x = some (.v (.int .i64 a))) (hy : ev T y = some (.v (.int k1 (s : Int)))) : StepU P ⟨d, .binOp .shl t x y t', ty, ps, af, gd⟩ k [] H T (.v (.int .i64 (shlI a s))) [] :=
  s_bin hx hy fun w => by
    have hn : ¬ ((s : Int) < 0) := by omega
    simp only [guard_int, binOp, Op.shift, Sem.run_bind, Result.andThen_ok, hn, if_false, Sem.run_pure, shlI, Int.toNat_natCast, IntKind.bits]
theorem s_max {a b : Int} {k1 : IntKind} {ts : Array TypeId} (hx : ev T x = some (.v (.int k1 a))) (hy : ev T y = some (.v (.int k1 b))) : StepU P ⟨d, .call { callee := .builtin .max, args := #[x, y], argTypes := ts }, ty, ps, af, gd⟩ k [] H T (.v (.int k1 (max a b))) [] :=
  s_builtin (l := [x, y]) (by simp [isV, hx, hy]) fun cs w => by
    have e1 : evV T x = .int k1 a := by simp [evV, hx]
    have e2 : evV T y = .int k1 b := by simp [evV, hy]
    simp [builtin, Builtin.max_, Builtin.max2, e1, e2, Int.max_def]
    repeat' split
    all_goals first | rfl | (congr 2; omega) | omega
theorem s_min {a b : Int} {k1 : IntKind} {ts : Array TypeId} (hx : ev T x = some (.v (.int k1 a))) (hy : ev T y = some (.v (.int k1 b))) : StepU P ⟨d, .call { callee := .builtin .min, args := #[x, y], argTypes := ts }, ty, ps, af, gd⟩ k [] H T (.v (.int k1 (min a b))) [] :=
  s_builtin (l := [x, y]) (by simp [isV, hx, hy]) fun cs w => by
    have e1 : evV T x = .int k1 a := by simp [evV, hx]
    have e2 : evV T y = .int k1 b := by simp [evV, hy]
    simp [builtin, Builtin.min_, Builtin.min2, e1, e2, Int.min_def]
    repeat' split
    all_goals first | rfl | (congr 2; omega) | omega
end
end Go.Proofs.Ytnghcfjejgdnlaa
