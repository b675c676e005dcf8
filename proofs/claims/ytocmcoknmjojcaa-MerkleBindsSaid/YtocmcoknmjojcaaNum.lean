/-
  hash.Number, hash.Of, hash.Less and the reference's: what each call returns. Conditions: none.
-/
import Derived.Test.YtocmcoknmjojcaaBase
set_option linter.unusedSimpArgs false
set_option linter.unusedVariables false
namespace Go.Proofs.Ytocmcoknmjojcaa
open Go.RowKit
attribute [local go_sem ↓] Go.wp_at_zero Go.wp_at_succ

/-- the number of the k highest bytes -/
def top (n : UInt64) (k : Nat) : Nat := n.toNat / 256 ^ (8 - k)
theorem top_zero (n : UInt64) : top n 0 = 0 := by
  have := n.toNat_lt
  unfold top
  simp only [Nat.sub_zero, Nat.reducePow]
  omega
theorem top_eight (n : UInt64) : top n 8 = n.toNat := by simp [top]
theorem top_step (n : UInt64) (k : Nat) (hk : k < 8) : bits .or .u64 (IntKind.u64.wrap ((top n k : Int) * 256)) (IntKind.u64.wrap ((nb n (7 - k)).toNat : Int)) = (top n (k + 1) : Int) := by
  have hn := n.toNat_lt
  have hd : top n k = top n (k + 1) / 256 := by
    unfold top
    rw [Nat.div_div_eq_div_mul, ← Nat.pow_succ, show 8 - k = (8 - (k + 1)).succ from by omega]
  have hb : top n (k + 1) < 18446744073709551616 := Nat.lt_of_le_of_lt (Nat.div_le_self _ _) hn
  have he : (nb n (7 - k)).toNat = top n (k + 1) % 256 := by rw [nb_lt]; unfold top; rw [show 7 - k = 8 - (k + 1) from by omega]
  rw [hd, he]
  generalize top n (k + 1) = q at *
  have := or_shl8 (q / 256) (q % 256) (by omega) (by omega)
  rw [wrap_u64, wrap_u64, show (((q / 256 : Nat) : Int) * 256) % 18446744073709551616 = ((q / 256 * 256 : Nat) : Int) from by omega, show (((q % 256 : Nat) : Int)) % 18446744073709551616 = ((q % 256 : Nat) : Int) from by omega, this]
  omega

set_option maxHeartbeats 400000 in
theorem number_calls (n : UInt64) (w : World) :
    Calls Try.prog 42 #[.agg (nameC n)] w fun e w' => e = .returned (.int .u64 (n.toNat : Int)) ∧ Ext w w' := by
  go_enter Try.func42, Try.ntmps42
  go_wp2
  go_loop [3, 7] (fun v i => ∃ k : Nat, k ≤ 8 ∧ i = .int .i64 k ∧ v = .int .u64 (top n k : Int)) (fun _ i => 8 - (intOf i).toNat)
  case atStart => exact ⟨0, by omega, rfl, by rw [top_zero]; rfl⟩
  case round =>
    obtain ⟨k, hk, rfl, rfl⟩ := hrel
    by_cases hlt : k < 8
    · go_wp2
      go_round
      case rel => exact ⟨k + 1, by omega, by go_num, by rw [top_step n k hlt]⟩
      case measure => simp [intOf]; omega
    · go_wp2
      go_ret
      obtain rfl : k = 8 := by omega
      exact ⟨by rw [← top_eight n]; rfl, (Ext.refl w).alloc _⟩


theorem of_cells (v : UInt64) : #[Value.int .u8 ((v.toNat : Int) / 72057594037927936), .int .u8 ((v.toNat : Int) / 281474976710656 % 256), .int .u8 ((v.toNat : Int) / 1099511627776 % 256), .int .u8 ((v.toNat : Int) / 4294967296 % 256),
    .int .u8 ((v.toNat : Int) / 16777216 % 256), .int .u8 ((v.toNat : Int) / 65536 % 256), .int .u8 ((v.toNat : Int) / 256 % 256), .int .u8 ((v.toNat : Int) % 256)] = nameC v := by
  have := v.toNat_lt
  unfold nameC
  simp only [nb_lt, Nat.reducePow, Nat.pow_zero, Nat.pow_one, Nat.div_one]
  congr 1
  simp only [List.cons.injEq, Value.int.injEq, true_and, and_true]
  omega
set_option maxHeartbeats 400000 in
theorem of_calls (v : UInt64) (w : World) :
    Calls Try.prog 25 #[.int .u64 (v.toNat : Int)] w fun e w' => e = .returned (.agg (nameC v)) ∧ Ext w w' := by
  have hv : (v.toNat : Int) < 18446744073709551616 := by have := v.toNat_lt; omega
  have hc := of_cells v
  have HC := Lib.hid hc
  clear hc
  go_enter Try.func25, Try.ntmps25
  go_wp2
  rw [HC.out]
  refine bodyPost_ret (retName rfl _ _ (by simp [go_sem])) rfl ⟨by simp [go_sem], (Ext.refl w).alloc _⟩

set_option maxHeartbeats 400000 in
theorem refOf_calls (v : UInt64) (w : World) :
    Calls Try.prog 41 #[.int .u64 (v.toNat : Int)] w fun e w' => e = .returned (.agg (nameC v)) ∧ Ext w w' := by
  have hv : (v.toNat : Int) < 18446744073709551616 := by have := v.toNat_lt; omega
  have hc := of_cells v
  have HC := Lib.hid hc
  clear hc
  go_enter Try.func41, Try.ntmps41
  go_wp2
  rw [HC.out]
  refine bodyPost_ret (retName rfl _ _ (by simp [go_sem])) rfl ⟨by simp [go_sem], (Ext.refl w).alloc _⟩

theorem lt_toNat (a b : UInt64) : decide (a.toNat < b.toNat) = decide (a < b) := by simp [UInt64.lt_iff_toNat_lt]
end Go.Proofs.Ytocmcoknmjojcaa
