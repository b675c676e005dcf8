/-
  hash.Number, hash.Of, hash.Less and the reference's: what each call returns. Conditions: none.
-/
import Derived.Test.YtihgmdicglnndaaBase
set_option linter.unusedSimpArgs false
set_option linter.unusedVariables false
set_option linter.unusedSectionVars false
namespace Go.Proofs.Ytihgmdicglnndaa
open Go.RowKit
attribute [local go_sem ↓] Go.wp_at_zero Go.wp_at_succ

/-- the number of the k highest bytes -/
def top (n : UInt64) (k : Nat) : Nat := n.toNat / 256 ^ (8 - k)
theorem top_zero (n : UInt64) : top n 0 = 0 := by
  have := n.toNat_lt
  unfold top
  simp only [Nat.sub_zero, Nat.reducePow]
  omega
theorem top_eight (n : UInt64) : top n 8 = n.toNat := by simp [top]
theorem top_step (n : UInt64) (k : Nat) (hk : k < 8) : bits .or .u64 (IntKind.u64.wrap ((top n k : Int) * 256)) (IntKind.u64.wrap ((nb n (7 - k)).toNat : Int)) = (top n (k + 1) : Int) := by
  have hn := n.toNat_lt
  have hd : top n k = top n (k + 1) / 256 := by
    unfold top
    rw [Nat.div_div_eq_div_mul, ← Nat.pow_succ, show 8 - k = (8 - (k + 1)).succ from by omega]
  have hb : top n (k + 1) < 18446744073709551616 := Nat.lt_of_le_of_lt (Nat.div_le_self _ _) hn
  have he : (nb n (7 - k)).toNat = top n (k + 1) % 256 := by rw [nb_lt]; unfold top; rw [show 7 - k = 8 - (k + 1) from by omega]
  rw [hd, he]
  generalize top n (k + 1) = q at *
  have := or_shl8 (q / 256) (q % 256) (by omega) (by omega)
  rw [wrap_u64, wrap_u64, show (((q / 256 : Nat) : Int) * 256) % 18446744073709551616 = ((q / 256 * 256 : Nat) : Int) from by omega, show (((q % 256 : Nat) : Int)) % 18446744073709551616 = ((q % 256 : Nat) : Int) from by omega, this]
  omega

set_option maxHeartbeats 400000 in
theorem number_calls (n : UInt64) (w : World) :
    Calls Try.prog 19 #[.agg (nameC n)] w fun e w' => e = .returned (.int .u64 (n.toNat : Int)) ∧ Ext w w' := by
  go_enter Try.func19, Try.ntmps19
  go_wp2
  go_loop [3, 7] (fun v i => ∃ k : Nat, k ≤ 8 ∧ i = .int .i64 k ∧ v = .int .u64 (top n k : Int)) (fun _ i => 8 - (intOf i).toNat)
  case atStart => exact ⟨0, by omega, rfl, by rw [top_zero]; rfl⟩
  case round =>
    obtain ⟨k, hk, rfl, rfl⟩ := hrel
    by_cases hlt : k < 8
    · go_wp2
      go_round
      case rel => exact ⟨k + 1, by omega, by go_num, by rw [top_step n k hlt]⟩
      case measure => simp [intOf]; omega
    · go_wp2
      go_ret
      obtain rfl : k = 8 := by omega
      exact ⟨by rw [← top_eight n]; rfl, (Ext.refl w).alloc _⟩

set_option maxHeartbeats 400000 in
theorem refNumber_calls (n : UInt64) (w : World) :
    Calls Try.prog 20 #[.agg (nameC n)] w fun e w' => e = .returned (.int .u64 (n.toNat : Int)) ∧ Ext w w' := by
  go_enter Try.func20, Try.ntmps20
  go_wp2
  go_loop [3, 4] (fun v i => ∃ k : Nat, k ≤ 8 ∧ i = .int .i64 k ∧ v = .int .u64 (top n k : Int)) (fun _ i => 8 - (intOf i).toNat)
  case atStart => exact ⟨0, by omega, rfl, by rw [top_zero]; rfl⟩
  case round =>
    obtain ⟨k, hk, rfl, rfl⟩ := hrel
    by_cases hlt : k < 8
    · have hc : (nameC n)[k]? = some (.int .u8 ((nb n (7 - k)).toNat : Int)) := nameC_at n k hlt
      go_wp2
      go_round
      case rel => exact ⟨k + 1, by omega, by go_num, by rw [top_step n k hlt]⟩
      case measure => simp [intOf]; omega
    · go_wp2
      go_ret
      obtain rfl : k = 8 := by omega
      exact ⟨by rw [← top_eight n]; rfl, (Ext.refl w).alloc _⟩

theorem of_cells (v : UInt64) : #[Value.int .u8 ((v.toNat : Int) / 72057594037927936), .int .u8 ((v.toNat : Int) / 281474976710656 % 256), .int .u8 ((v.toNat : Int) / 1099511627776 % 256), .int .u8 ((v.toNat : Int) / 4294967296 % 256),
    .int .u8 ((v.toNat : Int) / 16777216 % 256), .int .u8 ((v.toNat : Int) / 65536 % 256), .int .u8 ((v.toNat : Int) / 256 % 256), .int .u8 ((v.toNat : Int) % 256)] = nameC v := by
  have := v.toNat_lt
  unfold nameC
  simp only [nb_lt, Nat.reducePow, Nat.pow_zero, Nat.pow_one, Nat.div_one]
  congr 1
  simp only [List.cons.injEq, Value.int.injEq, true_and, and_true]
  omega
set_option maxHeartbeats 400000 in
theorem of_calls (v : UInt64) (w : World) :
    Calls Try.prog 18 #[.int .u64 (v.toNat : Int)] w fun e w' => e = .returned (.agg (nameC v)) ∧ Ext w w' := by
  have hv : (v.toNat : Int) < 18446744073709551616 := by have := v.toNat_lt; omega
  have hc := of_cells v
  have HC := Lib.hid hc
  clear hc
  go_enter Try.func18, Try.ntmps18
  go_wp2
  rw [HC.out]
  refine bodyPost_ret (retName rfl _ _ (by simp [go_sem])) rfl ⟨by simp [go_sem], (Ext.refl w).alloc _⟩

set_option maxHeartbeats 400000 in
theorem refOf_calls (v : UInt64) (w : World) :
    Calls Try.prog 21 #[.int .u64 (v.toNat : Int)] w fun e w' => e = .returned (.agg (nameC v)) ∧ Ext w w' := by
  have hv : (v.toNat : Int) < 18446744073709551616 := by have := v.toNat_lt; omega
  have hc := of_cells v
  have HC := Lib.hid hc
  clear hc
  go_enter Try.func21, Try.ntmps21
  go_wp2
  rw [HC.out]
  refine bodyPost_ret (retName rfl _ _ (by simp [go_sem])) rfl ⟨by simp [go_sem], (Ext.refl w).alloc _⟩

theorem lt_toNat (a b : UInt64) : decide (a.toNat < b.toNat) = decide (a < b) := by simp [UInt64.lt_iff_toNat_lt]
set_option maxHeartbeats 400000 in
theorem less_calls (a b : UInt64) (w : World) :
    Calls Try.prog 23 #[.agg (nameC a), .agg (nameC b)] w fun e w' => e = .returned (.bool (decide (a < b))) ∧ Ext w w' := by
  go_enter Try.func23, Try.ntmps23
  go_wp2
  · rename_i hab
    go_ret
    obtain rfl : a = b := by simpa using hab
    exact ⟨by simp, ((Ext.refl w).alloc _).alloc _⟩
  · go_region_held3 (fun w' => rowAt w' w.heap.size = some (nameC a) ∧ rowAt w' (w.heap.size + 1) = some (nameC b) ∧ Ext w w') ((refine ⟨?_, ?_, ?_⟩ <;> (repeat (first | exact Ext.refl _ | assumption | refine Ext.drew ?_ | refine Ext.drewN ?_ _ | refine Ext.alloc ?_ _ | refine Ext.trans ?_ (by assumption) | refine rowAt_keep ?_ (by assumption) | refine cell_keep ?_ (by assumption) | (simp [go_sem]; done)))))
      (first | (go_at_call 19; refine (number_calls _ _).mono ?_; rintro e w' ⟨rfl, hb⟩))
    go_wp2
    rename_i hh
    go_ret
    exact ⟨by simp only [← lt_toNat]; rfl, hh.2.2⟩
set_option maxHeartbeats 400000 in
theorem refLess_calls (a b : UInt64) (w : World) :
    Calls Try.prog 24 #[.agg (nameC a), .agg (nameC b)] w fun e w' => e = .returned (.bool (decide (a < b))) ∧ Ext w w' := by
  go_enter Try.func24, Try.ntmps24
  go_wp2
  go_region_held3 (fun w' => rowAt w' w.heap.size = some (nameC a) ∧ rowAt w' (w.heap.size + 1) = some (nameC b) ∧ Ext w w') ((refine ⟨?_, ?_, ?_⟩ <;> (repeat (first | exact Ext.refl _ | assumption | refine Ext.drew ?_ | refine Ext.drewN ?_ _ | refine Ext.alloc ?_ _ | refine Ext.trans ?_ (by assumption) | refine rowAt_keep ?_ (by assumption) | refine cell_keep ?_ (by assumption) | (simp [go_sem]; done)))))
    (first | (go_at_call 20; refine (refNumber_calls _ _).mono ?_; rintro e w' ⟨rfl, hb⟩))
  go_wp2
  rename_i hh
  go_ret
  exact ⟨by simp only [← lt_toNat]; rfl, hh.2.2⟩
end Go.Proofs.Ytihgmdicglnndaa
