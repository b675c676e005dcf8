/-
  The laws HashNumbers, HashOrder of layer 1 return true, whatever names and numbers they are called with. Conditions: none.
-/
import Derived.Test.YtihgmdicglnndaaNum
set_option linter.unusedSimpArgs false
set_option linter.unusedVariables false
set_option linter.unusedSectionVars false
namespace Go.Proofs.Ytihgmdicglnndaa
open Go.RowKit
attribute [local go_sem ↓] Go.wp_at_zero Go.wp_at_succ

theorem of_calls_int (v : Int) (h0 : 0 ≤ v) (h1 : v < 18446744073709551616) (w : World) :
    Calls Try.prog 18 #[.int .u64 v] w fun e w' => e = .returned (.agg (nameC (UInt64.ofNat v.toNat))) ∧ Ext w w' := by
  obtain ⟨x, rfl⟩ := u64_of v h0 h1
  simpa using of_calls x w

set_option maxHeartbeats 400000 in
theorem awake1_calls (w : World) :
    Calls Try.prog 22 #[] w fun e w' => e = .returned (.bool true) ∧ Ext w w' := by
  go_enter Try.func22, Try.ntmps22
  go_wp2_with (first
    | (go_at_call 18; refine (of_calls_int _ (by decide) (by decide) _).mono ?_; rintro e w' ⟨rfl, hb⟩)
    | (go_at_call 19; refine (number_calls _ _).mono ?_; rintro e w' ⟨rfl, hb⟩)
    | (go_at_call 23; refine (less_calls _ _ _).mono ?_; rintro e w' ⟨rfl, hb⟩))
  go_ret
  exact ⟨rfl, by (repeat (first | exact Ext.refl _ | assumption | refine Ext.drew ?_ | refine Ext.drewN ?_ _ | refine Ext.alloc ?_ _ | refine Ext.trans ?_ (by assumption)))⟩

set_option maxHeartbeats 1000000 in
theorem hashNumbers_calls (n v : UInt64) (w : World) :
    Calls Try.prog 5 #[.agg (nameC n), .int .u64 (v.toNat : Int)] w fun e w' => e = .returned (.bool true) ∧ Ext w w' := by
  go_enter Try.func5, Try.ntmps5
  go_wp2
  go_region_held3 (fun w' => rowAt w' w.heap.size = some (nameC n) ∧ Ext w w') ((refine ⟨?_, ?_⟩ <;> (repeat (first | exact Ext.refl _ | assumption | refine Ext.drew ?_ | refine Ext.drewN ?_ _ | refine Ext.alloc ?_ _ | refine Ext.trans ?_ (by assumption) | refine rowAt_keep ?_ (by assumption) | refine cell_keep ?_ (by assumption) | (simp [go_sem]; done)))))
    (first
      | (go_at_call 19; refine (number_calls _ _).mono ?_; rintro e w' ⟨rfl, hb⟩)
      | (go_at_call 18; refine (of_calls _ _).mono ?_; rintro e w' ⟨rfl, hb⟩)
      | (go_at_call 20; refine (refNumber_calls _ _).mono ?_; rintro e w' ⟨rfl, hb⟩)
      | (go_at_call 21; refine (refOf_calls _ _).mono ?_; rintro e w' ⟨rfl, hb⟩)
      | (go_at_call 22; refine (awake1_calls _).mono ?_; rintro e w' ⟨rfl, hb⟩))
  go_wp2
  rename_i hh
  go_ret
  exact ⟨rfl, hh.2⟩

set_option maxHeartbeats 2000000 in
theorem hashOrder_calls (a b c : UInt64) (w : World) :
    Calls Try.prog 6 #[.agg (nameC a), .agg (nameC b), .agg (nameC c)] w fun e w' => e = .returned (.bool true) ∧ Ext w w' := by
  rcases Nat.lt_trichotomy a.toNat b.toNat with hab | hab | hab
  · have g1 : decide (a < b) = true := by simpa [UInt64.lt_iff_toNat_lt] using hab
    have g2 : decide (b < a) = false := by simp [UInt64.lt_iff_toNat_lt]; omega
    have g3 : (a == b) = false := by simp [← UInt64.toNat_inj]; omega
    by_cases hbc : b.toNat < c.toNat
    · have g4 : decide (b < c) = true := by simpa [UInt64.lt_iff_toNat_lt] using hbc
      have g5 : decide (a < c) = true := by simp [UInt64.lt_iff_toNat_lt]; omega
      clear hab hbc
      go_enter Try.func6, Try.ntmps6
      go_upto_region 1 with (fail)
      have E : Ext w (((w.alloc (.cells (nameC a) 23)).alloc (.cells (nameC b) 23)).alloc (.cells (nameC c) 23)) := by (repeat (first | exact Ext.refl _ | assumption | refine Ext.drew ?_ | refine Ext.drewN ?_ _ | refine Ext.alloc ?_ _ | refine Ext.trans ?_ (by assumption)))
      have R1 : rowAt (((w.alloc (.cells (nameC a) 23)).alloc (.cells (nameC b) 23)).alloc (.cells (nameC c) 23)) w.heap.size = some (nameC a) := (rowAt_alloc _ _ _ (by simp <;> omega)).trans ((rowAt_alloc _ _ _ (by simp <;> omega)).trans (rowAt_new _ _ _ _ (by simp)))
      have R2 : rowAt (((w.alloc (.cells (nameC a) 23)).alloc (.cells (nameC b) 23)).alloc (.cells (nameC c) 23)) (w.heap.size + 1) = some (nameC b) := (rowAt_alloc _ _ _ (by simp <;> omega)).trans (rowAt_new _ _ _ _ (by simp))
      have R3 : rowAt (((w.alloc (.cells (nameC a) 23)).alloc (.cells (nameC b) 23)).alloc (.cells (nameC c) 23)) (w.heap.size + 1 + 1) = some (nameC c) := rowAt_new _ _ _ _ (by simp)
      generalize (((w.alloc (.cells (nameC a) 23)).alloc (.cells (nameC b) 23)).alloc (.cells (nameC c) 23)) = W at E R1 R2 R3 ⊢
      have L1 := rowAt_lt R1
      have L2 := rowAt_lt R2
      have L3 := rowAt_lt R3
      go_wp2_with (first | (go_at_call 23; refine (less_calls _ _ _).mono ?_; rintro e w' ⟨rfl, hb⟩; replace R1 := rowAt_keep R1 hb; replace L1 := rowAt_lt R1; replace R2 := rowAt_keep R2 hb; replace L2 := rowAt_lt R2; replace R3 := rowAt_keep R3 hb; replace L3 := rowAt_lt R3; replace E := Ext.trans E hb; clear hb))
      go_region_held3 (fun w' => rowAt w' w.heap.size = some (nameC a) ∧ rowAt w' (w.heap.size + 1) = some (nameC b) ∧ Ext w w') ((refine ⟨?_, ?_, ?_⟩ <;> (repeat (first | exact Ext.refl _ | assumption | refine Ext.drew ?_ | refine Ext.drewN ?_ _ | refine Ext.alloc ?_ _ | refine Ext.trans ?_ (by assumption) | refine rowAt_keep ?_ (by assumption) | refine cell_keep ?_ (by assumption) | (simp [go_sem]; done)))))
        (first
          | (go_at_call 23; refine (less_calls _ _ _).mono ?_; rintro e w' ⟨rfl, hb⟩)
          | (go_at_call 24; refine (refLess_calls _ _ _).mono ?_; rintro e w' ⟨rfl, hb⟩)
          | (go_at_call 22; refine (awake1_calls _).mono ?_; rintro e w' ⟨rfl, hb⟩))
      go_wp2
      rename_i hh
      go_ret
      exact ⟨rfl, hh.2.2⟩
    · have g4 : decide (b < c) = false := by simpa [UInt64.lt_iff_toNat_lt] using hbc
      clear hab hbc
      go_enter Try.func6, Try.ntmps6
      go_upto_region 1 with (fail)
      have E : Ext w (((w.alloc (.cells (nameC a) 23)).alloc (.cells (nameC b) 23)).alloc (.cells (nameC c) 23)) := by (repeat (first | exact Ext.refl _ | assumption | refine Ext.drew ?_ | refine Ext.drewN ?_ _ | refine Ext.alloc ?_ _ | refine Ext.trans ?_ (by assumption)))
      have R1 : rowAt (((w.alloc (.cells (nameC a) 23)).alloc (.cells (nameC b) 23)).alloc (.cells (nameC c) 23)) w.heap.size = some (nameC a) := (rowAt_alloc _ _ _ (by simp <;> omega)).trans ((rowAt_alloc _ _ _ (by simp <;> omega)).trans (rowAt_new _ _ _ _ (by simp)))
      have R2 : rowAt (((w.alloc (.cells (nameC a) 23)).alloc (.cells (nameC b) 23)).alloc (.cells (nameC c) 23)) (w.heap.size + 1) = some (nameC b) := (rowAt_alloc _ _ _ (by simp <;> omega)).trans (rowAt_new _ _ _ _ (by simp))
      have R3 : rowAt (((w.alloc (.cells (nameC a) 23)).alloc (.cells (nameC b) 23)).alloc (.cells (nameC c) 23)) (w.heap.size + 1 + 1) = some (nameC c) := rowAt_new _ _ _ _ (by simp)
      generalize (((w.alloc (.cells (nameC a) 23)).alloc (.cells (nameC b) 23)).alloc (.cells (nameC c) 23)) = W at E R1 R2 R3 ⊢
      have L1 := rowAt_lt R1
      have L2 := rowAt_lt R2
      have L3 := rowAt_lt R3
      go_wp2_with (first | (go_at_call 23; refine (less_calls _ _ _).mono ?_; rintro e w' ⟨rfl, hb⟩; replace R1 := rowAt_keep R1 hb; replace L1 := rowAt_lt R1; replace R2 := rowAt_keep R2 hb; replace L2 := rowAt_lt R2; replace R3 := rowAt_keep R3 hb; replace L3 := rowAt_lt R3; replace E := Ext.trans E hb; clear hb))
      go_region_held3 (fun w' => rowAt w' w.heap.size = some (nameC a) ∧ rowAt w' (w.heap.size + 1) = some (nameC b) ∧ Ext w w') ((refine ⟨?_, ?_, ?_⟩ <;> (repeat (first | exact Ext.refl _ | assumption | refine Ext.drew ?_ | refine Ext.drewN ?_ _ | refine Ext.alloc ?_ _ | refine Ext.trans ?_ (by assumption) | refine rowAt_keep ?_ (by assumption) | refine cell_keep ?_ (by assumption) | (simp [go_sem]; done)))))
        (first
          | (go_at_call 23; refine (less_calls _ _ _).mono ?_; rintro e w' ⟨rfl, hb⟩)
          | (go_at_call 24; refine (refLess_calls _ _ _).mono ?_; rintro e w' ⟨rfl, hb⟩)
          | (go_at_call 22; refine (awake1_calls _).mono ?_; rintro e w' ⟨rfl, hb⟩))
      go_wp2
      rename_i hh
      go_ret
      exact ⟨rfl, hh.2.2⟩
  · have g1 : decide (a < b) = false := by simp [UInt64.lt_iff_toNat_lt]; omega
    have g2 : decide (b < a) = false := by simp [UInt64.lt_iff_toNat_lt]; omega
    have g3 : (a == b) = true := by simpa [← UInt64.toNat_inj] using hab
    clear hab
    go_enter Try.func6, Try.ntmps6
    go_upto_region 1 with (fail)
    have E : Ext w (((w.alloc (.cells (nameC a) 23)).alloc (.cells (nameC b) 23)).alloc (.cells (nameC c) 23)) := by (repeat (first | exact Ext.refl _ | assumption | refine Ext.drew ?_ | refine Ext.drewN ?_ _ | refine Ext.alloc ?_ _ | refine Ext.trans ?_ (by assumption)))
    have R1 : rowAt (((w.alloc (.cells (nameC a) 23)).alloc (.cells (nameC b) 23)).alloc (.cells (nameC c) 23)) w.heap.size = some (nameC a) := (rowAt_alloc _ _ _ (by simp <;> omega)).trans ((rowAt_alloc _ _ _ (by simp <;> omega)).trans (rowAt_new _ _ _ _ (by simp)))
    have R2 : rowAt (((w.alloc (.cells (nameC a) 23)).alloc (.cells (nameC b) 23)).alloc (.cells (nameC c) 23)) (w.heap.size + 1) = some (nameC b) := (rowAt_alloc _ _ _ (by simp <;> omega)).trans (rowAt_new _ _ _ _ (by simp))
    have R3 : rowAt (((w.alloc (.cells (nameC a) 23)).alloc (.cells (nameC b) 23)).alloc (.cells (nameC c) 23)) (w.heap.size + 1 + 1) = some (nameC c) := rowAt_new _ _ _ _ (by simp)
    generalize (((w.alloc (.cells (nameC a) 23)).alloc (.cells (nameC b) 23)).alloc (.cells (nameC c) 23)) = W at E R1 R2 R3 ⊢
    have L1 := rowAt_lt R1
    have L2 := rowAt_lt R2
    have L3 := rowAt_lt R3
    go_wp2_with (first | (go_at_call 23; refine (less_calls _ _ _).mono ?_; rintro e w' ⟨rfl, hb⟩; replace R1 := rowAt_keep R1 hb; replace L1 := rowAt_lt R1; replace R2 := rowAt_keep R2 hb; replace L2 := rowAt_lt R2; replace R3 := rowAt_keep R3 hb; replace L3 := rowAt_lt R3; replace E := Ext.trans E hb; clear hb))
    go_region_held3 (fun w' => rowAt w' w.heap.size = some (nameC a) ∧ rowAt w' (w.heap.size + 1) = some (nameC b) ∧ Ext w w') ((refine ⟨?_, ?_, ?_⟩ <;> (repeat (first | exact Ext.refl _ | assumption | refine Ext.drew ?_ | refine Ext.drewN ?_ _ | refine Ext.alloc ?_ _ | refine Ext.trans ?_ (by assumption) | refine rowAt_keep ?_ (by assumption) | refine cell_keep ?_ (by assumption) | (simp [go_sem]; done)))))
      (first
        | (go_at_call 23; refine (less_calls _ _ _).mono ?_; rintro e w' ⟨rfl, hb⟩)
        | (go_at_call 24; refine (refLess_calls _ _ _).mono ?_; rintro e w' ⟨rfl, hb⟩)
        | (go_at_call 22; refine (awake1_calls _).mono ?_; rintro e w' ⟨rfl, hb⟩))
    go_wp2
    rename_i hh
    go_ret
    exact ⟨rfl, hh.2.2⟩
  · have g1 : decide (a < b) = false := by simp [UInt64.lt_iff_toNat_lt]; omega
    have g2 : decide (b < a) = true := by simpa [UInt64.lt_iff_toNat_lt] using hab
    have g3 : (a == b) = false := by simp [← UInt64.toNat_inj]; omega
    clear hab
    go_enter Try.func6, Try.ntmps6
    go_upto_region 1 with (fail)
    have E : Ext w (((w.alloc (.cells (nameC a) 23)).alloc (.cells (nameC b) 23)).alloc (.cells (nameC c) 23)) := by (repeat (first | exact Ext.refl _ | assumption | refine Ext.drew ?_ | refine Ext.drewN ?_ _ | refine Ext.alloc ?_ _ | refine Ext.trans ?_ (by assumption)))
    have R1 : rowAt (((w.alloc (.cells (nameC a) 23)).alloc (.cells (nameC b) 23)).alloc (.cells (nameC c) 23)) w.heap.size = some (nameC a) := (rowAt_alloc _ _ _ (by simp <;> omega)).trans ((rowAt_alloc _ _ _ (by simp <;> omega)).trans (rowAt_new _ _ _ _ (by simp)))
    have R2 : rowAt (((w.alloc (.cells (nameC a) 23)).alloc (.cells (nameC b) 23)).alloc (.cells (nameC c) 23)) (w.heap.size + 1) = some (nameC b) := (rowAt_alloc _ _ _ (by simp <;> omega)).trans (rowAt_new _ _ _ _ (by simp))
    have R3 : rowAt (((w.alloc (.cells (nameC a) 23)).alloc (.cells (nameC b) 23)).alloc (.cells (nameC c) 23)) (w.heap.size + 1 + 1) = some (nameC c) := rowAt_new _ _ _ _ (by simp)
    generalize (((w.alloc (.cells (nameC a) 23)).alloc (.cells (nameC b) 23)).alloc (.cells (nameC c) 23)) = W at E R1 R2 R3 ⊢
    have L1 := rowAt_lt R1
    have L2 := rowAt_lt R2
    have L3 := rowAt_lt R3
    go_wp2_with (first | (go_at_call 23; refine (less_calls _ _ _).mono ?_; rintro e w' ⟨rfl, hb⟩; replace R1 := rowAt_keep R1 hb; replace L1 := rowAt_lt R1; replace R2 := rowAt_keep R2 hb; replace L2 := rowAt_lt R2; replace R3 := rowAt_keep R3 hb; replace L3 := rowAt_lt R3; replace E := Ext.trans E hb; clear hb))
    go_region_held3 (fun w' => rowAt w' w.heap.size = some (nameC a) ∧ rowAt w' (w.heap.size + 1) = some (nameC b) ∧ Ext w w') ((refine ⟨?_, ?_, ?_⟩ <;> (repeat (first | exact Ext.refl _ | assumption | refine Ext.drew ?_ | refine Ext.drewN ?_ _ | refine Ext.alloc ?_ _ | refine Ext.trans ?_ (by assumption) | refine rowAt_keep ?_ (by assumption) | refine cell_keep ?_ (by assumption) | (simp [go_sem]; done)))))
      (first
        | (go_at_call 23; refine (less_calls _ _ _).mono ?_; rintro e w' ⟨rfl, hb⟩)
        | (go_at_call 24; refine (refLess_calls _ _ _).mono ?_; rintro e w' ⟨rfl, hb⟩)
        | (go_at_call 22; refine (awake1_calls _).mono ?_; rintro e w' ⟨rfl, hb⟩))
    go_wp2
    rename_i hh
    go_ret
    exact ⟨rfl, hh.2.2⟩
end Go.Proofs.Ytihgmdicglnndaa
