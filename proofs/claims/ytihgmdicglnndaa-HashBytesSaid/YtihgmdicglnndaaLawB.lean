/-
  The law HashBytes of layer 1 returns true, whatever names it is called with. Conditions: none.
-/
import Derived.Test.YtihgmdicglnndaaLawA
namespace Go.Proofs.Ytihgmdicglnndaa
open Go.RowKit
attribute [local go_sem ↓] Go.wp_at_zero Go.wp_at_succ
set_option maxHeartbeats 1000000 in
theorem hashBytes_calls (a b : UInt64) (w : World) :
    Calls Try.prog 7 #[.agg (nameC a), .agg (nameC b)] w fun e w' => e = .returned (.bool true) ∧ Ext w w' := by
  go_enter Try.func7, Try.ntmps7
  go_upto_region 1 with (fail)
  have E : Ext w ((w.alloc (.cells (nameC a) 23)).alloc (.cells (nameC b) 23)) := by (repeat (first | exact Ext.refl _ | assumption | refine Ext.drew ?_ | refine Ext.drewN ?_ _ | refine Ext.alloc ?_ _ | refine Ext.trans ?_ (by assumption)))
  have R1 : rowAt ((w.alloc (.cells (nameC a) 23)).alloc (.cells (nameC b) 23)) w.heap.size = some (nameC a) := (rowAt_alloc _ _ _ (by simp <;> omega)).trans (rowAt_new _ _ _ _ (by simp))
  have R2 : rowAt ((w.alloc (.cells (nameC a) 23)).alloc (.cells (nameC b) 23)) (w.heap.size + 1) = some (nameC b) := rowAt_new _ _ _ _ (by simp)
  generalize ((w.alloc (.cells (nameC a) 23)).alloc (.cells (nameC b) 23)) = W at E R1 R2 ⊢
  have L1 := rowAt_lt R1
  have L2 := rowAt_lt R2
  go_region_held3 (fun w' => rowAt w' w.heap.size = some (nameC a) ∧ rowAt w' (w.heap.size + 1) = some (nameC b) ∧ Ext w w') ((refine ⟨?_, ?_, ?_⟩ <;> (repeat (first | exact Ext.refl _ | assumption | refine Ext.drew ?_ | refine Ext.drewN ?_ _ | refine Ext.alloc ?_ _ | refine Ext.trans ?_ (by assumption) | refine rowAt_keep ?_ (by assumption) | refine cell_keep ?_ (by assumption) | (simp [go_sem]; done)))))
    (first
      | (go_at_call 23; refine (less_calls _ _ _).mono ?_; rintro e w' ⟨rfl, hb⟩)
      | (go_at_call 22; refine (awake1_calls _).mono ?_; rintro e w' ⟨rfl, hb⟩))
  rename_i hh
  go_wp2
  go_ret
  exact ⟨rfl, hh.2.2⟩
end Go.Proofs.Ytihgmdicglnndaa
