/-
  The walk's rules for names at this seat's own type numbers. No condition.
-/
import Derived.Test.YtihgmdicglnndaaProg
import Derived.Test.YtihgmdicglnndaaMem
set_option linter.unusedSimpArgs false
set_option linter.unusedVariables false
set_option linter.unusedSectionVars false
namespace Go.Proofs.Ytihgmdicglnndaa
open Go.RowKit

theorem loadName (dst : Option Tmp) (x : Operand) (ty : TypeId) (pos : String) (after : Array Edge) (gd : Option (Nat × Bool)) (ρ : Operand → Value) (w : World)
    (h : isRow 8 (ρ x) w = true) : (execOp ρ ⟨dst, .load 23 x, ty, pos, after, gd⟩).run Try.prog w = .ok (.value (rowVal 8 (ρ x) w)) w := exec_load_agg 23 8 (by kernel_rfl) (by kernel_rfl) dst x ty pos after gd ρ w h
theorem storeName (dst : Option Tmp) (x y : Operand) (ty : TypeId) (pos : String) (after : Array Edge) (gd : Option (Nat × Bool)) (ρ : Operand → Value) (w : World)
    (h : isRow 8 (ρ x) w = true) (hv : isAggN 8 (ρ y) = true) : (execOp ρ ⟨dst, .store 23 x y, ty, pos, after, gd⟩).run Try.prog w = .ok .skip (putRow (ρ x) (ρ y) w) := exec_store_agg 23 8 (by kernel_rfl) dst x y ty pos after gd ρ w h hv
theorem allocName (dst : Option Tmp) (ty : TypeId) (pos : String) (after : Array Edge) (gd : Option (Nat × Bool)) (ρ : Operand → Value) (w : World) :
    (execOp ρ ⟨dst, .alloc 23, ty, pos, after, gd⟩).run Try.prog w = .ok (.value (.pointer (some ⟨w.heap.size, 0, none⟩))) (w.alloc (.cells (nameC 0) 23)) := by kernel_rfl
theorem zeroName (dst : Option Tmp) (ty : TypeId) (pos : String) (after : Array Edge) (gd : Option (Nat × Bool)) (ρ : Operand → Value) (w : World) :
    (execOp ρ ⟨dst, .build 23 #[], ty, pos, after, gd⟩).run Try.prog w = .ok (.value (.agg (nameC 0))) w := by kernel_rfl
theorem eqName (w : World) (a b : UInt64) : (Op.equalIn 10000 23 (.agg (nameC a)) (.agg (nameC b))).run Try.prog w = .ok (a == b) w :=
  run_eq_name w 9998 Try.underlying23 (by kernel_rfl) Try.underlying5 (by kernel_rfl) a b
theorem indexName (w : World) (n : UInt64) (k : Int) (h0 : 0 ≤ k) (h8 : k < 8) : (Instr.index 23 (.agg (nameC n)) (.int .i64 k)).run Try.prog w = .ok (.int .u8 ((nb n (7 - k.toNat)).toNat : Int)) w :=
  run_index_name w Try.underlying23 (by kernel_rfl) Try.underlying5 n k h0 h8
theorem retName {fn : Func} {p : Tmp} (hr : fn.results = #[.cell p 23]) (tmps : Array Value) (w : World) (h : isRow 8 (tmps.getD p undef) w = true) : (results fn tmps).run Try.prog w = .ok (rowVal 8 (tmps.getD p undef) w) w :=
  run_results_cell hr 8 (by kernel_rfl) (by kernel_rfl) tmps w h
theorem retNameTmp {fn : Func} {p q : Tmp} (hr : fn.results = #[.cell p 23, .tmp q]) (tmps : Array Value) (w : World) (h : isRow 8 (tmps.getD p undef) w = true) : (results fn tmps).run Try.prog w = .ok (.tuple #[rowVal 8 (tmps.getD p undef) w, tmps.getD q undef]) w :=
  run_results_cell_tmp hr 8 (by kernel_rfl) (by kernel_rfl) tmps w h
theorem bytesT : SlT Try.prog 34 5 1 1 (.int .u8 0) := ⟨Try.underlying34, by kernel_rfl, rfl, by decide, by decide⟩
theorem intsT : SlT Try.prog 24 3 1 8 (.int .i64 0) := ⟨Try.underlying24, by kernel_rfl, rfl, by decide, by decide⟩
theorem namesT : SlT Try.prog 41 23 8 8 (.agg (nameC 0)) := ⟨Try.underlying41, by kernel_rfl, rfl, by decide, by decide⟩
theorem strName (w : World) (g : Nat) (h1 : (rowAt w g).isSome = true) (h2 : nameC (nameOfC ((rowAt w g).getD #[])) = (rowAt w g).getD #[]) :
    (convert 34 9 (.slice (some ⟨g, 0, none⟩) 8 8)).run Try.prog w = .ok (.string (strB (nameB (nameOfC ((rowAt w g).getD #[]))))) w := run_strName w _ _ _ Try.underlying34 Try.underlying5 Try.underlying9 g h1 h2
attribute [go_sem ↓] strName
attribute [go_sem] strB_toList strB_size strB_append less_names nameOfC_nameC
attribute [go_sem ↓] allocName zeroName storeName loadName eqName
attribute [go_sem] allOne_lit one_int one_bool one_string one_pointer one_slice isAggN_agg nameC_ones putRow_ptr setRow_new rowAt_setRow rowAt_setRow_far size_setRow spliceA_whole
attribute [go_sem] nameC_get cell_row free_row rowAt_put rowAt_far
attribute [go_sem] indexName rowAt_new rowAt_alloc rowAt_drew nameC_size isRow_ptr rowVal_ptr nameC_whole u64_xor u64_or u64_and u64_add u64_mul u64_add_mod
end Go.Proofs.Ytihgmdicglnndaa
