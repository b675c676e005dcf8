/-
  Texts laid together: Mrk3, Ins, InsD, InsN, St4, St5, St6, St7, St8, CodS, St9, St10, St11, St12. Conditions: as told in each.
-/
import Derived.Test.YtkkeeokeihkagaaGreatKa2
set_option linter.unusedSimpArgs false
set_option linter.unusedVariables false
set_option linter.unusedSectionVars false
/-
  Layer 3, merkle, and the reference: Follow, Verify, and what the laws use. Conditions: lengths below 2^47.
-/
namespace Go.Proofs.YtkkeeokeihkagaaGreat
open Go.RowKit
section
variable (S : List UInt8 → UInt64) (hS : HashF S)
include hS
omit hS
def folO (i n : Int) (d : Nat) : Bool := decide (0 ≤ i ∧ i < n ∧ d = depN i.toNat n.toNat)
def folR (leaf : UInt64) (i n : Int) (p : List UInt64) : UInt64 := if folO i n p.length then compN S leaf i.toNat n.toNat p else 0
include hS
theorem follow_ok (leaf : UInt64) (i n : Int) (p : List UInt64) (f : Bool) (d : Nat) (hn : n ≤ 9223372036854775807) (hp : p.length = d) (hd : d ≤ 140737488355000) : Fresh Tryz.prog 85 [.v (.agg (nameC leaf)), .v (.int .i64 i), .v (.int .i64 n), .ex d f (byA (flat p))] (fun _ => .tp [.v (.agg (nameC (folR S leaf i n p))), .v (.bool (folO i n d))]) [] := by
  subst hp
  by_cases h : 0 ≤ i ∧ i < n
  rotate_left
  · have ho : folO i n p.length = false := by simp [folO]; omega
    rw [folR, ho]
    refine Fresh.of (fn := Tryz.f85) Tryz.func85 rfl (Nat.le_of_ble_eq_true rfl) fun w => ?_
    (refine Gol.seq ?_; apply Gol.region; apply Trc.stp rfl rfl rfl; apply s_box; exact rfl
     exact rfl; dsimp only [Nat.reduceAdd, Nat.reduceMul, Nat.reduceSub, List.nil_append, List.cons_append, nbk, List.map_cons, List.map_nil]; apply Trc.stp rfl rfl rfl; apply s_alloc; dsimp only [Nat.reduceAdd, Nat.reduceMul, Nat.reduceSub, List.nil_append, List.cons_append, nbk, List.map_cons, List.map_nil]
     apply Trc.stp rfl rfl rfl; apply s_assign; exact rfl; dsimp only [Nat.reduceAdd, Nat.reduceMul, List.nil_append]
     exact Trc.done _ _ _; exact rfl; refine thn_n ?_; refine Gol.seq ?_; refine Gol.seq ?_; apply Gol.region
     apply Trc.stp rfl rfl rfl; apply s_move; exact rfl; dsimp only [Nat.reduceAdd, Nat.reduceMul, List.nil_append]
     apply Trc.stp rfl rfl rfl; apply s_move; exact rfl; dsimp only [Nat.reduceAdd, Nat.reduceMul, List.nil_append]
     apply Trc.stp rfl rfl rfl; apply s_call (f := 109) rfl; apply evs.cons rfl; apply evs.cons rfl; exact evs.nil; apply ArgL.cons
     exact arg_clo; apply ArgL.cons; exact arg_clo; exact ArgL.nil; exact depth_no i n h; exact Nat.le_of_ble_eq_true rfl; dsimp only [Nat.reduceAdd, Nat.reduceMul, Nat.reduceSub, List.nil_append, List.cons_append, nbk, List.map_cons, List.map_nil]
     apply Trc.stp rfl rfl rfl; apply s_assign; exact rfl; dsimp only [Nat.reduceAdd, Nat.reduceMul, List.nil_append]
     exact Trc.done _ _ _; exact rfl; refine thn_n ?_; refine Gol.seq ?_; apply Gol.region; apply Trc.stp rfl rfl rfl; apply s_move; exact rfl; dsimp only [Nat.reduceAdd, Nat.reduceMul, List.nil_append]
     apply Trc.stp rfl rfl rfl; apply s_lt; exact rfl; exact rfl; dsimp only [Nat.reduceAdd, Nat.reduceMul, List.nil_append]
     apply Trc.stp rfl rfl rfl; apply s_move; exact rfl; dsimp only [Nat.reduceAdd, Nat.reduceMul, List.nil_append]
     apply Trc.skip rfl rfl; apply wnt_g; exact rfl; exact rfl; exact rfl; rfl; dsimp only [Nat.reduceAdd, Nat.reduceMul, List.nil_append]
     apply Trc.skip rfl rfl; apply wnt_g; exact rfl; exact rfl; exact rfl; rfl; dsimp only [Nat.reduceAdd, Nat.reduceMul, List.nil_append]
     apply Trc.skip rfl rfl; apply wnt_g; exact rfl; exact rfl; exact rfl; rfl; dsimp only [Nat.reduceAdd, Nat.reduceMul, List.nil_append]
     apply Trc.skip rfl rfl; apply wnt_g; exact rfl; exact rfl; exact rfl; rfl; dsimp only [Nat.reduceAdd, Nat.reduceMul, List.nil_append]
     apply Trc.stp rfl rfl rfl; apply s_pick_t; exact rfl; rfl; exact rfl; dsimp only [Nat.reduceAdd, Nat.reduceMul, List.nil_append]
     exact Trc.done _ _ _; exact rfl; refine thn_n ?_)
    refine Gol.cond_t rfl (by decide) ?_
    (refine Gol.seq ?_; apply Gol.region; apply Trc.stp rfl rfl rfl; apply s_zero; dsimp only [Nat.reduceAdd, Nat.reduceMul, Nat.reduceSub, List.nil_append, List.cons_append, nbk, List.map_cons, List.map_nil]
     apply Trc.stepN rfl rfl; exact wnt_n rfl; apply s_storeW; exact rfl; exact rfl; exact rfl; exact rfl; rfl; exact rfl; dsimp only [Nat.reduceAdd, Nat.reduceMul, Nat.reduceSub, List.nil_append, List.cons_append, nbk, List.map_cons, List.map_nil]
     apply Trc.stp rfl rfl rfl; apply s_assign; exact rfl; dsimp only [Nat.reduceAdd, Nat.reduceMul, List.nil_append]
     exact Trc.done _ _ _; exact rfl; refine thn_n ?_; refine Gol.ret ?_; refine thn_r ?_)
    (apply RetQ.mk (by first | exact .inr rfl | exact .inl rfl); apply res_2 rfl; exact res_cell rfl rfl rfl (agu_cuv _); exact res_tmp rfl; exact out_val)
  obtain ⟨j, rfl⟩ := Int.eq_ofNat_of_zero_le h.1
  obtain ⟨m, rfl⟩ := Int.eq_ofNat_of_zero_le (show 0 ≤ n by omega)
  have hjm : j < m := by omega
  have hg : ¬ ((depN j m : Int) < 0) := by omega
  by_cases he : p.length = depN j m
  · have ho : folO j m p.length = true := by simp [folO, he]; omega
    rw [folR, ho]
    refine Fresh.of (fn := Tryz.f85) Tryz.func85 rfl (Nat.le_of_ble_eq_true rfl) fun w => ?_
    (refine Gol.seq ?_; apply Gol.region; apply Trc.stp rfl rfl rfl; apply s_box; exact rfl
     exact rfl; dsimp only [Nat.reduceAdd, Nat.reduceMul, Nat.reduceSub, List.nil_append, List.cons_append, nbk, List.map_cons, List.map_nil]; apply Trc.stp rfl rfl rfl; apply s_alloc; dsimp only [Nat.reduceAdd, Nat.reduceMul, Nat.reduceSub, List.nil_append, List.cons_append, nbk, List.map_cons, List.map_nil]
     apply Trc.stp rfl rfl rfl; apply s_assign; exact rfl; dsimp only [Nat.reduceAdd, Nat.reduceMul, List.nil_append]
     exact Trc.done _ _ _; exact rfl; refine thn_n ?_; refine Gol.seq ?_; refine Gol.seq ?_; apply Gol.region
     apply Trc.stp rfl rfl rfl; apply s_move; exact rfl; dsimp only [Nat.reduceAdd, Nat.reduceMul, List.nil_append]
     apply Trc.stp rfl rfl rfl; apply s_move; exact rfl; dsimp only [Nat.reduceAdd, Nat.reduceMul, List.nil_append]
     apply Trc.stp rfl rfl rfl; apply s_call (f := 109) rfl; apply evs.cons rfl; apply evs.cons rfl; exact evs.nil; apply ArgL.cons
     exact arg_clo; apply ArgL.cons; exact arg_clo; exact ArgL.nil; exact depth_yes j m hjm (by omega); exact Nat.le_of_ble_eq_true rfl; dsimp only [Nat.reduceAdd, Nat.reduceMul, Nat.reduceSub, List.nil_append, List.cons_append, nbk, List.map_cons, List.map_nil]
     apply Trc.stp rfl rfl rfl; apply s_assign; exact rfl; dsimp only [Nat.reduceAdd, Nat.reduceMul, List.nil_append]
     exact Trc.done _ _ _; exact rfl; refine thn_n ?_; refine Gol.seq ?_; apply Gol.region; apply Trc.stp rfl rfl rfl; apply s_move; exact rfl; dsimp only [Nat.reduceAdd, Nat.reduceMul, List.nil_append]
     apply Trc.stp rfl rfl rfl; apply s_ltn; exact rfl; exact rfl; dsimp only [Nat.reduceAdd, Nat.reduceMul, List.nil_append]
     apply Trc.stp rfl rfl rfl; apply s_move; exact rfl; dsimp only [Nat.reduceAdd, Nat.reduceMul, List.nil_append]
     apply Trc.step rfl rfl; apply wnt_g; exact rfl; exact rfl; exact rfl; rfl; apply s_move; exact rfl; dsimp only [Nat.reduceAdd, Nat.reduceMul, List.nil_append]
     apply Trc.step rfl rfl; apply wnt_g; exact rfl; exact rfl; exact rfl; rfl; apply s_len; exact rfl; exact ln_ex; dsimp only [Nat.reduceAdd, Nat.reduceMul, List.nil_append]
     apply Trc.step rfl rfl; apply wnt_g; exact rfl; exact rfl; exact rfl; rfl; apply s_move; exact rfl; dsimp only [Nat.reduceAdd, Nat.reduceMul, List.nil_append]
     apply Trc.step rfl rfl; apply wnt_g; exact rfl; exact rfl; exact rfl; rfl; apply s_nen; exact rfl; exact rfl; dsimp only [Nat.reduceAdd, Nat.reduceMul, List.nil_append]
     apply Trc.stp rfl rfl rfl; apply s_pick_f; exact rfl; rfl; exact rfl; dsimp only [Nat.reduceAdd, Nat.reduceMul, List.nil_append]
     exact Trc.done _ _ _; exact rfl; refine thn_n ?_)
    refine Gol.cond_f rfl (by simp [he]) ?_
    (refine Gol.skip ?_; refine thn_n ?_; refine Gol.seq ?_; apply Gol.region; apply Trc.stp rfl rfl rfl; apply s_loadW; exact rfl; exact rfl; exact rfl; exact agu_cuv _; dsimp only [Nat.reduceAdd, Nat.reduceMul, List.nil_append]
     apply Trc.stp rfl rfl rfl; apply s_move; exact rfl; dsimp only [Nat.reduceAdd, Nat.reduceMul, List.nil_append]
     apply Trc.stp rfl rfl rfl; apply s_move; exact rfl; dsimp only [Nat.reduceAdd, Nat.reduceMul, List.nil_append]
     apply Trc.stp rfl rfl rfl; apply s_move; exact rfl; dsimp only [Nat.reduceAdd, Nat.reduceMul, List.nil_append]
     apply Trc.stp rfl rfl rfl; apply s_call (f := 113) rfl; apply evs.cons rfl; apply evs.cons rfl; apply evs.cons rfl
     apply evs.cons rfl; exact evs.nil; apply ArgL.cons; exact arg_clo; apply ArgL.cons; exact arg_clo; apply ArgL.cons; exact arg_clo; apply ArgL.cons; exact arg_clo
     exact ArgL.nil; exact computed_ok S hS leaf m j p _ _ hjm (by omega) he rfl hd; exact Nat.le_of_ble_eq_true rfl; dsimp only [Nat.reduceAdd, Nat.reduceMul, Nat.reduceSub, List.nil_append, List.cons_append, nbk, List.map_cons, List.map_nil]
     apply Trc.stepN rfl rfl; exact wnt_n rfl; apply s_storeW; exact rfl; exact rfl; exact rfl; exact rfl; rfl; exact rfl; dsimp only [Nat.reduceAdd, Nat.reduceMul, Nat.reduceSub, List.nil_append, List.cons_append, nbk, List.map_cons, List.map_nil]
     apply Trc.stp rfl rfl rfl; apply s_assign; exact rfl; dsimp only [Nat.reduceAdd, Nat.reduceMul, List.nil_append]
     exact Trc.done _ _ _; exact rfl; refine thn_n ?_; refine Gol.ret ?_)
    (apply RetQ.mk (by first | exact .inr rfl | exact .inl rfl); apply res_2 rfl; exact res_cell rfl rfl rfl (agu_cuv _); exact res_tmp rfl; exact out_val)
  · have ho : folO j m p.length = false := by simp [folO, he]
    rw [folR, ho]
    refine Fresh.of (fn := Tryz.f85) Tryz.func85 rfl (Nat.le_of_ble_eq_true rfl) fun w => ?_
    (refine Gol.seq ?_; apply Gol.region; apply Trc.stp rfl rfl rfl; apply s_box; exact rfl
     exact rfl; dsimp only [Nat.reduceAdd, Nat.reduceMul, Nat.reduceSub, List.nil_append, List.cons_append, nbk, List.map_cons, List.map_nil]; apply Trc.stp rfl rfl rfl; apply s_alloc; dsimp only [Nat.reduceAdd, Nat.reduceMul, Nat.reduceSub, List.nil_append, List.cons_append, nbk, List.map_cons, List.map_nil]
     apply Trc.stp rfl rfl rfl; apply s_assign; exact rfl; dsimp only [Nat.reduceAdd, Nat.reduceMul, List.nil_append]
     exact Trc.done _ _ _; exact rfl; refine thn_n ?_; refine Gol.seq ?_; refine Gol.seq ?_; apply Gol.region
     apply Trc.stp rfl rfl rfl; apply s_move; exact rfl; dsimp only [Nat.reduceAdd, Nat.reduceMul, List.nil_append]
     apply Trc.stp rfl rfl rfl; apply s_move; exact rfl; dsimp only [Nat.reduceAdd, Nat.reduceMul, List.nil_append]
     apply Trc.stp rfl rfl rfl; apply s_call (f := 109) rfl; apply evs.cons rfl; apply evs.cons rfl; exact evs.nil; apply ArgL.cons
     exact arg_clo; apply ArgL.cons; exact arg_clo; exact ArgL.nil; exact depth_yes j m hjm (by omega); exact Nat.le_of_ble_eq_true rfl; dsimp only [Nat.reduceAdd, Nat.reduceMul, Nat.reduceSub, List.nil_append, List.cons_append, nbk, List.map_cons, List.map_nil]
     apply Trc.stp rfl rfl rfl; apply s_assign; exact rfl; dsimp only [Nat.reduceAdd, Nat.reduceMul, List.nil_append]
     exact Trc.done _ _ _; exact rfl; refine thn_n ?_; refine Gol.seq ?_; apply Gol.region; apply Trc.stp rfl rfl rfl; apply s_move; exact rfl; dsimp only [Nat.reduceAdd, Nat.reduceMul, List.nil_append]
     apply Trc.stp rfl rfl rfl; apply s_ltn; exact rfl; exact rfl; dsimp only [Nat.reduceAdd, Nat.reduceMul, List.nil_append]
     apply Trc.stp rfl rfl rfl; apply s_move; exact rfl; dsimp only [Nat.reduceAdd, Nat.reduceMul, List.nil_append]
     apply Trc.step rfl rfl; apply wnt_g; exact rfl; exact rfl; exact rfl; rfl; apply s_move; exact rfl; dsimp only [Nat.reduceAdd, Nat.reduceMul, List.nil_append]
     apply Trc.step rfl rfl; apply wnt_g; exact rfl; exact rfl; exact rfl; rfl; apply s_len; exact rfl; exact ln_ex; dsimp only [Nat.reduceAdd, Nat.reduceMul, List.nil_append]
     apply Trc.step rfl rfl; apply wnt_g; exact rfl; exact rfl; exact rfl; rfl; apply s_move; exact rfl; dsimp only [Nat.reduceAdd, Nat.reduceMul, List.nil_append]
     apply Trc.step rfl rfl; apply wnt_g; exact rfl; exact rfl; exact rfl; rfl; apply s_nen; exact rfl; exact rfl; dsimp only [Nat.reduceAdd, Nat.reduceMul, List.nil_append]
     apply Trc.stp rfl rfl rfl; apply s_pick_f; exact rfl; rfl; exact rfl; dsimp only [Nat.reduceAdd, Nat.reduceMul, List.nil_append]
     exact Trc.done _ _ _; exact rfl; refine thn_n ?_)
    refine Gol.cond_t rfl (by simp [he]) ?_
    (refine Gol.seq ?_; apply Gol.region; apply Trc.stp rfl rfl rfl; apply s_zero; dsimp only [Nat.reduceAdd, Nat.reduceMul, Nat.reduceSub, List.nil_append, List.cons_append, nbk, List.map_cons, List.map_nil]
     apply Trc.stepN rfl rfl; exact wnt_n rfl; apply s_storeW; exact rfl; exact rfl; exact rfl; exact rfl; rfl; exact rfl; dsimp only [Nat.reduceAdd, Nat.reduceMul, Nat.reduceSub, List.nil_append, List.cons_append, nbk, List.map_cons, List.map_nil]
     apply Trc.stp rfl rfl rfl; apply s_assign; exact rfl; dsimp only [Nat.reduceAdd, Nat.reduceMul, List.nil_append]
     exact Trc.done _ _ _; exact rfl; refine thn_n ?_; refine Gol.ret ?_; refine thn_r ?_)
    (apply RetQ.mk (by first | exact .inr rfl | exact .inl rfl); apply res_2 rfl; exact res_cell rfl rfl rfl (agu_cuv _); exact res_tmp rfl; exact out_val)
theorem verify_ok (root leaf : UInt64) (i n : Int) (p : List UInt64) (f : Bool) (d : Nat) (hn : n ≤ 9223372036854775807) (hp : p.length = d) (hd : d ≤ 140737488355000) : Fresh Tryz.prog 41 [.v (.agg (nameC root)), .v (.agg (nameC leaf)), .v (.int .i64 i), .v (.int .i64 n), .ex d f (byA (flat p))] (fun _ => .v (.bool (folO i n d && folR S leaf i n p == root))) [] := by
  cases ho : folO i n d
  · apply Fresh.bool
    · refine Fresh.of (fn := Tryz.f41) Tryz.func41 rfl (Nat.le_of_ble_eq_true rfl) fun w => ?_
      (refine Gol.seq ?_; apply Gol.region; apply Trc.stp rfl rfl rfl; apply s_box; exact rfl
       exact rfl; dsimp only [Nat.reduceAdd, Nat.reduceMul, Nat.reduceSub, List.nil_append, List.cons_append, nbk, List.map_cons, List.map_nil]; apply Trc.stp rfl rfl rfl; apply s_box; exact rfl; exact rfl; dsimp only [Nat.reduceAdd, Nat.reduceMul, Nat.reduceSub, List.nil_append, List.cons_append, nbk, List.map_cons, List.map_nil]
       apply Trc.stp rfl rfl rfl; apply s_assign; exact rfl; dsimp only [Nat.reduceAdd, Nat.reduceMul, List.nil_append]
       exact Trc.done _ _ _; exact rfl; refine thn_n ?_; refine Gol.seq ?_; apply Gol.region; apply Trc.stp rfl rfl rfl; apply s_loadW; exact rfl; exact rfl; exact rfl; exact agu_cuv _; dsimp only [Nat.reduceAdd, Nat.reduceMul, List.nil_append]
       apply Trc.stp rfl rfl rfl; apply s_move; exact rfl; dsimp only [Nat.reduceAdd, Nat.reduceMul, List.nil_append]
       apply Trc.stp rfl rfl rfl; apply s_move; exact rfl; dsimp only [Nat.reduceAdd, Nat.reduceMul, List.nil_append]
       apply Trc.stp rfl rfl rfl; apply s_move; exact rfl; dsimp only [Nat.reduceAdd, Nat.reduceMul, List.nil_append]
       apply Trc.stp rfl rfl rfl; apply s_call (f := 85) rfl; apply evs.cons rfl; apply evs.cons rfl; apply evs.cons rfl
       apply evs.cons rfl; exact evs.nil; apply ArgL.cons; exact arg_clo; apply ArgL.cons; exact arg_clo; apply ArgL.cons; exact arg_clo; apply ArgL.cons; exact arg_clo
       exact ArgL.nil; exact follow_ok S hS leaf i n p _ d hn hp hd; exact Nat.le_of_ble_eq_true rfl; dsimp only [Nat.reduceAdd, Nat.reduceMul, Nat.reduceSub, List.nil_append, List.cons_append, nbk, List.map_cons, List.map_nil]
       apply Trc.stp rfl rfl rfl; apply s_move; exact rfl; dsimp only [Nat.reduceAdd, Nat.reduceMul, List.nil_append]
       apply Trc.stp rfl rfl rfl; apply s_extract; exact rfl; exact rfl; dsimp only [Nat.reduceAdd, Nat.reduceMul, List.nil_append]
       apply Trc.stp rfl rfl rfl; apply s_extract; exact rfl; exact rfl; dsimp only [Nat.reduceAdd, Nat.reduceMul, List.nil_append]
       apply Trc.stp rfl rfl rfl; apply s_alloc; dsimp only [Nat.reduceAdd, Nat.reduceMul, Nat.reduceSub, List.nil_append, List.cons_append, nbk, List.map_cons, List.map_nil]
       apply Trc.stepN rfl rfl; exact wnt_n rfl; apply s_storeW; exact rfl; exact rfl; exact rfl; exact rfl; rfl; exact rfl; dsimp only [Nat.reduceAdd, Nat.reduceMul, Nat.reduceSub, List.nil_append, List.cons_append, nbk, List.map_cons, List.map_nil]
       apply Trc.stp rfl rfl rfl; apply s_assign; exact rfl; dsimp only [Nat.reduceAdd, Nat.reduceMul, List.nil_append]
       exact Trc.done _ _ _; exact rfl; refine thn_n ?_; refine Gol.seq ?_; apply Gol.region; apply Trc.stp rfl rfl rfl; apply s_move; exact rfl; dsimp only [Nat.reduceAdd, Nat.reduceMul, List.nil_append]
       apply Trc.stp rfl rfl rfl; apply s_move; exact rfl; dsimp only [Nat.reduceAdd, Nat.reduceMul, List.nil_append]
       apply Trc.skip rfl rfl; apply wnt_g; exact rfl; exact rfl; exact rfl; (focus (simp only [*]; rfl)); dsimp only [Nat.reduceAdd, Nat.reduceMul, List.nil_append]
       apply Trc.skip rfl rfl; apply wnt_g; exact rfl; exact rfl; exact rfl; (focus (simp only [*]; rfl)); dsimp only [Nat.reduceAdd, Nat.reduceMul, List.nil_append]
       apply Trc.skip rfl rfl; apply wnt_g; exact rfl; exact rfl; exact rfl; (focus (simp only [*]; rfl)); dsimp only [Nat.reduceAdd, Nat.reduceMul, List.nil_append]
       apply Trc.stp rfl rfl rfl; apply s_pick_f; exact rfl; assumption; exact rfl; dsimp only [Nat.reduceAdd, Nat.reduceMul, List.nil_append]
       apply Trc.stp rfl rfl rfl; apply s_assign; exact rfl; dsimp only [Nat.reduceAdd, Nat.reduceMul, List.nil_append]
       exact Trc.done _ _ _; exact rfl; refine thn_n ?_; refine Gol.ret ?_)
      (apply RetQ.mk (by first | exact .inr rfl | exact .inl rfl); apply res_1 rfl; exact res_tmp rfl; exact out_val)
    · rfl
  · apply Fresh.bool
    · refine Fresh.of (fn := Tryz.f41) Tryz.func41 rfl (Nat.le_of_ble_eq_true rfl) fun w => ?_
      (refine Gol.seq ?_; apply Gol.region; apply Trc.stp rfl rfl rfl; apply s_box; exact rfl
       exact rfl; dsimp only [Nat.reduceAdd, Nat.reduceMul, Nat.reduceSub, List.nil_append, List.cons_append, nbk, List.map_cons, List.map_nil]; apply Trc.stp rfl rfl rfl; apply s_box; exact rfl; exact rfl; dsimp only [Nat.reduceAdd, Nat.reduceMul, Nat.reduceSub, List.nil_append, List.cons_append, nbk, List.map_cons, List.map_nil]
       apply Trc.stp rfl rfl rfl; apply s_assign; exact rfl; dsimp only [Nat.reduceAdd, Nat.reduceMul, List.nil_append]
       exact Trc.done _ _ _; exact rfl; refine thn_n ?_; refine Gol.seq ?_; apply Gol.region; apply Trc.stp rfl rfl rfl; apply s_loadW; exact rfl; exact rfl; exact rfl; exact agu_cuv _; dsimp only [Nat.reduceAdd, Nat.reduceMul, List.nil_append]
       apply Trc.stp rfl rfl rfl; apply s_move; exact rfl; dsimp only [Nat.reduceAdd, Nat.reduceMul, List.nil_append]
       apply Trc.stp rfl rfl rfl; apply s_move; exact rfl; dsimp only [Nat.reduceAdd, Nat.reduceMul, List.nil_append]
       apply Trc.stp rfl rfl rfl; apply s_move; exact rfl; dsimp only [Nat.reduceAdd, Nat.reduceMul, List.nil_append]
       apply Trc.stp rfl rfl rfl; apply s_call (f := 85) rfl; apply evs.cons rfl; apply evs.cons rfl; apply evs.cons rfl
       apply evs.cons rfl; exact evs.nil; apply ArgL.cons; exact arg_clo; apply ArgL.cons; exact arg_clo; apply ArgL.cons; exact arg_clo; apply ArgL.cons; exact arg_clo
       exact ArgL.nil; exact follow_ok S hS leaf i n p _ d hn hp hd; exact Nat.le_of_ble_eq_true rfl; dsimp only [Nat.reduceAdd, Nat.reduceMul, Nat.reduceSub, List.nil_append, List.cons_append, nbk, List.map_cons, List.map_nil]
       apply Trc.stp rfl rfl rfl; apply s_move; exact rfl; dsimp only [Nat.reduceAdd, Nat.reduceMul, List.nil_append]
       apply Trc.stp rfl rfl rfl; apply s_extract; exact rfl; exact rfl; dsimp only [Nat.reduceAdd, Nat.reduceMul, List.nil_append]
       apply Trc.stp rfl rfl rfl; apply s_extract; exact rfl; exact rfl; dsimp only [Nat.reduceAdd, Nat.reduceMul, List.nil_append]
       apply Trc.stp rfl rfl rfl; apply s_alloc; dsimp only [Nat.reduceAdd, Nat.reduceMul, Nat.reduceSub, List.nil_append, List.cons_append, nbk, List.map_cons, List.map_nil]
       apply Trc.stepN rfl rfl; exact wnt_n rfl; apply s_storeW; exact rfl; exact rfl; exact rfl; exact rfl; rfl; exact rfl; dsimp only [Nat.reduceAdd, Nat.reduceMul, Nat.reduceSub, List.nil_append, List.cons_append, nbk, List.map_cons, List.map_nil]
       apply Trc.stp rfl rfl rfl; apply s_assign; exact rfl; dsimp only [Nat.reduceAdd, Nat.reduceMul, List.nil_append]
       exact Trc.done _ _ _; exact rfl; refine thn_n ?_; refine Gol.seq ?_; apply Gol.region; apply Trc.stp rfl rfl rfl; apply s_move; exact rfl; dsimp only [Nat.reduceAdd, Nat.reduceMul, List.nil_append]
       apply Trc.stp rfl rfl rfl; apply s_move; exact rfl; dsimp only [Nat.reduceAdd, Nat.reduceMul, List.nil_append]
       apply Trc.step rfl rfl; apply wnt_g; exact rfl; exact rfl; exact rfl; (focus (simp only [*]; rfl)); apply s_loadW; exact rfl; exact rfl
       exact rfl; exact agu_cuv _; dsimp only [Nat.reduceAdd, Nat.reduceMul, List.nil_append]
       apply Trc.step rfl rfl; apply wnt_g; exact rfl; exact rfl; exact rfl; (focus (simp only [*]; rfl)); apply s_loadW; exact rfl; exact rfl
       exact rfl; exact agu_cuv _; dsimp only [Nat.reduceAdd, Nat.reduceMul, List.nil_append]
       apply Trc.step rfl rfl; apply wnt_g; exact rfl; exact rfl; exact rfl; (focus (simp only [*]; rfl)); apply s_eqN; exact rfl; exact rfl
       dsimp only [Nat.reduceAdd, Nat.reduceMul, List.nil_append]; apply Trc.stp rfl rfl rfl; apply s_pick_t; exact rfl; assumption; exact rfl; dsimp only [Nat.reduceAdd, Nat.reduceMul, List.nil_append]
       apply Trc.stp rfl rfl rfl; apply s_assign; exact rfl; dsimp only [Nat.reduceAdd, Nat.reduceMul, List.nil_append]
       exact Trc.done _ _ _; exact rfl; refine thn_n ?_; refine Gol.ret ?_)
      (apply RetQ.mk (by first | exact .inr rfl | exact .inl rfl); apply res_1 rfl; exact res_tmp rfl; exact out_val)
    · rfl
omit hS
theorem root_one {l : List UInt64} (h : l.length = 1) : rootN S l = S (0x11 :: nameB (l.getD 0 0)) := by rw [rootN, dif_neg (by omega), if_pos h]
theorem root_two {l : List UInt64} {n : Nat} (hl : l.length = n) (h : 2 ≤ n) : rootN S l = S (0x12 :: (nameB (rootN S (l.take (splitN n))) ++ nameB (rootN S (l.drop (splitN n))))) := by subst hl; rw [rootN, dif_pos h]
theorem comp_path : ∀ (n : Nat) (l : List UInt64) (i : Nat), l.length = n → i < n → compN S (l.getD i 0) i n (pathN S l i) = rootN S l := by
  intro n
  induction n using Nat.strongRecOn with
  | _ n ih =>
    intro l i hl hi
    by_cases h2 : 2 ≤ n
    · have hsp := split_bd n h2
      by_cases hk : i < splitN n
      · have hpl := path_len S (splitN n) (l.take (splitN n)) i (by simp; omega)
        have e1 : (l.take (splitN n)).getD i 0 = l.getD i 0 := by simp [List.getD_eq_getElem?_getD, List.getElem?_take, hk]
        rw [comp_lo S h2 hk, path_lo S hl h2 hk, dep_lo h2 hk, root_two S hl h2, Nat.add_sub_cancel]
        have e2 : (pathN S (l.take (splitN n)) i ++ [rootN S (l.drop (splitN n))]).take (depN i (splitN n)) = pathN S (l.take (splitN n)) i := List.take_left' hpl
        have e3 : (pathN S (l.take (splitN n)) i ++ [rootN S (l.drop (splitN n))]).getD (depN i (splitN n)) 0 = rootN S (l.drop (splitN n)) := by rw [← hpl]; simp [List.getD_eq_getElem?_getD]
        rw [e2, e3, ← e1, ih _ hsp.2.1 _ i (by simp; omega) hk]
      · have hpl := path_len S (n - splitN n) (l.drop (splitN n)) (i - splitN n) (by simp; omega)
        have e1 : (l.drop (splitN n)).getD (i - splitN n) 0 = l.getD i 0 := by simp [List.getD_eq_getElem?_getD, List.getElem?_drop]; rw [show splitN n + (i - splitN n) = i by omega]
        rw [comp_hi S h2 hk, path_hi S hl h2 hk, dep_hi h2 hk, root_two S hl h2, Nat.add_sub_cancel]
        have e2 : (pathN S (l.drop (splitN n)) (i - splitN n) ++ [rootN S (l.take (splitN n))]).take (depN (i - splitN n) (n - splitN n)) = pathN S (l.drop (splitN n)) (i - splitN n) := List.take_left' hpl
        have e3 : (pathN S (l.drop (splitN n)) (i - splitN n) ++ [rootN S (l.take (splitN n))]).getD (depN (i - splitN n) (n - splitN n)) 0 = rootN S (l.take (splitN n)) := by rw [← hpl]; simp [List.getD_eq_getElem?_getD]
        rw [e2, e3, ← e1, ih (n - splitN n) (by omega) _ (i - splitN n) (by simp; omega) (by omega)]
    · obtain rfl : i = 0 := by omega
      rw [comp_one S h2, root_one S (by omega)]
theorem fol_path (n : Nat) (l : List UInt64) (i : Nat) (hl : l.length = n) (hi : i < n) : folR S (l.getD i 0) i n (pathN S l i) = rootN S l ∧ folO i n (depN i n) = true := by
  have ho : folO i n (depN i n) = true := by simp [folO]; omega
  refine ⟨?_, ho⟩
  rw [folR, path_len S n l i hl, ho]
  simp only [Int.toNat_natCast, if_true]
  exact comp_path S n l i hl hi
include hS
end
end Go.Proofs.YtkkeeokeihkagaaGreat


/-
  Go's slices.Clone at the element types of layer 21. Conditions: lengths below 2^27.
-/
namespace Go.Proofs.YtkkeeokeihkagaaGreat
open Go.RowKit

section
variable {P : Program} {t e : TypeId} {size bytes : Nat} {z : Value} {k : Nat} {H : AH} {T : AT} {d : Option Tmp} {ty t' : TypeId} {ps : String} {af : Array Edge} {gd : Option (Nat × Bool)}
theorem guard_sl (op : BinOp) (x y : Operand) (A B : Option Addr) (n c m c' : Nat) (hS : SI P t e size bytes z) (w : World) : (eqGuard op t x y (.slice A n c) (.slice B m c')).run P w = .ok () w := by
  cases op <;> simp [eqGuard]
theorem run_eqsl (n : Nat) (hS : SI P t e size bytes z) (A : Option Addr) (m c : Nat) (w : World) : (Op.equalIn (n + 1) t (.slice A m c) (.slice none 0 0)).run P w = .ok A.isNone w := by
  cases A <;> simp only [Op.equalIn, Sem.run_bind, run_underlying hS.under, Result.andThen_ok, Sem.run_pure] <;> rfl
theorem run_eqsl' (hS : SI P t e size bytes z) (x y : Operand) (A : Option Addr) (m c : Nat) (w : World) : (do eqGuard .eql t x y (.slice A m c) (.slice none 0 0); binOp .eql t (.slice A m c) (.slice none 0 0) : Sem Value).run P w = .ok (.bool A.isNone) w := by
  have h : (Op.equal t (.slice A m c) (.slice none 0 0)).run P w = .ok A.isNone w := run_eqsl 9999 hS A m c w
  simp only [guard_sl (P := P) (t := t) .eql _ _ _ _ _ _ _ _ hS, binOp, Sem.run_bind, Result.andThen_ok, h, Sem.run_pure]
/-- s == nil -/
theorem s_eqNilV {x : Operand} {A : Option Addr} {n c : Nat} [hS : SI P t e size bytes z] (hx : ev T x = some (.v (.slice A n c))) :
    StepU P ⟨d, .binOp .eql t x (.const (.slice none 0 0)) t', ty, ps, af, gd⟩ k [] H T (.v (.bool A.isNone)) [] :=
  s_bin hx rfl fun w => run_eqsl' hS _ _ A n c w
theorem s_eqNilE {x : Operand} {n : Nat} {f : Bool} {cs : List AV} [hS : SI P t e size bytes z] (hx : ev T x = some (.ex n f cs)) (hne : cs ≠ []) :
    StepU P ⟨d, .binOp .eql t x (.const (.slice none 0 0)) t', ty, ps, af, gd⟩ k [] H T (.v (.bool false)) [] :=
  .of_pure fun _ _ _ E a hs hU hT => by
    have hv := hT x (by simp [Op.operands]) _ hx
    generalize hxv : a.eval x = v at hv
    cases hv with
    | ex0 => exact absurd rfl hne
    | ex n f cs g o c xs hn hf hg hS' hl hx' h =>
      refine ⟨.bool false, ?_, .v _⟩
      have hc : a.eval (.const (.slice none 0 0)) = .slice none 0 0 := rfl
      have hr := run_eqsl' hS x (.const (.slice none 0 0)) (some ⟨g, o, none⟩) n c E.w
      simp only [execOp, hxv, hc]
      rw [Sem.run_bind, hr]
      rfl
end
theorem rd_empty {H : AH} {sz : Nat} {A : Option Addr} {c : Nat} : Rdv H sz (.v (.slice A 0 c)) 0 [] [] := fun _ _ _ E x _ _ h => by
  have := h.v_inv; subst this; exact ⟨A, c, [], rfl, Nat.zero_le _, RVs.nil E, by simp, .inl rfl⟩
theorem ex_nil_split {P : Program} {f : FuncId} {fl : Bool} {v : Nat → AV} {bs : List ABlk} (h : ∀ A c, Fresh P f [.v (.slice A 0 c)] v bs) : Fresh P f [.ex 0 fl []] v bs := fun E0 xs hS hD hx => by
  obtain ⟨x, rfl, h1⟩ := arg1 hx
  obtain ⟨A, c, rfl, _⟩ := ex_slice h1
  exact h A c E0 _ hS hD (RVs.cons (.v _) (RVs.nil E0))
theorem nsA_length (l : List UInt64) : (byA (flat l)).length = l.length * 8 := by rw [byA_length, flat_length]
theorem inA_length1 (l : List Int) : (inA l).length = l.length * 1 := by rw [inA_length, Nat.mul_one]
theorem zeroA_len {z : Value} {n s : Nat} (h : z.cells.size = s) : (zeroA z n).length = n * s := by rw [zeroA_length, h]
theorem spl_mid {A Z ds : List AV} {a x : Nat} (ha : A.length = a) (hx : ds.length = x) : spl (A ++ Z) a ds = A ++ ds ++ Z.drop x := by
  subst ha hx
  unfold spl
  rw [List.take_left, List.drop_length_add_append]
theorem spl_end {A Z ds : List AV} {a : Nat} (ha : A.length = a) (hz : Z.length = ds.length) : spl (A ++ Z) a ds = A ++ ds := by
  rw [spl_mid ha rfl, ← hz, List.drop_length, List.append_nil]
theorem spl_room {cs Z X : List AV} {a b s : Nat} (hX : X.length = s) (hZ : Z.length = s) (ha : a ≤ cs.length) (hb : b = a + s) : spl (spl (cs ++ Z) b (cs.drop a)) a X = cs.take a ++ X ++ cs.drop a := by
  subst hb
  have h1 : spl (cs ++ Z) (a + s) (cs.drop a) = (cs ++ Z).take (a + s) ++ cs.drop a := by
    unfold spl
    rw [List.drop_of_length_le (l := cs ++ Z) (by rw [List.length_append, List.length_drop]; omega), List.append_nil]
  have hl : ((cs ++ Z).take (a + s)).length = a + s := by rw [List.length_take, List.length_append]; omega
  rw [h1]
  unfold spl
  rw [hX, List.drop_left' hl, List.take_append_of_le_length (by omega), List.take_take, Nat.min_eq_left (by omega), List.take_append_of_le_length ha]
theorem take_mid {cs Z : List AV} {a p q : Nat} (ha : a ≤ cs.length) (hq : q = cs.length - a) (hp : q ≤ p) : (((cs ++ Z).drop a).take p).take q = cs.drop a := by
  rw [List.take_take, Nat.min_eq_left hp, List.drop_append_of_le_length ha, List.take_append_of_le_length (by rw [List.length_drop]; omega), List.take_of_length_le (by rw [List.length_drop]; omega)]
theorem take_all {cs : List AV} {p q : Nat} (hq : cs.length ≤ q) (hp : cs.length ≤ p) : (cs.take p).take q = cs := by
  rw [List.take_take, List.take_of_length_le (by omega)]
theorem zeroA_ones {z : Value} {n : Nat} (h : z.cells.toList.all (·.oneCell') = true) : (zeroA z n).all AV.one = true := by
  refine List.all_eq_true.2 fun y hy => ?_
  obtain ⟨x, hx, rfl⟩ := List.mem_map.1 hy
  show x.oneCell' = true
  simp only [Builtin.zeroCells, Array.toList_map, List.mem_map, Array.mem_toList_iff, Array.mem_range] at hx
  obtain ⟨i, hi, rfl⟩ := hx
  have hp : 0 < z.cells.size := by
    rcases Nat.eq_zero_or_pos z.cells.size with h0 | h0
    · rw [h0] at hi; omega
    · exact h0
  have hlt : i % z.cells.size < z.cells.size := Nat.mod_lt _ hp
  have hm : z.cells[i % z.cells.size]! ∈ z.cells.toList := by
    rw [getElem!_pos z.cells _ hlt]; exact Array.getElem_mem_toList hlt
  exact List.all_eq_true.1 h _ hm
theorem del_cells {cs D Z : List AV} {a b m : Nat} (ha : a ≤ cs.length) (hb : b = a + D.length) (hX : b ≤ cs.length) (hm : m = b) : (spl (spl cs a D) b Z).take m = cs.take a ++ D := by
  subst hm
  have hl : (spl cs a D).length = cs.length := spl_length _ _ _ (by omega)
  have h1 : (spl (spl cs a D) m Z).take m = (spl cs a D).take m := by
    show ((spl cs a D).take m ++ Z ++ _).take m = _
    rw [List.append_assoc, List.take_left' (by rw [List.length_take]; omega)]
  rw [h1]
  show (cs.take a ++ D ++ _).take m = _
  rw [List.take_left' (by rw [List.length_append, List.length_take]; omega)]
theorem cloneD_v (A : Option Addr) (c : Nat) : Fresh Tryz.prog 86 [.v (.slice A 0 c)] (fun k => .sl k 0) [⟨dsA [], 46, 11⟩] := by
  cases A with
  | none =>
    apply Fresh.nilV
    refine Fresh.of (fn := Tryz.f86) Tryz.func86 rfl (Nat.le_of_ble_eq_true rfl) fun w => ?_
    (refine Gol.seq ?_; apply Gol.region; apply Trc.stp rfl rfl rfl; apply s_assign; exact rfl
     dsimp only [Nat.reduceAdd, Nat.reduceMul, List.nil_append]; exact Trc.done _ _ _; exact rfl
     refine thn_n ?_; refine Gol.seq ?_; refine Gol.seq ?_; apply Gol.region; apply Trc.stp rfl rfl rfl; apply s_move; exact rfl; dsimp only [Nat.reduceAdd, Nat.reduceMul, List.nil_append]
     apply Trc.stp rfl rfl rfl; apply s_eqNilV; exact rfl; dsimp only [Nat.reduceAdd, Nat.reduceMul, Nat.reduceSub, List.nil_append, List.cons_append, nbk, List.map_cons, List.map_nil]
     exact Trc.done _ _ _; exact rfl; refine thn_n ?_)
    refine Gol.cond_t rfl rfl ?_
    (refine Gol.seq ?_; apply Gol.region; apply Trc.stp rfl rfl rfl; apply s_assign; exact rfl
     dsimp only [Nat.reduceAdd, Nat.reduceMul, List.nil_append]; exact Trc.done _ _ _; exact rfl
     refine thn_n ?_; refine Gol.ret ?_; refine thn_r ?_)
    (apply RetQ.mk (by first | exact .inr rfl | exact .inl rfl); apply res_1 rfl; exact res_tmp rfl; exact out_val)
  | some a =>
    refine Fresh.of (fn := Tryz.f86) Tryz.func86 rfl (Nat.le_of_ble_eq_true rfl) fun w => ?_
    (refine Gol.seq ?_; apply Gol.region; apply Trc.stp rfl rfl rfl; apply s_assign; exact rfl
     dsimp only [Nat.reduceAdd, Nat.reduceMul, List.nil_append]; exact Trc.done _ _ _; exact rfl
     refine thn_n ?_; refine Gol.seq ?_; refine Gol.seq ?_; apply Gol.region; apply Trc.stp rfl rfl rfl; apply s_move; exact rfl; dsimp only [Nat.reduceAdd, Nat.reduceMul, List.nil_append]
     apply Trc.stp rfl rfl rfl; apply s_eqNilV; exact rfl; dsimp only [Nat.reduceAdd, Nat.reduceMul, Nat.reduceSub, List.nil_append, List.cons_append, nbk, List.map_cons, List.map_nil]
     exact Trc.done _ _ _; exact rfl; refine thn_n ?_)
    refine Gol.cond_f rfl rfl ?_
    (refine Gol.skip ?_; refine thn_n ?_; refine Gol.seq ?_; apply Gol.region; apply Trc.stp rfl rfl rfl; apply s_lit; exact PA.nil; exact rfl; omega; dsimp only [Nat.reduceAdd, Nat.reduceMul, Nat.reduceSub, List.nil_append, List.cons_append, nbk, List.map_cons, List.map_nil]
     apply Trc.stp rfl rfl rfl; apply s_move; exact rfl; dsimp only [Nat.reduceAdd, Nat.reduceMul, List.nil_append]
     apply Trc.stp rfl rfl rfl; apply s_app; exact rfl; exact rfl; exact rfl; exact rd_empty; exact rfl; exact rfl; exact rfl; exact rfl; exact Nat.le_of_ble_eq_true rfl
     dsimp only [Nat.reduceAdd, Nat.reduceMul, Nat.reduceSub, List.nil_append, List.cons_append, nbk, List.map_cons, List.map_nil]; apply Trc.stp rfl rfl rfl; apply s_assign; exact rfl; dsimp only [Nat.reduceAdd, Nat.reduceMul, List.nil_append]
     exact Trc.done _ _ _; exact rfl; refine thn_n ?_; refine Gol.ret ?_)
    (apply RetQ.mk (by first | exact .inr rfl | exact .inl rfl); apply res_1 rfl; exact res_tmp rfl; exact out_sl rfl)
theorem cloneD_ok (l : List Dl) (fl : Bool) (hl : l.length ≤ 100000000) : Fresh Tryz.prog 86 [.ex l.length fl (dsA l)] (fun k => .sl k l.length) [⟨dsA l, 46, 11⟩] := by
  by_cases h : l = []
  · subst h
    exact ex_nil_split (fun A c => cloneD_v A c)
  · have hll : 0 < l.length := List.length_pos_iff.2 h
    have hlen : (dsA l).length = l.length * 11 := dsA_length l
    have hne : dsA l ≠ [] := fun e => by rw [e] at hlen; simp at hlen; omega
    refine Fresh.of (fn := Tryz.f86) Tryz.func86 rfl (Nat.le_of_ble_eq_true rfl) fun w => ?_
    (refine Gol.seq ?_; apply Gol.region; apply Trc.stp rfl rfl rfl; apply s_assign; exact rfl
     dsimp only [Nat.reduceAdd, Nat.reduceMul, List.nil_append]; exact Trc.done _ _ _; exact rfl
     refine thn_n ?_; refine Gol.seq ?_; refine Gol.seq ?_; apply Gol.region; apply Trc.stp rfl rfl rfl; apply s_move; exact rfl; dsimp only [Nat.reduceAdd, Nat.reduceMul, List.nil_append]
     apply Trc.stp rfl rfl rfl; apply s_eqNilE; exact rfl; exact hne; dsimp only [Nat.reduceAdd, Nat.reduceMul, Nat.reduceSub, List.nil_append, List.cons_append, nbk, List.map_cons, List.map_nil]
     exact Trc.done _ _ _; exact rfl; refine thn_n ?_)
    refine Gol.cond_f rfl rfl ?_
    (refine Gol.skip ?_; refine thn_n ?_; refine Gol.seq ?_; apply Gol.region; apply Trc.stp rfl rfl rfl; apply s_lit; exact PA.nil; exact rfl; omega; dsimp only [Nat.reduceAdd, Nat.reduceMul, Nat.reduceSub, List.nil_append, List.cons_append, nbk, List.map_cons, List.map_nil]
     apply Trc.stp rfl rfl rfl; apply s_move; exact rfl; dsimp only [Nat.reduceAdd, Nat.reduceMul, List.nil_append]
     apply Trc.stp rfl rfl rfl; apply s_app; exact rfl; exact rfl; exact rfl; apply rd_ex; assumption; rfl; exact rfl; exact rfl
     exact OneL.one; omega; dsimp only [Nat.reduceAdd, Nat.reduceMul, Nat.reduceSub, List.nil_append, List.cons_append, nbk, List.map_cons, List.map_nil]; apply Trc.stp rfl rfl rfl; apply s_assign; exact rfl; dsimp only [Nat.reduceAdd, Nat.reduceMul, List.nil_append]
     exact Trc.done _ _ _; exact rfl; refine thn_n ?_; refine Gol.ret ?_)
    simp only [Nat.zero_add, List.nil_append]
    (apply RetQ.mk (by first | exact .inr rfl | exact .inl rfl); apply res_1 rfl; exact res_tmp rfl; exact out_sl rfl)
theorem cloneL_v (A : Option Addr) (c : Nat) : Fresh Tryz.prog 88 [.v (.slice A 0 c)] (fun k => .sl k 0) [⟨lsA [], 50, 19⟩] := by
  cases A with
  | none =>
    apply Fresh.nilV
    refine Fresh.of (fn := Tryz.f88) Tryz.func88 rfl (Nat.le_of_ble_eq_true rfl) fun w => ?_
    (refine Gol.seq ?_; apply Gol.region; apply Trc.stp rfl rfl rfl; apply s_assign; exact rfl
     dsimp only [Nat.reduceAdd, Nat.reduceMul, List.nil_append]; exact Trc.done _ _ _; exact rfl
     refine thn_n ?_; refine Gol.seq ?_; refine Gol.seq ?_; apply Gol.region; apply Trc.stp rfl rfl rfl; apply s_move; exact rfl; dsimp only [Nat.reduceAdd, Nat.reduceMul, List.nil_append]
     apply Trc.stp rfl rfl rfl; apply s_eqNilV; exact rfl; dsimp only [Nat.reduceAdd, Nat.reduceMul, Nat.reduceSub, List.nil_append, List.cons_append, nbk, List.map_cons, List.map_nil]
     exact Trc.done _ _ _; exact rfl; refine thn_n ?_)
    refine Gol.cond_t rfl rfl ?_
    (refine Gol.seq ?_; apply Gol.region; apply Trc.stp rfl rfl rfl; apply s_assign; exact rfl
     dsimp only [Nat.reduceAdd, Nat.reduceMul, List.nil_append]; exact Trc.done _ _ _; exact rfl
     refine thn_n ?_; refine Gol.ret ?_; refine thn_r ?_)
    (apply RetQ.mk (by first | exact .inr rfl | exact .inl rfl); apply res_1 rfl; exact res_tmp rfl; exact out_val)
  | some a =>
    refine Fresh.of (fn := Tryz.f88) Tryz.func88 rfl (Nat.le_of_ble_eq_true rfl) fun w => ?_
    (refine Gol.seq ?_; apply Gol.region; apply Trc.stp rfl rfl rfl; apply s_assign; exact rfl
     dsimp only [Nat.reduceAdd, Nat.reduceMul, List.nil_append]; exact Trc.done _ _ _; exact rfl
     refine thn_n ?_; refine Gol.seq ?_; refine Gol.seq ?_; apply Gol.region; apply Trc.stp rfl rfl rfl; apply s_move; exact rfl; dsimp only [Nat.reduceAdd, Nat.reduceMul, List.nil_append]
     apply Trc.stp rfl rfl rfl; apply s_eqNilV; exact rfl; dsimp only [Nat.reduceAdd, Nat.reduceMul, Nat.reduceSub, List.nil_append, List.cons_append, nbk, List.map_cons, List.map_nil]
     exact Trc.done _ _ _; exact rfl; refine thn_n ?_)
    refine Gol.cond_f rfl rfl ?_
    (refine Gol.skip ?_; refine thn_n ?_; refine Gol.seq ?_; apply Gol.region; apply Trc.stp rfl rfl rfl; apply s_lit; exact PA.nil; exact rfl; omega; dsimp only [Nat.reduceAdd, Nat.reduceMul, Nat.reduceSub, List.nil_append, List.cons_append, nbk, List.map_cons, List.map_nil]
     apply Trc.stp rfl rfl rfl; apply s_move; exact rfl; dsimp only [Nat.reduceAdd, Nat.reduceMul, List.nil_append]
     apply Trc.stp rfl rfl rfl; apply s_app; exact rfl; exact rfl; exact rfl; exact rd_empty; exact rfl; exact rfl; exact rfl; exact rfl; exact Nat.le_of_ble_eq_true rfl
     dsimp only [Nat.reduceAdd, Nat.reduceMul, Nat.reduceSub, List.nil_append, List.cons_append, nbk, List.map_cons, List.map_nil]; apply Trc.stp rfl rfl rfl; apply s_assign; exact rfl; dsimp only [Nat.reduceAdd, Nat.reduceMul, List.nil_append]
     exact Trc.done _ _ _; exact rfl; refine thn_n ?_; refine Gol.ret ?_)
    (apply RetQ.mk (by first | exact .inr rfl | exact .inl rfl); apply res_1 rfl; exact res_tmp rfl; exact out_sl rfl)
theorem cloneL_ok (l : List Lk) (fl : Bool) (hl : l.length ≤ 100000000) : Fresh Tryz.prog 88 [.ex l.length fl (lsA l)] (fun k => .sl k l.length) [⟨lsA l, 50, 19⟩] := by
  by_cases h : l = []
  · subst h
    exact ex_nil_split (fun A c => cloneL_v A c)
  · have hll : 0 < l.length := List.length_pos_iff.2 h
    have hlen : (lsA l).length = l.length * 19 := lsA_length l
    have hne : lsA l ≠ [] := fun e => by rw [e] at hlen; simp at hlen; omega
    refine Fresh.of (fn := Tryz.f88) Tryz.func88 rfl (Nat.le_of_ble_eq_true rfl) fun w => ?_
    (refine Gol.seq ?_; apply Gol.region; apply Trc.stp rfl rfl rfl; apply s_assign; exact rfl
     dsimp only [Nat.reduceAdd, Nat.reduceMul, List.nil_append]; exact Trc.done _ _ _; exact rfl
     refine thn_n ?_; refine Gol.seq ?_; refine Gol.seq ?_; apply Gol.region; apply Trc.stp rfl rfl rfl; apply s_move; exact rfl; dsimp only [Nat.reduceAdd, Nat.reduceMul, List.nil_append]
     apply Trc.stp rfl rfl rfl; apply s_eqNilE; exact rfl; exact hne; dsimp only [Nat.reduceAdd, Nat.reduceMul, Nat.reduceSub, List.nil_append, List.cons_append, nbk, List.map_cons, List.map_nil]
     exact Trc.done _ _ _; exact rfl; refine thn_n ?_)
    refine Gol.cond_f rfl rfl ?_
    (refine Gol.skip ?_; refine thn_n ?_; refine Gol.seq ?_; apply Gol.region; apply Trc.stp rfl rfl rfl; apply s_lit; exact PA.nil; exact rfl; omega; dsimp only [Nat.reduceAdd, Nat.reduceMul, Nat.reduceSub, List.nil_append, List.cons_append, nbk, List.map_cons, List.map_nil]
     apply Trc.stp rfl rfl rfl; apply s_move; exact rfl; dsimp only [Nat.reduceAdd, Nat.reduceMul, List.nil_append]
     apply Trc.stp rfl rfl rfl; apply s_app; exact rfl; exact rfl; exact rfl; apply rd_ex; assumption; rfl; exact rfl; exact rfl
     exact OneL.one; omega; dsimp only [Nat.reduceAdd, Nat.reduceMul, Nat.reduceSub, List.nil_append, List.cons_append, nbk, List.map_cons, List.map_nil]; apply Trc.stp rfl rfl rfl; apply s_assign; exact rfl; dsimp only [Nat.reduceAdd, Nat.reduceMul, List.nil_append]
     exact Trc.done _ _ _; exact rfl; refine thn_n ?_; refine Gol.ret ?_)
    simp only [Nat.zero_add, List.nil_append]
    (apply RetQ.mk (by first | exact .inr rfl | exact .inl rfl); apply res_1 rfl; exact res_tmp rfl; exact out_sl rfl)
theorem cloneN_v (A : Option Addr) (c : Nat) : Fresh Tryz.prog 89 [.v (.slice A 0 c)] (fun k => .sl k 0) [⟨byA (flat []), 30, 8⟩] := by
  cases A with
  | none =>
    apply Fresh.nilV
    refine Fresh.of (fn := Tryz.f89) Tryz.func89 rfl (Nat.le_of_ble_eq_true rfl) fun w => ?_
    (refine Gol.seq ?_; apply Gol.region; apply Trc.stp rfl rfl rfl; apply s_assign; exact rfl
     dsimp only [Nat.reduceAdd, Nat.reduceMul, List.nil_append]; exact Trc.done _ _ _; exact rfl
     refine thn_n ?_; refine Gol.seq ?_; refine Gol.seq ?_; apply Gol.region; apply Trc.stp rfl rfl rfl; apply s_move; exact rfl; dsimp only [Nat.reduceAdd, Nat.reduceMul, List.nil_append]
     apply Trc.stp rfl rfl rfl; apply s_eqNilV; exact rfl; dsimp only [Nat.reduceAdd, Nat.reduceMul, Nat.reduceSub, List.nil_append, List.cons_append, nbk, List.map_cons, List.map_nil]
     exact Trc.done _ _ _; exact rfl; refine thn_n ?_)
    refine Gol.cond_t rfl rfl ?_
    (refine Gol.seq ?_; apply Gol.region; apply Trc.stp rfl rfl rfl; apply s_assign; exact rfl
     dsimp only [Nat.reduceAdd, Nat.reduceMul, List.nil_append]; exact Trc.done _ _ _; exact rfl
     refine thn_n ?_; refine Gol.ret ?_; refine thn_r ?_)
    (apply RetQ.mk (by first | exact .inr rfl | exact .inl rfl); apply res_1 rfl; exact res_tmp rfl; exact out_val)
  | some a =>
    refine Fresh.of (fn := Tryz.f89) Tryz.func89 rfl (Nat.le_of_ble_eq_true rfl) fun w => ?_
    (refine Gol.seq ?_; apply Gol.region; apply Trc.stp rfl rfl rfl; apply s_assign; exact rfl
     dsimp only [Nat.reduceAdd, Nat.reduceMul, List.nil_append]; exact Trc.done _ _ _; exact rfl
     refine thn_n ?_; refine Gol.seq ?_; refine Gol.seq ?_; apply Gol.region; apply Trc.stp rfl rfl rfl; apply s_move; exact rfl; dsimp only [Nat.reduceAdd, Nat.reduceMul, List.nil_append]
     apply Trc.stp rfl rfl rfl; apply s_eqNilV; exact rfl; dsimp only [Nat.reduceAdd, Nat.reduceMul, Nat.reduceSub, List.nil_append, List.cons_append, nbk, List.map_cons, List.map_nil]
     exact Trc.done _ _ _; exact rfl; refine thn_n ?_)
    refine Gol.cond_f rfl rfl ?_
    (refine Gol.skip ?_; refine thn_n ?_; refine Gol.seq ?_; apply Gol.region; apply Trc.stp rfl rfl rfl; apply s_lit; exact PA.nil; exact rfl; omega; dsimp only [Nat.reduceAdd, Nat.reduceMul, Nat.reduceSub, List.nil_append, List.cons_append, nbk, List.map_cons, List.map_nil]
     apply Trc.stp rfl rfl rfl; apply s_move; exact rfl; dsimp only [Nat.reduceAdd, Nat.reduceMul, List.nil_append]
     apply Trc.stp rfl rfl rfl; apply s_app; exact rfl; exact rfl; exact rfl; exact rd_empty; exact rfl; exact rfl; exact rfl; exact rfl; exact Nat.le_of_ble_eq_true rfl
     dsimp only [Nat.reduceAdd, Nat.reduceMul, Nat.reduceSub, List.nil_append, List.cons_append, nbk, List.map_cons, List.map_nil]; apply Trc.stp rfl rfl rfl; apply s_assign; exact rfl; dsimp only [Nat.reduceAdd, Nat.reduceMul, List.nil_append]
     exact Trc.done _ _ _; exact rfl; refine thn_n ?_; refine Gol.ret ?_)
    (apply RetQ.mk (by first | exact .inr rfl | exact .inl rfl); apply res_1 rfl; exact res_tmp rfl; exact out_sl rfl)
theorem cloneN_ok (l : List UInt64) (fl : Bool) (hl : l.length ≤ 100000000) : Fresh Tryz.prog 89 [.ex l.length fl (byA (flat l))] (fun k => .sl k l.length) [⟨byA (flat l), 30, 8⟩] := by
  by_cases h : l = []
  · subst h
    exact ex_nil_split (fun A c => cloneN_v A c)
  · have hll : 0 < l.length := List.length_pos_iff.2 h
    have hlen : (byA (flat l)).length = l.length * 8 := nsA_length l
    have hne : byA (flat l) ≠ [] := fun e => by rw [e] at hlen; simp at hlen; omega
    refine Fresh.of (fn := Tryz.f89) Tryz.func89 rfl (Nat.le_of_ble_eq_true rfl) fun w => ?_
    (refine Gol.seq ?_; apply Gol.region; apply Trc.stp rfl rfl rfl; apply s_assign; exact rfl
     dsimp only [Nat.reduceAdd, Nat.reduceMul, List.nil_append]; exact Trc.done _ _ _; exact rfl
     refine thn_n ?_; refine Gol.seq ?_; refine Gol.seq ?_; apply Gol.region; apply Trc.stp rfl rfl rfl; apply s_move; exact rfl; dsimp only [Nat.reduceAdd, Nat.reduceMul, List.nil_append]
     apply Trc.stp rfl rfl rfl; apply s_eqNilE; exact rfl; exact hne; dsimp only [Nat.reduceAdd, Nat.reduceMul, Nat.reduceSub, List.nil_append, List.cons_append, nbk, List.map_cons, List.map_nil]
     exact Trc.done _ _ _; exact rfl; refine thn_n ?_)
    refine Gol.cond_f rfl rfl ?_
    (refine Gol.skip ?_; refine thn_n ?_; refine Gol.seq ?_; apply Gol.region; apply Trc.stp rfl rfl rfl; apply s_lit; exact PA.nil; exact rfl; omega; dsimp only [Nat.reduceAdd, Nat.reduceMul, Nat.reduceSub, List.nil_append, List.cons_append, nbk, List.map_cons, List.map_nil]
     apply Trc.stp rfl rfl rfl; apply s_move; exact rfl; dsimp only [Nat.reduceAdd, Nat.reduceMul, List.nil_append]
     apply Trc.stp rfl rfl rfl; apply s_app; exact rfl; exact rfl; exact rfl; apply rd_ex; assumption; rfl; exact rfl; exact rfl
     exact OneL.one; omega; dsimp only [Nat.reduceAdd, Nat.reduceMul, Nat.reduceSub, List.nil_append, List.cons_append, nbk, List.map_cons, List.map_nil]; apply Trc.stp rfl rfl rfl; apply s_assign; exact rfl; dsimp only [Nat.reduceAdd, Nat.reduceMul, List.nil_append]
     exact Trc.done _ _ _; exact rfl; refine thn_n ?_; refine Gol.ret ?_)
    simp only [Nat.zero_add, List.nil_append]
    (apply RetQ.mk (by first | exact .inr rfl | exact .inl rfl); apply res_1 rfl; exact res_tmp rfl; exact out_sl rfl)
theorem cloneI_v (A : Option Addr) (c : Nat) : Fresh Tryz.prog 87 [.v (.slice A 0 c)] (fun k => .sl k 0) [⟨inA [], 3, 1⟩] := by
  cases A with
  | none =>
    apply Fresh.nilV
    refine Fresh.of (fn := Tryz.f87) Tryz.func87 rfl (Nat.le_of_ble_eq_true rfl) fun w => ?_
    (refine Gol.seq ?_; apply Gol.region; apply Trc.stp rfl rfl rfl; apply s_assign; exact rfl
     dsimp only [Nat.reduceAdd, Nat.reduceMul, List.nil_append]; exact Trc.done _ _ _; exact rfl
     refine thn_n ?_; refine Gol.seq ?_; refine Gol.seq ?_; apply Gol.region; apply Trc.stp rfl rfl rfl; apply s_move; exact rfl; dsimp only [Nat.reduceAdd, Nat.reduceMul, List.nil_append]
     apply Trc.stp rfl rfl rfl; apply s_eqNilV; exact rfl; dsimp only [Nat.reduceAdd, Nat.reduceMul, Nat.reduceSub, List.nil_append, List.cons_append, nbk, List.map_cons, List.map_nil]
     exact Trc.done _ _ _; exact rfl; refine thn_n ?_)
    refine Gol.cond_t rfl rfl ?_
    (refine Gol.seq ?_; apply Gol.region; apply Trc.stp rfl rfl rfl; apply s_assign; exact rfl
     dsimp only [Nat.reduceAdd, Nat.reduceMul, List.nil_append]; exact Trc.done _ _ _; exact rfl
     refine thn_n ?_; refine Gol.ret ?_; refine thn_r ?_)
    (apply RetQ.mk (by first | exact .inr rfl | exact .inl rfl); apply res_1 rfl; exact res_tmp rfl; exact out_val)
  | some a =>
    refine Fresh.of (fn := Tryz.f87) Tryz.func87 rfl (Nat.le_of_ble_eq_true rfl) fun w => ?_
    (refine Gol.seq ?_; apply Gol.region; apply Trc.stp rfl rfl rfl; apply s_assign; exact rfl
     dsimp only [Nat.reduceAdd, Nat.reduceMul, List.nil_append]; exact Trc.done _ _ _; exact rfl
     refine thn_n ?_; refine Gol.seq ?_; refine Gol.seq ?_; apply Gol.region; apply Trc.stp rfl rfl rfl; apply s_move; exact rfl; dsimp only [Nat.reduceAdd, Nat.reduceMul, List.nil_append]
     apply Trc.stp rfl rfl rfl; apply s_eqNilV; exact rfl; dsimp only [Nat.reduceAdd, Nat.reduceMul, Nat.reduceSub, List.nil_append, List.cons_append, nbk, List.map_cons, List.map_nil]
     exact Trc.done _ _ _; exact rfl; refine thn_n ?_)
    refine Gol.cond_f rfl rfl ?_
    (refine Gol.skip ?_; refine thn_n ?_; refine Gol.seq ?_; apply Gol.region; apply Trc.stp rfl rfl rfl; apply s_bytesP; exact PV.nil; exact rfl; omega; dsimp only [Nat.reduceAdd, Nat.reduceMul, Nat.reduceSub, List.nil_append, List.cons_append, nbk, List.map_cons, List.map_nil]
     apply Trc.stp rfl rfl rfl; apply s_move; exact rfl; dsimp only [Nat.reduceAdd, Nat.reduceMul, List.nil_append]
     apply Trc.stp rfl rfl rfl; apply s_app; exact rfl; exact rfl; exact rfl; exact rd_empty; exact rfl; exact rfl; exact rfl; exact rfl; exact Nat.le_of_ble_eq_true rfl
     dsimp only [Nat.reduceAdd, Nat.reduceMul, Nat.reduceSub, List.nil_append, List.cons_append, nbk, List.map_cons, List.map_nil]; apply Trc.stp rfl rfl rfl; apply s_assign; exact rfl; dsimp only [Nat.reduceAdd, Nat.reduceMul, List.nil_append]
     exact Trc.done _ _ _; exact rfl; refine thn_n ?_; refine Gol.ret ?_)
    (apply RetQ.mk (by first | exact .inr rfl | exact .inl rfl); apply res_1 rfl; exact res_tmp rfl; exact out_sl rfl)
theorem cloneI_ok (l : List Int) (fl : Bool) (hl : l.length ≤ 100000000) : Fresh Tryz.prog 87 [.ex l.length fl (inA l)] (fun k => .sl k l.length) [⟨inA l, 3, 1⟩] := by
  by_cases h : l = []
  · subst h
    exact ex_nil_split (fun A c => cloneI_v A c)
  · have hll : 0 < l.length := List.length_pos_iff.2 h
    have hlen : (inA l).length = l.length * 1 := inA_length1 l
    have hne : inA l ≠ [] := fun e => by rw [e] at hlen; simp at hlen; omega
    refine Fresh.of (fn := Tryz.f87) Tryz.func87 rfl (Nat.le_of_ble_eq_true rfl) fun w => ?_
    (refine Gol.seq ?_; apply Gol.region; apply Trc.stp rfl rfl rfl; apply s_assign; exact rfl
     dsimp only [Nat.reduceAdd, Nat.reduceMul, List.nil_append]; exact Trc.done _ _ _; exact rfl
     refine thn_n ?_; refine Gol.seq ?_; refine Gol.seq ?_; apply Gol.region; apply Trc.stp rfl rfl rfl; apply s_move; exact rfl; dsimp only [Nat.reduceAdd, Nat.reduceMul, List.nil_append]
     apply Trc.stp rfl rfl rfl; apply s_eqNilE; exact rfl; exact hne; dsimp only [Nat.reduceAdd, Nat.reduceMul, Nat.reduceSub, List.nil_append, List.cons_append, nbk, List.map_cons, List.map_nil]
     exact Trc.done _ _ _; exact rfl; refine thn_n ?_)
    refine Gol.cond_f rfl rfl ?_
    (refine Gol.skip ?_; refine thn_n ?_; refine Gol.seq ?_; apply Gol.region; apply Trc.stp rfl rfl rfl; apply s_bytesP; exact PV.nil; exact rfl; omega; dsimp only [Nat.reduceAdd, Nat.reduceMul, Nat.reduceSub, List.nil_append, List.cons_append, nbk, List.map_cons, List.map_nil]
     apply Trc.stp rfl rfl rfl; apply s_move; exact rfl; dsimp only [Nat.reduceAdd, Nat.reduceMul, List.nil_append]
     apply Trc.stp rfl rfl rfl; apply s_app; exact rfl; exact rfl; exact rfl; apply rd_ex; assumption; rfl; exact rfl; exact rfl
     exact OneL.one; omega; dsimp only [Nat.reduceAdd, Nat.reduceMul, Nat.reduceSub, List.nil_append, List.cons_append, nbk, List.map_cons, List.map_nil]; apply Trc.stp rfl rfl rfl; apply s_assign; exact rfl; dsimp only [Nat.reduceAdd, Nat.reduceMul, List.nil_append]
     exact Trc.done _ _ _; exact rfl; refine thn_n ?_; refine Gol.ret ?_)
    simp only [Nat.zero_add, List.nil_append]
    (apply RetQ.mk (by first | exact .inr rfl | exact .inl rfl); apply res_1 rfl; exact res_tmp rfl; exact out_sl rfl)
end Go.Proofs.YtkkeeokeihkagaaGreat


/-
  Go's slices.Insert and Delete at an element type of layer 21. Conditions: lengths below 2^27.
-/
namespace Go.Proofs.YtkkeeokeihkagaaGreat
open Go.RowKit

instance ovD : OvI Tryz.prog 115 22 := ⟨⟨4, fun args w => run_callFunc_extern Tryz.func115 (by kernel_rfl) (by kernel_rfl) (by kernel_rfl) (e := Extern.SlicesOverlaps.overlaps #[22, 22] #[4]) (by kernel_rfl) args w⟩⟩
theorem insD_cells (l : List Dl) (x : Dl) (i : Nat) (hi : i ≤ l.length) : dsA (l.take i ++ x :: l.drop i) = (dsA l).take (i * 11) ++ dA x ++ (dsA l).drop (i * 11) := by
  rw [dsA_append, dsA_cons, dsA_take, dsA_drop, List.append_assoc]
theorem insD_ok (l : List Dl) (x : Dl) (i : Nat) (hi : i ≤ l.length) (hl : l.length ≤ 100000000) : Turns Tryz.prog 98 [⟨dsA l, 46, 11⟩, ⟨dA x, 46, 11⟩] [.sl 0 l.length, .v (.int .i64 (i : Int)), .sl 1 1] (fun k => .sl k (l.length + 1)) [⟨dsA (l.take i ++ x :: l.drop i), 46, 11⟩] := by
  rw [insD_cells l x i hi]
  have hlen : (dsA l).length = l.length * 11 := dsA_length l
  have hones : (dsA l).all AV.one = true := dsA_ones l
  have hV : CloL (dsA l) := inferInstance
  have hW : ValL (dsA l) := inferInstance
  have hWt : ValL ((dsA l).take (i * 11)) := by rw [dsA_take]; infer_instance
  have hWd : ValL ((dsA l).drop (i * 11)) := by rw [dsA_drop]; infer_instance
  generalize dsA l = cs at hlen hones hV hW hWt hWd
  generalize l.length = n at hlen hi hl
  have he : (dA x).length = 11 := dA_length x
  have hd1 : (cs.drop (i * 11)).all AV.one = true := List.all_eq_true.2 fun y hy => List.all_eq_true.1 hones y (List.mem_of_mem_drop hy)
  have hd1l : (cs.drop (i * 11)).length = (n - i) * 11 := by rw [List.length_drop, hlen, ← Nat.sub_mul]
  refine Turns.of (fn := Tryz.f98) Tryz.func98 rfl (Nat.le_of_ble_eq_true rfl) (Nat.le_of_ble_eq_true rfl) fun w M => ?_
  dsimp only [nbk, Nat.reduceAdd]
  (refine Gol.seq ?_; apply Gol.region; apply Trc.stp rfl rfl rfl; apply s_assign; exact rfl
   dsimp only [Nat.reduceAdd, Nat.reduceMul, List.nil_append]; exact Trc.done _ _ _; exact rfl
   refine thn_n ?_; refine Gol.seq ?_; apply Gol.region; apply Trc.stp rfl rfl rfl; apply s_move
   exact rfl; dsimp only [Nat.reduceAdd, Nat.reduceMul, List.nil_append]; apply Trc.stp rfl rfl rfl; apply s_move; exact rfl; dsimp only [Nat.reduceAdd, Nat.reduceMul, List.nil_append]
   apply Trc.stp rfl rfl rfl; apply s_slL; exact rfl; exact ⟨_, rfl⟩; exact rfl; omega; omega; exact rfl; dsimp only [Nat.reduceAdd, Nat.reduceMul, Nat.reduceSub, List.nil_append, List.cons_append, nbk, List.map_cons, List.map_nil]
   exact Trc.done _ _ _; exact rfl; refine thn_n ?_; refine Gol.seq ?_; apply Gol.region; apply Trc.stp rfl rfl rfl; apply s_move; exact rfl; dsimp only [Nat.reduceAdd, Nat.reduceMul, List.nil_append]
   apply Trc.stp rfl rfl rfl; apply s_len; exact rfl; exact ln_sl; dsimp only [Nat.reduceAdd, Nat.reduceMul, List.nil_append]
   apply Trc.stp rfl rfl rfl; apply s_assign; exact rfl; dsimp only [Nat.reduceAdd, Nat.reduceMul, List.nil_append]
   exact Trc.done _ _ _; exact rfl; refine thn_n ?_; refine Gol.seq ?_; refine Gol.seq ?_; apply Gol.region
   apply Trc.stp rfl rfl rfl; apply s_move; exact rfl; dsimp only [Nat.reduceAdd, Nat.reduceMul, List.nil_append]
   apply Trc.stp rfl rfl rfl; apply s_eqn; exact rfl; exact rfl; dsimp only [Nat.reduceAdd, Nat.reduceMul, List.nil_append]
   exact Trc.done _ _ _; exact rfl; refine thn_n ?_)
  refine Gol.cond_f rfl (by decide) ?_
  (refine Gol.skip ?_; refine thn_n ?_; refine Gol.seq ?_; apply Gol.region; apply Trc.stp rfl rfl rfl; apply s_move; exact rfl; dsimp only [Nat.reduceAdd, Nat.reduceMul, List.nil_append]
   apply Trc.stp rfl rfl rfl; apply s_len; exact rfl; exact ln_sl; dsimp only [Nat.reduceAdd, Nat.reduceMul, List.nil_append]
   apply Trc.stp rfl rfl rfl; apply s_assign; exact rfl; dsimp only [Nat.reduceAdd, Nat.reduceMul, List.nil_append]
   exact Trc.done _ _ _; exact rfl; refine thn_n ?_; refine Gol.seq ?_; refine Gol.seq ?_; apply Gol.region
   apply Trc.stp rfl rfl rfl; apply s_move; exact rfl; dsimp only [Nat.reduceAdd, Nat.reduceMul, List.nil_append]
   apply Trc.stp rfl rfl rfl; apply s_move; exact rfl; dsimp only [Nat.reduceAdd, Nat.reduceMul, List.nil_append]
   apply Trc.stp rfl rfl rfl; apply s_eqn; exact rfl; exact rfl; dsimp only [Nat.reduceAdd, Nat.reduceMul, List.nil_append]
   exact Trc.done _ _ _; exact rfl; refine thn_n ?_)
  refine Gol.cond rfl (fun h => ?_) (fun h => ?_)
  · have e : i = n := of_decide_eq_true h
    subst e
    rw [List.take_of_length_le (by omega), List.drop_of_length_le (by omega), List.append_nil]
    (refine Gol.seq ?_; apply Gol.region; apply Trc.stp rfl rfl rfl; apply s_move; exact rfl
     dsimp only [Nat.reduceAdd, Nat.reduceMul, List.nil_append]; apply Trc.stp rfl rfl rfl; apply s_move; exact rfl; dsimp only [Nat.reduceAdd, Nat.reduceMul, List.nil_append]
     apply Trc.stp rfl rfl rfl; apply s_app; exact rfl; exact rfl; exact rfl; apply rd_sl rfl; rfl; assumption; exact rfl; exact rfl
     rfl; omega; dsimp only [Nat.reduceAdd, Nat.reduceMul, Nat.reduceSub, List.nil_append, List.cons_append, nbk, List.map_cons, List.map_nil]; apply Trc.stp rfl rfl rfl; apply s_assign; exact rfl; dsimp only [Nat.reduceAdd, Nat.reduceMul, List.nil_append]
     exact Trc.done _ _ _; exact rfl; refine thn_n ?_; refine Gol.ret ?_; refine thn_r ?_)
    (apply RetT.mk (by first | exact .inr rfl | exact .inl rfl); apply res_1 rfl; exact res_tmp rfl; apply out_ids [144] rfl; apply OBs.cons; exact rfl; exact inferInstance
     exact OBs.nil; intro k; exact Ot.sl (j := 0) rfl)
  have hin : ¬ i = n := of_decide_eq_false h
  have hlt : i < n := by omega
  refine Gol.cap (i := 0) rfl fun cc hcc => ?_
  (refine Gol.skip ?_; refine thn_n ?_; refine Gol.seq ?_; refine Gol.seq ?_; apply Gol.region
   apply Trc.stp rfl rfl rfl; apply s_move; exact rfl; dsimp only [Nat.reduceAdd, Nat.reduceMul, List.nil_append]
   apply Trc.stp rfl rfl rfl; apply s_move; exact rfl; dsimp only [Nat.reduceAdd, Nat.reduceMul, List.nil_append]
   apply Trc.stp rfl rfl rfl; apply s_addn; exact rfl; exact rfl; omega; dsimp only [Nat.reduceAdd, Nat.reduceMul, List.nil_append]
   apply Trc.stp rfl rfl rfl; apply s_move; exact rfl; dsimp only [Nat.reduceAdd, Nat.reduceMul, List.nil_append]
   apply Trc.stp rfl rfl rfl; apply s_cap; exact rfl; dsimp only [Nat.reduceAdd, Nat.reduceMul, Nat.reduceSub, List.nil_append, List.cons_append, nbk, List.map_cons, List.map_nil]
   apply Trc.stp rfl rfl rfl; apply s_gtn; exact rfl; exact rfl; dsimp only [Nat.reduceAdd, Nat.reduceMul, List.nil_append]
   exact Trc.done _ _ _; exact rfl; refine thn_n ?_)
  refine Gol.cond rfl (fun h => ?_) (fun h => ?_)
  · have hroom : cc < n + 1 := of_decide_eq_true h
    (refine Gol.seq ?_; apply Gol.region; apply Trc.stp rfl rfl rfl; apply s_move; exact rfl
     dsimp only [Nat.reduceAdd, Nat.reduceMul, List.nil_append]; apply Trc.stp rfl rfl rfl; apply s_move; exact rfl; dsimp only [Nat.reduceAdd, Nat.reduceMul, List.nil_append]
     apply Trc.stp rfl rfl rfl; apply s_slC; exact rfl; exact ⟨_, rfl⟩; omega; exact rfl; dsimp only [Nat.reduceAdd, Nat.reduceMul, Nat.reduceSub, List.nil_append, List.cons_append, nbk, List.map_cons, List.map_nil]
     apply Trc.stp rfl rfl rfl; apply s_move; exact rfl; dsimp only [Nat.reduceAdd, Nat.reduceMul, List.nil_append]
     apply Trc.stp rfl rfl rfl; apply s_move; exact rfl; dsimp only [Nat.reduceAdd, Nat.reduceMul, List.nil_append]
     apply Trc.stp rfl rfl rfl; apply s_addn; exact rfl; exact rfl; omega; dsimp only [Nat.reduceAdd, Nat.reduceMul, List.nil_append]
     apply Trc.stp rfl rfl rfl; apply s_move; exact rfl; dsimp only [Nat.reduceAdd, Nat.reduceMul, List.nil_append]
     apply Trc.stp rfl rfl rfl; apply s_subn; exact rfl; exact rfl; omega; omega; dsimp only [Nat.reduceAdd, Nat.reduceMul, Nat.reduceSub, List.nil_append, List.cons_append, nbk, List.map_cons, List.map_nil]
     apply Trc.stp rfl rfl rfl; apply s_appZ; exact rfl; exact rfl; exact rfl; omega; dsimp only; omega; omega; omega; dsimp only [Nat.reduceAdd, Nat.reduceMul, Nat.reduceSub, List.nil_append, List.cons_append, nbk, List.map_cons, List.map_nil]
     apply Trc.stp rfl rfl rfl; apply s_assign; exact rfl; dsimp only [Nat.reduceAdd, Nat.reduceMul, List.nil_append]
     exact Trc.done _ _ _; exact rfl; refine thn_n ?_; refine Gol.seq ?_)
    have hz := zeroA_len (n := n + 1 - i) (s := 11) (z := (.agg #[.int .i64 0, .int .i64 0, .int .u8 0, .int .u8 0, .int .u8 0, .int .u8 0, .int .u8 0, .int .u8 0, .int .u8 0, .int .u8 0, .int .i64 0])) rfl
    generalize zeroA (.agg #[.int .i64 0, .int .i64 0, .int .u8 0, .int .u8 0, .int .u8 0, .int .u8 0, .int .u8 0, .int .u8 0, .int .u8 0, .int .u8 0, .int .i64 0]) (n + 1 - i) = Z at hz
    have hA : (cs.take (i * 11)).length = i * 11 := by rw [List.length_take]; omega
    (apply Gol.region; apply Trc.stp rfl rfl rfl; apply s_move; exact rfl; dsimp only [Nat.reduceAdd, Nat.reduceMul, List.nil_append]
     apply Trc.stp rfl rfl rfl; apply s_move; exact rfl; dsimp only [Nat.reduceAdd, Nat.reduceMul, List.nil_append]
     apply Trc.stp rfl rfl rfl; apply s_slL; exact rfl; exact ⟨_, rfl⟩; exact rfl; omega; omega; exact rfl; dsimp only [Nat.reduceAdd, Nat.reduceMul, Nat.reduceSub, List.nil_append, List.cons_append, nbk, List.map_cons, List.map_nil]
     apply Trc.stp rfl rfl rfl; apply s_move; exact rfl; dsimp only [Nat.reduceAdd, Nat.reduceMul, List.nil_append]
     apply Trc.stp rfl rfl rfl; apply s_copyN (ds := dA x); exact rfl; exact rfl; exact rfl; apply rd_sl rfl; exact he.trans rfl; omega; exact List.take_of_length_le (by dsimp only; rw [he]; omega)
     dsimp only; rw [List.length_append, hA, he, hz]; omega; exact dA_ones x; dsimp only [Nat.reduceAdd, Nat.reduceMul, Nat.reduceSub, List.nil_append, List.cons_append, nbk, List.map_cons, List.map_nil]
     exact Trc.done _ _ _; exact rfl; refine thn_n ?_; refine Gol.seq ?_)
    rw [spl_mid hA he]
    (apply Gol.any; kernel_rfl; apply Trc.stp rfl rfl rfl; apply s_move; exact rfl; dsimp only [Nat.reduceAdd, Nat.reduceMul, List.nil_append]
     apply Trc.stp rfl rfl rfl; apply s_move; exact rfl; dsimp only [Nat.reduceAdd, Nat.reduceMul, List.nil_append]
     apply Trc.stp rfl rfl rfl; apply s_move; exact rfl; dsimp only [Nat.reduceAdd, Nat.reduceMul, List.nil_append]
     apply Trc.stp rfl rfl rfl; apply s_addn; exact rfl; exact rfl; omega; dsimp only [Nat.reduceAdd, Nat.reduceMul, List.nil_append]
     apply Trc.stp rfl rfl rfl; apply s_slL; exact rfl; exact ⟨_, rfl⟩; exact rfl; omega; omega; exact rfl; dsimp only [Nat.reduceAdd, Nat.reduceMul, Nat.reduceSub, List.nil_append, List.cons_append, nbk, List.map_cons, List.map_nil]
     apply Trc.stp rfl rfl rfl; apply s_move; exact rfl; dsimp only [Nat.reduceAdd, Nat.reduceMul, List.nil_append]
     apply Trc.stp rfl rfl rfl; apply s_move; exact rfl; dsimp only [Nat.reduceAdd, Nat.reduceMul, List.nil_append]
     apply Trc.stp rfl rfl rfl; apply s_slS; exact rfl; exact ⟨_, rfl⟩; exact rfl; omega; omega; exact rfl; dsimp only [Nat.reduceAdd, Nat.reduceMul, Nat.reduceSub, List.nil_append, List.cons_append, nbk, List.map_cons, List.map_nil]
     apply Trc.stp rfl rfl rfl; apply s_copyN (ds := cs.drop (i * 11)); exact rfl; exact rfl; exact rfl; apply rd_sb rfl; dsimp only; omega; omega
     exact take_all (by rw [hd1l]; omega) (by rw [hd1l]; omega); dsimp only; rw [List.length_append, List.length_append, hA, he, hd1l, List.length_drop, hz]
     omega; exact hd1; dsimp only [Nat.reduceAdd, Nat.reduceMul, Nat.reduceSub, List.nil_append, List.cons_append, nbk, List.map_cons, List.map_nil]; exact Trc.done _ _ _
     kernel_rfl; exact rfl; refine thn_n ?_; refine Gol.seq ?_; apply Gol.region; apply Trc.stp rfl rfl rfl; apply s_move; exact rfl; dsimp only [Nat.reduceAdd, Nat.reduceMul, List.nil_append]
     apply Trc.stp rfl rfl rfl; apply s_assign; exact rfl; dsimp only [Nat.reduceAdd, Nat.reduceMul, List.nil_append]
     exact Trc.done _ _ _; exact rfl; refine thn_n ?_; refine Gol.ret ?_; refine thn_r ?_)
    rw [spl_end (by rw [List.length_append, hA, he]; omega) (by rw [List.length_drop, hz, hd1l]; omega), show i + (n + 1 - i) = n + 1 by omega]
    (apply RetT.mk (by first | exact .inr rfl | exact .inl rfl); apply res_1 rfl; exact res_tmp rfl; apply out_ids [240] rfl; apply OBs.cons; exact rfl; exact inferInstance
     exact OBs.nil; intro k; exact Ot.sl (j := 0) rfl)
  · have hroom : ¬ cc < n + 1 := of_decide_eq_false h
    (refine Gol.skip ?_; refine thn_n ?_; refine Gol.seq ?_; apply Gol.region; apply Trc.stp rfl rfl rfl; apply s_move; exact rfl; dsimp only [Nat.reduceAdd, Nat.reduceMul, List.nil_append]
     apply Trc.stp rfl rfl rfl; apply s_move; exact rfl; dsimp only [Nat.reduceAdd, Nat.reduceMul, List.nil_append]
     apply Trc.stp rfl rfl rfl; apply s_move; exact rfl; dsimp only [Nat.reduceAdd, Nat.reduceMul, List.nil_append]
     apply Trc.stp rfl rfl rfl; apply s_addn; exact rfl; exact rfl; omega; dsimp only [Nat.reduceAdd, Nat.reduceMul, List.nil_append]
     apply Trc.stp rfl rfl rfl; apply s_slC; exact rfl; exact ⟨_, rfl⟩; omega; exact rfl; dsimp only [Nat.reduceAdd, Nat.reduceMul, Nat.reduceSub, List.nil_append, List.cons_append, nbk, List.map_cons, List.map_nil]
     apply Trc.stp rfl rfl rfl; apply s_assign; exact rfl; dsimp only [Nat.reduceAdd, Nat.reduceMul, List.nil_append]
     exact Trc.done _ _ _; exact rfl; refine thn_n ?_; refine Gol.seq ?_; refine Gol.seq ?_)
    refine Gol.tail (i := 0) rfl rfl 11 (by dsimp only; omega) fun tail htl => ?_
    dsimp only
    have hZ : (tail.map AV.v).length = 11 := by rw [List.length_map]; exact htl
    have hZc : CloL (tail.map AV.v) := inferInstance
    have hZv : ValL (tail.map AV.v) := inferInstance
    generalize tail.map AV.v = Z at hZ hZc hZv
    (apply Gol.region; apply Trc.stp rfl rfl rfl; apply s_move; exact rfl; dsimp only [Nat.reduceAdd, Nat.reduceMul, List.nil_append]
     apply Trc.stp rfl rfl rfl; apply s_move; exact rfl; dsimp only [Nat.reduceAdd, Nat.reduceMul, List.nil_append]
     apply Trc.stp rfl rfl rfl; apply s_move; exact rfl; dsimp only [Nat.reduceAdd, Nat.reduceMul, List.nil_append]
     apply Trc.stp rfl rfl rfl; apply s_move; exact rfl; dsimp only [Nat.reduceAdd, Nat.reduceMul, List.nil_append]
     apply Trc.stp rfl rfl rfl; apply s_addn; exact rfl; exact rfl; omega; dsimp only [Nat.reduceAdd, Nat.reduceMul, List.nil_append]
     apply Trc.stp rfl rfl rfl; apply s_slS; exact rfl; exact ⟨_, rfl⟩; exact rfl; omega; omega; exact rfl; dsimp only [Nat.reduceAdd, Nat.reduceMul, Nat.reduceSub, List.nil_append, List.cons_append, nbk, List.map_cons, List.map_nil]
     apply Trc.stp rfl rfl rfl; apply s_ovl (f := 115); exact rfl; exact rfl; exact rfl; exact rfl; exact rfl
     exact rfl; dsimp only; omega; dsimp only; rw [List.length_append]; omega; omega; dsimp only [Nat.reduceAdd, Nat.reduceMul, Nat.reduceSub, List.nil_append, List.cons_append, nbk, List.map_cons, List.map_nil]
     apply Trc.stp rfl rfl rfl; apply s_not; exact rfl; dsimp only [Nat.reduceAdd, Nat.reduceMul, List.nil_append]
     exact Trc.done _ _ _; exact rfl; refine thn_n ?_)
    refine Gol.cond_t rfl rfl ?_
    (refine Gol.seq ?_; apply Gol.any; kernel_rfl; apply Trc.stp rfl rfl rfl; apply s_move
     exact rfl; dsimp only [Nat.reduceAdd, Nat.reduceMul, List.nil_append]; apply Trc.stp rfl rfl rfl; apply s_move; exact rfl; dsimp only [Nat.reduceAdd, Nat.reduceMul, List.nil_append]
     apply Trc.stp rfl rfl rfl; apply s_move; exact rfl; dsimp only [Nat.reduceAdd, Nat.reduceMul, List.nil_append]
     apply Trc.stp rfl rfl rfl; apply s_addn; exact rfl; exact rfl; omega; dsimp only [Nat.reduceAdd, Nat.reduceMul, List.nil_append]
     apply Trc.stp rfl rfl rfl; apply s_slS; exact rfl; exact ⟨_, rfl⟩; exact rfl; omega; omega; exact rfl; dsimp only [Nat.reduceAdd, Nat.reduceMul, Nat.reduceSub, List.nil_append, List.cons_append, nbk, List.map_cons, List.map_nil]
     apply Trc.stp rfl rfl rfl; apply s_move; exact rfl; dsimp only [Nat.reduceAdd, Nat.reduceMul, List.nil_append]
     apply Trc.stp rfl rfl rfl; apply s_move; exact rfl; dsimp only [Nat.reduceAdd, Nat.reduceMul, List.nil_append]
     apply Trc.stp rfl rfl rfl; apply s_slS; exact rfl; exact ⟨_, rfl⟩; exact rfl; omega; omega; exact rfl; dsimp only [Nat.reduceAdd, Nat.reduceMul, Nat.reduceSub, List.nil_append, List.cons_append, nbk, List.map_cons, List.map_nil]
     apply Trc.stp rfl rfl rfl; apply s_copyN (ds := cs.drop (i * 11)); exact rfl; exact rfl; exact rfl; apply rd_sb rfl; dsimp only; rw [List.length_append]
     omega; omega; exact take_mid (by omega) (by omega) (by omega); dsimp only; rw [List.length_append, hd1l]; omega; exact hd1; dsimp only [Nat.reduceAdd, Nat.reduceMul, Nat.reduceSub, List.nil_append, List.cons_append, nbk, List.map_cons, List.map_nil]
     exact Trc.done _ _ _; kernel_rfl; exact rfl; refine thn_n ?_; refine Gol.seq ?_)
    (apply Gol.region; apply Trc.stp rfl rfl rfl; apply s_move; exact rfl; dsimp only [Nat.reduceAdd, Nat.reduceMul, List.nil_append]
     apply Trc.stp rfl rfl rfl; apply s_move; exact rfl; dsimp only [Nat.reduceAdd, Nat.reduceMul, List.nil_append]
     apply Trc.stp rfl rfl rfl; apply s_slS; exact rfl; exact ⟨_, rfl⟩; exact rfl; omega; omega; exact rfl; dsimp only [Nat.reduceAdd, Nat.reduceMul, Nat.reduceSub, List.nil_append, List.cons_append, nbk, List.map_cons, List.map_nil]
     apply Trc.stp rfl rfl rfl; apply s_move; exact rfl; dsimp only [Nat.reduceAdd, Nat.reduceMul, List.nil_append]
     apply Trc.stp rfl rfl rfl; apply s_copyN (ds := dA x); exact rfl; exact rfl; exact rfl; apply rd_sl rfl; exact he.trans rfl; omega; exact List.take_of_length_le (by dsimp only; rw [he]; omega)
     dsimp only; rw [spl_length _ _ _ (by rw [List.length_append, hd1l]; omega), List.length_append, he]; omega; exact dA_ones x; dsimp only [Nat.reduceAdd, Nat.reduceMul, Nat.reduceSub, List.nil_append, List.cons_append, nbk, List.map_cons, List.map_nil]
     exact Trc.done _ _ _; exact rfl; refine thn_n ?_; refine Gol.seq ?_; apply Gol.region; apply Trc.stp rfl rfl rfl; apply s_move; exact rfl; dsimp only [Nat.reduceAdd, Nat.reduceMul, List.nil_append]
     apply Trc.stp rfl rfl rfl; apply s_assign; exact rfl; dsimp only [Nat.reduceAdd, Nat.reduceMul, List.nil_append]
     exact Trc.done _ _ _; exact rfl; refine thn_n ?_; refine Gol.ret ?_; refine thn_r ?_)
    rw [spl_room he hZ (by omega) (by omega)]
    (apply RetT.mk (by first | exact .inr rfl | exact .inl rfl); apply res_1 rfl; exact res_tmp rfl; apply out_ids [0] rfl; apply OBs.cons; exact rfl; exact inferInstance
     exact OBs.nil; intro k; exact Ot.sc (j := 0) rfl)
theorem delD_ok (l : List Dl) (i : Nat) (hi : i < l.length) (hl : l.length ≤ 100000000) : Turns Tryz.prog 97 [⟨dsA l, 46, 11⟩] [.sl 0 l.length, .v (.int .i64 (i : Int)), .v (.int .i64 ((i + 1 : Nat) : Int))] (fun k => .sl k (l.length - 1)) [⟨dsA (l.take i ++ l.drop (i + 1)), 46, 11⟩] := by
  rw [dsA_append, ← dsA_take, ← dsA_drop]
  have hlen : (dsA l).length = l.length * 11 := dsA_length l
  have hones : (dsA l).all AV.one = true := dsA_ones l
  have hWt : ValL ((dsA l).take (i * 11)) := by rw [dsA_take]; infer_instance
  have hWd : ValL ((dsA l).drop ((i + 1) * 11)) := by rw [dsA_drop]; infer_instance
  generalize dsA l = cs at hlen hones hWt hWd
  generalize l.length = n at hlen hi hl
  have hdl : (cs.drop ((i + 1) * 11)).length = (n - (i + 1)) * 11 := by rw [List.length_drop, hlen, ← Nat.sub_mul]
  have hd1 : (cs.drop ((i + 1) * 11)).all AV.one = true := List.all_eq_true.2 fun y hy => List.all_eq_true.1 hones y (List.mem_of_mem_drop hy)
  have hde : List.take ((n - (i + 1)) * 11) (cs.drop ((i + 1) * 11)) = cs.drop ((i + 1) * 11) := List.take_of_length_le (by omega)
  refine Turns.of (fn := Tryz.f97) Tryz.func97 rfl (Nat.le_of_ble_eq_true rfl) (Nat.le_of_ble_eq_true rfl) fun w M => ?_
  dsimp only [nbk, Nat.reduceAdd]
  (refine Gol.seq ?_; apply Gol.region; apply Trc.stp rfl rfl rfl; apply s_assign; exact rfl
   dsimp only [Nat.reduceAdd, Nat.reduceMul, List.nil_append]; exact Trc.done _ _ _; exact rfl
   refine thn_n ?_; refine Gol.seq ?_; apply Gol.region; apply Trc.stp rfl rfl rfl; apply s_move
   exact rfl; dsimp only [Nat.reduceAdd, Nat.reduceMul, List.nil_append]; apply Trc.stp rfl rfl rfl; apply s_move; exact rfl; dsimp only [Nat.reduceAdd, Nat.reduceMul, List.nil_append]
   apply Trc.stp rfl rfl rfl; apply s_move; exact rfl; dsimp only [Nat.reduceAdd, Nat.reduceMul, List.nil_append]
   apply Trc.stp rfl rfl rfl; apply s_move; exact rfl; dsimp only [Nat.reduceAdd, Nat.reduceMul, List.nil_append]
   apply Trc.stp rfl rfl rfl; apply s_len; exact rfl; exact ln_sl; dsimp only [Nat.reduceAdd, Nat.reduceMul, List.nil_append]
   apply Trc.stp rfl rfl rfl; apply s_slLM; exact rfl; exact ⟨_, rfl⟩; exact ⟨_, rfl⟩; exact ⟨_, rfl⟩; exact rfl; omega; omega
   omega; exact rfl; dsimp only [Nat.reduceAdd, Nat.reduceMul, Nat.reduceSub, List.nil_append, List.cons_append, nbk, List.map_cons, List.map_nil]; exact Trc.done _ _ _
   exact rfl; refine thn_n ?_; refine Gol.seq ?_; refine Gol.seq ?_; apply Gol.region
   apply Trc.stp rfl rfl rfl; apply s_move; exact rfl; dsimp only [Nat.reduceAdd, Nat.reduceMul, List.nil_append]
   apply Trc.stp rfl rfl rfl; apply s_move; exact rfl; dsimp only [Nat.reduceAdd, Nat.reduceMul, List.nil_append]
   apply Trc.stp rfl rfl rfl; apply s_eqn; exact rfl; exact rfl; dsimp only [Nat.reduceAdd, Nat.reduceMul, List.nil_append]
   exact Trc.done _ _ _; exact rfl; refine thn_n ?_)
  refine Gol.cond_f rfl (by simp) ?_
  (refine Gol.skip ?_; refine thn_n ?_; refine Gol.seq ?_; apply Gol.region; apply Trc.stp rfl rfl rfl; apply s_move; exact rfl; dsimp only [Nat.reduceAdd, Nat.reduceMul, List.nil_append]
   apply Trc.stp rfl rfl rfl; apply s_len; exact rfl; exact ln_sl; dsimp only [Nat.reduceAdd, Nat.reduceMul, List.nil_append]
   apply Trc.stp rfl rfl rfl; apply s_assign; exact rfl; dsimp only [Nat.reduceAdd, Nat.reduceMul, List.nil_append]
   exact Trc.done _ _ _; exact rfl; refine thn_n ?_; refine Gol.seq ?_)
  refine Gol.cap (i := 0) rfl fun cc hcc => ?_
  (apply Gol.any; kernel_rfl; apply Trc.stp rfl rfl rfl; apply s_move; exact rfl; dsimp only [Nat.reduceAdd, Nat.reduceMul, List.nil_append]
   apply Trc.stp rfl rfl rfl; apply s_move; exact rfl; dsimp only [Nat.reduceAdd, Nat.reduceMul, List.nil_append]
   apply Trc.stp rfl rfl rfl; apply s_slC; exact rfl; exact ⟨_, rfl⟩; omega; exact rfl; dsimp only [Nat.reduceAdd, Nat.reduceMul, Nat.reduceSub, List.nil_append, List.cons_append, nbk, List.map_cons, List.map_nil]
   apply Trc.stp rfl rfl rfl; apply s_move; exact rfl; dsimp only [Nat.reduceAdd, Nat.reduceMul, List.nil_append]
   apply Trc.stp rfl rfl rfl; apply s_move; exact rfl; dsimp only [Nat.reduceAdd, Nat.reduceMul, List.nil_append]
   apply Trc.stp rfl rfl rfl; apply s_slS; exact rfl; exact ⟨_, rfl⟩; exact rfl; omega; omega; exact rfl; dsimp only [Nat.reduceAdd, Nat.reduceMul, Nat.reduceSub, List.nil_append, List.cons_append, nbk, List.map_cons, List.map_nil]
   apply Trc.stp rfl rfl rfl; apply s_appIn; exact rfl; exact rfl; exact rfl; apply rd_sb rfl; dsimp only; omega; dsimp only; rw [hde, hdl]
   dsimp only; omega; dsimp only; rw [hde]; exact hd1; omega; omega; dsimp only [Nat.reduceAdd, Nat.reduceMul, Nat.reduceSub, List.nil_append, List.cons_append, nbk, List.map_cons, List.map_nil]
   apply Trc.stp rfl rfl rfl; apply s_assign; exact rfl; dsimp only [Nat.reduceAdd, Nat.reduceMul, List.nil_append]
   exact Trc.done _ _ _; kernel_rfl; exact rfl; refine thn_n ?_; refine Gol.seq ?_)
  rw [hde, show i + (n - (i + 1)) = n - 1 by omega]
  (apply Gol.region; apply Trc.stp rfl rfl rfl; apply s_move; exact rfl; dsimp only [Nat.reduceAdd, Nat.reduceMul, List.nil_append]
   apply Trc.stp rfl rfl rfl; apply s_move; exact rfl; dsimp only [Nat.reduceAdd, Nat.reduceMul, List.nil_append]
   apply Trc.stp rfl rfl rfl; apply s_len; exact rfl; exact ln_sc; dsimp only [Nat.reduceAdd, Nat.reduceMul, List.nil_append]
   apply Trc.stp rfl rfl rfl; apply s_move; exact rfl; dsimp only [Nat.reduceAdd, Nat.reduceMul, List.nil_append]
   apply Trc.stp rfl rfl rfl; apply s_slS; exact rfl; exact ⟨_, rfl⟩; exact ⟨_, rfl⟩; omega; omega; exact rfl; dsimp only [Nat.reduceAdd, Nat.reduceMul, Nat.reduceSub, List.nil_append, List.cons_append, nbk, List.map_cons, List.map_nil]
   apply Trc.stepN rfl rfl; exact wnt_n rfl; apply s_clear; exact rfl; exact rfl; omega; dsimp only; rw [spl_length _ _ _ (by omega)]; omega; exact zeroA_ones rfl
   dsimp only [Nat.reduceAdd, Nat.reduceMul, Nat.reduceSub, List.nil_append, List.cons_append, nbk, List.map_cons, List.map_nil]; exact Trc.done _ _ _; exact rfl
   refine thn_n ?_; refine Gol.seq ?_; apply Gol.region; apply Trc.stp rfl rfl rfl; apply s_move
   exact rfl; dsimp only [Nat.reduceAdd, Nat.reduceMul, List.nil_append]; apply Trc.stp rfl rfl rfl; apply s_assign; exact rfl; dsimp only [Nat.reduceAdd, Nat.reduceMul, List.nil_append]
   exact Trc.done _ _ _; exact rfl; refine thn_n ?_; refine Gol.ret ?_)
  refine RetT.mk (.inr rfl) (res_1 rfl (res_tmp rfl)) (out_ids [0] rfl (.cut rfl rfl rfl ?_ inferInstance .nil) fun k => Ot.sc (j := 0) rfl)
  dsimp only
  refine del_cells (by omega) (by omega) (by omega) ?_
  rw [List.length_append, List.length_take, hdl]
  omega
end Go.Proofs.YtkkeeokeihkagaaGreat


/-
  Go's slices.Insert and Delete at an element type of layer 21. Conditions: lengths below 2^27.
-/
namespace Go.Proofs.YtkkeeokeihkagaaGreat
open Go.RowKit

end Go.Proofs.YtkkeeokeihkagaaGreat


/-
  Layer 21, state: Get, before, Clone, Total. Conditions: lengths below 2^27.
-/
namespace Go.Proofs.YtkkeeokeihkagaaGreat
open Go.RowKit

section
variable {P : Program} {t t' ty : TypeId} {k : Nat} {H : AH} {T : AT} {d : Option Tmp} {ps : String} {af : Array Edge} {gd : Option (Nat × Bool)} {x y : Operand}
/-- addition that wraps around -/
def addI (a b : Int) : Int := IntKind.i64.wrap (a + b)
theorem s_addW {a b : Int} (hx : ev T x = some (.v (.int .i64 a))) (hy : ev T y = some (.v (.int .i64 b))) : StepU P ⟨d, .binOp .add t x y t', ty, ps, af, gd⟩ k [] H T (.v (.int .i64 (addI a b))) [] :=
  s_bin hx hy fun w => by simp [guard_int, binOp, Op.intArith, Sem.run_bind, addI]
end
/-- the index of the first element with p, or the length -/
def bef {α : Type} (p : α → Bool) : List α → Nat
  | [] => 0
  | a :: l => if p a then 0 else bef p l + 1
theorem bef_le {α : Type} (p : α → Bool) : ∀ l : List α, bef p l ≤ l.length
  | [] => Nat.le_refl _
  | a :: l => by have := bef_le p l; simp only [bef, List.length_cons]; split <;> omega
theorem fIx_cases' {α : Type} (p : α → Bool) : ∀ (l : List α) (i : Nat), (fIx p l i = -1 ∧ l.find? p = none ∧ bef p l = l.length ∧ ∀ a ∈ l, p a = false) ∨ ∃ (j : Nat) (a : α), l[j]? = some a ∧ p a = true ∧ l.find? p = some a ∧ fIx p l i = ((i + j : Nat) : Int) ∧ bef p l = j ∧ j < l.length
  | [], i => .inl ⟨rfl, rfl, rfl, by simp⟩
  | a :: l, i => by
    by_cases h : p a = true
    · exact .inr ⟨0, a, rfl, h, by simp [h], by rw [fIx, if_pos h]; rfl, by rw [bef, if_pos h], by simp⟩
    · have h' : p a = false := by simpa using h
      rcases fIx_cases' p l (i + 1) with ⟨h1, h2, h3, h4⟩ | ⟨j, b, h1, h2, h3, h4, h5, h6⟩
      · exact .inl ⟨by rw [fIx, if_neg h]; exact h1, by simp [h', h2], by rw [bef, if_neg h, h3]; rfl, fun b hb => by rcases List.mem_cons.1 hb with rfl | hb; exact h'; exact h4 b hb⟩
      · exact .inr ⟨j + 1, b, by simpa using h1, h2, by simp [h', h3], by rw [fIx, if_neg h, h4]; congr 1; omega, by rw [bef, if_neg h, h5], by simp; omega⟩
theorem fIx_cases {α : Type} (p : α → Bool) (l : List α) : (fIx p l 0 = -1 ∧ l.find? p = none ∧ bef p l = l.length ∧ ∀ a ∈ l, p a = false) ∨ ∃ (j : Nat) (a : α), l[j]? = some a ∧ p a = true ∧ l.find? p = some a ∧ fIx p l 0 = (j : Int) ∧ bef p l = j ∧ j < l.length := by
  rcases fIx_cases' p l 0 with h | ⟨j, a, h1, h2, h3, h4, h5⟩
  · exact .inl h
  · exact .inr ⟨j, a, h1, h2, h3, by rw [h4, Nat.zero_add], h5⟩
/-- a state of moderate size -/
structure Sm (S : Stt) : Prop where
  c : S.cells.length ≤ 100000
  q : S.seqs.length ≤ 100000
  l : S.locks.length ≤ 100000
  a : S.applied.length ≤ 100000
instance (c : FuncId) : CloL (cu (.fn c [])) := inferInstanceAs (CloL [.fn c []])
def getN (l : List Dl) (k i : Int) (n : UInt64) : Int := match l.find? (eqC k i n) with
  | some d => d.a
  | none => 0
theorem get_ok' (s : Stt) (k i : Int) (n : UInt64) (hc : s.cells.length ≤ 100000000) : Fresh Tryz.prog 26 [stA s, .v (.agg (cellC k i n))] (fun _ => .v (.int .i64 (getN s.cells k i n))) [] := by
  have hf := find_ok s k i n (by omega)
  unfold stA at hf ⊢
  unfold getN
  rcases fIx_cases (eqC k i n) s.cells with ⟨h1, h2, _, _⟩ | ⟨j, d, h1, h2, h3, h4, h5, h6⟩
  · rw [h1] at hf
    rw [h2]
    refine Fresh.of (fn := Tryz.f26) Tryz.func26 rfl (Nat.le_of_ble_eq_true rfl) fun w => ?_
    (refine Gol.seq ?_; apply Gol.region; apply Trc.stp rfl rfl rfl; apply s_box; exact rfl
     exact rfl; dsimp only [Nat.reduceAdd, Nat.reduceMul, Nat.reduceSub, List.nil_append, List.cons_append, nbk, List.map_cons, List.map_nil]; apply Trc.stp rfl rfl rfl; apply s_box; exact rfl; exact rfl; dsimp only [Nat.reduceAdd, Nat.reduceMul, Nat.reduceSub, List.nil_append, List.cons_append, nbk, List.map_cons, List.map_nil]
     apply Trc.stp rfl rfl rfl; apply s_assign; exact rfl; dsimp only [Nat.reduceAdd, Nat.reduceMul, List.nil_append]
     exact Trc.done _ _ _; exact rfl; refine thn_n ?_; refine Gol.seq ?_; refine Gol.seq ?_; apply Gol.region
     apply Trc.stp rfl rfl rfl; apply s_loadW; exact rfl; exact rfl; exact rfl; exact agu_cua _; dsimp only [Nat.reduceAdd, Nat.reduceMul, List.nil_append]
     apply Trc.stp rfl rfl rfl; apply s_loadW; exact rfl; exact rfl; exact rfl; exact agu_cuv _; dsimp only [Nat.reduceAdd, Nat.reduceMul, List.nil_append]
     apply Trc.stp rfl rfl rfl; apply s_call (f := 33) rfl; apply evs.cons rfl; apply evs.cons rfl; exact evs.nil; apply ArgL.cons
     exact arg_clo; apply ArgL.cons; exact arg_clo; exact ArgL.nil; exact hf; exact Nat.le_of_ble_eq_true rfl; dsimp only [Nat.reduceAdd, Nat.reduceMul, Nat.reduceSub, List.nil_append, List.cons_append, nbk, List.map_cons, List.map_nil]
     apply Trc.stp rfl rfl rfl; apply s_assign; exact rfl; dsimp only [Nat.reduceAdd, Nat.reduceMul, List.nil_append]
     exact Trc.done _ _ _; exact rfl; refine thn_n ?_; refine Gol.seq ?_; apply Gol.region; apply Trc.stp rfl rfl rfl; apply s_move; exact rfl; dsimp only [Nat.reduceAdd, Nat.reduceMul, List.nil_append]
     apply Trc.stp rfl rfl rfl; apply s_ge; exact rfl; exact rfl; dsimp only [Nat.reduceAdd, Nat.reduceMul, List.nil_append]
     exact Trc.done _ _ _; exact rfl; refine thn_n ?_)
    refine Gol.cond_f rfl (by decide) ?_
    (refine Gol.skip ?_; refine thn_n ?_; refine Gol.seq ?_; apply Gol.region; apply Trc.stp rfl rfl rfl; apply s_assign; exact rfl; dsimp only [Nat.reduceAdd, Nat.reduceMul, List.nil_append]
     exact Trc.done _ _ _; exact rfl; refine thn_n ?_; refine Gol.ret ?_)
    (apply RetQ.mk (by first | exact .inr rfl | exact .inl rfl); apply res_1 rfl; exact res_tmp rfl; exact out_val)
  · rw [h4] at hf
    rw [h3]
    refine Fresh.of (fn := Tryz.f26) Tryz.func26 rfl (Nat.le_of_ble_eq_true rfl) fun w => ?_
    (refine Gol.seq ?_; apply Gol.region; apply Trc.stp rfl rfl rfl; apply s_box; exact rfl
     exact rfl; dsimp only [Nat.reduceAdd, Nat.reduceMul, Nat.reduceSub, List.nil_append, List.cons_append, nbk, List.map_cons, List.map_nil]; apply Trc.stp rfl rfl rfl; apply s_box; exact rfl; exact rfl; dsimp only [Nat.reduceAdd, Nat.reduceMul, Nat.reduceSub, List.nil_append, List.cons_append, nbk, List.map_cons, List.map_nil]
     apply Trc.stp rfl rfl rfl; apply s_assign; exact rfl; dsimp only [Nat.reduceAdd, Nat.reduceMul, List.nil_append]
     exact Trc.done _ _ _; exact rfl; refine thn_n ?_; refine Gol.seq ?_; refine Gol.seq ?_; apply Gol.region
     apply Trc.stp rfl rfl rfl; apply s_loadW; exact rfl; exact rfl; exact rfl; exact agu_cua _; dsimp only [Nat.reduceAdd, Nat.reduceMul, List.nil_append]
     apply Trc.stp rfl rfl rfl; apply s_loadW; exact rfl; exact rfl; exact rfl; exact agu_cuv _; dsimp only [Nat.reduceAdd, Nat.reduceMul, List.nil_append]
     apply Trc.stp rfl rfl rfl; apply s_call (f := 33) rfl; apply evs.cons rfl; apply evs.cons rfl; exact evs.nil; apply ArgL.cons
     exact arg_clo; apply ArgL.cons; exact arg_clo; exact ArgL.nil; exact hf; exact Nat.le_of_ble_eq_true rfl; dsimp only [Nat.reduceAdd, Nat.reduceMul, Nat.reduceSub, List.nil_append, List.cons_append, nbk, List.map_cons, List.map_nil]
     apply Trc.stp rfl rfl rfl; apply s_assign; exact rfl; dsimp only [Nat.reduceAdd, Nat.reduceMul, List.nil_append]
     exact Trc.done _ _ _; exact rfl; refine thn_n ?_; refine Gol.seq ?_; apply Gol.region; apply Trc.stp rfl rfl rfl; apply s_move; exact rfl; dsimp only [Nat.reduceAdd, Nat.reduceMul, List.nil_append]
     apply Trc.stp rfl rfl rfl; apply s_gen; exact rfl; exact rfl; dsimp only [Nat.reduceAdd, Nat.reduceMul, List.nil_append]
     exact Trc.done _ _ _; exact rfl; refine thn_n ?_)
    refine Gol.cond_t rfl (by simp) ?_
    (refine Gol.seq ?_; apply Gol.region; apply Trc.stp rfl rfl rfl; apply s_fieldAddr; exact rfl
     dsimp only [Nat.reduceAdd, Nat.reduceMul, List.nil_append]; apply Trc.stp rfl rfl rfl; apply s_load; exact rfl; exact rfl; exact rfl; dsimp only [Nat.reduceAdd, Nat.reduceMul, List.nil_append]
     apply Trc.stp rfl rfl rfl; apply s_move; exact rfl; dsimp only [Nat.reduceAdd, Nat.reduceMul, List.nil_append]
     apply Trc.stp rfl rfl rfl; apply s_ixe; exact rfl; exact rfl; omega; exact ds_ne (by omega); dsimp only [Nat.reduceAdd, Nat.reduceMul, List.nil_append]
     apply Trc.stp rfl rfl rfl; apply s_fieldAddrE; exact rfl; dsimp only [Nat.reduceAdd, Nat.reduceMul, List.nil_append]
     apply Trc.stp rfl rfl rfl; apply s_loadE; exact rfl; exact d_amt (by assumption); dsimp only [Nat.reduceAdd, Nat.reduceMul, List.nil_append]
     apply Trc.stp rfl rfl rfl; apply s_assign; exact rfl; dsimp only [Nat.reduceAdd, Nat.reduceMul, List.nil_append]
     exact Trc.done _ _ _; exact rfl; refine thn_n ?_; refine Gol.ret ?_; refine thn_r ?_)
    (apply RetQ.mk (by first | exact .inr rfl | exact .inl rfl); apply res_1 rfl; exact res_tmp rfl; exact out_val)
theorem before1D_ok (y x : Dl) (c : FuncId) [hF : FnI Tryz.prog c] (q : Int) (hc : Fresh Tryz.prog c [.v (.agg (deltaC y.k y.i y.n y.a)), .v (.agg (deltaC x.k x.i x.n x.a))] (fun _ => .v (.int .i64 q)) []) :
    Fresh Tryz.prog 117 [.v (.agg (deltaC y.k y.i y.n y.a)), .ep (cu (.fn c [])), .ep (cu (.v (.agg (deltaC x.k x.i x.n x.a))))] (fun _ => .v (.bool (decide (0 < q)))) [] := by
  refine Fresh.of (fn := Tryz.f117) Tryz.func117 rfl (Nat.le_of_ble_eq_true rfl) fun w => ?_
  (refine Gol.seq ?_; apply Gol.region; apply Trc.stp rfl rfl rfl; apply s_box; exact rfl
   exact rfl; dsimp only [Nat.reduceAdd, Nat.reduceMul, Nat.reduceSub, List.nil_append, List.cons_append, nbk, List.map_cons, List.map_nil]; apply Trc.stp rfl rfl rfl; apply s_assign; exact rfl; dsimp only [Nat.reduceAdd, Nat.reduceMul, List.nil_append]
   exact Trc.done _ _ _; exact rfl; refine thn_n ?_; refine Gol.seq ?_; apply Gol.region; apply Trc.stp rfl rfl rfl; apply s_loadE; exact rfl; exact rfl; dsimp only [Nat.reduceAdd, Nat.reduceMul, List.nil_append]
   apply Trc.stp rfl rfl rfl; apply s_loadW; exact rfl; exact rfl; exact rfl; exact agu_cuv _; dsimp only [Nat.reduceAdd, Nat.reduceMul, List.nil_append]
   apply Trc.stp rfl rfl rfl; apply s_loadEN; exact rfl; exact Nat.le_of_ble_eq_true rfl; exact agu_delta rfl; dsimp only [Nat.reduceAdd, Nat.reduceMul, List.nil_append]
   apply Trc.stp rfl rfl rfl; apply s_callC rfl; assumption; apply evs.cons rfl; apply evs.cons rfl; exact evs.nil; dsimp only [List.cons_append, List.nil_append]
   apply ArgL.cons; exact arg_clo; apply ArgL.cons; exact arg_clo; exact ArgL.nil; exact hc; exact Nat.le_of_ble_eq_true rfl; dsimp only [Nat.reduceAdd, Nat.reduceMul, Nat.reduceSub, List.nil_append, List.cons_append, nbk, List.map_cons, List.map_nil]
   apply Trc.stp rfl rfl rfl; apply s_gt; exact rfl; exact rfl; dsimp only [Nat.reduceAdd, Nat.reduceMul, List.nil_append]
   apply Trc.stp rfl rfl rfl; apply s_assign; exact rfl; dsimp only [Nat.reduceAdd, Nat.reduceMul, List.nil_append]
   exact Trc.done _ _ _; exact rfl; refine thn_n ?_; refine Gol.ret ?_)
  (apply RetQ.mk (by first | exact .inr rfl | exact .inl rfl); apply res_1 rfl; exact res_tmp rfl; exact out_val)
theorem beforeD_ok (l : List Dl) (fl : Bool) (x : Dl) (c : FuncId) [hF : FnI Tryz.prog c] (q : Dl → Int) (hl : l.length ≤ 100000000) (hc : ∀ y ∈ l, Fresh Tryz.prog c [.v (.agg (deltaC y.k y.i y.n y.a)), .v (.agg (deltaC x.k x.i x.n x.a))] (fun _ => .v (.int .i64 (q y))) []) :
    Fresh Tryz.prog 99 [.ex l.length fl (dsA l), .v (.agg (deltaC x.k x.i x.n x.a)), .fn c []] (fun _ => .v (.int .i64 (bef (fun y => decide (0 < q y)) l : Int))) [] := by
  have hi := fun ff => idxD_ok l ff 117 [.ep (cu (.fn c [])), .ep (cu (.v (.agg (deltaC x.k x.i x.n x.a))))] (fun y => decide (0 < q y)) (by omega) (fun y hy => before1D_ok y x c (q y) (hc y hy))
  rcases fIx_cases (fun y => decide (0 < q y)) l with ⟨h1, h2, h3, _⟩ | ⟨j, d, h1, h2, h3, h4, h5, h6⟩
  · rw [h1] at hi
    rw [h3]
    refine Fresh.of (fn := Tryz.f99) Tryz.func99 rfl (Nat.le_of_ble_eq_true rfl) fun w => ?_
    (refine Gol.seq ?_; apply Gol.region; apply Trc.stp rfl rfl rfl; apply s_box; exact rfl
     exact rfl; dsimp only [Nat.reduceAdd, Nat.reduceMul, Nat.reduceSub, List.nil_append, List.cons_append, nbk, List.map_cons, List.map_nil]; apply Trc.stp rfl rfl rfl; apply s_box; exact rfl; exact rfl; dsimp only [Nat.reduceAdd, Nat.reduceMul, Nat.reduceSub, List.nil_append, List.cons_append, nbk, List.map_cons, List.map_nil]
     apply Trc.stp rfl rfl rfl; apply s_assign; exact rfl; dsimp only [Nat.reduceAdd, Nat.reduceMul, List.nil_append]
     exact Trc.done _ _ _; exact rfl; refine thn_n ?_; refine Gol.seq ?_; refine Gol.seq ?_; apply Gol.region
     apply Trc.stp rfl rfl rfl; apply s_move; exact rfl; dsimp only [Nat.reduceAdd, Nat.reduceMul, List.nil_append]
     apply Trc.stp rfl rfl rfl; apply s_mkf; apply evs.cons rfl; apply evs.cons rfl; exact evs.nil; dsimp only [Nat.reduceAdd, Nat.reduceMul, List.nil_append]
     apply Trc.stp rfl rfl rfl; apply s_call (f := 74) rfl; apply evs.cons rfl
     apply evs.cons rfl; exact evs.nil; apply ArgL.cons; exact arg_clo; apply ArgL.cons; apply arg_fn; apply ArgL.cons; exact arg_pt0 rfl; apply ArgL.cons
     exact arg_pt0 rfl; exact ArgL.nil; exact ArgL.nil; exact hi _; exact Nat.le_of_ble_eq_true rfl; dsimp only [Nat.reduceAdd, Nat.reduceMul, Nat.reduceSub, List.nil_append, List.cons_append, nbk, List.map_cons, List.map_nil]
     apply Trc.stp rfl rfl rfl; apply s_assign; exact rfl; dsimp only [Nat.reduceAdd, Nat.reduceMul, List.nil_append]
     exact Trc.done _ _ _; exact rfl; refine thn_n ?_; refine Gol.seq ?_; apply Gol.region; apply Trc.stp rfl rfl rfl; apply s_move; exact rfl; dsimp only [Nat.reduceAdd, Nat.reduceMul, List.nil_append]
     apply Trc.stp rfl rfl rfl; apply s_ge; exact rfl; exact rfl; dsimp only [Nat.reduceAdd, Nat.reduceMul, List.nil_append]
     exact Trc.done _ _ _; exact rfl; refine thn_n ?_)
    refine Gol.cond_f rfl (by decide) ?_
    (refine Gol.skip ?_; refine thn_n ?_; refine Gol.seq ?_; apply Gol.region; apply Trc.stp rfl rfl rfl; apply s_move; exact rfl; dsimp only [Nat.reduceAdd, Nat.reduceMul, List.nil_append]
     apply Trc.stp rfl rfl rfl; apply s_len; exact rfl; exact ln_ex; dsimp only [Nat.reduceAdd, Nat.reduceMul, List.nil_append]
     apply Trc.stp rfl rfl rfl; apply s_assign; exact rfl; dsimp only [Nat.reduceAdd, Nat.reduceMul, List.nil_append]
     exact Trc.done _ _ _; exact rfl; refine thn_n ?_; refine Gol.ret ?_)
    (apply RetQ.mk (by first | exact .inr rfl | exact .inl rfl); apply res_1 rfl; exact res_tmp rfl; exact out_val)
  · rw [h4] at hi
    rw [h5]
    refine Fresh.of (fn := Tryz.f99) Tryz.func99 rfl (Nat.le_of_ble_eq_true rfl) fun w => ?_
    (refine Gol.seq ?_; apply Gol.region; apply Trc.stp rfl rfl rfl; apply s_box; exact rfl
     exact rfl; dsimp only [Nat.reduceAdd, Nat.reduceMul, Nat.reduceSub, List.nil_append, List.cons_append, nbk, List.map_cons, List.map_nil]; apply Trc.stp rfl rfl rfl; apply s_box; exact rfl; exact rfl; dsimp only [Nat.reduceAdd, Nat.reduceMul, Nat.reduceSub, List.nil_append, List.cons_append, nbk, List.map_cons, List.map_nil]
     apply Trc.stp rfl rfl rfl; apply s_assign; exact rfl; dsimp only [Nat.reduceAdd, Nat.reduceMul, List.nil_append]
     exact Trc.done _ _ _; exact rfl; refine thn_n ?_; refine Gol.seq ?_; refine Gol.seq ?_; apply Gol.region
     apply Trc.stp rfl rfl rfl; apply s_move; exact rfl; dsimp only [Nat.reduceAdd, Nat.reduceMul, List.nil_append]
     apply Trc.stp rfl rfl rfl; apply s_mkf; apply evs.cons rfl; apply evs.cons rfl; exact evs.nil; dsimp only [Nat.reduceAdd, Nat.reduceMul, List.nil_append]
     apply Trc.stp rfl rfl rfl; apply s_call (f := 74) rfl; apply evs.cons rfl
     apply evs.cons rfl; exact evs.nil; apply ArgL.cons; exact arg_clo; apply ArgL.cons; apply arg_fn; apply ArgL.cons; exact arg_pt0 rfl; apply ArgL.cons
     exact arg_pt0 rfl; exact ArgL.nil; exact ArgL.nil; exact hi _; exact Nat.le_of_ble_eq_true rfl; dsimp only [Nat.reduceAdd, Nat.reduceMul, Nat.reduceSub, List.nil_append, List.cons_append, nbk, List.map_cons, List.map_nil]
     apply Trc.stp rfl rfl rfl; apply s_assign; exact rfl; dsimp only [Nat.reduceAdd, Nat.reduceMul, List.nil_append]
     exact Trc.done _ _ _; exact rfl; refine thn_n ?_; refine Gol.seq ?_; apply Gol.region; apply Trc.stp rfl rfl rfl; apply s_move; exact rfl; dsimp only [Nat.reduceAdd, Nat.reduceMul, List.nil_append]
     apply Trc.stp rfl rfl rfl; apply s_gen; exact rfl; exact rfl; dsimp only [Nat.reduceAdd, Nat.reduceMul, List.nil_append]
     exact Trc.done _ _ _; exact rfl; refine thn_n ?_)
    refine Gol.cond_t rfl (by simp) ?_
    (refine Gol.seq ?_; apply Gol.region; apply Trc.stp rfl rfl rfl; apply s_move; exact rfl
     dsimp only [Nat.reduceAdd, Nat.reduceMul, List.nil_append]; apply Trc.stp rfl rfl rfl; apply s_assign; exact rfl; dsimp only [Nat.reduceAdd, Nat.reduceMul, List.nil_append]
     exact Trc.done _ _ _; exact rfl; refine thn_n ?_; refine Gol.ret ?_; refine thn_r ?_)
    (apply RetQ.mk (by first | exact .inr rfl | exact .inl rfl); apply res_1 rfl; exact res_tmp rfl; exact out_val)
theorem compareCells_ok (y x : Dl) : Fresh Tryz.prog 62 [.v (.agg (deltaC y.k y.i y.n y.a)), .v (.agg (deltaC x.k x.i x.n x.a))] (fun _ => .v (.int .i64 (cmpC y.k y.i y.n x.k x.i x.n))) [] := by
  refine Fresh.of (fn := Tryz.f62) Tryz.func62 rfl (Nat.le_of_ble_eq_true rfl) fun w => ?_
  (refine Gol.seq ?_; apply Gol.region; apply Trc.stp rfl rfl rfl; apply s_box; exact rfl
   exact rfl; dsimp only [Nat.reduceAdd, Nat.reduceMul, Nat.reduceSub, List.nil_append, List.cons_append, nbk, List.map_cons, List.map_nil]; apply Trc.stp rfl rfl rfl; apply s_box; exact rfl; exact rfl; dsimp only [Nat.reduceAdd, Nat.reduceMul, Nat.reduceSub, List.nil_append, List.cons_append, nbk, List.map_cons, List.map_nil]
   apply Trc.stp rfl rfl rfl; apply s_assign; exact rfl; dsimp only [Nat.reduceAdd, Nat.reduceMul, List.nil_append]
   exact Trc.done _ _ _; exact rfl; refine thn_n ?_; refine Gol.seq ?_; apply Gol.region; apply Trc.stp rfl rfl rfl; apply s_fieldAddr; exact rfl; dsimp only [Nat.reduceAdd, Nat.reduceMul, List.nil_append]
   apply Trc.stp rfl rfl rfl; apply s_loadN; exact rfl; exact rfl; exact Nat.le_of_ble_eq_true rfl; exact agu_cell rfl; dsimp only [Nat.reduceAdd, Nat.reduceMul, List.nil_append]
   apply Trc.stp rfl rfl rfl; apply s_fieldAddr; exact rfl; dsimp only [Nat.reduceAdd, Nat.reduceMul, List.nil_append]
   apply Trc.stp rfl rfl rfl; apply s_loadN; exact rfl; exact rfl; exact Nat.le_of_ble_eq_true rfl; exact agu_cell rfl; dsimp only [Nat.reduceAdd, Nat.reduceMul, List.nil_append]
   apply Trc.stp rfl rfl rfl; apply s_call (f := 32) rfl; apply evs.cons rfl; apply evs.cons rfl; exact evs.nil
   apply ArgL.cons; exact arg_clo; apply ArgL.cons; exact arg_clo; exact ArgL.nil; exact compare_ok _ _ _ _ _ _; exact Nat.le_of_ble_eq_true rfl; dsimp only [Nat.reduceAdd, Nat.reduceMul, Nat.reduceSub, List.nil_append, List.cons_append, nbk, List.map_cons, List.map_nil]
   apply Trc.stp rfl rfl rfl; apply s_assign; exact rfl; dsimp only [Nat.reduceAdd, Nat.reduceMul, List.nil_append]
   exact Trc.done _ _ _; exact rfl; refine thn_n ?_; refine Gol.ret ?_)
  (apply RetQ.mk (by first | exact .inr rfl | exact .inl rfl); apply res_1 rfl; exact res_tmp rfl; exact out_val)
theorem cloneS_ok (s : Stt) (hs : Sm s) : Fresh Tryz.prog 44 [stA s] (stO s) (stB s) := by
  obtain ⟨h1, h2, h3, h4⟩ := hs
  unfold stA stO stB
  refine Fresh.of (fn := Tryz.f44) Tryz.func44 rfl (Nat.le_of_ble_eq_true rfl) fun w => ?_
  (refine Gol.seq ?_; apply Gol.region; apply Trc.stp rfl rfl rfl; apply s_box; exact rfl
   exact rfl; dsimp only [Nat.reduceAdd, Nat.reduceMul, Nat.reduceSub, List.nil_append, List.cons_append, nbk, List.map_cons, List.map_nil]; apply Trc.stp rfl rfl rfl; apply s_alloc; dsimp only [Nat.reduceAdd, Nat.reduceMul, Nat.reduceSub, List.nil_append, List.cons_append, nbk, List.map_cons, List.map_nil]
   exact Trc.done _ _ _; exact rfl; refine thn_n ?_; refine Gol.seq ?_; apply Gol.any; kernel_rfl; apply Trc.stp rfl rfl rfl; apply s_fieldAddr; exact rfl; dsimp only [Nat.reduceAdd, Nat.reduceMul, List.nil_append]
   apply Trc.stp rfl rfl rfl; apply s_load; exact rfl; exact rfl; exact rfl; dsimp only [Nat.reduceAdd, Nat.reduceMul, List.nil_append]
   apply Trc.stp rfl rfl rfl; apply s_call (f := 86) rfl; apply evs.cons rfl; exact evs.nil
   apply ArgL.cons; exact arg_clo; exact ArgL.nil; exact cloneD_ok s.cells _ (by omega); exact Nat.le_of_ble_eq_true rfl; dsimp only [Nat.reduceAdd, Nat.reduceMul, Nat.reduceSub, List.nil_append, List.cons_append, nbk, List.map_cons, List.map_nil]
   apply Trc.stp rfl rfl rfl; apply s_fieldAddr; exact rfl; dsimp only [Nat.reduceAdd, Nat.reduceMul, List.nil_append]
   apply Trc.stp rfl rfl rfl; apply s_load; exact rfl; exact rfl; exact rfl; dsimp only [Nat.reduceAdd, Nat.reduceMul, List.nil_append]
   apply Trc.stp rfl rfl rfl; apply s_call (f := 87) rfl; apply evs.cons rfl; exact evs.nil; apply ArgL.cons; exact arg_clo
   exact ArgL.nil; exact cloneI_ok s.seqs _ (by omega); exact Nat.le_of_ble_eq_true rfl; dsimp only [Nat.reduceAdd, Nat.reduceMul, Nat.reduceSub, List.nil_append, List.cons_append, nbk, List.map_cons, List.map_nil]
   apply Trc.stp rfl rfl rfl; apply s_fieldAddr; exact rfl; dsimp only [Nat.reduceAdd, Nat.reduceMul, List.nil_append]
   apply Trc.stp rfl rfl rfl; apply s_load; exact rfl; exact rfl; exact rfl; dsimp only [Nat.reduceAdd, Nat.reduceMul, List.nil_append]
   apply Trc.stp rfl rfl rfl; apply s_call (f := 88) rfl; apply evs.cons rfl; exact evs.nil
   apply ArgL.cons; exact arg_clo; exact ArgL.nil; exact cloneL_ok s.locks _ (by omega); exact Nat.le_of_ble_eq_true rfl; dsimp only [Nat.reduceAdd, Nat.reduceMul, Nat.reduceSub, List.nil_append, List.cons_append, nbk, List.map_cons, List.map_nil]
   apply Trc.stp rfl rfl rfl; apply s_fieldAddr; exact rfl; dsimp only [Nat.reduceAdd, Nat.reduceMul, List.nil_append]
   apply Trc.stp rfl rfl rfl; apply s_load; exact rfl; exact rfl; exact rfl; dsimp only [Nat.reduceAdd, Nat.reduceMul, List.nil_append]
   apply Trc.stp rfl rfl rfl; apply s_call (f := 89) rfl; apply evs.cons rfl; exact evs.nil
   apply ArgL.cons; exact arg_clo; exact ArgL.nil; exact cloneN_ok s.applied _ (by omega); exact Nat.le_of_ble_eq_true rfl; dsimp only [Nat.reduceAdd, Nat.reduceMul, Nat.reduceSub, List.nil_append, List.cons_append, nbk, List.map_cons, List.map_nil]
   apply Trc.stp rfl rfl rfl; apply s_fieldAddr; exact rfl; dsimp only [Nat.reduceAdd, Nat.reduceMul, List.nil_append]
   apply Trc.stp rfl rfl rfl; apply s_load; exact rfl; exact rfl; exact rfl; dsimp only [Nat.reduceAdd, Nat.reduceMul, List.nil_append]
   apply Trc.stp rfl rfl rfl; apply s_bld; exact rfl; (focus (dsimp only [splB, cuB, spl, cu, Value.cells, nameC, List.map, List.take, List.drop, List.append, List.length, List.cons_append, List.nil_append, Nat.reduceAdd, List.take_succ_cons, List.take_zero, List.drop_succ_cons, List.drop_zero, List.take_nil, List.drop_nil, List.append_nil, List.length_cons, List.length_nil]; done))
   dsimp only [Nat.reduceAdd, Nat.reduceMul, Nat.reduceSub, List.nil_append, List.cons_append, nbk, List.map_cons, List.map_nil]; apply Trc.stepN rfl rfl
   exact wnt_n rfl; apply s_storeW; exact rfl; exact rfl; exact rfl; exact rfl; rfl; exact rfl; dsimp only [Nat.reduceAdd, Nat.reduceMul, Nat.reduceSub, List.nil_append, List.cons_append, nbk, List.map_cons, List.map_nil]
   exact Trc.done _ _ _; kernel_rfl; exact rfl; refine thn_n ?_; refine Gol.ret ?_)
  (apply RetQ.mkM (by first | exact .inr rfl | exact .inl rfl); apply res_1 rfl; exact res_cell rfl rfl rfl (agu_cua _); apply out_ids [32, 56, 80, 104] rfl
   apply OBs.cons; exact rfl; exact inferInstance; apply OBs.cons; exact rfl; exact inferInstance; apply OBs.cons; exact rfl; exact inferInstance; apply OBs.cons
   exact rfl; exact inferInstance; exact OBs.nil; intro k; apply Ot.agL; apply OtL.cons; exact Ot.sl (j := 0) rfl; apply OtL.cons; exact Ot.sl (j := 1) rfl
   apply OtL.cons; exact Ot.sl (j := 2) rfl; apply OtL.cons; exact Ot.sl (j := 3) rfl; apply OtL.cons; exact Ot.v inferInstance; exact OtL.nil)
def totN (l : List Dl) (n : Int) : Int := l.foldl (fun n d => addI n d.a) n
theorem tot_drop {l : List Dl} {i : Nat} {d : Dl} (h : l[i]? = some d) (n : Int) : totN (l.drop i) n = totN (l.drop (i + 1)) (addI n d.a) := by rw [drop_of h]; rfl
theorem total_ok (s : Stt) (hs : Sm s) : Fresh Tryz.prog 28 [stA s] (fun _ => .v (.int .i64 (totN s.cells 0))) [] := by
  have h1 := hs.c
  unfold stA
  refine Fresh.of (fn := Tryz.f28) Tryz.func28 rfl (Nat.le_of_ble_eq_true rfl) fun w => ?_
  (refine Gol.seq ?_; apply Gol.region; apply Trc.stp rfl rfl rfl; apply s_box; exact rfl
   exact rfl; dsimp only [Nat.reduceAdd, Nat.reduceMul, Nat.reduceSub, List.nil_append, List.cons_append, nbk, List.map_cons, List.map_nil]; apply Trc.stp rfl rfl rfl; apply s_assign; exact rfl; dsimp only [Nat.reduceAdd, Nat.reduceMul, List.nil_append]
   exact Trc.done _ _ _; exact rfl; refine thn_n ?_; refine Gol.seq ?_; apply Gol.region; apply Trc.stp rfl rfl rfl; apply s_assign; exact rfl; dsimp only [Nat.reduceAdd, Nat.reduceMul, List.nil_append]
   exact Trc.done _ _ _; exact rfl; refine thn_n ?_; refine Gol.seq ?_; refine Gol.seq ?_; apply Gol.region
   apply Trc.stp rfl rfl rfl; apply s_fieldAddr; exact rfl; dsimp only [Nat.reduceAdd, Nat.reduceMul, List.nil_append]
   apply Trc.stp rfl rfl rfl; apply s_load; exact rfl; exact rfl; exact rfl; dsimp only [Nat.reduceAdd, Nat.reduceMul, List.nil_append]
   apply Trc.stp rfl rfl rfl; apply s_len; exact rfl; exact ln_ex; dsimp only [Nat.reduceAdd, Nat.reduceMul, List.nil_append]
   apply Trc.stp rfl rfl rfl; apply s_move; exact rfl; dsimp only [Nat.reduceAdd, Nat.reduceMul, List.nil_append]
   exact Trc.done _ _ _; exact rfl; refine thn_n ?_; refine Gol.block ?_)
  refine Gol.loop (ι := Nat × Int) (fun x => x.1 ≤ s.cells.length ∧ totN (s.cells.drop x.1) x.2 = totN s.cells 0) (fun x => s.cells.length - x.1) 56 (fun _ => []) (fun x => [(9, .v (.int .i64 (x.1 : Int))), (8, .v (.int .i64 (s.cells.length : Int))), (7, .ex s.cells.length false (dsA s.cells)), (3, .v (.int .i64 x.2))]) (0, 0) ⟨Nat.zero_le _, rfl⟩ ?_ ?_
  · (apply Le.mk' []; apply RnT.c; exact rfl; exact Rn.v rfl; apply RnT.c; exact rfl; exact Rn.v rfl; apply RnT.c; exact rfl; exact Rn.clo inferInstance rfl
     apply RnT.c; exact rfl; exact Rn.v rfl; exact RnT.n; exact RnH.n; exact rfl)
  rintro ⟨i, n⟩ ⟨g1, g2⟩
  dsimp only at g1 g2 ⊢
  (refine Gol.seq ?_; apply Gol.region; apply Trc.stp rfl rfl rfl; apply s_ltn; exact rfl
   exact rfl; dsimp only [Nat.reduceAdd, Nat.reduceMul, List.nil_append]; exact Trc.done _ _ _
   exact rfl; refine thn_n ?_; refine Gol.seq ?_)
  refine Gol.cond rfl (fun h => ?_) (fun h => ?_)
  · have hlt : i < s.cells.length := of_decide_eq_true h
    obtain ⟨d, hd⟩ : ∃ d, s.cells[i]? = some d := ⟨s.cells[i], List.getElem?_eq_getElem hlt⟩
    (refine Gol.skip ?_; refine thn_n ?_; refine Gol.seq ?_; refine Gol.block ?_; refine Gol.seq ?_
     apply Gol.region; apply Trc.stp rfl rfl rfl; apply s_ixe; exact rfl; exact rfl; omega; exact ds_ne (by omega)
     dsimp only [Nat.reduceAdd, Nat.reduceMul, List.nil_append]; apply Trc.stp rfl rfl rfl; apply s_loadEN; exact rfl; simp only [byA_length, List.length_append, List.length_cons, List.length_nil, List.length_take, List.length_drop, List.length_replicate, List.length_map, Nat.mul_one, nameB_length, flat_length, List.length_set, inA_length, dsA_length, lsA_length, dA_length, lA_length] <;> omega
     exact agu_d (by assumption); dsimp only [Nat.reduceAdd, Nat.reduceMul, List.nil_append]
     apply Trc.stp rfl rfl rfl; apply s_alloc; dsimp only [Nat.reduceAdd, Nat.reduceMul, Nat.reduceSub, List.nil_append, List.cons_append, nbk, List.map_cons, List.map_nil]
     apply Trc.stepN rfl rfl; exact wnt_n rfl; apply s_storeW; exact rfl; exact rfl; exact rfl; exact rfl; rfl; exact rfl; dsimp only [Nat.reduceAdd, Nat.reduceMul, Nat.reduceSub, List.nil_append, List.cons_append, nbk, List.map_cons, List.map_nil]
     exact Trc.done _ _ _; exact rfl; refine thn_n ?_; apply Gol.region; apply Trc.stp rfl rfl rfl; apply s_move
     exact rfl; dsimp only [Nat.reduceAdd, Nat.reduceMul, List.nil_append]; apply Trc.stp rfl rfl rfl; apply s_fieldAddr; exact rfl; dsimp only [Nat.reduceAdd, Nat.reduceMul, List.nil_append]
     apply Trc.stp rfl rfl rfl; apply s_load; exact rfl; exact rfl; exact rfl; dsimp only [Nat.reduceAdd, Nat.reduceMul, List.nil_append]
     apply Trc.stp rfl rfl rfl; (with_reducible apply s_addW (a := n)); exact rfl; exact rfl; dsimp only [Nat.reduceAdd, Nat.reduceMul, List.nil_append]
     apply Trc.stp rfl rfl rfl; apply s_assign; exact rfl; dsimp only [Nat.reduceAdd, Nat.reduceMul, List.nil_append]
     exact Trc.done _ _ _; exact rfl; refine inBlk_n ?_; refine thn_n ?_; apply Gol.region; apply Trc.stp rfl rfl rfl; apply s_addn; exact rfl; exact rfl; simp <;> omega; dsimp only [Nat.reduceAdd, Nat.reduceMul, List.nil_append]
     apply Trc.stp rfl rfl rfl; apply s_move; exact rfl; dsimp only [Nat.reduceAdd, Nat.reduceMul, List.nil_append]
     exact Trc.done _ _ _; exact rfl)
    refine rnd_n (i + 1, addI n d.a) ⟨by dsimp only; omega, by dsimp only; rw [← g2, tot_drop hd]⟩ (by dsimp only; omega) ?_
    (apply Le.mk' []; apply RnT.c; exact rfl; exact Rn.v rfl; apply RnT.c; exact rfl; exact Rn.v rfl; apply RnT.c; exact rfl; exact Rn.clo inferInstance rfl
     apply RnT.c; exact rfl; exact Rn.v rfl; exact RnT.n; exact RnH.n; exact rfl)
  · have hge : ¬ i < s.cells.length := of_decide_eq_false h
    rw [List.drop_of_length_le (by omega)] at g2
    rw [← g2]
    (refine Gol.exit ?_; refine thn_x ?_; refine rnd_x ?_; refine inBlk_hit ?_; refine thn_n ?_
     refine Gol.seq ?_; apply Gol.region; apply Trc.stp rfl rfl rfl; apply s_move; exact rfl
     dsimp only [Nat.reduceAdd, Nat.reduceMul, List.nil_append]; apply Trc.stp rfl rfl rfl; apply s_assign; exact rfl; dsimp only [Nat.reduceAdd, Nat.reduceMul, List.nil_append]
     exact Trc.done _ _ _; exact rfl; refine thn_n ?_; refine Gol.ret ?_)
    (apply RetQ.mk (by first | exact .inr rfl | exact .inl rfl); apply res_1 rfl; exact res_tmp rfl; exact out_val)
end Go.Proofs.YtkkeeokeihkagaaGreat


/-
  Layer 21, state: Add. Conditions: lengths below 2^17.
-/
namespace Go.Proofs.YtkkeeokeihkagaaGreat
open Go.RowKit

def okZ (a : Int) : Prop := -9223372036854775808 ≤ a ∧ a ≤ 9223372036854775807
theorem addI_zero {a : Int} (h : okZ a) : addI 0 a = a := by rw [addI, Int.zero_add]; exact i64w h
def gtL (x y : Dl) : Bool := decide (0 < cmpC y.k y.i y.n x.k x.i x.n)
def insL (l : List Dl) (x : Dl) : List Dl := l.take (bef (gtL x) l) ++ x :: l.drop (bef (gtL x) l)
def delL (l : List Dl) (x : Dl) : List Dl := l.take (bef (eqC x.k x.i x.n) l) ++ l.drop (bef (eqC x.k x.i x.n) l + 1)
def putL (l : List Dl) (x : Dl) : List Dl := match l.find? (eqC x.k x.i x.n) with
  | some d => if addI d.a x.a = 0 then delL l x else l.set (bef (eqC x.k x.i x.n) l) ⟨d.k, d.i, d.n, addI d.a x.a⟩
  | none => if x.a = 0 then l else insL l x
def addL (l m : List Dl) : List Dl := m.foldl putL l
theorem addL_next {l m : List Dl} {j : Nat} {x : Dl} (h : m[j]? = some x) : addL l (m.take (j + 1)) = putL (addL l (m.take j)) x := by
  obtain ⟨hl, e⟩ := List.getElem?_eq_some_iff.1 h
  rw [List.take_succ_eq_append_getElem hl, addL, List.foldl_append, e]; rfl
theorem insL_len (l : List Dl) (x : Dl) : (insL l x).length = l.length + 1 := by
  have := bef_le (gtL x) l
  simp [insL]; omega
theorem putL_len (l : List Dl) (x : Dl) : (putL l x).length ≤ l.length + 1 := by
  unfold putL
  split
  · split
    · simp [delL]; omega
    · simp
  · split
    · omega
    · rw [insL_len]; exact Nat.le_refl _
theorem addL_len (m : List Dl) : ∀ l : List Dl, (addL l m).length ≤ l.length + m.length := by
  induction m with
  | nil => intro l; simp [addL]
  | cons x m ih => intro l; have h1 := ih (putL l x); have h2 := putL_len l x; simp only [addL, List.foldl_cons, List.length_cons] at h1 ⊢; omega
theorem set_amt {l : List Dl} {i : Nat} {d : Dl} (h : l[i]? = some d) (a : Int) : spl (dsA l) (i * 11 + 10) (cu (.v (.int .i64 a))) = dsA (l.set i ⟨d.k, d.i, d.n, a⟩) := by
  have hi := (List.getElem?_eq_some_iff.1 h).1
  have e1 : l = l.take i ++ d :: l.drop (i + 1) := by rw [← drop_of h, List.take_append_drop]
  have hl : (dsA (l.take i)).length = i * 11 := by rw [dsA_length, List.length_take]; congr 1; omega
  have e2 : l.set i ⟨d.k, d.i, d.n, a⟩ = l.take i ++ ⟨d.k, d.i, d.n, a⟩ :: l.drop (i + 1) := by
    rw [List.set_eq_take_append_cons_drop, if_pos hi]
  rw [e2, dsA_append, dsA_cons]
  conv => lhs; rw [e1, dsA_append, dsA_cons]
  unfold spl
  have hd : dA d = (dA d).take 10 ++ [.v (.int .i64 d.a)] := rfl
  have h10 : (dsA (l.take i) ++ (dA d).take 10).length = i * 11 + 10 := by rw [List.length_append, hl]; rfl
  rw [hd, ← List.append_assoc, ← List.append_assoc, List.append_assoc _ [_] _, List.take_left' h10]
  have hc : (cu (.v (.int .i64 a))).length = 1 := rfl
  rw [hc, ← h10, List.drop_length_add_append]
  simp only [List.append_assoc]
  rfl
def stW (s : Stt) (l : List Dl) : Stt := ⟨l, s.seqs, s.locks, s.applied, s.guilty⟩
theorem add_ok (s : Stt) (m : List Dl) (hs : Sm s) (hm : m.length ≤ 100000) (hz : ∀ x ∈ m, okZ x.a) : Fresh Tryz.prog 55 [stA s, .ex m.length false (dsA m)] (stO (stW s (addL s.cells m))) (stB (stW s (addL s.cells m))) := by
  obtain ⟨h1, h2, h3, h4⟩ := hs
  have hcl := cloneS_ok s ⟨h1, h2, h3, h4⟩
  unfold stA stO stB at hcl
  unfold stA stO stB stW
  dsimp only
  refine Fresh.of (fn := Tryz.f55) Tryz.func55 rfl (Nat.le_of_ble_eq_true rfl) fun w => ?_
  (refine Gol.seq ?_; apply Gol.region; apply Trc.stp rfl rfl rfl; apply s_box; exact rfl
   exact rfl; dsimp only [Nat.reduceAdd, Nat.reduceMul, Nat.reduceSub, List.nil_append, List.cons_append, nbk, List.map_cons, List.map_nil]; apply Trc.stp rfl rfl rfl; apply s_alloc; dsimp only [Nat.reduceAdd, Nat.reduceMul, Nat.reduceSub, List.nil_append, List.cons_append, nbk, List.map_cons, List.map_nil]
   exact Trc.done _ _ _; exact rfl; refine thn_n ?_; refine Gol.seq ?_; apply Gol.region; apply Trc.stp rfl rfl rfl; apply s_loadW; exact rfl; exact rfl; exact rfl; exact agu_cua _; dsimp only [Nat.reduceAdd, Nat.reduceMul, List.nil_append]
   apply Trc.stp rfl rfl rfl; apply s_call (f := 44) rfl; apply evs.cons rfl; exact evs.nil; apply ArgL.cons; exact arg_clo
   exact ArgL.nil; exact hcl; exact Nat.le_of_ble_eq_true rfl; dsimp only [Nat.reduceAdd, Nat.reduceMul, Nat.reduceSub, List.nil_append, List.cons_append, nbk, List.map_cons, List.map_nil]
   apply Trc.stepN rfl rfl; exact wnt_n rfl; apply s_storeW; exact rfl; exact rfl; exact rfl; exact rfl; rfl; exact rfl; dsimp only [Nat.reduceAdd, Nat.reduceMul, Nat.reduceSub, List.nil_append, List.cons_append, nbk, List.map_cons, List.map_nil]
   exact Trc.done _ _ _; exact rfl; refine thn_n ?_; refine Gol.seq ?_; refine Gol.seq ?_; apply Gol.region
   apply Trc.stp rfl rfl rfl; apply s_move; exact rfl; dsimp only [Nat.reduceAdd, Nat.reduceMul, List.nil_append]
   apply Trc.stp rfl rfl rfl; apply s_len; exact rfl; exact ln_ex; dsimp only [Nat.reduceAdd, Nat.reduceMul, List.nil_append]
   apply Trc.stp rfl rfl rfl; apply s_move; exact rfl; dsimp only [Nat.reduceAdd, Nat.reduceMul, List.nil_append]
   exact Trc.done _ _ _; exact rfl; refine thn_n ?_; refine Gol.block ?_)
  refine Gol.loop (ι := Nat) (fun j => j ≤ m.length) (fun j => m.length - j) 64
    (fun j => [(0, some ⟨[.sl 24 (addL s.cells (m.take j)).length, .sl 25 s.seqs.length, .sl 26 s.locks.length, .sl 27 s.applied.length, .v (.int .i64 s.guilty)], 28, 5⟩), (24, some ⟨dsA (addL s.cells (m.take j)), 46, 11⟩), (25, some ⟨inA s.seqs, 3, 1⟩), (26, some ⟨lsA s.locks, 50, 19⟩), (27, some ⟨byA (flat s.applied), 30, 8⟩), (8, some ⟨[.v (.slice none 0 0), .v (.slice none 0 0), .v (.slice none 0 0), .v (.slice none 0 0), .v (.int .i64 0)], 28, 5⟩)])
    (fun j => [(13, .v (.int .i64 (j : Int))), (12, .v (.int .i64 (m.length : Int))), (11, .ex m.length false (dsA m)), (4, .pt 8 0), (2, .pt 0 0)]) 0 (Nat.zero_le _) ?_ ?_
  · (apply Le.mk3' []; apply RnT3.c; exact rfl; apply Rn3.r; exact Rn.v rfl; apply RnT3.c; exact rfl; apply Rn3.r; exact Rn.v rfl; apply RnT3.c; exact rfl
     apply Rn3.r; exact Rn.clo inferInstance rfl; apply RnT3.c; exact rfl; apply Rn3.r; exact Rn.pt rfl rfl; apply RnT3.c; exact rfl; apply Rn3.r; exact Rn.pt rfl rfl
     exact RnT3.n; apply RnH3.c; exact rfl; exact rfl; apply RnC.l; apply Rn3L.cons; apply Rn3.r; exact Rn.sl rfl rfl; apply Rn3L.cons; apply Rn3.r; exact Rn.sl rfl rfl
     apply Rn3L.cons; apply Rn3.r; exact Rn.sl rfl rfl; apply Rn3L.cons; apply Rn3.r; exact Rn.sl rfl rfl; apply Rn3L.cons; apply Rn3.r; exact Rn.v rfl; exact Rn3L.nil
     exact rfl; exact rfl; apply RnH3.c; exact rfl; exact rfl; apply RnC.cl; rfl; exact inferInstance; exact rfl; exact rfl; apply RnH3.c; exact rfl; exact rfl
     apply RnC.cl; rfl; exact inferInstance; exact rfl; exact rfl; apply RnH3.c; exact rfl; exact rfl; apply RnC.cl; rfl; exact inferInstance; exact rfl; exact rfl
     apply RnH3.c; exact rfl; exact rfl; apply RnC.cl; rfl; exact inferInstance; exact rfl; exact rfl; apply RnH3.c; exact rfl; exact rfl; apply RnC.cl; rfl
     exact inferInstance; exact rfl; exact rfl; exact RnH3.n; exact rfl)
  intro j hj
  have hC : (addL s.cells (m.take j)).length ≤ 200000 := by
    have := addL_len (m.take j) s.cells
    rw [List.length_take] at this; omega
  (refine Gol.seq ?_; apply Gol.region; apply Trc.stp rfl rfl rfl; apply s_ltn; exact rfl
   exact rfl; dsimp only [Nat.reduceAdd, Nat.reduceMul, List.nil_append]; exact Trc.done _ _ _
   exact rfl; refine thn_n ?_; refine Gol.seq ?_)
  refine Gol.cond rfl (fun h => ?_) (fun h => ?_)
  rotate_left
  · have hge : ¬ j < m.length := of_decide_eq_false h
    rw [List.take_of_length_le (by omega)]
    (refine Gol.exit ?_; refine thn_x ?_; refine rnd_x ?_; refine inBlk_hit ?_; refine thn_n ?_
     refine Gol.seq ?_; apply Gol.region; apply Trc.stp rfl rfl rfl; apply s_loadW; exact rfl
     exact rfl; exact rfl; exact agu_cua _; dsimp only [Nat.reduceAdd, Nat.reduceMul, List.nil_append]
     apply Trc.stepN rfl rfl; exact wnt_n rfl; apply s_storeW; exact rfl; exact rfl; exact rfl; exact rfl; rfl; exact rfl; dsimp only [Nat.reduceAdd, Nat.reduceMul, Nat.reduceSub, List.nil_append, List.cons_append, nbk, List.map_cons, List.map_nil]
     exact Trc.done _ _ _; exact rfl; refine thn_n ?_; refine Gol.ret ?_)
    (apply RetQ.mkM (by first | exact .inr rfl | exact .inl rfl); apply res_1 rfl; exact res_cell rfl rfl rfl (agu_cua _); apply out_ids [24, 25, 26, 27] rfl
     apply OBs.cons; exact rfl; exact inferInstance; apply OBs.cons; exact rfl; exact inferInstance; apply OBs.cons; exact rfl; exact inferInstance; apply OBs.cons
     exact rfl; exact inferInstance; exact OBs.nil; intro k; apply Ot.agL; apply OtL.cons; exact Ot.sl (j := 0) rfl; apply OtL.cons; exact Ot.sl (j := 1) rfl
     apply OtL.cons; exact Ot.sl (j := 2) rfl; apply OtL.cons; exact Ot.sl (j := 3) rfl; apply OtL.cons; exact Ot.v inferInstance; exact OtL.nil)
  have hlt : j < m.length := of_decide_eq_true h
  obtain ⟨x, hd⟩ : ∃ x, m[j]? = some x := ⟨m[j], List.getElem?_eq_getElem hlt⟩
  have hxz := hz x (List.mem_of_getElem? hd)
  have hN := addL_next (l := s.cells) hd
  generalize addL s.cells (m.take j) = L at hN hC
  have hf := find_ok (stW s L) x.k x.i x.n (by simp only [stW]; omega)
  have hg := get_ok' (stW s L) x.k x.i x.n (by simp only [stW]; omega)
  unfold stA stW at hf hg
  dsimp only at hf hg
  unfold getN at hg
  rcases fIx_cases (eqC x.k x.i x.n) L with ⟨f1, f2, f3, f4⟩ | ⟨i, d, f1, f2, f3, f4, f5, f6⟩
  · rw [f1] at hf
    rw [f2] at hg
    dsimp only at hg
    have hP : putL L x = if x.a = 0 then L else insL L x := by unfold putL; rw [f2]
    (refine Gol.skip ?_; refine thn_n ?_; refine Gol.seq ?_; refine Gol.block ?_; refine Gol.seq ?_
     apply Gol.region; apply Trc.stp rfl rfl rfl; apply s_ixe; exact rfl; exact rfl; omega; exact ds_ne (by omega)
     dsimp only [Nat.reduceAdd, Nat.reduceMul, List.nil_append]; apply Trc.stp rfl rfl rfl; apply s_loadEN; exact rfl; simp only [byA_length, List.length_append, List.length_cons, List.length_nil, List.length_take, List.length_drop, List.length_replicate, List.length_map, Nat.mul_one, nameB_length, flat_length, List.length_set, inA_length, dsA_length, lsA_length, dA_length, lA_length] <;> omega
     exact agu_d (by assumption); dsimp only [Nat.reduceAdd, Nat.reduceMul, List.nil_append]
     apply Trc.stp rfl rfl rfl; apply s_alloc; dsimp only [Nat.reduceAdd, Nat.reduceMul, Nat.reduceSub, List.nil_append, List.cons_append, nbk, List.map_cons, List.map_nil]
     apply Trc.stepN rfl rfl; exact wnt_n rfl; apply s_storeW; exact rfl; exact rfl; exact rfl; exact rfl; rfl; exact rfl; dsimp only [Nat.reduceAdd, Nat.reduceMul, Nat.reduceSub, List.nil_append, List.cons_append, nbk, List.map_cons, List.map_nil]
     exact Trc.done _ _ _; exact rfl; refine thn_n ?_; refine Gol.seq ?_; apply Gol.region; apply Trc.stp rfl rfl rfl; apply s_loadW; exact rfl; exact rfl; exact rfl; exact agu_cua _; dsimp only [Nat.reduceAdd, Nat.reduceMul, List.nil_append]
     apply Trc.stp rfl rfl rfl; apply s_fieldAddr; exact rfl; dsimp only [Nat.reduceAdd, Nat.reduceMul, List.nil_append]
     apply Trc.stp rfl rfl rfl; apply s_loadN; exact rfl; exact rfl; exact Nat.le_of_ble_eq_true rfl; exact agu_cell rfl; dsimp only [Nat.reduceAdd, Nat.reduceMul, List.nil_append]
     apply Trc.stp rfl rfl rfl; apply s_call (f := 33) rfl; apply evs.cons rfl; apply evs.cons rfl; exact evs.nil; apply ArgL.cons
     apply arg_ag; apply ArgL.cons; exact arg_sl rfl; apply ArgL.cons; exact arg_sl rfl; apply ArgL.cons; exact arg_sl rfl; apply ArgL.cons; exact arg_sl rfl
     apply ArgL.cons; exact arg_clo; exact ArgL.nil; apply ArgL.cons; exact arg_clo; exact ArgL.nil; exact hf; exact Nat.le_of_ble_eq_true rfl; dsimp only [Nat.reduceAdd, Nat.reduceMul, Nat.reduceSub, List.nil_append, List.cons_append, nbk, List.map_cons, List.map_nil]
     apply Trc.stp rfl rfl rfl; apply s_assign; exact rfl; dsimp only [Nat.reduceAdd, Nat.reduceMul, List.nil_append]
     exact Trc.done _ _ _; exact rfl; refine thn_n ?_; refine Gol.seq ?_; apply Gol.any; kernel_rfl; apply Trc.stp rfl rfl rfl; apply s_loadW; exact rfl; exact rfl; exact rfl; exact agu_cua _; dsimp only [Nat.reduceAdd, Nat.reduceMul, List.nil_append]
     apply Trc.stp rfl rfl rfl; apply s_fieldAddr; exact rfl; dsimp only [Nat.reduceAdd, Nat.reduceMul, List.nil_append]
     apply Trc.stp rfl rfl rfl; apply s_loadN; exact rfl; exact rfl; exact Nat.le_of_ble_eq_true rfl; exact agu_cell rfl; dsimp only [Nat.reduceAdd, Nat.reduceMul, List.nil_append]
     apply Trc.stp rfl rfl rfl; apply s_call (f := 26) rfl; apply evs.cons rfl; apply evs.cons rfl; exact evs.nil; apply ArgL.cons
     apply arg_ag; apply ArgL.cons; exact arg_sl rfl; apply ArgL.cons; exact arg_sl rfl; apply ArgL.cons; exact arg_sl rfl; apply ArgL.cons; exact arg_sl rfl
     apply ArgL.cons; exact arg_clo; exact ArgL.nil; apply ArgL.cons; exact arg_clo; exact ArgL.nil; exact hg; exact Nat.le_of_ble_eq_true rfl; dsimp only [Nat.reduceAdd, Nat.reduceMul, Nat.reduceSub, List.nil_append, List.cons_append, nbk, List.map_cons, List.map_nil]
     apply Trc.stp rfl rfl rfl; apply s_fieldAddr; exact rfl; dsimp only [Nat.reduceAdd, Nat.reduceMul, List.nil_append]
     apply Trc.stp rfl rfl rfl; apply s_load; exact rfl; exact rfl; exact rfl; dsimp only [Nat.reduceAdd, Nat.reduceMul, List.nil_append]
     apply Trc.stp rfl rfl rfl; (with_reducible apply s_addW (a := 0)); exact rfl; exact rfl; dsimp only [Nat.reduceAdd, Nat.reduceMul, List.nil_append]
     apply Trc.stp rfl rfl rfl; apply s_assign; exact rfl; dsimp only [Nat.reduceAdd, Nat.reduceMul, List.nil_append]
     exact Trc.done _ _ _; kernel_rfl; exact rfl; refine thn_n ?_; refine Gol.block ?_; refine Gol.seq ?_
     apply Gol.region; apply Trc.stp rfl rfl rfl; apply s_move; exact rfl; dsimp only [Nat.reduceAdd, Nat.reduceMul, List.nil_append]
     apply Trc.stp rfl rfl rfl; apply s_ge; exact rfl; exact rfl; dsimp only [Nat.reduceAdd, Nat.reduceMul, List.nil_append]
     apply Trc.stp rfl rfl rfl; apply s_move; exact rfl; dsimp only [Nat.reduceAdd, Nat.reduceMul, List.nil_append]
     apply Trc.skip rfl rfl; apply wnt_g; exact rfl; exact rfl; exact rfl; rfl; dsimp only [Nat.reduceAdd, Nat.reduceMul, List.nil_append]
     apply Trc.skip rfl rfl; apply wnt_g; exact rfl; exact rfl; exact rfl; rfl; dsimp only [Nat.reduceAdd, Nat.reduceMul, List.nil_append]
     apply Trc.stp rfl rfl rfl; apply s_pick_f; exact rfl; rfl; exact rfl; dsimp only [Nat.reduceAdd, Nat.reduceMul, List.nil_append]
     apply Trc.stp rfl rfl rfl; apply s_assign; exact rfl; dsimp only [Nat.reduceAdd, Nat.reduceMul, List.nil_append]
     exact Trc.done _ _ _; exact rfl; refine thn_n ?_)
    rw [addI_zero hxz]
    refine Gol.cond_f rfl rfl ?_
    (refine Gol.seq ?_; apply Gol.region; apply Trc.stp rfl rfl rfl; apply s_move; exact rfl
     dsimp only [Nat.reduceAdd, Nat.reduceMul, List.nil_append]; apply Trc.stp rfl rfl rfl; apply s_ge; exact rfl; exact rfl; dsimp only [Nat.reduceAdd, Nat.reduceMul, List.nil_append]
     apply Trc.stp rfl rfl rfl; apply s_assign; exact rfl; dsimp only [Nat.reduceAdd, Nat.reduceMul, List.nil_append]
     exact Trc.done _ _ _; exact rfl; refine thn_n ?_)
    refine Gol.cond_f rfl (by decide) ?_
    (refine Gol.seq ?_; apply Gol.region; apply Trc.stp rfl rfl rfl; apply s_move; exact rfl
     dsimp only [Nat.reduceAdd, Nat.reduceMul, List.nil_append]; apply Trc.stp rfl rfl rfl; apply s_ne; exact rfl; exact rfl; dsimp only [Nat.reduceAdd, Nat.reduceMul, List.nil_append]
     apply Trc.stp rfl rfl rfl; apply s_assign; exact rfl; dsimp only [Nat.reduceAdd, Nat.reduceMul, List.nil_append]
     exact Trc.done _ _ _; exact rfl; refine thn_n ?_)
    by_cases h0 : x.a = 0
    · rw [if_pos h0] at hP
      refine Gol.cond_f rfl (by simp [h0]) ?_
      (refine Gol.skip ?_; refine inBlk_n ?_; refine inBlk_n ?_; refine thn_n ?_; apply Gol.region
       apply Trc.stp rfl rfl rfl; apply s_addn; exact rfl; exact rfl; simp <;> omega; dsimp only [Nat.reduceAdd, Nat.reduceMul, List.nil_append]
       apply Trc.stp rfl rfl rfl; apply s_move; exact rfl; dsimp only [Nat.reduceAdd, Nat.reduceMul, List.nil_append]
       exact Trc.done _ _ _; exact rfl)
      refine rnd_n (j + 1) (by omega) (by omega) ?_
      rw [hN, hP]
      (apply Le.mk3' []; apply RnT3.c; exact rfl; apply Rn3.r; exact Rn.v rfl; apply RnT3.c; exact rfl; apply Rn3.r; exact Rn.v rfl; apply RnT3.c; exact rfl
       apply Rn3.r; exact Rn.clo inferInstance rfl; apply RnT3.c; exact rfl; apply Rn3.r; exact Rn.pt rfl rfl; apply RnT3.c; exact rfl; apply Rn3.r; exact Rn.pt rfl rfl
       exact RnT3.n; apply RnH3.c; exact rfl; exact rfl; apply RnC.l; apply Rn3L.cons; apply Rn3.r; exact Rn.sl rfl rfl; apply Rn3L.cons; apply Rn3.r; exact Rn.sl rfl rfl
       apply Rn3L.cons; apply Rn3.r; exact Rn.sl rfl rfl; apply Rn3L.cons; apply Rn3.r; exact Rn.sl rfl rfl; apply Rn3L.cons; apply Rn3.r; exact Rn.v rfl; exact Rn3L.nil
       exact rfl; exact rfl; apply RnH3.c; exact rfl; exact rfl; apply RnC.cl; rfl; exact inferInstance; exact rfl; exact rfl; apply RnH3.c; exact rfl; exact rfl
       apply RnC.cl; rfl; exact inferInstance; exact rfl; exact rfl; apply RnH3.c; exact rfl; exact rfl; apply RnC.cl; rfl; exact inferInstance; exact rfl; exact rfl
       apply RnH3.c; exact rfl; exact rfl; apply RnC.cl; rfl; exact inferInstance; exact rfl; exact rfl; apply RnH3.c; exact rfl; exact rfl; apply RnC.cl; rfl
       exact inferInstance; exact rfl; exact rfl; exact RnH3.n; exact rfl)
    · rw [if_neg h0] at hP
      have hb : ∀ ff, Fresh Tryz.prog 99 [.ex L.length ff (dsA L), .v (.agg (deltaC x.k x.i x.n x.a)), .fn 62 []] (fun _ => .v (.int .i64 (bef (gtL x) L : Int))) [] := fun ff => beforeD_ok L ff x 62 (fun y => cmpC y.k y.i y.n x.k x.i x.n) (by omega) (fun y _ => compareCells_ok y x)
      have hbl := bef_le (gtL x) L
      refine Gol.cond_t rfl (by simp [h0]) ?_
      (apply Gol.any; kernel_rfl; apply Trc.stp rfl rfl rfl; apply s_fieldAddr; exact rfl; dsimp only [Nat.reduceAdd, Nat.reduceMul, List.nil_append]
       apply Trc.stp rfl rfl rfl; apply s_load; exact rfl; exact rfl; exact rfl; dsimp only [Nat.reduceAdd, Nat.reduceMul, List.nil_append]
       apply Trc.stp rfl rfl rfl; apply s_fieldAddr; exact rfl; dsimp only [Nat.reduceAdd, Nat.reduceMul, List.nil_append]
       apply Trc.stp rfl rfl rfl; apply s_load; exact rfl; exact rfl; exact rfl; dsimp only [Nat.reduceAdd, Nat.reduceMul, List.nil_append]
       apply Trc.stp rfl rfl rfl; apply s_loadW; exact rfl; exact rfl; exact rfl; exact agu_cuv _; dsimp only [Nat.reduceAdd, Nat.reduceMul, List.nil_append]
       apply Trc.stp rfl rfl rfl; apply s_call (f := 99) rfl; apply evs.cons rfl; apply evs.cons rfl
       apply evs.cons rfl; exact evs.nil; apply ArgL.cons; exact arg_sl rfl; apply ArgL.cons; exact arg_clo; apply ArgL.cons; exact arg_clo; exact ArgL.nil; exact hb _
       exact Nat.le_of_ble_eq_true rfl; dsimp only [Nat.reduceAdd, Nat.reduceMul, Nat.reduceSub, List.nil_append, List.cons_append, nbk, List.map_cons, List.map_nil]
       apply Trc.stp rfl rfl rfl; apply s_loadW; exact rfl; exact rfl; exact rfl; exact agu_cuv _; dsimp only [Nat.reduceAdd, Nat.reduceMul, List.nil_append]
       apply Trc.stp rfl rfl rfl; apply s_lit; apply PA.cons; exact rfl; exact rfl; exact rfl; exact PA.nil; exact rfl; omega
       dsimp only [Nat.reduceAdd, Nat.reduceMul, Nat.reduceSub, List.nil_append, List.cons_append, nbk, List.map_cons, List.map_nil]; apply Trc.stp rfl rfl rfl; apply s_turn (f := 98) [24, 368] rfl; apply evs.cons rfl; apply evs.cons rfl
       apply evs.cons rfl; exact evs.nil; exact rfl; apply TBs.cons; exact rfl; exact inferInstance; apply TBs.cons; exact rfl; exact inferInstance; exact TBs.nil
       apply ArgTL.cons; exact ArgT.sl (j := 0) rfl; apply ArgTL.cons; exact ArgT.clo inferInstance; apply ArgTL.cons; exact ArgT.sl (j := 1) rfl; exact ArgTL.nil
       exact insD_ok L x (bef (gtL x) L) hbl (by omega); exact Nat.le_of_ble_eq_true rfl; dsimp only [Nat.reduceAdd, Nat.reduceMul, Nat.reduceSub, List.nil_append, List.cons_append, nbk, nones, List.map_cons, List.map_nil]
       apply Trc.stp rfl rfl rfl; apply s_fieldAddr; exact rfl; dsimp only [Nat.reduceAdd, Nat.reduceMul, List.nil_append]
       apply Trc.stepN rfl rfl; exact wnt_n rfl; apply s_store; exact rfl; exact rfl; exact rfl; exact rfl; rfl; exact Nat.le_of_ble_eq_true rfl
       dsimp only [Nat.reduceAdd, Nat.reduceMul, Nat.reduceSub, List.nil_append, List.cons_append, nbk, List.map_cons, List.map_nil]; exact Trc.done _ _ _; kernel_rfl
       exact rfl; refine inBlk_n ?_; refine inBlk_n ?_; refine thn_n ?_; apply Gol.region
       apply Trc.stp rfl rfl rfl; apply s_addn; exact rfl; exact rfl; simp <;> omega; dsimp only [Nat.reduceAdd, Nat.reduceMul, List.nil_append]
       apply Trc.stp rfl rfl rfl; apply s_move; exact rfl; dsimp only [Nat.reduceAdd, Nat.reduceMul, List.nil_append]
       exact Trc.done _ _ _; exact rfl)
      refine rnd_n (j + 1) (by omega) (by omega) ?_
      rw [hN, hP, insL_len]
      (apply Le.mk3' [(24, 376)]; apply RnT3.c; exact rfl; apply Rn3.r; exact Rn.v rfl; apply RnT3.c; exact rfl; apply Rn3.r; exact Rn.v rfl; apply RnT3.c; exact rfl
       apply Rn3.r; exact Rn.clo inferInstance rfl; apply RnT3.c; exact rfl; apply Rn3.r; exact Rn.pt rfl rfl; apply RnT3.c; exact rfl; apply Rn3.r; exact Rn.pt rfl rfl
       exact RnT3.n; apply RnH3.c; exact rfl; exact rfl; apply RnC.l; apply Rn3L.cons; apply Rn3.r; exact Rn.sl rfl rfl; apply Rn3L.cons; apply Rn3.r; exact Rn.sl rfl rfl
       apply Rn3L.cons; apply Rn3.r; exact Rn.sl rfl rfl; apply Rn3L.cons; apply Rn3.r; exact Rn.sl rfl rfl; apply Rn3L.cons; apply Rn3.r; exact Rn.v rfl; exact Rn3L.nil
       exact rfl; exact rfl; apply RnH3.c; exact rfl; exact rfl; apply RnC.cl; rfl; exact inferInstance; exact rfl; exact rfl; apply RnH3.c; exact rfl; exact rfl
       apply RnC.cl; rfl; exact inferInstance; exact rfl; exact rfl; apply RnH3.c; exact rfl; exact rfl; apply RnC.cl; rfl; exact inferInstance; exact rfl; exact rfl
       apply RnH3.c; exact rfl; exact rfl; apply RnC.cl; rfl; exact inferInstance; exact rfl; exact rfl; apply RnH3.c; exact rfl; exact rfl; apply RnC.cl; rfl
       exact inferInstance; exact rfl; exact rfl; exact RnH3.n; exact rfl)
  · rw [f4] at hf
    rw [f3] at hg
    dsimp only at hg
    (refine Gol.skip ?_; refine thn_n ?_; refine Gol.seq ?_; refine Gol.block ?_; refine Gol.seq ?_
     apply Gol.region; apply Trc.stp rfl rfl rfl; apply s_ixe; exact rfl; exact rfl; omega; exact ds_ne (by omega)
     dsimp only [Nat.reduceAdd, Nat.reduceMul, List.nil_append]; apply Trc.stp rfl rfl rfl; apply s_loadEN; exact rfl; simp only [byA_length, List.length_append, List.length_cons, List.length_nil, List.length_take, List.length_drop, List.length_replicate, List.length_map, Nat.mul_one, nameB_length, flat_length, List.length_set, inA_length, dsA_length, lsA_length, dA_length, lA_length] <;> omega
     exact agu_d (by assumption); dsimp only [Nat.reduceAdd, Nat.reduceMul, List.nil_append]
     apply Trc.stp rfl rfl rfl; apply s_alloc; dsimp only [Nat.reduceAdd, Nat.reduceMul, Nat.reduceSub, List.nil_append, List.cons_append, nbk, List.map_cons, List.map_nil]
     apply Trc.stepN rfl rfl; exact wnt_n rfl; apply s_storeW; exact rfl; exact rfl; exact rfl; exact rfl; rfl; exact rfl; dsimp only [Nat.reduceAdd, Nat.reduceMul, Nat.reduceSub, List.nil_append, List.cons_append, nbk, List.map_cons, List.map_nil]
     exact Trc.done _ _ _; exact rfl; refine thn_n ?_; refine Gol.seq ?_; apply Gol.region; apply Trc.stp rfl rfl rfl; apply s_loadW; exact rfl; exact rfl; exact rfl; exact agu_cua _; dsimp only [Nat.reduceAdd, Nat.reduceMul, List.nil_append]
     apply Trc.stp rfl rfl rfl; apply s_fieldAddr; exact rfl; dsimp only [Nat.reduceAdd, Nat.reduceMul, List.nil_append]
     apply Trc.stp rfl rfl rfl; apply s_loadN; exact rfl; exact rfl; exact Nat.le_of_ble_eq_true rfl; exact agu_cell rfl; dsimp only [Nat.reduceAdd, Nat.reduceMul, List.nil_append]
     apply Trc.stp rfl rfl rfl; apply s_call (f := 33) rfl; apply evs.cons rfl; apply evs.cons rfl; exact evs.nil; apply ArgL.cons
     apply arg_ag; apply ArgL.cons; exact arg_sl rfl; apply ArgL.cons; exact arg_sl rfl; apply ArgL.cons; exact arg_sl rfl; apply ArgL.cons; exact arg_sl rfl
     apply ArgL.cons; exact arg_clo; exact ArgL.nil; apply ArgL.cons; exact arg_clo; exact ArgL.nil; exact hf; exact Nat.le_of_ble_eq_true rfl; dsimp only [Nat.reduceAdd, Nat.reduceMul, Nat.reduceSub, List.nil_append, List.cons_append, nbk, List.map_cons, List.map_nil]
     apply Trc.stp rfl rfl rfl; apply s_assign; exact rfl; dsimp only [Nat.reduceAdd, Nat.reduceMul, List.nil_append]
     exact Trc.done _ _ _; exact rfl; refine thn_n ?_; refine Gol.seq ?_; apply Gol.any; kernel_rfl; apply Trc.stp rfl rfl rfl; apply s_loadW; exact rfl; exact rfl; exact rfl; exact agu_cua _; dsimp only [Nat.reduceAdd, Nat.reduceMul, List.nil_append]
     apply Trc.stp rfl rfl rfl; apply s_fieldAddr; exact rfl; dsimp only [Nat.reduceAdd, Nat.reduceMul, List.nil_append]
     apply Trc.stp rfl rfl rfl; apply s_loadN; exact rfl; exact rfl; exact Nat.le_of_ble_eq_true rfl; exact agu_cell rfl; dsimp only [Nat.reduceAdd, Nat.reduceMul, List.nil_append]
     apply Trc.stp rfl rfl rfl; apply s_call (f := 26) rfl; apply evs.cons rfl; apply evs.cons rfl; exact evs.nil; apply ArgL.cons
     apply arg_ag; apply ArgL.cons; exact arg_sl rfl; apply ArgL.cons; exact arg_sl rfl; apply ArgL.cons; exact arg_sl rfl; apply ArgL.cons; exact arg_sl rfl
     apply ArgL.cons; exact arg_clo; exact ArgL.nil; apply ArgL.cons; exact arg_clo; exact ArgL.nil; exact hg; exact Nat.le_of_ble_eq_true rfl; dsimp only [Nat.reduceAdd, Nat.reduceMul, Nat.reduceSub, List.nil_append, List.cons_append, nbk, List.map_cons, List.map_nil]
     apply Trc.stp rfl rfl rfl; apply s_fieldAddr; exact rfl; dsimp only [Nat.reduceAdd, Nat.reduceMul, List.nil_append]
     apply Trc.stp rfl rfl rfl; apply s_load; exact rfl; exact rfl; exact rfl; dsimp only [Nat.reduceAdd, Nat.reduceMul, List.nil_append]
     apply Trc.stp rfl rfl rfl; (with_reducible apply s_addW (a := d.a)); exact rfl; exact rfl; dsimp only [Nat.reduceAdd, Nat.reduceMul, List.nil_append]
     apply Trc.stp rfl rfl rfl; apply s_assign; exact rfl; dsimp only [Nat.reduceAdd, Nat.reduceMul, List.nil_append]
     exact Trc.done _ _ _; kernel_rfl; exact rfl; refine thn_n ?_; refine Gol.block ?_; refine Gol.seq ?_
     apply Gol.region; apply Trc.stp rfl rfl rfl; apply s_move; exact rfl; dsimp only [Nat.reduceAdd, Nat.reduceMul, List.nil_append]
     apply Trc.stp rfl rfl rfl; apply s_gen; exact rfl; exact rfl; dsimp only [Nat.reduceAdd, Nat.reduceMul, List.nil_append]
     apply Trc.stp rfl rfl rfl; apply s_move; exact rfl; dsimp only [Nat.reduceAdd, Nat.reduceMul, List.nil_append]
     apply Trc.step rfl rfl; apply wnt_g; exact rfl; exact rfl; exact rfl; rfl; apply s_move; exact rfl; dsimp only [Nat.reduceAdd, Nat.reduceMul, List.nil_append]
     apply Trc.step rfl rfl; apply wnt_g; exact rfl; exact rfl; exact rfl; rfl; apply s_ne; exact rfl; exact rfl; dsimp only [Nat.reduceAdd, Nat.reduceMul, List.nil_append]
     apply Trc.stp rfl rfl rfl; apply s_pick_t; exact rfl; rfl; exact rfl; dsimp only [Nat.reduceAdd, Nat.reduceMul, List.nil_append]
     apply Trc.stp rfl rfl rfl; apply s_assign; exact rfl; dsimp only [Nat.reduceAdd, Nat.reduceMul, List.nil_append]
     exact Trc.done _ _ _; exact rfl; refine thn_n ?_)
    by_cases h0 : addI d.a x.a = 0
    · have hP : putL L x = L.take i ++ L.drop (i + 1) := by unfold putL; rw [f3]; dsimp only; rw [if_pos h0, delL, f5]
      refine Gol.cond_f rfl (by simp [h0]) ?_
      (refine Gol.seq ?_; apply Gol.region; apply Trc.stp rfl rfl rfl; apply s_move; exact rfl
       dsimp only [Nat.reduceAdd, Nat.reduceMul, List.nil_append]; apply Trc.stp rfl rfl rfl; apply s_gen; exact rfl; exact rfl; dsimp only [Nat.reduceAdd, Nat.reduceMul, List.nil_append]
       apply Trc.stp rfl rfl rfl; apply s_assign; exact rfl; dsimp only [Nat.reduceAdd, Nat.reduceMul, List.nil_append]
       exact Trc.done _ _ _; exact rfl; refine thn_n ?_)
      refine Gol.cond_t rfl (by simp) ?_
      (apply Gol.region; apply Trc.stp rfl rfl rfl; apply s_fieldAddr; exact rfl; dsimp only [Nat.reduceAdd, Nat.reduceMul, List.nil_append]
       apply Trc.stp rfl rfl rfl; apply s_load; exact rfl; exact rfl; exact rfl; dsimp only [Nat.reduceAdd, Nat.reduceMul, List.nil_append]
       apply Trc.stp rfl rfl rfl; apply s_move; exact rfl; dsimp only [Nat.reduceAdd, Nat.reduceMul, List.nil_append]
       apply Trc.stp rfl rfl rfl; apply s_move; exact rfl; dsimp only [Nat.reduceAdd, Nat.reduceMul, List.nil_append]
       apply Trc.stp rfl rfl rfl; apply s_addn; exact rfl; exact rfl; simp <;> omega; dsimp only [Nat.reduceAdd, Nat.reduceMul, List.nil_append]
       apply Trc.stp rfl rfl rfl; apply s_turn (f := 97) [24] rfl; apply evs.cons rfl
       apply evs.cons rfl; apply evs.cons rfl; exact evs.nil; exact rfl; apply TBs.cons; exact rfl; exact inferInstance; exact TBs.nil; apply ArgTL.cons; exact ArgT.sl (j := 0) rfl
       apply ArgTL.cons; exact ArgT.clo inferInstance; apply ArgTL.cons; exact ArgT.clo inferInstance; exact ArgTL.nil; exact delD_ok L i f6 (by omega); exact Nat.le_of_ble_eq_true rfl
       dsimp only [Nat.reduceAdd, Nat.reduceMul, Nat.reduceSub, List.nil_append, List.cons_append, nbk, nones, List.map_cons, List.map_nil]; apply Trc.stp rfl rfl rfl; apply s_fieldAddr; exact rfl; dsimp only [Nat.reduceAdd, Nat.reduceMul, List.nil_append]
       apply Trc.stepN rfl rfl; exact wnt_n rfl; apply s_store; exact rfl; exact rfl; exact rfl; exact rfl; rfl; exact Nat.le_of_ble_eq_true rfl
       dsimp only [Nat.reduceAdd, Nat.reduceMul, Nat.reduceSub, List.nil_append, List.cons_append, nbk, List.map_cons, List.map_nil]; exact Trc.done _ _ _; exact rfl
       refine inBlk_n ?_; refine inBlk_n ?_; refine thn_n ?_; apply Gol.region; apply Trc.stp rfl rfl rfl; apply s_addn; exact rfl; exact rfl; simp <;> omega; dsimp only [Nat.reduceAdd, Nat.reduceMul, List.nil_append]
       apply Trc.stp rfl rfl rfl; apply s_move; exact rfl; dsimp only [Nat.reduceAdd, Nat.reduceMul, List.nil_append]
       exact Trc.done _ _ _; exact rfl)
      refine rnd_n (j + 1) (by omega) (by omega) ?_
      rw [hN, hP, show (L.take i ++ L.drop (i + 1)).length = L.length - 1 by simp; omega]
      (apply Le.mk3' [(24, 328)]; apply RnT3.c; exact rfl; apply Rn3.r; exact Rn.v rfl; apply RnT3.c; exact rfl; apply Rn3.r; exact Rn.v rfl; apply RnT3.c; exact rfl
       apply Rn3.r; exact Rn.clo inferInstance rfl; apply RnT3.c; exact rfl; apply Rn3.r; exact Rn.pt rfl rfl; apply RnT3.c; exact rfl; apply Rn3.r; exact Rn.pt rfl rfl
       exact RnT3.n; apply RnH3.c; exact rfl; exact rfl; apply RnC.l; apply Rn3L.cons; apply Rn3.r; exact Rn.sl rfl rfl; apply Rn3L.cons; apply Rn3.r; exact Rn.sl rfl rfl
       apply Rn3L.cons; apply Rn3.r; exact Rn.sl rfl rfl; apply Rn3L.cons; apply Rn3.r; exact Rn.sl rfl rfl; apply Rn3L.cons; apply Rn3.r; exact Rn.v rfl; exact Rn3L.nil
       exact rfl; exact rfl; apply RnH3.c; exact rfl; exact rfl; apply RnC.cl; rfl; exact inferInstance; exact rfl; exact rfl; apply RnH3.c; exact rfl; exact rfl
       apply RnC.cl; rfl; exact inferInstance; exact rfl; exact rfl; apply RnH3.c; exact rfl; exact rfl; apply RnC.cl; rfl; exact inferInstance; exact rfl; exact rfl
       apply RnH3.c; exact rfl; exact rfl; apply RnC.cl; rfl; exact inferInstance; exact rfl; exact rfl; apply RnH3.c; exact rfl; exact rfl; apply RnC.cl; rfl
       exact inferInstance; exact rfl; exact rfl; exact RnH3.n; exact rfl)
    · have hP : putL L x = L.set i ⟨d.k, d.i, d.n, addI d.a x.a⟩ := by unfold putL; rw [f3]; dsimp only; rw [if_neg h0, f5]
      refine Gol.cond_t rfl (by simp [h0]) ?_
      (apply Gol.region; apply Trc.stp rfl rfl rfl; apply s_fieldAddr; exact rfl; dsimp only [Nat.reduceAdd, Nat.reduceMul, List.nil_append]
       apply Trc.stp rfl rfl rfl; apply s_load; exact rfl; exact rfl; exact rfl; dsimp only [Nat.reduceAdd, Nat.reduceMul, List.nil_append]
       apply Trc.stp rfl rfl rfl; apply s_move; exact rfl; dsimp only [Nat.reduceAdd, Nat.reduceMul, List.nil_append]
       apply Trc.stp rfl rfl rfl; apply s_move; exact rfl; dsimp only [Nat.reduceAdd, Nat.reduceMul, List.nil_append]
       apply Trc.stp rfl rfl rfl; apply s_ixl; exact rfl; exact rfl; exact rfl; omega; dsimp only [Nat.reduceAdd, Nat.reduceMul, Nat.reduceSub, List.nil_append, List.cons_append, nbk, List.map_cons, List.map_nil]
       apply Trc.stp rfl rfl rfl; apply s_fieldAddr; exact rfl; dsimp only [Nat.reduceAdd, Nat.reduceMul, List.nil_append]
       apply Trc.stepN rfl rfl; exact wnt_n rfl; apply s_store; exact rfl; exact rfl; exact rfl; exact rfl; rfl; simp only [byA_length, List.length_append, List.length_cons, List.length_nil, List.length_take, List.length_drop, List.length_replicate, List.length_map, Nat.mul_one, nameB_length, flat_length, List.length_set, inA_length, dsA_length, lsA_length, dA_length, lA_length] <;> omega
       dsimp only [Nat.reduceAdd, Nat.reduceMul, Nat.reduceSub, List.nil_append, List.cons_append, nbk, List.map_cons, List.map_nil]; exact Trc.done _ _ _; exact rfl
       refine inBlk_n ?_; refine inBlk_n ?_; refine thn_n ?_; apply Gol.region; apply Trc.stp rfl rfl rfl; apply s_addn; exact rfl; exact rfl; simp <;> omega; dsimp only [Nat.reduceAdd, Nat.reduceMul, List.nil_append]
       apply Trc.stp rfl rfl rfl; apply s_move; exact rfl; dsimp only [Nat.reduceAdd, Nat.reduceMul, List.nil_append]
       exact Trc.done _ _ _; exact rfl)
      refine rnd_n (j + 1) (by omega) (by omega) ?_
      rw [hN, hP, List.length_set]
      (apply Le.mk3' []; apply RnT3.c; exact rfl; apply Rn3.r; exact Rn.v rfl; apply RnT3.c; exact rfl; apply Rn3.r; exact Rn.v rfl; apply RnT3.c; exact rfl
       apply Rn3.r; exact Rn.clo inferInstance rfl; apply RnT3.c; exact rfl; apply Rn3.r; exact Rn.pt rfl rfl; apply RnT3.c; exact rfl; apply Rn3.r; exact Rn.pt rfl rfl
       exact RnT3.n; apply RnH3.c; exact rfl; exact rfl; apply RnC.l; apply Rn3L.cons; apply Rn3.r; exact Rn.sl rfl rfl; apply Rn3L.cons; apply Rn3.r; exact Rn.sl rfl rfl
       apply Rn3L.cons; apply Rn3.r; exact Rn.sl rfl rfl; apply Rn3L.cons; apply Rn3.r; exact Rn.sl rfl rfl; apply Rn3L.cons; apply Rn3.r; exact Rn.v rfl; exact Rn3L.nil
       exact rfl; exact rfl; apply RnH3.c; exact rfl; exact rfl; apply RnC.cl; exact set_amt f1 _; exact inferInstance; exact rfl; exact rfl; apply RnH3.c; exact rfl
       exact rfl; apply RnC.cl; rfl; exact inferInstance; exact rfl; exact rfl; apply RnH3.c; exact rfl; exact rfl; apply RnC.cl; rfl; exact inferInstance; exact rfl
       exact rfl; apply RnH3.c; exact rfl; exact rfl; apply RnC.cl; rfl; exact inferInstance; exact rfl; exact rfl; apply RnH3.c; exact rfl; exact rfl; apply RnC.cl
       rfl; exact inferInstance; exact rfl; exact rfl; exact RnH3.n; exact rfl)
end Go.Proofs.YtkkeeokeihkagaaGreat


/-
  Layer 21, the reference: CopyState, at, Get, Put. Conditions: lengths below 2^17.
-/
namespace Go.Proofs.YtkkeeokeihkagaaGreat
open Go.RowKit

theorem refCopy_ok (s : Stt) (hs : s.cells.length ≤ 10000000 ∧ s.seqs.length ≤ 10000000 ∧ s.locks.length ≤ 10000000 ∧ s.applied.length ≤ 10000000) : Fresh Tryz.prog 52 [stA s] (stO s) (stB s) := by
  obtain ⟨h1, h2, h3, h4⟩ := hs
  unfold stA stO stB
  refine Fresh.of (fn := Tryz.f52) Tryz.func52 rfl (Nat.le_of_ble_eq_true rfl) fun w => ?_
  (refine Gol.seq ?_; apply Gol.region; apply Trc.stp rfl rfl rfl; apply s_box; exact rfl
   exact rfl; dsimp only [Nat.reduceAdd, Nat.reduceMul, Nat.reduceSub, List.nil_append, List.cons_append, nbk, List.map_cons, List.map_nil]; apply Trc.stp rfl rfl rfl; apply s_alloc; dsimp only [Nat.reduceAdd, Nat.reduceMul, Nat.reduceSub, List.nil_append, List.cons_append, nbk, List.map_cons, List.map_nil]
   exact Trc.done _ _ _; exact rfl; refine thn_n ?_; refine Gol.seq ?_; apply Gol.any; kernel_rfl; apply Trc.stp rfl rfl rfl; apply s_lit; exact PA.nil; exact rfl; omega; dsimp only [Nat.reduceAdd, Nat.reduceMul, Nat.reduceSub, List.nil_append, List.cons_append, nbk, List.map_cons, List.map_nil]
   apply Trc.stp rfl rfl rfl; apply s_fieldAddr; exact rfl; dsimp only [Nat.reduceAdd, Nat.reduceMul, List.nil_append]
   apply Trc.stp rfl rfl rfl; apply s_load; exact rfl; exact rfl; exact rfl; dsimp only [Nat.reduceAdd, Nat.reduceMul, List.nil_append]
   apply Trc.stp rfl rfl rfl; apply s_app; exact rfl; exact rfl; exact rfl; apply rd_ex; simp only [byA_length, List.length_append, List.length_cons, List.length_nil, List.length_take, List.length_drop, List.length_replicate, List.length_map, Nat.mul_one, nameB_length, flat_length, List.length_set, inA_length, dsA_length, lsA_length, dA_length, lA_length] <;> omega
   rfl; exact rfl; exact rfl; exact OneL.one; omega; dsimp only [Nat.reduceAdd, Nat.reduceMul, Nat.reduceSub, List.nil_append, List.cons_append, nbk, List.map_cons, List.map_nil]
   apply Trc.stp rfl rfl rfl; apply s_bytesP; exact PV.nil; exact rfl; omega; dsimp only [Nat.reduceAdd, Nat.reduceMul, Nat.reduceSub, List.nil_append, List.cons_append, nbk, List.map_cons, List.map_nil]
   apply Trc.stp rfl rfl rfl; apply s_fieldAddr; exact rfl; dsimp only [Nat.reduceAdd, Nat.reduceMul, List.nil_append]
   apply Trc.stp rfl rfl rfl; apply s_load; exact rfl; exact rfl; exact rfl; dsimp only [Nat.reduceAdd, Nat.reduceMul, List.nil_append]
   apply Trc.stp rfl rfl rfl; apply s_app; exact rfl; exact rfl; exact rfl; apply rd_ex; simp only [byA_length, List.length_append, List.length_cons, List.length_nil, List.length_take, List.length_drop, List.length_replicate, List.length_map, Nat.mul_one, nameB_length, flat_length, List.length_set, inA_length, dsA_length, lsA_length, dA_length, lA_length] <;> omega
   rfl; exact rfl; exact rfl; exact OneL.one; omega; dsimp only [Nat.reduceAdd, Nat.reduceMul, Nat.reduceSub, List.nil_append, List.cons_append, nbk, List.map_cons, List.map_nil]
   apply Trc.stp rfl rfl rfl; apply s_lit; exact PA.nil; exact rfl; omega; dsimp only [Nat.reduceAdd, Nat.reduceMul, Nat.reduceSub, List.nil_append, List.cons_append, nbk, List.map_cons, List.map_nil]
   apply Trc.stp rfl rfl rfl; apply s_fieldAddr; exact rfl; dsimp only [Nat.reduceAdd, Nat.reduceMul, List.nil_append]
   apply Trc.stp rfl rfl rfl; apply s_load; exact rfl; exact rfl; exact rfl; dsimp only [Nat.reduceAdd, Nat.reduceMul, List.nil_append]
   apply Trc.stp rfl rfl rfl; apply s_app; exact rfl; exact rfl; exact rfl; apply rd_ex; simp only [byA_length, List.length_append, List.length_cons, List.length_nil, List.length_take, List.length_drop, List.length_replicate, List.length_map, Nat.mul_one, nameB_length, flat_length, List.length_set, inA_length, dsA_length, lsA_length, dA_length, lA_length] <;> omega
   rfl; exact rfl; exact rfl; exact OneL.one; omega; dsimp only [Nat.reduceAdd, Nat.reduceMul, Nat.reduceSub, List.nil_append, List.cons_append, nbk, List.map_cons, List.map_nil]
   apply Trc.stp rfl rfl rfl; apply s_lit; exact PA.nil; exact rfl; omega; dsimp only [Nat.reduceAdd, Nat.reduceMul, Nat.reduceSub, List.nil_append, List.cons_append, nbk, List.map_cons, List.map_nil]
   apply Trc.stp rfl rfl rfl; apply s_fieldAddr; exact rfl; dsimp only [Nat.reduceAdd, Nat.reduceMul, List.nil_append]
   apply Trc.stp rfl rfl rfl; apply s_load; exact rfl; exact rfl; exact rfl; dsimp only [Nat.reduceAdd, Nat.reduceMul, List.nil_append]
   apply Trc.stp rfl rfl rfl; apply s_app; exact rfl; exact rfl; exact rfl; apply rd_ex; simp only [byA_length, List.length_append, List.length_cons, List.length_nil, List.length_take, List.length_drop, List.length_replicate, List.length_map, Nat.mul_one, nameB_length, flat_length, List.length_set, inA_length, dsA_length, lsA_length, dA_length, lA_length] <;> omega
   rfl; exact rfl; exact rfl; exact OneL.one; omega; dsimp only [Nat.reduceAdd, Nat.reduceMul, Nat.reduceSub, List.nil_append, List.cons_append, nbk, List.map_cons, List.map_nil]
   apply Trc.stp rfl rfl rfl; apply s_fieldAddr; exact rfl; dsimp only [Nat.reduceAdd, Nat.reduceMul, List.nil_append]
   apply Trc.stp rfl rfl rfl; apply s_load; exact rfl; exact rfl; exact rfl; dsimp only [Nat.reduceAdd, Nat.reduceMul, List.nil_append]
   apply Trc.stp rfl rfl rfl; apply s_bld; exact rfl; (focus (dsimp only [splB, cuB, spl, cu, Value.cells, nameC, List.map, List.take, List.drop, List.append, List.length, List.cons_append, List.nil_append, Nat.reduceAdd, List.take_succ_cons, List.take_zero, List.drop_succ_cons, List.drop_zero, List.take_nil, List.drop_nil, List.append_nil, List.length_cons, List.length_nil]; done))
   dsimp only [Nat.reduceAdd, Nat.reduceMul, Nat.reduceSub, List.nil_append, List.cons_append, nbk, List.map_cons, List.map_nil]; apply Trc.stepN rfl rfl
   exact wnt_n rfl; apply s_storeW; exact rfl; exact rfl; exact rfl; exact rfl; rfl; exact rfl; dsimp only [Nat.reduceAdd, Nat.reduceMul, Nat.reduceSub, List.nil_append, List.cons_append, nbk, List.map_cons, List.map_nil]
   exact Trc.done _ _ _; kernel_rfl; exact rfl; refine thn_n ?_; refine Gol.ret ?_)
  simp only [Nat.zero_add, List.nil_append]
  (apply RetQ.mkM (by first | exact .inr rfl | exact .inl rfl); apply res_1 rfl; exact res_cell rfl rfl rfl (agu_cua _); apply out_ids [40, 72, 104, 136] rfl
   apply OBs.cons; exact rfl; exact inferInstance; apply OBs.cons; exact rfl; exact inferInstance; apply OBs.cons; exact rfl; exact inferInstance; apply OBs.cons
   exact rfl; exact inferInstance; exact OBs.nil; intro k; apply Ot.agL; apply OtL.cons; exact Ot.sl (j := 0) rfl; apply OtL.cons; exact Ot.sl (j := 1) rfl
   apply OtL.cons; exact Ot.sl (j := 2) rfl; apply OtL.cons; exact Ot.sl (j := 3) rfl; apply OtL.cons; exact Ot.v inferInstance; exact OtL.nil)
end Go.Proofs.YtkkeeokeihkagaaGreat


/-
  Layer 21, the reference: Put. Conditions: lengths below 2^20.
-/
namespace Go.Proofs.YtkkeeokeihkagaaGreat
open Go.RowKit

theorem bef_hit {α : Type} {p : α → Bool} {l : List α} {i : Nat} {a : α} (h : l[i]? = some a) (hp : p a = true) : bef p (l.drop i) = 0 := by rw [drop_of h, bef, if_pos hp]
theorem bef_miss {α : Type} {p : α → Bool} {l : List α} {i : Nat} {a : α} (h : l[i]? = some a) (hp : p a = false) : bef p (l.drop i) = bef p (l.drop (i + 1)) + 1 := by rw [drop_of h, bef, if_neg (by simp [hp])]
theorem del_cells2 {cs D : List AV} {a m : Nat} (ha : a ≤ cs.length) (hm : m = a + D.length) : (spl cs a D).take m = cs.take a ++ D := by
  subst hm
  show (cs.take a ++ D ++ _).take _ = _
  rw [List.take_left' (by rw [List.length_append, List.length_take]; omega)]
end Go.Proofs.YtkkeeokeihkagaaGreat


/-
  Layer 21, the reference: Add; lists and states that are the same. Conditions: lengths below 2^17.
-/
namespace Go.Proofs.YtkkeeokeihkagaaGreat
open Go.RowKit

theorem delta_eq (k i k' i' a a' : Int) (n n' : UInt64) (w : World) : (Op.equal 46 (.agg (deltaC k i n a)) (.agg (deltaC k' i' n' a'))).run Tryz.prog w = .ok (decide (k = k' ∧ i = i' ∧ n = n' ∧ a = a')) w := by
  have hI := Tryz.underlying3
  have hN := Tryz.underlying30
  have hC := Tryz.underlying32
  have key0 : EqFs Tryz.prog w 9998 (cellC k i n) (cellC k' i' n') (Tryz.prog.fieldsOf 32).toList [k == k', i == i', n == n'] := by
    simp only [Program.fieldsOf, Tryz.underlying32]
    refine .cons (by decide) (part_int hI rfl) (part_int hI rfl) (run_equalIn_int w _ _ _ _ _ _ hI) ?_
    refine .cons (by decide) (part_int hI rfl) (part_int hI rfl) (run_equalIn_int w _ _ _ _ _ _ hI) ?_
    refine .cons (by decide) (part_name (v := n) hN (by kernel_rfl) rfl) (part_name (v := n') hN (by kernel_rfl) rfl) (run_eq_name w 9996 hN (by kernel_rfl) Tryz.underlying5 (by kernel_rfl) _ _) ?_
    exact .nil
  have h0 := run_equalIn_struct (P := Tryz.prog) w 9998 32 (cellC k i n) (cellC k' i' n') (by kernel_rfl) (by kernel_rfl)
  rw [key0.run] at h0
  have hp : ∀ (k i : Int) (n : UInt64) (a : Int), (part 32 (deltaC k i n a) 0).run Tryz.prog w = .ok (.agg (cellC k i n)) w := fun k i n a => by
    have hag : (isAgg 32).run Tryz.prog w = .ok true w := by unfold isAgg; rw [Sem.run_bind, run_underlying hC w]; simp
    have hsz : (sizeOf 32).run Tryz.prog w = .ok 10 w := run_sizeOf' (by kernel_rfl) w
    unfold part
    rw [Sem.run_bind, hag]
    simp only [Result.andThen_ok, if_true, Sem.run_bind, hsz, Sem.run_pure]
    rfl
  have key : EqFs Tryz.prog w 9999 (deltaC k i n a) (deltaC k' i' n' a') (Tryz.prog.fieldsOf 46).toList [[k == k', i == i', n == n'].all id, a == a'] := by
    simp only [Program.fieldsOf, Tryz.underlying46]
    refine .cons (by decide) (hp k i n a) (hp k' i' n' a') h0 ?_
    refine .cons (by decide) (part_int hI rfl) (part_int hI rfl) (run_equalIn_int w _ _ _ _ _ _ hI) ?_
    exact .nil
  have h := run_equalIn_struct (P := Tryz.prog) w 9999 46 (deltaC k i n a) (deltaC k' i' n' a') (by kernel_rfl) (by kernel_rfl)
  rw [key.run] at h
  refine h.trans (congrArg (fun b => Result.ok b w) ?_)
  rw [Bool.eq_iff_iff]
  simp [Bool.and_eq_true, and_assoc]
instance (k i k' i' a a' : Int) (n n' : UInt64) : EqR Tryz.prog 46 (deltaC k i n a) (deltaC k' i' n' a') (decide (k = k' ∧ i = i' ∧ n = n' ∧ a = a')) := ⟨by kernel_rfl, delta_eq k i k' i' a a' n n'⟩
theorem lock_eq (n h n' h' : UInt64) (o t u o' t' u' : Int) (w : World) : (Op.equal 50 (.agg (lockC n h o t u)) (.agg (lockC n' h' o' t' u'))).run Tryz.prog w = .ok (decide (n = n' ∧ h = h' ∧ o = o' ∧ t = t' ∧ u = u')) w := by
  have hI := Tryz.underlying3
  have hN := Tryz.underlying30
  have key : EqFs Tryz.prog w 9999 (lockC n h o t u) (lockC n' h' o' t' u') (Tryz.prog.fieldsOf 50).toList [n == n', h == h', o == o', t == t', u == u'] := by
    simp only [Program.fieldsOf, Tryz.underlying50]
    refine .cons (by decide) (part_name (v := n) hN (by kernel_rfl) rfl) (part_name (v := n') hN (by kernel_rfl) rfl) (run_eq_name w 9997 hN (by kernel_rfl) Tryz.underlying5 (by kernel_rfl) _ _) ?_
    refine .cons (by decide) (part_name (v := h) hN (by kernel_rfl) rfl) (part_name (v := h') hN (by kernel_rfl) rfl) (run_eq_name w 9997 hN (by kernel_rfl) Tryz.underlying5 (by kernel_rfl) _ _) ?_
    refine .cons (by decide) (part_int hI rfl) (part_int hI rfl) (run_equalIn_int w _ _ _ _ _ _ hI) ?_
    refine .cons (by decide) (part_int hI rfl) (part_int hI rfl) (run_equalIn_int w _ _ _ _ _ _ hI) ?_
    refine .cons (by decide) (part_int hI rfl) (part_int hI rfl) (run_equalIn_int w _ _ _ _ _ _ hI) ?_
    exact .nil
  have hh := run_equalIn_struct (P := Tryz.prog) w 9999 50 (lockC n h o t u) (lockC n' h' o' t' u') (by kernel_rfl) (by kernel_rfl)
  rw [key.run] at hh
  refine hh.trans (congrArg (fun b => Result.ok b w) ?_)
  rw [Bool.eq_iff_iff]
  simp [Bool.and_eq_true]
instance (n h n' h' : UInt64) (o t u o' t' u' : Int) : EqR Tryz.prog 50 (lockC n h o t u) (lockC n' h' o' t' u') (decide (n = n' ∧ h = h' ∧ o = o' ∧ t = t' ∧ u = u')) := ⟨by kernel_rfl, lock_eq n h n' h' o t u o' t' u'⟩
end Go.Proofs.YtkkeeokeihkagaaGreat


/-
  Layer 2, codec, and the reference: AppendUint. Conditions: lengths below 2^47.
-/
namespace Go.Proofs.YtkkeeokeihkagaaGreat
open Go.RowKit

theorem spl_full {n : Nat} {u : AV} {bs : List UInt8} (hn : bs.length = n) : spl (List.replicate (n * 1) u) 0 (List.take n (byA bs)) = byA bs := by
  have : (byA bs).length = n := by rw [byA_length, hn]
  unfold spl
  rw [List.take_zero, List.nil_append, List.take_of_length_le (l := byA bs) (by omega), Nat.zero_add, List.drop_of_length_le (by simp; omega), List.append_nil]
theorem extended_ok (bs : List UInt8) (n m : Nat) (f : Bool) (hn : bs.length = n) (h : n ≤ 140737488355000) (hm : m ≤ 8) : Fresh Tryz.prog 107 [.ex n f (byA bs), .v (.int .i64 (m : Int))] (fun k => .sl k n) [⟨byA bs, 5, 1⟩] := by
  refine Fresh.of (fn := Tryz.f107) Tryz.func107 rfl (Nat.le_of_ble_eq_true rfl) fun w => ?_
  (refine Gol.seq ?_; apply Gol.region; apply Trc.stp rfl rfl rfl; apply s_assign; exact rfl
   dsimp only [Nat.reduceAdd, Nat.reduceMul, List.nil_append]; exact Trc.done _ _ _; exact rfl
   refine thn_n ?_; refine Gol.seq ?_; apply Gol.region; apply Trc.stp rfl rfl rfl; apply s_move
   exact rfl; dsimp only [Nat.reduceAdd, Nat.reduceMul, List.nil_append]; apply Trc.stp rfl rfl rfl; apply s_len; exact rfl; exact ln_ex; dsimp only [Nat.reduceAdd, Nat.reduceMul, List.nil_append]
   apply Trc.stp rfl rfl rfl; apply s_move; exact rfl; dsimp only [Nat.reduceAdd, Nat.reduceMul, List.nil_append]
   apply Trc.stp rfl rfl rfl; apply s_len; exact rfl; exact ln_ex; dsimp only [Nat.reduceAdd, Nat.reduceMul, List.nil_append]
   apply Trc.stp rfl rfl rfl; apply s_move; exact rfl; dsimp only [Nat.reduceAdd, Nat.reduceMul, List.nil_append]
   apply Trc.stp rfl rfl rfl; apply s_addn; exact rfl; exact rfl; omega; dsimp only [Nat.reduceAdd, Nat.reduceMul, List.nil_append]
   apply Trc.stp rfl rfl rfl; apply s_make; exact rfl; exact rfl; exact rfl; omega; omega; dsimp only [Nat.reduceAdd, Nat.reduceMul, Nat.reduceSub, List.nil_append, List.cons_append, nbk, List.map_cons, List.map_nil]
   apply Trc.stp rfl rfl rfl; apply s_assign; exact rfl; dsimp only [Nat.reduceAdd, Nat.reduceMul, List.nil_append]
   exact Trc.done _ _ _; exact rfl; refine thn_n ?_; refine Gol.seq ?_; apply Gol.region; apply Trc.stp rfl rfl rfl; apply s_move; exact rfl; dsimp only [Nat.reduceAdd, Nat.reduceMul, List.nil_append]
   apply Trc.stp rfl rfl rfl; apply s_move; exact rfl; dsimp only [Nat.reduceAdd, Nat.reduceMul, List.nil_append]
   apply Trc.stp rfl rfl rfl; apply s_copyL; exact rfl; exact rfl; exact rfl; apply rd_ex; simp only [byA_length, List.length_append, List.length_cons, List.length_nil, List.length_take, List.length_drop, List.length_replicate, List.length_map, Nat.mul_one, nameB_length, flat_length, List.length_set, inA_length] <;> omega
   simp only [byA_length, List.length_append, List.length_cons, List.length_nil, List.length_take, List.length_drop, List.length_replicate, List.length_map, Nat.mul_one, nameB_length, flat_length, List.length_set, inA_length] <;> omega
   exact OneL.one; dsimp only [Nat.reduceAdd, Nat.reduceMul, Nat.reduceSub, List.nil_append, List.cons_append, nbk, List.map_cons, List.map_nil]; exact Trc.done _ _ _
   exact rfl; refine thn_n ?_; refine Gol.seq ?_; apply Gol.region; apply Trc.stp rfl rfl rfl
   apply s_move; exact rfl; dsimp only [Nat.reduceAdd, Nat.reduceMul, List.nil_append]
   apply Trc.stp rfl rfl rfl; apply s_assign; exact rfl; dsimp only [Nat.reduceAdd, Nat.reduceMul, List.nil_append]
   exact Trc.done _ _ _; exact rfl; refine thn_n ?_; refine Gol.ret ?_)
  rw [spl_full hn]
  (apply RetQ.mk (by first | exact .inr rfl | exact .inl rfl); apply res_1 rfl; exact res_tmp rfl; exact out_sl rfl)
/-- byte i of a number -/
def byteAt (v : UInt64) (i : Nat) : UInt8 := toU8 ((shr6 v (8 * i)).toNat : Int)
def beB (v : UInt64) (w : Nat) : List UInt8 := (List.range w).map fun j => byteAt v (w - 1 - j)
theorem beB_length (v : UInt64) (w : Nat) : (beB v w).length = w := by simp [beB]
theorem beB_step (v : UInt64) (w m : Nat) (h : m < w) : (beB v w).take m ++ [byteAt v (w - 1 - m)] = (beB v w).take (m + 1) := by
  rw [List.take_succ_eq_append_getElem (by rw [beB_length]; exact h)]
  simp [beB]
def clampW (width : Int) : Nat := (min (max width 0) 8).toNat
theorem clampW_eq (width : Int) : min (max width 0) 8 = (clampW width : Int) := by unfold clampW; omega
theorem clampW_le (width : Int) : clampW width ≤ 8 := by unfold clampW; omega
theorem appU_next (bs : List UInt8) (v : UInt64) (w m : Nat) (h : m < w) (c : UInt8) (hc : c = byteAt v (w - 1 - m)) : byA (bs ++ (beB v w).take m) ++ [AV.v (.int .u8 (c.toNat : Int))] = byA (bs ++ (beB v w).take (m + 1)) := by
  rw [← beB_step v w m h, hc, ← List.append_assoc, byA_append (bs ++ _) [_]]
  rfl
theorem appUint_ok (bs : List UInt8) (v : UInt64) (width : Int) (n : Nat) (f : Bool) (hn : bs.length = n) (h : n ≤ 140737488355000) : Fresh Tryz.prog 71 [.ex n f (byA bs), .v (.int .u64 (v.toNat : Int)), .v (.int .i64 width)] (fun k => .sl k (n + clampW width)) [⟨byA (bs ++ beB v (clampW width)), 5, 1⟩] := by
  have hw := clampW_le width
  refine Fresh.of (fn := Tryz.f71) Tryz.func71 rfl (Nat.le_of_ble_eq_true rfl) fun w => ?_
  (refine Gol.seq ?_; apply Gol.region; apply Trc.stp rfl rfl rfl; apply s_assign; exact rfl
   dsimp only [Nat.reduceAdd, Nat.reduceMul, List.nil_append]; exact Trc.done _ _ _; exact rfl
   refine thn_n ?_; refine Gol.seq ?_; apply Gol.region; apply Trc.stp rfl rfl rfl; apply s_move
   exact rfl; dsimp only [Nat.reduceAdd, Nat.reduceMul, List.nil_append]; apply Trc.stp rfl rfl rfl; apply s_max; exact rfl; exact rfl; dsimp only [Nat.reduceAdd, Nat.reduceMul, Nat.reduceSub, List.nil_append, List.cons_append, nbk, List.map_cons, List.map_nil]
   apply Trc.stp rfl rfl rfl; apply s_min; exact rfl; exact rfl; dsimp only [Nat.reduceAdd, Nat.reduceMul, Nat.reduceSub, List.nil_append, List.cons_append, nbk, List.map_cons, List.map_nil]
   apply Trc.stp rfl rfl rfl; apply s_assign; exact rfl; dsimp only [Nat.reduceAdd, Nat.reduceMul, List.nil_append]
   exact Trc.done _ _ _; exact rfl; refine thn_n ?_; refine Gol.seq ?_)
  simp only [clampW_eq]
  generalize clampW width = W at hw
  (apply Gol.region; apply Trc.stp rfl rfl rfl; apply s_move; exact rfl; dsimp only [Nat.reduceAdd, Nat.reduceMul, List.nil_append]
   apply Trc.stp rfl rfl rfl; apply s_move; exact rfl; dsimp only [Nat.reduceAdd, Nat.reduceMul, List.nil_append]
   apply Trc.stp rfl rfl rfl; apply s_call (f := 107) rfl; apply evs.cons rfl; apply evs.cons rfl; exact evs.nil
   apply ArgL.cons; exact arg_clo; apply ArgL.cons; exact arg_clo; exact ArgL.nil; exact extended_ok bs n W f hn h hw; exact Nat.le_of_ble_eq_true rfl; dsimp only [Nat.reduceAdd, Nat.reduceMul, Nat.reduceSub, List.nil_append, List.cons_append, nbk, List.map_cons, List.map_nil]
   apply Trc.stp rfl rfl rfl; apply s_assign; exact rfl; dsimp only [Nat.reduceAdd, Nat.reduceMul, List.nil_append]
   exact Trc.done _ _ _; exact rfl; refine thn_n ?_; refine Gol.seq ?_; refine Gol.seq ?_; apply Gol.region
   apply Trc.stp rfl rfl rfl; apply s_move; exact rfl; dsimp only [Nat.reduceAdd, Nat.reduceMul, List.nil_append]
   apply Trc.stp rfl rfl rfl; apply s_sub; exact rfl; exact rfl; omega; dsimp only [Nat.reduceAdd, Nat.reduceMul, Nat.reduceSub, List.nil_append, List.cons_append, nbk, List.map_cons, List.map_nil]
   apply Trc.stp rfl rfl rfl; apply s_assign; exact rfl; dsimp only [Nat.reduceAdd, Nat.reduceMul, List.nil_append]
   exact Trc.done _ _ _; exact rfl; refine thn_n ?_; refine Gol.block ?_)
  refine Gol.loop (ι := Nat) (fun m => m ≤ W) (fun m => W - m) 96 (fun m => [(56, some ⟨byA (bs ++ (beB v W).take m), 5, 1⟩)]) (fun m => [(8, .v (.int .i64 ((W : Int) - 1 - m))), (7, .sl 56 (n + m)), (1, .v (.int .u64 (v.toNat : Int)))]) 0 (Nat.zero_le _) ?_ ?_
  · (apply Le.mk' []; apply RnT.c; exact rfl; apply Rn.v; congr 1; omega; apply RnT.c; exact rfl; exact Rn.sl rfl rfl; apply RnT.c; exact rfl; exact Rn.v rfl
     exact RnT.n; apply RnH.c; exact rfl; exact rfl; (focus (simp [byA]; done)); exact rfl; exact rfl; exact RnH.n; exact rfl)
  intro m hm
  have hl := beB_length v W
  by_cases hlt : m < W
  · rw [show (W : Int) - 1 - m = ((W - 1 - m : Nat) : Int) by omega]
    have hc := appU_next bs v W m hlt _ rfl
    (refine Gol.seq ?_; refine Gol.seq ?_; apply Gol.region; apply Trc.stp rfl rfl rfl; apply s_move
     exact rfl; dsimp only [Nat.reduceAdd, Nat.reduceMul, List.nil_append]; apply Trc.stp rfl rfl rfl; apply s_gen; exact rfl; exact rfl; dsimp only [Nat.reduceAdd, Nat.reduceMul, List.nil_append]
     exact Trc.done _ _ _; exact rfl; refine thn_n ?_)
    refine Gol.cond_t rfl (by simp) ?_
    (refine Gol.skip ?_; refine thn_n ?_; refine Gol.seq ?_; refine Gol.block ?_; apply Gol.region
     apply Trc.stp rfl rfl rfl; apply s_move; exact rfl; dsimp only [Nat.reduceAdd, Nat.reduceMul, List.nil_append]
     apply Trc.stp rfl rfl rfl; apply s_move; exact rfl; dsimp only [Nat.reduceAdd, Nat.reduceMul, List.nil_append]
     apply Trc.stp rfl rfl rfl; apply s_move; exact rfl; dsimp only [Nat.reduceAdd, Nat.reduceMul, List.nil_append]
     apply Trc.stp rfl rfl rfl; apply s_muln; exact rfl; exact rfl; simp <;> omega; dsimp only [Nat.reduceAdd, Nat.reduceMul, Nat.reduceSub, List.nil_append, List.cons_append, nbk, List.map_cons, List.map_nil]
     apply Trc.stp rfl rfl rfl; apply s_shrU; exact rfl; exact rfl; omega; dsimp only [Nat.reduceAdd, Nat.reduceMul, Nat.reduceSub, List.nil_append, List.cons_append, nbk, List.map_cons, List.map_nil]
     apply Trc.stp rfl rfl rfl; apply s_cu8; exact rfl; dsimp only [Nat.reduceAdd, Nat.reduceMul, List.nil_append]
     apply Trc.stp rfl rfl rfl; apply s_bytesP; apply PV.cons; exact rfl; exact rfl; exact rfl; exact PV.nil; exact rfl; omega
     dsimp only [Nat.reduceAdd, Nat.reduceMul, Nat.reduceSub, List.nil_append, List.cons_append, nbk, List.map_cons, List.map_nil]; apply Trc.stp rfl rfl rfl; apply s_app; exact rfl; exact rfl; exact rfl; apply rd_sl rfl; rfl; simp only [byA_length, List.length_append, List.length_cons, List.length_nil, List.length_take, List.length_drop, List.length_replicate, List.length_map, Nat.mul_one, nameB_length, flat_length, List.length_set, inA_length] <;> omega
     exact rfl; exact rfl; exact OneL.one; omega; dsimp only [Nat.reduceAdd, Nat.reduceMul, Nat.reduceSub, List.nil_append, List.cons_append, nbk, List.map_cons, List.map_nil]
     apply Trc.stp rfl rfl rfl; apply s_assign; exact rfl; dsimp only [Nat.reduceAdd, Nat.reduceMul, List.nil_append]
     exact Trc.done _ _ _; exact rfl; refine inBlk_n ?_; refine thn_n ?_; apply Gol.region; apply Trc.stp rfl rfl rfl; apply s_move; exact rfl; dsimp only [Nat.reduceAdd, Nat.reduceMul, List.nil_append]
     apply Trc.stp rfl rfl rfl; apply s_sub; exact rfl; exact rfl; omega; dsimp only [Nat.reduceAdd, Nat.reduceMul, Nat.reduceSub, List.nil_append, List.cons_append, nbk, List.map_cons, List.map_nil]
     apply Trc.stp rfl rfl rfl; apply s_assign; exact rfl; dsimp only [Nat.reduceAdd, Nat.reduceMul, List.nil_append]
     exact Trc.done _ _ _; exact rfl)
    refine rnd_n (m + 1) (by omega) (by omega) ?_
    (apply Le.mk' [(56, 168)]; apply RnT.c; exact rfl; apply Rn.v; congr 1; omega; apply RnT.c; exact rfl; exact Rn.sl rfl rfl; apply RnT.c; exact rfl; exact Rn.v rfl
     exact RnT.n; apply RnH.c; exact rfl; exact rfl; exact hc; exact rfl; exact rfl; exact RnH.n; exact rfl)
  · obtain rfl : m = W := by omega
    have ht : (beB v m).take m = beB v m := List.take_of_length_le (by rw [beB_length]; exact Nat.le_refl _)
    rw [ht]
    (refine Gol.seq ?_; refine Gol.seq ?_; apply Gol.region; apply Trc.stp rfl rfl rfl; apply s_move
     exact rfl; dsimp only [Nat.reduceAdd, Nat.reduceMul, List.nil_append]; apply Trc.stp rfl rfl rfl; apply s_ge; exact rfl; exact rfl; dsimp only [Nat.reduceAdd, Nat.reduceMul, List.nil_append]
     exact Trc.done _ _ _; exact rfl; refine thn_n ?_)
    refine Gol.cond_f rfl (by simp; omega) ?_
    (refine Gol.exit ?_; refine thn_x ?_; refine rnd_x ?_; refine inBlk_hit ?_; refine thn_n ?_
     refine Gol.seq ?_; apply Gol.region; apply Trc.stp rfl rfl rfl; apply s_move; exact rfl
     dsimp only [Nat.reduceAdd, Nat.reduceMul, List.nil_append]; apply Trc.stp rfl rfl rfl; apply s_assign; exact rfl; dsimp only [Nat.reduceAdd, Nat.reduceMul, List.nil_append]
     exact Trc.done _ _ _; exact rfl; refine thn_n ?_; refine Gol.ret ?_)
    (apply RetQ.mk (by first | exact .inr rfl | exact .inl rfl); apply res_1 rfl; exact res_tmp rfl; exact out_sl rfl)
theorem clampW_nat (w : Nat) (h : w ≤ 8) : clampW (w : Int) = w := by unfold clampW; omega
theorem appUint_n (bs : List UInt8) (v : UInt64) (w n : Nat) (f : Bool) (hw : w ≤ 8) (hn : bs.length = n) (h : n ≤ 140737488355000) : Fresh Tryz.prog 71 [.ex n f (byA bs), .v (.int .u64 (v.toNat : Int)), .v (.int .i64 (w : Int))] (fun k => .sl k (n + w)) [⟨byA (bs ++ beB v w), 5, 1⟩] := by
  have := appUint_ok bs v w n f hn h
  rwa [clampW_nat w hw] at this
end Go.Proofs.YtkkeeokeihkagaaGreat


/-
  Layer 21: lists and states that are the same; leaves. Conditions: lengths below 2^17.
-/
namespace Go.Proofs.YtkkeeokeihkagaaGreat
open Go.RowKit

theorem sameD_ok (l : List Dl) (f g : Bool) (hl : l.length ≤ 10000000) : Fresh Tryz.prog 50 [.ex l.length f (dsA l), .ex l.length g (dsA l)] (fun _ => .v (.bool true)) [] := by
  refine Fresh.of (fn := Tryz.f50) Tryz.func50 rfl (Nat.le_of_ble_eq_true rfl) fun w => ?_
  (refine Gol.seq ?_; apply Gol.region; apply Trc.stp rfl rfl rfl; apply s_assign; exact rfl
   dsimp only [Nat.reduceAdd, Nat.reduceMul, List.nil_append]; exact Trc.done _ _ _; exact rfl
   refine thn_n ?_; refine Gol.seq ?_; refine Gol.seq ?_; apply Gol.region; apply Trc.stp rfl rfl rfl; apply s_move; exact rfl; dsimp only [Nat.reduceAdd, Nat.reduceMul, List.nil_append]
   apply Trc.stp rfl rfl rfl; apply s_len; exact rfl; exact ln_ex; dsimp only [Nat.reduceAdd, Nat.reduceMul, List.nil_append]
   apply Trc.stp rfl rfl rfl; apply s_move; exact rfl; dsimp only [Nat.reduceAdd, Nat.reduceMul, List.nil_append]
   apply Trc.stp rfl rfl rfl; apply s_len; exact rfl; exact ln_ex; dsimp only [Nat.reduceAdd, Nat.reduceMul, List.nil_append]
   apply Trc.stp rfl rfl rfl; apply s_nen; exact rfl; exact rfl; dsimp only [Nat.reduceAdd, Nat.reduceMul, List.nil_append]
   exact Trc.done _ _ _; exact rfl; refine thn_n ?_)
  refine Gol.cond_f rfl (by simp) ?_
  (refine Gol.skip ?_; refine thn_n ?_; refine Gol.seq ?_; refine Gol.seq ?_; apply Gol.region
   apply Trc.stp rfl rfl rfl; apply s_assign; exact rfl; dsimp only [Nat.reduceAdd, Nat.reduceMul, List.nil_append]
   exact Trc.done _ _ _; exact rfl; refine thn_n ?_; refine Gol.block ?_)
  refine Gol.loop (ι := Nat) (fun i => i ≤ l.length) (fun i => l.length - i) 56 (fun _ => []) (fun i => [(5, .v (.int .i64 (i : Int))), (0, .ex l.length f (dsA l)), (1, .ex l.length g (dsA l))]) 0 (Nat.zero_le _) ?_ ?_
  · (apply Le.mk' []; apply RnT.c; exact rfl; exact Rn.v rfl; apply RnT.c; exact rfl; exact Rn.clo inferInstance rfl; apply RnT.c; exact rfl; exact Rn.clo inferInstance rfl
     exact RnT.n; exact RnH.n; exact rfl)
  intro i hi
  (refine Gol.seq ?_; refine Gol.seq ?_; apply Gol.region; apply Trc.stp rfl rfl rfl; apply s_move
   exact rfl; dsimp only [Nat.reduceAdd, Nat.reduceMul, List.nil_append]; apply Trc.stp rfl rfl rfl; apply s_move; exact rfl; dsimp only [Nat.reduceAdd, Nat.reduceMul, List.nil_append]
   apply Trc.stp rfl rfl rfl; apply s_len; exact rfl; exact ln_ex; dsimp only [Nat.reduceAdd, Nat.reduceMul, List.nil_append]
   apply Trc.stp rfl rfl rfl; apply s_ltn; exact rfl; exact rfl; dsimp only [Nat.reduceAdd, Nat.reduceMul, List.nil_append]
   exact Trc.done _ _ _; exact rfl; refine thn_n ?_)
  refine Gol.cond rfl (fun h => ?_) (fun h => ?_)
  · have hlt : i < l.length := of_decide_eq_true h
    obtain ⟨d, hd⟩ : ∃ d, l[i]? = some d := ⟨l[i], List.getElem?_eq_getElem hlt⟩
    (refine Gol.skip ?_; refine thn_n ?_; refine Gol.seq ?_; refine Gol.block ?_; refine Gol.seq ?_
     apply Gol.any; kernel_rfl; apply Trc.stp rfl rfl rfl; apply s_move; exact rfl; dsimp only [Nat.reduceAdd, Nat.reduceMul, List.nil_append]
     apply Trc.stp rfl rfl rfl; apply s_move; exact rfl; dsimp only [Nat.reduceAdd, Nat.reduceMul, List.nil_append]
     apply Trc.stp rfl rfl rfl; apply s_ixe; exact rfl; exact rfl; omega; exact ds_ne (by omega); dsimp only [Nat.reduceAdd, Nat.reduceMul, List.nil_append]
     apply Trc.stp rfl rfl rfl; apply s_loadEN; exact rfl; simp only [byA_length, List.length_append, List.length_cons, List.length_nil, List.length_take, List.length_drop, List.length_replicate, List.length_map, Nat.mul_one, nameB_length, flat_length, List.length_set, inA_length, dsA_length, lsA_length, dA_length, lA_length] <;> omega
     exact agu_d (by assumption); dsimp only [Nat.reduceAdd, Nat.reduceMul, List.nil_append]
     apply Trc.stp rfl rfl rfl; apply s_move; exact rfl; dsimp only [Nat.reduceAdd, Nat.reduceMul, List.nil_append]
     apply Trc.stp rfl rfl rfl; apply s_move; exact rfl; dsimp only [Nat.reduceAdd, Nat.reduceMul, List.nil_append]
     apply Trc.stp rfl rfl rfl; apply s_ixe; exact rfl; exact rfl; omega; exact ds_ne (by omega); dsimp only [Nat.reduceAdd, Nat.reduceMul, List.nil_append]
     apply Trc.stp rfl rfl rfl; apply s_loadEN; exact rfl; simp only [byA_length, List.length_append, List.length_cons, List.length_nil, List.length_take, List.length_drop, List.length_replicate, List.length_map, Nat.mul_one, nameB_length, flat_length, List.length_set, inA_length, dsA_length, lsA_length, dA_length, lA_length] <;> omega
     exact agu_d (by assumption); dsimp only [Nat.reduceAdd, Nat.reduceMul, List.nil_append]
     apply Trc.stp rfl rfl rfl; apply s_neR; exact rfl; exact rfl; exact inferInstance; dsimp only [Nat.reduceAdd, Nat.reduceMul, List.nil_append]
     exact Trc.done _ _ _; kernel_rfl; exact rfl; refine thn_n ?_)
    refine Gol.cond_f rfl (by simp) ?_
    (refine Gol.skip ?_; refine inBlk_n ?_; refine thn_n ?_; apply Gol.region; apply Trc.stp rfl rfl rfl; apply s_move; exact rfl; dsimp only [Nat.reduceAdd, Nat.reduceMul, List.nil_append]
     apply Trc.stp rfl rfl rfl; apply s_addn; exact rfl; exact rfl; simp <;> omega; dsimp only [Nat.reduceAdd, Nat.reduceMul, List.nil_append]
     apply Trc.stp rfl rfl rfl; apply s_assign; exact rfl; dsimp only [Nat.reduceAdd, Nat.reduceMul, List.nil_append]
     exact Trc.done _ _ _; exact rfl)
    refine rnd_n (i + 1) (by omega) (by omega) ?_
    (apply Le.mk' []; apply RnT.c; exact rfl; exact Rn.v rfl; apply RnT.c; exact rfl; exact Rn.clo inferInstance rfl; apply RnT.c; exact rfl; exact Rn.clo inferInstance rfl
     exact RnT.n; exact RnH.n; exact rfl)
  · (refine Gol.exit ?_; refine thn_x ?_; refine rnd_x ?_; refine inBlk_hit ?_; refine thn_n ?_
     refine Gol.seq ?_; apply Gol.region; apply Trc.stp rfl rfl rfl; apply s_assign; exact rfl
     dsimp only [Nat.reduceAdd, Nat.reduceMul, List.nil_append]; exact Trc.done _ _ _; exact rfl
     refine thn_n ?_; refine Gol.ret ?_)
    (apply RetQ.mk (by first | exact .inr rfl | exact .inl rfl); apply res_1 rfl; exact res_tmp rfl; exact out_val)
theorem sameI_ok (l : List Int) (f g : Bool) (hl : l.length ≤ 10000000) : Fresh Tryz.prog 51 [.ex l.length f (inA l), .ex l.length g (inA l)] (fun _ => .v (.bool true)) [] := by
  have hne : ∀ i, i < l.length → inA l ≠ [] := fun i h e => by have := inA_length l; rw [e] at this; simp at this; omega
  refine Fresh.of (fn := Tryz.f51) Tryz.func51 rfl (Nat.le_of_ble_eq_true rfl) fun w => ?_
  (refine Gol.seq ?_; apply Gol.region; apply Trc.stp rfl rfl rfl; apply s_assign; exact rfl
   dsimp only [Nat.reduceAdd, Nat.reduceMul, List.nil_append]; exact Trc.done _ _ _; exact rfl
   refine thn_n ?_; refine Gol.seq ?_; refine Gol.seq ?_; apply Gol.region; apply Trc.stp rfl rfl rfl; apply s_move; exact rfl; dsimp only [Nat.reduceAdd, Nat.reduceMul, List.nil_append]
   apply Trc.stp rfl rfl rfl; apply s_len; exact rfl; exact ln_ex; dsimp only [Nat.reduceAdd, Nat.reduceMul, List.nil_append]
   apply Trc.stp rfl rfl rfl; apply s_move; exact rfl; dsimp only [Nat.reduceAdd, Nat.reduceMul, List.nil_append]
   apply Trc.stp rfl rfl rfl; apply s_len; exact rfl; exact ln_ex; dsimp only [Nat.reduceAdd, Nat.reduceMul, List.nil_append]
   apply Trc.stp rfl rfl rfl; apply s_nen; exact rfl; exact rfl; dsimp only [Nat.reduceAdd, Nat.reduceMul, List.nil_append]
   exact Trc.done _ _ _; exact rfl; refine thn_n ?_)
  refine Gol.cond_f rfl (by simp) ?_
  (refine Gol.skip ?_; refine thn_n ?_; refine Gol.seq ?_; refine Gol.seq ?_; apply Gol.region
   apply Trc.stp rfl rfl rfl; apply s_assign; exact rfl; dsimp only [Nat.reduceAdd, Nat.reduceMul, List.nil_append]
   exact Trc.done _ _ _; exact rfl; refine thn_n ?_; refine Gol.block ?_)
  refine Gol.loop (ι := Nat) (fun i => i ≤ l.length) (fun i => l.length - i) 56 (fun _ => []) (fun i => [(5, .v (.int .i64 (i : Int))), (0, .ex l.length f (inA l)), (1, .ex l.length g (inA l))]) 0 (Nat.zero_le _) ?_ ?_
  · (apply Le.mk' []; apply RnT.c; exact rfl; exact Rn.v rfl; apply RnT.c; exact rfl; exact Rn.clo inferInstance rfl; apply RnT.c; exact rfl; exact Rn.clo inferInstance rfl
     exact RnT.n; exact RnH.n; exact rfl)
  intro i hi
  (refine Gol.seq ?_; refine Gol.seq ?_; apply Gol.region; apply Trc.stp rfl rfl rfl; apply s_move
   exact rfl; dsimp only [Nat.reduceAdd, Nat.reduceMul, List.nil_append]; apply Trc.stp rfl rfl rfl; apply s_move; exact rfl; dsimp only [Nat.reduceAdd, Nat.reduceMul, List.nil_append]
   apply Trc.stp rfl rfl rfl; apply s_len; exact rfl; exact ln_ex; dsimp only [Nat.reduceAdd, Nat.reduceMul, List.nil_append]
   apply Trc.stp rfl rfl rfl; apply s_ltn; exact rfl; exact rfl; dsimp only [Nat.reduceAdd, Nat.reduceMul, List.nil_append]
   exact Trc.done _ _ _; exact rfl; refine thn_n ?_)
  refine Gol.cond rfl (fun h => ?_) (fun h => ?_)
  · have hlt : i < l.length := of_decide_eq_true h
    have hne0 := hne i hlt
    obtain ⟨d, hd⟩ : ∃ d, l[i]? = some d := ⟨l[i], List.getElem?_eq_getElem hlt⟩
    (refine Gol.skip ?_; refine thn_n ?_; refine Gol.seq ?_; refine Gol.block ?_; refine Gol.seq ?_
     apply Gol.any; kernel_rfl; apply Trc.stp rfl rfl rfl; apply s_move; exact rfl; dsimp only [Nat.reduceAdd, Nat.reduceMul, List.nil_append]
     apply Trc.stp rfl rfl rfl; apply s_move; exact rfl; dsimp only [Nat.reduceAdd, Nat.reduceMul, List.nil_append]
     apply Trc.stp rfl rfl rfl; apply s_ixe; exact rfl; exact rfl; omega; assumption; dsimp only [Nat.reduceAdd, Nat.reduceMul, List.nil_append]
     apply Trc.stp rfl rfl rfl; apply s_loadE; exact rfl; apply in_get0; assumption; dsimp only [Nat.reduceAdd, Nat.reduceMul, List.nil_append]
     apply Trc.stp rfl rfl rfl; apply s_move; exact rfl; dsimp only [Nat.reduceAdd, Nat.reduceMul, List.nil_append]
     apply Trc.stp rfl rfl rfl; apply s_move; exact rfl; dsimp only [Nat.reduceAdd, Nat.reduceMul, List.nil_append]
     apply Trc.stp rfl rfl rfl; apply s_ixe; exact rfl; exact rfl; omega; assumption; dsimp only [Nat.reduceAdd, Nat.reduceMul, List.nil_append]
     apply Trc.stp rfl rfl rfl; apply s_loadE; exact rfl; apply in_get0; assumption; dsimp only [Nat.reduceAdd, Nat.reduceMul, List.nil_append]
     apply Trc.stp rfl rfl rfl; apply s_ne; exact rfl; exact rfl; dsimp only [Nat.reduceAdd, Nat.reduceMul, List.nil_append]
     exact Trc.done _ _ _; kernel_rfl; exact rfl; refine thn_n ?_)
    refine Gol.cond_f rfl (by simp) ?_
    (refine Gol.skip ?_; refine inBlk_n ?_; refine thn_n ?_; apply Gol.region; apply Trc.stp rfl rfl rfl; apply s_move; exact rfl; dsimp only [Nat.reduceAdd, Nat.reduceMul, List.nil_append]
     apply Trc.stp rfl rfl rfl; apply s_addn; exact rfl; exact rfl; simp <;> omega; dsimp only [Nat.reduceAdd, Nat.reduceMul, List.nil_append]
     apply Trc.stp rfl rfl rfl; apply s_assign; exact rfl; dsimp only [Nat.reduceAdd, Nat.reduceMul, List.nil_append]
     exact Trc.done _ _ _; exact rfl)
    refine rnd_n (i + 1) (by omega) (by omega) ?_
    (apply Le.mk' []; apply RnT.c; exact rfl; exact Rn.v rfl; apply RnT.c; exact rfl; exact Rn.clo inferInstance rfl; apply RnT.c; exact rfl; exact Rn.clo inferInstance rfl
     exact RnT.n; exact RnH.n; exact rfl)
  · (refine Gol.exit ?_; refine thn_x ?_; refine rnd_x ?_; refine inBlk_hit ?_; refine thn_n ?_
     refine Gol.seq ?_; apply Gol.region; apply Trc.stp rfl rfl rfl; apply s_assign; exact rfl
     dsimp only [Nat.reduceAdd, Nat.reduceMul, List.nil_append]; exact Trc.done _ _ _; exact rfl
     refine thn_n ?_; refine Gol.ret ?_)
    (apply RetQ.mk (by first | exact .inr rfl | exact .inl rfl); apply res_1 rfl; exact res_tmp rfl; exact out_val)
theorem sameN_ok (l : List UInt64) (f g : Bool) (hl : l.length ≤ 10000000) : Fresh Tryz.prog 38 [.ex l.length f (byA (flat l)), .ex l.length g (byA (flat l))] (fun _ => .v (.bool true)) [] := by
  refine Fresh.of (fn := Tryz.f38) Tryz.func38 rfl (Nat.le_of_ble_eq_true rfl) fun w => ?_
  (refine Gol.seq ?_; apply Gol.region; apply Trc.stp rfl rfl rfl; apply s_assign; exact rfl
   dsimp only [Nat.reduceAdd, Nat.reduceMul, List.nil_append]; exact Trc.done _ _ _; exact rfl
   refine thn_n ?_; refine Gol.seq ?_; refine Gol.seq ?_; apply Gol.region; apply Trc.stp rfl rfl rfl; apply s_move; exact rfl; dsimp only [Nat.reduceAdd, Nat.reduceMul, List.nil_append]
   apply Trc.stp rfl rfl rfl; apply s_len; exact rfl; exact ln_ex; dsimp only [Nat.reduceAdd, Nat.reduceMul, List.nil_append]
   apply Trc.stp rfl rfl rfl; apply s_move; exact rfl; dsimp only [Nat.reduceAdd, Nat.reduceMul, List.nil_append]
   apply Trc.stp rfl rfl rfl; apply s_len; exact rfl; exact ln_ex; dsimp only [Nat.reduceAdd, Nat.reduceMul, List.nil_append]
   apply Trc.stp rfl rfl rfl; apply s_nen; exact rfl; exact rfl; dsimp only [Nat.reduceAdd, Nat.reduceMul, List.nil_append]
   exact Trc.done _ _ _; exact rfl; refine thn_n ?_)
  refine Gol.cond_f rfl (by simp) ?_
  (refine Gol.skip ?_; refine thn_n ?_; refine Gol.seq ?_; refine Gol.seq ?_; apply Gol.region
   apply Trc.stp rfl rfl rfl; apply s_assign; exact rfl; dsimp only [Nat.reduceAdd, Nat.reduceMul, List.nil_append]
   exact Trc.done _ _ _; exact rfl; refine thn_n ?_; refine Gol.block ?_)
  refine Gol.loop (ι := Nat) (fun i => i ≤ l.length) (fun i => l.length - i) 56 (fun _ => []) (fun i => [(5, .v (.int .i64 (i : Int))), (0, .ex l.length f (byA (flat l))), (1, .ex l.length g (byA (flat l)))]) 0 (Nat.zero_le _) ?_ ?_
  · (apply Le.mk' []; apply RnT.c; exact rfl; exact Rn.v rfl; apply RnT.c; exact rfl; exact Rn.clo inferInstance rfl; apply RnT.c; exact rfl; exact Rn.clo inferInstance rfl
     exact RnT.n; exact RnH.n; exact rfl)
  intro i hi
  (refine Gol.seq ?_; refine Gol.seq ?_; apply Gol.region; apply Trc.stp rfl rfl rfl; apply s_move
   exact rfl; dsimp only [Nat.reduceAdd, Nat.reduceMul, List.nil_append]; apply Trc.stp rfl rfl rfl; apply s_move; exact rfl; dsimp only [Nat.reduceAdd, Nat.reduceMul, List.nil_append]
   apply Trc.stp rfl rfl rfl; apply s_len; exact rfl; exact ln_ex; dsimp only [Nat.reduceAdd, Nat.reduceMul, List.nil_append]
   apply Trc.stp rfl rfl rfl; apply s_ltn; exact rfl; exact rfl; dsimp only [Nat.reduceAdd, Nat.reduceMul, List.nil_append]
   exact Trc.done _ _ _; exact rfl; refine thn_n ?_)
  refine Gol.cond rfl (fun h => ?_) (fun h => ?_)
  · have hlt : i < l.length := of_decide_eq_true h
    obtain ⟨d, hd⟩ : ∃ d, l[i]? = some d := ⟨l[i], List.getElem?_eq_getElem hlt⟩
    (refine Gol.skip ?_; refine thn_n ?_; refine Gol.seq ?_; refine Gol.block ?_; refine Gol.seq ?_
     apply Gol.any; kernel_rfl; apply Trc.stp rfl rfl rfl; apply s_move; exact rfl; dsimp only [Nat.reduceAdd, Nat.reduceMul, List.nil_append]
     apply Trc.stp rfl rfl rfl; apply s_move; exact rfl; dsimp only [Nat.reduceAdd, Nat.reduceMul, List.nil_append]
     apply Trc.stp rfl rfl rfl; apply s_ixe; exact rfl; exact rfl; omega; exact flat_ne (by omega); dsimp only [Nat.reduceAdd, Nat.reduceMul, List.nil_append]
     apply Trc.stp rfl rfl rfl; apply s_loadEN; exact rfl; simp only [byA_length, List.length_append, List.length_cons, List.length_nil, List.length_take, List.length_drop, List.length_replicate, List.length_map, Nat.mul_one, nameB_length, flat_length, List.length_set, inA_length, dsA_length, lsA_length, dA_length, lA_length] <;> omega
     exact agu_nm (by omega); dsimp only [Nat.reduceAdd, Nat.reduceMul, List.nil_append]
     apply Trc.stp rfl rfl rfl; apply s_move; exact rfl; dsimp only [Nat.reduceAdd, Nat.reduceMul, List.nil_append]
     apply Trc.stp rfl rfl rfl; apply s_move; exact rfl; dsimp only [Nat.reduceAdd, Nat.reduceMul, List.nil_append]
     apply Trc.stp rfl rfl rfl; apply s_ixe; exact rfl; exact rfl; omega; exact flat_ne (by omega); dsimp only [Nat.reduceAdd, Nat.reduceMul, List.nil_append]
     apply Trc.stp rfl rfl rfl; apply s_loadEN; exact rfl; simp only [byA_length, List.length_append, List.length_cons, List.length_nil, List.length_take, List.length_drop, List.length_replicate, List.length_map, Nat.mul_one, nameB_length, flat_length, List.length_set, inA_length, dsA_length, lsA_length, dA_length, lA_length] <;> omega
     exact agu_nm (by omega); dsimp only [Nat.reduceAdd, Nat.reduceMul, List.nil_append]
     apply Trc.stp rfl rfl rfl; apply s_neN; exact rfl; exact rfl; dsimp only [Nat.reduceAdd, Nat.reduceMul, List.nil_append]
     exact Trc.done _ _ _; kernel_rfl; exact rfl; refine thn_n ?_)
    refine Gol.cond_f rfl (by simp) ?_
    (refine Gol.skip ?_; refine inBlk_n ?_; refine thn_n ?_; apply Gol.region; apply Trc.stp rfl rfl rfl; apply s_move; exact rfl; dsimp only [Nat.reduceAdd, Nat.reduceMul, List.nil_append]
     apply Trc.stp rfl rfl rfl; apply s_addn; exact rfl; exact rfl; simp <;> omega; dsimp only [Nat.reduceAdd, Nat.reduceMul, List.nil_append]
     apply Trc.stp rfl rfl rfl; apply s_assign; exact rfl; dsimp only [Nat.reduceAdd, Nat.reduceMul, List.nil_append]
     exact Trc.done _ _ _; exact rfl)
    refine rnd_n (i + 1) (by omega) (by omega) ?_
    (apply Le.mk' []; apply RnT.c; exact rfl; exact Rn.v rfl; apply RnT.c; exact rfl; exact Rn.clo inferInstance rfl; apply RnT.c; exact rfl; exact Rn.clo inferInstance rfl
     exact RnT.n; exact RnH.n; exact rfl)
  · (refine Gol.exit ?_; refine thn_x ?_; refine rnd_x ?_; refine inBlk_hit ?_; refine thn_n ?_
     refine Gol.seq ?_; apply Gol.region; apply Trc.stp rfl rfl rfl; apply s_assign; exact rfl
     dsimp only [Nat.reduceAdd, Nat.reduceMul, List.nil_append]; exact Trc.done _ _ _; exact rfl
     refine thn_n ?_; refine Gol.ret ?_)
    (apply RetQ.mk (by first | exact .inr rfl | exact .inl rfl); apply res_1 rfl; exact res_tmp rfl; exact out_val)
theorem sameS_ok (s : Stt) (hs : s.cells.length ≤ 10000000 ∧ s.seqs.length ≤ 10000000 ∧ s.locks.length ≤ 10000000 ∧ s.applied.length ≤ 10000000) : Fresh Tryz.prog 20 [stA s, stA s] (fun _ => .v (.bool true)) [] := by
  obtain ⟨h1, h2, h3, h4⟩ := hs
  unfold stA
  refine Fresh.of (fn := Tryz.f20) Tryz.func20 rfl (Nat.le_of_ble_eq_true rfl) fun w => ?_
  (refine Gol.seq ?_; apply Gol.region; apply Trc.stp rfl rfl rfl; apply s_box; exact rfl
   exact rfl; dsimp only [Nat.reduceAdd, Nat.reduceMul, Nat.reduceSub, List.nil_append, List.cons_append, nbk, List.map_cons, List.map_nil]; apply Trc.stp rfl rfl rfl; apply s_box; exact rfl; exact rfl; dsimp only [Nat.reduceAdd, Nat.reduceMul, Nat.reduceSub, List.nil_append, List.cons_append, nbk, List.map_cons, List.map_nil]
   apply Trc.stp rfl rfl rfl; apply s_assign; exact rfl; dsimp only [Nat.reduceAdd, Nat.reduceMul, List.nil_append]
   exact Trc.done _ _ _; exact rfl; refine thn_n ?_; refine Gol.seq ?_; refine Gol.seq ?_; apply Gol.region
   apply Trc.stp rfl rfl rfl; apply s_fieldAddr; exact rfl; dsimp only [Nat.reduceAdd, Nat.reduceMul, List.nil_append]
   apply Trc.stp rfl rfl rfl; apply s_load; exact rfl; exact rfl; exact rfl; dsimp only [Nat.reduceAdd, Nat.reduceMul, List.nil_append]
   apply Trc.stp rfl rfl rfl; apply s_len; exact rfl; exact ln_ex; dsimp only [Nat.reduceAdd, Nat.reduceMul, List.nil_append]
   apply Trc.stp rfl rfl rfl; apply s_fieldAddr; exact rfl; dsimp only [Nat.reduceAdd, Nat.reduceMul, List.nil_append]
   apply Trc.stp rfl rfl rfl; apply s_load; exact rfl; exact rfl; exact rfl; dsimp only [Nat.reduceAdd, Nat.reduceMul, List.nil_append]
   apply Trc.stp rfl rfl rfl; apply s_len; exact rfl; exact ln_ex; dsimp only [Nat.reduceAdd, Nat.reduceMul, List.nil_append]
   apply Trc.stp rfl rfl rfl; apply s_nen; exact rfl; exact rfl; dsimp only [Nat.reduceAdd, Nat.reduceMul, List.nil_append]
   exact Trc.done _ _ _; exact rfl; refine thn_n ?_)
  refine Gol.cond_f rfl (by simp) ?_
  (refine Gol.skip ?_; refine thn_n ?_; refine Gol.seq ?_; refine Gol.seq ?_; apply Gol.region
   apply Trc.stp rfl rfl rfl; apply s_assign; exact rfl; dsimp only [Nat.reduceAdd, Nat.reduceMul, List.nil_append]
   exact Trc.done _ _ _; exact rfl; refine thn_n ?_; refine Gol.block ?_)
  refine Gol.loop (ι := Nat) (fun i => i ≤ s.locks.length) (fun i => s.locks.length - i) 88 (fun _ => [(0, some ⟨[.ex s.cells.length false (dsA s.cells), .ex s.seqs.length false (inA s.seqs), .ex s.locks.length false (lsA s.locks), .ex s.applied.length false (byA (flat s.applied)), .v (.int .i64 s.guilty)], 28, 5⟩), (8, some ⟨[.ex s.cells.length false (dsA s.cells), .ex s.seqs.length false (inA s.seqs), .ex s.locks.length false (lsA s.locks), .ex s.applied.length false (byA (flat s.applied)), .v (.int .i64 s.guilty)], 28, 5⟩)]) (fun i => [(5, .v (.int .i64 (i : Int))), (2, .pt 0 0), (3, .pt 8 0)]) 0 (Nat.zero_le _) ?_ ?_
  · (apply Le.mk3' []; apply RnT3.c; exact rfl; apply Rn3.r; exact Rn.v rfl; apply RnT3.c; exact rfl; apply Rn3.r; exact Rn.pt rfl rfl; apply RnT3.c; exact rfl
     apply Rn3.r; exact Rn.pt rfl rfl; exact RnT3.n; apply RnH3.c; exact rfl; exact rfl; apply RnC.cl; rfl; exact inferInstance; exact rfl; exact rfl; apply RnH3.c
     exact rfl; exact rfl; apply RnC.cl; rfl; exact inferInstance; exact rfl; exact rfl; exact RnH3.n; exact rfl)
  intro i hi
  (refine Gol.seq ?_; refine Gol.seq ?_; apply Gol.region; apply Trc.stp rfl rfl rfl; apply s_move
   exact rfl; dsimp only [Nat.reduceAdd, Nat.reduceMul, List.nil_append]; apply Trc.stp rfl rfl rfl; apply s_fieldAddr; exact rfl; dsimp only [Nat.reduceAdd, Nat.reduceMul, List.nil_append]
   apply Trc.stp rfl rfl rfl; apply s_load; exact rfl; exact rfl; exact rfl; dsimp only [Nat.reduceAdd, Nat.reduceMul, List.nil_append]
   apply Trc.stp rfl rfl rfl; apply s_len; exact rfl; exact ln_ex; dsimp only [Nat.reduceAdd, Nat.reduceMul, List.nil_append]
   apply Trc.stp rfl rfl rfl; apply s_ltn; exact rfl; exact rfl; dsimp only [Nat.reduceAdd, Nat.reduceMul, List.nil_append]
   exact Trc.done _ _ _; exact rfl; refine thn_n ?_)
  refine Gol.cond rfl (fun h => ?_) (fun h => ?_)
  · have hlt : i < s.locks.length := of_decide_eq_true h
    obtain ⟨d, hd⟩ : ∃ d, s.locks[i]? = some d := ⟨s.locks[i], List.getElem?_eq_getElem hlt⟩
    (refine Gol.skip ?_; refine thn_n ?_; refine Gol.seq ?_; refine Gol.block ?_; refine Gol.seq ?_
     apply Gol.any; kernel_rfl; apply Trc.stp rfl rfl rfl; apply s_fieldAddr; exact rfl; dsimp only [Nat.reduceAdd, Nat.reduceMul, List.nil_append]
     apply Trc.stp rfl rfl rfl; apply s_load; exact rfl; exact rfl; exact rfl; dsimp only [Nat.reduceAdd, Nat.reduceMul, List.nil_append]
     apply Trc.stp rfl rfl rfl; apply s_move; exact rfl; dsimp only [Nat.reduceAdd, Nat.reduceMul, List.nil_append]
     apply Trc.stp rfl rfl rfl; apply s_ixe; exact rfl; exact rfl; omega; exact ls_ne (by omega); dsimp only [Nat.reduceAdd, Nat.reduceMul, List.nil_append]
     apply Trc.stp rfl rfl rfl; apply s_loadEN; exact rfl; simp only [byA_length, List.length_append, List.length_cons, List.length_nil, List.length_take, List.length_drop, List.length_replicate, List.length_map, Nat.mul_one, nameB_length, flat_length, List.length_set, inA_length, dsA_length, lsA_length, dA_length, lA_length] <;> omega
     exact agu_l (by assumption); dsimp only [Nat.reduceAdd, Nat.reduceMul, List.nil_append]
     apply Trc.stp rfl rfl rfl; apply s_fieldAddr; exact rfl; dsimp only [Nat.reduceAdd, Nat.reduceMul, List.nil_append]
     apply Trc.stp rfl rfl rfl; apply s_load; exact rfl; exact rfl; exact rfl; dsimp only [Nat.reduceAdd, Nat.reduceMul, List.nil_append]
     apply Trc.stp rfl rfl rfl; apply s_move; exact rfl; dsimp only [Nat.reduceAdd, Nat.reduceMul, List.nil_append]
     apply Trc.stp rfl rfl rfl; apply s_ixe; exact rfl; exact rfl; omega; exact ls_ne (by omega); dsimp only [Nat.reduceAdd, Nat.reduceMul, List.nil_append]
     apply Trc.stp rfl rfl rfl; apply s_loadEN; exact rfl; simp only [byA_length, List.length_append, List.length_cons, List.length_nil, List.length_take, List.length_drop, List.length_replicate, List.length_map, Nat.mul_one, nameB_length, flat_length, List.length_set, inA_length, dsA_length, lsA_length, dA_length, lA_length] <;> omega
     exact agu_l (by assumption); dsimp only [Nat.reduceAdd, Nat.reduceMul, List.nil_append]
     apply Trc.stp rfl rfl rfl; apply s_neR; exact rfl; exact rfl; exact inferInstance; dsimp only [Nat.reduceAdd, Nat.reduceMul, List.nil_append]
     exact Trc.done _ _ _; kernel_rfl; exact rfl; refine thn_n ?_)
    refine Gol.cond_f rfl (by simp) ?_
    (refine Gol.skip ?_; refine inBlk_n ?_; refine thn_n ?_; apply Gol.region; apply Trc.stp rfl rfl rfl; apply s_move; exact rfl; dsimp only [Nat.reduceAdd, Nat.reduceMul, List.nil_append]
     apply Trc.stp rfl rfl rfl; apply s_addn; exact rfl; exact rfl; simp <;> omega; dsimp only [Nat.reduceAdd, Nat.reduceMul, List.nil_append]
     apply Trc.stp rfl rfl rfl; apply s_assign; exact rfl; dsimp only [Nat.reduceAdd, Nat.reduceMul, List.nil_append]
     exact Trc.done _ _ _; exact rfl)
    refine rnd_n (i + 1) (by omega) (by omega) ?_
    (apply Le.mk3' []; apply RnT3.c; exact rfl; apply Rn3.r; exact Rn.v rfl; apply RnT3.c; exact rfl; apply Rn3.r; exact Rn.pt rfl rfl; apply RnT3.c; exact rfl
     apply Rn3.r; exact Rn.pt rfl rfl; exact RnT3.n; apply RnH3.c; exact rfl; exact rfl; apply RnC.cl; rfl; exact inferInstance; exact rfl; exact rfl; apply RnH3.c
     exact rfl; exact rfl; apply RnC.cl; rfl; exact inferInstance; exact rfl; exact rfl; exact RnH3.n; exact rfl)
  · have hg : decide (s.guilty = s.guilty) = true := by simp
    (refine Gol.exit ?_; refine thn_x ?_; refine rnd_x ?_; refine inBlk_hit ?_; refine thn_n ?_
     refine Gol.seq ?_; apply Gol.region; apply Trc.stp rfl rfl rfl; apply s_fieldAddr; exact rfl
     dsimp only [Nat.reduceAdd, Nat.reduceMul, List.nil_append]; apply Trc.stp rfl rfl rfl; apply s_load; exact rfl; exact rfl; exact rfl; dsimp only [Nat.reduceAdd, Nat.reduceMul, List.nil_append]
     apply Trc.stp rfl rfl rfl; apply s_fieldAddr; exact rfl; dsimp only [Nat.reduceAdd, Nat.reduceMul, List.nil_append]
     apply Trc.stp rfl rfl rfl; apply s_load; exact rfl; exact rfl; exact rfl; dsimp only [Nat.reduceAdd, Nat.reduceMul, List.nil_append]
     apply Trc.stp rfl rfl rfl; apply s_call (f := 50) rfl; apply evs.cons rfl; apply evs.cons rfl; exact evs.nil
     apply ArgL.cons; exact arg_clo; apply ArgL.cons; exact arg_clo; exact ArgL.nil; exact sameD_ok s.cells _ _ (by omega); exact Nat.le_of_ble_eq_true rfl
     dsimp only [Nat.reduceAdd, Nat.reduceMul, Nat.reduceSub, List.nil_append, List.cons_append, nbk, List.map_cons, List.map_nil]; apply Trc.stp rfl rfl rfl; apply s_move; exact rfl; dsimp only [Nat.reduceAdd, Nat.reduceMul, List.nil_append]
     apply Trc.step rfl rfl; apply wnt_g; exact rfl; exact rfl; exact rfl; rfl; apply s_fieldAddr; exact rfl; dsimp only [Nat.reduceAdd, Nat.reduceMul, List.nil_append]
     apply Trc.step rfl rfl; apply wnt_g; exact rfl; exact rfl; exact rfl; rfl; apply s_load; exact rfl; exact rfl; exact rfl; dsimp only [Nat.reduceAdd, Nat.reduceMul, List.nil_append]
     apply Trc.step rfl rfl; apply wnt_g; exact rfl; exact rfl; exact rfl; rfl; apply s_fieldAddr; exact rfl; dsimp only [Nat.reduceAdd, Nat.reduceMul, List.nil_append]
     apply Trc.step rfl rfl; apply wnt_g; exact rfl; exact rfl; exact rfl; rfl; apply s_load; exact rfl; exact rfl; exact rfl; dsimp only [Nat.reduceAdd, Nat.reduceMul, List.nil_append]
     apply Trc.step rfl rfl; apply wnt_g; exact rfl; exact rfl; exact rfl; rfl; apply s_call (f := 51) rfl; apply evs.cons rfl
     apply evs.cons rfl; exact evs.nil; apply ArgL.cons; exact arg_clo; apply ArgL.cons; exact arg_clo; exact ArgL.nil; exact sameI_ok s.seqs _ _ (by omega)
     exact Nat.le_of_ble_eq_true rfl; dsimp only [Nat.reduceAdd, Nat.reduceMul, Nat.reduceSub, List.nil_append, List.cons_append, nbk, List.map_cons, List.map_nil]
     apply Trc.stp rfl rfl rfl; apply s_pick_t; exact rfl; rfl; exact rfl; dsimp only [Nat.reduceAdd, Nat.reduceMul, List.nil_append]
     apply Trc.stp rfl rfl rfl; apply s_move; exact rfl; dsimp only [Nat.reduceAdd, Nat.reduceMul, List.nil_append]
     apply Trc.step rfl rfl; apply wnt_g; exact rfl; exact rfl; exact rfl; rfl; apply s_fieldAddr; exact rfl; dsimp only [Nat.reduceAdd, Nat.reduceMul, List.nil_append]
     apply Trc.step rfl rfl; apply wnt_g; exact rfl; exact rfl; exact rfl; rfl; apply s_load; exact rfl; exact rfl; exact rfl; dsimp only [Nat.reduceAdd, Nat.reduceMul, List.nil_append]
     apply Trc.step rfl rfl; apply wnt_g; exact rfl; exact rfl; exact rfl; rfl; apply s_fieldAddr; exact rfl; dsimp only [Nat.reduceAdd, Nat.reduceMul, List.nil_append]
     apply Trc.step rfl rfl; apply wnt_g; exact rfl; exact rfl; exact rfl; rfl; apply s_load; exact rfl; exact rfl; exact rfl; dsimp only [Nat.reduceAdd, Nat.reduceMul, List.nil_append]
     apply Trc.step rfl rfl; apply wnt_g; exact rfl; exact rfl; exact rfl; rfl; apply s_call (f := 38) rfl; apply evs.cons rfl
     apply evs.cons rfl; exact evs.nil; apply ArgL.cons; exact arg_clo; apply ArgL.cons; exact arg_clo; exact ArgL.nil; exact sameN_ok s.applied _ _ (by omega)
     exact Nat.le_of_ble_eq_true rfl; dsimp only [Nat.reduceAdd, Nat.reduceMul, Nat.reduceSub, List.nil_append, List.cons_append, nbk, List.map_cons, List.map_nil]
     apply Trc.stp rfl rfl rfl; apply s_pick_t; exact rfl; rfl; exact rfl; dsimp only [Nat.reduceAdd, Nat.reduceMul, List.nil_append]
     apply Trc.stp rfl rfl rfl; apply s_move; exact rfl; dsimp only [Nat.reduceAdd, Nat.reduceMul, List.nil_append]
     apply Trc.step rfl rfl; apply wnt_g; exact rfl; exact rfl; exact rfl; rfl; apply s_fieldAddr; exact rfl; dsimp only [Nat.reduceAdd, Nat.reduceMul, List.nil_append]
     apply Trc.step rfl rfl; apply wnt_g; exact rfl; exact rfl; exact rfl; rfl; apply s_load; exact rfl; exact rfl; exact rfl; dsimp only [Nat.reduceAdd, Nat.reduceMul, List.nil_append]
     apply Trc.step rfl rfl; apply wnt_g; exact rfl; exact rfl; exact rfl; rfl; apply s_fieldAddr; exact rfl; dsimp only [Nat.reduceAdd, Nat.reduceMul, List.nil_append]
     apply Trc.step rfl rfl; apply wnt_g; exact rfl; exact rfl; exact rfl; rfl; apply s_load; exact rfl; exact rfl; exact rfl; dsimp only [Nat.reduceAdd, Nat.reduceMul, List.nil_append]
     apply Trc.step rfl rfl; apply wnt_g; exact rfl; exact rfl; exact rfl; rfl; apply s_eq; exact rfl; exact rfl; dsimp only [Nat.reduceAdd, Nat.reduceMul, List.nil_append]
     apply Trc.stp rfl rfl rfl; apply s_pick_t; exact rfl; rfl; exact rfl; dsimp only [Nat.reduceAdd, Nat.reduceMul, List.nil_append]
     apply Trc.stp rfl rfl rfl; apply s_assign; exact rfl; dsimp only [Nat.reduceAdd, Nat.reduceMul, List.nil_append]
     exact Trc.done _ _ _; exact rfl; refine thn_n ?_; refine Gol.ret ?_)
    apply RetQ.bool
    · (apply RetQ.mk (by first | exact .inr rfl | exact .inl rfl); apply res_1 rfl; exact res_tmp rfl; exact out_val)
    · simp
end Go.Proofs.YtkkeeokeihkagaaGreat


/-
  Layer 21: leaves, of the program and of the reference. Conditions: lengths below 2^17.
-/
namespace Go.Proofs.YtkkeeokeihkagaaGreat
open Go.RowKit

def bytD (d : Dl) : List UInt8 := toU8 d.k :: toU8 d.i :: (nameB d.n ++ beB (toU64 d.a) 8)
def bytL (d : Lk) : List UInt8 := nameB d.n ++ nameB d.h ++ [toU8 d.o, toU8 d.t] ++ beB (toU64 d.u) 2
section
variable (S : List UInt8 → UInt64)
def leafD (d : Dl) : UInt64 := S (0x52 :: bytD d)
def leafQ (i : Nat) (q : Int) : UInt64 := S (0x53 :: [toU8 (i : Int), toU8 q])
def leafL (d : Lk) : UInt64 := S (0x54 :: bytL d)
def leafN (n : UInt64) : UInt64 := S (0x55 :: nameB n)
def leafG (g : Int) : UInt64 := S (0x56 :: beB (toU64 g) 2)
variable (hS : HashF S)
include hS
theorem leafCell_ok (d : Dl) : Fresh Tryz.prog 42 [.v (.agg (deltaC d.k d.i d.n d.a))] (fun _ => .v (.agg (nameC (leafD S d)))) [] := by
  have h1 := fun f => appUint_n (toU8 d.k :: toU8 d.i :: nameB d.n) (toU64 d.a) 8 10 f (by decide) rfl (by decide)
  have h2 := fun f => hS.tagged 0x52 (bytD d) 18 f (by simp [bytD, nameB_length, beB_length]) (by decide)
  refine Fresh.of (fn := Tryz.f42) Tryz.func42 rfl (Nat.le_of_ble_eq_true rfl) fun w => ?_
  (refine Gol.seq ?_; apply Gol.region; apply Trc.stp rfl rfl rfl; apply s_box; exact rfl
   exact rfl; dsimp only [Nat.reduceAdd, Nat.reduceMul, Nat.reduceSub, List.nil_append, List.cons_append, nbk, List.map_cons, List.map_nil]; apply Trc.stp rfl rfl rfl; apply s_alloc; dsimp only [Nat.reduceAdd, Nat.reduceMul, Nat.reduceSub, List.nil_append, List.cons_append, nbk, List.map_cons, List.map_nil]
   exact Trc.done _ _ _; exact rfl; refine thn_n ?_; refine Gol.seq ?_; apply Gol.region; apply Trc.stp rfl rfl rfl; apply s_fieldAddr; exact rfl; dsimp only [Nat.reduceAdd, Nat.reduceMul, List.nil_append]
   apply Trc.stp rfl rfl rfl; apply s_fieldAddr; exact rfl; dsimp only [Nat.reduceAdd, Nat.reduceMul, List.nil_append]
   apply Trc.stp rfl rfl rfl; apply s_load; exact rfl; exact rfl; exact rfl; dsimp only [Nat.reduceAdd, Nat.reduceMul, List.nil_append]
   apply Trc.stp rfl rfl rfl; apply s_cu8; exact rfl; dsimp only [Nat.reduceAdd, Nat.reduceMul, List.nil_append]
   apply Trc.stp rfl rfl rfl; apply s_fieldAddr; exact rfl; dsimp only [Nat.reduceAdd, Nat.reduceMul, List.nil_append]
   apply Trc.stp rfl rfl rfl; apply s_fieldAddr; exact rfl; dsimp only [Nat.reduceAdd, Nat.reduceMul, List.nil_append]
   apply Trc.stp rfl rfl rfl; apply s_load; exact rfl; exact rfl; exact rfl; dsimp only [Nat.reduceAdd, Nat.reduceMul, List.nil_append]
   apply Trc.stp rfl rfl rfl; apply s_cu8; exact rfl; dsimp only [Nat.reduceAdd, Nat.reduceMul, List.nil_append]
   apply Trc.stp rfl rfl rfl; apply s_bytesP; apply PV.cons; exact rfl; exact rfl; exact rfl; apply PV.cons; exact rfl; exact rfl
   exact rfl; exact PV.nil; exact rfl; omega; dsimp only [Nat.reduceAdd, Nat.reduceMul, Nat.reduceSub, List.nil_append, List.cons_append, nbk, List.map_cons, List.map_nil]
   apply Trc.stp rfl rfl rfl; apply s_assign; exact rfl; dsimp only [Nat.reduceAdd, Nat.reduceMul, List.nil_append]
   exact Trc.done _ _ _; exact rfl; refine thn_n ?_; refine Gol.seq ?_; apply Gol.region; apply Trc.stp rfl rfl rfl; apply s_move; exact rfl; dsimp only [Nat.reduceAdd, Nat.reduceMul, List.nil_append]
   apply Trc.stp rfl rfl rfl; apply s_fieldAddr; exact rfl; dsimp only [Nat.reduceAdd, Nat.reduceMul, List.nil_append]
   apply Trc.stp rfl rfl rfl; apply s_fieldAddr; exact rfl; dsimp only [Nat.reduceAdd, Nat.reduceMul, List.nil_append]
   apply Trc.stp rfl rfl rfl; apply s_slA; exact rfl; exact rfl; exact rfl; exact rfl; simp; omega; omega; omega; dsimp only [Nat.reduceAdd, Nat.reduceMul, Nat.reduceSub, List.nil_append, List.cons_append, nbk, List.map_cons, List.map_nil]
   apply Trc.stp rfl rfl rfl; apply s_app; exact rfl; exact rfl; exact rfl; apply rd_sb rfl; exact Nat.le_of_ble_eq_true rfl
   rfl; exact rfl; exact rfl; rfl; omega; dsimp only [Nat.reduceAdd, Nat.reduceMul, Nat.reduceSub, List.nil_append, List.cons_append, nbk, List.map_cons, List.map_nil]
   apply Trc.stp rfl rfl rfl; apply s_assign; exact rfl; dsimp only [Nat.reduceAdd, Nat.reduceMul, List.nil_append]
   exact Trc.done _ _ _; exact rfl; refine thn_n ?_; refine Gol.seq ?_; apply Gol.region; apply Trc.stp rfl rfl rfl; apply s_move; exact rfl; dsimp only [Nat.reduceAdd, Nat.reduceMul, List.nil_append]
   apply Trc.stp rfl rfl rfl; apply s_fieldAddr; exact rfl; dsimp only [Nat.reduceAdd, Nat.reduceMul, List.nil_append]
   apply Trc.stp rfl rfl rfl; apply s_load; exact rfl; exact rfl; exact rfl; dsimp only [Nat.reduceAdd, Nat.reduceMul, List.nil_append]
   apply Trc.stp rfl rfl rfl; apply s_cu64; exact rfl; dsimp only [Nat.reduceAdd, Nat.reduceMul, List.nil_append]
   apply Trc.stp rfl rfl rfl; apply s_call (f := 71) rfl; apply evs.cons rfl; apply evs.cons rfl; apply evs.cons rfl
   exact evs.nil; apply ArgL.cons; exact arg_sl rfl; apply ArgL.cons; exact arg_clo; apply ArgL.cons; exact arg_clo; exact ArgL.nil; exact h1 _; exact Nat.le_of_ble_eq_true rfl
   dsimp only [Nat.reduceAdd, Nat.reduceMul, Nat.reduceSub, List.nil_append, List.cons_append, nbk, List.map_cons, List.map_nil]; apply Trc.stp rfl rfl rfl; apply s_call (f := 69) rfl; apply evs.cons rfl; apply evs.cons rfl; exact evs.nil; apply ArgL.cons; exact arg_clo
   apply ArgL.cons; exact arg_sl rfl; exact ArgL.nil; exact h2 _; exact Nat.le_of_ble_eq_true rfl; dsimp only [Nat.reduceAdd, Nat.reduceMul, Nat.reduceSub, List.nil_append, List.cons_append, nbk, List.map_cons, List.map_nil]
   apply Trc.stepN rfl rfl; exact wnt_n rfl; apply s_storeW; exact rfl; exact rfl; exact rfl; exact rfl; rfl; exact rfl; dsimp only [Nat.reduceAdd, Nat.reduceMul, Nat.reduceSub, List.nil_append, List.cons_append, nbk, List.map_cons, List.map_nil]
   exact Trc.done _ _ _; exact rfl; refine thn_n ?_; refine Gol.ret ?_)
  (apply RetQ.mk (by first | exact .inr rfl | exact .inl rfl); apply res_1 rfl; exact res_cell rfl rfl rfl (agu_cuv _); exact out_val)
theorem leafApplied_ok (n : UInt64) : Fresh Tryz.prog 43 [.v (.agg (nameC n))] (fun _ => .v (.agg (nameC (leafN S n)))) [] := by
  refine Fresh.of (fn := Tryz.f43) Tryz.func43 rfl (Nat.le_of_ble_eq_true rfl) fun w => ?_
  (refine Gol.seq ?_; apply Gol.region; apply Trc.stp rfl rfl rfl; apply s_box; exact rfl
   exact rfl; dsimp only [Nat.reduceAdd, Nat.reduceMul, Nat.reduceSub, List.nil_append, List.cons_append, nbk, List.map_cons, List.map_nil]; apply Trc.stp rfl rfl rfl; apply s_alloc; dsimp only [Nat.reduceAdd, Nat.reduceMul, Nat.reduceSub, List.nil_append, List.cons_append, nbk, List.map_cons, List.map_nil]
   exact Trc.done _ _ _; exact rfl; refine thn_n ?_; refine Gol.seq ?_; apply Gol.region; apply Trc.stp rfl rfl rfl; apply s_slA; exact rfl; exact rfl; exact rfl; exact rfl; simp; omega; omega; omega; dsimp only [Nat.reduceAdd, Nat.reduceMul, Nat.reduceSub, List.nil_append, List.cons_append, nbk, List.map_cons, List.map_nil]
   apply Trc.stp rfl rfl rfl; apply s_call (f := 69) rfl; apply evs.cons rfl; apply evs.cons rfl; exact evs.nil; apply ArgL.cons
   exact arg_clo; apply ArgL.cons; exact arg_name rfl rfl; exact ArgL.nil; exact hS.tagged 0x55 (nameB n) _ _ rfl (by decide); exact Nat.le_of_ble_eq_true rfl
   dsimp only [Nat.reduceAdd, Nat.reduceMul, Nat.reduceSub, List.nil_append, List.cons_append, nbk, List.map_cons, List.map_nil]; apply Trc.stepN rfl rfl
   exact wnt_n rfl; apply s_storeW; exact rfl; exact rfl; exact rfl; exact rfl; rfl; exact rfl; dsimp only [Nat.reduceAdd, Nat.reduceMul, Nat.reduceSub, List.nil_append, List.cons_append, nbk, List.map_cons, List.map_nil]
   exact Trc.done _ _ _; exact rfl; refine thn_n ?_; refine Gol.ret ?_)
  (apply RetQ.mk (by first | exact .inr rfl | exact .inl rfl); apply res_1 rfl; exact res_cell rfl rfl rfl (agu_cuv _); exact out_val)
theorem leafLock_ok (d : Lk) : Fresh Tryz.prog 70 [.v (.agg (lockC d.n d.h d.o d.t d.u))] (fun _ => .v (.agg (nameC (leafL S d)))) [] := by
  have h1 := fun f => appUint_n (nameB d.n ++ nameB d.h ++ [toU8 d.o, toU8 d.t]) (toU64 d.u) 2 18 f (by decide) rfl (by decide)
  have h2 := fun f => hS.tagged 0x54 (bytL d) 20 f (by simp [bytL, nameB_length, beB_length]) (by decide)
  refine Fresh.of (fn := Tryz.f70) Tryz.func70 rfl (Nat.le_of_ble_eq_true rfl) fun w => ?_
  (refine Gol.seq ?_; apply Gol.region; apply Trc.stp rfl rfl rfl; apply s_box; exact rfl
   exact rfl; dsimp only [Nat.reduceAdd, Nat.reduceMul, Nat.reduceSub, List.nil_append, List.cons_append, nbk, List.map_cons, List.map_nil]; apply Trc.stp rfl rfl rfl; apply s_alloc; dsimp only [Nat.reduceAdd, Nat.reduceMul, Nat.reduceSub, List.nil_append, List.cons_append, nbk, List.map_cons, List.map_nil]
   exact Trc.done _ _ _; exact rfl; refine thn_n ?_; refine Gol.seq ?_; apply Gol.any; kernel_rfl; apply Trc.stp rfl rfl rfl; apply s_fieldAddr; exact rfl; dsimp only [Nat.reduceAdd, Nat.reduceMul, List.nil_append]
   apply Trc.stp rfl rfl rfl; apply s_slA; exact rfl; exact rfl; exact rfl; exact rfl; simp; omega; omega; omega; dsimp only [Nat.reduceAdd, Nat.reduceMul, Nat.reduceSub, List.nil_append, List.cons_append, nbk, List.map_cons, List.map_nil]
   apply Trc.stp rfl rfl rfl; apply s_appNil; exact rfl; exact rfl; apply rd_sb rfl; exact Nat.le_of_ble_eq_true rfl; rfl
   omega; dsimp only [Nat.reduceAdd, Nat.reduceMul, Nat.reduceSub, List.nil_append, List.cons_append, nbk, List.map_cons, List.map_nil]; apply Trc.stp rfl rfl rfl; apply s_fieldAddr; exact rfl; dsimp only [Nat.reduceAdd, Nat.reduceMul, List.nil_append]
   apply Trc.stp rfl rfl rfl; apply s_slA; exact rfl; exact rfl; exact rfl; exact rfl; simp; omega; omega; omega; dsimp only [Nat.reduceAdd, Nat.reduceMul, Nat.reduceSub, List.nil_append, List.cons_append, nbk, List.map_cons, List.map_nil]
   apply Trc.stp rfl rfl rfl; apply s_app; exact rfl; exact rfl; exact rfl; apply rd_sb rfl; exact Nat.le_of_ble_eq_true rfl
   rfl; exact rfl; exact rfl; rfl; omega; dsimp only [Nat.reduceAdd, Nat.reduceMul, Nat.reduceSub, List.nil_append, List.cons_append, nbk, List.map_cons, List.map_nil]
   apply Trc.stp rfl rfl rfl; apply s_assign; exact rfl; dsimp only [Nat.reduceAdd, Nat.reduceMul, List.nil_append]
   exact Trc.done _ _ _; kernel_rfl; exact rfl; refine thn_n ?_; refine Gol.seq ?_; apply Gol.region; apply Trc.stp rfl rfl rfl; apply s_move; exact rfl; dsimp only [Nat.reduceAdd, Nat.reduceMul, List.nil_append]
   apply Trc.stp rfl rfl rfl; apply s_fieldAddr; exact rfl; dsimp only [Nat.reduceAdd, Nat.reduceMul, List.nil_append]
   apply Trc.stp rfl rfl rfl; apply s_load; exact rfl; exact rfl; exact rfl; dsimp only [Nat.reduceAdd, Nat.reduceMul, List.nil_append]
   apply Trc.stp rfl rfl rfl; apply s_cu8; exact rfl; dsimp only [Nat.reduceAdd, Nat.reduceMul, List.nil_append]
   apply Trc.stp rfl rfl rfl; apply s_fieldAddr; exact rfl; dsimp only [Nat.reduceAdd, Nat.reduceMul, List.nil_append]
   apply Trc.stp rfl rfl rfl; apply s_load; exact rfl; exact rfl; exact rfl; dsimp only [Nat.reduceAdd, Nat.reduceMul, List.nil_append]
   apply Trc.stp rfl rfl rfl; apply s_cu8; exact rfl; dsimp only [Nat.reduceAdd, Nat.reduceMul, List.nil_append]
   apply Trc.stp rfl rfl rfl; apply s_bytesP; apply PV.cons; exact rfl; exact rfl; exact rfl; apply PV.cons; exact rfl; exact rfl
   exact rfl; exact PV.nil; exact rfl; omega; dsimp only [Nat.reduceAdd, Nat.reduceMul, Nat.reduceSub, List.nil_append, List.cons_append, nbk, List.map_cons, List.map_nil]
   apply Trc.stp rfl rfl rfl; apply s_app; exact rfl; exact rfl; exact rfl; apply rd_sl rfl; rfl; rfl; exact rfl; exact rfl
   exact OneL.one; omega; dsimp only [Nat.reduceAdd, Nat.reduceMul, Nat.reduceSub, List.nil_append, List.cons_append, nbk, List.map_cons, List.map_nil]; apply Trc.stp rfl rfl rfl; apply s_assign; exact rfl; dsimp only [Nat.reduceAdd, Nat.reduceMul, List.nil_append]
   exact Trc.done _ _ _; exact rfl; refine thn_n ?_; refine Gol.seq ?_; apply Gol.region; apply Trc.stp rfl rfl rfl; apply s_move; exact rfl; dsimp only [Nat.reduceAdd, Nat.reduceMul, List.nil_append]
   apply Trc.stp rfl rfl rfl; apply s_fieldAddr; exact rfl; dsimp only [Nat.reduceAdd, Nat.reduceMul, List.nil_append]
   apply Trc.stp rfl rfl rfl; apply s_load; exact rfl; exact rfl; exact rfl; dsimp only [Nat.reduceAdd, Nat.reduceMul, List.nil_append]
   apply Trc.stp rfl rfl rfl; apply s_cu64; exact rfl; dsimp only [Nat.reduceAdd, Nat.reduceMul, List.nil_append]
   apply Trc.stp rfl rfl rfl; apply s_call (f := 71) rfl; apply evs.cons rfl; apply evs.cons rfl; apply evs.cons rfl
   exact evs.nil; apply ArgL.cons; exact arg_sl rfl; apply ArgL.cons; exact arg_clo; apply ArgL.cons; exact arg_clo; exact ArgL.nil; exact h1 _; exact Nat.le_of_ble_eq_true rfl
   dsimp only [Nat.reduceAdd, Nat.reduceMul, Nat.reduceSub, List.nil_append, List.cons_append, nbk, List.map_cons, List.map_nil]; apply Trc.stp rfl rfl rfl; apply s_call (f := 69) rfl; apply evs.cons rfl; apply evs.cons rfl; exact evs.nil; apply ArgL.cons; exact arg_clo
   apply ArgL.cons; exact arg_sl rfl; exact ArgL.nil; exact h2 _; exact Nat.le_of_ble_eq_true rfl; dsimp only [Nat.reduceAdd, Nat.reduceMul, Nat.reduceSub, List.nil_append, List.cons_append, nbk, List.map_cons, List.map_nil]
   apply Trc.stepN rfl rfl; exact wnt_n rfl; apply s_storeW; exact rfl; exact rfl; exact rfl; exact rfl; rfl; exact rfl; dsimp only [Nat.reduceAdd, Nat.reduceMul, Nat.reduceSub, List.nil_append, List.cons_append, nbk, List.map_cons, List.map_nil]
   exact Trc.done _ _ _; exact rfl; refine thn_n ?_; refine Gol.ret ?_)
  (apply RetQ.mk (by first | exact .inr rfl | exact .inl rfl); apply res_1 rfl; exact res_cell rfl rfl rfl (agu_cuv _); exact out_val)
end
end Go.Proofs.YtkkeeokeihkagaaGreat


/-
  Layer 21: the list of leaves. Conditions: lengths below 2^17.
-/
namespace Go.Proofs.YtkkeeokeihkagaaGreat
open Go.RowKit

section
variable (S : List UInt8 → UInt64)
def lv1 (s : Stt) (j : Nat) : List UInt64 := (s.cells.take j).map (leafD S)
def lv2 (s : Stt) (j : Nat) : List UInt64 := lv1 S s s.cells.length ++ (List.range j).map fun i => leafQ S i (s.seqs.getD i 0)
def lv3 (s : Stt) (j : Nat) : List UInt64 := lv2 S s s.seqs.length ++ (s.locks.take j).map (leafL S)
def lv4 (s : Stt) (j : Nat) : List UInt64 := lv3 S s s.locks.length ++ (s.applied.take j).map (leafN S)
def leavesN (s : Stt) : List UInt64 := lv4 S s s.applied.length ++ [leafG S s.guilty]
theorem map_take {α β : Type} {f : α → β} {l : List α} {j : Nat} {x : α} (h : l[j]? = some x) : (l.take (j + 1)).map f = (l.take j).map f ++ [f x] := by
  obtain ⟨hl, e⟩ := List.getElem?_eq_some_iff.1 h
  rw [List.take_succ_eq_append_getElem hl, List.map_append, e]; rfl
theorem lv1_next {s : Stt} {j : Nat} {x : Dl} (h : s.cells[j]? = some x) : lv1 S s (j + 1) = lv1 S s j ++ [leafD S x] := map_take h
theorem lv2_next {s : Stt} {j : Nat} : lv2 S s (j + 1) = lv2 S s j ++ [leafQ S j (s.seqs.getD j 0)] := by
  unfold lv2; rw [List.range_succ, List.map_append, List.append_assoc]; rfl
theorem lv3_next {s : Stt} {j : Nat} {x : Lk} (h : s.locks[j]? = some x) : lv3 S s (j + 1) = lv3 S s j ++ [leafL S x] := by unfold lv3; rw [map_take h, List.append_assoc]
theorem lv4_next {s : Stt} {j : Nat} {x : UInt64} (h : s.applied[j]? = some x) : lv4 S s (j + 1) = lv4 S s j ++ [leafN S x] := by unfold lv4; rw [map_take h, List.append_assoc]
theorem lv1_len (s : Stt) (j : Nat) : (lv1 S s j).length ≤ s.cells.length := by simp [lv1]; omega
theorem lv2_len (s : Stt) (j : Nat) : (lv2 S s j).length ≤ s.cells.length + j := by have := lv1_len S s s.cells.length; simp [lv2]; omega
theorem lv3_len (s : Stt) (j : Nat) : (lv3 S s j).length ≤ s.cells.length + s.seqs.length + s.locks.length := by have := lv2_len S s s.seqs.length; simp [lv3]; omega
theorem lv4_len (s : Stt) (j : Nat) : (lv4 S s j).length ≤ s.cells.length + s.seqs.length + s.locks.length + s.applied.length := by have := lv3_len S s s.locks.length; simp [lv4]; omega
variable (hS : HashF S)
include hS
theorem leaves_ok (s : Stt) (hs : Sm s) : Fresh Tryz.prog 31 [stA s] (fun k => .sl k (leavesN S s).length) [⟨byA (flat (leavesN S s)), 30, 8⟩] := by
  obtain ⟨h1, h2, h3, h4⟩ := hs
  unfold stA
  refine Fresh.of (fn := Tryz.f31) Tryz.func31 rfl (Nat.le_of_ble_eq_true rfl) fun w => ?_
  (refine Gol.seq ?_; apply Gol.region; apply Trc.stp rfl rfl rfl; apply s_box; exact rfl
   exact rfl; dsimp only [Nat.reduceAdd, Nat.reduceMul, Nat.reduceSub, List.nil_append, List.cons_append, nbk, List.map_cons, List.map_nil]; apply Trc.stp rfl rfl rfl; apply s_assign; exact rfl; dsimp only [Nat.reduceAdd, Nat.reduceMul, List.nil_append]
   exact Trc.done _ _ _; exact rfl; refine thn_n ?_; refine Gol.seq ?_; apply Gol.region; apply Trc.stp rfl rfl rfl; apply s_assign; exact rfl; dsimp only [Nat.reduceAdd, Nat.reduceMul, List.nil_append]
   exact Trc.done _ _ _; exact rfl; refine thn_n ?_; refine Gol.seq ?_; refine Gol.seq ?_; apply Gol.region
   apply Trc.stp rfl rfl rfl; apply s_fieldAddr; exact rfl; dsimp only [Nat.reduceAdd, Nat.reduceMul, List.nil_append]
   apply Trc.stp rfl rfl rfl; apply s_load; exact rfl; exact rfl; exact rfl; dsimp only [Nat.reduceAdd, Nat.reduceMul, List.nil_append]
   apply Trc.stp rfl rfl rfl; apply s_len; exact rfl; exact ln_ex; dsimp only [Nat.reduceAdd, Nat.reduceMul, List.nil_append]
   apply Trc.stp rfl rfl rfl; apply s_move; exact rfl; dsimp only [Nat.reduceAdd, Nat.reduceMul, List.nil_append]
   exact Trc.done _ _ _; exact rfl; refine thn_n ?_; refine Gol.block ?_)
  refine Gol.le (Le.nilOwn (i := 3) 30 8 rfl) ?_
  refine Gol.loop (ι := Nat) (fun j => j ≤ s.cells.length) (fun j => s.cells.length - j) 200 (fun j => [(199, some ⟨byA (flat (lv1 S s j)), 30, 8⟩), (0, some ⟨[.ex s.cells.length false (dsA s.cells), .ex s.seqs.length false (inA s.seqs), .ex s.locks.length false (lsA s.locks), .ex s.applied.length false (byA (flat s.applied)), .v (.int .i64 s.guilty)], 28, 5⟩)]) (fun j => [(15, .v (.int .i64 (j : Int))), (14, .v (.int .i64 (s.cells.length : Int))), (13, .ex s.cells.length false (dsA s.cells)), (3, .sl 199 (lv1 S s j).length), (1, .pt 0 0)]) 0 (Nat.zero_le _) ?_ ?_
  · (apply Le.mk3' [(199, 56)]; apply RnT3.c; exact rfl; apply Rn3.r; exact Rn.v rfl; apply RnT3.c; exact rfl; apply Rn3.r; exact Rn.v rfl; apply RnT3.c; exact rfl
     apply Rn3.r; exact Rn.clo inferInstance rfl; apply RnT3.c; exact rfl; apply Rn3.r; exact Rn.sl rfl rfl; apply RnT3.c; exact rfl; apply Rn3.r; exact Rn.pt rfl rfl
     exact RnT3.n; apply RnH3.c; exact rfl; exact rfl; apply RnC.cl; rfl; exact inferInstance; exact rfl; exact rfl; apply RnH3.c; exact rfl; exact rfl; apply RnC.cl
     rfl; exact inferInstance; exact rfl; exact rfl; exact RnH3.n; exact rfl)
  intro j hj
  have hLj := lv1_len S s j
  (refine Gol.seq ?_; apply Gol.region; apply Trc.stp rfl rfl rfl; apply s_ltn; exact rfl
   exact rfl; dsimp only [Nat.reduceAdd, Nat.reduceMul, List.nil_append]; exact Trc.done _ _ _
   exact rfl; refine thn_n ?_; refine Gol.seq ?_)
  refine Gol.cond rfl (fun h => ?_) (fun h => ?_)
  · have hlt : j < s.cells.length := of_decide_eq_true h
    obtain ⟨d, hd⟩ : ∃ d, s.cells[j]? = some d := ⟨s.cells[j], List.getElem?_eq_getElem hlt⟩
    have hN := lv1_next S hd
    (refine Gol.skip ?_; refine thn_n ?_; refine Gol.seq ?_; refine Gol.block ?_; refine Gol.seq ?_
     apply Gol.region; apply Trc.stp rfl rfl rfl; apply s_ixe; exact rfl; exact rfl; omega; exact ds_ne (by omega)
     dsimp only [Nat.reduceAdd, Nat.reduceMul, List.nil_append]; apply Trc.stp rfl rfl rfl; apply s_loadEN; exact rfl; simp only [byA_length, List.length_append, List.length_cons, List.length_nil, List.length_take, List.length_drop, List.length_replicate, List.length_map, Nat.mul_one, nameB_length, flat_length, List.length_set, inA_length, dsA_length, lsA_length, dA_length, lA_length] <;> omega
     exact agu_d (by assumption); dsimp only [Nat.reduceAdd, Nat.reduceMul, List.nil_append]
     apply Trc.stp rfl rfl rfl; apply s_alloc; dsimp only [Nat.reduceAdd, Nat.reduceMul, Nat.reduceSub, List.nil_append, List.cons_append, nbk, List.map_cons, List.map_nil]
     apply Trc.stepN rfl rfl; exact wnt_n rfl; apply s_storeW; exact rfl; exact rfl; exact rfl; exact rfl; rfl; exact rfl; dsimp only [Nat.reduceAdd, Nat.reduceMul, Nat.reduceSub, List.nil_append, List.cons_append, nbk, List.map_cons, List.map_nil]
     exact Trc.done _ _ _; exact rfl; refine thn_n ?_; apply Gol.region; apply Trc.stp rfl rfl rfl; apply s_move
     exact rfl; dsimp only [Nat.reduceAdd, Nat.reduceMul, List.nil_append]; apply Trc.stp rfl rfl rfl; apply s_loadW; exact rfl; exact rfl; exact rfl; exact agu_cuv _; dsimp only [Nat.reduceAdd, Nat.reduceMul, List.nil_append]
     apply Trc.stp rfl rfl rfl; apply s_call (f := 42) rfl; apply evs.cons rfl; exact evs.nil; apply ArgL.cons; exact arg_clo
     exact ArgL.nil; exact leafCell_ok S hS d; exact Nat.le_of_ble_eq_true rfl; dsimp only [Nat.reduceAdd, Nat.reduceMul, Nat.reduceSub, List.nil_append, List.cons_append, nbk, List.map_cons, List.map_nil]
     apply Trc.stp rfl rfl rfl; apply s_lit; apply PA.cons; exact rfl; exact rfl; exact rfl; exact PA.nil; exact rfl; omega
     dsimp only [Nat.reduceAdd, Nat.reduceMul, Nat.reduceSub, List.nil_append, List.cons_append, nbk, List.map_cons, List.map_nil]; apply Trc.stp rfl rfl rfl; apply s_app; exact rfl; exact rfl; exact rfl; apply rd_sl rfl; rfl; simp only [byA_length, List.length_append, List.length_cons, List.length_nil, List.length_take, List.length_drop, List.length_replicate, List.length_map, Nat.mul_one, nameB_length, flat_length, List.length_set, inA_length, dsA_length, lsA_length, dA_length, lA_length] <;> omega
     exact rfl; exact rfl; rfl; omega; dsimp only [Nat.reduceAdd, Nat.reduceMul, Nat.reduceSub, List.nil_append, List.cons_append, nbk, List.map_cons, List.map_nil]
     apply Trc.stp rfl rfl rfl; apply s_assign; exact rfl; dsimp only [Nat.reduceAdd, Nat.reduceMul, List.nil_append]
     exact Trc.done _ _ _; exact rfl; refine inBlk_n ?_; refine thn_n ?_; apply Gol.region; apply Trc.stp rfl rfl rfl; apply s_addn; exact rfl; exact rfl; simp <;> omega; dsimp only [Nat.reduceAdd, Nat.reduceMul, List.nil_append]
     apply Trc.stp rfl rfl rfl; apply s_move; exact rfl; dsimp only [Nat.reduceAdd, Nat.reduceMul, List.nil_append]
     exact Trc.done _ _ _; exact rfl)
    refine rnd_n (j + 1) (by omega) (by omega) ?_
    rw [hN, List.length_append, List.length_singleton]
    (apply Le.mk3' [(199, 272)]; apply RnT3.c; exact rfl; apply Rn3.r; exact Rn.v rfl; apply RnT3.c; exact rfl; apply Rn3.r; exact Rn.v rfl; apply RnT3.c; exact rfl
     apply Rn3.r; exact Rn.clo inferInstance rfl; apply RnT3.c; exact rfl; apply Rn3.r; exact Rn.sl rfl rfl; apply RnT3.c; exact rfl; apply Rn3.r; exact Rn.pt rfl rfl
     exact RnT3.n; apply RnH3.c; exact rfl; exact rfl; apply RnC.cl; exact grow_eq2; exact inferInstance; exact rfl; exact rfl; apply RnH3.c; exact rfl; exact rfl
     apply RnC.cl; rfl; exact inferInstance; exact rfl; exact rfl; exact RnH3.n; exact rfl)
  have hge1 : ¬ j < s.cells.length := of_decide_eq_false h
  obtain rfl : j = s.cells.length := by omega
  (refine Gol.exit ?_; refine thn_x ?_; refine rnd_x ?_; refine inBlk_hit ?_; refine thn_n ?_
   refine Gol.seq ?_; refine Gol.seq ?_; apply Gol.region; apply Trc.stp rfl rfl rfl; apply s_fieldAddr
   exact rfl; dsimp only [Nat.reduceAdd, Nat.reduceMul, List.nil_append]; apply Trc.stp rfl rfl rfl; apply s_load; exact rfl; exact rfl; exact rfl; dsimp only [Nat.reduceAdd, Nat.reduceMul, List.nil_append]
   apply Trc.stp rfl rfl rfl; apply s_len; exact rfl; exact ln_ex; dsimp only [Nat.reduceAdd, Nat.reduceMul, List.nil_append]
   apply Trc.stp rfl rfl rfl; apply s_move; exact rfl; dsimp only [Nat.reduceAdd, Nat.reduceMul, List.nil_append]
   exact Trc.done _ _ _; exact rfl; refine thn_n ?_; refine Gol.block ?_)
  refine Gol.loop (ι := Nat) (fun j => j ≤ s.seqs.length) (fun j => s.seqs.length - j) 200 (fun j => [(199, some ⟨byA (flat (lv2 S s j)), 30, 8⟩), (0, some ⟨[.ex s.cells.length false (dsA s.cells), .ex s.seqs.length false (inA s.seqs), .ex s.locks.length false (lsA s.locks), .ex s.applied.length false (byA (flat s.applied)), .v (.int .i64 s.guilty)], 28, 5⟩)]) (fun j => [(28, .v (.int .i64 (j : Int))), (27, .v (.int .i64 (s.seqs.length : Int))), (26, .ex s.seqs.length false (inA s.seqs)), (3, .sl 199 (lv2 S s j).length), (1, .pt 0 0)]) 0 (Nat.zero_le _) ?_ ?_
  · rw [show lv2 S s 0 = lv1 S s s.cells.length by simp [lv2]]
    (apply Le.mk3' []; apply RnT3.c; exact rfl; apply Rn3.r; exact Rn.v rfl; apply RnT3.c; exact rfl; apply Rn3.r; exact Rn.v rfl; apply RnT3.c; exact rfl
     apply Rn3.r; exact Rn.clo inferInstance rfl; apply RnT3.c; exact rfl; apply Rn3.r; exact Rn.sl rfl rfl; apply RnT3.c; exact rfl; apply Rn3.r; exact Rn.pt rfl rfl
     exact RnT3.n; apply RnH3.c; exact rfl; exact rfl; apply RnC.cl; rfl; exact inferInstance; exact rfl; exact rfl; apply RnH3.c; exact rfl; exact rfl; apply RnC.cl
     rfl; exact inferInstance; exact rfl; exact rfl; exact RnH3.n; exact rfl)
  intro j hj
  have hLj := lv2_len S s j
  (refine Gol.seq ?_; apply Gol.region; apply Trc.stp rfl rfl rfl; apply s_ltn; exact rfl
   exact rfl; dsimp only [Nat.reduceAdd, Nat.reduceMul, List.nil_append]; exact Trc.done _ _ _
   exact rfl; refine thn_n ?_; refine Gol.seq ?_)
  refine Gol.cond rfl (fun h => ?_) (fun h => ?_)
  · have hlt : j < s.seqs.length := of_decide_eq_true h
    have hne : inA s.seqs ≠ [] := fun e => by have := inA_length s.seqs; rw [e] at this; simp at this; omega
    have hN := lv2_next S (s := s) (j := j)
    (refine Gol.skip ?_; refine thn_n ?_; refine Gol.seq ?_; refine Gol.block ?_; refine Gol.seq ?_
     apply Gol.region; apply Trc.stp rfl rfl rfl; apply s_move; exact rfl; dsimp only [Nat.reduceAdd, Nat.reduceMul, List.nil_append]
     apply Trc.stp rfl rfl rfl; apply s_ixe; exact rfl; exact rfl; omega; assumption; dsimp only [Nat.reduceAdd, Nat.reduceMul, List.nil_append]
     apply Trc.stp rfl rfl rfl; apply s_loadE; exact rfl; apply in_get0; assumption; dsimp only [Nat.reduceAdd, Nat.reduceMul, List.nil_append]
     apply Trc.stp rfl rfl rfl; apply s_assign; exact rfl; dsimp only [Nat.reduceAdd, Nat.reduceMul, List.nil_append]
     apply Trc.stp rfl rfl rfl; apply s_assign; exact rfl; dsimp only [Nat.reduceAdd, Nat.reduceMul, List.nil_append]
     exact Trc.done _ _ _; exact rfl; refine thn_n ?_; apply Gol.region; apply Trc.stp rfl rfl rfl; apply s_move
     exact rfl; dsimp only [Nat.reduceAdd, Nat.reduceMul, List.nil_append]; apply Trc.stp rfl rfl rfl; apply s_move; exact rfl; dsimp only [Nat.reduceAdd, Nat.reduceMul, List.nil_append]
     apply Trc.stp rfl rfl rfl; apply s_cu8; exact rfl; dsimp only [Nat.reduceAdd, Nat.reduceMul, List.nil_append]
     apply Trc.stp rfl rfl rfl; apply s_move; exact rfl; dsimp only [Nat.reduceAdd, Nat.reduceMul, List.nil_append]
     apply Trc.stp rfl rfl rfl; apply s_cu8; exact rfl; dsimp only [Nat.reduceAdd, Nat.reduceMul, List.nil_append]
     apply Trc.stp rfl rfl rfl; apply s_bytesP; apply PV.cons; exact rfl; exact rfl; exact rfl; apply PV.cons; exact rfl; exact rfl
     exact rfl; exact PV.nil; exact rfl; omega; dsimp only [Nat.reduceAdd, Nat.reduceMul, Nat.reduceSub, List.nil_append, List.cons_append, nbk, List.map_cons, List.map_nil]
     apply Trc.stp rfl rfl rfl; apply s_call (f := 69) rfl; apply evs.cons rfl; apply evs.cons rfl; exact evs.nil; apply ArgL.cons
     exact arg_clo; apply ArgL.cons; exact arg_sl rfl; exact ArgL.nil; exact hS.tagged 0x53 [toU8 (j : Int), toU8 (s.seqs.getD j 0)] 2 _ rfl (by decide); exact Nat.le_of_ble_eq_true rfl
     dsimp only [Nat.reduceAdd, Nat.reduceMul, Nat.reduceSub, List.nil_append, List.cons_append, nbk, List.map_cons, List.map_nil]; apply Trc.stp rfl rfl rfl; apply s_lit; apply PA.cons; exact rfl; exact rfl; exact rfl; exact PA.nil; exact rfl; omega; dsimp only [Nat.reduceAdd, Nat.reduceMul, Nat.reduceSub, List.nil_append, List.cons_append, nbk, List.map_cons, List.map_nil]
     apply Trc.stp rfl rfl rfl; apply s_app; exact rfl; exact rfl; exact rfl; apply rd_sl rfl; rfl; simp only [byA_length, List.length_append, List.length_cons, List.length_nil, List.length_take, List.length_drop, List.length_replicate, List.length_map, Nat.mul_one, nameB_length, flat_length, List.length_set, inA_length, dsA_length, lsA_length, dA_length, lA_length] <;> omega
     exact rfl; exact rfl; rfl; omega; dsimp only [Nat.reduceAdd, Nat.reduceMul, Nat.reduceSub, List.nil_append, List.cons_append, nbk, List.map_cons, List.map_nil]
     apply Trc.stp rfl rfl rfl; apply s_assign; exact rfl; dsimp only [Nat.reduceAdd, Nat.reduceMul, List.nil_append]
     exact Trc.done _ _ _; exact rfl; refine inBlk_n ?_; refine thn_n ?_; apply Gol.region; apply Trc.stp rfl rfl rfl; apply s_addn; exact rfl; exact rfl; simp <;> omega; dsimp only [Nat.reduceAdd, Nat.reduceMul, List.nil_append]
     apply Trc.stp rfl rfl rfl; apply s_move; exact rfl; dsimp only [Nat.reduceAdd, Nat.reduceMul, List.nil_append]
     exact Trc.done _ _ _; exact rfl)
    refine rnd_n (j + 1) (by omega) (by omega) ?_
    rw [hN, List.length_append, List.length_singleton]
    (apply Le.mk3' [(199, 312)]; apply RnT3.c; exact rfl; apply Rn3.r; exact Rn.v rfl; apply RnT3.c; exact rfl; apply Rn3.r; exact Rn.v rfl; apply RnT3.c; exact rfl
     apply Rn3.r; exact Rn.clo inferInstance rfl; apply RnT3.c; exact rfl; apply Rn3.r; exact Rn.sl rfl rfl; apply RnT3.c; exact rfl; apply Rn3.r; exact Rn.pt rfl rfl
     exact RnT3.n; apply RnH3.c; exact rfl; exact rfl; apply RnC.cl; exact grow_eq2; exact inferInstance; exact rfl; exact rfl; apply RnH3.c; exact rfl; exact rfl
     apply RnC.cl; rfl; exact inferInstance; exact rfl; exact rfl; exact RnH3.n; exact rfl)
  have hge2 : ¬ j < s.seqs.length := of_decide_eq_false h
  obtain rfl : j = s.seqs.length := by omega
  (refine Gol.exit ?_; refine thn_x ?_; refine rnd_x ?_; refine inBlk_hit ?_; refine thn_n ?_
   refine Gol.seq ?_; refine Gol.seq ?_; apply Gol.region; apply Trc.stp rfl rfl rfl; apply s_fieldAddr
   exact rfl; dsimp only [Nat.reduceAdd, Nat.reduceMul, List.nil_append]; apply Trc.stp rfl rfl rfl; apply s_load; exact rfl; exact rfl; exact rfl; dsimp only [Nat.reduceAdd, Nat.reduceMul, List.nil_append]
   apply Trc.stp rfl rfl rfl; apply s_len; exact rfl; exact ln_ex; dsimp only [Nat.reduceAdd, Nat.reduceMul, List.nil_append]
   apply Trc.stp rfl rfl rfl; apply s_move; exact rfl; dsimp only [Nat.reduceAdd, Nat.reduceMul, List.nil_append]
   exact Trc.done _ _ _; exact rfl; refine thn_n ?_; refine Gol.block ?_)
  refine Gol.loop (ι := Nat) (fun j => j ≤ s.locks.length) (fun j => s.locks.length - j) 200 (fun j => [(199, some ⟨byA (flat (lv3 S s j)), 30, 8⟩), (0, some ⟨[.ex s.cells.length false (dsA s.cells), .ex s.seqs.length false (inA s.seqs), .ex s.locks.length false (lsA s.locks), .ex s.applied.length false (byA (flat s.applied)), .v (.int .i64 s.guilty)], 28, 5⟩)]) (fun j => [(46, .v (.int .i64 (j : Int))), (45, .v (.int .i64 (s.locks.length : Int))), (44, .ex s.locks.length false (lsA s.locks)), (3, .sl 199 (lv3 S s j).length), (1, .pt 0 0)]) 0 (Nat.zero_le _) ?_ ?_
  · rw [show lv3 S s 0 = lv2 S s s.seqs.length by simp [lv3]]
    (apply Le.mk3' []; apply RnT3.c; exact rfl; apply Rn3.r; exact Rn.v rfl; apply RnT3.c; exact rfl; apply Rn3.r; exact Rn.v rfl; apply RnT3.c; exact rfl
     apply Rn3.r; exact Rn.clo inferInstance rfl; apply RnT3.c; exact rfl; apply Rn3.r; exact Rn.sl rfl rfl; apply RnT3.c; exact rfl; apply Rn3.r; exact Rn.pt rfl rfl
     exact RnT3.n; apply RnH3.c; exact rfl; exact rfl; apply RnC.cl; rfl; exact inferInstance; exact rfl; exact rfl; apply RnH3.c; exact rfl; exact rfl; apply RnC.cl
     rfl; exact inferInstance; exact rfl; exact rfl; exact RnH3.n; exact rfl)
  intro j hj
  have hLj := lv3_len S s j
  (refine Gol.seq ?_; apply Gol.region; apply Trc.stp rfl rfl rfl; apply s_ltn; exact rfl
   exact rfl; dsimp only [Nat.reduceAdd, Nat.reduceMul, List.nil_append]; exact Trc.done _ _ _
   exact rfl; refine thn_n ?_; refine Gol.seq ?_)
  refine Gol.cond rfl (fun h => ?_) (fun h => ?_)
  · have hlt : j < s.locks.length := of_decide_eq_true h
    obtain ⟨d, hd⟩ : ∃ d, s.locks[j]? = some d := ⟨s.locks[j], List.getElem?_eq_getElem hlt⟩
    have hN := lv3_next S hd
    (refine Gol.skip ?_; refine thn_n ?_; refine Gol.seq ?_; refine Gol.block ?_; refine Gol.seq ?_
     apply Gol.region; apply Trc.stp rfl rfl rfl; apply s_ixe; exact rfl; exact rfl; omega; exact ls_ne (by omega)
     dsimp only [Nat.reduceAdd, Nat.reduceMul, List.nil_append]; apply Trc.stp rfl rfl rfl; apply s_loadEN; exact rfl; simp only [byA_length, List.length_append, List.length_cons, List.length_nil, List.length_take, List.length_drop, List.length_replicate, List.length_map, Nat.mul_one, nameB_length, flat_length, List.length_set, inA_length, dsA_length, lsA_length, dA_length, lA_length] <;> omega
     exact agu_l (by assumption); dsimp only [Nat.reduceAdd, Nat.reduceMul, List.nil_append]
     apply Trc.stp rfl rfl rfl; apply s_alloc; dsimp only [Nat.reduceAdd, Nat.reduceMul, Nat.reduceSub, List.nil_append, List.cons_append, nbk, List.map_cons, List.map_nil]
     apply Trc.stepN rfl rfl; exact wnt_n rfl; apply s_storeW; exact rfl; exact rfl; exact rfl; exact rfl; rfl; exact rfl; dsimp only [Nat.reduceAdd, Nat.reduceMul, Nat.reduceSub, List.nil_append, List.cons_append, nbk, List.map_cons, List.map_nil]
     exact Trc.done _ _ _; exact rfl; refine thn_n ?_; apply Gol.region; apply Trc.stp rfl rfl rfl; apply s_move
     exact rfl; dsimp only [Nat.reduceAdd, Nat.reduceMul, List.nil_append]; apply Trc.stp rfl rfl rfl; apply s_loadW; exact rfl; exact rfl; exact rfl; exact agu_cuv _; dsimp only [Nat.reduceAdd, Nat.reduceMul, List.nil_append]
     apply Trc.stp rfl rfl rfl; apply s_call (f := 70) rfl; apply evs.cons rfl; exact evs.nil; apply ArgL.cons; exact arg_clo
     exact ArgL.nil; exact leafLock_ok S hS d; exact Nat.le_of_ble_eq_true rfl; dsimp only [Nat.reduceAdd, Nat.reduceMul, Nat.reduceSub, List.nil_append, List.cons_append, nbk, List.map_cons, List.map_nil]
     apply Trc.stp rfl rfl rfl; apply s_lit; apply PA.cons; exact rfl; exact rfl; exact rfl; exact PA.nil; exact rfl; omega
     dsimp only [Nat.reduceAdd, Nat.reduceMul, Nat.reduceSub, List.nil_append, List.cons_append, nbk, List.map_cons, List.map_nil]; apply Trc.stp rfl rfl rfl; apply s_app; exact rfl; exact rfl; exact rfl; apply rd_sl rfl; rfl; simp only [byA_length, List.length_append, List.length_cons, List.length_nil, List.length_take, List.length_drop, List.length_replicate, List.length_map, Nat.mul_one, nameB_length, flat_length, List.length_set, inA_length, dsA_length, lsA_length, dA_length, lA_length] <;> omega
     exact rfl; exact rfl; rfl; omega; dsimp only [Nat.reduceAdd, Nat.reduceMul, Nat.reduceSub, List.nil_append, List.cons_append, nbk, List.map_cons, List.map_nil]
     apply Trc.stp rfl rfl rfl; apply s_assign; exact rfl; dsimp only [Nat.reduceAdd, Nat.reduceMul, List.nil_append]
     exact Trc.done _ _ _; exact rfl; refine inBlk_n ?_; refine thn_n ?_; apply Gol.region; apply Trc.stp rfl rfl rfl; apply s_addn; exact rfl; exact rfl; simp <;> omega; dsimp only [Nat.reduceAdd, Nat.reduceMul, List.nil_append]
     apply Trc.stp rfl rfl rfl; apply s_move; exact rfl; dsimp only [Nat.reduceAdd, Nat.reduceMul, List.nil_append]
     exact Trc.done _ _ _; exact rfl)
    refine rnd_n (j + 1) (by omega) (by omega) ?_
    rw [hN, List.length_append, List.length_singleton]
    (apply Le.mk3' [(199, 272)]; apply RnT3.c; exact rfl; apply Rn3.r; exact Rn.v rfl; apply RnT3.c; exact rfl; apply Rn3.r; exact Rn.v rfl; apply RnT3.c; exact rfl
     apply Rn3.r; exact Rn.clo inferInstance rfl; apply RnT3.c; exact rfl; apply Rn3.r; exact Rn.sl rfl rfl; apply RnT3.c; exact rfl; apply Rn3.r; exact Rn.pt rfl rfl
     exact RnT3.n; apply RnH3.c; exact rfl; exact rfl; apply RnC.cl; exact grow_eq2; exact inferInstance; exact rfl; exact rfl; apply RnH3.c; exact rfl; exact rfl
     apply RnC.cl; rfl; exact inferInstance; exact rfl; exact rfl; exact RnH3.n; exact rfl)
  have hge3 : ¬ j < s.locks.length := of_decide_eq_false h
  obtain rfl : j = s.locks.length := by omega
  (refine Gol.exit ?_; refine thn_x ?_; refine rnd_x ?_; refine inBlk_hit ?_; refine thn_n ?_
   refine Gol.seq ?_; refine Gol.seq ?_; apply Gol.region; apply Trc.stp rfl rfl rfl; apply s_fieldAddr
   exact rfl; dsimp only [Nat.reduceAdd, Nat.reduceMul, List.nil_append]; apply Trc.stp rfl rfl rfl; apply s_load; exact rfl; exact rfl; exact rfl; dsimp only [Nat.reduceAdd, Nat.reduceMul, List.nil_append]
   apply Trc.stp rfl rfl rfl; apply s_len; exact rfl; exact ln_ex; dsimp only [Nat.reduceAdd, Nat.reduceMul, List.nil_append]
   apply Trc.stp rfl rfl rfl; apply s_move; exact rfl; dsimp only [Nat.reduceAdd, Nat.reduceMul, List.nil_append]
   exact Trc.done _ _ _; exact rfl; refine thn_n ?_; refine Gol.block ?_)
  refine Gol.loop (ι := Nat) (fun j => j ≤ s.applied.length) (fun j => s.applied.length - j) 200 (fun j => [(199, some ⟨byA (flat (lv4 S s j)), 30, 8⟩), (0, some ⟨[.ex s.cells.length false (dsA s.cells), .ex s.seqs.length false (inA s.seqs), .ex s.locks.length false (lsA s.locks), .ex s.applied.length false (byA (flat s.applied)), .v (.int .i64 s.guilty)], 28, 5⟩)]) (fun j => [(59, .v (.int .i64 (j : Int))), (58, .v (.int .i64 (s.applied.length : Int))), (57, .ex s.applied.length false (byA (flat s.applied))), (3, .sl 199 (lv4 S s j).length), (1, .pt 0 0)]) 0 (Nat.zero_le _) ?_ ?_
  · rw [show lv4 S s 0 = lv3 S s s.locks.length by simp [lv4]]
    (apply Le.mk3' []; apply RnT3.c; exact rfl; apply Rn3.r; exact Rn.v rfl; apply RnT3.c; exact rfl; apply Rn3.r; exact Rn.v rfl; apply RnT3.c; exact rfl
     apply Rn3.r; exact Rn.clo inferInstance rfl; apply RnT3.c; exact rfl; apply Rn3.r; exact Rn.sl rfl rfl; apply RnT3.c; exact rfl; apply Rn3.r; exact Rn.pt rfl rfl
     exact RnT3.n; apply RnH3.c; exact rfl; exact rfl; apply RnC.cl; rfl; exact inferInstance; exact rfl; exact rfl; apply RnH3.c; exact rfl; exact rfl; apply RnC.cl
     rfl; exact inferInstance; exact rfl; exact rfl; exact RnH3.n; exact rfl)
  intro j hj
  have hLj := lv4_len S s j
  (refine Gol.seq ?_; apply Gol.region; apply Trc.stp rfl rfl rfl; apply s_ltn; exact rfl
   exact rfl; dsimp only [Nat.reduceAdd, Nat.reduceMul, List.nil_append]; exact Trc.done _ _ _
   exact rfl; refine thn_n ?_; refine Gol.seq ?_)
  refine Gol.cond rfl (fun h => ?_) (fun h => ?_)
  · have hlt : j < s.applied.length := of_decide_eq_true h
    have hd : s.applied[j]? = some (s.applied.getD j 0) := by rw [List.getD_eq_getElem?_getD, List.getElem?_eq_getElem hlt]; rfl
    have hN := lv4_next S hd
    (refine Gol.skip ?_; refine thn_n ?_; refine Gol.seq ?_; refine Gol.block ?_; refine Gol.seq ?_
     apply Gol.region; apply Trc.stp rfl rfl rfl; apply s_ixe; exact rfl; exact rfl; omega; exact flat_ne (by omega)
     dsimp only [Nat.reduceAdd, Nat.reduceMul, List.nil_append]; apply Trc.stp rfl rfl rfl; apply s_loadEN; exact rfl; simp only [byA_length, List.length_append, List.length_cons, List.length_nil, List.length_take, List.length_drop, List.length_replicate, List.length_map, Nat.mul_one, nameB_length, flat_length, List.length_set, inA_length, dsA_length, lsA_length, dA_length, lA_length] <;> omega
     exact agu_nm (by omega); dsimp only [Nat.reduceAdd, Nat.reduceMul, List.nil_append]
     apply Trc.stp rfl rfl rfl; apply s_alloc; dsimp only [Nat.reduceAdd, Nat.reduceMul, Nat.reduceSub, List.nil_append, List.cons_append, nbk, List.map_cons, List.map_nil]
     apply Trc.stepN rfl rfl; exact wnt_n rfl; apply s_storeW; exact rfl; exact rfl; exact rfl; exact rfl; rfl; exact rfl; dsimp only [Nat.reduceAdd, Nat.reduceMul, Nat.reduceSub, List.nil_append, List.cons_append, nbk, List.map_cons, List.map_nil]
     exact Trc.done _ _ _; exact rfl; refine thn_n ?_; apply Gol.region; apply Trc.stp rfl rfl rfl; apply s_move
     exact rfl; dsimp only [Nat.reduceAdd, Nat.reduceMul, List.nil_append]; apply Trc.stp rfl rfl rfl; apply s_loadW; exact rfl; exact rfl; exact rfl; exact agu_cuv _; dsimp only [Nat.reduceAdd, Nat.reduceMul, List.nil_append]
     apply Trc.stp rfl rfl rfl; apply s_call (f := 43) rfl; apply evs.cons rfl; exact evs.nil; apply ArgL.cons
     exact arg_clo; exact ArgL.nil; exact leafApplied_ok S hS _; exact Nat.le_of_ble_eq_true rfl; dsimp only [Nat.reduceAdd, Nat.reduceMul, Nat.reduceSub, List.nil_append, List.cons_append, nbk, List.map_cons, List.map_nil]
     apply Trc.stp rfl rfl rfl; apply s_lit; apply PA.cons; exact rfl; exact rfl; exact rfl; exact PA.nil; exact rfl; omega
     dsimp only [Nat.reduceAdd, Nat.reduceMul, Nat.reduceSub, List.nil_append, List.cons_append, nbk, List.map_cons, List.map_nil]; apply Trc.stp rfl rfl rfl; apply s_app; exact rfl; exact rfl; exact rfl; apply rd_sl rfl; rfl; simp only [byA_length, List.length_append, List.length_cons, List.length_nil, List.length_take, List.length_drop, List.length_replicate, List.length_map, Nat.mul_one, nameB_length, flat_length, List.length_set, inA_length, dsA_length, lsA_length, dA_length, lA_length] <;> omega
     exact rfl; exact rfl; rfl; omega; dsimp only [Nat.reduceAdd, Nat.reduceMul, Nat.reduceSub, List.nil_append, List.cons_append, nbk, List.map_cons, List.map_nil]
     apply Trc.stp rfl rfl rfl; apply s_assign; exact rfl; dsimp only [Nat.reduceAdd, Nat.reduceMul, List.nil_append]
     exact Trc.done _ _ _; exact rfl; refine inBlk_n ?_; refine thn_n ?_; apply Gol.region; apply Trc.stp rfl rfl rfl; apply s_addn; exact rfl; exact rfl; simp <;> omega; dsimp only [Nat.reduceAdd, Nat.reduceMul, List.nil_append]
     apply Trc.stp rfl rfl rfl; apply s_move; exact rfl; dsimp only [Nat.reduceAdd, Nat.reduceMul, List.nil_append]
     exact Trc.done _ _ _; exact rfl)
    refine rnd_n (j + 1) (by omega) (by omega) ?_
    rw [hN, List.length_append, List.length_singleton]
    (apply Le.mk3' [(199, 272)]; apply RnT3.c; exact rfl; apply Rn3.r; exact Rn.v rfl; apply RnT3.c; exact rfl; apply Rn3.r; exact Rn.v rfl; apply RnT3.c; exact rfl
     apply Rn3.r; exact Rn.clo inferInstance rfl; apply RnT3.c; exact rfl; apply Rn3.r; exact Rn.sl rfl rfl; apply RnT3.c; exact rfl; apply Rn3.r; exact Rn.pt rfl rfl
     exact RnT3.n; apply RnH3.c; exact rfl; exact rfl; apply RnC.cl; exact grow_eq2; exact inferInstance; exact rfl; exact rfl; apply RnH3.c; exact rfl; exact rfl
     apply RnC.cl; rfl; exact inferInstance; exact rfl; exact rfl; exact RnH3.n; exact rfl)
  have hge4 : ¬ j < s.applied.length := of_decide_eq_false h
  obtain rfl : j = s.applied.length := by omega
  (refine Gol.exit ?_; refine thn_x ?_; refine rnd_x ?_; refine inBlk_hit ?_; refine thn_n ?_
   refine Gol.seq ?_; apply Gol.region; apply Trc.stp rfl rfl rfl; apply s_move; exact rfl
   dsimp only [Nat.reduceAdd, Nat.reduceMul, List.nil_append]; apply Trc.stp rfl rfl rfl; apply s_fieldAddr; exact rfl; dsimp only [Nat.reduceAdd, Nat.reduceMul, List.nil_append]
   apply Trc.stp rfl rfl rfl; apply s_load; exact rfl; exact rfl; exact rfl; dsimp only [Nat.reduceAdd, Nat.reduceMul, List.nil_append]
   apply Trc.stp rfl rfl rfl; apply s_cu64; exact rfl; dsimp only [Nat.reduceAdd, Nat.reduceMul, List.nil_append]
   apply Trc.stp rfl rfl rfl; apply s_call (f := 71) rfl; apply evs.cons rfl; apply evs.cons rfl; apply evs.cons rfl
   exact evs.nil; apply ArgL.cons; exact arg_clo; apply ArgL.cons; exact arg_clo; apply ArgL.cons; exact arg_clo; exact ArgL.nil; exact (appUint_n [] (toU64 s.guilty) 2 0 false (by decide) rfl (by decide)).sub sub_nil
   exact Nat.le_of_ble_eq_true rfl; dsimp only [Nat.reduceAdd, Nat.reduceMul, Nat.reduceSub, List.nil_append, List.cons_append, nbk, List.map_cons, List.map_nil]
   apply Trc.stp rfl rfl rfl; apply s_call (f := 69) rfl; apply evs.cons rfl; apply evs.cons rfl; exact evs.nil; apply ArgL.cons
   exact arg_clo; apply ArgL.cons; exact arg_sl rfl; exact ArgL.nil; exact hS.tagged 0x56 (beB (toU64 s.guilty) 2) 2 _ (beB_length _ _) (by decide); exact Nat.le_of_ble_eq_true rfl
   dsimp only [Nat.reduceAdd, Nat.reduceMul, Nat.reduceSub, List.nil_append, List.cons_append, nbk, List.map_cons, List.map_nil]; apply Trc.stp rfl rfl rfl; apply s_lit; apply PA.cons; exact rfl; exact rfl; exact rfl; exact PA.nil; exact rfl; omega; dsimp only [Nat.reduceAdd, Nat.reduceMul, Nat.reduceSub, List.nil_append, List.cons_append, nbk, List.map_cons, List.map_nil]
   apply Trc.stp rfl rfl rfl; apply s_app; exact rfl; exact rfl; exact rfl; apply rd_sl rfl; rfl; simp only [byA_length, List.length_append, List.length_cons, List.length_nil, List.length_take, List.length_drop, List.length_replicate, List.length_map, Nat.mul_one, nameB_length, flat_length, List.length_set, inA_length, dsA_length, lsA_length, dA_length, lA_length] <;> omega
   exact rfl; exact rfl; rfl; omega; dsimp only [Nat.reduceAdd, Nat.reduceMul, Nat.reduceSub, List.nil_append, List.cons_append, nbk, List.map_cons, List.map_nil]
   apply Trc.stp rfl rfl rfl; apply s_assign; exact rfl; dsimp only [Nat.reduceAdd, Nat.reduceMul, List.nil_append]
   exact Trc.done _ _ _; exact rfl; refine thn_n ?_; refine Gol.ret ?_)
  rw [grow_eq2, show (lv4 S s s.applied.length).length + 1 = (leavesN S s).length by simp [leavesN]]
  (apply RetQ.mk (by first | exact .inr rfl | exact .inl rfl); apply res_1 rfl; exact res_tmp rfl; exact out_sl rfl)
end
end Go.Proofs.YtkkeeokeihkagaaGreat


/-
  Layer 21: Root, proofs and their checks, of the program and of the reference. Conditions: lengths below 2^17.
-/
namespace Go.Proofs.YtkkeeokeihkagaaGreat
open Go.RowKit

theorem idxN_ok (l : List UInt64) (fl : Bool) (n : UInt64) (hl : l.length ≤ 100000000) : Fresh Tryz.prog 37 [.ex l.length fl (byA (flat l)), .v (.agg (nameC n))] (fun _ => .v (.int .i64 (fIx (fun x => n == x) l 0))) [] := by
  refine Fresh.of (fn := Tryz.f37) Tryz.func37 rfl (Nat.le_of_ble_eq_true rfl) fun w => ?_
  (refine Gol.seq ?_; apply Gol.region; apply Trc.stp rfl rfl rfl; apply s_box; exact rfl
   exact rfl; dsimp only [Nat.reduceAdd, Nat.reduceMul, Nat.reduceSub, List.nil_append, List.cons_append, nbk, List.map_cons, List.map_nil]; apply Trc.stp rfl rfl rfl; apply s_assign; exact rfl; dsimp only [Nat.reduceAdd, Nat.reduceMul, List.nil_append]
   exact Trc.done _ _ _; exact rfl; refine thn_n ?_; refine Gol.seq ?_; refine Gol.seq ?_; apply Gol.region
   apply Trc.stp rfl rfl rfl; apply s_move; exact rfl; dsimp only [Nat.reduceAdd, Nat.reduceMul, List.nil_append]
   apply Trc.stp rfl rfl rfl; apply s_len; exact rfl; exact ln_ex; dsimp only [Nat.reduceAdd, Nat.reduceMul, List.nil_append]
   apply Trc.stp rfl rfl rfl; apply s_move; exact rfl; dsimp only [Nat.reduceAdd, Nat.reduceMul, List.nil_append]
   exact Trc.done _ _ _; exact rfl; refine thn_n ?_; refine Gol.block ?_)
  refine Gol.loop (ι := Nat) (fun i => i ≤ l.length ∧ fIx (fun x => n == x) (l.drop i) i = fIx (fun x => n == x) l 0) (fun i => l.length - i) 40 (fun _ => [(0, some ⟨cu (.v (.agg (nameC n))), 30, 8⟩)]) (fun i => [(8, .v (.int .i64 (i : Int))), (7, .v (.int .i64 (l.length : Int))), (0, .ex l.length fl (byA (flat l))), (3, .pt 0 0)]) 0 ⟨Nat.zero_le _, rfl⟩ ?_ ?_
  · (apply Le.mk3' []; apply RnT3.c; exact rfl; apply Rn3.r; exact Rn.v rfl; apply RnT3.c; exact rfl; apply Rn3.r; exact Rn.v rfl; apply RnT3.c; exact rfl
     apply Rn3.r; exact Rn.clo inferInstance rfl; apply RnT3.c; exact rfl; apply Rn3.r; exact Rn.pt rfl rfl; exact RnT3.n; apply RnH3.c; exact rfl; exact rfl
     apply RnC.cl; rfl; exact inferInstance; exact rfl; exact rfl; exact RnH3.n; exact rfl)
  rintro i ⟨h1, h2⟩
  (refine Gol.seq ?_; apply Gol.region; apply Trc.stp rfl rfl rfl; apply s_ltn; exact rfl
   exact rfl; dsimp only [Nat.reduceAdd, Nat.reduceMul, List.nil_append]; exact Trc.done _ _ _
   exact rfl; refine thn_n ?_; refine Gol.seq ?_)
  refine Gol.cond rfl (fun h => ?_) (fun h => ?_)
  · have hlt : i < l.length := of_decide_eq_true h
    have hd : l[i]? = some (l.getD i 0) := by rw [List.getD_eq_getElem?_getD, List.getElem?_eq_getElem hlt]; rfl
    (refine Gol.skip ?_; refine thn_n ?_; refine Gol.seq ?_; refine Gol.block ?_; refine Gol.seq ?_
     apply Gol.region; apply Trc.stp rfl rfl rfl; apply s_move; exact rfl; dsimp only [Nat.reduceAdd, Nat.reduceMul, List.nil_append]
     apply Trc.stp rfl rfl rfl; apply s_assign; exact rfl; dsimp only [Nat.reduceAdd, Nat.reduceMul, List.nil_append]
     exact Trc.done _ _ _; exact rfl; refine thn_n ?_; refine Gol.seq ?_; apply Gol.any; kernel_rfl; apply Trc.stp rfl rfl rfl; apply s_loadW; exact rfl; exact rfl; exact rfl; exact agu_cuv _; dsimp only [Nat.reduceAdd, Nat.reduceMul, List.nil_append]
     apply Trc.stp rfl rfl rfl; apply s_move; exact rfl; dsimp only [Nat.reduceAdd, Nat.reduceMul, List.nil_append]
     apply Trc.stp rfl rfl rfl; apply s_move; exact rfl; dsimp only [Nat.reduceAdd, Nat.reduceMul, List.nil_append]
     apply Trc.stp rfl rfl rfl; apply s_ixe; exact rfl; exact rfl; omega; exact flat_ne (by omega); dsimp only [Nat.reduceAdd, Nat.reduceMul, List.nil_append]
     apply Trc.stp rfl rfl rfl; apply s_loadEN; exact rfl; simp only [byA_length, List.length_append, List.length_cons, List.length_nil, List.length_take, List.length_drop, List.length_replicate, List.length_map, Nat.mul_one, nameB_length, flat_length, List.length_set, inA_length, dsA_length, lsA_length, dA_length, lA_length] <;> omega
     exact agu_nm (by omega); dsimp only [Nat.reduceAdd, Nat.reduceMul, List.nil_append]
     apply Trc.stp rfl rfl rfl; apply s_eqN; exact rfl; exact rfl; dsimp only [Nat.reduceAdd, Nat.reduceMul, List.nil_append]
     exact Trc.done _ _ _; kernel_rfl; exact rfl; refine thn_n ?_)
    refine Gol.cond rfl (fun h => ?_) (fun h => ?_)
    · rw [← h2, fIx_hit hd h]
      (refine Gol.seq ?_; apply Gol.region; apply Trc.stp rfl rfl rfl; apply s_move; exact rfl
       dsimp only [Nat.reduceAdd, Nat.reduceMul, List.nil_append]; apply Trc.stp rfl rfl rfl; apply s_assign; exact rfl; dsimp only [Nat.reduceAdd, Nat.reduceMul, List.nil_append]
       exact Trc.done _ _ _; exact rfl; refine thn_n ?_; refine Gol.ret ?_; refine inBlk_r ?_; refine thn_r ?_
       refine rnd_r ?_; refine inBlk_r ?_; refine thn_r ?_)
      (apply RetQ.mk (by first | exact .inr rfl | exact .inl rfl); apply res_1 rfl; exact res_tmp rfl; exact out_val)
    · (refine Gol.skip ?_; refine inBlk_n ?_; refine thn_n ?_; apply Gol.region; apply Trc.stp rfl rfl rfl; apply s_addn; exact rfl; exact rfl; simp <;> omega; dsimp only [Nat.reduceAdd, Nat.reduceMul, List.nil_append]
       apply Trc.stp rfl rfl rfl; apply s_move; exact rfl; dsimp only [Nat.reduceAdd, Nat.reduceMul, List.nil_append]
       exact Trc.done _ _ _; exact rfl)
      refine rnd_n (i + 1) ⟨by omega, by rw [← h2, fIx_miss hd h]⟩ (by omega) ?_
      (apply Le.mk3' []; apply RnT3.c; exact rfl; apply Rn3.r; exact Rn.v rfl; apply RnT3.c; exact rfl; apply Rn3.r; exact Rn.v rfl; apply RnT3.c; exact rfl
       apply Rn3.r; exact Rn.clo inferInstance rfl; apply RnT3.c; exact rfl; apply Rn3.r; exact Rn.pt rfl rfl; exact RnT3.n; apply RnH3.c; exact rfl; exact rfl
       apply RnC.cl; rfl; exact inferInstance; exact rfl; exact rfl; exact RnH3.n; exact rfl)
  · have hge : ¬ i < l.length := of_decide_eq_false h
    rw [List.drop_of_length_le (by omega)] at h2
    rw [← h2]
    (refine Gol.exit ?_; refine thn_x ?_; refine rnd_x ?_; refine inBlk_hit ?_; refine thn_n ?_
     refine Gol.seq ?_; apply Gol.region; apply Trc.stp rfl rfl rfl; apply s_assign; exact rfl
     dsimp only [Nat.reduceAdd, Nat.reduceMul, List.nil_append]; exact Trc.done _ _ _; exact rfl
     refine thn_n ?_; refine Gol.ret ?_)
    (apply RetQ.mk (by first | exact .inr rfl | exact .inl rfl); apply res_1 rfl; exact res_tmp rfl; exact out_val)
section
variable (S : List UInt8 → UInt64)
theorem leavesN_len (s : Stt) : (leavesN S s).length = s.cells.length + s.seqs.length + s.locks.length + s.applied.length + 1 := by
  simp [leavesN, lv4, lv3, lv2, lv1]; omega
variable (hS : HashF S)
include hS
theorem rootS_ok (s : Stt) (hs : Sm s) : Fresh Tryz.prog 30 [stA s] (fun _ => .v (.agg (nameC (rootN S (leavesN S s))))) [] := by
  have hl := leaves_ok S hS s hs
  have hn := leavesN_len S s
  obtain ⟨h1, h2, h3, h4⟩ := hs
  unfold stA at hl ⊢
  refine Fresh.of (fn := Tryz.f30) Tryz.func30 rfl (Nat.le_of_ble_eq_true rfl) fun w => ?_
  (refine Gol.seq ?_; apply Gol.region; apply Trc.stp rfl rfl rfl; apply s_box; exact rfl
   exact rfl; dsimp only [Nat.reduceAdd, Nat.reduceMul, Nat.reduceSub, List.nil_append, List.cons_append, nbk, List.map_cons, List.map_nil]; apply Trc.stp rfl rfl rfl; apply s_alloc; dsimp only [Nat.reduceAdd, Nat.reduceMul, Nat.reduceSub, List.nil_append, List.cons_append, nbk, List.map_cons, List.map_nil]
   exact Trc.done _ _ _; exact rfl; refine thn_n ?_; refine Gol.seq ?_; apply Gol.region; apply Trc.stp rfl rfl rfl; apply s_loadW; exact rfl; exact rfl; exact rfl; exact agu_cua _; dsimp only [Nat.reduceAdd, Nat.reduceMul, List.nil_append]
   apply Trc.stp rfl rfl rfl; apply s_call (f := 31) rfl; apply evs.cons rfl; exact evs.nil; apply ArgL.cons; exact arg_clo
   exact ArgL.nil; exact hl; exact Nat.le_of_ble_eq_true rfl; dsimp only [Nat.reduceAdd, Nat.reduceMul, Nat.reduceSub, List.nil_append, List.cons_append, nbk, List.map_cons, List.map_nil]
   apply Trc.stp rfl rfl rfl; apply s_call (f := 68) rfl; apply evs.cons rfl; exact evs.nil; apply ArgL.cons; exact arg_sl rfl
   exact ArgL.nil; exact root_ok S hS _ _ _ rfl (by omega); exact Nat.le_of_ble_eq_true rfl; dsimp only [Nat.reduceAdd, Nat.reduceMul, Nat.reduceSub, List.nil_append, List.cons_append, nbk, List.map_cons, List.map_nil]
   apply Trc.stepN rfl rfl; exact wnt_n rfl; apply s_storeW; exact rfl; exact rfl; exact rfl; exact rfl; rfl; exact rfl; dsimp only [Nat.reduceAdd, Nat.reduceMul, Nat.reduceSub, List.nil_append, List.cons_append, nbk, List.map_cons, List.map_nil]
   exact Trc.done _ _ _; exact rfl; refine thn_n ?_; refine Gol.ret ?_)
  (apply RetQ.mk (by first | exact .inr rfl | exact .inl rfl); apply res_1 rfl; exact res_cell rfl rfl rfl (agu_cuv _); exact out_val)
theorem prove_ok (s : Stt) (hs : Sm s) (a : Nat) (ha : a < (leavesN S s).length) : Fresh Tryz.prog 34 [stA s, .v (.int .i64 (a : Int))] (fun k => .tp [.ag [.v (.int .i64 (a : Int)), .v (.int .i64 ((leavesN S s).length : Int)), .sl k (depN a (leavesN S s).length)], .v (.int .i64 0)]) [⟨byA (flat (pathN S (leavesN S s) a)), 30, 8⟩] := by
  have hl := leaves_ok S hS s hs
  have hn := leavesN_len S s
  obtain ⟨h1, h2, h3, h4⟩ := hs
  unfold stA at hl ⊢
  generalize leavesN S s = L at hl hn ha
  refine Fresh.of (fn := Tryz.f34) Tryz.func34 rfl (Nat.le_of_ble_eq_true rfl) fun w => ?_
  (refine Gol.seq ?_; apply Gol.region; apply Trc.stp rfl rfl rfl; apply s_box; exact rfl
   exact rfl; dsimp only [Nat.reduceAdd, Nat.reduceMul, Nat.reduceSub, List.nil_append, List.cons_append, nbk, List.map_cons, List.map_nil]; apply Trc.stp rfl rfl rfl; apply s_alloc; dsimp only [Nat.reduceAdd, Nat.reduceMul, Nat.reduceSub, List.nil_append, List.cons_append, nbk, List.map_cons, List.map_nil]
   apply Trc.stp rfl rfl rfl; apply s_assign; exact rfl; dsimp only [Nat.reduceAdd, Nat.reduceMul, List.nil_append]
   exact Trc.done _ _ _; exact rfl; refine thn_n ?_; refine Gol.seq ?_; apply Gol.region; apply Trc.stp rfl rfl rfl; apply s_loadW; exact rfl; exact rfl; exact rfl; exact agu_cua _; dsimp only [Nat.reduceAdd, Nat.reduceMul, List.nil_append]
   apply Trc.stp rfl rfl rfl; apply s_call (f := 31) rfl; apply evs.cons rfl; exact evs.nil; apply ArgL.cons; exact arg_clo
   exact ArgL.nil; exact hl; exact Nat.le_of_ble_eq_true rfl; dsimp only [Nat.reduceAdd, Nat.reduceMul, Nat.reduceSub, List.nil_append, List.cons_append, nbk, List.map_cons, List.map_nil]
   apply Trc.stp rfl rfl rfl; apply s_assign; exact rfl; dsimp only [Nat.reduceAdd, Nat.reduceMul, List.nil_append]
   exact Trc.done _ _ _; exact rfl; refine thn_n ?_; refine Gol.seq ?_; apply Gol.region; apply Trc.stp rfl rfl rfl; apply s_move; exact rfl; dsimp only [Nat.reduceAdd, Nat.reduceMul, List.nil_append]
   apply Trc.stp rfl rfl rfl; apply s_move; exact rfl; dsimp only [Nat.reduceAdd, Nat.reduceMul, List.nil_append]
   apply Trc.stp rfl rfl rfl; apply s_call (f := 76) rfl; apply evs.cons rfl; apply evs.cons rfl; exact evs.nil; apply ArgL.cons
   exact arg_sl rfl; apply ArgL.cons; exact arg_clo; exact ArgL.nil; exact path_yes S hS _ L a _ rfl ha (by omega); exact Nat.le_of_ble_eq_true rfl; dsimp only [Nat.reduceAdd, Nat.reduceMul, Nat.reduceSub, List.nil_append, List.cons_append, nbk, List.map_cons, List.map_nil]
   apply Trc.stp rfl rfl rfl; apply s_move; exact rfl; dsimp only [Nat.reduceAdd, Nat.reduceMul, List.nil_append]
   apply Trc.stp rfl rfl rfl; apply s_extract; exact rfl; exact rfl; dsimp only [Nat.reduceAdd, Nat.reduceMul, List.nil_append]
   apply Trc.stp rfl rfl rfl; apply s_extract; exact rfl; exact rfl; dsimp only [Nat.reduceAdd, Nat.reduceMul, List.nil_append]
   apply Trc.stp rfl rfl rfl; apply s_assign; exact rfl; dsimp only [Nat.reduceAdd, Nat.reduceMul, List.nil_append]
   apply Trc.stp rfl rfl rfl; apply s_assign; exact rfl; dsimp only [Nat.reduceAdd, Nat.reduceMul, List.nil_append]
   exact Trc.done _ _ _; exact rfl; refine thn_n ?_; refine Gol.seq ?_; refine Gol.seq ?_; apply Gol.region
   apply Trc.stp rfl rfl rfl; apply s_move; exact rfl; dsimp only [Nat.reduceAdd, Nat.reduceMul, List.nil_append]
   apply Trc.stp rfl rfl rfl; apply s_not; exact rfl; dsimp only [Nat.reduceAdd, Nat.reduceMul, List.nil_append]
   exact Trc.done _ _ _; exact rfl; refine thn_n ?_)
  refine Gol.cond_f rfl rfl ?_
  (refine Gol.skip ?_; refine thn_n ?_; refine Gol.seq ?_; apply Gol.region; apply Trc.stp rfl rfl rfl; apply s_move; exact rfl; dsimp only [Nat.reduceAdd, Nat.reduceMul, List.nil_append]
   apply Trc.stp rfl rfl rfl; apply s_move; exact rfl; dsimp only [Nat.reduceAdd, Nat.reduceMul, List.nil_append]
   apply Trc.stp rfl rfl rfl; apply s_len; exact rfl; exact ln_sl; dsimp only [Nat.reduceAdd, Nat.reduceMul, List.nil_append]
   apply Trc.stp rfl rfl rfl; apply s_move; exact rfl; dsimp only [Nat.reduceAdd, Nat.reduceMul, List.nil_append]
   apply Trc.stp rfl rfl rfl; apply s_bld; exact rfl; (focus (dsimp only [splB, cuB, spl, cu, Value.cells, nameC, List.map, List.take, List.drop, List.append, List.length, List.cons_append, List.nil_append, Nat.reduceAdd, List.take_succ_cons, List.take_zero, List.drop_succ_cons, List.drop_zero, List.take_nil, List.drop_nil, List.append_nil, List.length_cons, List.length_nil]; done))
   dsimp only [Nat.reduceAdd, Nat.reduceMul, Nat.reduceSub, List.nil_append, List.cons_append, nbk, List.map_cons, List.map_nil]; apply Trc.stepN rfl rfl
   exact wnt_n rfl; apply s_storeW; exact rfl; exact rfl; exact rfl; exact rfl; rfl; exact rfl; dsimp only [Nat.reduceAdd, Nat.reduceMul, Nat.reduceSub, List.nil_append, List.cons_append, nbk, List.map_cons, List.map_nil]
   apply Trc.stp rfl rfl rfl; apply s_assign; exact rfl; dsimp only [Nat.reduceAdd, Nat.reduceMul, List.nil_append]
   exact Trc.done _ _ _; exact rfl; refine thn_n ?_; refine Gol.ret ?_)
  (apply RetQ.mkM (by first | exact .inr rfl | exact .inl rfl); apply res_2 rfl; exact res_cell rfl rfl rfl (agu_cua _); exact res_tmp rfl; apply out_ids [64] rfl
   apply OBs.cons; exact rfl; exact inferInstance; exact OBs.nil; intro k; apply Ot.tpL; apply OtL.cons; apply Ot.agL; apply OtL.cons; exact Ot.v inferInstance
   apply OtL.cons; exact Ot.v inferInstance; apply OtL.cons; exact Ot.sl (j := 0) rfl; exact OtL.nil; apply OtL.cons; exact Ot.v inferInstance; exact OtL.nil)
theorem proveCell_yes (s : Stt) (hs : Sm s) (k i : Int) (n : UInt64) (j : Nat) (hj : fIx (eqC k i n) s.cells 0 = (j : Int)) (hjl : j < s.cells.length) : Fresh Tryz.prog 7 [stA s, .v (.agg (cellC k i n))] (fun k => .tp [.ag [.v (.int .i64 (j : Int)), .v (.int .i64 ((leavesN S s).length : Int)), .sl k (depN j (leavesN S s).length)], .v (.int .i64 0)]) [⟨byA (flat (pathN S (leavesN S s) j)), 30, 8⟩] := by
  have hn := leavesN_len S s
  have hp := prove_ok S hS s hs j (by omega)
  have hf := find_ok s k i n (by have := hs.c; omega)
  rw [hj] at hf
  unfold stA at hp hf ⊢
  refine Fresh.of (fn := Tryz.f7) Tryz.func7 rfl (Nat.le_of_ble_eq_true rfl) fun w => ?_
  (refine Gol.seq ?_; apply Gol.region; apply Trc.stp rfl rfl rfl; apply s_box; exact rfl
   exact rfl; dsimp only [Nat.reduceAdd, Nat.reduceMul, Nat.reduceSub, List.nil_append, List.cons_append, nbk, List.map_cons, List.map_nil]; apply Trc.stp rfl rfl rfl; apply s_box; exact rfl; exact rfl; dsimp only [Nat.reduceAdd, Nat.reduceMul, Nat.reduceSub, List.nil_append, List.cons_append, nbk, List.map_cons, List.map_nil]
   apply Trc.stp rfl rfl rfl; apply s_alloc; dsimp only [Nat.reduceAdd, Nat.reduceMul, Nat.reduceSub, List.nil_append, List.cons_append, nbk, List.map_cons, List.map_nil]
   apply Trc.stp rfl rfl rfl; apply s_assign; exact rfl; dsimp only [Nat.reduceAdd, Nat.reduceMul, List.nil_append]
   exact Trc.done _ _ _; exact rfl; refine thn_n ?_; refine Gol.seq ?_; apply Gol.region; apply Trc.stp rfl rfl rfl; apply s_loadW; exact rfl; exact rfl; exact rfl; exact agu_cua _; dsimp only [Nat.reduceAdd, Nat.reduceMul, List.nil_append]
   apply Trc.stp rfl rfl rfl; apply s_loadW; exact rfl; exact rfl; exact rfl; exact agu_cuv _; dsimp only [Nat.reduceAdd, Nat.reduceMul, List.nil_append]
   apply Trc.stp rfl rfl rfl; apply s_call (f := 33) rfl; apply evs.cons rfl; apply evs.cons rfl; exact evs.nil; apply ArgL.cons
   exact arg_clo; apply ArgL.cons; exact arg_clo; exact ArgL.nil; exact hf; exact Nat.le_of_ble_eq_true rfl; dsimp only [Nat.reduceAdd, Nat.reduceMul, Nat.reduceSub, List.nil_append, List.cons_append, nbk, List.map_cons, List.map_nil]
   apply Trc.stp rfl rfl rfl; apply s_assign; exact rfl; dsimp only [Nat.reduceAdd, Nat.reduceMul, List.nil_append]
   exact Trc.done _ _ _; exact rfl; refine thn_n ?_; refine Gol.seq ?_; refine Gol.seq ?_; apply Gol.region
   apply Trc.stp rfl rfl rfl; apply s_move; exact rfl; dsimp only [Nat.reduceAdd, Nat.reduceMul, List.nil_append]
   apply Trc.stp rfl rfl rfl; apply s_ltn; exact rfl; exact rfl; dsimp only [Nat.reduceAdd, Nat.reduceMul, List.nil_append]
   exact Trc.done _ _ _; exact rfl; refine thn_n ?_)
  refine Gol.cond_f rfl (by simp) ?_
  (refine Gol.skip ?_; refine thn_n ?_; refine Gol.seq ?_; apply Gol.region; apply Trc.stp rfl rfl rfl; apply s_loadW; exact rfl; exact rfl; exact rfl; exact agu_cua _; dsimp only [Nat.reduceAdd, Nat.reduceMul, List.nil_append]
   apply Trc.stp rfl rfl rfl; apply s_move; exact rfl; dsimp only [Nat.reduceAdd, Nat.reduceMul, List.nil_append]
   apply Trc.stp rfl rfl rfl; apply s_call (f := 34) rfl; apply evs.cons rfl; apply evs.cons rfl; exact evs.nil; apply ArgL.cons
   exact arg_clo; apply ArgL.cons; exact arg_clo; exact ArgL.nil; exact hp; exact Nat.le_of_ble_eq_true rfl; dsimp only [Nat.reduceAdd, Nat.reduceMul, Nat.reduceSub, List.nil_append, List.cons_append, nbk, List.map_cons, List.map_nil]
   apply Trc.stp rfl rfl rfl; apply s_extract; exact rfl; exact rfl; dsimp only [Nat.reduceAdd, Nat.reduceMul, List.nil_append]
   apply Trc.stp rfl rfl rfl; apply s_extract; exact rfl; exact rfl; dsimp only [Nat.reduceAdd, Nat.reduceMul, List.nil_append]
   apply Trc.stepN rfl rfl; exact wnt_n rfl; apply s_storeW; exact rfl; exact rfl; exact rfl; exact rfl; rfl; exact rfl; dsimp only [Nat.reduceAdd, Nat.reduceMul, Nat.reduceSub, List.nil_append, List.cons_append, nbk, List.map_cons, List.map_nil]
   apply Trc.stp rfl rfl rfl; apply s_assign; exact rfl; dsimp only [Nat.reduceAdd, Nat.reduceMul, List.nil_append]
   exact Trc.done _ _ _; exact rfl; refine thn_n ?_; refine Gol.ret ?_)
  (apply RetQ.mkM (by first | exact .inr rfl | exact .inl rfl); apply res_2 rfl; exact res_cell rfl rfl rfl (agu_cua _); exact res_tmp rfl; apply out_ids [96] rfl
   apply OBs.cons; exact rfl; exact inferInstance; exact OBs.nil; intro k; apply Ot.tpL; apply OtL.cons; apply Ot.agL; apply OtL.cons; exact Ot.v inferInstance
   apply OtL.cons; exact Ot.v inferInstance; apply OtL.cons; exact Ot.sl (j := 0) rfl; exact OtL.nil; apply OtL.cons; exact Ot.v inferInstance; exact OtL.nil)
theorem proveApplied_no (s : Stt) (hs : Sm s) (n : UInt64) (hj : fIx (fun x => n == x) s.applied 0 = -1) : Fresh Tryz.prog 9 [stA s, .v (.agg (nameC n))] (fun _ => .tp [.v (.agg #[.int .i64 0, .int .i64 0, .slice none 0 0]), .v (.int .i64 6)]) [] := by
  have hf := fun fl => idxN_ok s.applied fl n (by have := hs.a; omega)
  rw [hj] at hf
  unfold stA
  refine Fresh.of (fn := Tryz.f9) Tryz.func9 rfl (Nat.le_of_ble_eq_true rfl) fun w => ?_
  (refine Gol.seq ?_; apply Gol.region; apply Trc.stp rfl rfl rfl; apply s_box; exact rfl
   exact rfl; dsimp only [Nat.reduceAdd, Nat.reduceMul, Nat.reduceSub, List.nil_append, List.cons_append, nbk, List.map_cons, List.map_nil]; apply Trc.stp rfl rfl rfl; apply s_box; exact rfl; exact rfl; dsimp only [Nat.reduceAdd, Nat.reduceMul, Nat.reduceSub, List.nil_append, List.cons_append, nbk, List.map_cons, List.map_nil]
   apply Trc.stp rfl rfl rfl; apply s_alloc; dsimp only [Nat.reduceAdd, Nat.reduceMul, Nat.reduceSub, List.nil_append, List.cons_append, nbk, List.map_cons, List.map_nil]
   apply Trc.stp rfl rfl rfl; apply s_assign; exact rfl; dsimp only [Nat.reduceAdd, Nat.reduceMul, List.nil_append]
   exact Trc.done _ _ _; exact rfl; refine thn_n ?_; refine Gol.seq ?_; apply Gol.region; apply Trc.stp rfl rfl rfl; apply s_fieldAddr; exact rfl; dsimp only [Nat.reduceAdd, Nat.reduceMul, List.nil_append]
   apply Trc.stp rfl rfl rfl; apply s_load; exact rfl; exact rfl; exact rfl; dsimp only [Nat.reduceAdd, Nat.reduceMul, List.nil_append]
   apply Trc.stp rfl rfl rfl; apply s_loadW; exact rfl; exact rfl; exact rfl; exact agu_cuv _; dsimp only [Nat.reduceAdd, Nat.reduceMul, List.nil_append]
   apply Trc.stp rfl rfl rfl; apply s_call (f := 37) rfl; apply evs.cons rfl; apply evs.cons rfl
   exact evs.nil; apply ArgL.cons; exact arg_clo; apply ArgL.cons; exact arg_clo; exact ArgL.nil; exact hf _; exact Nat.le_of_ble_eq_true rfl; dsimp only [Nat.reduceAdd, Nat.reduceMul, Nat.reduceSub, List.nil_append, List.cons_append, nbk, List.map_cons, List.map_nil]
   apply Trc.stp rfl rfl rfl; apply s_assign; exact rfl; dsimp only [Nat.reduceAdd, Nat.reduceMul, List.nil_append]
   exact Trc.done _ _ _; exact rfl; refine thn_n ?_; refine Gol.seq ?_; refine Gol.seq ?_; apply Gol.region
   apply Trc.stp rfl rfl rfl; apply s_move; exact rfl; dsimp only [Nat.reduceAdd, Nat.reduceMul, List.nil_append]
   apply Trc.stp rfl rfl rfl; apply s_lt; exact rfl; exact rfl; dsimp only [Nat.reduceAdd, Nat.reduceMul, List.nil_append]
   exact Trc.done _ _ _; exact rfl; refine thn_n ?_)
  refine Gol.cond_t rfl (by decide) ?_
  (refine Gol.seq ?_; apply Gol.region; apply Trc.stp rfl rfl rfl; apply s_zero; dsimp only [Nat.reduceAdd, Nat.reduceMul, Nat.reduceSub, List.nil_append, List.cons_append, nbk, List.map_cons, List.map_nil]
   apply Trc.stepN rfl rfl; exact wnt_n rfl; apply s_storeW; exact rfl; exact rfl; exact rfl; exact rfl; rfl; exact rfl; dsimp only [Nat.reduceAdd, Nat.reduceMul, Nat.reduceSub, List.nil_append, List.cons_append, nbk, List.map_cons, List.map_nil]
   apply Trc.stp rfl rfl rfl; apply s_assign; exact rfl; dsimp only [Nat.reduceAdd, Nat.reduceMul, List.nil_append]
   exact Trc.done _ _ _; exact rfl; refine thn_n ?_; refine Gol.ret ?_; refine thn_r ?_)
  (apply RetQ.mk (by first | exact .inr rfl | exact .inl rfl); apply res_2 rfl; exact res_cell rfl rfl rfl (agu_cuv _); exact res_tmp rfl; exact out_val)
theorem checkCell_ok (root : UInt64) (d : Dl) (i n : Int) (p : List UInt64) (f : Bool) (hn : n ≤ 9223372036854775807) (hd : p.length ≤ 140737488355000) : Fresh Tryz.prog 13 [.v (.agg (nameC root)), .v (.agg (deltaC d.k d.i d.n d.a)), .ag [.v (.int .i64 i), .v (.int .i64 n), .ex p.length f (byA (flat p))]] (fun _ => .v (.bool (folO i n p.length && folR S (leafD S d) i n p == root))) [] := by
  refine Fresh.of (fn := Tryz.f13) Tryz.func13 rfl (Nat.le_of_ble_eq_true rfl) fun w => ?_
  (refine Gol.seq ?_; apply Gol.region; apply Trc.stp rfl rfl rfl; apply s_box; exact rfl
   exact rfl; dsimp only [Nat.reduceAdd, Nat.reduceMul, Nat.reduceSub, List.nil_append, List.cons_append, nbk, List.map_cons, List.map_nil]; apply Trc.stp rfl rfl rfl; apply s_box; exact rfl; exact rfl; dsimp only [Nat.reduceAdd, Nat.reduceMul, Nat.reduceSub, List.nil_append, List.cons_append, nbk, List.map_cons, List.map_nil]
   apply Trc.stp rfl rfl rfl; apply s_box; exact rfl; exact rfl; dsimp only [Nat.reduceAdd, Nat.reduceMul, Nat.reduceSub, List.nil_append, List.cons_append, nbk, List.map_cons, List.map_nil]
   apply Trc.stp rfl rfl rfl; apply s_assign; exact rfl; dsimp only [Nat.reduceAdd, Nat.reduceMul, List.nil_append]
   exact Trc.done _ _ _; exact rfl; refine thn_n ?_; refine Gol.seq ?_; apply Gol.any; kernel_rfl; apply Trc.stp rfl rfl rfl; apply s_loadW; exact rfl; exact rfl; exact rfl; exact agu_cuv _; dsimp only [Nat.reduceAdd, Nat.reduceMul, List.nil_append]
   apply Trc.stp rfl rfl rfl; apply s_loadW; exact rfl; exact rfl; exact rfl; exact agu_cuv _; dsimp only [Nat.reduceAdd, Nat.reduceMul, List.nil_append]
   apply Trc.stp rfl rfl rfl; apply s_call (f := 42) rfl; apply evs.cons rfl; exact evs.nil; apply ArgL.cons; exact arg_clo
   exact ArgL.nil; exact leafCell_ok S hS d; exact Nat.le_of_ble_eq_true rfl; dsimp only [Nat.reduceAdd, Nat.reduceMul, Nat.reduceSub, List.nil_append, List.cons_append, nbk, List.map_cons, List.map_nil]
   apply Trc.stp rfl rfl rfl; apply s_fieldAddr; exact rfl; dsimp only [Nat.reduceAdd, Nat.reduceMul, List.nil_append]
   apply Trc.stp rfl rfl rfl; apply s_load; exact rfl; exact rfl; exact rfl; dsimp only [Nat.reduceAdd, Nat.reduceMul, List.nil_append]
   apply Trc.stp rfl rfl rfl; apply s_fieldAddr; exact rfl; dsimp only [Nat.reduceAdd, Nat.reduceMul, List.nil_append]
   apply Trc.stp rfl rfl rfl; apply s_load; exact rfl; exact rfl; exact rfl; dsimp only [Nat.reduceAdd, Nat.reduceMul, List.nil_append]
   apply Trc.stp rfl rfl rfl; apply s_fieldAddr; exact rfl; dsimp only [Nat.reduceAdd, Nat.reduceMul, List.nil_append]
   apply Trc.stp rfl rfl rfl; apply s_load; exact rfl; exact rfl; exact rfl; dsimp only [Nat.reduceAdd, Nat.reduceMul, List.nil_append]
   apply Trc.stp rfl rfl rfl; apply s_call (f := 41) rfl; apply evs.cons rfl; apply evs.cons rfl; apply evs.cons rfl
   apply evs.cons rfl; apply evs.cons rfl; exact evs.nil; apply ArgL.cons; exact arg_clo; apply ArgL.cons; exact arg_clo; apply ArgL.cons; exact arg_clo
   apply ArgL.cons; exact arg_clo; apply ArgL.cons; exact arg_clo; exact ArgL.nil; exact verify_ok S hS root (leafD S d) i n p _ _ hn rfl hd; exact Nat.le_of_ble_eq_true rfl
   dsimp only [Nat.reduceAdd, Nat.reduceMul, Nat.reduceSub, List.nil_append, List.cons_append, nbk, List.map_cons, List.map_nil]; apply Trc.stp rfl rfl rfl; apply s_assign; exact rfl; dsimp only [Nat.reduceAdd, Nat.reduceMul, List.nil_append]
   exact Trc.done _ _ _; kernel_rfl; exact rfl; refine thn_n ?_; refine Gol.ret ?_)
  (apply RetQ.mk (by first | exact .inr rfl | exact .inl rfl); apply res_1 rfl; exact res_tmp rfl; exact out_val)
omit hS
include hS
end
end Go.Proofs.YtkkeeokeihkagaaGreat

