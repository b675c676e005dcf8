/-
  Layer 4: the law OnetimeChains returns true. Conditions: none.
-/
import Derived.Test.YtihgmdicglnndaaOne4
import Derived.Test.YtihgmdicglnndaaJn
set_option linter.unusedSimpArgs false
set_option linter.unusedVariables false
namespace Go.Proofs.Ytihgmdicglnndaa
open Go.RowKit
section
variable (S : List UInt8 → UInt64) (hS : HashF S)
theorem listF_getD (f : Nat → UInt64) (n c : Nat) (h : c < n) : (listF f n).getD c 0 = f c := by simp [listF, List.getD_eq_getElem?_getD, h]
include hS
theorem chains_ok (seed a b : UInt64) : Fresh Try.prog 11 [.v (.agg (nameC seed)), .v (.agg (nameC a)), .v (.agg (nameC b))] (fun _ => .v (.bool true)) [] := by
  have hd := digits_length a
  have he := digits_length b
  have hlx := listF_length (sigN S seed a) 18
  have hly := listF_length (sigN S seed b) 18
  refine Fresh.of (fn := Try.f11) Try.func11 rfl (Nat.le_of_ble_eq_true rfl) fun w => ?_
  ((with_reducible refine Gol.seq ?_); (with_reducible apply Gol.region); apply Trc.step rfl rfl; exact wnt_n rfl; (with_reducible apply s_box); exact rfl
   exact rfl; dsimp only [Nat.reduceAdd, Nat.reduceMul, Nat.reduceSub, List.nil_append, List.cons_append, nbk, List.map_cons, List.map_nil]; apply Trc.step rfl rfl
   exact wnt_n rfl; (with_reducible apply s_box); exact rfl; exact rfl; dsimp only [Nat.reduceAdd, Nat.reduceMul, Nat.reduceSub, List.nil_append, List.cons_append, nbk, List.map_cons, List.map_nil]
   apply Trc.step rfl rfl; exact wnt_n rfl; (with_reducible apply s_box); exact rfl; exact rfl; dsimp only [Nat.reduceAdd, Nat.reduceMul, Nat.reduceSub, List.nil_append, List.cons_append, nbk, List.map_cons, List.map_nil]
   apply Trc.step rfl rfl; exact wnt_n rfl; (with_reducible apply s_assign); exact rfl; dsimp only [Nat.reduceAdd, Nat.reduceMul, Nat.reduceSub, List.nil_append, List.cons_append, nbk, List.map_cons, List.map_nil]
   exact Trc.done _ _ _; exact rfl; (with_reducible refine thn_n ?_); (with_reducible refine Gol.seq ?_); (with_reducible apply Gol.any); kernel_rfl; apply Trc.step rfl rfl
   exact wnt_n rfl; (with_reducible apply s_loadW); exact rfl; exact rfl; exact rfl; exact agu_cuv _; dsimp only [Nat.reduceAdd, Nat.reduceMul, Nat.reduceSub, List.nil_append, List.cons_append, nbk, List.map_cons, List.map_nil]
   apply Trc.step rfl rfl; exact wnt_n rfl; (with_reducible apply s_loadW); exact rfl; exact rfl; exact rfl; exact agu_cuv _; dsimp only [Nat.reduceAdd, Nat.reduceMul, Nat.reduceSub, List.nil_append, List.cons_append, nbk, List.map_cons, List.map_nil]
   apply Trc.step rfl rfl; exact wnt_n rfl; apply s_call (f := 30) rfl; apply evs.cons rfl; apply evs.cons rfl; exact evs.nil; apply ArgL.cons
   exact arg_clo; apply ArgL.cons; exact arg_clo; exact ArgL.nil; exact Sign_ok S hS seed a; exact Nat.le_of_ble_eq_true rfl; dsimp only [Nat.reduceAdd, Nat.reduceMul, Nat.reduceSub, List.nil_append, List.cons_append, nbk, List.map_cons, List.map_nil]
   apply Trc.step rfl rfl; exact wnt_n rfl; (with_reducible apply s_loadW); exact rfl; exact rfl; exact rfl; exact agu_cuv _; dsimp only [Nat.reduceAdd, Nat.reduceMul, Nat.reduceSub, List.nil_append, List.cons_append, nbk, List.map_cons, List.map_nil]
   apply Trc.step rfl rfl; exact wnt_n rfl; (with_reducible apply s_loadW); exact rfl; exact rfl; exact rfl; exact agu_cuv _; dsimp only [Nat.reduceAdd, Nat.reduceMul, Nat.reduceSub, List.nil_append, List.cons_append, nbk, List.map_cons, List.map_nil]
   apply Trc.step rfl rfl; exact wnt_n rfl; apply s_call (f := 30) rfl; apply evs.cons rfl; apply evs.cons rfl; exact evs.nil; apply ArgL.cons
   exact arg_clo; apply ArgL.cons; exact arg_clo; exact ArgL.nil; exact Sign_ok S hS seed b; exact Nat.le_of_ble_eq_true rfl; dsimp only [Nat.reduceAdd, Nat.reduceMul, Nat.reduceSub, List.nil_append, List.cons_append, nbk, List.map_cons, List.map_nil]
   apply Trc.step rfl rfl; exact wnt_n rfl; (with_reducible apply s_assign); exact rfl; dsimp only [Nat.reduceAdd, Nat.reduceMul, Nat.reduceSub, List.nil_append, List.cons_append, nbk, List.map_cons, List.map_nil]
   apply Trc.step rfl rfl; exact wnt_n rfl; (with_reducible apply s_assign); exact rfl; dsimp only [Nat.reduceAdd, Nat.reduceMul, Nat.reduceSub, List.nil_append, List.cons_append, nbk, List.map_cons, List.map_nil]
   exact Trc.done _ _ _; kernel_rfl; exact rfl; (with_reducible refine thn_n ?_); (with_reducible refine Gol.seq ?_); (with_reducible apply Gol.any); kernel_rfl
   apply Trc.step rfl rfl; exact wnt_n rfl; (with_reducible apply s_loadW); exact rfl; exact rfl; exact rfl; exact agu_cuv _; dsimp only [Nat.reduceAdd, Nat.reduceMul, Nat.reduceSub, List.nil_append, List.cons_append, nbk, List.map_cons, List.map_nil]
   apply Trc.step rfl rfl; exact wnt_n rfl; apply s_call (f := 15) rfl; apply evs.cons rfl; exact evs.nil; apply ArgL.cons; exact arg_clo
   exact ArgL.nil; exact digits_f a; exact Nat.le_of_ble_eq_true rfl; dsimp only [Nat.reduceAdd, Nat.reduceMul, Nat.reduceSub, List.nil_append, List.cons_append, nbk, List.map_cons, List.map_nil]
   apply Trc.step rfl rfl; exact wnt_n rfl; (with_reducible apply s_loadW); exact rfl; exact rfl; exact rfl; exact agu_cuv _; dsimp only [Nat.reduceAdd, Nat.reduceMul, Nat.reduceSub, List.nil_append, List.cons_append, nbk, List.map_cons, List.map_nil]
   apply Trc.step rfl rfl; exact wnt_n rfl; apply s_call (f := 15) rfl; apply evs.cons rfl; exact evs.nil; apply ArgL.cons; exact arg_clo
   exact ArgL.nil; exact digits_f b; exact Nat.le_of_ble_eq_true rfl; dsimp only [Nat.reduceAdd, Nat.reduceMul, Nat.reduceSub, List.nil_append, List.cons_append, nbk, List.map_cons, List.map_nil]
   apply Trc.step rfl rfl; exact wnt_n rfl; (with_reducible apply s_assign); exact rfl; dsimp only [Nat.reduceAdd, Nat.reduceMul, Nat.reduceSub, List.nil_append, List.cons_append, nbk, List.map_cons, List.map_nil]
   apply Trc.step rfl rfl; exact wnt_n rfl; (with_reducible apply s_assign); exact rfl; dsimp only [Nat.reduceAdd, Nat.reduceMul, Nat.reduceSub, List.nil_append, List.cons_append, nbk, List.map_cons, List.map_nil]
   exact Trc.done _ _ _; kernel_rfl; exact rfl; (with_reducible refine thn_n ?_); (with_reducible refine Gol.seq ?_); (with_reducible refine Gol.seq ?_)
   (with_reducible apply Gol.region); apply Trc.step rfl rfl; exact wnt_n rfl; (with_reducible apply s_move); exact rfl; dsimp only [Nat.reduceAdd, Nat.reduceMul, Nat.reduceSub, List.nil_append, List.cons_append, nbk, List.map_cons, List.map_nil]
   apply Trc.step rfl rfl; exact wnt_n rfl; (with_reducible apply s_len); exact rfl; exact ln_sl; dsimp only [Nat.reduceAdd, Nat.reduceMul, Nat.reduceSub, List.nil_append, List.cons_append, nbk, List.map_cons, List.map_nil]
   apply Trc.step rfl rfl; exact wnt_n rfl; (with_reducible apply s_nen); exact rfl; exact rfl; dsimp only [Nat.reduceAdd, Nat.reduceMul, Nat.reduceSub, List.nil_append, List.cons_append, nbk, List.map_cons, List.map_nil]
   apply Trc.step rfl rfl; exact wnt_n rfl; (with_reducible apply s_move); exact rfl; dsimp only [Nat.reduceAdd, Nat.reduceMul, Nat.reduceSub, List.nil_append, List.cons_append, nbk, List.map_cons, List.map_nil]
   apply Trc.step rfl rfl; apply wnt_g; exact rfl; exact rfl; exact rfl; rfl; (with_reducible apply s_move); exact rfl; dsimp only [Nat.reduceAdd, Nat.reduceMul, Nat.reduceSub, List.nil_append, List.cons_append, nbk, List.map_cons, List.map_nil]
   apply Trc.step rfl rfl; apply wnt_g; exact rfl; exact rfl; exact rfl; rfl; (with_reducible apply s_len); exact rfl; exact ln_sl; dsimp only [Nat.reduceAdd, Nat.reduceMul, Nat.reduceSub, List.nil_append, List.cons_append, nbk, List.map_cons, List.map_nil]
   apply Trc.step rfl rfl; apply wnt_g; exact rfl; exact rfl; exact rfl; rfl; (with_reducible apply s_nen); exact rfl; exact rfl; dsimp only [Nat.reduceAdd, Nat.reduceMul, Nat.reduceSub, List.nil_append, List.cons_append, nbk, List.map_cons, List.map_nil]
   apply Trc.step rfl rfl; exact wnt_n rfl; (with_reducible apply s_pick_f); exact rfl; rfl; exact rfl; dsimp only [Nat.reduceAdd, Nat.reduceMul, Nat.reduceSub, List.nil_append, List.cons_append, nbk, List.map_cons, List.map_nil]
   apply Trc.step rfl rfl; exact wnt_n rfl; (with_reducible apply s_move); exact rfl; dsimp only [Nat.reduceAdd, Nat.reduceMul, Nat.reduceSub, List.nil_append, List.cons_append, nbk, List.map_cons, List.map_nil]
   apply Trc.step rfl rfl; apply wnt_g; exact rfl; exact rfl; exact rfl; rfl; (with_reducible apply s_move); exact rfl; dsimp only [Nat.reduceAdd, Nat.reduceMul, Nat.reduceSub, List.nil_append, List.cons_append, nbk, List.map_cons, List.map_nil]
   apply Trc.step rfl rfl; apply wnt_g; exact rfl; exact rfl; exact rfl; rfl; (with_reducible apply s_len); exact rfl; exact ln_sl; dsimp only [Nat.reduceAdd, Nat.reduceMul, Nat.reduceSub, List.nil_append, List.cons_append, nbk, List.map_cons, List.map_nil]
   apply Trc.step rfl rfl; apply wnt_g; exact rfl; exact rfl; exact rfl; rfl; (with_reducible apply s_nen); exact rfl; exact rfl; dsimp only [Nat.reduceAdd, Nat.reduceMul, Nat.reduceSub, List.nil_append, List.cons_append, nbk, List.map_cons, List.map_nil]
   apply Trc.step rfl rfl; exact wnt_n rfl; (with_reducible apply s_pick_f); exact rfl; rfl; exact rfl; dsimp only [Nat.reduceAdd, Nat.reduceMul, Nat.reduceSub, List.nil_append, List.cons_append, nbk, List.map_cons, List.map_nil]
   apply Trc.step rfl rfl; exact wnt_n rfl; (with_reducible apply s_move); exact rfl; dsimp only [Nat.reduceAdd, Nat.reduceMul, Nat.reduceSub, List.nil_append, List.cons_append, nbk, List.map_cons, List.map_nil]
   apply Trc.step rfl rfl; apply wnt_g; exact rfl; exact rfl; exact rfl; rfl; (with_reducible apply s_move); exact rfl; dsimp only [Nat.reduceAdd, Nat.reduceMul, Nat.reduceSub, List.nil_append, List.cons_append, nbk, List.map_cons, List.map_nil]
   apply Trc.step rfl rfl; apply wnt_g; exact rfl; exact rfl; exact rfl; rfl; (with_reducible apply s_len); exact rfl; exact ln_sl; dsimp only [Nat.reduceAdd, Nat.reduceMul, Nat.reduceSub, List.nil_append, List.cons_append, nbk, List.map_cons, List.map_nil]
   apply Trc.step rfl rfl; apply wnt_g; exact rfl; exact rfl; exact rfl; rfl; (with_reducible apply s_nen); exact rfl; exact rfl; dsimp only [Nat.reduceAdd, Nat.reduceMul, Nat.reduceSub, List.nil_append, List.cons_append, nbk, List.map_cons, List.map_nil]
   apply Trc.step rfl rfl; exact wnt_n rfl; (with_reducible apply s_pick_f); exact rfl; rfl; exact rfl; dsimp only [Nat.reduceAdd, Nat.reduceMul, Nat.reduceSub, List.nil_append, List.cons_append, nbk, List.map_cons, List.map_nil]
   exact Trc.done _ _ _; exact rfl; (with_reducible refine thn_n ?_))
  refine Gol.cond_f rfl (by simp) ?_
  ((with_reducible refine Gol.skip ?_); (with_reducible refine thn_n ?_); (with_reducible refine Gol.seq ?_); (with_reducible refine Gol.seq ?_); (with_reducible apply Gol.region)
   apply Trc.step rfl rfl; exact wnt_n rfl; (with_reducible apply s_assign); exact rfl; dsimp only [Nat.reduceAdd, Nat.reduceMul, Nat.reduceSub, List.nil_append, List.cons_append, nbk, List.map_cons, List.map_nil]
   exact Trc.done _ _ _; exact rfl; (with_reducible refine thn_n ?_); (with_reducible refine Gol.block ?_))
  refine Gol.loop (ι := Nat) (fun c => c ≤ 18) (fun c => 18 - c) 296 (fun c => [(48, some ⟨byA (flat (listF (sigN S seed a) 18)), 23, 8⟩), (72, some ⟨byA (flat (listF (sigN S seed b) 18)), 23, 8⟩), (104, some ⟨inA (digits a), 3, 1⟩), (120, some ⟨inA (digits b), 3, 1⟩)])
    (fun c => [(11, .v (.int .i64 (c : Int))), (7, .sl 48 18), (8, .sl 72 18), (9, .sl 104 18), (10, .sl 120 18)]) 0 (Nat.zero_le _) ?_ ?_
  · (apply Le.mk' []; apply RnT.c; exact rfl; exact Rn.v rfl; apply RnT.c; exact rfl; exact Rn.sl rfl rfl; apply RnT.c; exact rfl; exact Rn.sl rfl rfl; apply RnT.c
     exact rfl; exact Rn.sl rfl rfl; apply RnT.c; exact rfl; exact Rn.sl rfl rfl; exact RnT.n; apply RnH.c; exact rfl; exact rfl; rfl; exact rfl; exact rfl
     apply RnH.c; exact rfl; exact rfl; rfl; exact rfl; exact rfl; apply RnH.c; exact rfl; exact rfl; rfl; exact rfl; exact rfl; apply RnH.c; exact rfl; exact rfl
     rfl; exact rfl; exact rfl; exact RnH.n; exact rfl)
  intro c hc
  ((with_reducible refine Gol.seq ?_); (with_reducible refine Gol.seq ?_); (with_reducible apply Gol.region); apply Trc.step rfl rfl; exact wnt_n rfl; (with_reducible apply s_move)
   exact rfl; dsimp only [Nat.reduceAdd, Nat.reduceMul, Nat.reduceSub, List.nil_append, List.cons_append, nbk, List.map_cons, List.map_nil]; apply Trc.step rfl rfl
   exact wnt_n rfl; (with_reducible apply s_ltn); exact rfl; exact rfl; dsimp only [Nat.reduceAdd, Nat.reduceMul, Nat.reduceSub, List.nil_append, List.cons_append, nbk, List.map_cons, List.map_nil]
   exact Trc.done _ _ _; exact rfl; (with_reducible refine thn_n ?_))
  refine Gol.cond rfl (fun h => ?_) (fun h => ?_)
  rotate_left
  · ((with_reducible refine Gol.exit ?_); (with_reducible refine thn_x ?_); (with_reducible refine rnd_x ?_); (with_reducible refine inBlk_hit ?_); (with_reducible refine thn_n ?_)
     (with_reducible refine Gol.seq ?_); (with_reducible apply Gol.region); apply Trc.step rfl rfl; exact wnt_n rfl; apply s_call (f := 17) rfl
     exact evs.nil; exact ArgL.nil; exact awake4_f; exact Nat.le_of_ble_eq_true rfl; dsimp only [Nat.reduceAdd, Nat.reduceMul, Nat.reduceSub, List.nil_append, List.cons_append, nbk, List.map_cons, List.map_nil]
     apply Trc.step rfl rfl; exact wnt_n rfl; (with_reducible apply s_assign); exact rfl; dsimp only [Nat.reduceAdd, Nat.reduceMul, Nat.reduceSub, List.nil_append, List.cons_append, nbk, List.map_cons, List.map_nil]
     exact Trc.done _ _ _; exact rfl; (with_reducible refine thn_n ?_); (with_reducible refine Gol.ret ?_))
    (apply RetQ.mk (by first | exact .inr rfl | exact .inl rfl); apply res_1 rfl; exact res_tmp rfl; exact out_val)
  have hlt : c < 18 := of_decide_eq_true h
  have hba := dg_bd a c hlt
  have hbb := dg_bd b c hlt
  have hxa := listF_getD (sigN S seed a) 18 c hlt
  have hxb := listF_getD (sigN S seed b) 18 c hlt
  (repeat (first | (with_reducible refine thn_n ?_) | (with_reducible refine Gol.skip ?_)))
  refine Gol.seq (Gol.block ?_)
  refine Gol.join (ι := Unit) (fun _ => True) 488 (fun _ => [(440, some ⟨cu (.v (.agg (nameC (sigN S seed a c)))), 23, 8⟩), (448, some ⟨cu (.v (.agg (nameC (sigN S seed b c)))), 23, 8⟩), (48, some ⟨byA (flat (listF (sigN S seed a) 18)), 23, 8⟩), (72, some ⟨byA (flat (listF (sigN S seed b) 18)), 23, 8⟩), (104, some ⟨inA (digits a), 3, 1⟩), (120, some ⟨inA (digits b), 3, 1⟩)])
    (fun _ => [(12, .pt 440 0), (15, .pt 448 0), (13, .v (.int .i64 (dg a c))), (14, .v (.int .i64 (dg b c))), (11, .v (.int .i64 (c : Int))), (7, .sl 48 18), (8, .sl 72 18), (9, .sl 104 18), (10, .sl 120 18)]) ?_ ?_
  · ((with_reducible apply Gol.any); kernel_rfl; apply Trc.step rfl rfl; exact wnt_n rfl; (with_reducible apply s_move); exact rfl; dsimp only [Nat.reduceAdd, Nat.reduceMul, Nat.reduceSub, List.nil_append, List.cons_append, nbk, List.map_cons, List.map_nil]
     apply Trc.step rfl rfl; exact wnt_n rfl; (with_reducible apply s_move); exact rfl; dsimp only [Nat.reduceAdd, Nat.reduceMul, Nat.reduceSub, List.nil_append, List.cons_append, nbk, List.map_cons, List.map_nil]
     apply Trc.step rfl rfl; exact wnt_n rfl; (with_reducible apply s_ixl); exact rfl; exact rfl; exact rfl; omega; dsimp only [Nat.reduceAdd, Nat.reduceMul, Nat.reduceSub, List.nil_append, List.cons_append, nbk, List.map_cons, List.map_nil]
     apply Trc.step rfl rfl; exact wnt_n rfl; (with_reducible apply s_loadN); exact rfl; exact rfl; simp only [byA_length, List.length_append, List.length_cons, List.length_nil, List.length_take, List.length_drop, List.length_replicate, List.length_map, Nat.mul_one, nameB_length, flat_length, List.length_set, inA_length] <;> omega
     exact agu_nm (by omega); dsimp only [Nat.reduceAdd, Nat.reduceMul, Nat.reduceSub, List.nil_append, List.cons_append, nbk, List.map_cons, List.map_nil]
     apply Trc.step rfl rfl; exact wnt_n rfl; (with_reducible apply s_move); exact rfl; dsimp only [Nat.reduceAdd, Nat.reduceMul, Nat.reduceSub, List.nil_append, List.cons_append, nbk, List.map_cons, List.map_nil]
     apply Trc.step rfl rfl; exact wnt_n rfl; (with_reducible apply s_move); exact rfl; dsimp only [Nat.reduceAdd, Nat.reduceMul, Nat.reduceSub, List.nil_append, List.cons_append, nbk, List.map_cons, List.map_nil]
     apply Trc.step rfl rfl; exact wnt_n rfl; (with_reducible apply s_ixl); exact rfl; exact rfl; exact rfl; omega; dsimp only [Nat.reduceAdd, Nat.reduceMul, Nat.reduceSub, List.nil_append, List.cons_append, nbk, List.map_cons, List.map_nil]
     apply Trc.step rfl rfl; exact wnt_n rfl; (with_reducible apply s_load); exact rfl; exact rfl; apply in_get; assumption; dsimp only [Nat.reduceAdd, Nat.reduceMul, Nat.reduceSub, List.nil_append, List.cons_append, nbk, List.map_cons, List.map_nil]
     apply Trc.step rfl rfl; exact wnt_n rfl; (with_reducible apply s_move); exact rfl; dsimp only [Nat.reduceAdd, Nat.reduceMul, Nat.reduceSub, List.nil_append, List.cons_append, nbk, List.map_cons, List.map_nil]
     apply Trc.step rfl rfl; exact wnt_n rfl; (with_reducible apply s_move); exact rfl; dsimp only [Nat.reduceAdd, Nat.reduceMul, Nat.reduceSub, List.nil_append, List.cons_append, nbk, List.map_cons, List.map_nil]
     apply Trc.step rfl rfl; exact wnt_n rfl; (with_reducible apply s_ixl); exact rfl; exact rfl; exact rfl; omega; dsimp only [Nat.reduceAdd, Nat.reduceMul, Nat.reduceSub, List.nil_append, List.cons_append, nbk, List.map_cons, List.map_nil]
     apply Trc.step rfl rfl; exact wnt_n rfl; (with_reducible apply s_load); exact rfl; exact rfl; apply in_get; assumption; dsimp only [Nat.reduceAdd, Nat.reduceMul, Nat.reduceSub, List.nil_append, List.cons_append, nbk, List.map_cons, List.map_nil]
     apply Trc.step rfl rfl; exact wnt_n rfl; (with_reducible apply s_move); exact rfl; dsimp only [Nat.reduceAdd, Nat.reduceMul, Nat.reduceSub, List.nil_append, List.cons_append, nbk, List.map_cons, List.map_nil]
     apply Trc.step rfl rfl; exact wnt_n rfl; (with_reducible apply s_move); exact rfl; dsimp only [Nat.reduceAdd, Nat.reduceMul, Nat.reduceSub, List.nil_append, List.cons_append, nbk, List.map_cons, List.map_nil]
     apply Trc.step rfl rfl; exact wnt_n rfl; (with_reducible apply s_ixl); exact rfl; exact rfl; exact rfl; omega; dsimp only [Nat.reduceAdd, Nat.reduceMul, Nat.reduceSub, List.nil_append, List.cons_append, nbk, List.map_cons, List.map_nil]
     apply Trc.step rfl rfl; exact wnt_n rfl; (with_reducible apply s_loadN); exact rfl; exact rfl; simp only [byA_length, List.length_append, List.length_cons, List.length_nil, List.length_take, List.length_drop, List.length_replicate, List.length_map, Nat.mul_one, nameB_length, flat_length, List.length_set, inA_length] <;> omega
     exact agu_nm (by omega); dsimp only [Nat.reduceAdd, Nat.reduceMul, Nat.reduceSub, List.nil_append, List.cons_append, nbk, List.map_cons, List.map_nil]
     apply Trc.step rfl rfl; exact wnt_n rfl; (with_reducible apply s_alloc); dsimp only [Nat.reduceAdd, Nat.reduceMul, Nat.reduceSub, List.nil_append, List.cons_append, nbk, List.map_cons, List.map_nil]
     apply Trc.step rfl rfl; exact wnt_n rfl; (with_reducible apply s_alloc); dsimp only [Nat.reduceAdd, Nat.reduceMul, Nat.reduceSub, List.nil_append, List.cons_append, nbk, List.map_cons, List.map_nil]
     apply Trc.stepN rfl rfl; exact wnt_n rfl; (with_reducible apply s_storeW); exact rfl; exact rfl; exact rfl; exact rfl; rfl; exact rfl; dsimp only [Nat.reduceAdd, Nat.reduceMul, Nat.reduceSub, List.nil_append, List.cons_append, nbk, List.map_cons, List.map_nil]
     apply Trc.step rfl rfl; exact wnt_n rfl; (with_reducible apply s_assign); exact rfl; dsimp only [Nat.reduceAdd, Nat.reduceMul, Nat.reduceSub, List.nil_append, List.cons_append, nbk, List.map_cons, List.map_nil]
     apply Trc.step rfl rfl; exact wnt_n rfl; (with_reducible apply s_assign); exact rfl; dsimp only [Nat.reduceAdd, Nat.reduceMul, Nat.reduceSub, List.nil_append, List.cons_append, nbk, List.map_cons, List.map_nil]
     apply Trc.stepN rfl rfl; exact wnt_n rfl; (with_reducible apply s_storeW); exact rfl; exact rfl; exact rfl; exact rfl; rfl; exact rfl; dsimp only [Nat.reduceAdd, Nat.reduceMul, Nat.reduceSub, List.nil_append, List.cons_append, nbk, List.map_cons, List.map_nil]
     exact Trc.done _ _ _; kernel_rfl; exact rfl)
    rw [hxa, hxb]
    refine jn_n () trivial ?_
    (apply Le.mk' []; apply RnT.c; exact rfl; exact Rn.pt rfl rfl; apply RnT.c; exact rfl; exact Rn.pt rfl rfl; apply RnT.c; exact rfl; exact Rn.v rfl; apply RnT.c
     exact rfl; exact Rn.v rfl; apply RnT.c; exact rfl; exact Rn.v rfl; apply RnT.c; exact rfl; exact Rn.sl rfl rfl; apply RnT.c; exact rfl; exact Rn.sl rfl rfl
     apply RnT.c; exact rfl; exact Rn.sl rfl rfl; apply RnT.c; exact rfl; exact Rn.sl rfl rfl; exact RnT.n; apply RnH.c; exact rfl; exact rfl; rfl; exact rfl
     exact rfl; apply RnH.c; exact rfl; exact rfl; rfl; exact rfl; exact rfl; apply RnH.c; exact rfl; exact rfl; rfl; exact rfl; exact rfl; apply RnH.c; exact rfl
     exact rfl; rfl; exact rfl; exact rfl; apply RnH.c; exact rfl; exact rfl; rfl; exact rfl; exact rfl; apply RnH.c; exact rfl; exact rfl; rfl; exact rfl
     exact rfl; exact RnH.n; exact rfl)
  intro _ _
  refine Gol.join (ι := UInt64 × Int × Int × UInt64) (fun x => 0 ≤ x.2.1 ∧ x.2.1 ≤ x.2.2.1 ∧ x.2.2.1 ≤ 15 ∧ x.1 = chainN S (startN S seed c) c 0 x.2.1.toNat ∧ x.2.2.2 = chainN S (startN S seed c) c 0 x.2.2.1.toNat) 512 (fun x => [(440, some ⟨cu (.v (.agg (nameC x.1))), 23, 8⟩), (448, some ⟨cu (.v (.agg (nameC x.2.2.2))), 23, 8⟩), (48, some ⟨byA (flat (listF (sigN S seed a) 18)), 23, 8⟩), (72, some ⟨byA (flat (listF (sigN S seed b) 18)), 23, 8⟩), (104, some ⟨inA (digits a), 3, 1⟩), (120, some ⟨inA (digits b), 3, 1⟩)])
    (fun x => [(12, .pt 440 0), (15, .pt 448 0), (13, .v (.int .i64 x.2.1)), (14, .v (.int .i64 x.2.2.1)), (11, .v (.int .i64 (c : Int))), (7, .sl 48 18), (8, .sl 72 18), (9, .sl 104 18), (10, .sl 120 18)]) ?_ ?_
  · ((with_reducible refine Gol.seq ?_); (with_reducible apply Gol.region); apply Trc.step rfl rfl; exact wnt_n rfl; (with_reducible apply s_move); exact rfl
     dsimp only [Nat.reduceAdd, Nat.reduceMul, Nat.reduceSub, List.nil_append, List.cons_append, nbk, List.map_cons, List.map_nil]; apply Trc.step rfl rfl
     exact wnt_n rfl; (with_reducible apply s_move); exact rfl; dsimp only [Nat.reduceAdd, Nat.reduceMul, Nat.reduceSub, List.nil_append, List.cons_append, nbk, List.map_cons, List.map_nil]
     apply Trc.step rfl rfl; exact wnt_n rfl; (with_reducible apply s_gt); exact rfl; exact rfl; dsimp only [Nat.reduceAdd, Nat.reduceMul, Nat.reduceSub, List.nil_append, List.cons_append, nbk, List.map_cons, List.map_nil]
     exact Trc.done _ _ _; exact rfl; (with_reducible refine thn_n ?_))
    refine Gol.cond rfl (fun hk => ?_) (fun hk => ?_)
    · have hk' : dg b c < dg a c := of_decide_eq_true hk
      ((with_reducible apply Gol.any); kernel_rfl; apply Trc.step rfl rfl; exact wnt_n rfl; (with_reducible apply s_move); exact rfl; dsimp only [Nat.reduceAdd, Nat.reduceMul, Nat.reduceSub, List.nil_append, List.cons_append, nbk, List.map_cons, List.map_nil]
       apply Trc.step rfl rfl; exact wnt_n rfl; (with_reducible apply s_move); exact rfl; dsimp only [Nat.reduceAdd, Nat.reduceMul, Nat.reduceSub, List.nil_append, List.cons_append, nbk, List.map_cons, List.map_nil]
       apply Trc.step rfl rfl; exact wnt_n rfl; (with_reducible apply s_ixl); exact rfl; exact rfl; exact rfl; omega; dsimp only [Nat.reduceAdd, Nat.reduceMul, Nat.reduceSub, List.nil_append, List.cons_append, nbk, List.map_cons, List.map_nil]
       apply Trc.step rfl rfl; exact wnt_n rfl; (with_reducible apply s_loadN); exact rfl; exact rfl; simp only [byA_length, List.length_append, List.length_cons, List.length_nil, List.length_take, List.length_drop, List.length_replicate, List.length_map, Nat.mul_one, nameB_length, flat_length, List.length_set, inA_length] <;> omega
       exact agu_nm (by omega); dsimp only [Nat.reduceAdd, Nat.reduceMul, Nat.reduceSub, List.nil_append, List.cons_append, nbk, List.map_cons, List.map_nil]
       apply Trc.step rfl rfl; exact wnt_n rfl; (with_reducible apply s_move); exact rfl; dsimp only [Nat.reduceAdd, Nat.reduceMul, Nat.reduceSub, List.nil_append, List.cons_append, nbk, List.map_cons, List.map_nil]
       apply Trc.step rfl rfl; exact wnt_n rfl; (with_reducible apply s_move); exact rfl; dsimp only [Nat.reduceAdd, Nat.reduceMul, Nat.reduceSub, List.nil_append, List.cons_append, nbk, List.map_cons, List.map_nil]
       apply Trc.step rfl rfl; exact wnt_n rfl; (with_reducible apply s_ixl); exact rfl; exact rfl; exact rfl; omega; dsimp only [Nat.reduceAdd, Nat.reduceMul, Nat.reduceSub, List.nil_append, List.cons_append, nbk, List.map_cons, List.map_nil]
       apply Trc.step rfl rfl; exact wnt_n rfl; (with_reducible apply s_load); exact rfl; exact rfl; apply in_get; assumption; dsimp only [Nat.reduceAdd, Nat.reduceMul, Nat.reduceSub, List.nil_append, List.cons_append, nbk, List.map_cons, List.map_nil]
       apply Trc.step rfl rfl; exact wnt_n rfl; (with_reducible apply s_move); exact rfl; dsimp only [Nat.reduceAdd, Nat.reduceMul, Nat.reduceSub, List.nil_append, List.cons_append, nbk, List.map_cons, List.map_nil]
       apply Trc.step rfl rfl; exact wnt_n rfl; (with_reducible apply s_move); exact rfl; dsimp only [Nat.reduceAdd, Nat.reduceMul, Nat.reduceSub, List.nil_append, List.cons_append, nbk, List.map_cons, List.map_nil]
       apply Trc.step rfl rfl; exact wnt_n rfl; (with_reducible apply s_ixl); exact rfl; exact rfl; exact rfl; omega; dsimp only [Nat.reduceAdd, Nat.reduceMul, Nat.reduceSub, List.nil_append, List.cons_append, nbk, List.map_cons, List.map_nil]
       apply Trc.step rfl rfl; exact wnt_n rfl; (with_reducible apply s_load); exact rfl; exact rfl; apply in_get; assumption; dsimp only [Nat.reduceAdd, Nat.reduceMul, Nat.reduceSub, List.nil_append, List.cons_append, nbk, List.map_cons, List.map_nil]
       apply Trc.step rfl rfl; exact wnt_n rfl; (with_reducible apply s_move); exact rfl; dsimp only [Nat.reduceAdd, Nat.reduceMul, Nat.reduceSub, List.nil_append, List.cons_append, nbk, List.map_cons, List.map_nil]
       apply Trc.step rfl rfl; exact wnt_n rfl; (with_reducible apply s_move); exact rfl; dsimp only [Nat.reduceAdd, Nat.reduceMul, Nat.reduceSub, List.nil_append, List.cons_append, nbk, List.map_cons, List.map_nil]
       apply Trc.step rfl rfl; exact wnt_n rfl; (with_reducible apply s_ixl); exact rfl; exact rfl; exact rfl; omega; dsimp only [Nat.reduceAdd, Nat.reduceMul, Nat.reduceSub, List.nil_append, List.cons_append, nbk, List.map_cons, List.map_nil]
       apply Trc.step rfl rfl; exact wnt_n rfl; (with_reducible apply s_loadN); exact rfl; exact rfl; simp only [byA_length, List.length_append, List.length_cons, List.length_nil, List.length_take, List.length_drop, List.length_replicate, List.length_map, Nat.mul_one, nameB_length, flat_length, List.length_set, inA_length] <;> omega
       exact agu_nm (by omega); dsimp only [Nat.reduceAdd, Nat.reduceMul, Nat.reduceSub, List.nil_append, List.cons_append, nbk, List.map_cons, List.map_nil]
       apply Trc.stepN rfl rfl; exact wnt_n rfl; (with_reducible apply s_storeW); exact rfl; exact rfl; exact rfl; exact rfl; rfl; exact rfl; dsimp only [Nat.reduceAdd, Nat.reduceMul, Nat.reduceSub, List.nil_append, List.cons_append, nbk, List.map_cons, List.map_nil]
       apply Trc.step rfl rfl; exact wnt_n rfl; (with_reducible apply s_assign); exact rfl; dsimp only [Nat.reduceAdd, Nat.reduceMul, Nat.reduceSub, List.nil_append, List.cons_append, nbk, List.map_cons, List.map_nil]
       apply Trc.step rfl rfl; exact wnt_n rfl; (with_reducible apply s_assign); exact rfl; dsimp only [Nat.reduceAdd, Nat.reduceMul, Nat.reduceSub, List.nil_append, List.cons_append, nbk, List.map_cons, List.map_nil]
       apply Trc.stepN rfl rfl; exact wnt_n rfl; (with_reducible apply s_storeW); exact rfl; exact rfl; exact rfl; exact rfl; rfl; exact rfl; dsimp only [Nat.reduceAdd, Nat.reduceMul, Nat.reduceSub, List.nil_append, List.cons_append, nbk, List.map_cons, List.map_nil]
       exact Trc.done _ _ _; kernel_rfl; exact rfl)
      rw [hxa, hxb]
      refine jn_n (sigN S seed b c, dg b c, dg a c, sigN S seed a c) ⟨hbb.1, by dsimp only; omega, hba.2, rfl, rfl⟩ ?_
      (apply Le.mk' []; apply RnT.c; exact rfl; exact Rn.pt rfl rfl; apply RnT.c; exact rfl; exact Rn.pt rfl rfl; apply RnT.c; exact rfl; exact Rn.v rfl; apply RnT.c
       exact rfl; exact Rn.v rfl; apply RnT.c; exact rfl; exact Rn.v rfl; apply RnT.c; exact rfl; exact Rn.sl rfl rfl; apply RnT.c; exact rfl; exact Rn.sl rfl rfl
       apply RnT.c; exact rfl; exact Rn.sl rfl rfl; apply RnT.c; exact rfl; exact Rn.sl rfl rfl; exact RnT.n; apply RnH.c; exact rfl; exact rfl; rfl; exact rfl
       exact rfl; apply RnH.c; exact rfl; exact rfl; rfl; exact rfl; exact rfl; apply RnH.c; exact rfl; exact rfl; rfl; exact rfl; exact rfl; apply RnH.c; exact rfl
       exact rfl; rfl; exact rfl; exact rfl; apply RnH.c; exact rfl; exact rfl; rfl; exact rfl; exact rfl; apply RnH.c; exact rfl; exact rfl; rfl; exact rfl
       exact rfl; exact RnH.n; exact rfl)
    · have hk' : ¬ dg b c < dg a c := of_decide_eq_false hk
      ((with_reducible refine Gol.skip ?_))
      refine jn_n (sigN S seed a c, dg a c, dg b c, sigN S seed b c) ⟨hba.1, by dsimp only; omega, hbb.2, rfl, rfl⟩ ?_
      (apply Le.mk' []; apply RnT.c; exact rfl; exact Rn.pt rfl rfl; apply RnT.c; exact rfl; exact Rn.pt rfl rfl; apply RnT.c; exact rfl; exact Rn.v rfl; apply RnT.c
       exact rfl; exact Rn.v rfl; apply RnT.c; exact rfl; exact Rn.v rfl; apply RnT.c; exact rfl; exact Rn.sl rfl rfl; apply RnT.c; exact rfl; exact Rn.sl rfl rfl
       apply RnT.c; exact rfl; exact Rn.sl rfl rfl; apply RnT.c; exact rfl; exact Rn.sl rfl rfl; exact RnT.n; apply RnH.c; exact rfl; exact rfl; rfl; exact rfl
       exact rfl; apply RnH.c; exact rfl; exact rfl; rfl; exact rfl; exact rfl; apply RnH.c; exact rfl; exact rfl; rfl; exact rfl; exact rfl; apply RnH.c; exact rfl
       exact rfl; rfl; exact rfl; exact rfl; apply RnH.c; exact rfl; exact rfl; rfl; exact rfl; exact rfl; apply RnH.c; exact rfl; exact rfl; rfl; exact rfl
       exact rfl; exact RnH.n; exact rfl)
  rintro ⟨v, x, y, e⟩ ⟨g1, g2, g3, g4, g5⟩
  dsimp only at g1 g2 g3 g4 g5 ⊢
  ((with_reducible refine Gol.seq ?_); (with_reducible refine Gol.seq ?_); (with_reducible apply Gol.region); apply Trc.step rfl rfl; exact wnt_n rfl; (with_reducible apply s_move)
   exact rfl; dsimp only [Nat.reduceAdd, Nat.reduceMul, Nat.reduceSub, List.nil_append, List.cons_append, nbk, List.map_cons, List.map_nil]; apply Trc.step rfl rfl
   exact wnt_n rfl; (with_reducible apply s_assign); exact rfl; dsimp only [Nat.reduceAdd, Nat.reduceMul, Nat.reduceSub, List.nil_append, List.cons_append, nbk, List.map_cons, List.map_nil]
   exact Trc.done _ _ _; exact rfl; (with_reducible refine thn_n ?_); (with_reducible refine Gol.block ?_))
  refine Gol.loop (ι := Nat) (fun k => k ≤ (y - x).toNat) (fun k => (y - x).toNat - k) 528 (fun k => [(440, some ⟨cu (.v (.agg (nameC (chainN S v c x k)))), 23, 8⟩), (448, some ⟨cu (.v (.agg (nameC e))), 23, 8⟩), (48, some ⟨byA (flat (listF (sigN S seed a) 18)), 23, 8⟩), (72, some ⟨byA (flat (listF (sigN S seed b) 18)), 23, 8⟩), (104, some ⟨inA (digits a), 3, 1⟩), (120, some ⟨inA (digits b), 3, 1⟩)])
    (fun k => [(16, .v (.int .i64 (x + (k : Int)))), (12, .pt 440 0), (15, .pt 448 0), (14, .v (.int .i64 y)), (11, .v (.int .i64 (c : Int))), (7, .sl 48 18), (8, .sl 72 18), (9, .sl 104 18), (10, .sl 120 18)]) 0 (Nat.zero_le _) ?_ ?_
  · (apply Le.mk' []; apply RnT.c; exact rfl; apply Rn.v; congr 1; omega; apply RnT.c; exact rfl; exact Rn.pt rfl rfl; apply RnT.c; exact rfl; exact Rn.pt rfl rfl
     apply RnT.c; exact rfl; exact Rn.v rfl; apply RnT.c; exact rfl; exact Rn.v rfl; apply RnT.c; exact rfl; exact Rn.sl rfl rfl; apply RnT.c; exact rfl; exact Rn.sl rfl rfl
     apply RnT.c; exact rfl; exact Rn.sl rfl rfl; apply RnT.c; exact rfl; exact Rn.sl rfl rfl; exact RnT.n; apply RnH.c; exact rfl; exact rfl; rfl; exact rfl
     exact rfl; apply RnH.c; exact rfl; exact rfl; rfl; exact rfl; exact rfl; apply RnH.c; exact rfl; exact rfl; rfl; exact rfl; exact rfl; apply RnH.c; exact rfl
     exact rfl; rfl; exact rfl; exact rfl; apply RnH.c; exact rfl; exact rfl; rfl; exact rfl; exact rfl; apply RnH.c; exact rfl; exact rfl; rfl; exact rfl
     exact rfl; exact RnH.n; exact rfl)
  intro k hk
  ((with_reducible refine Gol.seq ?_); (with_reducible refine Gol.seq ?_); (with_reducible apply Gol.region); apply Trc.step rfl rfl; exact wnt_n rfl; (with_reducible apply s_move)
   exact rfl; dsimp only [Nat.reduceAdd, Nat.reduceMul, Nat.reduceSub, List.nil_append, List.cons_append, nbk, List.map_cons, List.map_nil]; apply Trc.step rfl rfl
   exact wnt_n rfl; (with_reducible apply s_move); exact rfl; dsimp only [Nat.reduceAdd, Nat.reduceMul, Nat.reduceSub, List.nil_append, List.cons_append, nbk, List.map_cons, List.map_nil]
   apply Trc.step rfl rfl; exact wnt_n rfl; (with_reducible apply s_lt); exact rfl; exact rfl; dsimp only [Nat.reduceAdd, Nat.reduceMul, Nat.reduceSub, List.nil_append, List.cons_append, nbk, List.map_cons, List.map_nil]
   exact Trc.done _ _ _; exact rfl; (with_reducible refine thn_n ?_))
  refine Gol.cond rfl (fun h => ?_) (fun h => ?_)
  · have hlt' : x + (k : Int) < y := of_decide_eq_true h
    ((with_reducible refine Gol.skip ?_); (with_reducible refine thn_n ?_); (with_reducible refine Gol.seq ?_); (with_reducible refine Gol.block ?_); (with_reducible apply Gol.region)
     apply Trc.step rfl rfl; exact wnt_n rfl; (with_reducible apply s_bytesP); exact PV.nil; exact rfl; omega; dsimp only [Nat.reduceAdd, Nat.reduceMul, Nat.reduceSub, List.nil_append, List.cons_append, nbk, List.map_cons, List.map_nil]
     apply Trc.step rfl rfl; exact wnt_n rfl; (with_reducible apply s_slA); exact rfl; exact rfl; exact rfl; exact rfl; simp; omega; omega; omega; dsimp only [Nat.reduceAdd, Nat.reduceMul, Nat.reduceSub, List.nil_append, List.cons_append, nbk, List.map_cons, List.map_nil]
     apply Trc.step rfl rfl; exact wnt_n rfl; (with_reducible apply s_app); exact rfl; exact rfl; exact rfl; exact rd_name rfl rfl; rfl; exact rfl; exact rfl
     exact OneL.one; omega; dsimp only [Nat.reduceAdd, Nat.reduceMul, Nat.reduceSub, List.nil_append, List.cons_append, nbk, List.map_cons, List.map_nil]; apply Trc.step rfl rfl
     exact wnt_n rfl; (with_reducible apply s_move); exact rfl; dsimp only [Nat.reduceAdd, Nat.reduceMul, Nat.reduceSub, List.nil_append, List.cons_append, nbk, List.map_cons, List.map_nil]
     apply Trc.step rfl rfl; exact wnt_n rfl; (with_reducible apply s_cu8); exact rfl; dsimp only [Nat.reduceAdd, Nat.reduceMul, Nat.reduceSub, List.nil_append, List.cons_append, nbk, List.map_cons, List.map_nil]
     apply Trc.step rfl rfl; exact wnt_n rfl; (with_reducible apply s_move); exact rfl; dsimp only [Nat.reduceAdd, Nat.reduceMul, Nat.reduceSub, List.nil_append, List.cons_append, nbk, List.map_cons, List.map_nil]
     apply Trc.step rfl rfl; exact wnt_n rfl; (with_reducible apply s_cu8); exact rfl; dsimp only [Nat.reduceAdd, Nat.reduceMul, Nat.reduceSub, List.nil_append, List.cons_append, nbk, List.map_cons, List.map_nil]
     apply Trc.step rfl rfl; exact wnt_n rfl; (with_reducible apply s_bytesP); apply PV.cons; exact rfl; exact rfl; exact rfl; apply PV.cons; exact rfl; exact rfl
     exact rfl; exact PV.nil; exact rfl; omega; dsimp only [Nat.reduceAdd, Nat.reduceMul, Nat.reduceSub, List.nil_append, List.cons_append, nbk, List.map_cons, List.map_nil]
     apply Trc.step rfl rfl; exact wnt_n rfl; (with_reducible apply s_app); exact rfl; exact rfl; exact rfl; apply rd_sl rfl; rfl; rfl; exact rfl; exact rfl
     exact OneL.one; omega; dsimp only [Nat.reduceAdd, Nat.reduceMul, Nat.reduceSub, List.nil_append, List.cons_append, nbk, List.map_cons, List.map_nil]; apply Trc.step rfl rfl
     exact wnt_n rfl; apply s_call (f := 27) rfl; apply evs.cons rfl; apply evs.cons rfl; exact evs.nil; apply ArgL.cons; exact arg_clo
     apply ArgL.cons; exact arg_sl rfl; exact ArgL.nil; exact hS.tagged 33 (nameB (chainN S v c x k) ++ [toU8 c, toU8 (x + k)]) _ _ rfl (by decide); exact Nat.le_of_ble_eq_true rfl
     dsimp only [Nat.reduceAdd, Nat.reduceMul, Nat.reduceSub, List.nil_append, List.cons_append, nbk, List.map_cons, List.map_nil]; apply Trc.stepN rfl rfl
     exact wnt_n rfl; (with_reducible apply s_storeW); exact rfl; exact rfl; exact rfl; exact rfl; rfl; exact rfl; dsimp only [Nat.reduceAdd, Nat.reduceMul, Nat.reduceSub, List.nil_append, List.cons_append, nbk, List.map_cons, List.map_nil]
     exact Trc.done _ _ _; exact rfl; (with_reducible refine inBlk_n ?_); (with_reducible refine thn_n ?_); (with_reducible apply Gol.region); apply Trc.step rfl rfl
     exact wnt_n rfl; (with_reducible apply s_move); exact rfl; dsimp only [Nat.reduceAdd, Nat.reduceMul, Nat.reduceSub, List.nil_append, List.cons_append, nbk, List.map_cons, List.map_nil]
     apply Trc.step rfl rfl; exact wnt_n rfl; (with_reducible apply s_add); exact rfl; exact rfl; omega; dsimp only [Nat.reduceAdd, Nat.reduceMul, Nat.reduceSub, List.nil_append, List.cons_append, nbk, List.map_cons, List.map_nil]
     apply Trc.step rfl rfl; exact wnt_n rfl; (with_reducible apply s_assign); exact rfl; dsimp only [Nat.reduceAdd, Nat.reduceMul, Nat.reduceSub, List.nil_append, List.cons_append, nbk, List.map_cons, List.map_nil]
     exact Trc.done _ _ _; exact rfl)
    refine rnd_n (k + 1) (by omega) (by omega) ?_
    (apply Le.mk' []; apply RnT.c; exact rfl; apply Rn.v; congr 1; omega; apply RnT.c; exact rfl; exact Rn.pt rfl rfl; apply RnT.c; exact rfl; exact Rn.pt rfl rfl
     apply RnT.c; exact rfl; exact Rn.v rfl; apply RnT.c; exact rfl; exact Rn.v rfl; apply RnT.c; exact rfl; exact Rn.sl rfl rfl; apply RnT.c; exact rfl; exact Rn.sl rfl rfl
     apply RnT.c; exact rfl; exact Rn.sl rfl rfl; apply RnT.c; exact rfl; exact Rn.sl rfl rfl; exact RnT.n; apply RnH.c; exact rfl; exact rfl; rfl; exact rfl
     exact rfl; apply RnH.c; exact rfl; exact rfl; rfl; exact rfl; exact rfl; apply RnH.c; exact rfl; exact rfl; rfl; exact rfl; exact rfl; apply RnH.c; exact rfl
     exact rfl; rfl; exact rfl; exact rfl; apply RnH.c; exact rfl; exact rfl; rfl; exact rfl; exact rfl; apply RnH.c; exact rfl; exact rfl; rfl; exact rfl
     exact rfl; exact RnH.n; exact rfl)
  · have hge : ¬ x + (k : Int) < y := of_decide_eq_false h
    obtain rfl : k = (y - x).toNat := by omega
    have hend : chainN S v c x (y - x).toNat = e := by
      have := chain_add S (startN S seed c) c 0 x.toNat (y - x).toNat
      rw [show (0 : Int) + (x.toNat : Int) = x by omega, show x.toNat + (y - x).toNat = y.toNat by omega, ← g4, ← g5] at this
      exact this
    rw [hend]
    ((with_reducible refine Gol.exit ?_); (with_reducible refine thn_x ?_); (with_reducible refine rnd_x ?_); (with_reducible refine inBlk_hit ?_); (with_reducible refine thn_n ?_)
     (with_reducible refine Gol.seq ?_); (with_reducible apply Gol.region); apply Trc.step rfl rfl; exact wnt_n rfl; (with_reducible apply s_loadW); exact rfl
     exact rfl; exact rfl; exact agu_cuv _; dsimp only [Nat.reduceAdd, Nat.reduceMul, Nat.reduceSub, List.nil_append, List.cons_append, nbk, List.map_cons, List.map_nil]
     apply Trc.step rfl rfl; exact wnt_n rfl; (with_reducible apply s_loadW); exact rfl; exact rfl; exact rfl; exact agu_cuv _; dsimp only [Nat.reduceAdd, Nat.reduceMul, Nat.reduceSub, List.nil_append, List.cons_append, nbk, List.map_cons, List.map_nil]
     apply Trc.step rfl rfl; exact wnt_n rfl; (with_reducible apply s_neN); exact rfl; exact rfl; dsimp only [Nat.reduceAdd, Nat.reduceMul, Nat.reduceSub, List.nil_append, List.cons_append, nbk, List.map_cons, List.map_nil]
     exact Trc.done _ _ _; exact rfl; (with_reducible refine thn_n ?_))
    refine Gol.cond_f rfl (by simp) ?_
    ((with_reducible refine Gol.skip ?_); (with_reducible refine inBlk_n ?_); (with_reducible refine thn_n ?_); (with_reducible apply Gol.region); apply Trc.step rfl rfl
     exact wnt_n rfl; (with_reducible apply s_move); exact rfl; dsimp only [Nat.reduceAdd, Nat.reduceMul, Nat.reduceSub, List.nil_append, List.cons_append, nbk, List.map_cons, List.map_nil]
     apply Trc.step rfl rfl; exact wnt_n rfl; (with_reducible apply s_addn); exact rfl; exact rfl; simp <;> omega; dsimp only [Nat.reduceAdd, Nat.reduceMul, Nat.reduceSub, List.nil_append, List.cons_append, nbk, List.map_cons, List.map_nil]
     apply Trc.step rfl rfl; exact wnt_n rfl; (with_reducible apply s_assign); exact rfl; dsimp only [Nat.reduceAdd, Nat.reduceMul, Nat.reduceSub, List.nil_append, List.cons_append, nbk, List.map_cons, List.map_nil]
     exact Trc.done _ _ _; exact rfl)
    refine rnd_n (c + 1) (by omega) (by omega) ?_
    (apply Le.mk' []; apply RnT.c; exact rfl; exact Rn.v rfl; apply RnT.c; exact rfl; exact Rn.sl rfl rfl; apply RnT.c; exact rfl; exact Rn.sl rfl rfl; apply RnT.c
     exact rfl; exact Rn.sl rfl rfl; apply RnT.c; exact rfl; exact Rn.sl rfl rfl; exact RnT.n; apply RnH.c; exact rfl; exact rfl; rfl; exact rfl; exact rfl
     apply RnH.c; exact rfl; exact rfl; rfl; exact rfl; exact rfl; apply RnH.c; exact rfl; exact rfl; rfl; exact rfl; exact rfl; apply RnH.c; exact rfl; exact rfl
     rfl; exact rfl; exact rfl; exact RnH.n; exact rfl)
end
end Go.Proofs.Ytihgmdicglnndaa
