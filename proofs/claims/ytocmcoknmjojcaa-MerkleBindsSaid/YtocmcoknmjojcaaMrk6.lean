/-
  Layer 3: the law MerkleBinds returns true. Conditions: lengths below 2^47.
-/
import Derived.Test.YtocmcoknmjojcaaMrk5
set_option linter.unusedSimpArgs false
set_option linter.unusedVariables false
set_option linter.unusedSectionVars false
namespace Go.Proofs.Ytocmcoknmjojcaa
open Go.RowKit
section
variable (S : List UInt8 → UInt64) (hS : HashF S)
include hS
theorem climb3_ok (leaf : UInt64) (n : Nat) : ∀ (i : Nat) (p : List UInt64) (f : Bool) (d : Nat), i < n → n ≤ 9223372036854775807 → d = depN i n → p.length = d → d ≤ 100 → Fresh Try.prog 20 [.v (.agg (nameC leaf)), .v (.int .i64 (i : Int)), .v (.int .i64 (n : Int)), .ex d f (byA (flat p))] (fun k => .sl k (d + 1)) [⟨cellsS (stepsN S leaf i n p), 38, 9⟩] := by
  induction n using Nat.strongRecOn with
  | _ n ih =>
    intro i p f d hi hb hd hp hdb
    by_cases h1 : n = 1
    · subst h1
      rw [steps_one S (by decide), comp_one S (by decide), cellsS_one]
      obtain rfl : d = 0 := by rw [hd, dep_one (by decide)]
      refine Fresh.of (fn := Try.f20) Try.func20 rfl (Nat.le_of_ble_eq_true rfl) fun w => ?_
      ((with_reducible refine Gol.seq ?_); (with_reducible apply Gol.region); apply Trc.step rfl rfl; exact wnt_n rfl; (with_reducible apply s_box); exact rfl
       exact rfl; dsimp only [Nat.reduceAdd, Nat.reduceMul, Nat.reduceSub, List.nil_append, List.cons_append, nbk, List.map_cons, List.map_nil]; apply Trc.step rfl rfl
       exact wnt_n rfl; (with_reducible apply s_assign); exact rfl; dsimp only [Nat.reduceAdd, Nat.reduceMul, Nat.reduceSub, List.nil_append, List.cons_append, nbk, List.map_cons, List.map_nil]
       exact Trc.done _ _ _; exact rfl; (with_reducible refine thn_n ?_); (with_reducible refine Gol.seq ?_); (with_reducible refine Gol.seq ?_); (with_reducible apply Gol.region)
       apply Trc.step rfl rfl; exact wnt_n rfl; (with_reducible apply s_move); exact rfl; dsimp only [Nat.reduceAdd, Nat.reduceMul, Nat.reduceSub, List.nil_append, List.cons_append, nbk, List.map_cons, List.map_nil]
       apply Trc.step rfl rfl; exact wnt_n rfl; (with_reducible apply s_eqn); exact rfl; exact rfl; dsimp only [Nat.reduceAdd, Nat.reduceMul, Nat.reduceSub, List.nil_append, List.cons_append, nbk, List.map_cons, List.map_nil]
       exact Trc.done _ _ _; exact rfl; (with_reducible refine thn_n ?_))
      refine Gol.cond_t rfl (by decide) ?_
      ((with_reducible refine Gol.seq ?_); (with_reducible apply Gol.any); kernel_rfl; apply Trc.step rfl rfl; exact wnt_n rfl; (with_reducible apply s_slA)
       exact rfl; exact rfl; exact rfl; exact rfl; simp; omega; omega; omega; dsimp only [Nat.reduceAdd, Nat.reduceMul, Nat.reduceSub, List.nil_append, List.cons_append, nbk, List.map_cons, List.map_nil]
       apply Trc.step rfl rfl; exact wnt_n rfl; (with_reducible apply s_string); exact rfl; exact rd_name rfl rfl; exact rfl; dsimp only [Nat.reduceAdd, Nat.reduceMul, Nat.reduceSub, List.nil_append, List.cons_append, nbk, List.map_cons, List.map_nil]
       apply Trc.step rfl rfl; exact wnt_n rfl; (with_reducible apply s_slA); exact rfl; exact rfl; exact rfl; exact rfl; simp; omega; omega; omega; dsimp only [Nat.reduceAdd, Nat.reduceMul, Nat.reduceSub, List.nil_append, List.cons_append, nbk, List.map_cons, List.map_nil]
       apply Trc.step rfl rfl; exact wnt_n rfl; apply s_call (f := 32) rfl; apply evs.cons rfl; apply evs.cons rfl; exact evs.nil
       apply ArgL.cons; exact arg_clo; apply ArgL.cons; exact arg_name rfl rfl; exact ArgL.nil; exact hS.refTagged 0x11 (nameB leaf) _ _ rfl (by decide); exact Nat.le_of_ble_eq_true rfl
       dsimp only [Nat.reduceAdd, Nat.reduceMul, Nat.reduceSub, List.nil_append, List.cons_append, nbk, List.map_cons, List.map_nil]; apply Trc.step rfl rfl
       exact wnt_n rfl; (with_reducible apply s_bld); exact rfl; (focus (dsimp only [splB, cuB, spl, cu, Value.cells, nameC, List.map, List.take, List.drop, List.append, List.length, List.cons_append, List.nil_append, Nat.reduceAdd, List.take_succ_cons, List.take_zero, List.drop_succ_cons, List.drop_zero, List.take_nil, List.drop_nil, List.append_nil, List.length_cons, List.length_nil]; done))
       dsimp only [Nat.reduceAdd, Nat.reduceMul, Nat.reduceSub, List.nil_append, List.cons_append, nbk, List.map_cons, List.map_nil]; apply Trc.step rfl rfl
       exact wnt_n rfl; (with_reducible apply s_lit); apply PA.cons; exact rfl; exact rfl; exact rfl; exact PA.nil; exact rfl; omega; dsimp only [Nat.reduceAdd, Nat.reduceMul, Nat.reduceSub, List.nil_append, List.cons_append, nbk, List.map_cons, List.map_nil]
       apply Trc.step rfl rfl; exact wnt_n rfl; (with_reducible apply s_assign); exact rfl; dsimp only [Nat.reduceAdd, Nat.reduceMul, Nat.reduceSub, List.nil_append, List.cons_append, nbk, List.map_cons, List.map_nil]
       exact Trc.done _ _ _; kernel_rfl; exact rfl; (with_reducible refine thn_n ?_); (with_reducible refine Gol.ret ?_); (with_reducible refine thn_r ?_))
      (apply RetQ.mk (by first | exact .inr rfl | exact .inl rfl); apply res_1 rfl; exact res_tmp rfl; exact out_sl rfl)
    have h2 : 2 ≤ n := by omega
    have hsp := split_bd n h2
    refine Fresh.of (fn := Try.f20) Try.func20 rfl (Nat.le_of_ble_eq_true rfl) fun w => ?_
    ((with_reducible refine Gol.seq ?_); (with_reducible apply Gol.region); apply Trc.step rfl rfl; exact wnt_n rfl; (with_reducible apply s_box); exact rfl
     exact rfl; dsimp only [Nat.reduceAdd, Nat.reduceMul, Nat.reduceSub, List.nil_append, List.cons_append, nbk, List.map_cons, List.map_nil]; apply Trc.step rfl rfl
     exact wnt_n rfl; (with_reducible apply s_assign); exact rfl; dsimp only [Nat.reduceAdd, Nat.reduceMul, Nat.reduceSub, List.nil_append, List.cons_append, nbk, List.map_cons, List.map_nil]
     exact Trc.done _ _ _; exact rfl; (with_reducible refine thn_n ?_); (with_reducible refine Gol.seq ?_); (with_reducible refine Gol.seq ?_); (with_reducible apply Gol.region)
     apply Trc.step rfl rfl; exact wnt_n rfl; (with_reducible apply s_move); exact rfl; dsimp only [Nat.reduceAdd, Nat.reduceMul, Nat.reduceSub, List.nil_append, List.cons_append, nbk, List.map_cons, List.map_nil]
     apply Trc.step rfl rfl; exact wnt_n rfl; (with_reducible apply s_eqn); exact rfl; exact rfl; dsimp only [Nat.reduceAdd, Nat.reduceMul, Nat.reduceSub, List.nil_append, List.cons_append, nbk, List.map_cons, List.map_nil]
     exact Trc.done _ _ _; exact rfl; (with_reducible refine thn_n ?_))
    refine Gol.cond_f rfl (decide_eq_false h1) ?_
    ((with_reducible refine Gol.skip ?_); (with_reducible refine thn_n ?_); (with_reducible refine Gol.seq ?_); (with_reducible apply Gol.region); apply Trc.step rfl rfl
     exact wnt_n rfl; (with_reducible apply s_assign); exact rfl; dsimp only [Nat.reduceAdd, Nat.reduceMul, Nat.reduceSub, List.nil_append, List.cons_append, nbk, List.map_cons, List.map_nil]
     exact Trc.done _ _ _; exact rfl; (with_reducible refine thn_n ?_); (with_reducible refine Gol.seq ?_); (with_reducible refine Gol.block ?_))
    refine Gol.loop (ι := Nat) (fun k => 0 < k ∧ k ≤ n ∧ spl2 n k = splitN n) (fun k => n - k) 40 (fun k => [(0, some ⟨cu (.v (.agg (nameC leaf))), 26, 8⟩)]) (fun k => [(9, .v (.int .i64 (k : Int))), (4, .pt 0 0), (1, .v (.int .i64 (i : Int))), (2, .v (.int .i64 (n : Int))), (3, .ex d f (byA (flat p)))]) 1 ⟨by decide, by omega, rfl⟩ ?_ ?_
    · (apply Le.mk' []; apply RnT.c; exact rfl; exact Rn.v rfl; apply RnT.c; exact rfl; exact Rn.pt rfl rfl; apply RnT.c; exact rfl; exact Rn.v rfl; apply RnT.c
       exact rfl; exact Rn.v rfl; apply RnT.c; exact rfl; exact Rn.clo inferInstance rfl; exact RnT.n; apply RnH.c; exact rfl; exact rfl; rfl; exact rfl; exact rfl
       exact RnH.n; exact rfl)
    rintro k ⟨g0, g1, g2⟩
    ((with_reducible refine Gol.seq ?_); (with_reducible refine Gol.seq ?_); (with_reducible apply Gol.region); apply Trc.step rfl rfl; exact wnt_n rfl; (with_reducible apply s_move)
     exact rfl; dsimp only [Nat.reduceAdd, Nat.reduceMul, Nat.reduceSub, List.nil_append, List.cons_append, nbk, List.map_cons, List.map_nil]; apply Trc.step rfl rfl
     exact wnt_n rfl; (with_reducible apply s_move); exact rfl; dsimp only [Nat.reduceAdd, Nat.reduceMul, Nat.reduceSub, List.nil_append, List.cons_append, nbk, List.map_cons, List.map_nil]
     apply Trc.step rfl rfl; exact wnt_n rfl; (with_reducible apply s_move); exact rfl; dsimp only [Nat.reduceAdd, Nat.reduceMul, Nat.reduceSub, List.nil_append, List.cons_append, nbk, List.map_cons, List.map_nil]
     apply Trc.step rfl rfl; exact wnt_n rfl; (with_reducible apply s_subn); exact rfl; exact rfl; omega; omega; dsimp only [Nat.reduceAdd, Nat.reduceMul, Nat.reduceSub, List.nil_append, List.cons_append, nbk, List.map_cons, List.map_nil]
     apply Trc.step rfl rfl; exact wnt_n rfl; (with_reducible apply s_ltn); exact rfl; exact rfl; dsimp only [Nat.reduceAdd, Nat.reduceMul, Nat.reduceSub, List.nil_append, List.cons_append, nbk, List.map_cons, List.map_nil]
     exact Trc.done _ _ _; exact rfl; (with_reducible refine thn_n ?_))
    refine Gol.cond rfl (fun h => ?_) (fun h => ?_)
    · have hlt : k < n - k := of_decide_eq_true h
      ((with_reducible refine Gol.skip ?_); (with_reducible refine thn_n ?_); (with_reducible refine Gol.block ?_); (with_reducible apply Gol.region); apply Trc.step rfl rfl
       exact wnt_n rfl; (with_reducible apply s_move); exact rfl; dsimp only [Nat.reduceAdd, Nat.reduceMul, Nat.reduceSub, List.nil_append, List.cons_append, nbk, List.map_cons, List.map_nil]
       apply Trc.step rfl rfl; exact wnt_n rfl; (with_reducible apply s_muln); exact rfl; exact rfl; simp <;> omega; dsimp only [Nat.reduceAdd, Nat.reduceMul, Nat.reduceSub, List.nil_append, List.cons_append, nbk, List.map_cons, List.map_nil]
       apply Trc.step rfl rfl; exact wnt_n rfl; (with_reducible apply s_assign); exact rfl; dsimp only [Nat.reduceAdd, Nat.reduceMul, Nat.reduceSub, List.nil_append, List.cons_append, nbk, List.map_cons, List.map_nil]
       exact Trc.done _ _ _; exact rfl; (with_reducible refine inBlk_n ?_))
      refine rnd_n (2 * k) ⟨by omega, by omega, by rw [← g2, spl2_step hlt g0]⟩ (by omega) ?_
      (apply Le.mk' []; apply RnT.c; exact rfl; exact Rn.v rfl; apply RnT.c; exact rfl; exact Rn.pt rfl rfl; apply RnT.c; exact rfl; exact Rn.v rfl; apply RnT.c
       exact rfl; exact Rn.v rfl; apply RnT.c; exact rfl; exact Rn.clo inferInstance rfl; exact RnT.n; apply RnH.c; exact rfl; exact rfl; rfl; exact rfl; exact rfl
       exact RnH.n; exact rfl)
    have hge : ¬ k < n - k := of_decide_eq_false h
    obtain rfl : k = splitN n := by rw [← g2, spl2_end hge]
    by_cases hk' : i < splitN n
    · have hdd := dep_lo h2 hk'
      have hlo : ∀ ff, Fresh Try.prog 20 [.v (.agg (nameC leaf)), .v (.int .i64 (i : Int)), .v (.int .i64 (splitN n : Int)), .ex (d - 1 - 0) ff (List.take ((d - 1 - 0) * 8) (List.drop 0 (byA (flat p))))] (fun k => .sl k (d - 1 + 1)) [⟨cellsS (stepsN S leaf i (splitN n) (p.take (d - 1))), 38, 9⟩] := fun ff => by
        rw [seg_lo]; exact ih _ (by omega) i _ ff _ hk' (by omega) (by omega) (by simp; omega) (by omega)
      have hsl := steps_len S (splitN n) leaf i (p.take (d - 1))
      have hcl := cellsS_length (stepsN S leaf i (splitN n) (p.take (d - 1)))
      have hlast := steps_last S (splitN n) leaf i (p.take (d - 1))
      rw [show depN i (splitN n) + 1 - 1 = d - 1 + 1 - 1 by omega] at hlast
      rw [steps_lo S h2 hk', comp_lo S h2 hk', ← hd, ← grow_cs]
      ((with_reducible refine Gol.exit ?_); (with_reducible refine thn_x ?_); (with_reducible refine rnd_x ?_); (with_reducible refine inBlk_hit ?_); (with_reducible refine thn_n ?_)
       (with_reducible refine Gol.seq ?_); (with_reducible apply Gol.region); apply Trc.step rfl rfl; exact wnt_n rfl; (with_reducible apply s_move); exact rfl
       dsimp only [Nat.reduceAdd, Nat.reduceMul, Nat.reduceSub, List.nil_append, List.cons_append, nbk, List.map_cons, List.map_nil]; apply Trc.step rfl rfl
       exact wnt_n rfl; (with_reducible apply s_move); exact rfl; dsimp only [Nat.reduceAdd, Nat.reduceMul, Nat.reduceSub, List.nil_append, List.cons_append, nbk, List.map_cons, List.map_nil]
       apply Trc.step rfl rfl; exact wnt_n rfl; (with_reducible apply s_len); exact rfl; exact ln_ex; dsimp only [Nat.reduceAdd, Nat.reduceMul, Nat.reduceSub, List.nil_append, List.cons_append, nbk, List.map_cons, List.map_nil]
       apply Trc.step rfl rfl; exact wnt_n rfl; (with_reducible apply s_subn); exact rfl; exact rfl; simp <;> omega; omega; dsimp only [Nat.reduceAdd, Nat.reduceMul, Nat.reduceSub, List.nil_append, List.cons_append, nbk, List.map_cons, List.map_nil]
       apply Trc.step rfl rfl; exact wnt_n rfl; (with_reducible apply s_ixe); exact rfl; exact rfl; omega; exact flat_ne (by omega); dsimp only [Nat.reduceAdd, Nat.reduceMul, Nat.reduceSub, List.nil_append, List.cons_append, nbk, List.map_cons, List.map_nil]
       apply Trc.step rfl rfl; exact wnt_n rfl; (with_reducible apply s_loadEN); exact rfl; simp only [byA_length, List.length_append, List.length_cons, List.length_nil, List.length_take, List.length_drop, List.length_replicate, List.length_map, Nat.mul_one, nameB_length, flat_length, List.length_set, inA_length] <;> omega
       exact agu_nm (by omega); dsimp only [Nat.reduceAdd, Nat.reduceMul, Nat.reduceSub, List.nil_append, List.cons_append, nbk, List.map_cons, List.map_nil]
       apply Trc.step rfl rfl; exact wnt_n rfl; (with_reducible apply s_alloc); dsimp only [Nat.reduceAdd, Nat.reduceMul, Nat.reduceSub, List.nil_append, List.cons_append, nbk, List.map_cons, List.map_nil]
       apply Trc.stepN rfl rfl; exact wnt_n rfl; (with_reducible apply s_storeW); exact rfl; exact rfl; exact rfl; exact rfl; rfl; exact rfl; dsimp only [Nat.reduceAdd, Nat.reduceMul, Nat.reduceSub, List.nil_append, List.cons_append, nbk, List.map_cons, List.map_nil]
       exact Trc.done _ _ _; exact rfl; (with_reducible refine thn_n ?_); (with_reducible refine Gol.seq ?_); (with_reducible apply Gol.region); apply Trc.step rfl rfl
       exact wnt_n rfl; (with_reducible apply s_assign); exact rfl; dsimp only [Nat.reduceAdd, Nat.reduceMul, Nat.reduceSub, List.nil_append, List.cons_append, nbk, List.map_cons, List.map_nil]
       exact Trc.done _ _ _; exact rfl; (with_reducible refine thn_n ?_); (with_reducible refine Gol.seq ?_); (with_reducible apply Gol.any); kernel_rfl; apply Trc.step rfl rfl
       exact wnt_n rfl; (with_reducible apply s_loadW); exact rfl; exact rfl; exact rfl; exact agu_cuv _; dsimp only [Nat.reduceAdd, Nat.reduceMul, Nat.reduceSub, List.nil_append, List.cons_append, nbk, List.map_cons, List.map_nil]
       apply Trc.step rfl rfl; exact wnt_n rfl; (with_reducible apply s_loadW); exact rfl; exact rfl; exact rfl; exact agu_cuv _; dsimp only [Nat.reduceAdd, Nat.reduceMul, Nat.reduceSub, List.nil_append, List.cons_append, nbk, List.map_cons, List.map_nil]
       apply Trc.step rfl rfl; exact wnt_n rfl; (with_reducible apply s_alloc); dsimp only [Nat.reduceAdd, Nat.reduceMul, Nat.reduceSub, List.nil_append, List.cons_append, nbk, List.map_cons, List.map_nil]
       apply Trc.step rfl rfl; exact wnt_n rfl; (with_reducible apply s_alloc); dsimp only [Nat.reduceAdd, Nat.reduceMul, Nat.reduceSub, List.nil_append, List.cons_append, nbk, List.map_cons, List.map_nil]
       apply Trc.stepN rfl rfl; exact wnt_n rfl; (with_reducible apply s_storeW); exact rfl; exact rfl; exact rfl; exact rfl; rfl; exact rfl; dsimp only [Nat.reduceAdd, Nat.reduceMul, Nat.reduceSub, List.nil_append, List.cons_append, nbk, List.map_cons, List.map_nil]
       apply Trc.stepN rfl rfl; exact wnt_n rfl; (with_reducible apply s_storeW); exact rfl; exact rfl; exact rfl; exact rfl; rfl; exact rfl; dsimp only [Nat.reduceAdd, Nat.reduceMul, Nat.reduceSub, List.nil_append, List.cons_append, nbk, List.map_cons, List.map_nil]
       exact Trc.done _ _ _; kernel_rfl; exact rfl; (with_reducible refine thn_n ?_); (with_reducible refine Gol.seq ?_); (with_reducible refine Gol.seq ?_)
       (with_reducible apply Gol.region); apply Trc.step rfl rfl; exact wnt_n rfl; (with_reducible apply s_move); exact rfl; dsimp only [Nat.reduceAdd, Nat.reduceMul, Nat.reduceSub, List.nil_append, List.cons_append, nbk, List.map_cons, List.map_nil]
       apply Trc.step rfl rfl; exact wnt_n rfl; (with_reducible apply s_move); exact rfl; dsimp only [Nat.reduceAdd, Nat.reduceMul, Nat.reduceSub, List.nil_append, List.cons_append, nbk, List.map_cons, List.map_nil]
       apply Trc.step rfl rfl; exact wnt_n rfl; (with_reducible apply s_ltn); exact rfl; exact rfl; dsimp only [Nat.reduceAdd, Nat.reduceMul, Nat.reduceSub, List.nil_append, List.cons_append, nbk, List.map_cons, List.map_nil]
       exact Trc.done _ _ _; exact rfl; (with_reducible refine thn_n ?_))
      refine Gol.cond_t rfl (decide_eq_true hk') ?_
      ((with_reducible refine Gol.seq ?_); (with_reducible apply Gol.any); kernel_rfl; apply Trc.step rfl rfl; exact wnt_n rfl; (with_reducible apply s_loadW)
       exact rfl; exact rfl; exact rfl; exact agu_cuv _; dsimp only [Nat.reduceAdd, Nat.reduceMul, Nat.reduceSub, List.nil_append, List.cons_append, nbk, List.map_cons, List.map_nil]
       apply Trc.step rfl rfl; exact wnt_n rfl; (with_reducible apply s_move); exact rfl; dsimp only [Nat.reduceAdd, Nat.reduceMul, Nat.reduceSub, List.nil_append, List.cons_append, nbk, List.map_cons, List.map_nil]
       apply Trc.step rfl rfl; exact wnt_n rfl; (with_reducible apply s_move); exact rfl; dsimp only [Nat.reduceAdd, Nat.reduceMul, Nat.reduceSub, List.nil_append, List.cons_append, nbk, List.map_cons, List.map_nil]
       apply Trc.step rfl rfl; exact wnt_n rfl; (with_reducible apply s_move); exact rfl; dsimp only [Nat.reduceAdd, Nat.reduceMul, Nat.reduceSub, List.nil_append, List.cons_append, nbk, List.map_cons, List.map_nil]
       apply Trc.step rfl rfl; exact wnt_n rfl; (with_reducible apply s_move); exact rfl; dsimp only [Nat.reduceAdd, Nat.reduceMul, Nat.reduceSub, List.nil_append, List.cons_append, nbk, List.map_cons, List.map_nil]
       apply Trc.step rfl rfl; exact wnt_n rfl; (with_reducible apply s_len); exact rfl; exact ln_ex; dsimp only [Nat.reduceAdd, Nat.reduceMul, Nat.reduceSub, List.nil_append, List.cons_append, nbk, List.map_cons, List.map_nil]
       apply Trc.step rfl rfl; exact wnt_n rfl; (with_reducible apply s_subn); exact rfl; exact rfl; simp <;> omega; omega; dsimp only [Nat.reduceAdd, Nat.reduceMul, Nat.reduceSub, List.nil_append, List.cons_append, nbk, List.map_cons, List.map_nil]
       apply Trc.step rfl rfl; exact wnt_n rfl; (with_reducible apply s_slE); exact rfl; exact rfl; exact ⟨_, rfl⟩; omega; omega; simp only [byA_length, List.length_append, List.length_cons, List.length_nil, List.length_take, List.length_drop, List.length_replicate, List.length_map, Nat.mul_one, nameB_length, flat_length, List.length_set, inA_length] <;> omega
       dsimp only [Nat.reduceAdd, Nat.reduceMul, Nat.reduceSub, List.nil_append, List.cons_append, nbk, List.map_cons, List.map_nil]; apply Trc.step rfl rfl
       exact wnt_n rfl; apply s_call (f := 20) rfl; apply evs.cons rfl; apply evs.cons rfl; apply evs.cons rfl; apply evs.cons rfl
       exact evs.nil; apply ArgL.cons; exact arg_clo; apply ArgL.cons; exact arg_clo; apply ArgL.cons; exact arg_clo; apply ArgL.cons; exact arg_clo; exact ArgL.nil
       exact hlo _; exact Nat.le_of_ble_eq_true rfl; dsimp only [Nat.reduceAdd, Nat.reduceMul, Nat.reduceSub, List.nil_append, List.cons_append, nbk, List.map_cons, List.map_nil]
       apply Trc.step rfl rfl; exact wnt_n rfl; (with_reducible apply s_assign); exact rfl; dsimp only [Nat.reduceAdd, Nat.reduceMul, Nat.reduceSub, List.nil_append, List.cons_append, nbk, List.map_cons, List.map_nil]
       exact Trc.done _ _ _; kernel_rfl; exact rfl; (with_reducible refine thn_n ?_); (with_reducible apply Gol.region); apply Trc.step rfl rfl; exact wnt_n rfl
       (with_reducible apply s_move); exact rfl; dsimp only [Nat.reduceAdd, Nat.reduceMul, Nat.reduceSub, List.nil_append, List.cons_append, nbk, List.map_cons, List.map_nil]
       apply Trc.step rfl rfl; exact wnt_n rfl; (with_reducible apply s_move); exact rfl; dsimp only [Nat.reduceAdd, Nat.reduceMul, Nat.reduceSub, List.nil_append, List.cons_append, nbk, List.map_cons, List.map_nil]
       apply Trc.step rfl rfl; exact wnt_n rfl; (with_reducible apply s_len); exact rfl; exact ln_sl; dsimp only [Nat.reduceAdd, Nat.reduceMul, Nat.reduceSub, List.nil_append, List.cons_append, nbk, List.map_cons, List.map_nil]
       apply Trc.step rfl rfl; exact wnt_n rfl; (with_reducible apply s_subn); exact rfl; exact rfl; simp <;> omega; omega; dsimp only [Nat.reduceAdd, Nat.reduceMul, Nat.reduceSub, List.nil_append, List.cons_append, nbk, List.map_cons, List.map_nil]
       apply Trc.step rfl rfl; exact wnt_n rfl; (with_reducible apply s_ixl); exact rfl; exact rfl; exact rfl; omega; dsimp only [Nat.reduceAdd, Nat.reduceMul, Nat.reduceSub, List.nil_append, List.cons_append, nbk, List.map_cons, List.map_nil]
       apply Trc.step rfl rfl; exact wnt_n rfl; (with_reducible apply s_fieldAddr); exact rfl; dsimp only [Nat.reduceAdd, Nat.reduceMul, Nat.reduceSub, List.nil_append, List.cons_append, nbk, List.map_cons, List.map_nil]
       apply Trc.step rfl rfl; exact wnt_n rfl; apply s_loadN; exact rfl; exact rfl; simp only [cellsS_length]; omega; exact cs_out _ _ (by omega); dsimp only [Nat.reduceAdd, Nat.reduceMul, Nat.reduceSub, List.nil_append, List.cons_append, nbk, List.map_cons, List.map_nil]
       apply Trc.stepN rfl rfl; exact wnt_n rfl; (with_reducible apply s_storeW); exact rfl; exact rfl; exact rfl; exact rfl; rfl; exact rfl; dsimp only [Nat.reduceAdd, Nat.reduceMul, Nat.reduceSub, List.nil_append, List.cons_append, nbk, List.map_cons, List.map_nil]
       exact Trc.done _ _ _; exact rfl; (with_reducible refine thn_n ?_); (with_reducible refine Gol.seq ?_); (with_reducible apply Gol.any); kernel_rfl; apply Trc.step rfl rfl
       exact wnt_n rfl; (with_reducible apply s_move); exact rfl; dsimp only [Nat.reduceAdd, Nat.reduceMul, Nat.reduceSub, List.nil_append, List.cons_append, nbk, List.map_cons, List.map_nil]
       apply Trc.step rfl rfl; exact wnt_n rfl; (with_reducible apply s_slA); exact rfl; exact rfl; exact rfl; exact rfl; simp; omega; omega; omega; dsimp only [Nat.reduceAdd, Nat.reduceMul, Nat.reduceSub, List.nil_append, List.cons_append, nbk, List.map_cons, List.map_nil]
       apply Trc.step rfl rfl; exact wnt_n rfl; (with_reducible apply s_string); exact rfl; exact rd_name rfl rfl; exact rfl; dsimp only [Nat.reduceAdd, Nat.reduceMul, Nat.reduceSub, List.nil_append, List.cons_append, nbk, List.map_cons, List.map_nil]
       apply Trc.step rfl rfl; exact wnt_n rfl; (with_reducible apply s_slA); exact rfl; exact rfl; exact rfl; exact rfl; simp; omega; omega; omega; dsimp only [Nat.reduceAdd, Nat.reduceMul, Nat.reduceSub, List.nil_append, List.cons_append, nbk, List.map_cons, List.map_nil]
       apply Trc.step rfl rfl; exact wnt_n rfl; (with_reducible apply s_string); exact rfl; exact rd_name rfl rfl; exact rfl; dsimp only [Nat.reduceAdd, Nat.reduceMul, Nat.reduceSub, List.nil_append, List.cons_append, nbk, List.map_cons, List.map_nil]
       apply Trc.step rfl rfl; exact wnt_n rfl; (with_reducible apply s_cat); exact rfl; exact rfl; exact Nat.le_of_ble_eq_true rfl; dsimp only [Nat.reduceAdd, Nat.reduceMul, Nat.reduceSub, List.nil_append, List.cons_append, nbk, List.map_cons, List.map_nil]
       apply Trc.step rfl rfl; exact wnt_n rfl; (with_reducible apply s_loadW); exact rfl; exact rfl; exact rfl; exact agu_cuv _; dsimp only [Nat.reduceAdd, Nat.reduceMul, Nat.reduceSub, List.nil_append, List.cons_append, nbk, List.map_cons, List.map_nil]
       apply Trc.step rfl rfl; exact wnt_n rfl; (with_reducible apply s_loadW); exact rfl; exact rfl; exact rfl; exact agu_cuv _; dsimp only [Nat.reduceAdd, Nat.reduceMul, Nat.reduceSub, List.nil_append, List.cons_append, nbk, List.map_cons, List.map_nil]
       apply Trc.step rfl rfl; exact wnt_n rfl; apply s_call (f := 33) rfl; apply evs.cons rfl; apply evs.cons rfl; apply evs.cons rfl
       exact evs.nil; apply ArgL.cons; exact arg_clo; apply ArgL.cons; exact arg_clo; apply ArgL.cons; exact arg_clo; exact ArgL.nil; exact refPair_ok S hS 0x12 _ _
       exact Nat.le_of_ble_eq_true rfl; dsimp only [Nat.reduceAdd, Nat.reduceMul, Nat.reduceSub, List.nil_append, List.cons_append, nbk, List.map_cons, List.map_nil]
       apply Trc.step rfl rfl; exact wnt_n rfl; (with_reducible apply s_bld); exact rfl; (focus (dsimp only [splB, cuB, spl, cu, Value.cells, nameC, List.map, List.take, List.drop, List.append, List.length, List.cons_append, List.nil_append, Nat.reduceAdd, List.take_succ_cons, List.take_zero, List.drop_succ_cons, List.drop_zero, List.take_nil, List.drop_nil, List.append_nil, List.length_cons, List.length_nil]; done))
       dsimp only [Nat.reduceAdd, Nat.reduceMul, Nat.reduceSub, List.nil_append, List.cons_append, nbk, List.map_cons, List.map_nil]; apply Trc.step rfl rfl
       exact wnt_n rfl; (with_reducible apply s_lit); apply PA.cons; exact rfl; exact rfl; exact rfl; exact PA.nil; exact rfl; omega; dsimp only [Nat.reduceAdd, Nat.reduceMul, Nat.reduceSub, List.nil_append, List.cons_append, nbk, List.map_cons, List.map_nil]
       apply Trc.step rfl rfl; exact wnt_n rfl; (with_reducible apply s_app); exact rfl; exact rfl; exact rfl; apply rd_sl rfl; rfl; simp only [byA_length, List.length_append, List.length_cons, List.length_nil, List.length_take, List.length_drop, List.length_replicate, List.length_map, Nat.mul_one, nameB_length, flat_length, List.length_set, inA_length] <;> omega
       exact rfl; exact rfl; rfl; omega; dsimp only [Nat.reduceAdd, Nat.reduceMul, Nat.reduceSub, List.nil_append, List.cons_append, nbk, List.map_cons, List.map_nil]
       apply Trc.step rfl rfl; exact wnt_n rfl; (with_reducible apply s_assign); exact rfl; dsimp only [Nat.reduceAdd, Nat.reduceMul, Nat.reduceSub, List.nil_append, List.cons_append, nbk, List.map_cons, List.map_nil]
       exact Trc.done _ _ _; kernel_rfl; exact rfl; (with_reducible refine thn_n ?_); (with_reducible refine Gol.ret ?_))
      rw [hlast, show d - 1 + 1 + 1 = d + 1 by omega]
      (apply RetQ.mk (by first | exact .inr rfl | exact .inl rfl); apply res_1 rfl; exact res_tmp rfl; exact out_sl rfl)
    · have hdd := dep_hi h2 hk'
      have hhi : ∀ ff, Fresh Try.prog 20 [.v (.agg (nameC leaf)), .v (.int .i64 ((i - splitN n : Nat) : Int)), .v (.int .i64 ((n - splitN n : Nat) : Int)), .ex (d - 1 - 0) ff (List.take ((d - 1 - 0) * 8) (List.drop 0 (byA (flat p))))] (fun k => .sl k (d - 1 + 1)) [⟨cellsS (stepsN S leaf (i - splitN n) (n - splitN n) (p.take (d - 1))), 38, 9⟩] := fun ff => by
        rw [seg_lo]; exact ih _ (by omega) _ _ ff _ (by omega) (by omega) (by omega) (by simp; omega) (by omega)
      have hsl := steps_len S (n - splitN n) leaf (i - splitN n) (p.take (d - 1))
      have hcl := cellsS_length (stepsN S leaf (i - splitN n) (n - splitN n) (p.take (d - 1)))
      have hlast := steps_last S (n - splitN n) leaf (i - splitN n) (p.take (d - 1))
      rw [show depN (i - splitN n) (n - splitN n) + 1 - 1 = d - 1 + 1 - 1 by omega] at hlast
      rw [steps_hi S h2 hk', comp_hi S h2 hk', ← hd, ← grow_cs]
      ((with_reducible refine Gol.exit ?_); (with_reducible refine thn_x ?_); (with_reducible refine rnd_x ?_); (with_reducible refine inBlk_hit ?_); (with_reducible refine thn_n ?_)
       (with_reducible refine Gol.seq ?_); (with_reducible apply Gol.region); apply Trc.step rfl rfl; exact wnt_n rfl; (with_reducible apply s_move); exact rfl
       dsimp only [Nat.reduceAdd, Nat.reduceMul, Nat.reduceSub, List.nil_append, List.cons_append, nbk, List.map_cons, List.map_nil]; apply Trc.step rfl rfl
       exact wnt_n rfl; (with_reducible apply s_move); exact rfl; dsimp only [Nat.reduceAdd, Nat.reduceMul, Nat.reduceSub, List.nil_append, List.cons_append, nbk, List.map_cons, List.map_nil]
       apply Trc.step rfl rfl; exact wnt_n rfl; (with_reducible apply s_len); exact rfl; exact ln_ex; dsimp only [Nat.reduceAdd, Nat.reduceMul, Nat.reduceSub, List.nil_append, List.cons_append, nbk, List.map_cons, List.map_nil]
       apply Trc.step rfl rfl; exact wnt_n rfl; (with_reducible apply s_subn); exact rfl; exact rfl; simp <;> omega; omega; dsimp only [Nat.reduceAdd, Nat.reduceMul, Nat.reduceSub, List.nil_append, List.cons_append, nbk, List.map_cons, List.map_nil]
       apply Trc.step rfl rfl; exact wnt_n rfl; (with_reducible apply s_ixe); exact rfl; exact rfl; omega; exact flat_ne (by omega); dsimp only [Nat.reduceAdd, Nat.reduceMul, Nat.reduceSub, List.nil_append, List.cons_append, nbk, List.map_cons, List.map_nil]
       apply Trc.step rfl rfl; exact wnt_n rfl; (with_reducible apply s_loadEN); exact rfl; simp only [byA_length, List.length_append, List.length_cons, List.length_nil, List.length_take, List.length_drop, List.length_replicate, List.length_map, Nat.mul_one, nameB_length, flat_length, List.length_set, inA_length] <;> omega
       exact agu_nm (by omega); dsimp only [Nat.reduceAdd, Nat.reduceMul, Nat.reduceSub, List.nil_append, List.cons_append, nbk, List.map_cons, List.map_nil]
       apply Trc.step rfl rfl; exact wnt_n rfl; (with_reducible apply s_alloc); dsimp only [Nat.reduceAdd, Nat.reduceMul, Nat.reduceSub, List.nil_append, List.cons_append, nbk, List.map_cons, List.map_nil]
       apply Trc.stepN rfl rfl; exact wnt_n rfl; (with_reducible apply s_storeW); exact rfl; exact rfl; exact rfl; exact rfl; rfl; exact rfl; dsimp only [Nat.reduceAdd, Nat.reduceMul, Nat.reduceSub, List.nil_append, List.cons_append, nbk, List.map_cons, List.map_nil]
       exact Trc.done _ _ _; exact rfl; (with_reducible refine thn_n ?_); (with_reducible refine Gol.seq ?_); (with_reducible apply Gol.region); apply Trc.step rfl rfl
       exact wnt_n rfl; (with_reducible apply s_assign); exact rfl; dsimp only [Nat.reduceAdd, Nat.reduceMul, Nat.reduceSub, List.nil_append, List.cons_append, nbk, List.map_cons, List.map_nil]
       exact Trc.done _ _ _; exact rfl; (with_reducible refine thn_n ?_); (with_reducible refine Gol.seq ?_); (with_reducible apply Gol.any); kernel_rfl; apply Trc.step rfl rfl
       exact wnt_n rfl; (with_reducible apply s_loadW); exact rfl; exact rfl; exact rfl; exact agu_cuv _; dsimp only [Nat.reduceAdd, Nat.reduceMul, Nat.reduceSub, List.nil_append, List.cons_append, nbk, List.map_cons, List.map_nil]
       apply Trc.step rfl rfl; exact wnt_n rfl; (with_reducible apply s_loadW); exact rfl; exact rfl; exact rfl; exact agu_cuv _; dsimp only [Nat.reduceAdd, Nat.reduceMul, Nat.reduceSub, List.nil_append, List.cons_append, nbk, List.map_cons, List.map_nil]
       apply Trc.step rfl rfl; exact wnt_n rfl; (with_reducible apply s_alloc); dsimp only [Nat.reduceAdd, Nat.reduceMul, Nat.reduceSub, List.nil_append, List.cons_append, nbk, List.map_cons, List.map_nil]
       apply Trc.step rfl rfl; exact wnt_n rfl; (with_reducible apply s_alloc); dsimp only [Nat.reduceAdd, Nat.reduceMul, Nat.reduceSub, List.nil_append, List.cons_append, nbk, List.map_cons, List.map_nil]
       apply Trc.stepN rfl rfl; exact wnt_n rfl; (with_reducible apply s_storeW); exact rfl; exact rfl; exact rfl; exact rfl; rfl; exact rfl; dsimp only [Nat.reduceAdd, Nat.reduceMul, Nat.reduceSub, List.nil_append, List.cons_append, nbk, List.map_cons, List.map_nil]
       apply Trc.stepN rfl rfl; exact wnt_n rfl; (with_reducible apply s_storeW); exact rfl; exact rfl; exact rfl; exact rfl; rfl; exact rfl; dsimp only [Nat.reduceAdd, Nat.reduceMul, Nat.reduceSub, List.nil_append, List.cons_append, nbk, List.map_cons, List.map_nil]
       exact Trc.done _ _ _; kernel_rfl; exact rfl; (with_reducible refine thn_n ?_); (with_reducible refine Gol.seq ?_); (with_reducible refine Gol.seq ?_)
       (with_reducible apply Gol.region); apply Trc.step rfl rfl; exact wnt_n rfl; (with_reducible apply s_move); exact rfl; dsimp only [Nat.reduceAdd, Nat.reduceMul, Nat.reduceSub, List.nil_append, List.cons_append, nbk, List.map_cons, List.map_nil]
       apply Trc.step rfl rfl; exact wnt_n rfl; (with_reducible apply s_move); exact rfl; dsimp only [Nat.reduceAdd, Nat.reduceMul, Nat.reduceSub, List.nil_append, List.cons_append, nbk, List.map_cons, List.map_nil]
       apply Trc.step rfl rfl; exact wnt_n rfl; (with_reducible apply s_ltn); exact rfl; exact rfl; dsimp only [Nat.reduceAdd, Nat.reduceMul, Nat.reduceSub, List.nil_append, List.cons_append, nbk, List.map_cons, List.map_nil]
       exact Trc.done _ _ _; exact rfl; (with_reducible refine thn_n ?_))
      refine Gol.cond_f rfl (decide_eq_false hk') ?_
      ((with_reducible refine Gol.seq ?_); (with_reducible apply Gol.any); kernel_rfl; apply Trc.step rfl rfl; exact wnt_n rfl; (with_reducible apply s_loadW)
       exact rfl; exact rfl; exact rfl; exact agu_cuv _; dsimp only [Nat.reduceAdd, Nat.reduceMul, Nat.reduceSub, List.nil_append, List.cons_append, nbk, List.map_cons, List.map_nil]
       apply Trc.step rfl rfl; exact wnt_n rfl; (with_reducible apply s_move); exact rfl; dsimp only [Nat.reduceAdd, Nat.reduceMul, Nat.reduceSub, List.nil_append, List.cons_append, nbk, List.map_cons, List.map_nil]
       apply Trc.step rfl rfl; exact wnt_n rfl; (with_reducible apply s_move); exact rfl; dsimp only [Nat.reduceAdd, Nat.reduceMul, Nat.reduceSub, List.nil_append, List.cons_append, nbk, List.map_cons, List.map_nil]
       apply Trc.step rfl rfl; exact wnt_n rfl; (with_reducible apply s_subn); exact rfl; exact rfl; omega; omega; dsimp only [Nat.reduceAdd, Nat.reduceMul, Nat.reduceSub, List.nil_append, List.cons_append, nbk, List.map_cons, List.map_nil]
       apply Trc.step rfl rfl; exact wnt_n rfl; (with_reducible apply s_move); exact rfl; dsimp only [Nat.reduceAdd, Nat.reduceMul, Nat.reduceSub, List.nil_append, List.cons_append, nbk, List.map_cons, List.map_nil]
       apply Trc.step rfl rfl; exact wnt_n rfl; (with_reducible apply s_move); exact rfl; dsimp only [Nat.reduceAdd, Nat.reduceMul, Nat.reduceSub, List.nil_append, List.cons_append, nbk, List.map_cons, List.map_nil]
       apply Trc.step rfl rfl; exact wnt_n rfl; (with_reducible apply s_subn); exact rfl; exact rfl; omega; omega; dsimp only [Nat.reduceAdd, Nat.reduceMul, Nat.reduceSub, List.nil_append, List.cons_append, nbk, List.map_cons, List.map_nil]
       apply Trc.step rfl rfl; exact wnt_n rfl; (with_reducible apply s_move); exact rfl; dsimp only [Nat.reduceAdd, Nat.reduceMul, Nat.reduceSub, List.nil_append, List.cons_append, nbk, List.map_cons, List.map_nil]
       apply Trc.step rfl rfl; exact wnt_n rfl; (with_reducible apply s_move); exact rfl; dsimp only [Nat.reduceAdd, Nat.reduceMul, Nat.reduceSub, List.nil_append, List.cons_append, nbk, List.map_cons, List.map_nil]
       apply Trc.step rfl rfl; exact wnt_n rfl; (with_reducible apply s_len); exact rfl; exact ln_ex; dsimp only [Nat.reduceAdd, Nat.reduceMul, Nat.reduceSub, List.nil_append, List.cons_append, nbk, List.map_cons, List.map_nil]
       apply Trc.step rfl rfl; exact wnt_n rfl; (with_reducible apply s_subn); exact rfl; exact rfl; simp <;> omega; omega; dsimp only [Nat.reduceAdd, Nat.reduceMul, Nat.reduceSub, List.nil_append, List.cons_append, nbk, List.map_cons, List.map_nil]
       apply Trc.step rfl rfl; exact wnt_n rfl; (with_reducible apply s_slE); exact rfl; exact rfl; exact ⟨_, rfl⟩; omega; omega; simp only [byA_length, List.length_append, List.length_cons, List.length_nil, List.length_take, List.length_drop, List.length_replicate, List.length_map, Nat.mul_one, nameB_length, flat_length, List.length_set, inA_length] <;> omega
       dsimp only [Nat.reduceAdd, Nat.reduceMul, Nat.reduceSub, List.nil_append, List.cons_append, nbk, List.map_cons, List.map_nil]; apply Trc.step rfl rfl
       exact wnt_n rfl; apply s_call (f := 20) rfl; apply evs.cons rfl; apply evs.cons rfl; apply evs.cons rfl; apply evs.cons rfl
       exact evs.nil; apply ArgL.cons; exact arg_clo; apply ArgL.cons; exact arg_clo; apply ArgL.cons; exact arg_clo; apply ArgL.cons; exact arg_clo; exact ArgL.nil
       exact hhi _; exact Nat.le_of_ble_eq_true rfl; dsimp only [Nat.reduceAdd, Nat.reduceMul, Nat.reduceSub, List.nil_append, List.cons_append, nbk, List.map_cons, List.map_nil]
       apply Trc.step rfl rfl; exact wnt_n rfl; (with_reducible apply s_assign); exact rfl; dsimp only [Nat.reduceAdd, Nat.reduceMul, Nat.reduceSub, List.nil_append, List.cons_append, nbk, List.map_cons, List.map_nil]
       exact Trc.done _ _ _; kernel_rfl; exact rfl; (with_reducible refine thn_n ?_); (with_reducible apply Gol.region); apply Trc.step rfl rfl; exact wnt_n rfl
       (with_reducible apply s_move); exact rfl; dsimp only [Nat.reduceAdd, Nat.reduceMul, Nat.reduceSub, List.nil_append, List.cons_append, nbk, List.map_cons, List.map_nil]
       apply Trc.step rfl rfl; exact wnt_n rfl; (with_reducible apply s_move); exact rfl; dsimp only [Nat.reduceAdd, Nat.reduceMul, Nat.reduceSub, List.nil_append, List.cons_append, nbk, List.map_cons, List.map_nil]
       apply Trc.step rfl rfl; exact wnt_n rfl; (with_reducible apply s_len); exact rfl; exact ln_sl; dsimp only [Nat.reduceAdd, Nat.reduceMul, Nat.reduceSub, List.nil_append, List.cons_append, nbk, List.map_cons, List.map_nil]
       apply Trc.step rfl rfl; exact wnt_n rfl; (with_reducible apply s_subn); exact rfl; exact rfl; simp <;> omega; omega; dsimp only [Nat.reduceAdd, Nat.reduceMul, Nat.reduceSub, List.nil_append, List.cons_append, nbk, List.map_cons, List.map_nil]
       apply Trc.step rfl rfl; exact wnt_n rfl; (with_reducible apply s_ixl); exact rfl; exact rfl; exact rfl; omega; dsimp only [Nat.reduceAdd, Nat.reduceMul, Nat.reduceSub, List.nil_append, List.cons_append, nbk, List.map_cons, List.map_nil]
       apply Trc.step rfl rfl; exact wnt_n rfl; (with_reducible apply s_fieldAddr); exact rfl; dsimp only [Nat.reduceAdd, Nat.reduceMul, Nat.reduceSub, List.nil_append, List.cons_append, nbk, List.map_cons, List.map_nil]
       apply Trc.step rfl rfl; exact wnt_n rfl; apply s_loadN; exact rfl; exact rfl; simp only [cellsS_length]; omega; exact cs_out _ _ (by omega); dsimp only [Nat.reduceAdd, Nat.reduceMul, Nat.reduceSub, List.nil_append, List.cons_append, nbk, List.map_cons, List.map_nil]
       apply Trc.stepN rfl rfl; exact wnt_n rfl; (with_reducible apply s_storeW); exact rfl; exact rfl; exact rfl; exact rfl; rfl; exact rfl; dsimp only [Nat.reduceAdd, Nat.reduceMul, Nat.reduceSub, List.nil_append, List.cons_append, nbk, List.map_cons, List.map_nil]
       exact Trc.done _ _ _; exact rfl; (with_reducible refine thn_n ?_); (with_reducible refine Gol.seq ?_); (with_reducible apply Gol.any); kernel_rfl; apply Trc.step rfl rfl
       exact wnt_n rfl; (with_reducible apply s_move); exact rfl; dsimp only [Nat.reduceAdd, Nat.reduceMul, Nat.reduceSub, List.nil_append, List.cons_append, nbk, List.map_cons, List.map_nil]
       apply Trc.step rfl rfl; exact wnt_n rfl; (with_reducible apply s_slA); exact rfl; exact rfl; exact rfl; exact rfl; simp; omega; omega; omega; dsimp only [Nat.reduceAdd, Nat.reduceMul, Nat.reduceSub, List.nil_append, List.cons_append, nbk, List.map_cons, List.map_nil]
       apply Trc.step rfl rfl; exact wnt_n rfl; (with_reducible apply s_string); exact rfl; exact rd_name rfl rfl; exact rfl; dsimp only [Nat.reduceAdd, Nat.reduceMul, Nat.reduceSub, List.nil_append, List.cons_append, nbk, List.map_cons, List.map_nil]
       apply Trc.step rfl rfl; exact wnt_n rfl; (with_reducible apply s_slA); exact rfl; exact rfl; exact rfl; exact rfl; simp; omega; omega; omega; dsimp only [Nat.reduceAdd, Nat.reduceMul, Nat.reduceSub, List.nil_append, List.cons_append, nbk, List.map_cons, List.map_nil]
       apply Trc.step rfl rfl; exact wnt_n rfl; (with_reducible apply s_string); exact rfl; exact rd_name rfl rfl; exact rfl; dsimp only [Nat.reduceAdd, Nat.reduceMul, Nat.reduceSub, List.nil_append, List.cons_append, nbk, List.map_cons, List.map_nil]
       apply Trc.step rfl rfl; exact wnt_n rfl; (with_reducible apply s_cat); exact rfl; exact rfl; exact Nat.le_of_ble_eq_true rfl; dsimp only [Nat.reduceAdd, Nat.reduceMul, Nat.reduceSub, List.nil_append, List.cons_append, nbk, List.map_cons, List.map_nil]
       apply Trc.step rfl rfl; exact wnt_n rfl; (with_reducible apply s_loadW); exact rfl; exact rfl; exact rfl; exact agu_cuv _; dsimp only [Nat.reduceAdd, Nat.reduceMul, Nat.reduceSub, List.nil_append, List.cons_append, nbk, List.map_cons, List.map_nil]
       apply Trc.step rfl rfl; exact wnt_n rfl; (with_reducible apply s_loadW); exact rfl; exact rfl; exact rfl; exact agu_cuv _; dsimp only [Nat.reduceAdd, Nat.reduceMul, Nat.reduceSub, List.nil_append, List.cons_append, nbk, List.map_cons, List.map_nil]
       apply Trc.step rfl rfl; exact wnt_n rfl; apply s_call (f := 33) rfl; apply evs.cons rfl; apply evs.cons rfl; apply evs.cons rfl
       exact evs.nil; apply ArgL.cons; exact arg_clo; apply ArgL.cons; exact arg_clo; apply ArgL.cons; exact arg_clo; exact ArgL.nil; exact refPair_ok S hS 0x12 _ _
       exact Nat.le_of_ble_eq_true rfl; dsimp only [Nat.reduceAdd, Nat.reduceMul, Nat.reduceSub, List.nil_append, List.cons_append, nbk, List.map_cons, List.map_nil]
       apply Trc.step rfl rfl; exact wnt_n rfl; (with_reducible apply s_bld); exact rfl; (focus (dsimp only [splB, cuB, spl, cu, Value.cells, nameC, List.map, List.take, List.drop, List.append, List.length, List.cons_append, List.nil_append, Nat.reduceAdd, List.take_succ_cons, List.take_zero, List.drop_succ_cons, List.drop_zero, List.take_nil, List.drop_nil, List.append_nil, List.length_cons, List.length_nil]; done))
       dsimp only [Nat.reduceAdd, Nat.reduceMul, Nat.reduceSub, List.nil_append, List.cons_append, nbk, List.map_cons, List.map_nil]; apply Trc.step rfl rfl
       exact wnt_n rfl; (with_reducible apply s_lit); apply PA.cons; exact rfl; exact rfl; exact rfl; exact PA.nil; exact rfl; omega; dsimp only [Nat.reduceAdd, Nat.reduceMul, Nat.reduceSub, List.nil_append, List.cons_append, nbk, List.map_cons, List.map_nil]
       apply Trc.step rfl rfl; exact wnt_n rfl; (with_reducible apply s_app); exact rfl; exact rfl; exact rfl; apply rd_sl rfl; rfl; simp only [byA_length, List.length_append, List.length_cons, List.length_nil, List.length_take, List.length_drop, List.length_replicate, List.length_map, Nat.mul_one, nameB_length, flat_length, List.length_set, inA_length] <;> omega
       exact rfl; exact rfl; rfl; omega; dsimp only [Nat.reduceAdd, Nat.reduceMul, Nat.reduceSub, List.nil_append, List.cons_append, nbk, List.map_cons, List.map_nil]
       apply Trc.step rfl rfl; exact wnt_n rfl; (with_reducible apply s_assign); exact rfl; dsimp only [Nat.reduceAdd, Nat.reduceMul, Nat.reduceSub, List.nil_append, List.cons_append, nbk, List.map_cons, List.map_nil]
       exact Trc.done _ _ _; kernel_rfl; exact rfl; (with_reducible refine thn_n ?_); (with_reducible refine Gol.ret ?_))
      rw [hlast, show d - 1 + 1 + 1 = d + 1 by omega]
      (apply RetQ.mk (by first | exact .inr rfl | exact .inl rfl); apply res_1 rfl; exact res_tmp rfl; exact out_sl rfl)
theorem merkleBinds_ok (root a b : UInt64) (i n : Int) (p q : List UInt64) (dp dq : Nat) (hn : n ≤ 9223372036854775807) (hp : p.length = dp) (hq : q.length = dq) (hdp : dp ≤ 140737488355000) (hdq : dq ≤ 140737488355000) : Fresh Try.prog 6 [.v (.agg (nameC root)), .v (.agg (nameC a)), .v (.agg (nameC b)), .v (.int .i64 i), .v (.int .i64 n), .ex dp false (byA (flat p)), .ex dq false (byA (flat q))] (fun _ => .v (.bool true)) [] := by
  by_cases hab : a = b
  · subst hab
    refine Fresh.of (fn := Try.f6) Try.func6 rfl (Nat.le_of_ble_eq_true rfl) fun w => ?_
    ((with_reducible refine Gol.seq ?_); (with_reducible apply Gol.region); apply Trc.step rfl rfl; exact wnt_n rfl; (with_reducible apply s_box); exact rfl
     exact rfl; dsimp only [Nat.reduceAdd, Nat.reduceMul, Nat.reduceSub, List.nil_append, List.cons_append, nbk, List.map_cons, List.map_nil]; apply Trc.step rfl rfl
     exact wnt_n rfl; (with_reducible apply s_box); exact rfl; exact rfl; dsimp only [Nat.reduceAdd, Nat.reduceMul, Nat.reduceSub, List.nil_append, List.cons_append, nbk, List.map_cons, List.map_nil]
     apply Trc.step rfl rfl; exact wnt_n rfl; (with_reducible apply s_box); exact rfl; exact rfl; dsimp only [Nat.reduceAdd, Nat.reduceMul, Nat.reduceSub, List.nil_append, List.cons_append, nbk, List.map_cons, List.map_nil]
     apply Trc.step rfl rfl; exact wnt_n rfl; (with_reducible apply s_assign); exact rfl; dsimp only [Nat.reduceAdd, Nat.reduceMul, Nat.reduceSub, List.nil_append, List.cons_append, nbk, List.map_cons, List.map_nil]
     exact Trc.done _ _ _; exact rfl; (with_reducible refine thn_n ?_); (with_reducible refine Gol.seq ?_); (with_reducible refine Gol.seq ?_); (with_reducible apply Gol.region)
     apply Trc.step rfl rfl; exact wnt_n rfl; (with_reducible apply s_loadW); exact rfl; exact rfl; exact rfl; exact agu_cuv _; dsimp only [Nat.reduceAdd, Nat.reduceMul, Nat.reduceSub, List.nil_append, List.cons_append, nbk, List.map_cons, List.map_nil]
     apply Trc.step rfl rfl; exact wnt_n rfl; (with_reducible apply s_loadW); exact rfl; exact rfl; exact rfl; exact agu_cuv _; dsimp only [Nat.reduceAdd, Nat.reduceMul, Nat.reduceSub, List.nil_append, List.cons_append, nbk, List.map_cons, List.map_nil]
     apply Trc.step rfl rfl; exact wnt_n rfl; (with_reducible apply s_eqN); exact rfl; exact rfl; dsimp only [Nat.reduceAdd, Nat.reduceMul, Nat.reduceSub, List.nil_append, List.cons_append, nbk, List.map_cons, List.map_nil]
     apply Trc.step rfl rfl; exact wnt_n rfl; (with_reducible apply s_move); exact rfl; dsimp only [Nat.reduceAdd, Nat.reduceMul, Nat.reduceSub, List.nil_append, List.cons_append, nbk, List.map_cons, List.map_nil]
     apply Trc.skip rfl rfl; apply wnt_g; exact rfl; exact rfl; exact rfl; (focus (simp [*]; done)); dsimp only [Nat.reduceAdd, Nat.reduceMul, Nat.reduceSub, List.nil_append, List.cons_append, nbk, List.map_cons, List.map_nil]
     apply Trc.skip rfl rfl; apply wnt_g; exact rfl; exact rfl; exact rfl; (focus (simp [*]; done)); dsimp only [Nat.reduceAdd, Nat.reduceMul, Nat.reduceSub, List.nil_append, List.cons_append, nbk, List.map_cons, List.map_nil]
     apply Trc.skip rfl rfl; apply wnt_g; exact rfl; exact rfl; exact rfl; (focus (simp [*]; done)); dsimp only [Nat.reduceAdd, Nat.reduceMul, Nat.reduceSub, List.nil_append, List.cons_append, nbk, List.map_cons, List.map_nil]
     apply Trc.skip rfl rfl; apply wnt_g; exact rfl; exact rfl; exact rfl; (focus (simp [*]; done)); dsimp only [Nat.reduceAdd, Nat.reduceMul, Nat.reduceSub, List.nil_append, List.cons_append, nbk, List.map_cons, List.map_nil]
     apply Trc.skip rfl rfl; apply wnt_g; exact rfl; exact rfl; exact rfl; (focus (simp [*]; done)); dsimp only [Nat.reduceAdd, Nat.reduceMul, Nat.reduceSub, List.nil_append, List.cons_append, nbk, List.map_cons, List.map_nil]
     apply Trc.skip rfl rfl; apply wnt_g; exact rfl; exact rfl; exact rfl; (focus (simp [*]; done)); dsimp only [Nat.reduceAdd, Nat.reduceMul, Nat.reduceSub, List.nil_append, List.cons_append, nbk, List.map_cons, List.map_nil]
     apply Trc.skip rfl rfl; apply wnt_g; exact rfl; exact rfl; exact rfl; (focus (simp [*]; done)); dsimp only [Nat.reduceAdd, Nat.reduceMul, Nat.reduceSub, List.nil_append, List.cons_append, nbk, List.map_cons, List.map_nil]
     apply Trc.step rfl rfl; exact wnt_n rfl; (with_reducible apply s_pick_t); exact rfl; (focus (simp [*]; done)); exact rfl; dsimp only [Nat.reduceAdd, Nat.reduceMul, Nat.reduceSub, List.nil_append, List.cons_append, nbk, List.map_cons, List.map_nil]
     apply Trc.step rfl rfl; exact wnt_n rfl; (with_reducible apply s_move); exact rfl; dsimp only [Nat.reduceAdd, Nat.reduceMul, Nat.reduceSub, List.nil_append, List.cons_append, nbk, List.map_cons, List.map_nil]
     apply Trc.skip rfl rfl; apply wnt_g; exact rfl; exact rfl; exact rfl; rfl; dsimp only [Nat.reduceAdd, Nat.reduceMul, Nat.reduceSub, List.nil_append, List.cons_append, nbk, List.map_cons, List.map_nil]
     apply Trc.skip rfl rfl; apply wnt_g; exact rfl; exact rfl; exact rfl; rfl; dsimp only [Nat.reduceAdd, Nat.reduceMul, Nat.reduceSub, List.nil_append, List.cons_append, nbk, List.map_cons, List.map_nil]
     apply Trc.skip rfl rfl; apply wnt_g; exact rfl; exact rfl; exact rfl; rfl; dsimp only [Nat.reduceAdd, Nat.reduceMul, Nat.reduceSub, List.nil_append, List.cons_append, nbk, List.map_cons, List.map_nil]
     apply Trc.skip rfl rfl; apply wnt_g; exact rfl; exact rfl; exact rfl; rfl; dsimp only [Nat.reduceAdd, Nat.reduceMul, Nat.reduceSub, List.nil_append, List.cons_append, nbk, List.map_cons, List.map_nil]
     apply Trc.skip rfl rfl; apply wnt_g; exact rfl; exact rfl; exact rfl; rfl; dsimp only [Nat.reduceAdd, Nat.reduceMul, Nat.reduceSub, List.nil_append, List.cons_append, nbk, List.map_cons, List.map_nil]
     apply Trc.skip rfl rfl; apply wnt_g; exact rfl; exact rfl; exact rfl; rfl; dsimp only [Nat.reduceAdd, Nat.reduceMul, Nat.reduceSub, List.nil_append, List.cons_append, nbk, List.map_cons, List.map_nil]
     apply Trc.skip rfl rfl; apply wnt_g; exact rfl; exact rfl; exact rfl; rfl; dsimp only [Nat.reduceAdd, Nat.reduceMul, Nat.reduceSub, List.nil_append, List.cons_append, nbk, List.map_cons, List.map_nil]
     apply Trc.step rfl rfl; exact wnt_n rfl; (with_reducible apply s_pick_t); exact rfl; rfl; exact rfl; dsimp only [Nat.reduceAdd, Nat.reduceMul, Nat.reduceSub, List.nil_append, List.cons_append, nbk, List.map_cons, List.map_nil]
     exact Trc.done _ _ _; exact rfl; (with_reducible refine thn_n ?_))
    refine Gol.cond_t rfl (by simp) ?_
    ((with_reducible refine Gol.seq ?_); (with_reducible apply Gol.region); apply Trc.step rfl rfl; exact wnt_n rfl; apply s_call (f := 12) rfl
     exact evs.nil; exact ArgL.nil; exact awake3_ok S hS; exact Nat.le_of_ble_eq_true rfl; dsimp only [Nat.reduceAdd, Nat.reduceMul, Nat.reduceSub, List.nil_append, List.cons_append, nbk, List.map_cons, List.map_nil]
     apply Trc.step rfl rfl; exact wnt_n rfl; (with_reducible apply s_assign); exact rfl; dsimp only [Nat.reduceAdd, Nat.reduceMul, Nat.reduceSub, List.nil_append, List.cons_append, nbk, List.map_cons, List.map_nil]
     exact Trc.done _ _ _; exact rfl; (with_reducible refine thn_n ?_); (with_reducible refine Gol.ret ?_); (with_reducible refine thn_r ?_))
    (apply RetQ.mk (by first | exact .inr rfl | exact .inl rfl); apply res_1 rfl; exact res_tmp rfl; exact out_val)
  have hVa := fun ff => verify_ok S hS root a i n p ff dp hn hp hdp
  have hVb := fun ff => verify_ok S hS root b i n q ff dq hn hq hdq
  cases hva : (folO i n dp && folR S a i n p == root)
  · rw [hva] at hVa
    refine Fresh.of (fn := Try.f6) Try.func6 rfl (Nat.le_of_ble_eq_true rfl) fun w => ?_
    ((with_reducible refine Gol.seq ?_); (with_reducible apply Gol.region); apply Trc.step rfl rfl; exact wnt_n rfl; (with_reducible apply s_box); exact rfl
     exact rfl; dsimp only [Nat.reduceAdd, Nat.reduceMul, Nat.reduceSub, List.nil_append, List.cons_append, nbk, List.map_cons, List.map_nil]; apply Trc.step rfl rfl
     exact wnt_n rfl; (with_reducible apply s_box); exact rfl; exact rfl; dsimp only [Nat.reduceAdd, Nat.reduceMul, Nat.reduceSub, List.nil_append, List.cons_append, nbk, List.map_cons, List.map_nil]
     apply Trc.step rfl rfl; exact wnt_n rfl; (with_reducible apply s_box); exact rfl; exact rfl; dsimp only [Nat.reduceAdd, Nat.reduceMul, Nat.reduceSub, List.nil_append, List.cons_append, nbk, List.map_cons, List.map_nil]
     apply Trc.step rfl rfl; exact wnt_n rfl; (with_reducible apply s_assign); exact rfl; dsimp only [Nat.reduceAdd, Nat.reduceMul, Nat.reduceSub, List.nil_append, List.cons_append, nbk, List.map_cons, List.map_nil]
     exact Trc.done _ _ _; exact rfl; (with_reducible refine thn_n ?_); (with_reducible refine Gol.seq ?_); (with_reducible refine Gol.seq ?_); (with_reducible apply Gol.region)
     apply Trc.step rfl rfl; exact wnt_n rfl; (with_reducible apply s_loadW); exact rfl; exact rfl; exact rfl; exact agu_cuv _; dsimp only [Nat.reduceAdd, Nat.reduceMul, Nat.reduceSub, List.nil_append, List.cons_append, nbk, List.map_cons, List.map_nil]
     apply Trc.step rfl rfl; exact wnt_n rfl; (with_reducible apply s_loadW); exact rfl; exact rfl; exact rfl; exact agu_cuv _; dsimp only [Nat.reduceAdd, Nat.reduceMul, Nat.reduceSub, List.nil_append, List.cons_append, nbk, List.map_cons, List.map_nil]
     apply Trc.step rfl rfl; exact wnt_n rfl; (with_reducible apply s_eqN); exact rfl; exact rfl; dsimp only [Nat.reduceAdd, Nat.reduceMul, Nat.reduceSub, List.nil_append, List.cons_append, nbk, List.map_cons, List.map_nil]
     apply Trc.step rfl rfl; exact wnt_n rfl; (with_reducible apply s_move); exact rfl; dsimp only [Nat.reduceAdd, Nat.reduceMul, Nat.reduceSub, List.nil_append, List.cons_append, nbk, List.map_cons, List.map_nil]
     apply Trc.step rfl rfl; apply wnt_g; exact rfl; exact rfl; exact rfl; (focus (simp [*]; done)); (with_reducible apply s_loadW); exact rfl; exact rfl; exact rfl
     exact agu_cuv _; dsimp only [Nat.reduceAdd, Nat.reduceMul, Nat.reduceSub, List.nil_append, List.cons_append, nbk, List.map_cons, List.map_nil]; apply Trc.step rfl rfl
     apply wnt_g; exact rfl; exact rfl; exact rfl; (focus (simp [*]; done)); (with_reducible apply s_loadW); exact rfl; exact rfl; exact rfl; exact agu_cuv _
     dsimp only [Nat.reduceAdd, Nat.reduceMul, Nat.reduceSub, List.nil_append, List.cons_append, nbk, List.map_cons, List.map_nil]; apply Trc.step rfl rfl
     apply wnt_g; exact rfl; exact rfl; exact rfl; (focus (simp [*]; done)); (with_reducible apply s_move); exact rfl; dsimp only [Nat.reduceAdd, Nat.reduceMul, Nat.reduceSub, List.nil_append, List.cons_append, nbk, List.map_cons, List.map_nil]
     apply Trc.step rfl rfl; apply wnt_g; exact rfl; exact rfl; exact rfl; (focus (simp [*]; done)); (with_reducible apply s_move); exact rfl; dsimp only [Nat.reduceAdd, Nat.reduceMul, Nat.reduceSub, List.nil_append, List.cons_append, nbk, List.map_cons, List.map_nil]
     apply Trc.step rfl rfl; apply wnt_g; exact rfl; exact rfl; exact rfl; (focus (simp [*]; done)); (with_reducible apply s_move); exact rfl; dsimp only [Nat.reduceAdd, Nat.reduceMul, Nat.reduceSub, List.nil_append, List.cons_append, nbk, List.map_cons, List.map_nil]
     apply Trc.step rfl rfl; apply wnt_g; exact rfl; exact rfl; exact rfl; (focus (simp [*]; done)); apply s_call (f := 15) rfl
     apply evs.cons rfl; apply evs.cons rfl; apply evs.cons rfl; apply evs.cons rfl; apply evs.cons rfl; exact evs.nil; apply ArgL.cons; exact arg_clo; apply ArgL.cons
     exact arg_clo; apply ArgL.cons; exact arg_clo; apply ArgL.cons; exact arg_clo; apply ArgL.cons; exact arg_clo; exact ArgL.nil; exact hVa _; exact Nat.le_of_ble_eq_true rfl
     dsimp only [Nat.reduceAdd, Nat.reduceMul, Nat.reduceSub, List.nil_append, List.cons_append, nbk, List.map_cons, List.map_nil]; apply Trc.step rfl rfl
     apply wnt_g; exact rfl; exact rfl; exact rfl; (focus (simp [*]; done)); (with_reducible apply s_not); exact rfl; dsimp only [Nat.reduceAdd, Nat.reduceMul, Nat.reduceSub, List.nil_append, List.cons_append, nbk, List.map_cons, List.map_nil]
     apply Trc.step rfl rfl; exact wnt_n rfl; (with_reducible apply s_pick_f); exact rfl; (focus (simp [*]; done)); exact rfl; dsimp only [Nat.reduceAdd, Nat.reduceMul, Nat.reduceSub, List.nil_append, List.cons_append, nbk, List.map_cons, List.map_nil]
     apply Trc.step rfl rfl; exact wnt_n rfl; (with_reducible apply s_move); exact rfl; dsimp only [Nat.reduceAdd, Nat.reduceMul, Nat.reduceSub, List.nil_append, List.cons_append, nbk, List.map_cons, List.map_nil]
     apply Trc.skip rfl rfl; apply wnt_g; exact rfl; exact rfl; exact rfl; rfl; dsimp only [Nat.reduceAdd, Nat.reduceMul, Nat.reduceSub, List.nil_append, List.cons_append, nbk, List.map_cons, List.map_nil]
     apply Trc.skip rfl rfl; apply wnt_g; exact rfl; exact rfl; exact rfl; rfl; dsimp only [Nat.reduceAdd, Nat.reduceMul, Nat.reduceSub, List.nil_append, List.cons_append, nbk, List.map_cons, List.map_nil]
     apply Trc.skip rfl rfl; apply wnt_g; exact rfl; exact rfl; exact rfl; rfl; dsimp only [Nat.reduceAdd, Nat.reduceMul, Nat.reduceSub, List.nil_append, List.cons_append, nbk, List.map_cons, List.map_nil]
     apply Trc.skip rfl rfl; apply wnt_g; exact rfl; exact rfl; exact rfl; rfl; dsimp only [Nat.reduceAdd, Nat.reduceMul, Nat.reduceSub, List.nil_append, List.cons_append, nbk, List.map_cons, List.map_nil]
     apply Trc.skip rfl rfl; apply wnt_g; exact rfl; exact rfl; exact rfl; rfl; dsimp only [Nat.reduceAdd, Nat.reduceMul, Nat.reduceSub, List.nil_append, List.cons_append, nbk, List.map_cons, List.map_nil]
     apply Trc.skip rfl rfl; apply wnt_g; exact rfl; exact rfl; exact rfl; rfl; dsimp only [Nat.reduceAdd, Nat.reduceMul, Nat.reduceSub, List.nil_append, List.cons_append, nbk, List.map_cons, List.map_nil]
     apply Trc.skip rfl rfl; apply wnt_g; exact rfl; exact rfl; exact rfl; rfl; dsimp only [Nat.reduceAdd, Nat.reduceMul, Nat.reduceSub, List.nil_append, List.cons_append, nbk, List.map_cons, List.map_nil]
     apply Trc.step rfl rfl; exact wnt_n rfl; (with_reducible apply s_pick_t); exact rfl; rfl; exact rfl; dsimp only [Nat.reduceAdd, Nat.reduceMul, Nat.reduceSub, List.nil_append, List.cons_append, nbk, List.map_cons, List.map_nil]
     exact Trc.done _ _ _; exact rfl; (with_reducible refine thn_n ?_))
    refine Gol.cond_t rfl (by simp) ?_
    ((with_reducible refine Gol.seq ?_); (with_reducible apply Gol.region); apply Trc.step rfl rfl; exact wnt_n rfl; apply s_call (f := 12) rfl
     exact evs.nil; exact ArgL.nil; exact awake3_ok S hS; exact Nat.le_of_ble_eq_true rfl; dsimp only [Nat.reduceAdd, Nat.reduceMul, Nat.reduceSub, List.nil_append, List.cons_append, nbk, List.map_cons, List.map_nil]
     apply Trc.step rfl rfl; exact wnt_n rfl; (with_reducible apply s_assign); exact rfl; dsimp only [Nat.reduceAdd, Nat.reduceMul, Nat.reduceSub, List.nil_append, List.cons_append, nbk, List.map_cons, List.map_nil]
     exact Trc.done _ _ _; exact rfl; (with_reducible refine thn_n ?_); (with_reducible refine Gol.ret ?_); (with_reducible refine thn_r ?_))
    (apply RetQ.mk (by first | exact .inr rfl | exact .inl rfl); apply res_1 rfl; exact res_tmp rfl; exact out_val)
  cases hvb : (folO i n dq && folR S b i n q == root)
  · rw [hva] at hVa
    rw [hvb] at hVb
    refine Fresh.of (fn := Try.f6) Try.func6 rfl (Nat.le_of_ble_eq_true rfl) fun w => ?_
    ((with_reducible refine Gol.seq ?_); (with_reducible apply Gol.region); apply Trc.step rfl rfl; exact wnt_n rfl; (with_reducible apply s_box); exact rfl
     exact rfl; dsimp only [Nat.reduceAdd, Nat.reduceMul, Nat.reduceSub, List.nil_append, List.cons_append, nbk, List.map_cons, List.map_nil]; apply Trc.step rfl rfl
     exact wnt_n rfl; (with_reducible apply s_box); exact rfl; exact rfl; dsimp only [Nat.reduceAdd, Nat.reduceMul, Nat.reduceSub, List.nil_append, List.cons_append, nbk, List.map_cons, List.map_nil]
     apply Trc.step rfl rfl; exact wnt_n rfl; (with_reducible apply s_box); exact rfl; exact rfl; dsimp only [Nat.reduceAdd, Nat.reduceMul, Nat.reduceSub, List.nil_append, List.cons_append, nbk, List.map_cons, List.map_nil]
     apply Trc.step rfl rfl; exact wnt_n rfl; (with_reducible apply s_assign); exact rfl; dsimp only [Nat.reduceAdd, Nat.reduceMul, Nat.reduceSub, List.nil_append, List.cons_append, nbk, List.map_cons, List.map_nil]
     exact Trc.done _ _ _; exact rfl; (with_reducible refine thn_n ?_); (with_reducible refine Gol.seq ?_); (with_reducible refine Gol.seq ?_); (with_reducible apply Gol.region)
     apply Trc.step rfl rfl; exact wnt_n rfl; (with_reducible apply s_loadW); exact rfl; exact rfl; exact rfl; exact agu_cuv _; dsimp only [Nat.reduceAdd, Nat.reduceMul, Nat.reduceSub, List.nil_append, List.cons_append, nbk, List.map_cons, List.map_nil]
     apply Trc.step rfl rfl; exact wnt_n rfl; (with_reducible apply s_loadW); exact rfl; exact rfl; exact rfl; exact agu_cuv _; dsimp only [Nat.reduceAdd, Nat.reduceMul, Nat.reduceSub, List.nil_append, List.cons_append, nbk, List.map_cons, List.map_nil]
     apply Trc.step rfl rfl; exact wnt_n rfl; (with_reducible apply s_eqN); exact rfl; exact rfl; dsimp only [Nat.reduceAdd, Nat.reduceMul, Nat.reduceSub, List.nil_append, List.cons_append, nbk, List.map_cons, List.map_nil]
     apply Trc.step rfl rfl; exact wnt_n rfl; (with_reducible apply s_move); exact rfl; dsimp only [Nat.reduceAdd, Nat.reduceMul, Nat.reduceSub, List.nil_append, List.cons_append, nbk, List.map_cons, List.map_nil]
     apply Trc.step rfl rfl; apply wnt_g; exact rfl; exact rfl; exact rfl; (focus (simp [*]; done)); (with_reducible apply s_loadW); exact rfl; exact rfl; exact rfl
     exact agu_cuv _; dsimp only [Nat.reduceAdd, Nat.reduceMul, Nat.reduceSub, List.nil_append, List.cons_append, nbk, List.map_cons, List.map_nil]; apply Trc.step rfl rfl
     apply wnt_g; exact rfl; exact rfl; exact rfl; (focus (simp [*]; done)); (with_reducible apply s_loadW); exact rfl; exact rfl; exact rfl; exact agu_cuv _
     dsimp only [Nat.reduceAdd, Nat.reduceMul, Nat.reduceSub, List.nil_append, List.cons_append, nbk, List.map_cons, List.map_nil]; apply Trc.step rfl rfl
     apply wnt_g; exact rfl; exact rfl; exact rfl; (focus (simp [*]; done)); (with_reducible apply s_move); exact rfl; dsimp only [Nat.reduceAdd, Nat.reduceMul, Nat.reduceSub, List.nil_append, List.cons_append, nbk, List.map_cons, List.map_nil]
     apply Trc.step rfl rfl; apply wnt_g; exact rfl; exact rfl; exact rfl; (focus (simp [*]; done)); (with_reducible apply s_move); exact rfl; dsimp only [Nat.reduceAdd, Nat.reduceMul, Nat.reduceSub, List.nil_append, List.cons_append, nbk, List.map_cons, List.map_nil]
     apply Trc.step rfl rfl; apply wnt_g; exact rfl; exact rfl; exact rfl; (focus (simp [*]; done)); (with_reducible apply s_move); exact rfl; dsimp only [Nat.reduceAdd, Nat.reduceMul, Nat.reduceSub, List.nil_append, List.cons_append, nbk, List.map_cons, List.map_nil]
     apply Trc.step rfl rfl; apply wnt_g; exact rfl; exact rfl; exact rfl; (focus (simp [*]; done)); apply s_call (f := 15) rfl
     apply evs.cons rfl; apply evs.cons rfl; apply evs.cons rfl; apply evs.cons rfl; apply evs.cons rfl; exact evs.nil; apply ArgL.cons; exact arg_clo; apply ArgL.cons
     exact arg_clo; apply ArgL.cons; exact arg_clo; apply ArgL.cons; exact arg_clo; apply ArgL.cons; exact arg_clo; exact ArgL.nil; exact hVa _; exact Nat.le_of_ble_eq_true rfl
     dsimp only [Nat.reduceAdd, Nat.reduceMul, Nat.reduceSub, List.nil_append, List.cons_append, nbk, List.map_cons, List.map_nil]; apply Trc.step rfl rfl
     apply wnt_g; exact rfl; exact rfl; exact rfl; (focus (simp [*]; done)); (with_reducible apply s_not); exact rfl; dsimp only [Nat.reduceAdd, Nat.reduceMul, Nat.reduceSub, List.nil_append, List.cons_append, nbk, List.map_cons, List.map_nil]
     apply Trc.step rfl rfl; exact wnt_n rfl; (with_reducible apply s_pick_f); exact rfl; (focus (simp [*]; done)); exact rfl; dsimp only [Nat.reduceAdd, Nat.reduceMul, Nat.reduceSub, List.nil_append, List.cons_append, nbk, List.map_cons, List.map_nil]
     apply Trc.step rfl rfl; exact wnt_n rfl; (with_reducible apply s_move); exact rfl; dsimp only [Nat.reduceAdd, Nat.reduceMul, Nat.reduceSub, List.nil_append, List.cons_append, nbk, List.map_cons, List.map_nil]
     apply Trc.step rfl rfl; apply wnt_g; exact rfl; exact rfl; exact rfl; rfl; (with_reducible apply s_loadW); exact rfl; exact rfl; exact rfl; exact agu_cuv _
     dsimp only [Nat.reduceAdd, Nat.reduceMul, Nat.reduceSub, List.nil_append, List.cons_append, nbk, List.map_cons, List.map_nil]; apply Trc.step rfl rfl
     apply wnt_g; exact rfl; exact rfl; exact rfl; rfl; (with_reducible apply s_loadW); exact rfl; exact rfl; exact rfl; exact agu_cuv _; dsimp only [Nat.reduceAdd, Nat.reduceMul, Nat.reduceSub, List.nil_append, List.cons_append, nbk, List.map_cons, List.map_nil]
     apply Trc.step rfl rfl; apply wnt_g; exact rfl; exact rfl; exact rfl; rfl; (with_reducible apply s_move); exact rfl; dsimp only [Nat.reduceAdd, Nat.reduceMul, Nat.reduceSub, List.nil_append, List.cons_append, nbk, List.map_cons, List.map_nil]
     apply Trc.step rfl rfl; apply wnt_g; exact rfl; exact rfl; exact rfl; rfl; (with_reducible apply s_move); exact rfl; dsimp only [Nat.reduceAdd, Nat.reduceMul, Nat.reduceSub, List.nil_append, List.cons_append, nbk, List.map_cons, List.map_nil]
     apply Trc.step rfl rfl; apply wnt_g; exact rfl; exact rfl; exact rfl; rfl; (with_reducible apply s_move); exact rfl; dsimp only [Nat.reduceAdd, Nat.reduceMul, Nat.reduceSub, List.nil_append, List.cons_append, nbk, List.map_cons, List.map_nil]
     apply Trc.step rfl rfl; apply wnt_g; exact rfl; exact rfl; exact rfl; rfl; apply s_call (f := 15) rfl; apply evs.cons rfl; apply evs.cons rfl
     apply evs.cons rfl; apply evs.cons rfl; apply evs.cons rfl; exact evs.nil; apply ArgL.cons; exact arg_clo; apply ArgL.cons; exact arg_clo; apply ArgL.cons
     exact arg_clo; apply ArgL.cons; exact arg_clo; apply ArgL.cons; exact arg_clo; exact ArgL.nil; exact hVb _; exact Nat.le_of_ble_eq_true rfl; dsimp only [Nat.reduceAdd, Nat.reduceMul, Nat.reduceSub, List.nil_append, List.cons_append, nbk, List.map_cons, List.map_nil]
     apply Trc.step rfl rfl; apply wnt_g; exact rfl; exact rfl; exact rfl; rfl; (with_reducible apply s_not); exact rfl; dsimp only [Nat.reduceAdd, Nat.reduceMul, Nat.reduceSub, List.nil_append, List.cons_append, nbk, List.map_cons, List.map_nil]
     apply Trc.step rfl rfl; exact wnt_n rfl; (with_reducible apply s_pick_f); exact rfl; rfl; exact rfl; dsimp only [Nat.reduceAdd, Nat.reduceMul, Nat.reduceSub, List.nil_append, List.cons_append, nbk, List.map_cons, List.map_nil]
     exact Trc.done _ _ _; exact rfl; (with_reducible refine thn_n ?_))
    refine Gol.cond_t rfl (by simp) ?_
    ((with_reducible refine Gol.seq ?_); (with_reducible apply Gol.region); apply Trc.step rfl rfl; exact wnt_n rfl; apply s_call (f := 12) rfl
     exact evs.nil; exact ArgL.nil; exact awake3_ok S hS; exact Nat.le_of_ble_eq_true rfl; dsimp only [Nat.reduceAdd, Nat.reduceMul, Nat.reduceSub, List.nil_append, List.cons_append, nbk, List.map_cons, List.map_nil]
     apply Trc.step rfl rfl; exact wnt_n rfl; (with_reducible apply s_assign); exact rfl; dsimp only [Nat.reduceAdd, Nat.reduceMul, Nat.reduceSub, List.nil_append, List.cons_append, nbk, List.map_cons, List.map_nil]
     exact Trc.done _ _ _; exact rfl; (with_reducible refine thn_n ?_); (with_reducible refine Gol.ret ?_); (with_reducible refine thn_r ?_))
    (apply RetQ.mk (by first | exact .inr rfl | exact .inl rfl); apply res_1 rfl; exact res_tmp rfl; exact out_val)
  rw [hva] at hVa
  rw [hvb] at hVb
  simp only [Bool.and_eq_true, beq_iff_eq] at hva hvb
  have fa := hva.1
  have fb := hvb.1
  simp only [folO, decide_eq_true_eq] at fa fb
  obtain ⟨j, rfl⟩ := Int.eq_ofNat_of_zero_le fa.1
  obtain ⟨m, rfl⟩ := Int.eq_ofNat_of_zero_le (show 0 ≤ n by omega)
  simp only [Int.toNat_natCast] at fa fb
  have hjm : j < m := by omega
  have hdl := dep_log 63 m j (by omega)
  have he : compN S a j m p = compN S b j m q := by
    have e1 := hva.2
    have e2 := hvb.2
    rw [folR, hp, hva.1] at e1
    rw [folR, hq, hvb.1] at e2
    simp only [if_true, Int.toNat_natCast] at e1 e2
    rw [e1, e2]
  obtain ⟨k0, hk0, hhit⟩ := binds S a b hab m j p q he
  obtain rfl : dq = dp := by omega
  have hla := steps_len S m a j p
  have hlb := steps_len S m b j q
  have hca := cellsS_length (stepsN S a j m p)
  have hcb := cellsS_length (stepsN S b j m q)
  obtain rfl : dq = depN j m := by omega
  clear fa fb hva hvb he hdp hdq
  have h64 : ¬ 64 < depN j m := by omega
  refine Fresh.of (fn := Try.f6) Try.func6 rfl (Nat.le_of_ble_eq_true rfl) fun w => ?_
  ((with_reducible refine Gol.seq ?_); (with_reducible apply Gol.region); apply Trc.step rfl rfl; exact wnt_n rfl; (with_reducible apply s_box); exact rfl
   exact rfl; dsimp only [Nat.reduceAdd, Nat.reduceMul, Nat.reduceSub, List.nil_append, List.cons_append, nbk, List.map_cons, List.map_nil]; apply Trc.step rfl rfl
   exact wnt_n rfl; (with_reducible apply s_box); exact rfl; exact rfl; dsimp only [Nat.reduceAdd, Nat.reduceMul, Nat.reduceSub, List.nil_append, List.cons_append, nbk, List.map_cons, List.map_nil]
   apply Trc.step rfl rfl; exact wnt_n rfl; (with_reducible apply s_box); exact rfl; exact rfl; dsimp only [Nat.reduceAdd, Nat.reduceMul, Nat.reduceSub, List.nil_append, List.cons_append, nbk, List.map_cons, List.map_nil]
   apply Trc.step rfl rfl; exact wnt_n rfl; (with_reducible apply s_assign); exact rfl; dsimp only [Nat.reduceAdd, Nat.reduceMul, Nat.reduceSub, List.nil_append, List.cons_append, nbk, List.map_cons, List.map_nil]
   exact Trc.done _ _ _; exact rfl; (with_reducible refine thn_n ?_); (with_reducible refine Gol.seq ?_); (with_reducible refine Gol.seq ?_); (with_reducible apply Gol.region)
   apply Trc.step rfl rfl; exact wnt_n rfl; (with_reducible apply s_loadW); exact rfl; exact rfl; exact rfl; exact agu_cuv _; dsimp only [Nat.reduceAdd, Nat.reduceMul, Nat.reduceSub, List.nil_append, List.cons_append, nbk, List.map_cons, List.map_nil]
   apply Trc.step rfl rfl; exact wnt_n rfl; (with_reducible apply s_loadW); exact rfl; exact rfl; exact rfl; exact agu_cuv _; dsimp only [Nat.reduceAdd, Nat.reduceMul, Nat.reduceSub, List.nil_append, List.cons_append, nbk, List.map_cons, List.map_nil]
   apply Trc.step rfl rfl; exact wnt_n rfl; (with_reducible apply s_eqN); exact rfl; exact rfl; dsimp only [Nat.reduceAdd, Nat.reduceMul, Nat.reduceSub, List.nil_append, List.cons_append, nbk, List.map_cons, List.map_nil]
   apply Trc.step rfl rfl; exact wnt_n rfl; (with_reducible apply s_move); exact rfl; dsimp only [Nat.reduceAdd, Nat.reduceMul, Nat.reduceSub, List.nil_append, List.cons_append, nbk, List.map_cons, List.map_nil]
   apply Trc.step rfl rfl; apply wnt_g; exact rfl; exact rfl; exact rfl; (focus (simp [*]; done)); (with_reducible apply s_loadW); exact rfl; exact rfl; exact rfl
   exact agu_cuv _; dsimp only [Nat.reduceAdd, Nat.reduceMul, Nat.reduceSub, List.nil_append, List.cons_append, nbk, List.map_cons, List.map_nil]; apply Trc.step rfl rfl
   apply wnt_g; exact rfl; exact rfl; exact rfl; (focus (simp [*]; done)); (with_reducible apply s_loadW); exact rfl; exact rfl; exact rfl; exact agu_cuv _
   dsimp only [Nat.reduceAdd, Nat.reduceMul, Nat.reduceSub, List.nil_append, List.cons_append, nbk, List.map_cons, List.map_nil]; apply Trc.step rfl rfl
   apply wnt_g; exact rfl; exact rfl; exact rfl; (focus (simp [*]; done)); (with_reducible apply s_move); exact rfl; dsimp only [Nat.reduceAdd, Nat.reduceMul, Nat.reduceSub, List.nil_append, List.cons_append, nbk, List.map_cons, List.map_nil]
   apply Trc.step rfl rfl; apply wnt_g; exact rfl; exact rfl; exact rfl; (focus (simp [*]; done)); (with_reducible apply s_move); exact rfl; dsimp only [Nat.reduceAdd, Nat.reduceMul, Nat.reduceSub, List.nil_append, List.cons_append, nbk, List.map_cons, List.map_nil]
   apply Trc.step rfl rfl; apply wnt_g; exact rfl; exact rfl; exact rfl; (focus (simp [*]; done)); (with_reducible apply s_move); exact rfl; dsimp only [Nat.reduceAdd, Nat.reduceMul, Nat.reduceSub, List.nil_append, List.cons_append, nbk, List.map_cons, List.map_nil]
   apply Trc.step rfl rfl; apply wnt_g; exact rfl; exact rfl; exact rfl; (focus (simp [*]; done)); apply s_call (f := 15) rfl
   apply evs.cons rfl; apply evs.cons rfl; apply evs.cons rfl; apply evs.cons rfl; apply evs.cons rfl; exact evs.nil; apply ArgL.cons; exact arg_clo; apply ArgL.cons
   exact arg_clo; apply ArgL.cons; exact arg_clo; apply ArgL.cons; exact arg_clo; apply ArgL.cons; exact arg_clo; exact ArgL.nil; exact hVa _; exact Nat.le_of_ble_eq_true rfl
   dsimp only [Nat.reduceAdd, Nat.reduceMul, Nat.reduceSub, List.nil_append, List.cons_append, nbk, List.map_cons, List.map_nil]; apply Trc.step rfl rfl
   apply wnt_g; exact rfl; exact rfl; exact rfl; (focus (simp [*]; done)); (with_reducible apply s_not); exact rfl; dsimp only [Nat.reduceAdd, Nat.reduceMul, Nat.reduceSub, List.nil_append, List.cons_append, nbk, List.map_cons, List.map_nil]
   apply Trc.step rfl rfl; exact wnt_n rfl; (with_reducible apply s_pick_f); exact rfl; (focus (simp [*]; done)); exact rfl; dsimp only [Nat.reduceAdd, Nat.reduceMul, Nat.reduceSub, List.nil_append, List.cons_append, nbk, List.map_cons, List.map_nil]
   apply Trc.step rfl rfl; exact wnt_n rfl; (with_reducible apply s_move); exact rfl; dsimp only [Nat.reduceAdd, Nat.reduceMul, Nat.reduceSub, List.nil_append, List.cons_append, nbk, List.map_cons, List.map_nil]
   apply Trc.step rfl rfl; apply wnt_g; exact rfl; exact rfl; exact rfl; rfl; (with_reducible apply s_loadW); exact rfl; exact rfl; exact rfl; exact agu_cuv _
   dsimp only [Nat.reduceAdd, Nat.reduceMul, Nat.reduceSub, List.nil_append, List.cons_append, nbk, List.map_cons, List.map_nil]; apply Trc.step rfl rfl
   apply wnt_g; exact rfl; exact rfl; exact rfl; rfl; (with_reducible apply s_loadW); exact rfl; exact rfl; exact rfl; exact agu_cuv _; dsimp only [Nat.reduceAdd, Nat.reduceMul, Nat.reduceSub, List.nil_append, List.cons_append, nbk, List.map_cons, List.map_nil]
   apply Trc.step rfl rfl; apply wnt_g; exact rfl; exact rfl; exact rfl; rfl; (with_reducible apply s_move); exact rfl; dsimp only [Nat.reduceAdd, Nat.reduceMul, Nat.reduceSub, List.nil_append, List.cons_append, nbk, List.map_cons, List.map_nil]
   apply Trc.step rfl rfl; apply wnt_g; exact rfl; exact rfl; exact rfl; rfl; (with_reducible apply s_move); exact rfl; dsimp only [Nat.reduceAdd, Nat.reduceMul, Nat.reduceSub, List.nil_append, List.cons_append, nbk, List.map_cons, List.map_nil]
   apply Trc.step rfl rfl; apply wnt_g; exact rfl; exact rfl; exact rfl; rfl; (with_reducible apply s_move); exact rfl; dsimp only [Nat.reduceAdd, Nat.reduceMul, Nat.reduceSub, List.nil_append, List.cons_append, nbk, List.map_cons, List.map_nil]
   apply Trc.step rfl rfl; apply wnt_g; exact rfl; exact rfl; exact rfl; rfl; apply s_call (f := 15) rfl; apply evs.cons rfl; apply evs.cons rfl
   apply evs.cons rfl; apply evs.cons rfl; apply evs.cons rfl; exact evs.nil; apply ArgL.cons; exact arg_clo; apply ArgL.cons; exact arg_clo; apply ArgL.cons
   exact arg_clo; apply ArgL.cons; exact arg_clo; apply ArgL.cons; exact arg_clo; exact ArgL.nil; exact hVb _; exact Nat.le_of_ble_eq_true rfl; dsimp only [Nat.reduceAdd, Nat.reduceMul, Nat.reduceSub, List.nil_append, List.cons_append, nbk, List.map_cons, List.map_nil]
   apply Trc.step rfl rfl; apply wnt_g; exact rfl; exact rfl; exact rfl; rfl; (with_reducible apply s_not); exact rfl; dsimp only [Nat.reduceAdd, Nat.reduceMul, Nat.reduceSub, List.nil_append, List.cons_append, nbk, List.map_cons, List.map_nil]
   apply Trc.step rfl rfl; exact wnt_n rfl; (with_reducible apply s_pick_f); exact rfl; rfl; exact rfl; dsimp only [Nat.reduceAdd, Nat.reduceMul, Nat.reduceSub, List.nil_append, List.cons_append, nbk, List.map_cons, List.map_nil]
   exact Trc.done _ _ _; exact rfl; (with_reducible refine thn_n ?_))
  refine Gol.cond_f rfl (by simp [hab]) ?_
  ((with_reducible refine Gol.skip ?_); (with_reducible refine thn_n ?_); (with_reducible refine Gol.seq ?_); (with_reducible refine Gol.seq ?_); (with_reducible apply Gol.region)
   apply Trc.step rfl rfl; exact wnt_n rfl; (with_reducible apply s_move); exact rfl; dsimp only [Nat.reduceAdd, Nat.reduceMul, Nat.reduceSub, List.nil_append, List.cons_append, nbk, List.map_cons, List.map_nil]
   apply Trc.step rfl rfl; exact wnt_n rfl; (with_reducible apply s_len); exact rfl; exact ln_ex; dsimp only [Nat.reduceAdd, Nat.reduceMul, Nat.reduceSub, List.nil_append, List.cons_append, nbk, List.map_cons, List.map_nil]
   apply Trc.step rfl rfl; exact wnt_n rfl; (with_reducible apply s_gtn); exact rfl; exact rfl; dsimp only [Nat.reduceAdd, Nat.reduceMul, Nat.reduceSub, List.nil_append, List.cons_append, nbk, List.map_cons, List.map_nil]
   apply Trc.step rfl rfl; exact wnt_n rfl; (with_reducible apply s_move); exact rfl; dsimp only [Nat.reduceAdd, Nat.reduceMul, Nat.reduceSub, List.nil_append, List.cons_append, nbk, List.map_cons, List.map_nil]
   apply Trc.step rfl rfl; apply wnt_g; exact rfl; exact rfl; exact rfl; (focus (simp only [*]; rfl)); (with_reducible apply s_move); exact rfl; dsimp only [Nat.reduceAdd, Nat.reduceMul, Nat.reduceSub, List.nil_append, List.cons_append, nbk, List.map_cons, List.map_nil]
   apply Trc.step rfl rfl; apply wnt_g; exact rfl; exact rfl; exact rfl; (focus (simp only [*]; rfl)); (with_reducible apply s_len); exact rfl; exact ln_ex
   dsimp only [Nat.reduceAdd, Nat.reduceMul, Nat.reduceSub, List.nil_append, List.cons_append, nbk, List.map_cons, List.map_nil]; apply Trc.step rfl rfl
   apply wnt_g; exact rfl; exact rfl; exact rfl; (focus (simp only [*]; rfl)); (with_reducible apply s_move); exact rfl; dsimp only [Nat.reduceAdd, Nat.reduceMul, Nat.reduceSub, List.nil_append, List.cons_append, nbk, List.map_cons, List.map_nil]
   apply Trc.step rfl rfl; apply wnt_g; exact rfl; exact rfl; exact rfl; (focus (simp only [*]; rfl)); (with_reducible apply s_len); exact rfl; exact ln_ex
   dsimp only [Nat.reduceAdd, Nat.reduceMul, Nat.reduceSub, List.nil_append, List.cons_append, nbk, List.map_cons, List.map_nil]; apply Trc.step rfl rfl
   apply wnt_g; exact rfl; exact rfl; exact rfl; (focus (simp only [*]; rfl)); (with_reducible apply s_nen); exact rfl; exact rfl; dsimp only [Nat.reduceAdd, Nat.reduceMul, Nat.reduceSub, List.nil_append, List.cons_append, nbk, List.map_cons, List.map_nil]
   apply Trc.step rfl rfl; exact wnt_n rfl; (with_reducible apply s_pick_f); exact rfl; (focus (simp only [*]; rfl)); exact rfl; dsimp only [Nat.reduceAdd, Nat.reduceMul, Nat.reduceSub, List.nil_append, List.cons_append, nbk, List.map_cons, List.map_nil]
   exact Trc.done _ _ _; exact rfl; (with_reducible refine thn_n ?_))
  refine Gol.cond_f rfl (by simp [h64]) ?_
  ((with_reducible refine Gol.skip ?_); (with_reducible refine thn_n ?_); (with_reducible refine Gol.seq ?_); (with_reducible apply Gol.any); kernel_rfl
   apply Trc.step rfl rfl; exact wnt_n rfl; (with_reducible apply s_loadW); exact rfl; exact rfl; exact rfl; exact agu_cuv _; dsimp only [Nat.reduceAdd, Nat.reduceMul, Nat.reduceSub, List.nil_append, List.cons_append, nbk, List.map_cons, List.map_nil]
   apply Trc.step rfl rfl; exact wnt_n rfl; (with_reducible apply s_move); exact rfl; dsimp only [Nat.reduceAdd, Nat.reduceMul, Nat.reduceSub, List.nil_append, List.cons_append, nbk, List.map_cons, List.map_nil]
   apply Trc.step rfl rfl; exact wnt_n rfl; (with_reducible apply s_move); exact rfl; dsimp only [Nat.reduceAdd, Nat.reduceMul, Nat.reduceSub, List.nil_append, List.cons_append, nbk, List.map_cons, List.map_nil]
   apply Trc.step rfl rfl; exact wnt_n rfl; (with_reducible apply s_move); exact rfl; dsimp only [Nat.reduceAdd, Nat.reduceMul, Nat.reduceSub, List.nil_append, List.cons_append, nbk, List.map_cons, List.map_nil]
   apply Trc.step rfl rfl; exact wnt_n rfl; apply s_call (f := 20) rfl; apply evs.cons rfl; apply evs.cons rfl; apply evs.cons rfl
   apply evs.cons rfl; exact evs.nil; apply ArgL.cons; exact arg_clo; apply ArgL.cons; exact arg_clo; apply ArgL.cons; exact arg_clo; apply ArgL.cons; exact arg_clo
   exact ArgL.nil; exact climb3_ok S hS a m j p _ _ hjm (by omega) rfl hp (by omega); exact Nat.le_of_ble_eq_true rfl; dsimp only [Nat.reduceAdd, Nat.reduceMul, Nat.reduceSub, List.nil_append, List.cons_append, nbk, List.map_cons, List.map_nil]
   apply Trc.step rfl rfl; exact wnt_n rfl; (with_reducible apply s_loadW); exact rfl; exact rfl; exact rfl; exact agu_cuv _; dsimp only [Nat.reduceAdd, Nat.reduceMul, Nat.reduceSub, List.nil_append, List.cons_append, nbk, List.map_cons, List.map_nil]
   apply Trc.step rfl rfl; exact wnt_n rfl; (with_reducible apply s_move); exact rfl; dsimp only [Nat.reduceAdd, Nat.reduceMul, Nat.reduceSub, List.nil_append, List.cons_append, nbk, List.map_cons, List.map_nil]
   apply Trc.step rfl rfl; exact wnt_n rfl; (with_reducible apply s_move); exact rfl; dsimp only [Nat.reduceAdd, Nat.reduceMul, Nat.reduceSub, List.nil_append, List.cons_append, nbk, List.map_cons, List.map_nil]
   apply Trc.step rfl rfl; exact wnt_n rfl; (with_reducible apply s_move); exact rfl; dsimp only [Nat.reduceAdd, Nat.reduceMul, Nat.reduceSub, List.nil_append, List.cons_append, nbk, List.map_cons, List.map_nil]
   apply Trc.step rfl rfl; exact wnt_n rfl; apply s_call (f := 20) rfl; apply evs.cons rfl; apply evs.cons rfl; apply evs.cons rfl
   apply evs.cons rfl; exact evs.nil; apply ArgL.cons; exact arg_clo; apply ArgL.cons; exact arg_clo; apply ArgL.cons; exact arg_clo; apply ArgL.cons; exact arg_clo
   exact ArgL.nil; exact climb3_ok S hS b m j q _ _ hjm (by omega) rfl hq (by omega); exact Nat.le_of_ble_eq_true rfl; dsimp only [Nat.reduceAdd, Nat.reduceMul, Nat.reduceSub, List.nil_append, List.cons_append, nbk, List.map_cons, List.map_nil]
   apply Trc.step rfl rfl; exact wnt_n rfl; (with_reducible apply s_assign); exact rfl; dsimp only [Nat.reduceAdd, Nat.reduceMul, Nat.reduceSub, List.nil_append, List.cons_append, nbk, List.map_cons, List.map_nil]
   apply Trc.step rfl rfl; exact wnt_n rfl; (with_reducible apply s_assign); exact rfl; dsimp only [Nat.reduceAdd, Nat.reduceMul, Nat.reduceSub, List.nil_append, List.cons_append, nbk, List.map_cons, List.map_nil]
   exact Trc.done _ _ _; kernel_rfl; exact rfl; (with_reducible refine thn_n ?_); (with_reducible refine Gol.seq ?_); (with_reducible refine Gol.seq ?_)
   (with_reducible apply Gol.region); apply Trc.step rfl rfl; exact wnt_n rfl; (with_reducible apply s_assign); exact rfl; dsimp only [Nat.reduceAdd, Nat.reduceMul, Nat.reduceSub, List.nil_append, List.cons_append, nbk, List.map_cons, List.map_nil]
   exact Trc.done _ _ _; exact rfl; (with_reducible refine thn_n ?_); (with_reducible refine Gol.block ?_))
  refine Gol.loop (ι := Nat) (fun k => k ≤ depN j m + 1 ∧ ∀ i, i < k → ¬ hit (stepsN S a j m p) (stepsN S b j m q) i) (fun k => depN j m + 1 - k) 384 (fun k => [(352, some ⟨cellsS (stepsN S b j m q), 38, 9⟩), (312, some ⟨cellsS (stepsN S a j m p), 38, 9⟩)])
    (fun k => [(17, .v (.int .i64 (k : Int))), (16, .sl 352 (depN j m + 1)), (15, .sl 312 (depN j m + 1))]) 0 ⟨Nat.zero_le _, fun i hi => absurd hi (Nat.not_lt_zero _)⟩ ?_ ?_
  · (apply Le.mk' []; apply RnT.c; exact rfl; exact Rn.v rfl; apply RnT.c; exact rfl; exact Rn.sl rfl rfl; apply RnT.c; exact rfl; exact Rn.sl rfl rfl; exact RnT.n
     apply RnH.c; exact rfl; exact rfl; rfl; exact rfl; exact rfl; apply RnH.c; exact rfl; exact rfl; rfl; exact rfl; exact rfl; exact RnH.n; exact rfl)
  rintro k ⟨g1, g2⟩
  by_cases hlt : k < depN j m + 1
  rotate_left
  · exact absurd hhit (g2 k0 (by omega))
  ((with_reducible refine Gol.seq ?_); (with_reducible refine Gol.seq ?_); (with_reducible apply Gol.region); apply Trc.step rfl rfl; exact wnt_n rfl; (with_reducible apply s_move)
   exact rfl; dsimp only [Nat.reduceAdd, Nat.reduceMul, Nat.reduceSub, List.nil_append, List.cons_append, nbk, List.map_cons, List.map_nil]; apply Trc.step rfl rfl
   exact wnt_n rfl; (with_reducible apply s_move); exact rfl; dsimp only [Nat.reduceAdd, Nat.reduceMul, Nat.reduceSub, List.nil_append, List.cons_append, nbk, List.map_cons, List.map_nil]
   apply Trc.step rfl rfl; exact wnt_n rfl; (with_reducible apply s_len); exact rfl; exact ln_sl; dsimp only [Nat.reduceAdd, Nat.reduceMul, Nat.reduceSub, List.nil_append, List.cons_append, nbk, List.map_cons, List.map_nil]
   apply Trc.step rfl rfl; exact wnt_n rfl; (with_reducible apply s_ltn); exact rfl; exact rfl; dsimp only [Nat.reduceAdd, Nat.reduceMul, Nat.reduceSub, List.nil_append, List.cons_append, nbk, List.map_cons, List.map_nil]
   apply Trc.step rfl rfl; exact wnt_n rfl; (with_reducible apply s_move); exact rfl; dsimp only [Nat.reduceAdd, Nat.reduceMul, Nat.reduceSub, List.nil_append, List.cons_append, nbk, List.map_cons, List.map_nil]
   apply Trc.step rfl rfl; apply wnt_g; exact rfl; exact rfl; exact rfl; (focus (simp only [*]; rfl)); (with_reducible apply s_move); exact rfl; dsimp only [Nat.reduceAdd, Nat.reduceMul, Nat.reduceSub, List.nil_append, List.cons_append, nbk, List.map_cons, List.map_nil]
   apply Trc.step rfl rfl; apply wnt_g; exact rfl; exact rfl; exact rfl; (focus (simp only [*]; rfl)); (with_reducible apply s_move); exact rfl; dsimp only [Nat.reduceAdd, Nat.reduceMul, Nat.reduceSub, List.nil_append, List.cons_append, nbk, List.map_cons, List.map_nil]
   apply Trc.step rfl rfl; apply wnt_g; exact rfl; exact rfl; exact rfl; (focus (simp only [*]; rfl)); (with_reducible apply s_len); exact rfl; exact ln_sl
   dsimp only [Nat.reduceAdd, Nat.reduceMul, Nat.reduceSub, List.nil_append, List.cons_append, nbk, List.map_cons, List.map_nil]; apply Trc.step rfl rfl
   apply wnt_g; exact rfl; exact rfl; exact rfl; (focus (simp only [*]; rfl)); (with_reducible apply s_ltn); exact rfl; exact rfl; dsimp only [Nat.reduceAdd, Nat.reduceMul, Nat.reduceSub, List.nil_append, List.cons_append, nbk, List.map_cons, List.map_nil]
   apply Trc.step rfl rfl; exact wnt_n rfl; (with_reducible apply s_pick_t); exact rfl; (focus (simp only [*]; rfl)); exact rfl; dsimp only [Nat.reduceAdd, Nat.reduceMul, Nat.reduceSub, List.nil_append, List.cons_append, nbk, List.map_cons, List.map_nil]
   exact Trc.done _ _ _; exact rfl; (with_reducible refine thn_n ?_))
  refine Gol.cond_t rfl (by simp [hlt]) ?_
  cases hin : (((stepsN S a j m p).getD k ([], 0)).1 == ((stepsN S b j m q).getD k ([], 0)).1)
  rotate_left
  · ((with_reducible refine Gol.skip ?_); (with_reducible refine thn_n ?_); (with_reducible refine Gol.seq ?_); (with_reducible refine Gol.block ?_); (with_reducible refine Gol.seq ?_)
     (with_reducible apply Gol.any); kernel_rfl; apply Trc.step rfl rfl; exact wnt_n rfl; (with_reducible apply s_move); exact rfl; dsimp only [Nat.reduceAdd, Nat.reduceMul, Nat.reduceSub, List.nil_append, List.cons_append, nbk, List.map_cons, List.map_nil]
     apply Trc.step rfl rfl; exact wnt_n rfl; (with_reducible apply s_move); exact rfl; dsimp only [Nat.reduceAdd, Nat.reduceMul, Nat.reduceSub, List.nil_append, List.cons_append, nbk, List.map_cons, List.map_nil]
     apply Trc.step rfl rfl; exact wnt_n rfl; (with_reducible apply s_ixl); exact rfl; exact rfl; exact rfl; omega; dsimp only [Nat.reduceAdd, Nat.reduceMul, Nat.reduceSub, List.nil_append, List.cons_append, nbk, List.map_cons, List.map_nil]
     apply Trc.step rfl rfl; exact wnt_n rfl; (with_reducible apply s_fieldAddr); exact rfl; dsimp only [Nat.reduceAdd, Nat.reduceMul, Nat.reduceSub, List.nil_append, List.cons_append, nbk, List.map_cons, List.map_nil]
     apply Trc.step rfl rfl; exact wnt_n rfl; apply s_load; exact rfl; exact rfl; exact cs_in _ _ (by omega); dsimp only [Nat.reduceAdd, Nat.reduceMul, Nat.reduceSub, List.nil_append, List.cons_append, nbk, List.map_cons, List.map_nil]
     apply Trc.step rfl rfl; exact wnt_n rfl; (with_reducible apply s_move); exact rfl; dsimp only [Nat.reduceAdd, Nat.reduceMul, Nat.reduceSub, List.nil_append, List.cons_append, nbk, List.map_cons, List.map_nil]
     apply Trc.step rfl rfl; exact wnt_n rfl; (with_reducible apply s_move); exact rfl; dsimp only [Nat.reduceAdd, Nat.reduceMul, Nat.reduceSub, List.nil_append, List.cons_append, nbk, List.map_cons, List.map_nil]
     apply Trc.step rfl rfl; exact wnt_n rfl; (with_reducible apply s_ixl); exact rfl; exact rfl; exact rfl; omega; dsimp only [Nat.reduceAdd, Nat.reduceMul, Nat.reduceSub, List.nil_append, List.cons_append, nbk, List.map_cons, List.map_nil]
     apply Trc.step rfl rfl; exact wnt_n rfl; (with_reducible apply s_fieldAddr); exact rfl; dsimp only [Nat.reduceAdd, Nat.reduceMul, Nat.reduceSub, List.nil_append, List.cons_append, nbk, List.map_cons, List.map_nil]
     apply Trc.step rfl rfl; exact wnt_n rfl; apply s_load; exact rfl; exact rfl; exact cs_in _ _ (by omega); dsimp only [Nat.reduceAdd, Nat.reduceMul, Nat.reduceSub, List.nil_append, List.cons_append, nbk, List.map_cons, List.map_nil]
     apply Trc.step rfl rfl; exact wnt_n rfl; (with_reducible apply s_nes); exact rfl; exact rfl; dsimp only [Nat.reduceAdd, Nat.reduceMul, Nat.reduceSub, List.nil_append, List.cons_append, nbk, List.map_cons, List.map_nil]
     apply Trc.step rfl rfl; exact wnt_n rfl; (with_reducible apply s_move); exact rfl; dsimp only [Nat.reduceAdd, Nat.reduceMul, Nat.reduceSub, List.nil_append, List.cons_append, nbk, List.map_cons, List.map_nil]
     apply Trc.skip rfl rfl; apply wnt_g; exact rfl; exact rfl; exact rfl; (focus (simp only [*]; rfl)); dsimp only [Nat.reduceAdd, Nat.reduceMul, Nat.reduceSub, List.nil_append, List.cons_append, nbk, List.map_cons, List.map_nil]
     apply Trc.skip rfl rfl; apply wnt_g; exact rfl; exact rfl; exact rfl; (focus (simp only [*]; rfl)); dsimp only [Nat.reduceAdd, Nat.reduceMul, Nat.reduceSub, List.nil_append, List.cons_append, nbk, List.map_cons, List.map_nil]
     apply Trc.skip rfl rfl; apply wnt_g; exact rfl; exact rfl; exact rfl; (focus (simp only [*]; rfl)); dsimp only [Nat.reduceAdd, Nat.reduceMul, Nat.reduceSub, List.nil_append, List.cons_append, nbk, List.map_cons, List.map_nil]
     apply Trc.skip rfl rfl; apply wnt_g; exact rfl; exact rfl; exact rfl; (focus (simp only [*]; rfl)); dsimp only [Nat.reduceAdd, Nat.reduceMul, Nat.reduceSub, List.nil_append, List.cons_append, nbk, List.map_cons, List.map_nil]
     apply Trc.skip rfl rfl; apply wnt_g; exact rfl; exact rfl; exact rfl; (focus (simp only [*]; rfl)); dsimp only [Nat.reduceAdd, Nat.reduceMul, Nat.reduceSub, List.nil_append, List.cons_append, nbk, List.map_cons, List.map_nil]
     apply Trc.skip rfl rfl; apply wnt_g; exact rfl; exact rfl; exact rfl; (focus (simp only [*]; rfl)); dsimp only [Nat.reduceAdd, Nat.reduceMul, Nat.reduceSub, List.nil_append, List.cons_append, nbk, List.map_cons, List.map_nil]
     apply Trc.skip rfl rfl; apply wnt_g; exact rfl; exact rfl; exact rfl; (focus (simp only [*]; rfl)); dsimp only [Nat.reduceAdd, Nat.reduceMul, Nat.reduceSub, List.nil_append, List.cons_append, nbk, List.map_cons, List.map_nil]
     apply Trc.skip rfl rfl; apply wnt_g; exact rfl; exact rfl; exact rfl; (focus (simp only [*]; rfl)); dsimp only [Nat.reduceAdd, Nat.reduceMul, Nat.reduceSub, List.nil_append, List.cons_append, nbk, List.map_cons, List.map_nil]
     apply Trc.skip rfl rfl; apply wnt_g; exact rfl; exact rfl; exact rfl; (focus (simp only [*]; rfl)); dsimp only [Nat.reduceAdd, Nat.reduceMul, Nat.reduceSub, List.nil_append, List.cons_append, nbk, List.map_cons, List.map_nil]
     apply Trc.skip rfl rfl; apply wnt_g; exact rfl; exact rfl; exact rfl; (focus (simp only [*]; rfl)); dsimp only [Nat.reduceAdd, Nat.reduceMul, Nat.reduceSub, List.nil_append, List.cons_append, nbk, List.map_cons, List.map_nil]
     apply Trc.skip rfl rfl; apply wnt_g; exact rfl; exact rfl; exact rfl; (focus (simp only [*]; rfl)); dsimp only [Nat.reduceAdd, Nat.reduceMul, Nat.reduceSub, List.nil_append, List.cons_append, nbk, List.map_cons, List.map_nil]
     apply Trc.step rfl rfl; exact wnt_n rfl; (with_reducible apply s_pick_f); exact rfl; (focus (simp only [*]; rfl)); exact rfl; dsimp only [Nat.reduceAdd, Nat.reduceMul, Nat.reduceSub, List.nil_append, List.cons_append, nbk, List.map_cons, List.map_nil]
     exact Trc.done _ _ _; kernel_rfl; exact rfl; (with_reducible refine thn_n ?_))
    refine Gol.cond_f rfl (by simp only [hin]; try rfl) ?_
    ((with_reducible refine Gol.skip ?_); (with_reducible refine inBlk_n ?_); (with_reducible refine thn_n ?_); (with_reducible apply Gol.region); apply Trc.step rfl rfl
     exact wnt_n rfl; (with_reducible apply s_move); exact rfl; dsimp only [Nat.reduceAdd, Nat.reduceMul, Nat.reduceSub, List.nil_append, List.cons_append, nbk, List.map_cons, List.map_nil]
     apply Trc.step rfl rfl; exact wnt_n rfl; (with_reducible apply s_addn); exact rfl; exact rfl; simp <;> omega; dsimp only [Nat.reduceAdd, Nat.reduceMul, Nat.reduceSub, List.nil_append, List.cons_append, nbk, List.map_cons, List.map_nil]
     apply Trc.step rfl rfl; exact wnt_n rfl; (with_reducible apply s_assign); exact rfl; dsimp only [Nat.reduceAdd, Nat.reduceMul, Nat.reduceSub, List.nil_append, List.cons_append, nbk, List.map_cons, List.map_nil]
     exact Trc.done _ _ _; exact rfl)
    refine rnd_n (k + 1) ⟨by omega, fun i hi => ?_⟩ (by omega) ?_
    · rcases Nat.lt_or_ge i k with h | h
      · exact g2 i h
      · obtain rfl : i = k := by omega
        exact fun hh => hh.1 (beq_iff_eq.1 hin)
    · (apply Le.mk' []; apply RnT.c; exact rfl; exact Rn.v rfl; apply RnT.c; exact rfl; exact Rn.sl rfl rfl; apply RnT.c; exact rfl; exact Rn.sl rfl rfl; exact RnT.n
       apply RnH.c; exact rfl; exact rfl; rfl; exact rfl; exact rfl; apply RnH.c; exact rfl; exact rfl; rfl; exact rfl; exact rfl; exact RnH.n; exact rfl)
  cases hout : (((stepsN S a j m p).getD k ([], 0)).2 == ((stepsN S b j m q).getD k ([], 0)).2)
  rotate_left
  · ((with_reducible refine Gol.skip ?_); (with_reducible refine thn_n ?_); (with_reducible refine Gol.seq ?_); (with_reducible refine Gol.block ?_); (with_reducible refine Gol.seq ?_)
     (with_reducible apply Gol.any); kernel_rfl; apply Trc.step rfl rfl; exact wnt_n rfl; (with_reducible apply s_move); exact rfl; dsimp only [Nat.reduceAdd, Nat.reduceMul, Nat.reduceSub, List.nil_append, List.cons_append, nbk, List.map_cons, List.map_nil]
     apply Trc.step rfl rfl; exact wnt_n rfl; (with_reducible apply s_move); exact rfl; dsimp only [Nat.reduceAdd, Nat.reduceMul, Nat.reduceSub, List.nil_append, List.cons_append, nbk, List.map_cons, List.map_nil]
     apply Trc.step rfl rfl; exact wnt_n rfl; (with_reducible apply s_ixl); exact rfl; exact rfl; exact rfl; omega; dsimp only [Nat.reduceAdd, Nat.reduceMul, Nat.reduceSub, List.nil_append, List.cons_append, nbk, List.map_cons, List.map_nil]
     apply Trc.step rfl rfl; exact wnt_n rfl; (with_reducible apply s_fieldAddr); exact rfl; dsimp only [Nat.reduceAdd, Nat.reduceMul, Nat.reduceSub, List.nil_append, List.cons_append, nbk, List.map_cons, List.map_nil]
     apply Trc.step rfl rfl; exact wnt_n rfl; apply s_load; exact rfl; exact rfl; exact cs_in _ _ (by omega); dsimp only [Nat.reduceAdd, Nat.reduceMul, Nat.reduceSub, List.nil_append, List.cons_append, nbk, List.map_cons, List.map_nil]
     apply Trc.step rfl rfl; exact wnt_n rfl; (with_reducible apply s_move); exact rfl; dsimp only [Nat.reduceAdd, Nat.reduceMul, Nat.reduceSub, List.nil_append, List.cons_append, nbk, List.map_cons, List.map_nil]
     apply Trc.step rfl rfl; exact wnt_n rfl; (with_reducible apply s_move); exact rfl; dsimp only [Nat.reduceAdd, Nat.reduceMul, Nat.reduceSub, List.nil_append, List.cons_append, nbk, List.map_cons, List.map_nil]
     apply Trc.step rfl rfl; exact wnt_n rfl; (with_reducible apply s_ixl); exact rfl; exact rfl; exact rfl; omega; dsimp only [Nat.reduceAdd, Nat.reduceMul, Nat.reduceSub, List.nil_append, List.cons_append, nbk, List.map_cons, List.map_nil]
     apply Trc.step rfl rfl; exact wnt_n rfl; (with_reducible apply s_fieldAddr); exact rfl; dsimp only [Nat.reduceAdd, Nat.reduceMul, Nat.reduceSub, List.nil_append, List.cons_append, nbk, List.map_cons, List.map_nil]
     apply Trc.step rfl rfl; exact wnt_n rfl; apply s_load; exact rfl; exact rfl; exact cs_in _ _ (by omega); dsimp only [Nat.reduceAdd, Nat.reduceMul, Nat.reduceSub, List.nil_append, List.cons_append, nbk, List.map_cons, List.map_nil]
     apply Trc.step rfl rfl; exact wnt_n rfl; (with_reducible apply s_nes); exact rfl; exact rfl; dsimp only [Nat.reduceAdd, Nat.reduceMul, Nat.reduceSub, List.nil_append, List.cons_append, nbk, List.map_cons, List.map_nil]
     apply Trc.step rfl rfl; exact wnt_n rfl; (with_reducible apply s_move); exact rfl; dsimp only [Nat.reduceAdd, Nat.reduceMul, Nat.reduceSub, List.nil_append, List.cons_append, nbk, List.map_cons, List.map_nil]
     apply Trc.step rfl rfl; apply wnt_g; exact rfl; exact rfl; exact rfl; (focus (simp only [*]; rfl)); (with_reducible apply s_move); exact rfl; dsimp only [Nat.reduceAdd, Nat.reduceMul, Nat.reduceSub, List.nil_append, List.cons_append, nbk, List.map_cons, List.map_nil]
     apply Trc.step rfl rfl; apply wnt_g; exact rfl; exact rfl; exact rfl; (focus (simp only [*]; rfl)); (with_reducible apply s_move); exact rfl; dsimp only [Nat.reduceAdd, Nat.reduceMul, Nat.reduceSub, List.nil_append, List.cons_append, nbk, List.map_cons, List.map_nil]
     apply Trc.step rfl rfl; apply wnt_g; exact rfl; exact rfl; exact rfl; (focus (simp only [*]; rfl)); (with_reducible apply s_ixl); exact rfl; exact rfl
     exact rfl; omega; dsimp only [Nat.reduceAdd, Nat.reduceMul, Nat.reduceSub, List.nil_append, List.cons_append, nbk, List.map_cons, List.map_nil]; apply Trc.step rfl rfl
     apply wnt_g; exact rfl; exact rfl; exact rfl; (focus (simp only [*]; rfl)); (with_reducible apply s_fieldAddr); exact rfl; dsimp only [Nat.reduceAdd, Nat.reduceMul, Nat.reduceSub, List.nil_append, List.cons_append, nbk, List.map_cons, List.map_nil]
     apply Trc.step rfl rfl; apply wnt_g; exact rfl; exact rfl; exact rfl; (focus (simp only [*]; rfl)); apply s_loadN; exact rfl; exact rfl; simp only [cellsS_length]
     omega; exact cs_out _ _ (by omega); dsimp only [Nat.reduceAdd, Nat.reduceMul, Nat.reduceSub, List.nil_append, List.cons_append, nbk, List.map_cons, List.map_nil]
     apply Trc.step rfl rfl; apply wnt_g; exact rfl; exact rfl; exact rfl; (focus (simp only [*]; rfl)); (with_reducible apply s_move); exact rfl; dsimp only [Nat.reduceAdd, Nat.reduceMul, Nat.reduceSub, List.nil_append, List.cons_append, nbk, List.map_cons, List.map_nil]
     apply Trc.step rfl rfl; apply wnt_g; exact rfl; exact rfl; exact rfl; (focus (simp only [*]; rfl)); (with_reducible apply s_move); exact rfl; dsimp only [Nat.reduceAdd, Nat.reduceMul, Nat.reduceSub, List.nil_append, List.cons_append, nbk, List.map_cons, List.map_nil]
     apply Trc.step rfl rfl; apply wnt_g; exact rfl; exact rfl; exact rfl; (focus (simp only [*]; rfl)); (with_reducible apply s_ixl); exact rfl; exact rfl
     exact rfl; omega; dsimp only [Nat.reduceAdd, Nat.reduceMul, Nat.reduceSub, List.nil_append, List.cons_append, nbk, List.map_cons, List.map_nil]; apply Trc.step rfl rfl
     apply wnt_g; exact rfl; exact rfl; exact rfl; (focus (simp only [*]; rfl)); (with_reducible apply s_fieldAddr); exact rfl; dsimp only [Nat.reduceAdd, Nat.reduceMul, Nat.reduceSub, List.nil_append, List.cons_append, nbk, List.map_cons, List.map_nil]
     apply Trc.step rfl rfl; apply wnt_g; exact rfl; exact rfl; exact rfl; (focus (simp only [*]; rfl)); apply s_loadN; exact rfl; exact rfl; simp only [cellsS_length]
     omega; exact cs_out _ _ (by omega); dsimp only [Nat.reduceAdd, Nat.reduceMul, Nat.reduceSub, List.nil_append, List.cons_append, nbk, List.map_cons, List.map_nil]
     apply Trc.step rfl rfl; apply wnt_g; exact rfl; exact rfl; exact rfl; (focus (simp only [*]; rfl)); (with_reducible apply s_eqN); exact rfl; exact rfl
     dsimp only [Nat.reduceAdd, Nat.reduceMul, Nat.reduceSub, List.nil_append, List.cons_append, nbk, List.map_cons, List.map_nil]; apply Trc.step rfl rfl
     exact wnt_n rfl; (with_reducible apply s_pick_t); exact rfl; (focus (simp only [*]; rfl)); exact rfl; dsimp only [Nat.reduceAdd, Nat.reduceMul, Nat.reduceSub, List.nil_append, List.cons_append, nbk, List.map_cons, List.map_nil]
     exact Trc.done _ _ _; kernel_rfl; exact rfl; (with_reducible refine thn_n ?_))
    refine Gol.cond_t rfl (by simp only [hout]) ?_
    ((with_reducible refine Gol.seq ?_); (with_reducible apply Gol.region); apply Trc.step rfl rfl; exact wnt_n rfl; apply s_call (f := 12) rfl
     exact evs.nil; exact ArgL.nil; exact awake3_ok S hS; exact Nat.le_of_ble_eq_true rfl; dsimp only [Nat.reduceAdd, Nat.reduceMul, Nat.reduceSub, List.nil_append, List.cons_append, nbk, List.map_cons, List.map_nil]
     apply Trc.step rfl rfl; exact wnt_n rfl; (with_reducible apply s_assign); exact rfl; dsimp only [Nat.reduceAdd, Nat.reduceMul, Nat.reduceSub, List.nil_append, List.cons_append, nbk, List.map_cons, List.map_nil]
     exact Trc.done _ _ _; exact rfl; (with_reducible refine thn_n ?_); (with_reducible refine Gol.ret ?_); (with_reducible refine inBlk_r ?_); (with_reducible refine thn_r ?_)
     (with_reducible refine rnd_r ?_); (with_reducible refine inBlk_r ?_); (with_reducible refine thn_r ?_))
    (apply RetQ.mk (by first | exact .inr rfl | exact .inl rfl); apply res_1 rfl; exact res_tmp rfl; exact out_val)
  · ((with_reducible refine Gol.skip ?_); (with_reducible refine thn_n ?_); (with_reducible refine Gol.seq ?_); (with_reducible refine Gol.block ?_); (with_reducible refine Gol.seq ?_)
     (with_reducible apply Gol.any); kernel_rfl; apply Trc.step rfl rfl; exact wnt_n rfl; (with_reducible apply s_move); exact rfl; dsimp only [Nat.reduceAdd, Nat.reduceMul, Nat.reduceSub, List.nil_append, List.cons_append, nbk, List.map_cons, List.map_nil]
     apply Trc.step rfl rfl; exact wnt_n rfl; (with_reducible apply s_move); exact rfl; dsimp only [Nat.reduceAdd, Nat.reduceMul, Nat.reduceSub, List.nil_append, List.cons_append, nbk, List.map_cons, List.map_nil]
     apply Trc.step rfl rfl; exact wnt_n rfl; (with_reducible apply s_ixl); exact rfl; exact rfl; exact rfl; omega; dsimp only [Nat.reduceAdd, Nat.reduceMul, Nat.reduceSub, List.nil_append, List.cons_append, nbk, List.map_cons, List.map_nil]
     apply Trc.step rfl rfl; exact wnt_n rfl; (with_reducible apply s_fieldAddr); exact rfl; dsimp only [Nat.reduceAdd, Nat.reduceMul, Nat.reduceSub, List.nil_append, List.cons_append, nbk, List.map_cons, List.map_nil]
     apply Trc.step rfl rfl; exact wnt_n rfl; apply s_load; exact rfl; exact rfl; exact cs_in _ _ (by omega); dsimp only [Nat.reduceAdd, Nat.reduceMul, Nat.reduceSub, List.nil_append, List.cons_append, nbk, List.map_cons, List.map_nil]
     apply Trc.step rfl rfl; exact wnt_n rfl; (with_reducible apply s_move); exact rfl; dsimp only [Nat.reduceAdd, Nat.reduceMul, Nat.reduceSub, List.nil_append, List.cons_append, nbk, List.map_cons, List.map_nil]
     apply Trc.step rfl rfl; exact wnt_n rfl; (with_reducible apply s_move); exact rfl; dsimp only [Nat.reduceAdd, Nat.reduceMul, Nat.reduceSub, List.nil_append, List.cons_append, nbk, List.map_cons, List.map_nil]
     apply Trc.step rfl rfl; exact wnt_n rfl; (with_reducible apply s_ixl); exact rfl; exact rfl; exact rfl; omega; dsimp only [Nat.reduceAdd, Nat.reduceMul, Nat.reduceSub, List.nil_append, List.cons_append, nbk, List.map_cons, List.map_nil]
     apply Trc.step rfl rfl; exact wnt_n rfl; (with_reducible apply s_fieldAddr); exact rfl; dsimp only [Nat.reduceAdd, Nat.reduceMul, Nat.reduceSub, List.nil_append, List.cons_append, nbk, List.map_cons, List.map_nil]
     apply Trc.step rfl rfl; exact wnt_n rfl; apply s_load; exact rfl; exact rfl; exact cs_in _ _ (by omega); dsimp only [Nat.reduceAdd, Nat.reduceMul, Nat.reduceSub, List.nil_append, List.cons_append, nbk, List.map_cons, List.map_nil]
     apply Trc.step rfl rfl; exact wnt_n rfl; (with_reducible apply s_nes); exact rfl; exact rfl; dsimp only [Nat.reduceAdd, Nat.reduceMul, Nat.reduceSub, List.nil_append, List.cons_append, nbk, List.map_cons, List.map_nil]
     apply Trc.step rfl rfl; exact wnt_n rfl; (with_reducible apply s_move); exact rfl; dsimp only [Nat.reduceAdd, Nat.reduceMul, Nat.reduceSub, List.nil_append, List.cons_append, nbk, List.map_cons, List.map_nil]
     apply Trc.step rfl rfl; apply wnt_g; exact rfl; exact rfl; exact rfl; (focus (simp only [*]; rfl)); (with_reducible apply s_move); exact rfl; dsimp only [Nat.reduceAdd, Nat.reduceMul, Nat.reduceSub, List.nil_append, List.cons_append, nbk, List.map_cons, List.map_nil]
     apply Trc.step rfl rfl; apply wnt_g; exact rfl; exact rfl; exact rfl; (focus (simp only [*]; rfl)); (with_reducible apply s_move); exact rfl; dsimp only [Nat.reduceAdd, Nat.reduceMul, Nat.reduceSub, List.nil_append, List.cons_append, nbk, List.map_cons, List.map_nil]
     apply Trc.step rfl rfl; apply wnt_g; exact rfl; exact rfl; exact rfl; (focus (simp only [*]; rfl)); (with_reducible apply s_ixl); exact rfl; exact rfl
     exact rfl; omega; dsimp only [Nat.reduceAdd, Nat.reduceMul, Nat.reduceSub, List.nil_append, List.cons_append, nbk, List.map_cons, List.map_nil]; apply Trc.step rfl rfl
     apply wnt_g; exact rfl; exact rfl; exact rfl; (focus (simp only [*]; rfl)); (with_reducible apply s_fieldAddr); exact rfl; dsimp only [Nat.reduceAdd, Nat.reduceMul, Nat.reduceSub, List.nil_append, List.cons_append, nbk, List.map_cons, List.map_nil]
     apply Trc.step rfl rfl; apply wnt_g; exact rfl; exact rfl; exact rfl; (focus (simp only [*]; rfl)); apply s_loadN; exact rfl; exact rfl; simp only [cellsS_length]
     omega; exact cs_out _ _ (by omega); dsimp only [Nat.reduceAdd, Nat.reduceMul, Nat.reduceSub, List.nil_append, List.cons_append, nbk, List.map_cons, List.map_nil]
     apply Trc.step rfl rfl; apply wnt_g; exact rfl; exact rfl; exact rfl; (focus (simp only [*]; rfl)); (with_reducible apply s_move); exact rfl; dsimp only [Nat.reduceAdd, Nat.reduceMul, Nat.reduceSub, List.nil_append, List.cons_append, nbk, List.map_cons, List.map_nil]
     apply Trc.step rfl rfl; apply wnt_g; exact rfl; exact rfl; exact rfl; (focus (simp only [*]; rfl)); (with_reducible apply s_move); exact rfl; dsimp only [Nat.reduceAdd, Nat.reduceMul, Nat.reduceSub, List.nil_append, List.cons_append, nbk, List.map_cons, List.map_nil]
     apply Trc.step rfl rfl; apply wnt_g; exact rfl; exact rfl; exact rfl; (focus (simp only [*]; rfl)); (with_reducible apply s_ixl); exact rfl; exact rfl
     exact rfl; omega; dsimp only [Nat.reduceAdd, Nat.reduceMul, Nat.reduceSub, List.nil_append, List.cons_append, nbk, List.map_cons, List.map_nil]; apply Trc.step rfl rfl
     apply wnt_g; exact rfl; exact rfl; exact rfl; (focus (simp only [*]; rfl)); (with_reducible apply s_fieldAddr); exact rfl; dsimp only [Nat.reduceAdd, Nat.reduceMul, Nat.reduceSub, List.nil_append, List.cons_append, nbk, List.map_cons, List.map_nil]
     apply Trc.step rfl rfl; apply wnt_g; exact rfl; exact rfl; exact rfl; (focus (simp only [*]; rfl)); apply s_loadN; exact rfl; exact rfl; simp only [cellsS_length]
     omega; exact cs_out _ _ (by omega); dsimp only [Nat.reduceAdd, Nat.reduceMul, Nat.reduceSub, List.nil_append, List.cons_append, nbk, List.map_cons, List.map_nil]
     apply Trc.step rfl rfl; apply wnt_g; exact rfl; exact rfl; exact rfl; (focus (simp only [*]; rfl)); (with_reducible apply s_eqN); exact rfl; exact rfl
     dsimp only [Nat.reduceAdd, Nat.reduceMul, Nat.reduceSub, List.nil_append, List.cons_append, nbk, List.map_cons, List.map_nil]; apply Trc.step rfl rfl
     exact wnt_n rfl; (with_reducible apply s_pick_t); exact rfl; (focus (simp only [*]; rfl)); exact rfl; dsimp only [Nat.reduceAdd, Nat.reduceMul, Nat.reduceSub, List.nil_append, List.cons_append, nbk, List.map_cons, List.map_nil]
     exact Trc.done _ _ _; kernel_rfl; exact rfl; (with_reducible refine thn_n ?_))
    refine Gol.cond_f rfl (by simp only [hout]) ?_
    ((with_reducible refine Gol.skip ?_); (with_reducible refine inBlk_n ?_); (with_reducible refine thn_n ?_); (with_reducible apply Gol.region); apply Trc.step rfl rfl
     exact wnt_n rfl; (with_reducible apply s_move); exact rfl; dsimp only [Nat.reduceAdd, Nat.reduceMul, Nat.reduceSub, List.nil_append, List.cons_append, nbk, List.map_cons, List.map_nil]
     apply Trc.step rfl rfl; exact wnt_n rfl; (with_reducible apply s_addn); exact rfl; exact rfl; simp <;> omega; dsimp only [Nat.reduceAdd, Nat.reduceMul, Nat.reduceSub, List.nil_append, List.cons_append, nbk, List.map_cons, List.map_nil]
     apply Trc.step rfl rfl; exact wnt_n rfl; (with_reducible apply s_assign); exact rfl; dsimp only [Nat.reduceAdd, Nat.reduceMul, Nat.reduceSub, List.nil_append, List.cons_append, nbk, List.map_cons, List.map_nil]
     exact Trc.done _ _ _; exact rfl)
    refine rnd_n (k + 1) ⟨by omega, fun i hi => ?_⟩ (by omega) ?_
    · rcases Nat.lt_or_ge i k with h | h
      · exact g2 i h
      · obtain rfl : i = k := by omega
        exact fun hh => by rw [hh.2] at hout; simp at hout
    · (apply Le.mk' []; apply RnT.c; exact rfl; exact Rn.v rfl; apply RnT.c; exact rfl; exact Rn.sl rfl rfl; apply RnT.c; exact rfl; exact Rn.sl rfl rfl; exact RnT.n
       apply RnH.c; exact rfl; exact rfl; rfl; exact rfl; exact rfl; apply RnH.c; exact rfl; exact rfl; rfl; exact rfl; exact rfl; exact RnH.n; exact rfl)
end
end Go.Proofs.Ytocmcoknmjojcaa
